/- Helping facts of KitP; no other conditions. -/
import Derived.Test.YtmppigbbkjepiaaGreatDoorSynL
namespace Go.Proofs.YtmppigbbkjepiaaGreatDoor
open Go.Proofs.Tryz
open Go.RowKit W
def bs (l : Bs) : ByteArray := ⟨l.toArray⟩
theorem FL (l : Bs) : (bs l).data.toList = l := by simp [bs]
theorem Ui (s : ByteArray) : bs s.data.toList = s := by simp [bs]
theorem EX (l : Bs) : (bs l).size = l.length := by show (bs l).data.size = _; simp [bs]
theorem rO {a b : Bs} (h : bs a = bs b) : a = b := by rw [← FL a, h, FL]
theorem Wz (a b : Bs) : bs a ++ bs b = bs (a ++ b) := XW (by simp [bs])
theorem vM (l : Bs) (i j : Nat) : (bs l).extract i j = bs ((l.take j).drop i) := XW (by rw [FL, ByteArray.data_extract, Array.toList_extract]; simp [bs, List.drop_take, List.extract_eq_take_drop])
structure Keep (S : Nat → Prop) (w w' : World) : Prop where
  block : ∀ k, S k → w'.heap[k]? = w.heap[k]?
  num : ∀ v z, IsI w v z → IsI w' v z
theorem Keep.below {S : Nat → Prop} {w w' : World} (hb : Below w.heap.size w w') (h : ∀ k, S k → k < w.heap.size) : Keep S w w' := ⟨fun k hk => hb.block k (h k hk), fun _ _ hv => hv.below hb⟩
theorem Keep.onl {S : Nat → Prop} {w w' : World} {b : Nat} (hn : wK w b) (hb : Onl b w w') (h : ¬ S b) : Keep S w w' := ⟨fun k hk => hb.block k (fun e => h (e ▸ hk)), fun _ z hv => (svI z).onl hv hn hb⟩
theorem Keep.mono {S S' : Nat → Prop} {w w' : World} (h : Keep S' w w') (hs : ∀ k, S k → S' k) : Keep S w w' := ⟨fun k hk => h.block k (hs k hk), h.num⟩
def fD (S : Nat → Prop) (D : World → Prop) (hD : ∀ w w', D w → Keep S w w' → D w') : SF := ⟨fun w => D w ∧ ∀ k, S k → k < w.heap.size, fun c => ¬ S c,
  fun h hb => ⟨hD _ _ h.1 (Keep.below hb h.2), fun k hk => Nat.lt_of_lt_of_le (h.2 k hk) hb.size⟩, fun h hn ho hb => ⟨hD _ _ h.1 (Keep.onl hn hb ho), fun k hk => by rw [hb.size]; exact h.2 k hk⟩⟩
def WI : Nat → Prop := fun _ => False
def DD (n : Nat) : Nat → Prop := fun k => k < n
def DX (a b : Nat) : Nat → Prop := fun k => a ≤ k ∧ k < b
theorem CJ {n c : Nat} (h : n ≤ c) : ¬ DD n c := fun g => Nat.lt_irrefl _ (Nat.lt_of_lt_of_le g h)
theorem MP {a b c : Nat} (h : c < a ∨ b ≤ c) : ¬ DX a b c := by rintro ⟨h1, h2⟩; omega
theorem GH {c : Nat} : ¬ WI c := id
def Cs (w : World) (b o : Nat) (cs : List Value) : Prop := ∀ j x, cs[j]? = some x → w.cell? ⟨b, o + j, none⟩ = some x
theorem Cs.keep {S : Nat → Prop} {w w' : World} {b o : Nat} {cs : List Value} (h : Cs w b o cs) (hb : S b) (hk : Keep S w w') : Cs w' b o cs := fun j x e => (World.cell?_of_block (hk.block b hb)).trans (h j x e)
theorem Bx.cs {w : World} {b T : Nat} {cs : List Value} (h : Bx w b T cs) : Cs w b 0 cs := fun j x e => by rw [Nat.zero_add, h.cell]; exact e
def fC (b o : Nat) (cs : List Value) : SF := fD (fun k => k = b) (fun w => Cs w b o cs) (fun _ _ h hk => h.keep (S := fun k => k = b) rfl hk)
theorem Env.c {w : World} {l : List SF} {b o : Nat} {cs : List Value} (E : Env w l) (h : Cs w b o cs) (hb : b < w.heap.size) : Env w (fC b o cs :: l) := ⟨⟨h, fun _ hk => hk ▸ hb⟩, E⟩
structure El (α : Type) where
  sz : Nat
  p : (Nat → Prop) → World → List Value → α → Prop
  keep : ∀ {S : Nat → Prop} {w w' : World} {cs : List Value} {x : α}, p S w cs x → Keep S w w' → p S w' cs x
  mono : ∀ {S S' : Nat → Prop} {w : World} {cs : List Value} {x : α}, p S w cs x → (∀ k, S k → S' k) → p S' w cs x
  len : ∀ {S : Nat → Prop} {w : World} {cs : List Value} {x : α}, p S w cs x → cs.length = sz
  one : ∀ {S : Nat → Prop} {w : World} {cs : List Value} {x : α}, p S w cs x → ∀ v ∈ cs, v.oneCell' = true
  nw : ∀ {S : Nat → Prop} {w : World} {cs : List Value} {x : α}, p S w cs x → SJ cs
def IsR {α : Type} (e : El α) (S : Nat → Prop) (w : World) (v : Value) (l : List α) : Prop :=
  ∃ ao cap, v = .slice ao l.length cap ∧ l.length ≤ cap ∧ cap ≤ maxLen ∧ ∀ i x, l[i]? = some x → ∃ b off cs, ao = some ⟨b, off, none⟩ ∧ S b ∧ Cs w b (off + i * e.sz) cs ∧ e.p S w cs x
theorem IsR.keep {α : Type} {e : El α} {S : Nat → Prop} {w w' : World} {v : Value} {l : List α} (h : IsR e S w v l) (hk : Keep S w w') : IsR e S w' v l := by
  obtain ⟨u, k, rfl, t, q, p⟩ := h
  refine ⟨u, k, O, t, q, fun i x o => ?_⟩
  obtain ⟨b, f, cs, e1, e2, e3, e4⟩ := p i x o
  exact ⟨b, f, cs, e1, e2, e3.keep e2 hk, e.keep e4 hk⟩
theorem IsR.mono {α : Type} {e : El α} {S S' : Nat → Prop} {w : World} {v : Value} {l : List α} (h : IsR e S w v l) (hs : ∀ k, S k → S' k) : IsR e S' w v l := by
  obtain ⟨y, o, rfl, u, t, q⟩ := h
  refine ⟨y, o, O, u, t, fun i x p => ?_⟩
  obtain ⟨b, f, cs, e1, e2, e3, e4⟩ := q i x p
  exact ⟨b, f, cs, e1, hs b e2, e3, e.mono e4 hs⟩
theorem IsR.shp {α : Type} {e : El α} {S : Nat → Prop} {w : World} {v : Value} {l : List α} (h : IsR e S w v l) : ∃ ao cap, v = .slice ao l.length cap ∧ l.length ≤ cap ∧ cap ≤ maxLen := by
  obtain ⟨ao, cap, rfl, k, f, _⟩ := h
  exact ⟨ao, cap, rfl, k, f⟩
theorem IsR.one {α : Type} {e : El α} {S : Nat → Prop} {w : World} {v : Value} {l : List α} (h : IsR e S w v l) : v.oneCell' = true := by
  obtain ⟨k, f, rfl, _⟩ := h; rfl
theorem IsR.at {α : Type} {e : El α} {S : Nat → Prop} {w : World} {ao : Option Addr} {n cap : Nat} {l : List α} (h : IsR e S w (.slice ao n cap) l) {i : Nat} {x : α} (hx : l[i]? = some x) :
    ∃ b off cs, ao = some ⟨b, off, none⟩ ∧ S b ∧ Cs w b (off + i * e.sz) cs ∧ e.p S w cs x := by
  obtain ⟨q, f, k, _, _, o⟩ := h
  cases k
  exact o i x hx
theorem IsR.nil {α : Type} (e : El α) (S : Nat → Prop) (w : World) : IsR e S w (.slice none 0 0) [] := ⟨none, 0, rfl, Nat.le_refl _, Nat.zero_le _, fun i x h => by simp at h⟩
theorem IsR.take {α : Type} {e : El α} {S : Nat → Prop} {w : World} {ao : Option Addr} {n cap : Nat} {l : List α} (h : IsR e S w (.slice ao n cap) l) {i : Nat} (hi : i ≤ l.length) : IsR e S w (.slice ao i cap) (l.take i) := by
  obtain ⟨t, k, o, u, q, p⟩ := h
  cases o
  refine ⟨ao, cap, by rw [List.length_take, Nat.min_eq_left hi], by rw [List.length_take]; omega, q, fun j x f => ?_⟩
  exact p j x (by rw [List.getElem?_take] at f; split at f; exact f; cases f)
theorem IsR.drop {α : Type} {e : El α} {S : Nat → Prop} {w : World} {b off n cap : Nat} {l : List α} (h : IsR e S w (.slice (some ⟨b, off, none⟩) n cap) l) {i : Nat} (hi : i ≤ l.length) : IsR e S w (.slice (some ⟨b, off + i * e.sz, none⟩) (n - i) (cap - i)) (l.drop i) := by
  obtain ⟨t, o, p, v, u, q⟩ := h
  cases p
  refine ⟨_, cap - i, by rw [List.length_drop], by rw [List.length_drop]; omega, by omega, fun j x k => ?_⟩
  rw [List.getElem?_drop] at k
  obtain ⟨y, f, cs, e1, e2, e3, e4⟩ := q (i + j) x k
  cases e1
  exact ⟨b, off + i * e.sz, cs, rfl, e2, by rw [Nat.add_assoc, ← Nat.add_mul]; exact e3, e4⟩
def fR {α : Type} (e : El α) (S : Nat → Prop) (v : Value) (l : List α) : SF := fD S (fun w => IsR e S w v l) (fun _ _ h hk => h.keep hk)
theorem Env.r {α : Type} {e : El α} {S : Nat → Prop} {w : World} {L : List SF} {v : Value} {l : List α} (E : Env w L) (h : IsR e S w v l) (hs : ∀ k, S k → k < w.heap.size) : Env w (fR e S v l :: L) := ⟨⟨h, hs⟩, E⟩
def Gn (v : Value) : Prop := ∀ k, v ≠ .int .u32 k
theorem pG (k : Int) : ¬ Gn (.int .u32 k) := fun h => h k rfl
def Acc {α : Type} (e : El α) (t base : Nat) (S : Nat → Prop) (w : World) (v : Value) (l : List α) : Prop :=
  ∃ xs, RowG w base t e.sz Gn v l.length xs ∧ (∀ i x, l[i]? = some x → e.p S w ((xs.drop (i * e.sz)).take e.sz) x) ∧ ∀ g, v.ownBlock = some g → ¬ S g
theorem Acc.keep {α : Type} {e : El α} {t base : Nat} {S : Nat → Prop} {w w' : World} {v : Value} {l : List α} (h : Acc e t base S w v l) (hr : ∀ xs, RowG w base t e.sz Gn v l.length xs → RowG w' base t e.sz Gn v l.length xs) (hk : Keep S w w') : Acc e t base S w' v l := by
  obtain ⟨xs, p, o, k⟩ := h
  exact ⟨xs, hr xs p, fun i x f => e.keep (o i x f) hk, k⟩
def fA {α : Type} (e : El α) (t base : Nat) (S : Nat → Prop) (v : Value) (l : List α) : SF := ⟨fun w => Acc e t base S w v l ∧ ∀ k, S k → k < w.heap.size, fun c => v.ownBlock ≠ some c ∧ ¬ S c,
  fun h hb => ⟨h.1.keep (fun _ hr => hr.below hb) (Keep.below hb h.2), fun k hk => Nat.lt_of_lt_of_le (h.2 k hk) hb.size⟩,
  fun h hn ho hb => ⟨h.1.keep (fun _ hr => hr.onl ho.1 hb) (Keep.onl hn hb ho.2), fun k hk => by rw [hb.size]; exact h.2 k hk⟩⟩
theorem Env.a {α : Type} {e : El α} {t base : Nat} {S : Nat → Prop} {w : World} {L : List SF} {v : Value} {l : List α} (E : Env w L) (h : Acc e t base S w v l) (hs : ∀ k, S k → k < w.heap.size) : Env w (fA e t base S v l :: L) := ⟨⟨h, hs⟩, E⟩
theorem MT {α : Type} {e : El α} {t base : Nat} {S : Nat → Prop} {v : Value} {l : List α} {c : Nat} (h : v.ownBlock ≠ some c) (hs : ¬ S c) : (fA e t base S v l).ok c := ⟨h, hs⟩
theorem Acc.nil {α : Type} (e : El α) (t base : Nat) (S : Nat → Prop) (w : World) : Acc e t base S w (.slice none 0 0) [] := ⟨[], YB _ _ _ _ _, fun i x h => by simp at h, fun g h => by simp [Value.ownBlock] at h⟩
theorem Acc.shp {α : Type} {e : El α} {t base : Nat} {S : Nat → Prop} {w : World} {v : Value} {l : List α} (h : Acc e t base S w v l) : ∃ ao cap, v = .slice ao l.length cap := by
  obtain ⟨k, f, _, _⟩ := h
  exact f.shape
theorem Acc.one {α : Type} {e : El α} {t base : Nat} {S : Nat → Prop} {w : World} {v : Value} {l : List α} (h : Acc e t base S w v l) : v.oneCell' = true := by
  obtain ⟨k, f, rfl⟩ := h.shp; rfl
theorem Acc.lit {α : Type} {e : El α} {t base b : Nat} {S : Nat → Prop} {w : World} {cs : List Value} {n : Nat} {l : List α} (hb : Bx w b t cs) (hbase : base ≤ b) (hl : l.length = n) (hn : cs.length = n * e.sz) (hn2 : n ≤ maxLen) (hg : SJ cs)
    (h : ∀ i x, l[i]? = some x → e.p S w ((cs.drop (i * e.sz)).take e.sz) x) (hS : ¬ S b) : Acc e t base S w (.slice (some ⟨b, 0, none⟩) n n) l := by
  subst hl
  refine ⟨cs, ⟨hn, .inr ⟨b, l.length, cs.toArray, O, hbase, hb, Nat.le_refl _, hn2, by simp [hn], by simp [← hn], fun u f k => hg u (by simpa using f) k⟩⟩, h, fun g hg => ?_⟩
  simp [Value.ownBlock] at hg; rw [← hg]; exact hS
theorem Acc.lit1 {α : Type} {e : El α} {t base b : Nat} {S : Nat → Prop} {w : World} {cs : List Value} {x : α} (hb : Bx w b t cs) (hbase : base ≤ b) (h : e.p S w cs x) (hS : ¬ S b) : Acc e t base S w (.slice (some ⟨b, 0, none⟩) 1 1) [x] :=
  Acc.lit hb hbase rfl (by rw [e.len h, Nat.one_mul]) AE (e.nw h) (fun i y hy => by
    cases i with
    | zero => simp at hy; subst hy; rw [Nat.zero_mul, List.drop_zero, List.take_of_length_le (by rw [e.len h]; exact Nat.le_refl _)]; exact h
    | succ i => simp at hy) hS
theorem Acc.lit0 {α : Type} {e : El α} {t base b : Nat} {S : Nat → Prop} {w : World} (hb : Bx w b t []) (hbase : base ≤ b) (hS : ¬ S b) : Acc e t base S w (.slice (some ⟨b, 0, none⟩) 0 0) ([] : List α) :=
  Acc.lit hb hbase rfl AH AE (fun c hc => by cases hc) (fun i y hy => by simp at hy) hS
theorem Acc.row {α : Type} {e : El α} {t base : Nat} {S S' : Nat → Prop} {w : World} {v : Value} {l : List α} (h : Acc e t base S w v l) (hs : ∀ k, S k → S' k) (hb : ∀ k, base ≤ k → k < w.heap.size → v.ownBlock = some k → S' k) : IsR e S' w v l := by
  obtain ⟨J, C, B, N⟩ := h
  obtain ⟨L, z⟩ := C
  rcases z with ⟨rfl, D⟩ | ⟨g, p, o, rfl, I, q, H, G, Q, F, P⟩
  · have : l = [] := List.eq_nil_of_length_eq_zero D
    subst this; exact IsR.nil _ _ _
  · refine ⟨_, p, rfl, H, G, fun i x u => ?_⟩
    refine ⟨g, 0, _, O, hb g I (Array.getElem?_eq_some_iff.1 q).1 O, fun j y f => ?_, e.mono (B i x u) hs⟩
    rw [List.getElem?_take] at f
    split at f
    · rename_i hj
      rw [List.getElem?_drop, ← F, List.getElem?_take] at f
      split at f
      · rw [cell_of_row w g _ o t (0, 0) q, Nat.zero_add, ← Array.getElem?_toList]; exact f
      · cases f
    · cases f
theorem Acc.mono {α : Type} {e : El α} {t base : Nat} {S S' : Nat → Prop} {w : World} {v : Value} {l : List α} (h : Acc e t base S w v l) (hs : ∀ k, S k → S' k) (hg : ∀ g, v.ownBlock = some g → ¬ S' g) : Acc e t base S' w v l := by
  obtain ⟨f, q, p, _⟩ := h
  exact ⟨f, q, fun i x o => e.mono (p i x o) hs, hg⟩
theorem Acc.lt {α : Type} {e : El α} {t base : Nat} {S : Nat → Prop} {w : World} {v : Value} {l : List α} (h : Acc e t base S w v l) {g : Nat} (hg : v.ownBlock = some g) : base ≤ g ∧ g < w.heap.size := by
  obtain ⟨k, f, _⟩ := h
  exact f.blk hg
structure RowT {α : Type} (e : El α) (T t bytes : Nat) : Prop where
  ht : prog.underlying T = some (.slice t)
  info : ∃ i z, prog.info? t = some i ∧ i.zero = some z ∧ i.size = e.sz ∧ i.bytes = bytes ∧ z.cells.size = e.sz ∧ ∀ u ∈ z.cells.toList, Gn u
  pos : 0 < e.sz
theorem sT {α : Type} {e : El α} {xs : List Value} {n : Nat} (h : xs.length = n * e.sz) (ys : List Value) {i : Nat} (hi : i < n) : ((xs ++ ys).drop (i * e.sz)).take e.sz = (xs.drop (i * e.sz)).take e.sz := by
  have f : i * e.sz + e.sz ≤ xs.length := by rw [h, ← Nat.succ_mul]; exact Nat.mul_le_mul_right _ hi
  rw [List.drop_append_of_le_length AA, List.take_append_of_le_length (by rw [List.length_drop]; omega)]
theorem FQ {α : Type} {e : El α} {T t bytes : Nat} (R : RowT e T t bytes) {o : Oper} {a : Act} {w : World} {K : Act → World → Prop} {Q : Exit → Act → World → Prop} {s y : Operand}
    (ho : o.op = .call { callee := .builtin .append, args := #[s, y], argTypes := #[T, T] }) {base : Nat} {S : Nat → Prop} {L : List SF} {v : Value} {l : List α} (hs : a.eval s = v) (hA : Acc e t base S w v l) (hS : ∀ k, S k → k < w.heap.size)
    (E : Env w L) (hok : ∀ g, v.ownBlock = some g → base ≤ g → g < w.heap.size → Ok g L) {nb : Nat} {cs : List Value} {x : α} (hy : a.eval y = .slice (some ⟨nb, 0, none⟩) 1 1) (hb : Bx w nb t cs) (hx : e.p S w cs x)
    (h63 : l.length + 1 ≤ maxLen) (hby : (l.length + 1) * bytes ≤ 140737488355328) (hbase : base ≤ w.heap.size)
    (h : ∀ v' w', Env w' (fA e t base S v' (l ++ [x]) :: L) → K (a.put o.dst v') w') : o.wp prog a w K Q := by
  obtain ⟨J, C, h2, h3⟩ := hA
  obtain ⟨i, z, e1, e2, e3, e4, e5, e6⟩ := R.info
  have H := e.len hx
  obtain ⟨v', w', hr, g2, f⟩ := QU (P := prog) (w := w) base T o.type t i z e.sz bytes R.ht e1 e2 e3 e4 e5 R.pos Gn e6 v l.length J C ⟨nb, 0, none⟩ 1 1 cs (by rw [H, Nat.one_mul])
    (fun j u B => by
      have : (⟨nb, 0, none⟩ : Addr).add j = ⟨nb, j, none⟩ := by unfold Addr.add; split <;> simp_all
      rw [this, hb.cell]; exact B) (e.one hx) (fun u B k => e.nw hx u B k) h63 hby hbase
  unfold Oper.wp execOp
  simp only [ho, resolve, invoke, builtin, Sem.run_bind, Sem.run_pure, Result.andThen_ok, List.map_toArray, List.map_cons, List.map_nil, hs, hy, hr]
  have I : Keep S w w' := by
    rcases f with ⟨f, _⟩ | ⟨g, q, _, f⟩
    · exact Keep.below f hS
    · exact Keep.onl (C.noW q pG) f (h3 g q)
  have N : w.heap.size ≤ w'.heap.size := by
    rcases f with ⟨f, _⟩ | ⟨g, q, _, f⟩
    · exact f.size
    · exact Nat.le_of_eq f.size.symm
  have F : ∀ g, v'.ownBlock = some g → ¬ S g := by
    intro g q
    rcases f with ⟨_, g4⟩ | ⟨g', Y, X, _⟩
    · rw [g4 AA] at q
      simp only [Option.some.injEq] at q
      intro hs; have := hS g hs; omega
    · rw [X] at q; simp only [Option.some.injEq] at q; subst q; exact h3 g' Y
  have D : Acc e t base S w' v' (l ++ [x]) := by
    refine ⟨J ++ cs, by rw [List.length_append]; exact g2, fun j u B => ?_, F⟩
    by_cases hj : j < l.length
    · rw [List.getElem?_append_left hj] at B
      rw [sT C.1 cs hj]
      exact e.keep (h2 j u B) I
    · have U : j = l.length := by
        have := (List.getElem?_eq_some_iff.1 B).1
        simp at this; omega
      subst U
      simp at B
      subst B
      have G : l.length * e.sz = J.length := C.1.symm
      rw [G, List.drop_left, List.take_of_length_le (by rw [H]; exact Nat.le_refl _)]
      exact e.keep hx I
  refine h v' w' ⟨⟨D, fun k I => Nat.lt_of_lt_of_le (hS k I) N⟩, ?_⟩
  rcases f with ⟨f, _⟩ | ⟨g, q, _, f⟩
  · exact E.below f
  · exact E.onl (C.noW q pG) (hok g q (C.blk q).1 (C.blk q).2) f
def HY (n : Bool) (s : Value) (m : Bool) (u : Value) (M : List Nat) : List Value := .bool n :: s :: .bool m :: u :: GP M
theorem Wl (M : List Nat) : SJ (GP M) := by
  intro c f k e
  subst e
  unfold GP at f
  obtain ⟨_, _, h⟩ := List.mem_map.1 f
  cases h
theorem Ly (M : List Nat) : ∀ v ∈ GP M, v.oneCell' = true := by
  intro v e
  unfold GP at e
  obtain ⟨_, _, rfl⟩ := List.mem_map.1 e
  rfl
theorem RF {n m : Bool} {s u : Value} {M : List Nat} (h1 : SJ [.bool n, s]) (h2 : SJ [.bool m, u]) : SJ (HY n s m u M) := by
  intro c e
  unfold HY at e
  simp only [List.mem_cons] at e
  rcases e with h | h | h | h | h
  · exact h1 c (by simp [h])
  · exact h1 c (by simp [h])
  · exact h2 c (by simp [h])
  · exact h2 c (by simp [h])
  · exact Wl M c h
theorem GD {n m : Bool} {s u : Value} {M : List Nat} (h1 : ∀ v ∈ [.bool n, s], v.oneCell' = true) (h2 : ∀ v ∈ [.bool m, u], v.oneCell' = true) : ∀ v ∈ HY n s m u M, v.oneCell' = true := by
  intro c e
  unfold HY at e
  simp only [List.mem_cons] at e
  rcases e with h | h | h | h | h
  · exact h1 c (by simp [h])
  · exact h1 c (by simp [h])
  · exact h2 c (by simp [h])
  · exact h2 c (by simp [h])
  · exact Ly M c h
def JP : El Tm where
  sz := 12
  p := fun _ w cs t => ∃ n s m u, cs = HY n s m u t.2 ∧ IsI w (.agg #[.bool n, s]) t.1.num ∧ IsI w (.agg #[.bool m, u]) ((t.1.den : Nat) : Int) ∧ EK t.2
  keep := fun ⟨n, s, m, u, h1, h2, h3, h4⟩ hk => ⟨n, s, m, u, h1, hk.num _ _ h2, hk.num _ _ h3, h4⟩
  mono := fun h _ => h
  len := fun ⟨n, s, m, u, h1, _, _, h4⟩ => by subst h1; unfold HY; simp [DC h4]
  one := fun ⟨n, s, m, u, h1, h2, h3, _⟩ => by subst h1; exact GD h2.one h3.one
  nw := fun ⟨n, s, m, u, h1, h2, h3, _⟩ => by subst h1; exact RF h2.now h3.now
def elS : El Bs where
  sz := 1
  p := fun _ _ cs x => cs = [.string (bs x)]
  keep := fun h _ => h
  mono := fun h _ => h
  len := fun h => by subst h; rfl
  one := fun h => by subst h; intro v hv; simp at hv; subst hv; rfl
  nw := fun h => by subst h; intro c hc k e; subst e; simp at hc
def NY : El (Nat × List Tm) where
  sz := 2
  p := fun S w cs x => ∃ v, cs = [.int .i64 ((x.1 : Nat) : Int), v] ∧ IsR JP S w v x.2
  keep := fun ⟨v, h1, h2⟩ hk => ⟨v, h1, h2.keep hk⟩
  mono := fun ⟨v, h1, h2⟩ hs => ⟨v, h1, h2.mono hs⟩
  len := fun ⟨v, h1, _⟩ => by subst h1; rfl
  one := fun ⟨v, h1, h2⟩ => by
    subst h1; intro u hu
    simp only [List.mem_cons, List.not_mem_nil, or_false] at hu
    rcases hu with rfl | rfl
    · rfl
    · exact h2.one
  nw := fun ⟨v, h1, h2⟩ => by
    subst h1; intro c hc k e
    obtain ⟨ao, cap, rfl, _⟩ := h2
    subst e; simp at hc
theorem KP : Ag prog 88 12 [.bool false, .slice none 0 0, .bool false, .slice none 0 0, .int .i64 0, .int .i64 0, .int .i64 0, .int .i64 0, .int .i64 0, .int .i64 0, .int .i64 0, .int .i64 0] := ⟨⟨_, underlying88, rfl⟩, by kernel_rfl, rfl⟩
theorem OY : Ag prog 83 2 [.int .i64 0, .slice none 0 0] := ⟨⟨_, underlying83, rfl⟩, by kernel_rfl, rfl⟩
theorem LK : Ag prog 48 4 [.slice none 0 0, .slice none 0 0, .slice none 0 0, .int .i64 0] := ⟨⟨_, underlying48, rfl⟩, by kernel_rfl, rfl⟩
theorem infoT : (prog.info? 88).map (fun i => (i.zero, i.size, i.bytes)) = some (some (.agg #[.bool false, .slice none 0 0, .bool false, .slice none 0 0, .int .i64 0, .int .i64 0, .int .i64 0, .int .i64 0, .int .i64 0, .int .i64 0, .int .i64 0, .int .i64 0]), 12, 128) := by kernel_rfl
theorem infoE : (prog.info? 83).map (fun i => (i.zero, i.size, i.bytes)) = some (some (.agg #[.int .i64 0, .slice none 0 0]), 2, 32) := by kernel_rfl
theorem infoS : (prog.info? 9).map (fun i => (i.zero, i.size, i.bytes)) = some (some (.string ByteArray.empty), 1, 16) := by kernel_rfl
theorem fF : RowT JP 28 88 128 := by
  obtain ⟨o, q, l, h, f⟩ := info_parts infoT
  exact ⟨underlying28, ⟨o, _, q, l, h, f, rfl, by intro u p k e; subst e; simp [Value.cells] at p⟩, by decide⟩
theorem RT_S : RowT elS 30 9 16 := by
  obtain ⟨o, q, l, h, f⟩ := info_parts infoS
  exact ⟨underlying30, ⟨o, _, q, l, h, f, rfl, by intro u p k e; subst e; simp [Value.cells] at p⟩, by decide⟩
theorem Tp : RowT NY 46 83 32 := by
  obtain ⟨o, q, l, h, f⟩ := info_parts infoE
  exact ⟨underlying46, ⟨o, _, q, l, h, f, rfl, by intro u p k e; subst e; simp [Value.cells] at p⟩, by decide⟩
section
variable {P : Program} {ρ : Operand → Value} {o : Oper} {w : World}
theorem NL {T e sz b off len cap i : Nat} {ao : Option Addr} {x y : Operand} {J : Int} (ho : o.op = .indexAddr T x y) (hT : P.underlying T = some (.slice e)) (hs : (P.info? e).map (·.size) = some sz)
    (hx : ρ x = .slice ao len cap) (hao : ao = some ⟨b, off, none⟩) (hy : ρ y = .int .i64 J) (hJ : J = (i : Int)) (hi : i < len) : (execOp ρ o).run P w = .ok (.value (.pointer (some ⟨b, off + i * sz, none⟩))) w := by
  subst hao; exact SX ho hT hs hx hy hJ hi
theorem jQ {T n b off : Nat} {zs cs : List Value} (hA : Ag P T n zs) (hc : Cs w b off cs) (hl : cs.length = n) : (loadVar T ⟨b, off, none⟩).run P w = .ok (.agg cs.toArray) w := by
  obtain ⟨d, e, f⟩ := hA.u
  exact run_loadVar_mid w b off T cs d hc e (by cases d <;> simp_all) (by rw [hA.size, hl])
theorem CD {T n b off : Nat} {x : Operand} {zs cs : List Value} (hA : Ag P T n zs) (ho : o.op = .load T x) (hx : ρ x = .pointer (some ⟨b, off, none⟩)) (hc : Cs w b off cs) (hl : cs.length = n) :
    (execOp ρ o).run P w = .ok (.value (.agg cs.toArray)) w := by
  unfold execOp
  simp only [ho, hx, Instr.loadAt, Instr.sureAddr, Sem.run_bind, Sem.run_pure, Result.andThen_ok, jQ hA hc hl]
end
theorem Cs.sub {w : World} {b o : Nat} {cs ds : List Value} (h : Cs w b o cs) (i : Nat) (hd : ∀ j x, ds[j]? = some x → cs[i + j]? = some x) : Cs w b (o + i) ds := fun j x e => by rw [Nat.add_assoc]; exact h _ x (hd j x e)
theorem FG (n : Bool) (s : Value) (m : Bool) (u : Value) (M : List Nat) : ∀ (j : Nat) x, [Value.bool n, s, .bool m, u][j]? = some x → (HY n s m u M)[0 + j]? = some x := by
  intro j x h
  rw [Nat.zero_add]
  match j, h with
  | 0, h | 1, h | 2, h | 3, h => exact h
  | j + 4, h => simp at h
theorem DY (n : Bool) (s : Value) (m : Bool) (u : Value) (M : List Nat) : ∀ (j : Nat) x, (GP M)[j]? = some x → (HY n s m u M)[4 + j]? = some x := by
  intro j x h
  rw [Nat.add_comm]; exact h
theorem CM {n m : Bool} {s u : Value} {M : List Nat} (h : EK M) : (HY n s m u M).length = 12 := by unfold HY; simp [DC h]
theorem BW {α : Type} {e : El α} {S : Nat → Prop} {w : World} {v : Value} {l : List α} (h : (fR e S v l).p w) : IsR e (DD w.heap.size) w v l := h.1.mono (fun k g => h.2 k g)
end Go.Proofs.YtmppigbbkjepiaaGreatDoor
