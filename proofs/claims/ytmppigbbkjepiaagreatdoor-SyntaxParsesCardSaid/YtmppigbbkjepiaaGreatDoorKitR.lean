/- Helping facts of KitP; no other conditions. Helping facts of KitR; no other conditions. -/
import Derived.Test.YtmppigbbkjepiaaGreatDoorSynR
namespace Go.Proofs.YtmppigbbkjepiaaGreatDoor
open Go.Proofs.Tryz
open Go.RowKit W
variable {J : Int} {L : List SF} {M : List Nat} {P : Program} {S S' : Nat -> Prop} {T b base bytes cap e i j len n off sz t : Nat} {ao ao' : Option Addr} {ds l zs : List Value} {kk : IntKind} {m : Bool} {o : Oper} {p : Prop} {s u v : Value} {t' : TypeId} {w w' w0 : World} {x y : Operand} {α : Type} {ρ : Operand -> Value}
theorem YEz (h : p := by simp [h]) : p := h
theorem ZSm (h : p := by
 subst hj
 unfold execOp; rw [ho]
 simp [hx, go_sem]
 ) : p := h
theorem ZBq (h : p := by
 intro j x h
 rw [Nat.zero_add]
 match j, h with
 | 0, h | 1, h | 2, h | 3, h => exact h
 | j + 4, h => simp at h
 ) : p := h
def bs (l : Bs) : ByteArray := ⟨l.toArray⟩
theorem FO (l : Bs) : (bs l).data.toList = l := by simp [bs]
theorem sZ (s : ByteArray) : bs s.data.toList = s := by simp [bs]
theorem ES (l : Bs) : (bs l).size = l.length := by show (bs l).data.size = _; simp [bs]
theorem vH {a b : Bs} (h : bs a = bs b) : a = b := by rw [<- FO a, h, FO]
theorem C8 (a b : Bs) : bs a ++ bs b = bs (a ++ b) := WY (by simp [bs])
theorem tA (l : Bs) (i j : Nat) : (bs l).extract i j = bs ((l.take j).drop i) := WY (by rw [FO, ByteArray.data_extract, Array.toList_extract]; simp [bs, List.drop_take, List.extract_eq_take_drop])
structure Keep (S : Nat -> Prop) (w w' : World) : Prop where
 block : ∀ k, S k -> w'.heap[k]? = w.heap[k]?
 num : ∀ v z, IsI w v z -> IsI w' v z
theorem Keep.below (hb : Below w.heap.size w w') (h : ∀ k, S k -> k < w.heap.size) : Keep S w w' := ⟨fun k hk => hb.block k (h k hk), fun _ _ hv => hv.below hb⟩
theorem Keep.onl (hn : Av w b) (hb : Onl b w w') (h : ¬ S b) : Keep S w w' := ⟨fun k hk => hb.block k (fun e => h (e ▸ hk)), fun _ z hv => (svI z).onl hv hn hb⟩
theorem Keep.mono (h : Keep S' w w') (hs : ∀ k, S k -> S' k) : Keep S w w' := ⟨fun k hk => h.block k (hs k hk), h.num⟩
def fD (S : Nat -> Prop) (D : World -> Prop) (hD : ∀ w w', D w -> Keep S w w' -> D w') : SF := ⟨fun w => D w /\ ∀ k, S k -> k < w.heap.size, fun c => ¬ S c,
 fun h hb => ⟨hD _ _ h.1 (Keep.below hb h.2), fun k hk => Nat.lt_of_lt_of_le (h.2 k hk) hb.size⟩, fun h hn ho hb => ⟨hD _ _ h.1 (Keep.onl hn hb ho), fun k hk => by rw [hb.size]; exact h.2 k hk⟩⟩
def WW : Nat -> Prop := fun _ => False
def DL (n : Nat) : Nat -> Prop := fun k => k < n
def EM (a b : Nat) : Nat -> Prop := fun k => a <= k /\ k < b
theorem CY {c : Nat} (h : n <= c) : ¬ DL n c := fun g => Nat.lt_irrefl _ (Nat.lt_of_lt_of_le g h)
theorem jX {a c : Nat} (h : c < a ∨ b <= c) : ¬ EM a b c := by rintro ⟨h1, h2⟩; omega
theorem jY {c : Nat} : ¬ WW c := id
def Cs (w : World) (b o : Nat) (cs : List Value) : Prop := ∀ j x, cs[j]? = some x -> w.cell? ⟨b, o + j, none⟩ = some x
theorem Cs.keep {o : Nat} {cs : List Value} (h : Cs w b o cs) (hb : S b) (hk : Keep S w w') : Cs w' b o cs := fun j x e => (World.cell?_of_block (hk.block b hb)).trans (h j x e)
theorem Bx.cs {cs : List Value} (h : Bx w b T cs) : Cs w b 0 cs := fun j x e => by rw [Nat.zero_add, h.cell]; exact e
def fC (b o : Nat) (cs : List Value) : SF := fD (fun k => k = b) (fun w => Cs w b o cs) (fun _ _ h hk => h.keep (S := fun k => k = b) rfl hk)
theorem Env.c {l : List SF} {o : Nat} {cs : List Value} (E : Env w l) (h : Cs w b o cs) (hb : b < w.heap.size) : Env w (fC b o cs :: l) := ⟨⟨h, fun _ hk => hk ▸ hb⟩, E⟩
structure El (α : Type) where
 sz : Nat
 p : (Nat -> Prop) -> World -> List Value -> α -> Prop
 keep : ∀ {S : Nat -> Prop} {w w' : World} {cs : List Value} {x : α}, p S w cs x -> Keep S w w' -> p S w' cs x
 mono : ∀ {S S' : Nat -> Prop} {w : World} {cs : List Value} {x : α}, p S w cs x -> (∀ k, S k -> S' k) -> p S' w cs x
 len : ∀ {S : Nat -> Prop} {w : World} {cs : List Value} {x : α}, p S w cs x -> cs.length = sz
 one : ∀ {S : Nat -> Prop} {w : World} {cs : List Value} {x : α}, p S w cs x -> ∀ v ∈ cs, v.oneCell' = true
 nw : ∀ {S : Nat -> Prop} {w : World} {cs : List Value} {x : α}, p S w cs x -> UP cs
def IsR {α : Type} (e : El α) (S : Nat -> Prop) (w : World) (v : Value) (l : List α) : Prop :=
 ∃ ao cap, v = .slice ao l.length cap /\ l.length <= cap /\ cap <= maxLen /\ ∀ i x, l[i]? = some x -> ∃ b off cs, ao = some ⟨b, off, none⟩ /\ S b /\ Cs w b (off + i * e.sz) cs /\ e.p S w cs x
theorem IsR.keep {e : El α} {l : List α} (h : IsR e S w v l) (hk : Keep S w w') : IsR e S w' v l := by
 obtain ⟨u, k, rfl, t, q, p⟩ := h
 refine ⟨u, k, O, t, q, fun i x o => ?_⟩
 obtain ⟨b, f, cs, e1, e2, e3, e4⟩ := p i x o
 exact ⟨b, f, cs, e1, e2, e3.keep e2 hk, e.keep e4 hk⟩
theorem IsR.mono {e : El α} {l : List α} (h : IsR e S w v l) (hs : ∀ k, S k -> S' k) : IsR e S' w v l := by
 obtain ⟨y, o, rfl, u, t, q⟩ := h
 refine ⟨y, o, O, u, t, fun i x p => ?_⟩
 obtain ⟨b, f, cs, e1, e2, e3, e4⟩ := q i x p
 exact ⟨b, f, cs, e1, hs b e2, e3, e.mono e4 hs⟩
theorem IsR.shp {e : El α} {l : List α} (h : IsR e S w v l) : ∃ ao cap, v = .slice ao l.length cap /\ l.length <= cap /\ cap <= maxLen := by
 obtain ⟨ao, cap, rfl, k, f, _⟩ := h
 exact ⟨ao, cap, rfl, k, f⟩
theorem IsR.one {e : El α} {l : List α} (h : IsR e S w v l) : v.oneCell' = true := by
 obtain ⟨k, f, rfl, _⟩ := h; rfl
theorem IsR.at {e : El α} {l : List α} (h : IsR e S w (.slice ao n cap) l) {x : α} (hx : l[i]? = some x) :
 ∃ b off cs, ao = some ⟨b, off, none⟩ /\ S b /\ Cs w b (off + i * e.sz) cs /\ e.p S w cs x := by
 obtain ⟨q, f, k, _, _, o⟩ := h
 cases k
 exact o i x hx
theorem IsR.nil (e : El α) (S : Nat -> Prop) (w : World) : IsR e S w (.slice none 0 0) [] := ⟨none, 0, rfl, Nat.le_refl _, Nat.zero_le _, fun i x h => by simp at h⟩
theorem IsR.take {e : El α} {l : List α} (h : IsR e S w (.slice ao n cap) l) (hi : i <= l.length) : IsR e S w (.slice ao i cap) (l.take i) := by
 obtain ⟨t, k, o, u, q, p⟩ := h
 cases o
 refine ⟨ao, cap, by rw [List.length_take, Nat.min_eq_left hi], by rw [List.length_take]; omega, q, fun j x f => ?_⟩
 exact p j x (by rw [List.getElem?_take] at f; split at f; exact f; cases f)
theorem IsR.drop {e : El α} {l : List α} (h : IsR e S w (.slice (some ⟨b, off, none⟩) n cap) l) (hi : i <= l.length) : IsR e S w (.slice (some ⟨b, off + i * e.sz, none⟩) (n - i) (cap - i)) (l.drop i) := by
 obtain ⟨t, o, p, v, u, q⟩ := h
 cases p
 refine ⟨_, cap - i, by rw [List.length_drop], by rw [List.length_drop]; omega, by omega, fun j x k => ?_⟩
 rw [List.getElem?_drop] at k
 obtain ⟨y, f, cs, e1, e2, e3, e4⟩ := q (i + j) x k
 cases e1
 exact ⟨b, off + i * e.sz, cs, rfl, e2, by rw [Nat.add_assoc, <- Nat.add_mul]; exact e3, e4⟩
def fR {α : Type} (e : El α) (S : Nat -> Prop) (v : Value) (l : List α) : SF := fD S (fun w => IsR e S w v l) (fun _ _ h hk => h.keep hk)
theorem Env.r {e : El α} {l : List α} (E : Env w L) (h : IsR e S w v l) (hs : ∀ k, S k -> k < w.heap.size) : Env w (fR e S v l :: L) := ⟨⟨h, hs⟩, E⟩
def Gn (v : Value) : Prop := ∀ k, v ≠ .int .u32 k
theorem tD (k : Int) : ¬ Gn (.int .u32 k) := fun h => h k rfl
def Acc {α : Type} (e : El α) (t base : Nat) (S : Nat -> Prop) (w : World) (v : Value) (l : List α) : Prop :=
 ∃ xs, RowG w base t e.sz Gn v l.length xs /\ (∀ i x, l[i]? = some x -> e.p S w ((xs.drop (i * e.sz)).take e.sz) x) /\ ∀ g, v.ownBlock = some g -> ¬ S g
theorem Acc.keep {e : El α} {l : List α} (h : Acc e t base S w v l) (hr : ∀ xs, RowG w base t e.sz Gn v l.length xs -> RowG w' base t e.sz Gn v l.length xs) (hk : Keep S w w') : Acc e t base S w' v l := by
 obtain ⟨xs, p, o, k⟩ := h
 exact ⟨xs, hr xs p, fun i x f => e.keep (o i x f) hk, k⟩
def fA {α : Type} (e : El α) (t base : Nat) (S : Nat -> Prop) (v : Value) (l : List α) : SF := ⟨fun w => Acc e t base S w v l /\ ∀ k, S k -> k < w.heap.size, fun c => v.ownBlock ≠ some c /\ ¬ S c,
 fun h hb => ⟨h.1.keep (fun _ hr => hr.below hb) (Keep.below hb h.2), fun k hk => Nat.lt_of_lt_of_le (h.2 k hk) hb.size⟩,
 fun h hn ho hb => ⟨h.1.keep (fun _ hr => hr.onl ho.1 hb) (Keep.onl hn hb ho.2), fun k hk => by rw [hb.size]; exact h.2 k hk⟩⟩
theorem Env.a {e : El α} {l : List α} (E : Env w L) (h : Acc e t base S w v l) (hs : ∀ k, S k -> k < w.heap.size) : Env w (fA e t base S v l :: L) := ⟨⟨h, hs⟩, E⟩
theorem Jv {e : El α} {l : List α} {c : Nat} (h : v.ownBlock ≠ some c) (hs : ¬ S c) : (fA e t base S v l).ok c := ⟨h, hs⟩
theorem Acc.nil (e : El α) (t base : Nat) (S : Nat -> Prop) (w : World) : Acc e t base S w (.slice none 0 0) [] := ⟨[], bB _ _ _ _ _, fun i x h => by simp at h, fun g h => by simp [Value.ownBlock] at h⟩
theorem Acc.shp {e : El α} {l : List α} (h : Acc e t base S w v l) : ∃ ao cap, v = .slice ao l.length cap := by
 obtain ⟨k, f, _, _⟩ := h
 exact f.shape
theorem Acc.one {e : El α} {l : List α} (h : Acc e t base S w v l) : v.oneCell' = true := by
 obtain ⟨k, f, rfl⟩ := h.shp; rfl
theorem Acc.lit {e : El α} {cs : List Value} {l : List α} (hb : Bx w b t cs) (hbase : base <= b) (hl : l.length = n) (hn : cs.length = n * e.sz) (hn2 : n <= maxLen) (hg : UP cs)
 (h : ∀ i x, l[i]? = some x -> e.p S w ((cs.drop (i * e.sz)).take e.sz) x) (hS : ¬ S b) : Acc e t base S w (.slice (some ⟨b, 0, none⟩) n n) l := by
 subst hl
 refine ⟨cs, ⟨hn, .inr ⟨b, l.length, cs.toArray, O, hbase, hb, Nat.le_refl _, hn2, by simp [hn], by simp [<- hn], fun u f k => hg u (by simpa using f) k⟩⟩, h, fun g hg => ?_⟩
 simp [Value.ownBlock] at hg; rw [<- hg]; exact hS
theorem Acc.lit1 {e : El α} {cs : List Value} {x : α} (hb : Bx w b t cs) (hbase : base <= b) (h : e.p S w cs x) (hS : ¬ S b) : Acc e t base S w (.slice (some ⟨b, 0, none⟩) 1 1) [x] :=
 Acc.lit hb hbase rfl (by rw [e.len h, Nat.one_mul]) AE (e.nw h) (fun i y hy => by
  cases i with
  | zero => simp at hy; subst hy; rw [Nat.zero_mul, List.drop_zero, List.take_of_length_le (by rw [e.len h]; exact Nat.le_refl _)]; exact h
  | succ i => simp at hy) hS
theorem Acc.lit0 {e : El α} (hb : Bx w b t []) (hbase : base <= b) (hS : ¬ S b) : Acc e t base S w (.slice (some ⟨b, 0, none⟩) 0 0) ([] : List α) :=
 Acc.lit hb hbase rfl AH AE (fun c hc => by cases hc) (fun i y hy => by simp at hy) hS
theorem Acc.row {e : El α} {l : List α} (h : Acc e t base S w v l) (hs : ∀ k, S k -> S' k) (hb : ∀ k, base <= k -> k < w.heap.size -> v.ownBlock = some k -> S' k) : IsR e S' w v l := by
 obtain ⟨L, D, C, P⟩ := h
 obtain ⟨N, B⟩ := D
 rcases B with ⟨rfl, F⟩ | ⟨g, p, o, rfl, J, q, I, H, R, G, Q⟩
 . have : l = [] := List.eq_nil_of_length_eq_zero F
   subst this; exact IsR.nil _ _ _
 refine ⟨_, p, rfl, I, H, fun i x u => ?_⟩
 refine ⟨g, 0, _, O, hb g J (Array.getElem?_eq_some_iff.1 q).1 O, fun j y f => ?_, e.mono (C i x u) hs⟩
 rw [List.getElem?_take] at f
 split at f
 . rename_i hj
   rw [List.getElem?_drop, <- G, List.getElem?_take] at f
   split at f
   . rw [cell_of_row w g _ o t (0, 0) q, Nat.zero_add, <- Array.getElem?_toList]; exact f
   cases f
 cases f
theorem Acc.mono {e : El α} {l : List α} (h : Acc e t base S w v l) (hs : ∀ k, S k -> S' k) (hg : ∀ g, v.ownBlock = some g -> ¬ S' g) : Acc e t base S' w v l := by
 obtain ⟨f, q, p, _⟩ := h
 exact ⟨f, q, fun i x o => e.mono (p i x o) hs, hg⟩
theorem Acc.lt {e : El α} {l : List α} (h : Acc e t base S w v l) {g : Nat} (hg : v.ownBlock = some g) : base <= g /\ g < w.heap.size := by
 obtain ⟨k, f, _⟩ := h
 exact f.blk hg
structure RowT {α : Type} (e : El α) (T t bytes : Nat) : Prop where
 ht : prog.underlying T = some (.slice t)
 info : ∃ i z, prog.info? t = some i /\ i.zero = some z /\ i.size = e.sz /\ i.bytes = bytes /\ z.cells.size = e.sz /\ ∀ u ∈ z.cells.toList, Gn u
 pos : 0 < e.sz
theorem wK {e : El α} {xs : List Value} (h : xs.length = n * e.sz) (ys : List Value) (hi : i < n) : ((xs ++ ys).drop (i * e.sz)).take e.sz = (xs.drop (i * e.sz)).take e.sz := by
 have f : i * e.sz + e.sz <= xs.length := by rw [h, <- Nat.succ_mul]; exact Nat.mul_le_mul_right _ hi
 rw [List.drop_append_of_le_length AA, List.take_append_of_le_length (by rw [List.length_drop]; omega)]
theorem EL {e : El α} (R : RowT e T t bytes) {a : Act} {K : Act -> World -> Prop} {Q : Exit -> Act -> World -> Prop} {s : Operand}
 (ho : o.op = .call { callee := .builtin .append, args := #[s, y], argTypes := #[T, T] }) {l : List α} (hs : a.eval s = v) (hA : Acc e t base S w v l) (hS : ∀ k, S k -> k < w.heap.size)
 (E : Env w L) (hok : ∀ g, v.ownBlock = some g -> base <= g -> g < w.heap.size -> Ok g L) {nb : Nat} {cs : List Value} {x : α} (hy : a.eval y = .slice (some ⟨nb, 0, none⟩) 1 1) (hb : Bx w nb t cs) (hx : e.p S w cs x)
 (h63 : l.length + 1 <= maxLen) (hby : (l.length + 1) * bytes <= 140737488355328) (hbase : base <= w.heap.size)
 (h : ∀ v' w', Env w' (fA e t base S v' (l ++ [x]) :: L) -> K (a.put o.dst v') w') : o.wp prog a w K Q := by
 obtain ⟨I, B, h2, h3⟩ := hA
 obtain ⟨i, z, e1, e2, e3, e4, e5, e6⟩ := R.info
 have G := e.len hx
 obtain ⟨v', w', hr, g2, f⟩ := TR (P := prog) (w := w) base T o.type t i z e.sz bytes R.ht e1 e2 e3 e4 e5 R.pos Gn e6 v l.length I B ⟨nb, 0, none⟩ 1 1 cs (by rw [G, Nat.one_mul])
  (fun j u q => by
    have : (⟨nb, 0, none⟩ : Addr).add j = ⟨nb, j, none⟩ := by unfold Addr.add; split <;> simp_all
    rw [this, hb.cell]; exact q) (e.one hx) (fun u q k => e.nw hx u q k) h63 hby hbase
 unfold Oper.wp execOp
 simp only [ho, resolve, invoke, builtin, Sem.run_bind, Sem.run_pure, Result.andThen_ok, List.map_toArray, List.map_cons, List.map_nil, hs, hy, hr]
 have H : Keep S w w' := by
  rcases f with ⟨f, _⟩ | ⟨g, hg, _, f⟩
  . exact Keep.below f hS
  exact Keep.onl (B.noW hg tD) f (h3 g hg)
 have J : w.heap.size <= w'.heap.size := by
  rcases f with ⟨f, _⟩ | ⟨g, hg, _, f⟩
  . exact f.size
  exact Nat.le_of_eq f.size.symm
 have D : ∀ g, v'.ownBlock = some g -> ¬ S g := by
  intro g hg
  rcases f with ⟨_, g4⟩ | ⟨g', X, U, _⟩
  . rw [g4 AA] at hg
    simp only [Option.some.injEq] at hg
    intro hs; have := hS g hs; omega
  rw [U] at hg; simp only [Option.some.injEq] at hg; subst hg; exact h3 g' X
 have C : Acc e t base S w' v' (l ++ [x]) := by
  refine ⟨I ++ cs, by rw [List.length_append]; exact g2, fun j u q => ?_, D⟩
  by_cases Y : j < l.length
  . rw [List.getElem?_append_left Y] at q
    rw [wK B.1 cs Y]
    exact e.keep (h2 j u q) H
  have N : j = l.length := by
   have := (List.getElem?_eq_some_iff.1 q).1
   simp at this; omega
  subst N
  simp at q
  subst q
  have F : l.length * e.sz = I.length := B.1.symm
  rw [F, List.drop_left, List.take_of_length_le (by rw [G]; exact Nat.le_refl _)]
  exact e.keep hx H
 refine h v' w' ⟨⟨C, fun k H => Nat.lt_of_lt_of_le (hS k H) J⟩, ?_⟩
 rcases f with ⟨f, _⟩ | ⟨g, hg, _, f⟩
 . exact E.below f
 exact E.onl (B.noW hg tD) (hok g hg (B.blk hg).1 (B.blk hg).2) f
def EW (n : Bool) (s : Value) (m : Bool) (u : Value) (M : List Nat) : List Value := .bool n :: s :: .bool m :: u :: IQ M
theorem Zx (M : List Nat) : UP (IQ M) := by
 intro c f k e
 subst e
 unfold IQ at f
 obtain ⟨_, _, h⟩ := List.mem_map.1 f
 cases h
theorem Pt (M : List Nat) : ∀ v ∈ IQ M, v.oneCell' = true := by
 intro v e
 unfold IQ at e
 obtain ⟨_, _, rfl⟩ := List.mem_map.1 e
 rfl
theorem Bh {n : Bool} (h1 : UP [.bool n, s]) (h2 : UP [.bool m, u]) : UP (EW n s m u M) := by
 intro c e
 unfold EW at e
 simp only [List.mem_cons] at e
 rcases e with h | h | h | h | h
 . exact h1 c YEz
 . exact h1 c YEz
 . exact h2 c YEz
 . exact h2 c YEz
 exact Zx M c h
theorem DO {n m : Bool} {s u : Value} {M : List Nat} (h1 : ∀ v ∈ [.bool n, s], v.oneCell' = true) (h2 : ∀ v ∈ [.bool m, u], v.oneCell' = true) : ∀ v ∈ EW n s m u M, v.oneCell' = true := by
 intro c e
 unfold EW at e
 simp only [List.mem_cons] at e
 rcases e with h | h | h | h | h
 . exact h1 c YEz
 . exact h1 c YEz
 . exact h2 c YEz
 . exact h2 c YEz
 exact Pt M c h
def JQ : El Tm where
 sz := 12
 p := fun _ w cs t => ∃ n s m u, cs = EW n s m u t.2 /\ IsI w (.agg #[.bool n, s]) t.1.num /\ IsI w (.agg #[.bool m, u]) ((t.1.den : Nat) : Int) /\ FC t.2
 keep := fun ⟨n, s, m, u, h1, h2, h3, h4⟩ hk => ⟨n, s, m, u, h1, hk.num _ _ h2, hk.num _ _ h3, h4⟩
 mono := fun h _ => h
 len := fun ⟨n, s, m, u, h1, _, _, h4⟩ => by subst h1; unfold EW; simp [DG h4]
 one := fun ⟨n, s, m, u, h1, h2, h3, _⟩ => by subst h1; exact DO h2.one h3.one
 nw := fun ⟨n, s, m, u, h1, h2, h3, _⟩ => by subst h1; exact Bh h2.now h3.now
def elS : El Bs where
 sz := 1
 p := fun _ _ cs x => cs = [.string (bs x)]
 keep := fun h _ => h
 mono := fun h _ => h
 len := fun h => by subst h; rfl
 one := fun h => by subst h; intro v hv; simp at hv; subst hv; rfl
 nw := fun h => by subst h; intro c hc k e; subst e; simp at hc
def RB : El (Nat × List Tm) where
 sz := 2
 p := fun S w cs x => ∃ v, cs = [.int .i64 ((x.1 : Nat) : Int), v] /\ IsR JQ S w v x.2
 keep := fun ⟨v, h1, h2⟩ hk => ⟨v, h1, h2.keep hk⟩
 mono := fun ⟨v, h1, h2⟩ hs => ⟨v, h1, h2.mono hs⟩
 len := fun ⟨v, h1, _⟩ => by subst h1; rfl
 one := fun ⟨v, h1, h2⟩ => by
  subst h1; intro u hu
  simp only [List.mem_cons, List.not_mem_nil, or_false] at hu
  rcases hu with rfl | rfl
  . rfl
  exact h2.one
 nw := fun ⟨v, h1, h2⟩ => by
  subst h1; intro c hc k e
  obtain ⟨ao, cap, rfl, _⟩ := h2
  subst e; simp at hc
theorem FQ : Ag prog 88 12 [.bool false, .slice none 0 0, .bool false, .slice none 0 0, .int .i64 0, .int .i64 0, .int .i64 0, .int .i64 0, .int .i64 0, .int .i64 0, .int .i64 0, .int .i64 0] := ⟨⟨_, underlying88, rfl⟩, by kernel_rfl, rfl⟩
theorem LS : Ag prog 83 2 [.int .i64 0, .slice none 0 0] := ⟨⟨_, underlying83, rfl⟩, by kernel_rfl, rfl⟩
theorem JK : Ag prog 48 4 [.slice none 0 0, .slice none 0 0, .slice none 0 0, .int .i64 0] := ⟨⟨_, underlying48, rfl⟩, by kernel_rfl, rfl⟩
theorem infoT : (prog.info? 88).map (fun i => (i.zero, i.size, i.bytes)) = some (some (.agg #[.bool false, .slice none 0 0, .bool false, .slice none 0 0, .int .i64 0, .int .i64 0, .int .i64 0, .int .i64 0, .int .i64 0, .int .i64 0, .int .i64 0, .int .i64 0]), 12, 128) := by kernel_rfl
theorem infoE : (prog.info? 83).map (fun i => (i.zero, i.size, i.bytes)) = some (some (.agg #[.int .i64 0, .slice none 0 0]), 2, 32) := by kernel_rfl
theorem infoS : (prog.info? 9).map (fun i => (i.zero, i.size, i.bytes)) = some (some (.string ByteArray.empty), 1, 16) := by kernel_rfl
theorem ZA : RowT JQ 28 88 128 := by
 obtain ⟨o, q, l, h, f⟩ := info_parts infoT
 exact ⟨underlying28, ⟨o, _, q, l, h, f, rfl, by intro u p k e; subst e; simp [Value.cells] at p⟩, by decide⟩
theorem RT_S : RowT elS 30 9 16 := by
 obtain ⟨o, q, l, h, f⟩ := info_parts infoS
 exact ⟨underlying30, ⟨o, _, q, l, h, f, rfl, by intro u p k e; subst e; simp [Value.cells] at p⟩, by decide⟩
theorem Xf : RowT RB 46 83 32 := by
 obtain ⟨o, q, l, h, f⟩ := info_parts infoE
 exact ⟨underlying46, ⟨o, _, q, l, h, f, rfl, by intro u p k e; subst e; simp [Value.cells] at p⟩, by decide⟩
section
variable {P : Program} {ρ : Operand -> Value} {o : Oper} {w : World}
theorem SY (ho : o.op = .indexAddr T x y) (hT : P.underlying T = some (.slice e)) (hs : (P.info? e).map (·.size) = some sz)
 (hx : ρ x = .slice ao len cap) (hao : ao = some ⟨b, off, none⟩) (hy : ρ y = .int .i64 J) (hJ : J = (i : Int)) (hi : i < len) : (execOp ρ o).run P w = .ok (.value (.pointer (some ⟨b, off + i * sz, none⟩))) w := by
 subst hao; exact VP ho hT hs hx hy hJ hi
theorem nL {cs : List Value} (hA : Ag P T n zs) (hc : Cs w b off cs) (hl : cs.length = n) : (loadVar T ⟨b, off, none⟩).run P w = .ok (.agg cs.toArray) w := by
 obtain ⟨d, e, f⟩ := hA.u
 exact run_loadVar_mid w b off T cs d hc e (by cases d <;> simp_all) (by rw [hA.size, hl])
theorem CE {cs : List Value} (hA : Ag P T n zs) (ho : o.op = .load T x) (hx : ρ x = .pointer (some ⟨b, off, none⟩)) (hc : Cs w b off cs) (hl : cs.length = n) :
 (execOp ρ o).run P w = .ok (.value (.agg cs.toArray)) w := by
 unfold execOp
 simp only [ho, hx, Instr.loadAt, Instr.sureAddr, Sem.run_bind, Sem.run_pure, Result.andThen_ok, nL hA hc hl]
end
theorem Cs.sub {o : Nat} {cs : List Value} (h : Cs w b o cs) (i : Nat) (hd : ∀ j x, ds[j]? = some x -> cs[i + j]? = some x) : Cs w b (o + i) ds := fun j x e => by rw [Nat.add_assoc]; exact h _ x (hd j x e)
theorem EQ (n : Bool) (s : Value) (m : Bool) (u : Value) (M : List Nat) : ∀ (j : Nat) x, [Value.bool n, s, .bool m, u][j]? = some x -> (EW n s m u M)[0 + j]? = some x := by
 exact ZBq
theorem EH (n : Bool) (s : Value) (m : Bool) (u : Value) (M : List Nat) : ∀ (j : Nat) x, (IQ M)[j]? = some x -> (EW n s m u M)[4 + j]? = some x := by
 intro j x h
 rw [Nat.add_comm]; exact h
theorem CF {n : Bool} (h : FC M) : (EW n s m u M).length = 12 := by unfold EW; simp [DG h]
theorem BW {e : El α} {l : List α} (h : (fR e S v l).p w) : IsR e (DL w.heap.size) w v l := h.1.mono (fun k g => h.2 k g)
theorem JH (ho : o.op = .fieldAddr 88 x 0) (hx : ρ x = .pointer (some ⟨b, i, none⟩)) (hj : i + 0 = j) : (execOp ρ o).run prog w = .ok (.value (.pointer (some ⟨b, j, none⟩))) w := by
 exact ZSm
theorem QV (ho : o.op = .fieldAddr 88 x 1) (hx : ρ x = .pointer (some ⟨b, i, none⟩)) (hj : i + 4 = j) : (execOp ρ o).run prog w = .ok (.value (.pointer (some ⟨b, j, none⟩))) w := by
 exact ZSm
theorem kM (ho : o.op = .fieldAddr 64 x 0) (hx : ρ x = .pointer (some ⟨b, i, none⟩)) (hj : i + 0 = j) : (execOp ρ o).run prog w = .ok (.value (.pointer (some ⟨b, j, none⟩))) w := by
 exact ZSm
theorem kL (ho : o.op = .fieldAddr 64 x 1) (hx : ρ x = .pointer (some ⟨b, i, none⟩)) (hj : i + 2 = j) : (execOp ρ o).run prog w = .ok (.value (.pointer (some ⟨b, j, none⟩))) w := by
 exact ZSm
theorem aA (ho : o.op = .fieldAddr 83 x 0) (hx : ρ x = .pointer (some ⟨b, i, none⟩)) (hj : i + 0 = j) : (execOp ρ o).run prog w = .ok (.value (.pointer (some ⟨b, j, none⟩))) w := by
 exact ZSm
theorem ZZ (ho : o.op = .fieldAddr 83 x 1) (hx : ρ x = .pointer (some ⟨b, i, none⟩)) (hj : i + 1 = j) : (execOp ρ o).run prog w = .ok (.value (.pointer (some ⟨b, j, none⟩))) w := by
 exact ZSm
theorem UJ (ho : o.op = .fieldAddr 48 x 0) (hx : ρ x = .pointer (some ⟨b, i, none⟩)) (hj : i + 0 = j) : (execOp ρ o).run prog w = .ok (.value (.pointer (some ⟨b, j, none⟩))) w := by
 exact ZSm
theorem dF (ho : o.op = .fieldAddr 48 x 1) (hx : ρ x = .pointer (some ⟨b, i, none⟩)) (hj : i + 1 = j) : (execOp ρ o).run prog w = .ok (.value (.pointer (some ⟨b, j, none⟩))) w := by
 exact ZSm
theorem dE (ho : o.op = .fieldAddr 48 x 2) (hx : ρ x = .pointer (some ⟨b, i, none⟩)) (hj : i + 2 = j) : (execOp ρ o).run prog w = .ok (.value (.pointer (some ⟨b, j, none⟩))) w := by
 exact ZSm
theorem dD (ho : o.op = .fieldAddr 48 x 3) (hx : ρ x = .pointer (some ⟨b, i, none⟩)) (hj : i + 3 = j) : (execOp ρ o).run prog w = .ok (.value (.pointer (some ⟨b, j, none⟩))) w := by
 exact ZSm
theorem ZO (ho : o.op = .fieldAddr 115 x 0) (hx : ρ x = .pointer (some ⟨b, i, none⟩)) (hj : i + 0 = j) : (execOp ρ o).run prog w = .ok (.value (.pointer (some ⟨b, j, none⟩))) w := by
 exact ZSm
theorem ZN (ho : o.op = .fieldAddr 115 x 1) (hx : ρ x = .pointer (some ⟨b, i, none⟩)) (hj : i + 4 = j) : (execOp ρ o).run prog w = .ok (.value (.pointer (some ⟨b, j, none⟩))) w := by
 exact ZSm
theorem XL (ho : o.op = .fieldAddr 105 x 0) (hx : ρ x = .pointer (some ⟨b, i, none⟩)) (hj : i + 0 = j) : (execOp ρ o).run prog w = .ok (.value (.pointer (some ⟨b, j, none⟩))) w := by
 exact ZSm
theorem XK (ho : o.op = .fieldAddr 105 x 1) (hx : ρ x = .pointer (some ⟨b, i, none⟩)) (hj : i + 1 = j) : (execOp ρ o).run prog w = .ok (.value (.pointer (some ⟨b, j, none⟩))) w := by
 exact ZSm
theorem NN (w : World) : (isAgg 28).run prog w = .ok false w := by simp [go_sem]
theorem dQ (w : World) : (isAgg 30).run prog w = .ok false w := by simp [go_sem]
theorem iZ (w : World) : (isAgg 9).run prog w = .ok false w := by simp [go_sem]
theorem jA (w : World) : (isAgg 46).run prog w = .ok false w := by simp [go_sem]
theorem LQ (w : World) : (isAgg 32).run prog w = .ok false w := by simp [go_sem]
theorem kC (w : World) : (isAgg 22).run prog w = .ok false w := by simp [go_sem]
theorem kB (w : World) : (isAgg 41).run prog w = .ok false w := by simp [go_sem]
theorem kD (w : World) : (isAgg 42).run prog w = .ok false w := by simp [go_sem]
section
variable {ρ : Operand -> Value} {o : Oper} {w : World}
theorem nM {n : Bool} (ho : o.op = .build 88 #[(0, x), (1, y)]) (hx : ρ x = .agg #[.bool n, s, .bool m, u]) (hy : ρ y = .agg (IQ M).toArray) (hM : FC M) :
 (execOp ρ o).run prog w = .ok (.value (.agg (EW n s m u M).toArray)) w := by
 unfold execOp; rw [ho]
 have k : (zeroValue 88).run prog w = .ok (.agg #[.bool false, .slice none 0 0, .bool false, .slice none 0 0, .int .i64 0, .int .i64 0, .int .i64 0, .int .i64 0, .int .i64 0, .int .i64 0, .int .i64 0, .int .i64 0]) w := by kernel_rfl
 obtain ⟨l, _⟩ := hM
 match M, l with
 | [a, b, c, d, e, f, g, h], _ => simp [go_sem, k, hx, hy, IQ, EW]
theorem aB {n : Bool} (ho : o.op = .build 88 #[(0, x)]) (hx : ρ x = .agg #[.bool n, s, .bool m, u]) :
 (execOp ρ o).run prog w = .ok (.value (.agg (EW n s m u zeroM).toArray)) w := by
 unfold execOp; rw [ho]
 have e : (zeroValue 88).run prog w = .ok (.agg #[.bool false, .slice none 0 0, .bool false, .slice none 0 0, .int .i64 0, .int .i64 0, .int .i64 0, .int .i64 0, .int .i64 0, .int .i64 0, .int .i64 0, .int .i64 0]) w := by kernel_rfl
 simp [go_sem, e, hx, IQ, EW, zeroM]
theorem xD (ho : o.op = .build 88 #[]) :
 (execOp ρ o).run prog w = .ok (.value (.agg (EW false (.slice none 0 0) false (.slice none 0 0) zeroM).toArray)) w := by
 unfold execOp; rw [ho]
 have e : (zeroValue 88).run prog w = .ok (.agg #[.bool false, .slice none 0 0, .bool false, .slice none 0 0, .int .i64 0, .int .i64 0, .int .i64 0, .int .i64 0, .int .i64 0, .int .i64 0, .int .i64 0, .int .i64 0]) w := by kernel_rfl
 simp [go_sem, e, IQ, EW, zeroM]
theorem xI (ho : o.op = .build 67 #[]) : (execOp ρ o).run prog w = .ok (.value (.agg (IQ zeroM).toArray)) w := by
 unfold execOp; rw [ho]
 have e : (zeroValue 67).run prog w = .ok (.agg #[.int .i64 0, .int .i64 0, .int .i64 0, .int .i64 0, .int .i64 0, .int .i64 0, .int .i64 0, .int .i64 0]) w := by kernel_rfl
 simp [go_sem, e, IQ, zeroM]
theorem KV {id : Int} {c : Nat} (ho : o.op = .build 83 #[(0, x), (1, y)]) (hx : ρ x = .int .i64 id) (hy : ρ y = .slice ao n c) :
 (execOp ρ o).run prog w = .ok (.value (.agg #[.int .i64 id, .slice ao n c])) w := by
 unfold execOp; rw [ho]
 have e : (zeroValue 83).run prog w = .ok (.agg #[.int .i64 0, .slice none 0 0]) w := by kernel_rfl
 simp [go_sem, e, hx, hy]
theorem xK (ho : o.op = .build 83 #[]) : (execOp ρ o).run prog w = .ok (.value (.agg #[.int .i64 0, .slice none 0 0])) w := by
 unfold execOp; rw [ho]
 have e : (zeroValue 83).run prog w = .ok (.agg #[.int .i64 0, .slice none 0 0]) w := by kernel_rfl
 simp [go_sem, e]
theorem xF (ho : o.op = .build 48 #[]) : (execOp ρ o).run prog w = .ok (.value (.agg #[.slice none 0 0, .slice none 0 0, .slice none 0 0, .int .i64 0])) w := by
 unfold execOp; rw [ho]
 simp [go_sem]
theorem RX {k c : Nat} {n : Int} (ho : o.op = .build 48 #[(0, x), (3, y)]) (hx : ρ x = .slice ao k c) (hy : ρ y = .int .i64 n) : (execOp ρ o).run prog w = .ok (.value (.agg #[.slice ao k c, .slice none 0 0, .slice none 0 0, .int .i64 n])) w := by
 unfold execOp; rw [ho]
 simp [go_sem, hx, hy]
theorem tP (ho : o.op = .build 115 #[]) : (execOp ρ o).run prog w = .ok (.value (.agg #[.slice none 0 0, .slice none 0 0, .slice none 0 0, .int .i64 0, .int .i64 0])) w := by
 unfold execOp; rw [ho]
 have e : (zeroValue 115).run prog w = .ok (.agg #[.slice none 0 0, .slice none 0 0, .slice none 0 0, .int .i64 0, .int .i64 0]) w := by kernel_rfl
 simp [go_sem, e]
theorem Nt {T t : TypeId} {c : Nat} (ho : o.op = .call { callee := .builtin .len, args := #[x], argTypes := #[T] }) (hT : P.underlying T = some (.slice t)) (hx : ρ x = .slice ao n c) : (execOp ρ o).run P w = .ok (.value (.int .i64 n)) w := by
 unfold execOp; rw [ho]
 simp [hx, Builtin.lenOf, go_sem, hT]
theorem Nw {t : TypeId} {a b : Bs} (ho : o.op = .binOp .add t x y t') (hx : ρ x = .string (bs a)) (hy : ρ y = .string (bs b)) (hs : a.length + b.length <= 9223372036854775807) : (execOp ρ o).run P w = .ok (.value (.string (bs (a ++ b)))) w := by
 rw [<- C8]; exact VQ ho hx hy (by rw [ES, ES]; exact hs)
theorem EO {t : TypeId} {a b : Bs} {c : Bool} (ho : o.op = .binOp .eql t x y t') (hx : ρ x = .string (bs a)) (hy : ρ y = .string (bs b)) (hc : (a == b) = c) : (execOp ρ o).run P w = .ok (.value (.bool c)) w :=
 YO ho hx hy (by rw [FO, FO]; exact hc)
theorem FG {t : TypeId} {a b : Bs} {c : Bool} (ho : o.op = .binOp .neq t x y t') (hx : ρ x = .string (bs a)) (hy : ρ y = .string (bs b)) (hc : (a != b) = c) : (execOp ρ o).run P w = .ok (.value (.bool c)) w :=
 TQ ho hx hy (by rw [FO, FO]; exact hc)
theorem Nv {a : Bs} (ho : o.op = .call { callee := .builtin .len, args := #[x], argTypes := #[9] }) (hx : ρ x = .string (bs a)) : (execOp ρ o).run prog w = .ok (.value (.int .i64 ↑a.length)) w := by
 have := wY (w := w) ho hx
 rwa [ES] at this
theorem KD {T : TypeId} {a : Bs} (ho : o.op = .slice T x (some y) none none) (hT : P.underlying T = some .string) (hx : ρ x = .string (bs a)) (hy : ρ y = .int kk J) (hJ : J = (j : Int)) (hj : j <= a.length) :
 (execOp ρ o).run P w = .ok (.value (.string (bs (a.drop j)))) w := by
 have := ID (w := w) ho hT hx hy hJ (by rw [ES]; exact hj)
 rw [tA, ES, List.take_of_length_le (Nat.le_refl _)] at this
 exact this
theorem QU {T : TypeId} {a : Bs} (ho : o.op = .slice T x none (some y) none) (hT : P.underlying T = some .string) (hx : ρ x = .string (bs a)) (hy : ρ y = .int kk J) (hJ : J = (j : Int)) (hj : j <= a.length) :
 (execOp ρ o).run P w = .ok (.value (.string (bs (a.take j)))) w := by
 have := F5 (w := w) ho hT hx hy hJ (by rw [ES]; exact hj)
 rw [tA, List.drop_zero] at this
 exact this
theorem Ns {T : TypeId} {z : Operand} {a : Bs} {I : Int} {kl : IntKind} (ho : o.op = .slice T x (some y) (some z) none) (hT : P.underlying T = some .string) (hx : ρ x = .string (bs a)) (hy : ρ y = .int kk I) (hz : ρ z = .int kl J) (hI : I = (i : Int)) (hJ : J = (j : Int)) (hi : i <= j) (hj : j <= a.length) :
 (execOp ρ o).run P w = .ok (.value (.string (bs ((a.take j).drop i)))) w := by
 subst hI hJ
 unfold execOp; rw [ho]
 have e : j <= (bs a).size := by rw [ES]; exact hj
 simp [hx, hy, hz, Instr.sliceAt, Instr.slice, run_underlying hT, Instr.sliceBounds, Instr.sliceBound, asIntOf, e, hi, tA]
theorem Rp (a : Bs) (j : Nat) : (bs a)[j]? = a[j]? := by
 have e := ES a
 by_cases h : j < a.length
 . rw [List.getElem?_eq_getElem h, getElem?_pos (bs a) j AA]
   congr 1
 rw [List.getElem?_eq_none AA, getElem?_neg (bs a) j AA]
theorem Ts {T : TypeId} {a : Bs} {b : UInt8} (ho : o.op = .index T x y) (hT : P.underlying T = some .string) (hx : ρ x = .string (bs a)) (hy : ρ y = .int kk J) (hJ : J = (j : Int)) (hb : a[j]? = some b) :
 (execOp ρ o).run P w = .ok (.value (.int .u8 ↑b.toNat)) w :=
 DK ho hT hx hy hJ (by rw [Rp]; exact hb)
def Ba (ao : Option Addr) (k : Nat) (same : Bool) : Option Addr := if same then ao else ao.map (·.add k)
theorem FK (ho : o.op = .slice T x (some y) none none) (hT : P.underlying T = some (.slice e)) (hs : (P.info? e).map (·.size) = some sz) (hx : ρ x = .slice ao len cap) (hy : ρ y = .int .i64 J) (hJ : J = (i : Int)) (hi : i <= len)
 (ha : Ba ao (i * sz) (decide (cap = i)) = ao') : (execOp ρ o).run P w = .ok (.value (.slice ao' (len - i) (cap - i))) w := by
 subst hJ ha
 unfold execOp; rw [ho]
 cases f : P.info? e with
 | none => simp [f] at hs
 | some inf =>
   simp [f] at hs
   simp [hx, hy, Instr.sliceAt, Instr.slice, run_underlying hT, Instr.sliceBounds, Instr.sliceBound, asIntOf, sizeOf, typeInfo, f, hs, hi, Ba]
theorem RW (ho : o.op = .slice T x none (some y) none) (hT : P.underlying T = some (.slice e)) (hs : (P.info? e).map (·.size) = some sz) (hx : ρ x = .slice ao len cap) (hy : ρ y = .int .i64 J) (hJ : J = (i : Int)) (hi : i <= cap) :
 (execOp ρ o).run P w = .ok (.value (.slice ao i cap)) w := by
 subst hJ
 unfold execOp; rw [ho]
 cases f : P.info? e with
 | none => simp [f] at hs
 | some inf =>
   simp [f] at hs
   simp [hx, hy, Instr.sliceAt, Instr.slice, run_underlying hT, Instr.sliceBounds, Instr.sliceBound, asIntOf, sizeOf, typeInfo, f, hi, Addr.add]
end
theorem uC : UP [] := fun c hc => by cases hc
theorem PS (h : ∀ k, v ≠ .int .u32 k) (hl : UP l) : UP (v :: l) := by
 intro c f k e
 rcases List.mem_cons.1 f with rfl | f
 . exact h k e
 exact hl c f k e
theorem DP : ∀ v ∈ ([] : List Value), v.oneCell' = true := fun c hc => by cases hc
theorem CG {v : Value} {l : List Value} (h : v.oneCell' = true) (hl : ∀ u ∈ l, u.oneCell' = true) : ∀ u ∈ v :: l, u.oneCell' = true := by
 intro c e
 rcases List.mem_cons.1 e with rfl | e
 . exact h
 exact hl c e
theorem Acc.nw {e : El α} {l : List α} (h : Acc e t base S w v l) : ∀ k, v ≠ .int .u32 k := by
 obtain ⟨o, f, rfl⟩ := h.shp
 intro k e; cases e
theorem Tv (a b c d e : Value) : ∀ (j : Nat) x, [a, b, c, d][j]? = some x -> [a, b, c, d, e][0 + j]? = some x := by
 exact ZBq
theorem Bi {n : Bool} (h : FC M) (hi : i < 8) : (EW n s m u M)[4 + i * 1]? = some (.int .i64 ↑(me M i)) := by
 have := FB h hi
 rw [Nat.zero_add] at this
 rw [Nat.add_comm]; exact this
theorem bL {n : Bool} : (EW n s m u M).set (4 + i * 1) (.int .i64 ↑e) = EW n s m u (M.set i e) := by
 rw [Nat.add_comm, Nat.mul_one]
 unfold EW IQ
 simp [List.map_set]
theorem tN {a : Addr} (ho : o.op = .nilCheck x) (hx : ρ x = .pointer (some a)) : (execOp ρ o).run P w = .ok (.value (.pointer (some a))) w := by
 unfold execOp; rw [ho]; simp [hx, go_sem]
theorem TX : (prog.info? 3).map (·.size) = some 1 := by kernel_rfl
theorem MF {e : El α} {l : List α} (h : IsR e S w (.slice ao n cap) l) (hi : i <= l.length) (ha : Ba ao (i * e.sz) (decide (cap = i)) = ao') : IsR e S w (.slice ao' (n - i) (cap - i)) (l.drop i) := by
 subst ha
 obtain ⟨v, o, p, B, y, t⟩ := h
 cases p
 refine ⟨_, cap - i, by rw [List.length_drop], by rw [List.length_drop]; omega, by omega, fun j x k => ?_⟩
 rw [List.getElem?_drop] at k
 have q := (List.getElem?_eq_some_iff.1 k).1
 obtain ⟨u, f, cs, e1, e2, e3, e4⟩ := t (i + j) x k
 subst e1
 refine ⟨u, f + i * e.sz, cs, ?_, e2, by rw [Nat.add_assoc, <- Nat.add_mul]; exact e3, e4⟩
 unfold Ba
 rw [decide_eq_false AA, if_neg AH]
 simp [Addr.add_mid]
section
variable {P : Program} {o : Oper} {a : Act} {w : World} {K : Act -> World -> Prop} {Q : Exit -> Act -> World -> Prop}
theorem OG {e : El α} (R : RowT e T t bytes) (ho : o.op = .buildSlice T 0 #[])
 (h : ∀ b w', b = w.heap.size -> w'.heap.size = w.heap.size + 1 -> Below w.heap.size w w' -> Bx w' b t [] -> K (a.put o.dst (.slice (some ⟨b, 0, none⟩) 0 0)) w') : o.wp prog a w K Q := by
 obtain ⟨i, z, e1, e2, e3, e4, e5, e6⟩ := R.info
 refine DV (v := .slice (some ⟨w.heap.size, 0, none⟩) 0 0) (w' := w.alloc (.cells #[] t)) ?_ (h _ _ O AH ((Below.refl _ _).alloc (Nat.le_refl _) _) (KS w t []))
 unfold execOp; rw [ho]
 have f : Array.map (fun _ : Nat => (default : Value)) (Array.range 0) = #[] := by simp
 simp [Instr.buildSlice, run_underlying R.ht, sizeOf, typeInfo, e1, Instr.fill, newRow, newObj, f]
 rfl
theorem GZ {s : ByteArray} (ho : o.op = .buildSlice 30 1 #[(0, x)]) (hx : a.eval x = .string s)
 (h : ∀ b w', b = w.heap.size -> w'.heap.size = w.heap.size + 1 -> Below w.heap.size w w' -> Bx w' b 9 [.string s] -> K (a.put o.dst (.slice (some ⟨b, 0, none⟩) 1 1)) w') : o.wp prog a w K Q := by
 refine DV (v := .slice (some ⟨w.heap.size, 0, none⟩) 1 1) (w' := w.alloc (.cells #[.string s] 9)) ?_ (h _ _ O AH ((Below.refl _ _).alloc (Nat.le_refl _) _) (KS w _ [.string s]))
 unfold execOp; rw [ho]
 have f : ∀ w, (zeroValue 9).run prog w = .ok (.string ByteArray.empty) w := fun w => by kernel_rfl
 have k : ∀ w, (sizeOf 9).run prog w = .ok 1 w := fun w => by kernel_rfl
 have l : Instr.fill (fun i => some (i * 1, 1)) #[(default : Value)] [(0, Value.string s)] = some #[.string s] := rfl
 have e : Instr.fill (fun i => some (i * 1, 1)) #[Value.string ByteArray.empty] [(0, Value.string s)] = some #[.string s] := rfl
 have p : ∀ z : Value, Array.map (fun _ : Nat => z) (Array.range 1) = #[z] := fun z => by rw [show Array.range 1 = #[0] by decide]; simp
 simp only [Nat.mul_one] at l e
 simp [Instr.buildSlice, run_underlying underlying30, k, f, hx, Value.cells, Nat.mod_one, p, e, newRow, newObj]
 rfl
theorem LL {z : Value} (hz : (P.info? T).map (fun i => i.zero) = some (some z)) (hc : z.cells = #[z]) (ho : o.op = .alloc T)
 (h : ∀ b w', b = w.heap.size -> w'.heap.size = w.heap.size + 1 -> Below w.heap.size w w' -> Bx w' b T [z] -> K (a.put o.dst (.pointer (some ⟨b, 0, none⟩))) w') : o.wp P a w K Q := by
 refine DV (v := .pointer (some ⟨w.heap.size, 0, none⟩)) (w' := w.alloc (.cells #[z] T)) ?_ (h _ _ O AH ((Below.refl _ _).alloc (Nat.le_refl _) _) (KS w T [z]))
 unfold execOp; rw [ho]
 cases e : P.info? T with
 | none => simp [e] at hz
 | some i =>
   simp [e] at hz
   simp [Instr.alloc, zeroValue, typeInfo, e, hz, newVar, newRow, Sem.run_bind, hc, newObj]
   rfl
theorem vX (ho : o.op = .box T x) (hx : a.eval x = v) (hc : v.cells = #[v])
 (h : ∀ b w', b = w.heap.size -> w'.heap.size = w.heap.size + 1 -> Below w.heap.size w w' -> Bx w' b T [v] -> K (a.put o.dst (.pointer (some ⟨b, 0, none⟩))) w') : o.wp P a w K Q := by
 refine DV (v := .pointer (some ⟨w.heap.size, 0, none⟩)) (w' := w.alloc (.cells #[v] T)) ?_ (h _ _ O AH ((Below.refl _ _).alloc (Nat.le_refl _) _) (KS w T [v]))
 unfold execOp; rw [ho]
 simp [Instr.box, hx, newVar, newRow, hc, newObj]
 rfl
theorem IS {TB : Nat} {cs ds cs' : List Value} (hA : Ag P T n zs) (ho : o.op = .store T x y) (hx : a.eval x = .pointer (some ⟨b, i, none⟩)) (hy : a.eval y = .agg ds.toArray)
 (hb : Bx w b TB cs) (hd : ds.length = n) (hi : i + n <= cs.length) (h1 : ∀ v ∈ ds, v.oneCell' = true) (hcs : cs.take i ++ ds ++ cs.drop (i + n) = cs')
 (h : ∀ w', Onl b w w' -> Bx w' b TB cs' -> K (a.put o.dst undef) w') : o.wp P a w K Q := by
 subst hcs
 have e := hA.size
 have k := run_storeCells_at (P := P) b i TB ds 0 cs.toArray w hb (by simp; omega) h1
 simp only [Nat.add_zero, hd] at k
 unfold Oper.wp execOp
 cases f : P.info? T with
 | none => simp [f] at e
 | some inf =>
   simp [f] at e
   simp only [ho, hx, hy, Instr.storeAt, Instr.sureAddr, Sem.run_bind, Sem.run_pure, Result.andThen_ok, storeVar, Value.cells, sizeOf, typeInfo]
   simp [f, e, hd, k, Oper.upon]
   exact h _ (NJ _ _ _) (by simpa using XZ hb _)
end
def pT (w0 : World) (F : World -> Value -> Prop) (e : Ending) (w' : World) : Prop := ∃ v, e = .returned v /\ F w' v /\ Below w0.heap.size w0 w'
section
variable {P : Program} {o : Oper} {a : Act} {w : World} {K : Act -> World -> Prop} {Q : Exit -> Act -> World -> Prop} {f : Nat} {args : List Operand} {tys : Array TypeId} {vs : List Value} {l : List SF}
theorem DE {F : World -> Value -> Prop} (hf : Fn P f) (ho : o.op = .call { callee := .value (.func f), args := args.toArray, argTypes := tys }) (hc : Calls P f vs.toArray w (pT w F)) (hv : args.map a.eval = vs) (E : Env w l)
 (h : ∀ w' v, Below w.heap.size w w' -> F w' v -> Env w' l -> K (a.put o.dst v) w') : o.wp P a w K Q := by
 refine CZ hf ho hc hv ?_
 rintro e w' ⟨v, rfl, p, k⟩
 exact ⟨_, rfl, h w' v k p (E.below k)⟩
end
def NewP (w0 : World) (p : List Tm) (w' : World) (v : Value) : Prop := IsR JQ (EM w0.heap.size w'.heap.size) w' v p
def Ai (w0 : World) (p : List Tm) : Ending -> World -> Prop := pT w0 (NewP w0 p)
def E5 (w0 : World) (p : List Tm) (c : Int) : Ending -> World -> Prop := pT w0 fun w' v => ∃ u, v = .tuple #[u, .int .i64 c] /\ NewP w0 p w' u
def Se (w0 : World) (r : Rd) : Ending -> World -> Prop := pT w0 fun w' v => ∃ u, v = .tuple #[u, .int .i64 ↑r.2.1, .int .i64 ↑r.2.2] /\ NewP w0 r.1 w' u
theorem JD {f : SF} (E : Env w L) (h : f.p w) : Env w (f :: L) := ⟨h, E⟩
theorem TJ {o c : Nat} {cs : List Value} (h : c ≠ b) : (fC b o cs).ok c := h
theorem FV {e : El α} {l : List α} {c : Nat} (h : ¬ S c) : (fR e S v l).ok c := h
theorem IsR.low {e : El α} {l : List α} (h : (fR e S v l).p w) : IsR e (DL w.heap.size) w v l := h.1.mono h.2
theorem DZ (w : World) : ∀ k, DL w.heap.size k -> k < w.heap.size := fun _ h => h
theorem RO (w : World) : ∀ k, WW k -> k < w.heap.size := fun _ g => g.elim
theorem Fv {a : Nat} : ∀ k, WW k -> EM a b k := fun _ g => g.elim
theorem vY {w1 w2 w3 : World} {p : List Tm} (h : (fR JQ (EM w1.heap.size w2.heap.size) v p).p w3) (h1 : w0.heap.size <= w1.heap.size) : NewP w0 p w3 v := h.1.mono fun k hk => ⟨Nat.le_trans h1 hk.1, h.2 k hk⟩
theorem qB {p : List Tm} (h : Acc JQ 88 base WW w v p) (hb : w0.heap.size <= base) : NewP w0 p w v := h.row Fv fun _ h1 h2 _ => ⟨Nat.le_trans hb h1, h2⟩
end Go.Proofs.YtmppigbbkjepiaaGreatDoor
