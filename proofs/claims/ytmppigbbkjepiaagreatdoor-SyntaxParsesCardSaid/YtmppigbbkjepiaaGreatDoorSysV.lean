/- Helping facts of KitM; no other conditions. Helping facts of SysL; no other conditions. Helping facts of KitH; no other conditions. Helping facts of Sys; no other conditions. Helping facts of SysV; no other conditions. -/
import Derived.Test.YtmppigbbkjepiaaGreatDoorNames
import Derived.Carry
import Derived.MapKept
import Derived.Test.YtmppigbbkjepiaaGreatDoorShelf
namespace Go.Proofs.YtmppigbbkjepiaaGreatDoor
open Go.Proofs.Tryz
open Go.RowKit W
variable {P : Program} {S : Nat -> Prop} {T e k : TypeId} {a b c d i id j n next : Nat} {base ids : List Nat} {o : Oper} {p : Prop} {u v : Option Addr} {w : World} {x y : Operand} {α : Type} {ρ : Operand -> Value}
theorem YtH (h : p := by simp only; omega) : p := h
def SetM {α : Type} (mk : α -> Value) (w : World) (b : Nat) (ks : List α) : Prop := ∃ es clock, w.heap[b]? = some (.map es clock) /\ es.toList.map (fun e => (e.key, e.val)) = ks.map fun x => (mk x, Value.bool true)
theorem SetM.of {mk : α -> Value} {w' : World} {ks : List α} (h : SetM mk w b ks) (hb : w'.heap[b]? = w.heap[b]?) : SetM mk w' b ks := by
 obtain ⟨k, c, f, e⟩ := h
 exact ⟨k, c, hb.trans f, e⟩
theorem SetM.lt {mk : α -> Value} {ks : List α} (h : SetM mk w b ks) : b < w.heap.size := by
 obtain ⟨f, c, e, _⟩ := h
 exact (Array.getElem?_eq_some_iff.1 e).1
theorem SetM.noW {mk : α -> Value} {ks : List α} (h : SetM mk w b ks) : Av w b := by
 obtain ⟨k, c, f, _⟩ := h
 intro o n e
 simp [World.cell?, f] at e
def fM {α : Type} (mk : α -> Value) (b : Nat) (ks : List α) : SF := ⟨fun w => SetM mk w b ks, fun c => c ≠ b, fun h hb => h.of (hb.block b h.lt), fun h _ ho hb => h.of (hb.block b (Ne.symm ho))⟩
theorem okM {mk : α -> Value} {ks : List α} (h : c ≠ b) : (fM mk b ks).ok c := h
theorem Env.m {mk : α -> Value} {ks : List α} {L : List SF} (E : Env w L) (h : SetM mk w b ks) : Env w (fM mk b ks :: L) := ⟨h, E⟩
structure KeyT {α : Type} (P : Program) (T k e : TypeId) (d : TypeDesc) (mk : α -> Value) (eq : α -> α -> Bool) : Prop where
 ht : P.underlying T = some (.map k e)
 hk : P.underlying k = some d
 hd : d = .string ∨ ∃ q, d = .int q
 he : ∀ w, (zeroValue e).run P w = .ok (.bool false) w
 eq : ∀ x y, Instr.sameNow d (mk x) (mk y) = some (eq x y)
theorem KeyT.check {d : TypeDesc} {mk : α -> Value} {eq : α -> α -> Bool} (K : KeyT P T k e d mk eq) (b : Bool) (v : Value) (w : World) : (Instr.checkKey b 10000 k v).run P w = .ok () w := by
 unfold Instr.checkKey
 rw [Sem.run_bind, run_underlying K.hk w]
 rcases K.hd with rfl | ⟨q, rfl⟩ <;> simp
theorem yT {α : Type} {d : TypeDesc} {mk : α -> Value} {eq : α -> α -> Bool} (heq : ∀ x y, Instr.sameNow d (mk x) (mk y) = some (eq x y)) {x : α} : ∀ (es : List MapEntry) (ks : List α) (i : Nat), es.map (fun e => (e.key, e.val)) = ks.map (fun y => (mk y, Value.bool true)) ->
 (ks.any (eq x) = true -> ∃ j, Instr.findNow d (mk x) es i = some (some (j, .bool true))) /\ (ks.any (eq x) = false -> Instr.findNow d (mk x) es i = some none)
 | [], [], i, _ => ⟨fun h => by simp at h, fun _ => rfl⟩
 | [], _ :: _, i, h => by simp at h
 | _ :: _, [], i, h => by simp at h
 | e :: es, y :: ks, i, h => by
   simp only [List.map_cons, List.cons.injEq, Prod.mk.injEq] at h
   obtain ⟨⟨h1, h2⟩, h3⟩ := h
   obtain ⟨g1, g2⟩ := yT heq (x := x) es ks (i + 1) h3
   simp only [Instr.findNow, h1, h2, heq, List.any_cons]
   cases hxy : eq x y with
   | true => exact ⟨fun _ => ⟨i, rfl⟩, fun h => by simp at h⟩
   | false => exact ⟨fun h => g1 (by simpa using h), fun h => g2 (by simpa using h)⟩
theorem rO {e : TypeId} {d : TypeDesc} {mk : α -> Value} {eq : α -> α -> Bool} (K : KeyT P T k e d mk eq) {es : List MapEntry} {ks : List α} {v : α} (h : es.map (fun e => (e.key, e.val)) = ks.map fun x => (mk x, Value.bool true)) :
 (ks.any (eq v) = true -> ∃ j, (Instr.findKey k (mk v) es).run P w = .ok (some (j, .bool true)) w) /\ (ks.any (eq v) = false -> (Instr.findKey k (mk v) es).run P w = .ok none w) := by
 obtain ⟨p, o⟩ := yT K.eq (x := v) es ks 0 h
 constructor
 . intro f
   obtain ⟨j, l⟩ := p f
   exact ⟨j, by unfold Instr.findKey; rw [Sem.run_bind, run_underlying K.hk w]; simp [l]⟩
 intro f
 unfold Instr.findKey
 rw [Sem.run_bind, run_underlying K.hk w]
 simp [o f]
theorem LO {d : TypeDesc} {mk : α -> Value} {eq : α -> α -> Bool} (K : KeyT P T k e d mk eq) {ks : List α} {v : α} {c : Bool}
 (ho : o.op = .lookup T x y false) (hx : ρ x = .map (some b)) (hy : ρ y = mk v) (h : SetM mk w b ks) (hc : ks.any (eq v) = c) : (execOp ρ o).run P w = .ok (.value (.bool c)) w := by
 obtain ⟨u, cl, p, l⟩ := h
 obtain ⟨t, q⟩ := rO K (w := w) (v := v) l
 have hg : (getObj b).run P w = .ok (.map u cl) w := by simp [getObj, Sem.run, p]
 unfold execOp; rw [ho]
 cases c with
 | true =>
   obtain ⟨j, f⟩ := t hc
   simp [hx, hy, Instr.lookup, run_underlying K.ht, hg, K.check, f]
 | false =>
   simp [hx, hy, Instr.lookup, run_underlying K.ht, hg, K.check, q hc, K.he]
section
variable {o : Oper} {a : Act} {w : World} {K : Act -> World -> Prop} {Q : Exit -> Act -> World -> Prop}
theorem ZK (mk : α -> Value) (ho : o.op = .makeMap T none)
 (h : ∀ b w', b = w.heap.size -> w'.heap.size = w.heap.size + 1 -> Below w.heap.size w w' -> SetM mk w' b [] -> K (a.put o.dst (.map (some b))) w') : o.wp P a w K Q := by
 refine DV (v := .map (some w.heap.size)) (w' := w.alloc (.map #[] 0)) ?_ (h _ _ O AH ((Below.refl _ _).alloc (Nat.le_refl _) _) ⟨#[], 0, heap_alloc_new w _, O⟩)
 unfold execOp; rw [ho]
 simp [run_makeMap]
theorem JT {d : TypeDesc} {mk : α -> Value} {eq : α -> α -> Bool} (KT : KeyT P T k e d mk eq) {z : Operand} {ks : List α} {v : α} (ho : o.op = .mapUpdate T x y z) (hx : a.eval x = .map (some b)) (hy : a.eval y = mk v) (hz : a.eval z = .bool true)
 (hs : SetM mk w b ks) (hc : ks.any (eq v) = false) (h : ∀ w', Onl b w w' -> SetM mk w' b (ks ++ [v]) -> K (a.put o.dst undef) w') : o.wp P a w K Q := by
 obtain ⟨p, cl, l, q⟩ := hs
 obtain ⟨_, B⟩ := rO KT (w := w) (v := v) q
 have f := (Array.getElem?_eq_some_iff.1 l).1
 have hg : (getObj b).run P w = .ok (.map p cl) w := by simp [getObj, Sem.run, l]
 have t : (Instr.mapUpdate T (.map (some b)) (mk v) (.bool true)).run P w = .ok () { w with heap := w.heap.setIfInBounds b (.map (p.push { key := mk v, val := .bool true, born := cl }) (cl + 1)) } := by
  simp [Instr.mapUpdate, run_underlying KT.ht, hg, KT.check, B hc, setObj, Sem.run, l]
 unfold Oper.wp execOp
 simp only [ho, hx, hy, hz, Sem.run_bind, t]
 refine h _ ⟨O, O, O, by simp, fun j u => by simp [Ne.symm u]⟩ ⟨p.push { key := mk v, val := .bool true, born := cl }, cl + 1, by simp [f], by simp [q]⟩
end
def mkS (x : Bs) : Value := .string (bs x)
def mkN (n : Nat) : Value := .int .i64 ↑n
theorem C9 (a b : Bs) : (bs a == bs b) = decide (a = b) := by
 rw [Bool.eq_iff_iff, MapKept.bytes_beq, decide_eq_true_eq]
 exact ⟨vH, fun h => by rw [h]⟩
theorem F0 : KeyT prog 150 9 4 .string mkS (fun x y => decide (x = y)) := ⟨underlying150, underlying9, .inl rfl, fun w => by kernel_rfl, fun x y => by unfold mkS Instr.sameNow; simp only [C9]⟩
theorem qV : KeyT prog 151 3 4 (.int .i64) mkN (fun x y => decide (x = y)) := ⟨underlying151, underlying3, .inr ⟨_, rfl⟩, fun w => by kernel_rfl, fun x y => by
 unfold mkN Instr.sameNow
 simp only [if_true, Option.some.injEq]
 rw [Bool.eq_iff_iff, beq_iff_eq, decide_eq_true_eq]; omega⟩
theorem Hl [DecidableEq α] {ks : List α} {x : α} (h : x ∈ ks) : (ks.any fun y => decide (x = y)) = true := List.any_eq_true.2 ⟨x, h, by simp⟩
theorem QE [DecidableEq α] {ks : List α} {x : α} (h : x ∉ ks) : (ks.any fun y => decide (x = y)) = false := by
 rw [List.any_eq_false]
 intro y f e
 simp at e
 subst e; exact h f
theorem Es {m : List Nat} {i : Nat} (h : 0 < me m i) : ∀ k, i < k -> 2 ^ i <= TN m k
 | 0, hk => absurd hk (Nat.not_lt_zero _)
 | k + 1, hk => by
   unfold TN
   by_cases e : i = k
   . subst e; rw [if_pos h]; exact Nat.right_le_or
   have := Es h k AA
   split
   . exact Nat.le_trans this Nat.left_le_or
   exact this
theorem rJ {m : List Nat} {n : Nat} (h : within n m) : ∀ k, TN m (n + k) = TN m n
 | 0 => rfl
 | k + 1 => by
   rw [<- Nat.add_assoc, <- Mm (by rw [h (n + k) AA]; omega)]; exact rJ h k
theorem wM {m : List Nat} (hm : FC m) : TN m 8 < 2 ^ n ↔ within n m := by
 constructor
 . intro h i k
   by_cases f : i < 8
   . rcases Nat.eq_zero_or_pos (me m i) with e | e
     . exact e
     have o := Es e 8 f
     have l := Nat.pow_le_pow_right (n := 2) AE k
     omega
   unfold me; simp [List.getD_eq_getElem?_getD, List.getElem?_eq_none (by rw [hm.1]; omega : m.length <= i)]
 intro h
 by_cases f : n <= 8
 . have := rJ h (8 - n)
   rw [show n + (8 - n) = 8 by omega] at this
   rw [this]; exact lJ m n
 exact Nat.lt_trans (lJ m 8) (Nat.pow_lt_pow_right AE AA)
theorem or_lt : a ||| b < 2 ^ n ↔ a < 2 ^ n /\ b < 2 ^ n :=
 ⟨fun h => ⟨Nat.lt_of_le_of_lt Nat.left_le_or h, Nat.lt_of_le_of_lt Nat.right_le_or h⟩, fun h => Nat.or_lt_two_pow h.1 h.2⟩
theorem eT {p : List Tm} (hp : JS p) : IA p < 2 ^ n ↔ ∀ t ∈ p, within n t.2 := by
 have h : ∀ (p : List Tm) (s : Nat), (∀ t ∈ p, FC t.2) -> (p.foldl (fun s t => s ||| TN t.2 8) s < 2 ^ n ↔ s < 2 ^ n /\ ∀ t ∈ p, within n t.2) := by
  intro p
  induction p with
  | nil => intro s _; simp
  | cons t p ih =>
    intro s l
    rw [List.foldl_cons, ih _ (fun u o => l u (by simp [o])), or_lt, wM (l t AH)]
    simp only [List.mem_cons, forall_eq_or_imp]
    constructor
    . rintro ⟨⟨k, f⟩, e⟩; exact ⟨k, f, e⟩
    rintro ⟨k, f, e⟩; exact ⟨⟨k, f⟩, e⟩
 have := h p 0 (fun t q => (hp.1 t q).2)
 unfold IA
 rw [this]
 exact ⟨fun h => h.2, fun h => ⟨Nat.two_pow_pos n, h⟩⟩
structure Sy where
 vars : List Bs
 eqs : List (Nat × List Tm)
 neqs : List (Nat × List Tm)
 next : Nat
def PJ (n : Nat) (p : List Tm) : Bool := decide (IA p < 2 ^ n) && decide (QQ p <= 12)
def GT (l : List (Nat × List Tm)) : List Nat := l.map (·.1)
def LG (n next : Nat) (l : List (Nat × List Tm)) : Bool := decide (l.length <= 12) && (l.all fun e => decide (1 <= e.1) && decide (e.1 < next) && PJ n e.2) && decide ((GT l).Pairwise (· < ·))
def LD (s : Sy) : Bool := DM 4 s.vars && decide (1 <= s.next) && decide (s.next <= 1000000) && LG s.vars.length s.next s.eqs && LG s.vars.length s.next s.neqs && decide (∀ i ∈ GT s.eqs, i ∉ GT s.neqs)
def TH (l : List (Nat × List Tm)) : Prop := ∀ e ∈ l, JS e.2 /\ (∀ t ∈ e.2, FitQ t.1 1000000) /\ e.2.length <= 1000000
theorem eY {s : Sy} (h : DM 4 s.vars = false) : LD s = false := by simp [LD, h]
theorem wL {s : Sy} (h : s.next < 1 ∨ 1000000 < s.next) : LD s = false := by
 unfold LD
 rcases h with h | h
 . simp [show ¬ 1 <= s.next by omega]
 simp [show ¬ s.next <= 1000000 by omega]
def oF (n next : Nat) (l : List (Nat × List Tm)) (i : Nat) : Prop := (∀ e ∈ l.take i, 1 <= e.1 /\ e.1 < next /\ PJ n e.2 = true) /\ (GT (l.take i)).Pairwise (· < ·)
theorem Cx (n next : Nat) (l : List (Nat × List Tm)) : oF n next l 0 := ⟨fun e h => by simp at h, by simp [GT]⟩
theorem SO (l : List (Nat × List Tm)) (e : Nat × List Tm) : GT (l ++ [e]) = GT l ++ [e.1] := by simp [GT]
theorem Ue {l : List Nat} {a : Nat} (h : (l ++ [a]).Pairwise (· < ·)) : ∀ x ∈ l ++ [a], x <= a := by
 intro x e
 rcases List.mem_append.1 e with g | g
 . exact Nat.le_of_lt ((List.pairwise_append.1 h).2.2 x g a AH)
 simp at g; omega
theorem oE {l : List (Nat × List Tm)} {p : List Tm} (h : oF n next l i) (hx : l[i]? = some (id, p)) (h1 : 1 <= id) (h2 : id < next) (h3 : PJ n p = true) (hp : 0 < i -> ∀ id' p', l[i - 1]? = some (id', p') -> id' < id) : oF n next l (i + 1) := by
 unfold oF
 rw [KK hx]
 refine ⟨fun e t => ?_, ?_⟩
 . rcases List.mem_append.1 t with g | g
   . exact h.1 e g
   simp at g; subst g; exact ⟨h1, h2, h3⟩
 rw [SO, List.pairwise_append]
 refine ⟨h.2, by simp, fun x f y k => ?_⟩
 simp at k; subst k
 cases i with
 | zero => simp [GT] at f
 | succ i =>
   have u := (List.getElem?_eq_some_iff.1 hx).1
   obtain ⟨⟨id', p'⟩, o⟩ : ∃ e, l[i]? = some e := ⟨_, List.getElem?_eq_getElem AA⟩
   have v := hp AA id' p' (by simpa using o)
   have q := h.2
   rw [KK o, SO] at q f
   have := Ue q x f
   simp at this; omega
theorem Vd {l : List (Nat × List Tm)} (h : l.length > 12) : LG n next l = false := by simp [LG, show ¬ l.length <= 12 by omega]
theorem uQ {l : List (Nat × List Tm)} {p : List Tm} (hx : l[i]? = some (id, p)) (h : id < 1 ∨ next <= id ∨ PJ n p = false) : LG n next l = false := by
 cases e : LG n next l with
 | false => rfl
 | true =>
   unfold LG at e
   simp only [Bool.and_eq_true, decide_eq_true_eq, List.all_eq_true] at e
   have := e.1.2 _ (List.mem_of_getElem? hx)
   simp only at this
   rcases h with h | h | h
   . omega
   . omega
   rw [h] at this; simp at this
theorem Gb {l : List (Nat × List Tm)} {id' : Nat} {p p' : List Tm} (hx : l[i]? = some (id, p)) (hy : l[j]? = some (id', p')) (hij : j < i) (h : id <= id') : LG n next l = false := by
 cases e : LG n next l with
 | false => rfl
 | true =>
   unfold LG at e
   simp only [Bool.and_eq_true, decide_eq_true_eq] at e
   have y := e.2
   have u := (List.getElem?_eq_some_iff.1 hx)
   have t := (List.getElem?_eq_some_iff.1 hy)
   obtain ⟨q, o⟩ := u
   obtain ⟨k, f⟩ := t
   have v := (List.pairwise_iff_getElem.1 y) j i (by simpa [GT] using k) (by simpa [GT] using q) hij
   simp [GT, o, f] at v
   omega
theorem Vc {l : List (Nat × List Tm)} (h : oF n next l i) (hi : ¬ i < l.length) (hl : ¬ l.length > 12) : LG n next l = true := by
 unfold oF at h
 rw [KC hi] at h
 unfold LG
 simp only [Bool.and_eq_true, decide_eq_true_eq, List.all_eq_true]
 exact ⟨⟨by omega, fun e f => ⟨⟨(h.1 e f).1, (h.1 e f).2.1⟩, (h.1 e f).2.2⟩⟩, h.2⟩
def Gc (s : Sy) (j : Nat) (l : List (Nat × List Tm)) (base : List Nat) : Prop := (j = 0 /\ l = s.eqs /\ base = []) ∨ (j = 1 /\ l = s.neqs /\ base = GT s.eqs /\ LG s.vars.length s.next s.eqs = true)
theorem YI {s : Sy} {l : List (Nat × List Tm)} (h : Gc s j l base) (hl : LG s.vars.length s.next l = false) : LD s = false := by
 unfold LD
 rcases h with ⟨_, rfl, _⟩ | ⟨_, rfl, _⟩ <;> simp [hl]
theorem Vo {l : List (Nat × List Tm)} (h : id ∈ GT l) : ∃ (j : Nat) (p : List Tm), l[j]? = some (id, p) := by
 unfold GT at h
 obtain ⟨⟨a, p⟩, f, rfl⟩ := List.mem_map.1 h
 obtain ⟨j, e⟩ := List.getElem?_of_mem f
 exact ⟨j, p, e⟩
theorem Te {s : Sy} {l : List (Nat × List Tm)} {p : List Tm} (h : Gc s j l base) (hx : l[i]? = some (id, p)) (hd : id ∈ base ++ GT (l.take i)) : LD s = false := by
 have own : id ∈ GT (l.take i) -> LD s = false := by
  intro g
  obtain ⟨k, q, o⟩ := Vo g
  have e : k < i := by
   have := (List.getElem?_eq_some_iff.1 o).1
   simp at this; omega
  rw [List.getElem?_take, if_pos e] at o
  exact YI h (Gb hx o e (Nat.le_refl _))
 rcases List.mem_append.1 hd with g | g
 . rcases h with ⟨_, _, rfl⟩ | ⟨_, rfl, rfl, _⟩
   . cases g
   unfold LD
   have : ¬ ∀ i ∈ GT s.eqs, i ∉ GT s.neqs := fun f => f id g (by unfold GT; exact List.mem_map.2 ⟨_, List.mem_of_getElem? hx, rfl⟩)
   simp [this]
 exact own g
theorem Ep {s : Sy} (h1 : DM 4 s.vars = true) (h2 : ¬ s.next < 1) (h3 : ¬ s.next > 1000000) (h4 : LG s.vars.length s.next s.eqs = true) (h5 : LG s.vars.length s.next s.neqs = true) (h6 : ∀ i ∈ GT s.neqs, i ∉ GT s.eqs) : LD s = true := by
 unfold LD
 simp only [Bool.and_eq_true, decide_eq_true_eq]
 exact ⟨⟨⟨⟨⟨h1, by omega⟩, by omega⟩, h4⟩, h5⟩, fun i f e => h6 i e f⟩
theorem bX {ao : Option Addr} {cap : Nat} {l : List Bs} (h : IsR elS S w (.slice ao n cap) l) (hl : l ≠ []) : n = l.length /\ n <= cap /\ cap <= maxLen /\ ∃ b off, ao = some ⟨b, off, none⟩ /\ S b /\ ∀ j x, l[j]? = some x -> w.cell? ⟨b, off + j, none⟩ = some (.string (bs x)) := by
 obtain ⟨_, _, o, q, p⟩ := h.shp
 cases o
 refine ⟨O, q, p, ?_⟩
 cases l with
 | nil => exact absurd rfl hl
 | cons x0 r =>
   obtain ⟨b, off, _, e1, e2, _, _⟩ := h.at (i := 0) (x := x0) rfl
   refine ⟨b, off, e1, e2, fun j x k => ?_⟩
   obtain ⟨t, f, cs, e3, _, e4, e5⟩ := h.at k
   rw [e1] at e3
   cases e3
   have e : cs = [.string (bs x)] := e5
   subst e
   have := e4 0 _ rfl
   rw [show elS.sz = 1 from rfl, Nat.mul_one] at this
   exact this
theorem Vm (l : List Bs) (x : Bs) : Lib.idxOfS (l.map bs) (bs x) = aO l x := by
 by_cases h : x ∈ l
 . obtain ⟨i, p, k⟩ := sG h
   unfold aO
   rw [p]
   rw [List.idxOf?, List.findIdx?_eq_some_iff_getElem] at p
   obtain ⟨_, v, u⟩ := p
   have q : l[i] = x := by simpa using v
   have := Lib.idxOfS_hit (l.map bs) (l.map bs).length i (bs x) (by simpa using k) (Nat.le_refl _) (by simp [List.getD_eq_getElem?_getD, k, q]) (fun j o => by
    have f : j < l.length := by omega
    have t : ¬ l[j] = x := by simpa using u j o
    simp only [List.getD_eq_getElem?_getD, List.getElem?_map, List.getElem?_eq_getElem f, Option.map_some, Option.getD_some]
    exact fun e => t (vH e))
   rw [List.take_length] at this
   exact this
 rw [bW h]
 have := Lib.idxOfS_miss (l.map bs) (l.map bs).length (bs x) (fun j o => by
  have f : j < l.length := by simpa using o
  simp only [List.getD_eq_getElem?_getD, List.getElem?_map, List.getElem?_eq_getElem f, Option.map_some, Option.getD_some]
  exact fun e => h (vH e ▸ List.getElem_mem f))
 rw [List.take_length] at this
 exact this
theorem zD {off : Nat} {l : List Bs} (h : ∀ (j : Nat) x, l[j]? = some x -> w.cell? ⟨b, off + j, none⟩ = some (.string (bs x))) : ∀ j, j < (l.map bs).length -> w.cell? ⟨b, off + j, none⟩ = some (.string ((l.map bs).getD j ByteArray.empty)) := by
 intro j f
 have e : j < l.length := by simpa using f
 rw [h j l[j] (List.getElem?_eq_getElem e)]
 simp [List.getD_eq_getElem?_getD, e]
theorem Hy (v : Value) (l : List Bs) (x : Bs) (w : World) (h : IsR elS (DL w.heap.size) w v l) : Calls prog 125 #[v, .string (bs x)] w (VI w (aO l x)) := by
 obtain ⟨u, f, rfl, B, t⟩ := h.shp
 by_cases o : l = []
 . subst o
   refine (Tryz.slices_Index_string_empty u f (bs x) w).mono ?_
   rintro e p ⟨rfl, rfl⟩
   exact ⟨by rw [bW AH]; rfl, Below.refl _ _⟩
 obtain ⟨_, _, _, b, k, rfl, _, q⟩ := bX h o
 have y : (l.map bs).length = l.length := List.length_map _
 have := Tryz.slices_Index_string b k l.length f (l.map bs) (bs x) w AA (by unfold maxLen at t; omega) (zD q)
 refine this.mono ?_
 rintro e p ⟨rfl, rfl⟩
 refine ⟨?_, Below.refl _ _⟩
 rw [List.take_of_length_le AA, Vm]
theorem qA (v : Value) (l : List Bs) (x : Bs) (w : World) (h : IsR elS (DL w.heap.size) w v l) : Calls prog 79 #[v, .string (bs x)] w (LN w (decide (x ∈ l))) := by
 obtain ⟨u, f, rfl, C, t⟩ := h.shp
 by_cases o : l = []
 . subst o
   refine (Tryz.slices_Contains_string_empty u f (bs x) w).mono ?_
   rintro e p ⟨rfl, rfl⟩
   exact ⟨by simp, Below.refl _ _⟩
 obtain ⟨_, _, _, b, k, rfl, _, q⟩ := bX h o
 have B : (l.map bs).length = l.length := List.length_map _
 have := Tryz.slices_Contains_string b k l.length f (l.map bs) (bs x) w AA (by unfold maxLen at t; omega) (zD q)
 refine this.mono ?_
 rintro e p ⟨rfl, rfl⟩
 refine ⟨?_, Below.refl _ _⟩
 rw [List.take_of_length_le AA]
 congr 2
 rw [Bool.eq_iff_iff, Lib.containsS_iff, decide_eq_true_eq, List.mem_map]
 exact ⟨fun ⟨y, hy, e⟩ => vH e ▸ hy, fun h => ⟨x, h, rfl⟩⟩
section
variable {P : Program} {ρ : Operand -> Value} {o : Oper} {w : World} {t t' : TypeId} {x y : Operand}
theorem ZY {k yk : IntKind} {m : Nat} {c : Int} (ho : o.op = .binOp .shr t x y t') (hx : ρ x = .int k ((m : Nat) : Int)) (hy : ρ y = .int yk ((n : Nat) : Int)) (hc : ((m / 2 ^ (min n k.bits) : Nat) : Int) = c) : (execOp ρ o).run P w = .ok (.value (.int k c)) w := by
 subst hc
 unfold execOp; rw [ho]
 have e : ¬ ((n : Int) < 0) := by omega
 simp only [hx, hy, eqGuard_at_int, binOp_shr, Op.shift, if_neg e, Int.toNat_natCast]
 simp only [Sem.run_bind, Sem.run_pure, Result.andThen_ok]
 congr 3
 rw [Int.fdiv_eq_ediv_of_nonneg _ (by exact Int.pow_nonneg AE)]
 simp
end
theorem ZW {m : Nat} (hm : m < 2 ^ b) : (((m / 2 ^ (min n b) : Nat) : Int) == 0) = decide (m < 2 ^ n) := by
 rw [Bool.eq_iff_iff, beq_iff_eq, decide_eq_true_eq]
 have f := Nat.two_pow_pos (min n b)
 have h : m / 2 ^ (min n b) = 0 ↔ m < 2 ^ (min n b) := by rw [Nat.div_eq_zero_iff]; omega
 have k : m < 2 ^ (min n b) ↔ m < 2 ^ n := by
  by_cases e : n <= b
  . rw [Nat.min_eq_left e]
  rw [Nat.min_eq_right AA]
  have := Nat.pow_lt_pow_right (a := 2) AE (show b < n by omega)
  omega
 omega
theorem Tr {m : Nat} (ho : o.op = .buildSlice 152 2 #[(0, x), (1, y)]) (hx : ρ x = .slice u m c) (hy : ρ y = .slice v n d) :
 (execOp ρ o).run prog w = .ok (.value (.slice (some ⟨w.heap.size, 0, none⟩) 2 2)) (w.alloc (.cells #[.slice u m c, .slice v n d] 46)) := by
 unfold execOp; rw [ho]
 simp [go_sem, Instr.buildSlice, hx, hy]
theorem Au {a : Act} {K : Act -> World -> Prop} {Q : Exit -> Act -> World -> Prop} {m : Nat} (ho : o.op = .buildSlice 152 2 #[(0, x), (1, y)]) (hx : a.eval x = .slice u m c) (hy : a.eval y = .slice v n d)
 (h : ∀ b w', b = w.heap.size -> w'.heap.size = w.heap.size + 1 -> Below w.heap.size w w' -> Bx w' b 46 [.slice u m c, .slice v n d] -> K (a.put o.dst (.slice (some ⟨b, 0, none⟩) 2 2)) w') : o.wp prog a w K Q :=
 DV (Tr ho hx hy) (h _ _ rfl AH ((Below.refl _ _).alloc (Nat.le_refl _) _) (KS w _ [.slice u m c, .slice v n d]))
theorem Qm {p : List Tm} (h1 : IA p < 2 ^ n) (h2 : QQ p <= 12) : PJ n p = true := by unfold PJ; rw [decide_eq_true h1, decide_eq_true h2]; rfl
theorem Gl {p : List Tm} (h : ¬ IA p < 2 ^ n ∨ ¬ QQ p <= 12) : PJ n p = false := by
 unfold PJ
 rcases h with h | h
 . rw [decide_eq_false h]; rfl
 rw [decide_eq_false h, Bool.and_false]
theorem mS (p : List Tm) : IntKind.i64.wrap ((IA p : Nat) : Int) = ((IA p : Nat) : Int) := by have := eU p; exact NC rfl AA
theorem mY (p : List Tm) : IA p < 2 ^ IntKind.i64.bits := Nat.lt_of_lt_of_le (eU p) AE
theorem Ek (p : List Tm) : IA p < 2 ^ IntKind.u8.bits := eU p
theorem Rc [Decidable p] {b : Bool} (h : b = decide p) (hp : p) : b = true := by rw [h, decide_eq_true hp]
theorem Xx [Decidable p] {b : Bool} (h : b = decide p) (hp : ¬ p) : b = false := by rw [h, decide_eq_false hp]
set_option maxRecDepth 100000 in
set_option maxHeartbeats 8000000 in
theorem uX (vp : Value) (p : List Tm) (n : Nat) (w : World) (hRp : IsR JQ (DL w.heap.size) w vp p) (hp : JS p) (hF : ∀ t ∈ p, FitQ t.1 1000000) (hL : p.length <= 1000000) :
 Calls prog 95 #[vp, .int .i64 ↑n] w (LN w (PJ n p)) := by
 have E := Env.start w
 obtain ⟨o, h, rfl, l, k⟩ := hRp.shp
 replace E := E.r hRp (DZ _)
 go_enter func95, ntmps95
 by_cases e : IA p < 2 ^ n
 case neg =>
  refine yG ?_
  refine EF O (CA JB O (bC _ p _ (BW E.1) hp hF hL) O E ?_)
  intro u I E
  refine yG ?_
  refine EF O (CC JM O (iH _ p _ (BW E.1) hL) O E ?_)
  intro q H E
  refine yG ?_
  refine V (v := .int .i64 ↑(IA p)) Z O (FI O O O underlying3 (mS p)) ?_
  refine yG ?_
  refine V (v := .int .i64 ((IA p / 2 ^ (min n IntKind.i64.bits) : Nat) : Int)) Z O (ZY (m := IA p) (n := n) O O O O) ?_
  refine V Z O (EK (c := false) O O O (Xx (ZW (mY p)) e)) ?_
  refine yG ?_
  exact ⟨DC (Gl (.inl e)), E.2.1⟩
 by_cases f : QQ p <= 12
 case pos =>
  refine yG ?_
  refine EF O (CA JB O (bC _ p _ (BW E.1) hp hF hL) O E ?_)
  intro G R E
  refine yG ?_
  refine EF O (CC JM O (iH _ p _ (BW E.1) hL) O E ?_)
  intro F Q E
  refine yG ?_
  refine V (v := .int .i64 ↑(IA p)) Z O (FI O O O underlying3 (mS p)) ?_
  refine yG ?_
  refine V (v := .int .i64 ((IA p / 2 ^ (min n IntKind.i64.bits) : Nat) : Int)) Z O (ZY (m := IA p) (n := n) O O O O) ?_
  refine V Z O (EK (c := true) O O O (Rc (ZW (mY p)) e)) ?_
  refine yG ?_
  refine EF O (CC FH O (PM _ p _ (BW E.1) hL) O E ?_)
  intro D P E
  refine yG ?_
  exact ⟨DC (Qm e f), E.2.1⟩
 refine yG ?_
 refine EF O (CA JB O (bC _ p _ (BW E.1) hp hF hL) O E ?_)
 intro C N E
 refine yG ?_
 refine EF O (CC JM O (iH _ p _ (BW E.1) hL) O E ?_)
 intro B L E
 refine yG ?_
 refine V (v := .int .i64 ↑(IA p)) Z O (FI O O O underlying3 (mS p)) ?_
 refine yG ?_
 refine V (v := .int .i64 ((IA p / 2 ^ (min n IntKind.i64.bits) : Nat) : Int)) Z O (ZY (m := IA p) (n := n) O O O O) ?_
 refine V Z O (EK (c := true) O O O (Rc (ZW (mY p)) e)) ?_
 refine yG ?_
 refine EF O (CC FH O (PM _ p _ (BW E.1) hL) O E ?_)
 intro y J E
 refine yG ?_
 exact ⟨DC (Gl (.inr f)), E.2.1⟩
theorem IsR.lit1 {e : El α} {t : Nat} {cs : List Value} {x : α} (hb : Bx w b t cs) (h : e.p (DL w.heap.size) w cs x) : IsR e (DL w.heap.size) w (.slice (some ⟨b, 0, none⟩) 1 1) [x] := by
 refine ⟨_, 1, O, Nat.le_refl _, by decide, fun i y f => ?_⟩
 cases i with
 | zero =>
   simp at f; subst f
   refine ⟨b, 0, cs, O, hb.lt, ?_, h⟩
   rw [Nat.zero_mul]; exact hb.cs
 | succ i => simp at f
theorem IsR.lit0 {e : El α} : IsR e S w (.slice (some ⟨b, 0, none⟩) 0 0) ([] : List α) := ⟨_, 0, rfl, Nat.le_refl _, Nat.zero_le _, fun i x h => by simp at h⟩
theorem OJ : TH [] := fun e h => by cases h
theorem tI (x : Bs) : LD ⟨[x], [], [], 1⟩ = PU x := by simp [LD, DM, LG, GT]
def Ml (s : Sy) (j : Nat) (ids : List Nat) : Prop :=
 (j = 0 /\ ids = []) ∨ (j = 1 /\ ids = GT s.eqs /\ LG s.vars.length s.next s.eqs = true) ∨
 (j = 2 /\ LG s.vars.length s.next s.eqs = true /\ LG s.vars.length s.next s.neqs = true /\ ∀ i ∈ GT s.neqs, i ∉ GT s.eqs)
theorem Io {s : Sy} {l : List (Nat × List Tm)} (h : Gc s j l ids) (hl : LG s.vars.length s.next l = true) (hd : ∀ x ∈ GT l, x ∉ ids) : Ml s (j + 1) (ids ++ GT l) := by
 rcases h with ⟨rfl, rfl, rfl⟩ | ⟨rfl, rfl, rfl, h⟩
 . exact .inr (.inl ⟨rfl, rfl, hl⟩)
 exact .inr (.inr ⟨rfl, h, hl, hd⟩)
theorem Mk {s : Sy} (h : Ml s j ids) (hj : ¬ j < 2) (h1 : DM 4 s.vars = true) (h2 : ¬ s.next < 1) (h3 : ¬ s.next > 1000000) : LD s = true := by
 rcases h with ⟨rfl, _⟩ | ⟨rfl, _⟩ | ⟨rfl, k, f, e⟩
 . omega
 . omega
 exact Ep h1 h2 h3 k f e
theorem yM {ids2 : List Nat} {l : List (Nat × List Tm)} {p : List Tm} (h : ids2 = ids ++ GT (l.take i)) (hx : l[i]? = some (id, p)) : ids2 ++ [id] = ids ++ GT (l.take (i + 1)) := by rw [KK hx, SO, h, List.append_assoc]
theorem zI {l : List (Nat × List Tm)} {i : Nat} {p : List Tm} (h : ∀ x ∈ GT (l.take i), x ∉ ids) (hx : l[i]? = some (id, p)) (hn : id ∉ ids) : ∀ x ∈ GT (l.take (i + 1)), x ∉ ids := by
 rw [KK hx, SO]
 intro x e
 rcases List.mem_append.1 e with g | g
 . exact h x g
 simp at g; subst g; exact hn
set_option maxRecDepth 100000 in
set_option maxHeartbeats 8000000 in
theorem VH (vv : Value) (v : List Bs) (vq : Value) (q : List (Nat × List Tm)) (vr : Value) (r : List (Nat × List Tm)) (n : Nat) (w : World) (hRv : IsR elS (DL w.heap.size) w vv v) (hRq : IsR RB (DL w.heap.size) w vq q) (hRr : IsR RB (DL w.heap.size) w vr r) (hOq : TH q) (hOr : TH r) (hL : v.length <= 1000000) :
 Calls prog 47 #[.agg #[vv, vq, vr, .int .i64 ↑n]] w (LN w (LD ⟨v, q, r, n⟩)) := by
 have E := Env.start w
 obtain ⟨I, u, rfl, f8, f5⟩ := hRv.shp
 replace E := E.r hRv (DZ _)
 obtain ⟨P, D, rfl, fa, f7⟩ := hRq.shp
 replace E := E.r hRq (DZ _)
 obtain ⟨N, C, rfl, f9, f6⟩ := hRr.shp
 replace E := E.r hRr (DZ _)
 go_enter func47, ntmps47
 refine yG ?_
 refine EF O (CM (cs := [.slice I v.length u, .slice P q.length D, .slice N r.length C, .int .i64 ↑n]) O O ?_)
 intro Q w1 e1 z1 d1 x1
 have l1 : w.heap.size <= Q := by rw [e1]; exact (e3 E).size
 replace E := E.below d1
 clear e1
 replace E := E.x x1
 by_cases f2 : ((v.length : Nat) : Int) > 4
 . refine yG ?_
   exact ⟨DC (eY (s := (⟨v, q, r, n⟩ : Sy)) (oD (l := v) AA)), e4 E⟩
 by_cases f4 : ((n : Nat) : Int) < 1
 . refine yG ?_
   exact ⟨DC (wL (s := (⟨v, q, r, n⟩ : Sy)) (.inl YtH)), e4 E⟩
 by_cases f3 : ((n : Nat) : Int) > 1000000
 . refine yG ?_
   exact ⟨DC (wL (s := (⟨v, q, r, n⟩ : Sy)) (.inr YtH)), e4 E⟩
 refine yG ?_
 refine EF O (ZK mkS O ?_)
 intro b2 w2 e2 z2 d2 x2
 have di : Q < b2 := by rw [e2]; exact Bx.lt E.1
 replace E := E.below d2
 clear e2
 replace E := E.m x2
 refine yG ?_
 refine wp_loop_ghost (fun mz a w' => ∃ (k : Nat) (t : List Value), t = a.tmps.toList /\ a = ⟨#[.agg #[.slice I v.length u, .slice P q.length D, .slice N r.length C, .int .i64 ↑n], .pointer (some ⟨Q, 0, none⟩), CJ t 2, .map (some b2), undef, CJ t 5, undef, undef, undef, undef, undef, .pointer (some ⟨Q, 0, none⟩), .slice I v.length u, .int .i64 ↑v.length, .bool false, .bool false, .pointer (some ⟨Q, 3, none⟩), .int .i64 ↑n, .bool false, .bool false, .bool false, .pointer (some ⟨Q, 3, none⟩), .int .i64 ↑n, .bool false, .bool false, .map (some b2), .pointer (some ⟨Q, 0, none⟩), .slice I v.length u, .int .i64 ↑v.length, .int .i64 ↑k, CJ t 30, CJ t 31, CJ t 32, CJ t 33, CJ t 34, CJ t 35, CJ t 36, CJ t 37, CJ t 38, CJ t 39, CJ t 40, CJ t 41, CJ t 42, CJ t 43, undef, undef, undef, undef, undef, undef, undef, undef, undef, undef, undef, undef, undef, undef, undef, undef, undef, undef, undef, undef, undef, undef, undef, undef, undef, undef, undef, undef, undef, undef, undef, undef, undef, undef, undef, undef, undef, undef, undef, undef, undef, undef, undef, undef, undef, undef, undef, undef, undef, undef, undef, undef, undef, undef, undef, undef, undef, undef, undef, undef, undef, undef, undef, undef], []⟩ /\ Env w' [fM mkS b2 (v.take k), fX Q (48) ([.slice I v.length u, .slice P q.length D, .slice N r.length C, .int .i64 ↑n]), fR RB (DL w.heap.size) (.slice N r.length C) r, fR RB (DL w.heap.size) (.slice P q.length D) q, fR elS (DL w.heap.size) (.slice I v.length u) v, fW w] /\ mz = v.length - k /\ (k <= v.length /\ gG v k)) (v.length) ⟨0, _, O, O, zE, O, ⟨Nat.zero_le _, dM v⟩⟩ ?_
 rintro m3 _ w3 ⟨k, t, -, rfl, E, cm, b6⟩
 obtain ⟨b6, hJ⟩ := b6
 by_cases hi : k < v.length
 case pos =>
  obtain ⟨x4, a1⟩ : ∃ x, v[k]? = some x := ⟨_, List.getElem?_eq_getElem hi⟩
  obtain ⟨av, ey, _, aj, b5, cq, ci⟩ := IsR.at (e4 E).1 a1
  obtain rfl := (show _ = [Value.string (bs x4)] from ci)
  have co : av < _ := (e4 E).2 _ b5
  replace E := E.c cq co
  have fb : av < w.heap.size := b5
  by_cases a7 : PU x4 = true
  case neg =>
   refine yG ?_
   refine OL O O aj O (List.getElem?_eq_some_iff.1 a1).1 ?_
   refine yG ?_
   refine EF O (CA RA O (CT (DY a7) (oL x4 _)) O E ?_)
   intro w8 d8 E
   refine yG ?_
   exact ⟨DC (eY (s := (⟨v, q, r, n⟩ : Sy)) (oA (l := v) a1 (DY a7))), e6 E⟩
  by_cases hd : x4 ∈ v.take k
  . refine yG ?_
    refine OL O O aj O (List.getElem?_eq_some_iff.1 a1).1 ?_
    refine yG ?_
    refine EF O (CA RA O (CT a7 (oL x4 _)) O E ?_)
    intro w5 d5 E
    refine yG ?_
    refine V (v := .bool true) Z O (LO F0 (b := b2) (ks := v.take k) (v := x4) (c := true) O O O E.2.1 (Hl hd)) ?_
    refine yG ?_
    exact ⟨DC (eY (s := (⟨v, q, r, n⟩ : Sy)) (uN (l := v) a1 hd)), e6 E⟩
  refine yG ?_
  refine OL O O aj O (List.getElem?_eq_some_iff.1 a1).1 ?_
  refine yG ?_
  refine EF O (CA RA O (CT a7 (oL x4 _)) O E ?_)
  intro w6 d6 E
  refine yG ?_
  refine V (v := .bool false) Z O (LO F0 (b := b2) (ks := v.take k) (v := x4) (c := false) O O O E.2.1 (QE hd)) ?_
  have g7 := E.2.1
  refine yG ?_
  replace E := QP E
  refine EF O (JT F0 (ks := v.take k) (v := x4) O O O O g7 (QE hd) ?_)
  intro w7 o7 y7
  rw [<- KK a1] at y7
  replace E := (E.onl (SetM.noW g7) zK o7).m y7
  refine yG ?_
  exact ⟨_, (by rw [cm]; omega), (k + 1), _, O, O, zE, O, ⟨by omega, dN hJ a1 a7 hd⟩⟩
 have ax : DM 4 v = true := uM hJ hi AA
 refine yG ?_
 refine EF O (ZK mkN O ?_)
 intro b9 w9 e9 z9 d9 x9
 have dh : b2 < b9 := by rw [e9]; exact SetM.lt E.1
 replace E := E.below d9
 clear e9
 replace E := E.m x9
 refine yG ?_
 refine EF O (Au O O O ?_)
 intro L ex RD dw d3 bt
 have ch : b9 < L := by rw [RD]; exact SetM.lt E.1
 replace E := E.below d3
 clear RD
 replace E := E.x bt
 refine yG ?_
 refine wp_loop_ghost (fun mz a w' => ∃ (j : Nat) (a0 : List Nat) (f : List Value), a = ⟨#[.agg #[.slice I v.length u, .slice P q.length D, .slice N r.length C, .int .i64 ↑n], .pointer (some ⟨Q, 0, none⟩), CJ f 0, .map (some b2), undef, CJ t 5, .map (some b9), undef, CJ f 1, CJ f 2, CJ f 3, .pointer (some ⟨Q, 0, none⟩), .slice I v.length u, .int .i64 ↑v.length, .bool false, .bool false, .pointer (some ⟨Q, 3, none⟩), .int .i64 ↑n, .bool false, .bool false, .bool false, .pointer (some ⟨Q, 3, none⟩), .int .i64 ↑n, .bool false, .bool false, .map (some b2), .pointer (some ⟨Q, 0, none⟩), .slice I v.length u, .int .i64 ↑v.length, .int .i64 ↑k, .bool false, CJ t 31, CJ t 32, CJ t 33, CJ t 34, CJ t 35, CJ t 36, CJ t 37, CJ t 38, CJ t 39, CJ t 40, CJ t 41, CJ t 42, CJ t 43, .map (some b9), .pointer (some ⟨Q, 1, none⟩), .slice P q.length D, .pointer (some ⟨Q, 2, none⟩), .slice N r.length C, .slice (some ⟨L, 0, none⟩) 2 2, .int .i64 2, .int .i64 ↑j, CJ f 4, CJ f 5, CJ f 6, CJ f 7, CJ f 8, CJ f 9, CJ f 10, CJ f 11, CJ f 12, CJ f 13, CJ f 14, CJ f 15, CJ f 16, CJ f 17, CJ f 18, CJ f 19, CJ f 20, CJ f 21, CJ f 22, CJ f 23, CJ f 24, CJ f 25, CJ f 26, CJ f 27, CJ f 28, CJ f 29, CJ f 30, CJ f 31, CJ f 32, CJ f 33, CJ f 34, CJ f 35, CJ f 36, CJ f 37, CJ f 38, CJ f 39, CJ f 40, CJ f 41, CJ f 42, CJ f 43, CJ f 44, CJ f 45, CJ f 46, CJ f 47, CJ f 48, CJ f 49, CJ f 50, CJ f 51, CJ f 52, CJ f 53, CJ f 54, CJ f 55, CJ f 56, CJ f 57, CJ f 58, CJ f 59], []⟩ /\ Env w' [fX L (46) ([.slice P q.length D, .slice N r.length C]), fM mkN b9 a0, fM mkS b2 (v.take k), fX Q (48) ([.slice I v.length u, .slice P q.length D, .slice N r.length C, .int .i64 ↑n]), fR RB (DL w.heap.size) (.slice N r.length C) r, fR RB (DL w.heap.size) (.slice P q.length D) q, fR elS (DL w.heap.size) (.slice I v.length u) v, fW w] /\ mz = 2 - j /\ (j <= 2 /\ Ml (⟨v, q, r, n⟩ : Sy) j a0)) (2) ⟨0, [], [CJ t 2, undef, undef, undef, undef, undef, undef, undef, undef, undef, undef, undef, undef, undef, undef, undef, undef, undef, undef, undef, undef, undef, undef, undef, undef, undef, undef, undef, undef, undef, undef, undef, undef, undef, undef, undef, undef, undef, undef, undef, undef, undef, undef, undef, undef, undef, undef, undef, undef, undef, undef, undef, undef, undef, undef, undef, undef, undef, undef, undef], O, zE, O, ⟨Nat.zero_le _, .inl ⟨O, O⟩⟩⟩ ?_
 rintro f1 _ bu ⟨j, a0, f, rfl, E, aw, ai⟩
 obtain ⟨ai, hJ⟩ := ai
 by_cases hi : j < 2
 case neg =>
  refine yG ?_
  exact ⟨DC (Mk (s := (⟨v, q, r, n⟩ : Sy)) hJ AA ax YtH YtH), e7 E⟩
 obtain ⟨aL, cL, R, cp, cr, a2, hO⟩ : ∃ ao cap l, [Value.slice P q.length D, .slice N r.length C][j]? = some (.slice ao l.length cap) /\ IsR RB (DL w.heap.size) bu (.slice ao l.length cap) l /\ Gc (⟨v, q, r, n⟩ : Sy) j l a0 /\ TH l := by
  rcases hJ with ⟨rfl, rfl⟩ | ⟨rfl, rfl, h⟩ | ⟨rfl, _⟩
  . exact ⟨P, D, q, rfl, (e5 E).1, .inl ⟨rfl, rfl, rfl⟩, hOq⟩
  . exact ⟨N, C, r, rfl, (e4 E).1, .inr ⟨rfl, rfl, rfl, h⟩, hOr⟩
  omega
 replace E := E.r (e := RB) (S := DL w.heap.size) cr ((e5 E).2)
 refine yG ?_
 refine V (v := .pointer (some ⟨L, 0 + j * 1, none⟩)) O O (VP (j := j) O underlying152 Z O O O hi) ?_
 refine V O O (CR O jA O E.2.1 (by rw [Nat.zero_add, Nat.mul_one]; exact cp)) ?_
 by_cases dj : ((R.length : Nat) : Int) > 12
 . refine yG ?_
   exact ⟨DC (YI (s := (⟨v, q, r, n⟩ : Sy)) a2 (Vd AA)), e8 E⟩
 refine yG ?_
 refine wp_loop_ghost (fun mz a w' => ∃ (i : Nat) (B : List Nat) (o : List Value), a = ⟨#[.agg #[.slice I v.length u, .slice P q.length D, .slice N r.length C, .int .i64 ↑n], .pointer (some ⟨Q, 0, none⟩), CJ o 0, .map (some b2), undef, CJ t 5, .map (some b9), undef, .slice aL R.length cL, CJ o 1, CJ o 2, .pointer (some ⟨Q, 0, none⟩), .slice I v.length u, .int .i64 ↑v.length, .bool false, .bool false, .pointer (some ⟨Q, 3, none⟩), .int .i64 ↑n, .bool false, .bool false, .bool false, .pointer (some ⟨Q, 3, none⟩), .int .i64 ↑n, .bool false, .bool false, .map (some b2), .pointer (some ⟨Q, 0, none⟩), .slice I v.length u, .int .i64 ↑v.length, .int .i64 ↑k, .bool false, CJ t 31, CJ t 32, CJ t 33, CJ t 34, CJ t 35, CJ t 36, CJ t 37, CJ t 38, CJ t 39, CJ t 40, CJ t 41, CJ t 42, CJ t 43, .map (some b9), .pointer (some ⟨Q, 1, none⟩), .slice P q.length D, .pointer (some ⟨Q, 2, none⟩), .slice N r.length C, .slice (some ⟨L, 0, none⟩) 2 2, .int .i64 2, .int .i64 ↑j, .bool true, .pointer (some ⟨L, 0 + j * 1, none⟩), .slice aL R.length cL, .slice aL R.length cL, .int .i64 ↑R.length, .bool false, .slice aL R.length cL, .int .i64 ↑R.length, .int .i64 ↑i, CJ o 3, CJ o 4, CJ o 5, CJ o 6, CJ o 7, CJ o 8, CJ o 9, CJ o 10, CJ o 11, CJ o 12, CJ o 13, CJ o 14, CJ o 15, CJ o 16, CJ o 17, CJ o 18, CJ o 19, CJ o 20, CJ o 21, CJ o 22, CJ o 23, CJ o 24, CJ o 25, CJ o 26, CJ o 27, CJ o 28, CJ o 29, CJ o 30, CJ o 31, CJ o 32, CJ o 33, CJ o 34, CJ o 35, CJ o 36, CJ o 37, CJ o 38, CJ o 39, CJ o 40, CJ o 41, CJ o 42, CJ o 43, CJ o 44, CJ o 45, CJ o 46, CJ o 47, CJ o 48, CJ f 59], []⟩ /\ Env w' [fR RB (DL w.heap.size) (.slice aL R.length cL) R, fX L (46) ([.slice P q.length D, .slice N r.length C]), fM mkN b9 B, fM mkS b2 (v.take k), fX Q (48) ([.slice I v.length u, .slice P q.length D, .slice N r.length C, .int .i64 ↑n]), fR RB (DL w.heap.size) (.slice N r.length C) r, fR RB (DL w.heap.size) (.slice P q.length D) q, fR elS (DL w.heap.size) (.slice I v.length u) v, fW w] /\ mz = R.length - i /\ (i <= R.length /\ oF v.length n R i /\ B = a0 ++ GT (R.take i) /\ ∀ x ∈ GT (R.take i), x ∉ a0)) (R.length) ⟨0, a0, [CJ f 0, CJ f 2, CJ f 3, CJ f 13, CJ f 14, CJ f 15, CJ f 16, CJ f 17, CJ f 18, CJ f 19, CJ f 20, CJ f 21, CJ f 22, CJ f 23, CJ f 24, CJ f 25, CJ f 26, CJ f 27, CJ f 28, CJ f 29, CJ f 30, CJ f 31, CJ f 32, CJ f 33, CJ f 34, CJ f 35, CJ f 36, CJ f 37, CJ f 38, CJ f 39, CJ f 40, CJ f 41, CJ f 42, CJ f 43, CJ f 44, CJ f 45, CJ f 46, CJ f 47, CJ f 48, CJ f 49, CJ f 50, CJ f 51, CJ f 52, CJ f 53, CJ f 54, CJ f 55, CJ f 56, CJ f 57, CJ f 58], O, zE, O, ⟨Nat.zero_le _, Cx _ _ _, by simp [GT], fun x h => by simp [GT] at h⟩⟩ ?_
 rintro f0 _ ew ⟨i, B, o, rfl, E, ae, ah⟩
 obtain ⟨ah, Y⟩ := ah
 by_cases hi : i < R.length
 case neg =>
  have cn := Vc Y.1 hi AA
  rw [KC hi] at Y
  refine yG ?_
  exact ⟨_, (by rw [aw]; omega), (j + 1), B, [CJ o 0, .slice aL R.length cL, CJ o 1, CJ o 2, .bool true, .pointer (some ⟨L, 0 + j * 1, none⟩), .slice aL R.length cL, .slice aL R.length cL, .int .i64 ↑R.length, .bool false, .slice aL R.length cL, .int .i64 ↑R.length, .int .i64 ↑i, .bool false, CJ o 4, CJ o 5, CJ o 6, CJ o 7, CJ o 8, CJ o 9, CJ o 10, CJ o 11, CJ o 12, CJ o 13, CJ o 14, CJ o 15, CJ o 16, CJ o 17, CJ o 18, CJ o 19, CJ o 20, CJ o 21, CJ o 22, CJ o 23, CJ o 24, CJ o 25, CJ o 26, CJ o 27, CJ o 28, CJ o 29, CJ o 30, CJ o 31, CJ o 32, CJ o 33, CJ o 34, CJ o 35, CJ o 36, CJ o 37, CJ o 38, CJ o 39, CJ o 40, CJ o 41, CJ o 42, CJ o 43, CJ o 44, CJ o 45, CJ o 46, CJ o 47, CJ o 48, .int .i64 ↑(j + 1)], O, zE, O, ⟨by omega, Y.2.1 ▸ Io a2 cn Y.2.2⟩⟩
 obtain ⟨⟨p, H⟩, J⟩ : ∃ x, R[i]? = some x := ⟨_, List.getElem?_eq_getElem hi⟩
 obtain ⟨a6, aa, _, T, ag, b3, ⟨_, rfl, ad⟩⟩ := IsR.at E.1.1 J
 obtain ⟨G, F, rfl, ck, _⟩ := ad.shp
 have az : a6 < _ := E.1.2 _ ag
 replace E := (E.r ad E.1.2).c b3 az
 have dl : a6 < w.heap.size := ag
 have y := hO _ (List.mem_of_getElem? J)
 have U := J
 by_cases hs : ((p : Nat) : Int) < 1
 case pos =>
  refine yG ?_
  refine Yb O O T O (List.getElem?_eq_some_iff.1 J).1 ?_
  refine V O O (CE LS O O (E.1.1) O) ?_
  refine yG ?_
  refine EF O (BZ LS O ?_)
  intro dd ev lB dv d0 au
  have cg : L < dd := by rw [lB]; exact Bx.lt (e3 E)
  replace E := E.below d0
  clear lB
  refine yG ?_
  refine EF O (BY LS O O O au O O (CG O (CG O DP)) ?_)
  intro eu c8 br
  replace E := oY E au c8 br (ds := [.int .i64 ↑p, .slice G H.length F])
  refine yG ?_
  refine sE E [0,1,2,3,4,5,6,7,8,9,10,11,12,13,14,15,16,17,18,19,20,21,22,23,24,25,26,27,28,29,30] ?_
  replace E := E.drew
  refine yG ?_
  exact ⟨DC (YI (s := (⟨v, q, r, n⟩ : Sy)) a2 (uQ U (.inl AA))), RC E⟩
 by_cases hg : ((p : Nat) : Int) >= ((n : Nat) : Int)
 case pos =>
  refine yG ?_
  refine Yb O O T O (List.getElem?_eq_some_iff.1 J).1 ?_
  refine V O O (CE LS O O (E.1.1) O) ?_
  refine yG ?_
  refine EF O (BZ LS O ?_)
  intro dc et Dh du cz ar
  have cf : L < dc := by rw [Dh]; exact Bx.lt (e3 E)
  replace E := E.below cz
  clear Dh
  refine yG ?_
  refine EF O (BY LS O O O ar O O (CG O (CG O DP)) ?_)
  intro es c7 bq
  replace E := oY E ar c7 bq (ds := [.int .i64 ↑p, .slice G H.length F])
  refine yG ?_
  refine sE E [0,1,2,3,4,5,6,7,8,9,10,11,12,13,14,15,16,17,18,19,20,21,22,23,24,25,26,27,28,29,30] ?_
  replace E := E.drew
  refine yG ?_
  exact ⟨DC (YI (s := (⟨v, q, r, n⟩ : Sy)) a2 (uQ U (.inr (.inl YtH)))), RC E⟩
 by_cases hd : p ∈ a0 ++ GT (R.take i)
 case pos =>
  refine yG ?_
  refine Yb O O T O (List.getElem?_eq_some_iff.1 J).1 ?_
  refine V O O (CE LS O O (E.1.1) O) ?_
  refine yG ?_
  refine EF O (BZ LS O ?_)
  intro db er e18 dt cy aq
  have ce : L < db := by rw [e18]; exact Bx.lt (e3 E)
  replace E := E.below cy
  clear e18
  refine yG ?_
  refine EF O (BY LS O O O aq O O (CG O (CG O DP)) ?_)
  intro ep c6 bp
  replace E := oY E aq c6 bp (ds := [.int .i64 ↑p, .slice G H.length F])
  refine yG ?_
  refine sE E [0,1,2,3,4,5,6,7,8,9,10,11,12,13,14,15,16,17,18,19,20,21,22,23,24,25,26,27,28,29,30] ?_
  replace E := E.drew
  refine yG ?_
  refine SW (v := .bool true) O O O Z O (fun w hS => LO qV (b := b9) (ks := B) (v := p) (c := true) O O O (e5 hS) (Hl (Y.2.1 ▸ hd))) ?_
  refine yG ?_
  exact ⟨DC (Te (s := (⟨v, q, r, n⟩ : Sy)) a2 U hd), RC E⟩
 by_cases h0 : 0 < i
 case neg =>
  by_cases hf : PJ v.length H = true
  case neg =>
   refine yG ?_
   refine Yb O O T O (List.getElem?_eq_some_iff.1 J).1 ?_
   refine V O O (CE LS O O (E.1.1) O) ?_
   refine yG ?_
   refine EF O (BZ LS O ?_)
   intro d4 ea bc dm ct ak
   have c9 : L < d4 := by rw [bc]; exact Bx.lt (e3 E)
   replace E := E.below ct
   clear bc
   refine yG ?_
   refine EF O (BY LS O O O ak O O (CG O (CG O DP)) ?_)
   intro dz bw bh
   replace E := oY E ak bw bh (ds := [.int .i64 ↑p, .slice G H.length F])
   refine yG ?_
   refine sE E [0,1,2,3,4,5,6,7,8,9,10,11,12,13,14,15,16,17,18,19,20,21,22,23,24,25,26,27,28,29,30] ?_
   replace E := E.drew
   refine yG ?_
   refine SW (v := .bool false) O O O Z O (fun w hS => LO qV (b := b9) (ks := B) (v := p) (c := false) O O O (e5 hS) (QE (fun g => hd (Y.2.1 ▸ g)))) ?_
   have b7 := e5 E
   refine yG ?_
   replace E := Lu E
   refine EF O (JT qV (ks := B) (v := p) O O O O b7 (QE (fun g => hd (Y.2.1 ▸ g))) ?_)
   intro dy bv bg
   replace E := (E.onl (SetM.noW b7) zK bv).m bg
   refine yG ?_
   refine EF O (CA PW O (CT (DY hf) (uX _ H v.length _ (BW (e3 E)) y.1 y.2.1 y.2.2)) O E ?_)
   intro dx fc E
   refine yG ?_
   exact ⟨DC (YI (s := (⟨v, q, r, n⟩ : Sy)) a2 (uQ U (.inr (.inr (DY hf))))), RC E⟩
  refine yG ?_
  refine Yb O O T O (List.getElem?_eq_some_iff.1 J).1 ?_
  refine V O O (CE LS O O (E.1.1) O) ?_
  refine yG ?_
  refine EF O (BZ LS O ?_)
  intro a4 ee bf dn cu al
  have ca : L < a4 := by rw [bf]; exact Bx.lt (e3 E)
  replace E := E.below cu
  clear bf
  refine yG ?_
  refine EF O (BY LS O O O al O O (CG O (CG O DP)) ?_)
  intro ed c0 bj
  replace E := oY E al c0 bj (ds := [.int .i64 ↑p, .slice G H.length F])
  refine yG ?_
  refine sE E [0,1,2,3,4,5,6,7,8,9,10,11,12,13,14,15,16,17,18,19,20,21,22,23,24,25,26,27,28,29,30] ?_
  replace E := E.drew
  refine yG ?_
  refine SW (v := .bool false) O O O Z O (fun w hS => LO qV (b := b9) (ks := B) (v := p) (c := false) O O O (e5 hS) (QE (fun g => hd (Y.2.1 ▸ g)))) ?_
  have b8 := e5 E
  refine yG ?_
  replace E := Lu E
  refine EF O (JT qV (ks := B) (v := p) O O O O b8 (QE (fun g => hd (Y.2.1 ▸ g))) ?_)
  intro ec bx bi
  replace E := (E.onl (SetM.noW b8) zK bx).m bi
  refine yG ?_
  refine EF O (CA PW O (CT hf (uX _ H v.length _ (BW (e3 E)) y.1 y.2.1 y.2.2)) O E ?_)
  intro eb fd E
  refine yG ?_
  exact ⟨_, (by rw [ae]; omega), (i + 1), (B ++ [p]), [CJ o 0, .int .i64 ↑i, .pointer (some ⟨a4, 0, none⟩), .bool true, .int .i64 ↑i, .pointer (some ⟨a6, aa + i * 2, none⟩), .agg #[.int .i64 ↑p, .slice G H.length F], .pointer (some ⟨a4, 0, none⟩), .int .i64 ↑p, .bool false, .bool false, .pointer (some ⟨a4, 0, none⟩), .int .i64 ↑p, .pointer (some ⟨Q, 3, none⟩), .int .i64 ↑n, .bool false, .bool false, .bool false, .map (some b9), .pointer (some ⟨a4, 0, none⟩), .int .i64 ↑p, .bool false, .bool false, .bool false, .int .i64 ↑i, .bool false, .bool false, undef, undef, undef, undef, undef, undef, undef, undef, undef, .bool false, .bool false, .map (some b9), .pointer (some ⟨a4, 0, none⟩), .int .i64 ↑p, .pointer (some ⟨a4, 1, none⟩), .slice G H.length F, .pointer (some ⟨Q, 0, none⟩), .slice I v.length u, .int .i64 ↑v.length, .bool true, .bool false, .int .i64 ↑(i + 1)], O, zE, O, ⟨by omega, oE Y.1 U AA AA hf (fun h => absurd h AA), yM Y.2.1 U, zI Y.2.2 U (fun g => hd (List.mem_append_left _ g))⟩⟩
 obtain ⟨⟨ab, ez⟩, X⟩ : ∃ x, R[i - 1]? = some x := ⟨_, List.getElem?_eq_getElem (show i - 1 < R.length by omega)⟩
 obtain ⟨a5, a9, _, a8, af, b0, ⟨_, rfl, ac⟩⟩ := IsR.at E.2.2.1.1 X
 obtain ⟨dg, de, rfl, cj, _⟩ := ac.shp
 have ay : a5 < _ := E.2.2.1.2 _ af
 replace E := (E.r ac E.2.2.1.2).c b0 ay
 have dk : a5 < w.heap.size := af
 by_cases hq : ((p : Nat) : Int) <= ((ab : Nat) : Int)
 case pos =>
  refine yG ?_
  refine Yb O O T O (List.getElem?_eq_some_iff.1 J).1 ?_
  refine V O O (CE LS O O (E.2.2.1.1) O) ?_
  refine yG ?_
  refine EF O (BZ LS O ?_)
  intro da eo e21 dr cx ap
  have cd : L < da := by rw [e21]; exact Bx.lt (e5 E)
  replace E := E.below cx
  clear e21
  refine yG ?_
  refine EF O (BY LS O O O ap O O (CG O (CG O DP)) ?_)
  intro en c5 bo
  replace E := oY E ap c5 bo (ds := [.int .i64 ↑p, .slice G H.length F])
  refine yG ?_
  refine sE E [0,1,2,3,4,5,6,7,8,9,10,11,12,13,14,15,16,17,18,19,20,21,22,23,24,25,26,27,28,29,30] ?_
  replace E := E.drew
  refine yG ?_
  refine SW (v := .bool false) O O O Z O (fun w hS => LO qV (b := b9) (ks := B) (v := p) (c := false) O O O (e7 hS) (QE (fun g => hd (Y.2.1 ▸ g)))) ?_
  refine yG ?_
  refine SW (v := .int .i64 ↑(i - 1)) O O O Z O (fun w hS => FM O O O (by rw [MO AA]; omega)) ?_
  refine iC O O O a8 O (List.getElem?_eq_some_iff.1 X).1 ?_
  refine yG ?_
  exact ⟨DC (YI (s := (⟨v, q, r, n⟩ : Sy)) a2 (Gb U X AA AA)), XX E⟩
 by_cases hf : PJ v.length H = true
 case neg =>
  refine yG ?_
  refine Yb O O T O (List.getElem?_eq_some_iff.1 J).1 ?_
  refine V O O (CE LS O O (E.2.2.1.1) O) ?_
  refine yG ?_
  refine EF O (BZ LS O ?_)
  intro d7 ei e27 dp cv am
  have cb : L < d7 := by rw [e27]; exact Bx.lt (e5 E)
  replace E := E.below cv
  clear e27
  refine yG ?_
  refine EF O (BY LS O O O am O O (CG O (CG O DP)) ?_)
  intro eh c2 bl
  replace E := oY E am c2 bl (ds := [.int .i64 ↑p, .slice G H.length F])
  refine yG ?_
  refine sE E [0,1,2,3,4,5,6,7,8,9,10,11,12,13,14,15,16,17,18,19,20,21,22,23,24,25,26,27,28,29,30] ?_
  replace E := E.drew
  refine yG ?_
  refine SW (v := .bool false) O O O Z O (fun w hS => LO qV (b := b9) (ks := B) (v := p) (c := false) O O O (e7 hS) (QE (fun g => hd (Y.2.1 ▸ g)))) ?_
  refine yG ?_
  refine SW (v := .int .i64 ↑(i - 1)) O O O Z O (fun w hS => FM O O O (by rw [MO AA]; omega)) ?_
  refine iC O O O a8 O (List.getElem?_eq_some_iff.1 X).1 ?_
  have ba := e7 E
  refine yG ?_
  replace E := dl7 E
  refine EF O (JT qV (ks := B) (v := p) O O O O ba (QE (fun g => hd (Y.2.1 ▸ g))) ?_)
  intro eg c1 bk
  replace E := (E.onl (SetM.noW ba) zK c1).m bk
  refine yG ?_
  refine EF O (CA PW O (CT (DY hf) (uX _ H v.length _ (BW (e5 E)) y.1 y.2.1 y.2.2)) O E ?_)
  intro ef fe E
  refine yG ?_
  exact ⟨DC (YI (s := (⟨v, q, r, n⟩ : Sy)) a2 (uQ U (.inr (.inr (DY hf))))), XX E⟩
 refine yG ?_
 refine Yb O O T O (List.getElem?_eq_some_iff.1 J).1 ?_
 refine V O O (CE LS O O (E.2.2.1.1) O) ?_
 refine yG ?_
 refine EF O (BZ LS O ?_)
 intro a3 em Ls dq cw an
 have cc : L < a3 := by rw [Ls]; exact Bx.lt (e5 E)
 replace E := E.below cw
 clear Ls
 refine yG ?_
 refine EF O (BY LS O O O an O O (CG O (CG O DP)) ?_)
 intro el c4 bn
 replace E := oY E an c4 bn (ds := [.int .i64 ↑p, .slice G H.length F])
 refine yG ?_
 refine sE E [0,1,2,3,4,5,6,7,8,9,10,11,12,13,14,15,16,17,18,19,20,21,22,23,24,25,26,27,28,29,30] ?_
 replace E := E.drew
 refine yG ?_
 refine SW (v := .bool false) O O O Z O (fun w hS => LO qV (b := b9) (ks := B) (v := p) (c := false) O O O (e7 hS) (QE (fun g => hd (Y.2.1 ▸ g)))) ?_
 refine yG ?_
 refine SW (v := .int .i64 ↑(i - 1)) O O O Z O (fun w hS => FM O O O (by rw [MO AA]; omega)) ?_
 refine iC O O O a8 O (List.getElem?_eq_some_iff.1 X).1 ?_
 have bb := e7 E
 refine yG ?_
 replace E := dl7 E
 refine EF O (JT qV (ks := B) (v := p) O O O O bb (QE (fun g => hd (Y.2.1 ▸ g))) ?_)
 intro ek c3 bm
 replace E := (E.onl (SetM.noW bb) zK c3).m bm
 refine yG ?_
 refine EF O (CA PW O (CT hf (uX _ H v.length _ (BW (e5 E)) y.1 y.2.1 y.2.2)) O E ?_)
 intro ej ff E
 refine yG ?_
 exact ⟨_, (by rw [ae]; omega), (i + 1), (B ++ [p]), [CJ o 0, .int .i64 ↑i, .pointer (some ⟨a3, 0, none⟩), .bool true, .int .i64 ↑i, .pointer (some ⟨a6, aa + i * 2, none⟩), .agg #[.int .i64 ↑p, .slice G H.length F], .pointer (some ⟨a3, 0, none⟩), .int .i64 ↑p, .bool false, .bool false, .pointer (some ⟨a3, 0, none⟩), .int .i64 ↑p, .pointer (some ⟨Q, 3, none⟩), .int .i64 ↑n, .bool false, .bool false, .bool false, .map (some b9), .pointer (some ⟨a3, 0, none⟩), .int .i64 ↑p, .bool false, .bool false, .bool false, .int .i64 ↑i, .bool true, .bool true, .pointer (some ⟨a3, 0, none⟩), .int .i64 ↑p, .slice aL R.length cL, .int .i64 ↑i, .int .i64 ↑(i - 1), .pointer (some ⟨a5, a9 + (i - 1) * 2, none⟩), .pointer (some ⟨a5, a9 + (i - 1) * 2, none⟩), .int .i64 ↑ab, .bool false, .bool false, .bool false, .map (some b9), .pointer (some ⟨a3, 0, none⟩), .int .i64 ↑p, .pointer (some ⟨a3, 1, none⟩), .slice G H.length F, .pointer (some ⟨Q, 0, none⟩), .slice I v.length u, .int .i64 ↑v.length, .bool true, .bool false, .int .i64 ↑(i + 1)], O, zE, O, ⟨by omega, oE Y.1 U AA AA hf (fun _ a b b4 => by rw [X] at b4; cases b4; omega), yM Y.2.1 U, zI Y.2.2 U (fun g => hd (List.mem_append_left _ g))⟩⟩
end Go.Proofs.YtmppigbbkjepiaaGreatDoor
