/- Helping facts of KitM; no other conditions. Helping facts of SysL; no other conditions. Helping facts of KitH; no other conditions. Helping facts of Sys; no other conditions. -/
import Derived.Test.YtmppigbbkjepiaaGreatDoorNames
import Derived.Carry
import Derived.MapKept
import Derived.Test.YtmppigbbkjepiaaGreatDoorShelf
namespace Go.Proofs.YtmppigbbkjepiaaGreatDoor
open Go.Proofs.Tryz
open Go.RowKit W
variable {P : Program} {T e k : TypeId} {a b c d i id j n next : Nat} {base : List Nat} {o : Oper} {p : Prop} {u v : Option Addr} {w : World} {x y : Operand} {yk : IntKind} {α : Type} {ρ : Operand -> Value}
def SetM {α : Type} (mk : α -> Value) (w : World) (b : Nat) (ks : List α) : Prop := ∃ es clock, w.heap[b]? = some (.map es clock) /\ es.toList.map (fun e => (e.key, e.val)) = ks.map fun x => (mk x, Value.bool true)
theorem SetM.of {mk : α -> Value} {w' : World} {ks : List α} (h : SetM mk w b ks) (hb : w'.heap[b]? = w.heap[b]?) : SetM mk w' b ks := by
 obtain ⟨k, c, f, e⟩ := h
 exact ⟨k, c, hb.trans f, e⟩
theorem SetM.lt {mk : α -> Value} {ks : List α} (h : SetM mk w b ks) : b < w.heap.size := by
 obtain ⟨f, c, e, _⟩ := h
 exact (Array.getElem?_eq_some_iff.1 e).1
theorem SetM.noW {mk : α -> Value} {ks : List α} (h : SetM mk w b ks) : zX w b := by
 obtain ⟨k, c, f, _⟩ := h
 intro o n e
 simp [World.cell?, f] at e
def fM {α : Type} (mk : α -> Value) (b : Nat) (ks : List α) : SF := ⟨fun w => SetM mk w b ks, fun c => c ≠ b, fun h hb => h.of (hb.block b h.lt), fun h _ ho hb => h.of (hb.block b (Ne.symm ho))⟩
theorem okM {mk : α -> Value} {ks : List α} (h : c ≠ b) : (fM mk b ks).ok c := h
theorem Env.m {mk : α -> Value} {ks : List α} {L : List SF} (E : Env w L) (h : SetM mk w b ks) : Env w (fM mk b ks :: L) := ⟨h, E⟩
structure KeyT {α : Type} (P : Program) (T k e : TypeId) (d : TypeDesc) (mk : α -> Value) (eq : α -> α -> Bool) : Prop where
 ht : P.underlying T = some (.map k e)
 hk : P.underlying k = some d
 hd : d = .string ∨ ∃ q, d = .int q
 he : ∀ w, (zeroValue e).run P w = .ok (.bool false) w
 eq : ∀ x y, Instr.sameNow d (mk x) (mk y) = some (eq x y)
theorem KeyT.check {d : TypeDesc} {mk : α -> Value} {eq : α -> α -> Bool} (K : KeyT P T k e d mk eq) (b : Bool) (v : Value) (w : World) : (Instr.checkKey b 10000 k v).run P w = .ok () w := by
 unfold Instr.checkKey
 rw [Sem.run_bind, run_underlying K.hk w]
 rcases K.hd with rfl | ⟨q, rfl⟩ <;> simp
theorem xQ {α : Type} {d : TypeDesc} {mk : α -> Value} {eq : α -> α -> Bool} (heq : ∀ x y, Instr.sameNow d (mk x) (mk y) = some (eq x y)) {x : α} : ∀ (es : List MapEntry) (ks : List α) (i : Nat), es.map (fun e => (e.key, e.val)) = ks.map (fun y => (mk y, Value.bool true)) ->
 (ks.any (eq x) = true -> ∃ j, Instr.findNow d (mk x) es i = some (some (j, .bool true))) /\ (ks.any (eq x) = false -> Instr.findNow d (mk x) es i = some none)
 | [], [], i, _ => ⟨fun h => by simp at h, fun _ => rfl⟩
 | [], _ :: _, i, h => by simp at h
 | _ :: _, [], i, h => by simp at h
 | e :: es, y :: ks, i, h => by
   simp only [List.map_cons, List.cons.injEq, Prod.mk.injEq] at h
   obtain ⟨⟨h1, h2⟩, h3⟩ := h
   obtain ⟨g1, g2⟩ := xQ heq (x := x) es ks (i + 1) h3
   simp only [Instr.findNow, h1, h2, heq, List.any_cons]
   cases hxy : eq x y with
   | true => exact ⟨fun _ => ⟨i, rfl⟩, fun h => by simp at h⟩
   | false => exact ⟨fun h => g1 (by simpa using h), fun h => g2 (by simpa using h)⟩
theorem qK {e : TypeId} {d : TypeDesc} {mk : α -> Value} {eq : α -> α -> Bool} (K : KeyT P T k e d mk eq) {es : List MapEntry} {ks : List α} {v : α} (h : es.map (fun e => (e.key, e.val)) = ks.map fun x => (mk x, Value.bool true)) :
 (ks.any (eq v) = true -> ∃ j, (Instr.findKey k (mk v) es).run P w = .ok (some (j, .bool true)) w) /\ (ks.any (eq v) = false -> (Instr.findKey k (mk v) es).run P w = .ok none w) := by
 obtain ⟨p, o⟩ := xQ K.eq (x := v) es ks 0 h
 constructor
 . intro f
   obtain ⟨j, l⟩ := p f
   exact ⟨j, by unfold Instr.findKey; rw [Sem.run_bind, run_underlying K.hk w]; simp [l]⟩
 intro f
 unfold Instr.findKey
 rw [Sem.run_bind, run_underlying K.hk w]
 simp [o f]
theorem KN {d : TypeDesc} {mk : α -> Value} {eq : α -> α -> Bool} (K : KeyT P T k e d mk eq) {ks : List α} {v : α} {c : Bool}
 (ho : o.op = .lookup T x y false) (hx : ρ x = .map (some b)) (hy : ρ y = mk v) (h : SetM mk w b ks) (hc : ks.any (eq v) = c) : (execOp ρ o).run P w = .ok (.value (.bool c)) w := by
 obtain ⟨u, cl, p, l⟩ := h
 obtain ⟨t, q⟩ := qK K (w := w) (v := v) l
 have hg : (getObj b).run P w = .ok (.map u cl) w := by simp [getObj, Sem.run, p]
 unfold execOp; rw [ho]
 cases c with
 | true =>
   obtain ⟨j, f⟩ := t hc
   simp [hx, hy, Instr.lookup, run_underlying K.ht, hg, K.check, f]
 | false =>
   simp [hx, hy, Instr.lookup, run_underlying K.ht, hg, K.check, q hc, K.he]
section
variable {o : Oper} {a : Act} {w : World} {K : Act -> World -> Prop} {Q : Exit -> Act -> World -> Prop}
theorem XJ (mk : α -> Value) (ho : o.op = .makeMap T none)
 (h : ∀ b w', b = w.heap.size -> w'.heap.size = w.heap.size + 1 -> Below w.heap.size w w' -> SetM mk w' b [] -> K (a.put o.dst (.map (some b))) w') : o.wp P a w K Q := by
 refine DO (v := .map (some w.heap.size)) (w' := w.alloc (.map #[] 0)) ?_ (h _ _ O AH ((Below.refl _ _).alloc (Nat.le_refl _) _) ⟨#[], 0, heap_alloc_new w _, O⟩)
 unfold execOp; rw [ho]
 simp [run_makeMap]
theorem JE {d : TypeDesc} {mk : α -> Value} {eq : α -> α -> Bool} (KT : KeyT P T k e d mk eq) {z : Operand} {ks : List α} {v : α} (ho : o.op = .mapUpdate T x y z) (hx : a.eval x = .map (some b)) (hy : a.eval y = mk v) (hz : a.eval z = .bool true)
 (hs : SetM mk w b ks) (hc : ks.any (eq v) = false) (h : ∀ w', Onl b w w' -> SetM mk w' b (ks ++ [v]) -> K (a.put o.dst undef) w') : o.wp P a w K Q := by
 obtain ⟨p, cl, l, q⟩ := hs
 obtain ⟨_, B⟩ := qK KT (w := w) (v := v) q
 have f := (Array.getElem?_eq_some_iff.1 l).1
 have hg : (getObj b).run P w = .ok (.map p cl) w := by simp [getObj, Sem.run, l]
 have t : (Instr.mapUpdate T (.map (some b)) (mk v) (.bool true)).run P w = .ok () { w with heap := w.heap.setIfInBounds b (.map (p.push { key := mk v, val := .bool true, born := cl }) (cl + 1)) } := by
  simp [Instr.mapUpdate, run_underlying KT.ht, hg, KT.check, B hc, setObj, Sem.run, l]
 unfold Oper.wp execOp
 simp only [ho, hx, hy, hz, Sem.run_bind, t]
 refine h _ ⟨O, O, O, by simp, fun j u => by simp [Ne.symm u]⟩ ⟨p.push { key := mk v, val := .bool true, born := cl }, cl + 1, by simp [f], by simp [q]⟩
end
def mkS (x : Bs) : Value := .string (bs x)
def mkN (n : Nat) : Value := .int .i64 ↑n
theorem A8 (a b : Bs) : (bs a == bs b) = decide (a = b) := by
 rw [Bool.eq_iff_iff, MapKept.bytes_beq, decide_eq_true_eq]
 exact ⟨uG, fun h => by rw [h]⟩
theorem D2 : KeyT prog 150 9 4 .string mkS (fun x y => decide (x = y)) := ⟨underlying150, underlying9, .inl rfl, fun w => by kernel_rfl, fun x y => by unfold mkS Instr.sameNow; simp only [A8]⟩
theorem pV : KeyT prog 151 3 4 (.int .i64) mkN (fun x y => decide (x = y)) := ⟨underlying151, underlying3, .inr ⟨_, rfl⟩, fun w => by kernel_rfl, fun x y => by
 unfold mkN Instr.sameNow
 simp only [if_true, Option.some.injEq]
 rw [Bool.eq_iff_iff, beq_iff_eq, decide_eq_true_eq]; omega⟩
theorem Gf [DecidableEq α] {ks : List α} {x : α} (h : x ∈ ks) : (ks.any fun y => decide (x = y)) = true := List.any_eq_true.2 ⟨x, h, by simp⟩
theorem PN [DecidableEq α] {ks : List α} {x : α} (h : x ∉ ks) : (ks.any fun y => decide (x = y)) = false := by
 rw [List.any_eq_false]
 intro y f e
 simp at e
 subst e; exact h f
theorem Dv {m : List Nat} {i : Nat} (h : 0 < me m i) : ∀ k, i < k -> 2 ^ i <= ME m k
 | 0, hk => absurd hk (Nat.not_lt_zero _)
 | k + 1, hk => by
   unfold ME
   by_cases e : i = k
   . subst e; rw [if_pos h]; exact Nat.right_le_or
   have := Dv h k AA
   split
   . exact Nat.le_trans this Nat.left_le_or
   exact this
theorem qG {m : List Nat} {n : Nat} (h : within n m) : ∀ k, ME m (n + k) = ME m n
 | 0 => rfl
 | k + 1 => by
   rw [<- Nat.add_assoc, <- Ak (by rw [h (n + k) AA]; omega)]; exact qG h k
theorem vN {m : List Nat} (hm : EG m) : ME m 8 < 2 ^ n ↔ within n m := by
 constructor
 . intro h i k
   by_cases f : i < 8
   . rcases Nat.eq_zero_or_pos (me m i) with e | e
     . exact e
     have o := Dv e 8 f
     have l := Nat.pow_le_pow_right (n := 2) AE k
     omega
   unfold me; simp [List.getD_eq_getElem?_getD, List.getElem?_eq_none (by rw [hm.1]; omega : m.length <= i)]
 intro h
 by_cases f : n <= 8
 . have := qG h (8 - n)
   rw [show n + (8 - n) = 8 by omega] at this
   rw [this]; exact cW m n
 exact Nat.lt_trans (cW m 8) (Nat.pow_lt_pow_right AE AA)
theorem or_lt : a ||| b < 2 ^ n ↔ a < 2 ^ n /\ b < 2 ^ n :=
 ⟨fun h => ⟨Nat.lt_of_le_of_lt Nat.left_le_or h, Nat.lt_of_le_of_lt Nat.right_le_or h⟩, fun h => Nat.or_lt_two_pow h.1 h.2⟩
theorem cS {p : List Tm} (hp : ED p) : FN p < 2 ^ n ↔ ∀ t ∈ p, within n t.2 := by
 have h : ∀ (p : List Tm) (s : Nat), (∀ t ∈ p, EG t.2) -> (p.foldl (fun s t => s ||| ME t.2 8) s < 2 ^ n ↔ s < 2 ^ n /\ ∀ t ∈ p, within n t.2) := by
  intro p
  induction p with
  | nil => intro s _; simp
  | cons t p ih =>
    intro s l
    rw [List.foldl_cons, ih _ (fun u o => l u (by simp [o])), or_lt, vN (l t AH)]
    simp only [List.mem_cons, forall_eq_or_imp]
    constructor
    . rintro ⟨⟨k, f⟩, e⟩; exact ⟨k, f, e⟩
    rintro ⟨k, f, e⟩; exact ⟨⟨k, f⟩, e⟩
 have := h p 0 (fun t q => (hp.1 t q).2)
 unfold FN
 rw [this]
 exact ⟨fun h => h.2, fun h => ⟨Nat.two_pow_pos n, h⟩⟩
structure Sy where
 vars : List Bs
 eqs : List (Nat × List Tm)
 neqs : List (Nat × List Tm)
 next : Nat
def LH (n : Nat) (p : List Tm) : Bool := decide (FN p < 2 ^ n) && decide (US p <= 12)
def EL (l : List (Nat × List Tm)) : List Nat := l.map (·.1)
def ID (n next : Nat) (l : List (Nat × List Tm)) : Bool := decide (l.length <= 12) && (l.all fun e => decide (1 <= e.1) && decide (e.1 < next) && LH n e.2) && decide ((EL l).Pairwise (· < ·))
def GH (s : Sy) : Bool := DL 4 s.vars && decide (1 <= s.next) && decide (s.next <= 1000000) && ID s.vars.length s.next s.eqs && ID s.vars.length s.next s.neqs && decide (∀ i ∈ EL s.eqs, i ∉ EL s.neqs)
def PR (l : List (Nat × List Tm)) : Prop := ∀ e ∈ l, ED e.2 /\ (∀ t ∈ e.2, FitQ t.1 1000000) /\ e.2.length <= 1000000
theorem SO {s : Sy} (h : DL 4 s.vars = false) : GH s = false := by simp [GH, h]
theorem cV {s : Sy} (h : s.next < 1 ∨ 1000000 < s.next) : GH s = false := by
 unfold GH
 rcases h with h | h
 . simp [show ¬ 1 <= s.next by omega]
 simp [show ¬ s.next <= 1000000 by omega]
def jE (n next : Nat) (l : List (Nat × List Tm)) (i : Nat) : Prop := (∀ e ∈ l.take i, 1 <= e.1 /\ e.1 < next /\ LH n e.2 = true) /\ (EL (l.take i)).Pairwise (· < ·)
theorem nD (n next : Nat) (l : List (Nat × List Tm)) : jE n next l 0 := ⟨fun e h => by simp at h, by simp [EL]⟩
theorem QW (l : List (Nat × List Tm)) (e : Nat × List Tm) : EL (l ++ [e]) = EL l ++ [e.1] := by simp [EL]
theorem Th {l : List Nat} {a : Nat} (h : (l ++ [a]).Pairwise (· < ·)) : ∀ x ∈ l ++ [a], x <= a := by
 intro x e
 rcases List.mem_append.1 e with g | g
 . exact Nat.le_of_lt ((List.pairwise_append.1 h).2.2 x g a AH)
 simp at g; omega
theorem WH {l : List (Nat × List Tm)} {p : List Tm} (h : jE n next l i) (hx : l[i]? = some (id, p)) (h1 : 1 <= id) (h2 : id < next) (h3 : LH n p = true) (hp : 0 < i -> ∀ id' p', l[i - 1]? = some (id', p') -> id' < id) : jE n next l (i + 1) := by
 unfold jE
 rw [JG hx]
 refine ⟨fun e t => ?_, ?_⟩
 . rcases List.mem_append.1 t with g | g
   . exact h.1 e g
   simp at g; subst g; exact ⟨h1, h2, h3⟩
 rw [QW, List.pairwise_append]
 refine ⟨h.2, by simp, fun x f y k => ?_⟩
 simp at k; subst k
 cases i with
 | zero => simp [EL] at f
 | succ i =>
   have u := (List.getElem?_eq_some_iff.1 hx).1
   obtain ⟨⟨id', p'⟩, o⟩ : ∃ e, l[i]? = some e := ⟨_, List.getElem?_eq_getElem AA⟩
   have v := hp AA id' p' (by simpa using o)
   have q := h.2
   rw [JG o, QW] at q f
   have := Th q x f
   simp at this; omega
theorem Ev {l : List (Nat × List Tm)} (h : l.length > 12) : ID n next l = false := by simp [ID, show ¬ l.length <= 12 by omega]
theorem YS {l : List (Nat × List Tm)} {p : List Tm} (hx : l[i]? = some (id, p)) (h : id < 1 ∨ next <= id ∨ LH n p = false) : ID n next l = false := by
 cases e : ID n next l with
 | false => rfl
 | true =>
   unfold ID at e
   simp only [Bool.and_eq_true, decide_eq_true_eq, List.all_eq_true] at e
   have := e.1.2 _ (List.mem_of_getElem? hx)
   simp only at this
   rcases h with h | h | h
   . omega
   . omega
   rw [h] at this; simp at this
theorem tN {l : List (Nat × List Tm)} {id' : Nat} {p p' : List Tm} (hx : l[i]? = some (id, p)) (hy : l[j]? = some (id', p')) (hij : j < i) (h : id <= id') : ID n next l = false := by
 cases e : ID n next l with
 | false => rfl
 | true =>
   unfold ID at e
   simp only [Bool.and_eq_true, decide_eq_true_eq] at e
   have y := e.2
   have u := (List.getElem?_eq_some_iff.1 hx)
   have t := (List.getElem?_eq_some_iff.1 hy)
   obtain ⟨q, o⟩ := u
   obtain ⟨k, f⟩ := t
   have v := (List.pairwise_iff_getElem.1 y) j i (by simpa [EL] using k) (by simpa [EL] using q) hij
   simp [EL, o, f] at v
   omega
theorem Eu {l : List (Nat × List Tm)} (h : jE n next l i) (hi : ¬ i < l.length) (hl : ¬ l.length > 12) : ID n next l = true := by
 unfold jE at h
 rw [GQ hi] at h
 unfold ID
 simp only [Bool.and_eq_true, decide_eq_true_eq, List.all_eq_true]
 exact ⟨⟨by omega, fun e f => ⟨⟨(h.1 e f).1, (h.1 e f).2.1⟩, (h.1 e f).2.2⟩⟩, h.2⟩
def Ew (s : Sy) (j : Nat) (l : List (Nat × List Tm)) (base : List Nat) : Prop := (j = 0 /\ l = s.eqs /\ base = []) ∨ (j = 1 /\ l = s.neqs /\ base = EL s.eqs /\ ID s.vars.length s.next s.eqs = true)
theorem VS {s : Sy} {l : List (Nat × List Tm)} (h : Ew s j l base) (hl : ID s.vars.length s.next l = false) : GH s = false := by
 unfold GH
 rcases h with ⟨_, rfl, _⟩ | ⟨_, rfl, _⟩ <;> simp [hl]
theorem Uo {l : List (Nat × List Tm)} (h : id ∈ EL l) : ∃ (j : Nat) (p : List Tm), l[j]? = some (id, p) := by
 unfold EL at h
 obtain ⟨⟨a, p⟩, f, rfl⟩ := List.mem_map.1 h
 obtain ⟨j, e⟩ := List.getElem?_of_mem f
 exact ⟨j, p, e⟩
theorem Sk {s : Sy} {l : List (Nat × List Tm)} {p : List Tm} (h : Ew s j l base) (hx : l[i]? = some (id, p)) (hd : id ∈ base ++ EL (l.take i)) : GH s = false := by
 have own : id ∈ EL (l.take i) -> GH s = false := by
  intro g
  obtain ⟨k, q, o⟩ := Uo g
  have e : k < i := by
   have := (List.getElem?_eq_some_iff.1 o).1
   simp at this; omega
  rw [List.getElem?_take, if_pos e] at o
  exact VS h (tN hx o e (Nat.le_refl _))
 rcases List.mem_append.1 hd with g | g
 . rcases h with ⟨_, _, rfl⟩ | ⟨_, rfl, rfl, _⟩
   . cases g
   unfold GH
   have : ¬ ∀ i ∈ EL s.eqs, i ∉ EL s.neqs := fun f => f id g (by unfold EL; exact List.mem_map.2 ⟨_, List.mem_of_getElem? hx, rfl⟩)
   simp [this]
 exact own g
theorem sC {s : Sy} (h1 : DL 4 s.vars = true) (h2 : ¬ s.next < 1) (h3 : ¬ s.next > 1000000) (h4 : ID s.vars.length s.next s.eqs = true) (h5 : ID s.vars.length s.next s.neqs = true) (h6 : ∀ i ∈ EL s.neqs, i ∉ EL s.eqs) : GH s = true := by
 unfold GH
 simp only [Bool.and_eq_true, decide_eq_true_eq]
 exact ⟨⟨⟨⟨⟨h1, by omega⟩, by omega⟩, h4⟩, h5⟩, fun i f e => h6 i e f⟩
theorem aF {S : Nat -> Prop} {ao : Option Addr} {cap : Nat} {l : List Bs} (h : IsR elS S w (.slice ao n cap) l) (hl : l ≠ []) : n = l.length /\ n <= cap /\ cap <= maxLen /\ ∃ b off, ao = some ⟨b, off, none⟩ /\ S b /\ ∀ j x, l[j]? = some x -> w.cell? ⟨b, off + j, none⟩ = some (.string (bs x)) := by
 obtain ⟨_, _, o, q, p⟩ := h.shp
 cases o
 refine ⟨O, q, p, ?_⟩
 cases l with
 | nil => exact absurd rfl hl
 | cons x0 r =>
   obtain ⟨b, off, _, e1, e2, _, _⟩ := h.at (i := 0) (x := x0) rfl
   refine ⟨b, off, e1, e2, fun j x k => ?_⟩
   obtain ⟨t, f, cs, e3, _, e4, e5⟩ := h.at k
   rw [e1] at e3
   cases e3
   have e : cs = [.string (bs x)] := e5
   subst e
   have := e4 0 _ rfl
   rw [show elS.sz = 1 from rfl, Nat.mul_one] at this
   exact this
theorem Um (l : List Bs) (x : Bs) : Lib.idxOfS (l.map bs) (bs x) = iA l x := by
 by_cases h : x ∈ l
 . obtain ⟨i, p, k⟩ := rH h
   unfold iA
   rw [p]
   rw [List.idxOf?, List.findIdx?_eq_some_iff_getElem] at p
   obtain ⟨_, v, u⟩ := p
   have q : l[i] = x := by simpa using v
   have := Lib.idxOfS_hit (l.map bs) (l.map bs).length i (bs x) (by simpa using k) (Nat.le_refl _) (by simp [List.getD_eq_getElem?_getD, k, q]) (fun j o => by
    have f : j < l.length := by omega
    have t : ¬ l[j] = x := by simpa using u j o
    simp only [List.getD_eq_getElem?_getD, List.getElem?_map, List.getElem?_eq_getElem f, Option.map_some, Option.getD_some]
    exact fun e => t (uG e))
   rw [List.take_length] at this
   exact this
 rw [aD h]
 have := Lib.idxOfS_miss (l.map bs) (l.map bs).length (bs x) (fun j o => by
  have f : j < l.length := by simpa using o
  simp only [List.getD_eq_getElem?_getD, List.getElem?_map, List.getElem?_eq_getElem f, Option.map_some, Option.getD_some]
  exact fun e => h (uG e ▸ List.getElem_mem f))
 rw [List.take_length] at this
 exact this
theorem xU {off : Nat} {l : List Bs} (h : ∀ (j : Nat) x, l[j]? = some x -> w.cell? ⟨b, off + j, none⟩ = some (.string (bs x))) : ∀ j, j < (l.map bs).length -> w.cell? ⟨b, off + j, none⟩ = some (.string ((l.map bs).getD j ByteArray.empty)) := by
 intro j f
 have e : j < l.length := by simpa using f
 rw [h j l[j] (List.getElem?_eq_getElem e)]
 simp [List.getD_eq_getElem?_getD, e]
theorem Ha (v : Value) (l : List Bs) (x : Bs) (w : World) (h : IsR elS (CX w.heap.size) w v l) : Calls prog 125 #[v, .string (bs x)] w (XR w (iA l x)) := by
 obtain ⟨u, f, rfl, z, t⟩ := h.shp
 by_cases o : l = []
 . subst o
   refine (Tryz.slices_Index_string_empty u f (bs x) w).mono ?_
   rintro e p ⟨rfl, rfl⟩
   exact ⟨by rw [aD AH]; rfl, Below.refl _ _⟩
 obtain ⟨_, _, _, b, k, rfl, _, q⟩ := aF h o
 have y : (l.map bs).length = l.length := List.length_map _
 have := Tryz.slices_Index_string b k l.length f (l.map bs) (bs x) w AA (by unfold maxLen at t; omega) (xU q)
 refine this.mono ?_
 rintro e p ⟨rfl, rfl⟩
 refine ⟨?_, Below.refl _ _⟩
 rw [List.take_of_length_le AA, Um]
theorem oV (v : Value) (l : List Bs) (x : Bs) (w : World) (h : IsR elS (CX w.heap.size) w v l) : Calls prog 79 #[v, .string (bs x)] w (LI w (decide (x ∈ l))) := by
 obtain ⟨u, f, rfl, B, t⟩ := h.shp
 by_cases o : l = []
 . subst o
   refine (Tryz.slices_Contains_string_empty u f (bs x) w).mono ?_
   rintro e p ⟨rfl, rfl⟩
   exact ⟨by simp, Below.refl _ _⟩
 obtain ⟨_, _, _, b, k, rfl, _, q⟩ := aF h o
 have z : (l.map bs).length = l.length := List.length_map _
 have := Tryz.slices_Contains_string b k l.length f (l.map bs) (bs x) w AA (by unfold maxLen at t; omega) (xU q)
 refine this.mono ?_
 rintro e p ⟨rfl, rfl⟩
 refine ⟨?_, Below.refl _ _⟩
 rw [List.take_of_length_le AA]
 congr 2
 rw [Bool.eq_iff_iff, Lib.containsS_iff, decide_eq_true_eq, List.mem_map]
 exact ⟨fun ⟨y, hy, e⟩ => uG e ▸ hy, fun h => ⟨x, h, rfl⟩⟩
section
variable {P : Program} {ρ : Operand -> Value} {o : Oper} {w : World} {t t' : TypeId} {x y : Operand}
theorem YE {k : IntKind} {m : Nat} {c : Int} (ho : o.op = .binOp .shr t x y t') (hx : ρ x = .int k ((m : Nat) : Int)) (hy : ρ y = .int yk ((n : Nat) : Int)) (hc : ((m / 2 ^ (min n k.bits) : Nat) : Int) = c) : (execOp ρ o).run P w = .ok (.value (.int k c)) w := by
 subst hc
 unfold execOp; rw [ho]
 have e : ¬ ((n : Int) < 0) := by omega
 simp only [hx, hy, eqGuard_at_int, binOp_shr, Op.shift, if_neg e, Int.toNat_natCast]
 simp only [Sem.run_bind, Sem.run_pure, Result.andThen_ok]
 congr 3
 rw [Int.fdiv_eq_ediv_of_nonneg _ (by exact Int.pow_nonneg AE)]
 simp
theorem dD (ho : o.op = .binOp .shl t x y t') (hx : ρ x = .int .i64 1) (hy : ρ y = .int yk ((n : Nat) : Int)) (hn : n <= 8) : (execOp ρ o).run P w = .ok (.value (.int .i64 ((2 ^ n : Nat) : Int))) w := by
 unfold execOp; rw [ho]
 have h : ¬ ((n : Int) < 0) := by omega
 have e : min n IntKind.i64.bits = n := Nat.min_eq_left (by have : IntKind.i64.bits = 64 := rfl; omega)
 simp only [hx, hy, eqGuard_at_int, binOp_shl, Op.shift, if_neg h, Int.toNat_natCast, e]
 have f : IntKind.i64.wrap (1 * 2 ^ n) = ((2 ^ n : Nat) : Int) := by
  have k : 2 ^ n <= 2 ^ 8 := Nat.pow_le_pow_right AE hn
  rw [Int.one_mul, show ((2 : Int) ^ n) = ((2 ^ n : Nat) : Int) by simp]
  exact JP rfl AA
 simp only [f, Sem.run_bind, Sem.run_pure, Result.andThen_ok]
end
theorem YB {m : Nat} (hm : m < 2 ^ b) : (((m / 2 ^ (min n b) : Nat) : Int) == 0) = decide (m < 2 ^ n) := by
 rw [Bool.eq_iff_iff, beq_iff_eq, decide_eq_true_eq]
 have f := Nat.two_pow_pos (min n b)
 have h : m / 2 ^ (min n b) = 0 ↔ m < 2 ^ (min n b) := by rw [Nat.div_eq_zero_iff]; omega
 have k : m < 2 ^ (min n b) ↔ m < 2 ^ n := by
  by_cases e : n <= b
  . rw [Nat.min_eq_left e]
  rw [Nat.min_eq_right AA]
  have := Nat.pow_lt_pow_right (a := 2) AE (show b < n by omega)
  omega
 omega
theorem Ss {m : Nat} (ho : o.op = .buildSlice 152 2 #[(0, x), (1, y)]) (hx : ρ x = .slice u m c) (hy : ρ y = .slice v n d) :
 (execOp ρ o).run prog w = .ok (.value (.slice (some ⟨w.heap.size, 0, none⟩) 2 2)) (w.alloc (.cells #[.slice u m c, .slice v n d] 46)) := by
 unfold execOp; rw [ho]
 simp [go_sem, Instr.buildSlice, hx, hy]
theorem zI {a : Act} {K : Act -> World -> Prop} {Q : Exit -> Act -> World -> Prop} {m : Nat} (ho : o.op = .buildSlice 152 2 #[(0, x), (1, y)]) (hx : a.eval x = .slice u m c) (hy : a.eval y = .slice v n d)
 (h : ∀ b w', b = w.heap.size -> w'.heap.size = w.heap.size + 1 -> Below w.heap.size w w' -> Bx w' b 46 [.slice u m c, .slice v n d] -> K (a.put o.dst (.slice (some ⟨b, 0, none⟩) 2 2)) w') : o.wp prog a w K Q :=
 DO (Ss ho hx hy) (h _ _ rfl AH ((Below.refl _ _).alloc (Nat.le_refl _) _) (JD w _ [.slice u m c, .slice v n d]))
set_option maxHeartbeats 8000000
set_option maxRecDepth 100000
theorem xP {p : List Tm} (h1 : FN p < 2 ^ n) (h2 : US p <= 12) : LH n p = true := by unfold LH; rw [decide_eq_true h1, decide_eq_true h2]; rfl
theorem lD {p : List Tm} (h : ¬ FN p < 2 ^ n ∨ ¬ US p <= 12) : LH n p = false := by
 unfold LH
 rcases h with h | h
 . rw [decide_eq_false h]; rfl
 rw [decide_eq_false h, Bool.and_false]
theorem SI (p : List Tm) : IntKind.i64.wrap ((FN p : Nat) : Int) = ((FN p : Nat) : Int) := by have := XV p; exact JP rfl AA
theorem kH (h : n <= 8) : IntKind.u64.wrap ((n : Nat) : Int) = ((n : Nat) : Int) := EX rfl AA
theorem lT (p : List Tm) : FN p < 2 ^ IntKind.i64.bits := Nat.lt_of_lt_of_le (XV p) AE
theorem Dp (p : List Tm) : FN p < 2 ^ IntKind.u8.bits := XV p
theorem Qb [Decidable p] {b : Bool} (h : b = decide p) (hp : p) : b = true := by rw [h, decide_eq_true hp]
theorem Xn [Decidable p] {b : Bool} (h : b = decide p) (hp : ¬ p) : b = false := by rw [h, decide_eq_false hp]
theorem tV (vp : Value) (p : List Tm) (n : Nat) (w : World) (hRp : IsR JL (CX w.heap.size) w vp p) (hp : ED p) (hF : ∀ t ∈ p, FitQ t.1 1000000) (hL : p.length <= 1000000) :
 Calls prog 95 #[vp, .int .i64 ↑n] w (LI w (LH n p)) := by
 have E := Env.start w
 obtain ⟨o, h, rfl, l, k⟩ := hRp.shp
 replace E := E.r hRp (DF _)
 go_enter func95, ntmps95
 by_cases e : FN p < 2 ^ n
 case neg =>
  refine yG ?_
  refine EF O (CA IM O (ZJ _ p _ (BW E.1) hp hF hL) O E ?_)
  intro u H E
  refine yG ?_
  refine EF O (BZ JA O (gG _ p _ (BW E.1) hL) O E ?_)
  intro q G E
  refine yG ?_
  refine V (v := .int .i64 ↑(FN p)) Z O (DR O O O underlying3 (SI p)) ?_
  refine yG ?_
  refine V (v := .int .i64 ((FN p / 2 ^ (min n IntKind.i64.bits) : Nat) : Int)) Z O (YE (m := FN p) (n := n) O O O O) ?_
  refine V Z O (EU (c := false) O O O (Xn (YB (lT p)) e)) ?_
  refine yG ?_
  exact ⟨CS (lD (.inl e)), E.2.1⟩
 by_cases f : US p <= 12
 case pos =>
  refine yG ?_
  refine EF O (CA IM O (ZJ _ p _ (BW E.1) hp hF hL) O E ?_)
  intro F Q E
  refine yG ?_
  refine EF O (BZ JA O (gG _ p _ (BW E.1) hL) O E ?_)
  intro D P E
  refine yG ?_
  refine V (v := .int .i64 ↑(FN p)) Z O (DR O O O underlying3 (SI p)) ?_
  refine yG ?_
  refine V (v := .int .i64 ((FN p / 2 ^ (min n IntKind.i64.bits) : Nat) : Int)) Z O (YE (m := FN p) (n := n) O O O O) ?_
  refine V Z O (EU (c := true) O O O (Qb (YB (lT p)) e)) ?_
  refine yG ?_
  refine EF O (BZ EW O (OO _ p _ (BW E.1) hL) O E ?_)
  intro C N E
  refine yG ?_
  exact ⟨CS (xP e f), E.2.1⟩
 refine yG ?_
 refine EF O (CA IM O (ZJ _ p _ (BW E.1) hp hF hL) O E ?_)
 intro B L E
 refine yG ?_
 refine EF O (BZ JA O (gG _ p _ (BW E.1) hL) O E ?_)
 intro z J E
 refine yG ?_
 refine V (v := .int .i64 ↑(FN p)) Z O (DR O O O underlying3 (SI p)) ?_
 refine yG ?_
 refine V (v := .int .i64 ((FN p / 2 ^ (min n IntKind.i64.bits) : Nat) : Int)) Z O (YE (m := FN p) (n := n) O O O O) ?_
 refine V Z O (EU (c := true) O O O (Qb (YB (lT p)) e)) ?_
 refine yG ?_
 refine EF O (BZ EW O (OO _ p _ (BW E.1) hL) O E ?_)
 intro y I E
 refine yG ?_
 exact ⟨CS (lD (.inr f)), E.2.1⟩
theorem aK (vp : Value) (p : List Tm) (n : Nat) (w : World) (hRp : IsR JL (CX w.heap.size) w vp p) (hp : ED p) (hF : ∀ t ∈ p, FitQ t.1 1000000) (hL : p.length <= 1000000) (hn : n <= 8) :
 Calls prog 117 #[vp, .int .i64 ↑n] w (LI w (LH n p)) := by
 have E := Env.start w
 obtain ⟨o, h, rfl, l, k⟩ := hRp.shp
 replace E := E.r hRp (DF _)
 go_enter func117, ntmps117
 by_cases e : US p <= 12
 case neg =>
  refine yG ?_
  refine EF O (CA LG O (VM _ p _ (BW E.1) hp hF hL) O E ?_)
  intro u H E
  refine yG ?_
  refine EF O (BZ QF O (cG _ p _ (BW E.1) hL) O E ?_)
  intro q G E
  refine yG ?_
  exact ⟨CS (lD (.inr e)), E.2.1⟩
 by_cases f : FN p < 2 ^ n
 case pos =>
  refine yG ?_
  refine EF O (CA LG O (VM _ p _ (BW E.1) hp hF hL) O E ?_)
  intro F Q E
  refine yG ?_
  refine EF O (BZ QF O (cG _ p _ (BW E.1) hL) O E ?_)
  intro D P E
  refine yG ?_
  refine EF O (BZ PF O (gE _ p _ (BW E.1) hL) O E ?_)
  intro C N E
  refine yG ?_
  refine V (v := .int .i64 ↑(FN p)) Z O (DR O O O underlying3 (SI p)) ?_
  refine yG ?_
  refine V (v := .int .u64 ↑n) Z O (DR O O O underlying39 (kH hn)) ?_
  refine V (v := .int .i64 ((2 ^ n : Nat) : Int)) Z O (dD (n := n) O O O hn) ?_
  refine yG ?_
  exact ⟨CS (xP f e), E.2.1⟩
 refine yG ?_
 refine EF O (CA LG O (VM _ p _ (BW E.1) hp hF hL) O E ?_)
 intro B L E
 refine yG ?_
 refine EF O (BZ QF O (cG _ p _ (BW E.1) hL) O E ?_)
 intro z J E
 refine yG ?_
 refine EF O (BZ PF O (gE _ p _ (BW E.1) hL) O E ?_)
 intro y I E
 refine yG ?_
 refine V (v := .int .i64 ↑(FN p)) Z O (DR O O O underlying3 (SI p)) ?_
 refine yG ?_
 refine V (v := .int .u64 ↑n) Z O (DR O O O underlying39 (kH hn)) ?_
 refine V (v := .int .i64 ((2 ^ n : Nat) : Int)) Z O (dD (n := n) O O O hn) ?_
 refine yG ?_
 exact ⟨CS (lD (.inl f)), E.2.1⟩
theorem gA (vl : Value) (l : List (Nat × List Tm)) (n : Nat) (next : Nat) (w : World) (hRl : IsR MS (CX w.heap.size) w vl l) (hO : PR l) (hn : n <= 8) (hL : l.length <= 1000000) :
 Calls prog 74 #[vl, .int .i64 ↑n, .int .i64 ↑next] w (LI w (ID n next l)) := by
 have E := Env.start w
 obtain ⟨C, t, rfl, aa, a9⟩ := hRl.shp
 replace E := E.r hRl (DF _)
 go_enter func74, ntmps74
 by_cases hl : ((l.length : Nat) : Int) > 12
 . refine yG ?_
   exact ⟨CS (Ev AA), E.2.1⟩
 refine yG ?_
 refine wp_loop_ghost (fun mz a w' => ∃ (i : Nat) (y : List Value), y = a.tmps.toList /\ a = ⟨(.slice C l.length t :: .int .i64 ↑n :: .int .i64 ↑next :: gr y 3 4 (.int .i64 ↑i :: .slice C l.length t :: .int .i64 ↑l.length :: .bool false :: gr y 11 49 [])).toArray, []⟩ /\ Env w' [fR MS (CX w.heap.size) (.slice C l.length t) l, fW w] /\ mz = l.length - i /\ (i <= l.length /\ jE n next l i)) (l.length) ⟨0, _, O, O, zE, O, ⟨Nat.zero_le _, nD _ _ _⟩⟩ ?_
 rintro m1 _ w1 ⟨i, y, -, rfl, E, J, Q⟩
 dsimp only [gr, Nat.reduceAdd]
 obtain ⟨Q, Y⟩ := Q
 by_cases hi : i < l.length
 case neg =>
  refine yG ?_
  exact ⟨CS (Eu Y hi AA), E.2.1⟩
 obtain ⟨⟨z, D⟩, e⟩ : ∃ x, l[i]? = some x := ⟨_, List.getElem?_eq_getElem hi⟩
 obtain ⟨G, a3, _, f, P, X, ⟨_, rfl, I⟩⟩ := IsR.at E.1.1 e
 obtain ⟨a8, a6, rfl, a1, _⟩ := I.shp
 have T : G < _ := E.1.2 _ P
 replace E := (E.r I E.1.2).c X T
 have ac : G < w.heap.size := P
 have k := hO _ (List.mem_of_getElem? e)
 have p := e
 by_cases hs : ((z : Nat) : Int) < 1
 . refine yG ?_
   refine sE E [0,1,2,3,4,5,6,7,8,9,10,11,12,13,14,15,16,17,18,19,20,21,22,23,24,25,26,27,28,29,30,31,32,33,34,35,36,37,38,39,40,41,42] ?_
   replace E := E.drew
   refine yG ?_
   refine RO O O O f O (List.getElem?_eq_some_iff.1 e).1 ?_
   refine yG ?_
   exact ⟨CS (YS p (.inl AA)), e3 E⟩
 by_cases hg : ((z : Nat) : Int) >= ((next : Nat) : Int)
 . refine yG ?_
   refine sE E [0,1,2,3,4,5,6,7,8,9,10,11,12,13,14,15,16,17,18,19,20,21,22,23,24,25,26,27,28,29,30,31,32,33,34,35,36,37,38,39,40,41,42] ?_
   replace E := E.drew
   refine yG ?_
   refine RO O O O f O (List.getElem?_eq_some_iff.1 e).1 ?_
   refine yG ?_
   refine RO O O O f O (List.getElem?_eq_some_iff.1 e).1 ?_
   refine yG ?_
   exact ⟨CS (YS p (.inr (.inl AA))), e3 E⟩
 by_cases h0 : 0 < i
 case neg =>
  by_cases u : LH n D = true
  case neg =>
   refine yG ?_
   refine sE E [0,1,2,3,4,5,6,7,8,9,10,11,12,13,14,15,16,17,18,19,20,21,22,23,24,25,26,27,28,29,30,31,32,33,34,35,36,37,38,39,40,41,42] ?_
   replace E := E.drew
   refine yG ?_
   refine RO O O O f O (List.getElem?_eq_some_iff.1 e).1 ?_
   refine yG ?_
   refine RO O O O f O (List.getElem?_eq_some_iff.1 e).1 ?_
   refine yG ?_
   refine RO O O O f O (List.getElem?_eq_some_iff.1 e).1 ?_
   refine yG ?_
   refine GZ (o := ⟨some 57, _, _, _, _, _⟩) O O O O (CA NB O (CU (DE u) (aK _ D n _ (BW E.2.1) k.1 k.2.1 k.2.2 hn)) O E ?_)
   intro w7 d7 E
   refine ⟨E, ?_⟩
   refine yG ?_
   exact ⟨CS (YS p (.inr (.inr (DE u)))), e3 E⟩
  refine yG ?_
  refine sE E [0,1,2,3,4,5,6,7,8,9,10,11,12,13,14,15,16,17,18,19,20,21,22,23,24,25,26,27,28,29,30,31,32,33,34,35,36,37,38,39,40,41,42] ?_
  replace E := E.drew
  refine yG ?_
  refine RO O O O f O (List.getElem?_eq_some_iff.1 e).1 ?_
  refine yG ?_
  refine RO O O O f O (List.getElem?_eq_some_iff.1 e).1 ?_
  refine yG ?_
  refine RO O O O f O (List.getElem?_eq_some_iff.1 e).1 ?_
  refine yG ?_
  refine GZ (o := ⟨some 57, _, _, _, _, _⟩) O O O O (CA NB O (CU u (aK _ D n _ (BW E.2.1) k.1 k.2.1 k.2.2 hn)) O E ?_)
  intro w6 d6 E
  refine ⟨E, ?_⟩
  refine yG ?_
  exact ⟨_, (by rw [J]; omega), (i + 1), _, O, O, zE, O, ⟨by omega, WH Y p AA AA u (fun h => absurd h AA)⟩⟩
 obtain ⟨⟨R, p3⟩, q⟩ : ∃ x, l[i - 1]? = some x := ⟨_, List.getElem?_eq_getElem (show i - 1 < l.length by omega)⟩
 obtain ⟨F, a2, _, B, N, U, ⟨_, rfl, H⟩⟩ := IsR.at E.2.2.1.1 q
 obtain ⟨a7, a4, rfl, a0, _⟩ := H.shp
 have S : F < _ := E.2.2.1.2 _ N
 replace E := (E.r H E.2.2.1.2).c U S
 have ab : F < w.heap.size := N
 by_cases hq : ((R : Nat) : Int) >= ((z : Nat) : Int)
 case pos =>
  refine yG ?_
  refine sE E [0,1,2,3,4,5,6,7,8,9,10,11,12,13,14,15,16,17,18,19,20,21,22,23,24,25,26,27,28,29,30,31,32,33,34,35,36,37,38,39,40,41,42] ?_
  replace E := E.drew
  refine yG ?_
  refine RO O O O f O (List.getElem?_eq_some_iff.1 e).1 ?_
  refine yG ?_
  refine RO O O O f O (List.getElem?_eq_some_iff.1 e).1 ?_
  refine yG ?_
  refine SW (v := .int .i64 ↑(i - 1)) O O O Z O (fun w hS => GN O O O (by rw [HI AA]; omega)) ?_
  refine RO O O O B O (List.getElem?_eq_some_iff.1 q).1 ?_
  refine yG ?_
  refine RO O O O f O (List.getElem?_eq_some_iff.1 e).1 ?_
  refine yG ?_
  exact ⟨CS (tN p q AA AA), e5 E⟩
 by_cases u : LH n D = true
 case neg =>
  refine yG ?_
  refine sE E [0,1,2,3,4,5,6,7,8,9,10,11,12,13,14,15,16,17,18,19,20,21,22,23,24,25,26,27,28,29,30,31,32,33,34,35,36,37,38,39,40,41,42] ?_
  replace E := E.drew
  refine yG ?_
  refine RO O O O f O (List.getElem?_eq_some_iff.1 e).1 ?_
  refine yG ?_
  refine RO O O O f O (List.getElem?_eq_some_iff.1 e).1 ?_
  refine yG ?_
  refine SW (v := .int .i64 ↑(i - 1)) O O O Z O (fun w hS => GN O O O (by rw [HI AA]; omega)) ?_
  refine RO O O O B O (List.getElem?_eq_some_iff.1 q).1 ?_
  refine yG ?_
  refine RO O O O f O (List.getElem?_eq_some_iff.1 e).1 ?_
  refine yG ?_
  refine RO O O O f O (List.getElem?_eq_some_iff.1 e).1 ?_
  refine yG ?_
  refine GZ (o := ⟨some 57, _, _, _, _, _⟩) O O O O (CA NB O (CU (DE u) (aK _ D n _ (BW (e3 E)) k.1 k.2.1 k.2.2 hn)) O E ?_)
  intro w5 d5 E
  refine ⟨E, ?_⟩
  refine yG ?_
  exact ⟨CS (YS p (.inr (.inr (DE u)))), e5 E⟩
 refine yG ?_
 refine sE E [0,1,2,3,4,5,6,7,8,9,10,11,12,13,14,15,16,17,18,19,20,21,22,23,24,25,26,27,28,29,30,31,32,33,34,35,36,37,38,39,40,41,42] ?_
 replace E := E.drew
 refine yG ?_
 refine RO O O O f O (List.getElem?_eq_some_iff.1 e).1 ?_
 refine yG ?_
 refine RO O O O f O (List.getElem?_eq_some_iff.1 e).1 ?_
 refine yG ?_
 refine SW (v := .int .i64 ↑(i - 1)) O O O Z O (fun w hS => GN O O O (by rw [HI AA]; omega)) ?_
 refine RO O O O B O (List.getElem?_eq_some_iff.1 q).1 ?_
 refine yG ?_
 refine RO O O O f O (List.getElem?_eq_some_iff.1 e).1 ?_
 refine yG ?_
 refine RO O O O f O (List.getElem?_eq_some_iff.1 e).1 ?_
 refine yG ?_
 refine GZ (o := ⟨some 57, _, _, _, _, _⟩) O O O O (CA NB O (CU u (aK _ D n _ (BW (e3 E)) k.1 k.2.1 k.2.2 hn)) O E ?_)
 intro w4 d4 E
 refine ⟨E, ?_⟩
 refine yG ?_
 exact ⟨_, (by rw [J]; omega), (i + 1), _, O, O, zE, O, ⟨by omega, WH Y p AA AA u (fun _ a b L => by rw [q] at L; cases L; omega)⟩⟩
end Go.Proofs.YtmppigbbkjepiaaGreatDoor
