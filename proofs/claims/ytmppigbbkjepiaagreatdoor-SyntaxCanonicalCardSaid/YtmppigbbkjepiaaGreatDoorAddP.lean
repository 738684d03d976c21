/- Systems: plain laws of what is valid. slices.Contains and slices.Index at names. Shifts; two slices in a new array. Sums, multiples and made polynomials: plain laws. -/
import Derived.Test.YtmppigbbkjepiaaGreatDoorKitM
import Derived.Test.YtmppigbbkjepiaaGreatDoorShelf
namespace Go.Proofs.YtmppigbbkjepiaaGreatDoor
open Go.Proofs.Tryz
open Go.RowKit W
theorem xQ {m : List Nat} {i : Nat} (h : 0 < me m i) : ∀ k, i < k → 2 ^ i ≤ KX m k
  | 0, hk => absurd hk (Nat.not_lt_zero _)
  | k + 1, hk => by
    unfold KX
    by_cases e : i = k
    · subst e; rw [if_pos h]; exact Nat.right_le_or
    · have := xQ h k Z
      split
      · exact Nat.le_trans this Nat.left_le_or
      · exact this
theorem lO {m : List Nat} {n : Nat} (h : PD n m) : ∀ k, KX m (n + k) = KX m n
  | 0 => rfl
  | k + 1 => by
    rw [← Nat.add_assoc, ← uJ (by rw [h (n + k) Z]; omega)]; exact lO h k
theorem qG {m : List Nat} {n : Nat} (hm : ER m) : KX m 8 < 2 ^ n ↔ PD n m := by
  constructor
  · intro h i k
    by_cases f : i < 8
    · rcases Nat.eq_zero_or_pos (me m i) with e | e
      · exact e
      · have o := xQ e 8 f
        have l := Nat.pow_le_pow_right (n := 2) AD k
        omega
    · unfold me; simp [List.getD_eq_getElem?_getD, List.getElem?_eq_none (by rw [hm.1]; omega : m.length ≤ i)]
  · intro h
    by_cases f : n ≤ 8
    · have := lO h (8 - n)
      rw [show n + (8 - n) = 8 by omega] at this
      rw [this]; exact ZY m n
    · exact Nat.lt_trans (ZY m 8) (Nat.pow_lt_pow_right AD Z)
theorem or_lt {a b n : Nat} : a ||| b < 2 ^ n ↔ a < 2 ^ n ∧ b < 2 ^ n :=
  ⟨fun h => ⟨Nat.lt_of_le_of_lt Nat.left_le_or h, Nat.lt_of_le_of_lt Nat.right_le_or h⟩, fun h => Nat.or_lt_two_pow h.1 h.2⟩
theorem ZU {p : List Tm} {n : Nat} (hp : GW p) : EZ p < 2 ^ n ↔ ∀ t ∈ p, PD n t.2 := by
  have h : ∀ (p : List Tm) (s : Nat), (∀ t ∈ p, ER t.2) → (p.foldl (fun s t => s ||| KX t.2 8) s < 2 ^ n ↔ s < 2 ^ n ∧ ∀ t ∈ p, PD n t.2) := by
    intro p
    induction p with
    | nil => intro s _; simp
    | cons t p ih =>
      intro s l
      rw [List.foldl_cons, ih _ (fun u o => l u (by simp [o])), or_lt, qG (l t AG)]
      simp only [List.mem_cons, forall_eq_or_imp]
      constructor
      · rintro ⟨⟨k, f⟩, e⟩; exact ⟨k, f, e⟩
      · rintro ⟨k, f, e⟩; exact ⟨⟨k, f⟩, e⟩
  have := h p 0 (fun t q => (hp.1 t q).2)
  unfold EZ
  rw [this]
  exact ⟨fun h => h.2, fun h => ⟨Nat.two_pow_pos n, h⟩⟩
structure Sy where
  vars : List Bs
  eqs : List (Nat × List Tm)
  neqs : List (Nat × List Tm)
  next : Nat
def LW (n : Nat) (p : List Tm) : Bool := decide (EZ p < 2 ^ n) && decide (RH p ≤ 12)
def EM (l : List (Nat × List Tm)) : List Nat := l.map (·.1)
def IN (n next : Nat) (l : List (Nat × List Tm)) : Bool := decide (l.length ≤ 12) && (l.all fun e => decide (1 ≤ e.1) && decide (e.1 < next) && LW n e.2) && decide ((EM l).Pairwise (· < ·))
def GO (s : Sy) : Bool := DS 4 s.vars && decide (1 ≤ s.next) && decide (s.next ≤ 1000000) && IN s.vars.length s.next s.eqs && IN s.vars.length s.next s.neqs && decide (∀ i ∈ EM s.eqs, i ∉ EM s.neqs)
def MZ (l : List (Nat × List Tm)) : Prop := ∀ e ∈ l, GW e.2 ∧ (∀ t ∈ e.2, FitQ t.1 1000000) ∧ e.2.length ≤ 1000000
theorem QG {s : Sy} (h : DS 4 s.vars = false) : GO s = false := by simp [GO, h]
theorem ZX {s : Sy} (h : s.next < 1 ∨ 1000000 < s.next) : GO s = false := by
  unfold GO
  rcases h with h | h
  · simp [show ¬ 1 ≤ s.next by omega]
  · simp [show ¬ s.next ≤ 1000000 by omega]
def dR (n next : Nat) (l : List (Nat × List Tm)) (i : Nat) : Prop := (∀ e ∈ l.take i, 1 ≤ e.1 ∧ e.1 < next ∧ LW n e.2 = true) ∧ (EM (l.take i)).Pairwise (· < ·)
theorem iY (n next : Nat) (l : List (Nat × List Tm)) : dR n next l 0 := ⟨fun e h => by simp at h, by simp [EM]⟩
theorem OZ (l : List (Nat × List Tm)) (e : Nat × List Tm) : EM (l ++ [e]) = EM l ++ [e.1] := by simp [EM]
theorem Lg {l : List Nat} {a : Nat} (h : (l ++ [a]).Pairwise (· < ·)) : ∀ x ∈ l ++ [a], x ≤ a := by
  intro x e
  rcases List.mem_append.1 e with g | g
  · exact Nat.le_of_lt ((List.pairwise_append.1 h).2.2 x g a AG)
  · simp at g; omega
theorem UA {n next : Nat} {l : List (Nat × List Tm)} {i id : Nat} {p : List Tm} (h : dR n next l i) (hx : l[i]? = some (id, p)) (h1 : 1 ≤ id) (h2 : id < next) (h3 : LW n p = true) (hp : 0 < i → ∀ id' p', l[i - 1]? = some (id', p') → id' < id) : dR n next l (i + 1) := by
  unfold dR
  rw [JR hx]
  refine ⟨fun e t => ?_, ?_⟩
  · rcases List.mem_append.1 t with g | g
    · exact h.1 e g
    · simp at g; subst g; exact ⟨h1, h2, h3⟩
  · rw [OZ, List.pairwise_append]
    refine ⟨h.2, by simp, fun x f y k => ?_⟩
    simp at k; subst k
    cases i with
    | zero => simp [EM] at f
    | succ i =>
      have u := (List.getElem?_eq_some_iff.1 hx).1
      obtain ⟨⟨id', p'⟩, o⟩ : ∃ e, l[i]? = some e := ⟨_, List.getElem?_eq_getElem Z⟩
      have v := hp Z id' p' (by simpa using o)
      have q := h.2
      rw [JR o, OZ] at q f
      have := Lg q x f
      simp at this; omega
theorem yW {n next : Nat} {l : List (Nat × List Tm)} (h : l.length > 12) : IN n next l = false := by simp [IN, show ¬ l.length ≤ 12 by omega]
theorem WC {n next : Nat} {l : List (Nat × List Tm)} {i id : Nat} {p : List Tm} (hx : l[i]? = some (id, p)) (h : id < 1 ∨ next ≤ id ∨ LW n p = false) : IN n next l = false := by
  cases e : IN n next l with
  | false => rfl
  | true =>
    unfold IN at e
    simp only [Bool.and_eq_true, decide_eq_true_eq, List.all_eq_true] at e
    have := e.1.2 _ (List.mem_of_getElem? hx)
    simp only at this
    rcases h with h | h | h
    · omega
    · omega
    · rw [h] at this; simp at this
theorem oP {n next : Nat} {l : List (Nat × List Tm)} {i j id id' : Nat} {p p' : List Tm} (hx : l[i]? = some (id, p)) (hy : l[j]? = some (id', p')) (hij : j < i) (h : id ≤ id') : IN n next l = false := by
  cases e : IN n next l with
  | false => rfl
  | true =>
    unfold IN at e
    simp only [Bool.and_eq_true, decide_eq_true_eq] at e
    have y := e.2
    have u := (List.getElem?_eq_some_iff.1 hx)
    have t := (List.getElem?_eq_some_iff.1 hy)
    obtain ⟨q, o⟩ := u
    obtain ⟨k, f⟩ := t
    have v := (List.pairwise_iff_getElem.1 y) j i (by simpa [EM] using k) (by simpa [EM] using q) hij
    simp [EM, o, f] at v
    omega
theorem yV {n next : Nat} {l : List (Nat × List Tm)} {i : Nat} (h : dR n next l i) (hi : ¬ i < l.length) (hl : ¬ l.length > 12) : IN n next l = true := by
  unfold dR at h
  rw [IA hi] at h
  unfold IN
  simp only [Bool.and_eq_true, decide_eq_true_eq, List.all_eq_true]
  exact ⟨⟨by omega, fun e f => ⟨⟨(h.1 e f).1, (h.1 e f).2.1⟩, (h.1 e f).2.2⟩⟩, h.2⟩
def yX (s : Sy) (j : Nat) (l : List (Nat × List Tm)) (base : List Nat) : Prop := (j = 0 ∧ l = s.eqs ∧ base = []) ∨ (j = 1 ∧ l = s.neqs ∧ base = EM s.eqs ∧ IN s.vars.length s.next s.eqs = true)
theorem TM {s : Sy} {j : Nat} {l : List (Nat × List Tm)} {base : List Nat} (h : yX s j l base) (hl : IN s.vars.length s.next l = false) : GO s = false := by
  unfold GO
  rcases h with ⟨_, rfl, _⟩ | ⟨_, rfl, _⟩ <;> simp [hl]
theorem Mi {l : List (Nat × List Tm)} {id : Nat} (h : id ∈ EM l) : ∃ (j : Nat) (p : List Tm), l[j]? = some (id, p) := by
  unfold EM at h
  obtain ⟨⟨a, p⟩, f, rfl⟩ := List.mem_map.1 h
  obtain ⟨j, e⟩ := List.getElem?_of_mem f
  exact ⟨j, p, e⟩
theorem Ki {s : Sy} {j i id : Nat} {l : List (Nat × List Tm)} {base : List Nat} {p : List Tm} (h : yX s j l base) (hx : l[i]? = some (id, p)) (hd : id ∈ base ++ EM (l.take i)) : GO s = false := by
  have own : id ∈ EM (l.take i) → GO s = false := by
    intro g
    obtain ⟨k, q, o⟩ := Mi g
    have e : k < i := by
      have := (List.getElem?_eq_some_iff.1 o).1
      simp at this; omega
    rw [List.getElem?_take, if_pos e] at o
    exact TM h (oP hx o e (Nat.le_refl _))
  rcases List.mem_append.1 hd with g | g
  · rcases h with ⟨_, _, rfl⟩ | ⟨_, rfl, rfl, _⟩
    · cases g
    · unfold GO
      have : ¬ ∀ i ∈ EM s.eqs, i ∉ EM s.neqs := fun f => f id g (by unfold EM; exact List.mem_map.2 ⟨_, List.mem_of_getElem? hx, rfl⟩)
      simp [this]
  · exact own g
theorem nJ {s : Sy} (h1 : DS 4 s.vars = true) (h2 : ¬ s.next < 1) (h3 : ¬ s.next > 1000000) (h4 : IN s.vars.length s.next s.eqs = true) (h5 : IN s.vars.length s.next s.neqs = true) (h6 : ∀ i ∈ EM s.neqs, i ∉ EM s.eqs) : GO s = true := by
  unfold GO
  simp only [Bool.and_eq_true, decide_eq_true_eq]
  exact ⟨⟨⟨⟨⟨h1, by omega⟩, by omega⟩, h4⟩, h5⟩, fun i f e => h6 i e f⟩
theorem XQ {S : Nat → Prop} {w : World} {ao : Option Addr} {n cap : Nat} {l : List Bs} (h : IsR elS S w (.slice ao n cap) l) (hl : l ≠ []) : n = l.length ∧ n ≤ cap ∧ cap ≤ maxLen ∧ ∃ b off, ao = some ⟨b, off, none⟩ ∧ S b ∧ ∀ j x, l[j]? = some x → w.cell? ⟨b, off + j, none⟩ = some (.string (bs x)) := by
  obtain ⟨_, _, p, t, q⟩ := h.shp
  cases p
  refine ⟨O, t, q, ?_⟩
  cases l with
  | nil => exact absurd rfl hl
  | cons x0 r =>
    obtain ⟨b, off, _, k, u, _, _⟩ := h.at (i := 0) (x := x0) rfl
    refine ⟨b, off, k, u, fun j x o => ?_⟩
    obtain ⟨v, f, cs, e3, _, e4, e5⟩ := h.at o
    rw [k] at e3
    cases e3
    have e : cs = [.string (bs x)] := e5
    subst e
    have := e4 0 _ rfl
    rw [show elS.sz = 1 from rfl, Nat.mul_one] at this
    exact this
theorem Mh (l : List Bs) (x : Bs) : Lib.idxOfS (l.map bs) (bs x) = vY l x := by
  by_cases h : x ∈ l
  · obtain ⟨i, p, k⟩ := Cu h
    unfold vY
    rw [p]
    rw [List.idxOf?, List.findIdx?_eq_some_iff_getElem] at p
    obtain ⟨_, v, u⟩ := p
    have q : l[i] = x := by simpa using v
    have := Lib.idxOfS_hit (l.map bs) (l.map bs).length i (bs x) (by simpa using k) (Nat.le_refl _) (by simp [List.getD_eq_getElem?_getD, k, q]) (fun j o => by
      have f : j < l.length := by omega
      have t : ¬ l[j] = x := by simpa using u j o
      simp only [List.getD_eq_getElem?_getD, List.getElem?_map, List.getElem?_eq_getElem f, Option.map_some, Option.getD_some]
      exact fun e => t (pG e))
    rw [List.take_length] at this
    exact this
  · rw [mL h]
    have := Lib.idxOfS_miss (l.map bs) (l.map bs).length (bs x) (fun j o => by
      have f : j < l.length := by simpa using o
      simp only [List.getD_eq_getElem?_getD, List.getElem?_map, List.getElem?_eq_getElem f, Option.map_some, Option.getD_some]
      exact fun e => h (pG e ▸ List.getElem_mem f))
    rw [List.take_length] at this
    exact this
theorem sQ {w : World} {b off : Nat} {l : List Bs} (h : ∀ (j : Nat) x, l[j]? = some x → w.cell? ⟨b, off + j, none⟩ = some (.string (bs x))) : ∀ j, j < (l.map bs).length → w.cell? ⟨b, off + j, none⟩ = some (.string ((l.map bs).getD j ByteArray.empty)) := by
  intro j f
  have e : j < l.length := by simpa using f
  rw [h j l[j] (List.getElem?_eq_getElem e)]
  simp [List.getD_eq_getElem?_getD, e]
theorem Ax (v : Value) (l : List Bs) (x : Bs) (w : World) (h : IsR elS (DI w.heap.size) w v l) : Calls prog 125 #[v, .string (bs x)] w (XY w (vY l x)) := by
  obtain ⟨u, f, rfl, z, t⟩ := h.shp
  by_cases o : l = []
  · subst o
    refine (Tryz.slices_Index_string_empty u f (bs x) w).mono ?_
    rintro e p ⟨rfl, rfl⟩
    exact ⟨by rw [mL AG]; rfl, Below.refl _ _⟩
  · obtain ⟨_, _, _, b, k, rfl, _, q⟩ := XQ h o
    have y : (l.map bs).length = l.length := List.length_map _
    have := Tryz.slices_Index_string b k l.length f (l.map bs) (bs x) w Z (by unfold maxLen at t; omega) (sQ q)
    refine this.mono ?_
    rintro e p ⟨rfl, rfl⟩
    refine ⟨?_, Below.refl _ _⟩
    rw [List.take_of_length_le Z, Mh]
theorem kJ (v : Value) (l : List Bs) (x : Bs) (w : World) (h : IsR elS (DI w.heap.size) w v l) : Calls prog 79 #[v, .string (bs x)] w (JO w (decide (x ∈ l))) := by
  obtain ⟨u, f, rfl, B, t⟩ := h.shp
  by_cases o : l = []
  · subst o
    refine (Tryz.slices_Contains_string_empty u f (bs x) w).mono ?_
    rintro e p ⟨rfl, rfl⟩
    exact ⟨by simp, Below.refl _ _⟩
  · obtain ⟨_, _, _, b, k, rfl, _, q⟩ := XQ h o
    have z : (l.map bs).length = l.length := List.length_map _
    have := Tryz.slices_Contains_string b k l.length f (l.map bs) (bs x) w Z (by unfold maxLen at t; omega) (sQ q)
    refine this.mono ?_
    rintro e p ⟨rfl, rfl⟩
    refine ⟨?_, Below.refl _ _⟩
    rw [List.take_of_length_le Z]
    congr 2
    rw [Bool.eq_iff_iff, Lib.containsS_iff, decide_eq_true_eq, List.mem_map]
    exact ⟨fun ⟨y, hy, e⟩ => pG e ▸ hy, fun h => ⟨x, h, rfl⟩⟩
end Go.Proofs.YtmppigbbkjepiaaGreatDoor
namespace Go.Proofs.YtmppigbbkjepiaaGreatDoor
open Go.Proofs.Tryz
open Go.RowKit W
def CC : List Value → Nat → Value
  | [], _ => undef
  | v :: _, 0 => v
  | _ :: l, n + 1 => CC l n
section
variable {P : Program} {ρ : Operand → Value} {o : Oper} {w : World} {t t' : TypeId} {x y : Operand}
theorem VR {k yk : IntKind} {m n : Nat} {c : Int} (ho : o.op = .binOp .shr t x y t') (hx : ρ x = .int k ((m : Nat) : Int)) (hy : ρ y = .int yk ((n : Nat) : Int)) (hc : ((m / 2 ^ (min n k.bits) : Nat) : Int) = c) : (execOp ρ o).run P w = .ok (.value (.int k c)) w := by
  subst hc
  unfold execOp; rw [ho]
  have e : ¬ ((n : Int) < 0) := by omega
  simp only [hx, hy, eqGuard_at_int, binOp_shr, Op.shift, if_neg e, Int.toNat_natCast]
  simp only [Sem.run_bind, Sem.run_pure, Result.andThen_ok]
  congr 3
  rw [Int.fdiv_eq_ediv_of_nonneg _ (by exact Int.pow_nonneg AD)]
  simp
theorem qO {yk : IntKind} {n : Nat} (ho : o.op = .binOp .shl t x y t') (hx : ρ x = .int .i64 1) (hy : ρ y = .int yk ((n : Nat) : Int)) (hn : n ≤ 8) : (execOp ρ o).run P w = .ok (.value (.int .i64 ((2 ^ n : Nat) : Int))) w := by
  unfold execOp; rw [ho]
  have h : ¬ ((n : Int) < 0) := by omega
  have e : min n IntKind.i64.bits = n := Nat.min_eq_left (by have : IntKind.i64.bits = 64 := rfl; omega)
  simp only [hx, hy, eqGuard_at_int, binOp_shl, Op.shift, if_neg h, Int.toNat_natCast, e]
  have f : IntKind.i64.wrap (1 * 2 ^ n) = ((2 ^ n : Nat) : Int) := by
    have k : 2 ^ n ≤ 2 ^ 8 := Nat.pow_le_pow_right AD hn
    rw [Int.one_mul, show ((2 : Int) ^ n) = ((2 ^ n : Nat) : Int) by simp]
    exact ST rfl Z
  simp only [f, Sem.run_bind, Sem.run_pure, Result.andThen_ok]
end
theorem VP {m n b : Nat} (hm : m < 2 ^ b) : (((m / 2 ^ (min n b) : Nat) : Int) == 0) = decide (m < 2 ^ n) := by
  rw [Bool.eq_iff_iff, beq_iff_eq, decide_eq_true_eq]
  have f := Nat.two_pow_pos (min n b)
  have h : m / 2 ^ (min n b) = 0 ↔ m < 2 ^ (min n b) := by rw [Nat.div_eq_zero_iff]; omega
  have k : m < 2 ^ (min n b) ↔ m < 2 ^ n := by
    by_cases e : n ≤ b
    · rw [Nat.min_eq_left e]
    · rw [Nat.min_eq_right Z]
      have := Nat.pow_lt_pow_right (a := 2) AD (show b < n by omega)
      omega
  omega
theorem Kr {ρ : Operand → Value} {o : Oper} {w : World} {x y : Operand} {u v : Option Addr} {m n c d : Nat} (ho : o.op = .buildSlice 152 2 #[(0, x), (1, y)]) (hx : ρ x = .slice u m c) (hy : ρ y = .slice v n d) :
    (execOp ρ o).run prog w = .ok (.value (.slice (some ⟨w.heap.size, 0, none⟩) 2 2)) (w.alloc (.cells #[.slice u m c, .slice v n d] 46)) := by
  unfold execOp; rw [ho]
  simp [go_sem, Instr.buildSlice, hx, hy]
theorem tQ {o : Oper} {a : Act} {w : World} {K : Act → World → Prop} {Q : Exit → Act → World → Prop} {x y : Operand} {u v : Option Addr} {m n c d : Nat} (ho : o.op = .buildSlice 152 2 #[(0, x), (1, y)]) (hx : a.eval x = .slice u m c) (hy : a.eval y = .slice v n d)
    (h : ∀ b w', b = w.heap.size → w'.heap.size = w.heap.size + 1 → Below w.heap.size w w' → Bx w' b 46 [.slice u m c, .slice v n d] → K (a.put o.dst (.slice (some ⟨b, 0, none⟩) 2 2)) w') : o.wp prog a w K Q :=
  DT (Kr ho hx hy) (h _ _ rfl AG ((Below.refl _ _).alloc (Nat.le_refl _) _) (JZ w _ [.slice u m c, .slice v n d]))
end Go.Proofs.YtmppigbbkjepiaaGreatDoor
namespace Go.Proofs.YtmppigbbkjepiaaGreatDoor
open W
def MY : List Tm → List Tm → List Tm
  | [], q => q
  | t :: p, [] => t :: p
  | t :: p, u :: q => if 0 < EU t.2 u.2 then t :: MY p (u :: q) else if EU t.2 u.2 < 0 then u :: MY (t :: p) q else if t.1 + u.1 = 0 then MY p q else (t.1 + u.1, t.2) :: MY p q
termination_by p q => p.length + q.length
theorem jX (p : List Tm) : MY p [] = p := by cases p <;> rw [MY]
theorem mY (q : List Tm) : MY [] q = q := by rw [MY]
theorem Al {t u : Tm} {p q : List Tm} (h : 0 < EU t.2 u.2) : MY (t :: p) (u :: q) = t :: MY p (u :: q) := by rw [MY, if_pos h]
theorem Ak {t u : Tm} {p q : List Tm} (h : ¬ 0 < EU t.2 u.2) (h2 : EU t.2 u.2 < 0) : MY (t :: p) (u :: q) = u :: MY (t :: p) q := by rw [MY, if_neg h, if_pos h2]
theorem Jc {t u : Tm} {p q : List Tm} (h : ¬ 0 < EU t.2 u.2) (h2 : ¬ EU t.2 u.2 < 0) (h3 : t.1 + u.1 = 0) : MY (t :: p) (u :: q) = MY p q := by rw [MY, if_neg h, if_neg h2, if_pos h3]
theorem Aj {t u : Tm} {p q : List Tm} (h : ¬ 0 < EU t.2 u.2) (h2 : ¬ EU t.2 u.2 < 0) (h3 : ¬ t.1 + u.1 = 0) : MY (t :: p) (u :: q) = (t.1 + u.1, t.2) :: MY p q := by rw [MY, if_neg h, if_neg h2, if_neg h3]
theorem bJ {P : List Tm → List Tm → List Tm → Prop} (h1 : ∀ q, P [] q q) (h2 : ∀ p, P p [] p) (h3 : ∀ t u p q r, 0 < EU t.2 u.2 → P p (u :: q) r → P (t :: p) (u :: q) (t :: r))
    (h4 : ∀ t u p q r, EU t.2 u.2 < 0 → P (t :: p) q r → P (t :: p) (u :: q) (u :: r)) (h5 : ∀ t u p q r, EU t.2 u.2 = 0 → t.1 + u.1 = 0 → P p q r → P (t :: p) (u :: q) r)
    (h6 : ∀ t u p q r, EU t.2 u.2 = 0 → t.1 + u.1 ≠ 0 → P p q r → P (t :: p) (u :: q) ((t.1 + u.1, t.2) :: r)) : ∀ (n : Nat) (p q : List Tm), p.length + q.length ≤ n → P p q (MY p q)
  | _, [], q, _ => by rw [mY]; exact h1 q
  | _, t :: p, [], _ => by rw [jX]; exact h2 _
  | 0, t :: p, u :: q, hn => by simp at hn
  | n + 1, t :: p, u :: q, hn => by
    by_cases g1 : 0 < EU t.2 u.2
    · rw [Al g1]; exact h3 t u p q _ g1 (bJ h1 h2 h3 h4 h5 h6 n p (u :: q) (by simp at hn ⊢; omega))
    · by_cases g2 : EU t.2 u.2 < 0
      · rw [Ak g1 g2]; exact h4 t u p q _ g2 (bJ h1 h2 h3 h4 h5 h6 n (t :: p) q (by simp at hn ⊢; omega))
      · have ih := bJ h1 h2 h3 h4 h5 h6 n p q (by simp at hn ⊢; omega)
        by_cases g3 : t.1 + u.1 = 0
        · rw [Jc g1 g2 g3]; exact h5 t u p q _ Z g3 ih
        · rw [Aj g1 g2 g3]; exact h6 t u p q _ Z g3 ih
theorem Jd (p q : List Tm) : (MY p q).length ≤ p.length + q.length := by
  refine bJ (P := fun p q r => r.length ≤ p.length + q.length) ?_ ?_ ?_ ?_ ?_ ?_ _ p q (Nat.le_refl _) <;> intros <;> simp only [List.length_cons, List.length_nil] at * <;> omega
def KJ (c : Rat) (m : List Nat) (p : List Tm) : List Tm := if c = 0 then [] else p.map fun t => (c * t.1, OA m t.2 8)
theorem qB {c : Rat} {m : List Nat} {p : List Tm} (h : c = 0) : KJ c m p = [] := by unfold KJ; rw [if_pos h]
theorem hI (c : Rat) (m : List Nat) (p : List Tm) : (KJ c m p).length ≤ p.length := by unfold KJ; split <;> simp
theorem qC {c : Rat} {m : List Nat} {p : List Tm} {i : Nat} {t : Tm} (h : ¬ c = 0) (hx : p[i]? = some t) : KJ c m (p.take (i + 1)) = KJ c m (p.take i) ++ [(c * t.1, OA m t.2 8)] := by
  unfold KJ; rw [if_neg h, if_neg h]
  have e := (List.getElem?_eq_some_iff.1 hx).1
  rw [List.take_succ_eq_append_getElem e, List.map_append, (List.getElem?_eq_some_iff.1 hx).2]; rfl
def iD (c : Rat) (p : List Tm) : List Tm := KJ c zeroM p
def Pg (p q : List Tm) : List Tm := MY p (iD ((-1 : Int) : Rat) q)
def LY (c : Rat) : List Tm := if c = 0 then [] else [(c, zeroM)]
end Go.Proofs.YtmppigbbkjepiaaGreatDoor
