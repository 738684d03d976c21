/- Helping facts of Up; no other conditions. Helping facts of Api3; no other conditions. -/
import Derived.Deep.RegionLaw
import Derived.Lib.ItoaNum
import Derived.Test.YtmppigbbkjepiaaGreatDoorApi2
import Derived.Deep.LoopGhost
namespace Go.Proofs.YtmppigbbkjepiaaGreatDoor
open Go.RowKit W
theorem Own.a {w : World} {base g n : Nat} {l : List Nat} (h : Own w base g n l) : OwnA w base (.slice (some ⟨g, 0, none⟩) n n) l := by
  unfold OwnA
  rw [h.len]
  exact h
theorem OwnA.below {w w' : World} {base : Nat} {v : Value} {l : List Nat} (h : OwnA w base v l) (hb : Below w.heap.size w w') : OwnA w' base v l := by
  obtain ⟨u, e⟩ := h
  refine ⟨u, ?_⟩
  rcases e with e | ⟨p, k, f, q, t, o, r⟩
  · exact Or.inl e
  · exact Or.inr ⟨p, k, f, q, t, by rw [hb.block p (Array.getElem?_eq_some_iff.1 o).1]; exact o, r⟩
theorem OwnA.base {w : World} {base base' : Nat} {v : Value} {l : List Nat} (h : OwnA w base v l) (hb : base' ≤ base) : OwnA w base' v l := by
  obtain ⟨p, e⟩ := h
  refine ⟨p, ?_⟩
  rcases e with e | ⟨q, k, f, o, t, r⟩
  · exact Or.inl e
  · exact Or.inr ⟨q, k, f, o, by omega, r⟩
theorem pow32 (k : Nat) : (4294967296 : Nat) ^ k = 2 ^ (32 * k) := by
  rw [Nat.pow_mul]
end Go.Proofs.YtmppigbbkjepiaaGreatDoor
namespace Go.Proofs.YtmppigbbkjepiaaGreatDoor
open Go.RowKit W
def YL (n m : Nat) : Nat := n / 2 ^ m
end Go.Proofs.YtmppigbbkjepiaaGreatDoor
namespace Go.Proofs.YtmppigbbkjepiaaGreatDoor
open W
def IsRoot (r k A : Nat) : Prop := r ^ k ≤ A ∧ A < (r + 1) ^ k
theorem nA (k A : Nat) (hk : 1 ≤ k) : ∃ r, IsRoot r k A := by
  have e : ∀ n, A < (n + 1) ^ k → ∃ r, IsRoot r k A := by
    intro n
    induction n with
    | zero => intro h; exact ⟨0, by rw [Nat.zero_pow AA]; omega, h⟩
    | succ n ih =>
      intro h
      by_cases f : (n + 1) ^ k ≤ A
      · exact ⟨n + 1, f, h⟩
      · exact ih AA
  refine e A ?_
  have := Nat.pow_le_pow_right (n := A + 1) AA hk
  rw [Nat.pow_one] at this
  omega
theorem rQ (A : Nat) (h : 0 < A) : A < 2 ^ lP A ∧ 2 ^ (lP A - 1) ≤ A ∧ 1 ≤ lP A ∧ lP A ≤ 32 * (CC A).length := by
  obtain ⟨l, x, e, C, k⟩ := YY A h
  have f : (CC A).length = l.length + 1 := by rw [e]; simp
  have y : gd (CC A) ((CC A).length - 1) = x := by
    rw [f, Nat.add_sub_cancel, e, NF _ _ _ (Nat.le_refl _), Nat.sub_self]; rfl
  have z : lP A = 32 * l.length + Lib.bitLen x := by
    unfold lP; rw [if_neg AA, y, f, Nat.add_sub_cancel]
  obtain ⟨B, u, t⟩ := Lib.bitLenAux_bounds 64 x AA AA
  have D := vN x k
  have o : Lib.bitLenAux 64 x = Lib.bitLen x := rfl
  rw [o] at B u t
  have q := CN A
  have p := FO A
  rw [e, Wd_append] at p
  rw [e, WO] at q
  have v := GI p.1
  rw [pow32] at q v
  rw [z, f]
  refine ⟨?_, ?_, by omega, by omega⟩
  · rw [Nat.pow_add]
    have : 2 ^ (32 * l.length) * (x + 1) ≤ 2 ^ (32 * l.length) * 2 ^ Lib.bitLen x := Nat.mul_le_mul_left _ t
    rw [Nat.mul_add] at this
    omega
  · rw [show 32 * l.length + Lib.bitLen x - 1 = 32 * l.length + (Lib.bitLen x - 1) by omega, Nat.pow_add]
    have : 2 ^ (32 * l.length) * 2 ^ (Lib.bitLen x - 1) ≤ 2 ^ (32 * l.length) * x := Nat.mul_le_mul_left _ u
    omega
def BitInv (A k i r : Nat) : Prop := r % 2 ^ i = 0 ∧ r ^ k ≤ A ∧ A < (r + 2 ^ i) ^ k
theorem BitInv.start {A k n : Nat} (hA : 0 < A) (hk : 1 ≤ k) (h : lP A ≤ n * k) : BitInv A k n 0 := by
  refine ⟨by simp, by rw [Nat.zero_pow AA]; omega, ?_⟩
  have f := (rQ A hA).1
  have e := Nat.pow_le_pow_right (n := 2) AA h
  rw [Nat.zero_add, ← Nat.pow_mul]
  omega
theorem BitInv.lt {A k i r n : Nat} (h : BitInv A k i r) (hn : A < (2 ^ n) ^ k) : r < 2 ^ n := by
  rcases Nat.lt_or_ge r (2 ^ n) with e | e
  · exact e
  · have := Nat.pow_le_pow_left e k
    have := h.2.1; omega
theorem BitInv.low {A k i r : Nat} (h : BitInv A k (i + 1) r) : r % 2 ^ (i + 1) = 0 := h.1
theorem BitInv.done {A k r : Nat} (h : BitInv A k 0 r) : IsRoot r k A := ⟨h.2.1, by have := h.2.2; simpa using this⟩
theorem amgm (R x : Int) (hR : 0 ≤ R) (hx : 0 ≤ x) : ∀ k : Nat, R ^ (k + 1) + k * x ^ (k + 1) ≥ (k + 1) * R * x ^ k
  | 0 => by simp [Int.pow_succ]
  | k + 1 => by
    have ih := amgm R x hR hx k
    have hp : 0 ≤ x ^ k := Int.pow_nonneg hx
    have h1 := Int.mul_le_mul_of_nonneg_left ih hR
    have h2 : 0 ≤ ((k : Int) + 1) * (x ^ k * ((R - x) * (R - x))) := by
      refine Int.mul_nonneg AA (Int.mul_nonneg hp ?_)
      rcases Int.le_total 0 (R - x) with h | h
      · exact Int.mul_nonneg h h
      · have := Int.mul_nonneg (Int.neg_nonneg_of_nonpos h) (Int.neg_nonneg_of_nonpos h); rwa [Int.neg_mul_neg] at this
    have e1 : R ^ (k + 1 + 1) = R * R ^ (k + 1) := by rw [Int.pow_succ]; exact Int.mul_comm _ _
    have e2 : x ^ (k + 1 + 1) = x * x * x ^ k := by rw [Int.pow_succ, Int.pow_succ]; grind
    have e3 : x ^ (k + 1) = x * x ^ k := by rw [Int.pow_succ]; exact Int.mul_comm _ _
    rw [e3] at h1 ⊢
    rw [e1, e2]
    have e : (((k + 1 : Nat)) : Int) = (k : Int) + 1 := by omega
    rw [e]
    generalize x ^ k = X at *
    generalize R ^ (k + 1) = Y at *
    grind
def XI (A k x : Nat) : Nat := ((k - 1) * x + A / x ^ (k - 1)) / k
theorem Gr {A k x R : Nat} (hk : 2 ≤ k) (hx : 0 < x) (hR : R ^ k ≤ A) : R ≤ XI A k x := by
  unfold XI
  obtain ⟨m, rfl⟩ : ∃ m, k = m + 1 := ⟨k - 1, by omega⟩
  rw [Nat.add_sub_cancel, Nat.le_div_iff_mul_le AA]
  by_cases f : R * (m + 1) ≤ m * x
  · exact Nat.le_trans f (Nat.le_add_right _ _)
  · have l := Nat.pow_pos (n := m) hx
    have o : R * (m + 1) - m * x ≤ A / x ^ m := by
      rw [Nat.le_div_iff_mul_le l]
      refine Nat.le_trans ?_ hR
      have h := amgm (R : Int) (x : Int) AA AA m
      have e : (((R * (m + 1) - m * x) * x ^ m : Nat) : Int) ≤ ((R ^ (m + 1) : Nat) : Int) := by
        rw [Int.natCast_mul, Int.ofNat_sub AA]
        push_cast
        rw [Int.pow_succ (x : Int) m] at h
        generalize (x : Int) ^ m = X at *
        generalize (R : Int) ^ (m + 1) = Y at *
        grind
      omega
    omega
theorem Gq {A k x : Nat} (hk : 2 ≤ k) (hx : 0 < x) (h : A < x ^ k) : XI A k x < x := by
  unfold XI
  obtain ⟨m, rfl⟩ : ∃ m, k = m + 1 := ⟨k - 1, by omega⟩
  rw [Nat.add_sub_cancel]
  have e := Nat.pow_pos (n := m) hx
  have f : A / x ^ m < x := by
    apply Nat.div_lt_of_lt_mul
    rwa [Nat.pow_succ] at h
  apply Nat.div_lt_of_lt_mul
  rw [Nat.add_mul, Nat.one_mul]
  omega
def NewtInv (A k x : Nat) : Prop := 0 < x ∧ A < (x + 1) ^ k ∧ ∃ R, IsRoot R k A ∧ 0 < R ∧ x ≤ 2 * R
theorem NewtInv.step {A k x : Nat} (h : NewtInv A k x) (hk : 2 ≤ k) (hlt : XI A k x < x) : NewtInv A k (XI A k x) := by
  obtain ⟨l, p, R, f, e, o⟩ := h
  have := Gr hk l f.1
  refine ⟨by omega, ?_, R, f, e, by omega⟩
  have := Nat.pow_le_pow_left (show R + 1 ≤ XI A k x + 1 by omega) k
  have := f.2
  omega
theorem NewtInv.done {A k x : Nat} (h : NewtInv A k x) (hk : 2 ≤ k) (hge : x ≤ XI A k x) : IsRoot x k A := by
  obtain ⟨l, f, _⟩ := h
  refine ⟨?_, f⟩
  rcases Nat.lt_or_ge A (x ^ k) with e | e
  · have := Gq hk l e; omega
  · exact e
theorem NewtInv.start {A k s r : Nat} (hk : 1 ≤ k) (hr : IsRoot r k (A / 2 ^ (k * s))) (hr0 : 0 < r) : NewtInv A k ((r + 1) * 2 ^ s) := by
  have l := Nat.two_pow_pos s
  have p : A < ((r + 1) * 2 ^ s) ^ k := by
    rw [Nat.mul_pow, ← Nat.pow_mul, Nat.mul_comm s k]
    rw [← Nat.div_lt_iff_lt_mul (Nat.two_pow_pos _)]
    exact hr.2
  have o : (r * 2 ^ s) ^ k ≤ A := by
    rw [Nat.mul_pow, ← Nat.pow_mul, Nat.mul_comm s k]
    rw [← Nat.le_div_iff_mul_le (Nat.two_pow_pos _)]
    exact hr.1
  obtain ⟨R, f⟩ := nA k A hk
  have e : r * 2 ^ s ≤ R := by
    rcases Nat.lt_or_ge R (r * 2 ^ s) with h | h
    · have := Nat.pow_le_pow_left (show R + 1 ≤ r * 2 ^ s by omega) k
      have := f.2
      omega
    · exact h
  have q : 1 * 2 ^ s ≤ r * 2 ^ s := Nat.mul_le_mul_right _ hr0
  refine ⟨Nat.mul_pos AA l, ?_, R, f, by omega, by rw [Nat.add_mul]; omega⟩
  have := Nat.pow_le_pow_left (show (r + 1) * 2 ^ s ≤ (r + 1) * 2 ^ s + 1 by omega) k
  omega
theorem NewtInv.size {A k x b : Nat} (h : NewtInv A k x) (hb : A < 2 ^ b) (p : Nat) (hp : p ≤ k) : x ^ p < 2 ^ (k + b) := by
  obtain ⟨q, o, R, l, e, f⟩ := h
  have e1 := Nat.pow_le_pow_left f p
  have e2 := Nat.pow_le_pow_right e hp
  have e3 := Nat.pow_le_pow_right (n := 2) AA hp
  rw [Nat.mul_pow] at e1
  rw [Nat.pow_add]
  have e4 : 2 ^ p * R ^ p ≤ 2 ^ k * R ^ k := Nat.mul_le_mul e3 e2
  have e5 : 2 ^ k * R ^ k < 2 ^ k * 2 ^ b := Nat.mul_lt_mul_of_pos_left (by have := l.1; omega) (Nat.two_pow_pos k)
  omega
end Go.Proofs.YtmppigbbkjepiaaGreatDoor
set_option maxHeartbeats 1000000
namespace Go.Proofs.YtmppigbbkjepiaaGreatDoor
open Go.Proofs.Tryz
open Go.RowKit W
theorem Dk (w : World) : ∃ W, W = w.alloc (.cells #[.bool false, .slice none 0 0] 62) ∧ W.heap.size = w.heap.size + 1 ∧ Below w.heap.size w W ∧ RBox W w.heap.size := by
  refine ⟨_, O, by simp, (Below.refl _ _).alloc (Nat.le_refl _) _, ⟨⟨false, none, 0, 0, ?_, ?_⟩, ?_, ?_⟩⟩ <;> (try simp [go_sem]) <;> rfl
theorem rP (w : World) (n1 : Bool) (s1 : Value) : ∃ W, W = w.alloc (.cells #[.bool n1, s1] 62) ∧ W.heap.size = w.heap.size + 1 ∧ Below w.heap.size w W ∧ Box W w.heap.size n1 s1 := by
  refine ⟨_, O, by simp, (Below.refl _ _).alloc (Nat.le_refl _) _, ⟨?_, ?_⟩⟩ <;> (try simp [go_sem]) <;> rfl
theorem RetZ.eq {w : World} {z n : Int} {e : Ending} {w' : World} (h : RetZ w z e w') (hz : z = n) : RetZ w n e w' := by subst hz; exact h
theorem Xq (n : Int) (w : World) (h1 : -9223372036854775808 ≤ n) (h2 : n ≤ 9223372036854775807) :
    Calls prog 136 #[.int .i64 n] w (RetZ w n) := by
  obtain ⟨W, G, a0, C, S⟩ := Dk w
  have T := Lib.hid S
  clear S
  by_cases hn : n < 0
  · obtain ⟨k, hk⟩ : ∃ k : Nat, n = -(k : Int) := ⟨n.natAbs, by omega⟩
    have hc : IntKind.u64.wrap (-IntKind.u64.wrap n) = (k : Int) := by simp only [IntKind.wrap_u64]; omega
    have l : GY true k = n := by simp [GY]; omega
    have Q := Lib.hid l
    have J : k < 18446744073709551616 := by omega
    clear hk l
    go_enter func136, ntmps136
    go_upto_region 1 with fail
    rw [← G]
    clear G
    go_wp2_with fail
    refine (aY k _ J).mono ?_
    rintro e U ⟨Y, rfl, t, h⟩
    go_wp2_with fail
    obtain ⟨z, f⟩ : ∃ z : Int, z = n := ⟨_, rfl⟩
    rw [← f] at Q ⊢
    have y := Lib.hid f
    clear f hn hc h1 h2
    refine (PV _ _ _ z _ t (by rw [CN]; exact Q.out)).mono ?_
    rintro e H ⟨X, rfl, l, p⟩
    obtain ⟨u, q, rfl, I, _, _⟩ := l.parts
    have o := (T.out.keep h).keep p
    have B := Lib.hid o
    obtain ⟨⟨n0, P, D, F, N, L⟩, g2, g3⟩ := o
    have R : Below w.heap.size w H := (C.trans (h.mono C.size)).trans (p.mono (Nat.le_trans C.size h.size))
    go_wp2_with fail
    refine AQ (v := .agg #[.bool (decide (z < 0)), .slice u (CC z.natAbs).length q]) ?_ O ((SY l B.out R AA).eq y.out)
    simp [results, results136, go_sem, N, L]
  · obtain ⟨k, rfl⟩ : ∃ k : Nat, n = (k : Int) := ⟨n.natAbs, by omega⟩
    have l : GY false k = (k : Int) := rfl
    have Q := Lib.hid l
    go_enter func136, ntmps136
    go_upto_region 1 with fail
    rw [← G]
    clear G
    go_wp2_with fail
    refine (aY k _ AA).mono ?_
    rintro e U ⟨Y, rfl, t, h⟩
    go_wp2_with fail
    obtain ⟨z, f⟩ : ∃ z : Int, z = (k : Int) := ⟨_, rfl⟩
    rw [← f]
    refine (PV _ _ _ z _ t (by rw [CN, f]; rfl)).mono ?_
    have y := Lib.hid f
    clear f l
    rintro e H ⟨X, rfl, l, p⟩
    obtain ⟨u, q, rfl, I, _, _⟩ := l.parts
    have o := (T.out.keep h).keep p
    have B := Lib.hid o
    obtain ⟨⟨n0, P, D, F, N, L⟩, g2, g3⟩ := o
    have R : Below w.heap.size w H := (C.trans (h.mono C.size)).trans (p.mono (Nat.le_trans C.size h.size))
    go_wp2_with fail
    refine AQ (v := .agg #[.bool (decide (z < 0)), .slice u (CC z.natAbs).length q]) ?_ O ((SY l B.out R AA).eq y.out)
    simp [results, results136, go_sem, N, L]
def UR (n : Bool) (l : List Nat) : Bool := if l.length = 0 then !n else decide (gd l (l.length - 1) ≠ 0)
theorem Ih (n : Bool) (s : Value) (l : List Nat) (w : World) (ha : Sl w s l) :
    Calls prog 126 #[.agg #[.bool n, s]] w (NP w (UR n l)) := by
  obtain ⟨J, v, rfl, N, I, H, C, y⟩ := ha
  have L := Lib.hid y
  clear y C H
  unfold maxLen at I
  obtain ⟨W, h, B, q, t⟩ := rP w n (.slice J l.length v)
  have Q := t.1
  have P := t.2
  clear t
  by_cases f : l.length = 0
  · have e : UR n l = !n := by unfold UR; rw [if_pos f]
    rw [e]
    have G : ((l.length : Int) == 0) = true := by rw [f]; rfl
    clear e f
    go_enter func126, ntmps126
    go_upto_region 1 with fail
    rw [← h]
    clear h
    go_wp2_with fail
    go_ret
    exact ⟨rfl, q⟩
  · obtain ⟨k, p⟩ : ∃ k, l.length = k + 1 := ⟨l.length - 1, by omega⟩
    have G : ((l.length : Int) == 0) = false := by rw [beq_eq_false_iff_ne]; omega
    obtain ⟨b, z, rfl, u⟩ := L.out k AA
    have u := CX u q
    have D : (l.length : Int) - 1 = (k : Int) := by omega
    by_cases o : gd l k = 0
    · have e : UR n l = false := by unfold UR; rw [if_neg f, p, Nat.add_sub_cancel, o]; rfl
      rw [e]
      rw [o] at u
      clear e f p o
      go_enter func126, ntmps126
      go_upto_region 1 with fail
      rw [← h]
      clear h
      go_wp2_with fail
      go_ret
      exact ⟨rfl, q⟩
    · have e : UR n l = true := by unfold UR; rw [if_neg f, p, Nat.add_sub_cancel]; exact decide_eq_true o
      rw [e]
      have F : (((gd l k : Nat) : Int) != 0) = true := by rw [bne_iff_ne]; omega
      clear e f p o
      go_enter func126, ntmps126
      go_upto_region 1 with fail
      rw [← h]
      clear h
      go_wp2_with fail
      go_ret
      exact ⟨rfl, q⟩
theorem iW (va : Value) (x : Int) (w : World) (ha : IsI w va x) :
    Calls prog 126 #[va] w (NP w true) := by
  obtain ⟨s, rfl, k⟩ := ha
  have := Ih (decide (x < 0)) s _ w k
  have e : UR (decide (x < 0)) (CC x.natAbs) = true := by
    unfold UR
    by_cases h : (CC x.natAbs).length = 0
    · rw [if_pos h]
      have := (dG x).1 AA
      subst this; rfl
    · rw [if_neg h]
      have f : 0 < x.natAbs := by
        rcases Nat.eq_zero_or_pos x.natAbs with e | e
        · rw [e, DW] at h; exact absurd rfl h
        · exact e
      obtain ⟨l, y, e1, e2, _⟩ := YY x.natAbs f
      rw [e1, List.length_append, List.length_singleton, Nat.add_sub_cancel, NF _ _ _ (Nat.le_refl _), Nat.sub_self]
      exact decide_eq_true (by show y ≠ 0; omega)
  rwa [e] at this
end Go.Proofs.YtmppigbbkjepiaaGreatDoor
