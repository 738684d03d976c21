/- up, down: shifts by any count. power: powers of absolute values. Plain arithmetic of roots: bits, the bitwise search, Newton's steps. -/
import Derived.Test.YtndpjfhhigpbhaaGreatSmall
import Derived.Test.YtndpjfhhigpbhaaGreatLin
import Derived.Test.YtndpjfhhigpbhaaGreatQw
import Derived.Deep.RegionLaw
import Derived.Test.YtndpjfhhigpbhaaGreatProd
import Derived.Lib.ItoaNum
namespace Go.Proofs.YtndpjfhhigpbhaaGreat
open Go.RowKit W
theorem OwnA.below {w w' : World} {base : Nat} {v : Value} {l : List Nat} (h : OwnA w base v l) (hb : Below w.heap.size w w') : OwnA w' base v l := by
  obtain ⟨h1, h2⟩ := h
  refine ⟨h1, ?_⟩
  rcases h2 with h2 | ⟨g', cap, cur, hv, hg, hh, r⟩
  · exact Or.inl h2
  · exact Or.inr ⟨g', cap, cur, hv, hg, by rw [hb.block g' (Array.getElem?_eq_some_iff.1 hh).1]; exact hh, r⟩
theorem OwnA.base {w : World} {base base' : Nat} {v : Value} {l : List Nat} (h : OwnA w base v l) (hb : base' ≤ base) : OwnA w base' v l := by
  obtain ⟨h1, h2⟩ := h
  refine ⟨h1, ?_⟩
  rcases h2 with h2 | ⟨g', cap, cur, hv, hg, r⟩
  · exact Or.inl h2
  · exact Or.inr ⟨g', cap, cur, hv, by omega, r⟩
theorem pow32 (k : Nat) : (4294967296 : Nat) ^ k = 2 ^ (32 * k) := by
  rw [Nat.pow_mul]
end Go.Proofs.YtndpjfhhigpbhaaGreat
namespace Go.Proofs.YtndpjfhhigpbhaaGreat
open Go.RowKit W
/-- n shifted right by m: the highest bits of the exponent. -/
def top (n m : Nat) : Nat := n / 2 ^ m
end Go.Proofs.YtndpjfhhigpbhaaGreat
namespace Go.Proofs.YtndpjfhhigpbhaaGreat
open W
/-- r is the greatest number whose k-th power is not greater than A. -/
def IsRoot (r k A : Nat) : Prop := r ^ k ≤ A ∧ A < (r + 1) ^ k
theorem IsRoot.unique {r s k A : Nat} (h : IsRoot r k A) (h2 : IsRoot s k A) : r = s := by
  rcases Nat.lt_trichotomy r s with h3 | h3 | h3
  · have := Nat.pow_le_pow_left (show r + 1 ≤ s by omega) k
    have := h.2; have := h2.1; omega
  · exact h3
  · have := Nat.pow_le_pow_left (show s + 1 ≤ r by omega) k
    have := h.1; have := h2.2; omega
/-- There is a root. -/
theorem IsRoot.exists (k A : Nat) (hk : 1 ≤ k) : ∃ r, IsRoot r k A := by
  have hex : ∀ n, A < (n + 1) ^ k → ∃ r, IsRoot r k A := by
    intro n
    induction n with
    | zero => intro h; exact ⟨0, by rw [Nat.zero_pow (by omega)]; omega, h⟩
    | succ n ih =>
      intro h
      by_cases h2 : (n + 1) ^ k ≤ A
      · exact ⟨n + 1, h2, h⟩
      · exact ih (by omega)
  refine hex A ?_
  have := Nat.pow_le_pow_right (n := A + 1) (by omega) hk
  rw [Nat.pow_one] at this
  omega
/-! ### bits -/
theorem bitsN_bounds (A : Nat) (h : 0 < A) : A < 2 ^ bitsN A ∧ 2 ^ (bitsN A - 1) ≤ A ∧ 1 ≤ bitsN A ∧ bitsN A ≤ 32 * (digs A).length := by
  obtain ⟨l, x, e, hx, hx2⟩ := digs_last A h
  have hlen : (digs A).length = l.length + 1 := by rw [e]; simp
  have hg : gd (digs A) ((digs A).length - 1) = x := by
    rw [hlen, Nat.add_sub_cancel, e, gd_append_right _ _ _ (Nat.le_refl _), Nat.sub_self]; rfl
  have hb : bitsN A = 32 * l.length + Lib.bitLen x := by
    unfold bitsN; rw [if_neg (by omega), hg, hlen, Nat.add_sub_cancel]
  obtain ⟨b1, b2, b3⟩ := Lib.bitLenAux_bounds 64 x (by omega) (by omega)
  have b4 := bitLen_le32 x hx2
  have hb' : Lib.bitLenAux 64 x = Lib.bitLen x := rfl
  rw [hb'] at b1 b2 b3
  have hv := val_digs A
  have hw := Wd_digs A
  rw [e, Wd_append] at hw
  rw [e, val_snoc] at hv
  have hl := val_lt hw.1
  rw [pow32] at hv hl
  rw [hb, hlen]
  refine ⟨?_, ?_, by omega, by omega⟩
  · rw [Nat.pow_add]
    have : 2 ^ (32 * l.length) * (x + 1) ≤ 2 ^ (32 * l.length) * 2 ^ Lib.bitLen x := Nat.mul_le_mul_left _ b3
    rw [Nat.mul_add] at this
    omega
  · rw [show 32 * l.length + Lib.bitLen x - 1 = 32 * l.length + (Lib.bitLen x - 1) by omega, Nat.pow_add]
    have : 2 ^ (32 * l.length) * 2 ^ (Lib.bitLen x - 1) ≤ 2 ^ (32 * l.length) * x := Nat.mul_le_mul_left _ b2
    omega
theorem bitsN_zero : bitsN 0 = 0 := by unfold bitsN; simp
/-! ### bit by bit -/
/-- i bits are to come: r has zeros there. -/
def BitInv (A k i r : Nat) : Prop := r % 2 ^ i = 0 ∧ r ^ k ≤ A ∧ A < (r + 2 ^ i) ^ k
theorem BitInv.start {A k n : Nat} (hA : 0 < A) (hk : 1 ≤ k) (h : bitsN A ≤ n * k) : BitInv A k n 0 := by
  refine ⟨by simp, by rw [Nat.zero_pow (by omega)]; omega, ?_⟩
  have h1 := (bitsN_bounds A hA).1
  have h2 := Nat.pow_le_pow_right (n := 2) (by omega) h
  rw [Nat.zero_add, ← Nat.pow_mul]
  omega
theorem BitInv.lt {A k i r n : Nat} (h : BitInv A k i r) (hn : A < (2 ^ n) ^ k) : r < 2 ^ n := by
  rcases Nat.lt_or_ge r (2 ^ n) with h1 | h1
  · exact h1
  · have := Nat.pow_le_pow_left h1 k
    have := h.2.1; omega
theorem BitInv.low {A k i r : Nat} (h : BitInv A k (i + 1) r) : r % 2 ^ (i + 1) = 0 := h.1
theorem BitInv.no {A k i r : Nat} (h : BitInv A k (i + 1) r) (ht : A < (r + 2 ^ i) ^ k) : BitInv A k i r := by
  obtain ⟨h1, h2, h3⟩ := h
  rw [Nat.pow_succ] at h1
  refine ⟨?_, h2, ht⟩
  have := Nat.mod_mod_of_dvd r (⟨2, rfl⟩ : 2 ^ i ∣ 2 ^ i * 2)
  rw [h1] at this
  simpa using this.symm
theorem BitInv.done {A k r : Nat} (h : BitInv A k 0 r) : IsRoot r k A := ⟨h.2.1, by have := h.2.2; simpa using this⟩
/-! ### Newton -/
theorem amgm (R x : Int) (hR : 0 ≤ R) (hx : 0 ≤ x) : ∀ k : Nat, R ^ (k + 1) + k * x ^ (k + 1) ≥ (k + 1) * R * x ^ k
  | 0 => by simp [Int.pow_succ]
  | k + 1 => by
    have ih := amgm R x hR hx k
    have hp : 0 ≤ x ^ k := Int.pow_nonneg hx
    have h1 := Int.mul_le_mul_of_nonneg_left ih hR
    have h2 : 0 ≤ ((k : Int) + 1) * (x ^ k * ((R - x) * (R - x))) := by
      refine Int.mul_nonneg (by omega) (Int.mul_nonneg hp ?_)
      rcases Int.le_total 0 (R - x) with h | h
      · exact Int.mul_nonneg h h
      · have := Int.mul_nonneg (Int.neg_nonneg_of_nonpos h) (Int.neg_nonneg_of_nonpos h); rwa [Int.neg_mul_neg] at this
    have e1 : R ^ (k + 1 + 1) = R * R ^ (k + 1) := by rw [Int.pow_succ]; exact Int.mul_comm _ _
    have e2 : x ^ (k + 1 + 1) = x * x * x ^ k := by rw [Int.pow_succ, Int.pow_succ]; grind
    have e3 : x ^ (k + 1) = x * x ^ k := by rw [Int.pow_succ]; exact Int.mul_comm _ _
    rw [e3] at h1 ⊢
    rw [e1, e2]
    have c1 : (((k + 1 : Nat)) : Int) = (k : Int) + 1 := by omega
    rw [c1]
    generalize x ^ k = X at *
    generalize R ^ (k + 1) = Y at *
    grind
/-- One step of Newton's from x. -/
def newton (A k x : Nat) : Nat := ((k - 1) * x + A / x ^ (k - 1)) / k
theorem newton_ge {A k x R : Nat} (hk : 2 ≤ k) (hx : 0 < x) (hR : R ^ k ≤ A) : R ≤ newton A k x := by
  unfold newton
  obtain ⟨m, rfl⟩ : ∃ m, k = m + 1 := ⟨k - 1, by omega⟩
  rw [Nat.add_sub_cancel, Nat.le_div_iff_mul_le (by omega)]
  by_cases hle : R * (m + 1) ≤ m * x
  · exact Nat.le_trans hle (Nat.le_add_right _ _)
  · have hp := Nat.pow_pos (n := m) hx
    have h1 : R * (m + 1) - m * x ≤ A / x ^ m := by
      rw [Nat.le_div_iff_mul_le hp]
      refine Nat.le_trans ?_ hR
      have h := amgm (R : Int) (x : Int) (by omega) (by omega) m
      have e : (((R * (m + 1) - m * x) * x ^ m : Nat) : Int) ≤ ((R ^ (m + 1) : Nat) : Int) := by
        rw [Int.natCast_mul, Int.ofNat_sub (by omega)]
        push_cast
        rw [Int.pow_succ (x : Int) m] at h
        generalize (x : Int) ^ m = X at *
        generalize (R : Int) ^ (m + 1) = Y at *
        grind
      omega
    omega
theorem newton_lt {A k x : Nat} (hk : 2 ≤ k) (hx : 0 < x) (h : A < x ^ k) : newton A k x < x := by
  unfold newton
  obtain ⟨m, rfl⟩ : ∃ m, k = m + 1 := ⟨k - 1, by omega⟩
  rw [Nat.add_sub_cancel]
  have hp := Nat.pow_pos (n := m) hx
  have h1 : A / x ^ m < x := by
    apply Nat.div_lt_of_lt_mul
    rwa [Nat.pow_succ] at h
  apply Nat.div_lt_of_lt_mul
  rw [Nat.add_mul, Nat.one_mul]
  omega
/-- What holds of the numbers of Newton's steps. -/
def NewtInv (A k x : Nat) : Prop := 0 < x ∧ A < (x + 1) ^ k ∧ ∃ R, IsRoot R k A ∧ 0 < R ∧ x ≤ 2 * R
theorem NewtInv.step {A k x : Nat} (h : NewtInv A k x) (hk : 2 ≤ k) (hlt : newton A k x < x) : NewtInv A k (newton A k x) := by
  obtain ⟨h1, h2, R, hR, hR0, hx⟩ := h
  have := newton_ge hk h1 hR.1
  refine ⟨by omega, ?_, R, hR, hR0, by omega⟩
  have := Nat.pow_le_pow_left (show R + 1 ≤ newton A k x + 1 by omega) k
  have := hR.2
  omega
theorem NewtInv.done {A k x : Nat} (h : NewtInv A k x) (hk : 2 ≤ k) (hge : x ≤ newton A k x) : IsRoot x k A := by
  obtain ⟨h1, h2, _⟩ := h
  refine ⟨?_, h2⟩
  rcases Nat.lt_or_ge A (x ^ k) with h3 | h3
  · have := newton_lt hk h1 h3; omega
  · exact h3
theorem NewtInv.start {A k s r : Nat} (hk : 1 ≤ k) (hr : IsRoot r k (A / 2 ^ (k * s))) (hr0 : 0 < r) : NewtInv A k ((r + 1) * 2 ^ s) := by
  have hp := Nat.two_pow_pos s
  have hA : A < ((r + 1) * 2 ^ s) ^ k := by
    rw [Nat.mul_pow, ← Nat.pow_mul, Nat.mul_comm s k]
    rw [← Nat.div_lt_iff_lt_mul (Nat.two_pow_pos _)]
    exact hr.2
  have hlo : (r * 2 ^ s) ^ k ≤ A := by
    rw [Nat.mul_pow, ← Nat.pow_mul, Nat.mul_comm s k]
    rw [← Nat.le_div_iff_mul_le (Nat.two_pow_pos _)]
    exact hr.1
  obtain ⟨R, hR⟩ := IsRoot.exists k A hk
  have hRge : r * 2 ^ s ≤ R := by
    rcases Nat.lt_or_ge R (r * 2 ^ s) with h | h
    · have := Nat.pow_le_pow_left (show R + 1 ≤ r * 2 ^ s by omega) k
      have := hR.2
      omega
    · exact h
  have h1 : 1 * 2 ^ s ≤ r * 2 ^ s := Nat.mul_le_mul_right _ hr0
  refine ⟨Nat.mul_pos (by omega) hp, ?_, R, hR, by omega, by rw [Nat.add_mul]; omega⟩
  have := Nat.pow_le_pow_left (show (r + 1) * 2 ^ s ≤ (r + 1) * 2 ^ s + 1 by omega) k
  omega
/-- The powers of these numbers have few bits. -/
theorem NewtInv.size {A k x b : Nat} (h : NewtInv A k x) (hb : A < 2 ^ b) (p : Nat) (hp : p ≤ k) : x ^ p < 2 ^ (k + b) := by
  obtain ⟨h1, h2, R, hR, hR0, hx⟩ := h
  have e1 := Nat.pow_le_pow_left hx p
  have e2 := Nat.pow_le_pow_right hR0 hp
  have e3 := Nat.pow_le_pow_right (n := 2) (by omega) hp
  rw [Nat.mul_pow] at e1
  rw [Nat.pow_add]
  have e4 : 2 ^ p * R ^ p ≤ 2 ^ k * R ^ k := Nat.mul_le_mul e3 e2
  have e5 : 2 ^ k * R ^ k < 2 ^ k * 2 ^ b := Nat.mul_lt_mul_of_pos_left (by have := hR.1; omega) (Nat.two_pow_pos k)
  omega
end Go.Proofs.YtndpjfhhigpbhaaGreat
