/- power: powers of absolute values. -/
import Derived.Test.YtjgmfdenicbniaaProd
import Derived.Test.YtjgmfdenicbniaaSmall
import Derived.Lib.ItoaNum
namespace Go.Proofs.Ytjgmfdenicbniaa
open Go.RowKit W
/-- The powers up to n have few words. -/
def PowFits (A n L : Nat) : Prop := ∀ p, p ≤ n → (digs (A ^ p)).length ≤ L
theorem powFits_of {A n L : Nat} (h : (digs (A ^ n)).length ≤ L) (hL : 1 ≤ L) : PowFits A n L := by
  intro p hp
  rcases Nat.eq_zero_or_pos A with rfl | hA
  · rcases Nat.eq_zero_or_pos p with rfl | hp0
    · rw [Nat.pow_zero, digs_pos 1 (by omega)]
      simp [digs_zero]; omega
    · rw [Nat.zero_pow hp0, digs_zero]; simp
  · exact Nat.le_trans (digs_length_mono (Nat.pow_le_pow_right hA hp)) h
/-- n shifted right by m: the highest bits of the exponent. -/
def top (n m : Nat) : Nat := n / 2 ^ m
theorem top_zero (n : Nat) : top n 0 = n := by unfold top; simp
theorem top_all (n m : Nat) (h : n < 2 ^ m) : top n m = 0 := Nat.div_eq_of_lt h
theorem top_le (n m : Nat) : top n m ≤ n := Nat.div_le_self _ _
theorem top_step (n m : Nat) : top n m = 2 * top n (m + 1) + top n m % 2 := by
  unfold top
  rw [Nat.pow_succ, ← Nat.div_div_eq_div_mul]
  omega
theorem bits_and_i64_nat (a b : Nat) (ha : a < 9223372036854775808) (hb : b < 9223372036854775808) :
    bits .and .i64 (a : Int) (b : Int) = ((a &&& b : Nat) : Int) := by
  have hx : a &&& b < 2 ^ 63 := Nat.and_lt_two_pow _ (by omega)
  have h1 : (BitVec.ofInt 64 (a : Int)).toNat = a := by
    rw [BitVec.ofInt_natCast, BitVec.toNat_ofNat]; exact Nat.mod_eq_of_lt (by omega)
  have h2 : (BitVec.ofInt 64 (b : Int)).toNat = b := by
    rw [BitVec.ofInt_natCast, BitVec.toNat_ofNat]; exact Nat.mod_eq_of_lt (by omega)
  show IntKind.i64.wrap ((BitVec.ofInt 64 (a : Int) &&& BitVec.ofInt 64 (b : Int)).toNat : Int) = _
  rw [BitVec.toNat_and, h1, h2, IntKind.wrap_i64]
  omega
theorem bit_of (n j : Nat) (h : n ≤ 1000000000) : bits .and .i64 ((n : Int) / 2 ^ j) 1 = ((top n j % 2 : Nat) : Int) := by
  have h1 : (n : Int) / 2 ^ j = ((top n j : Nat) : Int) := by unfold top; simp
  have h2 := top_le n j
  rw [h1, show (1 : Int) = ((1 : Nat) : Int) from rfl, bits_and_i64_nat _ _ (by omega) (by omega), Nat.and_one_is_mod]
set_option maxHeartbeats 2000000 in
theorem power_sl (va : Value) (A n L : Nat) (w : World) (ha : Sl w va (digs A)) (hn : n ≤ 1000000000) (hf : PowFits A n L) (hL : L ≤ 1000000000) (hla : (digs A).length ≤ 1000000000) :
    Calls Try.prog 61 #[va, .int .i64 n] w (Ret w (digs (A ^ n))) := by
  have HA := Lib.hid ha
  have HF := Lib.hid hf
  clear ha hf
  obtain ⟨b, hb⟩ : ∃ b, b = Lib.bitLen n := ⟨_, rfl⟩
  have hb2 : n < 2 ^ b ∧ b ≤ 64 := by
    rw [hb]
    rcases Nat.eq_zero_or_pos n with h | h
    · subst h; exact ⟨Nat.two_pow_pos _, Lib.bitLen_le 0 64 (by omega) (by omega)⟩
    · exact ⟨(Lib.bitLenAux_bounds 64 n (by omega) (by omega)).2.2, Lib.bitLen_le n 64 (by omega) (by omega)⟩
  have HB := Lib.hid hb
  have HB2 := Lib.hid hb2.1
  have hb3 := hb2.2
  clear hb hb2
  go_enter Try.func61, Try.ntmps61
  go_wp2_with fail
  refine (Try.bits_Len _ _ (by omega) (by omega)).mono ?_
  rintro e w' ⟨rfl, rfl⟩
  rw [Int.toNat_natCast, ← HB.out]
  go_wp2_with fail
  go_loopw [5, 6] (fun r i wr => ∃ (m : Nat) (z : Int), m ≤ b ∧ z + 1 ≤ m ∧ m ≤ z + 1 ∧ i = .int .i64 z ∧ Sl wr r (digs (A ^ top n m)) ∧ Below w.heap.size w wr) (fun _ i _ => (intOf i + 1).toNat)
  case atStart =>
    refine ⟨b, (b : Int) - 1, Nat.le_refl _, by omega, by omega, rfl, ?_, (Below.refl _ _).alloc (Nat.le_refl _) _⟩
    rw [top_all n b HB2.out, Nat.pow_zero, digs_pos 1 (by omega), show 1 % 4294967296 = 1 from rfl, show 1 / 4294967296 = 0 from rfl, digs_zero]
    exact Sl_lit1 w 1 1 rfl (by omega)
  case round =>
    obtain ⟨m, z, hm, hz1, hz2, rfl, hsl, hbel⟩ := hrel
    by_cases hm0 : m = 0
    · subst hm0
      have hz : z < 0 := by omega
      rw [top_zero] at hsl
      have HS := Lib.hid hsl
      clear hsl
      go_wp2_with fail
      go_ret
      exact ⟨_, rfl, HS.out, hbel⟩
    · obtain ⟨j, rfl⟩ : ∃ j, m = j + 1 := ⟨m - 1, by omega⟩
      obtain rfl : z = (j : Int) := by omega
      clear hm0
      have HS := Lib.hid hsl
      have hlen : (digs (A ^ top n (j + 1))).length ≤ 1000000000 := Nat.le_trans (HF.out _ (top_le n (j + 1))) hL
      have hlen2 : (digs (A ^ (top n (j + 1) + top n (j + 1)))).length ≤ 1000000000 := Nat.le_trans (HF.out _ (by have := top_step n j; have := top_le n j; omega)) hL
      have hbit := bit_of n j hn
      have hts := top_step n j
      have hlen3 : (digs (A ^ top n j)).length ≤ 1000000000 := Nat.le_trans (HF.out _ (top_le n j)) hL
      by_cases hb1 : top n j % 2 = 1
      · rw [hb1] at hbit hts
        have HTS := Lib.hid hts
        have hb2 : (((1 : Nat) : Int) == 1) = true := rfl
        clear hsl hb1 hts
        go_wp2_with fail
        refine (product_sl _ _ _ _ _ HS.out HS.out hlen hlen).mono ?_
        rintro e w1 ⟨v1, rfl, hv1, hb1⟩
        rw [val_digs, ← Nat.pow_add] at hv1
        have HV1 := Lib.hid hv1
        have HA1 := HA.out.below (hbel.trans (hb1.mono hbel.size))
        have HA2 := Lib.hid HA1
        have hbel1 := hbel.trans (hb1.mono hbel.size)
        clear hv1 HA1
        go_wp2_with fail
        refine (product_sl _ _ _ _ _ HV1.out HA2.out hlen2 hla).mono ?_
        rintro e w2 ⟨v2, rfl, hv2, hb2⟩
        rw [val_digs, val_digs, ← Nat.pow_succ, show (top n (j + 1) + top n (j + 1)).succ = top n j by have := HTS.out; omega] at hv2
        have hbel2 := hbel1.trans (hb2.mono hbel1.size)
        have HV2 := Lib.hid hv2
        clear hv2
        go_wp2_with fail
        go_roundw
        case rel => exact ⟨j, (j : Int) - 1, by omega, by omega, by omega, rfl, HV2.out, hbel2⟩
        case measure => simp [intOf]
      · have hb0 : top n j % 2 = 0 := by omega
        rw [hb0] at hbit hts
        have HTS := Lib.hid hts
        have hb2 : (((0 : Nat) : Int) == 1) = false := rfl
        clear hsl hb1 hts hb0
        go_wp2_with fail
        refine (product_sl _ _ _ _ _ HS.out HS.out hlen hlen).mono ?_
        rintro e w1 ⟨v1, rfl, hv1, hb1⟩
        rw [val_digs, ← Nat.pow_add, show top n (j + 1) + top n (j + 1) = top n j by have := HTS.out; omega] at hv1
        have HV1 := Lib.hid hv1
        have hbel1 := hbel.trans (hb1.mono hbel.size)
        clear hv1
        go_wp2_with fail
        go_roundw
        case rel => exact ⟨j, (j : Int) - 1, by omega, by omega, by omega, rfl, HV1.out, hbel1⟩
        case measure => simp [intOf]
end Go.Proofs.Ytjgmfdenicbniaa
