/- root: the k-th root of an absolute value, rounded down. -/
import Derived.Test.YtjgmfdenicbniaaRootM
import Derived.Test.YtjgmfdenicbniaaPow
import Derived.Test.YtjgmfdenicbniaaSum
import Derived.Test.YtjgmfdenicbniaaDivide
import Derived.Deep.LoopGhost
namespace Go.Proofs.Ytjgmfdenicbniaa
open Go.RowKit W
/-- What root leaves. -/
def RetRoot (w0 : World) (k A : Nat) (e : Ending) (w' : World) : Prop := ∃ v r, e = .returned v ∧ Sl w' v (digs r) ∧ IsRoot r k A ∧ Below w0.heap.size w0 w'
theorem digs_one {t : Nat} (h0 : 0 < t) (h : t < 4294967296) : digs t = [t] := by
  rw [digs_pos t h0, show t % 4294967296 = t by omega, show t / 4294967296 = 0 by omega, digs_zero]
theorem bits_or_u32_nat (a b : Nat) (ha : a < 4294967296) (hb : b < 4294967296) :
    bits .or .u32 (a : Int) (b : Int) = ((a ||| b : Nat) : Int) := by
  have hx : a ||| b < 2 ^ 32 := Nat.or_lt_two_pow (by omega) (by omega)
  have h1 : (BitVec.ofInt 32 (a : Int)).toNat = a := by
    rw [BitVec.ofInt_natCast, BitVec.toNat_ofNat]; exact Nat.mod_eq_of_lt (by omega)
  have h2 : (BitVec.ofInt 32 (b : Int)).toNat = b := by
    rw [BitVec.ofInt_natCast, BitVec.toNat_ofNat]; exact Nat.mod_eq_of_lt (by omega)
  show IntKind.u32.wrap ((BitVec.ofInt 32 (a : Int) ||| BitVec.ofInt 32 (b : Int)).toNat : Int) = _
  rw [BitVec.toNat_or, h1, h2, IntKind.wrap_u32]
  omega
/-- One bit is set. -/
theorem set_bit {A k j r n : Nat} (h : BitInv A k (j + 1) r) (hr : r < 2 ^ n) (hj : j + 1 ≤ n) (hn : n ≤ 32) :
    bits .or .u32 (r : Int) (IntKind.u32.wrap (2 ^ j)) = ((r + 2 ^ j : Nat) : Int) := by
  have h1 : 2 ^ n ≤ 2 ^ 32 := Nat.pow_le_pow_right (by omega) hn
  have h2 : 2 ^ j ≤ 2 ^ 31 := Nat.pow_le_pow_right (by omega) (by omega)
  have h3 : (2 : Int) ^ j = ((2 ^ j : Nat) : Int) := by simp
  have h4 : IntKind.u32.wrap ((2 ^ j : Nat) : Int) = ((2 ^ j : Nat) : Int) := by
    generalize 2 ^ j = P at h2
    exact IntWalk.u32_in _ (by omega)
  rw [h3, h4, bits_or_u32_nat _ _ (by omega) (by omega)]
  obtain ⟨q, rfl⟩ : 2 ^ (j + 1) ∣ r := Nat.dvd_of_mod_eq_zero h.1
  rw [Nat.two_pow_add_eq_or_of_lt (Nat.pow_lt_pow_right (by omega) (by omega)) q]
theorem ceil_mul {b k : Nat} (hk : 0 < k) : b ≤ (b + k - 1) / k * k ∧ (b + k - 1) / k * k ≤ b + k - 1 := by
  have h1 := Nat.div_add_mod (b + k - 1) k
  have h2 := Nat.mod_lt (b + k - 1) hk
  rw [Nat.mul_comm] at h1
  omega
theorem size_mul {x m q A k b : Nat} (hx : x < 2 ^ (k + b)) (hm : m ≤ 32000000) (hA : A < 2 ^ b) (hq : q ≤ A) (hkb : k + b ≤ 64000000) :
    (digs (x * m)).length ≤ 1000000000 ∧ (digs (x * m + q)).length ≤ 1000000000 := by
  have h1 : x * m ≤ 2 ^ (k + b) * 2 ^ 32 := Nat.mul_le_mul (by omega) (by omega)
  rw [← Nat.pow_add] at h1
  have h2 := Nat.pow_le_pow_right (n := 2) (by omega) (show b ≤ k + b + 32 by omega)
  have h3 : 2 ^ (k + b + 33) = 2 ^ (k + b + 32) * 2 := Nat.pow_succ 2 (k + b + 32)
  have h4 := Nat.two_pow_pos (k + b + 32)
  exact ⟨Nat.le_trans (digs_le_of_pow (k := k + b + 33) (by omega)) (by omega), Nat.le_trans (digs_le_of_pow (k := k + b + 33) (by omega)) (by omega)⟩
set_option maxRecDepth 100000 in
set_option maxHeartbeats 8000000 in
theorem root_sl (A : Nat) : ∀ (va : Value) (k : Nat) (w : World), Sl w va (digs A) → (digs A).length ≤ 1000000 → 1 ≤ k → k ≤ 9223372036854775807 →
    Calls Try.prog 62 #[va, .int .i64 k] w (RetRoot w k A) := by
  induction A using Nat.strongRecOn with
  | ind A ih =>
    intro va k w ha hla hk hk2
    have IH := Lib.hid ih
    have HA := Lib.hid ha
    clear ih ha
    obtain ⟨b, hb⟩ : ∃ b, b = bitsN A := ⟨_, rfl⟩
    have HB := Lib.hid hb
    by_cases hA : A = 0
    · subst hA
      rw [bitsN_zero] at hb
      subst hb
      go_enter Try.func62, Try.ntmps62
      go_wp2_with fail
      refine (width_sl _ 0 _ HA.out (by omega)).mono ?_
      rintro e w' ⟨rfl, rfl⟩
      rw [bitsN_zero]
      go_wp2_with fail
      go_ret
      exact ⟨_, 0, rfl, by rw [digs_zero]; exact Sl_nil _, root_zero k hk, Below.refl _ _⟩
    · have hbb := bitsN_bounds A (by omega)
      rw [← hb] at hbb
      obtain ⟨B1, B2, B3, B4⟩ := hbb
      have HB1 := Lib.hid B1
      have HB2 := Lib.hid B2
      have hb0 : ((b : Int) == 0) = false := by rw [beq_eq_false_iff_ne]; omega
      have hb32 : b ≤ 32000000 := by omega
      have hA0 : 0 < A := by omega
      clear hb B1 B2 B4 hA
      by_cases hkb : b ≤ k
      · have hd : decide ((b : Int) ≤ (k : Int)) = true := by simp; omega
        go_enter Try.func62, Try.ntmps62
        go_wp2_with fail
        refine (width_sl _ A _ HA.out (by omega)).mono ?_
        rintro e w' ⟨rfl, rfl⟩
        rw [← HB.out]
        go_wp2_with fail
        go_ret
        exact ⟨_, 1, rfl, by rw [digs_one (by omega) (by omega)]; exact Sl_lit1 w 1 1 rfl (by omega), root_one hA0 (by rw [← HB.out]; exact hkb), (Below.refl _ _).alloc (Nat.le_refl _) _⟩
      · have hd : decide ((b : Int) ≤ (k : Int)) = false := by simp; omega
        by_cases hk1 : k = 1
        · subst hk1
          have hd1 : (((1 : Nat) : Int) == 1) = true := rfl
          go_enter Try.func62, Try.ntmps62
          go_wp2_with fail
          refine (width_sl _ A _ HA.out (by omega)).mono ?_
          rintro e w' ⟨rfl, rfl⟩
          rw [← HB.out]
          go_wp2_with fail
          refine (clone_sl _ _ _ HA.out (by omega)).mono ?_
          rintro e w' ⟨v, rfl, hv, hbv⟩
          go_wp2_with fail
          go_ret
          exact ⟨v, A, rfl, hv, root_self A, hbv⟩
        · have hd1 : ((k : Int) == 1) = false := by rw [beq_eq_false_iff_ne]; omega
          obtain ⟨n, hn⟩ : ∃ n, n = (b + k - 1) / k := ⟨_, rfl⟩
          have hc := ceil_mul (b := b) (k := k) (by omega)
          rw [← hn] at hc
          have hlen : ((b : Int) + (k : Int) - 1) / (k : Int) = (n : Int) := by
            rw [hn, show (b : Int) + (k : Int) - 1 = ((b + k - 1 : Nat) : Int) by omega]; simp
          have hn1 : n ≤ b := by rw [hn]; apply Nat.div_le_of_le_mul; have : k * b ≥ 2 * b := Nat.mul_le_mul_right _ (by omega); omega
          have hn2 : 1 ≤ n := by rw [hn, Nat.le_div_iff_mul_le (by omega)]; omega
          have HC := Lib.hid hc
          have HN := Lib.hid hn
          clear hn hc
          by_cases hshort : n ≤ 32
          · have hd2 : decide ((n : Int) ≤ 32) = true := by simp; omega
            go_enter Try.func62, Try.ntmps62
            go_wp2_with fail
            refine (width_sl _ A _ HA.out (by omega)).mono ?_
            rintro e w' ⟨rfl, rfl⟩
            rw [← HB.out]
            go_wp2_with fail
            clear hlen
            go_loopw [7, 8] (fun sr i wr => ∃ (m r : Nat) (z : Int), m ≤ n ∧ z + 1 ≤ m ∧ m ≤ z + 1 ∧ i = .int .i64 z ∧ sr = .int .u32 r ∧ BitInv A k m r ∧ Below w.heap.size w wr) (fun _ i _ => (intOf i + 1).toNat)
            case atStart => exact ⟨n, 0, (n : Int) - 1, Nat.le_refl _, by omega, by omega, rfl, rfl, BitInv.start hA0 hk (by rw [← HB.out]; exact HC.out.1), Below.refl _ _⟩
            case round =>
              obtain ⟨m, r, z, hm, hz1, hz2, rfl, rfl, hinv, hbel⟩ := hrel
              have hAn : A < (2 ^ n) ^ k := by
                rw [← Nat.pow_mul]
                exact Nat.lt_of_lt_of_le HB1.out (Nat.pow_le_pow_right (by omega) HC.out.1)
              have hrn := hinv.lt hAn
              have hn32 : 2 ^ n ≤ 4294967296 := Nat.pow_le_pow_right (n := 2) (by omega) hshort
              have hr32 : r < 4294967296 := by omega
              by_cases hm0 : m = 0
              · subst hm0
                have hz : z < 0 := by omega
                have hroot := hinv.done
                have hr0 : 0 < r := by
                  rcases Nat.eq_zero_or_pos r with h | h
                  · subst h
                    have := hroot.2
                    rw [Nat.zero_add, Nat.one_pow] at this
                    omega
                  · exact h
                have HR := Lib.hid hroot
                clear hroot hinv hAn hrn hn32
                go_wp2_with fail
                go_ret
                refine ⟨_, r, rfl, ?_, HR.out, hbel.alloc hbel.size _⟩
                rw [digs_one hr0 hr32]
                exact Sl_lit1 wr _ r rfl hr32
              · obtain ⟨j, rfl⟩ : ∃ j, m = j + 1 := ⟨m - 1, by omega⟩
                obtain rfl : z = (j : Int) := by omega
                have hsb := set_bit hinv hrn hm hshort
                rw [IntKind.wrap_u32] at hsb
                have hroom := hinv.room hrn hm
                obtain ⟨t, ht⟩ : ∃ t, t = r + 2 ^ j := ⟨_, rfl⟩
                have htp : 0 < t := by rw [ht]; have := Nat.two_pow_pos j; omega
                rw [← ht] at hsb hroom
                have ht32 : t < 4294967296 := by omega
                have HT := Lib.hid ht
                have hfit : PowFits t k 3000000 := by
                  refine powFits_of (Nat.le_trans (digs_le_of_pow (k := 2 * b) ?_) (by omega)) (by omega)
                  have h1 := Nat.pow_lt_pow_left hroom (show k ≠ 0 by omega)
                  rw [← Nat.pow_mul] at h1
                  have h2 := Nat.pow_le_pow_right (n := 2) (by omega) (show n * k ≤ 2 * b by have := HC.out.2; omega)
                  omega
                have HF := Lib.hid hfit
                have HI := Lib.hid hinv
                have hk10 : k ≤ 1000000000 := by omega
                clear hm0 ht hfit hroom hrn hAn hn32 hinv
                have HA2 := Lib.hid ((HA.out.below hbel).below ((Below.refl _ _).alloc (Nat.le_refl _) (.cells #[.int .u32 t] 27)))
                go_wp2_with fail
                refine (power_sl _ t k 3000000 _ (by rw [digs_one htp ht32]; exact Sl_lit1 wr _ t rfl ht32) hk10 HF.out (by omega) (by rw [digs_one htp ht32]; simp)).mono ?_
                rintro e w1 ⟨v1, rfl, hv1, hb1⟩
                have HA3 := Lib.hid (HA2.out.below hb1)
                have HV1 := Lib.hid hv1
                have hbel1 := (hbel.alloc hbel.size (.cells #[.int .u32 t] 27)).trans (hb1.mono (by have := hbel.size; simp; omega))
                clear hv1 hb1
                go_wp2_with fail
                refine (compare_any _ _ (t ^ k) A _ HV1.out HA3.out).mono ?_
                rintro e w2 ⟨rfl, d, rfl⟩
                by_cases hle : t ^ k ≤ A
                · have hc0 : decide (cmpI ((t ^ k : Nat) : Int) (A : Int) ≤ 0) = true := by
                    rcases Nat.lt_or_ge (t ^ k) A with h | h
                    · rw [cmpI_lt (by omega)]; rfl
                    · rw [cmpI_eq (by omega)]; rfl
                  have hst := HI.out.yes (by rw [← HT.out]; exact hle)
                  rw [← HT.out] at hst
                  obtain ⟨c, hc⟩ : ∃ c, c = cmpI ((t ^ k : Nat) : Int) (A : Int) := ⟨_, rfl⟩
                  rw [← hc] at hc0 ⊢
                  clear hle hc
                  go_wp2_with fail
                  go_roundw
                  case rel => exact ⟨j, t, (j : Int) - 1, by omega, by omega, by omega, rfl, rfl, hst, bel_drewN hbel1 _⟩
                  case measure => simp [intOf]
                · have hc0 : decide (cmpI ((t ^ k : Nat) : Int) (A : Int) ≤ 0) = false := by rw [cmpI_gt (by omega)]; rfl
                  have hst := HI.out.no (by rw [← HT.out]; omega)
                  obtain ⟨c, hc⟩ : ∃ c, c = cmpI ((t ^ k : Nat) : Int) (A : Int) := ⟨_, rfl⟩
                  rw [← hc] at hc0 ⊢
                  clear hle hc
                  go_wp2_with fail
                  go_roundw
                  case rel => exact ⟨j, r, (j : Int) - 1, by omega, by omega, by omega, rfl, rfl, hst, bel_drewN hbel1 _⟩
                  case measure => simp [intOf]
          · have hd2 : decide ((n : Int) ≤ 32) = false := by simp; omega
            obtain ⟨s, hs⟩ : ∃ s, s = n / 2 := ⟨_, rfl⟩
            have hs1 : (n : Int) / 2 = (s : Int) := by rw [hs]; simp
            have hks : k * s ≤ b := by
              have h1 := HC.out.2
              have h2 : k * (n - 1) ≤ b := by
                rw [Nat.mul_sub, Nat.mul_one, Nat.mul_comm]; omega
              have h3 : k * s ≤ k * (n - 1) := Nat.mul_le_mul_left _ (by omega)
              omega
            have hksb : k * s < b := by
              have h1 := HC.out.2
              have h3 : k * s ≤ k * (n - 1 - 1) := Nat.mul_le_mul_left _ (by omega)
              have h4 : k * (n - 1 - 1) = n * k - k - k := by rw [Nat.mul_sub, Nat.mul_sub, Nat.mul_one, Nat.mul_comm]
              omega
            have hs0 : 1 ≤ s := by omega
            have hsn : s ≤ n := by omega
            have hks2 : IntKind.i64.wrap ((k : Int) * (s : Int)) = ((k * s : Nat) : Int) := by
              rw [show (k : Int) * (s : Int) = ((k * s : Nat) : Int) by simp]; exact IntWalk.i64_in _ (by omega)
            have hA2 : 0 < A / 2 ^ (k * s) := by
              rw [Nat.div_pos_iff]
              refine ⟨Nat.two_pow_pos _, Nat.le_trans (Nat.pow_le_pow_right (by omega) ?_) HB2.out⟩
              omega
            have hA3 : A / 2 ^ (k * s) < A := by
              apply Nat.div_lt_self hA0
              have : 2 ^ 1 ≤ 2 ^ (k * s) := Nat.pow_le_pow_right (by omega) (Nat.mul_pos (by omega) (by omega))
              omega
            obtain ⟨ks, hkse⟩ : ∃ ks, ks = k * s := ⟨_, rfl⟩
            rw [← hkse] at hks hksb hks2 hA2 hA3
            have HKS := Lib.hid hkse
            have HS := Lib.hid hs
            obtain ⟨m, hm⟩ : ∃ m, m = k - 1 := ⟨_, rfl⟩
            have hkm : (k : Int) - 1 = (m : Int) := by omega
            have hmk : m + 1 = k := by omega
            have HMK := Lib.hid hmk
            clear hs hkse hm hmk
            go_enter Try.func62, Try.ntmps62
            go_wp2_with fail
            refine (width_sl _ A _ HA.out (by omega)).mono ?_
            rintro e w' ⟨rfl, rfl⟩
            rw [← HB.out]
            go_wp2_with fail
            refine (down_sl _ (digs A) ks _ HA.out (by omega) (by omega)).mono ?_
            rintro e w1 ⟨v1, rfl, hv1, hb1⟩
            rw [val_digs] at hv1
            have HV1 := Lib.hid hv1
            clear hv1
            go_wp2_with fail
            refine (IH.out _ hA3 _ k _ HV1.out (Nat.le_trans (digs_length_mono (Nat.le_of_lt hA3)) hla) hk hk2).mono ?_
            rintro e w2 ⟨v2, r1, rfl, hv2, hroot, hb2⟩
            have HV2 := Lib.hid hv2
            have HR := Lib.hid hroot
            have hr1 : 0 < r1 := by
              rcases Nat.eq_zero_or_pos r1 with h | h
              · subst h
                have := hroot.2
                rw [Nat.zero_add, Nat.one_pow] at this
                omega
              · exact h
            clear hv2 hroot
            have hr1A : r1 < 2 ^ b := by
              have h1 := HR.out.1
              have h2 : r1 ^ 1 ≤ r1 ^ k := Nat.pow_le_pow_right hr1 hk
              rw [Nat.pow_one] at h2
              have := HB1.out
              omega
            have hr2 : r1 + 1 < 2 ^ (b + 1) := by rw [Nat.pow_succ]; have := Nat.two_pow_pos b; omega
            have hl1 : (digs r1).length ≤ 1000002 := Nat.le_trans (digs_le_of_pow hr1A) (by omega)
            have hl2 : (digs (r1 + 1)).length ≤ 1000002 := Nat.le_trans (digs_le_of_pow hr2) (by omega)
            have HSL := Lib.hid (HV2.out.below ((Below.refl _ _).alloc (Nat.le_refl _) (.cells #[.int .u32 1] 27)))
            clear hr1A hr2
            go_wp2_with fail
            refine (sum_sl _ _ (digs r1) [1] _ HSL.out (Sl_lit1 w2 1 1 rfl (by omega)) (by omega) (by simp)).mono ?_
            rintro e w3 ⟨v3, rfl, hv3, hb3⟩
            rw [val_digs, show val [1] = 1 from rfl] at hv3
            have HV3 := Lib.hid hv3
            clear hv3
            go_wp2_with fail
            refine (up_sl _ (digs (r1 + 1)) s _ HV3.out (by omega) (by omega)).mono ?_
            rintro e w4 ⟨v4, rfl, hv4, hb4⟩
            rw [val_digs] at hv4
            have HN0 := NewtInv.start (s := s) (A := A) hk (by rw [← HKS.out]; exact HR.out) hr1
            have HW : Below w.heap.size w w4 := by
              have c1 := hb1.trans (hb2.mono hb1.size)
              have c2 := c1.alloc c1.size (.cells #[.int .u32 1] 27)
              have c3 := c2.trans (hb3.mono c2.size)
              exact c3.trans (hb4.mono c3.size)
            clear HSL hb1 hb2 hb3 hb4
            go_wp2_with fail
            clear hlen hs1 hks2
            go_loopg [11] ((r1 + 1) * 2 ^ s) (fun x v wr => NewtInv A k x ∧ Sl wr v (digs x) ∧ Below w.heap.size w wr)
            case atStart => exact ⟨HN0, hv4, HW⟩
            case round =>
              obtain ⟨x, rfl⟩ : ∃ x, x = gk := ⟨_, rfl⟩
              obtain ⟨hN, hx, hbel⟩ := hrel
              have HN' := Lib.hid hN
              have HX := Lib.hid hx
              have hx0 := hN.1
              have hx1 := hN.size HB1.out 1 (by omega)
              rw [Nat.pow_one] at hx1
              have hxm := hN.size HB1.out m (by have := HMK.out; omega)
              have hlx : (digs x).length ≤ 3000000 := Nat.le_trans (digs_le_of_pow hx1) (by omega)
              have hlm : (digs (x ^ m)).length ≤ 3000000 := Nat.le_trans (digs_le_of_pow hxm) (by omega)
              have HF := Lib.hid (powFits_of hlm (by omega))
              have hm0 : 1 ≤ m := by have := HMK.out; omega
              have hm1 : m ≤ 32000000 := by have := HMK.out; omega
              have HSZ := Lib.hid (size_mul hx1 hm1 HB1.out (Nat.div_le_self A (x ^ m)) (by omega))
              clear hN hx hx1 hxm hv4 HN0 HW
              go_wp2_with fail
              refine (power_sl _ x m 3000000 _ HX.out (by omega) HF.out (by omega) (by omega)).mono ?_
              rintro e w5 ⟨v5, rfl, hv5, hb5⟩
              have HV5 := Lib.hid hv5
              have hbel5 := hbel.trans (hb5.mono hbel.size)
              have HA5 := Lib.hid (HA.out.below hbel5)
              have HX5 := Lib.hid (HX.out.below hb5)
              have hxp : 0 < x ^ m := Nat.pow_pos hx0
              clear hv5 hb5
              go_wp2_with fail
              refine (divide_sl _ _ (digs A) (digs (x ^ m)) _ HA5.out HV5.out (by omega) (by omega) (by rw [val_digs]; exact hxp)).mono ?_
              rintro e w6 ⟨v6, u6, rfl, hv6, _, hb6⟩
              rw [val_digs, val_digs] at hv6
              have HV6 := Lib.hid hv6
              have hbel6 := hbel5.trans (hb6.mono hbel5.size)
              have HX6 := Lib.hid (HX5.out.below hb6)
              clear hv6 hb6
              go_wp2_with fail
              refine (scaled_sl _ (digs x) m 0 _ HX6.out (by omega) (by omega) (by omega)).mono ?_
              rintro e w7 ⟨v7, rfl, hv7, hb7⟩
              rw [val_digs, Nat.add_zero] at hv7
              have HV7 := Lib.hid hv7
              have hbel7 := hbel6.trans (hb7.mono hbel6.size)
              have HX7 := Lib.hid (HX6.out.below hb7)
              have HV67 := Lib.hid (HV6.out.below hb7)
              have hl7 : (digs (x * m)).length ≤ 1000000000 := HSZ.out.1
              have hl6 : (digs (A / x ^ m)).length ≤ 1000000000 := Nat.le_trans (digs_length_mono (Nat.div_le_self _ _)) (by omega)
              clear hv7 hb7
              go_wp2_with fail
              refine (sum_sl _ _ (digs (x * m)) (digs (A / x ^ m)) _ HV7.out HV67.out hl7 hl6).mono ?_
              rintro e w8 ⟨v8, rfl, hv8, hb8⟩
              rw [val_digs, val_digs] at hv8
              have HV8 := Lib.hid hv8
              have hbel8 := hbel7.trans (hb8.mono hbel7.size)
              have HX8 := Lib.hid (HX7.out.below hb8)
              have hl8 : (digs (x * m + A / x ^ m)).length ≤ 1000000000 := HSZ.out.2
              clear hv8 hb8
              go_wp2_with fail
              refine (divideSmall_sl _ (digs (x * m + A / x ^ m)) k _ HV8.out hl8 (by omega) (by omega)).mono ?_
              rintro e w9 ⟨v9, rfl, hv9, hb9⟩
              rw [val_digs] at hv9 ⊢
              have hnw : (x * m + A / x ^ m) / k = newton A k x := by
                unfold newton
                rw [show k - 1 = m by have := HMK.out; omega, Nat.mul_comm]
              rw [hnw] at hv9
              have HV9 := Lib.hid hv9
              have hbel9 := hbel8.trans (hb9.mono hbel8.size)
              have HX9 := Lib.hid (HX8.out.below hb9)
              obtain ⟨y, hy⟩ : ∃ y, y = newton A k x := ⟨_, rfl⟩
              rw [← hy] at HV9
              have HY := Lib.hid hy
              clear hv9 hb9 hnw hy
              go_wp2_with fail
              refine (compare_any _ _ y x _ HV9.out HX9.out).mono ?_
              rintro e w10 ⟨rfl, d, rfl⟩
              by_cases hyx : x ≤ y
              · have hc0 : decide (0 ≤ cmpI (y : Int) (x : Int)) = true := by
                  rcases Nat.lt_or_ge x y with h | h
                  · rw [cmpI_gt (by omega)]; rfl
                  · rw [cmpI_eq (by omega)]; rfl
                obtain ⟨c, hc⟩ : ∃ c, c = cmpI (y : Int) (x : Int) := ⟨_, rfl⟩
                rw [← hc] at hc0 ⊢
                have HYX := Lib.hid hyx
                clear hc hyx
                go_wp2_with fail
                go_ret
                exact ⟨_, x, rfl, HX9.out.drewN _, HN'.out.done (by omega) (by rw [← HY.out]; exact HYX.out), bel_drewN hbel9 _⟩
              · have hc0 : decide (0 ≤ cmpI (y : Int) (x : Int)) = false := by rw [cmpI_lt (by omega)]; rfl
                obtain ⟨c, hc⟩ : ∃ c, c = cmpI (y : Int) (x : Int) := ⟨_, rfl⟩
                rw [← hc] at hc0 ⊢
                have hyx' : y < x := by omega
                have hst := HN'.out.step (by omega) (by rw [← HY.out]; exact hyx')
                rw [← HY.out] at hst
                clear hc hyx
                go_wp2_with fail
                go_roundg y
                case measure => exact hyx'
                case rel => exact ⟨hst, HV9.out.drewN _, bel_drewN hbel9 _⟩
end Go.Proofs.Ytjgmfdenicbniaa
