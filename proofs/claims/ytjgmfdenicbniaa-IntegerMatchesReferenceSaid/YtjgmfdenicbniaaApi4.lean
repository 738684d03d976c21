/- The functions of package integer: value, Small, Pow, Root, DivMod. -/
import Derived.Test.YtjgmfdenicbniaaApi3
namespace Go.Proofs.Ytjgmfdenicbniaa
open Go.RowKit W
theorem or_zero (a : Nat) (ha : a < 4294967296) : bits .or .u64 0 ((a : Int)) = (a : Int) := by
  have := bits_or_u64_nat 0 a (by omega) (by omega)
  rw [Nat.zero_or] at this
  exact this
theorem or_high (m a : Nat) (hm : m < 4294967296) (ha : a < 4294967296) : bits .or .u64 (m : Int) ((a : Int) * 4294967296) = ((m + 4294967296 * a : Nat) : Int) := by
  have h3 : (a : Int) * 4294967296 = ((a * 4294967296 : Nat) : Int) := by simp
  rw [h3, bits_or_u64_nat _ _ (by omega) (by omega)]
  congr 1
  have := Nat.two_pow_add_eq_or_of_lt (i := 32) (by simpa using hm) a
  rw [Nat.or_comm, Nat.mul_comm a]
  rw [show (4294967296 : Nat) = 2 ^ 32 from rfl, ← this]
  omega
theorem ret_u64 {a b : Int} (h : a = b) : Ending.returned (.int .u64 a) = .returned (.int .u64 b) := by rw [h]
/-- What value leaves: the number of at most two words. -/
def RetV (w0 : World) (m : Nat) (e : Ending) (w' : World) : Prop := e = .returned (.int .u64 m) ∧ w0 = w'
set_option maxHeartbeats 1000000 in
theorem value_sl (v : Value) (l : List Nat) (w : World) (h : Sl w v l) (hlen : l.length ≤ 2) :
    Calls Try.prog 70 #[v] w (RetV w (val l)) := by
  obtain ⟨ao, cap, rfl, h1, h2, h3, hn, h4⟩ := h
  have H4 := Lib.hid h4
  have H3 := Lib.hid h3
  clear h4 hn h3
  unfold maxLen at h2
  go_enter Try.func70, Try.ntmps70
  go_wp2_with fail
  go_loop [3, 7] (fun sm i => ∃ (k m : Nat), k ≤ l.length ∧ i = .int .i64 k ∧ sm = .int .u64 m ∧ Hid (m = val (l.take k)) ∧ m < 18446744073709551616) (fun _ i => l.length - (intOf i).toNat)
  case atStart => exact ⟨0, 0, by omega, rfl, rfl, rfl, by omega⟩
  case round =>
    obtain ⟨k, m, hk, rfl, rfl, hm, hm2⟩ := hrel
    by_cases hlt : k < l.length
    · obtain ⟨b, off, rfl, hc⟩ := H4.out k hlt
      have hg := gd_lt H3.out k
      by_cases hk0 : k = 0
      · subst hk0
        have hm0 : m = 0 := by rw [hm.out]; rfl
        subst hm0
        have hor := or_zero (gd l 0) hg
        have HV : Hid (gd l 0 = val (l.take 1)) := by
          show gd l 0 = _
          rw [val_take_gd, List.take_zero, val_nil, Nat.pow_zero]; omega
        rw [Nat.add_zero] at hc
        clear hm hm2
        go_wp2_with fail
        go_round
        case rel => exact ⟨1, gd l 0, by omega, rfl, rfl, HV, by omega⟩
        case measure => simp [intOf]; omega
      · obtain rfl : k = 1 := by omega
        have hm1 : m = gd l 0 := by rw [hm.out, val_take_gd, List.take_zero, val_nil, Nat.pow_zero]; omega
        have hg0 := gd_lt H3.out 0
        have hor := or_high m (gd l 1) (by omega) hg
        have HV : Hid (m + 4294967296 * gd l 1 = val (l.take 2)) := by
          show _ = _
          rw [val_take_gd, ← hm.out, Nat.pow_one]
        obtain ⟨t, ht⟩ : ∃ t, t = m + 4294967296 * gd l 1 := ⟨_, rfl⟩
        have ht2 : t < 18446744073709551616 := by omega
        rw [← ht] at hor HV
        clear hm hm1 ht
        go_wp2_with fail
        go_round
        case rel => exact ⟨2, t, by omega, rfl, rfl, HV, ht2⟩
        case measure => simp [intOf]; omega
    · obtain rfl : k = l.length := by omega
      have HV : Hid (m = val l) := by have := hm.out; rwa [List.take_length] at this
      clear hm
      go_wp2_with fail
      go_ret
      exact ⟨ret_u64 (by rw [HV.out]), rfl⟩
/-- Does an integer fit into 64 bits? -/
def isSmall (z : Int) : Bool := decide (-9223372036854775808 ≤ z) && decide (z ≤ 9223372036854775807)
def smallN (z : Int) : Int := if isSmall z then z else 0
/-- What Small leaves. -/
def RetS (w0 : World) (n : Int) (b : Bool) (e : Ending) (w' : World) : Prop := e = .returned (.tuple #[.int .i64 n, .bool b]) ∧ Below w0.heap.size w0 w'
theorem RetS.eq {w : World} {n m : Int} {b c : Bool} {e : Ending} {w' : World} (h : RetS w n b e w') (h1 : n = m) (h2 : b = c) : RetS w m c e w' := by subst h1 h2; exact h
theorem small_big {z : Int} (h : 2 < (digs z.natAbs).length) : isSmall z = false ∧ smallN z = 0 := by
  have := pow_le_of_digs_length h
  have h1 : isSmall z = false := by
    unfold isSmall
    rw [Bool.and_eq_false_iff, decide_eq_false_iff_not, decide_eq_false_iff_not]
    omega
  exact ⟨h1, by unfold smallN; rw [h1]; rfl⟩
theorem small_no {z : Int} (h : z < -9223372036854775808 ∨ 9223372036854775807 < z) : isSmall z = false ∧ smallN z = 0 := by
  have h1 : isSmall z = false := by
    unfold isSmall
    rw [Bool.and_eq_false_iff, decide_eq_false_iff_not, decide_eq_false_iff_not]
    omega
  exact ⟨h1, by unfold smallN; rw [h1]; rfl⟩
theorem small_yes {z : Int} (h1 : -9223372036854775808 ≤ z) (h2 : z ≤ 9223372036854775807) : isSmall z = true ∧ smallN z = z := by
  have h : isSmall z = true := by unfold isSmall; rw [Bool.and_eq_true, decide_eq_true_eq, decide_eq_true_eq]; exact ⟨h1, h2⟩
  exact ⟨h, by unfold smallN; rw [h]; rfl⟩
set_option maxHeartbeats 2000000 in
theorem Small_z (va : Value) (x : Int) (w : World) (ha : IsI w va x) :
    Calls Try.prog 32 #[va] w (RetS w (smallN x) (isSmall x)) := by
  obtain ⟨aoa, capa, rfl, sa, ha1, ha2⟩ := ha.parts
  have SA := Lib.hid sa
  clear ha sa
  obtain ⟨n, hn⟩ : ∃ n, n = decide (x < 0) := ⟨_, rfl⟩
  obtain ⟨m, hm⟩ : ∃ m, m = x.natAbs := ⟨_, rfl⟩
  obtain ⟨R, hR⟩ : ∃ R, R = smallN x := ⟨_, rfl⟩
  obtain ⟨c, hc⟩ : ∃ c, c = isSmall x := ⟨_, rfl⟩
  rw [← hn, ← hm]
  rw [← hm] at SA ha1
  rw [← hR, ← hc]
  have HR := Lib.hid hR
  have HC := Lib.hid hc
  have HN := Lib.hid hn
  have HM := Lib.hid hm
  clear hR hc hn hm
  obtain ⟨W, hW, hsz, B0, k0⟩ := boxes10 w n (.slice aoa (digs m).length capa)
  have c0 := k0.1
  have c1 := k0.2
  have S0 := Lib.hid (SA.out.below B0)
  clear k0
  by_cases hlen : 2 < (digs m).length
  · have hd : decide ((2 : Int) < ((digs m).length : Int)) = true := by simp; omega
    have HS := Lib.hid (small_big (z := x) (by rw [← HM.out]; exact hlen))
    go_enter Try.func32, Try.ntmps32
    go_upto_region 1 with fail
    rw [← hW]
    clear hW
    go_wp2_with fail
    go_ret2
    exact RetS.eq ⟨rfl, B0⟩ (by rw [HR.out, HS.out.2]) (by rw [HC.out, HS.out.1])
  · have hd : decide ((2 : Int) < ((digs m).length : Int)) = false := by simp; omega
    have hm64 : m < 18446744073709551616 := by
      have h1 := val_lt (Wd_digs m)
      rw [val_digs] at h1
      have h2 := Nat.pow_le_pow_right (n := 4294967296) (by omega) (show (digs m).length ≤ 2 by omega)
      omega
    cases n
    · have hx : x = (m : Int) := by have h1 := HN.out; have h2 := HM.out; have h3 : ¬ x < 0 := (by simpa using h1.symm); omega
      by_cases hb : 9223372036854775808 ≤ m
      · have hd2 : decide ((9223372036854775808 : Int) ≤ (m : Int)) = true := by simp; omega
        have HS := Lib.hid (small_no (z := x) (.inr (by omega)))
        clear hx
        go_enter Try.func32, Try.ntmps32
        go_upto_region 1 with fail
        rw [← hW]
        clear hW
        go_wp2_with fail
        refine (value_sl _ (digs m) _ S0.out (by omega)).mono ?_
        rintro e w' ⟨rfl, rfl⟩
        rw [val_digs]
        go_wp2_with fail
        go_ret2
        exact RetS.eq ⟨rfl, B0⟩ (by rw [HR.out, HS.out.2]) (by rw [HC.out, HS.out.1])
      · have hd2 : decide ((9223372036854775808 : Int) ≤ (m : Int)) = false := by simp; omega
        have HS := Lib.hid (small_yes (z := x) (by omega) (by omega))
        have HX := Lib.hid hx
        clear hx
        go_enter Try.func32, Try.ntmps32
        go_upto_region 1 with fail
        rw [← hW]
        clear hW
        go_wp2_with fail
        refine (value_sl _ (digs m) _ S0.out (by omega)).mono ?_
        rintro e w' ⟨rfl, rfl⟩
        rw [val_digs]
        go_wp2_with fail
        go_ret2
        exact RetS.eq (n := (m : Int)) (b := true) ⟨rfl, B0⟩ (by rw [HR.out, HS.out.2, HX.out]) (by rw [HC.out, HS.out.1])
    · have hx : x = -(m : Int) := by have h1 := HN.out; have h2 := HM.out; have h3 : x < 0 := (by simpa using h1.symm); omega
      have hm0 : 0 < m := by have h1 := HN.out; have h2 := HM.out; have h3 : x < 0 := (by simpa using h1.symm); omega
      by_cases hb : 9223372036854775808 < m
      · have hd2 : decide ((9223372036854775808 : Int) < (m : Int)) = true := by simp; omega
        have HS := Lib.hid (small_no (z := x) (.inl (by omega)))
        clear hx
        go_enter Try.func32, Try.ntmps32
        go_upto_region 1 with fail
        rw [← hW]
        clear hW
        go_wp2_with fail
        refine (value_sl _ (digs m) _ S0.out (by omega)).mono ?_
        rintro e w' ⟨rfl, rfl⟩
        rw [val_digs]
        go_wp2_with fail
        go_ret2
        exact RetS.eq ⟨rfl, B0⟩ (by rw [HR.out, HS.out.2]) (by rw [HC.out, HS.out.1])
      · have hd2 : decide ((9223372036854775808 : Int) < (m : Int)) = false := by simp; omega
        have HS := Lib.hid (small_yes (z := x) (by omega) (by omega))
        have HX := Lib.hid hx
        have hw : IntKind.i64.wrap (IntKind.u64.wrap (-(m : Int))) = x := by rw [hx]; simp only [IntKind.wrap_u64, IntKind.wrap_i64]; omega
        have HWX := Lib.hid hw
        clear hx hw
        go_enter Try.func32, Try.ntmps32
        go_upto_region 1 with fail
        rw [← hW]
        clear hW
        go_wp2_with fail
        refine (value_sl _ (digs m) _ S0.out (by omega)).mono ?_
        rintro e w' ⟨rfl, rfl⟩
        rw [val_digs]
        go_wp2_with fail
        go_ret2
        exact RetS.eq (n := wrap64 (IntKind.u64.wrap (-(m : Int)))) (b := true) ⟨rfl, B0⟩ (by rw [HR.out, HS.out.2, ← IntWalk.i64_left, HWX.out]) (by rw [HC.out, HS.out.1])
/-- What a function leaves that returns an integer and an error number. -/
def RetZE (w0 : World) (z : Int) (c : Int) (e : Ending) (w' : World) : Prop := ∃ v, e = .returned (.tuple #[v, .int .i64 c]) ∧ IsI w' v z ∧ Below w0.heap.size w0 w'
theorem RetZE.eq {w : World} {z n c d : Int} {e : Ending} {w' : World} (h : RetZE w z c e w') (hz : z = n) (hc : c = d) : RetZE w n d e w' := by subst hz hc; exact h
theorem zero_i (w : World) : IsI w (.agg #[.bool false, .slice none 0 0]) 0 := ⟨_, rfl, by rw [Int.natAbs_zero, digs_zero]; exact Sl_nil w⟩
theorem ret_boxE {w0 w2 : World} {r : Nat} {n : Bool} {s : Value} {z c : Int} (hz : IsI w2 (.agg #[.bool n, s]) z) (hr : RBox w2 r) (hB : Below w0.heap.size w0 w2) (hle : w0.heap.size ≤ r) :
    RetZE w0 z c (.returned (.tuple #[.agg #[.bool n, s], .int .i64 c])) ((w2.setCell ⟨r, 0, none⟩ (.bool n)).setCell ⟨r, 1, none⟩ s) :=
  ⟨_, rfl, hz.store hr _ _, (hB.setCell (p := ⟨r, 0, none⟩) hle _).setCell (p := ⟨r, 1, none⟩) hle _⟩
theorem pow_sgn (x : Int) (n : Nat) : sgnI (decide (x < 0) && decide (n % 2 = 1)) (x.natAbs ^ n) = x ^ n := by
  by_cases hx : x < 0
  · have e : x = -(x.natAbs : Int) := by omega
    rw [decide_eq_true hx, Bool.true_and]
    generalize x.natAbs = a at *
    subst e
    induction n with
    | zero => simp [sgnI]
    | succ n ih =>
      rw [Int.pow_succ, ← ih, Nat.pow_succ]
      by_cases h : n % 2 = 1
      · rw [decide_eq_true h, decide_eq_false (show ¬ (n + 1) % 2 = 1 by omega)]
        simp [sgnI, Int.neg_mul_neg]
      · rw [decide_eq_false h, decide_eq_true (show (n + 1) % 2 = 1 by omega)]
        simp [sgnI, Int.mul_neg]
  · have e : x = (x.natAbs : Int) := by omega
    rw [decide_eq_false hx, Bool.false_and]
    generalize x.natAbs = a at *
    rw [e]
    simp [sgnI]
set_option maxHeartbeats 2000000 in
theorem Pow_z (va : Value) (x : Int) (n : Nat) (w : World) (ha : IsI w va x) (hn : n ≤ 4096) (hx : Fits x 1000000000) (hf : (digs (x.natAbs ^ n)).length ≤ 1000000000) :
    Calls Try.prog 26 #[va, .int .i64 n] w (RetZE w (x ^ n) 0) := by
  obtain ⟨aoa, capa, rfl, sa, ha1, ha2⟩ := ha.parts
  have SA := Lib.hid sa
  have HX := Lib.hid hx
  have HF := Lib.hid (powFits_of hf (by omega))
  clear ha sa hx hf
  obtain ⟨z, hz⟩ : ∃ z : Int, z = x ^ n := ⟨_, rfl⟩
  rw [← hz]
  have hzz := pow_sgn x n
  rw [← hz] at hzz
  clear hz
  obtain ⟨nx, hnx⟩ : ∃ nx, nx = decide (x < 0) := ⟨_, rfl⟩
  rw [← hnx] at hzz ⊢
  clear hnx
  obtain ⟨W, hW, hsz, B0, k0, k1⟩ := boxes11 w nx (.slice aoa (digs x.natAbs).length capa)
  have c0 := k0.1
  have c1 := k0.2
  have K1 := Lib.hid k1
  have S0 := Lib.hid (SA.out.below B0)
  clear k0 k1
  have hd1 : decide ((n : Int) < 0) = false := by simp
  have hd2 : decide ((4096 : Int) < (n : Int)) = false := by simp; omega
  have hpar : ((n : Int) % 2 == 1) = decide (n % 2 = 1) := by
    by_cases h : n % 2 = 1
    · rw [decide_eq_true h, beq_iff_eq]; omega
    · rw [decide_eq_false h, beq_eq_false_iff_ne]; omega
  obtain ⟨o, ho⟩ : ∃ o, o = decide (n % 2 = 1) := ⟨_, rfl⟩
  rw [← ho] at hpar hzz
  have HZZ := Lib.hid hzz
  clear ho hzz
  cases nx
  all_goals
    go_enter Try.func26, Try.ntmps26
    go_upto_region 1 with fail
    rw [← hW]
    clear hW
    go_wp2_with fail
    refine (power_sl _ x.natAbs n 1000000000 _ S0.out (by omega) HF.out (by omega) HX.out).mono ?_
    rintro e w1 ⟨v1, rfl, hv1, hb1⟩
    go_wp2_with fail
    refine (signed_z _ _ _ z _ hv1 (by rw [val_digs]; exact HZZ.out)).mono ?_
    rintro e w2 ⟨v2, rfl, hz, hb2⟩
    obtain ⟨ao2, cap2, rfl, sl2, _, _⟩ := hz.parts
    have hrb := (K1.out.keep hb1).keep hb2
    have HRB := Lib.hid hrb
    obtain ⟨⟨n0, ao0, len0, cap0, g0, g1⟩, g2, g3⟩ := hrb
    have B2 : Below w.heap.size w w2 := (B0.trans (hb1.mono B0.size)).trans (hb2.mono (Nat.le_trans B0.size hb1.size))
    go_wp2_with fail
    refine bodyPost_ret (v := .tuple #[.agg #[.bool (decide (z < 0)), .slice ao2 (digs z.natAbs).length cap2], .int .i64 0]) ?_ rfl (ret_boxE hz HRB.out B2 (by omega))
    simp [results, Try.results26, go_sem, g0, g1]
set_option maxHeartbeats 2000000 in
theorem Pow_out (va : Value) (x n : Int) (w : World) (ha : IsI w va x) (hn : n < 0 ∨ 4096 < n) :
    Calls Try.prog 26 #[va, .int .i64 n] w (RetZE w 0 1) := by
  obtain ⟨aoa, capa, rfl, sa, ha1, ha2⟩ := ha.parts
  clear ha sa
  obtain ⟨nx, hnx⟩ : ∃ nx, nx = decide (x < 0) := ⟨_, rfl⟩
  rw [← hnx]
  clear hnx
  obtain ⟨W, hW, hsz, B0, k0, k1⟩ := boxes11 w nx (.slice aoa (digs x.natAbs).length capa)
  have c0 := k0.1
  have c1 := k0.2
  have HRB := Lib.hid k1
  obtain ⟨⟨n0, ao0, len0, cap0, g0, g1⟩, g2, g3⟩ := k1
  clear k0
  rcases hn with hn | hn
  · have hd1 : decide (n < 0) = true := by simp; omega
    go_enter Try.func26, Try.ntmps26
    go_upto_region 1 with fail
    rw [← hW]
    clear hW
    go_wp2_with fail
    refine bodyPost_ret (v := .tuple #[.agg #[.bool false, .slice none 0 0], .int .i64 1]) ?_ rfl (ret_boxE (zero_i W) HRB.out B0 (by omega))
    simp [results, Try.results26, go_sem, g0, g1]
  · have hd1 : decide (n < 0) = false := by simp; omega
    have hd2 : decide ((4096 : Int) < n) = true := by simp; omega
    go_enter Try.func26, Try.ntmps26
    go_upto_region 1 with fail
    rw [← hW]
    clear hW
    go_wp2_with fail
    refine bodyPost_ret (v := .tuple #[.agg #[.bool false, .slice none 0 0], .int .i64 1]) ?_ rfl (ret_boxE (zero_i W) HRB.out B0 (by omega))
    simp [results, Try.results26, go_sem, g0, g1]
end Go.Proofs.Ytjgmfdenicbniaa
