/- The functions of package integer: value, Small, Pow, Root, DivMod. The functions of package integer: Root, DivMod. -/
import Derived.Test.YtndpjfhhigpbhaaGreatApi3
namespace Go.Proofs.YtndpjfhhigpbhaaGreat
open Go.RowKit W
theorem or_zero (a : Nat) (ha : a < 4294967296) : bits .or .u64 0 ((a : Int)) = (a : Int) := by
  have := bits_or_u64_nat 0 a (by omega) (by omega)
  rw [Nat.zero_or] at this
  exact this
theorem or_high (m a : Nat) (hm : m < 4294967296) (ha : a < 4294967296) : bits .or .u64 (m : Int) ((a : Int) * 4294967296) = ((m + 4294967296 * a : Nat) : Int) := by
  have h3 : (a : Int) * 4294967296 = ((a * 4294967296 : Nat) : Int) := by simp
  rw [h3, bits_or_u64_nat _ _ (by omega) (by omega)]
  congr 1
  have := Nat.two_pow_add_eq_or_of_lt (i := 32) (by simpa using hm) a
  rw [Nat.or_comm, Nat.mul_comm a]
  rw [show (4294967296 : Nat) = 2 ^ 32 from rfl, ← this]
  omega
theorem ret_u64 {a b : Int} (h : a = b) : Ending.returned (.int .u64 a) = .returned (.int .u64 b) := by rw [h]
/-- What value leaves: the number of at most two words. -/
def RetV (w0 : World) (m : Nat) (e : Ending) (w' : World) : Prop := e = .returned (.int .u64 m) ∧ w0 = w'
set_option maxHeartbeats 1000000 in
theorem value_sl (v : Value) (l : List Nat) (w : World) (h : Sl w v l) (hlen : l.length ≤ 2) :
    Calls Tryz.prog 99 #[v] w (RetV w (val l)) := by
  obtain ⟨ao, cap, rfl, h1, h2, h3, hn, h4⟩ := h
  have H4 := Lib.hid h4
  have H3 := Lib.hid h3
  clear h4 hn h3
  unfold maxLen at h2
  go_enter Tryz.func99, Tryz.ntmps99
  go_wp2_with fail
  go_loop [3, 7] (fun sm i => ∃ (k m : Nat), k ≤ l.length ∧ i = .int .i64 k ∧ sm = .int .u64 m ∧ Hid (m = val (l.take k)) ∧ m < 18446744073709551616) (fun _ i => l.length - (intOf i).toNat)
  case atStart => exact ⟨0, 0, by omega, rfl, rfl, rfl, by omega⟩
  case round =>
    obtain ⟨k, m, hk, rfl, rfl, hm, hm2⟩ := hrel
    by_cases hlt : k < l.length
    · obtain ⟨b, off, rfl, hc⟩ := H4.out k hlt
      have hg := gd_lt H3.out k
      by_cases hk0 : k = 0
      · subst hk0
        have hm0 : m = 0 := by rw [hm.out]; rfl
        subst hm0
        have hor := or_zero (gd l 0) hg
        have HV : Hid (gd l 0 = val (l.take 1)) := by
          show gd l 0 = _
          rw [val_take_gd, List.take_zero, val_nil, Nat.pow_zero]; omega
        rw [Nat.add_zero] at hc
        clear hm hm2
        go_wp2_with fail
        go_round
        case rel => exact ⟨1, gd l 0, by omega, rfl, rfl, HV, by omega⟩
        case measure => simp [intOf]; omega
      · obtain rfl : k = 1 := by omega
        have hm1 : m = gd l 0 := by rw [hm.out, val_take_gd, List.take_zero, val_nil, Nat.pow_zero]; omega
        have hg0 := gd_lt H3.out 0
        have hor := or_high m (gd l 1) (by omega) hg
        have HV : Hid (m + 4294967296 * gd l 1 = val (l.take 2)) := by
          show _ = _
          rw [val_take_gd, ← hm.out, Nat.pow_one]
        obtain ⟨t, ht⟩ : ∃ t, t = m + 4294967296 * gd l 1 := ⟨_, rfl⟩
        have ht2 : t < 18446744073709551616 := by omega
        rw [← ht] at hor HV
        clear hm hm1 ht
        go_wp2_with fail
        go_round
        case rel => exact ⟨2, t, by omega, rfl, rfl, HV, ht2⟩
        case measure => simp [intOf]; omega
    · obtain rfl : k = l.length := by omega
      have HV : Hid (m = val l) := by have := hm.out; rwa [List.take_length] at this
      clear hm
      go_wp2_with fail
      go_ret
      exact ⟨ret_u64 (by rw [HV.out]), rfl⟩
/-- What Small leaves. -/
def RetS (w0 : World) (n : Int) (b : Bool) (e : Ending) (w' : World) : Prop := e = .returned (.tuple #[.int .i64 n, .bool b]) ∧ Below w0.heap.size w0 w'
theorem RetS.eq {w : World} {n m : Int} {b c : Bool} {e : Ending} {w' : World} (h : RetS w n b e w') (h1 : n = m) (h2 : b = c) : RetS w m c e w' := by subst h1 h2; exact h
/-- What a function leaves that returns an integer and an error number. -/
def RetZE (w0 : World) (z : Int) (c : Int) (e : Ending) (w' : World) : Prop := ∃ v, e = .returned (.tuple #[v, .int .i64 c]) ∧ IsI w' v z ∧ Below w0.heap.size w0 w'
theorem RetZE.eq {w : World} {z n c d : Int} {e : Ending} {w' : World} (h : RetZE w z c e w') (hz : z = n) (hc : c = d) : RetZE w n d e w' := by subst hz hc; exact h
theorem zero_i (w : World) : IsI w (.agg #[.bool false, .slice none 0 0]) 0 := ⟨_, rfl, by rw [Int.natAbs_zero, digs_zero]; exact Sl_nil w⟩
end Go.Proofs.YtndpjfhhigpbhaaGreat
namespace Go.Proofs.YtndpjfhhigpbhaaGreat
open Go.RowKit W
theorem sgnI_false (n : Nat) : sgnI false n = (n : Int) := rfl
/-! ### DivMod -/
theorem ediv_of {x y q r : Int} (hy : y ≠ 0) (h : x = q * y + r) (h0 : 0 ≤ r) (h1 : r < y.natAbs) : x / y = q ∧ x % y = r := by
  rcases Int.lt_or_gt_of_ne hy with hn | hp
  · have e := (Int.ediv_emod_unique (a := x) (b := -y) (r := r) (q := -q) (by omega)).2 ⟨by rw [h, Int.neg_mul_neg, Int.mul_comm, Int.add_comm], h0, by omega⟩
    rw [Int.ediv_neg, Int.emod_neg] at e
    exact ⟨by omega, e.2⟩
  · exact (Int.ediv_emod_unique (a := x) (b := y) (r := r) (q := q) hp).2 ⟨by rw [h, Int.mul_comm, Int.add_comm], h0, by omega⟩
/-- The quotient and the remainder out of those of the absolute values. -/
theorem divmod_math {x y : Int} {nx ny : Bool} (hy : y ≠ 0) (hnx : nx = decide (x < 0)) (hny : ny = decide (y < 0)) :
    (nx = true ∧ 0 < x.natAbs % y.natAbs → sgnI (!(nx == ny)) (x.natAbs / y.natAbs + 1) = x / y ∧ ((y.natAbs - x.natAbs % y.natAbs : Nat) : Int) = x % y) ∧
    (¬ (nx = true ∧ 0 < x.natAbs % y.natAbs) → sgnI (!(nx == ny)) (x.natAbs / y.natAbs) = x / y ∧ ((x.natAbs % y.natAbs : Nat) : Int) = x % y) := by
  have hy0 : 0 < y.natAbs := by omega
  have hdm := Nat.div_add_mod x.natAbs y.natAbs
  have hm := Nat.mod_lt x.natAbs hy0
  generalize hq : x.natAbs / y.natAbs = q at *
  generalize hr : x.natAbs % y.natAbs = r at *
  have hmul : ((y.natAbs * q : Nat) : Int) = (y.natAbs : Int) * q := by simp
  constructor
  · rintro ⟨h1, h2⟩
    rw [h1] at hnx
    have hx : x < 0 := by simpa using hnx.symm
    have hxa : x = -((y.natAbs : Int) * q) - r := by omega
    subst h1
    have h3 := ediv_of (x := x) (y := y) (q := sgnI (!(true == ny)) (q + 1)) (r := ((y.natAbs - r : Nat) : Int)) hy ?_ (by omega) (by omega)
    · exact ⟨h3.1.symm, h3.2.symm⟩
    · by_cases hyn : y < 0
      · have e : ny = true := by rw [hny]; simpa using hyn
        subst e
        have ey : (y.natAbs : Int) = -y := by omega
        simp only [sgnI]
        rw [hxa, ey, Int.ofNat_sub (by omega), ey]
        simp
        grind
      · have e : ny = false := by rw [hny]; simpa using hyn
        subst e
        have ey : (y.natAbs : Int) = y := by omega
        simp only [sgnI]
        rw [hxa, ey, Int.ofNat_sub (by omega), ey]
        simp
        grind
  · intro h1
    by_cases hx : x < 0
    · have e1 : nx = true := by rw [hnx]; simpa using hx
      have hr0 : r = 0 := by
        rcases Nat.eq_zero_or_pos r with h | h
        · exact h
        · exact absurd ⟨e1, h⟩ h1
      have hxa : x = -((y.natAbs : Int) * q) := by omega
      subst e1
      have h3 := ediv_of (x := x) (y := y) (q := sgnI (!(true == ny)) q) (r := (r : Int)) hy ?_ (by omega) (by omega)
      · exact ⟨h3.1.symm, h3.2.symm⟩
      · by_cases hyn : y < 0
        · have e : ny = true := by rw [hny]; simpa using hyn
          subst e
          have ey : (y.natAbs : Int) = -y := by omega
          simp only [sgnI]
          rw [hxa, ey, hr0]
          simp
          grind
        · have e : ny = false := by rw [hny]; simpa using hyn
          subst e
          have ey : (y.natAbs : Int) = y := by omega
          simp only [sgnI]
          rw [hxa, ey, hr0]
          simp
          grind
    · have e1 : nx = false := by rw [hnx]; simpa using hx
      have hxa : x = (y.natAbs : Int) * q + r := by omega
      subst e1
      have h3 := ediv_of (x := x) (y := y) (q := sgnI (!(false == ny)) q) (r := (r : Int)) hy ?_ (by omega) (by omega)
      · exact ⟨h3.1.symm, h3.2.symm⟩
      · by_cases hyn : y < 0
        · have e : ny = true := by rw [hny]; simpa using hyn
          subst e
          have ey : (y.natAbs : Int) = -y := by omega
          simp only [sgnI]
          rw [hxa, ey]
          simp
          grind
        · have e : ny = false := by rw [hny]; simpa using hyn
          subst e
          have ey : (y.natAbs : Int) = y := by omega
          simp only [sgnI]
          rw [hxa, ey]
          simp
          grind
end Go.Proofs.YtndpjfhhigpbhaaGreat
