/- The functions of package integer: Root, DivMod. -/
import Derived.Test.YtjgmfdenicbniaaApi4
namespace Go.Proofs.Ytjgmfdenicbniaa
open Go.RowKit W
theorem sgnI_false (n : Nat) : sgnI false n = (n : Int) := rfl
/-- What Root leaves. -/
def RetRt (w0 : World) (k A : Nat) (e : Ending) (w' : World) : Prop := ∃ r : Nat, IsRoot r k A ∧ RetZE w0 (r : Int) 0 e w'
set_option maxHeartbeats 2000000 in
theorem Root_z (va : Value) (x : Int) (k : Nat) (w : World) (ha : IsI w va x) (hx0 : 0 ≤ x) (hk : 1 ≤ k) (hk2 : k ≤ 9223372036854775807) (hx : Fits x 1000000) :
    Calls Try.prog 27 #[va, .int .i64 k] w (RetRt w k x.natAbs) := by
  have HA := Lib.hid ha
  obtain ⟨aoa, capa, rfl, sa, ha1, ha2⟩ := ha.parts
  have SA := Lib.hid sa
  have HX := Lib.hid hx
  clear sa hx ha
  have hsg : decide (sgn x < 0) = false := by
    rcases sgn_vals x with ⟨h1, h2⟩ | ⟨h1, h2⟩ | ⟨h1, h2⟩ <;> rw [h2] <;> first | (exfalso; omega) | rfl
  obtain ⟨nx, hnx⟩ : ∃ nx, nx = decide (x < 0) := ⟨_, rfl⟩
  rw [← hnx] at HA ⊢
  clear hnx
  obtain ⟨W, hW, hsz, B0, k0, k1⟩ := boxes11 w nx (.slice aoa (digs x.natAbs).length capa)
  have c0 := k0.1
  have c1 := k0.2
  have K1 := Lib.hid k1
  have HAW := Lib.hid (HA.out.below B0)
  clear k0 k1
  have hd1 : decide ((k : Int) < 1) = false := by simp; omega
  obtain ⟨sx, hsx⟩ : ∃ sx, sx = sgn x := ⟨_, rfl⟩
  rw [← hsx] at hsg
  have HSX := Lib.hid hsx
  clear hsx
  go_enter Try.func27, Try.ntmps27
  go_upto_region 1 with fail
  rw [← hW]
  clear hW
  go_wp2_with fail
  refine (Sign_z _ x _ HAW.out).mono ?_
  rw [← HSX.out]
  rintro e w0 ⟨rfl, hb0⟩
  have d0 := cell_below c0 hb0
  have d1 := cell_below c1 hb0
  have S0 := Lib.hid (SA.out.below (B0.trans (hb0.mono B0.size)))
  go_wp2_with fail
  refine (root_sl x.natAbs _ k _ S0.out HX.out hk hk2).mono ?_
  rintro e w1 ⟨v1, r, rfl, hv1, hroot, hb1⟩
  have HR := Lib.hid hroot
  obtain ⟨z, hz⟩ : ∃ z : Int, z = (r : Int) := ⟨_, rfl⟩
  have HZ := Lib.hid hz
  clear hroot hz
  go_wp2_with fail
  refine (signed_z _ _ _ z _ hv1 (by rw [val_digs, sgnI_false, HZ.out])).mono ?_
  rintro e w2 ⟨v2, rfl, hz, hb2⟩
  obtain ⟨ao2, cap2, rfl, sl2, _, _⟩ := hz.parts
  have hrb := ((K1.out.keep hb0).keep hb1).keep hb2
  have HRB := Lib.hid hrb
  obtain ⟨⟨n0, ao0, len0, cap0, g0, g1⟩, g2, g3⟩ := hrb
  have B2 : Below w.heap.size w w2 := ((B0.trans (hb0.mono B0.size)).trans (hb1.mono (Nat.le_trans B0.size hb0.size))).trans (hb2.mono (Nat.le_trans (Nat.le_trans B0.size hb0.size) hb1.size))
  go_wp2_with fail
  refine bodyPost_ret (v := .tuple #[.agg #[.bool (decide (z < 0)), .slice ao2 (digs z.natAbs).length cap2], .int .i64 0]) ?_ rfl ⟨r, HR.out, (ret_boxE hz HRB.out B2 (by omega)).eq HZ.out rfl⟩
  simp [results, Try.results27, go_sem, g0, g1]
set_option maxHeartbeats 2000000 in
theorem Root_out (va : Value) (x k : Int) (w : World) (ha : IsI w va x) (hn : x < 0 ∨ k < 1) :
    Calls Try.prog 27 #[va, .int .i64 k] w (RetZE w 0 1) := by
  have HA := Lib.hid ha
  obtain ⟨aoa, capa, rfl, sa, ha1, ha2⟩ := ha.parts
  clear ha sa
  obtain ⟨nx, hnx⟩ : ∃ nx, nx = decide (x < 0) := ⟨_, rfl⟩
  rw [← hnx] at HA ⊢
  clear hnx
  obtain ⟨W, hW, hsz, B0, k0, k1⟩ := boxes11 w nx (.slice aoa (digs x.natAbs).length capa)
  have c0 := k0.1
  have c1 := k0.2
  have K1 := Lib.hid k1
  have HAW := Lib.hid (HA.out.below B0)
  clear k0 k1
  obtain ⟨sx, hsx⟩ : ∃ sx, sx = sgn x := ⟨_, rfl⟩
  have HSX := Lib.hid hsx
  by_cases hsg : sx < 0
  · have hsg' : decide (sx < 0) = true := by simpa using hsg
    clear hsx hn
    go_enter Try.func27, Try.ntmps27
    go_upto_region 1 with fail
    rw [← hW]
    clear hW
    go_wp2_with fail
    refine (Sign_z _ x _ HAW.out).mono ?_
    rw [← HSX.out]
    rintro e w0 ⟨rfl, hb0⟩
    have hrb := K1.out.keep hb0
    have HRB := Lib.hid hrb
    obtain ⟨⟨n0, ao0, len0, cap0, g0, g1⟩, g2, g3⟩ := hrb
    go_wp2_with fail
    refine bodyPost_ret (v := .tuple #[.agg #[.bool false, .slice none 0 0], .int .i64 1]) ?_ rfl (ret_boxE (zero_i w0) HRB.out (B0.trans (hb0.mono B0.size)) (by omega))
    simp [results, Try.results27, go_sem, g0, g1]
  · have hsg' : decide (sx < 0) = false := by simpa using hsg
    have hk : k < 1 := by
      rcases hn with h | h
      · rw [hsx] at hsg
        rcases sgn_vals x with ⟨h1, h2⟩ | ⟨h1, h2⟩ | ⟨h1, h2⟩ <;> omega
      · exact h
    have hd1 : decide (k < 1) = true := by simpa using hk
    clear hsx hn
    go_enter Try.func27, Try.ntmps27
    go_upto_region 1 with fail
    rw [← hW]
    clear hW
    go_wp2_with fail
    refine (Sign_z _ x _ HAW.out).mono ?_
    rw [← HSX.out]
    rintro e w0 ⟨rfl, hb0⟩
    have hrb := K1.out.keep hb0
    have HRB := Lib.hid hrb
    obtain ⟨⟨n0, ao0, len0, cap0, g0, g1⟩, g2, g3⟩ := hrb
    go_wp2_with fail
    refine bodyPost_ret (v := .tuple #[.agg #[.bool false, .slice none 0 0], .int .i64 1]) ?_ rfl (ret_boxE (zero_i w0) HRB.out (B0.trans (hb0.mono B0.size)) (by omega))
    simp [results, Try.results27, go_sem, g0, g1]
/-! ### DivMod -/
theorem ediv_of {x y q r : Int} (hy : y ≠ 0) (h : x = q * y + r) (h0 : 0 ≤ r) (h1 : r < y.natAbs) : x / y = q ∧ x % y = r := by
  rcases Int.lt_or_gt_of_ne hy with hn | hp
  · have e := (Int.ediv_emod_unique (a := x) (b := -y) (r := r) (q := -q) (by omega)).2 ⟨by rw [h, Int.neg_mul_neg, Int.mul_comm, Int.add_comm], h0, by omega⟩
    rw [Int.ediv_neg, Int.emod_neg] at e
    exact ⟨by omega, e.2⟩
  · exact (Int.ediv_emod_unique (a := x) (b := y) (r := r) (q := q) hp).2 ⟨by rw [h, Int.mul_comm, Int.add_comm], h0, by omega⟩
/-- The quotient and the remainder out of those of the absolute values. -/
theorem divmod_math {x y : Int} {nx ny : Bool} (hy : y ≠ 0) (hnx : nx = decide (x < 0)) (hny : ny = decide (y < 0)) :
    (nx = true ∧ 0 < x.natAbs % y.natAbs → sgnI (!(nx == ny)) (x.natAbs / y.natAbs + 1) = x / y ∧ ((y.natAbs - x.natAbs % y.natAbs : Nat) : Int) = x % y) ∧
    (¬ (nx = true ∧ 0 < x.natAbs % y.natAbs) → sgnI (!(nx == ny)) (x.natAbs / y.natAbs) = x / y ∧ ((x.natAbs % y.natAbs : Nat) : Int) = x % y) := by
  have hy0 : 0 < y.natAbs := by omega
  have hdm := Nat.div_add_mod x.natAbs y.natAbs
  have hm := Nat.mod_lt x.natAbs hy0
  generalize hq : x.natAbs / y.natAbs = q at *
  generalize hr : x.natAbs % y.natAbs = r at *
  have hmul : ((y.natAbs * q : Nat) : Int) = (y.natAbs : Int) * q := by simp
  constructor
  · rintro ⟨h1, h2⟩
    rw [h1] at hnx
    have hx : x < 0 := by simpa using hnx.symm
    have hxa : x = -((y.natAbs : Int) * q) - r := by omega
    subst h1
    have h3 := ediv_of (x := x) (y := y) (q := sgnI (!(true == ny)) (q + 1)) (r := ((y.natAbs - r : Nat) : Int)) hy ?_ (by omega) (by omega)
    · exact ⟨h3.1.symm, h3.2.symm⟩
    · by_cases hyn : y < 0
      · have e : ny = true := by rw [hny]; simpa using hyn
        subst e
        have ey : (y.natAbs : Int) = -y := by omega
        simp only [sgnI]
        rw [hxa, ey, Int.ofNat_sub (by omega), ey]
        simp
        grind
      · have e : ny = false := by rw [hny]; simpa using hyn
        subst e
        have ey : (y.natAbs : Int) = y := by omega
        simp only [sgnI]
        rw [hxa, ey, Int.ofNat_sub (by omega), ey]
        simp
        grind
  · intro h1
    by_cases hx : x < 0
    · have e1 : nx = true := by rw [hnx]; simpa using hx
      have hr0 : r = 0 := by
        rcases Nat.eq_zero_or_pos r with h | h
        · exact h
        · exact absurd ⟨e1, h⟩ h1
      have hxa : x = -((y.natAbs : Int) * q) := by omega
      subst e1
      have h3 := ediv_of (x := x) (y := y) (q := sgnI (!(true == ny)) q) (r := (r : Int)) hy ?_ (by omega) (by omega)
      · exact ⟨h3.1.symm, h3.2.symm⟩
      · by_cases hyn : y < 0
        · have e : ny = true := by rw [hny]; simpa using hyn
          subst e
          have ey : (y.natAbs : Int) = -y := by omega
          simp only [sgnI]
          rw [hxa, ey, hr0]
          simp
          grind
        · have e : ny = false := by rw [hny]; simpa using hyn
          subst e
          have ey : (y.natAbs : Int) = y := by omega
          simp only [sgnI]
          rw [hxa, ey, hr0]
          simp
          grind
    · have e1 : nx = false := by rw [hnx]; simpa using hx
      have hxa : x = (y.natAbs : Int) * q + r := by omega
      subst e1
      have h3 := ediv_of (x := x) (y := y) (q := sgnI (!(false == ny)) q) (r := (r : Int)) hy ?_ (by omega) (by omega)
      · exact ⟨h3.1.symm, h3.2.symm⟩
      · by_cases hyn : y < 0
        · have e : ny = true := by rw [hny]; simpa using hyn
          subst e
          have ey : (y.natAbs : Int) = -y := by omega
          simp only [sgnI]
          rw [hxa, ey]
          simp
          grind
        · have e : ny = false := by rw [hny]; simpa using hyn
          subst e
          have ey : (y.natAbs : Int) = y := by omega
          simp only [sgnI]
          rw [hxa, ey]
          simp
          grind
end Go.Proofs.Ytjgmfdenicbniaa
