/- The reference's Bezout. (Printed by g_ref3.py.) -/
import Derived.Test.YtjgmfdenicbniaaRefA
import Derived.Test.YtjgmfdenicbniaaKitF
import Derived.Test.YtjgmfdenicbniaaLawB
namespace Go.Proofs.Ytjgmfdenicbniaa
open Go.RowKit W
theorem emod_abs (x y : Int) : x % (y.natAbs : Int) = x % y := by
  rcases Int.lt_or_le y 0 with h | h
  · rw [show (y.natAbs : Int) = -y by omega, Int.emod_neg]
  · rw [show (y.natAbs : Int) = y by omega]
/-- The rounds of the reference's Bezout. -/
def RbI (x y r nx u st : Int) : Prop := BzInv x (y.natAbs : Int) r nx u st ∧ 0 ≤ r ∧ 0 ≤ nx
theorem RbI.start {x y : Int} (hy : y ≠ 0) : RbI x y (y.natAbs : Int) (x % y) 0 1 := by
  have h := (BzInv.start x (y.natAbs : Int)).step (by omega)
  rw [emod_abs, Int.mul_zero, Int.sub_zero] at h
  exact ⟨h, by omega, Int.emod_nonneg x hy⟩
theorem RbI.step {x y r nx u st : Int} (h : RbI x y r nx u st) (hn : nx ≠ 0) : RbI x y nx (r % nx) st (u - r / nx * st) :=
  ⟨h.1.step hn, h.2.2, Int.emod_nonneg r hn⟩
theorem bez_fin {a b r u : Int} (c1 : ∃ k : Int, r = u * a + k * b) (g : Int.gcd r 0 = Int.gcd a b) (hb : b ≠ 0) (hr : 0 ≤ r) :
    0 < r ∧ b / r ≠ 0 ∧ BezIs a b r (u % (b / r)) ((r - u % (b / r) * a) / b) := by
  obtain ⟨k1, e1⟩ := c1
  have hg : r.natAbs = Int.gcd a b := by rw [← g]; simp [Int.gcd]
  have hgd : (r.natAbs : Int) ∣ b := by rw [hg]; exact Int.gcd_dvd_right ..
  have hga : (r.natAbs : Int) ∣ a := by rw [hg]; exact Int.gcd_dvd_left ..
  have hrr : (r.natAbs : Int) = r := by omega
  rw [hrr] at hgd hga
  have hr0 : 0 < r := by
    rcases Int.lt_or_le 0 r with h | h
    · exact h
    · exfalso
      obtain rfl : r = 0 := by omega
      exact hb (Int.zero_dvd.1 hgd)
  obtain ⟨per, hper⟩ := hgd
  obtain ⟨a1, ha1⟩ := hga
  have hq : b / r = per := by rw [hper]; exact Int.mul_ediv_cancel_left _ (by omega)
  have hp0 : per ≠ 0 := by rintro rfl; rw [Int.mul_zero] at hper; exact hb hper
  rw [hq]
  refine ⟨hr0, hp0, ?_⟩
  have hdm := Int.mul_ediv_add_emod u per
  have hdvd : b ∣ (r - u % per * a) := by
    refine ⟨k1 + u / per * a1, ?_⟩
    generalize u / per = t at *
    generalize u % per = m at *
    have h1 : u = per * t + m := hdm.symm
    have h2 : per * a = b * a1 := by rw [ha1, hper]; grind
    rw [e1, h1]
    grind
  have hnat : (b.natAbs : Int) / r = (per.natAbs : Int) := by
    rw [hper, Int.natAbs_mul, Int.natCast_mul, hrr]
    exact Int.mul_ediv_cancel_left _ (by omega)
  refine ⟨by rw [← hg]; exact hrr.symm, fun h => absurd h hb, fun _ => ⟨Int.emod_nonneg _ hp0, ?_⟩, ?_⟩
  · rw [hnat]; exact Int.emod_lt u hp0
  · rw [Int.ediv_mul_cancel hdvd]; omega
theorem RbI.done {x y r u : Int} (h : ∃ st, RbI x y r 0 u st) (hy : y ≠ 0) : 0 < r ∧ y / r ≠ 0 ∧ BezIs x y r (u % (y / r)) ((r - u % (y / r) * x) / y) := by
  obtain ⟨st, ⟨⟨k1, e1⟩, _, g, _⟩, h2, _⟩ := h
  refine bez_fin ?_ (by rw [g]; simp [Int.gcd]) hy h2
  rcases Int.lt_or_le y 0 with h | h
  · exact ⟨-k1, by rw [e1, show (y.natAbs : Int) = -y by omega]; grind⟩
  · exact ⟨k1, by rw [e1, show (y.natAbs : Int) = y by omega]⟩
set_option maxRecDepth 100000 in
set_option maxHeartbeats 8000000 in
theorem RBezout_z  (va : Value) (x : Int) (vb : Value) (y : Int) (w : World) (hva : IsI w va x) (hvb : IsI w vb y) (Fx : Fits x 400000000) (Fy : Fits y 400000000) :
    Calls Try.prog 36 #[va, vb] w (RetBez w x y) := by
 have E := Env.start w
 obtain ⟨nva, sva, rfl, _, _⟩ := hva.sh
 replace E := E.i hva
 clear hva
 obtain ⟨nvb, svb, rfl, _, _⟩ := hvb.sh
 replace E := E.i hvb
 clear hvb
 go_enter Try.func36, Try.ntmps36
 refine wp_seq ?_
 -- region 0
 refine RL ?_
 refine EF rfl (Oper.wp_box rfl rfl ?_)
 intro b1 w1 e1 z1 d1 x1
 have l1 : w.heap.size ≤ b1 := by rw [e1]; exact (E.2.2.1).size
 replace E := E.below d1
 clear e1 z1 d1
 replace E := E.b x1
 clear x1
 refine kw rfl ?_
 simp only [q2,q3]
 refine EF rfl (Oper.wp_box rfl rfl ?_)
 intro b2 w2 e2 z2 d2 x2
 have l2_0 : b1 < b2 := by rw [e2]; exact Bx.lt (E.1)
 replace E := E.below d2
 clear e2 z2 d2
 replace E := E.b x2
 clear x2
 refine kw rfl ?_
 simp only [q2,q3]
 refine EF rfl (Oper.wp_alloc AgI rfl ?_)
 intro b3 w3 e3 z3 d3 x3
 have l3_0 : b2 < b3 := by rw [e3]; exact Bx.lt (E.1)
 replace E := E.below d3
 clear e3 z3 d3
 refine kw rfl ?_
 simp only [q2,q3]
 refine EF rfl (Oper.wp_alloc AgI rfl ?_)
 intro b4 w4 e4 z4 d4 x4
 have l4_0 : b3 < b4 := by rw [e4]; exact Bx.lt (x3)
 replace E := E.below d4
 replace x3 := Bx.below x3 d4
 clear e4 z4 d4
 refine kw rfl ?_
 simp only [q2,q3]
 refine EF rfl (Oper.wp_alloc AgI rfl ?_)
 intro b5 w5 e5 z5 d5 x5
 have l5_0 : b4 < b5 := by rw [e5]; exact Bx.lt (x4)
 replace E := E.below d5
 replace x3 := Bx.below x3 d5
 replace x4 := Bx.below x4 d5
 clear e5 z5 d5
 refine kw rfl ?_
 simp only [q2,q3]
 refine WN ?_
 change Code.wp _ _ _ _ _
 refine wp_seq ?_
 refine wp_seq ?_
 by_cases hy : y = 0
 case pos =>
  -- region 1
  refine RL ?_
  refine V rfl rfl (run_fieldI1 rfl rfl) <| V rfl rfl (run_cell rfl isAgg_words rfl (E.1) rfl) <| ?_
  obtain ⟨ao7, cap7, hs7⟩ := IsI.slice (E.2.2.1)
  refine V (v := .int .i64 (((digs y.natAbs).length : Nat) : Int)) rfl rfl (run_len rfl hs7) <| V rfl rfl (run_eqI (c := true) rfl rfl rfl (len_eq0 hy)) <| ?_
  simp only [q2,q3]
  refine WN ?_
  change Code.wp _ _ _ _ _
  refine wp_cond_true rfl ?_
  refine wp_seq ?_
  -- region 2
  refine wp_schedE E ([0, 2, 5, 1, 3, 4, 6, 7, 8]) (by kernel_rfl) (by kernel_rfl) (by kernel_rfl) (by kernel_rfl) (by intro d v c a w h; cases d <;> exact h) ?_
  replace E := E.drew
  replace x3 := Bx.drew x3
  replace x4 := Bx.drew x4
  replace x5 := Bx.drew x5
  refine SW rfl rfl rfl rfl rfl (fun w hS => run_load_bx AgI rfl rfl (hS.2.1) rfl) <| SW rfl rfl rfl rfl rfl (fun w hS => run_load_bx AgI rfl rfl (hS.2.1) rfl) <| SW (v := .agg #[.bool false, .slice none 0 0]) rfl rfl rfl rfl rfl (fun w hS => run_buildI0 rfl) <| ?_
  replace E := E.i (zero_i _)
  simp only [q2,q3]
  refine S1a (o := ⟨some 31, _, _, _, _, _⟩) rfl rfl rfl rfl (Oper.wp_callI fn_eref01_Abs rfl (RAbs_z _ x _ (e4 E)) rfl E ?_)
  clear E
  intro w9 n9 s9 d9 E
  replace x3 := x3.below d9
  replace x4 := x4.below d9
  replace x5 := x5.below d9
  clear d9
  refine ⟨E.2.2, ?_⟩
  simp only [Act.put,q1,q2,q3]
  have F8 : Fits (x.natAbs : Int) 400000000 := Fits_abs Fx
  refine S1a (o := ⟨some 33, _, _, _, _, _⟩) rfl rfl rfl rfl (Oper.wp_callN fn_eref01_Sign rfl (RSign_z _ x _ (e5 E)) rfl E ?_)
  clear E
  intro w10 d10 E
  replace x3 := x3.below d10
  replace x4 := x4.below d10
  replace x5 := x5.below d10
  clear d10
  refine ⟨E.2.2, ?_⟩
  simp only [Act.put,q1,q2,q3]
  refine S1a (o := ⟨some 34, _, _, _, _, _⟩) rfl rfl rfl rfl (Oper.wp_callI fn_eref01_Of rfl (ROf_z (sgn x) _ (sgn_lo x) (sgn_hi x)) rfl E ?_)
  clear E
  intro w11 n11 s11 d11 E
  replace x3 := x3.below d11
  replace x4 := x4.below d11
  replace x5 := x5.below d11
  clear d11
  refine ⟨E.2.2.2, ?_⟩
  simp only [Act.put,q1,q2,q3]
  refine S1a (o := ⟨none, _, _, _, _, _⟩) rfl rfl rfl rfl (Oper.wp_store AgI rfl rfl rfl x3 rfl rfl (IsI.one (E.2.1)) ?_)
  intro w12 o12 y12
  replace E := (E.onl (x3.noW now0) ⟨trivial, trivial, trivial, okB (by omega), okB (by omega), trivial, trivial, okW (by omega), trivial⟩ o12).b y12
  replace x4 := Bx.onl x4 (by omega) o12
  replace x5 := Bx.onl x5 (by omega) o12
  clear x3 o12 y12
  refine ⟨E.2.2.2.2, ?_⟩
  simp only [Act.put]
  refine S1a (o := ⟨none, _, _, _, _, _⟩) rfl rfl rfl rfl (Oper.wp_store AgI rfl rfl rfl x4 rfl rfl (IsI.one (E.2.1)) ?_)
  intro w13 o13 y13
  replace E := (E.onl (x4.noW now0) ⟨okB (by omega), trivial, trivial, trivial, okB (by omega), okB (by omega), trivial, trivial, okW (by omega), trivial⟩ o13).b y13
  replace x5 := Bx.onl x5 (by omega) o13
  clear x4 o13 y13
  refine ⟨E.2.2.2.2.2, ?_⟩
  simp only [Act.put]
  refine S1a (o := ⟨none, _, _, _, _, _⟩) rfl rfl rfl rfl (Oper.wp_store AgI rfl rfl rfl x5 rfl rfl (IsI.one (e4 E)) ?_)
  intro w14 o14 y14
  replace E := (E.onl (x5.noW now0) ⟨okB (by omega), okB (by omega), trivial, trivial, trivial, okB (by omega), okB (by omega), trivial, trivial, okW (by omega), trivial⟩ o14).b y14
  clear x5 o14 y14
  refine ⟨E.2.2.2.2.2.2, ?_⟩
  simp only [Act.put]
  refine SN ?_
  change Code.wp _ _ _ _ _
  refine wp_ret ?_
  have r15 := res_box AgI (E.2.2.1) rfl
  have r16 := res_box AgI (E.2.1) rfl
  have r17 := res_box AgI (E.1) rfl
  exact bodyPost_ret (v := .tuple #[.agg #[.bool n9, s9], .agg #[.bool n11, s11], .agg #[.bool false, .slice none 0 0]]) (by simp [results, Try.results36, asAddr, r15, r16, r17]) rfl ⟨_, _, _, bez_zero' hy, _, _, _, rfl, e4 E, e3 E, e5 E, e10 E⟩
 case neg =>
  have Fay : Fits (y.natAbs : Int) 400000000 := Fits_abs Fy
  -- region 1
  refine RL ?_
  refine V rfl rfl (run_fieldI1 rfl rfl) <| V rfl rfl (run_cell rfl isAgg_words rfl (E.1) rfl) <| ?_
  obtain ⟨ao19, cap19, hs19⟩ := IsI.slice (E.2.2.1)
  refine V (v := .int .i64 (((digs y.natAbs).length : Nat) : Int)) rfl rfl (run_len rfl hs19) <| V rfl rfl (run_eqI (c := false) rfl rfl rfl (len_ne0 hy)) <| ?_
  simp only [q2,q3]
  refine WN ?_
  change Code.wp _ _ _ _ _
  refine wp_cond_false rfl ?_
  refine wp_skip ?_
  change Code.wp _ _ _ _ _
  refine wp_seq ?_
  -- region 3
  refine RL ?_
  refine V rfl rfl (run_load_bx AgI rfl rfl (E.1) rfl) <| ?_
  simp only [q2,q3]
  refine EF rfl (Oper.wp_callI fn_eref01_Abs rfl (RAbs_z _ y _ (E.2.2.1)) rfl E ?_)
  clear E
  intro w21 n21 s21 d21 E
  replace x3 := x3.below d21
  replace x4 := x4.below d21
  replace x5 := x5.below d21
  clear d21
  refine kw rfl ?_
  have F20 : Fits (y.natAbs : Int) 400000000 := Fits_abs Fy
  simp only [q2,q3]
  refine EF rfl (Oper.wp_alloc AgI rfl ?_)
  intro b22 w22 e22 z22 d22 x22
  have l22_0 : b5 < b22 := by rw [e22]; exact Bx.lt (x5)
  replace E := E.below d22
  replace x3 := Bx.below x3 d22
  replace x4 := Bx.below x4 d22
  replace x5 := Bx.below x5 d22
  clear e22 z22 d22
  refine kw rfl ?_
  simp only [q2,q3]
  refine EF rfl (Oper.wp_store AgI rfl rfl rfl x22 rfl rfl (IsI.one (E.1)) ?_)
  intro w23 o23 y23
  replace E := (E.onl (x22.noW now0) ⟨trivial, okB (by omega), okB (by omega), trivial, trivial, okW (by omega), trivial⟩ o23).b y23
  replace x3 := Bx.onl x3 (by omega) o23
  replace x4 := Bx.onl x4 (by omega) o23
  replace x5 := Bx.onl x5 (by omega) o23
  clear x22 o23 y23
  refine kn rfl ?_
  refine WN ?_
  change Code.wp _ _ _ _ _
  refine wp_seq ?_
  -- region 4
  refine RL ?_
  refine V rfl rfl (run_load_bx AgI rfl rfl (e3 E) rfl) <| V rfl rfl (run_load_bx AgI rfl rfl (E.2.2.1) rfl) <| ?_
  simp only [q2,q3]
  refine EF rfl (Oper.wp_callIIE fn_eref01_DivMod rfl (RDivMod_z _ x _ y _ (e5 E) (e4 E) (hy) (Fits.mono Fx (by decide)) (Fits.mono Fy (by decide))) rfl E ?_)
  clear E
  intro w26 n26 s26 m26 t26 d26 E
  replace x3 := x3.below d26
  replace x4 := x4.below d26
  replace x5 := x5.below d26
  clear d26
  refine kw rfl ?_
  have F24 : Fits (x / y) 400000000 := Fits_div (y := y) Fx
  have F25 : Fits (x % y) 400000000 := Fits_emod (x := x) hy Fy
  refine M rfl rfl rfl rfl rfl <| V rfl rfl (run_extract (vs := [.agg #[.bool n26, s26], .agg #[.bool m26, t26], .int .i64 0]) rfl rfl rfl) <| V rfl rfl (run_extract (vs := [.agg #[.bool n26, s26], .agg #[.bool m26, t26], .int .i64 0]) rfl rfl rfl) <| V rfl rfl (run_extract (vs := [.agg #[.bool n26, s26], .agg #[.bool m26, t26], .int .i64 0]) rfl rfl rfl) <| ?_
  simp only [q2,q3]
  refine EF rfl (Oper.wp_alloc AgI rfl ?_)
  intro b27 w27 e27 z27 d27 x27
  have l27_0 : b22 < b27 := by rw [e27]; exact Bx.lt (E.2.2.1)
  replace E := E.below d27
  replace x3 := Bx.below x3 d27
  replace x4 := Bx.below x4 d27
  replace x5 := Bx.below x5 d27
  clear e27 z27 d27
  refine kw rfl ?_
  simp only [q2,q3]
  refine EF rfl (Oper.wp_alloc AgI rfl ?_)
  intro b28 w28 e28 z28 d28 x28
  have l28_0 : b27 < b28 := by rw [e28]; exact Bx.lt (x27)
  replace E := E.below d28
  replace x3 := Bx.below x3 d28
  replace x4 := Bx.below x4 d28
  replace x5 := Bx.below x5 d28
  replace x27 := Bx.below x27 d28
  clear e28 z28 d28
  refine kw rfl ?_
  simp only [q2,q3]
  refine EF rfl (Oper.wp_store AgI rfl rfl rfl x27 rfl rfl (IsI.one (E.2.1)) ?_)
  intro w29 o29 y29
  replace E := (E.onl (x27.noW now0) ⟨trivial, trivial, okB (by omega), trivial, okB (by omega), okB (by omega), trivial, trivial, okW (by omega), trivial⟩ o29).b y29
  replace x3 := Bx.onl x3 (by omega) o29
  replace x4 := Bx.onl x4 (by omega) o29
  replace x5 := Bx.onl x5 (by omega) o29
  replace x28 := Bx.onl x28 (by omega) o29
  clear x27 o29 y29
  refine kn rfl ?_
  refine EF rfl (Oper.wp_store AgI rfl rfl rfl x28 rfl rfl (IsI.one (E.2.1)) ?_)
  intro w30 o30 y30
  replace E := (E.onl (x28.noW now0) ⟨okB (by omega), trivial, trivial, okB (by omega), trivial, okB (by omega), okB (by omega), trivial, trivial, okW (by omega), trivial⟩ o30).b y30
  replace x3 := Bx.onl x3 (by omega) o30
  replace x4 := Bx.onl x4 (by omega) o30
  replace x5 := Bx.onl x5 (by omega) o30
  clear x28 o30 y30
  refine kn rfl ?_
  refine A rfl rfl rfl rfl rfl <| ?_
  simp only [q2,q3]
  refine WN ?_
  change Code.wp _ _ _ _ _
  refine wp_seq ?_
  -- region 5
  refine RL ?_
  refine V (v := .agg #[.bool false, .slice none 0 0]) rfl rfl (run_buildI0 rfl) <| ?_
  replace E := E.i (zero_i _)
  simp only [q2,q3]
  refine EF rfl (Oper.wp_alloc AgI rfl ?_)
  intro b31 w31 e31 z31 d31 x31
  have l31_0 : b28 < b31 := by rw [e31]; exact Bx.lt (E.2.1)
  replace E := E.below d31
  replace x3 := Bx.below x3 d31
  replace x4 := Bx.below x4 d31
  replace x5 := Bx.below x5 d31
  clear e31 z31 d31
  refine kw rfl ?_
  simp only [q2,q3]
  refine EF rfl (Oper.wp_store AgI rfl rfl rfl x31 rfl rfl (IsI.one (E.1)) ?_)
  intro w32 o32 y32
  replace E := (E.onl (x31.noW now0) ⟨trivial, okB (by omega), okB (by omega), trivial, trivial, okB (by omega), trivial, okB (by omega), okB (by omega), trivial, trivial, okW (by omega), trivial⟩ o32).b y32
  replace x3 := Bx.onl x3 (by omega) o32
  replace x4 := Bx.onl x4 (by omega) o32
  replace x5 := Bx.onl x5 (by omega) o32
  clear x31 o32 y32
  refine kn rfl ?_
  refine WN ?_
  change Code.wp _ _ _ _ _
  refine wp_seq ?_
  -- region 6
  refine RL ?_
  refine EF rfl (Oper.wp_callI fn_eref01_Of rfl (ROf_z 1 _ (by decide) (by decide)) rfl E ?_)
  clear E
  intro w33 n33 s33 d33 E
  replace x3 := x3.below d33
  replace x4 := x4.below d33
  replace x5 := x5.below d33
  clear d33
  refine kw rfl ?_
  simp only [q2,q3]
  refine EF rfl (Oper.wp_alloc AgI rfl ?_)
  intro b34 w34 e34 z34 d34 x34
  have l34_0 : b31 < b34 := by rw [e34]; exact Bx.lt (E.2.1)
  replace E := E.below d34
  replace x3 := Bx.below x3 d34
  replace x4 := Bx.below x4 d34
  replace x5 := Bx.below x5 d34
  clear e34 z34 d34
  refine kw rfl ?_
  simp only [q2,q3]
  refine EF rfl (Oper.wp_store AgI rfl rfl rfl x34 rfl rfl (IsI.one (E.1)) ?_)
  intro w35 o35 y35
  replace E := (E.onl (x34.noW now0) ⟨trivial, okB (by omega), trivial, okB (by omega), okB (by omega), trivial, trivial, okB (by omega), trivial, okB (by omega), okB (by omega), trivial, trivial, okW (by omega), trivial⟩ o35).b y35
  replace x3 := Bx.onl x3 (by omega) o35
  replace x4 := Bx.onl x4 (by omega) o35
  replace x5 := Bx.onl x5 (by omega) o35
  clear x34 o35 y35
  refine kn rfl ?_
  refine WN ?_
  change Code.wp _ _ _ _ _
  refine wp_seq ?_
  refine wp_block ?_
  replace E := E.b x3
  clear x3
  replace E := E.b x4
  clear x4
  replace E := E.b x5
  clear x5
  refine wp_loop_ghost (fun mz a w' => ∃ (r : Int) (nx : Int) (u : Int) (st : Int) (n7 : Bool) (s7 : Value) (n8 : Bool) (s8 : Value) (n9 : Bool) (s9 : Value) (n10 : Bool) (s10 : Value) (g13 g14 g15 g16 g47 g48 g49 g50 g51 g52 g53 g54 g55 g56 g57 g58 g59 g60 g61 g62 g63 g64 g65 g66 : Value), a = ⟨#[.agg #[.bool nva, sva], .agg #[.bool nvb, svb], .pointer (some ⟨b1, 0, none⟩), .pointer (some ⟨b2, 0, none⟩), .pointer (some ⟨b3, 0, none⟩), .pointer (some ⟨b4, 0, none⟩), .pointer (some ⟨b5, 0, none⟩), .pointer (some ⟨b22, 0, none⟩), .pointer (some ⟨b27, 0, none⟩), .pointer (some ⟨b28, 0, none⟩), .int .i64 0, .pointer (some ⟨b31, 0, none⟩), .pointer (some ⟨b34, 0, none⟩), g13, g14, g15, g16, undef, undef, undef, undef, undef, undef, undef, undef, undef, .pointer (some ⟨b2, 1, none⟩), svb, .int .i64 (((digs y.natAbs).length : Nat) : Int), .bool false, undef, undef, undef, undef, undef, undef, .agg #[.bool nvb, svb], .agg #[.bool n21, s21], .tuple #[.agg #[.bool n26, s26], .agg #[.bool m26, t26], .int .i64 0], .agg #[.bool nva, sva], .agg #[.bool nvb, svb], .tuple #[.agg #[.bool n26, s26], .agg #[.bool m26, t26], .int .i64 0], .agg #[.bool n26, s26], .agg #[.bool m26, t26], .int .i64 0, .agg #[.bool false, .slice none 0 0], .agg #[.bool n33, s33], g47, g48, g49, g50, g51, g52, g53, g54, g55, g56, g57, g58, g59, g60, g61, g62, g63, g64, g65, g66, undef, undef, undef, undef, undef, undef, undef, undef, undef, undef, undef, undef, undef, undef, undef, undef, undef, undef, undef, undef, undef, undef, undef, undef, undef, undef, undef, undef], []⟩ ∧ Env w' [fB b22 n7 s7, fI (.agg #[.bool n7, s7]) r, fB b28 n8 s8, fI (.agg #[.bool n8, s8]) nx, fB b31 n9 s9, fI (.agg #[.bool n9, s9]) u, fB b34 n10 s10, fI (.agg #[.bool n10, s10]) st, fB b1 nva sva, fI (.agg #[.bool nva, sva]) x, fB b2 nvb svb, fI (.agg #[.bool nvb, svb]) y, fB b3 false (.slice none 0 0), fB b4 false (.slice none 0 0), fB b5 false (.slice none 0 0), fW w] ∧ mz = nx.natAbs ∧ RbI x y r nx u st) ((x % y).natAbs) ⟨(y.natAbs : Int), x % y, 0, 1, n21, s21, m26, t26, false, .slice none 0 0, n33, s33, _, _, _, _, _, _, _, _, _, _, _, _, _, _, _, _, _, _, _, _, _, _, _, _, rfl, (Env.b (Env.i (Env.b (Env.i (Env.b (Env.i (Env.b (Env.i (Env.b (Env.i (Env.b (Env.i (Env.b (Env.b (Env.b (Env.ww (Env.nil _) (e17 E)) (E.1)) (E.2.1)) (E.2.2.1)) (e15 E)) (e13 E)) (e16 E)) (e14 E)) (e4 E)) (e3 E)) (e6 E)) (e5 E)) (e9 E)) (e7 E)) (e12 E)) (e11 E)), rfl, RbI.start hy⟩ ?_
  rintro m36 _ w36 ⟨r, nx, u, st, n7, s7, n8, s8, n9, s9, n10, s10, g13, g14, g15, g16, g47, g48, g49, g50, g51, g52, g53, g54, g55, g56, g57, g58, g59, g60, g61, g62, g63, g64, g65, g66, rfl, E, hm36, hI36⟩
  have Fr := Fits_le2 hI36.1.hr Fx Fay
  have Fn := Fits_le2 hI36.1.hn Fx Fay
  have Fu := Fits_of3 hI36.1.hu Fay
  have Fs := Fits_of3 hI36.1.hs Fay
  by_cases hz : nx = 0
  case pos =>
   rw [hz] at hI36
   have hD := RbI.done ⟨_, hI36⟩ hy
   have hr0 : r ≠ 0 := by have := hD.1; omega
   refine wp_seq ?_
   refine wp_seq ?_
   -- region 7
   refine RL ?_
   refine V rfl rfl (run_fieldI1 rfl rfl) <| V rfl rfl (run_cell rfl isAgg_words rfl (E.2.2.1) rfl) <| ?_
   obtain ⟨ao38, cap38, hs38⟩ := IsI.slice (e3 E)
   refine V (v := .int .i64 (((digs nx.natAbs).length : Nat) : Int)) rfl rfl (run_len rfl hs38) <| V rfl rfl (run_gtI (c := false) rfl rfl rfl (len_ngt0 hz)) <| ?_
   simp only [q2,q3]
   refine WN ?_
   change Code.wp _ _ _ _ _
   refine wp_cond_false rfl ?_
   refine wp_exit ?_
   change Code.wp _ _ _ _ _
   refine wp_seq ?_
   -- region 14
   refine RL ?_
   refine V rfl rfl (run_load_bx AgI rfl rfl (e10 E) rfl) <| V rfl rfl (run_load_bx AgI rfl rfl (E.1) rfl) <| ?_
   simp only [q2,q3]
   refine EF rfl (Oper.wp_callIIE fn_eref01_DivMod rfl (RDivMod_z _ y _ r _ (e11 E) (E.2.1) (hr0) (Fits.mono Fy (by decide)) (Fits.mono Fr (by decide))) rfl E ?_)
   clear E
   intro w41 n41 s41 m41 t41 d41 E
   clear d41
   refine kw rfl ?_
   have F39 : Fits (y / r) 400000000 := Fits_div (y := r) Fy
   have F40 : Fits (y % r) 400000001 := Fits_emod (x := y) hr0 Fr
   refine M rfl rfl rfl rfl rfl <| V rfl rfl (run_extract (vs := [.agg #[.bool n41, s41], .agg #[.bool m41, t41], .int .i64 0]) rfl rfl rfl) <| V rfl rfl (run_extract (vs := [.agg #[.bool n41, s41], .agg #[.bool m41, t41], .int .i64 0]) rfl rfl rfl) <| V rfl rfl (run_extract (vs := [.agg #[.bool n41, s41], .agg #[.bool m41, t41], .int .i64 0]) rfl rfl rfl) <| ?_
   simp only [q2,q3]
   refine EF rfl (Oper.wp_alloc AgI rfl ?_)
   intro b42 w42 e42 z42 d42 x42
   have l42_0 : b34 < b42 := by rw [e42]; exact Bx.lt (e8 E)
   replace E := E.below d42
   clear e42 z42 d42
   refine kw rfl ?_
   simp only [q2,q3]
   refine EF rfl (Oper.wp_alloc AgI rfl ?_)
   intro b43 w43 e43 z43 d43 x43
   have l43_0 : b42 < b43 := by rw [e43]; exact Bx.lt (x42)
   replace E := E.below d43
   replace x42 := Bx.below x42 d43
   clear e43 z43 d43
   refine kw rfl ?_
   simp only [q2,q3]
   refine EF rfl (Oper.wp_store AgI rfl rfl rfl x42 rfl rfl (IsI.one (E.2.1)) ?_)
   intro w44 o44 y44
   replace E := (E.onl (x42.noW now0) ⟨trivial, trivial, okB (by omega), trivial, okB (by omega), trivial, okB (by omega), trivial, okB (by omega), trivial, okB (by omega), trivial, okB (by omega), trivial, okB (by omega), okB (by omega), okB (by omega), okW (by omega), trivial⟩ o44).b y44
   replace x43 := Bx.onl x43 (by omega) o44
   clear x42 o44 y44
   refine kn rfl ?_
   refine EF rfl (Oper.wp_store AgI rfl rfl rfl x43 rfl rfl (IsI.one (E.2.1)) ?_)
   intro w45 o45 y45
   replace E := (E.onl (x43.noW now0) ⟨okB (by omega), trivial, trivial, okB (by omega), trivial, okB (by omega), trivial, okB (by omega), trivial, okB (by omega), trivial, okB (by omega), trivial, okB (by omega), trivial, okB (by omega), okB (by omega), okB (by omega), okW (by omega), trivial⟩ o45).b y45
   clear x43 o45 y45
   refine kn rfl ?_
   refine A rfl rfl rfl rfl rfl <| ?_
   simp only [q2,q3]
   refine WN ?_
   change Code.wp _ _ _ _ _
   refine wp_seq ?_
   -- region 15
   refine RL ?_
   refine V rfl rfl (run_load_bx AgI rfl rfl (e8 E) rfl) <| V rfl rfl (run_load_bx AgI rfl rfl (E.2.1) rfl) <| ?_
   simp only [q2,q3]
   refine EF rfl (Oper.wp_callIIE fn_eref01_DivMod rfl (RDivMod_z _ u _ (y / r) _ (e9 E) (e3 E) (hD.2.1) (Fits.mono Fu (by decide)) (Fits.mono F39 (by decide))) rfl E ?_)
   clear E
   intro w48 n48 s48 m48 t48 d48 E
   clear d48
   refine kw rfl ?_
   have F46 : Fits (u / (y / r)) 400000001 := Fits_div (y := (y / r)) Fu
   have F47 : Fits (u % (y / r)) 400000000 := Fits_emod (x := u) hD.2.1 F39
   refine M rfl rfl rfl rfl rfl <| V rfl rfl (run_extract (vs := [.agg #[.bool n48, s48], .agg #[.bool m48, t48], .int .i64 0]) rfl rfl rfl) <| V rfl rfl (run_extract (vs := [.agg #[.bool n48, s48], .agg #[.bool m48, t48], .int .i64 0]) rfl rfl rfl) <| V rfl rfl (run_extract (vs := [.agg #[.bool n48, s48], .agg #[.bool m48, t48], .int .i64 0]) rfl rfl rfl) <| ?_
   simp only [q2,q3]
   refine EF rfl (Oper.wp_alloc AgI rfl ?_)
   intro b49 w49 e49 z49 d49 x49
   have l49_0 : b43 < b49 := by rw [e49]; exact Bx.lt (E.2.2.1)
   replace E := E.below d49
   clear e49 z49 d49
   refine kw rfl ?_
   simp only [q2,q3]
   refine EF rfl (Oper.wp_alloc AgI rfl ?_)
   intro b50 w50 e50 z50 d50 x50
   have l50_0 : b49 < b50 := by rw [e50]; exact Bx.lt (x49)
   replace E := E.below d50
   replace x49 := Bx.below x49 d50
   clear e50 z50 d50
   refine kw rfl ?_
   simp only [q2,q3]
   refine EF rfl (Oper.wp_store AgI rfl rfl rfl x49 rfl rfl (IsI.one (E.2.1)) ?_)
   intro w51 o51 y51
   replace E := (E.onl (x49.noW now0) ⟨trivial, trivial, okB (by omega), okB (by omega), trivial, trivial, okB (by omega), trivial, okB (by omega), trivial, okB (by omega), trivial, okB (by omega), trivial, okB (by omega), trivial, okB (by omega), trivial, okB (by omega), okB (by omega), okB (by omega), okW (by omega), trivial⟩ o51).b y51
   replace x50 := Bx.onl x50 (by omega) o51
   clear x49 o51 y51
   refine kn rfl ?_
   refine EF rfl (Oper.wp_store AgI rfl rfl rfl x50 rfl rfl (IsI.one (E.2.1)) ?_)
   intro w52 o52 y52
   replace E := (E.onl (x50.noW now0) ⟨okB (by omega), trivial, trivial, okB (by omega), okB (by omega), trivial, trivial, okB (by omega), trivial, okB (by omega), trivial, okB (by omega), trivial, okB (by omega), trivial, okB (by omega), trivial, okB (by omega), trivial, okB (by omega), okB (by omega), okB (by omega), okW (by omega), trivial⟩ o52).b y52
   clear x50 o52 y52
   refine kn rfl ?_
   refine A rfl rfl rfl rfl rfl <| ?_
   simp only [q2,q3]
   refine WN ?_
   change Code.wp _ _ _ _ _
   refine wp_seq ?_
   -- region 16
   have hB53_0 : b50 < w52.heap.size := Bx.lt (E.1)
   refine wp_schedF E [.op 0, .op 1, .op 2, .op 5, .av 11, .av 12, .op 3, .op 4, .op 6, .op 7, .op 8, .op 9, .op 10, .op 11, .op 12] 3 (#[true, true, true, true, true, true, true, true, true, true, true, true, true, false, false, false]) (by kernel_rfl) (by kernel_rfl) (by kernel_rfl) (by kernel_rfl) (by intro d v c a w h; cases d <;> exact h) (by intro d v c a w h; cases d <;> exact h) ?_
   refine FP (v := .agg #[.bool n7, s7]) rfl rfl rfl rfl rfl (fun w hS => run_load_bx AgI rfl rfl (e8 hS) rfl) <| FP (v := .agg #[.bool m48, t48]) rfl rfl rfl rfl rfl (fun w hS => run_load_bx AgI rfl rfl (hS.1) rfl) <| FP (v := .agg #[.bool nva, sva]) rfl rfl rfl rfl rfl (fun w hS => run_load_bx AgI rfl rfl (e16 hS) rfl) <| FP (v := .agg #[.bool nvb, svb]) rfl rfl rfl rfl rfl (fun w hS => run_load_bx AgI rfl rfl (e18 hS) rfl) <| FA _ (RunF.alloc AgI rfl rfl rfl) <| FA _ (RunF.alloc AgI rfl rfl rfl) <| ?_
   simp only [q2,q3]
   clear E
   refine FE rfl rfl rfl rfl ?_
   intro w56 E
   refine Oper.wp_callI fn_eref01_Mul rfl (RMul_z _ (u % (y / r)) _ x _ (E.2.2.1) (e17 E) (Fits.mono F47 (by decide)) (Fits.mono Fx (by decide))) rfl E ?_
   clear E
   intro w55 n55 s55 d55 E
   refine kF d55 E rfl ?_
   have F54 : Fits ((u % (y / r)) * x) 800000000 := Fits_mul F47 Fx
   simp only [q2,q3]
   clear E
   refine FE rfl rfl rfl rfl ?_
   intro w59 E
   refine Oper.wp_callI fn_eref01_Sub rfl (RSub_z _ r _ ((u % (y / r)) * x) _ (e10 E) (E.1) (Fits.mono Fr (by decide)) (Fits.mono F54 (by decide))) rfl E ?_
   clear E
   intro w58 n58 s58 d58 E
   refine kF d58 E rfl ?_
   have F57 : Fits (r - ((u % (y / r)) * x)) 800000001 := Fits_sub Fr F54 (k := 800000000) (by decide) (by decide)
   simp only [q2,q3]
   clear E
   refine FE rfl rfl rfl rfl ?_
   intro w63 E
   refine Oper.wp_callIIE fn_eref01_DivMod rfl (RDivMod_z _ (r - ((u % (y / r)) * x)) _ y _ (E.1) (e21 E) (hy) (Fits.mono F57 (by decide)) (Fits.mono Fy (by decide))) rfl E ?_
   clear E
   intro w62 n62 s62 m62 t62 d62 E
   refine kF d62 E rfl ?_
   have F60 : Fits ((r - ((u % (y / r)) * x)) / y) 800000001 := Fits_div (y := y) F57
   have F61 : Fits ((r - ((u % (y / r)) * x)) % y) 400000000 := Fits_emod (x := (r - ((u % (y / r)) * x))) hy Fy
   refine FP (v := .tuple #[.agg #[.bool n62, s62], .agg #[.bool m62, t62], .int .i64 0]) rfl rfl rfl rfl rfl (fun w hS => run_move rfl rfl) <| FP (v := .agg #[.bool n62, s62]) rfl rfl rfl rfl rfl (fun w hS => run_extract (vs := [.agg #[.bool n62, s62], .agg #[.bool m62, t62], .int .i64 0]) rfl rfl rfl) <| FP (v := .agg #[.bool m62, t62]) rfl rfl rfl rfl rfl (fun w hS => run_extract (vs := [.agg #[.bool n62, s62], .agg #[.bool m62, t62], .int .i64 0]) rfl rfl rfl) <| FP (v := .int .i64 0) rfl rfl rfl rfl rfl (fun w hS => run_extract (vs := [.agg #[.bool n62, s62], .agg #[.bool m62, t62], .int .i64 0]) rfl rfl rfl) <| ?_
   simp only [q2,q3]
   refine FF rfl rfl ?_
   intro b64 f64 u64
   have l64_0 : b50 < b64 := by omega
   simp only [q2,q3]
   refine FF rfl rfl ?_
   intro b65 f65 u65
   have l65_0 : b50 < b65 := by omega
   have v65_0 : b65 ≠ b64 := by rintro rfl; exact u65 (by simp)
   simp only [q2,q3]
   clear E
   intro w66 E
   refine H1 (i := 13) (by kernel_rfl) ?_
   have x68 := E.2.1
   replace E := (E.2.2).b (E.1)
   refine HE (o := ⟨none, _, _, _, _, _⟩) rfl rfl (Oper.wp_store AgI rfl rfl rfl x68 rfl rfl (IsI.one (E.2.2.1)) ?_)
   intro w67 o67 y67
   replace E := (E.onl (x68.noW now0) ⟨okB (by omega), trivial, trivial, trivial, trivial, okB (by omega), okB (by omega), trivial, trivial, okB (by omega), okB (by omega), trivial, trivial, okB (by omega), trivial, okB (by omega), trivial, okB (by omega), trivial, okB (by omega), trivial, okB (by omega), trivial, okB (by omega), trivial, okB (by omega), okB (by omega), okB (by omega), okW (by omega), trivial⟩ o67).b y67
   clear x68 o67 y67
   refine ⟨E.2.2.2.2.2.2, ?_⟩
   simp only [Act.put]
   refine H1 (i := 14) (by kernel_rfl) ?_
   have x70 := E.2.1
   replace E := (E.2.2).b (E.1)
   refine HE (o := ⟨none, _, _, _, _, _⟩) rfl rfl (Oper.wp_store AgI rfl rfl rfl x70 rfl rfl (IsI.one (E.2.1)) ?_)
   intro w69 o69 y69
   replace E := (E.onl (x70.noW now0) ⟨okB (by omega), trivial, trivial, trivial, trivial, okB (by omega), okB (by omega), trivial, trivial, okB (by omega), okB (by omega), trivial, trivial, okB (by omega), trivial, okB (by omega), trivial, okB (by omega), trivial, okB (by omega), trivial, okB (by omega), trivial, okB (by omega), trivial, okB (by omega), okB (by omega), okB (by omega), okW (by omega), trivial⟩ o69).b y69
   clear x70 o69 y69
   refine ⟨E.2.2.2.2.2.2, ?_⟩
   simp only [Act.put]
   refine HP (i := 15) (o := ⟨some 25, _, _, _, _, _⟩) (v := .int .i64 0) rfl (by kernel_rfl) (fun _ _ _ h => h) rfl (fun w hS => run_assign rfl rfl) (E.2.2.2.2.2.2) ?_
   simp only [Act.put,q1,q2,q3]
   refine HN (by kernel_rfl) ?_
   change Code.wp _ _ _ _ _
   refine wp_seq ?_
   -- region 17
   have x71 := e26 E
   replace E := ((((((((((((((((((((((((((E.2.2.2.2.2.2.2.2.2.2.2.2.2.2.2.2.2.2.2.2.2.2.2.2.2.2.2).i (e25 E)).b (e24 E)).i (e23 E)).b (e22 E)).i (e21 E)).b (e20 E)).i (e19 E)).b (e18 E)).i (e17 E)).b (e16 E)).i (e15 E)).b (e14 E)).i (e13 E)).i (e12 E)).b (e11 E)).b (e10 E)).i (e9 E)).i (e8 E)).b (e7 E)).b (e6 E)).i (e5 E)).i (e4 E)).i (e3 E)).i (E.2.2.1)).b (E.2.1)).b (E.1)
   have x72 := e26 E
   replace E := ((((((((((((((((((((((((((E.2.2.2.2.2.2.2.2.2.2.2.2.2.2.2.2.2.2.2.2.2.2.2.2.2.2.2).i (e25 E)).b (e24 E)).i (e23 E)).b (e22 E)).i (e21 E)).b (e20 E)).i (e19 E)).b (e18 E)).i (e17 E)).b (e16 E)).i (e15 E)).b (e14 E)).i (e13 E)).i (e12 E)).b (e11 E)).b (e10 E)).i (e9 E)).i (e8 E)).b (e7 E)).b (e6 E)).i (e5 E)).i (e4 E)).i (e3 E)).i (E.2.2.1)).b (E.2.1)).b (E.1)
   have x73 := e26 E
   replace E := ((((((((((((((((((((((((((E.2.2.2.2.2.2.2.2.2.2.2.2.2.2.2.2.2.2.2.2.2.2.2.2.2.2.2).i (e25 E)).b (e24 E)).i (e23 E)).b (e22 E)).i (e21 E)).b (e20 E)).i (e19 E)).b (e18 E)).i (e17 E)).b (e16 E)).i (e15 E)).b (e14 E)).i (e13 E)).i (e12 E)).b (e11 E)).b (e10 E)).i (e9 E)).i (e8 E)).b (e7 E)).b (e6 E)).i (e5 E)).i (e4 E)).i (e3 E)).i (E.2.2.1)).b (E.2.1)).b (E.1)
   refine wp_schedE E ([0, 1, 2, 3, 4, 5]) (by kernel_rfl) (by kernel_rfl) (by kernel_rfl) (by kernel_rfl) (by intro d v c a w h; cases d <;> exact h) ?_
   replace E := E.drew
   replace x71 := Bx.drew x71
   replace x72 := Bx.drew x72
   replace x73 := Bx.drew x73
   refine SW rfl rfl rfl rfl rfl (fun w hS => run_load_bx AgI rfl rfl (e14 hS) rfl) <| SW rfl rfl rfl rfl rfl (fun w hS => run_load_bx AgI rfl rfl (e6 hS) rfl) <| SW rfl rfl rfl rfl rfl (fun w hS => run_load_bx AgI rfl rfl (hS.2.1) rfl) <| ?_
   simp only [q2,q3]
   refine S1a (o := ⟨none, _, _, _, _, _⟩) rfl rfl rfl rfl (Oper.wp_store AgI rfl rfl rfl x71 rfl rfl (IsI.one (e15 E)) ?_)
   intro w74 o74 y74
   replace E := (E.onl (x71.noW now0) ⟨okB (by omega), okB (by omega), trivial, trivial, trivial, trivial, okB (by omega), okB (by omega), trivial, trivial, okB (by omega), okB (by omega), trivial, trivial, okB (by omega), trivial, okB (by omega), trivial, okB (by omega), trivial, okB (by omega), trivial, okB (by omega), trivial, okB (by omega), trivial, okW (by omega), trivial⟩ o74).b y74
   replace x72 := Bx.onl x72 (by omega) o74
   replace x73 := Bx.onl x73 (by omega) o74
   clear x71 o74 y74
   refine ⟨E.2, ?_⟩
   simp only [Act.put]
   refine S1a (o := ⟨none, _, _, _, _, _⟩) rfl rfl rfl rfl (Oper.wp_store AgI rfl rfl rfl x72 rfl rfl (IsI.one (e9 E)) ?_)
   intro w75 o75 y75
   replace E := (E.onl (x72.noW now0) ⟨okB (by omega), okB (by omega), okB (by omega), trivial, trivial, trivial, trivial, okB (by omega), okB (by omega), trivial, trivial, okB (by omega), okB (by omega), trivial, trivial, okB (by omega), trivial, okB (by omega), trivial, okB (by omega), trivial, okB (by omega), trivial, okB (by omega), trivial, okB (by omega), trivial, okW (by omega), trivial⟩ o75).b y75
   replace x73 := Bx.onl x73 (by omega) o75
   clear x72 o75 y75
   refine ⟨E.2.2, ?_⟩
   simp only [Act.put]
   refine S1a (o := ⟨none, _, _, _, _, _⟩) rfl rfl rfl rfl (Oper.wp_store AgI rfl rfl rfl x73 rfl rfl (IsI.one (e5 E)) ?_)
   intro w76 o76 y76
   replace E := (E.onl (x73.noW now0) ⟨okB (by omega), okB (by omega), okB (by omega), okB (by omega), trivial, trivial, trivial, trivial, okB (by omega), okB (by omega), trivial, trivial, okB (by omega), okB (by omega), trivial, trivial, okB (by omega), trivial, okB (by omega), trivial, okB (by omega), trivial, okB (by omega), trivial, okB (by omega), trivial, okB (by omega), trivial, okW (by omega), trivial⟩ o76).b y76
   clear x73 o76 y76
   refine ⟨E.2.2.2, ?_⟩
   simp only [Act.put]
   refine SN ?_
   change Code.wp _ _ _ _ _
   refine wp_ret ?_
   have r77 := res_box AgI (E.2.2.1) rfl
   have r78 := res_box AgI (E.2.1) rfl
   have r79 := res_box AgI (E.1) rfl
   exact bodyPost_ret (v := .tuple #[.agg #[.bool n7, s7], .agg #[.bool m48, t48], .agg #[.bool n62, s62]]) (by simp [results, Try.results36, asAddr, r77, r78, r79]) rfl ⟨_, _, _, hD.2.2, _, _, _, rfl, e18 E, e11 E, e6 E, e29 E⟩
  case neg =>
   have hSt := hI36.step hz
   refine wp_seq ?_
   refine wp_seq ?_
   -- region 7
   refine RL ?_
   refine V rfl rfl (run_fieldI1 rfl rfl) <| V rfl rfl (run_cell rfl isAgg_words rfl (E.2.2.1) rfl) <| ?_
   obtain ⟨ao81, cap81, hs81⟩ := IsI.slice (e3 E)
   refine V (v := .int .i64 (((digs nx.natAbs).length : Nat) : Int)) rfl rfl (run_len rfl hs81) <| V rfl rfl (run_gtI (c := true) rfl rfl rfl (len_gt0 hz)) <| ?_
   simp only [q2,q3]
   refine WN ?_
   change Code.wp _ _ _ _ _
   refine wp_cond_true rfl ?_
   refine wp_skip ?_
   change Code.wp _ _ _ _ _
   refine wp_block ?_
   refine wp_seq ?_
   -- region 8
   refine RL ?_
   refine V rfl rfl (run_load_bx AgI rfl rfl (E.1) rfl) <| V rfl rfl (run_load_bx AgI rfl rfl (E.2.2.1) rfl) <| ?_
   simp only [q2,q3]
   refine EF rfl (Oper.wp_callIIE fn_eref01_DivMod rfl (RDivMod_z _ r _ nx _ (E.2.1) (e3 E) (hz) (Fits.mono Fr (by decide)) (Fits.mono Fn (by decide))) rfl E ?_)
   clear E
   intro w84 n84 s84 m84 t84 d84 E
   clear d84
   refine kw rfl ?_
   have F82 : Fits (r / nx) 400000001 := Fits_div (y := nx) Fr
   have F83 : Fits (r % nx) 400000001 := Fits_emod (x := r) hz Fn
   refine M rfl rfl rfl rfl rfl <| V rfl rfl (run_extract (vs := [.agg #[.bool n84, s84], .agg #[.bool m84, t84], .int .i64 0]) rfl rfl rfl) <| V rfl rfl (run_extract (vs := [.agg #[.bool n84, s84], .agg #[.bool m84, t84], .int .i64 0]) rfl rfl rfl) <| V rfl rfl (run_extract (vs := [.agg #[.bool n84, s84], .agg #[.bool m84, t84], .int .i64 0]) rfl rfl rfl) <| ?_
   simp only [q2,q3]
   refine EF rfl (Oper.wp_alloc AgI rfl ?_)
   intro b85 w85 e85 z85 d85 x85
   have l85_0 : b34 < b85 := by rw [e85]; exact Bx.lt (e8 E)
   replace E := E.below d85
   clear e85 z85 d85
   refine kw rfl ?_
   simp only [q2,q3]
   refine EF rfl (Oper.wp_alloc AgI rfl ?_)
   intro b86 w86 e86 z86 d86 x86
   have l86_0 : b85 < b86 := by rw [e86]; exact Bx.lt (x85)
   replace E := E.below d86
   replace x85 := Bx.below x85 d86
   clear e86 z86 d86
   refine kw rfl ?_
   simp only [q2,q3]
   refine EF rfl (Oper.wp_store AgI rfl rfl rfl x85 rfl rfl (IsI.one (E.2.1)) ?_)
   intro w87 o87 y87
   replace E := (E.onl (x85.noW now0) ⟨trivial, trivial, okB (by omega), trivial, okB (by omega), trivial, okB (by omega), trivial, okB (by omega), trivial, okB (by omega), trivial, okB (by omega), trivial, okB (by omega), okB (by omega), okB (by omega), okW (by omega), trivial⟩ o87).b y87
   replace x86 := Bx.onl x86 (by omega) o87
   clear x85 o87 y87
   refine kn rfl ?_
   refine EF rfl (Oper.wp_store AgI rfl rfl rfl x86 rfl rfl (IsI.one (E.2.1)) ?_)
   intro w88 o88 y88
   replace E := (E.onl (x86.noW now0) ⟨okB (by omega), trivial, trivial, okB (by omega), trivial, okB (by omega), trivial, okB (by omega), trivial, okB (by omega), trivial, okB (by omega), trivial, okB (by omega), trivial, okB (by omega), okB (by omega), okB (by omega), okW (by omega), trivial⟩ o88).b y88
   clear x86 o88 y88
   refine kn rfl ?_
   refine A rfl rfl rfl rfl rfl <| ?_
   simp only [q2,q3]
   refine WN ?_
   change Code.wp _ _ _ _ _
   refine wp_seq ?_
   -- region 9
   have hB89_0 : b86 < w88.heap.size := Bx.lt (E.1)
   refine wp_schedF E [.op 0, .op 1, .op 2, .av 5, .op 3, .op 4, .op 5] 1 (#[true, true, true, true, true, true, false]) (by kernel_rfl) (by kernel_rfl) (by kernel_rfl) (by kernel_rfl) (by intro d v c a w h; cases d <;> exact h) (by intro d v c a w h; cases d <;> exact h) ?_
   refine FP (v := .agg #[.bool n9, s9]) rfl rfl rfl rfl rfl (fun w hS => run_load_bx AgI rfl rfl (e8 hS) rfl) <| FP (v := .agg #[.bool n84, s84]) rfl rfl rfl rfl rfl (fun w hS => run_load_bx AgI rfl rfl (hS.2.1) rfl) <| FP (v := .agg #[.bool n10, s10]) rfl rfl rfl rfl rfl (fun w hS => run_load_bx AgI rfl rfl (e10 hS) rfl) <| FA _ (RunF.alloc AgI rfl rfl rfl) <| ?_
   simp only [q2,q3]
   clear E
   refine FE rfl rfl rfl rfl ?_
   intro w92 E
   refine Oper.wp_callI fn_eref01_Mul rfl (RMul_z _ (r / nx) _ st _ (e3 E) (e11 E) (Fits.mono F82 (by decide)) (Fits.mono Fs (by decide))) rfl E ?_
   clear E
   intro w91 n91 s91 d91 E
   refine kF d91 E rfl ?_
   have F90 : Fits ((r / nx) * st) 800000002 := Fits_mul F82 Fs
   simp only [q2,q3]
   clear E
   refine FE rfl rfl rfl rfl ?_
   intro w95 E
   refine Oper.wp_callI fn_eref01_Sub rfl (RSub_z _ u _ ((r / nx) * st) _ (e10 E) (E.1) (Fits.mono Fu (by decide)) (Fits.mono F90 (by decide))) rfl E ?_
   clear E
   intro w94 n94 s94 d94 E
   refine kF d94 E rfl ?_
   have F93 : Fits (u - ((r / nx) * st)) 800000003 := Fits_sub Fu F90 (k := 800000002) (by decide) (by decide)
   simp only [q2,q3]
   refine FF rfl rfl ?_
   intro b96 f96 u96
   have l96_0 : b86 < b96 := by omega
   simp only [q2,q3]
   clear E
   intro w97 E
   refine H1 (i := 6) (by kernel_rfl) ?_
   have x99 := E.1
   replace E := E.2
   refine HE (o := ⟨none, _, _, _, _, _⟩) rfl rfl (Oper.wp_store AgI rfl rfl rfl x99 rfl rfl (IsI.one (E.1)) ?_)
   intro w98 o98 y98
   replace E := (E.onl (x99.noW now0) ⟨trivial, trivial, okB (by omega), okB (by omega), trivial, trivial, okB (by omega), trivial, okB (by omega), trivial, okB (by omega), trivial, okB (by omega), trivial, okB (by omega), trivial, okB (by omega), trivial, okB (by omega), okB (by omega), okB (by omega), okW (by omega), trivial⟩ o98).b y98
   clear x99 o98 y98
   refine ⟨E.2.2.2, ?_⟩
   simp only [Act.put]
   refine HN (by kernel_rfl) ?_
   change Code.wp _ _ _ _ _
   refine wp_seq ?_
   -- region 10
   refine RL ?_
   refine V rfl rfl (run_load_bx AgI rfl rfl (e9 E) rfl) <| ?_
   have x101 := e7 E
   replace E := (((((((E.2.2.2.2.2.2.2.2).i (e6 E)).i (e5 E)).b (e4 E)).b (e3 E)).i (E.2.2.1)).i (E.2.1)).b (E.1)
   simp only [q2,q3]
   refine EF rfl (Oper.wp_store AgI rfl rfl rfl x101 rfl rfl (IsI.one (e9 E)) ?_)
   intro w100 o100 y100
   replace E := (E.onl (x101.noW (IsI.now (e7 E))) ⟨okB (by omega), trivial, trivial, okB (by omega), okB (by omega), trivial, trivial, trivial, okB (by omega), trivial, okB (by omega), trivial, okB (by omega), trivial, okB (by omega), trivial, okB (by omega), trivial, okB (by omega), okB (by omega), okB (by omega), okW (by omega), trivial⟩ o100).b y100
   clear x101 o100 y100
   refine kn rfl ?_
   refine WN ?_
   change Code.wp _ _ _ _ _
   refine wp_seq ?_
   -- region 11
   refine RL ?_
   refine V rfl rfl (run_load_bx AgI rfl rfl (e4 E) rfl) <| ?_
   have x103 := e9 E
   replace E := (((((((((E.2.2.2.2.2.2.2.2.2.2).i (e8 E)).i (e7 E)).i (e6 E)).b (e5 E)).b (e4 E)).i (e3 E)).i (E.2.2.1)).b (E.2.1)).b (E.1)
   simp only [q2,q3]
   refine EF rfl (Oper.wp_store AgI rfl rfl rfl x103 rfl rfl (IsI.one (e6 E)) ?_)
   intro w102 o102 y102
   replace E := (E.onl (x103.noW (IsI.now (e9 E))) ⟨okB (by omega), okB (by omega), trivial, trivial, okB (by omega), okB (by omega), trivial, trivial, trivial, trivial, okB (by omega), trivial, okB (by omega), trivial, okB (by omega), trivial, okB (by omega), trivial, okB (by omega), okB (by omega), okB (by omega), okW (by omega), trivial⟩ o102).b y102
   clear x103 o102 y102
   refine kn rfl ?_
   refine WN ?_
   change Code.wp _ _ _ _ _
   refine wp_seq ?_
   -- region 12
   refine RL ?_
   refine V rfl rfl (run_load_bx AgI rfl rfl (e13 E) rfl) <| ?_
   have x105 := e11 E
   replace E := (((((((((((E.2.2.2.2.2.2.2.2.2.2.2.2).i (e10 E)).i (e9 E)).i (e8 E)).i (e7 E)).b (e6 E)).b (e5 E)).i (e4 E)).i (e3 E)).b (E.2.2.1)).b (E.2.1)).b (E.1)
   simp only [q2,q3]
   refine EF rfl (Oper.wp_store AgI rfl rfl rfl x105 rfl rfl (IsI.one (e13 E)) ?_)
   intro w104 o104 y104
   replace E := (E.onl (x105.noW (IsI.now (e11 E))) ⟨okB (by omega), okB (by omega), okB (by omega), trivial, trivial, okB (by omega), okB (by omega), trivial, trivial, trivial, trivial, trivial, okB (by omega), trivial, okB (by omega), trivial, okB (by omega), trivial, okB (by omega), okB (by omega), okB (by omega), okW (by omega), trivial⟩ o104).b y104
   clear x105 o104 y104
   refine kn rfl ?_
   refine WN ?_
   change Code.wp _ _ _ _ _
   -- region 13
   refine RL ?_
   refine V rfl rfl (run_load_bx AgI rfl rfl (e3 E) rfl) <| ?_
   have x107 := e13 E
   replace E := (((((((((((((E.2.2.2.2.2.2.2.2.2.2.2.2.2.2).i (e12 E)).i (e11 E)).i (e10 E)).i (e9 E)).i (e8 E)).b (e7 E)).b (e6 E)).i (e5 E)).i (e4 E)).b (e3 E)).b (E.2.2.1)).b (E.2.1)).b (E.1)
   simp only [q2,q3]
   refine EF rfl (Oper.wp_store AgI rfl rfl rfl x107 rfl rfl (IsI.one (e4 E)) ?_)
   intro w106 o106 y106
   replace E := (E.onl (x107.noW (IsI.now (e13 E))) ⟨okB (by omega), okB (by omega), okB (by omega), okB (by omega), trivial, trivial, okB (by omega), okB (by omega), trivial, trivial, trivial, trivial, trivial, trivial, okB (by omega), trivial, okB (by omega), trivial, okB (by omega), okB (by omega), okB (by omega), okW (by omega), trivial⟩ o106).b y106
   clear x107 o106 y106
   refine kn rfl ?_
   refine WN ?_
   exact ⟨_, (by rw [hm36]; exact emod_natAbs_lt hz), nx, r % nx, st, u - ((r / nx) * st), n8, s8, m84, t84, n10, s10, n94, s94, _, _, _, _, _, _, _, _, _, _, _, _, _, _, _, _, _, _, _, _, _, _, _, _, rfl, (Env.b (Env.i (Env.b (Env.i (Env.b (Env.i (Env.b (Env.i (Env.b (Env.i (Env.b (Env.i (Env.b (Env.b (Env.b (Env.ww (Env.nil _) (e22 E)) (e21 E)) (e20 E)) (e19 E)) (e18 E)) (e17 E)) (e16 E)) (e15 E)) (e5 E)) (E.1)) (e14 E)) (E.2.1)) (e9 E)) (E.2.2.1)) (e12 E)) (e3 E)), rfl, hSt⟩
end Go.Proofs.Ytjgmfdenicbniaa
