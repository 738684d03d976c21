/- Walk: the law IntegerOrder. (Printed by g_order.py.) -/
import Derived.Test.YtjgmfdenicbniaaLawC
namespace Go.Proofs.Ytjgmfdenicbniaa
open Go.RowKit W
theorem cmpI_vals (x y : Int) : (x < y ∧ cmpI x y = -1) ∨ (x = y ∧ cmpI x y = 0) ∨ (y < x ∧ cmpI x y = 1) := by
  rcases Int.lt_trichotomy x y with h | h | h
  · exact .inl ⟨h, cmpI_lt h⟩
  · exact .inr (.inl ⟨h, cmpI_eq h⟩)
  · exact .inr (.inr ⟨h, cmpI_gt h⟩)
theorem cmpI_lo (x y : Int) : -1 ≤ cmpI x y := by have := cmpI_vals x y; omega
theorem cmpI_hi (x y : Int) : cmpI x y ≤ 1 := by have := cmpI_vals x y; omega
theorem cmpN_lo (x y : Int) : -1 ≤ -cmpI x y := by have := cmpI_vals x y; omega
theorem cmpN_hi (x y : Int) : -cmpI x y ≤ 1 := by have := cmpI_vals x y; omega
theorem cmpI_lt0 (x y : Int) : cmpI x y < 0 ↔ x < y := by have := cmpI_vals x y; omega
theorem cmpI_le0 (x y : Int) : cmpI x y ≤ 0 ↔ x ≤ y := by have := cmpI_vals x y; omega
theorem cmpI_swap (x y : Int) : cmpI y x = -cmpI x y := by have := cmpI_vals x y; have := cmpI_vals y x; omega
theorem cmpI_nn (x y : Int) : cmpI (-x) (-y) = -cmpI x y := by have := cmpI_vals x y; have := cmpI_vals (-x) (-y); omega
theorem sgn_sub (x y : Int) : sgn (x - y) = cmpI x y := by have := cmpI_vals x y; have := cmpI_vals (x - y) 0; unfold sgn; omega
theorem cmpI_addr (x y z : Int) : cmpI (x + z) (y + z) = cmpI x y := by have := cmpI_vals x y; have := cmpI_vals (x + z) (y + z); omega
theorem cmpI_mulr (x y z : Int) : cmpI (x * z) (y * z) = cmpI x y * sgn z := by
  have h3 := cmpI_vals (x * z) (y * z)
  unfold sgn
  rcases cmpI_vals z 0 with ⟨h, e⟩ | ⟨h, e⟩ | ⟨h, e⟩ <;> rw [e]
  · rcases cmpI_vals x y with ⟨g, f⟩ | ⟨g, f⟩ | ⟨g, f⟩ <;> rw [f]
    · have := Int.mul_lt_mul_of_neg_right g h; omega
    · subst g; omega
    · have := Int.mul_lt_mul_of_neg_right g h; omega
  · subst h; simp only [Int.mul_zero] at *; omega
  · rcases cmpI_vals x y with ⟨g, f⟩ | ⟨g, f⟩ | ⟨g, f⟩ <;> rw [f]
    · have := Int.mul_lt_mul_of_pos_right g h; omega
    · subst g; omega
    · have := Int.mul_lt_mul_of_pos_right g h; omega
theorem cmpM_lo (x y z : Int) : -1 ≤ cmpI x y * sgn z := by rw [← cmpI_mulr]; exact cmpI_lo _ _
theorem cmpM_hi (x y z : Int) : cmpI x y * sgn z ≤ 1 := by rw [← cmpI_mulr]; exact cmpI_hi _ _
theorem wrap_sm {z : Int} (h : -1 ≤ z) (h2 : z ≤ 1) : IntKind.i64.wrap z = z := by simp only [IntKind.wrap_i64]; omega
theorem bne_f {m n : Int} (h : m = n) : (m != n) = false := by subst h; simp
theorem beq_t {m n : Int} (h : m = n) : (m == n) = true := by subst h; simp
set_option maxRecDepth 100000 in
set_option maxHeartbeats 8000000 in
theorem order_t  (na : Bool) (sa : Value) (la : List Nat) (nb : Bool) (sb : Value) (lb : List Nat) (nc : Bool) (sc : Value) (lc : List Nat)  (w : World)  (hsa : Sl w sa la) (hsb : Sl w sb lb) (hsc : Sl w sc lc) :
    Calls Try.prog 5 #[.agg #[.bool na, sa], .agg #[.bool nb, sb], .agg #[.bool nc, sc]] w (RetB w true) := by
 have E := Env.start w
 obtain ⟨a, ha⟩ : ∃ z, mkI na la 8 = z := ⟨_, rfl⟩
 have Fa : Fits a 8 := by rw [← ha]; exact mkI_fits hsa.wd
 obtain ⟨b, hb⟩ : ∃ z, mkI nb lb 8 = z := ⟨_, rfl⟩
 have Fb : Fits b 8 := by rw [← hb]; exact mkI_fits hsb.wd
 obtain ⟨c, hc⟩ : ∃ z, mkI nc lc 8 = z := ⟨_, rfl⟩
 have Fc : Fits c 8 := by rw [← hc]; exact mkI_fits hsc.wd
 go_enter Try.func5, Try.ntmps5
 refine wp_seq ?_
 -- region 0
 refine wp_region_lit ?_
 refine L1 rfl (Oper.wp_box (cs := [.bool na, sa]) rfl rfl ?_)
 intro b1 w1 e1 z1 d1 x1
 have l1 : w.heap.size ≤ b1 := by rw [e1]; exact (E.1).size
 replace E := E.below d1
 clear e1 z1 d1
 replace E := E.x x1
 clear x1
 simp only [Act.put,q1,q2,q3]
 refine L1 rfl (Oper.wp_box (cs := [.bool nb, sb]) rfl rfl ?_)
 intro b2 w2 e2 z2 d2 x2
 have l2_0 : b1 < b2 := by rw [e2]; exact Bx.lt (E.1)
 replace E := E.below d2
 clear e2 z2 d2
 replace E := E.x x2
 clear x2
 simp only [Act.put,q1,q2,q3]
 refine L1 rfl (Oper.wp_box (cs := [.bool nc, sc]) rfl rfl ?_)
 intro b3 w3 e3 z3 d3 x3
 have l3_0 : b2 < b3 := by rw [e3]; exact Bx.lt (E.1)
 replace E := E.below d3
 clear e3 z3 d3
 replace E := E.x x3
 clear x3
 simp only [Act.put,q1,q2,q3]
 refine LV (v := .bool false) rfl (run_assign rfl rfl) ?_
 simp only [Act.put,q1,q2,q3]
 refine wpList_nil ?_
 change Code.wp _ _ _ _ _
 refine wp_seq ?_
 -- region 1
 refine wp_region_lit ?_
 refine L1 rfl (Oper.wp_callB fn_elaw01_sanity rfl (sanity_t _) rfl E ?_)
 clear E
 intro w4 d4 E
 clear d4
 simp only [Act.put,q1,q2,q3]
 refine LV (v := .bool true) rfl (run_assign rfl rfl) ?_
 simp only [Act.put,q1,q2,q3]
 refine wpList_nil ?_
 change Code.wp _ _ _ _ _
 refine wp_seq ?_
 refine wp_seq ?_
 -- region 2
 refine wp_region_lit ?_
 refine LV (v := .bool true) rfl (run_move rfl rfl) ?_
 simp only [Act.put,q1,q2,q3]
 refine LV (v := .bool false) rfl (run_not (b := true) rfl rfl) ?_
 simp only [Act.put,q1,q2,q3]
 refine wpList_nil ?_
 change Code.wp _ _ _ _ _
 refine wp_cond_false rfl ?_
 refine wp_skip ?_
 change Code.wp _ _ _ _ _
 refine wp_seq ?_
 -- region 4
 refine wp_region_lit ?_
 refine LV (v := .agg #[.bool na, sa]) rfl (run_load_bx AgRaw rfl rfl (E.2.2.1) rfl) ?_
 simp only [Act.put,q1,q2,q3]
 refine L1 rfl (Oper.wp_callI fn_eref01_Made rfl (Made_is na sa la 8 _ (Sl.below hsa (E.2.2.2.1)) (by decide) ha) rfl E ?_)
 clear E
 intro w5 n5 s5 d5 E
 clear d5
 simp only [Act.put,q1,q2,q3]
 refine L1 rfl (Oper.wp_alloc AgI rfl ?_)
 intro b6 w6 e6 z6 d6 x6
 have l6_0 : b3 < b6 := by rw [e6]; exact Bx.lt (E.2.1)
 replace E := E.below d6
 clear e6 z6 d6
 simp only [Act.put,q1,q2,q3]
 refine L1 rfl (Oper.wp_store AgI rfl rfl rfl x6 rfl rfl (IsI.one (E.1)) ?_)
 intro w7 o7 y7
 replace E := (E.onl (x6.noW now0) ⟨trivial, okX (by omega), okX (by omega), okX (by omega), okW (by omega), trivial⟩ o7).b y7
 clear x6 o7 y7
 simp only [Act.put]
 refine wpList_nil ?_
 change Code.wp _ _ _ _ _
 refine wp_seq ?_
 -- region 5
 refine wp_region_lit ?_
 refine LV (v := .agg #[.bool nb, sb]) rfl (run_load_bx AgRaw rfl rfl (E.2.2.2.1) rfl) ?_
 simp only [Act.put,q1,q2,q3]
 refine L1 rfl (Oper.wp_callI fn_eref01_Made rfl (Made_is nb sb lb 8 _ (Sl.below hsb (E.2.2.2.2.2.1)) (by decide) hb) rfl E ?_)
 clear E
 intro w8 n8 s8 d8 E
 clear d8
 simp only [Act.put,q1,q2,q3]
 refine L1 rfl (Oper.wp_alloc AgI rfl ?_)
 intro b9 w9 e9 z9 d9 x9
 have l9_0 : b6 < b9 := by rw [e9]; exact Bx.lt (E.2.1)
 replace E := E.below d9
 clear e9 z9 d9
 simp only [Act.put,q1,q2,q3]
 refine L1 rfl (Oper.wp_store AgI rfl rfl rfl x9 rfl rfl (IsI.one (E.1)) ?_)
 intro w10 o10 y10
 replace E := (E.onl (x9.noW now0) ⟨trivial, okB (by omega), trivial, okX (by omega), okX (by omega), okX (by omega), okW (by omega), trivial⟩ o10).b y10
 clear x9 o10 y10
 simp only [Act.put]
 refine wpList_nil ?_
 change Code.wp _ _ _ _ _
 refine wp_seq ?_
 -- region 6
 refine wp_region_lit ?_
 refine LV (v := .agg #[.bool nc, sc]) rfl (run_load_bx AgRaw rfl rfl (E.2.2.2.2.1) rfl) ?_
 simp only [Act.put,q1,q2,q3]
 refine L1 rfl (Oper.wp_callI fn_eref01_Made rfl (Made_is nc sc lc 8 _ (Sl.below hsc (E.2.2.2.2.2.2.2.1)) (by decide) hc) rfl E ?_)
 clear E
 intro w11 n11 s11 d11 E
 clear d11
 simp only [Act.put,q1,q2,q3]
 refine L1 rfl (Oper.wp_alloc AgI rfl ?_)
 intro b12 w12 e12 z12 d12 x12
 have l12_0 : b9 < b12 := by rw [e12]; exact Bx.lt (E.2.1)
 replace E := E.below d12
 clear e12 z12 d12
 simp only [Act.put,q1,q2,q3]
 refine L1 rfl (Oper.wp_store AgI rfl rfl rfl x12 rfl rfl (IsI.one (E.1)) ?_)
 intro w13 o13 y13
 replace E := (E.onl (x12.noW now0) ⟨trivial, okB (by omega), trivial, okB (by omega), trivial, okX (by omega), okX (by omega), okX (by omega), okW (by omega), trivial⟩ o13).b y13
 clear x12 o13 y13
 simp only [Act.put]
 refine wpList_nil ?_
 change Code.wp _ _ _ _ _
 refine wp_seq ?_
 -- region 7
 refine wp_region_lit ?_
 refine LV (v := .agg #[.bool n5, s5]) rfl (run_load_bx AgI rfl rfl (E.2.2.2.2.1) rfl) ?_
 simp only [Act.put,q1,q2,q3]
 refine LV (v := .agg #[.bool n8, s8]) rfl (run_load_bx AgI rfl rfl (E.2.2.1) rfl) ?_
 simp only [Act.put,q1,q2,q3]
 refine L1 rfl (Oper.wp_callN fn_integer_Cmp rfl (Cmp_z _ _ a b _ (E.2.2.2.2.2.1) (E.2.2.2.1)) rfl E ?_)
 clear E
 intro w14 d14 E
 clear d14
 simp only [Act.put,q1,q2,q3]
 refine LV (v := .int .i64 (cmpI a b)) rfl (run_assign rfl rfl) ?_
 simp only [Act.put,q1,q2,q3]
 refine wpList_nil ?_
 change Code.wp _ _ _ _ _
 refine wp_seq ?_
 refine wp_seq ?_
 -- region 8
 refine wp_schedE E ([0, 1, 2, 3, 4, 5, 6, 7, 8, 10, 11, 9, 12, 13, 14, 15, 17, 20, 21, 16, 18, 19, 22, 23, 24, 25, 26, 29, 27, 28, 30, 31]) (by kernel_rfl) (by kernel_rfl) (by kernel_rfl) (by kernel_rfl) (by intro d v c a w h; cases d <;> exact h) ?_
 replace E := E.drew
 refine SP (o := ⟨some 24, _, _, _, _, _⟩) (v := .int .i64 (cmpI a b)) rfl rfl rfl rfl (fun w hS => run_move rfl rfl) ?_
 simp only [Act.put,q1,q2,q3]
 refine SP (o := ⟨some 25, _, _, _, _, _⟩) (v := .bool false) rfl rfl rfl rfl (fun w hS => run_ltI (c := false) rfl rfl rfl (decide_eq_false (Int.not_lt.mpr (cmpI_lo a b)))) ?_
 simp only [Act.put,q1,q2,q3]
 refine SP (o := ⟨some 26, _, _, _, _, _⟩) (v := .bool false) rfl rfl rfl rfl (fun w hS => run_move rfl rfl) ?_
 simp only [Act.put,q1,q2,q3]
 refine SP (o := ⟨some 27, _, _, _, _, _⟩) (v := .int .i64 (cmpI a b)) rfl rfl rfl rfl (fun w hS => run_move rfl rfl) ?_
 simp only [Act.put,q1,q2,q3]
 refine SP (o := ⟨some 28, _, _, _, _, _⟩) (v := .bool false) rfl rfl rfl rfl (fun w hS => run_gtI (c := false) rfl rfl rfl (decide_eq_false (Int.not_lt.mpr (cmpI_hi a b)))) ?_
 simp only [Act.put,q1,q2,q3]
 refine SP (o := ⟨some 29, _, _, _, _, _⟩) (v := .bool false) rfl rfl rfl rfl (fun w hS => run_pick (b := false) rfl rfl rfl) ?_
 simp only [Act.put,q1,q2,q3]
 refine SP (o := ⟨some 30, _, _, _, _, _⟩) (v := .bool false) rfl rfl rfl rfl (fun w hS => run_move rfl rfl) ?_
 simp only [Act.put,q1,q2,q3]
 refine SP (o := ⟨some 31, _, _, _, _, _⟩) (v := .agg #[.bool n8, s8]) rfl rfl rfl rfl (fun w hS => run_load_bx AgI rfl rfl (hS.2.2.1) rfl) ?_
 simp only [Act.put,q1,q2,q3]
 refine SP (o := ⟨some 32, _, _, _, _, _⟩) (v := .agg #[.bool n5, s5]) rfl rfl rfl rfl (fun w hS => run_load_bx AgI rfl rfl (hS.2.2.2.2.1) rfl) ?_
 simp only [Act.put,q1,q2,q3]
 refine SP (o := ⟨some 34, _, _, _, _, _⟩) (v := .int .i64 (cmpI a b)) rfl rfl rfl rfl (fun w hS => run_move rfl rfl) ?_
 simp only [Act.put,q1,q2,q3]
 refine SP (o := ⟨some 35, _, _, _, _, _⟩) (v := .int .i64 (-(cmpI a b))) rfl rfl rfl rfl (fun w hS => run_negI rfl rfl (wrap_sm (cmpN_lo _ _) (cmpN_hi _ _))) ?_
 simp only [Act.put,q1,q2,q3]
 refine S1a (o := ⟨some 33, _, _, _, _, _⟩) rfl rfl rfl rfl (Oper.wp_callN fn_integer_Cmp rfl (Cmp_z _ _ b a _ (E.2.2.2.1) (E.2.2.2.2.2.1)) rfl E ?_)
 clear E
 intro w15 d15 E
 clear d15
 refine ⟨E, ?_⟩
 simp only [Act.put,q1,q2,q3]
 refine SP (o := ⟨some 36, _, _, _, _, _⟩) (v := .bool false) rfl rfl rfl rfl (fun w hS => run_neI (c := false) rfl rfl rfl (bne_f (cmpI_swap a b))) ?_
 simp only [Act.put,q1,q2,q3]
 refine SP (o := ⟨some 37, _, _, _, _, _⟩) (v := .bool false) rfl rfl rfl rfl (fun w hS => run_pick (b := false) rfl rfl rfl) ?_
 simp only [Act.put,q1,q2,q3]
 refine SP (o := ⟨some 38, _, _, _, _, _⟩) (v := .bool false) rfl rfl rfl rfl (fun w hS => run_move rfl rfl) ?_
 simp only [Act.put,q1,q2,q3]
 refine SP (o := ⟨some 39, _, _, _, _, _⟩) (v := .agg #[.bool n5, s5]) rfl rfl rfl rfl (fun w hS => run_load_bx AgI rfl rfl (hS.2.2.2.2.1) rfl) ?_
 simp only [Act.put,q1,q2,q3]
 refine SP (o := ⟨some 41, _, _, _, _, _⟩) (v := .agg #[.bool n8, s8]) rfl rfl rfl rfl (fun w hS => run_load_bx AgI rfl rfl (hS.2.2.1) rfl) ?_
 simp only [Act.put,q1,q2,q3]
 refine SP (o := ⟨some 44, _, _, _, _, _⟩) (v := .int .i64 (cmpI a b)) rfl rfl rfl rfl (fun w hS => run_move rfl rfl) ?_
 simp only [Act.put,q1,q2,q3]
 refine SP (o := ⟨some 45, _, _, _, _, _⟩) (v := .int .i64 (-(cmpI a b))) rfl rfl rfl rfl (fun w hS => run_negI rfl rfl (wrap_sm (cmpN_lo _ _) (cmpN_hi _ _))) ?_
 simp only [Act.put,q1,q2,q3]
 refine S1a (o := ⟨some 40, _, _, _, _, _⟩) rfl rfl rfl rfl (Oper.wp_callI fn_integer_Neg rfl (Neg_z _ a _ (E.2.2.2.2.2.1) (Fits.mono Fa (by decide))) rfl E ?_)
 clear E
 intro w17 n17 s17 d17 E
 clear d17
 refine ⟨E.2, ?_⟩
 simp only [Act.put,q1,q2,q3]
 have F16 : Fits (-a) 8 := Fits_neg Fa
 refine S1a (o := ⟨some 42, _, _, _, _, _⟩) rfl rfl rfl rfl (Oper.wp_callI fn_integer_Neg rfl (Neg_z _ b _ (E.2.2.2.2.1) (Fits.mono Fb (by decide))) rfl E ?_)
 clear E
 intro w19 n19 s19 d19 E
 clear d19
 refine ⟨E.2.2, ?_⟩
 simp only [Act.put,q1,q2,q3]
 have F18 : Fits (-b) 8 := Fits_neg Fb
 refine S1a (o := ⟨some 43, _, _, _, _, _⟩) rfl rfl rfl rfl (Oper.wp_callN fn_integer_Cmp rfl (Cmp_z _ _ (-a) (-b) _ (E.2.1) (E.1)) rfl E ?_)
 clear E
 intro w20 d20 E
 clear d20
 refine ⟨E.2.2, ?_⟩
 simp only [Act.put,q1,q2,q3]
 refine SP (o := ⟨some 46, _, _, _, _, _⟩) (v := .bool false) rfl rfl rfl rfl (fun w hS => run_neI (c := false) rfl rfl rfl (bne_f (cmpI_nn a b))) ?_
 simp only [Act.put,q1,q2,q3]
 refine SP (o := ⟨some 47, _, _, _, _, _⟩) (v := .bool false) rfl rfl rfl rfl (fun w hS => run_pick (b := false) rfl rfl rfl) ?_
 simp only [Act.put,q1,q2,q3]
 refine SP (o := ⟨some 48, _, _, _, _, _⟩) (v := .bool false) rfl rfl rfl rfl (fun w hS => run_move rfl rfl) ?_
 simp only [Act.put,q1,q2,q3]
 refine SP (o := ⟨some 49, _, _, _, _, _⟩) (v := .agg #[.bool n5, s5]) rfl rfl rfl rfl (fun w hS => run_load_bx AgI rfl rfl (hS.2.2.2.2.1) rfl) ?_
 simp only [Act.put,q1,q2,q3]
 refine SP (o := ⟨some 50, _, _, _, _, _⟩) (v := .agg #[.bool n8, s8]) rfl rfl rfl rfl (fun w hS => run_load_bx AgI rfl rfl (hS.2.2.1) rfl) ?_
 simp only [Act.put,q1,q2,q3]
 refine SP (o := ⟨some 53, _, _, _, _, _⟩) (v := .int .i64 (cmpI a b)) rfl rfl rfl rfl (fun w hS => run_move rfl rfl) ?_
 simp only [Act.put,q1,q2,q3]
 refine S1a (o := ⟨some 51, _, _, _, _, _⟩) rfl rfl rfl rfl (Oper.wp_callI fn_integer_Sub rfl (Sub_z _ _ a b _ (E.2.2.2.2.2.2.2.1) (E.2.2.2.2.2.1) (Fits.mono Fa (by decide)) (Fits.mono Fb (by decide))) rfl E ?_)
 clear E
 intro w22 n22 s22 d22 E
 clear d22
 refine ⟨E.2.2.2, ?_⟩
 simp only [Act.put,q1,q2,q3]
 have F21 : Fits (a - b) 9 := Fits_sub Fa Fb (k := 8) (by decide) (by decide)
 refine S1a (o := ⟨some 52, _, _, _, _, _⟩) rfl rfl rfl rfl (Oper.wp_callN fn_integer_Sign rfl (Sign_z _ (a - b) _ (E.1)) rfl E ?_)
 clear E
 intro w23 d23 E
 clear d23
 refine ⟨E.2.2.2, ?_⟩
 simp only [Act.put,q1,q2,q3]
 refine SP (o := ⟨some 54, _, _, _, _, _⟩) (v := .bool false) rfl rfl rfl rfl (fun w hS => run_neI (c := false) rfl rfl rfl (bne_f (sgn_sub a b))) ?_
 simp only [Act.put,q1,q2,q3]
 refine SP (o := ⟨some 55, _, _, _, _, _⟩) (v := .bool false) rfl rfl rfl rfl (fun w hS => run_pick (b := false) rfl rfl rfl) ?_
 simp only [Act.put,q1,q2,q3]
 refine SN ?_
 change Code.wp _ _ _ _ _
 refine wp_cond_false rfl ?_
 refine wp_skip ?_
 change Code.wp _ _ _ _ _
 refine wp_seq ?_
 refine wp_seq ?_
 by_cases hab : a < b
 case pos =>
  by_cases hbc : b ≤ c
  case pos =>
   -- region 10
   refine wp_region_lit ?_
   refine LV (v := .int .i64 (cmpI a b)) rfl (run_move rfl rfl) ?_
   simp only [Act.put,q1,q2,q3]
   refine LV (v := .bool true) rfl (run_ltI (c := true) rfl rfl rfl (decide_eq_true (by rw [cmpI_lt hab]; decide))) ?_
   simp only [Act.put,q1,q2,q3]
   refine LV (v := .bool true) rfl (run_move rfl rfl) ?_
   simp only [Act.put,q1,q2,q3]
   refine LV (v := .agg #[.bool n8, s8]) rfl (run_load_bx AgI rfl rfl (E.2.2.2.2.2.1) rfl) ?_
   simp only [Act.put,q1,q2,q3]
   refine LV (v := .agg #[.bool n11, s11]) rfl (run_load_bx AgI rfl rfl (E.2.2.2.1) rfl) ?_
   simp only [Act.put,q1,q2,q3]
   refine L1 rfl (Oper.wp_callN fn_integer_Cmp rfl (Cmp_z _ _ b c _ (E.2.2.2.2.2.2.1) (E.2.2.2.2.1)) rfl E ?_)
   clear E
   intro w24 d24 E
   clear d24
   simp only [Act.put,q1,q2,q3]
   refine LV (v := .bool true) rfl (run_leI (c := true) rfl rfl rfl (decide_eq_true ((cmpI_le0 b c).mpr hbc))) ?_
   simp only [Act.put,q1,q2,q3]
   refine LV (v := .bool true) rfl (run_pick (b := true) rfl rfl rfl) ?_
   simp only [Act.put,q1,q2,q3]
   refine LV (v := .bool true) rfl (run_move rfl rfl) ?_
   simp only [Act.put,q1,q2,q3]
   refine LV (v := .agg #[.bool n5, s5]) rfl (run_load_bx AgI rfl rfl (E.2.2.2.2.2.2.2.1) rfl) ?_
   simp only [Act.put,q1,q2,q3]
   refine LV (v := .agg #[.bool n11, s11]) rfl (run_load_bx AgI rfl rfl (E.2.2.2.1) rfl) ?_
   simp only [Act.put,q1,q2,q3]
   refine L1 rfl (Oper.wp_callN fn_integer_Cmp rfl (Cmp_z _ _ a c _ (E.2.2.2.2.2.2.2.2.1) (E.2.2.2.2.1)) rfl E ?_)
   clear E
   intro w25 d25 E
   clear d25
   simp only [Act.put,q1,q2,q3]
   refine LV (v := .bool false) rfl (run_neI (c := false) rfl rfl rfl (bne_f (cmpI_lt (Int.lt_of_lt_of_le hab hbc)))) ?_
   simp only [Act.put,q1,q2,q3]
   refine LV (v := .bool false) rfl (run_pick (b := true) rfl rfl rfl) ?_
   simp only [Act.put,q1,q2,q3]
   refine wpList_nil ?_
   change Code.wp _ _ _ _ _
   refine wp_cond_false rfl ?_
   refine wp_skip ?_
   change Code.wp _ _ _ _ _
   refine wp_seq ?_
   -- region 12
   refine wp_schedE E ([0, 1, 2, 3, 5, 6, 9, 4, 7, 8, 10, 11, 12, 13, 14, 16, 17, 20, 21, 15, 18, 19, 22, 23, 24, 25, 26, 27, 30, 28, 29, 31, 32, 33, 34]) (by kernel_rfl) (by kernel_rfl) (by kernel_rfl) (by kernel_rfl) (by intro d v c a w h; cases d <;> exact h) ?_
   replace E := E.drew
   refine SP (o := ⟨some 70, _, _, _, _, _⟩) (v := .bool true) rfl rfl rfl rfl (fun w hS => run_move rfl rfl) ?_
   simp only [Act.put,q1,q2,q3]
   refine SP (o := ⟨some 71, _, _, _, _, _⟩) (v := .bool true) rfl rfl rfl rfl (fun w hS => run_move rfl rfl) ?_
   simp only [Act.put,q1,q2,q3]
   refine SP (o := ⟨some 72, _, _, _, _, _⟩) (v := .agg #[.bool n5, s5]) rfl rfl rfl rfl (fun w hS => run_load_bx AgI rfl rfl (hS.2.2.2.2.2.2.2.1) rfl) ?_
   simp only [Act.put,q1,q2,q3]
   refine SP (o := ⟨some 73, _, _, _, _, _⟩) (v := .agg #[.bool n11, s11]) rfl rfl rfl rfl (fun w hS => run_load_bx AgI rfl rfl (hS.2.2.2.1) rfl) ?_
   simp only [Act.put,q1,q2,q3]
   refine SP (o := ⟨some 75, _, _, _, _, _⟩) (v := .agg #[.bool n8, s8]) rfl rfl rfl rfl (fun w hS => run_load_bx AgI rfl rfl (hS.2.2.2.2.2.1) rfl) ?_
   simp only [Act.put,q1,q2,q3]
   refine SP (o := ⟨some 76, _, _, _, _, _⟩) (v := .agg #[.bool n11, s11]) rfl rfl rfl rfl (fun w hS => run_load_bx AgI rfl rfl (hS.2.2.2.1) rfl) ?_
   simp only [Act.put,q1,q2,q3]
   refine SP (o := ⟨some 79, _, _, _, _, _⟩) (v := .int .i64 (cmpI a b)) rfl rfl rfl rfl (fun w hS => run_move rfl rfl) ?_
   simp only [Act.put,q1,q2,q3]
   refine S1a (o := ⟨some 74, _, _, _, _, _⟩) rfl rfl rfl rfl (Oper.wp_callI fn_integer_Add rfl (Add_z _ _ a c _ (E.2.2.2.2.2.2.2.2.1) (E.2.2.2.2.1) (Fits.mono Fa (by decide)) (Fits.mono Fc (by decide))) rfl E ?_)
   clear E
   intro w27 n27 s27 d27 E
   clear d27
   refine ⟨E.2, ?_⟩
   simp only [Act.put,q1,q2,q3]
   have F26 : Fits (a + c) 9 := Fits_add Fa Fc (k := 8) (by decide) (by decide)
   refine S1a (o := ⟨some 77, _, _, _, _, _⟩) rfl rfl rfl rfl (Oper.wp_callI fn_integer_Add rfl (Add_z _ _ b c _ (E.2.2.2.2.2.2.2.1) (E.2.2.2.2.2.1) (Fits.mono Fb (by decide)) (Fits.mono Fc (by decide))) rfl E ?_)
   clear E
   intro w29 n29 s29 d29 E
   clear d29
   refine ⟨E.2.2, ?_⟩
   simp only [Act.put,q1,q2,q3]
   have F28 : Fits (b + c) 9 := Fits_add Fb Fc (k := 8) (by decide) (by decide)
   refine S1a (o := ⟨some 78, _, _, _, _, _⟩) rfl rfl rfl rfl (Oper.wp_callN fn_integer_Cmp rfl (Cmp_z _ _ (a + c) (b + c) _ (E.2.1) (E.1)) rfl E ?_)
   clear E
   intro w30 d30 E
   clear d30
   refine ⟨E.2.2, ?_⟩
   simp only [Act.put,q1,q2,q3]
   refine SP (o := ⟨some 80, _, _, _, _, _⟩) (v := .bool true) rfl rfl rfl rfl (fun w hS => run_eqI (c := true) rfl rfl rfl (beq_t (cmpI_addr a b c))) ?_
   simp only [Act.put,q1,q2,q3]
   refine SP (o := ⟨some 81, _, _, _, _, _⟩) (v := .bool true) rfl rfl rfl rfl (fun w hS => run_pick (b := true) rfl rfl rfl) ?_
   simp only [Act.put,q1,q2,q3]
   refine SP (o := ⟨some 82, _, _, _, _, _⟩) (v := .bool true) rfl rfl rfl rfl (fun w hS => run_move rfl rfl) ?_
   simp only [Act.put,q1,q2,q3]
   refine SP (o := ⟨some 83, _, _, _, _, _⟩) (v := .agg #[.bool n5, s5]) rfl rfl rfl rfl (fun w hS => run_load_bx AgI rfl rfl (hS.2.2.2.2.2.2.2.1) rfl) ?_
   simp only [Act.put,q1,q2,q3]
   refine SP (o := ⟨some 84, _, _, _, _, _⟩) (v := .agg #[.bool n11, s11]) rfl rfl rfl rfl (fun w hS => run_load_bx AgI rfl rfl (hS.2.2.2.1) rfl) ?_
   simp only [Act.put,q1,q2,q3]
   refine SP (o := ⟨some 86, _, _, _, _, _⟩) (v := .agg #[.bool n8, s8]) rfl rfl rfl rfl (fun w hS => run_load_bx AgI rfl rfl (hS.2.2.2.2.2.1) rfl) ?_
   simp only [Act.put,q1,q2,q3]
   refine SP (o := ⟨some 87, _, _, _, _, _⟩) (v := .agg #[.bool n11, s11]) rfl rfl rfl rfl (fun w hS => run_load_bx AgI rfl rfl (hS.2.2.2.1) rfl) ?_
   simp only [Act.put,q1,q2,q3]
   refine SP (o := ⟨some 90, _, _, _, _, _⟩) (v := .int .i64 (cmpI a b)) rfl rfl rfl rfl (fun w hS => run_move rfl rfl) ?_
   simp only [Act.put,q1,q2,q3]
   refine SP (o := ⟨some 91, _, _, _, _, _⟩) (v := .agg #[.bool n11, s11]) rfl rfl rfl rfl (fun w hS => run_load_bx AgI rfl rfl (hS.2.2.2.1) rfl) ?_
   simp only [Act.put,q1,q2,q3]
   refine S1a (o := ⟨some 85, _, _, _, _, _⟩) rfl rfl rfl rfl (Oper.wp_callI fn_integer_Mul rfl (Mul_z _ _ a c _ (E.2.2.2.2.2.2.2.2.2.2.1) (E.2.2.2.2.2.2.1) (Fits.mono Fa (by decide)) (Fits.mono Fc (by decide))) rfl E ?_)
   clear E
   intro w32 n32 s32 d32 E
   clear d32
   refine ⟨E.2.2.2, ?_⟩
   simp only [Act.put,q1,q2,q3]
   have F31 : Fits (a * c) 16 := Fits_mul Fa Fc
   refine S1a (o := ⟨some 88, _, _, _, _, _⟩) rfl rfl rfl rfl (Oper.wp_callI fn_integer_Mul rfl (Mul_z _ _ b c _ (E.2.2.2.2.2.2.2.2.2.1) (E.2.2.2.2.2.2.2.1) (Fits.mono Fb (by decide)) (Fits.mono Fc (by decide))) rfl E ?_)
   clear E
   intro w34 n34 s34 d34 E
   clear d34
   refine ⟨E.2.2.2.2, ?_⟩
   simp only [Act.put,q1,q2,q3]
   have F33 : Fits (b * c) 16 := Fits_mul Fb Fc
   refine S1a (o := ⟨some 89, _, _, _, _, _⟩) rfl rfl rfl rfl (Oper.wp_callN fn_integer_Cmp rfl (Cmp_z _ _ (a * c) (b * c) _ (E.2.1) (E.1)) rfl E ?_)
   clear E
   intro w35 d35 E
   clear d35
   refine ⟨E.2.2.2.2, ?_⟩
   simp only [Act.put,q1,q2,q3]
   refine S1a (o := ⟨some 92, _, _, _, _, _⟩) rfl rfl rfl rfl (Oper.wp_callN fn_integer_Sign rfl (Sign_z _ c _ (E.2.2.2.2.2.2.2.2.1)) rfl E ?_)
   clear E
   intro w36 d36 E
   clear d36
   refine ⟨E.2.2.2.2, ?_⟩
   simp only [Act.put,q1,q2,q3]
   refine SP (o := ⟨some 93, _, _, _, _, _⟩) (v := .int .i64 ((cmpI a b) * (sgn c))) rfl rfl rfl rfl (fun w hS => run_mulI rfl rfl rfl (wrap_sm (cmpM_lo _ _ _) (cmpM_hi _ _ _))) ?_
   simp only [Act.put,q1,q2,q3]
   refine SP (o := ⟨some 94, _, _, _, _, _⟩) (v := .bool true) rfl rfl rfl rfl (fun w hS => run_eqI (c := true) rfl rfl rfl (beq_t (cmpI_mulr a b c))) ?_
   simp only [Act.put,q1,q2,q3]
   refine SP (o := ⟨some 95, _, _, _, _, _⟩) (v := .bool true) rfl rfl rfl rfl (fun w hS => run_pick (b := true) rfl rfl rfl) ?_
   simp only [Act.put,q1,q2,q3]
   refine SP (o := ⟨some 96, _, _, _, _, _⟩) (v := .bool true) rfl rfl rfl rfl (fun w hS => run_move rfl rfl) ?_
   simp only [Act.put,q1,q2,q3]
   refine SP (o := ⟨some 97, _, _, _, _, _⟩) (v := .agg #[.bool n5, s5]) rfl rfl rfl rfl (fun w hS => run_load_bx AgI rfl rfl (hS.2.2.2.2.2.2.2.1) rfl) ?_
   simp only [Act.put,q1,q2,q3]
   refine SP (o := ⟨some 100, _, _, _, _, _⟩) (v := .agg #[.bool n5, s5]) rfl rfl rfl rfl (fun w hS => run_load_bx AgI rfl rfl (hS.2.2.2.2.2.2.2.1) rfl) ?_
   simp only [Act.put,q1,q2,q3]
   refine S1a (o := ⟨some 98, _, _, _, _, _⟩) rfl rfl rfl rfl (Oper.wp_callI fn_elaw01_of rfl (of_z 0 _ (by decide) (by decide)) rfl E ?_)
   clear E
   intro w37 n37 s37 d37 E
   clear d37
   refine ⟨E.2.2.2.2.2, ?_⟩
   simp only [Act.put,q1,q2,q3]
   refine S1a (o := ⟨some 99, _, _, _, _, _⟩) rfl rfl rfl rfl (Oper.wp_callN fn_integer_Cmp rfl (Cmp_z _ _ a 0 _ (E.2.2.2.2.2.2.2.2.2.2.2.2.2.1) (E.1)) rfl E ?_)
   clear E
   intro w38 d38 E
   clear d38
   refine ⟨E.2.2.2.2.2, ?_⟩
   simp only [Act.put,q1,q2,q3]
   refine S1a (o := ⟨some 101, _, _, _, _, _⟩) rfl rfl rfl rfl (Oper.wp_callN fn_integer_Sign rfl (Sign_z _ a _ (E.2.2.2.2.2.2.2.2.2.2.2.2.2.1)) rfl E ?_)
   clear E
   intro w39 d39 E
   clear d39
   refine ⟨E.2.2.2.2.2, ?_⟩
   simp only [Act.put,q1,q2,q3]
   refine SP (o := ⟨some 102, _, _, _, _, _⟩) (v := .bool true) rfl rfl rfl rfl (fun w hS => run_eqI (c := true) rfl rfl rfl (beq_t rfl)) ?_
   simp only [Act.put,q1,q2,q3]
   refine SP (o := ⟨some 103, _, _, _, _, _⟩) (v := .bool true) rfl rfl rfl rfl (fun w hS => run_pick (b := true) rfl rfl rfl) ?_
   simp only [Act.put,q1,q2,q3]
   refine SP (o := ⟨some 6, _, _, _, _, _⟩) (v := .bool true) rfl rfl rfl rfl (fun w hS => run_assign rfl rfl) ?_
   simp only [Act.put,q1,q2,q3]
   refine SN ?_
   change Code.wp _ _ _ _ _
   refine wp_ret ?_
   exact bodyPost_ret (v := .bool true) (by simp [results, Try.results5, asAddr]) rfl ⟨rfl, E.2.2.2.2.2.2.2.2.2.2.2.2.2.2.2.2.2.1⟩
  case neg =>
   -- region 10
   refine wp_region_lit ?_
   refine LV (v := .int .i64 (cmpI a b)) rfl (run_move rfl rfl) ?_
   simp only [Act.put,q1,q2,q3]
   refine LV (v := .bool true) rfl (run_ltI (c := true) rfl rfl rfl (decide_eq_true (by rw [cmpI_lt hab]; decide))) ?_
   simp only [Act.put,q1,q2,q3]
   refine LV (v := .bool true) rfl (run_move rfl rfl) ?_
   simp only [Act.put,q1,q2,q3]
   refine LV (v := .agg #[.bool n8, s8]) rfl (run_load_bx AgI rfl rfl (E.2.2.2.2.2.1) rfl) ?_
   simp only [Act.put,q1,q2,q3]
   refine LV (v := .agg #[.bool n11, s11]) rfl (run_load_bx AgI rfl rfl (E.2.2.2.1) rfl) ?_
   simp only [Act.put,q1,q2,q3]
   refine L1 rfl (Oper.wp_callN fn_integer_Cmp rfl (Cmp_z _ _ b c _ (E.2.2.2.2.2.2.1) (E.2.2.2.2.1)) rfl E ?_)
   clear E
   intro w40 d40 E
   clear d40
   simp only [Act.put,q1,q2,q3]
   refine LV (v := .bool false) rfl (run_leI (c := false) rfl rfl rfl (decide_eq_false (fun h => hbc ((cmpI_le0 b c).mp h)))) ?_
   simp only [Act.put,q1,q2,q3]
   refine LV (v := .bool false) rfl (run_pick (b := true) rfl rfl rfl) ?_
   simp only [Act.put,q1,q2,q3]
   refine LV (v := .bool false) rfl (run_move rfl rfl) ?_
   simp only [Act.put,q1,q2,q3]
   refine L0 rfl ?_
   simp only [Act.put,q1,q2,q3]
   refine L0 rfl ?_
   simp only [Act.put,q1,q2,q3]
   refine L0 rfl ?_
   simp only [Act.put,q1,q2,q3]
   refine L0 rfl ?_
   simp only [Act.put,q1,q2,q3]
   refine LV (v := .bool false) rfl (run_pick (b := false) rfl rfl rfl) ?_
   simp only [Act.put,q1,q2,q3]
   refine wpList_nil ?_
   change Code.wp _ _ _ _ _
   refine wp_cond_false rfl ?_
   refine wp_skip ?_
   change Code.wp _ _ _ _ _
   refine wp_seq ?_
   -- region 12
   refine wp_schedE E ([0, 1, 2, 3, 5, 6, 9, 4, 7, 8, 10, 11, 12, 13, 14, 16, 17, 20, 21, 15, 18, 19, 22, 23, 24, 25, 26, 27, 30, 28, 29, 31, 32, 33, 34]) (by kernel_rfl) (by kernel_rfl) (by kernel_rfl) (by kernel_rfl) (by intro d v c a w h; cases d <;> exact h) ?_
   replace E := E.drew
   refine SP (o := ⟨some 70, _, _, _, _, _⟩) (v := .bool true) rfl rfl rfl rfl (fun w hS => run_move rfl rfl) ?_
   simp only [Act.put,q1,q2,q3]
   refine SP (o := ⟨some 71, _, _, _, _, _⟩) (v := .bool true) rfl rfl rfl rfl (fun w hS => run_move rfl rfl) ?_
   simp only [Act.put,q1,q2,q3]
   refine SP (o := ⟨some 72, _, _, _, _, _⟩) (v := .agg #[.bool n5, s5]) rfl rfl rfl rfl (fun w hS => run_load_bx AgI rfl rfl (hS.2.2.2.2.2.2.2.1) rfl) ?_
   simp only [Act.put,q1,q2,q3]
   refine SP (o := ⟨some 73, _, _, _, _, _⟩) (v := .agg #[.bool n11, s11]) rfl rfl rfl rfl (fun w hS => run_load_bx AgI rfl rfl (hS.2.2.2.1) rfl) ?_
   simp only [Act.put,q1,q2,q3]
   refine SP (o := ⟨some 75, _, _, _, _, _⟩) (v := .agg #[.bool n8, s8]) rfl rfl rfl rfl (fun w hS => run_load_bx AgI rfl rfl (hS.2.2.2.2.2.1) rfl) ?_
   simp only [Act.put,q1,q2,q3]
   refine SP (o := ⟨some 76, _, _, _, _, _⟩) (v := .agg #[.bool n11, s11]) rfl rfl rfl rfl (fun w hS => run_load_bx AgI rfl rfl (hS.2.2.2.1) rfl) ?_
   simp only [Act.put,q1,q2,q3]
   refine SP (o := ⟨some 79, _, _, _, _, _⟩) (v := .int .i64 (cmpI a b)) rfl rfl rfl rfl (fun w hS => run_move rfl rfl) ?_
   simp only [Act.put,q1,q2,q3]
   refine S1a (o := ⟨some 74, _, _, _, _, _⟩) rfl rfl rfl rfl (Oper.wp_callI fn_integer_Add rfl (Add_z _ _ a c _ (E.2.2.2.2.2.2.2.2.1) (E.2.2.2.2.1) (Fits.mono Fa (by decide)) (Fits.mono Fc (by decide))) rfl E ?_)
   clear E
   intro w42 n42 s42 d42 E
   clear d42
   refine ⟨E.2, ?_⟩
   simp only [Act.put,q1,q2,q3]
   have F41 : Fits (a + c) 9 := Fits_add Fa Fc (k := 8) (by decide) (by decide)
   refine S1a (o := ⟨some 77, _, _, _, _, _⟩) rfl rfl rfl rfl (Oper.wp_callI fn_integer_Add rfl (Add_z _ _ b c _ (E.2.2.2.2.2.2.2.1) (E.2.2.2.2.2.1) (Fits.mono Fb (by decide)) (Fits.mono Fc (by decide))) rfl E ?_)
   clear E
   intro w44 n44 s44 d44 E
   clear d44
   refine ⟨E.2.2, ?_⟩
   simp only [Act.put,q1,q2,q3]
   have F43 : Fits (b + c) 9 := Fits_add Fb Fc (k := 8) (by decide) (by decide)
   refine S1a (o := ⟨some 78, _, _, _, _, _⟩) rfl rfl rfl rfl (Oper.wp_callN fn_integer_Cmp rfl (Cmp_z _ _ (a + c) (b + c) _ (E.2.1) (E.1)) rfl E ?_)
   clear E
   intro w45 d45 E
   clear d45
   refine ⟨E.2.2, ?_⟩
   simp only [Act.put,q1,q2,q3]
   refine SP (o := ⟨some 80, _, _, _, _, _⟩) (v := .bool true) rfl rfl rfl rfl (fun w hS => run_eqI (c := true) rfl rfl rfl (beq_t (cmpI_addr a b c))) ?_
   simp only [Act.put,q1,q2,q3]
   refine SP (o := ⟨some 81, _, _, _, _, _⟩) (v := .bool true) rfl rfl rfl rfl (fun w hS => run_pick (b := true) rfl rfl rfl) ?_
   simp only [Act.put,q1,q2,q3]
   refine SP (o := ⟨some 82, _, _, _, _, _⟩) (v := .bool true) rfl rfl rfl rfl (fun w hS => run_move rfl rfl) ?_
   simp only [Act.put,q1,q2,q3]
   refine SP (o := ⟨some 83, _, _, _, _, _⟩) (v := .agg #[.bool n5, s5]) rfl rfl rfl rfl (fun w hS => run_load_bx AgI rfl rfl (hS.2.2.2.2.2.2.2.1) rfl) ?_
   simp only [Act.put,q1,q2,q3]
   refine SP (o := ⟨some 84, _, _, _, _, _⟩) (v := .agg #[.bool n11, s11]) rfl rfl rfl rfl (fun w hS => run_load_bx AgI rfl rfl (hS.2.2.2.1) rfl) ?_
   simp only [Act.put,q1,q2,q3]
   refine SP (o := ⟨some 86, _, _, _, _, _⟩) (v := .agg #[.bool n8, s8]) rfl rfl rfl rfl (fun w hS => run_load_bx AgI rfl rfl (hS.2.2.2.2.2.1) rfl) ?_
   simp only [Act.put,q1,q2,q3]
   refine SP (o := ⟨some 87, _, _, _, _, _⟩) (v := .agg #[.bool n11, s11]) rfl rfl rfl rfl (fun w hS => run_load_bx AgI rfl rfl (hS.2.2.2.1) rfl) ?_
   simp only [Act.put,q1,q2,q3]
   refine SP (o := ⟨some 90, _, _, _, _, _⟩) (v := .int .i64 (cmpI a b)) rfl rfl rfl rfl (fun w hS => run_move rfl rfl) ?_
   simp only [Act.put,q1,q2,q3]
   refine SP (o := ⟨some 91, _, _, _, _, _⟩) (v := .agg #[.bool n11, s11]) rfl rfl rfl rfl (fun w hS => run_load_bx AgI rfl rfl (hS.2.2.2.1) rfl) ?_
   simp only [Act.put,q1,q2,q3]
   refine S1a (o := ⟨some 85, _, _, _, _, _⟩) rfl rfl rfl rfl (Oper.wp_callI fn_integer_Mul rfl (Mul_z _ _ a c _ (E.2.2.2.2.2.2.2.2.2.2.1) (E.2.2.2.2.2.2.1) (Fits.mono Fa (by decide)) (Fits.mono Fc (by decide))) rfl E ?_)
   clear E
   intro w47 n47 s47 d47 E
   clear d47
   refine ⟨E.2.2.2, ?_⟩
   simp only [Act.put,q1,q2,q3]
   have F46 : Fits (a * c) 16 := Fits_mul Fa Fc
   refine S1a (o := ⟨some 88, _, _, _, _, _⟩) rfl rfl rfl rfl (Oper.wp_callI fn_integer_Mul rfl (Mul_z _ _ b c _ (E.2.2.2.2.2.2.2.2.2.1) (E.2.2.2.2.2.2.2.1) (Fits.mono Fb (by decide)) (Fits.mono Fc (by decide))) rfl E ?_)
   clear E
   intro w49 n49 s49 d49 E
   clear d49
   refine ⟨E.2.2.2.2, ?_⟩
   simp only [Act.put,q1,q2,q3]
   have F48 : Fits (b * c) 16 := Fits_mul Fb Fc
   refine S1a (o := ⟨some 89, _, _, _, _, _⟩) rfl rfl rfl rfl (Oper.wp_callN fn_integer_Cmp rfl (Cmp_z _ _ (a * c) (b * c) _ (E.2.1) (E.1)) rfl E ?_)
   clear E
   intro w50 d50 E
   clear d50
   refine ⟨E.2.2.2.2, ?_⟩
   simp only [Act.put,q1,q2,q3]
   refine S1a (o := ⟨some 92, _, _, _, _, _⟩) rfl rfl rfl rfl (Oper.wp_callN fn_integer_Sign rfl (Sign_z _ c _ (E.2.2.2.2.2.2.2.2.1)) rfl E ?_)
   clear E
   intro w51 d51 E
   clear d51
   refine ⟨E.2.2.2.2, ?_⟩
   simp only [Act.put,q1,q2,q3]
   refine SP (o := ⟨some 93, _, _, _, _, _⟩) (v := .int .i64 ((cmpI a b) * (sgn c))) rfl rfl rfl rfl (fun w hS => run_mulI rfl rfl rfl (wrap_sm (cmpM_lo _ _ _) (cmpM_hi _ _ _))) ?_
   simp only [Act.put,q1,q2,q3]
   refine SP (o := ⟨some 94, _, _, _, _, _⟩) (v := .bool true) rfl rfl rfl rfl (fun w hS => run_eqI (c := true) rfl rfl rfl (beq_t (cmpI_mulr a b c))) ?_
   simp only [Act.put,q1,q2,q3]
   refine SP (o := ⟨some 95, _, _, _, _, _⟩) (v := .bool true) rfl rfl rfl rfl (fun w hS => run_pick (b := true) rfl rfl rfl) ?_
   simp only [Act.put,q1,q2,q3]
   refine SP (o := ⟨some 96, _, _, _, _, _⟩) (v := .bool true) rfl rfl rfl rfl (fun w hS => run_move rfl rfl) ?_
   simp only [Act.put,q1,q2,q3]
   refine SP (o := ⟨some 97, _, _, _, _, _⟩) (v := .agg #[.bool n5, s5]) rfl rfl rfl rfl (fun w hS => run_load_bx AgI rfl rfl (hS.2.2.2.2.2.2.2.1) rfl) ?_
   simp only [Act.put,q1,q2,q3]
   refine SP (o := ⟨some 100, _, _, _, _, _⟩) (v := .agg #[.bool n5, s5]) rfl rfl rfl rfl (fun w hS => run_load_bx AgI rfl rfl (hS.2.2.2.2.2.2.2.1) rfl) ?_
   simp only [Act.put,q1,q2,q3]
   refine S1a (o := ⟨some 98, _, _, _, _, _⟩) rfl rfl rfl rfl (Oper.wp_callI fn_elaw01_of rfl (of_z 0 _ (by decide) (by decide)) rfl E ?_)
   clear E
   intro w52 n52 s52 d52 E
   clear d52
   refine ⟨E.2.2.2.2.2, ?_⟩
   simp only [Act.put,q1,q2,q3]
   refine S1a (o := ⟨some 99, _, _, _, _, _⟩) rfl rfl rfl rfl (Oper.wp_callN fn_integer_Cmp rfl (Cmp_z _ _ a 0 _ (E.2.2.2.2.2.2.2.2.2.2.2.2.2.1) (E.1)) rfl E ?_)
   clear E
   intro w53 d53 E
   clear d53
   refine ⟨E.2.2.2.2.2, ?_⟩
   simp only [Act.put,q1,q2,q3]
   refine S1a (o := ⟨some 101, _, _, _, _, _⟩) rfl rfl rfl rfl (Oper.wp_callN fn_integer_Sign rfl (Sign_z _ a _ (E.2.2.2.2.2.2.2.2.2.2.2.2.2.1)) rfl E ?_)
   clear E
   intro w54 d54 E
   clear d54
   refine ⟨E.2.2.2.2.2, ?_⟩
   simp only [Act.put,q1,q2,q3]
   refine SP (o := ⟨some 102, _, _, _, _, _⟩) (v := .bool true) rfl rfl rfl rfl (fun w hS => run_eqI (c := true) rfl rfl rfl (beq_t rfl)) ?_
   simp only [Act.put,q1,q2,q3]
   refine SP (o := ⟨some 103, _, _, _, _, _⟩) (v := .bool true) rfl rfl rfl rfl (fun w hS => run_pick (b := true) rfl rfl rfl) ?_
   simp only [Act.put,q1,q2,q3]
   refine SP (o := ⟨some 6, _, _, _, _, _⟩) (v := .bool true) rfl rfl rfl rfl (fun w hS => run_assign rfl rfl) ?_
   simp only [Act.put,q1,q2,q3]
   refine SN ?_
   change Code.wp _ _ _ _ _
   refine wp_ret ?_
   exact bodyPost_ret (v := .bool true) (by simp [results, Try.results5, asAddr]) rfl ⟨rfl, E.2.2.2.2.2.2.2.2.2.2.2.2.2.2.2.2.2.1⟩
 case neg =>
  -- region 10
  refine wp_region_lit ?_
  refine LV (v := .int .i64 (cmpI a b)) rfl (run_move rfl rfl) ?_
  simp only [Act.put,q1,q2,q3]
  refine LV (v := .bool false) rfl (run_ltI (c := false) rfl rfl rfl (decide_eq_false (fun h => hab ((cmpI_lt0 a b).mp h)))) ?_
  simp only [Act.put,q1,q2,q3]
  refine LV (v := .bool false) rfl (run_move rfl rfl) ?_
  simp only [Act.put,q1,q2,q3]
  refine L0 rfl ?_
  simp only [Act.put,q1,q2,q3]
  refine L0 rfl ?_
  simp only [Act.put,q1,q2,q3]
  refine L0 rfl ?_
  simp only [Act.put,q1,q2,q3]
  refine L0 rfl ?_
  simp only [Act.put,q1,q2,q3]
  refine LV (v := .bool false) rfl (run_pick (b := false) rfl rfl rfl) ?_
  simp only [Act.put,q1,q2,q3]
  refine LV (v := .bool false) rfl (run_move rfl rfl) ?_
  simp only [Act.put,q1,q2,q3]
  refine L0 rfl ?_
  simp only [Act.put,q1,q2,q3]
  refine L0 rfl ?_
  simp only [Act.put,q1,q2,q3]
  refine L0 rfl ?_
  simp only [Act.put,q1,q2,q3]
  refine L0 rfl ?_
  simp only [Act.put,q1,q2,q3]
  refine LV (v := .bool false) rfl (run_pick (b := false) rfl rfl rfl) ?_
  simp only [Act.put,q1,q2,q3]
  refine wpList_nil ?_
  change Code.wp _ _ _ _ _
  refine wp_cond_false rfl ?_
  refine wp_skip ?_
  change Code.wp _ _ _ _ _
  refine wp_seq ?_
  -- region 12
  refine wp_schedE E ([0, 1, 2, 3, 5, 6, 9, 4, 7, 8, 10, 11, 12, 13, 14, 16, 17, 20, 21, 15, 18, 19, 22, 23, 24, 25, 26, 27, 30, 28, 29, 31, 32, 33, 34]) (by kernel_rfl) (by kernel_rfl) (by kernel_rfl) (by kernel_rfl) (by intro d v c a w h; cases d <;> exact h) ?_
  replace E := E.drew
  refine SP (o := ⟨some 70, _, _, _, _, _⟩) (v := .bool true) rfl rfl rfl rfl (fun w hS => run_move rfl rfl) ?_
  simp only [Act.put,q1,q2,q3]
  refine SP (o := ⟨some 71, _, _, _, _, _⟩) (v := .bool true) rfl rfl rfl rfl (fun w hS => run_move rfl rfl) ?_
  simp only [Act.put,q1,q2,q3]
  refine SP (o := ⟨some 72, _, _, _, _, _⟩) (v := .agg #[.bool n5, s5]) rfl rfl rfl rfl (fun w hS => run_load_bx AgI rfl rfl (hS.2.2.2.2.2.2.2.1) rfl) ?_
  simp only [Act.put,q1,q2,q3]
  refine SP (o := ⟨some 73, _, _, _, _, _⟩) (v := .agg #[.bool n11, s11]) rfl rfl rfl rfl (fun w hS => run_load_bx AgI rfl rfl (hS.2.2.2.1) rfl) ?_
  simp only [Act.put,q1,q2,q3]
  refine SP (o := ⟨some 75, _, _, _, _, _⟩) (v := .agg #[.bool n8, s8]) rfl rfl rfl rfl (fun w hS => run_load_bx AgI rfl rfl (hS.2.2.2.2.2.1) rfl) ?_
  simp only [Act.put,q1,q2,q3]
  refine SP (o := ⟨some 76, _, _, _, _, _⟩) (v := .agg #[.bool n11, s11]) rfl rfl rfl rfl (fun w hS => run_load_bx AgI rfl rfl (hS.2.2.2.1) rfl) ?_
  simp only [Act.put,q1,q2,q3]
  refine SP (o := ⟨some 79, _, _, _, _, _⟩) (v := .int .i64 (cmpI a b)) rfl rfl rfl rfl (fun w hS => run_move rfl rfl) ?_
  simp only [Act.put,q1,q2,q3]
  refine S1a (o := ⟨some 74, _, _, _, _, _⟩) rfl rfl rfl rfl (Oper.wp_callI fn_integer_Add rfl (Add_z _ _ a c _ (E.2.2.2.2.2.2.2.2.1) (E.2.2.2.2.1) (Fits.mono Fa (by decide)) (Fits.mono Fc (by decide))) rfl E ?_)
  clear E
  intro w56 n56 s56 d56 E
  clear d56
  refine ⟨E.2, ?_⟩
  simp only [Act.put,q1,q2,q3]
  have F55 : Fits (a + c) 9 := Fits_add Fa Fc (k := 8) (by decide) (by decide)
  refine S1a (o := ⟨some 77, _, _, _, _, _⟩) rfl rfl rfl rfl (Oper.wp_callI fn_integer_Add rfl (Add_z _ _ b c _ (E.2.2.2.2.2.2.2.1) (E.2.2.2.2.2.1) (Fits.mono Fb (by decide)) (Fits.mono Fc (by decide))) rfl E ?_)
  clear E
  intro w58 n58 s58 d58 E
  clear d58
  refine ⟨E.2.2, ?_⟩
  simp only [Act.put,q1,q2,q3]
  have F57 : Fits (b + c) 9 := Fits_add Fb Fc (k := 8) (by decide) (by decide)
  refine S1a (o := ⟨some 78, _, _, _, _, _⟩) rfl rfl rfl rfl (Oper.wp_callN fn_integer_Cmp rfl (Cmp_z _ _ (a + c) (b + c) _ (E.2.1) (E.1)) rfl E ?_)
  clear E
  intro w59 d59 E
  clear d59
  refine ⟨E.2.2, ?_⟩
  simp only [Act.put,q1,q2,q3]
  refine SP (o := ⟨some 80, _, _, _, _, _⟩) (v := .bool true) rfl rfl rfl rfl (fun w hS => run_eqI (c := true) rfl rfl rfl (beq_t (cmpI_addr a b c))) ?_
  simp only [Act.put,q1,q2,q3]
  refine SP (o := ⟨some 81, _, _, _, _, _⟩) (v := .bool true) rfl rfl rfl rfl (fun w hS => run_pick (b := true) rfl rfl rfl) ?_
  simp only [Act.put,q1,q2,q3]
  refine SP (o := ⟨some 82, _, _, _, _, _⟩) (v := .bool true) rfl rfl rfl rfl (fun w hS => run_move rfl rfl) ?_
  simp only [Act.put,q1,q2,q3]
  refine SP (o := ⟨some 83, _, _, _, _, _⟩) (v := .agg #[.bool n5, s5]) rfl rfl rfl rfl (fun w hS => run_load_bx AgI rfl rfl (hS.2.2.2.2.2.2.2.1) rfl) ?_
  simp only [Act.put,q1,q2,q3]
  refine SP (o := ⟨some 84, _, _, _, _, _⟩) (v := .agg #[.bool n11, s11]) rfl rfl rfl rfl (fun w hS => run_load_bx AgI rfl rfl (hS.2.2.2.1) rfl) ?_
  simp only [Act.put,q1,q2,q3]
  refine SP (o := ⟨some 86, _, _, _, _, _⟩) (v := .agg #[.bool n8, s8]) rfl rfl rfl rfl (fun w hS => run_load_bx AgI rfl rfl (hS.2.2.2.2.2.1) rfl) ?_
  simp only [Act.put,q1,q2,q3]
  refine SP (o := ⟨some 87, _, _, _, _, _⟩) (v := .agg #[.bool n11, s11]) rfl rfl rfl rfl (fun w hS => run_load_bx AgI rfl rfl (hS.2.2.2.1) rfl) ?_
  simp only [Act.put,q1,q2,q3]
  refine SP (o := ⟨some 90, _, _, _, _, _⟩) (v := .int .i64 (cmpI a b)) rfl rfl rfl rfl (fun w hS => run_move rfl rfl) ?_
  simp only [Act.put,q1,q2,q3]
  refine SP (o := ⟨some 91, _, _, _, _, _⟩) (v := .agg #[.bool n11, s11]) rfl rfl rfl rfl (fun w hS => run_load_bx AgI rfl rfl (hS.2.2.2.1) rfl) ?_
  simp only [Act.put,q1,q2,q3]
  refine S1a (o := ⟨some 85, _, _, _, _, _⟩) rfl rfl rfl rfl (Oper.wp_callI fn_integer_Mul rfl (Mul_z _ _ a c _ (E.2.2.2.2.2.2.2.2.2.2.1) (E.2.2.2.2.2.2.1) (Fits.mono Fa (by decide)) (Fits.mono Fc (by decide))) rfl E ?_)
  clear E
  intro w61 n61 s61 d61 E
  clear d61
  refine ⟨E.2.2.2, ?_⟩
  simp only [Act.put,q1,q2,q3]
  have F60 : Fits (a * c) 16 := Fits_mul Fa Fc
  refine S1a (o := ⟨some 88, _, _, _, _, _⟩) rfl rfl rfl rfl (Oper.wp_callI fn_integer_Mul rfl (Mul_z _ _ b c _ (E.2.2.2.2.2.2.2.2.2.1) (E.2.2.2.2.2.2.2.1) (Fits.mono Fb (by decide)) (Fits.mono Fc (by decide))) rfl E ?_)
  clear E
  intro w63 n63 s63 d63 E
  clear d63
  refine ⟨E.2.2.2.2, ?_⟩
  simp only [Act.put,q1,q2,q3]
  have F62 : Fits (b * c) 16 := Fits_mul Fb Fc
  refine S1a (o := ⟨some 89, _, _, _, _, _⟩) rfl rfl rfl rfl (Oper.wp_callN fn_integer_Cmp rfl (Cmp_z _ _ (a * c) (b * c) _ (E.2.1) (E.1)) rfl E ?_)
  clear E
  intro w64 d64 E
  clear d64
  refine ⟨E.2.2.2.2, ?_⟩
  simp only [Act.put,q1,q2,q3]
  refine S1a (o := ⟨some 92, _, _, _, _, _⟩) rfl rfl rfl rfl (Oper.wp_callN fn_integer_Sign rfl (Sign_z _ c _ (E.2.2.2.2.2.2.2.2.1)) rfl E ?_)
  clear E
  intro w65 d65 E
  clear d65
  refine ⟨E.2.2.2.2, ?_⟩
  simp only [Act.put,q1,q2,q3]
  refine SP (o := ⟨some 93, _, _, _, _, _⟩) (v := .int .i64 ((cmpI a b) * (sgn c))) rfl rfl rfl rfl (fun w hS => run_mulI rfl rfl rfl (wrap_sm (cmpM_lo _ _ _) (cmpM_hi _ _ _))) ?_
  simp only [Act.put,q1,q2,q3]
  refine SP (o := ⟨some 94, _, _, _, _, _⟩) (v := .bool true) rfl rfl rfl rfl (fun w hS => run_eqI (c := true) rfl rfl rfl (beq_t (cmpI_mulr a b c))) ?_
  simp only [Act.put,q1,q2,q3]
  refine SP (o := ⟨some 95, _, _, _, _, _⟩) (v := .bool true) rfl rfl rfl rfl (fun w hS => run_pick (b := true) rfl rfl rfl) ?_
  simp only [Act.put,q1,q2,q3]
  refine SP (o := ⟨some 96, _, _, _, _, _⟩) (v := .bool true) rfl rfl rfl rfl (fun w hS => run_move rfl rfl) ?_
  simp only [Act.put,q1,q2,q3]
  refine SP (o := ⟨some 97, _, _, _, _, _⟩) (v := .agg #[.bool n5, s5]) rfl rfl rfl rfl (fun w hS => run_load_bx AgI rfl rfl (hS.2.2.2.2.2.2.2.1) rfl) ?_
  simp only [Act.put,q1,q2,q3]
  refine SP (o := ⟨some 100, _, _, _, _, _⟩) (v := .agg #[.bool n5, s5]) rfl rfl rfl rfl (fun w hS => run_load_bx AgI rfl rfl (hS.2.2.2.2.2.2.2.1) rfl) ?_
  simp only [Act.put,q1,q2,q3]
  refine S1a (o := ⟨some 98, _, _, _, _, _⟩) rfl rfl rfl rfl (Oper.wp_callI fn_elaw01_of rfl (of_z 0 _ (by decide) (by decide)) rfl E ?_)
  clear E
  intro w66 n66 s66 d66 E
  clear d66
  refine ⟨E.2.2.2.2.2, ?_⟩
  simp only [Act.put,q1,q2,q3]
  refine S1a (o := ⟨some 99, _, _, _, _, _⟩) rfl rfl rfl rfl (Oper.wp_callN fn_integer_Cmp rfl (Cmp_z _ _ a 0 _ (E.2.2.2.2.2.2.2.2.2.2.2.2.2.1) (E.1)) rfl E ?_)
  clear E
  intro w67 d67 E
  clear d67
  refine ⟨E.2.2.2.2.2, ?_⟩
  simp only [Act.put,q1,q2,q3]
  refine S1a (o := ⟨some 101, _, _, _, _, _⟩) rfl rfl rfl rfl (Oper.wp_callN fn_integer_Sign rfl (Sign_z _ a _ (E.2.2.2.2.2.2.2.2.2.2.2.2.2.1)) rfl E ?_)
  clear E
  intro w68 d68 E
  clear d68
  refine ⟨E.2.2.2.2.2, ?_⟩
  simp only [Act.put,q1,q2,q3]
  refine SP (o := ⟨some 102, _, _, _, _, _⟩) (v := .bool true) rfl rfl rfl rfl (fun w hS => run_eqI (c := true) rfl rfl rfl (beq_t rfl)) ?_
  simp only [Act.put,q1,q2,q3]
  refine SP (o := ⟨some 103, _, _, _, _, _⟩) (v := .bool true) rfl rfl rfl rfl (fun w hS => run_pick (b := true) rfl rfl rfl) ?_
  simp only [Act.put,q1,q2,q3]
  refine SP (o := ⟨some 6, _, _, _, _, _⟩) (v := .bool true) rfl rfl rfl rfl (fun w hS => run_assign rfl rfl) ?_
  simp only [Act.put,q1,q2,q3]
  refine SN ?_
  change Code.wp _ _ _ _ _
  refine wp_ret ?_
  exact bodyPost_ret (v := .bool true) (by simp [results, Try.results5, asAddr]) rfl ⟨rfl, E.2.2.2.2.2.2.2.2.2.2.2.2.2.2.2.2.2.1⟩
end Go.Proofs.Ytjgmfdenicbniaa
