/- Walk: the law IntegerRing. (Printed by g_ring.py.) -/
import Derived.Test.YtjgmfdenicbniaaLawC
namespace Go.Proofs.Ytjgmfdenicbniaa
open Go.RowKit W
set_option maxRecDepth 100000 in
set_option maxHeartbeats 8000000 in
theorem ring_t  (na : Bool) (sa : Value) (la : List Nat) (nb : Bool) (sb : Value) (lb : List Nat) (nc : Bool) (sc : Value) (lc : List Nat)  (w : World)  (hsa : Sl w sa la) (hsb : Sl w sb lb) (hsc : Sl w sc lc) :
    Calls Try.prog 4 #[.agg #[.bool na, sa], .agg #[.bool nb, sb], .agg #[.bool nc, sc]] w (RetB w true) := by
 have E := Env.start w
 obtain ⟨a, ha⟩ : ∃ z, mkI na la 8 = z := ⟨_, rfl⟩
 have Fa : Fits a 8 := by rw [← ha]; exact mkI_fits hsa.wd
 obtain ⟨b, hb⟩ : ∃ z, mkI nb lb 8 = z := ⟨_, rfl⟩
 have Fb : Fits b 8 := by rw [← hb]; exact mkI_fits hsb.wd
 obtain ⟨c, hc⟩ : ∃ z, mkI nc lc 8 = z := ⟨_, rfl⟩
 have Fc : Fits c 8 := by rw [← hc]; exact mkI_fits hsc.wd
 go_enter Try.func4, Try.ntmps4
 refine wp_seq ?_
 -- region 0
 refine wp_region_lit ?_
 refine L1 rfl (Oper.wp_box (cs := [.bool na, sa]) rfl rfl ?_)
 intro b1 w1 e1 z1 d1 x1
 have l1 : w.heap.size ≤ b1 := by rw [e1]; exact (E.1).size
 replace E := E.below d1
 clear e1 z1 d1
 replace E := E.x x1
 clear x1
 simp only [Act.put,q1,q2,q3]
 refine L1 rfl (Oper.wp_box (cs := [.bool nb, sb]) rfl rfl ?_)
 intro b2 w2 e2 z2 d2 x2
 have l2_0 : b1 < b2 := by rw [e2]; exact Bx.lt (E.1)
 replace E := E.below d2
 clear e2 z2 d2
 replace E := E.x x2
 clear x2
 simp only [Act.put,q1,q2,q3]
 refine L1 rfl (Oper.wp_box (cs := [.bool nc, sc]) rfl rfl ?_)
 intro b3 w3 e3 z3 d3 x3
 have l3_0 : b2 < b3 := by rw [e3]; exact Bx.lt (E.1)
 replace E := E.below d3
 clear e3 z3 d3
 replace E := E.x x3
 clear x3
 simp only [Act.put,q1,q2,q3]
 refine LV (v := .bool false) rfl (run_assign rfl rfl) ?_
 simp only [Act.put,q1,q2,q3]
 refine wpList_nil ?_
 change Code.wp _ _ _ _ _
 refine wp_seq ?_
 -- region 1
 refine wp_region_lit ?_
 refine L1 rfl (Oper.wp_callB fn_elaw01_sanity rfl (sanity_t _) rfl E ?_)
 clear E
 intro w4 d4 E
 clear d4
 simp only [Act.put,q1,q2,q3]
 refine LV (v := .bool true) rfl (run_assign rfl rfl) ?_
 simp only [Act.put,q1,q2,q3]
 refine wpList_nil ?_
 change Code.wp _ _ _ _ _
 refine wp_seq ?_
 refine wp_seq ?_
 -- region 2
 refine wp_region_lit ?_
 refine LV (v := .bool true) rfl (run_move rfl rfl) ?_
 simp only [Act.put,q1,q2,q3]
 refine LV (v := .bool false) rfl (run_not (b := true) rfl rfl) ?_
 simp only [Act.put,q1,q2,q3]
 refine wpList_nil ?_
 change Code.wp _ _ _ _ _
 refine wp_cond_false rfl ?_
 refine wp_skip ?_
 change Code.wp _ _ _ _ _
 refine wp_seq ?_
 -- region 4
 refine wp_region_lit ?_
 refine LV (v := .agg #[.bool na, sa]) rfl (run_load_bx AgRaw rfl rfl (E.2.2.1) rfl) ?_
 simp only [Act.put,q1,q2,q3]
 refine L1 rfl (Oper.wp_callI fn_eref01_Made rfl (Made_is na sa la 8 _ (Sl.below hsa (E.2.2.2.1)) (by decide) ha) rfl E ?_)
 clear E
 intro w5 n5 s5 d5 E
 clear d5
 simp only [Act.put,q1,q2,q3]
 refine L1 rfl (Oper.wp_alloc AgI rfl ?_)
 intro b6 w6 e6 z6 d6 x6
 have l6_0 : b3 < b6 := by rw [e6]; exact Bx.lt (E.2.1)
 replace E := E.below d6
 clear e6 z6 d6
 simp only [Act.put,q1,q2,q3]
 refine L1 rfl (Oper.wp_store AgI rfl rfl rfl x6 rfl rfl (IsI.one (E.1)) ?_)
 intro w7 o7 y7
 replace E := (E.onl (x6.noW now0) ⟨trivial, okX (by omega), okX (by omega), okX (by omega), okW (by omega), trivial⟩ o7).b y7
 clear x6 o7 y7
 simp only [Act.put]
 refine wpList_nil ?_
 change Code.wp _ _ _ _ _
 refine wp_seq ?_
 -- region 5
 refine wp_region_lit ?_
 refine LV (v := .agg #[.bool nb, sb]) rfl (run_load_bx AgRaw rfl rfl (E.2.2.2.1) rfl) ?_
 simp only [Act.put,q1,q2,q3]
 refine L1 rfl (Oper.wp_callI fn_eref01_Made rfl (Made_is nb sb lb 8 _ (Sl.below hsb (E.2.2.2.2.2.1)) (by decide) hb) rfl E ?_)
 clear E
 intro w8 n8 s8 d8 E
 clear d8
 simp only [Act.put,q1,q2,q3]
 refine L1 rfl (Oper.wp_alloc AgI rfl ?_)
 intro b9 w9 e9 z9 d9 x9
 have l9_0 : b6 < b9 := by rw [e9]; exact Bx.lt (E.2.1)
 replace E := E.below d9
 clear e9 z9 d9
 simp only [Act.put,q1,q2,q3]
 refine L1 rfl (Oper.wp_store AgI rfl rfl rfl x9 rfl rfl (IsI.one (E.1)) ?_)
 intro w10 o10 y10
 replace E := (E.onl (x9.noW now0) ⟨trivial, okB (by omega), trivial, okX (by omega), okX (by omega), okX (by omega), okW (by omega), trivial⟩ o10).b y10
 clear x9 o10 y10
 simp only [Act.put]
 refine wpList_nil ?_
 change Code.wp _ _ _ _ _
 refine wp_seq ?_
 -- region 6
 refine wp_region_lit ?_
 refine LV (v := .agg #[.bool nc, sc]) rfl (run_load_bx AgRaw rfl rfl (E.2.2.2.2.1) rfl) ?_
 simp only [Act.put,q1,q2,q3]
 refine L1 rfl (Oper.wp_callI fn_eref01_Made rfl (Made_is nc sc lc 8 _ (Sl.below hsc (E.2.2.2.2.2.2.2.1)) (by decide) hc) rfl E ?_)
 clear E
 intro w11 n11 s11 d11 E
 clear d11
 simp only [Act.put,q1,q2,q3]
 refine L1 rfl (Oper.wp_alloc AgI rfl ?_)
 intro b12 w12 e12 z12 d12 x12
 have l12_0 : b9 < b12 := by rw [e12]; exact Bx.lt (E.2.1)
 replace E := E.below d12
 clear e12 z12 d12
 simp only [Act.put,q1,q2,q3]
 refine L1 rfl (Oper.wp_store AgI rfl rfl rfl x12 rfl rfl (IsI.one (E.1)) ?_)
 intro w13 o13 y13
 replace E := (E.onl (x12.noW now0) ⟨trivial, okB (by omega), trivial, okB (by omega), trivial, okX (by omega), okX (by omega), okX (by omega), okW (by omega), trivial⟩ o13).b y13
 clear x12 o13 y13
 simp only [Act.put]
 refine wpList_nil ?_
 change Code.wp _ _ _ _ _
 refine wp_seq ?_
 -- region 7
 refine wp_region_lit ?_
 refine LV (v := .agg #[.bool n5, s5]) rfl (run_load_bx AgI rfl rfl (E.2.2.2.2.1) rfl) ?_
 simp only [Act.put,q1,q2,q3]
 refine LV (v := .agg #[.bool n8, s8]) rfl (run_load_bx AgI rfl rfl (E.2.2.1) rfl) ?_
 simp only [Act.put,q1,q2,q3]
 refine L1 rfl (Oper.wp_callI fn_integer_Add rfl (Add_z _ _ a b _ (E.2.2.2.2.2.1) (E.2.2.2.1) (Fits.mono Fa (by decide)) (Fits.mono Fb (by decide))) rfl E ?_)
 clear E
 intro w15 n15 s15 d15 E
 clear d15
 simp only [Act.put,q1,q2,q3]
 have F14 : Fits (a + b) 9 := Fits_add Fa Fb (k := 8) (by decide) (by decide)
 refine L1 rfl (Oper.wp_alloc AgI rfl ?_)
 intro b16 w16 e16 z16 d16 x16
 have l16_0 : b12 < b16 := by rw [e16]; exact Bx.lt (E.2.1)
 replace E := E.below d16
 clear e16 z16 d16
 simp only [Act.put,q1,q2,q3]
 refine L1 rfl (Oper.wp_store AgI rfl rfl rfl x16 rfl rfl (IsI.one (E.1)) ?_)
 intro w17 o17 y17
 replace E := (E.onl (x16.noW now0) ⟨trivial, okB (by omega), trivial, okB (by omega), trivial, okB (by omega), trivial, okX (by omega), okX (by omega), okX (by omega), okW (by omega), trivial⟩ o17).b y17
 clear x16 o17 y17
 simp only [Act.put]
 refine wpList_nil ?_
 change Code.wp _ _ _ _ _
 refine wp_seq ?_
 -- region 8
 refine wp_region_lit ?_
 refine LV (v := .agg #[.bool n5, s5]) rfl (run_load_bx AgI rfl rfl (E.2.2.2.2.2.2.1) rfl) ?_
 simp only [Act.put,q1,q2,q3]
 refine LV (v := .agg #[.bool n8, s8]) rfl (run_load_bx AgI rfl rfl (E.2.2.2.2.1) rfl) ?_
 simp only [Act.put,q1,q2,q3]
 refine L1 rfl (Oper.wp_callI fn_integer_Mul rfl (Mul_z _ _ a b _ (E.2.2.2.2.2.2.2.1) (E.2.2.2.2.2.1) (Fits.mono Fa (by decide)) (Fits.mono Fb (by decide))) rfl E ?_)
 clear E
 intro w19 n19 s19 d19 E
 clear d19
 simp only [Act.put,q1,q2,q3]
 have F18 : Fits (a * b) 16 := Fits_mul Fa Fb
 refine L1 rfl (Oper.wp_alloc AgI rfl ?_)
 intro b20 w20 e20 z20 d20 x20
 have l20_0 : b16 < b20 := by rw [e20]; exact Bx.lt (E.2.1)
 replace E := E.below d20
 clear e20 z20 d20
 simp only [Act.put,q1,q2,q3]
 refine L1 rfl (Oper.wp_store AgI rfl rfl rfl x20 rfl rfl (IsI.one (E.1)) ?_)
 intro w21 o21 y21
 replace E := (E.onl (x20.noW now0) ⟨trivial, okB (by omega), trivial, okB (by omega), trivial, okB (by omega), trivial, okB (by omega), trivial, okX (by omega), okX (by omega), okX (by omega), okW (by omega), trivial⟩ o21).b y21
 clear x20 o21 y21
 simp only [Act.put]
 refine wpList_nil ?_
 change Code.wp _ _ _ _ _
 refine wp_seq ?_
 -- region 9
 refine wp_region_lit ?_
 refine LV (v := .agg #[.bool n5, s5]) rfl (run_load_bx AgI rfl rfl (E.2.2.2.2.2.2.2.2.1) rfl) ?_
 simp only [Act.put,q1,q2,q3]
 refine LV (v := .agg #[.bool n8, s8]) rfl (run_load_bx AgI rfl rfl (E.2.2.2.2.2.2.1) rfl) ?_
 simp only [Act.put,q1,q2,q3]
 refine L1 rfl (Oper.wp_callI fn_integer_Sub rfl (Sub_z _ _ a b _ (E.2.2.2.2.2.2.2.2.2.1) (E.2.2.2.2.2.2.2.1) (Fits.mono Fa (by decide)) (Fits.mono Fb (by decide))) rfl E ?_)
 clear E
 intro w23 n23 s23 d23 E
 clear d23
 simp only [Act.put,q1,q2,q3]
 have F22 : Fits (a - b) 9 := Fits_sub Fa Fb (k := 8) (by decide) (by decide)
 refine L1 rfl (Oper.wp_alloc AgI rfl ?_)
 intro b24 w24 e24 z24 d24 x24
 have l24_0 : b20 < b24 := by rw [e24]; exact Bx.lt (E.2.1)
 replace E := E.below d24
 clear e24 z24 d24
 simp only [Act.put,q1,q2,q3]
 refine L1 rfl (Oper.wp_store AgI rfl rfl rfl x24 rfl rfl (IsI.one (E.1)) ?_)
 intro w25 o25 y25
 replace E := (E.onl (x24.noW now0) ⟨trivial, okB (by omega), trivial, okB (by omega), trivial, okB (by omega), trivial, okB (by omega), trivial, okB (by omega), trivial, okX (by omega), okX (by omega), okX (by omega), okW (by omega), trivial⟩ o25).b y25
 clear x24 o25 y25
 simp only [Act.put]
 refine wpList_nil ?_
 change Code.wp _ _ _ _ _
 refine wp_seq ?_
 refine wp_seq ?_
 -- region 10
 refine wp_schedE E ([0, 1, 2, 3, 4, 5, 6, 7, 8, 9, 10, 11, 12, 13, 14, 15, 16, 17, 18, 19, 20, 21, 22, 23, 24, 25, 26, 27, 28, 29, 30, 31, 33, 32, 34, 35, 36, 37, 38, 39, 40, 41, 42, 43, 44, 45]) (by kernel_rfl) (by kernel_rfl) (by kernel_rfl) (by kernel_rfl) (by intro d v c a w h; cases d <;> exact h) ?_
 replace E := E.drew
 refine SP (o := ⟨some 32, _, _, _, _, _⟩) (v := .agg #[.bool n15, s15]) rfl rfl rfl rfl (fun w hS => run_load_bx AgI rfl rfl (hS.2.2.2.2.1) rfl) ?_
 simp only [Act.put,q1,q2,q3]
 refine S1a (o := ⟨some 33, _, _, _, _, _⟩) rfl rfl rfl rfl (Oper.wp_callB fn_eref01_Valid rfl (RValid_z _ (a + b) _ (E.2.2.2.2.2.1)) rfl E ?_)
 clear E
 intro w26 d26 E
 clear d26
 refine ⟨E, ?_⟩
 simp only [Act.put,q1,q2,q3]
 refine SP (o := ⟨some 34, _, _, _, _, _⟩) (v := .bool false) rfl rfl rfl rfl (fun w hS => run_not (b := true) rfl rfl) ?_
 simp only [Act.put,q1,q2,q3]
 refine SP (o := ⟨some 35, _, _, _, _, _⟩) (v := .bool false) rfl rfl rfl rfl (fun w hS => run_move rfl rfl) ?_
 simp only [Act.put,q1,q2,q3]
 refine SP (o := ⟨some 36, _, _, _, _, _⟩) (v := .agg #[.bool n19, s19]) rfl rfl rfl rfl (fun w hS => run_load_bx AgI rfl rfl (hS.2.2.1) rfl) ?_
 simp only [Act.put,q1,q2,q3]
 refine S1a (o := ⟨some 37, _, _, _, _, _⟩) rfl rfl rfl rfl (Oper.wp_callB fn_eref01_Valid rfl (RValid_z _ (a * b) _ (E.2.2.2.1)) rfl E ?_)
 clear E
 intro w27 d27 E
 clear d27
 refine ⟨E, ?_⟩
 simp only [Act.put,q1,q2,q3]
 refine SP (o := ⟨some 38, _, _, _, _, _⟩) (v := .bool false) rfl rfl rfl rfl (fun w hS => run_not (b := true) rfl rfl) ?_
 simp only [Act.put,q1,q2,q3]
 refine SP (o := ⟨some 39, _, _, _, _, _⟩) (v := .bool false) rfl rfl rfl rfl (fun w hS => run_pick (b := false) rfl rfl rfl) ?_
 simp only [Act.put,q1,q2,q3]
 refine SP (o := ⟨some 40, _, _, _, _, _⟩) (v := .bool false) rfl rfl rfl rfl (fun w hS => run_move rfl rfl) ?_
 simp only [Act.put,q1,q2,q3]
 refine SP (o := ⟨some 41, _, _, _, _, _⟩) (v := .agg #[.bool n23, s23]) rfl rfl rfl rfl (fun w hS => run_load_bx AgI rfl rfl (hS.1) rfl) ?_
 simp only [Act.put,q1,q2,q3]
 refine S1a (o := ⟨some 42, _, _, _, _, _⟩) rfl rfl rfl rfl (Oper.wp_callB fn_eref01_Valid rfl (RValid_z _ (a - b) _ (E.2.1)) rfl E ?_)
 clear E
 intro w28 d28 E
 clear d28
 refine ⟨E, ?_⟩
 simp only [Act.put,q1,q2,q3]
 refine SP (o := ⟨some 43, _, _, _, _, _⟩) (v := .bool false) rfl rfl rfl rfl (fun w hS => run_not (b := true) rfl rfl) ?_
 simp only [Act.put,q1,q2,q3]
 refine SP (o := ⟨some 44, _, _, _, _, _⟩) (v := .bool false) rfl rfl rfl rfl (fun w hS => run_pick (b := false) rfl rfl rfl) ?_
 simp only [Act.put,q1,q2,q3]
 refine SP (o := ⟨some 45, _, _, _, _, _⟩) (v := .bool false) rfl rfl rfl rfl (fun w hS => run_move rfl rfl) ?_
 simp only [Act.put,q1,q2,q3]
 refine SP (o := ⟨some 46, _, _, _, _, _⟩) (v := .agg #[.bool n15, s15]) rfl rfl rfl rfl (fun w hS => run_load_bx AgI rfl rfl (hS.2.2.2.2.1) rfl) ?_
 simp only [Act.put,q1,q2,q3]
 refine SP (o := ⟨some 47, _, _, _, _, _⟩) (v := .agg #[.bool n8, s8]) rfl rfl rfl rfl (fun w hS => run_load_bx AgI rfl rfl (hS.2.2.2.2.2.2.2.2.1) rfl) ?_
 simp only [Act.put,q1,q2,q3]
 refine SP (o := ⟨some 48, _, _, _, _, _⟩) (v := .agg #[.bool n5, s5]) rfl rfl rfl rfl (fun w hS => run_load_bx AgI rfl rfl (hS.2.2.2.2.2.2.2.2.2.2.1) rfl) ?_
 simp only [Act.put,q1,q2,q3]
 refine S1a (o := ⟨some 49, _, _, _, _, _⟩) rfl rfl rfl rfl (Oper.wp_callI fn_integer_Add rfl (Add_z _ _ b a _ (E.2.2.2.2.2.2.2.2.2.1) (E.2.2.2.2.2.2.2.2.2.2.2.1) (Fits.mono Fb (by decide)) (Fits.mono Fa (by decide))) rfl E ?_)
 clear E
 intro w30 n30 s30 d30 E
 clear d30
 refine ⟨E.2, ?_⟩
 simp only [Act.put,q1,q2,q3]
 have F29 : Fits (b + a) 9 := Fits_add Fb Fa (k := 8) (by decide) (by decide)
 refine S1a (o := ⟨some 50, _, _, _, _, _⟩) rfl rfl rfl rfl (Oper.wp_callB fn_eref01_Same rfl (RSame_t _ _ (a + b) (b + a) _ (E.2.2.2.2.2.2.1) (E.1) (by first | omega | simp | grind)) rfl E ?_)
 clear E
 intro w31 d31 E
 clear d31
 refine ⟨E.2, ?_⟩
 simp only [Act.put,q1,q2,q3]
 refine SP (o := ⟨some 51, _, _, _, _, _⟩) (v := .bool false) rfl rfl rfl rfl (fun w hS => run_not (b := true) rfl rfl) ?_
 simp only [Act.put,q1,q2,q3]
 refine SP (o := ⟨some 52, _, _, _, _, _⟩) (v := .bool false) rfl rfl rfl rfl (fun w hS => run_pick (b := false) rfl rfl rfl) ?_
 simp only [Act.put,q1,q2,q3]
 refine SP (o := ⟨some 53, _, _, _, _, _⟩) (v := .bool false) rfl rfl rfl rfl (fun w hS => run_move rfl rfl) ?_
 simp only [Act.put,q1,q2,q3]
 refine SP (o := ⟨some 54, _, _, _, _, _⟩) (v := .agg #[.bool n19, s19]) rfl rfl rfl rfl (fun w hS => run_load_bx AgI rfl rfl (hS.2.2.1) rfl) ?_
 simp only [Act.put,q1,q2,q3]
 refine SP (o := ⟨some 55, _, _, _, _, _⟩) (v := .agg #[.bool n8, s8]) rfl rfl rfl rfl (fun w hS => run_load_bx AgI rfl rfl (hS.2.2.2.2.2.2.2.2.1) rfl) ?_
 simp only [Act.put,q1,q2,q3]
 refine SP (o := ⟨some 56, _, _, _, _, _⟩) (v := .agg #[.bool n5, s5]) rfl rfl rfl rfl (fun w hS => run_load_bx AgI rfl rfl (hS.2.2.2.2.2.2.2.2.2.2.1) rfl) ?_
 simp only [Act.put,q1,q2,q3]
 refine S1a (o := ⟨some 57, _, _, _, _, _⟩) rfl rfl rfl rfl (Oper.wp_callI fn_integer_Mul rfl (Mul_z _ _ b a _ (E.2.2.2.2.2.2.2.2.2.2.1) (E.2.2.2.2.2.2.2.2.2.2.2.2.1) (Fits.mono Fb (by decide)) (Fits.mono Fa (by decide))) rfl E ?_)
 clear E
 intro w33 n33 s33 d33 E
 clear d33
 refine ⟨E.2.2, ?_⟩
 simp only [Act.put,q1,q2,q3]
 have F32 : Fits (b * a) 16 := Fits_mul Fb Fa
 refine S1a (o := ⟨some 58, _, _, _, _, _⟩) rfl rfl rfl rfl (Oper.wp_callB fn_eref01_Same rfl (RSame_t _ _ (a * b) (b * a) _ (E.2.2.2.2.2.1) (E.1) (by first | omega | simp | grind)) rfl E ?_)
 clear E
 intro w34 d34 E
 clear d34
 refine ⟨E.2.2, ?_⟩
 simp only [Act.put,q1,q2,q3]
 refine SP (o := ⟨some 59, _, _, _, _, _⟩) (v := .bool false) rfl rfl rfl rfl (fun w hS => run_not (b := true) rfl rfl) ?_
 simp only [Act.put,q1,q2,q3]
 refine SP (o := ⟨some 60, _, _, _, _, _⟩) (v := .bool false) rfl rfl rfl rfl (fun w hS => run_pick (b := false) rfl rfl rfl) ?_
 simp only [Act.put,q1,q2,q3]
 refine SP (o := ⟨some 61, _, _, _, _, _⟩) (v := .bool false) rfl rfl rfl rfl (fun w hS => run_move rfl rfl) ?_
 simp only [Act.put,q1,q2,q3]
 refine SP (o := ⟨some 62, _, _, _, _, _⟩) (v := .agg #[.bool n8, s8]) rfl rfl rfl rfl (fun w hS => run_load_bx AgI rfl rfl (hS.2.2.2.2.2.2.2.2.1) rfl) ?_
 simp only [Act.put,q1,q2,q3]
 refine SP (o := ⟨some 63, _, _, _, _, _⟩) (v := .agg #[.bool n23, s23]) rfl rfl rfl rfl (fun w hS => run_load_bx AgI rfl rfl (hS.1) rfl) ?_
 simp only [Act.put,q1,q2,q3]
 refine SP (o := ⟨some 65, _, _, _, _, _⟩) (v := .agg #[.bool n5, s5]) rfl rfl rfl rfl (fun w hS => run_load_bx AgI rfl rfl (hS.2.2.2.2.2.2.2.2.2.2.1) rfl) ?_
 simp only [Act.put,q1,q2,q3]
 refine S1a (o := ⟨some 64, _, _, _, _, _⟩) rfl rfl rfl rfl (Oper.wp_callI fn_integer_Add rfl (Add_z _ _ b (a - b) _ (E.2.2.2.2.2.2.2.2.2.2.2.1) (E.2.2.2.1) (Fits.mono Fb (by decide)) (Fits.mono F22 (by decide))) rfl E ?_)
 clear E
 intro w36 n36 s36 d36 E
 clear d36
 refine ⟨E.2.2.2, ?_⟩
 simp only [Act.put,q1,q2,q3]
 have F35 : Fits (b + (a - b)) 10 := Fits_add Fb F22 (k := 9) (by decide) (by decide)
 refine S1a (o := ⟨some 66, _, _, _, _, _⟩) rfl rfl rfl rfl (Oper.wp_callB fn_eref01_Same rfl (RSame_t _ _ (b + (a - b)) a _ (E.1) (E.2.2.2.2.2.2.2.2.2.2.2.2.2.2.1) (by first | omega | simp | grind)) rfl E ?_)
 clear E
 intro w37 d37 E
 clear d37
 refine ⟨E.2.2.2, ?_⟩
 simp only [Act.put,q1,q2,q3]
 refine SP (o := ⟨some 67, _, _, _, _, _⟩) (v := .bool false) rfl rfl rfl rfl (fun w hS => run_not (b := true) rfl rfl) ?_
 simp only [Act.put,q1,q2,q3]
 refine SP (o := ⟨some 68, _, _, _, _, _⟩) (v := .bool false) rfl rfl rfl rfl (fun w hS => run_pick (b := false) rfl rfl rfl) ?_
 simp only [Act.put,q1,q2,q3]
 refine SP (o := ⟨some 69, _, _, _, _, _⟩) (v := .bool false) rfl rfl rfl rfl (fun w hS => run_move rfl rfl) ?_
 simp only [Act.put,q1,q2,q3]
 refine SP (o := ⟨some 70, _, _, _, _, _⟩) (v := .agg #[.bool n23, s23]) rfl rfl rfl rfl (fun w hS => run_load_bx AgI rfl rfl (hS.1) rfl) ?_
 simp only [Act.put,q1,q2,q3]
 refine SP (o := ⟨some 71, _, _, _, _, _⟩) (v := .agg #[.bool n5, s5]) rfl rfl rfl rfl (fun w hS => run_load_bx AgI rfl rfl (hS.2.2.2.2.2.2.2.2.2.2.1) rfl) ?_
 simp only [Act.put,q1,q2,q3]
 refine SP (o := ⟨some 72, _, _, _, _, _⟩) (v := .agg #[.bool n8, s8]) rfl rfl rfl rfl (fun w hS => run_load_bx AgI rfl rfl (hS.2.2.2.2.2.2.2.2.1) rfl) ?_
 simp only [Act.put,q1,q2,q3]
 refine S1a (o := ⟨some 73, _, _, _, _, _⟩) rfl rfl rfl rfl (Oper.wp_callI fn_integer_Neg rfl (Neg_z _ b _ (E.2.2.2.2.2.2.2.2.2.2.2.2.1) (Fits.mono Fb (by decide))) rfl E ?_)
 clear E
 intro w39 n39 s39 d39 E
 clear d39
 refine ⟨E.2.2.2.2, ?_⟩
 simp only [Act.put,q1,q2,q3]
 have F38 : Fits (-b) 8 := Fits_neg Fb
 refine S1a (o := ⟨some 74, _, _, _, _, _⟩) rfl rfl rfl rfl (Oper.wp_callI fn_integer_Add rfl (Add_z _ _ a (-b) _ (E.2.2.2.2.2.2.2.2.2.2.2.2.2.2.2.1) (E.1) (Fits.mono Fa (by decide)) (Fits.mono F38 (by decide))) rfl E ?_)
 clear E
 intro w41 n41 s41 d41 E
 clear d41
 refine ⟨E.2.2.2.2.2, ?_⟩
 simp only [Act.put,q1,q2,q3]
 have F40 : Fits (a + (-b)) 9 := Fits_add Fa F38 (k := 8) (by decide) (by decide)
 refine S1a (o := ⟨some 75, _, _, _, _, _⟩) rfl rfl rfl rfl (Oper.wp_callB fn_eref01_Same rfl (RSame_t _ _ (a - b) (a + (-b)) _ (E.2.2.2.2.2.2.1) (E.1) (by first | omega | simp | grind)) rfl E ?_)
 clear E
 intro w42 d42 E
 clear d42
 refine ⟨E.2.2.2.2.2, ?_⟩
 simp only [Act.put,q1,q2,q3]
 refine SP (o := ⟨some 76, _, _, _, _, _⟩) (v := .bool false) rfl rfl rfl rfl (fun w hS => run_not (b := true) rfl rfl) ?_
 simp only [Act.put,q1,q2,q3]
 refine SP (o := ⟨some 77, _, _, _, _, _⟩) (v := .bool false) rfl rfl rfl rfl (fun w hS => run_pick (b := false) rfl rfl rfl) ?_
 simp only [Act.put,q1,q2,q3]
 refine SN ?_
 change Code.wp _ _ _ _ _
 refine wp_cond_false rfl ?_
 refine wp_skip ?_
 change Code.wp _ _ _ _ _
 refine wp_seq ?_
 refine wp_seq ?_
 -- region 12
 refine wp_schedE E ([0, 1, 3, 4, 5, 2, 6, 7, 8, 9, 10, 11, 12, 14, 15, 16, 13, 17, 18, 19, 20, 21, 22, 23, 24, 26, 27, 29, 30, 25, 28, 31, 32, 33, 34, 35]) (by kernel_rfl) (by kernel_rfl) (by kernel_rfl) (by kernel_rfl) (by intro d v c a w h; cases d <;> exact h) ?_
 replace E := E.drew
 refine SP (o := ⟨some 78, _, _, _, _, _⟩) (v := .agg #[.bool n15, s15]) rfl rfl rfl rfl (fun w hS => run_load_bx AgI rfl rfl (hS.2.2.2.2.2.2.2.2.2.1) rfl) ?_
 simp only [Act.put,q1,q2,q3]
 refine SP (o := ⟨some 79, _, _, _, _, _⟩) (v := .agg #[.bool n11, s11]) rfl rfl rfl rfl (fun w hS => run_load_bx AgI rfl rfl (hS.2.2.2.2.2.2.2.2.2.2.2.1) rfl) ?_
 simp only [Act.put,q1,q2,q3]
 refine SP (o := ⟨some 81, _, _, _, _, _⟩) (v := .agg #[.bool n5, s5]) rfl rfl rfl rfl (fun w hS => run_load_bx AgI rfl rfl (hS.2.2.2.2.2.2.2.2.2.2.2.2.2.2.2.1) rfl) ?_
 simp only [Act.put,q1,q2,q3]
 refine SP (o := ⟨some 82, _, _, _, _, _⟩) (v := .agg #[.bool n8, s8]) rfl rfl rfl rfl (fun w hS => run_load_bx AgI rfl rfl (hS.2.2.2.2.2.2.2.2.2.2.2.2.2.1) rfl) ?_
 simp only [Act.put,q1,q2,q3]
 refine SP (o := ⟨some 83, _, _, _, _, _⟩) (v := .agg #[.bool n11, s11]) rfl rfl rfl rfl (fun w hS => run_load_bx AgI rfl rfl (hS.2.2.2.2.2.2.2.2.2.2.2.1) rfl) ?_
 simp only [Act.put,q1,q2,q3]
 refine S1a (o := ⟨some 80, _, _, _, _, _⟩) rfl rfl rfl rfl (Oper.wp_callI fn_integer_Add rfl (Add_z _ _ (a + b) c _ (E.2.2.2.2.2.2.2.2.2.2.1) (E.2.2.2.2.2.2.2.2.2.2.2.2.1) (Fits.mono F14 (by decide)) (Fits.mono Fc (by decide))) rfl E ?_)
 clear E
 intro w44 n44 s44 d44 E
 clear d44
 refine ⟨E.2, ?_⟩
 simp only [Act.put,q1,q2,q3]
 have F43 : Fits ((a + b) + c) 10 := Fits_add F14 Fc (k := 9) (by decide) (by decide)
 refine S1a (o := ⟨some 84, _, _, _, _, _⟩) rfl rfl rfl rfl (Oper.wp_callI fn_integer_Add rfl (Add_z _ _ b c _ (E.2.2.2.2.2.2.2.2.2.2.2.2.2.2.2.1) (E.2.2.2.2.2.2.2.2.2.2.2.2.2.1) (Fits.mono Fb (by decide)) (Fits.mono Fc (by decide))) rfl E ?_)
 clear E
 intro w46 n46 s46 d46 E
 clear d46
 refine ⟨E.2.2, ?_⟩
 simp only [Act.put,q1,q2,q3]
 have F45 : Fits (b + c) 9 := Fits_add Fb Fc (k := 8) (by decide) (by decide)
 refine S1a (o := ⟨some 85, _, _, _, _, _⟩) rfl rfl rfl rfl (Oper.wp_callI fn_integer_Add rfl (Add_z _ _ a (b + c) _ (E.2.2.2.2.2.2.2.2.2.2.2.2.2.2.2.2.2.2.1) (E.1) (Fits.mono Fa (by decide)) (Fits.mono F45 (by decide))) rfl E ?_)
 clear E
 intro w48 n48 s48 d48 E
 clear d48
 refine ⟨E.2.2.2, ?_⟩
 simp only [Act.put,q1,q2,q3]
 have F47 : Fits (a + (b + c)) 10 := Fits_add Fa F45 (k := 9) (by decide) (by decide)
 refine S1a (o := ⟨some 86, _, _, _, _, _⟩) rfl rfl rfl rfl (Oper.wp_callB fn_eref01_Same rfl (RSame_t _ _ ((a + b) + c) (a + (b + c)) _ (E.2.2.1) (E.1) (by first | omega | simp | grind)) rfl E ?_)
 clear E
 intro w49 d49 E
 clear d49
 refine ⟨E.2.2.2, ?_⟩
 simp only [Act.put,q1,q2,q3]
 refine SP (o := ⟨some 87, _, _, _, _, _⟩) (v := .bool false) rfl rfl rfl rfl (fun w hS => run_not (b := true) rfl rfl) ?_
 simp only [Act.put,q1,q2,q3]
 refine SP (o := ⟨some 88, _, _, _, _, _⟩) (v := .bool false) rfl rfl rfl rfl (fun w hS => run_move rfl rfl) ?_
 simp only [Act.put,q1,q2,q3]
 refine SP (o := ⟨some 89, _, _, _, _, _⟩) (v := .agg #[.bool n19, s19]) rfl rfl rfl rfl (fun w hS => run_load_bx AgI rfl rfl (hS.2.2.2.2.2.2.2.1) rfl) ?_
 simp only [Act.put,q1,q2,q3]
 refine SP (o := ⟨some 90, _, _, _, _, _⟩) (v := .agg #[.bool n11, s11]) rfl rfl rfl rfl (fun w hS => run_load_bx AgI rfl rfl (hS.2.2.2.2.2.2.2.2.2.2.2.1) rfl) ?_
 simp only [Act.put,q1,q2,q3]
 refine SP (o := ⟨some 92, _, _, _, _, _⟩) (v := .agg #[.bool n5, s5]) rfl rfl rfl rfl (fun w hS => run_load_bx AgI rfl rfl (hS.2.2.2.2.2.2.2.2.2.2.2.2.2.2.2.1) rfl) ?_
 simp only [Act.put,q1,q2,q3]
 refine SP (o := ⟨some 93, _, _, _, _, _⟩) (v := .agg #[.bool n8, s8]) rfl rfl rfl rfl (fun w hS => run_load_bx AgI rfl rfl (hS.2.2.2.2.2.2.2.2.2.2.2.2.2.1) rfl) ?_
 simp only [Act.put,q1,q2,q3]
 refine SP (o := ⟨some 94, _, _, _, _, _⟩) (v := .agg #[.bool n11, s11]) rfl rfl rfl rfl (fun w hS => run_load_bx AgI rfl rfl (hS.2.2.2.2.2.2.2.2.2.2.2.1) rfl) ?_
 simp only [Act.put,q1,q2,q3]
 refine S1a (o := ⟨some 91, _, _, _, _, _⟩) rfl rfl rfl rfl (Oper.wp_callI fn_integer_Mul rfl (Mul_z _ _ (a * b) c _ (E.2.2.2.2.2.2.2.2.2.2.2.1) (E.2.2.2.2.2.2.2.2.2.2.2.2.2.2.2.1) (Fits.mono F18 (by decide)) (Fits.mono Fc (by decide))) rfl E ?_)
 clear E
 intro w51 n51 s51 d51 E
 clear d51
 refine ⟨E.2.2.2.2, ?_⟩
 simp only [Act.put,q1,q2,q3]
 have F50 : Fits ((a * b) * c) 24 := Fits_mul F18 Fc
 refine S1a (o := ⟨some 95, _, _, _, _, _⟩) rfl rfl rfl rfl (Oper.wp_callI fn_integer_Mul rfl (Mul_z _ _ b c _ (E.2.2.2.2.2.2.2.2.2.2.2.2.2.2.2.2.2.2.1) (E.2.2.2.2.2.2.2.2.2.2.2.2.2.2.2.2.1) (Fits.mono Fb (by decide)) (Fits.mono Fc (by decide))) rfl E ?_)
 clear E
 intro w53 n53 s53 d53 E
 clear d53
 refine ⟨E.2.2.2.2.2, ?_⟩
 simp only [Act.put,q1,q2,q3]
 have F52 : Fits (b * c) 16 := Fits_mul Fb Fc
 refine S1a (o := ⟨some 96, _, _, _, _, _⟩) rfl rfl rfl rfl (Oper.wp_callI fn_integer_Mul rfl (Mul_z _ _ a (b * c) _ (E.2.2.2.2.2.2.2.2.2.2.2.2.2.2.2.2.2.2.2.2.2.1) (E.1) (Fits.mono Fa (by decide)) (Fits.mono F52 (by decide))) rfl E ?_)
 clear E
 intro w55 n55 s55 d55 E
 clear d55
 refine ⟨E.2.2.2.2.2.2, ?_⟩
 simp only [Act.put,q1,q2,q3]
 have F54 : Fits (a * (b * c)) 24 := Fits_mul Fa F52
 refine S1a (o := ⟨some 97, _, _, _, _, _⟩) rfl rfl rfl rfl (Oper.wp_callB fn_eref01_Same rfl (RSame_t _ _ ((a * b) * c) (a * (b * c)) _ (E.2.2.1) (E.1) (by first | omega | simp | grind)) rfl E ?_)
 clear E
 intro w56 d56 E
 clear d56
 refine ⟨E.2.2.2.2.2.2, ?_⟩
 simp only [Act.put,q1,q2,q3]
 refine SP (o := ⟨some 98, _, _, _, _, _⟩) (v := .bool false) rfl rfl rfl rfl (fun w hS => run_not (b := true) rfl rfl) ?_
 simp only [Act.put,q1,q2,q3]
 refine SP (o := ⟨some 99, _, _, _, _, _⟩) (v := .bool false) rfl rfl rfl rfl (fun w hS => run_pick (b := false) rfl rfl rfl) ?_
 simp only [Act.put,q1,q2,q3]
 refine SP (o := ⟨some 100, _, _, _, _, _⟩) (v := .bool false) rfl rfl rfl rfl (fun w hS => run_move rfl rfl) ?_
 simp only [Act.put,q1,q2,q3]
 refine SP (o := ⟨some 101, _, _, _, _, _⟩) (v := .agg #[.bool n15, s15]) rfl rfl rfl rfl (fun w hS => run_load_bx AgI rfl rfl (hS.2.2.2.2.2.2.2.2.2.1) rfl) ?_
 simp only [Act.put,q1,q2,q3]
 refine SP (o := ⟨some 102, _, _, _, _, _⟩) (v := .agg #[.bool n11, s11]) rfl rfl rfl rfl (fun w hS => run_load_bx AgI rfl rfl (hS.2.2.2.2.2.2.2.2.2.2.2.1) rfl) ?_
 simp only [Act.put,q1,q2,q3]
 refine SP (o := ⟨some 104, _, _, _, _, _⟩) (v := .agg #[.bool n5, s5]) rfl rfl rfl rfl (fun w hS => run_load_bx AgI rfl rfl (hS.2.2.2.2.2.2.2.2.2.2.2.2.2.2.2.1) rfl) ?_
 simp only [Act.put,q1,q2,q3]
 refine SP (o := ⟨some 105, _, _, _, _, _⟩) (v := .agg #[.bool n11, s11]) rfl rfl rfl rfl (fun w hS => run_load_bx AgI rfl rfl (hS.2.2.2.2.2.2.2.2.2.2.2.1) rfl) ?_
 simp only [Act.put,q1,q2,q3]
 refine SP (o := ⟨some 107, _, _, _, _, _⟩) (v := .agg #[.bool n8, s8]) rfl rfl rfl rfl (fun w hS => run_load_bx AgI rfl rfl (hS.2.2.2.2.2.2.2.2.2.2.2.2.2.1) rfl) ?_
 simp only [Act.put,q1,q2,q3]
 refine SP (o := ⟨some 108, _, _, _, _, _⟩) (v := .agg #[.bool n11, s11]) rfl rfl rfl rfl (fun w hS => run_load_bx AgI rfl rfl (hS.2.2.2.2.2.2.2.2.2.2.2.1) rfl) ?_
 simp only [Act.put,q1,q2,q3]
 refine S1a (o := ⟨some 103, _, _, _, _, _⟩) rfl rfl rfl rfl (Oper.wp_callI fn_integer_Mul rfl (Mul_z _ _ (a + b) c _ (E.2.2.2.2.2.2.2.2.2.2.2.2.2.2.2.2.1) (E.2.2.2.2.2.2.2.2.2.2.2.2.2.2.2.2.2.2.1) (Fits.mono F14 (by decide)) (Fits.mono Fc (by decide))) rfl E ?_)
 clear E
 intro w58 n58 s58 d58 E
 clear d58
 refine ⟨E.2.2.2.2.2.2.2, ?_⟩
 simp only [Act.put,q1,q2,q3]
 have F57 : Fits ((a + b) * c) 17 := Fits_mul F14 Fc
 refine S1a (o := ⟨some 106, _, _, _, _, _⟩) rfl rfl rfl rfl (Oper.wp_callI fn_integer_Mul rfl (Mul_z _ _ a c _ (E.2.2.2.2.2.2.2.2.2.2.2.2.2.2.2.2.2.2.2.2.2.2.2.1) (E.2.2.2.2.2.2.2.2.2.2.2.2.2.2.2.2.2.2.2.1) (Fits.mono Fa (by decide)) (Fits.mono Fc (by decide))) rfl E ?_)
 clear E
 intro w60 n60 s60 d60 E
 clear d60
 refine ⟨E.2.2.2.2.2.2.2.2, ?_⟩
 simp only [Act.put,q1,q2,q3]
 have F59 : Fits (a * c) 16 := Fits_mul Fa Fc
 refine S1a (o := ⟨some 109, _, _, _, _, _⟩) rfl rfl rfl rfl (Oper.wp_callI fn_integer_Mul rfl (Mul_z _ _ b c _ (E.2.2.2.2.2.2.2.2.2.2.2.2.2.2.2.2.2.2.2.2.2.2.1) (E.2.2.2.2.2.2.2.2.2.2.2.2.2.2.2.2.2.2.2.2.1) (Fits.mono Fb (by decide)) (Fits.mono Fc (by decide))) rfl E ?_)
 clear E
 intro w61 n61 s61 d61 E
 clear d61
 refine ⟨E.2.2.2.2.2.2.2.2.2, ?_⟩
 simp only [Act.put,q1,q2,q3]
 refine S1a (o := ⟨some 110, _, _, _, _, _⟩) rfl rfl rfl rfl (Oper.wp_callI fn_integer_Add rfl (Add_z _ _ (a * c) (b * c) _ (E.2.1) (E.1) (Fits.mono F59 (by decide)) (Fits.mono F52 (by decide))) rfl E ?_)
 clear E
 intro w63 n63 s63 d63 E
 clear d63
 refine ⟨E.2.2.2.2.2.2.2.2.2.2, ?_⟩
 simp only [Act.put,q1,q2,q3]
 have F62 : Fits ((a * c) + (b * c)) 17 := Fits_add F59 F52 (k := 16) (by decide) (by decide)
 refine S1a (o := ⟨some 111, _, _, _, _, _⟩) rfl rfl rfl rfl (Oper.wp_callB fn_eref01_Same rfl (RSame_t _ _ ((a + b) * c) ((a * c) + (b * c)) _ (E.2.2.2.1) (E.1) (by first | omega | simp | grind)) rfl E ?_)
 clear E
 intro w64 d64 E
 clear d64
 refine ⟨E.2.2.2.2.2.2.2.2.2.2, ?_⟩
 simp only [Act.put,q1,q2,q3]
 refine SP (o := ⟨some 112, _, _, _, _, _⟩) (v := .bool false) rfl rfl rfl rfl (fun w hS => run_not (b := true) rfl rfl) ?_
 simp only [Act.put,q1,q2,q3]
 refine SP (o := ⟨some 113, _, _, _, _, _⟩) (v := .bool false) rfl rfl rfl rfl (fun w hS => run_pick (b := false) rfl rfl rfl) ?_
 simp only [Act.put,q1,q2,q3]
 refine SN ?_
 change Code.wp _ _ _ _ _
 refine wp_cond_false rfl ?_
 refine wp_skip ?_
 change Code.wp _ _ _ _ _
 refine wp_seq ?_
 -- region 14
 refine wp_schedE E ([0, 1, 2, 5, 3, 4, 6, 7, 8, 9, 12, 10, 11, 13, 14, 15, 16, 17, 18, 19, 20, 21, 22, 23, 26, 24, 25, 27, 28, 29, 30, 31, 32, 33, 34, 35, 36, 37]) (by kernel_rfl) (by kernel_rfl) (by kernel_rfl) (by kernel_rfl) (by intro d v c a w h; cases d <;> exact h) ?_
 replace E := E.drew
 refine SP (o := ⟨some 114, _, _, _, _, _⟩) (v := .bool true) rfl rfl rfl rfl (fun w hS => run_move rfl rfl) ?_
 simp only [Act.put,q1,q2,q3]
 refine SP (o := ⟨some 115, _, _, _, _, _⟩) (v := .bool true) rfl rfl rfl rfl (fun w hS => run_move rfl rfl) ?_
 simp only [Act.put,q1,q2,q3]
 refine SP (o := ⟨some 116, _, _, _, _, _⟩) (v := .agg #[.bool n5, s5]) rfl rfl rfl rfl (fun w hS => run_load_bx AgI rfl rfl (hS.2.2.2.2.2.2.2.2.2.2.2.2.2.2.2.2.2.2.2.2.2.2.2.2.2.1) rfl) ?_
 simp only [Act.put,q1,q2,q3]
 refine SP (o := ⟨some 119, _, _, _, _, _⟩) (v := .agg #[.bool n5, s5]) rfl rfl rfl rfl (fun w hS => run_load_bx AgI rfl rfl (hS.2.2.2.2.2.2.2.2.2.2.2.2.2.2.2.2.2.2.2.2.2.2.2.2.2.1) rfl) ?_
 simp only [Act.put,q1,q2,q3]
 refine S1a (o := ⟨some 117, _, _, _, _, _⟩) rfl rfl rfl rfl (Oper.wp_callI fn_elaw01_of rfl (of_z 0 _ (by decide) (by decide)) rfl E ?_)
 clear E
 intro w65 n65 s65 d65 E
 clear d65
 refine ⟨E.2, ?_⟩
 simp only [Act.put,q1,q2,q3]
 refine S1a (o := ⟨some 118, _, _, _, _, _⟩) rfl rfl rfl rfl (Oper.wp_callI fn_integer_Add rfl (Add_z _ _ a 0 _ (E.2.2.2.2.2.2.2.2.2.2.2.2.2.2.2.2.2.2.2.2.2.2.2.2.2.2.2.1) (E.1) (Fits.mono Fa (by decide)) (Fits.mono (Fits_lt (m := 4) (by decide) : Fits 0 4) (by decide))) rfl E ?_)
 clear E
 intro w67 n67 s67 d67 E
 clear d67
 refine ⟨E.2.2, ?_⟩
 simp only [Act.put,q1,q2,q3]
 have F66 : Fits (a + 0) 9 := Fits_add Fa (Fits_lt (m := 4) (by decide) : Fits 0 4) (k := 8) (by decide) (by decide)
 refine S1a (o := ⟨some 120, _, _, _, _, _⟩) rfl rfl rfl rfl (Oper.wp_callB fn_eref01_Same rfl (RSame_t _ _ (a + 0) a _ (E.1) (E.2.2.2.2.2.2.2.2.2.2.2.2.2.2.2.2.2.2.2.2.2.2.2.2.2.2.2.2.1) (by first | omega | simp | grind)) rfl E ?_)
 clear E
 intro w68 d68 E
 clear d68
 refine ⟨E.2.2, ?_⟩
 simp only [Act.put,q1,q2,q3]
 refine SP (o := ⟨some 121, _, _, _, _, _⟩) (v := .bool true) rfl rfl rfl rfl (fun w hS => run_pick (b := true) rfl rfl rfl) ?_
 simp only [Act.put,q1,q2,q3]
 refine SP (o := ⟨some 122, _, _, _, _, _⟩) (v := .bool true) rfl rfl rfl rfl (fun w hS => run_move rfl rfl) ?_
 simp only [Act.put,q1,q2,q3]
 refine SP (o := ⟨some 123, _, _, _, _, _⟩) (v := .agg #[.bool n5, s5]) rfl rfl rfl rfl (fun w hS => run_load_bx AgI rfl rfl (hS.2.2.2.2.2.2.2.2.2.2.2.2.2.2.2.2.2.2.2.2.2.2.2.2.2.1) rfl) ?_
 simp only [Act.put,q1,q2,q3]
 refine SP (o := ⟨some 126, _, _, _, _, _⟩) (v := .agg #[.bool n5, s5]) rfl rfl rfl rfl (fun w hS => run_load_bx AgI rfl rfl (hS.2.2.2.2.2.2.2.2.2.2.2.2.2.2.2.2.2.2.2.2.2.2.2.2.2.1) rfl) ?_
 simp only [Act.put,q1,q2,q3]
 refine S1a (o := ⟨some 124, _, _, _, _, _⟩) rfl rfl rfl rfl (Oper.wp_callI fn_elaw01_of rfl (of_z 1 _ (by decide) (by decide)) rfl E ?_)
 clear E
 intro w69 n69 s69 d69 E
 clear d69
 refine ⟨E.2.2.2, ?_⟩
 simp only [Act.put,q1,q2,q3]
 refine S1a (o := ⟨some 125, _, _, _, _, _⟩) rfl rfl rfl rfl (Oper.wp_callI fn_integer_Mul rfl (Mul_z _ _ a 1 _ (E.2.2.2.2.2.2.2.2.2.2.2.2.2.2.2.2.2.2.2.2.2.2.2.2.2.2.2.2.2.1) (E.1) (Fits.mono Fa (by decide)) (Fits.mono (Fits_lt (m := 4) (by decide) : Fits 1 4) (by decide))) rfl E ?_)
 clear E
 intro w71 n71 s71 d71 E
 clear d71
 refine ⟨E.2.2.2.2, ?_⟩
 simp only [Act.put,q1,q2,q3]
 have F70 : Fits (a * 1) 12 := Fits_mul Fa (Fits_lt (m := 4) (by decide) : Fits 1 4)
 refine S1a (o := ⟨some 127, _, _, _, _, _⟩) rfl rfl rfl rfl (Oper.wp_callB fn_eref01_Same rfl (RSame_t _ _ (a * 1) a _ (E.1) (E.2.2.2.2.2.2.2.2.2.2.2.2.2.2.2.2.2.2.2.2.2.2.2.2.2.2.2.2.2.2.1) (by first | omega | simp | grind)) rfl E ?_)
 clear E
 intro w72 d72 E
 clear d72
 refine ⟨E.2.2.2.2, ?_⟩
 simp only [Act.put,q1,q2,q3]
 refine SP (o := ⟨some 128, _, _, _, _, _⟩) (v := .bool true) rfl rfl rfl rfl (fun w hS => run_pick (b := true) rfl rfl rfl) ?_
 simp only [Act.put,q1,q2,q3]
 refine SP (o := ⟨some 129, _, _, _, _, _⟩) (v := .bool true) rfl rfl rfl rfl (fun w hS => run_move rfl rfl) ?_
 simp only [Act.put,q1,q2,q3]
 refine SP (o := ⟨some 130, _, _, _, _, _⟩) (v := .agg #[.bool n5, s5]) rfl rfl rfl rfl (fun w hS => run_load_bx AgI rfl rfl (hS.2.2.2.2.2.2.2.2.2.2.2.2.2.2.2.2.2.2.2.2.2.2.2.2.2.1) rfl) ?_
 simp only [Act.put,q1,q2,q3]
 refine S1a (o := ⟨some 131, _, _, _, _, _⟩) rfl rfl rfl rfl (Oper.wp_callI fn_elaw01_of rfl (of_z 0 _ (by decide) (by decide)) rfl E ?_)
 clear E
 intro w73 n73 s73 d73 E
 clear d73
 refine ⟨E.2.2.2.2.2, ?_⟩
 simp only [Act.put,q1,q2,q3]
 refine S1a (o := ⟨some 132, _, _, _, _, _⟩) rfl rfl rfl rfl (Oper.wp_callI fn_integer_Mul rfl (Mul_z _ _ a 0 _ (E.2.2.2.2.2.2.2.2.2.2.2.2.2.2.2.2.2.2.2.2.2.2.2.2.2.2.2.2.2.2.2.1) (E.1) (Fits.mono Fa (by decide)) (Fits.mono (Fits_lt (m := 4) (by decide) : Fits 0 4) (by decide))) rfl E ?_)
 clear E
 intro w75 n75 s75 d75 E
 clear d75
 refine ⟨E.2.2.2.2.2.2, ?_⟩
 simp only [Act.put,q1,q2,q3]
 have F74 : Fits (a * 0) 12 := Fits_mul Fa (Fits_lt (m := 4) (by decide) : Fits 0 4)
 refine S1a (o := ⟨some 133, _, _, _, _, _⟩) rfl rfl rfl rfl (Oper.wp_callI fn_elaw01_of rfl (of_z 0 _ (by decide) (by decide)) rfl E ?_)
 clear E
 intro w76 n76 s76 d76 E
 clear d76
 refine ⟨E.2.2.2.2.2.2.2, ?_⟩
 simp only [Act.put,q1,q2,q3]
 refine S1a (o := ⟨some 134, _, _, _, _, _⟩) rfl rfl rfl rfl (Oper.wp_callB fn_eref01_Same rfl (RSame_t _ _ (a * 0) 0 _ (E.2.1) (E.1) (by first | omega | simp | grind)) rfl E ?_)
 clear E
 intro w77 d77 E
 clear d77
 refine ⟨E.2.2.2.2.2.2.2, ?_⟩
 simp only [Act.put,q1,q2,q3]
 refine SP (o := ⟨some 135, _, _, _, _, _⟩) (v := .bool true) rfl rfl rfl rfl (fun w hS => run_pick (b := true) rfl rfl rfl) ?_
 simp only [Act.put,q1,q2,q3]
 refine SP (o := ⟨some 136, _, _, _, _, _⟩) (v := .bool true) rfl rfl rfl rfl (fun w hS => run_move rfl rfl) ?_
 simp only [Act.put,q1,q2,q3]
 refine SP (o := ⟨some 137, _, _, _, _, _⟩) (v := .agg #[.bool n5, s5]) rfl rfl rfl rfl (fun w hS => run_load_bx AgI rfl rfl (hS.2.2.2.2.2.2.2.2.2.2.2.2.2.2.2.2.2.2.2.2.2.2.2.2.2.1) rfl) ?_
 simp only [Act.put,q1,q2,q3]
 refine SP (o := ⟨some 140, _, _, _, _, _⟩) (v := .agg #[.bool n5, s5]) rfl rfl rfl rfl (fun w hS => run_load_bx AgI rfl rfl (hS.2.2.2.2.2.2.2.2.2.2.2.2.2.2.2.2.2.2.2.2.2.2.2.2.2.1) rfl) ?_
 simp only [Act.put,q1,q2,q3]
 refine S1a (o := ⟨some 138, _, _, _, _, _⟩) rfl rfl rfl rfl (Oper.wp_callI fn_elaw01_of rfl (of_z (-1) _ (by decide) (by decide)) rfl E ?_)
 clear E
 intro w78 n78 s78 d78 E
 clear d78
 refine ⟨E.2.2.2.2.2.2.2.2, ?_⟩
 simp only [Act.put,q1,q2,q3]
 refine S1a (o := ⟨some 139, _, _, _, _, _⟩) rfl rfl rfl rfl (Oper.wp_callI fn_integer_Mul rfl (Mul_z _ _ a (-1) _ (E.2.2.2.2.2.2.2.2.2.2.2.2.2.2.2.2.2.2.2.2.2.2.2.2.2.2.2.2.2.2.2.2.2.2.1) (E.1) (Fits.mono Fa (by decide)) (Fits.mono (Fits_lt (m := 4) (by decide) : Fits (-1) 4) (by decide))) rfl E ?_)
 clear E
 intro w80 n80 s80 d80 E
 clear d80
 refine ⟨E.2.2.2.2.2.2.2.2.2, ?_⟩
 simp only [Act.put,q1,q2,q3]
 have F79 : Fits (a * (-1)) 12 := Fits_mul Fa (Fits_lt (m := 4) (by decide) : Fits (-1) 4)
 refine S1a (o := ⟨some 141, _, _, _, _, _⟩) rfl rfl rfl rfl (Oper.wp_callI fn_integer_Neg rfl (Neg_z _ a _ (E.2.2.2.2.2.2.2.2.2.2.2.2.2.2.2.2.2.2.2.2.2.2.2.2.2.2.2.2.2.2.2.2.2.2.2.1) (Fits.mono Fa (by decide))) rfl E ?_)
 clear E
 intro w82 n82 s82 d82 E
 clear d82
 refine ⟨E.2.2.2.2.2.2.2.2.2.2, ?_⟩
 simp only [Act.put,q1,q2,q3]
 have F81 : Fits (-a) 8 := Fits_neg Fa
 refine S1a (o := ⟨some 142, _, _, _, _, _⟩) rfl rfl rfl rfl (Oper.wp_callB fn_eref01_Same rfl (RSame_t _ _ (a * (-1)) (-a) _ (E.2.1) (E.1) (by first | omega | simp | grind)) rfl E ?_)
 clear E
 intro w83 d83 E
 clear d83
 refine ⟨E.2.2.2.2.2.2.2.2.2.2, ?_⟩
 simp only [Act.put,q1,q2,q3]
 refine SP (o := ⟨some 143, _, _, _, _, _⟩) (v := .bool true) rfl rfl rfl rfl (fun w hS => run_pick (b := true) rfl rfl rfl) ?_
 simp only [Act.put,q1,q2,q3]
 refine SP (o := ⟨some 144, _, _, _, _, _⟩) (v := .bool true) rfl rfl rfl rfl (fun w hS => run_move rfl rfl) ?_
 simp only [Act.put,q1,q2,q3]
 refine SP (o := ⟨some 145, _, _, _, _, _⟩) (v := .agg #[.bool n5, s5]) rfl rfl rfl rfl (fun w hS => run_load_bx AgI rfl rfl (hS.2.2.2.2.2.2.2.2.2.2.2.2.2.2.2.2.2.2.2.2.2.2.2.2.2.1) rfl) ?_
 simp only [Act.put,q1,q2,q3]
 refine SP (o := ⟨some 146, _, _, _, _, _⟩) (v := .agg #[.bool n5, s5]) rfl rfl rfl rfl (fun w hS => run_load_bx AgI rfl rfl (hS.2.2.2.2.2.2.2.2.2.2.2.2.2.2.2.2.2.2.2.2.2.2.2.2.2.1) rfl) ?_
 simp only [Act.put,q1,q2,q3]
 refine S1a (o := ⟨some 147, _, _, _, _, _⟩) rfl rfl rfl rfl (Oper.wp_callI fn_integer_Sub rfl (Sub_z _ _ a a _ (E.2.2.2.2.2.2.2.2.2.2.2.2.2.2.2.2.2.2.2.2.2.2.2.2.2.2.2.2.2.2.2.2.2.2.2.2.1) (E.2.2.2.2.2.2.2.2.2.2.2.2.2.2.2.2.2.2.2.2.2.2.2.2.2.2.2.2.2.2.2.2.2.2.2.2.1) (Fits.mono Fa (by decide)) (Fits.mono Fa (by decide))) rfl E ?_)
 clear E
 intro w85 n85 s85 d85 E
 clear d85
 refine ⟨E.2.2.2.2.2.2.2.2.2.2.2, ?_⟩
 simp only [Act.put,q1,q2,q3]
 have F84 : Fits (a - a) 9 := Fits_sub Fa Fa (k := 8) (by decide) (by decide)
 refine S1a (o := ⟨some 148, _, _, _, _, _⟩) rfl rfl rfl rfl (Oper.wp_callI fn_elaw01_of rfl (of_z 0 _ (by decide) (by decide)) rfl E ?_)
 clear E
 intro w86 n86 s86 d86 E
 clear d86
 refine ⟨E.2.2.2.2.2.2.2.2.2.2.2.2, ?_⟩
 simp only [Act.put,q1,q2,q3]
 refine S1a (o := ⟨some 149, _, _, _, _, _⟩) rfl rfl rfl rfl (Oper.wp_callB fn_eref01_Same rfl (RSame_t _ _ (a - a) 0 _ (E.2.1) (E.1) (by first | omega | simp | grind)) rfl E ?_)
 clear E
 intro w87 d87 E
 clear d87
 refine ⟨E.2.2.2.2.2.2.2.2.2.2.2.2, ?_⟩
 simp only [Act.put,q1,q2,q3]
 refine SP (o := ⟨some 150, _, _, _, _, _⟩) (v := .bool true) rfl rfl rfl rfl (fun w hS => run_pick (b := true) rfl rfl rfl) ?_
 simp only [Act.put,q1,q2,q3]
 refine SP (o := ⟨some 6, _, _, _, _, _⟩) (v := .bool true) rfl rfl rfl rfl (fun w hS => run_assign rfl rfl) ?_
 simp only [Act.put,q1,q2,q3]
 refine SN ?_
 change Code.wp _ _ _ _ _
 refine wp_ret ?_
 exact bodyPost_ret (v := .bool true) (by simp [results, Try.results4, asAddr]) rfl ⟨rfl, E.2.2.2.2.2.2.2.2.2.2.2.2.2.2.2.2.2.2.2.2.2.2.2.2.2.2.2.2.2.2.2.2.2.2.2.2.2.2.2.2.2.2.1⟩
end Go.Proofs.Ytjgmfdenicbniaa
