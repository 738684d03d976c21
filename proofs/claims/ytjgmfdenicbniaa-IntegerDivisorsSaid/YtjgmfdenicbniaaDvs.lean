/- Walk: the law IntegerDivisors. (Printed by g_divisors.py.) -/
import Derived.Test.YtjgmfdenicbniaaDvsA
namespace Go.Proofs.Ytjgmfdenicbniaa
open Go.RowKit W
set_option maxRecDepth 100000 in
set_option maxHeartbeats 8000000 in
theorem dvs_t  (na : Bool) (sa : Value) (la : List Nat) (nb : Bool) (sb : Value) (lb : List Nat) (nc : Bool) (sc : Value) (lc : List Nat)  (w : World)  (hsa : Sl w sa la) (hsb : Sl w sb lb) (hsc : Sl w sc lc) :
    Calls Try.prog 12 #[.agg #[.bool na, sa], .agg #[.bool nb, sb], .agg #[.bool nc, sc]] w (RetB w true) := by
 have E := Env.start w
 obtain ⟨a, ha⟩ : ∃ z, mkI na la 6 = z := ⟨_, rfl⟩
 have Fa : Fits a 6 := by rw [← ha]; exact mkI_fits hsa.wd
 obtain ⟨b, hb⟩ : ∃ z, mkI nb lb 6 = z := ⟨_, rfl⟩
 have Fb : Fits b 6 := by rw [← hb]; exact mkI_fits hsb.wd
 obtain ⟨c, hc⟩ : ∃ z, mkI nc lc 4 = z := ⟨_, rfl⟩
 have Fc : Fits c 4 := by rw [← hc]; exact mkI_fits hsc.wd
 go_enter Try.func12, Try.ntmps12
 refine wp_seq ?_
 -- region 0
 refine wp_region_lit ?_
 refine L1 rfl (Oper.wp_box (cs := [.bool na, sa]) rfl rfl ?_)
 intro b1 w1 e1 z1 d1 x1
 have l1 : w.heap.size ≤ b1 := by rw [e1]; exact (E.1).size
 replace E := E.below d1
 clear e1 z1 d1
 replace E := E.x x1
 clear x1
 simp only [Act.put,q1,q2,q3]
 refine L1 rfl (Oper.wp_box (cs := [.bool nb, sb]) rfl rfl ?_)
 intro b2 w2 e2 z2 d2 x2
 have l2_0 : b1 < b2 := by rw [e2]; exact Bx.lt (E.1)
 replace E := E.below d2
 clear e2 z2 d2
 replace E := E.x x2
 clear x2
 simp only [Act.put,q1,q2,q3]
 refine L1 rfl (Oper.wp_box (cs := [.bool nc, sc]) rfl rfl ?_)
 intro b3 w3 e3 z3 d3 x3
 have l3_0 : b2 < b3 := by rw [e3]; exact Bx.lt (E.1)
 replace E := E.below d3
 clear e3 z3 d3
 replace E := E.x x3
 clear x3
 simp only [Act.put,q1,q2,q3]
 refine LV (v := .bool false) rfl (run_assign rfl rfl) ?_
 simp only [Act.put,q1,q2,q3]
 refine wpList_nil ?_
 change Code.wp _ _ _ _ _
 refine wp_seq ?_
 -- region 1
 refine wp_region_lit ?_
 refine L1 rfl (Oper.wp_callB fn_elaw01_sanity rfl (sanity_t _) rfl E ?_)
 clear E
 intro w4 d4 E
 clear d4
 simp only [Act.put,q1,q2,q3]
 refine LV (v := .bool true) rfl (run_assign rfl rfl) ?_
 simp only [Act.put,q1,q2,q3]
 refine wpList_nil ?_
 change Code.wp _ _ _ _ _
 refine wp_seq ?_
 refine wp_seq ?_
 -- region 2
 refine wp_region_lit ?_
 refine LV (v := .bool true) rfl (run_move rfl rfl) ?_
 simp only [Act.put,q1,q2,q3]
 refine LV (v := .bool false) rfl (run_not (b := true) rfl rfl) ?_
 simp only [Act.put,q1,q2,q3]
 refine wpList_nil ?_
 change Code.wp _ _ _ _ _
 refine wp_cond_false rfl ?_
 refine wp_skip ?_
 change Code.wp _ _ _ _ _
 refine wp_seq ?_
 -- region 4
 refine wp_region_lit ?_
 refine LV (v := .agg #[.bool nc, sc]) rfl (run_load_bx AgRaw rfl rfl (E.1) rfl) ?_
 simp only [Act.put,q1,q2,q3]
 refine L1 rfl (Oper.wp_callI fn_eref01_Made rfl (Made_is nc sc lc 4 _ (Sl.below hsc (E.2.2.2.1)) (by decide) hc) rfl E ?_)
 clear E
 intro w5 n5 s5 d5 E
 clear d5
 simp only [Act.put,q1,q2,q3]
 refine L1 rfl (Oper.wp_alloc AgI rfl ?_)
 intro b6 w6 e6 z6 d6 x6
 have l6_0 : b3 < b6 := by rw [e6]; exact Bx.lt (E.2.1)
 replace E := E.below d6
 clear e6 z6 d6
 simp only [Act.put,q1,q2,q3]
 refine L1 rfl (Oper.wp_store AgI rfl rfl rfl x6 rfl rfl (IsI.one (E.1)) ?_)
 intro w7 o7 y7
 replace E := (E.onl (x6.noW now0) ⟨trivial, okX (by omega), okX (by omega), okX (by omega), okW (by omega), trivial⟩ o7).b y7
 clear x6 o7 y7
 simp only [Act.put]
 refine wpList_nil ?_
 change Code.wp _ _ _ _ _
 refine wp_seq ?_
 -- region 5
 refine wp_cut (fun az w' => ∃ (nF1 : Bool) (sF1 : Value) (nF3 : Bool) (sF3 : Value) (bF4 : Nat), az = ⟨#[.agg #[.bool na, sa], .agg #[.bool nb, sb], .agg #[.bool nc, sc], .pointer (some ⟨b1, 0, none⟩), .pointer (some ⟨b2, 0, none⟩), .pointer (some ⟨b3, 0, none⟩), .bool false, .bool true, .pointer (some ⟨b6, 0, none⟩), .pointer (some ⟨bF4, 0, none⟩), undef, undef, undef, undef, undef, undef, undef, undef, .bool true, .bool true, .bool false, .agg #[.bool nc, sc], .agg #[.bool n5, s5], .agg #[.bool na, sa], .agg #[.bool nF1, sF1], .agg #[.bool n5, s5], .agg #[.bool nF3, sF3], undef, undef, undef, undef, undef, undef, undef, undef, undef, undef, undef, undef, undef, undef, undef, undef, undef, undef, undef, undef, undef, undef, undef, undef, undef, undef, undef, undef, undef, undef, undef, undef, undef, undef, undef, undef, undef, undef, undef, undef, undef, undef, undef, undef, undef, undef, undef, undef, undef, undef, undef, undef, undef, undef, undef, undef, undef, undef, undef, undef, undef, undef, undef, undef, undef, undef, undef, undef, undef, undef, undef, undef, undef, undef, undef, undef, undef, undef, undef, undef, undef, undef, undef, undef, undef, undef, undef, undef, undef, undef, undef, undef, undef, undef, undef, undef, undef, undef, undef, undef, undef, undef, undef, undef, undef, undef, undef, undef, undef, undef, undef, undef, undef, undef, undef], []⟩ ∧ Env w' [fB bF4 nF3 sF3, fI (.agg #[.bool nF3, sF3]) (a * c), fI (.agg #[.bool nF1, sF1]) a, fB b6 n5 s5, fI (.agg #[.bool n5, s5]) c, fX b3 (25) ([.bool nc, sc]), fX b2 (25) ([.bool nb, sb]), fX b1 (25) ([.bool na, sa]), fW w] ∧ b6 < bF4) ?_ ?_
 case refine_1 =>
  refine wp_heldE (by kernel_rfl) (#[false, false, false, false, false, false]) 6 rfl rfl (l := [fB b6 n5 s5, fI (.agg #[.bool n5, s5]) c, fX b3 (25) ([.bool nc, sc]), fX b2 (25) ([.bool nb, sb]), fX b1 (25) ([.bool na, sa]), fW w]) ?_
  replace E := E.drew
  refine HP (i := 0) (o := ⟨some 23, _, _, _, _, _⟩) (v := .agg #[.bool na, sa]) rfl (by kernel_rfl) (fun _ _ _ h => h) rfl (fun w hS => run_load_bx AgRaw rfl rfl (hS.2.2.2.2.1) rfl) (E) ?_
  simp only [Act.put,q1,q2,q3]
  refine HP (i := 2) (o := ⟨some 25, _, _, _, _, _⟩) (v := .agg #[.bool n5, s5]) rfl (by kernel_rfl) (fun _ _ _ h => h) rfl (fun w hS => run_load_bx AgI rfl rfl (hS.1) rfl) (E) ?_
  simp only [Act.put,q1,q2,q3]
  refine H2 (i := 1) (j := 4) (by kernel_rfl) ?_ ?_
  ·
   refine HE (o := ⟨some 24, _, _, _, _, _⟩) rfl rfl (Oper.wp_callI fn_eref01_Made rfl (Made_is na sa la 6 _ (Sl.below hsa (E.2.2.2.2.2.1)) (by decide) ha) rfl E ?_)
   clear E
   intro wF1 nF1 sF1 dF1 E
   clear dF1
   refine ⟨E.2, ?_⟩
   simp only [Act.put,q1,q2,q3]
   refine H2 (i := 3) (j := 4) (by kernel_rfl) ?_ ?_
   ·
    refine HE (o := ⟨some 26, _, _, _, _, _⟩) rfl rfl (Oper.wp_callI fn_integer_Mul rfl (Mul_z _ _ a c _ (E.1) (E.2.2.1) (Fits.mono Fa (by decide)) (Fits.mono Fc (by decide))) rfl E ?_)
    clear E
    intro wF3 nF3 sF3 dF3 E
    clear dF3
    refine ⟨E.2.2, ?_⟩
    simp only [Act.put,q1,q2,q3]
    refine H1 (i := 4) (by kernel_rfl) ?_
    refine HE (o := ⟨some 9, _, _, _, _, _⟩) rfl rfl (Oper.wp_alloc AgI rfl ?_)
    intro bF4 wF4 eF4 zF4 dF4 xF4
    have lF4_0 : b6 < bF4 := by rw [eF4]; exact Bx.lt (E.2.2.1)
    replace E := E.below dF4
    clear eF4 zF4 dF4
    refine ⟨E.2.2, ?_⟩
    simp only [Act.put,q1,q2,q3]
    refine H1 (i := 5) (by kernel_rfl) ?_
    refine HE (o := ⟨none, _, _, _, _, _⟩) rfl rfl (Oper.wp_store AgI rfl rfl rfl xF4 rfl rfl (IsI.one (E.1)) ?_)
    intro wF5 oF5 yF5
    replace E := (E.onl (xF4.noW now0) ⟨trivial, trivial, okB (by omega), trivial, okX (by omega), okX (by omega), okX (by omega), okW (by omega), trivial⟩ oF5).b yF5
    clear xF4 oF5 yF5
    refine ⟨E.2.2.2, ?_⟩
    simp only [Act.put]
    refine HN (by kernel_rfl) ?_
    exact ⟨nF1, sF1, nF3, sF3, bF4, rfl, (Env.b (Env.i (Env.i (Env.b (Env.i (Env.x (Env.x (Env.x (Env.ww (Env.nil _) (E.2.2.2.2.2.2.2.2.1)) (E.2.2.2.2.2.2.2.1)) (E.2.2.2.2.2.2.1)) (E.2.2.2.2.2.1)) (E.2.2.2.2.1)) (E.2.2.2.1)) (E.2.2.1)) (E.2.1)) (E.1)), by omega⟩
   ·
    refine HE (o := ⟨some 9, _, _, _, _, _⟩) rfl rfl (Oper.wp_alloc AgI rfl ?_)
    intro bF4 wF4 eF4 zF4 dF4 xF4
    have lF4_0 : b6 < bF4 := by rw [eF4]; exact Bx.lt (E.2.1)
    replace E := E.below dF4
    clear eF4 zF4 dF4
    refine ⟨E.2, ?_⟩
    simp only [Act.put,q1,q2,q3]
    refine H1 (i := 3) (by kernel_rfl) ?_
    refine HE (o := ⟨some 26, _, _, _, _, _⟩) rfl rfl (Oper.wp_callI fn_integer_Mul rfl (Mul_z _ _ a c _ (E.1) (E.2.2.1) (Fits.mono Fa (by decide)) (Fits.mono Fc (by decide))) rfl E ?_)
    clear E
    intro wF3 nF3 sF3 dF3 E
    replace xF4 := xF4.below dF3
    clear dF3
    refine ⟨E.2.2, ?_⟩
    simp only [Act.put,q1,q2,q3]
    refine H1 (i := 5) (by kernel_rfl) ?_
    refine HE (o := ⟨none, _, _, _, _, _⟩) rfl rfl (Oper.wp_store AgI rfl rfl rfl xF4 rfl rfl (IsI.one (E.1)) ?_)
    intro wF5 oF5 yF5
    replace E := (E.onl (xF4.noW now0) ⟨trivial, trivial, okB (by omega), trivial, okX (by omega), okX (by omega), okX (by omega), okW (by omega), trivial⟩ oF5).b yF5
    clear xF4 oF5 yF5
    refine ⟨E.2.2.2, ?_⟩
    simp only [Act.put]
    refine HN (by kernel_rfl) ?_
    exact ⟨nF1, sF1, nF3, sF3, bF4, rfl, (Env.b (Env.i (Env.i (Env.b (Env.i (Env.x (Env.x (Env.x (Env.ww (Env.nil _) (E.2.2.2.2.2.2.2.2.1)) (E.2.2.2.2.2.2.2.1)) (E.2.2.2.2.2.2.1)) (E.2.2.2.2.2.1)) (E.2.2.2.2.1)) (E.2.2.2.1)) (E.2.2.1)) (E.2.1)) (E.1)), by omega⟩
  ·
   refine HE (o := ⟨some 9, _, _, _, _, _⟩) rfl rfl (Oper.wp_alloc AgI rfl ?_)
   intro bF4 wF4 eF4 zF4 dF4 xF4
   have lF4_0 : b6 < bF4 := by rw [eF4]; exact Bx.lt (E.1)
   replace E := E.below dF4
   clear eF4 zF4 dF4
   refine ⟨E, ?_⟩
   simp only [Act.put,q1,q2,q3]
   refine H1 (i := 1) (by kernel_rfl) ?_
   refine HE (o := ⟨some 24, _, _, _, _, _⟩) rfl rfl (Oper.wp_callI fn_eref01_Made rfl (Made_is na sa la 6 _ (Sl.below hsa (E.2.2.2.2.2.1)) (by decide) ha) rfl E ?_)
   clear E
   intro wF1 nF1 sF1 dF1 E
   replace xF4 := xF4.below dF1
   clear dF1
   refine ⟨E.2, ?_⟩
   simp only [Act.put,q1,q2,q3]
   refine H1 (i := 3) (by kernel_rfl) ?_
   refine HE (o := ⟨some 26, _, _, _, _, _⟩) rfl rfl (Oper.wp_callI fn_integer_Mul rfl (Mul_z _ _ a c _ (E.1) (E.2.2.1) (Fits.mono Fa (by decide)) (Fits.mono Fc (by decide))) rfl E ?_)
   clear E
   intro wF3 nF3 sF3 dF3 E
   replace xF4 := xF4.below dF3
   clear dF3
   refine ⟨E.2.2, ?_⟩
   simp only [Act.put,q1,q2,q3]
   refine H1 (i := 5) (by kernel_rfl) ?_
   refine HE (o := ⟨none, _, _, _, _, _⟩) rfl rfl (Oper.wp_store AgI rfl rfl rfl xF4 rfl rfl (IsI.one (E.1)) ?_)
   intro wF5 oF5 yF5
   replace E := (E.onl (xF4.noW now0) ⟨trivial, trivial, okB (by omega), trivial, okX (by omega), okX (by omega), okX (by omega), okW (by omega), trivial⟩ oF5).b yF5
   clear xF4 oF5 yF5
   refine ⟨E.2.2.2, ?_⟩
   simp only [Act.put]
   refine HN (by kernel_rfl) ?_
   exact ⟨nF1, sF1, nF3, sF3, bF4, rfl, (Env.b (Env.i (Env.i (Env.b (Env.i (Env.x (Env.x (Env.x (Env.ww (Env.nil _) (E.2.2.2.2.2.2.2.2.1)) (E.2.2.2.2.2.2.2.1)) (E.2.2.2.2.2.2.1)) (E.2.2.2.2.2.1)) (E.2.2.2.2.1)) (E.2.2.2.1)) (E.2.2.1)) (E.2.1)) (E.1)), by omega⟩
 case refine_2 =>
  rintro _ wF5 ⟨nF1, sF1, nF3, sF3, bF4, rfl, E, qF5_0⟩
  change Code.wp _ _ _ _ _
  refine wp_seq ?_
  -- region 6
  refine wp_cut (fun az w' => ∃ (nG1 : Bool) (sG1 : Value) (nG3 : Bool) (sG3 : Value) (bG4 : Nat), az = ⟨#[.agg #[.bool na, sa], .agg #[.bool nb, sb], .agg #[.bool nc, sc], .pointer (some ⟨b1, 0, none⟩), .pointer (some ⟨b2, 0, none⟩), .pointer (some ⟨b3, 0, none⟩), .bool false, .bool true, .pointer (some ⟨b6, 0, none⟩), .pointer (some ⟨bF4, 0, none⟩), .pointer (some ⟨bG4, 0, none⟩), undef, undef, undef, undef, undef, undef, undef, .bool true, .bool true, .bool false, .agg #[.bool nc, sc], .agg #[.bool n5, s5], .agg #[.bool na, sa], .agg #[.bool nF1, sF1], .agg #[.bool n5, s5], .agg #[.bool nF3, sF3], .agg #[.bool nb, sb], .agg #[.bool nG1, sG1], .agg #[.bool n5, s5], .agg #[.bool nG3, sG3], undef, undef, undef, undef, undef, undef, undef, undef, undef, undef, undef, undef, undef, undef, undef, undef, undef, undef, undef, undef, undef, undef, undef, undef, undef, undef, undef, undef, undef, undef, undef, undef, undef, undef, undef, undef, undef, undef, undef, undef, undef, undef, undef, undef, undef, undef, undef, undef, undef, undef, undef, undef, undef, undef, undef, undef, undef, undef, undef, undef, undef, undef, undef, undef, undef, undef, undef, undef, undef, undef, undef, undef, undef, undef, undef, undef, undef, undef, undef, undef, undef, undef, undef, undef, undef, undef, undef, undef, undef, undef, undef, undef, undef, undef, undef, undef, undef, undef, undef, undef, undef, undef, undef, undef, undef, undef, undef, undef, undef, undef, undef], []⟩ ∧ Env w' [fB bG4 nG3 sG3, fI (.agg #[.bool nG3, sG3]) (b * c), fI (.agg #[.bool nG1, sG1]) b, fB bF4 nF3 sF3, fI (.agg #[.bool nF3, sF3]) (a * c), fI (.agg #[.bool nF1, sF1]) a, fB b6 n5 s5, fI (.agg #[.bool n5, s5]) c, fX b3 (25) ([.bool nc, sc]), fX b2 (25) ([.bool nb, sb]), fX b1 (25) ([.bool na, sa]), fW w] ∧ bF4 < bG4) ?_ ?_
  case refine_1 =>
   refine wp_heldE (by kernel_rfl) (#[false, false, false, false, false, false]) 6 rfl rfl (l := [fB bF4 nF3 sF3, fI (.agg #[.bool nF3, sF3]) (a * c), fI (.agg #[.bool nF1, sF1]) a, fB b6 n5 s5, fI (.agg #[.bool n5, s5]) c, fX b3 (25) ([.bool nc, sc]), fX b2 (25) ([.bool nb, sb]), fX b1 (25) ([.bool na, sa]), fW w]) ?_
   replace E := E.drew
   refine HP (i := 0) (o := ⟨some 27, _, _, _, _, _⟩) (v := .agg #[.bool nb, sb]) rfl (by kernel_rfl) (fun _ _ _ h => h) rfl (fun w hS => run_load_bx AgRaw rfl rfl (hS.2.2.2.2.2.2.1) rfl) (E) ?_
   simp only [Act.put,q1,q2,q3]
   refine HP (i := 2) (o := ⟨some 29, _, _, _, _, _⟩) (v := .agg #[.bool n5, s5]) rfl (by kernel_rfl) (fun _ _ _ h => h) rfl (fun w hS => run_load_bx AgI rfl rfl (hS.2.2.2.1) rfl) (E) ?_
   simp only [Act.put,q1,q2,q3]
   refine H2 (i := 1) (j := 4) (by kernel_rfl) ?_ ?_
   ·
    refine HE (o := ⟨some 28, _, _, _, _, _⟩) rfl rfl (Oper.wp_callI fn_eref01_Made rfl (Made_is nb sb lb 6 _ (Sl.below hsb (E.2.2.2.2.2.2.2.2.1)) (by decide) hb) rfl E ?_)
    clear E
    intro wG1 nG1 sG1 dG1 E
    clear dG1
    refine ⟨E.2, ?_⟩
    simp only [Act.put,q1,q2,q3]
    refine H2 (i := 3) (j := 4) (by kernel_rfl) ?_ ?_
    ·
     refine HE (o := ⟨some 30, _, _, _, _, _⟩) rfl rfl (Oper.wp_callI fn_integer_Mul rfl (Mul_z _ _ b c _ (E.1) (E.2.2.2.2.2.1) (Fits.mono Fb (by decide)) (Fits.mono Fc (by decide))) rfl E ?_)
     clear E
     intro wG3 nG3 sG3 dG3 E
     clear dG3
     refine ⟨E.2.2, ?_⟩
     simp only [Act.put,q1,q2,q3]
     refine H1 (i := 4) (by kernel_rfl) ?_
     refine HE (o := ⟨some 10, _, _, _, _, _⟩) rfl rfl (Oper.wp_alloc AgI rfl ?_)
     intro bG4 wG4 eG4 zG4 dG4 xG4
     have lG4_0 : bF4 < bG4 := by rw [eG4]; exact Bx.lt (E.2.2.1)
     replace E := E.below dG4
     clear eG4 zG4 dG4
     refine ⟨E.2.2, ?_⟩
     simp only [Act.put,q1,q2,q3]
     refine H1 (i := 5) (by kernel_rfl) ?_
     refine HE (o := ⟨none, _, _, _, _, _⟩) rfl rfl (Oper.wp_store AgI rfl rfl rfl xG4 rfl rfl (IsI.one (E.1)) ?_)
     intro wG5 oG5 yG5
     replace E := (E.onl (xG4.noW now0) ⟨trivial, trivial, okB (by omega), trivial, trivial, okB (by omega), trivial, okX (by omega), okX (by omega), okX (by omega), okW (by omega), trivial⟩ oG5).b yG5
     clear xG4 oG5 yG5
     refine ⟨E.2.2.2, ?_⟩
     simp only [Act.put]
     refine HN (by kernel_rfl) ?_
     exact ⟨nG1, sG1, nG3, sG3, bG4, rfl, (Env.b (Env.i (Env.i (Env.b (Env.i (Env.i (Env.b (Env.i (Env.x (Env.x (Env.x (Env.ww (Env.nil _) (E.2.2.2.2.2.2.2.2.2.2.2.1)) (E.2.2.2.2.2.2.2.2.2.2.1)) (E.2.2.2.2.2.2.2.2.2.1)) (E.2.2.2.2.2.2.2.2.1)) (E.2.2.2.2.2.2.2.1)) (E.2.2.2.2.2.2.1)) (E.2.2.2.2.2.1)) (E.2.2.2.2.1)) (E.2.2.2.1)) (E.2.2.1)) (E.2.1)) (E.1)), by omega⟩
    ·
     refine HE (o := ⟨some 10, _, _, _, _, _⟩) rfl rfl (Oper.wp_alloc AgI rfl ?_)
     intro bG4 wG4 eG4 zG4 dG4 xG4
     have lG4_0 : bF4 < bG4 := by rw [eG4]; exact Bx.lt (E.2.1)
     replace E := E.below dG4
     clear eG4 zG4 dG4
     refine ⟨E.2, ?_⟩
     simp only [Act.put,q1,q2,q3]
     refine H1 (i := 3) (by kernel_rfl) ?_
     refine HE (o := ⟨some 30, _, _, _, _, _⟩) rfl rfl (Oper.wp_callI fn_integer_Mul rfl (Mul_z _ _ b c _ (E.1) (E.2.2.2.2.2.1) (Fits.mono Fb (by decide)) (Fits.mono Fc (by decide))) rfl E ?_)
     clear E
     intro wG3 nG3 sG3 dG3 E
     replace xG4 := xG4.below dG3
     clear dG3
     refine ⟨E.2.2, ?_⟩
     simp only [Act.put,q1,q2,q3]
     refine H1 (i := 5) (by kernel_rfl) ?_
     refine HE (o := ⟨none, _, _, _, _, _⟩) rfl rfl (Oper.wp_store AgI rfl rfl rfl xG4 rfl rfl (IsI.one (E.1)) ?_)
     intro wG5 oG5 yG5
     replace E := (E.onl (xG4.noW now0) ⟨trivial, trivial, okB (by omega), trivial, trivial, okB (by omega), trivial, okX (by omega), okX (by omega), okX (by omega), okW (by omega), trivial⟩ oG5).b yG5
     clear xG4 oG5 yG5
     refine ⟨E.2.2.2, ?_⟩
     simp only [Act.put]
     refine HN (by kernel_rfl) ?_
     exact ⟨nG1, sG1, nG3, sG3, bG4, rfl, (Env.b (Env.i (Env.i (Env.b (Env.i (Env.i (Env.b (Env.i (Env.x (Env.x (Env.x (Env.ww (Env.nil _) (E.2.2.2.2.2.2.2.2.2.2.2.1)) (E.2.2.2.2.2.2.2.2.2.2.1)) (E.2.2.2.2.2.2.2.2.2.1)) (E.2.2.2.2.2.2.2.2.1)) (E.2.2.2.2.2.2.2.1)) (E.2.2.2.2.2.2.1)) (E.2.2.2.2.2.1)) (E.2.2.2.2.1)) (E.2.2.2.1)) (E.2.2.1)) (E.2.1)) (E.1)), by omega⟩
   ·
    refine HE (o := ⟨some 10, _, _, _, _, _⟩) rfl rfl (Oper.wp_alloc AgI rfl ?_)
    intro bG4 wG4 eG4 zG4 dG4 xG4
    have lG4_0 : bF4 < bG4 := by rw [eG4]; exact Bx.lt (E.1)
    replace E := E.below dG4
    clear eG4 zG4 dG4
    refine ⟨E, ?_⟩
    simp only [Act.put,q1,q2,q3]
    refine H1 (i := 1) (by kernel_rfl) ?_
    refine HE (o := ⟨some 28, _, _, _, _, _⟩) rfl rfl (Oper.wp_callI fn_eref01_Made rfl (Made_is nb sb lb 6 _ (Sl.below hsb (E.2.2.2.2.2.2.2.2.1)) (by decide) hb) rfl E ?_)
    clear E
    intro wG1 nG1 sG1 dG1 E
    replace xG4 := xG4.below dG1
    clear dG1
    refine ⟨E.2, ?_⟩
    simp only [Act.put,q1,q2,q3]
    refine H1 (i := 3) (by kernel_rfl) ?_
    refine HE (o := ⟨some 30, _, _, _, _, _⟩) rfl rfl (Oper.wp_callI fn_integer_Mul rfl (Mul_z _ _ b c _ (E.1) (E.2.2.2.2.2.1) (Fits.mono Fb (by decide)) (Fits.mono Fc (by decide))) rfl E ?_)
    clear E
    intro wG3 nG3 sG3 dG3 E
    replace xG4 := xG4.below dG3
    clear dG3
    refine ⟨E.2.2, ?_⟩
    simp only [Act.put,q1,q2,q3]
    refine H1 (i := 5) (by kernel_rfl) ?_
    refine HE (o := ⟨none, _, _, _, _, _⟩) rfl rfl (Oper.wp_store AgI rfl rfl rfl xG4 rfl rfl (IsI.one (E.1)) ?_)
    intro wG5 oG5 yG5
    replace E := (E.onl (xG4.noW now0) ⟨trivial, trivial, okB (by omega), trivial, trivial, okB (by omega), trivial, okX (by omega), okX (by omega), okX (by omega), okW (by omega), trivial⟩ oG5).b yG5
    clear xG4 oG5 yG5
    refine ⟨E.2.2.2, ?_⟩
    simp only [Act.put]
    refine HN (by kernel_rfl) ?_
    exact ⟨nG1, sG1, nG3, sG3, bG4, rfl, (Env.b (Env.i (Env.i (Env.b (Env.i (Env.i (Env.b (Env.i (Env.x (Env.x (Env.x (Env.ww (Env.nil _) (E.2.2.2.2.2.2.2.2.2.2.2.1)) (E.2.2.2.2.2.2.2.2.2.2.1)) (E.2.2.2.2.2.2.2.2.2.1)) (E.2.2.2.2.2.2.2.2.1)) (E.2.2.2.2.2.2.2.1)) (E.2.2.2.2.2.2.1)) (E.2.2.2.2.2.1)) (E.2.2.2.2.1)) (E.2.2.2.1)) (E.2.2.1)) (E.2.1)) (E.1)), by omega⟩
  case refine_2 =>
   rintro _ wG5 ⟨nG1, sG1, nG3, sG3, bG4, rfl, E, qG5_0⟩
   change Code.wp _ _ _ _ _
   refine wp_seq ?_
   have Fac : Fits (a * c) 10 := Fits_mul Fa Fc
   have Fbc : Fits (b * c) 10 := Fits_mul Fb Fc
   obtain ⟨g, hg⟩ : ∃ g : Int, ((Nat.gcd (a * c).natAbs (b * c).natAbs : Nat) : Int) = g := ⟨_, rfl⟩
   have Fg : Fits g 10 := gcd_fits hg Fac Fbc
   -- region 7
   refine wp_region_lit ?_
   refine LV (v := .agg #[.bool nF3, sF3]) rfl (run_load_bx AgI rfl rfl (E.2.2.2.1) rfl) ?_
   simp only [Act.put,q1,q2,q3]
   refine LV (v := .agg #[.bool nG3, sG3]) rfl (run_load_bx AgI rfl rfl (E.1) rfl) ?_
   simp only [Act.put,q1,q2,q3]
   refine L1 rfl (Oper.wp_callI fn_integer_Gcd rfl (Gcd_is _ _ (a * c) (b * c) _ (E.2.2.2.2.1) (E.2.1) (Fits.mono Fac (by decide)) (Fits.mono Fbc (by decide)) hg) rfl E ?_)
   clear E
   intro w8 n8 s8 d8 E
   clear d8
   simp only [Act.put,q1,q2,q3]
   refine L1 rfl (Oper.wp_alloc AgI rfl ?_)
   intro b9 w9 e9 z9 d9 x9
   have l9_0 : bG4 < b9 := by rw [e9]; exact Bx.lt (E.2.1)
   replace E := E.below d9
   clear e9 z9 d9
   simp only [Act.put,q1,q2,q3]
   refine L1 rfl (Oper.wp_store AgI rfl rfl rfl x9 rfl rfl (IsI.one (E.1)) ?_)
   intro w10 o10 y10
   replace E := (E.onl (x9.noW now0) ⟨trivial, okB (by omega), trivial, trivial, okB (by omega), trivial, trivial, okB (by omega), trivial, okX (by omega), okX (by omega), okX (by omega), okW (by omega), trivial⟩ o10).b y10
   clear x9 o10 y10
   simp only [Act.put]
   refine wpList_nil ?_
   change Code.wp _ _ _ _ _
   refine wp_seq ?_
   -- region 8
   refine wp_region_lit ?_
   refine LV (v := .agg #[.bool nF3, sF3]) rfl (run_load_bx AgI rfl rfl (E.2.2.2.2.2.1) rfl) ?_
   simp only [Act.put,q1,q2,q3]
   refine LV (v := .agg #[.bool nG3, sG3]) rfl (run_load_bx AgI rfl rfl (E.2.2.1) rfl) ?_
   simp only [Act.put,q1,q2,q3]
   refine L1 rfl (Oper.wp_callBez hg fn_integer_Bezout rfl (Bezout_z _ _ _ _ _ (E.2.2.2.2.2.2.1) (E.2.2.2.1) (Fits.mono Fac (by decide)) (Fits.mono Fbc (by decide))) rfl E ?_)
   clear E
   rintro w11 n11 s11 m11 t11 p11 q11 u v hbz d11 E
   clear d11
   have Fu : Fits u 11 := bez_fu hbz Fbc
   have Fv : Fits v 12 := bez_fv hbz Fac Fbc
   simp only [Act.put,q1,q2,q3]
   refine LV (v := .tuple #[.agg #[.bool n11, s11], .agg #[.bool m11, t11], .agg #[.bool p11, q11]]) rfl (run_move rfl rfl) ?_
   simp only [Act.put,q1,q2,q3]
   refine LV (v := .agg #[.bool n11, s11]) rfl (run_extract (vs := [.agg #[.bool n11, s11], .agg #[.bool m11, t11], .agg #[.bool p11, q11]]) rfl rfl rfl) ?_
   simp only [Act.put,q1,q2,q3]
   refine LV (v := .agg #[.bool m11, t11]) rfl (run_extract (vs := [.agg #[.bool n11, s11], .agg #[.bool m11, t11], .agg #[.bool p11, q11]]) rfl rfl rfl) ?_
   simp only [Act.put,q1,q2,q3]
   refine LV (v := .agg #[.bool p11, q11]) rfl (run_extract (vs := [.agg #[.bool n11, s11], .agg #[.bool m11, t11], .agg #[.bool p11, q11]]) rfl rfl rfl) ?_
   simp only [Act.put,q1,q2,q3]
   refine L1 rfl (Oper.wp_alloc AgI rfl ?_)
   intro b12 w12 e12 z12 d12 x12
   have l12_0 : b9 < b12 := by rw [e12]; exact Bx.lt (E.2.2.2.1)
   replace E := E.below d12
   clear e12 z12 d12
   simp only [Act.put,q1,q2,q3]
   refine L1 rfl (Oper.wp_alloc AgI rfl ?_)
   intro b13 w13 e13 z13 d13 x13
   have l13_0 : b12 < b13 := by rw [e13]; exact Bx.lt (x12)
   replace E := E.below d13
   replace x12 := Bx.below x12 d13
   clear e13 z13 d13
   simp only [Act.put,q1,q2,q3]
   refine L1 rfl (Oper.wp_alloc AgI rfl ?_)
   intro b14 w14 e14 z14 d14 x14
   have l14_0 : b13 < b14 := by rw [e14]; exact Bx.lt (x13)
   replace E := E.below d14
   replace x12 := Bx.below x12 d14
   replace x13 := Bx.below x13 d14
   clear e14 z14 d14
   simp only [Act.put,q1,q2,q3]
   refine L1 rfl (Oper.wp_store AgI rfl rfl rfl x12 rfl rfl (IsI.one (E.2.2.1)) ?_)
   intro w15 o15 y15
   replace E := (E.onl (x12.noW now0) ⟨trivial, trivial, trivial, okB (by omega), trivial, okB (by omega), trivial, trivial, okB (by omega), trivial, trivial, okB (by omega), trivial, okX (by omega), okX (by omega), okX (by omega), okW (by omega), trivial⟩ o15).b y15
   replace x13 := Bx.onl x13 (by omega) o15
   replace x14 := Bx.onl x14 (by omega) o15
   clear x12 o15 y15
   simp only [Act.put]
   refine L1 rfl (Oper.wp_store AgI rfl rfl rfl x13 rfl rfl (IsI.one (E.2.2.1)) ?_)
   intro w16 o16 y16
   replace E := (E.onl (x13.noW now0) ⟨okB (by omega), trivial, trivial, trivial, okB (by omega), trivial, okB (by omega), trivial, trivial, okB (by omega), trivial, trivial, okB (by omega), trivial, okX (by omega), okX (by omega), okX (by omega), okW (by omega), trivial⟩ o16).b y16
   replace x14 := Bx.onl x14 (by omega) o16
   clear x13 o16 y16
   simp only [Act.put]
   refine L1 rfl (Oper.wp_store AgI rfl rfl rfl x14 rfl rfl (IsI.one (E.2.2.1)) ?_)
   intro w17 o17 y17
   replace E := (E.onl (x14.noW now0) ⟨okB (by omega), okB (by omega), trivial, trivial, trivial, okB (by omega), trivial, okB (by omega), trivial, trivial, okB (by omega), trivial, trivial, okB (by omega), trivial, okX (by omega), okX (by omega), okX (by omega), okW (by omega), trivial⟩ o17).b y17
   clear x14 o17 y17
   simp only [Act.put]
   refine wpList_nil ?_
   change Code.wp _ _ _ _ _
   refine wp_seq ?_
   refine wp_seq ?_
   obtain rfl : n8 = false := (IsI.sign (E.2.2.2.2.2.2.2.1)).trans (decide_eq_false (gcd_nn hg))
   -- region 9
   refine wp_schedE E ([0, 1, 2, 3, 4, 5, 6, 7, 8, 9, 10, 11, 12, 13, 14, 15, 18, 16, 17, 19, 20, 21, 22, 23, 24, 25, 26, 27, 28, 29, 30, 31, 32, 33, 34, 35, 36, 37, 38, 39]) (by kernel_rfl) (by kernel_rfl) (by kernel_rfl) (by kernel_rfl) (by intro d v c a w h; cases d <;> exact h) ?_
   replace E := E.drew
   refine SP (o := ⟨some 41, _, _, _, _, _⟩) (v := .agg #[.bool false, s8]) rfl rfl rfl rfl (fun w hS => run_load_bx AgI rfl rfl (hS.2.2.2.2.2.2.1) rfl) ?_
   simp only [Act.put,q1,q2,q3]
   refine S1a (o := ⟨some 42, _, _, _, _, _⟩) rfl rfl rfl rfl (Oper.wp_callB fn_eref01_Valid rfl (RValid_z _ g _ (E.2.2.2.2.2.2.2.1)) rfl E ?_)
   clear E
   intro w18 d18 E
   clear d18
   refine ⟨E, ?_⟩
   simp only [Act.put,q1,q2,q3]
   refine SP (o := ⟨some 43, _, _, _, _, _⟩) (v := .bool false) rfl rfl rfl rfl (fun w hS => run_not (b := true) rfl rfl) ?_
   simp only [Act.put,q1,q2,q3]
   refine SP (o := ⟨some 44, _, _, _, _, _⟩) (v := .bool false) rfl rfl rfl rfl (fun w hS => run_move rfl rfl) ?_
   simp only [Act.put,q1,q2,q3]
   refine SP (o := ⟨some 45, _, _, _, _, _⟩) (v := .pointer (some ⟨b9, 0, none⟩)) rfl rfl rfl rfl (fun w hS => run_fieldI0 rfl rfl) ?_
   simp only [Act.put,q1,q2,q3]
   refine SP (o := ⟨some 46, _, _, _, _, _⟩) (v := .bool false) rfl rfl rfl rfl (fun w hS => run_cell rfl isAgg_bool rfl (hS.2.2.2.2.2.2.1) rfl) ?_
   simp only [Act.put,q1,q2,q3]
   refine SP (o := ⟨some 47, _, _, _, _, _⟩) (v := .bool false) rfl rfl rfl rfl (fun w hS => run_pick (b := false) rfl rfl rfl) ?_
   simp only [Act.put,q1,q2,q3]
   refine SP (o := ⟨some 48, _, _, _, _, _⟩) (v := .bool false) rfl rfl rfl rfl (fun w hS => run_move rfl rfl) ?_
   simp only [Act.put,q1,q2,q3]
   refine SP (o := ⟨some 49, _, _, _, _, _⟩) (v := .agg #[.bool false, s8]) rfl rfl rfl rfl (fun w hS => run_load_bx AgI rfl rfl (hS.2.2.2.2.2.2.1) rfl) ?_
   simp only [Act.put,q1,q2,q3]
   refine SP (o := ⟨some 50, _, _, _, _, _⟩) (v := .agg #[.bool n11, s11]) rfl rfl rfl rfl (fun w hS => run_load_bx AgI rfl rfl (hS.2.2.1) rfl) ?_
   simp only [Act.put,q1,q2,q3]
   refine S1a (o := ⟨some 51, _, _, _, _, _⟩) rfl rfl rfl rfl (Oper.wp_callB fn_eref01_Same rfl (RSame_t _ _ g g _ (E.2.2.2.2.2.2.2.1) (E.2.2.2.2.2.1) rfl) rfl E ?_)
   clear E
   intro w19 d19 E
   clear d19
   refine ⟨E, ?_⟩
   simp only [Act.put,q1,q2,q3]
   refine SP (o := ⟨some 52, _, _, _, _, _⟩) (v := .bool false) rfl rfl rfl rfl (fun w hS => run_not (b := true) rfl rfl) ?_
   simp only [Act.put,q1,q2,q3]
   refine SP (o := ⟨some 53, _, _, _, _, _⟩) (v := .bool false) rfl rfl rfl rfl (fun w hS => run_pick (b := false) rfl rfl rfl) ?_
   simp only [Act.put,q1,q2,q3]
   refine SP (o := ⟨some 54, _, _, _, _, _⟩) (v := .bool false) rfl rfl rfl rfl (fun w hS => run_move rfl rfl) ?_
   simp only [Act.put,q1,q2,q3]
   refine SP (o := ⟨some 55, _, _, _, _, _⟩) (v := .agg #[.bool nG3, sG3]) rfl rfl rfl rfl (fun w hS => run_load_bx AgI rfl rfl (hS.2.2.2.2.2.2.2.2.1) rfl) ?_
   simp only [Act.put,q1,q2,q3]
   refine SP (o := ⟨some 56, _, _, _, _, _⟩) (v := .agg #[.bool nF3, sF3]) rfl rfl rfl rfl (fun w hS => run_load_bx AgI rfl rfl (hS.2.2.2.2.2.2.2.2.2.2.2.1) rfl) ?_
   simp only [Act.put,q1,q2,q3]
   refine SP (o := ⟨some 59, _, _, _, _, _⟩) (v := .agg #[.bool false, s8]) rfl rfl rfl rfl (fun w hS => run_load_bx AgI rfl rfl (hS.2.2.2.2.2.2.1) rfl) ?_
   simp only [Act.put,q1,q2,q3]
   refine S1a (o := ⟨some 57, _, _, _, _, _⟩) rfl rfl rfl rfl (Oper.wp_callI fn_integer_Neg rfl (Neg_z _ (a * c) _ (E.2.2.2.2.2.2.2.2.2.2.2.2.1) (Fits.mono Fac (by decide))) rfl E ?_)
   clear E
   intro w21 n21 s21 d21 E
   clear d21
   refine ⟨E.2, ?_⟩
   simp only [Act.put,q1,q2,q3]
   have F20 : Fits (-(a * c)) 10 := Fits_neg Fac
   refine S1a (o := ⟨some 58, _, _, _, _, _⟩) rfl rfl rfl rfl (Oper.wp_callI fn_integer_Gcd rfl (Gcd_is _ _ (b * c) (-(a * c)) _ (E.2.2.2.2.2.2.2.2.2.2.1) (E.1) (Fits.mono Fbc (by decide)) (Fits.mono F20 (by decide)) (gcd_sw hg)) rfl E ?_)
   clear E
   intro w22 n22 s22 d22 E
   clear d22
   refine ⟨E.2.2, ?_⟩
   simp only [Act.put,q1,q2,q3]
   refine S1a (o := ⟨some 60, _, _, _, _, _⟩) rfl rfl rfl rfl (Oper.wp_callB fn_eref01_Same rfl (RSame_t _ _ g g _ (E.1) (E.2.2.2.2.2.2.2.2.2.1) rfl) rfl E ?_)
   clear E
   intro w23 d23 E
   clear d23
   refine ⟨E.2.2, ?_⟩
   simp only [Act.put,q1,q2,q3]
   refine SP (o := ⟨some 61, _, _, _, _, _⟩) (v := .bool false) rfl rfl rfl rfl (fun w hS => run_not (b := true) rfl rfl) ?_
   simp only [Act.put,q1,q2,q3]
   refine SP (o := ⟨some 62, _, _, _, _, _⟩) (v := .bool false) rfl rfl rfl rfl (fun w hS => run_pick (b := false) rfl rfl rfl) ?_
   simp only [Act.put,q1,q2,q3]
   refine SP (o := ⟨some 63, _, _, _, _, _⟩) (v := .bool false) rfl rfl rfl rfl (fun w hS => run_move rfl rfl) ?_
   simp only [Act.put,q1,q2,q3]
   refine SP (o := ⟨some 64, _, _, _, _, _⟩) (v := .agg #[.bool false, s8]) rfl rfl rfl rfl (fun w hS => run_load_bx AgI rfl rfl (hS.2.2.2.2.2.2.1) rfl) ?_
   simp only [Act.put,q1,q2,q3]
   refine SP (o := ⟨some 65, _, _, _, _, _⟩) (v := .agg #[.bool nF3, sF3]) rfl rfl rfl rfl (fun w hS => run_load_bx AgI rfl rfl (hS.2.2.2.2.2.2.2.2.2.2.2.1) rfl) ?_
   simp only [Act.put,q1,q2,q3]
   refine S1a (o := ⟨some 66, _, _, _, _, _⟩) rfl rfl rfl rfl (Oper.wp_callB fn_elaw01_divides rfl (Divides_t _ g _ (a * c) _ (E.2.2.2.2.2.2.2.2.2.1) (E.2.2.2.2.2.2.2.2.2.2.2.2.2.2.1) (Fits.mono Fg (by decide)) (Fits.mono Fac (by decide)) (gcd_l hg)) rfl E ?_)
   clear E
   intro w24 d24 E
   clear d24
   refine ⟨E.2.2, ?_⟩
   simp only [Act.put,q1,q2,q3]
   refine SP (o := ⟨some 67, _, _, _, _, _⟩) (v := .bool false) rfl rfl rfl rfl (fun w hS => run_not (b := true) rfl rfl) ?_
   simp only [Act.put,q1,q2,q3]
   refine SP (o := ⟨some 68, _, _, _, _, _⟩) (v := .bool false) rfl rfl rfl rfl (fun w hS => run_pick (b := false) rfl rfl rfl) ?_
   simp only [Act.put,q1,q2,q3]
   refine SP (o := ⟨some 69, _, _, _, _, _⟩) (v := .bool false) rfl rfl rfl rfl (fun w hS => run_move rfl rfl) ?_
   simp only [Act.put,q1,q2,q3]
   refine SP (o := ⟨some 70, _, _, _, _, _⟩) (v := .agg #[.bool false, s8]) rfl rfl rfl rfl (fun w hS => run_load_bx AgI rfl rfl (hS.2.2.2.2.2.2.1) rfl) ?_
   simp only [Act.put,q1,q2,q3]
   refine SP (o := ⟨some 71, _, _, _, _, _⟩) (v := .agg #[.bool nG3, sG3]) rfl rfl rfl rfl (fun w hS => run_load_bx AgI rfl rfl (hS.2.2.2.2.2.2.2.2.1) rfl) ?_
   simp only [Act.put,q1,q2,q3]
   refine S1a (o := ⟨some 72, _, _, _, _, _⟩) rfl rfl rfl rfl (Oper.wp_callB fn_elaw01_divides rfl (Divides_t _ g _ (b * c) _ (E.2.2.2.2.2.2.2.2.2.1) (E.2.2.2.2.2.2.2.2.2.2.2.1) (Fits.mono Fg (by decide)) (Fits.mono Fbc (by decide)) (gcd_r hg)) rfl E ?_)
   clear E
   intro w25 d25 E
   clear d25
   refine ⟨E.2.2, ?_⟩
   simp only [Act.put,q1,q2,q3]
   refine SP (o := ⟨some 73, _, _, _, _, _⟩) (v := .bool false) rfl rfl rfl rfl (fun w hS => run_not (b := true) rfl rfl) ?_
   simp only [Act.put,q1,q2,q3]
   refine SP (o := ⟨some 74, _, _, _, _, _⟩) (v := .bool false) rfl rfl rfl rfl (fun w hS => run_pick (b := false) rfl rfl rfl) ?_
   simp only [Act.put,q1,q2,q3]
   refine SP (o := ⟨some 75, _, _, _, _, _⟩) (v := .bool false) rfl rfl rfl rfl (fun w hS => run_move rfl rfl) ?_
   simp only [Act.put,q1,q2,q3]
   refine SP (o := ⟨some 76, _, _, _, _, _⟩) (v := .agg #[.bool n5, s5]) rfl rfl rfl rfl (fun w hS => run_load_bx AgI rfl rfl (hS.2.2.2.2.2.2.2.2.2.2.2.2.2.2.1) rfl) ?_
   simp only [Act.put,q1,q2,q3]
   refine SP (o := ⟨some 77, _, _, _, _, _⟩) (v := .agg #[.bool false, s8]) rfl rfl rfl rfl (fun w hS => run_load_bx AgI rfl rfl (hS.2.2.2.2.2.2.1) rfl) ?_
   simp only [Act.put,q1,q2,q3]
   refine S1a (o := ⟨some 78, _, _, _, _, _⟩) rfl rfl rfl rfl (Oper.wp_callB fn_elaw01_divides rfl (Divides_t _ c _ g _ (E.2.2.2.2.2.2.2.2.2.2.2.2.2.2.2.2.2.1) (E.2.2.2.2.2.2.2.2.2.1) (Fits.mono Fc (by decide)) (Fits.mono Fg (by decide)) (gcd_c hg)) rfl E ?_)
   clear E
   intro w26 d26 E
   clear d26
   refine ⟨E.2.2, ?_⟩
   simp only [Act.put,q1,q2,q3]
   refine SP (o := ⟨some 79, _, _, _, _, _⟩) (v := .bool false) rfl rfl rfl rfl (fun w hS => run_not (b := true) rfl rfl) ?_
   simp only [Act.put,q1,q2,q3]
   refine SP (o := ⟨some 80, _, _, _, _, _⟩) (v := .bool false) rfl rfl rfl rfl (fun w hS => run_pick (b := false) rfl rfl rfl) ?_
   simp only [Act.put,q1,q2,q3]
   refine SN ?_
   change Code.wp _ _ _ _ _
   refine wp_cond_false rfl ?_
   refine wp_skip ?_
   change Code.wp _ _ _ _ _
   refine wp_seq ?_
   refine wp_seq ?_
   -- region 11
   refine wp_schedE E ([0, 1, 3, 4, 7, 2, 5, 6, 8, 9]) (by kernel_rfl) (by kernel_rfl) (by kernel_rfl) (by kernel_rfl) (by intro d v c a w h; cases d <;> exact h) ?_
   replace E := E.drew
   refine SP (o := ⟨some 81, _, _, _, _, _⟩) (v := .agg #[.bool m11, t11]) rfl rfl rfl rfl (fun w hS => run_load_bx AgI rfl rfl (hS.2.2.2.1) rfl) ?_
   simp only [Act.put,q1,q2,q3]
   refine SP (o := ⟨some 82, _, _, _, _, _⟩) (v := .agg #[.bool nF3, sF3]) rfl rfl rfl rfl (fun w hS => run_load_bx AgI rfl rfl (hS.2.2.2.2.2.2.2.2.2.2.2.2.2.1) rfl) ?_
   simp only [Act.put,q1,q2,q3]
   refine SP (o := ⟨some 84, _, _, _, _, _⟩) (v := .agg #[.bool p11, q11]) rfl rfl rfl rfl (fun w hS => run_load_bx AgI rfl rfl (hS.2.2.1) rfl) ?_
   simp only [Act.put,q1,q2,q3]
   refine SP (o := ⟨some 85, _, _, _, _, _⟩) (v := .agg #[.bool nG3, sG3]) rfl rfl rfl rfl (fun w hS => run_load_bx AgI rfl rfl (hS.2.2.2.2.2.2.2.2.2.2.1) rfl) ?_
   simp only [Act.put,q1,q2,q3]
   refine SP (o := ⟨some 88, _, _, _, _, _⟩) (v := .agg #[.bool false, s8]) rfl rfl rfl rfl (fun w hS => run_load_bx AgI rfl rfl (hS.2.2.2.2.2.2.2.2.1) rfl) ?_
   simp only [Act.put,q1,q2,q3]
   refine S1a (o := ⟨some 83, _, _, _, _, _⟩) rfl rfl rfl rfl (Oper.wp_callI fn_integer_Mul rfl (Mul_z _ _ u (a * c) _ (E.2.2.2.2.2.2.1) (E.2.2.2.2.2.2.2.2.2.2.2.2.2.2.1) (Fits.mono Fu (by decide)) (Fits.mono Fac (by decide))) rfl E ?_)
   clear E
   intro w28 n28 s28 d28 E
   clear d28
   refine ⟨E.2, ?_⟩
   simp only [Act.put,q1,q2,q3]
   have F27 : Fits (u * (a * c)) 21 := Fits_mul Fu Fac
   refine S1a (o := ⟨some 86, _, _, _, _, _⟩) rfl rfl rfl rfl (Oper.wp_callI fn_integer_Mul rfl (Mul_z _ _ v (b * c) _ (E.2.2.2.2.2.2.1) (E.2.2.2.2.2.2.2.2.2.2.2.2.1) (Fits.mono Fv (by decide)) (Fits.mono Fbc (by decide))) rfl E ?_)
   clear E
   intro w30 n30 s30 d30 E
   clear d30
   refine ⟨E.2.2, ?_⟩
   simp only [Act.put,q1,q2,q3]
   have F29 : Fits (v * (b * c)) 22 := Fits_mul Fv Fbc
   refine S1a (o := ⟨some 87, _, _, _, _, _⟩) rfl rfl rfl rfl (Oper.wp_callI fn_integer_Add rfl (Add_z _ _ (u * (a * c)) (v * (b * c)) _ (E.2.1) (E.1) (Fits.mono F27 (by decide)) (Fits.mono F29 (by decide))) rfl E ?_)
   clear E
   intro w32 n32 s32 d32 E
   clear d32
   refine ⟨E.2.2.2, ?_⟩
   simp only [Act.put,q1,q2,q3]
   have F31 : Fits ((u * (a * c)) + (v * (b * c))) 23 := Fits_add F27 F29 (k := 22) (by decide) (by decide)
   refine S1a (o := ⟨some 89, _, _, _, _, _⟩) rfl rfl rfl rfl (Oper.wp_callB fn_eref01_Same rfl (RSame_t _ _ ((u * (a * c)) + (v * (b * c))) g _ (E.1) (E.2.2.2.2.2.2.2.2.2.2.2.2.1) hbz.sum) rfl E ?_)
   clear E
   intro w33 d33 E
   clear d33
   refine ⟨E.2.2.2, ?_⟩
   simp only [Act.put,q1,q2,q3]
   refine SP (o := ⟨some 90, _, _, _, _, _⟩) (v := .bool false) rfl rfl rfl rfl (fun w hS => run_not (b := true) rfl rfl) ?_
   simp only [Act.put,q1,q2,q3]
   refine SN ?_
   change Code.wp _ _ _ _ _
   refine wp_cond_false rfl ?_
   refine wp_skip ?_
   change Code.wp _ _ _ _ _
   refine wp_seq ?_
   refine wp_seq ?_
   by_cases hb0 : b * c = 0
   case pos =>
    -- region 13
    refine wp_region_lit ?_
    refine LV (v := .pointer (some ⟨bG4, 1, none⟩)) rfl (run_fieldI1 rfl rfl) ?_
    simp only [Act.put,q1,q2,q3]
    refine LV (v := sG3) rfl (run_cell rfl isAgg_words rfl (E.2.2.2.2.2.2.2.2.2.2.2.2.2.1) rfl) ?_
    simp only [Act.put,q1,q2,q3]
    obtain ⟨ao34, cap34, hs34⟩ := IsI.slice (E.2.2.2.2.2.2.2.2.2.2.2.2.2.2.1)
    refine LV (v := .int .i64 (((digs (b * c).natAbs).length : Nat) : Int)) rfl (run_len rfl hs34) ?_
    simp only [Act.put,q1,q2,q3]
    refine LV (v := .bool true) rfl (run_eqI (c := true) rfl rfl rfl (len_eq0 hb0)) ?_
    simp only [Act.put,q1,q2,q3]
    refine wpList_nil ?_
    change Code.wp _ _ _ _ _
    refine wp_cond_true rfl ?_
    refine wp_seq ?_
    -- region 14
    refine wp_schedE E ([0, 1, 2, 3, 4, 5, 6, 7, 8, 9, 10, 11, 12, 13, 14]) (by kernel_rfl) (by kernel_rfl) (by kernel_rfl) (by kernel_rfl) (by intro d v c a w h; cases d <;> exact h) ?_
    replace E := E.drew
    refine SP (o := ⟨some 95, _, _, _, _, _⟩) (v := .bool true) rfl rfl rfl rfl (fun w hS => run_move rfl rfl) ?_
    simp only [Act.put,q1,q2,q3]
    refine SP (o := ⟨some 96, _, _, _, _, _⟩) (v := .bool true) rfl rfl rfl rfl (fun w hS => run_move rfl rfl) ?_
    simp only [Act.put,q1,q2,q3]
    refine SP (o := ⟨some 97, _, _, _, _, _⟩) (v := .agg #[.bool m11, t11]) rfl rfl rfl rfl (fun w hS => run_load_bx AgI rfl rfl (hS.2.2.2.2.2.2.1) rfl) ?_
    simp only [Act.put,q1,q2,q3]
    refine SP (o := ⟨some 98, _, _, _, _, _⟩) (v := .agg #[.bool nF3, sF3]) rfl rfl rfl rfl (fun w hS => run_load_bx AgI rfl rfl (hS.2.2.2.2.2.2.2.2.2.2.2.2.2.2.2.2.1) rfl) ?_
    simp only [Act.put,q1,q2,q3]
    refine S1a (o := ⟨some 99, _, _, _, _, _⟩) rfl rfl rfl rfl (Oper.wp_callN fn_eref01_Sign rfl (RSign_z _ (a * c) _ (E.2.2.2.2.2.2.2.2.2.2.2.2.2.2.2.2.2.1)) rfl E ?_)
    clear E
    intro w35 d35 E
    clear d35
    refine ⟨E, ?_⟩
    simp only [Act.put,q1,q2,q3]
    refine S1a (o := ⟨some 100, _, _, _, _, _⟩) rfl rfl rfl rfl (Oper.wp_callI fn_elaw01_of rfl (of_z (sgn (a * c)) _ (sgn_lo _) (sgn_hi _)) rfl E ?_)
    clear E
    intro w36 n36 s36 d36 E
    clear d36
    refine ⟨E.2, ?_⟩
    simp only [Act.put,q1,q2,q3]
    refine S1a (o := ⟨some 101, _, _, _, _, _⟩) rfl rfl rfl rfl (Oper.wp_callB fn_eref01_Same rfl (RSame_t _ _ u (sgn (a * c)) _ (E.2.2.2.2.2.2.2.2.2.2.1) (E.1) (bez_u hbz hb0)) rfl E ?_)
    clear E
    intro w37 d37 E
    clear d37
    refine ⟨E.2, ?_⟩
    simp only [Act.put,q1,q2,q3]
    refine SP (o := ⟨some 102, _, _, _, _, _⟩) (v := .bool true) rfl rfl rfl rfl (fun w hS => run_pick (b := true) rfl rfl rfl) ?_
    simp only [Act.put,q1,q2,q3]
    refine SP (o := ⟨some 103, _, _, _, _, _⟩) (v := .bool true) rfl rfl rfl rfl (fun w hS => run_move rfl rfl) ?_
    simp only [Act.put,q1,q2,q3]
    refine SP (o := ⟨some 104, _, _, _, _, _⟩) (v := .pointer (some ⟨b14, 1, none⟩)) rfl rfl rfl rfl (fun w hS => run_fieldI1 rfl rfl) ?_
    simp only [Act.put,q1,q2,q3]
    refine SP (o := ⟨some 105, _, _, _, _, _⟩) (v := q11) rfl rfl rfl rfl (fun w hS => run_cell rfl isAgg_words rfl (hS.2.2.2.2.2.1) rfl) ?_
    simp only [Act.put,q1,q2,q3]
    obtain ⟨ao38, cap38, hs38⟩ := IsI.slice (E.2.2.2.2.2.2.2.2.2.1)
    refine SP (o := ⟨some 106, _, _, _, _, _⟩) (v := .int .i64 (((digs v.natAbs).length : Nat) : Int)) rfl rfl rfl rfl (fun w hS => run_len rfl hs38) ?_
    simp only [Act.put,q1,q2,q3]
    refine SP (o := ⟨some 107, _, _, _, _, _⟩) (v := .bool true) rfl rfl rfl rfl (fun w hS => run_eqI (c := true) rfl rfl rfl (len_eq0 (hbz.zero hb0).2)) ?_
    simp only [Act.put,q1,q2,q3]
    refine SP (o := ⟨some 108, _, _, _, _, _⟩) (v := .bool true) rfl rfl rfl rfl (fun w hS => run_pick (b := true) rfl rfl rfl) ?_
    simp only [Act.put,q1,q2,q3]
    refine SP (o := ⟨some 6, _, _, _, _, _⟩) (v := .bool true) rfl rfl rfl rfl (fun w hS => run_assign rfl rfl) ?_
    simp only [Act.put,q1,q2,q3]
    refine SN ?_
    change Code.wp _ _ _ _ _
    refine wp_ret ?_
    exact bodyPost_ret (v := .bool true) (by simp [results, Try.results12, asAddr]) rfl ⟨rfl, E.2.2.2.2.2.2.2.2.2.2.2.2.2.2.2.2.2.2.2.2.2.2.2.2.2.1⟩
   case neg =>
    -- region 13
    refine wp_region_lit ?_
    refine LV (v := .pointer (some ⟨bG4, 1, none⟩)) rfl (run_fieldI1 rfl rfl) ?_
    simp only [Act.put,q1,q2,q3]
    refine LV (v := sG3) rfl (run_cell rfl isAgg_words rfl (E.2.2.2.2.2.2.2.2.2.2.2.2.2.1) rfl) ?_
    simp only [Act.put,q1,q2,q3]
    obtain ⟨ao39, cap39, hs39⟩ := IsI.slice (E.2.2.2.2.2.2.2.2.2.2.2.2.2.2.1)
    refine LV (v := .int .i64 (((digs (b * c).natAbs).length : Nat) : Int)) rfl (run_len rfl hs39) ?_
    simp only [Act.put,q1,q2,q3]
    refine LV (v := .bool false) rfl (run_eqI (c := false) rfl rfl rfl (len_ne0 hb0)) ?_
    simp only [Act.put,q1,q2,q3]
    refine wpList_nil ?_
    change Code.wp _ _ _ _ _
    refine wp_cond_false rfl ?_
    refine wp_skip ?_
    change Code.wp _ _ _ _ _
    refine wp_seq ?_
    -- region 15
    refine wp_region_lit ?_
    refine LV (v := .pointer (some ⟨bG4, 1, none⟩)) rfl (run_fieldI1 rfl rfl) ?_
    simp only [Act.put,q1,q2,q3]
    refine LV (v := sG3) rfl (run_cell rfl isAgg_words rfl (E.2.2.2.2.2.2.2.2.2.2.2.2.2.1) rfl) ?_
    simp only [Act.put,q1,q2,q3]
    obtain ⟨ao40, cap40, hs40⟩ := IsI.slice (E.2.2.2.2.2.2.2.2.2.2.2.2.2.2.1)
    refine LV (v := .agg #[.bool false, sG3]) rfl (run_buildIm rfl rfl hs40) ?_
    simp only [Act.put,q1,q2,q3]
    replace E := E.i (abs_i (E.2.2.2.2.2.2.2.2.2.2.2.2.2.2.1))
    have F41 : Fits ((b * c).natAbs : Int) 10 := Fits_abs Fbc
    refine LV (v := .agg #[.bool false, s8]) rfl (run_load_bx AgI rfl rfl (E.2.2.2.2.2.2.2.2.2.2.2.2.1) rfl) ?_
    simp only [Act.put,q1,q2,q3]
    refine L1 rfl (Oper.wp_callIIE fn_integer_DivMod rfl (DivMod_z _ _ ((b * c).natAbs : Int) g _ (E.1) (E.2.2.2.2.2.2.2.2.2.2.2.2.2.1) ((gcd_nz hg hb0)) (Fits.mono F41 (by decide)) (Fits.mono Fg (by decide))) rfl E ?_)
    clear E
    intro w44 n44 s44 m44 t44 d44 E
    clear d44
    simp only [Act.put,q1,q2,q3]
    have F42 : Fits (((b * c).natAbs : Int) / g) 10 := Fits_div (y := g) F41
    have F43 : Fits (((b * c).natAbs : Int) % g) 10 := Fits_emod (x := ((b * c).natAbs : Int)) (gcd_nz hg hb0) Fg
    refine LV (v := .tuple #[.agg #[.bool n44, s44], .agg #[.bool m44, t44], .int .i64 0]) rfl (run_move rfl rfl) ?_
    simp only [Act.put,q1,q2,q3]
    refine LV (v := .agg #[.bool n44, s44]) rfl (run_extract (vs := [.agg #[.bool n44, s44], .agg #[.bool m44, t44], .int .i64 0]) rfl rfl rfl) ?_
    simp only [Act.put,q1,q2,q3]
    refine LV (v := .agg #[.bool m44, t44]) rfl (run_extract (vs := [.agg #[.bool n44, s44], .agg #[.bool m44, t44], .int .i64 0]) rfl rfl rfl) ?_
    simp only [Act.put,q1,q2,q3]
    refine LV (v := .int .i64 0) rfl (run_extract (vs := [.agg #[.bool n44, s44], .agg #[.bool m44, t44], .int .i64 0]) rfl rfl rfl) ?_
    simp only [Act.put,q1,q2,q3]
    refine L1 rfl (Oper.wp_alloc AgI rfl ?_)
    intro b45 w45 e45 z45 d45 x45
    have l45_0 : b14 < b45 := by rw [e45]; exact Bx.lt (E.2.2.2.2.2.2.2.2.1)
    replace E := E.below d45
    clear e45 z45 d45
    simp only [Act.put,q1,q2,q3]
    refine L1 rfl (Oper.wp_alloc AgI rfl ?_)
    intro b46 w46 e46 z46 d46 x46
    have l46_0 : b45 < b46 := by rw [e46]; exact Bx.lt (x45)
    replace E := E.below d46
    replace x45 := Bx.below x45 d46
    clear e46 z46 d46
    simp only [Act.put,q1,q2,q3]
    refine L1 rfl (Oper.wp_store AgI rfl rfl rfl x45 rfl rfl (IsI.one (E.2.1)) ?_)
    intro w47 o47 y47
    replace E := (E.onl (x45.noW now0) ⟨trivial, trivial, trivial, trivial, trivial, trivial, trivial, trivial, okB (by omega), okB (by omega), okB (by omega), trivial, trivial, trivial, okB (by omega), trivial, okB (by omega), trivial, trivial, okB (by omega), trivial, trivial, okB (by omega), trivial, okX (by omega), okX (by omega), okX (by omega), okW (by omega), trivial⟩ o47).b y47
    replace x46 := Bx.onl x46 (by omega) o47
    clear x45 o47 y47
    simp only [Act.put]
    refine L1 rfl (Oper.wp_store AgI rfl rfl rfl x46 rfl rfl (IsI.one (E.2.1)) ?_)
    intro w48 o48 y48
    replace E := (E.onl (x46.noW now0) ⟨okB (by omega), trivial, trivial, trivial, trivial, trivial, trivial, trivial, trivial, okB (by omega), okB (by omega), okB (by omega), trivial, trivial, trivial, okB (by omega), trivial, okB (by omega), trivial, trivial, okB (by omega), trivial, trivial, okB (by omega), trivial, okX (by omega), okX (by omega), okX (by omega), okW (by omega), trivial⟩ o48).b y48
    clear x46 o48 y48
    simp only [Act.put]
    refine LV (v := .int .i64 0) rfl (run_assign rfl rfl) ?_
    simp only [Act.put,q1,q2,q3]
    refine wpList_nil ?_
    change Code.wp _ _ _ _ _
    refine wp_seq ?_
    obtain rfl : m11 = false := (IsI.sign (E.2.2.2.2.2.2.2.2.2.2.2.2.2.2.1)).trans (decide_eq_false (Int.not_lt.mpr (hbz.low hb0).1))
    -- region 16
    refine wp_region_lit ?_
    refine LV (v := .bool true) rfl (run_move rfl rfl) ?_
    simp only [Act.put,q1,q2,q3]
    refine LV (v := .bool true) rfl (run_move rfl rfl) ?_
    simp only [Act.put,q1,q2,q3]
    refine LV (v := .int .i64 0) rfl (run_move rfl rfl) ?_
    simp only [Act.put,q1,q2,q3]
    refine LV (v := .bool true) rfl (run_eqI (c := true) rfl rfl rfl (by decide)) ?_
    simp only [Act.put,q1,q2,q3]
    refine LV (v := .bool true) rfl (run_pick (b := true) rfl rfl rfl) ?_
    simp only [Act.put,q1,q2,q3]
    refine LV (v := .bool true) rfl (run_move rfl rfl) ?_
    simp only [Act.put,q1,q2,q3]
    refine LV (v := .agg #[.bool false, t11]) rfl (run_load_bx AgI rfl rfl (E.2.2.2.2.2.2.2.2.2.2.2.1) rfl) ?_
    simp only [Act.put,q1,q2,q3]
    refine L1 rfl (Oper.wp_callB fn_eref01_Valid rfl (RValid_z _ u _ (E.2.2.2.2.2.2.2.2.2.2.2.2.2.2.1)) rfl E ?_)
    clear E
    intro w49 d49 E
    clear d49
    simp only [Act.put,q1,q2,q3]
    refine LV (v := .bool true) rfl (run_pick (b := true) rfl rfl rfl) ?_
    simp only [Act.put,q1,q2,q3]
    refine LV (v := .bool true) rfl (run_move rfl rfl) ?_
    simp only [Act.put,q1,q2,q3]
    refine LV (v := .agg #[.bool p11, q11]) rfl (run_load_bx AgI rfl rfl (E.2.2.2.2.2.2.2.2.2.2.1) rfl) ?_
    simp only [Act.put,q1,q2,q3]
    refine L1 rfl (Oper.wp_callB fn_eref01_Valid rfl (RValid_z _ v _ (E.2.2.2.2.2.2.2.2.2.2.2.2.2.1)) rfl E ?_)
    clear E
    intro w50 d50 E
    clear d50
    simp only [Act.put,q1,q2,q3]
    refine LV (v := .bool true) rfl (run_pick (b := true) rfl rfl rfl) ?_
    simp only [Act.put,q1,q2,q3]
    refine LV (v := .bool true) rfl (run_move rfl rfl) ?_
    simp only [Act.put,q1,q2,q3]
    refine LV (v := .pointer (some ⟨b13, 0, none⟩)) rfl (run_fieldI0 rfl rfl) ?_
    simp only [Act.put,q1,q2,q3]
    refine LV (v := .bool false) rfl (run_cell rfl isAgg_bool rfl (E.2.2.2.2.2.2.2.2.2.2.2.1) rfl) ?_
    simp only [Act.put,q1,q2,q3]
    refine LV (v := .bool true) rfl (run_not (b := false) rfl rfl) ?_
    simp only [Act.put,q1,q2,q3]
    refine LV (v := .bool true) rfl (run_pick (b := true) rfl rfl rfl) ?_
    simp only [Act.put,q1,q2,q3]
    refine LV (v := .bool true) rfl (run_move rfl rfl) ?_
    simp only [Act.put,q1,q2,q3]
    refine LV (v := .agg #[.bool false, t11]) rfl (run_load_bx AgI rfl rfl (E.2.2.2.2.2.2.2.2.2.2.2.1) rfl) ?_
    simp only [Act.put,q1,q2,q3]
    refine LV (v := .agg #[.bool n44, s44]) rfl (run_load_bx AgI rfl rfl (E.2.1) rfl) ?_
    simp only [Act.put,q1,q2,q3]
    refine L1 rfl (Oper.wp_callN fn_integer_Cmp rfl (Cmp_z _ _ u (((b * c).natAbs : Int) / g) _ (E.2.2.2.2.2.2.2.2.2.2.2.2.2.2.1) (E.2.2.2.1)) rfl E ?_)
    clear E
    intro w51 d51 E
    clear d51
    simp only [Act.put,q1,q2,q3]
    refine LV (v := .bool true) rfl (run_ltI (c := true) rfl rfl rfl (bez_lt hbz hb0)) ?_
    simp only [Act.put,q1,q2,q3]
    refine LV (v := .bool true) rfl (run_pick (b := true) rfl rfl rfl) ?_
    simp only [Act.put,q1,q2,q3]
    refine LV (v := .bool true) rfl (run_assign rfl rfl) ?_
    simp only [Act.put,q1,q2,q3]
    refine wpList_nil ?_
    change Code.wp _ _ _ _ _
    refine wp_ret ?_
    exact bodyPost_ret (v := .bool true) (by simp [results, Try.results12, asAddr]) rfl ⟨rfl, E.2.2.2.2.2.2.2.2.2.2.2.2.2.2.2.2.2.2.2.2.2.2.2.2.2.2.2.2.2.1⟩
end Go.Proofs.Ytjgmfdenicbniaa
