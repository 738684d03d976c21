/- Walk: Bezout. (Printed by g_bez.py.) -/
import Derived.Test.YtjgmfdenicbniaaBezD
import Derived.Test.YtjgmfdenicbniaaFns
namespace Go.Proofs.Ytjgmfdenicbniaa
open Go.RowKit W
set_option maxRecDepth 100000 in
set_option maxHeartbeats 8000000 in
theorem Bezout_z  (va : Value) (x : Int) (vb : Value) (y : Int) (w : World) (hva : IsI w va x) (hvb : IsI w vb y) (Fx : Fits x 400000000) (Fy : Fits y 400000000) :
    Calls Try.prog 35 #[va, vb] w (RetBez w x y) := by
 have E := Env.start w
 obtain ⟨nva, sva, rfl, _, _⟩ := hva.sh
 replace E := E.i hva
 clear hva
 obtain ⟨nvb, svb, rfl, _, _⟩ := hvb.sh
 replace E := E.i hvb
 clear hvb
 go_enter Try.func35, Try.ntmps35
 refine wp_seq ?_
 -- region 0
 refine wp_region_lit ?_
 refine L1 rfl (Oper.wp_box rfl rfl ?_)
 intro b1 w1 e1 z1 d1 x1
 have l1 : w.heap.size ≤ b1 := by rw [e1]; exact (E.2.2.1).size
 replace E := E.below d1
 clear e1 z1 d1
 replace E := E.b x1
 clear x1
 simp only [Act.put,q1,q2,q3]
 refine L1 rfl (Oper.wp_box rfl rfl ?_)
 intro b2 w2 e2 z2 d2 x2
 have l2_0 : b1 < b2 := by rw [e2]; exact Bx.lt (E.1)
 replace E := E.below d2
 clear e2 z2 d2
 replace E := E.b x2
 clear x2
 simp only [Act.put,q1,q2,q3]
 refine L1 rfl (Oper.wp_alloc AgI rfl ?_)
 intro b3 w3 e3 z3 d3 x3
 have l3_0 : b2 < b3 := by rw [e3]; exact Bx.lt (E.1)
 replace E := E.below d3
 clear e3 z3 d3
 simp only [Act.put,q1,q2,q3]
 refine L1 rfl (Oper.wp_alloc AgI rfl ?_)
 intro b4 w4 e4 z4 d4 x4
 have l4_0 : b3 < b4 := by rw [e4]; exact Bx.lt (x3)
 replace E := E.below d4
 replace x3 := Bx.below x3 d4
 clear e4 z4 d4
 simp only [Act.put,q1,q2,q3]
 refine L1 rfl (Oper.wp_alloc AgI rfl ?_)
 intro b5 w5 e5 z5 d5 x5
 have l5_0 : b4 < b5 := by rw [e5]; exact Bx.lt (x4)
 replace E := E.below d5
 replace x3 := Bx.below x3 d5
 replace x4 := Bx.below x4 d5
 clear e5 z5 d5
 simp only [Act.put,q1,q2,q3]
 refine wpList_nil ?_
 change Code.wp _ _ _ _ _
 refine wp_seq ?_
 refine wp_seq ?_
 by_cases hy : y = 0
 case pos =>
  -- region 1
  refine wp_region_lit ?_
  refine LV (v := .pointer (some ⟨b2, 1, none⟩)) rfl (run_fieldI1 rfl rfl) ?_
  simp only [Act.put,q1,q2,q3]
  refine LV (v := svb) rfl (run_cell rfl isAgg_words rfl (E.1) rfl) ?_
  simp only [Act.put,q1,q2,q3]
  obtain ⟨ao6, cap6, hs6⟩ := IsI.slice (E.2.2.1)
  refine LV (v := .int .i64 (((digs y.natAbs).length : Nat) : Int)) rfl (run_len rfl hs6) ?_
  simp only [Act.put,q1,q2,q3]
  refine LV (v := .bool true) rfl (run_eqI (c := true) rfl rfl rfl (len_eq0 hy)) ?_
  simp only [Act.put,q1,q2,q3]
  refine wpList_nil ?_
  change Code.wp _ _ _ _ _
  refine wp_cond_true rfl ?_
  refine wp_seq ?_
  -- region 2
  refine wp_schedE E ([0, 1, 4, 7, 2, 3, 5, 6, 8, 9, 10]) (by kernel_rfl) (by kernel_rfl) (by kernel_rfl) (by kernel_rfl) (by intro d v c a w h; cases d <;> exact h) ?_
  replace E := E.drew
  replace x3 := Bx.drew x3
  replace x4 := Bx.drew x4
  replace x5 := Bx.drew x5
  refine SP (o := ⟨some 25, _, _, _, _, _⟩) (v := .pointer (some ⟨b1, 1, none⟩)) rfl rfl rfl rfl (fun w hS => run_fieldI1 rfl rfl) ?_
  simp only [Act.put,q1,q2,q3]
  refine SP (o := ⟨some 26, _, _, _, _, _⟩) (v := sva) rfl rfl rfl rfl (fun w hS => run_cell rfl isAgg_words rfl (hS.2.1) rfl) ?_
  simp only [Act.put,q1,q2,q3]
  refine SP (o := ⟨some 29, _, _, _, _, _⟩) (v := .agg #[.bool nva, sva]) rfl rfl rfl rfl (fun w hS => run_load_bx AgI rfl rfl (hS.2.1) rfl) ?_
  simp only [Act.put,q1,q2,q3]
  refine SP (o := ⟨some 32, _, _, _, _, _⟩) (v := .agg #[.bool false, .slice none 0 0]) rfl rfl rfl rfl (fun w hS => run_buildI0 rfl) ?_
  simp only [Act.put,q1,q2,q3]
  replace E := E.i (zero_i _)
  refine S1a (o := ⟨some 27, _, _, _, _, _⟩) rfl rfl rfl rfl (Oper.wp_callS fn_integer_clone rfl (clone_sl _ (digs x.natAbs) _ (IsI.sl (E.2.2.2.2.1)) (Nat.le_trans ((Fits.mono Fx (by decide)) : Fits x 1000000000) (by decide))) rfl E ?_)
  clear E
  intro w7 v7 d7 E
  replace x3 := x3.below d7
  replace x4 := x4.below d7
  replace x5 := x5.below d7
  clear d7
  refine ⟨E.2.2, ?_⟩
  simp only [Act.put,q1,q2,q3]
  refine S1a (o := ⟨some 28, _, _, _, _, _⟩) rfl rfl rfl rfl (Oper.wp_callI fn_integer_signed rfl (signed_z false _ (digs x.natAbs) (x.natAbs : Int) _ (E.1) (by rw [val_digs]; rfl)) rfl E ?_)
  clear E
  intro w8 n8 s8 d8 E
  replace x3 := x3.below d8
  replace x4 := x4.below d8
  replace x5 := x5.below d8
  clear d8
  refine ⟨E.2.2.2, ?_⟩
  simp only [Act.put,q1,q2,q3]
  refine S1a (o := ⟨some 30, _, _, _, _, _⟩) rfl rfl rfl rfl (Oper.wp_callN fn_integer_Sign rfl (Sign_z _ x _ (E.2.2.2.2.2.2.1)) rfl E ?_)
  clear E
  intro w9 d9 E
  replace x3 := x3.below d9
  replace x4 := x4.below d9
  replace x5 := x5.below d9
  clear d9
  refine ⟨E.2.2.2, ?_⟩
  simp only [Act.put,q1,q2,q3]
  refine S1a (o := ⟨some 31, _, _, _, _, _⟩) rfl rfl rfl rfl (Oper.wp_callI fn_integer_Of rfl (Of_z (sgn x) _ (sgn_lo x) (sgn_hi x)) rfl E ?_)
  clear E
  intro w10 n10 s10 d10 E
  replace x3 := x3.below d10
  replace x4 := x4.below d10
  replace x5 := x5.below d10
  clear d10
  refine ⟨E.2.2.2.2, ?_⟩
  simp only [Act.put,q1,q2,q3]
  refine S1a (o := ⟨none, _, _, _, _, _⟩) rfl rfl rfl rfl (Oper.wp_store AgI rfl rfl rfl x3 rfl rfl (IsI.one (E.2.1)) ?_)
  intro w11 o11 y11
  replace E := (E.onl (x3.noW now0) ⟨trivial, trivial, trivial, trivial, okB (by omega), okB (by omega), trivial, trivial, okW (by omega), trivial⟩ o11).b y11
  replace x4 := Bx.onl x4 (by omega) o11
  replace x5 := Bx.onl x5 (by omega) o11
  clear x3 o11 y11
  refine ⟨E.2.2.2.2.2, ?_⟩
  simp only [Act.put]
  refine S1a (o := ⟨none, _, _, _, _, _⟩) rfl rfl rfl rfl (Oper.wp_store AgI rfl rfl rfl x4 rfl rfl (IsI.one (E.2.1)) ?_)
  intro w12 o12 y12
  replace E := (E.onl (x4.noW now0) ⟨okB (by omega), trivial, trivial, trivial, trivial, okB (by omega), okB (by omega), trivial, trivial, okW (by omega), trivial⟩ o12).b y12
  replace x5 := Bx.onl x5 (by omega) o12
  clear x4 o12 y12
  refine ⟨E.2.2.2.2.2.2, ?_⟩
  simp only [Act.put]
  refine S1a (o := ⟨none, _, _, _, _, _⟩) rfl rfl rfl rfl (Oper.wp_store AgI rfl rfl rfl x5 rfl rfl (IsI.one (E.2.2.2.2.2.1)) ?_)
  intro w13 o13 y13
  replace E := (E.onl (x5.noW now0) ⟨okB (by omega), okB (by omega), trivial, trivial, trivial, trivial, okB (by omega), okB (by omega), trivial, trivial, okW (by omega), trivial⟩ o13).b y13
  clear x5 o13 y13
  refine ⟨E.2.2.2.2.2.2.2, ?_⟩
  simp only [Act.put]
  refine SN ?_
  change Code.wp _ _ _ _ _
  refine wp_ret ?_
  have r14 := res_box AgI (E.2.2.1) rfl
  have r15 := res_box AgI (E.2.1) rfl
  have r16 := res_box AgI (E.1) rfl
  exact bodyPost_ret (v := .tuple #[.agg #[.bool n8, s8], .agg #[.bool n10, s10], .agg #[.bool false, .slice none 0 0]]) (by simp [results, Try.results35, asAddr, r14, r15, r16]) rfl ⟨_, _, _, bez_zero' hy, _, _, _, rfl, E.2.2.2.2.1, E.2.2.2.1, E.2.2.2.2.2.2.1, E.2.2.2.2.2.2.2.2.2.2.2.1⟩
 case neg =>
  -- region 1
  refine wp_region_lit ?_
  refine LV (v := .pointer (some ⟨b2, 1, none⟩)) rfl (run_fieldI1 rfl rfl) ?_
  simp only [Act.put,q1,q2,q3]
  refine LV (v := svb) rfl (run_cell rfl isAgg_words rfl (E.1) rfl) ?_
  simp only [Act.put,q1,q2,q3]
  obtain ⟨ao17, cap17, hs17⟩ := IsI.slice (E.2.2.1)
  refine LV (v := .int .i64 (((digs y.natAbs).length : Nat) : Int)) rfl (run_len rfl hs17) ?_
  simp only [Act.put,q1,q2,q3]
  refine LV (v := .bool false) rfl (run_eqI (c := false) rfl rfl rfl (len_ne0 hy)) ?_
  simp only [Act.put,q1,q2,q3]
  refine wpList_nil ?_
  change Code.wp _ _ _ _ _
  refine wp_cond_false rfl ?_
  refine wp_skip ?_
  change Code.wp _ _ _ _ _
  refine wp_seq ?_
  -- region 3
  replace E := E.b x3
  clear x3
  replace E := E.b x4
  clear x4
  replace E := E.b x5
  clear x5
  refine wp_cut (fun a w' => ∃ (bD2 : Nat) (bD3 : Nat), a = ⟨#[.agg #[.bool nva, sva], .agg #[.bool nvb, svb], .pointer (some ⟨b1, 0, none⟩), .pointer (some ⟨b2, 0, none⟩), .pointer (some ⟨b3, 0, none⟩), .pointer (some ⟨b4, 0, none⟩), .pointer (some ⟨b5, 0, none⟩), .pointer (some ⟨bD2, 0, none⟩), .pointer (some ⟨bD3, 0, none⟩), undef, undef, undef, undef, undef, undef, undef, undef, undef, undef, undef, undef, .pointer (some ⟨b2, 1, none⟩), svb, .int .i64 (((digs y.natAbs).length : Nat) : Int), .bool false, undef, undef, undef, undef, undef, undef, undef, undef, .agg #[.bool nva, sva], .agg #[.bool nvb, svb], undef, undef, undef, undef, undef, undef, undef, undef, undef, undef, undef, undef, undef, undef, undef, undef, undef, undef, undef, undef, undef, undef, undef, undef, undef, undef, undef, undef, undef, undef, undef, undef, undef, undef, undef, undef, undef, undef, undef, undef, undef, undef, undef, undef, undef, undef, undef, undef, undef, undef, undef, undef, undef, undef, undef, undef, undef, undef, undef, undef], []⟩ ∧ Env w' [fB bD3 nvb svb, fB bD2 nva sva, fB b5 false (.slice none 0 0), fB b4 false (.slice none 0 0), fB b3 false (.slice none 0 0), fB b2 nvb svb, fB b1 nva sva, fI (.agg #[.bool nvb, svb]) y, fI (.agg #[.bool nva, sva]) x, fW w] ∧ b5 < bD2 ∧ b5 < bD3 ∧ bD2 ≠ bD3) ?_ ?_
  case refine_1 =>
   refine wp_heldE (by kernel_rfl) (#[false, false, false, false, false, false]) 6 rfl rfl (l := [fB b5 false (.slice none 0 0), fB b4 false (.slice none 0 0), fB b3 false (.slice none 0 0), fB b2 nvb svb, fB b1 nva sva, fI (.agg #[.bool nvb, svb]) y, fI (.agg #[.bool nva, sva]) x, fW w]) ?_
   replace E := E.drew
   refine HP (i := 0) (o := ⟨some 33, _, _, _, _, _⟩) (v := .agg #[.bool nva, sva]) rfl (by kernel_rfl) (fun _ _ _ h => h) rfl (fun w hS => run_load_bx AgI rfl rfl (hS.2.2.2.2.1) rfl) (E) ?_
   simp only [Act.put,q1,q2,q3]
   refine HP (i := 1) (o := ⟨some 34, _, _, _, _, _⟩) (v := .agg #[.bool nvb, svb]) rfl (by kernel_rfl) (fun _ _ _ h => h) rfl (fun w hS => run_load_bx AgI rfl rfl (hS.2.2.2.1) rfl) (E) ?_
   simp only [Act.put,q1,q2,q3]
   refine H2 (i := 2) (j := 3) (by kernel_rfl) ?_ ?_
   ·
    refine HE (o := ⟨some 7, _, _, _, _, _⟩) rfl rfl (Oper.wp_alloc AgI rfl ?_)
    intro bD2 wD2 eD2 zD2 dD2 xD2
    have lD2_0 : b5 < bD2 := by rw [eD2]; exact Bx.lt (E.1)
    replace E := E.below dD2
    clear eD2 zD2 dD2
    refine ⟨E, ?_⟩
    simp only [Act.put,q1,q2,q3]
    refine H1 (i := 3) (by kernel_rfl) ?_
    refine HE (o := ⟨some 8, _, _, _, _, _⟩) rfl rfl (Oper.wp_alloc AgI rfl ?_)
    intro bD3 wD3 eD3 zD3 dD3 xD3
    have lD3_0 : bD2 < bD3 := by rw [eD3]; exact Bx.lt (xD2)
    replace E := E.below dD3
    replace xD2 := Bx.below xD2 dD3
    clear eD3 zD3 dD3
    refine ⟨E, ?_⟩
    simp only [Act.put,q1,q2,q3]
    refine H1 (i := 4) (by kernel_rfl) ?_
    refine HE (o := ⟨none, _, _, _, _, _⟩) rfl rfl (Oper.wp_store AgI rfl rfl rfl xD2 rfl rfl (IsI.one (E.2.2.2.2.2.2.1)) ?_)
    intro wD4 oD4 yD4
    replace E := (E.onl (xD2.noW now0) ⟨okB (by omega), okB (by omega), okB (by omega), okB (by omega), okB (by omega), trivial, trivial, okW (by omega), trivial⟩ oD4).b yD4
    replace xD3 := Bx.onl xD3 (by omega) oD4
    clear xD2 oD4 yD4
    refine ⟨E.2, ?_⟩
    simp only [Act.put]
    refine H1 (i := 5) (by kernel_rfl) ?_
    refine HE (o := ⟨none, _, _, _, _, _⟩) rfl rfl (Oper.wp_store AgI rfl rfl rfl xD3 rfl rfl (IsI.one (E.2.2.2.2.2.2.1)) ?_)
    intro wD5 oD5 yD5
    replace E := (E.onl (xD3.noW now0) ⟨okB (by omega), okB (by omega), okB (by omega), okB (by omega), okB (by omega), okB (by omega), trivial, trivial, okW (by omega), trivial⟩ oD5).b yD5
    clear xD3 oD5 yD5
    refine ⟨E.2.2, ?_⟩
    simp only [Act.put]
    refine HN (by kernel_rfl) ?_
    exact ⟨bD2, bD3, rfl, (Env.b (Env.b (Env.b (Env.b (Env.b (Env.b (Env.b (Env.i (Env.i (Env.ww (Env.nil _) (E.2.2.2.2.2.2.2.2.2.1)) (E.2.2.2.2.2.2.2.2.1)) (E.2.2.2.2.2.2.2.1)) (E.2.2.2.2.2.2.1)) (E.2.2.2.2.2.1)) (E.2.2.2.2.1)) (E.2.2.2.1)) (E.2.2.1)) (E.2.1)) (E.1)), by omega, by omega, by omega⟩
   ·
    refine HE (o := ⟨some 8, _, _, _, _, _⟩) rfl rfl (Oper.wp_alloc AgI rfl ?_)
    intro bD3 wD3 eD3 zD3 dD3 xD3
    have lD3_0 : b5 < bD3 := by rw [eD3]; exact Bx.lt (E.1)
    replace E := E.below dD3
    clear eD3 zD3 dD3
    refine ⟨E, ?_⟩
    simp only [Act.put,q1,q2,q3]
    refine H1 (i := 2) (by kernel_rfl) ?_
    refine HE (o := ⟨some 7, _, _, _, _, _⟩) rfl rfl (Oper.wp_alloc AgI rfl ?_)
    intro bD2 wD2 eD2 zD2 dD2 xD2
    have lD2_0 : bD3 < bD2 := by rw [eD2]; exact Bx.lt (xD3)
    replace E := E.below dD2
    replace xD3 := Bx.below xD3 dD2
    clear eD2 zD2 dD2
    refine ⟨E, ?_⟩
    simp only [Act.put,q1,q2,q3]
    refine H1 (i := 4) (by kernel_rfl) ?_
    refine HE (o := ⟨none, _, _, _, _, _⟩) rfl rfl (Oper.wp_store AgI rfl rfl rfl xD2 rfl rfl (IsI.one (E.2.2.2.2.2.2.1)) ?_)
    intro wD4 oD4 yD4
    replace E := (E.onl (xD2.noW now0) ⟨okB (by omega), okB (by omega), okB (by omega), okB (by omega), okB (by omega), trivial, trivial, okW (by omega), trivial⟩ oD4).b yD4
    replace xD3 := Bx.onl xD3 (by omega) oD4
    clear xD2 oD4 yD4
    refine ⟨E.2, ?_⟩
    simp only [Act.put]
    refine H1 (i := 5) (by kernel_rfl) ?_
    refine HE (o := ⟨none, _, _, _, _, _⟩) rfl rfl (Oper.wp_store AgI rfl rfl rfl xD3 rfl rfl (IsI.one (E.2.2.2.2.2.2.1)) ?_)
    intro wD5 oD5 yD5
    replace E := (E.onl (xD3.noW now0) ⟨okB (by omega), okB (by omega), okB (by omega), okB (by omega), okB (by omega), okB (by omega), trivial, trivial, okW (by omega), trivial⟩ oD5).b yD5
    clear xD3 oD5 yD5
    refine ⟨E.2.2, ?_⟩
    simp only [Act.put]
    refine HN (by kernel_rfl) ?_
    exact ⟨bD2, bD3, rfl, (Env.b (Env.b (Env.b (Env.b (Env.b (Env.b (Env.b (Env.i (Env.i (Env.ww (Env.nil _) (E.2.2.2.2.2.2.2.2.2.1)) (E.2.2.2.2.2.2.2.2.1)) (E.2.2.2.2.2.2.2.1)) (E.2.2.2.2.2.2.1)) (E.2.2.2.2.2.1)) (E.2.2.2.2.1)) (E.2.2.2.1)) (E.2.2.1)) (E.2.1)) (E.1)), by omega, by omega, by omega⟩
  case refine_2 =>
   rintro _ wD5 ⟨bD2, bD3, rfl, E, qD5_0, qD5_1, qD5_2⟩
   change Code.wp _ _ _ _ _
   refine wp_seq ?_
   -- region 4
   refine wp_region_lit ?_
   refine L1 rfl (Oper.wp_callI fn_integer_Of rfl (Of_z 1 _ (by decide) (by decide)) rfl E ?_)
   clear E
   intro w18 n18 s18 d18 E
   clear d18
   simp only [Act.put,q1,q2,q3]
   refine L1 rfl (Oper.wp_callI fn_integer_Of rfl (Of_z 0 _ (by decide) (by decide)) rfl E ?_)
   clear E
   intro w19 n19 s19 d19 E
   clear d19
   simp only [Act.put,q1,q2,q3]
   refine L1 rfl (Oper.wp_alloc AgI rfl ?_)
   intro b20 w20 e20 z20 d20 x20
   have l20_0 : bD2 < b20 := by rw [e20]; exact Bx.lt (E.2.2.2.1)
   have l20_1 : bD3 < b20 := by rw [e20]; exact Bx.lt (E.2.2.1)
   replace E := E.below d20
   clear e20 z20 d20
   simp only [Act.put,q1,q2,q3]
   refine L1 rfl (Oper.wp_alloc AgI rfl ?_)
   intro b21 w21 e21 z21 d21 x21
   have l21_0 : b20 < b21 := by rw [e21]; exact Bx.lt (x20)
   replace E := E.below d21
   replace x20 := Bx.below x20 d21
   clear e21 z21 d21
   simp only [Act.put,q1,q2,q3]
   refine L1 rfl (Oper.wp_store AgI rfl rfl rfl x20 rfl rfl (IsI.one (E.2.1)) ?_)
   intro w22 o22 y22
   replace E := (E.onl (x20.noW now0) ⟨trivial, trivial, okB (by omega), okB (by omega), okB (by omega), okB (by omega), okB (by omega), okB (by omega), okB (by omega), trivial, trivial, okW (by omega), trivial⟩ o22).b y22
   replace x21 := Bx.onl x21 (by omega) o22
   clear x20 o22 y22
   simp only [Act.put]
   refine L1 rfl (Oper.wp_store AgI rfl rfl rfl x21 rfl rfl (IsI.one (E.2.1)) ?_)
   intro w23 o23 y23
   replace E := (E.onl (x21.noW now0) ⟨okB (by omega), trivial, trivial, okB (by omega), okB (by omega), okB (by omega), okB (by omega), okB (by omega), okB (by omega), okB (by omega), trivial, trivial, okW (by omega), trivial⟩ o23).b y23
   clear x21 o23 y23
   simp only [Act.put]
   refine wpList_nil ?_
   change Code.wp _ _ _ _ _
   refine wp_seq ?_
   refine wp_block ?_
   refine wp_loop_ghost (fun mz a w' => ∃ (r : Int) (nx : Int) (u : Int) (st : Int) (n7 : Bool) (s7 : Value) (n8 : Bool) (s8 : Value) (n9 : Bool) (s9 : Value) (n10 : Bool) (s10 : Value) (g11 g12 g13 g37 g38 g39 g40 g41 g42 g43 g44 g45 g46 g47 g48 g49 g50 g51 g52 g53 g54 g55 : Value), a = ⟨#[.agg #[.bool nva, sva], .agg #[.bool nvb, svb], .pointer (some ⟨b1, 0, none⟩), .pointer (some ⟨b2, 0, none⟩), .pointer (some ⟨b3, 0, none⟩), .pointer (some ⟨b4, 0, none⟩), .pointer (some ⟨b5, 0, none⟩), .pointer (some ⟨bD2, 0, none⟩), .pointer (some ⟨bD3, 0, none⟩), .pointer (some ⟨b20, 0, none⟩), .pointer (some ⟨b21, 0, none⟩), g11, g12, g13, undef, undef, undef, undef, undef, undef, undef, .pointer (some ⟨b2, 1, none⟩), svb, .int .i64 (((digs y.natAbs).length : Nat) : Int), .bool false, undef, undef, undef, undef, undef, undef, undef, undef, .agg #[.bool nva, sva], .agg #[.bool nvb, svb], .agg #[.bool n18, s18], .agg #[.bool n19, s19], g37, g38, g39, g40, g41, g42, g43, g44, g45, g46, g47, g48, g49, g50, g51, g52, g53, g54, g55, undef, undef, undef, undef, undef, undef, undef, undef, undef, undef, undef, undef, undef, undef, undef, undef, undef, undef, undef, undef, undef, undef, undef, undef, undef, undef, undef, undef, undef, undef, undef, undef, undef, undef, undef, undef, undef, undef, undef], []⟩ ∧ Env w' [fB bD2 n7 s7, fI (.agg #[.bool n7, s7]) r, fB bD3 n8 s8, fI (.agg #[.bool n8, s8]) nx, fB b20 n9 s9, fI (.agg #[.bool n9, s9]) u, fB b21 n10 s10, fI (.agg #[.bool n10, s10]) st, fB b1 nva sva, fI (.agg #[.bool nva, sva]) x, fB b2 nvb svb, fI (.agg #[.bool nvb, svb]) y, fB b3 false (.slice none 0 0), fB b4 false (.slice none 0 0), fB b5 false (.slice none 0 0), fW w] ∧ mz = nx.natAbs ∧ BzInv x y r nx u st) (y.natAbs) ⟨x, y, 1, 0, nva, sva, nvb, svb, n18, s18, n19, s19, _, _, _, _, _, _, _, _, _, _, _, _, _, _, _, _, _, _, _, _, _, _, rfl, (Env.b (Env.i (Env.b (Env.i (Env.b (Env.i (Env.b (Env.i (Env.b (Env.i (Env.b (Env.i (Env.b (Env.b (Env.b (Env.ww (Env.nil _) (E.2.2.2.2.2.2.2.2.2.2.2.2.2.1)) (E.2.2.2.2.2.2.1)) (E.2.2.2.2.2.2.2.1)) (E.2.2.2.2.2.2.2.2.1)) (E.2.2.2.2.2.2.2.2.2.2.2.1)) (E.2.2.2.2.2.2.2.2.2.1)) (E.2.2.2.2.2.2.2.2.2.2.2.2.1)) (E.2.2.2.2.2.2.2.2.2.2.1)) (E.2.2.1)) (E.1)) (E.2.2.2.1)) (E.2.1)) (E.2.2.2.2.2.2.2.2.2.2.2.1)) (E.2.2.2.2.1)) (E.2.2.2.2.2.2.2.2.2.2.2.2.1)) (E.2.2.2.2.2.1)), rfl, BzInv.start x y⟩ ?_
   rintro m24 _ w24 ⟨r, nx, u, st, n7, s7, n8, s8, n9, s9, n10, s10, g11, g12, g13, g37, g38, g39, g40, g41, g42, g43, g44, g45, g46, g47, g48, g49, g50, g51, g52, g53, g54, g55, rfl, E, hm24, hI24⟩
   have Fr := Fits_le2 hI24.hr Fx Fy
   have Fn := Fits_le2 hI24.hn Fx Fy
   have Fu := Fits_of3 hI24.hu Fy
   have Fs := Fits_of3 hI24.hs Fy
   by_cases hz : nx = 0
   case pos =>
    rw [hz] at hI24
    refine wp_seq ?_
    refine wp_seq ?_
    -- region 5
    refine wp_region_lit ?_
    refine LV (v := .pointer (some ⟨bD3, 1, none⟩)) rfl (run_fieldI1 rfl rfl) ?_
    simp only [Act.put,q1,q2,q3]
    refine LV (v := s8) rfl (run_cell rfl isAgg_words rfl (E.2.2.1) rfl) ?_
    simp only [Act.put,q1,q2,q3]
    obtain ⟨ao25, cap25, hs25⟩ := IsI.slice (E.2.2.2.1)
    refine LV (v := .int .i64 (((digs nx.natAbs).length : Nat) : Int)) rfl (run_len rfl hs25) ?_
    simp only [Act.put,q1,q2,q3]
    refine LV (v := .bool false) rfl (run_gtI (c := false) rfl rfl rfl (len_ngt0 hz)) ?_
    simp only [Act.put,q1,q2,q3]
    refine wpList_nil ?_
    change Code.wp _ _ _ _ _
    refine wp_cond_false rfl ?_
    refine wp_exit ?_
    change Code.wp _ _ _ _ _
    obtain ⟨u1, hu1⟩ : ∃ u1 : Int, u1 = if r < 0 then -u else u := ⟨_, rfl⟩
    refine wp_seq ?_
    refine wp_cut (fun a w' => ∃ (nc : Bool) (sc c56 c57 c58 c59 : Value), a = ⟨#[.agg #[.bool nva, sva], .agg #[.bool nvb, svb], .pointer (some ⟨b1, 0, none⟩), .pointer (some ⟨b2, 0, none⟩), .pointer (some ⟨b3, 0, none⟩), .pointer (some ⟨b4, 0, none⟩), .pointer (some ⟨b5, 0, none⟩), .pointer (some ⟨bD2, 0, none⟩), .pointer (some ⟨bD3, 0, none⟩), .pointer (some ⟨b20, 0, none⟩), .pointer (some ⟨b21, 0, none⟩), g11, g12, g13, undef, undef, undef, undef, undef, undef, undef, .pointer (some ⟨b2, 1, none⟩), svb, .int .i64 (((digs y.natAbs).length : Nat) : Int), .bool false, undef, undef, undef, undef, undef, undef, undef, undef, .agg #[.bool nva, sva], .agg #[.bool nvb, svb], .agg #[.bool n18, s18], .agg #[.bool n19, s19], .pointer (some ⟨bD3, 1, none⟩), s8, .int .i64 (((digs nx.natAbs).length : Nat) : Int), .bool false, g41, g42, g43, g44, g45, g46, g47, g48, g49, g50, g51, g52, g53, g54, g55, c56, c57, c58, c59, undef, undef, undef, undef, undef, undef, undef, undef, undef, undef, undef, undef, undef, undef, undef, undef, undef, undef, undef, undef, undef, undef, undef, undef, undef, undef, undef, undef, undef, undef, undef, undef, undef, undef, undef], []⟩ ∧ Env w' [fB b20 nc sc, fI (.agg #[.bool nc, sc]) u1, fB bD2 n7 s7, fI (.agg #[.bool n7, s7]) r, fB bD3 n8 s8, fI (.agg #[.bool n8, s8]) nx, fI (.agg #[.bool n9, s9]) u, fB b21 n10 s10, fI (.agg #[.bool n10, s10]) st, fB b1 nva sva, fI (.agg #[.bool nva, sva]) x, fB b2 nvb svb, fI (.agg #[.bool nvb, svb]) y, fB b3 false (.slice none 0 0), fB b4 false (.slice none 0 0), fB b5 false (.slice none 0 0), fW w]) ?_ ?_
    case refine_1 =>
     refine wp_seq ?_
     have hsg := IsI.sign (E.2.1)
     by_cases hr : r < 0
     case pos =>
      -- region 9
      refine wp_region_lit ?_
      refine LV (v := .pointer (some ⟨bD2, 0, none⟩)) rfl (run_fieldI0 rfl rfl) ?_
      simp only [Act.put,q1,q2,q3]
      refine LV (v := .bool n7) rfl (run_cell rfl isAgg_bool rfl (E.1) rfl) ?_
      simp only [Act.put,q1,q2,q3]
      refine wpList_nil ?_
      change Code.wp _ _ _ _ _
      refine wp_cond_true (congrArg Value.bool (by rw [hsg]; simp [hr])) ?_
      -- region 10
      refine wp_region_lit ?_
      refine LV (v := .agg #[.bool n9, s9]) rfl (run_load_bx AgI rfl rfl (E.2.2.2.2.1) rfl) ?_
      simp only [Act.put,q1,q2,q3]
      refine L1 rfl (Oper.wp_callI fn_integer_Neg rfl (Neg_z _ u _ (E.2.2.2.2.2.1) (Fits.mono Fu (by decide))) rfl E ?_)
      clear E
      intro w26 n26 s26 d26 E
      clear d26
      simp only [Act.put,q1,q2,q3]
      have x28 := E.2.2.2.2.2.1
      replace E := (((((E.2.2.2.2.2.2).i (E.2.2.2.2.1)).b (E.2.2.2.1)).i (E.2.2.1)).b (E.2.1)).i (E.1)
      refine L1 rfl (Oper.wp_store AgI rfl rfl rfl x28 rfl rfl (IsI.one (E.1)) ?_)
      intro w27 o27 y27
      replace E := (E.onl (x28.noW (IsI.now (E.2.2.2.2.2.1))) ⟨trivial, okB (by omega), trivial, okB (by omega), trivial, trivial, okB (by omega), trivial, okB (by omega), trivial, okB (by omega), trivial, okB (by omega), okB (by omega), okB (by omega), okW (by omega), trivial⟩ o27).b y27
      clear x28 o27 y27
      simp only [Act.put]
      refine wpList_nil ?_
      have hu29 : u1 = -u := by rw [hu1]; simp [hr]
      have f29 := E.2.1
      rw [← hu29] at f29
      replace E := E.i f29
      exact ⟨_, _, _, _, _, _, rfl, (Env.b (Env.i (Env.b (Env.i (Env.b (Env.i (Env.i (Env.b (Env.i (Env.b (Env.i (Env.b (Env.i (Env.b (Env.b (Env.b (Env.ww (Env.nil _) (E.2.2.2.2.2.2.2.2.2.2.2.2.2.2.2.2.2.1)) (E.2.2.2.2.2.2.2.2.2.2.2.2.2.2.2.2.1)) (E.2.2.2.2.2.2.2.2.2.2.2.2.2.2.2.1)) (E.2.2.2.2.2.2.2.2.2.2.2.2.2.2.1)) (E.2.2.2.2.2.2.2.2.2.2.2.2.2.1)) (E.2.2.2.2.2.2.2.2.2.2.2.2.1)) (E.2.2.2.2.2.2.2.2.2.2.2.1)) (E.2.2.2.2.2.2.2.2.2.2.1)) (E.2.2.2.2.2.2.2.2.2.1)) (E.2.2.2.2.2.2.2.2.1)) (E.2.2.2.2.2.2.2.1)) (E.2.2.2.2.2.2.1)) (E.2.2.2.2.2.1)) (E.2.2.2.2.1)) (E.2.2.2.1)) (E.1)) (E.2.1))⟩
     case neg =>
      -- region 9
      refine wp_region_lit ?_
      refine LV (v := .pointer (some ⟨bD2, 0, none⟩)) rfl (run_fieldI0 rfl rfl) ?_
      simp only [Act.put,q1,q2,q3]
      refine LV (v := .bool n7) rfl (run_cell rfl isAgg_bool rfl (E.1) rfl) ?_
      simp only [Act.put,q1,q2,q3]
      refine wpList_nil ?_
      change Code.wp _ _ _ _ _
      refine wp_cond_false (congrArg Value.bool (by rw [hsg]; simp [hr])) ?_
      refine wp_skip ?_
      have hu30 : u1 = u := by rw [hu1]; simp [hr]
      have f30 := E.2.2.2.2.2.1
      rw [← hu30] at f30
      replace E := E.i f30
      exact ⟨_, _, _, _, _, _, rfl, (Env.b (Env.i (Env.b (Env.i (Env.b (Env.i (Env.i (Env.b (Env.i (Env.b (Env.i (Env.b (Env.i (Env.b (Env.b (Env.b (Env.ww (Env.nil _) (E.2.2.2.2.2.2.2.2.2.2.2.2.2.2.2.2.1)) (E.2.2.2.2.2.2.2.2.2.2.2.2.2.2.2.1)) (E.2.2.2.2.2.2.2.2.2.2.2.2.2.2.1)) (E.2.2.2.2.2.2.2.2.2.2.2.2.2.1)) (E.2.2.2.2.2.2.2.2.2.2.2.2.1)) (E.2.2.2.2.2.2.2.2.2.2.2.1)) (E.2.2.2.2.2.2.2.2.2.2.1)) (E.2.2.2.2.2.2.2.2.2.1)) (E.2.2.2.2.2.2.2.2.1)) (E.2.2.2.2.2.2.2.1)) (E.2.2.2.2.2.2.1)) (E.2.2.2.2.1)) (E.2.2.2.1)) (E.2.2.1)) (E.2.1)) (E.1)) (E.2.2.2.2.2.1))⟩
    case refine_2 =>
     rintro _ w31 ⟨nc, sc, c56, c57, c58, c59, rfl, E⟩
     have hD := BzInv.done ⟨_, hI24⟩ hy hu1 (per := ((y.natAbs : Int) / (r.natAbs : Int))) rfl
     have Fg : Fits (r.natAbs : Int) 400000001 := Fits_abs Fr
     have Fay : Fits (y.natAbs : Int) 400000000 := Fits_abs Fy
     have Fp : Fits ((y.natAbs : Int) / (r.natAbs : Int)) 400000000 := Fits_div Fay
     have Fu2 : Fits (u1 % ((y.natAbs : Int) / (r.natAbs : Int))) 400000000 := Fits_emod hD.1 Fp
     have Fm := Fits_mul Fu2 Fx
     have Fd := Fits_sub Fg Fm (k := 800000000) (by decide) (by decide)
     have Fu3 : Fits u1 400000001 := by rw [hu1]; split; exact Fits_neg Fu; exact Fu
     change Code.wp _ _ _ _ _
     refine wp_seq ?_
     -- region 11
     refine wp_region_lit ?_
     refine LV (v := .pointer (some ⟨bD2, 1, none⟩)) rfl (run_fieldI1 rfl rfl) ?_
     simp only [Act.put,q1,q2,q3]
     refine LV (v := s7) rfl (run_cell rfl isAgg_words rfl (E.2.2.1) rfl) ?_
     simp only [Act.put,q1,q2,q3]
     refine L1 rfl (Oper.wp_callS fn_integer_clone rfl (clone_sl _ (digs r.natAbs) _ (IsI.sl (E.2.2.2.1)) (Nat.le_trans ((Fits.mono Fr (by decide)) : Fits r 1000000000) (by decide))) rfl E ?_)
     clear E
     intro w32 v32 d32 E
     clear d32
     simp only [Act.put,q1,q2,q3]
     refine L1 rfl (Oper.wp_callI fn_integer_signed rfl (signed_z false _ (digs r.natAbs) (r.natAbs : Int) _ (E.1) (by rw [val_digs]; rfl)) rfl E ?_)
     clear E
     intro w33 n33 s33 d33 E
     clear d33
     simp only [Act.put,q1,q2,q3]
     refine L1 rfl (Oper.wp_alloc AgI rfl ?_)
     intro b34 w34 e34 z34 d34 x34
     have l34_0 : b21 < b34 := by rw [e34]; exact Bx.lt (E.2.2.2.2.2.2.2.2.2.1)
     replace E := E.below d34
     clear e34 z34 d34
     simp only [Act.put,q1,q2,q3]
     refine L1 rfl (Oper.wp_store AgI rfl rfl rfl x34 rfl rfl (IsI.one (E.1)) ?_)
     intro w35 o35 y35
     replace E := (E.onl (x34.noW now0) ⟨trivial, trivial, okB (by omega), trivial, okB (by omega), trivial, okB (by omega), trivial, trivial, okB (by omega), trivial, okB (by omega), trivial, okB (by omega), trivial, okB (by omega), okB (by omega), okB (by omega), okW (by omega), trivial⟩ o35).b y35
     clear x34 o35 y35
     simp only [Act.put]
     refine wpList_nil ?_
     change Code.wp _ _ _ _ _
     refine wp_seq ?_
     -- region 12
     refine wp_cut (fun a w' => ∃ (vM2 : Value) (nM3 : Bool) (sM3 : Value) (nM5 : Bool) (sM5 : Value) (mM5 : Bool) (tM5 : Value) (bM10 : Nat) (bM11 : Nat), a = ⟨#[.agg #[.bool nva, sva], .agg #[.bool nvb, svb], .pointer (some ⟨b1, 0, none⟩), .pointer (some ⟨b2, 0, none⟩), .pointer (some ⟨b3, 0, none⟩), .pointer (some ⟨b4, 0, none⟩), .pointer (some ⟨b5, 0, none⟩), .pointer (some ⟨bD2, 0, none⟩), .pointer (some ⟨bD3, 0, none⟩), .pointer (some ⟨b20, 0, none⟩), .pointer (some ⟨b21, 0, none⟩), g11, g12, g13, .pointer (some ⟨b34, 0, none⟩), .pointer (some ⟨bM10, 0, none⟩), .pointer (some ⟨bM11, 0, none⟩), .int .i64 0, undef, undef, undef, .pointer (some ⟨b2, 1, none⟩), svb, .int .i64 (((digs y.natAbs).length : Nat) : Int), .bool false, undef, undef, undef, undef, undef, undef, undef, undef, .agg #[.bool nva, sva], .agg #[.bool nvb, svb], .agg #[.bool n18, s18], .agg #[.bool n19, s19], .pointer (some ⟨bD3, 1, none⟩), s8, .int .i64 (((digs nx.natAbs).length : Nat) : Int), .bool false, g41, g42, g43, g44, g45, g46, g47, g48, g49, g50, g51, g52, g53, g54, g55, c56, c57, c58, c59, .pointer (some ⟨bD2, 1, none⟩), s7, v32, .agg #[.bool n33, s33], .tuple #[.agg #[.bool nM5, sM5], .agg #[.bool mM5, tM5], .int .i64 0], .pointer (some ⟨b2, 1, none⟩), svb, vM2, .agg #[.bool nM3, sM3], .agg #[.bool n33, s33], .tuple #[.agg #[.bool nM5, sM5], .agg #[.bool mM5, tM5], .int .i64 0], .agg #[.bool nM5, sM5], .agg #[.bool mM5, tM5], .int .i64 0, undef, undef, undef, undef, undef, undef, undef, undef, undef, undef, undef, undef, undef, undef, undef, undef, undef, undef, undef, undef, undef], []⟩ ∧ Env w' [fB bM11 mM5 tM5, fB bM10 nM5 sM5, fI (.agg #[.bool mM5, tM5]) ((y.natAbs : Int) % (r.natAbs : Int)), fI (.agg #[.bool nM5, sM5]) ((y.natAbs : Int) / (r.natAbs : Int)), fI (.agg #[.bool nM3, sM3]) (y.natAbs : Int), fS vM2 (digs y.natAbs), fB b34 n33 s33, fI (.agg #[.bool n33, s33]) (r.natAbs : Int), fS v32 (digs r.natAbs), fB b20 nc sc, fI (.agg #[.bool nc, sc]) u1, fB bD2 n7 s7, fI (.agg #[.bool n7, s7]) r, fB bD3 n8 s8, fI (.agg #[.bool n8, s8]) nx, fI (.agg #[.bool n9, s9]) u, fB b21 n10 s10, fI (.agg #[.bool n10, s10]) st, fB b1 nva sva, fI (.agg #[.bool nva, sva]) x, fB b2 nvb svb, fI (.agg #[.bool nvb, svb]) y, fB b3 false (.slice none 0 0), fB b4 false (.slice none 0 0), fB b5 false (.slice none 0 0), fW w] ∧ b34 < bM10 ∧ b34 < bM11 ∧ bM10 ≠ bM11) ?_ ?_
     case refine_1 =>
      refine wp_heldE (by kernel_rfl) (#[false, false, false, false, false, false, false, false, false, false, false, false, false, false, false]) 15 rfl rfl (l := [fB b34 n33 s33, fI (.agg #[.bool n33, s33]) (r.natAbs : Int), fS v32 (digs r.natAbs), fB b20 nc sc, fI (.agg #[.bool nc, sc]) u1, fB bD2 n7 s7, fI (.agg #[.bool n7, s7]) r, fB bD3 n8 s8, fI (.agg #[.bool n8, s8]) nx, fI (.agg #[.bool n9, s9]) u, fB b21 n10 s10, fI (.agg #[.bool n10, s10]) st, fB b1 nva sva, fI (.agg #[.bool nva, sva]) x, fB b2 nvb svb, fI (.agg #[.bool nvb, svb]) y, fB b3 false (.slice none 0 0), fB b4 false (.slice none 0 0), fB b5 false (.slice none 0 0), fW w]) ?_
      replace E := E.drew
      refine HP (i := 0) (o := ⟨some 65, _, _, _, _, _⟩) (v := .pointer (some ⟨b2, 1, none⟩)) rfl (by kernel_rfl) (fun _ _ _ h => h) rfl (fun w hS => run_fieldI1 rfl rfl) (E) ?_
      simp only [Act.put,q1,q2,q3]
      refine HP (i := 1) (o := ⟨some 66, _, _, _, _, _⟩) (v := svb) rfl (by kernel_rfl) (fun _ _ _ h => h) rfl (fun w hS => run_cell rfl isAgg_words rfl (hS.2.2.2.2.2.2.2.2.2.2.2.2.2.2.1) rfl) (E) ?_
      simp only [Act.put,q1,q2,q3]
      refine HP (i := 4) (o := ⟨some 69, _, _, _, _, _⟩) (v := .agg #[.bool n33, s33]) rfl (by kernel_rfl) (fun _ _ _ h => h) rfl (fun w hS => run_load_bx AgI rfl rfl (hS.1) rfl) (E) ?_
      simp only [Act.put,q1,q2,q3]
      refine H3 (i := 2) (j := 10) (k := 11) (by kernel_rfl) ?_ ?_ ?_
      ·
       refine HE (o := ⟨some 67, _, _, _, _, _⟩) rfl rfl (Oper.wp_callS fn_integer_clone rfl (clone_sl _ (digs y.natAbs) _ (IsI.sl (E.2.2.2.2.2.2.2.2.2.2.2.2.2.2.2.1)) (Nat.le_trans ((Fits.mono Fy (by decide)) : Fits y 1000000000) (by decide))) rfl E ?_)
       clear E
       intro wM2 vM2 dM2 E
       clear dM2
       refine ⟨E.2, ?_⟩
       simp only [Act.put,q1,q2,q3]
       refine H3 (i := 3) (j := 10) (k := 11) (by kernel_rfl) ?_ ?_ ?_
       ·
        refine HE (o := ⟨some 68, _, _, _, _, _⟩) rfl rfl (Oper.wp_callI fn_integer_signed rfl (signed_z false _ (digs y.natAbs) (y.natAbs : Int) _ (E.1) (by rw [val_digs]; rfl)) rfl E ?_)
        clear E
        intro wM3 nM3 sM3 dM3 E
        clear dM3
        refine ⟨E.2.2, ?_⟩
        simp only [Act.put,q1,q2,q3]
        refine H3 (i := 5) (j := 10) (k := 11) (by kernel_rfl) ?_ ?_ ?_
        ·
         refine HE (o := ⟨some 70, _, _, _, _, _⟩) rfl rfl (Oper.wp_callIIE fn_integer_DivMod rfl (DivMod_z _ _ (y.natAbs : Int) (r.natAbs : Int) _ (E.1) (E.2.2.2.1) ((by have := hD.2.1; omega)) (Fits.mono Fay (by decide)) (Fits.mono Fg (by decide))) rfl E ?_)
         clear E
         intro wM5 nM5 sM5 mM5 tM5 dM5 E
         clear dM5
         refine ⟨E.2.2.2.2, ?_⟩
         simp only [Act.put,q1,q2,q3]
         refine HP (i := 6) (o := ⟨some 64, _, _, _, _, _⟩) (v := .tuple #[.agg #[.bool nM5, sM5], .agg #[.bool mM5, tM5], .int .i64 0]) rfl (by kernel_rfl) (fun _ _ _ h => h) rfl (fun w hS => run_move rfl rfl) (E.2.2.2.2) ?_
         simp only [Act.put,q1,q2,q3]
         refine HP (i := 7) (o := ⟨some 71, _, _, _, _, _⟩) (v := .agg #[.bool nM5, sM5]) rfl (by kernel_rfl) (fun _ _ _ h => h) rfl (fun w hS => run_extract (vs := [.agg #[.bool nM5, sM5], .agg #[.bool mM5, tM5], .int .i64 0]) rfl rfl rfl) (E.2.2.2.2) ?_
         simp only [Act.put,q1,q2,q3]
         refine HP (i := 8) (o := ⟨some 72, _, _, _, _, _⟩) (v := .agg #[.bool mM5, tM5]) rfl (by kernel_rfl) (fun _ _ _ h => h) rfl (fun w hS => run_extract (vs := [.agg #[.bool nM5, sM5], .agg #[.bool mM5, tM5], .int .i64 0]) rfl rfl rfl) (E.2.2.2.2) ?_
         simp only [Act.put,q1,q2,q3]
         refine HP (i := 9) (o := ⟨some 73, _, _, _, _, _⟩) (v := .int .i64 0) rfl (by kernel_rfl) (fun _ _ _ h => h) rfl (fun w hS => run_extract (vs := [.agg #[.bool nM5, sM5], .agg #[.bool mM5, tM5], .int .i64 0]) rfl rfl rfl) (E.2.2.2.2) ?_
         simp only [Act.put,q1,q2,q3]
         refine H2 (i := 10) (j := 11) (by kernel_rfl) ?_ ?_
         ·
          refine HE (o := ⟨some 15, _, _, _, _, _⟩) rfl rfl (Oper.wp_alloc AgI rfl ?_)
          intro bM10 wM10 eM10 zM10 dM10 xM10
          have lM10_0 : b34 < bM10 := by rw [eM10]; exact Bx.lt (E.2.2.2.2.1)
          replace E := E.below dM10
          clear eM10 zM10 dM10
          refine ⟨E.2.2.2.2, ?_⟩
          simp only [Act.put,q1,q2,q3]
          refine H1 (i := 11) (by kernel_rfl) ?_
          refine HE (o := ⟨some 16, _, _, _, _, _⟩) rfl rfl (Oper.wp_alloc AgI rfl ?_)
          intro bM11 wM11 eM11 zM11 dM11 xM11
          have lM11_0 : bM10 < bM11 := by rw [eM11]; exact Bx.lt (xM10)
          replace E := E.below dM11
          replace xM10 := Bx.below xM10 dM11
          clear eM11 zM11 dM11
          refine ⟨E.2.2.2.2, ?_⟩
          simp only [Act.put,q1,q2,q3]
          refine H1 (i := 12) (by kernel_rfl) ?_
          refine HE (o := ⟨none, _, _, _, _, _⟩) rfl rfl (Oper.wp_store AgI rfl rfl rfl xM10 rfl rfl (IsI.one (E.2.1)) ?_)
          intro wM12 oM12 yM12
          replace E := (E.onl (xM10.noW now0) ⟨trivial, trivial, trivial, trivial, okB (by omega), trivial, trivial, okB (by omega), trivial, okB (by omega), trivial, okB (by omega), trivial, trivial, okB (by omega), trivial, okB (by omega), trivial, okB (by omega), trivial, okB (by omega), okB (by omega), okB (by omega), okW (by omega), trivial⟩ oM12).b yM12
          replace xM11 := Bx.onl xM11 (by omega) oM12
          clear xM10 oM12 yM12
          refine ⟨E.2.2.2.2.2, ?_⟩
          simp only [Act.put]
          refine H1 (i := 13) (by kernel_rfl) ?_
          refine HE (o := ⟨none, _, _, _, _, _⟩) rfl rfl (Oper.wp_store AgI rfl rfl rfl xM11 rfl rfl (IsI.one (E.2.1)) ?_)
          intro wM13 oM13 yM13
          replace E := (E.onl (xM11.noW now0) ⟨okB (by omega), trivial, trivial, trivial, trivial, okB (by omega), trivial, trivial, okB (by omega), trivial, okB (by omega), trivial, okB (by omega), trivial, trivial, okB (by omega), trivial, okB (by omega), trivial, okB (by omega), trivial, okB (by omega), okB (by omega), okB (by omega), okW (by omega), trivial⟩ oM13).b yM13
          clear xM11 oM13 yM13
          refine ⟨E.2.2.2.2.2.2, ?_⟩
          simp only [Act.put]
          refine HP (i := 14) (o := ⟨some 17, _, _, _, _, _⟩) (v := .int .i64 0) rfl (by kernel_rfl) (fun _ _ _ h => h) rfl (fun w hS => run_assign rfl rfl) (E.2.2.2.2.2.2) ?_
          simp only [Act.put,q1,q2,q3]
          refine HN (by kernel_rfl) ?_
          exact ⟨vM2, nM3, sM3, nM5, sM5, mM5, tM5, bM10, bM11, rfl, (Env.b (Env.b (Env.i (Env.i (Env.i (Env.s (Env.b (Env.i (Env.s (Env.b (Env.i (Env.b (Env.i (Env.b (Env.i (Env.i (Env.b (Env.i (Env.b (Env.i (Env.b (Env.i (Env.b (Env.b (Env.b (Env.ww (Env.nil _) (E.2.2.2.2.2.2.2.2.2.2.2.2.2.2.2.2.2.2.2.2.2.2.2.2.2.1)) (E.2.2.2.2.2.2.2.2.2.2.2.2.2.2.2.2.2.2.2.2.2.2.2.2.1)) (E.2.2.2.2.2.2.2.2.2.2.2.2.2.2.2.2.2.2.2.2.2.2.2.1)) (E.2.2.2.2.2.2.2.2.2.2.2.2.2.2.2.2.2.2.2.2.2.2.1)) (E.2.2.2.2.2.2.2.2.2.2.2.2.2.2.2.2.2.2.2.2.2.1)) (E.2.2.2.2.2.2.2.2.2.2.2.2.2.2.2.2.2.2.2.2.1)) (E.2.2.2.2.2.2.2.2.2.2.2.2.2.2.2.2.2.2.2.1)) (E.2.2.2.2.2.2.2.2.2.2.2.2.2.2.2.2.2.2.1)) (E.2.2.2.2.2.2.2.2.2.2.2.2.2.2.2.2.2.1)) (E.2.2.2.2.2.2.2.2.2.2.2.2.2.2.2.2.1)) (E.2.2.2.2.2.2.2.2.2.2.2.2.2.2.2.1)) (E.2.2.2.2.2.2.2.2.2.2.2.2.2.2.1)) (E.2.2.2.2.2.2.2.2.2.2.2.2.2.1)) (E.2.2.2.2.2.2.2.2.2.2.2.2.1)) (E.2.2.2.2.2.2.2.2.2.2.2.1)) (E.2.2.2.2.2.2.2.2.2.2.1)) (E.2.2.2.2.2.2.2.2.2.1)) (E.2.2.2.2.2.2.2.2.1)) (E.2.2.2.2.2.2.2.1)) (E.2.2.2.2.2.2.1)) (E.2.2.2.2.2.1)) (E.2.2.2.2.1)) (E.2.2.2.1)) (E.2.2.1)) (E.2.1)) (E.1)), by omega, by omega, by omega⟩
         ·
          refine HE (o := ⟨some 16, _, _, _, _, _⟩) rfl rfl (Oper.wp_alloc AgI rfl ?_)
          intro bM11 wM11 eM11 zM11 dM11 xM11
          have lM11_0 : b34 < bM11 := by rw [eM11]; exact Bx.lt (E.2.2.2.2.1)
          replace E := E.below dM11
          clear eM11 zM11 dM11
          refine ⟨E.2.2.2.2, ?_⟩
          simp only [Act.put,q1,q2,q3]
          refine H1 (i := 10) (by kernel_rfl) ?_
          refine HE (o := ⟨some 15, _, _, _, _, _⟩) rfl rfl (Oper.wp_alloc AgI rfl ?_)
          intro bM10 wM10 eM10 zM10 dM10 xM10
          have lM10_0 : bM11 < bM10 := by rw [eM10]; exact Bx.lt (xM11)
          replace E := E.below dM10
          replace xM11 := Bx.below xM11 dM10
          clear eM10 zM10 dM10
          refine ⟨E.2.2.2.2, ?_⟩
          simp only [Act.put,q1,q2,q3]
          refine H1 (i := 12) (by kernel_rfl) ?_
          refine HE (o := ⟨none, _, _, _, _, _⟩) rfl rfl (Oper.wp_store AgI rfl rfl rfl xM10 rfl rfl (IsI.one (E.2.1)) ?_)
          intro wM12 oM12 yM12
          replace E := (E.onl (xM10.noW now0) ⟨trivial, trivial, trivial, trivial, okB (by omega), trivial, trivial, okB (by omega), trivial, okB (by omega), trivial, okB (by omega), trivial, trivial, okB (by omega), trivial, okB (by omega), trivial, okB (by omega), trivial, okB (by omega), okB (by omega), okB (by omega), okW (by omega), trivial⟩ oM12).b yM12
          replace xM11 := Bx.onl xM11 (by omega) oM12
          clear xM10 oM12 yM12
          refine ⟨E.2.2.2.2.2, ?_⟩
          simp only [Act.put]
          refine H1 (i := 13) (by kernel_rfl) ?_
          refine HE (o := ⟨none, _, _, _, _, _⟩) rfl rfl (Oper.wp_store AgI rfl rfl rfl xM11 rfl rfl (IsI.one (E.2.1)) ?_)
          intro wM13 oM13 yM13
          replace E := (E.onl (xM11.noW now0) ⟨okB (by omega), trivial, trivial, trivial, trivial, okB (by omega), trivial, trivial, okB (by omega), trivial, okB (by omega), trivial, okB (by omega), trivial, trivial, okB (by omega), trivial, okB (by omega), trivial, okB (by omega), trivial, okB (by omega), okB (by omega), okB (by omega), okW (by omega), trivial⟩ oM13).b yM13
          clear xM11 oM13 yM13
          refine ⟨E.2.2.2.2.2.2, ?_⟩
          simp only [Act.put]
          refine HP (i := 14) (o := ⟨some 17, _, _, _, _, _⟩) (v := .int .i64 0) rfl (by kernel_rfl) (fun _ _ _ h => h) rfl (fun w hS => run_assign rfl rfl) (E.2.2.2.2.2.2) ?_
          simp only [Act.put,q1,q2,q3]
          refine HN (by kernel_rfl) ?_
          exact ⟨vM2, nM3, sM3, nM5, sM5, mM5, tM5, bM10, bM11, rfl, (Env.b (Env.b (Env.i (Env.i (Env.i (Env.s (Env.b (Env.i (Env.s (Env.b (Env.i (Env.b (Env.i (Env.b (Env.i (Env.i (Env.b (Env.i (Env.b (Env.i (Env.b (Env.i (Env.b (Env.b (Env.b (Env.ww (Env.nil _) (E.2.2.2.2.2.2.2.2.2.2.2.2.2.2.2.2.2.2.2.2.2.2.2.2.2.1)) (E.2.2.2.2.2.2.2.2.2.2.2.2.2.2.2.2.2.2.2.2.2.2.2.2.1)) (E.2.2.2.2.2.2.2.2.2.2.2.2.2.2.2.2.2.2.2.2.2.2.2.1)) (E.2.2.2.2.2.2.2.2.2.2.2.2.2.2.2.2.2.2.2.2.2.2.1)) (E.2.2.2.2.2.2.2.2.2.2.2.2.2.2.2.2.2.2.2.2.2.1)) (E.2.2.2.2.2.2.2.2.2.2.2.2.2.2.2.2.2.2.2.2.1)) (E.2.2.2.2.2.2.2.2.2.2.2.2.2.2.2.2.2.2.2.1)) (E.2.2.2.2.2.2.2.2.2.2.2.2.2.2.2.2.2.2.1)) (E.2.2.2.2.2.2.2.2.2.2.2.2.2.2.2.2.2.1)) (E.2.2.2.2.2.2.2.2.2.2.2.2.2.2.2.2.1)) (E.2.2.2.2.2.2.2.2.2.2.2.2.2.2.2.1)) (E.2.2.2.2.2.2.2.2.2.2.2.2.2.2.1)) (E.2.2.2.2.2.2.2.2.2.2.2.2.2.1)) (E.2.2.2.2.2.2.2.2.2.2.2.2.1)) (E.2.2.2.2.2.2.2.2.2.2.2.1)) (E.2.2.2.2.2.2.2.2.2.2.1)) (E.2.2.2.2.2.2.2.2.2.1)) (E.2.2.2.2.2.2.2.2.1)) (E.2.2.2.2.2.2.2.1)) (E.2.2.2.2.2.2.1)) (E.2.2.2.2.2.1)) (E.2.2.2.2.1)) (E.2.2.2.1)) (E.2.2.1)) (E.2.1)) (E.1)), by omega, by omega, by omega⟩
        ·
         refine HE (o := ⟨some 15, _, _, _, _, _⟩) rfl rfl (Oper.wp_alloc AgI rfl ?_)
         intro bM10 wM10 eM10 zM10 dM10 xM10
         have lM10_0 : b34 < bM10 := by rw [eM10]; exact Bx.lt (E.2.2.1)
         replace E := E.below dM10
         clear eM10 zM10 dM10
         refine ⟨E.2.2, ?_⟩
         simp only [Act.put,q1,q2,q3]
         refine H2 (i := 5) (j := 11) (by kernel_rfl) ?_ ?_
         ·
          refine HE (o := ⟨some 70, _, _, _, _, _⟩) rfl rfl (Oper.wp_callIIE fn_integer_DivMod rfl (DivMod_z _ _ (y.natAbs : Int) (r.natAbs : Int) _ (E.1) (E.2.2.2.1) ((by have := hD.2.1; omega)) (Fits.mono Fay (by decide)) (Fits.mono Fg (by decide))) rfl E ?_)
          clear E
          intro wM5 nM5 sM5 mM5 tM5 dM5 E
          replace xM10 := xM10.below dM5
          clear dM5
          refine ⟨E.2.2.2.2, ?_⟩
          simp only [Act.put,q1,q2,q3]
          refine HP (i := 6) (o := ⟨some 64, _, _, _, _, _⟩) (v := .tuple #[.agg #[.bool nM5, sM5], .agg #[.bool mM5, tM5], .int .i64 0]) rfl (by kernel_rfl) (fun _ _ _ h => h) rfl (fun w hS => run_move rfl rfl) (E.2.2.2.2) ?_
          simp only [Act.put,q1,q2,q3]
          refine HP (i := 7) (o := ⟨some 71, _, _, _, _, _⟩) (v := .agg #[.bool nM5, sM5]) rfl (by kernel_rfl) (fun _ _ _ h => h) rfl (fun w hS => run_extract (vs := [.agg #[.bool nM5, sM5], .agg #[.bool mM5, tM5], .int .i64 0]) rfl rfl rfl) (E.2.2.2.2) ?_
          simp only [Act.put,q1,q2,q3]
          refine HP (i := 8) (o := ⟨some 72, _, _, _, _, _⟩) (v := .agg #[.bool mM5, tM5]) rfl (by kernel_rfl) (fun _ _ _ h => h) rfl (fun w hS => run_extract (vs := [.agg #[.bool nM5, sM5], .agg #[.bool mM5, tM5], .int .i64 0]) rfl rfl rfl) (E.2.2.2.2) ?_
          simp only [Act.put,q1,q2,q3]
          refine HP (i := 9) (o := ⟨some 73, _, _, _, _, _⟩) (v := .int .i64 0) rfl (by kernel_rfl) (fun _ _ _ h => h) rfl (fun w hS => run_extract (vs := [.agg #[.bool nM5, sM5], .agg #[.bool mM5, tM5], .int .i64 0]) rfl rfl rfl) (E.2.2.2.2) ?_
          simp only [Act.put,q1,q2,q3]
          refine H1 (i := 11) (by kernel_rfl) ?_
          refine HE (o := ⟨some 16, _, _, _, _, _⟩) rfl rfl (Oper.wp_alloc AgI rfl ?_)
          intro bM11 wM11 eM11 zM11 dM11 xM11
          have lM11_0 : bM10 < bM11 := by rw [eM11]; exact Bx.lt (xM10)
          replace E := E.below dM11
          replace xM10 := Bx.below xM10 dM11
          clear eM11 zM11 dM11
          refine ⟨E.2.2.2.2, ?_⟩
          simp only [Act.put,q1,q2,q3]
          refine H1 (i := 12) (by kernel_rfl) ?_
          refine HE (o := ⟨none, _, _, _, _, _⟩) rfl rfl (Oper.wp_store AgI rfl rfl rfl xM10 rfl rfl (IsI.one (E.2.1)) ?_)
          intro wM12 oM12 yM12
          replace E := (E.onl (xM10.noW now0) ⟨trivial, trivial, trivial, trivial, okB (by omega), trivial, trivial, okB (by omega), trivial, okB (by omega), trivial, okB (by omega), trivial, trivial, okB (by omega), trivial, okB (by omega), trivial, okB (by omega), trivial, okB (by omega), okB (by omega), okB (by omega), okW (by omega), trivial⟩ oM12).b yM12
          replace xM11 := Bx.onl xM11 (by omega) oM12
          clear xM10 oM12 yM12
          refine ⟨E.2.2.2.2.2, ?_⟩
          simp only [Act.put]
          refine H1 (i := 13) (by kernel_rfl) ?_
          refine HE (o := ⟨none, _, _, _, _, _⟩) rfl rfl (Oper.wp_store AgI rfl rfl rfl xM11 rfl rfl (IsI.one (E.2.1)) ?_)
          intro wM13 oM13 yM13
          replace E := (E.onl (xM11.noW now0) ⟨okB (by omega), trivial, trivial, trivial, trivial, okB (by omega), trivial, trivial, okB (by omega), trivial, okB (by omega), trivial, okB (by omega), trivial, trivial, okB (by omega), trivial, okB (by omega), trivial, okB (by omega), trivial, okB (by omega), okB (by omega), okB (by omega), okW (by omega), trivial⟩ oM13).b yM13
          clear xM11 oM13 yM13
          refine ⟨E.2.2.2.2.2.2, ?_⟩
          simp only [Act.put]
          refine HP (i := 14) (o := ⟨some 17, _, _, _, _, _⟩) (v := .int .i64 0) rfl (by kernel_rfl) (fun _ _ _ h => h) rfl (fun w hS => run_assign rfl rfl) (E.2.2.2.2.2.2) ?_
          simp only [Act.put,q1,q2,q3]
          refine HN (by kernel_rfl) ?_
          exact ⟨vM2, nM3, sM3, nM5, sM5, mM5, tM5, bM10, bM11, rfl, (Env.b (Env.b (Env.i (Env.i (Env.i (Env.s (Env.b (Env.i (Env.s (Env.b (Env.i (Env.b (Env.i (Env.b (Env.i (Env.i (Env.b (Env.i (Env.b (Env.i (Env.b (Env.i (Env.b (Env.b (Env.b (Env.ww (Env.nil _) (E.2.2.2.2.2.2.2.2.2.2.2.2.2.2.2.2.2.2.2.2.2.2.2.2.2.1)) (E.2.2.2.2.2.2.2.2.2.2.2.2.2.2.2.2.2.2.2.2.2.2.2.2.1)) (E.2.2.2.2.2.2.2.2.2.2.2.2.2.2.2.2.2.2.2.2.2.2.2.1)) (E.2.2.2.2.2.2.2.2.2.2.2.2.2.2.2.2.2.2.2.2.2.2.1)) (E.2.2.2.2.2.2.2.2.2.2.2.2.2.2.2.2.2.2.2.2.2.1)) (E.2.2.2.2.2.2.2.2.2.2.2.2.2.2.2.2.2.2.2.2.1)) (E.2.2.2.2.2.2.2.2.2.2.2.2.2.2.2.2.2.2.2.1)) (E.2.2.2.2.2.2.2.2.2.2.2.2.2.2.2.2.2.2.1)) (E.2.2.2.2.2.2.2.2.2.2.2.2.2.2.2.2.2.1)) (E.2.2.2.2.2.2.2.2.2.2.2.2.2.2.2.2.1)) (E.2.2.2.2.2.2.2.2.2.2.2.2.2.2.2.1)) (E.2.2.2.2.2.2.2.2.2.2.2.2.2.2.1)) (E.2.2.2.2.2.2.2.2.2.2.2.2.2.1)) (E.2.2.2.2.2.2.2.2.2.2.2.2.1)) (E.2.2.2.2.2.2.2.2.2.2.2.1)) (E.2.2.2.2.2.2.2.2.2.2.1)) (E.2.2.2.2.2.2.2.2.2.1)) (E.2.2.2.2.2.2.2.2.1)) (E.2.2.2.2.2.2.2.1)) (E.2.2.2.2.2.2.1)) (E.2.2.2.2.2.1)) (E.2.2.2.2.1)) (E.2.2.2.1)) (E.2.2.1)) (E.2.1)) (E.1)), by omega, by omega, by omega⟩
         ·
          refine HE (o := ⟨some 16, _, _, _, _, _⟩) rfl rfl (Oper.wp_alloc AgI rfl ?_)
          intro bM11 wM11 eM11 zM11 dM11 xM11
          have lM11_0 : bM10 < bM11 := by rw [eM11]; exact Bx.lt (xM10)
          replace E := E.below dM11
          replace xM10 := Bx.below xM10 dM11
          clear eM11 zM11 dM11
          refine ⟨E.2.2, ?_⟩
          simp only [Act.put,q1,q2,q3]
          refine H1 (i := 5) (by kernel_rfl) ?_
          refine HE (o := ⟨some 70, _, _, _, _, _⟩) rfl rfl (Oper.wp_callIIE fn_integer_DivMod rfl (DivMod_z _ _ (y.natAbs : Int) (r.natAbs : Int) _ (E.1) (E.2.2.2.1) ((by have := hD.2.1; omega)) (Fits.mono Fay (by decide)) (Fits.mono Fg (by decide))) rfl E ?_)
          clear E
          intro wM5 nM5 sM5 mM5 tM5 dM5 E
          replace xM10 := xM10.below dM5
          replace xM11 := xM11.below dM5
          clear dM5
          refine ⟨E.2.2.2.2, ?_⟩
          simp only [Act.put,q1,q2,q3]
          refine HP (i := 6) (o := ⟨some 64, _, _, _, _, _⟩) (v := .tuple #[.agg #[.bool nM5, sM5], .agg #[.bool mM5, tM5], .int .i64 0]) rfl (by kernel_rfl) (fun _ _ _ h => h) rfl (fun w hS => run_move rfl rfl) (E.2.2.2.2) ?_
          simp only [Act.put,q1,q2,q3]
          refine HP (i := 7) (o := ⟨some 71, _, _, _, _, _⟩) (v := .agg #[.bool nM5, sM5]) rfl (by kernel_rfl) (fun _ _ _ h => h) rfl (fun w hS => run_extract (vs := [.agg #[.bool nM5, sM5], .agg #[.bool mM5, tM5], .int .i64 0]) rfl rfl rfl) (E.2.2.2.2) ?_
          simp only [Act.put,q1,q2,q3]
          refine HP (i := 8) (o := ⟨some 72, _, _, _, _, _⟩) (v := .agg #[.bool mM5, tM5]) rfl (by kernel_rfl) (fun _ _ _ h => h) rfl (fun w hS => run_extract (vs := [.agg #[.bool nM5, sM5], .agg #[.bool mM5, tM5], .int .i64 0]) rfl rfl rfl) (E.2.2.2.2) ?_
          simp only [Act.put,q1,q2,q3]
          refine HP (i := 9) (o := ⟨some 73, _, _, _, _, _⟩) (v := .int .i64 0) rfl (by kernel_rfl) (fun _ _ _ h => h) rfl (fun w hS => run_extract (vs := [.agg #[.bool nM5, sM5], .agg #[.bool mM5, tM5], .int .i64 0]) rfl rfl rfl) (E.2.2.2.2) ?_
          simp only [Act.put,q1,q2,q3]
          refine H1 (i := 12) (by kernel_rfl) ?_
          refine HE (o := ⟨none, _, _, _, _, _⟩) rfl rfl (Oper.wp_store AgI rfl rfl rfl xM10 rfl rfl (IsI.one (E.2.1)) ?_)
          intro wM12 oM12 yM12
          replace E := (E.onl (xM10.noW now0) ⟨trivial, trivial, trivial, trivial, okB (by omega), trivial, trivial, okB (by omega), trivial, okB (by omega), trivial, okB (by omega), trivial, trivial, okB (by omega), trivial, okB (by omega), trivial, okB (by omega), trivial, okB (by omega), okB (by omega), okB (by omega), okW (by omega), trivial⟩ oM12).b yM12
          replace xM11 := Bx.onl xM11 (by omega) oM12
          clear xM10 oM12 yM12
          refine ⟨E.2.2.2.2.2, ?_⟩
          simp only [Act.put]
          refine H1 (i := 13) (by kernel_rfl) ?_
          refine HE (o := ⟨none, _, _, _, _, _⟩) rfl rfl (Oper.wp_store AgI rfl rfl rfl xM11 rfl rfl (IsI.one (E.2.1)) ?_)
          intro wM13 oM13 yM13
          replace E := (E.onl (xM11.noW now0) ⟨okB (by omega), trivial, trivial, trivial, trivial, okB (by omega), trivial, trivial, okB (by omega), trivial, okB (by omega), trivial, okB (by omega), trivial, trivial, okB (by omega), trivial, okB (by omega), trivial, okB (by omega), trivial, okB (by omega), okB (by omega), okB (by omega), okW (by omega), trivial⟩ oM13).b yM13
          clear xM11 oM13 yM13
          refine ⟨E.2.2.2.2.2.2, ?_⟩
          simp only [Act.put]
          refine HP (i := 14) (o := ⟨some 17, _, _, _, _, _⟩) (v := .int .i64 0) rfl (by kernel_rfl) (fun _ _ _ h => h) rfl (fun w hS => run_assign rfl rfl) (E.2.2.2.2.2.2) ?_
          simp only [Act.put,q1,q2,q3]
          refine HN (by kernel_rfl) ?_
          exact ⟨vM2, nM3, sM3, nM5, sM5, mM5, tM5, bM10, bM11, rfl, (Env.b (Env.b (Env.i (Env.i (Env.i (Env.s (Env.b (Env.i (Env.s (Env.b (Env.i (Env.b (Env.i (Env.b (Env.i (Env.i (Env.b (Env.i (Env.b (Env.i (Env.b (Env.i (Env.b (Env.b (Env.b (Env.ww (Env.nil _) (E.2.2.2.2.2.2.2.2.2.2.2.2.2.2.2.2.2.2.2.2.2.2.2.2.2.1)) (E.2.2.2.2.2.2.2.2.2.2.2.2.2.2.2.2.2.2.2.2.2.2.2.2.1)) (E.2.2.2.2.2.2.2.2.2.2.2.2.2.2.2.2.2.2.2.2.2.2.2.1)) (E.2.2.2.2.2.2.2.2.2.2.2.2.2.2.2.2.2.2.2.2.2.2.1)) (E.2.2.2.2.2.2.2.2.2.2.2.2.2.2.2.2.2.2.2.2.2.1)) (E.2.2.2.2.2.2.2.2.2.2.2.2.2.2.2.2.2.2.2.2.1)) (E.2.2.2.2.2.2.2.2.2.2.2.2.2.2.2.2.2.2.2.1)) (E.2.2.2.2.2.2.2.2.2.2.2.2.2.2.2.2.2.2.1)) (E.2.2.2.2.2.2.2.2.2.2.2.2.2.2.2.2.2.1)) (E.2.2.2.2.2.2.2.2.2.2.2.2.2.2.2.2.1)) (E.2.2.2.2.2.2.2.2.2.2.2.2.2.2.2.1)) (E.2.2.2.2.2.2.2.2.2.2.2.2.2.2.1)) (E.2.2.2.2.2.2.2.2.2.2.2.2.2.1)) (E.2.2.2.2.2.2.2.2.2.2.2.2.1)) (E.2.2.2.2.2.2.2.2.2.2.2.1)) (E.2.2.2.2.2.2.2.2.2.2.1)) (E.2.2.2.2.2.2.2.2.2.1)) (E.2.2.2.2.2.2.2.2.1)) (E.2.2.2.2.2.2.2.1)) (E.2.2.2.2.2.2.1)) (E.2.2.2.2.2.1)) (E.2.2.2.2.1)) (E.2.2.2.1)) (E.2.2.1)) (E.2.1)) (E.1)), by omega, by omega, by omega⟩
        ·
         refine HE (o := ⟨some 16, _, _, _, _, _⟩) rfl rfl (Oper.wp_alloc AgI rfl ?_)
         intro bM11 wM11 eM11 zM11 dM11 xM11
         have lM11_0 : b34 < bM11 := by rw [eM11]; exact Bx.lt (E.2.2.1)
         replace E := E.below dM11
         clear eM11 zM11 dM11
         refine ⟨E.2.2, ?_⟩
         simp only [Act.put,q1,q2,q3]
         refine H2 (i := 5) (j := 10) (by kernel_rfl) ?_ ?_
         ·
          refine HE (o := ⟨some 70, _, _, _, _, _⟩) rfl rfl (Oper.wp_callIIE fn_integer_DivMod rfl (DivMod_z _ _ (y.natAbs : Int) (r.natAbs : Int) _ (E.1) (E.2.2.2.1) ((by have := hD.2.1; omega)) (Fits.mono Fay (by decide)) (Fits.mono Fg (by decide))) rfl E ?_)
          clear E
          intro wM5 nM5 sM5 mM5 tM5 dM5 E
          replace xM11 := xM11.below dM5
          clear dM5
          refine ⟨E.2.2.2.2, ?_⟩
          simp only [Act.put,q1,q2,q3]
          refine HP (i := 6) (o := ⟨some 64, _, _, _, _, _⟩) (v := .tuple #[.agg #[.bool nM5, sM5], .agg #[.bool mM5, tM5], .int .i64 0]) rfl (by kernel_rfl) (fun _ _ _ h => h) rfl (fun w hS => run_move rfl rfl) (E.2.2.2.2) ?_
          simp only [Act.put,q1,q2,q3]
          refine HP (i := 7) (o := ⟨some 71, _, _, _, _, _⟩) (v := .agg #[.bool nM5, sM5]) rfl (by kernel_rfl) (fun _ _ _ h => h) rfl (fun w hS => run_extract (vs := [.agg #[.bool nM5, sM5], .agg #[.bool mM5, tM5], .int .i64 0]) rfl rfl rfl) (E.2.2.2.2) ?_
          simp only [Act.put,q1,q2,q3]
          refine HP (i := 8) (o := ⟨some 72, _, _, _, _, _⟩) (v := .agg #[.bool mM5, tM5]) rfl (by kernel_rfl) (fun _ _ _ h => h) rfl (fun w hS => run_extract (vs := [.agg #[.bool nM5, sM5], .agg #[.bool mM5, tM5], .int .i64 0]) rfl rfl rfl) (E.2.2.2.2) ?_
          simp only [Act.put,q1,q2,q3]
          refine HP (i := 9) (o := ⟨some 73, _, _, _, _, _⟩) (v := .int .i64 0) rfl (by kernel_rfl) (fun _ _ _ h => h) rfl (fun w hS => run_extract (vs := [.agg #[.bool nM5, sM5], .agg #[.bool mM5, tM5], .int .i64 0]) rfl rfl rfl) (E.2.2.2.2) ?_
          simp only [Act.put,q1,q2,q3]
          refine H1 (i := 10) (by kernel_rfl) ?_
          refine HE (o := ⟨some 15, _, _, _, _, _⟩) rfl rfl (Oper.wp_alloc AgI rfl ?_)
          intro bM10 wM10 eM10 zM10 dM10 xM10
          have lM10_0 : bM11 < bM10 := by rw [eM10]; exact Bx.lt (xM11)
          replace E := E.below dM10
          replace xM11 := Bx.below xM11 dM10
          clear eM10 zM10 dM10
          refine ⟨E.2.2.2.2, ?_⟩
          simp only [Act.put,q1,q2,q3]
          refine H1 (i := 12) (by kernel_rfl) ?_
          refine HE (o := ⟨none, _, _, _, _, _⟩) rfl rfl (Oper.wp_store AgI rfl rfl rfl xM10 rfl rfl (IsI.one (E.2.1)) ?_)
          intro wM12 oM12 yM12
          replace E := (E.onl (xM10.noW now0) ⟨trivial, trivial, trivial, trivial, okB (by omega), trivial, trivial, okB (by omega), trivial, okB (by omega), trivial, okB (by omega), trivial, trivial, okB (by omega), trivial, okB (by omega), trivial, okB (by omega), trivial, okB (by omega), okB (by omega), okB (by omega), okW (by omega), trivial⟩ oM12).b yM12
          replace xM11 := Bx.onl xM11 (by omega) oM12
          clear xM10 oM12 yM12
          refine ⟨E.2.2.2.2.2, ?_⟩
          simp only [Act.put]
          refine H1 (i := 13) (by kernel_rfl) ?_
          refine HE (o := ⟨none, _, _, _, _, _⟩) rfl rfl (Oper.wp_store AgI rfl rfl rfl xM11 rfl rfl (IsI.one (E.2.1)) ?_)
          intro wM13 oM13 yM13
          replace E := (E.onl (xM11.noW now0) ⟨okB (by omega), trivial, trivial, trivial, trivial, okB (by omega), trivial, trivial, okB (by omega), trivial, okB (by omega), trivial, okB (by omega), trivial, trivial, okB (by omega), trivial, okB (by omega), trivial, okB (by omega), trivial, okB (by omega), okB (by omega), okB (by omega), okW (by omega), trivial⟩ oM13).b yM13
          clear xM11 oM13 yM13
          refine ⟨E.2.2.2.2.2.2, ?_⟩
          simp only [Act.put]
          refine HP (i := 14) (o := ⟨some 17, _, _, _, _, _⟩) (v := .int .i64 0) rfl (by kernel_rfl) (fun _ _ _ h => h) rfl (fun w hS => run_assign rfl rfl) (E.2.2.2.2.2.2) ?_
          simp only [Act.put,q1,q2,q3]
          refine HN (by kernel_rfl) ?_
          exact ⟨vM2, nM3, sM3, nM5, sM5, mM5, tM5, bM10, bM11, rfl, (Env.b (Env.b (Env.i (Env.i (Env.i (Env.s (Env.b (Env.i (Env.s (Env.b (Env.i (Env.b (Env.i (Env.b (Env.i (Env.i (Env.b (Env.i (Env.b (Env.i (Env.b (Env.i (Env.b (Env.b (Env.b (Env.ww (Env.nil _) (E.2.2.2.2.2.2.2.2.2.2.2.2.2.2.2.2.2.2.2.2.2.2.2.2.2.1)) (E.2.2.2.2.2.2.2.2.2.2.2.2.2.2.2.2.2.2.2.2.2.2.2.2.1)) (E.2.2.2.2.2.2.2.2.2.2.2.2.2.2.2.2.2.2.2.2.2.2.2.1)) (E.2.2.2.2.2.2.2.2.2.2.2.2.2.2.2.2.2.2.2.2.2.2.1)) (E.2.2.2.2.2.2.2.2.2.2.2.2.2.2.2.2.2.2.2.2.2.1)) (E.2.2.2.2.2.2.2.2.2.2.2.2.2.2.2.2.2.2.2.2.1)) (E.2.2.2.2.2.2.2.2.2.2.2.2.2.2.2.2.2.2.2.1)) (E.2.2.2.2.2.2.2.2.2.2.2.2.2.2.2.2.2.2.1)) (E.2.2.2.2.2.2.2.2.2.2.2.2.2.2.2.2.2.1)) (E.2.2.2.2.2.2.2.2.2.2.2.2.2.2.2.2.1)) (E.2.2.2.2.2.2.2.2.2.2.2.2.2.2.2.1)) (E.2.2.2.2.2.2.2.2.2.2.2.2.2.2.1)) (E.2.2.2.2.2.2.2.2.2.2.2.2.2.1)) (E.2.2.2.2.2.2.2.2.2.2.2.2.1)) (E.2.2.2.2.2.2.2.2.2.2.2.1)) (E.2.2.2.2.2.2.2.2.2.2.1)) (E.2.2.2.2.2.2.2.2.2.1)) (E.2.2.2.2.2.2.2.2.1)) (E.2.2.2.2.2.2.2.1)) (E.2.2.2.2.2.2.1)) (E.2.2.2.2.2.1)) (E.2.2.2.2.1)) (E.2.2.2.1)) (E.2.2.1)) (E.2.1)) (E.1)), by omega, by omega, by omega⟩
         ·
          refine HE (o := ⟨some 15, _, _, _, _, _⟩) rfl rfl (Oper.wp_alloc AgI rfl ?_)
          intro bM10 wM10 eM10 zM10 dM10 xM10
          have lM10_0 : bM11 < bM10 := by rw [eM10]; exact Bx.lt (xM11)
          replace E := E.below dM10
          replace xM11 := Bx.below xM11 dM10
          clear eM10 zM10 dM10
          refine ⟨E.2.2, ?_⟩
          simp only [Act.put,q1,q2,q3]
          refine H1 (i := 5) (by kernel_rfl) ?_
          refine HE (o := ⟨some 70, _, _, _, _, _⟩) rfl rfl (Oper.wp_callIIE fn_integer_DivMod rfl (DivMod_z _ _ (y.natAbs : Int) (r.natAbs : Int) _ (E.1) (E.2.2.2.1) ((by have := hD.2.1; omega)) (Fits.mono Fay (by decide)) (Fits.mono Fg (by decide))) rfl E ?_)
          clear E
          intro wM5 nM5 sM5 mM5 tM5 dM5 E
          replace xM11 := xM11.below dM5
          replace xM10 := xM10.below dM5
          clear dM5
          refine ⟨E.2.2.2.2, ?_⟩
          simp only [Act.put,q1,q2,q3]
          refine HP (i := 6) (o := ⟨some 64, _, _, _, _, _⟩) (v := .tuple #[.agg #[.bool nM5, sM5], .agg #[.bool mM5, tM5], .int .i64 0]) rfl (by kernel_rfl) (fun _ _ _ h => h) rfl (fun w hS => run_move rfl rfl) (E.2.2.2.2) ?_
          simp only [Act.put,q1,q2,q3]
          refine HP (i := 7) (o := ⟨some 71, _, _, _, _, _⟩) (v := .agg #[.bool nM5, sM5]) rfl (by kernel_rfl) (fun _ _ _ h => h) rfl (fun w hS => run_extract (vs := [.agg #[.bool nM5, sM5], .agg #[.bool mM5, tM5], .int .i64 0]) rfl rfl rfl) (E.2.2.2.2) ?_
          simp only [Act.put,q1,q2,q3]
          refine HP (i := 8) (o := ⟨some 72, _, _, _, _, _⟩) (v := .agg #[.bool mM5, tM5]) rfl (by kernel_rfl) (fun _ _ _ h => h) rfl (fun w hS => run_extract (vs := [.agg #[.bool nM5, sM5], .agg #[.bool mM5, tM5], .int .i64 0]) rfl rfl rfl) (E.2.2.2.2) ?_
          simp only [Act.put,q1,q2,q3]
          refine HP (i := 9) (o := ⟨some 73, _, _, _, _, _⟩) (v := .int .i64 0) rfl (by kernel_rfl) (fun _ _ _ h => h) rfl (fun w hS => run_extract (vs := [.agg #[.bool nM5, sM5], .agg #[.bool mM5, tM5], .int .i64 0]) rfl rfl rfl) (E.2.2.2.2) ?_
          simp only [Act.put,q1,q2,q3]
          refine H1 (i := 12) (by kernel_rfl) ?_
          refine HE (o := ⟨none, _, _, _, _, _⟩) rfl rfl (Oper.wp_store AgI rfl rfl rfl xM10 rfl rfl (IsI.one (E.2.1)) ?_)
          intro wM12 oM12 yM12
          replace E := (E.onl (xM10.noW now0) ⟨trivial, trivial, trivial, trivial, okB (by omega), trivial, trivial, okB (by omega), trivial, okB (by omega), trivial, okB (by omega), trivial, trivial, okB (by omega), trivial, okB (by omega), trivial, okB (by omega), trivial, okB (by omega), okB (by omega), okB (by omega), okW (by omega), trivial⟩ oM12).b yM12
          replace xM11 := Bx.onl xM11 (by omega) oM12
          clear xM10 oM12 yM12
          refine ⟨E.2.2.2.2.2, ?_⟩
          simp only [Act.put]
          refine H1 (i := 13) (by kernel_rfl) ?_
          refine HE (o := ⟨none, _, _, _, _, _⟩) rfl rfl (Oper.wp_store AgI rfl rfl rfl xM11 rfl rfl (IsI.one (E.2.1)) ?_)
          intro wM13 oM13 yM13
          replace E := (E.onl (xM11.noW now0) ⟨okB (by omega), trivial, trivial, trivial, trivial, okB (by omega), trivial, trivial, okB (by omega), trivial, okB (by omega), trivial, okB (by omega), trivial, trivial, okB (by omega), trivial, okB (by omega), trivial, okB (by omega), trivial, okB (by omega), okB (by omega), okB (by omega), okW (by omega), trivial⟩ oM13).b yM13
          clear xM11 oM13 yM13
          refine ⟨E.2.2.2.2.2.2, ?_⟩
          simp only [Act.put]
          refine HP (i := 14) (o := ⟨some 17, _, _, _, _, _⟩) (v := .int .i64 0) rfl (by kernel_rfl) (fun _ _ _ h => h) rfl (fun w hS => run_assign rfl rfl) (E.2.2.2.2.2.2) ?_
          simp only [Act.put,q1,q2,q3]
          refine HN (by kernel_rfl) ?_
          exact ⟨vM2, nM3, sM3, nM5, sM5, mM5, tM5, bM10, bM11, rfl, (Env.b (Env.b (Env.i (Env.i (Env.i (Env.s (Env.b (Env.i (Env.s (Env.b (Env.i (Env.b (Env.i (Env.b (Env.i (Env.i (Env.b (Env.i (Env.b (Env.i (Env.b (Env.i (Env.b (Env.b (Env.b (Env.ww (Env.nil _) (E.2.2.2.2.2.2.2.2.2.2.2.2.2.2.2.2.2.2.2.2.2.2.2.2.2.1)) (E.2.2.2.2.2.2.2.2.2.2.2.2.2.2.2.2.2.2.2.2.2.2.2.2.1)) (E.2.2.2.2.2.2.2.2.2.2.2.2.2.2.2.2.2.2.2.2.2.2.2.1)) (E.2.2.2.2.2.2.2.2.2.2.2.2.2.2.2.2.2.2.2.2.2.2.1)) (E.2.2.2.2.2.2.2.2.2.2.2.2.2.2.2.2.2.2.2.2.2.1)) (E.2.2.2.2.2.2.2.2.2.2.2.2.2.2.2.2.2.2.2.2.1)) (E.2.2.2.2.2.2.2.2.2.2.2.2.2.2.2.2.2.2.2.1)) (E.2.2.2.2.2.2.2.2.2.2.2.2.2.2.2.2.2.2.1)) (E.2.2.2.2.2.2.2.2.2.2.2.2.2.2.2.2.2.1)) (E.2.2.2.2.2.2.2.2.2.2.2.2.2.2.2.2.1)) (E.2.2.2.2.2.2.2.2.2.2.2.2.2.2.2.1)) (E.2.2.2.2.2.2.2.2.2.2.2.2.2.2.1)) (E.2.2.2.2.2.2.2.2.2.2.2.2.2.1)) (E.2.2.2.2.2.2.2.2.2.2.2.2.1)) (E.2.2.2.2.2.2.2.2.2.2.2.1)) (E.2.2.2.2.2.2.2.2.2.2.1)) (E.2.2.2.2.2.2.2.2.2.1)) (E.2.2.2.2.2.2.2.2.1)) (E.2.2.2.2.2.2.2.1)) (E.2.2.2.2.2.2.1)) (E.2.2.2.2.2.1)) (E.2.2.2.2.1)) (E.2.2.2.1)) (E.2.2.1)) (E.2.1)) (E.1)), by omega, by omega, by omega⟩
       ·
        refine HE (o := ⟨some 15, _, _, _, _, _⟩) rfl rfl (Oper.wp_alloc AgI rfl ?_)
        intro bM10 wM10 eM10 zM10 dM10 xM10
        have lM10_0 : b34 < bM10 := by rw [eM10]; exact Bx.lt (E.2.1)
        replace E := E.below dM10
        clear eM10 zM10 dM10
        refine ⟨E.2, ?_⟩
        simp only [Act.put,q1,q2,q3]
        refine H2 (i := 3) (j := 11) (by kernel_rfl) ?_ ?_
        ·
         refine HE (o := ⟨some 68, _, _, _, _, _⟩) rfl rfl (Oper.wp_callI fn_integer_signed rfl (signed_z false _ (digs y.natAbs) (y.natAbs : Int) _ (E.1) (by rw [val_digs]; rfl)) rfl E ?_)
         clear E
         intro wM3 nM3 sM3 dM3 E
         replace xM10 := xM10.below dM3
         clear dM3
         refine ⟨E.2.2, ?_⟩
         simp only [Act.put,q1,q2,q3]
         refine H2 (i := 5) (j := 11) (by kernel_rfl) ?_ ?_
         ·
          refine HE (o := ⟨some 70, _, _, _, _, _⟩) rfl rfl (Oper.wp_callIIE fn_integer_DivMod rfl (DivMod_z _ _ (y.natAbs : Int) (r.natAbs : Int) _ (E.1) (E.2.2.2.1) ((by have := hD.2.1; omega)) (Fits.mono Fay (by decide)) (Fits.mono Fg (by decide))) rfl E ?_)
          clear E
          intro wM5 nM5 sM5 mM5 tM5 dM5 E
          replace xM10 := xM10.below dM5
          clear dM5
          refine ⟨E.2.2.2.2, ?_⟩
          simp only [Act.put,q1,q2,q3]
          refine HP (i := 6) (o := ⟨some 64, _, _, _, _, _⟩) (v := .tuple #[.agg #[.bool nM5, sM5], .agg #[.bool mM5, tM5], .int .i64 0]) rfl (by kernel_rfl) (fun _ _ _ h => h) rfl (fun w hS => run_move rfl rfl) (E.2.2.2.2) ?_
          simp only [Act.put,q1,q2,q3]
          refine HP (i := 7) (o := ⟨some 71, _, _, _, _, _⟩) (v := .agg #[.bool nM5, sM5]) rfl (by kernel_rfl) (fun _ _ _ h => h) rfl (fun w hS => run_extract (vs := [.agg #[.bool nM5, sM5], .agg #[.bool mM5, tM5], .int .i64 0]) rfl rfl rfl) (E.2.2.2.2) ?_
          simp only [Act.put,q1,q2,q3]
          refine HP (i := 8) (o := ⟨some 72, _, _, _, _, _⟩) (v := .agg #[.bool mM5, tM5]) rfl (by kernel_rfl) (fun _ _ _ h => h) rfl (fun w hS => run_extract (vs := [.agg #[.bool nM5, sM5], .agg #[.bool mM5, tM5], .int .i64 0]) rfl rfl rfl) (E.2.2.2.2) ?_
          simp only [Act.put,q1,q2,q3]
          refine HP (i := 9) (o := ⟨some 73, _, _, _, _, _⟩) (v := .int .i64 0) rfl (by kernel_rfl) (fun _ _ _ h => h) rfl (fun w hS => run_extract (vs := [.agg #[.bool nM5, sM5], .agg #[.bool mM5, tM5], .int .i64 0]) rfl rfl rfl) (E.2.2.2.2) ?_
          simp only [Act.put,q1,q2,q3]
          refine H1 (i := 11) (by kernel_rfl) ?_
          refine HE (o := ⟨some 16, _, _, _, _, _⟩) rfl rfl (Oper.wp_alloc AgI rfl ?_)
          intro bM11 wM11 eM11 zM11 dM11 xM11
          have lM11_0 : bM10 < bM11 := by rw [eM11]; exact Bx.lt (xM10)
          replace E := E.below dM11
          replace xM10 := Bx.below xM10 dM11
          clear eM11 zM11 dM11
          refine ⟨E.2.2.2.2, ?_⟩
          simp only [Act.put,q1,q2,q3]
          refine H1 (i := 12) (by kernel_rfl) ?_
          refine HE (o := ⟨none, _, _, _, _, _⟩) rfl rfl (Oper.wp_store AgI rfl rfl rfl xM10 rfl rfl (IsI.one (E.2.1)) ?_)
          intro wM12 oM12 yM12
          replace E := (E.onl (xM10.noW now0) ⟨trivial, trivial, trivial, trivial, okB (by omega), trivial, trivial, okB (by omega), trivial, okB (by omega), trivial, okB (by omega), trivial, trivial, okB (by omega), trivial, okB (by omega), trivial, okB (by omega), trivial, okB (by omega), okB (by omega), okB (by omega), okW (by omega), trivial⟩ oM12).b yM12
          replace xM11 := Bx.onl xM11 (by omega) oM12
          clear xM10 oM12 yM12
          refine ⟨E.2.2.2.2.2, ?_⟩
          simp only [Act.put]
          refine H1 (i := 13) (by kernel_rfl) ?_
          refine HE (o := ⟨none, _, _, _, _, _⟩) rfl rfl (Oper.wp_store AgI rfl rfl rfl xM11 rfl rfl (IsI.one (E.2.1)) ?_)
          intro wM13 oM13 yM13
          replace E := (E.onl (xM11.noW now0) ⟨okB (by omega), trivial, trivial, trivial, trivial, okB (by omega), trivial, trivial, okB (by omega), trivial, okB (by omega), trivial, okB (by omega), trivial, trivial, okB (by omega), trivial, okB (by omega), trivial, okB (by omega), trivial, okB (by omega), okB (by omega), okB (by omega), okW (by omega), trivial⟩ oM13).b yM13
          clear xM11 oM13 yM13
          refine ⟨E.2.2.2.2.2.2, ?_⟩
          simp only [Act.put]
          refine HP (i := 14) (o := ⟨some 17, _, _, _, _, _⟩) (v := .int .i64 0) rfl (by kernel_rfl) (fun _ _ _ h => h) rfl (fun w hS => run_assign rfl rfl) (E.2.2.2.2.2.2) ?_
          simp only [Act.put,q1,q2,q3]
          refine HN (by kernel_rfl) ?_
          exact ⟨vM2, nM3, sM3, nM5, sM5, mM5, tM5, bM10, bM11, rfl, (Env.b (Env.b (Env.i (Env.i (Env.i (Env.s (Env.b (Env.i (Env.s (Env.b (Env.i (Env.b (Env.i (Env.b (Env.i (Env.i (Env.b (Env.i (Env.b (Env.i (Env.b (Env.i (Env.b (Env.b (Env.b (Env.ww (Env.nil _) (E.2.2.2.2.2.2.2.2.2.2.2.2.2.2.2.2.2.2.2.2.2.2.2.2.2.1)) (E.2.2.2.2.2.2.2.2.2.2.2.2.2.2.2.2.2.2.2.2.2.2.2.2.1)) (E.2.2.2.2.2.2.2.2.2.2.2.2.2.2.2.2.2.2.2.2.2.2.2.1)) (E.2.2.2.2.2.2.2.2.2.2.2.2.2.2.2.2.2.2.2.2.2.2.1)) (E.2.2.2.2.2.2.2.2.2.2.2.2.2.2.2.2.2.2.2.2.2.1)) (E.2.2.2.2.2.2.2.2.2.2.2.2.2.2.2.2.2.2.2.2.1)) (E.2.2.2.2.2.2.2.2.2.2.2.2.2.2.2.2.2.2.2.1)) (E.2.2.2.2.2.2.2.2.2.2.2.2.2.2.2.2.2.2.1)) (E.2.2.2.2.2.2.2.2.2.2.2.2.2.2.2.2.2.1)) (E.2.2.2.2.2.2.2.2.2.2.2.2.2.2.2.2.1)) (E.2.2.2.2.2.2.2.2.2.2.2.2.2.2.2.1)) (E.2.2.2.2.2.2.2.2.2.2.2.2.2.2.1)) (E.2.2.2.2.2.2.2.2.2.2.2.2.2.1)) (E.2.2.2.2.2.2.2.2.2.2.2.2.1)) (E.2.2.2.2.2.2.2.2.2.2.2.1)) (E.2.2.2.2.2.2.2.2.2.2.1)) (E.2.2.2.2.2.2.2.2.2.1)) (E.2.2.2.2.2.2.2.2.1)) (E.2.2.2.2.2.2.2.1)) (E.2.2.2.2.2.2.1)) (E.2.2.2.2.2.1)) (E.2.2.2.2.1)) (E.2.2.2.1)) (E.2.2.1)) (E.2.1)) (E.1)), by omega, by omega, by omega⟩
         ·
          refine HE (o := ⟨some 16, _, _, _, _, _⟩) rfl rfl (Oper.wp_alloc AgI rfl ?_)
          intro bM11 wM11 eM11 zM11 dM11 xM11
          have lM11_0 : bM10 < bM11 := by rw [eM11]; exact Bx.lt (xM10)
          replace E := E.below dM11
          replace xM10 := Bx.below xM10 dM11
          clear eM11 zM11 dM11
          refine ⟨E.2.2, ?_⟩
          simp only [Act.put,q1,q2,q3]
          refine H1 (i := 5) (by kernel_rfl) ?_
          refine HE (o := ⟨some 70, _, _, _, _, _⟩) rfl rfl (Oper.wp_callIIE fn_integer_DivMod rfl (DivMod_z _ _ (y.natAbs : Int) (r.natAbs : Int) _ (E.1) (E.2.2.2.1) ((by have := hD.2.1; omega)) (Fits.mono Fay (by decide)) (Fits.mono Fg (by decide))) rfl E ?_)
          clear E
          intro wM5 nM5 sM5 mM5 tM5 dM5 E
          replace xM10 := xM10.below dM5
          replace xM11 := xM11.below dM5
          clear dM5
          refine ⟨E.2.2.2.2, ?_⟩
          simp only [Act.put,q1,q2,q3]
          refine HP (i := 6) (o := ⟨some 64, _, _, _, _, _⟩) (v := .tuple #[.agg #[.bool nM5, sM5], .agg #[.bool mM5, tM5], .int .i64 0]) rfl (by kernel_rfl) (fun _ _ _ h => h) rfl (fun w hS => run_move rfl rfl) (E.2.2.2.2) ?_
          simp only [Act.put,q1,q2,q3]
          refine HP (i := 7) (o := ⟨some 71, _, _, _, _, _⟩) (v := .agg #[.bool nM5, sM5]) rfl (by kernel_rfl) (fun _ _ _ h => h) rfl (fun w hS => run_extract (vs := [.agg #[.bool nM5, sM5], .agg #[.bool mM5, tM5], .int .i64 0]) rfl rfl rfl) (E.2.2.2.2) ?_
          simp only [Act.put,q1,q2,q3]
          refine HP (i := 8) (o := ⟨some 72, _, _, _, _, _⟩) (v := .agg #[.bool mM5, tM5]) rfl (by kernel_rfl) (fun _ _ _ h => h) rfl (fun w hS => run_extract (vs := [.agg #[.bool nM5, sM5], .agg #[.bool mM5, tM5], .int .i64 0]) rfl rfl rfl) (E.2.2.2.2) ?_
          simp only [Act.put,q1,q2,q3]
          refine HP (i := 9) (o := ⟨some 73, _, _, _, _, _⟩) (v := .int .i64 0) rfl (by kernel_rfl) (fun _ _ _ h => h) rfl (fun w hS => run_extract (vs := [.agg #[.bool nM5, sM5], .agg #[.bool mM5, tM5], .int .i64 0]) rfl rfl rfl) (E.2.2.2.2) ?_
          simp only [Act.put,q1,q2,q3]
          refine H1 (i := 12) (by kernel_rfl) ?_
          refine HE (o := ⟨none, _, _, _, _, _⟩) rfl rfl (Oper.wp_store AgI rfl rfl rfl xM10 rfl rfl (IsI.one (E.2.1)) ?_)
          intro wM12 oM12 yM12
          replace E := (E.onl (xM10.noW now0) ⟨trivial, trivial, trivial, trivial, okB (by omega), trivial, trivial, okB (by omega), trivial, okB (by omega), trivial, okB (by omega), trivial, trivial, okB (by omega), trivial, okB (by omega), trivial, okB (by omega), trivial, okB (by omega), okB (by omega), okB (by omega), okW (by omega), trivial⟩ oM12).b yM12
          replace xM11 := Bx.onl xM11 (by omega) oM12
          clear xM10 oM12 yM12
          refine ⟨E.2.2.2.2.2, ?_⟩
          simp only [Act.put]
          refine H1 (i := 13) (by kernel_rfl) ?_
          refine HE (o := ⟨none, _, _, _, _, _⟩) rfl rfl (Oper.wp_store AgI rfl rfl rfl xM11 rfl rfl (IsI.one (E.2.1)) ?_)
          intro wM13 oM13 yM13
          replace E := (E.onl (xM11.noW now0) ⟨okB (by omega), trivial, trivial, trivial, trivial, okB (by omega), trivial, trivial, okB (by omega), trivial, okB (by omega), trivial, okB (by omega), trivial, trivial, okB (by omega), trivial, okB (by omega), trivial, okB (by omega), trivial, okB (by omega), okB (by omega), okB (by omega), okW (by omega), trivial⟩ oM13).b yM13
          clear xM11 oM13 yM13
          refine ⟨E.2.2.2.2.2.2, ?_⟩
          simp only [Act.put]
          refine HP (i := 14) (o := ⟨some 17, _, _, _, _, _⟩) (v := .int .i64 0) rfl (by kernel_rfl) (fun _ _ _ h => h) rfl (fun w hS => run_assign rfl rfl) (E.2.2.2.2.2.2) ?_
          simp only [Act.put,q1,q2,q3]
          refine HN (by kernel_rfl) ?_
          exact ⟨vM2, nM3, sM3, nM5, sM5, mM5, tM5, bM10, bM11, rfl, (Env.b (Env.b (Env.i (Env.i (Env.i (Env.s (Env.b (Env.i (Env.s (Env.b (Env.i (Env.b (Env.i (Env.b (Env.i (Env.i (Env.b (Env.i (Env.b (Env.i (Env.b (Env.i (Env.b (Env.b (Env.b (Env.ww (Env.nil _) (E.2.2.2.2.2.2.2.2.2.2.2.2.2.2.2.2.2.2.2.2.2.2.2.2.2.1)) (E.2.2.2.2.2.2.2.2.2.2.2.2.2.2.2.2.2.2.2.2.2.2.2.2.1)) (E.2.2.2.2.2.2.2.2.2.2.2.2.2.2.2.2.2.2.2.2.2.2.2.1)) (E.2.2.2.2.2.2.2.2.2.2.2.2.2.2.2.2.2.2.2.2.2.2.1)) (E.2.2.2.2.2.2.2.2.2.2.2.2.2.2.2.2.2.2.2.2.2.1)) (E.2.2.2.2.2.2.2.2.2.2.2.2.2.2.2.2.2.2.2.2.1)) (E.2.2.2.2.2.2.2.2.2.2.2.2.2.2.2.2.2.2.2.1)) (E.2.2.2.2.2.2.2.2.2.2.2.2.2.2.2.2.2.2.1)) (E.2.2.2.2.2.2.2.2.2.2.2.2.2.2.2.2.2.1)) (E.2.2.2.2.2.2.2.2.2.2.2.2.2.2.2.2.1)) (E.2.2.2.2.2.2.2.2.2.2.2.2.2.2.2.1)) (E.2.2.2.2.2.2.2.2.2.2.2.2.2.2.1)) (E.2.2.2.2.2.2.2.2.2.2.2.2.2.1)) (E.2.2.2.2.2.2.2.2.2.2.2.2.1)) (E.2.2.2.2.2.2.2.2.2.2.2.1)) (E.2.2.2.2.2.2.2.2.2.2.1)) (E.2.2.2.2.2.2.2.2.2.1)) (E.2.2.2.2.2.2.2.2.1)) (E.2.2.2.2.2.2.2.1)) (E.2.2.2.2.2.2.1)) (E.2.2.2.2.2.1)) (E.2.2.2.2.1)) (E.2.2.2.1)) (E.2.2.1)) (E.2.1)) (E.1)), by omega, by omega, by omega⟩
        ·
         refine HE (o := ⟨some 16, _, _, _, _, _⟩) rfl rfl (Oper.wp_alloc AgI rfl ?_)
         intro bM11 wM11 eM11 zM11 dM11 xM11
         have lM11_0 : bM10 < bM11 := by rw [eM11]; exact Bx.lt (xM10)
         replace E := E.below dM11
         replace xM10 := Bx.below xM10 dM11
         clear eM11 zM11 dM11
         refine ⟨E.2, ?_⟩
         simp only [Act.put,q1,q2,q3]
         refine H1 (i := 3) (by kernel_rfl) ?_
         refine HE (o := ⟨some 68, _, _, _, _, _⟩) rfl rfl (Oper.wp_callI fn_integer_signed rfl (signed_z false _ (digs y.natAbs) (y.natAbs : Int) _ (E.1) (by rw [val_digs]; rfl)) rfl E ?_)
         clear E
         intro wM3 nM3 sM3 dM3 E
         replace xM10 := xM10.below dM3
         replace xM11 := xM11.below dM3
         clear dM3
         refine ⟨E.2.2, ?_⟩
         simp only [Act.put,q1,q2,q3]
         refine H1 (i := 5) (by kernel_rfl) ?_
         refine HE (o := ⟨some 70, _, _, _, _, _⟩) rfl rfl (Oper.wp_callIIE fn_integer_DivMod rfl (DivMod_z _ _ (y.natAbs : Int) (r.natAbs : Int) _ (E.1) (E.2.2.2.1) ((by have := hD.2.1; omega)) (Fits.mono Fay (by decide)) (Fits.mono Fg (by decide))) rfl E ?_)
         clear E
         intro wM5 nM5 sM5 mM5 tM5 dM5 E
         replace xM10 := xM10.below dM5
         replace xM11 := xM11.below dM5
         clear dM5
         refine ⟨E.2.2.2.2, ?_⟩
         simp only [Act.put,q1,q2,q3]
         refine HP (i := 6) (o := ⟨some 64, _, _, _, _, _⟩) (v := .tuple #[.agg #[.bool nM5, sM5], .agg #[.bool mM5, tM5], .int .i64 0]) rfl (by kernel_rfl) (fun _ _ _ h => h) rfl (fun w hS => run_move rfl rfl) (E.2.2.2.2) ?_
         simp only [Act.put,q1,q2,q3]
         refine HP (i := 7) (o := ⟨some 71, _, _, _, _, _⟩) (v := .agg #[.bool nM5, sM5]) rfl (by kernel_rfl) (fun _ _ _ h => h) rfl (fun w hS => run_extract (vs := [.agg #[.bool nM5, sM5], .agg #[.bool mM5, tM5], .int .i64 0]) rfl rfl rfl) (E.2.2.2.2) ?_
         simp only [Act.put,q1,q2,q3]
         refine HP (i := 8) (o := ⟨some 72, _, _, _, _, _⟩) (v := .agg #[.bool mM5, tM5]) rfl (by kernel_rfl) (fun _ _ _ h => h) rfl (fun w hS => run_extract (vs := [.agg #[.bool nM5, sM5], .agg #[.bool mM5, tM5], .int .i64 0]) rfl rfl rfl) (E.2.2.2.2) ?_
         simp only [Act.put,q1,q2,q3]
         refine HP (i := 9) (o := ⟨some 73, _, _, _, _, _⟩) (v := .int .i64 0) rfl (by kernel_rfl) (fun _ _ _ h => h) rfl (fun w hS => run_extract (vs := [.agg #[.bool nM5, sM5], .agg #[.bool mM5, tM5], .int .i64 0]) rfl rfl rfl) (E.2.2.2.2) ?_
         simp only [Act.put,q1,q2,q3]
         refine H1 (i := 12) (by kernel_rfl) ?_
         refine HE (o := ⟨none, _, _, _, _, _⟩) rfl rfl (Oper.wp_store AgI rfl rfl rfl xM10 rfl rfl (IsI.one (E.2.1)) ?_)
         intro wM12 oM12 yM12
         replace E := (E.onl (xM10.noW now0) ⟨trivial, trivial, trivial, trivial, okB (by omega), trivial, trivial, okB (by omega), trivial, okB (by omega), trivial, okB (by omega), trivial, trivial, okB (by omega), trivial, okB (by omega), trivial, okB (by omega), trivial, okB (by omega), okB (by omega), okB (by omega), okW (by omega), trivial⟩ oM12).b yM12
         replace xM11 := Bx.onl xM11 (by omega) oM12
         clear xM10 oM12 yM12
         refine ⟨E.2.2.2.2.2, ?_⟩
         simp only [Act.put]
         refine H1 (i := 13) (by kernel_rfl) ?_
         refine HE (o := ⟨none, _, _, _, _, _⟩) rfl rfl (Oper.wp_store AgI rfl rfl rfl xM11 rfl rfl (IsI.one (E.2.1)) ?_)
         intro wM13 oM13 yM13
         replace E := (E.onl (xM11.noW now0) ⟨okB (by omega), trivial, trivial, trivial, trivial, okB (by omega), trivial, trivial, okB (by omega), trivial, okB (by omega), trivial, okB (by omega), trivial, trivial, okB (by omega), trivial, okB (by omega), trivial, okB (by omega), trivial, okB (by omega), okB (by omega), okB (by omega), okW (by omega), trivial⟩ oM13).b yM13
         clear xM11 oM13 yM13
         refine ⟨E.2.2.2.2.2.2, ?_⟩
         simp only [Act.put]
         refine HP (i := 14) (o := ⟨some 17, _, _, _, _, _⟩) (v := .int .i64 0) rfl (by kernel_rfl) (fun _ _ _ h => h) rfl (fun w hS => run_assign rfl rfl) (E.2.2.2.2.2.2) ?_
         simp only [Act.put,q1,q2,q3]
         refine HN (by kernel_rfl) ?_
         exact ⟨vM2, nM3, sM3, nM5, sM5, mM5, tM5, bM10, bM11, rfl, (Env.b (Env.b (Env.i (Env.i (Env.i (Env.s (Env.b (Env.i (Env.s (Env.b (Env.i (Env.b (Env.i (Env.b (Env.i (Env.i (Env.b (Env.i (Env.b (Env.i (Env.b (Env.i (Env.b (Env.b (Env.b (Env.ww (Env.nil _) (E.2.2.2.2.2.2.2.2.2.2.2.2.2.2.2.2.2.2.2.2.2.2.2.2.2.1)) (E.2.2.2.2.2.2.2.2.2.2.2.2.2.2.2.2.2.2.2.2.2.2.2.2.1)) (E.2.2.2.2.2.2.2.2.2.2.2.2.2.2.2.2.2.2.2.2.2.2.2.1)) (E.2.2.2.2.2.2.2.2.2.2.2.2.2.2.2.2.2.2.2.2.2.2.1)) (E.2.2.2.2.2.2.2.2.2.2.2.2.2.2.2.2.2.2.2.2.2.1)) (E.2.2.2.2.2.2.2.2.2.2.2.2.2.2.2.2.2.2.2.2.1)) (E.2.2.2.2.2.2.2.2.2.2.2.2.2.2.2.2.2.2.2.1)) (E.2.2.2.2.2.2.2.2.2.2.2.2.2.2.2.2.2.2.1)) (E.2.2.2.2.2.2.2.2.2.2.2.2.2.2.2.2.2.1)) (E.2.2.2.2.2.2.2.2.2.2.2.2.2.2.2.2.1)) (E.2.2.2.2.2.2.2.2.2.2.2.2.2.2.2.1)) (E.2.2.2.2.2.2.2.2.2.2.2.2.2.2.1)) (E.2.2.2.2.2.2.2.2.2.2.2.2.2.1)) (E.2.2.2.2.2.2.2.2.2.2.2.2.1)) (E.2.2.2.2.2.2.2.2.2.2.2.1)) (E.2.2.2.2.2.2.2.2.2.2.1)) (E.2.2.2.2.2.2.2.2.2.1)) (E.2.2.2.2.2.2.2.2.1)) (E.2.2.2.2.2.2.2.1)) (E.2.2.2.2.2.2.1)) (E.2.2.2.2.2.1)) (E.2.2.2.2.1)) (E.2.2.2.1)) (E.2.2.1)) (E.2.1)) (E.1)), by omega, by omega, by omega⟩
       ·
        refine HE (o := ⟨some 16, _, _, _, _, _⟩) rfl rfl (Oper.wp_alloc AgI rfl ?_)
        intro bM11 wM11 eM11 zM11 dM11 xM11
        have lM11_0 : b34 < bM11 := by rw [eM11]; exact Bx.lt (E.2.1)
        replace E := E.below dM11
        clear eM11 zM11 dM11
        refine ⟨E.2, ?_⟩
        simp only [Act.put,q1,q2,q3]
        refine H2 (i := 3) (j := 10) (by kernel_rfl) ?_ ?_
        ·
         refine HE (o := ⟨some 68, _, _, _, _, _⟩) rfl rfl (Oper.wp_callI fn_integer_signed rfl (signed_z false _ (digs y.natAbs) (y.natAbs : Int) _ (E.1) (by rw [val_digs]; rfl)) rfl E ?_)
         clear E
         intro wM3 nM3 sM3 dM3 E
         replace xM11 := xM11.below dM3
         clear dM3
         refine ⟨E.2.2, ?_⟩
         simp only [Act.put,q1,q2,q3]
         refine H2 (i := 5) (j := 10) (by kernel_rfl) ?_ ?_
         ·
          refine HE (o := ⟨some 70, _, _, _, _, _⟩) rfl rfl (Oper.wp_callIIE fn_integer_DivMod rfl (DivMod_z _ _ (y.natAbs : Int) (r.natAbs : Int) _ (E.1) (E.2.2.2.1) ((by have := hD.2.1; omega)) (Fits.mono Fay (by decide)) (Fits.mono Fg (by decide))) rfl E ?_)
          clear E
          intro wM5 nM5 sM5 mM5 tM5 dM5 E
          replace xM11 := xM11.below dM5
          clear dM5
          refine ⟨E.2.2.2.2, ?_⟩
          simp only [Act.put,q1,q2,q3]
          refine HP (i := 6) (o := ⟨some 64, _, _, _, _, _⟩) (v := .tuple #[.agg #[.bool nM5, sM5], .agg #[.bool mM5, tM5], .int .i64 0]) rfl (by kernel_rfl) (fun _ _ _ h => h) rfl (fun w hS => run_move rfl rfl) (E.2.2.2.2) ?_
          simp only [Act.put,q1,q2,q3]
          refine HP (i := 7) (o := ⟨some 71, _, _, _, _, _⟩) (v := .agg #[.bool nM5, sM5]) rfl (by kernel_rfl) (fun _ _ _ h => h) rfl (fun w hS => run_extract (vs := [.agg #[.bool nM5, sM5], .agg #[.bool mM5, tM5], .int .i64 0]) rfl rfl rfl) (E.2.2.2.2) ?_
          simp only [Act.put,q1,q2,q3]
          refine HP (i := 8) (o := ⟨some 72, _, _, _, _, _⟩) (v := .agg #[.bool mM5, tM5]) rfl (by kernel_rfl) (fun _ _ _ h => h) rfl (fun w hS => run_extract (vs := [.agg #[.bool nM5, sM5], .agg #[.bool mM5, tM5], .int .i64 0]) rfl rfl rfl) (E.2.2.2.2) ?_
          simp only [Act.put,q1,q2,q3]
          refine HP (i := 9) (o := ⟨some 73, _, _, _, _, _⟩) (v := .int .i64 0) rfl (by kernel_rfl) (fun _ _ _ h => h) rfl (fun w hS => run_extract (vs := [.agg #[.bool nM5, sM5], .agg #[.bool mM5, tM5], .int .i64 0]) rfl rfl rfl) (E.2.2.2.2) ?_
          simp only [Act.put,q1,q2,q3]
          refine H1 (i := 10) (by kernel_rfl) ?_
          refine HE (o := ⟨some 15, _, _, _, _, _⟩) rfl rfl (Oper.wp_alloc AgI rfl ?_)
          intro bM10 wM10 eM10 zM10 dM10 xM10
          have lM10_0 : bM11 < bM10 := by rw [eM10]; exact Bx.lt (xM11)
          replace E := E.below dM10
          replace xM11 := Bx.below xM11 dM10
          clear eM10 zM10 dM10
          refine ⟨E.2.2.2.2, ?_⟩
          simp only [Act.put,q1,q2,q3]
          refine H1 (i := 12) (by kernel_rfl) ?_
          refine HE (o := ⟨none, _, _, _, _, _⟩) rfl rfl (Oper.wp_store AgI rfl rfl rfl xM10 rfl rfl (IsI.one (E.2.1)) ?_)
          intro wM12 oM12 yM12
          replace E := (E.onl (xM10.noW now0) ⟨trivial, trivial, trivial, trivial, okB (by omega), trivial, trivial, okB (by omega), trivial, okB (by omega), trivial, okB (by omega), trivial, trivial, okB (by omega), trivial, okB (by omega), trivial, okB (by omega), trivial, okB (by omega), okB (by omega), okB (by omega), okW (by omega), trivial⟩ oM12).b yM12
          replace xM11 := Bx.onl xM11 (by omega) oM12
          clear xM10 oM12 yM12
          refine ⟨E.2.2.2.2.2, ?_⟩
          simp only [Act.put]
          refine H1 (i := 13) (by kernel_rfl) ?_
          refine HE (o := ⟨none, _, _, _, _, _⟩) rfl rfl (Oper.wp_store AgI rfl rfl rfl xM11 rfl rfl (IsI.one (E.2.1)) ?_)
          intro wM13 oM13 yM13
          replace E := (E.onl (xM11.noW now0) ⟨okB (by omega), trivial, trivial, trivial, trivial, okB (by omega), trivial, trivial, okB (by omega), trivial, okB (by omega), trivial, okB (by omega), trivial, trivial, okB (by omega), trivial, okB (by omega), trivial, okB (by omega), trivial, okB (by omega), okB (by omega), okB (by omega), okW (by omega), trivial⟩ oM13).b yM13
          clear xM11 oM13 yM13
          refine ⟨E.2.2.2.2.2.2, ?_⟩
          simp only [Act.put]
          refine HP (i := 14) (o := ⟨some 17, _, _, _, _, _⟩) (v := .int .i64 0) rfl (by kernel_rfl) (fun _ _ _ h => h) rfl (fun w hS => run_assign rfl rfl) (E.2.2.2.2.2.2) ?_
          simp only [Act.put,q1,q2,q3]
          refine HN (by kernel_rfl) ?_
          exact ⟨vM2, nM3, sM3, nM5, sM5, mM5, tM5, bM10, bM11, rfl, (Env.b (Env.b (Env.i (Env.i (Env.i (Env.s (Env.b (Env.i (Env.s (Env.b (Env.i (Env.b (Env.i (Env.b (Env.i (Env.i (Env.b (Env.i (Env.b (Env.i (Env.b (Env.i (Env.b (Env.b (Env.b (Env.ww (Env.nil _) (E.2.2.2.2.2.2.2.2.2.2.2.2.2.2.2.2.2.2.2.2.2.2.2.2.2.1)) (E.2.2.2.2.2.2.2.2.2.2.2.2.2.2.2.2.2.2.2.2.2.2.2.2.1)) (E.2.2.2.2.2.2.2.2.2.2.2.2.2.2.2.2.2.2.2.2.2.2.2.1)) (E.2.2.2.2.2.2.2.2.2.2.2.2.2.2.2.2.2.2.2.2.2.2.1)) (E.2.2.2.2.2.2.2.2.2.2.2.2.2.2.2.2.2.2.2.2.2.1)) (E.2.2.2.2.2.2.2.2.2.2.2.2.2.2.2.2.2.2.2.2.1)) (E.2.2.2.2.2.2.2.2.2.2.2.2.2.2.2.2.2.2.2.1)) (E.2.2.2.2.2.2.2.2.2.2.2.2.2.2.2.2.2.2.1)) (E.2.2.2.2.2.2.2.2.2.2.2.2.2.2.2.2.2.1)) (E.2.2.2.2.2.2.2.2.2.2.2.2.2.2.2.2.1)) (E.2.2.2.2.2.2.2.2.2.2.2.2.2.2.2.1)) (E.2.2.2.2.2.2.2.2.2.2.2.2.2.2.1)) (E.2.2.2.2.2.2.2.2.2.2.2.2.2.1)) (E.2.2.2.2.2.2.2.2.2.2.2.2.1)) (E.2.2.2.2.2.2.2.2.2.2.2.1)) (E.2.2.2.2.2.2.2.2.2.2.1)) (E.2.2.2.2.2.2.2.2.2.1)) (E.2.2.2.2.2.2.2.2.1)) (E.2.2.2.2.2.2.2.1)) (E.2.2.2.2.2.2.1)) (E.2.2.2.2.2.1)) (E.2.2.2.2.1)) (E.2.2.2.1)) (E.2.2.1)) (E.2.1)) (E.1)), by omega, by omega, by omega⟩
         ·
          refine HE (o := ⟨some 15, _, _, _, _, _⟩) rfl rfl (Oper.wp_alloc AgI rfl ?_)
          intro bM10 wM10 eM10 zM10 dM10 xM10
          have lM10_0 : bM11 < bM10 := by rw [eM10]; exact Bx.lt (xM11)
          replace E := E.below dM10
          replace xM11 := Bx.below xM11 dM10
          clear eM10 zM10 dM10
          refine ⟨E.2.2, ?_⟩
          simp only [Act.put,q1,q2,q3]
          refine H1 (i := 5) (by kernel_rfl) ?_
          refine HE (o := ⟨some 70, _, _, _, _, _⟩) rfl rfl (Oper.wp_callIIE fn_integer_DivMod rfl (DivMod_z _ _ (y.natAbs : Int) (r.natAbs : Int) _ (E.1) (E.2.2.2.1) ((by have := hD.2.1; omega)) (Fits.mono Fay (by decide)) (Fits.mono Fg (by decide))) rfl E ?_)
          clear E
          intro wM5 nM5 sM5 mM5 tM5 dM5 E
          replace xM11 := xM11.below dM5
          replace xM10 := xM10.below dM5
          clear dM5
          refine ⟨E.2.2.2.2, ?_⟩
          simp only [Act.put,q1,q2,q3]
          refine HP (i := 6) (o := ⟨some 64, _, _, _, _, _⟩) (v := .tuple #[.agg #[.bool nM5, sM5], .agg #[.bool mM5, tM5], .int .i64 0]) rfl (by kernel_rfl) (fun _ _ _ h => h) rfl (fun w hS => run_move rfl rfl) (E.2.2.2.2) ?_
          simp only [Act.put,q1,q2,q3]
          refine HP (i := 7) (o := ⟨some 71, _, _, _, _, _⟩) (v := .agg #[.bool nM5, sM5]) rfl (by kernel_rfl) (fun _ _ _ h => h) rfl (fun w hS => run_extract (vs := [.agg #[.bool nM5, sM5], .agg #[.bool mM5, tM5], .int .i64 0]) rfl rfl rfl) (E.2.2.2.2) ?_
          simp only [Act.put,q1,q2,q3]
          refine HP (i := 8) (o := ⟨some 72, _, _, _, _, _⟩) (v := .agg #[.bool mM5, tM5]) rfl (by kernel_rfl) (fun _ _ _ h => h) rfl (fun w hS => run_extract (vs := [.agg #[.bool nM5, sM5], .agg #[.bool mM5, tM5], .int .i64 0]) rfl rfl rfl) (E.2.2.2.2) ?_
          simp only [Act.put,q1,q2,q3]
          refine HP (i := 9) (o := ⟨some 73, _, _, _, _, _⟩) (v := .int .i64 0) rfl (by kernel_rfl) (fun _ _ _ h => h) rfl (fun w hS => run_extract (vs := [.agg #[.bool nM5, sM5], .agg #[.bool mM5, tM5], .int .i64 0]) rfl rfl rfl) (E.2.2.2.2) ?_
          simp only [Act.put,q1,q2,q3]
          refine H1 (i := 12) (by kernel_rfl) ?_
          refine HE (o := ⟨none, _, _, _, _, _⟩) rfl rfl (Oper.wp_store AgI rfl rfl rfl xM10 rfl rfl (IsI.one (E.2.1)) ?_)
          intro wM12 oM12 yM12
          replace E := (E.onl (xM10.noW now0) ⟨trivial, trivial, trivial, trivial, okB (by omega), trivial, trivial, okB (by omega), trivial, okB (by omega), trivial, okB (by omega), trivial, trivial, okB (by omega), trivial, okB (by omega), trivial, okB (by omega), trivial, okB (by omega), okB (by omega), okB (by omega), okW (by omega), trivial⟩ oM12).b yM12
          replace xM11 := Bx.onl xM11 (by omega) oM12
          clear xM10 oM12 yM12
          refine ⟨E.2.2.2.2.2, ?_⟩
          simp only [Act.put]
          refine H1 (i := 13) (by kernel_rfl) ?_
          refine HE (o := ⟨none, _, _, _, _, _⟩) rfl rfl (Oper.wp_store AgI rfl rfl rfl xM11 rfl rfl (IsI.one (E.2.1)) ?_)
          intro wM13 oM13 yM13
          replace E := (E.onl (xM11.noW now0) ⟨okB (by omega), trivial, trivial, trivial, trivial, okB (by omega), trivial, trivial, okB (by omega), trivial, okB (by omega), trivial, okB (by omega), trivial, trivial, okB (by omega), trivial, okB (by omega), trivial, okB (by omega), trivial, okB (by omega), okB (by omega), okB (by omega), okW (by omega), trivial⟩ oM13).b yM13
          clear xM11 oM13 yM13
          refine ⟨E.2.2.2.2.2.2, ?_⟩
          simp only [Act.put]
          refine HP (i := 14) (o := ⟨some 17, _, _, _, _, _⟩) (v := .int .i64 0) rfl (by kernel_rfl) (fun _ _ _ h => h) rfl (fun w hS => run_assign rfl rfl) (E.2.2.2.2.2.2) ?_
          simp only [Act.put,q1,q2,q3]
          refine HN (by kernel_rfl) ?_
          exact ⟨vM2, nM3, sM3, nM5, sM5, mM5, tM5, bM10, bM11, rfl, (Env.b (Env.b (Env.i (Env.i (Env.i (Env.s (Env.b (Env.i (Env.s (Env.b (Env.i (Env.b (Env.i (Env.b (Env.i (Env.i (Env.b (Env.i (Env.b (Env.i (Env.b (Env.i (Env.b (Env.b (Env.b (Env.ww (Env.nil _) (E.2.2.2.2.2.2.2.2.2.2.2.2.2.2.2.2.2.2.2.2.2.2.2.2.2.1)) (E.2.2.2.2.2.2.2.2.2.2.2.2.2.2.2.2.2.2.2.2.2.2.2.2.1)) (E.2.2.2.2.2.2.2.2.2.2.2.2.2.2.2.2.2.2.2.2.2.2.2.1)) (E.2.2.2.2.2.2.2.2.2.2.2.2.2.2.2.2.2.2.2.2.2.2.1)) (E.2.2.2.2.2.2.2.2.2.2.2.2.2.2.2.2.2.2.2.2.2.1)) (E.2.2.2.2.2.2.2.2.2.2.2.2.2.2.2.2.2.2.2.2.1)) (E.2.2.2.2.2.2.2.2.2.2.2.2.2.2.2.2.2.2.2.1)) (E.2.2.2.2.2.2.2.2.2.2.2.2.2.2.2.2.2.2.1)) (E.2.2.2.2.2.2.2.2.2.2.2.2.2.2.2.2.2.1)) (E.2.2.2.2.2.2.2.2.2.2.2.2.2.2.2.2.1)) (E.2.2.2.2.2.2.2.2.2.2.2.2.2.2.2.1)) (E.2.2.2.2.2.2.2.2.2.2.2.2.2.2.1)) (E.2.2.2.2.2.2.2.2.2.2.2.2.2.1)) (E.2.2.2.2.2.2.2.2.2.2.2.2.1)) (E.2.2.2.2.2.2.2.2.2.2.2.1)) (E.2.2.2.2.2.2.2.2.2.2.1)) (E.2.2.2.2.2.2.2.2.2.1)) (E.2.2.2.2.2.2.2.2.1)) (E.2.2.2.2.2.2.2.1)) (E.2.2.2.2.2.2.1)) (E.2.2.2.2.2.1)) (E.2.2.2.2.1)) (E.2.2.2.1)) (E.2.2.1)) (E.2.1)) (E.1)), by omega, by omega, by omega⟩
        ·
         refine HE (o := ⟨some 15, _, _, _, _, _⟩) rfl rfl (Oper.wp_alloc AgI rfl ?_)
         intro bM10 wM10 eM10 zM10 dM10 xM10
         have lM10_0 : bM11 < bM10 := by rw [eM10]; exact Bx.lt (xM11)
         replace E := E.below dM10
         replace xM11 := Bx.below xM11 dM10
         clear eM10 zM10 dM10
         refine ⟨E.2, ?_⟩
         simp only [Act.put,q1,q2,q3]
         refine H1 (i := 3) (by kernel_rfl) ?_
         refine HE (o := ⟨some 68, _, _, _, _, _⟩) rfl rfl (Oper.wp_callI fn_integer_signed rfl (signed_z false _ (digs y.natAbs) (y.natAbs : Int) _ (E.1) (by rw [val_digs]; rfl)) rfl E ?_)
         clear E
         intro wM3 nM3 sM3 dM3 E
         replace xM11 := xM11.below dM3
         replace xM10 := xM10.below dM3
         clear dM3
         refine ⟨E.2.2, ?_⟩
         simp only [Act.put,q1,q2,q3]
         refine H1 (i := 5) (by kernel_rfl) ?_
         refine HE (o := ⟨some 70, _, _, _, _, _⟩) rfl rfl (Oper.wp_callIIE fn_integer_DivMod rfl (DivMod_z _ _ (y.natAbs : Int) (r.natAbs : Int) _ (E.1) (E.2.2.2.1) ((by have := hD.2.1; omega)) (Fits.mono Fay (by decide)) (Fits.mono Fg (by decide))) rfl E ?_)
         clear E
         intro wM5 nM5 sM5 mM5 tM5 dM5 E
         replace xM11 := xM11.below dM5
         replace xM10 := xM10.below dM5
         clear dM5
         refine ⟨E.2.2.2.2, ?_⟩
         simp only [Act.put,q1,q2,q3]
         refine HP (i := 6) (o := ⟨some 64, _, _, _, _, _⟩) (v := .tuple #[.agg #[.bool nM5, sM5], .agg #[.bool mM5, tM5], .int .i64 0]) rfl (by kernel_rfl) (fun _ _ _ h => h) rfl (fun w hS => run_move rfl rfl) (E.2.2.2.2) ?_
         simp only [Act.put,q1,q2,q3]
         refine HP (i := 7) (o := ⟨some 71, _, _, _, _, _⟩) (v := .agg #[.bool nM5, sM5]) rfl (by kernel_rfl) (fun _ _ _ h => h) rfl (fun w hS => run_extract (vs := [.agg #[.bool nM5, sM5], .agg #[.bool mM5, tM5], .int .i64 0]) rfl rfl rfl) (E.2.2.2.2) ?_
         simp only [Act.put,q1,q2,q3]
         refine HP (i := 8) (o := ⟨some 72, _, _, _, _, _⟩) (v := .agg #[.bool mM5, tM5]) rfl (by kernel_rfl) (fun _ _ _ h => h) rfl (fun w hS => run_extract (vs := [.agg #[.bool nM5, sM5], .agg #[.bool mM5, tM5], .int .i64 0]) rfl rfl rfl) (E.2.2.2.2) ?_
         simp only [Act.put,q1,q2,q3]
         refine HP (i := 9) (o := ⟨some 73, _, _, _, _, _⟩) (v := .int .i64 0) rfl (by kernel_rfl) (fun _ _ _ h => h) rfl (fun w hS => run_extract (vs := [.agg #[.bool nM5, sM5], .agg #[.bool mM5, tM5], .int .i64 0]) rfl rfl rfl) (E.2.2.2.2) ?_
         simp only [Act.put,q1,q2,q3]
         refine H1 (i := 12) (by kernel_rfl) ?_
         refine HE (o := ⟨none, _, _, _, _, _⟩) rfl rfl (Oper.wp_store AgI rfl rfl rfl xM10 rfl rfl (IsI.one (E.2.1)) ?_)
         intro wM12 oM12 yM12
         replace E := (E.onl (xM10.noW now0) ⟨trivial, trivial, trivial, trivial, okB (by omega), trivial, trivial, okB (by omega), trivial, okB (by omega), trivial, okB (by omega), trivial, trivial, okB (by omega), trivial, okB (by omega), trivial, okB (by omega), trivial, okB (by omega), okB (by omega), okB (by omega), okW (by omega), trivial⟩ oM12).b yM12
         replace xM11 := Bx.onl xM11 (by omega) oM12
         clear xM10 oM12 yM12
         refine ⟨E.2.2.2.2.2, ?_⟩
         simp only [Act.put]
         refine H1 (i := 13) (by kernel_rfl) ?_
         refine HE (o := ⟨none, _, _, _, _, _⟩) rfl rfl (Oper.wp_store AgI rfl rfl rfl xM11 rfl rfl (IsI.one (E.2.1)) ?_)
         intro wM13 oM13 yM13
         replace E := (E.onl (xM11.noW now0) ⟨okB (by omega), trivial, trivial, trivial, trivial, okB (by omega), trivial, trivial, okB (by omega), trivial, okB (by omega), trivial, okB (by omega), trivial, trivial, okB (by omega), trivial, okB (by omega), trivial, okB (by omega), trivial, okB (by omega), okB (by omega), okB (by omega), okW (by omega), trivial⟩ oM13).b yM13
         clear xM11 oM13 yM13
         refine ⟨E.2.2.2.2.2.2, ?_⟩
         simp only [Act.put]
         refine HP (i := 14) (o := ⟨some 17, _, _, _, _, _⟩) (v := .int .i64 0) rfl (by kernel_rfl) (fun _ _ _ h => h) rfl (fun w hS => run_assign rfl rfl) (E.2.2.2.2.2.2) ?_
         simp only [Act.put,q1,q2,q3]
         refine HN (by kernel_rfl) ?_
         exact ⟨vM2, nM3, sM3, nM5, sM5, mM5, tM5, bM10, bM11, rfl, (Env.b (Env.b (Env.i (Env.i (Env.i (Env.s (Env.b (Env.i (Env.s (Env.b (Env.i (Env.b (Env.i (Env.b (Env.i (Env.i (Env.b (Env.i (Env.b (Env.i (Env.b (Env.i (Env.b (Env.b (Env.b (Env.ww (Env.nil _) (E.2.2.2.2.2.2.2.2.2.2.2.2.2.2.2.2.2.2.2.2.2.2.2.2.2.1)) (E.2.2.2.2.2.2.2.2.2.2.2.2.2.2.2.2.2.2.2.2.2.2.2.2.1)) (E.2.2.2.2.2.2.2.2.2.2.2.2.2.2.2.2.2.2.2.2.2.2.2.1)) (E.2.2.2.2.2.2.2.2.2.2.2.2.2.2.2.2.2.2.2.2.2.2.1)) (E.2.2.2.2.2.2.2.2.2.2.2.2.2.2.2.2.2.2.2.2.2.1)) (E.2.2.2.2.2.2.2.2.2.2.2.2.2.2.2.2.2.2.2.2.1)) (E.2.2.2.2.2.2.2.2.2.2.2.2.2.2.2.2.2.2.2.1)) (E.2.2.2.2.2.2.2.2.2.2.2.2.2.2.2.2.2.2.1)) (E.2.2.2.2.2.2.2.2.2.2.2.2.2.2.2.2.2.1)) (E.2.2.2.2.2.2.2.2.2.2.2.2.2.2.2.2.1)) (E.2.2.2.2.2.2.2.2.2.2.2.2.2.2.2.1)) (E.2.2.2.2.2.2.2.2.2.2.2.2.2.2.1)) (E.2.2.2.2.2.2.2.2.2.2.2.2.2.1)) (E.2.2.2.2.2.2.2.2.2.2.2.2.1)) (E.2.2.2.2.2.2.2.2.2.2.2.1)) (E.2.2.2.2.2.2.2.2.2.2.1)) (E.2.2.2.2.2.2.2.2.2.1)) (E.2.2.2.2.2.2.2.2.1)) (E.2.2.2.2.2.2.2.1)) (E.2.2.2.2.2.2.1)) (E.2.2.2.2.2.1)) (E.2.2.2.2.1)) (E.2.2.2.1)) (E.2.2.1)) (E.2.1)) (E.1)), by omega, by omega, by omega⟩
      ·
       refine HE (o := ⟨some 15, _, _, _, _, _⟩) rfl rfl (Oper.wp_alloc AgI rfl ?_)
       intro bM10 wM10 eM10 zM10 dM10 xM10
       have lM10_0 : b34 < bM10 := by rw [eM10]; exact Bx.lt (E.1)
       replace E := E.below dM10
       clear eM10 zM10 dM10
       refine ⟨E, ?_⟩
       simp only [Act.put,q1,q2,q3]
       refine H2 (i := 2) (j := 11) (by kernel_rfl) ?_ ?_
       ·
        refine HE (o := ⟨some 67, _, _, _, _, _⟩) rfl rfl (Oper.wp_callS fn_integer_clone rfl (clone_sl _ (digs y.natAbs) _ (IsI.sl (E.2.2.2.2.2.2.2.2.2.2.2.2.2.2.2.1)) (Nat.le_trans ((Fits.mono Fy (by decide)) : Fits y 1000000000) (by decide))) rfl E ?_)
        clear E
        intro wM2 vM2 dM2 E
        replace xM10 := xM10.below dM2
        clear dM2
        refine ⟨E.2, ?_⟩
        simp only [Act.put,q1,q2,q3]
        refine H2 (i := 3) (j := 11) (by kernel_rfl) ?_ ?_
        ·
         refine HE (o := ⟨some 68, _, _, _, _, _⟩) rfl rfl (Oper.wp_callI fn_integer_signed rfl (signed_z false _ (digs y.natAbs) (y.natAbs : Int) _ (E.1) (by rw [val_digs]; rfl)) rfl E ?_)
         clear E
         intro wM3 nM3 sM3 dM3 E
         replace xM10 := xM10.below dM3
         clear dM3
         refine ⟨E.2.2, ?_⟩
         simp only [Act.put,q1,q2,q3]
         refine H2 (i := 5) (j := 11) (by kernel_rfl) ?_ ?_
         ·
          refine HE (o := ⟨some 70, _, _, _, _, _⟩) rfl rfl (Oper.wp_callIIE fn_integer_DivMod rfl (DivMod_z _ _ (y.natAbs : Int) (r.natAbs : Int) _ (E.1) (E.2.2.2.1) ((by have := hD.2.1; omega)) (Fits.mono Fay (by decide)) (Fits.mono Fg (by decide))) rfl E ?_)
          clear E
          intro wM5 nM5 sM5 mM5 tM5 dM5 E
          replace xM10 := xM10.below dM5
          clear dM5
          refine ⟨E.2.2.2.2, ?_⟩
          simp only [Act.put,q1,q2,q3]
          refine HP (i := 6) (o := ⟨some 64, _, _, _, _, _⟩) (v := .tuple #[.agg #[.bool nM5, sM5], .agg #[.bool mM5, tM5], .int .i64 0]) rfl (by kernel_rfl) (fun _ _ _ h => h) rfl (fun w hS => run_move rfl rfl) (E.2.2.2.2) ?_
          simp only [Act.put,q1,q2,q3]
          refine HP (i := 7) (o := ⟨some 71, _, _, _, _, _⟩) (v := .agg #[.bool nM5, sM5]) rfl (by kernel_rfl) (fun _ _ _ h => h) rfl (fun w hS => run_extract (vs := [.agg #[.bool nM5, sM5], .agg #[.bool mM5, tM5], .int .i64 0]) rfl rfl rfl) (E.2.2.2.2) ?_
          simp only [Act.put,q1,q2,q3]
          refine HP (i := 8) (o := ⟨some 72, _, _, _, _, _⟩) (v := .agg #[.bool mM5, tM5]) rfl (by kernel_rfl) (fun _ _ _ h => h) rfl (fun w hS => run_extract (vs := [.agg #[.bool nM5, sM5], .agg #[.bool mM5, tM5], .int .i64 0]) rfl rfl rfl) (E.2.2.2.2) ?_
          simp only [Act.put,q1,q2,q3]
          refine HP (i := 9) (o := ⟨some 73, _, _, _, _, _⟩) (v := .int .i64 0) rfl (by kernel_rfl) (fun _ _ _ h => h) rfl (fun w hS => run_extract (vs := [.agg #[.bool nM5, sM5], .agg #[.bool mM5, tM5], .int .i64 0]) rfl rfl rfl) (E.2.2.2.2) ?_
          simp only [Act.put,q1,q2,q3]
          refine H1 (i := 11) (by kernel_rfl) ?_
          refine HE (o := ⟨some 16, _, _, _, _, _⟩) rfl rfl (Oper.wp_alloc AgI rfl ?_)
          intro bM11 wM11 eM11 zM11 dM11 xM11
          have lM11_0 : bM10 < bM11 := by rw [eM11]; exact Bx.lt (xM10)
          replace E := E.below dM11
          replace xM10 := Bx.below xM10 dM11
          clear eM11 zM11 dM11
          refine ⟨E.2.2.2.2, ?_⟩
          simp only [Act.put,q1,q2,q3]
          refine H1 (i := 12) (by kernel_rfl) ?_
          refine HE (o := ⟨none, _, _, _, _, _⟩) rfl rfl (Oper.wp_store AgI rfl rfl rfl xM10 rfl rfl (IsI.one (E.2.1)) ?_)
          intro wM12 oM12 yM12
          replace E := (E.onl (xM10.noW now0) ⟨trivial, trivial, trivial, trivial, okB (by omega), trivial, trivial, okB (by omega), trivial, okB (by omega), trivial, okB (by omega), trivial, trivial, okB (by omega), trivial, okB (by omega), trivial, okB (by omega), trivial, okB (by omega), okB (by omega), okB (by omega), okW (by omega), trivial⟩ oM12).b yM12
          replace xM11 := Bx.onl xM11 (by omega) oM12
          clear xM10 oM12 yM12
          refine ⟨E.2.2.2.2.2, ?_⟩
          simp only [Act.put]
          refine H1 (i := 13) (by kernel_rfl) ?_
          refine HE (o := ⟨none, _, _, _, _, _⟩) rfl rfl (Oper.wp_store AgI rfl rfl rfl xM11 rfl rfl (IsI.one (E.2.1)) ?_)
          intro wM13 oM13 yM13
          replace E := (E.onl (xM11.noW now0) ⟨okB (by omega), trivial, trivial, trivial, trivial, okB (by omega), trivial, trivial, okB (by omega), trivial, okB (by omega), trivial, okB (by omega), trivial, trivial, okB (by omega), trivial, okB (by omega), trivial, okB (by omega), trivial, okB (by omega), okB (by omega), okB (by omega), okW (by omega), trivial⟩ oM13).b yM13
          clear xM11 oM13 yM13
          refine ⟨E.2.2.2.2.2.2, ?_⟩
          simp only [Act.put]
          refine HP (i := 14) (o := ⟨some 17, _, _, _, _, _⟩) (v := .int .i64 0) rfl (by kernel_rfl) (fun _ _ _ h => h) rfl (fun w hS => run_assign rfl rfl) (E.2.2.2.2.2.2) ?_
          simp only [Act.put,q1,q2,q3]
          refine HN (by kernel_rfl) ?_
          exact ⟨vM2, nM3, sM3, nM5, sM5, mM5, tM5, bM10, bM11, rfl, (Env.b (Env.b (Env.i (Env.i (Env.i (Env.s (Env.b (Env.i (Env.s (Env.b (Env.i (Env.b (Env.i (Env.b (Env.i (Env.i (Env.b (Env.i (Env.b (Env.i (Env.b (Env.i (Env.b (Env.b (Env.b (Env.ww (Env.nil _) (E.2.2.2.2.2.2.2.2.2.2.2.2.2.2.2.2.2.2.2.2.2.2.2.2.2.1)) (E.2.2.2.2.2.2.2.2.2.2.2.2.2.2.2.2.2.2.2.2.2.2.2.2.1)) (E.2.2.2.2.2.2.2.2.2.2.2.2.2.2.2.2.2.2.2.2.2.2.2.1)) (E.2.2.2.2.2.2.2.2.2.2.2.2.2.2.2.2.2.2.2.2.2.2.1)) (E.2.2.2.2.2.2.2.2.2.2.2.2.2.2.2.2.2.2.2.2.2.1)) (E.2.2.2.2.2.2.2.2.2.2.2.2.2.2.2.2.2.2.2.2.1)) (E.2.2.2.2.2.2.2.2.2.2.2.2.2.2.2.2.2.2.2.1)) (E.2.2.2.2.2.2.2.2.2.2.2.2.2.2.2.2.2.2.1)) (E.2.2.2.2.2.2.2.2.2.2.2.2.2.2.2.2.2.1)) (E.2.2.2.2.2.2.2.2.2.2.2.2.2.2.2.2.1)) (E.2.2.2.2.2.2.2.2.2.2.2.2.2.2.2.1)) (E.2.2.2.2.2.2.2.2.2.2.2.2.2.2.1)) (E.2.2.2.2.2.2.2.2.2.2.2.2.2.1)) (E.2.2.2.2.2.2.2.2.2.2.2.2.1)) (E.2.2.2.2.2.2.2.2.2.2.2.1)) (E.2.2.2.2.2.2.2.2.2.2.1)) (E.2.2.2.2.2.2.2.2.2.1)) (E.2.2.2.2.2.2.2.2.1)) (E.2.2.2.2.2.2.2.1)) (E.2.2.2.2.2.2.1)) (E.2.2.2.2.2.1)) (E.2.2.2.2.1)) (E.2.2.2.1)) (E.2.2.1)) (E.2.1)) (E.1)), by omega, by omega, by omega⟩
         ·
          refine HE (o := ⟨some 16, _, _, _, _, _⟩) rfl rfl (Oper.wp_alloc AgI rfl ?_)
          intro bM11 wM11 eM11 zM11 dM11 xM11
          have lM11_0 : bM10 < bM11 := by rw [eM11]; exact Bx.lt (xM10)
          replace E := E.below dM11
          replace xM10 := Bx.below xM10 dM11
          clear eM11 zM11 dM11
          refine ⟨E.2.2, ?_⟩
          simp only [Act.put,q1,q2,q3]
          refine H1 (i := 5) (by kernel_rfl) ?_
          refine HE (o := ⟨some 70, _, _, _, _, _⟩) rfl rfl (Oper.wp_callIIE fn_integer_DivMod rfl (DivMod_z _ _ (y.natAbs : Int) (r.natAbs : Int) _ (E.1) (E.2.2.2.1) ((by have := hD.2.1; omega)) (Fits.mono Fay (by decide)) (Fits.mono Fg (by decide))) rfl E ?_)
          clear E
          intro wM5 nM5 sM5 mM5 tM5 dM5 E
          replace xM10 := xM10.below dM5
          replace xM11 := xM11.below dM5
          clear dM5
          refine ⟨E.2.2.2.2, ?_⟩
          simp only [Act.put,q1,q2,q3]
          refine HP (i := 6) (o := ⟨some 64, _, _, _, _, _⟩) (v := .tuple #[.agg #[.bool nM5, sM5], .agg #[.bool mM5, tM5], .int .i64 0]) rfl (by kernel_rfl) (fun _ _ _ h => h) rfl (fun w hS => run_move rfl rfl) (E.2.2.2.2) ?_
          simp only [Act.put,q1,q2,q3]
          refine HP (i := 7) (o := ⟨some 71, _, _, _, _, _⟩) (v := .agg #[.bool nM5, sM5]) rfl (by kernel_rfl) (fun _ _ _ h => h) rfl (fun w hS => run_extract (vs := [.agg #[.bool nM5, sM5], .agg #[.bool mM5, tM5], .int .i64 0]) rfl rfl rfl) (E.2.2.2.2) ?_
          simp only [Act.put,q1,q2,q3]
          refine HP (i := 8) (o := ⟨some 72, _, _, _, _, _⟩) (v := .agg #[.bool mM5, tM5]) rfl (by kernel_rfl) (fun _ _ _ h => h) rfl (fun w hS => run_extract (vs := [.agg #[.bool nM5, sM5], .agg #[.bool mM5, tM5], .int .i64 0]) rfl rfl rfl) (E.2.2.2.2) ?_
          simp only [Act.put,q1,q2,q3]
          refine HP (i := 9) (o := ⟨some 73, _, _, _, _, _⟩) (v := .int .i64 0) rfl (by kernel_rfl) (fun _ _ _ h => h) rfl (fun w hS => run_extract (vs := [.agg #[.bool nM5, sM5], .agg #[.bool mM5, tM5], .int .i64 0]) rfl rfl rfl) (E.2.2.2.2) ?_
          simp only [Act.put,q1,q2,q3]
          refine H1 (i := 12) (by kernel_rfl) ?_
          refine HE (o := ⟨none, _, _, _, _, _⟩) rfl rfl (Oper.wp_store AgI rfl rfl rfl xM10 rfl rfl (IsI.one (E.2.1)) ?_)
          intro wM12 oM12 yM12
          replace E := (E.onl (xM10.noW now0) ⟨trivial, trivial, trivial, trivial, okB (by omega), trivial, trivial, okB (by omega), trivial, okB (by omega), trivial, okB (by omega), trivial, trivial, okB (by omega), trivial, okB (by omega), trivial, okB (by omega), trivial, okB (by omega), okB (by omega), okB (by omega), okW (by omega), trivial⟩ oM12).b yM12
          replace xM11 := Bx.onl xM11 (by omega) oM12
          clear xM10 oM12 yM12
          refine ⟨E.2.2.2.2.2, ?_⟩
          simp only [Act.put]
          refine H1 (i := 13) (by kernel_rfl) ?_
          refine HE (o := ⟨none, _, _, _, _, _⟩) rfl rfl (Oper.wp_store AgI rfl rfl rfl xM11 rfl rfl (IsI.one (E.2.1)) ?_)
          intro wM13 oM13 yM13
          replace E := (E.onl (xM11.noW now0) ⟨okB (by omega), trivial, trivial, trivial, trivial, okB (by omega), trivial, trivial, okB (by omega), trivial, okB (by omega), trivial, okB (by omega), trivial, trivial, okB (by omega), trivial, okB (by omega), trivial, okB (by omega), trivial, okB (by omega), okB (by omega), okB (by omega), okW (by omega), trivial⟩ oM13).b yM13
          clear xM11 oM13 yM13
          refine ⟨E.2.2.2.2.2.2, ?_⟩
          simp only [Act.put]
          refine HP (i := 14) (o := ⟨some 17, _, _, _, _, _⟩) (v := .int .i64 0) rfl (by kernel_rfl) (fun _ _ _ h => h) rfl (fun w hS => run_assign rfl rfl) (E.2.2.2.2.2.2) ?_
          simp only [Act.put,q1,q2,q3]
          refine HN (by kernel_rfl) ?_
          exact ⟨vM2, nM3, sM3, nM5, sM5, mM5, tM5, bM10, bM11, rfl, (Env.b (Env.b (Env.i (Env.i (Env.i (Env.s (Env.b (Env.i (Env.s (Env.b (Env.i (Env.b (Env.i (Env.b (Env.i (Env.i (Env.b (Env.i (Env.b (Env.i (Env.b (Env.i (Env.b (Env.b (Env.b (Env.ww (Env.nil _) (E.2.2.2.2.2.2.2.2.2.2.2.2.2.2.2.2.2.2.2.2.2.2.2.2.2.1)) (E.2.2.2.2.2.2.2.2.2.2.2.2.2.2.2.2.2.2.2.2.2.2.2.2.1)) (E.2.2.2.2.2.2.2.2.2.2.2.2.2.2.2.2.2.2.2.2.2.2.2.1)) (E.2.2.2.2.2.2.2.2.2.2.2.2.2.2.2.2.2.2.2.2.2.2.1)) (E.2.2.2.2.2.2.2.2.2.2.2.2.2.2.2.2.2.2.2.2.2.1)) (E.2.2.2.2.2.2.2.2.2.2.2.2.2.2.2.2.2.2.2.2.1)) (E.2.2.2.2.2.2.2.2.2.2.2.2.2.2.2.2.2.2.2.1)) (E.2.2.2.2.2.2.2.2.2.2.2.2.2.2.2.2.2.2.1)) (E.2.2.2.2.2.2.2.2.2.2.2.2.2.2.2.2.2.1)) (E.2.2.2.2.2.2.2.2.2.2.2.2.2.2.2.2.1)) (E.2.2.2.2.2.2.2.2.2.2.2.2.2.2.2.1)) (E.2.2.2.2.2.2.2.2.2.2.2.2.2.2.1)) (E.2.2.2.2.2.2.2.2.2.2.2.2.2.1)) (E.2.2.2.2.2.2.2.2.2.2.2.2.1)) (E.2.2.2.2.2.2.2.2.2.2.2.1)) (E.2.2.2.2.2.2.2.2.2.2.1)) (E.2.2.2.2.2.2.2.2.2.1)) (E.2.2.2.2.2.2.2.2.1)) (E.2.2.2.2.2.2.2.1)) (E.2.2.2.2.2.2.1)) (E.2.2.2.2.2.1)) (E.2.2.2.2.1)) (E.2.2.2.1)) (E.2.2.1)) (E.2.1)) (E.1)), by omega, by omega, by omega⟩
        ·
         refine HE (o := ⟨some 16, _, _, _, _, _⟩) rfl rfl (Oper.wp_alloc AgI rfl ?_)
         intro bM11 wM11 eM11 zM11 dM11 xM11
         have lM11_0 : bM10 < bM11 := by rw [eM11]; exact Bx.lt (xM10)
         replace E := E.below dM11
         replace xM10 := Bx.below xM10 dM11
         clear eM11 zM11 dM11
         refine ⟨E.2, ?_⟩
         simp only [Act.put,q1,q2,q3]
         refine H1 (i := 3) (by kernel_rfl) ?_
         refine HE (o := ⟨some 68, _, _, _, _, _⟩) rfl rfl (Oper.wp_callI fn_integer_signed rfl (signed_z false _ (digs y.natAbs) (y.natAbs : Int) _ (E.1) (by rw [val_digs]; rfl)) rfl E ?_)
         clear E
         intro wM3 nM3 sM3 dM3 E
         replace xM10 := xM10.below dM3
         replace xM11 := xM11.below dM3
         clear dM3
         refine ⟨E.2.2, ?_⟩
         simp only [Act.put,q1,q2,q3]
         refine H1 (i := 5) (by kernel_rfl) ?_
         refine HE (o := ⟨some 70, _, _, _, _, _⟩) rfl rfl (Oper.wp_callIIE fn_integer_DivMod rfl (DivMod_z _ _ (y.natAbs : Int) (r.natAbs : Int) _ (E.1) (E.2.2.2.1) ((by have := hD.2.1; omega)) (Fits.mono Fay (by decide)) (Fits.mono Fg (by decide))) rfl E ?_)
         clear E
         intro wM5 nM5 sM5 mM5 tM5 dM5 E
         replace xM10 := xM10.below dM5
         replace xM11 := xM11.below dM5
         clear dM5
         refine ⟨E.2.2.2.2, ?_⟩
         simp only [Act.put,q1,q2,q3]
         refine HP (i := 6) (o := ⟨some 64, _, _, _, _, _⟩) (v := .tuple #[.agg #[.bool nM5, sM5], .agg #[.bool mM5, tM5], .int .i64 0]) rfl (by kernel_rfl) (fun _ _ _ h => h) rfl (fun w hS => run_move rfl rfl) (E.2.2.2.2) ?_
         simp only [Act.put,q1,q2,q3]
         refine HP (i := 7) (o := ⟨some 71, _, _, _, _, _⟩) (v := .agg #[.bool nM5, sM5]) rfl (by kernel_rfl) (fun _ _ _ h => h) rfl (fun w hS => run_extract (vs := [.agg #[.bool nM5, sM5], .agg #[.bool mM5, tM5], .int .i64 0]) rfl rfl rfl) (E.2.2.2.2) ?_
         simp only [Act.put,q1,q2,q3]
         refine HP (i := 8) (o := ⟨some 72, _, _, _, _, _⟩) (v := .agg #[.bool mM5, tM5]) rfl (by kernel_rfl) (fun _ _ _ h => h) rfl (fun w hS => run_extract (vs := [.agg #[.bool nM5, sM5], .agg #[.bool mM5, tM5], .int .i64 0]) rfl rfl rfl) (E.2.2.2.2) ?_
         simp only [Act.put,q1,q2,q3]
         refine HP (i := 9) (o := ⟨some 73, _, _, _, _, _⟩) (v := .int .i64 0) rfl (by kernel_rfl) (fun _ _ _ h => h) rfl (fun w hS => run_extract (vs := [.agg #[.bool nM5, sM5], .agg #[.bool mM5, tM5], .int .i64 0]) rfl rfl rfl) (E.2.2.2.2) ?_
         simp only [Act.put,q1,q2,q3]
         refine H1 (i := 12) (by kernel_rfl) ?_
         refine HE (o := ⟨none, _, _, _, _, _⟩) rfl rfl (Oper.wp_store AgI rfl rfl rfl xM10 rfl rfl (IsI.one (E.2.1)) ?_)
         intro wM12 oM12 yM12
         replace E := (E.onl (xM10.noW now0) ⟨trivial, trivial, trivial, trivial, okB (by omega), trivial, trivial, okB (by omega), trivial, okB (by omega), trivial, okB (by omega), trivial, trivial, okB (by omega), trivial, okB (by omega), trivial, okB (by omega), trivial, okB (by omega), okB (by omega), okB (by omega), okW (by omega), trivial⟩ oM12).b yM12
         replace xM11 := Bx.onl xM11 (by omega) oM12
         clear xM10 oM12 yM12
         refine ⟨E.2.2.2.2.2, ?_⟩
         simp only [Act.put]
         refine H1 (i := 13) (by kernel_rfl) ?_
         refine HE (o := ⟨none, _, _, _, _, _⟩) rfl rfl (Oper.wp_store AgI rfl rfl rfl xM11 rfl rfl (IsI.one (E.2.1)) ?_)
         intro wM13 oM13 yM13
         replace E := (E.onl (xM11.noW now0) ⟨okB (by omega), trivial, trivial, trivial, trivial, okB (by omega), trivial, trivial, okB (by omega), trivial, okB (by omega), trivial, okB (by omega), trivial, trivial, okB (by omega), trivial, okB (by omega), trivial, okB (by omega), trivial, okB (by omega), okB (by omega), okB (by omega), okW (by omega), trivial⟩ oM13).b yM13
         clear xM11 oM13 yM13
         refine ⟨E.2.2.2.2.2.2, ?_⟩
         simp only [Act.put]
         refine HP (i := 14) (o := ⟨some 17, _, _, _, _, _⟩) (v := .int .i64 0) rfl (by kernel_rfl) (fun _ _ _ h => h) rfl (fun w hS => run_assign rfl rfl) (E.2.2.2.2.2.2) ?_
         simp only [Act.put,q1,q2,q3]
         refine HN (by kernel_rfl) ?_
         exact ⟨vM2, nM3, sM3, nM5, sM5, mM5, tM5, bM10, bM11, rfl, (Env.b (Env.b (Env.i (Env.i (Env.i (Env.s (Env.b (Env.i (Env.s (Env.b (Env.i (Env.b (Env.i (Env.b (Env.i (Env.i (Env.b (Env.i (Env.b (Env.i (Env.b (Env.i (Env.b (Env.b (Env.b (Env.ww (Env.nil _) (E.2.2.2.2.2.2.2.2.2.2.2.2.2.2.2.2.2.2.2.2.2.2.2.2.2.1)) (E.2.2.2.2.2.2.2.2.2.2.2.2.2.2.2.2.2.2.2.2.2.2.2.2.1)) (E.2.2.2.2.2.2.2.2.2.2.2.2.2.2.2.2.2.2.2.2.2.2.2.1)) (E.2.2.2.2.2.2.2.2.2.2.2.2.2.2.2.2.2.2.2.2.2.2.1)) (E.2.2.2.2.2.2.2.2.2.2.2.2.2.2.2.2.2.2.2.2.2.1)) (E.2.2.2.2.2.2.2.2.2.2.2.2.2.2.2.2.2.2.2.2.1)) (E.2.2.2.2.2.2.2.2.2.2.2.2.2.2.2.2.2.2.2.1)) (E.2.2.2.2.2.2.2.2.2.2.2.2.2.2.2.2.2.2.1)) (E.2.2.2.2.2.2.2.2.2.2.2.2.2.2.2.2.2.1)) (E.2.2.2.2.2.2.2.2.2.2.2.2.2.2.2.2.1)) (E.2.2.2.2.2.2.2.2.2.2.2.2.2.2.2.1)) (E.2.2.2.2.2.2.2.2.2.2.2.2.2.2.1)) (E.2.2.2.2.2.2.2.2.2.2.2.2.2.1)) (E.2.2.2.2.2.2.2.2.2.2.2.2.1)) (E.2.2.2.2.2.2.2.2.2.2.2.1)) (E.2.2.2.2.2.2.2.2.2.2.1)) (E.2.2.2.2.2.2.2.2.2.1)) (E.2.2.2.2.2.2.2.2.1)) (E.2.2.2.2.2.2.2.1)) (E.2.2.2.2.2.2.1)) (E.2.2.2.2.2.1)) (E.2.2.2.2.1)) (E.2.2.2.1)) (E.2.2.1)) (E.2.1)) (E.1)), by omega, by omega, by omega⟩
       ·
        refine HE (o := ⟨some 16, _, _, _, _, _⟩) rfl rfl (Oper.wp_alloc AgI rfl ?_)
        intro bM11 wM11 eM11 zM11 dM11 xM11
        have lM11_0 : bM10 < bM11 := by rw [eM11]; exact Bx.lt (xM10)
        replace E := E.below dM11
        replace xM10 := Bx.below xM10 dM11
        clear eM11 zM11 dM11
        refine ⟨E, ?_⟩
        simp only [Act.put,q1,q2,q3]
        refine H1 (i := 2) (by kernel_rfl) ?_
        refine HE (o := ⟨some 67, _, _, _, _, _⟩) rfl rfl (Oper.wp_callS fn_integer_clone rfl (clone_sl _ (digs y.natAbs) _ (IsI.sl (E.2.2.2.2.2.2.2.2.2.2.2.2.2.2.2.1)) (Nat.le_trans ((Fits.mono Fy (by decide)) : Fits y 1000000000) (by decide))) rfl E ?_)
        clear E
        intro wM2 vM2 dM2 E
        replace xM10 := xM10.below dM2
        replace xM11 := xM11.below dM2
        clear dM2
        refine ⟨E.2, ?_⟩
        simp only [Act.put,q1,q2,q3]
        refine H1 (i := 3) (by kernel_rfl) ?_
        refine HE (o := ⟨some 68, _, _, _, _, _⟩) rfl rfl (Oper.wp_callI fn_integer_signed rfl (signed_z false _ (digs y.natAbs) (y.natAbs : Int) _ (E.1) (by rw [val_digs]; rfl)) rfl E ?_)
        clear E
        intro wM3 nM3 sM3 dM3 E
        replace xM10 := xM10.below dM3
        replace xM11 := xM11.below dM3
        clear dM3
        refine ⟨E.2.2, ?_⟩
        simp only [Act.put,q1,q2,q3]
        refine H1 (i := 5) (by kernel_rfl) ?_
        refine HE (o := ⟨some 70, _, _, _, _, _⟩) rfl rfl (Oper.wp_callIIE fn_integer_DivMod rfl (DivMod_z _ _ (y.natAbs : Int) (r.natAbs : Int) _ (E.1) (E.2.2.2.1) ((by have := hD.2.1; omega)) (Fits.mono Fay (by decide)) (Fits.mono Fg (by decide))) rfl E ?_)
        clear E
        intro wM5 nM5 sM5 mM5 tM5 dM5 E
        replace xM10 := xM10.below dM5
        replace xM11 := xM11.below dM5
        clear dM5
        refine ⟨E.2.2.2.2, ?_⟩
        simp only [Act.put,q1,q2,q3]
        refine HP (i := 6) (o := ⟨some 64, _, _, _, _, _⟩) (v := .tuple #[.agg #[.bool nM5, sM5], .agg #[.bool mM5, tM5], .int .i64 0]) rfl (by kernel_rfl) (fun _ _ _ h => h) rfl (fun w hS => run_move rfl rfl) (E.2.2.2.2) ?_
        simp only [Act.put,q1,q2,q3]
        refine HP (i := 7) (o := ⟨some 71, _, _, _, _, _⟩) (v := .agg #[.bool nM5, sM5]) rfl (by kernel_rfl) (fun _ _ _ h => h) rfl (fun w hS => run_extract (vs := [.agg #[.bool nM5, sM5], .agg #[.bool mM5, tM5], .int .i64 0]) rfl rfl rfl) (E.2.2.2.2) ?_
        simp only [Act.put,q1,q2,q3]
        refine HP (i := 8) (o := ⟨some 72, _, _, _, _, _⟩) (v := .agg #[.bool mM5, tM5]) rfl (by kernel_rfl) (fun _ _ _ h => h) rfl (fun w hS => run_extract (vs := [.agg #[.bool nM5, sM5], .agg #[.bool mM5, tM5], .int .i64 0]) rfl rfl rfl) (E.2.2.2.2) ?_
        simp only [Act.put,q1,q2,q3]
        refine HP (i := 9) (o := ⟨some 73, _, _, _, _, _⟩) (v := .int .i64 0) rfl (by kernel_rfl) (fun _ _ _ h => h) rfl (fun w hS => run_extract (vs := [.agg #[.bool nM5, sM5], .agg #[.bool mM5, tM5], .int .i64 0]) rfl rfl rfl) (E.2.2.2.2) ?_
        simp only [Act.put,q1,q2,q3]
        refine H1 (i := 12) (by kernel_rfl) ?_
        refine HE (o := ⟨none, _, _, _, _, _⟩) rfl rfl (Oper.wp_store AgI rfl rfl rfl xM10 rfl rfl (IsI.one (E.2.1)) ?_)
        intro wM12 oM12 yM12
        replace E := (E.onl (xM10.noW now0) ⟨trivial, trivial, trivial, trivial, okB (by omega), trivial, trivial, okB (by omega), trivial, okB (by omega), trivial, okB (by omega), trivial, trivial, okB (by omega), trivial, okB (by omega), trivial, okB (by omega), trivial, okB (by omega), okB (by omega), okB (by omega), okW (by omega), trivial⟩ oM12).b yM12
        replace xM11 := Bx.onl xM11 (by omega) oM12
        clear xM10 oM12 yM12
        refine ⟨E.2.2.2.2.2, ?_⟩
        simp only [Act.put]
        refine H1 (i := 13) (by kernel_rfl) ?_
        refine HE (o := ⟨none, _, _, _, _, _⟩) rfl rfl (Oper.wp_store AgI rfl rfl rfl xM11 rfl rfl (IsI.one (E.2.1)) ?_)
        intro wM13 oM13 yM13
        replace E := (E.onl (xM11.noW now0) ⟨okB (by omega), trivial, trivial, trivial, trivial, okB (by omega), trivial, trivial, okB (by omega), trivial, okB (by omega), trivial, okB (by omega), trivial, trivial, okB (by omega), trivial, okB (by omega), trivial, okB (by omega), trivial, okB (by omega), okB (by omega), okB (by omega), okW (by omega), trivial⟩ oM13).b yM13
        clear xM11 oM13 yM13
        refine ⟨E.2.2.2.2.2.2, ?_⟩
        simp only [Act.put]
        refine HP (i := 14) (o := ⟨some 17, _, _, _, _, _⟩) (v := .int .i64 0) rfl (by kernel_rfl) (fun _ _ _ h => h) rfl (fun w hS => run_assign rfl rfl) (E.2.2.2.2.2.2) ?_
        simp only [Act.put,q1,q2,q3]
        refine HN (by kernel_rfl) ?_
        exact ⟨vM2, nM3, sM3, nM5, sM5, mM5, tM5, bM10, bM11, rfl, (Env.b (Env.b (Env.i (Env.i (Env.i (Env.s (Env.b (Env.i (Env.s (Env.b (Env.i (Env.b (Env.i (Env.b (Env.i (Env.i (Env.b (Env.i (Env.b (Env.i (Env.b (Env.i (Env.b (Env.b (Env.b (Env.ww (Env.nil _) (E.2.2.2.2.2.2.2.2.2.2.2.2.2.2.2.2.2.2.2.2.2.2.2.2.2.1)) (E.2.2.2.2.2.2.2.2.2.2.2.2.2.2.2.2.2.2.2.2.2.2.2.2.1)) (E.2.2.2.2.2.2.2.2.2.2.2.2.2.2.2.2.2.2.2.2.2.2.2.1)) (E.2.2.2.2.2.2.2.2.2.2.2.2.2.2.2.2.2.2.2.2.2.2.1)) (E.2.2.2.2.2.2.2.2.2.2.2.2.2.2.2.2.2.2.2.2.2.1)) (E.2.2.2.2.2.2.2.2.2.2.2.2.2.2.2.2.2.2.2.2.1)) (E.2.2.2.2.2.2.2.2.2.2.2.2.2.2.2.2.2.2.2.1)) (E.2.2.2.2.2.2.2.2.2.2.2.2.2.2.2.2.2.2.1)) (E.2.2.2.2.2.2.2.2.2.2.2.2.2.2.2.2.2.1)) (E.2.2.2.2.2.2.2.2.2.2.2.2.2.2.2.2.1)) (E.2.2.2.2.2.2.2.2.2.2.2.2.2.2.2.1)) (E.2.2.2.2.2.2.2.2.2.2.2.2.2.2.1)) (E.2.2.2.2.2.2.2.2.2.2.2.2.2.1)) (E.2.2.2.2.2.2.2.2.2.2.2.2.1)) (E.2.2.2.2.2.2.2.2.2.2.2.1)) (E.2.2.2.2.2.2.2.2.2.2.1)) (E.2.2.2.2.2.2.2.2.2.1)) (E.2.2.2.2.2.2.2.2.1)) (E.2.2.2.2.2.2.2.1)) (E.2.2.2.2.2.2.1)) (E.2.2.2.2.2.1)) (E.2.2.2.2.1)) (E.2.2.2.1)) (E.2.2.1)) (E.2.1)) (E.1)), by omega, by omega, by omega⟩
      ·
       refine HE (o := ⟨some 16, _, _, _, _, _⟩) rfl rfl (Oper.wp_alloc AgI rfl ?_)
       intro bM11 wM11 eM11 zM11 dM11 xM11
       have lM11_0 : b34 < bM11 := by rw [eM11]; exact Bx.lt (E.1)
       replace E := E.below dM11
       clear eM11 zM11 dM11
       refine ⟨E, ?_⟩
       simp only [Act.put,q1,q2,q3]
       refine H2 (i := 2) (j := 10) (by kernel_rfl) ?_ ?_
       ·
        refine HE (o := ⟨some 67, _, _, _, _, _⟩) rfl rfl (Oper.wp_callS fn_integer_clone rfl (clone_sl _ (digs y.natAbs) _ (IsI.sl (E.2.2.2.2.2.2.2.2.2.2.2.2.2.2.2.1)) (Nat.le_trans ((Fits.mono Fy (by decide)) : Fits y 1000000000) (by decide))) rfl E ?_)
        clear E
        intro wM2 vM2 dM2 E
        replace xM11 := xM11.below dM2
        clear dM2
        refine ⟨E.2, ?_⟩
        simp only [Act.put,q1,q2,q3]
        refine H2 (i := 3) (j := 10) (by kernel_rfl) ?_ ?_
        ·
         refine HE (o := ⟨some 68, _, _, _, _, _⟩) rfl rfl (Oper.wp_callI fn_integer_signed rfl (signed_z false _ (digs y.natAbs) (y.natAbs : Int) _ (E.1) (by rw [val_digs]; rfl)) rfl E ?_)
         clear E
         intro wM3 nM3 sM3 dM3 E
         replace xM11 := xM11.below dM3
         clear dM3
         refine ⟨E.2.2, ?_⟩
         simp only [Act.put,q1,q2,q3]
         refine H2 (i := 5) (j := 10) (by kernel_rfl) ?_ ?_
         ·
          refine HE (o := ⟨some 70, _, _, _, _, _⟩) rfl rfl (Oper.wp_callIIE fn_integer_DivMod rfl (DivMod_z _ _ (y.natAbs : Int) (r.natAbs : Int) _ (E.1) (E.2.2.2.1) ((by have := hD.2.1; omega)) (Fits.mono Fay (by decide)) (Fits.mono Fg (by decide))) rfl E ?_)
          clear E
          intro wM5 nM5 sM5 mM5 tM5 dM5 E
          replace xM11 := xM11.below dM5
          clear dM5
          refine ⟨E.2.2.2.2, ?_⟩
          simp only [Act.put,q1,q2,q3]
          refine HP (i := 6) (o := ⟨some 64, _, _, _, _, _⟩) (v := .tuple #[.agg #[.bool nM5, sM5], .agg #[.bool mM5, tM5], .int .i64 0]) rfl (by kernel_rfl) (fun _ _ _ h => h) rfl (fun w hS => run_move rfl rfl) (E.2.2.2.2) ?_
          simp only [Act.put,q1,q2,q3]
          refine HP (i := 7) (o := ⟨some 71, _, _, _, _, _⟩) (v := .agg #[.bool nM5, sM5]) rfl (by kernel_rfl) (fun _ _ _ h => h) rfl (fun w hS => run_extract (vs := [.agg #[.bool nM5, sM5], .agg #[.bool mM5, tM5], .int .i64 0]) rfl rfl rfl) (E.2.2.2.2) ?_
          simp only [Act.put,q1,q2,q3]
          refine HP (i := 8) (o := ⟨some 72, _, _, _, _, _⟩) (v := .agg #[.bool mM5, tM5]) rfl (by kernel_rfl) (fun _ _ _ h => h) rfl (fun w hS => run_extract (vs := [.agg #[.bool nM5, sM5], .agg #[.bool mM5, tM5], .int .i64 0]) rfl rfl rfl) (E.2.2.2.2) ?_
          simp only [Act.put,q1,q2,q3]
          refine HP (i := 9) (o := ⟨some 73, _, _, _, _, _⟩) (v := .int .i64 0) rfl (by kernel_rfl) (fun _ _ _ h => h) rfl (fun w hS => run_extract (vs := [.agg #[.bool nM5, sM5], .agg #[.bool mM5, tM5], .int .i64 0]) rfl rfl rfl) (E.2.2.2.2) ?_
          simp only [Act.put,q1,q2,q3]
          refine H1 (i := 10) (by kernel_rfl) ?_
          refine HE (o := ⟨some 15, _, _, _, _, _⟩) rfl rfl (Oper.wp_alloc AgI rfl ?_)
          intro bM10 wM10 eM10 zM10 dM10 xM10
          have lM10_0 : bM11 < bM10 := by rw [eM10]; exact Bx.lt (xM11)
          replace E := E.below dM10
          replace xM11 := Bx.below xM11 dM10
          clear eM10 zM10 dM10
          refine ⟨E.2.2.2.2, ?_⟩
          simp only [Act.put,q1,q2,q3]
          refine H1 (i := 12) (by kernel_rfl) ?_
          refine HE (o := ⟨none, _, _, _, _, _⟩) rfl rfl (Oper.wp_store AgI rfl rfl rfl xM10 rfl rfl (IsI.one (E.2.1)) ?_)
          intro wM12 oM12 yM12
          replace E := (E.onl (xM10.noW now0) ⟨trivial, trivial, trivial, trivial, okB (by omega), trivial, trivial, okB (by omega), trivial, okB (by omega), trivial, okB (by omega), trivial, trivial, okB (by omega), trivial, okB (by omega), trivial, okB (by omega), trivial, okB (by omega), okB (by omega), okB (by omega), okW (by omega), trivial⟩ oM12).b yM12
          replace xM11 := Bx.onl xM11 (by omega) oM12
          clear xM10 oM12 yM12
          refine ⟨E.2.2.2.2.2, ?_⟩
          simp only [Act.put]
          refine H1 (i := 13) (by kernel_rfl) ?_
          refine HE (o := ⟨none, _, _, _, _, _⟩) rfl rfl (Oper.wp_store AgI rfl rfl rfl xM11 rfl rfl (IsI.one (E.2.1)) ?_)
          intro wM13 oM13 yM13
          replace E := (E.onl (xM11.noW now0) ⟨okB (by omega), trivial, trivial, trivial, trivial, okB (by omega), trivial, trivial, okB (by omega), trivial, okB (by omega), trivial, okB (by omega), trivial, trivial, okB (by omega), trivial, okB (by omega), trivial, okB (by omega), trivial, okB (by omega), okB (by omega), okB (by omega), okW (by omega), trivial⟩ oM13).b yM13
          clear xM11 oM13 yM13
          refine ⟨E.2.2.2.2.2.2, ?_⟩
          simp only [Act.put]
          refine HP (i := 14) (o := ⟨some 17, _, _, _, _, _⟩) (v := .int .i64 0) rfl (by kernel_rfl) (fun _ _ _ h => h) rfl (fun w hS => run_assign rfl rfl) (E.2.2.2.2.2.2) ?_
          simp only [Act.put,q1,q2,q3]
          refine HN (by kernel_rfl) ?_
          exact ⟨vM2, nM3, sM3, nM5, sM5, mM5, tM5, bM10, bM11, rfl, (Env.b (Env.b (Env.i (Env.i (Env.i (Env.s (Env.b (Env.i (Env.s (Env.b (Env.i (Env.b (Env.i (Env.b (Env.i (Env.i (Env.b (Env.i (Env.b (Env.i (Env.b (Env.i (Env.b (Env.b (Env.b (Env.ww (Env.nil _) (E.2.2.2.2.2.2.2.2.2.2.2.2.2.2.2.2.2.2.2.2.2.2.2.2.2.1)) (E.2.2.2.2.2.2.2.2.2.2.2.2.2.2.2.2.2.2.2.2.2.2.2.2.1)) (E.2.2.2.2.2.2.2.2.2.2.2.2.2.2.2.2.2.2.2.2.2.2.2.1)) (E.2.2.2.2.2.2.2.2.2.2.2.2.2.2.2.2.2.2.2.2.2.2.1)) (E.2.2.2.2.2.2.2.2.2.2.2.2.2.2.2.2.2.2.2.2.2.1)) (E.2.2.2.2.2.2.2.2.2.2.2.2.2.2.2.2.2.2.2.2.1)) (E.2.2.2.2.2.2.2.2.2.2.2.2.2.2.2.2.2.2.2.1)) (E.2.2.2.2.2.2.2.2.2.2.2.2.2.2.2.2.2.2.1)) (E.2.2.2.2.2.2.2.2.2.2.2.2.2.2.2.2.2.1)) (E.2.2.2.2.2.2.2.2.2.2.2.2.2.2.2.2.1)) (E.2.2.2.2.2.2.2.2.2.2.2.2.2.2.2.1)) (E.2.2.2.2.2.2.2.2.2.2.2.2.2.2.1)) (E.2.2.2.2.2.2.2.2.2.2.2.2.2.1)) (E.2.2.2.2.2.2.2.2.2.2.2.2.1)) (E.2.2.2.2.2.2.2.2.2.2.2.1)) (E.2.2.2.2.2.2.2.2.2.2.1)) (E.2.2.2.2.2.2.2.2.2.1)) (E.2.2.2.2.2.2.2.2.1)) (E.2.2.2.2.2.2.2.1)) (E.2.2.2.2.2.2.1)) (E.2.2.2.2.2.1)) (E.2.2.2.2.1)) (E.2.2.2.1)) (E.2.2.1)) (E.2.1)) (E.1)), by omega, by omega, by omega⟩
         ·
          refine HE (o := ⟨some 15, _, _, _, _, _⟩) rfl rfl (Oper.wp_alloc AgI rfl ?_)
          intro bM10 wM10 eM10 zM10 dM10 xM10
          have lM10_0 : bM11 < bM10 := by rw [eM10]; exact Bx.lt (xM11)
          replace E := E.below dM10
          replace xM11 := Bx.below xM11 dM10
          clear eM10 zM10 dM10
          refine ⟨E.2.2, ?_⟩
          simp only [Act.put,q1,q2,q3]
          refine H1 (i := 5) (by kernel_rfl) ?_
          refine HE (o := ⟨some 70, _, _, _, _, _⟩) rfl rfl (Oper.wp_callIIE fn_integer_DivMod rfl (DivMod_z _ _ (y.natAbs : Int) (r.natAbs : Int) _ (E.1) (E.2.2.2.1) ((by have := hD.2.1; omega)) (Fits.mono Fay (by decide)) (Fits.mono Fg (by decide))) rfl E ?_)
          clear E
          intro wM5 nM5 sM5 mM5 tM5 dM5 E
          replace xM11 := xM11.below dM5
          replace xM10 := xM10.below dM5
          clear dM5
          refine ⟨E.2.2.2.2, ?_⟩
          simp only [Act.put,q1,q2,q3]
          refine HP (i := 6) (o := ⟨some 64, _, _, _, _, _⟩) (v := .tuple #[.agg #[.bool nM5, sM5], .agg #[.bool mM5, tM5], .int .i64 0]) rfl (by kernel_rfl) (fun _ _ _ h => h) rfl (fun w hS => run_move rfl rfl) (E.2.2.2.2) ?_
          simp only [Act.put,q1,q2,q3]
          refine HP (i := 7) (o := ⟨some 71, _, _, _, _, _⟩) (v := .agg #[.bool nM5, sM5]) rfl (by kernel_rfl) (fun _ _ _ h => h) rfl (fun w hS => run_extract (vs := [.agg #[.bool nM5, sM5], .agg #[.bool mM5, tM5], .int .i64 0]) rfl rfl rfl) (E.2.2.2.2) ?_
          simp only [Act.put,q1,q2,q3]
          refine HP (i := 8) (o := ⟨some 72, _, _, _, _, _⟩) (v := .agg #[.bool mM5, tM5]) rfl (by kernel_rfl) (fun _ _ _ h => h) rfl (fun w hS => run_extract (vs := [.agg #[.bool nM5, sM5], .agg #[.bool mM5, tM5], .int .i64 0]) rfl rfl rfl) (E.2.2.2.2) ?_
          simp only [Act.put,q1,q2,q3]
          refine HP (i := 9) (o := ⟨some 73, _, _, _, _, _⟩) (v := .int .i64 0) rfl (by kernel_rfl) (fun _ _ _ h => h) rfl (fun w hS => run_extract (vs := [.agg #[.bool nM5, sM5], .agg #[.bool mM5, tM5], .int .i64 0]) rfl rfl rfl) (E.2.2.2.2) ?_
          simp only [Act.put,q1,q2,q3]
          refine H1 (i := 12) (by kernel_rfl) ?_
          refine HE (o := ⟨none, _, _, _, _, _⟩) rfl rfl (Oper.wp_store AgI rfl rfl rfl xM10 rfl rfl (IsI.one (E.2.1)) ?_)
          intro wM12 oM12 yM12
          replace E := (E.onl (xM10.noW now0) ⟨trivial, trivial, trivial, trivial, okB (by omega), trivial, trivial, okB (by omega), trivial, okB (by omega), trivial, okB (by omega), trivial, trivial, okB (by omega), trivial, okB (by omega), trivial, okB (by omega), trivial, okB (by omega), okB (by omega), okB (by omega), okW (by omega), trivial⟩ oM12).b yM12
          replace xM11 := Bx.onl xM11 (by omega) oM12
          clear xM10 oM12 yM12
          refine ⟨E.2.2.2.2.2, ?_⟩
          simp only [Act.put]
          refine H1 (i := 13) (by kernel_rfl) ?_
          refine HE (o := ⟨none, _, _, _, _, _⟩) rfl rfl (Oper.wp_store AgI rfl rfl rfl xM11 rfl rfl (IsI.one (E.2.1)) ?_)
          intro wM13 oM13 yM13
          replace E := (E.onl (xM11.noW now0) ⟨okB (by omega), trivial, trivial, trivial, trivial, okB (by omega), trivial, trivial, okB (by omega), trivial, okB (by omega), trivial, okB (by omega), trivial, trivial, okB (by omega), trivial, okB (by omega), trivial, okB (by omega), trivial, okB (by omega), okB (by omega), okB (by omega), okW (by omega), trivial⟩ oM13).b yM13
          clear xM11 oM13 yM13
          refine ⟨E.2.2.2.2.2.2, ?_⟩
          simp only [Act.put]
          refine HP (i := 14) (o := ⟨some 17, _, _, _, _, _⟩) (v := .int .i64 0) rfl (by kernel_rfl) (fun _ _ _ h => h) rfl (fun w hS => run_assign rfl rfl) (E.2.2.2.2.2.2) ?_
          simp only [Act.put,q1,q2,q3]
          refine HN (by kernel_rfl) ?_
          exact ⟨vM2, nM3, sM3, nM5, sM5, mM5, tM5, bM10, bM11, rfl, (Env.b (Env.b (Env.i (Env.i (Env.i (Env.s (Env.b (Env.i (Env.s (Env.b (Env.i (Env.b (Env.i (Env.b (Env.i (Env.i (Env.b (Env.i (Env.b (Env.i (Env.b (Env.i (Env.b (Env.b (Env.b (Env.ww (Env.nil _) (E.2.2.2.2.2.2.2.2.2.2.2.2.2.2.2.2.2.2.2.2.2.2.2.2.2.1)) (E.2.2.2.2.2.2.2.2.2.2.2.2.2.2.2.2.2.2.2.2.2.2.2.2.1)) (E.2.2.2.2.2.2.2.2.2.2.2.2.2.2.2.2.2.2.2.2.2.2.2.1)) (E.2.2.2.2.2.2.2.2.2.2.2.2.2.2.2.2.2.2.2.2.2.2.1)) (E.2.2.2.2.2.2.2.2.2.2.2.2.2.2.2.2.2.2.2.2.2.1)) (E.2.2.2.2.2.2.2.2.2.2.2.2.2.2.2.2.2.2.2.2.1)) (E.2.2.2.2.2.2.2.2.2.2.2.2.2.2.2.2.2.2.2.1)) (E.2.2.2.2.2.2.2.2.2.2.2.2.2.2.2.2.2.2.1)) (E.2.2.2.2.2.2.2.2.2.2.2.2.2.2.2.2.2.1)) (E.2.2.2.2.2.2.2.2.2.2.2.2.2.2.2.2.1)) (E.2.2.2.2.2.2.2.2.2.2.2.2.2.2.2.1)) (E.2.2.2.2.2.2.2.2.2.2.2.2.2.2.1)) (E.2.2.2.2.2.2.2.2.2.2.2.2.2.1)) (E.2.2.2.2.2.2.2.2.2.2.2.2.1)) (E.2.2.2.2.2.2.2.2.2.2.2.1)) (E.2.2.2.2.2.2.2.2.2.2.1)) (E.2.2.2.2.2.2.2.2.2.1)) (E.2.2.2.2.2.2.2.2.1)) (E.2.2.2.2.2.2.2.1)) (E.2.2.2.2.2.2.1)) (E.2.2.2.2.2.1)) (E.2.2.2.2.1)) (E.2.2.2.1)) (E.2.2.1)) (E.2.1)) (E.1)), by omega, by omega, by omega⟩
        ·
         refine HE (o := ⟨some 15, _, _, _, _, _⟩) rfl rfl (Oper.wp_alloc AgI rfl ?_)
         intro bM10 wM10 eM10 zM10 dM10 xM10
         have lM10_0 : bM11 < bM10 := by rw [eM10]; exact Bx.lt (xM11)
         replace E := E.below dM10
         replace xM11 := Bx.below xM11 dM10
         clear eM10 zM10 dM10
         refine ⟨E.2, ?_⟩
         simp only [Act.put,q1,q2,q3]
         refine H1 (i := 3) (by kernel_rfl) ?_
         refine HE (o := ⟨some 68, _, _, _, _, _⟩) rfl rfl (Oper.wp_callI fn_integer_signed rfl (signed_z false _ (digs y.natAbs) (y.natAbs : Int) _ (E.1) (by rw [val_digs]; rfl)) rfl E ?_)
         clear E
         intro wM3 nM3 sM3 dM3 E
         replace xM11 := xM11.below dM3
         replace xM10 := xM10.below dM3
         clear dM3
         refine ⟨E.2.2, ?_⟩
         simp only [Act.put,q1,q2,q3]
         refine H1 (i := 5) (by kernel_rfl) ?_
         refine HE (o := ⟨some 70, _, _, _, _, _⟩) rfl rfl (Oper.wp_callIIE fn_integer_DivMod rfl (DivMod_z _ _ (y.natAbs : Int) (r.natAbs : Int) _ (E.1) (E.2.2.2.1) ((by have := hD.2.1; omega)) (Fits.mono Fay (by decide)) (Fits.mono Fg (by decide))) rfl E ?_)
         clear E
         intro wM5 nM5 sM5 mM5 tM5 dM5 E
         replace xM11 := xM11.below dM5
         replace xM10 := xM10.below dM5
         clear dM5
         refine ⟨E.2.2.2.2, ?_⟩
         simp only [Act.put,q1,q2,q3]
         refine HP (i := 6) (o := ⟨some 64, _, _, _, _, _⟩) (v := .tuple #[.agg #[.bool nM5, sM5], .agg #[.bool mM5, tM5], .int .i64 0]) rfl (by kernel_rfl) (fun _ _ _ h => h) rfl (fun w hS => run_move rfl rfl) (E.2.2.2.2) ?_
         simp only [Act.put,q1,q2,q3]
         refine HP (i := 7) (o := ⟨some 71, _, _, _, _, _⟩) (v := .agg #[.bool nM5, sM5]) rfl (by kernel_rfl) (fun _ _ _ h => h) rfl (fun w hS => run_extract (vs := [.agg #[.bool nM5, sM5], .agg #[.bool mM5, tM5], .int .i64 0]) rfl rfl rfl) (E.2.2.2.2) ?_
         simp only [Act.put,q1,q2,q3]
         refine HP (i := 8) (o := ⟨some 72, _, _, _, _, _⟩) (v := .agg #[.bool mM5, tM5]) rfl (by kernel_rfl) (fun _ _ _ h => h) rfl (fun w hS => run_extract (vs := [.agg #[.bool nM5, sM5], .agg #[.bool mM5, tM5], .int .i64 0]) rfl rfl rfl) (E.2.2.2.2) ?_
         simp only [Act.put,q1,q2,q3]
         refine HP (i := 9) (o := ⟨some 73, _, _, _, _, _⟩) (v := .int .i64 0) rfl (by kernel_rfl) (fun _ _ _ h => h) rfl (fun w hS => run_extract (vs := [.agg #[.bool nM5, sM5], .agg #[.bool mM5, tM5], .int .i64 0]) rfl rfl rfl) (E.2.2.2.2) ?_
         simp only [Act.put,q1,q2,q3]
         refine H1 (i := 12) (by kernel_rfl) ?_
         refine HE (o := ⟨none, _, _, _, _, _⟩) rfl rfl (Oper.wp_store AgI rfl rfl rfl xM10 rfl rfl (IsI.one (E.2.1)) ?_)
         intro wM12 oM12 yM12
         replace E := (E.onl (xM10.noW now0) ⟨trivial, trivial, trivial, trivial, okB (by omega), trivial, trivial, okB (by omega), trivial, okB (by omega), trivial, okB (by omega), trivial, trivial, okB (by omega), trivial, okB (by omega), trivial, okB (by omega), trivial, okB (by omega), okB (by omega), okB (by omega), okW (by omega), trivial⟩ oM12).b yM12
         replace xM11 := Bx.onl xM11 (by omega) oM12
         clear xM10 oM12 yM12
         refine ⟨E.2.2.2.2.2, ?_⟩
         simp only [Act.put]
         refine H1 (i := 13) (by kernel_rfl) ?_
         refine HE (o := ⟨none, _, _, _, _, _⟩) rfl rfl (Oper.wp_store AgI rfl rfl rfl xM11 rfl rfl (IsI.one (E.2.1)) ?_)
         intro wM13 oM13 yM13
         replace E := (E.onl (xM11.noW now0) ⟨okB (by omega), trivial, trivial, trivial, trivial, okB (by omega), trivial, trivial, okB (by omega), trivial, okB (by omega), trivial, okB (by omega), trivial, trivial, okB (by omega), trivial, okB (by omega), trivial, okB (by omega), trivial, okB (by omega), okB (by omega), okB (by omega), okW (by omega), trivial⟩ oM13).b yM13
         clear xM11 oM13 yM13
         refine ⟨E.2.2.2.2.2.2, ?_⟩
         simp only [Act.put]
         refine HP (i := 14) (o := ⟨some 17, _, _, _, _, _⟩) (v := .int .i64 0) rfl (by kernel_rfl) (fun _ _ _ h => h) rfl (fun w hS => run_assign rfl rfl) (E.2.2.2.2.2.2) ?_
         simp only [Act.put,q1,q2,q3]
         refine HN (by kernel_rfl) ?_
         exact ⟨vM2, nM3, sM3, nM5, sM5, mM5, tM5, bM10, bM11, rfl, (Env.b (Env.b (Env.i (Env.i (Env.i (Env.s (Env.b (Env.i (Env.s (Env.b (Env.i (Env.b (Env.i (Env.b (Env.i (Env.i (Env.b (Env.i (Env.b (Env.i (Env.b (Env.i (Env.b (Env.b (Env.b (Env.ww (Env.nil _) (E.2.2.2.2.2.2.2.2.2.2.2.2.2.2.2.2.2.2.2.2.2.2.2.2.2.1)) (E.2.2.2.2.2.2.2.2.2.2.2.2.2.2.2.2.2.2.2.2.2.2.2.2.1)) (E.2.2.2.2.2.2.2.2.2.2.2.2.2.2.2.2.2.2.2.2.2.2.2.1)) (E.2.2.2.2.2.2.2.2.2.2.2.2.2.2.2.2.2.2.2.2.2.2.1)) (E.2.2.2.2.2.2.2.2.2.2.2.2.2.2.2.2.2.2.2.2.2.1)) (E.2.2.2.2.2.2.2.2.2.2.2.2.2.2.2.2.2.2.2.2.1)) (E.2.2.2.2.2.2.2.2.2.2.2.2.2.2.2.2.2.2.2.1)) (E.2.2.2.2.2.2.2.2.2.2.2.2.2.2.2.2.2.2.1)) (E.2.2.2.2.2.2.2.2.2.2.2.2.2.2.2.2.2.1)) (E.2.2.2.2.2.2.2.2.2.2.2.2.2.2.2.2.1)) (E.2.2.2.2.2.2.2.2.2.2.2.2.2.2.2.1)) (E.2.2.2.2.2.2.2.2.2.2.2.2.2.2.1)) (E.2.2.2.2.2.2.2.2.2.2.2.2.2.1)) (E.2.2.2.2.2.2.2.2.2.2.2.2.1)) (E.2.2.2.2.2.2.2.2.2.2.2.1)) (E.2.2.2.2.2.2.2.2.2.2.1)) (E.2.2.2.2.2.2.2.2.2.1)) (E.2.2.2.2.2.2.2.2.1)) (E.2.2.2.2.2.2.2.1)) (E.2.2.2.2.2.2.1)) (E.2.2.2.2.2.1)) (E.2.2.2.2.1)) (E.2.2.2.1)) (E.2.2.1)) (E.2.1)) (E.1)), by omega, by omega, by omega⟩
       ·
        refine HE (o := ⟨some 15, _, _, _, _, _⟩) rfl rfl (Oper.wp_alloc AgI rfl ?_)
        intro bM10 wM10 eM10 zM10 dM10 xM10
        have lM10_0 : bM11 < bM10 := by rw [eM10]; exact Bx.lt (xM11)
        replace E := E.below dM10
        replace xM11 := Bx.below xM11 dM10
        clear eM10 zM10 dM10
        refine ⟨E, ?_⟩
        simp only [Act.put,q1,q2,q3]
        refine H1 (i := 2) (by kernel_rfl) ?_
        refine HE (o := ⟨some 67, _, _, _, _, _⟩) rfl rfl (Oper.wp_callS fn_integer_clone rfl (clone_sl _ (digs y.natAbs) _ (IsI.sl (E.2.2.2.2.2.2.2.2.2.2.2.2.2.2.2.1)) (Nat.le_trans ((Fits.mono Fy (by decide)) : Fits y 1000000000) (by decide))) rfl E ?_)
        clear E
        intro wM2 vM2 dM2 E
        replace xM11 := xM11.below dM2
        replace xM10 := xM10.below dM2
        clear dM2
        refine ⟨E.2, ?_⟩
        simp only [Act.put,q1,q2,q3]
        refine H1 (i := 3) (by kernel_rfl) ?_
        refine HE (o := ⟨some 68, _, _, _, _, _⟩) rfl rfl (Oper.wp_callI fn_integer_signed rfl (signed_z false _ (digs y.natAbs) (y.natAbs : Int) _ (E.1) (by rw [val_digs]; rfl)) rfl E ?_)
        clear E
        intro wM3 nM3 sM3 dM3 E
        replace xM11 := xM11.below dM3
        replace xM10 := xM10.below dM3
        clear dM3
        refine ⟨E.2.2, ?_⟩
        simp only [Act.put,q1,q2,q3]
        refine H1 (i := 5) (by kernel_rfl) ?_
        refine HE (o := ⟨some 70, _, _, _, _, _⟩) rfl rfl (Oper.wp_callIIE fn_integer_DivMod rfl (DivMod_z _ _ (y.natAbs : Int) (r.natAbs : Int) _ (E.1) (E.2.2.2.1) ((by have := hD.2.1; omega)) (Fits.mono Fay (by decide)) (Fits.mono Fg (by decide))) rfl E ?_)
        clear E
        intro wM5 nM5 sM5 mM5 tM5 dM5 E
        replace xM11 := xM11.below dM5
        replace xM10 := xM10.below dM5
        clear dM5
        refine ⟨E.2.2.2.2, ?_⟩
        simp only [Act.put,q1,q2,q3]
        refine HP (i := 6) (o := ⟨some 64, _, _, _, _, _⟩) (v := .tuple #[.agg #[.bool nM5, sM5], .agg #[.bool mM5, tM5], .int .i64 0]) rfl (by kernel_rfl) (fun _ _ _ h => h) rfl (fun w hS => run_move rfl rfl) (E.2.2.2.2) ?_
        simp only [Act.put,q1,q2,q3]
        refine HP (i := 7) (o := ⟨some 71, _, _, _, _, _⟩) (v := .agg #[.bool nM5, sM5]) rfl (by kernel_rfl) (fun _ _ _ h => h) rfl (fun w hS => run_extract (vs := [.agg #[.bool nM5, sM5], .agg #[.bool mM5, tM5], .int .i64 0]) rfl rfl rfl) (E.2.2.2.2) ?_
        simp only [Act.put,q1,q2,q3]
        refine HP (i := 8) (o := ⟨some 72, _, _, _, _, _⟩) (v := .agg #[.bool mM5, tM5]) rfl (by kernel_rfl) (fun _ _ _ h => h) rfl (fun w hS => run_extract (vs := [.agg #[.bool nM5, sM5], .agg #[.bool mM5, tM5], .int .i64 0]) rfl rfl rfl) (E.2.2.2.2) ?_
        simp only [Act.put,q1,q2,q3]
        refine HP (i := 9) (o := ⟨some 73, _, _, _, _, _⟩) (v := .int .i64 0) rfl (by kernel_rfl) (fun _ _ _ h => h) rfl (fun w hS => run_extract (vs := [.agg #[.bool nM5, sM5], .agg #[.bool mM5, tM5], .int .i64 0]) rfl rfl rfl) (E.2.2.2.2) ?_
        simp only [Act.put,q1,q2,q3]
        refine H1 (i := 12) (by kernel_rfl) ?_
        refine HE (o := ⟨none, _, _, _, _, _⟩) rfl rfl (Oper.wp_store AgI rfl rfl rfl xM10 rfl rfl (IsI.one (E.2.1)) ?_)
        intro wM12 oM12 yM12
        replace E := (E.onl (xM10.noW now0) ⟨trivial, trivial, trivial, trivial, okB (by omega), trivial, trivial, okB (by omega), trivial, okB (by omega), trivial, okB (by omega), trivial, trivial, okB (by omega), trivial, okB (by omega), trivial, okB (by omega), trivial, okB (by omega), okB (by omega), okB (by omega), okW (by omega), trivial⟩ oM12).b yM12
        replace xM11 := Bx.onl xM11 (by omega) oM12
        clear xM10 oM12 yM12
        refine ⟨E.2.2.2.2.2, ?_⟩
        simp only [Act.put]
        refine H1 (i := 13) (by kernel_rfl) ?_
        refine HE (o := ⟨none, _, _, _, _, _⟩) rfl rfl (Oper.wp_store AgI rfl rfl rfl xM11 rfl rfl (IsI.one (E.2.1)) ?_)
        intro wM13 oM13 yM13
        replace E := (E.onl (xM11.noW now0) ⟨okB (by omega), trivial, trivial, trivial, trivial, okB (by omega), trivial, trivial, okB (by omega), trivial, okB (by omega), trivial, okB (by omega), trivial, trivial, okB (by omega), trivial, okB (by omega), trivial, okB (by omega), trivial, okB (by omega), okB (by omega), okB (by omega), okW (by omega), trivial⟩ oM13).b yM13
        clear xM11 oM13 yM13
        refine ⟨E.2.2.2.2.2.2, ?_⟩
        simp only [Act.put]
        refine HP (i := 14) (o := ⟨some 17, _, _, _, _, _⟩) (v := .int .i64 0) rfl (by kernel_rfl) (fun _ _ _ h => h) rfl (fun w hS => run_assign rfl rfl) (E.2.2.2.2.2.2) ?_
        simp only [Act.put,q1,q2,q3]
        refine HN (by kernel_rfl) ?_
        exact ⟨vM2, nM3, sM3, nM5, sM5, mM5, tM5, bM10, bM11, rfl, (Env.b (Env.b (Env.i (Env.i (Env.i (Env.s (Env.b (Env.i (Env.s (Env.b (Env.i (Env.b (Env.i (Env.b (Env.i (Env.i (Env.b (Env.i (Env.b (Env.i (Env.b (Env.i (Env.b (Env.b (Env.b (Env.ww (Env.nil _) (E.2.2.2.2.2.2.2.2.2.2.2.2.2.2.2.2.2.2.2.2.2.2.2.2.2.1)) (E.2.2.2.2.2.2.2.2.2.2.2.2.2.2.2.2.2.2.2.2.2.2.2.2.1)) (E.2.2.2.2.2.2.2.2.2.2.2.2.2.2.2.2.2.2.2.2.2.2.2.1)) (E.2.2.2.2.2.2.2.2.2.2.2.2.2.2.2.2.2.2.2.2.2.2.1)) (E.2.2.2.2.2.2.2.2.2.2.2.2.2.2.2.2.2.2.2.2.2.1)) (E.2.2.2.2.2.2.2.2.2.2.2.2.2.2.2.2.2.2.2.2.1)) (E.2.2.2.2.2.2.2.2.2.2.2.2.2.2.2.2.2.2.2.1)) (E.2.2.2.2.2.2.2.2.2.2.2.2.2.2.2.2.2.2.1)) (E.2.2.2.2.2.2.2.2.2.2.2.2.2.2.2.2.2.1)) (E.2.2.2.2.2.2.2.2.2.2.2.2.2.2.2.2.1)) (E.2.2.2.2.2.2.2.2.2.2.2.2.2.2.2.1)) (E.2.2.2.2.2.2.2.2.2.2.2.2.2.2.1)) (E.2.2.2.2.2.2.2.2.2.2.2.2.2.1)) (E.2.2.2.2.2.2.2.2.2.2.2.2.1)) (E.2.2.2.2.2.2.2.2.2.2.2.1)) (E.2.2.2.2.2.2.2.2.2.2.1)) (E.2.2.2.2.2.2.2.2.2.1)) (E.2.2.2.2.2.2.2.2.1)) (E.2.2.2.2.2.2.2.1)) (E.2.2.2.2.2.2.1)) (E.2.2.2.2.2.1)) (E.2.2.2.2.1)) (E.2.2.2.1)) (E.2.2.1)) (E.2.1)) (E.1)), by omega, by omega, by omega⟩
     case refine_2 =>
      rintro _ wM14 ⟨vM2, nM3, sM3, nM5, sM5, mM5, tM5, bM10, bM11, rfl, E, qM14_0, qM14_1, qM14_2⟩
      change Code.wp _ _ _ _ _
      refine wp_seq ?_
      -- region 13
      refine wp_region_lit ?_
      refine LV (v := .agg #[.bool nc, sc]) rfl (run_load_bx AgI rfl rfl (E.2.2.2.2.2.2.2.2.2.1) rfl) ?_
      simp only [Act.put,q1,q2,q3]
      refine LV (v := .agg #[.bool nM5, sM5]) rfl (run_load_bx AgI rfl rfl (E.2.1) rfl) ?_
      simp only [Act.put,q1,q2,q3]
      refine L1 rfl (Oper.wp_callIIE fn_integer_DivMod rfl (DivMod_z _ _ u1 ((y.natAbs : Int) / (r.natAbs : Int)) _ (E.2.2.2.2.2.2.2.2.2.2.1) (E.2.2.2.1) (hD.1) (Fits.mono Fu3 (by decide)) (Fits.mono Fp (by decide))) rfl E ?_)
      clear E
      intro w36 n36 s36 m36 t36 d36 E
      clear d36
      simp only [Act.put,q1,q2,q3]
      refine LV (v := .tuple #[.agg #[.bool n36, s36], .agg #[.bool m36, t36], .int .i64 0]) rfl (run_move rfl rfl) ?_
      simp only [Act.put,q1,q2,q3]
      refine LV (v := .agg #[.bool n36, s36]) rfl (run_extract (vs := [.agg #[.bool n36, s36], .agg #[.bool m36, t36], .int .i64 0]) rfl rfl rfl) ?_
      simp only [Act.put,q1,q2,q3]
      refine LV (v := .agg #[.bool m36, t36]) rfl (run_extract (vs := [.agg #[.bool n36, s36], .agg #[.bool m36, t36], .int .i64 0]) rfl rfl rfl) ?_
      simp only [Act.put,q1,q2,q3]
      refine LV (v := .int .i64 0) rfl (run_extract (vs := [.agg #[.bool n36, s36], .agg #[.bool m36, t36], .int .i64 0]) rfl rfl rfl) ?_
      simp only [Act.put,q1,q2,q3]
      have x38 := E.2.2.2.2.2.2.2.2.2.2.2.1
      replace E := (((((((((((E.2.2.2.2.2.2.2.2.2.2.2.2).s (E.2.2.2.2.2.2.2.2.2.2.1)).i (E.2.2.2.2.2.2.2.2.2.1)).b (E.2.2.2.2.2.2.2.2.1)).s (E.2.2.2.2.2.2.2.1)).i (E.2.2.2.2.2.2.1)).i (E.2.2.2.2.2.1)).i (E.2.2.2.2.1)).b (E.2.2.2.1)).b (E.2.2.1)).i (E.2.1)).i (E.1)
      refine L1 rfl (Oper.wp_store AgI rfl rfl rfl x38 rfl rfl (IsI.one (E.1)) ?_)
      intro w37 o37 y37
      replace E := (E.onl (x38.noW (IsI.now (E.2.2.2.2.2.2.2.2.2.2.2.1))) ⟨trivial, trivial, okB (by omega), okB (by omega), trivial, trivial, trivial, trivial, okB (by omega), trivial, trivial, trivial, okB (by omega), trivial, okB (by omega), trivial, trivial, okB (by omega), trivial, okB (by omega), trivial, okB (by omega), trivial, okB (by omega), okB (by omega), okB (by omega), okW (by omega), trivial⟩ o37).b y37
      clear x38 o37 y37
      simp only [Act.put]
      refine wpList_nil ?_
      change Code.wp _ _ _ _ _
      refine wp_seq ?_
      -- region 14
      refine wp_cut (fun a w' => ∃ (nO3 : Bool) (sO3 : Value) (nO4 : Bool) (sO4 : Value) (nO6 : Bool) (sO6 : Value) (mO6 : Bool) (tO6 : Value) (bO11 : Nat) (bO12 : Nat), a = ⟨#[.agg #[.bool nva, sva], .agg #[.bool nvb, svb], .pointer (some ⟨b1, 0, none⟩), .pointer (some ⟨b2, 0, none⟩), .pointer (some ⟨b3, 0, none⟩), .pointer (some ⟨b4, 0, none⟩), .pointer (some ⟨b5, 0, none⟩), .pointer (some ⟨bD2, 0, none⟩), .pointer (some ⟨bD3, 0, none⟩), .pointer (some ⟨b20, 0, none⟩), .pointer (some ⟨b21, 0, none⟩), g11, g12, g13, .pointer (some ⟨b34, 0, none⟩), .pointer (some ⟨bM10, 0, none⟩), .pointer (some ⟨bM11, 0, none⟩), .int .i64 0, .pointer (some ⟨bO11, 0, none⟩), .pointer (some ⟨bO12, 0, none⟩), .int .i64 0, .pointer (some ⟨b2, 1, none⟩), svb, .int .i64 (((digs y.natAbs).length : Nat) : Int), .bool false, undef, undef, undef, undef, undef, undef, undef, undef, .agg #[.bool nva, sva], .agg #[.bool nvb, svb], .agg #[.bool n18, s18], .agg #[.bool n19, s19], .pointer (some ⟨bD3, 1, none⟩), s8, .int .i64 (((digs nx.natAbs).length : Nat) : Int), .bool false, g41, g42, g43, g44, g45, g46, g47, g48, g49, g50, g51, g52, g53, g54, g55, c56, c57, c58, c59, .pointer (some ⟨bD2, 1, none⟩), s7, v32, .agg #[.bool n33, s33], .tuple #[.agg #[.bool nM5, sM5], .agg #[.bool mM5, tM5], .int .i64 0], .pointer (some ⟨b2, 1, none⟩), svb, vM2, .agg #[.bool nM3, sM3], .agg #[.bool n33, s33], .tuple #[.agg #[.bool nM5, sM5], .agg #[.bool mM5, tM5], .int .i64 0], .agg #[.bool nM5, sM5], .agg #[.bool mM5, tM5], .int .i64 0, .tuple #[.agg #[.bool n36, s36], .agg #[.bool m36, t36], .int .i64 0], .agg #[.bool nc, sc], .agg #[.bool nM5, sM5], .tuple #[.agg #[.bool n36, s36], .agg #[.bool m36, t36], .int .i64 0], .agg #[.bool n36, s36], .agg #[.bool m36, t36], .int .i64 0, .tuple #[.agg #[.bool nO6, sO6], .agg #[.bool mO6, tO6], .int .i64 0], .agg #[.bool n33, s33], .agg #[.bool m36, t36], .agg #[.bool nva, sva], .agg #[.bool nO3, sO3], .agg #[.bool nO4, sO4], .agg #[.bool nvb, svb], .tuple #[.agg #[.bool nO6, sO6], .agg #[.bool mO6, tO6], .int .i64 0], .agg #[.bool nO6, sO6], .agg #[.bool mO6, tO6], .int .i64 0, undef, undef, undef], []⟩ ∧ Env w' [fB bO12 mO6 tO6, fB bO11 nO6 sO6, fI (.agg #[.bool mO6, tO6]) (((r.natAbs : Int) - ((u1 % ((y.natAbs : Int) / (r.natAbs : Int))) * x)) % y), fI (.agg #[.bool nO6, sO6]) (((r.natAbs : Int) - ((u1 % ((y.natAbs : Int) / (r.natAbs : Int))) * x)) / y), fI (.agg #[.bool nO4, sO4]) ((r.natAbs : Int) - ((u1 % ((y.natAbs : Int) / (r.natAbs : Int))) * x)), fI (.agg #[.bool nO3, sO3]) ((u1 % ((y.natAbs : Int) / (r.natAbs : Int))) * x), fB b20 m36 t36, fI (.agg #[.bool m36, t36]) (u1 % ((y.natAbs : Int) / (r.natAbs : Int))), fI (.agg #[.bool n36, s36]) (u1 / ((y.natAbs : Int) / (r.natAbs : Int))), fB bM11 mM5 tM5, fB bM10 nM5 sM5, fI (.agg #[.bool mM5, tM5]) ((y.natAbs : Int) % (r.natAbs : Int)), fI (.agg #[.bool nM5, sM5]) ((y.natAbs : Int) / (r.natAbs : Int)), fI (.agg #[.bool nM3, sM3]) (y.natAbs : Int), fS vM2 (digs y.natAbs), fB b34 n33 s33, fI (.agg #[.bool n33, s33]) (r.natAbs : Int), fS v32 (digs r.natAbs), fI (.agg #[.bool nc, sc]) u1, fB bD2 n7 s7, fI (.agg #[.bool n7, s7]) r, fB bD3 n8 s8, fI (.agg #[.bool n8, s8]) nx, fI (.agg #[.bool n9, s9]) u, fB b21 n10 s10, fI (.agg #[.bool n10, s10]) st, fB b1 nva sva, fI (.agg #[.bool nva, sva]) x, fB b2 nvb svb, fI (.agg #[.bool nvb, svb]) y, fB b3 false (.slice none 0 0), fB b4 false (.slice none 0 0), fB b5 false (.slice none 0 0), fW w] ∧ bM10 < bO11 ∧ bM11 < bO11 ∧ bM10 < bO12 ∧ bM11 < bO12 ∧ bO11 ≠ bO12) ?_ ?_
      case refine_1 =>
       refine wp_heldE (by kernel_rfl) (#[false, false, false, false, false, false, false, false, false, false, false, false, false, false, false, false]) 16 rfl rfl (l := [fB b20 m36 t36, fI (.agg #[.bool m36, t36]) (u1 % ((y.natAbs : Int) / (r.natAbs : Int))), fI (.agg #[.bool n36, s36]) (u1 / ((y.natAbs : Int) / (r.natAbs : Int))), fB bM11 mM5 tM5, fB bM10 nM5 sM5, fI (.agg #[.bool mM5, tM5]) ((y.natAbs : Int) % (r.natAbs : Int)), fI (.agg #[.bool nM5, sM5]) ((y.natAbs : Int) / (r.natAbs : Int)), fI (.agg #[.bool nM3, sM3]) (y.natAbs : Int), fS vM2 (digs y.natAbs), fB b34 n33 s33, fI (.agg #[.bool n33, s33]) (r.natAbs : Int), fS v32 (digs r.natAbs), fI (.agg #[.bool nc, sc]) u1, fB bD2 n7 s7, fI (.agg #[.bool n7, s7]) r, fB bD3 n8 s8, fI (.agg #[.bool n8, s8]) nx, fI (.agg #[.bool n9, s9]) u, fB b21 n10 s10, fI (.agg #[.bool n10, s10]) st, fB b1 nva sva, fI (.agg #[.bool nva, sva]) x, fB b2 nvb svb, fI (.agg #[.bool nvb, svb]) y, fB b3 false (.slice none 0 0), fB b4 false (.slice none 0 0), fB b5 false (.slice none 0 0), fW w]) ?_
       replace E := E.drew
       refine HP (i := 0) (o := ⟨some 82, _, _, _, _, _⟩) (v := .agg #[.bool n33, s33]) rfl (by kernel_rfl) (fun _ _ _ h => h) rfl (fun w hS => run_load_bx AgI rfl rfl (hS.2.2.2.2.2.2.2.2.2.1) rfl) (E) ?_
       simp only [Act.put,q1,q2,q3]
       refine HP (i := 1) (o := ⟨some 83, _, _, _, _, _⟩) (v := .agg #[.bool m36, t36]) rfl (by kernel_rfl) (fun _ _ _ h => h) rfl (fun w hS => run_load_bx AgI rfl rfl (hS.1) rfl) (E) ?_
       simp only [Act.put,q1,q2,q3]
       refine HP (i := 2) (o := ⟨some 84, _, _, _, _, _⟩) (v := .agg #[.bool nva, sva]) rfl (by kernel_rfl) (fun _ _ _ h => h) rfl (fun w hS => run_load_bx AgI rfl rfl (hS.2.2.2.2.2.2.2.2.2.2.2.2.2.2.2.2.2.2.2.2.1) rfl) (E) ?_
       simp only [Act.put,q1,q2,q3]
       refine HP (i := 5) (o := ⟨some 87, _, _, _, _, _⟩) (v := .agg #[.bool nvb, svb]) rfl (by kernel_rfl) (fun _ _ _ h => h) rfl (fun w hS => run_load_bx AgI rfl rfl (hS.2.2.2.2.2.2.2.2.2.2.2.2.2.2.2.2.2.2.2.2.2.2.1) rfl) (E) ?_
       simp only [Act.put,q1,q2,q3]
       refine H3 (i := 3) (j := 11) (k := 12) (by kernel_rfl) ?_ ?_ ?_
       ·
        refine HE (o := ⟨some 85, _, _, _, _, _⟩) rfl rfl (Oper.wp_callI fn_integer_Mul rfl (Mul_z _ _ (u1 % ((y.natAbs : Int) / (r.natAbs : Int))) x _ (E.2.1) (E.2.2.2.2.2.2.2.2.2.2.2.2.2.2.2.2.2.2.2.2.2.1) (Fits.mono Fu2 (by decide)) (Fits.mono Fx (by decide))) rfl E ?_)
        clear E
        intro wO3 nO3 sO3 dO3 E
        clear dO3
        refine ⟨E.2, ?_⟩
        simp only [Act.put,q1,q2,q3]
        refine H3 (i := 4) (j := 11) (k := 12) (by kernel_rfl) ?_ ?_ ?_
        ·
         refine HE (o := ⟨some 86, _, _, _, _, _⟩) rfl rfl (Oper.wp_callI fn_integer_Sub rfl (Sub_z _ _ (r.natAbs : Int) ((u1 % ((y.natAbs : Int) / (r.natAbs : Int))) * x) _ (E.2.2.2.2.2.2.2.2.2.2.2.1) (E.1) (Fits.mono Fg (by decide)) (Fits.mono Fm (by decide))) rfl E ?_)
         clear E
         intro wO4 nO4 sO4 dO4 E
         clear dO4
         refine ⟨E.2.2, ?_⟩
         simp only [Act.put,q1,q2,q3]
         refine H3 (i := 6) (j := 11) (k := 12) (by kernel_rfl) ?_ ?_ ?_
         ·
          refine HE (o := ⟨some 88, _, _, _, _, _⟩) rfl rfl (Oper.wp_callIIE fn_integer_DivMod rfl (DivMod_z _ _ ((r.natAbs : Int) - ((u1 % ((y.natAbs : Int) / (r.natAbs : Int))) * x)) y _ (E.1) (E.2.2.2.2.2.2.2.2.2.2.2.2.2.2.2.2.2.2.2.2.2.2.2.2.2.1) (hy) (Fits.mono Fd (by decide)) (Fits.mono Fy (by decide))) rfl E ?_)
          clear E
          intro wO6 nO6 sO6 mO6 tO6 dO6 E
          clear dO6
          refine ⟨E.2.2.2.2, ?_⟩
          simp only [Act.put,q1,q2,q3]
          refine HP (i := 7) (o := ⟨some 81, _, _, _, _, _⟩) (v := .tuple #[.agg #[.bool nO6, sO6], .agg #[.bool mO6, tO6], .int .i64 0]) rfl (by kernel_rfl) (fun _ _ _ h => h) rfl (fun w hS => run_move rfl rfl) (E.2.2.2.2) ?_
          simp only [Act.put,q1,q2,q3]
          refine HP (i := 8) (o := ⟨some 89, _, _, _, _, _⟩) (v := .agg #[.bool nO6, sO6]) rfl (by kernel_rfl) (fun _ _ _ h => h) rfl (fun w hS => run_extract (vs := [.agg #[.bool nO6, sO6], .agg #[.bool mO6, tO6], .int .i64 0]) rfl rfl rfl) (E.2.2.2.2) ?_
          simp only [Act.put,q1,q2,q3]
          refine HP (i := 9) (o := ⟨some 90, _, _, _, _, _⟩) (v := .agg #[.bool mO6, tO6]) rfl (by kernel_rfl) (fun _ _ _ h => h) rfl (fun w hS => run_extract (vs := [.agg #[.bool nO6, sO6], .agg #[.bool mO6, tO6], .int .i64 0]) rfl rfl rfl) (E.2.2.2.2) ?_
          simp only [Act.put,q1,q2,q3]
          refine HP (i := 10) (o := ⟨some 91, _, _, _, _, _⟩) (v := .int .i64 0) rfl (by kernel_rfl) (fun _ _ _ h => h) rfl (fun w hS => run_extract (vs := [.agg #[.bool nO6, sO6], .agg #[.bool mO6, tO6], .int .i64 0]) rfl rfl rfl) (E.2.2.2.2) ?_
          simp only [Act.put,q1,q2,q3]
          refine H2 (i := 11) (j := 12) (by kernel_rfl) ?_ ?_
          ·
           refine HE (o := ⟨some 18, _, _, _, _, _⟩) rfl rfl (Oper.wp_alloc AgI rfl ?_)
           intro bO11 wO11 eO11 zO11 dO11 xO11
           have lO11_0 : bM10 < bO11 := by rw [eO11]; exact Bx.lt (E.2.2.2.2.2.2.2.2.1)
           have lO11_1 : bM11 < bO11 := by rw [eO11]; exact Bx.lt (E.2.2.2.2.2.2.2.1)
           replace E := E.below dO11
           clear eO11 zO11 dO11
           refine ⟨E.2.2.2.2, ?_⟩
           simp only [Act.put,q1,q2,q3]
           refine H1 (i := 12) (by kernel_rfl) ?_
           refine HE (o := ⟨some 19, _, _, _, _, _⟩) rfl rfl (Oper.wp_alloc AgI rfl ?_)
           intro bO12 wO12 eO12 zO12 dO12 xO12
           have lO12_0 : bO11 < bO12 := by rw [eO12]; exact Bx.lt (xO11)
           replace E := E.below dO12
           replace xO11 := Bx.below xO11 dO12
           clear eO12 zO12 dO12
           refine ⟨E.2.2.2.2, ?_⟩
           simp only [Act.put,q1,q2,q3]
           refine H1 (i := 13) (by kernel_rfl) ?_
           refine HE (o := ⟨none, _, _, _, _, _⟩) rfl rfl (Oper.wp_store AgI rfl rfl rfl xO11 rfl rfl (IsI.one (E.2.1)) ?_)
           intro wO13 oO13 yO13
           replace E := (E.onl (xO11.noW now0) ⟨trivial, trivial, trivial, trivial, okB (by omega), trivial, trivial, okB (by omega), okB (by omega), trivial, trivial, trivial, trivial, okB (by omega), trivial, trivial, trivial, okB (by omega), trivial, okB (by omega), trivial, trivial, okB (by omega), trivial, okB (by omega), trivial, okB (by omega), trivial, okB (by omega), okB (by omega), okB (by omega), okW (by omega), trivial⟩ oO13).b yO13
           replace xO12 := Bx.onl xO12 (by omega) oO13
           clear xO11 oO13 yO13
           refine ⟨E.2.2.2.2.2, ?_⟩
           simp only [Act.put]
           refine H1 (i := 14) (by kernel_rfl) ?_
           refine HE (o := ⟨none, _, _, _, _, _⟩) rfl rfl (Oper.wp_store AgI rfl rfl rfl xO12 rfl rfl (IsI.one (E.2.1)) ?_)
           intro wO14 oO14 yO14
           replace E := (E.onl (xO12.noW now0) ⟨okB (by omega), trivial, trivial, trivial, trivial, okB (by omega), trivial, trivial, okB (by omega), okB (by omega), trivial, trivial, trivial, trivial, okB (by omega), trivial, trivial, trivial, okB (by omega), trivial, okB (by omega), trivial, trivial, okB (by omega), trivial, okB (by omega), trivial, okB (by omega), trivial, okB (by omega), okB (by omega), okB (by omega), okW (by omega), trivial⟩ oO14).b yO14
           clear xO12 oO14 yO14
           refine ⟨E.2.2.2.2.2.2, ?_⟩
           simp only [Act.put]
           refine HP (i := 15) (o := ⟨some 20, _, _, _, _, _⟩) (v := .int .i64 0) rfl (by kernel_rfl) (fun _ _ _ h => h) rfl (fun w hS => run_assign rfl rfl) (E.2.2.2.2.2.2) ?_
           simp only [Act.put,q1,q2,q3]
           refine HN (by kernel_rfl) ?_
           exact ⟨nO3, sO3, nO4, sO4, nO6, sO6, mO6, tO6, bO11, bO12, rfl, (Env.b (Env.b (Env.i (Env.i (Env.i (Env.i (Env.b (Env.i (Env.i (Env.b (Env.b (Env.i (Env.i (Env.i (Env.s (Env.b (Env.i (Env.s (Env.i (Env.b (Env.i (Env.b (Env.i (Env.i (Env.b (Env.i (Env.b (Env.i (Env.b (Env.i (Env.b (Env.b (Env.b (Env.ww (Env.nil _) (E.2.2.2.2.2.2.2.2.2.2.2.2.2.2.2.2.2.2.2.2.2.2.2.2.2.2.2.2.2.2.2.2.2.1)) (E.2.2.2.2.2.2.2.2.2.2.2.2.2.2.2.2.2.2.2.2.2.2.2.2.2.2.2.2.2.2.2.2.1)) (E.2.2.2.2.2.2.2.2.2.2.2.2.2.2.2.2.2.2.2.2.2.2.2.2.2.2.2.2.2.2.2.1)) (E.2.2.2.2.2.2.2.2.2.2.2.2.2.2.2.2.2.2.2.2.2.2.2.2.2.2.2.2.2.2.1)) (E.2.2.2.2.2.2.2.2.2.2.2.2.2.2.2.2.2.2.2.2.2.2.2.2.2.2.2.2.2.1)) (E.2.2.2.2.2.2.2.2.2.2.2.2.2.2.2.2.2.2.2.2.2.2.2.2.2.2.2.2.1)) (E.2.2.2.2.2.2.2.2.2.2.2.2.2.2.2.2.2.2.2.2.2.2.2.2.2.2.2.1)) (E.2.2.2.2.2.2.2.2.2.2.2.2.2.2.2.2.2.2.2.2.2.2.2.2.2.2.1)) (E.2.2.2.2.2.2.2.2.2.2.2.2.2.2.2.2.2.2.2.2.2.2.2.2.2.1)) (E.2.2.2.2.2.2.2.2.2.2.2.2.2.2.2.2.2.2.2.2.2.2.2.2.1)) (E.2.2.2.2.2.2.2.2.2.2.2.2.2.2.2.2.2.2.2.2.2.2.2.1)) (E.2.2.2.2.2.2.2.2.2.2.2.2.2.2.2.2.2.2.2.2.2.2.1)) (E.2.2.2.2.2.2.2.2.2.2.2.2.2.2.2.2.2.2.2.2.2.1)) (E.2.2.2.2.2.2.2.2.2.2.2.2.2.2.2.2.2.2.2.2.1)) (E.2.2.2.2.2.2.2.2.2.2.2.2.2.2.2.2.2.2.2.1)) (E.2.2.2.2.2.2.2.2.2.2.2.2.2.2.2.2.2.2.1)) (E.2.2.2.2.2.2.2.2.2.2.2.2.2.2.2.2.2.1)) (E.2.2.2.2.2.2.2.2.2.2.2.2.2.2.2.2.1)) (E.2.2.2.2.2.2.2.2.2.2.2.2.2.2.2.1)) (E.2.2.2.2.2.2.2.2.2.2.2.2.2.2.1)) (E.2.2.2.2.2.2.2.2.2.2.2.2.2.1)) (E.2.2.2.2.2.2.2.2.2.2.2.2.1)) (E.2.2.2.2.2.2.2.2.2.2.2.1)) (E.2.2.2.2.2.2.2.2.2.2.1)) (E.2.2.2.2.2.2.2.2.2.1)) (E.2.2.2.2.2.2.2.2.1)) (E.2.2.2.2.2.2.2.1)) (E.2.2.2.2.2.2.1)) (E.2.2.2.2.2.1)) (E.2.2.2.2.1)) (E.2.2.2.1)) (E.2.2.1)) (E.2.1)) (E.1)), by omega, by omega, by omega, by omega, by omega⟩
          ·
           refine HE (o := ⟨some 19, _, _, _, _, _⟩) rfl rfl (Oper.wp_alloc AgI rfl ?_)
           intro bO12 wO12 eO12 zO12 dO12 xO12
           have lO12_0 : bM10 < bO12 := by rw [eO12]; exact Bx.lt (E.2.2.2.2.2.2.2.2.1)
           have lO12_1 : bM11 < bO12 := by rw [eO12]; exact Bx.lt (E.2.2.2.2.2.2.2.1)
           replace E := E.below dO12
           clear eO12 zO12 dO12
           refine ⟨E.2.2.2.2, ?_⟩
           simp only [Act.put,q1,q2,q3]
           refine H1 (i := 11) (by kernel_rfl) ?_
           refine HE (o := ⟨some 18, _, _, _, _, _⟩) rfl rfl (Oper.wp_alloc AgI rfl ?_)
           intro bO11 wO11 eO11 zO11 dO11 xO11
           have lO11_0 : bO12 < bO11 := by rw [eO11]; exact Bx.lt (xO12)
           replace E := E.below dO11
           replace xO12 := Bx.below xO12 dO11
           clear eO11 zO11 dO11
           refine ⟨E.2.2.2.2, ?_⟩
           simp only [Act.put,q1,q2,q3]
           refine H1 (i := 13) (by kernel_rfl) ?_
           refine HE (o := ⟨none, _, _, _, _, _⟩) rfl rfl (Oper.wp_store AgI rfl rfl rfl xO11 rfl rfl (IsI.one (E.2.1)) ?_)
           intro wO13 oO13 yO13
           replace E := (E.onl (xO11.noW now0) ⟨trivial, trivial, trivial, trivial, okB (by omega), trivial, trivial, okB (by omega), okB (by omega), trivial, trivial, trivial, trivial, okB (by omega), trivial, trivial, trivial, okB (by omega), trivial, okB (by omega), trivial, trivial, okB (by omega), trivial, okB (by omega), trivial, okB (by omega), trivial, okB (by omega), okB (by omega), okB (by omega), okW (by omega), trivial⟩ oO13).b yO13
           replace xO12 := Bx.onl xO12 (by omega) oO13
           clear xO11 oO13 yO13
           refine ⟨E.2.2.2.2.2, ?_⟩
           simp only [Act.put]
           refine H1 (i := 14) (by kernel_rfl) ?_
           refine HE (o := ⟨none, _, _, _, _, _⟩) rfl rfl (Oper.wp_store AgI rfl rfl rfl xO12 rfl rfl (IsI.one (E.2.1)) ?_)
           intro wO14 oO14 yO14
           replace E := (E.onl (xO12.noW now0) ⟨okB (by omega), trivial, trivial, trivial, trivial, okB (by omega), trivial, trivial, okB (by omega), okB (by omega), trivial, trivial, trivial, trivial, okB (by omega), trivial, trivial, trivial, okB (by omega), trivial, okB (by omega), trivial, trivial, okB (by omega), trivial, okB (by omega), trivial, okB (by omega), trivial, okB (by omega), okB (by omega), okB (by omega), okW (by omega), trivial⟩ oO14).b yO14
           clear xO12 oO14 yO14
           refine ⟨E.2.2.2.2.2.2, ?_⟩
           simp only [Act.put]
           refine HP (i := 15) (o := ⟨some 20, _, _, _, _, _⟩) (v := .int .i64 0) rfl (by kernel_rfl) (fun _ _ _ h => h) rfl (fun w hS => run_assign rfl rfl) (E.2.2.2.2.2.2) ?_
           simp only [Act.put,q1,q2,q3]
           refine HN (by kernel_rfl) ?_
           exact ⟨nO3, sO3, nO4, sO4, nO6, sO6, mO6, tO6, bO11, bO12, rfl, (Env.b (Env.b (Env.i (Env.i (Env.i (Env.i (Env.b (Env.i (Env.i (Env.b (Env.b (Env.i (Env.i (Env.i (Env.s (Env.b (Env.i (Env.s (Env.i (Env.b (Env.i (Env.b (Env.i (Env.i (Env.b (Env.i (Env.b (Env.i (Env.b (Env.i (Env.b (Env.b (Env.b (Env.ww (Env.nil _) (E.2.2.2.2.2.2.2.2.2.2.2.2.2.2.2.2.2.2.2.2.2.2.2.2.2.2.2.2.2.2.2.2.2.1)) (E.2.2.2.2.2.2.2.2.2.2.2.2.2.2.2.2.2.2.2.2.2.2.2.2.2.2.2.2.2.2.2.2.1)) (E.2.2.2.2.2.2.2.2.2.2.2.2.2.2.2.2.2.2.2.2.2.2.2.2.2.2.2.2.2.2.2.1)) (E.2.2.2.2.2.2.2.2.2.2.2.2.2.2.2.2.2.2.2.2.2.2.2.2.2.2.2.2.2.2.1)) (E.2.2.2.2.2.2.2.2.2.2.2.2.2.2.2.2.2.2.2.2.2.2.2.2.2.2.2.2.2.1)) (E.2.2.2.2.2.2.2.2.2.2.2.2.2.2.2.2.2.2.2.2.2.2.2.2.2.2.2.2.1)) (E.2.2.2.2.2.2.2.2.2.2.2.2.2.2.2.2.2.2.2.2.2.2.2.2.2.2.2.1)) (E.2.2.2.2.2.2.2.2.2.2.2.2.2.2.2.2.2.2.2.2.2.2.2.2.2.2.1)) (E.2.2.2.2.2.2.2.2.2.2.2.2.2.2.2.2.2.2.2.2.2.2.2.2.2.1)) (E.2.2.2.2.2.2.2.2.2.2.2.2.2.2.2.2.2.2.2.2.2.2.2.2.1)) (E.2.2.2.2.2.2.2.2.2.2.2.2.2.2.2.2.2.2.2.2.2.2.2.1)) (E.2.2.2.2.2.2.2.2.2.2.2.2.2.2.2.2.2.2.2.2.2.2.1)) (E.2.2.2.2.2.2.2.2.2.2.2.2.2.2.2.2.2.2.2.2.2.1)) (E.2.2.2.2.2.2.2.2.2.2.2.2.2.2.2.2.2.2.2.2.1)) (E.2.2.2.2.2.2.2.2.2.2.2.2.2.2.2.2.2.2.2.1)) (E.2.2.2.2.2.2.2.2.2.2.2.2.2.2.2.2.2.2.1)) (E.2.2.2.2.2.2.2.2.2.2.2.2.2.2.2.2.2.1)) (E.2.2.2.2.2.2.2.2.2.2.2.2.2.2.2.2.1)) (E.2.2.2.2.2.2.2.2.2.2.2.2.2.2.2.1)) (E.2.2.2.2.2.2.2.2.2.2.2.2.2.2.1)) (E.2.2.2.2.2.2.2.2.2.2.2.2.2.1)) (E.2.2.2.2.2.2.2.2.2.2.2.2.1)) (E.2.2.2.2.2.2.2.2.2.2.2.1)) (E.2.2.2.2.2.2.2.2.2.2.1)) (E.2.2.2.2.2.2.2.2.2.1)) (E.2.2.2.2.2.2.2.2.1)) (E.2.2.2.2.2.2.2.1)) (E.2.2.2.2.2.2.1)) (E.2.2.2.2.2.1)) (E.2.2.2.2.1)) (E.2.2.2.1)) (E.2.2.1)) (E.2.1)) (E.1)), by omega, by omega, by omega, by omega, by omega⟩
         ·
          refine HE (o := ⟨some 18, _, _, _, _, _⟩) rfl rfl (Oper.wp_alloc AgI rfl ?_)
          intro bO11 wO11 eO11 zO11 dO11 xO11
          have lO11_0 : bM10 < bO11 := by rw [eO11]; exact Bx.lt (E.2.2.2.2.2.2.1)
          have lO11_1 : bM11 < bO11 := by rw [eO11]; exact Bx.lt (E.2.2.2.2.2.1)
          replace E := E.below dO11
          clear eO11 zO11 dO11
          refine ⟨E.2.2, ?_⟩
          simp only [Act.put,q1,q2,q3]
          refine H2 (i := 6) (j := 12) (by kernel_rfl) ?_ ?_
          ·
           refine HE (o := ⟨some 88, _, _, _, _, _⟩) rfl rfl (Oper.wp_callIIE fn_integer_DivMod rfl (DivMod_z _ _ ((r.natAbs : Int) - ((u1 % ((y.natAbs : Int) / (r.natAbs : Int))) * x)) y _ (E.1) (E.2.2.2.2.2.2.2.2.2.2.2.2.2.2.2.2.2.2.2.2.2.2.2.2.2.1) (hy) (Fits.mono Fd (by decide)) (Fits.mono Fy (by decide))) rfl E ?_)
           clear E
           intro wO6 nO6 sO6 mO6 tO6 dO6 E
           replace xO11 := xO11.below dO6
           clear dO6
           refine ⟨E.2.2.2.2, ?_⟩
           simp only [Act.put,q1,q2,q3]
           refine HP (i := 7) (o := ⟨some 81, _, _, _, _, _⟩) (v := .tuple #[.agg #[.bool nO6, sO6], .agg #[.bool mO6, tO6], .int .i64 0]) rfl (by kernel_rfl) (fun _ _ _ h => h) rfl (fun w hS => run_move rfl rfl) (E.2.2.2.2) ?_
           simp only [Act.put,q1,q2,q3]
           refine HP (i := 8) (o := ⟨some 89, _, _, _, _, _⟩) (v := .agg #[.bool nO6, sO6]) rfl (by kernel_rfl) (fun _ _ _ h => h) rfl (fun w hS => run_extract (vs := [.agg #[.bool nO6, sO6], .agg #[.bool mO6, tO6], .int .i64 0]) rfl rfl rfl) (E.2.2.2.2) ?_
           simp only [Act.put,q1,q2,q3]
           refine HP (i := 9) (o := ⟨some 90, _, _, _, _, _⟩) (v := .agg #[.bool mO6, tO6]) rfl (by kernel_rfl) (fun _ _ _ h => h) rfl (fun w hS => run_extract (vs := [.agg #[.bool nO6, sO6], .agg #[.bool mO6, tO6], .int .i64 0]) rfl rfl rfl) (E.2.2.2.2) ?_
           simp only [Act.put,q1,q2,q3]
           refine HP (i := 10) (o := ⟨some 91, _, _, _, _, _⟩) (v := .int .i64 0) rfl (by kernel_rfl) (fun _ _ _ h => h) rfl (fun w hS => run_extract (vs := [.agg #[.bool nO6, sO6], .agg #[.bool mO6, tO6], .int .i64 0]) rfl rfl rfl) (E.2.2.2.2) ?_
           simp only [Act.put,q1,q2,q3]
           refine H1 (i := 12) (by kernel_rfl) ?_
           refine HE (o := ⟨some 19, _, _, _, _, _⟩) rfl rfl (Oper.wp_alloc AgI rfl ?_)
           intro bO12 wO12 eO12 zO12 dO12 xO12
           have lO12_0 : bO11 < bO12 := by rw [eO12]; exact Bx.lt (xO11)
           replace E := E.below dO12
           replace xO11 := Bx.below xO11 dO12
           clear eO12 zO12 dO12
           refine ⟨E.2.2.2.2, ?_⟩
           simp only [Act.put,q1,q2,q3]
           refine H1 (i := 13) (by kernel_rfl) ?_
           refine HE (o := ⟨none, _, _, _, _, _⟩) rfl rfl (Oper.wp_store AgI rfl rfl rfl xO11 rfl rfl (IsI.one (E.2.1)) ?_)
           intro wO13 oO13 yO13
           replace E := (E.onl (xO11.noW now0) ⟨trivial, trivial, trivial, trivial, okB (by omega), trivial, trivial, okB (by omega), okB (by omega), trivial, trivial, trivial, trivial, okB (by omega), trivial, trivial, trivial, okB (by omega), trivial, okB (by omega), trivial, trivial, okB (by omega), trivial, okB (by omega), trivial, okB (by omega), trivial, okB (by omega), okB (by omega), okB (by omega), okW (by omega), trivial⟩ oO13).b yO13
           replace xO12 := Bx.onl xO12 (by omega) oO13
           clear xO11 oO13 yO13
           refine ⟨E.2.2.2.2.2, ?_⟩
           simp only [Act.put]
           refine H1 (i := 14) (by kernel_rfl) ?_
           refine HE (o := ⟨none, _, _, _, _, _⟩) rfl rfl (Oper.wp_store AgI rfl rfl rfl xO12 rfl rfl (IsI.one (E.2.1)) ?_)
           intro wO14 oO14 yO14
           replace E := (E.onl (xO12.noW now0) ⟨okB (by omega), trivial, trivial, trivial, trivial, okB (by omega), trivial, trivial, okB (by omega), okB (by omega), trivial, trivial, trivial, trivial, okB (by omega), trivial, trivial, trivial, okB (by omega), trivial, okB (by omega), trivial, trivial, okB (by omega), trivial, okB (by omega), trivial, okB (by omega), trivial, okB (by omega), okB (by omega), okB (by omega), okW (by omega), trivial⟩ oO14).b yO14
           clear xO12 oO14 yO14
           refine ⟨E.2.2.2.2.2.2, ?_⟩
           simp only [Act.put]
           refine HP (i := 15) (o := ⟨some 20, _, _, _, _, _⟩) (v := .int .i64 0) rfl (by kernel_rfl) (fun _ _ _ h => h) rfl (fun w hS => run_assign rfl rfl) (E.2.2.2.2.2.2) ?_
           simp only [Act.put,q1,q2,q3]
           refine HN (by kernel_rfl) ?_
           exact ⟨nO3, sO3, nO4, sO4, nO6, sO6, mO6, tO6, bO11, bO12, rfl, (Env.b (Env.b (Env.i (Env.i (Env.i (Env.i (Env.b (Env.i (Env.i (Env.b (Env.b (Env.i (Env.i (Env.i (Env.s (Env.b (Env.i (Env.s (Env.i (Env.b (Env.i (Env.b (Env.i (Env.i (Env.b (Env.i (Env.b (Env.i (Env.b (Env.i (Env.b (Env.b (Env.b (Env.ww (Env.nil _) (E.2.2.2.2.2.2.2.2.2.2.2.2.2.2.2.2.2.2.2.2.2.2.2.2.2.2.2.2.2.2.2.2.2.1)) (E.2.2.2.2.2.2.2.2.2.2.2.2.2.2.2.2.2.2.2.2.2.2.2.2.2.2.2.2.2.2.2.2.1)) (E.2.2.2.2.2.2.2.2.2.2.2.2.2.2.2.2.2.2.2.2.2.2.2.2.2.2.2.2.2.2.2.1)) (E.2.2.2.2.2.2.2.2.2.2.2.2.2.2.2.2.2.2.2.2.2.2.2.2.2.2.2.2.2.2.1)) (E.2.2.2.2.2.2.2.2.2.2.2.2.2.2.2.2.2.2.2.2.2.2.2.2.2.2.2.2.2.1)) (E.2.2.2.2.2.2.2.2.2.2.2.2.2.2.2.2.2.2.2.2.2.2.2.2.2.2.2.2.1)) (E.2.2.2.2.2.2.2.2.2.2.2.2.2.2.2.2.2.2.2.2.2.2.2.2.2.2.2.1)) (E.2.2.2.2.2.2.2.2.2.2.2.2.2.2.2.2.2.2.2.2.2.2.2.2.2.2.1)) (E.2.2.2.2.2.2.2.2.2.2.2.2.2.2.2.2.2.2.2.2.2.2.2.2.2.1)) (E.2.2.2.2.2.2.2.2.2.2.2.2.2.2.2.2.2.2.2.2.2.2.2.2.1)) (E.2.2.2.2.2.2.2.2.2.2.2.2.2.2.2.2.2.2.2.2.2.2.2.1)) (E.2.2.2.2.2.2.2.2.2.2.2.2.2.2.2.2.2.2.2.2.2.2.1)) (E.2.2.2.2.2.2.2.2.2.2.2.2.2.2.2.2.2.2.2.2.2.1)) (E.2.2.2.2.2.2.2.2.2.2.2.2.2.2.2.2.2.2.2.2.1)) (E.2.2.2.2.2.2.2.2.2.2.2.2.2.2.2.2.2.2.2.1)) (E.2.2.2.2.2.2.2.2.2.2.2.2.2.2.2.2.2.2.1)) (E.2.2.2.2.2.2.2.2.2.2.2.2.2.2.2.2.2.1)) (E.2.2.2.2.2.2.2.2.2.2.2.2.2.2.2.2.1)) (E.2.2.2.2.2.2.2.2.2.2.2.2.2.2.2.1)) (E.2.2.2.2.2.2.2.2.2.2.2.2.2.2.1)) (E.2.2.2.2.2.2.2.2.2.2.2.2.2.1)) (E.2.2.2.2.2.2.2.2.2.2.2.2.1)) (E.2.2.2.2.2.2.2.2.2.2.2.1)) (E.2.2.2.2.2.2.2.2.2.2.1)) (E.2.2.2.2.2.2.2.2.2.1)) (E.2.2.2.2.2.2.2.2.1)) (E.2.2.2.2.2.2.2.1)) (E.2.2.2.2.2.2.1)) (E.2.2.2.2.2.1)) (E.2.2.2.2.1)) (E.2.2.2.1)) (E.2.2.1)) (E.2.1)) (E.1)), by omega, by omega, by omega, by omega, by omega⟩
          ·
           refine HE (o := ⟨some 19, _, _, _, _, _⟩) rfl rfl (Oper.wp_alloc AgI rfl ?_)
           intro bO12 wO12 eO12 zO12 dO12 xO12
           have lO12_0 : bO11 < bO12 := by rw [eO12]; exact Bx.lt (xO11)
           replace E := E.below dO12
           replace xO11 := Bx.below xO11 dO12
           clear eO12 zO12 dO12
           refine ⟨E.2.2, ?_⟩
           simp only [Act.put,q1,q2,q3]
           refine H1 (i := 6) (by kernel_rfl) ?_
           refine HE (o := ⟨some 88, _, _, _, _, _⟩) rfl rfl (Oper.wp_callIIE fn_integer_DivMod rfl (DivMod_z _ _ ((r.natAbs : Int) - ((u1 % ((y.natAbs : Int) / (r.natAbs : Int))) * x)) y _ (E.1) (E.2.2.2.2.2.2.2.2.2.2.2.2.2.2.2.2.2.2.2.2.2.2.2.2.2.1) (hy) (Fits.mono Fd (by decide)) (Fits.mono Fy (by decide))) rfl E ?_)
           clear E
           intro wO6 nO6 sO6 mO6 tO6 dO6 E
           replace xO11 := xO11.below dO6
           replace xO12 := xO12.below dO6
           clear dO6
           refine ⟨E.2.2.2.2, ?_⟩
           simp only [Act.put,q1,q2,q3]
           refine HP (i := 7) (o := ⟨some 81, _, _, _, _, _⟩) (v := .tuple #[.agg #[.bool nO6, sO6], .agg #[.bool mO6, tO6], .int .i64 0]) rfl (by kernel_rfl) (fun _ _ _ h => h) rfl (fun w hS => run_move rfl rfl) (E.2.2.2.2) ?_
           simp only [Act.put,q1,q2,q3]
           refine HP (i := 8) (o := ⟨some 89, _, _, _, _, _⟩) (v := .agg #[.bool nO6, sO6]) rfl (by kernel_rfl) (fun _ _ _ h => h) rfl (fun w hS => run_extract (vs := [.agg #[.bool nO6, sO6], .agg #[.bool mO6, tO6], .int .i64 0]) rfl rfl rfl) (E.2.2.2.2) ?_
           simp only [Act.put,q1,q2,q3]
           refine HP (i := 9) (o := ⟨some 90, _, _, _, _, _⟩) (v := .agg #[.bool mO6, tO6]) rfl (by kernel_rfl) (fun _ _ _ h => h) rfl (fun w hS => run_extract (vs := [.agg #[.bool nO6, sO6], .agg #[.bool mO6, tO6], .int .i64 0]) rfl rfl rfl) (E.2.2.2.2) ?_
           simp only [Act.put,q1,q2,q3]
           refine HP (i := 10) (o := ⟨some 91, _, _, _, _, _⟩) (v := .int .i64 0) rfl (by kernel_rfl) (fun _ _ _ h => h) rfl (fun w hS => run_extract (vs := [.agg #[.bool nO6, sO6], .agg #[.bool mO6, tO6], .int .i64 0]) rfl rfl rfl) (E.2.2.2.2) ?_
           simp only [Act.put,q1,q2,q3]
           refine H1 (i := 13) (by kernel_rfl) ?_
           refine HE (o := ⟨none, _, _, _, _, _⟩) rfl rfl (Oper.wp_store AgI rfl rfl rfl xO11 rfl rfl (IsI.one (E.2.1)) ?_)
           intro wO13 oO13 yO13
           replace E := (E.onl (xO11.noW now0) ⟨trivial, trivial, trivial, trivial, okB (by omega), trivial, trivial, okB (by omega), okB (by omega), trivial, trivial, trivial, trivial, okB (by omega), trivial, trivial, trivial, okB (by omega), trivial, okB (by omega), trivial, trivial, okB (by omega), trivial, okB (by omega), trivial, okB (by omega), trivial, okB (by omega), okB (by omega), okB (by omega), okW (by omega), trivial⟩ oO13).b yO13
           replace xO12 := Bx.onl xO12 (by omega) oO13
           clear xO11 oO13 yO13
           refine ⟨E.2.2.2.2.2, ?_⟩
           simp only [Act.put]
           refine H1 (i := 14) (by kernel_rfl) ?_
           refine HE (o := ⟨none, _, _, _, _, _⟩) rfl rfl (Oper.wp_store AgI rfl rfl rfl xO12 rfl rfl (IsI.one (E.2.1)) ?_)
           intro wO14 oO14 yO14
           replace E := (E.onl (xO12.noW now0) ⟨okB (by omega), trivial, trivial, trivial, trivial, okB (by omega), trivial, trivial, okB (by omega), okB (by omega), trivial, trivial, trivial, trivial, okB (by omega), trivial, trivial, trivial, okB (by omega), trivial, okB (by omega), trivial, trivial, okB (by omega), trivial, okB (by omega), trivial, okB (by omega), trivial, okB (by omega), okB (by omega), okB (by omega), okW (by omega), trivial⟩ oO14).b yO14
           clear xO12 oO14 yO14
           refine ⟨E.2.2.2.2.2.2, ?_⟩
           simp only [Act.put]
           refine HP (i := 15) (o := ⟨some 20, _, _, _, _, _⟩) (v := .int .i64 0) rfl (by kernel_rfl) (fun _ _ _ h => h) rfl (fun w hS => run_assign rfl rfl) (E.2.2.2.2.2.2) ?_
           simp only [Act.put,q1,q2,q3]
           refine HN (by kernel_rfl) ?_
           exact ⟨nO3, sO3, nO4, sO4, nO6, sO6, mO6, tO6, bO11, bO12, rfl, (Env.b (Env.b (Env.i (Env.i (Env.i (Env.i (Env.b (Env.i (Env.i (Env.b (Env.b (Env.i (Env.i (Env.i (Env.s (Env.b (Env.i (Env.s (Env.i (Env.b (Env.i (Env.b (Env.i (Env.i (Env.b (Env.i (Env.b (Env.i (Env.b (Env.i (Env.b (Env.b (Env.b (Env.ww (Env.nil _) (E.2.2.2.2.2.2.2.2.2.2.2.2.2.2.2.2.2.2.2.2.2.2.2.2.2.2.2.2.2.2.2.2.2.1)) (E.2.2.2.2.2.2.2.2.2.2.2.2.2.2.2.2.2.2.2.2.2.2.2.2.2.2.2.2.2.2.2.2.1)) (E.2.2.2.2.2.2.2.2.2.2.2.2.2.2.2.2.2.2.2.2.2.2.2.2.2.2.2.2.2.2.2.1)) (E.2.2.2.2.2.2.2.2.2.2.2.2.2.2.2.2.2.2.2.2.2.2.2.2.2.2.2.2.2.2.1)) (E.2.2.2.2.2.2.2.2.2.2.2.2.2.2.2.2.2.2.2.2.2.2.2.2.2.2.2.2.2.1)) (E.2.2.2.2.2.2.2.2.2.2.2.2.2.2.2.2.2.2.2.2.2.2.2.2.2.2.2.2.1)) (E.2.2.2.2.2.2.2.2.2.2.2.2.2.2.2.2.2.2.2.2.2.2.2.2.2.2.2.1)) (E.2.2.2.2.2.2.2.2.2.2.2.2.2.2.2.2.2.2.2.2.2.2.2.2.2.2.1)) (E.2.2.2.2.2.2.2.2.2.2.2.2.2.2.2.2.2.2.2.2.2.2.2.2.2.1)) (E.2.2.2.2.2.2.2.2.2.2.2.2.2.2.2.2.2.2.2.2.2.2.2.2.1)) (E.2.2.2.2.2.2.2.2.2.2.2.2.2.2.2.2.2.2.2.2.2.2.2.1)) (E.2.2.2.2.2.2.2.2.2.2.2.2.2.2.2.2.2.2.2.2.2.2.1)) (E.2.2.2.2.2.2.2.2.2.2.2.2.2.2.2.2.2.2.2.2.2.1)) (E.2.2.2.2.2.2.2.2.2.2.2.2.2.2.2.2.2.2.2.2.1)) (E.2.2.2.2.2.2.2.2.2.2.2.2.2.2.2.2.2.2.2.1)) (E.2.2.2.2.2.2.2.2.2.2.2.2.2.2.2.2.2.2.1)) (E.2.2.2.2.2.2.2.2.2.2.2.2.2.2.2.2.2.1)) (E.2.2.2.2.2.2.2.2.2.2.2.2.2.2.2.2.1)) (E.2.2.2.2.2.2.2.2.2.2.2.2.2.2.2.1)) (E.2.2.2.2.2.2.2.2.2.2.2.2.2.2.1)) (E.2.2.2.2.2.2.2.2.2.2.2.2.2.1)) (E.2.2.2.2.2.2.2.2.2.2.2.2.1)) (E.2.2.2.2.2.2.2.2.2.2.2.1)) (E.2.2.2.2.2.2.2.2.2.2.1)) (E.2.2.2.2.2.2.2.2.2.1)) (E.2.2.2.2.2.2.2.2.1)) (E.2.2.2.2.2.2.2.1)) (E.2.2.2.2.2.2.1)) (E.2.2.2.2.2.1)) (E.2.2.2.2.1)) (E.2.2.2.1)) (E.2.2.1)) (E.2.1)) (E.1)), by omega, by omega, by omega, by omega, by omega⟩
         ·
          refine HE (o := ⟨some 19, _, _, _, _, _⟩) rfl rfl (Oper.wp_alloc AgI rfl ?_)
          intro bO12 wO12 eO12 zO12 dO12 xO12
          have lO12_0 : bM10 < bO12 := by rw [eO12]; exact Bx.lt (E.2.2.2.2.2.2.1)
          have lO12_1 : bM11 < bO12 := by rw [eO12]; exact Bx.lt (E.2.2.2.2.2.1)
          replace E := E.below dO12
          clear eO12 zO12 dO12
          refine ⟨E.2.2, ?_⟩
          simp only [Act.put,q1,q2,q3]
          refine H2 (i := 6) (j := 11) (by kernel_rfl) ?_ ?_
          ·
           refine HE (o := ⟨some 88, _, _, _, _, _⟩) rfl rfl (Oper.wp_callIIE fn_integer_DivMod rfl (DivMod_z _ _ ((r.natAbs : Int) - ((u1 % ((y.natAbs : Int) / (r.natAbs : Int))) * x)) y _ (E.1) (E.2.2.2.2.2.2.2.2.2.2.2.2.2.2.2.2.2.2.2.2.2.2.2.2.2.1) (hy) (Fits.mono Fd (by decide)) (Fits.mono Fy (by decide))) rfl E ?_)
           clear E
           intro wO6 nO6 sO6 mO6 tO6 dO6 E
           replace xO12 := xO12.below dO6
           clear dO6
           refine ⟨E.2.2.2.2, ?_⟩
           simp only [Act.put,q1,q2,q3]
           refine HP (i := 7) (o := ⟨some 81, _, _, _, _, _⟩) (v := .tuple #[.agg #[.bool nO6, sO6], .agg #[.bool mO6, tO6], .int .i64 0]) rfl (by kernel_rfl) (fun _ _ _ h => h) rfl (fun w hS => run_move rfl rfl) (E.2.2.2.2) ?_
           simp only [Act.put,q1,q2,q3]
           refine HP (i := 8) (o := ⟨some 89, _, _, _, _, _⟩) (v := .agg #[.bool nO6, sO6]) rfl (by kernel_rfl) (fun _ _ _ h => h) rfl (fun w hS => run_extract (vs := [.agg #[.bool nO6, sO6], .agg #[.bool mO6, tO6], .int .i64 0]) rfl rfl rfl) (E.2.2.2.2) ?_
           simp only [Act.put,q1,q2,q3]
           refine HP (i := 9) (o := ⟨some 90, _, _, _, _, _⟩) (v := .agg #[.bool mO6, tO6]) rfl (by kernel_rfl) (fun _ _ _ h => h) rfl (fun w hS => run_extract (vs := [.agg #[.bool nO6, sO6], .agg #[.bool mO6, tO6], .int .i64 0]) rfl rfl rfl) (E.2.2.2.2) ?_
           simp only [Act.put,q1,q2,q3]
           refine HP (i := 10) (o := ⟨some 91, _, _, _, _, _⟩) (v := .int .i64 0) rfl (by kernel_rfl) (fun _ _ _ h => h) rfl (fun w hS => run_extract (vs := [.agg #[.bool nO6, sO6], .agg #[.bool mO6, tO6], .int .i64 0]) rfl rfl rfl) (E.2.2.2.2) ?_
           simp only [Act.put,q1,q2,q3]
           refine H1 (i := 11) (by kernel_rfl) ?_
           refine HE (o := ⟨some 18, _, _, _, _, _⟩) rfl rfl (Oper.wp_alloc AgI rfl ?_)
           intro bO11 wO11 eO11 zO11 dO11 xO11
           have lO11_0 : bO12 < bO11 := by rw [eO11]; exact Bx.lt (xO12)
           replace E := E.below dO11
           replace xO12 := Bx.below xO12 dO11
           clear eO11 zO11 dO11
           refine ⟨E.2.2.2.2, ?_⟩
           simp only [Act.put,q1,q2,q3]
           refine H1 (i := 13) (by kernel_rfl) ?_
           refine HE (o := ⟨none, _, _, _, _, _⟩) rfl rfl (Oper.wp_store AgI rfl rfl rfl xO11 rfl rfl (IsI.one (E.2.1)) ?_)
           intro wO13 oO13 yO13
           replace E := (E.onl (xO11.noW now0) ⟨trivial, trivial, trivial, trivial, okB (by omega), trivial, trivial, okB (by omega), okB (by omega), trivial, trivial, trivial, trivial, okB (by omega), trivial, trivial, trivial, okB (by omega), trivial, okB (by omega), trivial, trivial, okB (by omega), trivial, okB (by omega), trivial, okB (by omega), trivial, okB (by omega), okB (by omega), okB (by omega), okW (by omega), trivial⟩ oO13).b yO13
           replace xO12 := Bx.onl xO12 (by omega) oO13
           clear xO11 oO13 yO13
           refine ⟨E.2.2.2.2.2, ?_⟩
           simp only [Act.put]
           refine H1 (i := 14) (by kernel_rfl) ?_
           refine HE (o := ⟨none, _, _, _, _, _⟩) rfl rfl (Oper.wp_store AgI rfl rfl rfl xO12 rfl rfl (IsI.one (E.2.1)) ?_)
           intro wO14 oO14 yO14
           replace E := (E.onl (xO12.noW now0) ⟨okB (by omega), trivial, trivial, trivial, trivial, okB (by omega), trivial, trivial, okB (by omega), okB (by omega), trivial, trivial, trivial, trivial, okB (by omega), trivial, trivial, trivial, okB (by omega), trivial, okB (by omega), trivial, trivial, okB (by omega), trivial, okB (by omega), trivial, okB (by omega), trivial, okB (by omega), okB (by omega), okB (by omega), okW (by omega), trivial⟩ oO14).b yO14
           clear xO12 oO14 yO14
           refine ⟨E.2.2.2.2.2.2, ?_⟩
           simp only [Act.put]
           refine HP (i := 15) (o := ⟨some 20, _, _, _, _, _⟩) (v := .int .i64 0) rfl (by kernel_rfl) (fun _ _ _ h => h) rfl (fun w hS => run_assign rfl rfl) (E.2.2.2.2.2.2) ?_
           simp only [Act.put,q1,q2,q3]
           refine HN (by kernel_rfl) ?_
           exact ⟨nO3, sO3, nO4, sO4, nO6, sO6, mO6, tO6, bO11, bO12, rfl, (Env.b (Env.b (Env.i (Env.i (Env.i (Env.i (Env.b (Env.i (Env.i (Env.b (Env.b (Env.i (Env.i (Env.i (Env.s (Env.b (Env.i (Env.s (Env.i (Env.b (Env.i (Env.b (Env.i (Env.i (Env.b (Env.i (Env.b (Env.i (Env.b (Env.i (Env.b (Env.b (Env.b (Env.ww (Env.nil _) (E.2.2.2.2.2.2.2.2.2.2.2.2.2.2.2.2.2.2.2.2.2.2.2.2.2.2.2.2.2.2.2.2.2.1)) (E.2.2.2.2.2.2.2.2.2.2.2.2.2.2.2.2.2.2.2.2.2.2.2.2.2.2.2.2.2.2.2.2.1)) (E.2.2.2.2.2.2.2.2.2.2.2.2.2.2.2.2.2.2.2.2.2.2.2.2.2.2.2.2.2.2.2.1)) (E.2.2.2.2.2.2.2.2.2.2.2.2.2.2.2.2.2.2.2.2.2.2.2.2.2.2.2.2.2.2.1)) (E.2.2.2.2.2.2.2.2.2.2.2.2.2.2.2.2.2.2.2.2.2.2.2.2.2.2.2.2.2.1)) (E.2.2.2.2.2.2.2.2.2.2.2.2.2.2.2.2.2.2.2.2.2.2.2.2.2.2.2.2.1)) (E.2.2.2.2.2.2.2.2.2.2.2.2.2.2.2.2.2.2.2.2.2.2.2.2.2.2.2.1)) (E.2.2.2.2.2.2.2.2.2.2.2.2.2.2.2.2.2.2.2.2.2.2.2.2.2.2.1)) (E.2.2.2.2.2.2.2.2.2.2.2.2.2.2.2.2.2.2.2.2.2.2.2.2.2.1)) (E.2.2.2.2.2.2.2.2.2.2.2.2.2.2.2.2.2.2.2.2.2.2.2.2.1)) (E.2.2.2.2.2.2.2.2.2.2.2.2.2.2.2.2.2.2.2.2.2.2.2.1)) (E.2.2.2.2.2.2.2.2.2.2.2.2.2.2.2.2.2.2.2.2.2.2.1)) (E.2.2.2.2.2.2.2.2.2.2.2.2.2.2.2.2.2.2.2.2.2.1)) (E.2.2.2.2.2.2.2.2.2.2.2.2.2.2.2.2.2.2.2.2.1)) (E.2.2.2.2.2.2.2.2.2.2.2.2.2.2.2.2.2.2.2.1)) (E.2.2.2.2.2.2.2.2.2.2.2.2.2.2.2.2.2.2.1)) (E.2.2.2.2.2.2.2.2.2.2.2.2.2.2.2.2.2.1)) (E.2.2.2.2.2.2.2.2.2.2.2.2.2.2.2.2.1)) (E.2.2.2.2.2.2.2.2.2.2.2.2.2.2.2.1)) (E.2.2.2.2.2.2.2.2.2.2.2.2.2.2.1)) (E.2.2.2.2.2.2.2.2.2.2.2.2.2.1)) (E.2.2.2.2.2.2.2.2.2.2.2.2.1)) (E.2.2.2.2.2.2.2.2.2.2.2.1)) (E.2.2.2.2.2.2.2.2.2.2.1)) (E.2.2.2.2.2.2.2.2.2.1)) (E.2.2.2.2.2.2.2.2.1)) (E.2.2.2.2.2.2.2.1)) (E.2.2.2.2.2.2.1)) (E.2.2.2.2.2.1)) (E.2.2.2.2.1)) (E.2.2.2.1)) (E.2.2.1)) (E.2.1)) (E.1)), by omega, by omega, by omega, by omega, by omega⟩
          ·
           refine HE (o := ⟨some 18, _, _, _, _, _⟩) rfl rfl (Oper.wp_alloc AgI rfl ?_)
           intro bO11 wO11 eO11 zO11 dO11 xO11
           have lO11_0 : bO12 < bO11 := by rw [eO11]; exact Bx.lt (xO12)
           replace E := E.below dO11
           replace xO12 := Bx.below xO12 dO11
           clear eO11 zO11 dO11
           refine ⟨E.2.2, ?_⟩
           simp only [Act.put,q1,q2,q3]
           refine H1 (i := 6) (by kernel_rfl) ?_
           refine HE (o := ⟨some 88, _, _, _, _, _⟩) rfl rfl (Oper.wp_callIIE fn_integer_DivMod rfl (DivMod_z _ _ ((r.natAbs : Int) - ((u1 % ((y.natAbs : Int) / (r.natAbs : Int))) * x)) y _ (E.1) (E.2.2.2.2.2.2.2.2.2.2.2.2.2.2.2.2.2.2.2.2.2.2.2.2.2.1) (hy) (Fits.mono Fd (by decide)) (Fits.mono Fy (by decide))) rfl E ?_)
           clear E
           intro wO6 nO6 sO6 mO6 tO6 dO6 E
           replace xO12 := xO12.below dO6
           replace xO11 := xO11.below dO6
           clear dO6
           refine ⟨E.2.2.2.2, ?_⟩
           simp only [Act.put,q1,q2,q3]
           refine HP (i := 7) (o := ⟨some 81, _, _, _, _, _⟩) (v := .tuple #[.agg #[.bool nO6, sO6], .agg #[.bool mO6, tO6], .int .i64 0]) rfl (by kernel_rfl) (fun _ _ _ h => h) rfl (fun w hS => run_move rfl rfl) (E.2.2.2.2) ?_
           simp only [Act.put,q1,q2,q3]
           refine HP (i := 8) (o := ⟨some 89, _, _, _, _, _⟩) (v := .agg #[.bool nO6, sO6]) rfl (by kernel_rfl) (fun _ _ _ h => h) rfl (fun w hS => run_extract (vs := [.agg #[.bool nO6, sO6], .agg #[.bool mO6, tO6], .int .i64 0]) rfl rfl rfl) (E.2.2.2.2) ?_
           simp only [Act.put,q1,q2,q3]
           refine HP (i := 9) (o := ⟨some 90, _, _, _, _, _⟩) (v := .agg #[.bool mO6, tO6]) rfl (by kernel_rfl) (fun _ _ _ h => h) rfl (fun w hS => run_extract (vs := [.agg #[.bool nO6, sO6], .agg #[.bool mO6, tO6], .int .i64 0]) rfl rfl rfl) (E.2.2.2.2) ?_
           simp only [Act.put,q1,q2,q3]
           refine HP (i := 10) (o := ⟨some 91, _, _, _, _, _⟩) (v := .int .i64 0) rfl (by kernel_rfl) (fun _ _ _ h => h) rfl (fun w hS => run_extract (vs := [.agg #[.bool nO6, sO6], .agg #[.bool mO6, tO6], .int .i64 0]) rfl rfl rfl) (E.2.2.2.2) ?_
           simp only [Act.put,q1,q2,q3]
           refine H1 (i := 13) (by kernel_rfl) ?_
           refine HE (o := ⟨none, _, _, _, _, _⟩) rfl rfl (Oper.wp_store AgI rfl rfl rfl xO11 rfl rfl (IsI.one (E.2.1)) ?_)
           intro wO13 oO13 yO13
           replace E := (E.onl (xO11.noW now0) ⟨trivial, trivial, trivial, trivial, okB (by omega), trivial, trivial, okB (by omega), okB (by omega), trivial, trivial, trivial, trivial, okB (by omega), trivial, trivial, trivial, okB (by omega), trivial, okB (by omega), trivial, trivial, okB (by omega), trivial, okB (by omega), trivial, okB (by omega), trivial, okB (by omega), okB (by omega), okB (by omega), okW (by omega), trivial⟩ oO13).b yO13
           replace xO12 := Bx.onl xO12 (by omega) oO13
           clear xO11 oO13 yO13
           refine ⟨E.2.2.2.2.2, ?_⟩
           simp only [Act.put]
           refine H1 (i := 14) (by kernel_rfl) ?_
           refine HE (o := ⟨none, _, _, _, _, _⟩) rfl rfl (Oper.wp_store AgI rfl rfl rfl xO12 rfl rfl (IsI.one (E.2.1)) ?_)
           intro wO14 oO14 yO14
           replace E := (E.onl (xO12.noW now0) ⟨okB (by omega), trivial, trivial, trivial, trivial, okB (by omega), trivial, trivial, okB (by omega), okB (by omega), trivial, trivial, trivial, trivial, okB (by omega), trivial, trivial, trivial, okB (by omega), trivial, okB (by omega), trivial, trivial, okB (by omega), trivial, okB (by omega), trivial, okB (by omega), trivial, okB (by omega), okB (by omega), okB (by omega), okW (by omega), trivial⟩ oO14).b yO14
           clear xO12 oO14 yO14
           refine ⟨E.2.2.2.2.2.2, ?_⟩
           simp only [Act.put]
           refine HP (i := 15) (o := ⟨some 20, _, _, _, _, _⟩) (v := .int .i64 0) rfl (by kernel_rfl) (fun _ _ _ h => h) rfl (fun w hS => run_assign rfl rfl) (E.2.2.2.2.2.2) ?_
           simp only [Act.put,q1,q2,q3]
           refine HN (by kernel_rfl) ?_
           exact ⟨nO3, sO3, nO4, sO4, nO6, sO6, mO6, tO6, bO11, bO12, rfl, (Env.b (Env.b (Env.i (Env.i (Env.i (Env.i (Env.b (Env.i (Env.i (Env.b (Env.b (Env.i (Env.i (Env.i (Env.s (Env.b (Env.i (Env.s (Env.i (Env.b (Env.i (Env.b (Env.i (Env.i (Env.b (Env.i (Env.b (Env.i (Env.b (Env.i (Env.b (Env.b (Env.b (Env.ww (Env.nil _) (E.2.2.2.2.2.2.2.2.2.2.2.2.2.2.2.2.2.2.2.2.2.2.2.2.2.2.2.2.2.2.2.2.2.1)) (E.2.2.2.2.2.2.2.2.2.2.2.2.2.2.2.2.2.2.2.2.2.2.2.2.2.2.2.2.2.2.2.2.1)) (E.2.2.2.2.2.2.2.2.2.2.2.2.2.2.2.2.2.2.2.2.2.2.2.2.2.2.2.2.2.2.2.1)) (E.2.2.2.2.2.2.2.2.2.2.2.2.2.2.2.2.2.2.2.2.2.2.2.2.2.2.2.2.2.2.1)) (E.2.2.2.2.2.2.2.2.2.2.2.2.2.2.2.2.2.2.2.2.2.2.2.2.2.2.2.2.2.1)) (E.2.2.2.2.2.2.2.2.2.2.2.2.2.2.2.2.2.2.2.2.2.2.2.2.2.2.2.2.1)) (E.2.2.2.2.2.2.2.2.2.2.2.2.2.2.2.2.2.2.2.2.2.2.2.2.2.2.2.1)) (E.2.2.2.2.2.2.2.2.2.2.2.2.2.2.2.2.2.2.2.2.2.2.2.2.2.2.1)) (E.2.2.2.2.2.2.2.2.2.2.2.2.2.2.2.2.2.2.2.2.2.2.2.2.2.1)) (E.2.2.2.2.2.2.2.2.2.2.2.2.2.2.2.2.2.2.2.2.2.2.2.2.1)) (E.2.2.2.2.2.2.2.2.2.2.2.2.2.2.2.2.2.2.2.2.2.2.2.1)) (E.2.2.2.2.2.2.2.2.2.2.2.2.2.2.2.2.2.2.2.2.2.2.1)) (E.2.2.2.2.2.2.2.2.2.2.2.2.2.2.2.2.2.2.2.2.2.1)) (E.2.2.2.2.2.2.2.2.2.2.2.2.2.2.2.2.2.2.2.2.1)) (E.2.2.2.2.2.2.2.2.2.2.2.2.2.2.2.2.2.2.2.1)) (E.2.2.2.2.2.2.2.2.2.2.2.2.2.2.2.2.2.2.1)) (E.2.2.2.2.2.2.2.2.2.2.2.2.2.2.2.2.2.1)) (E.2.2.2.2.2.2.2.2.2.2.2.2.2.2.2.2.1)) (E.2.2.2.2.2.2.2.2.2.2.2.2.2.2.2.1)) (E.2.2.2.2.2.2.2.2.2.2.2.2.2.2.1)) (E.2.2.2.2.2.2.2.2.2.2.2.2.2.1)) (E.2.2.2.2.2.2.2.2.2.2.2.2.1)) (E.2.2.2.2.2.2.2.2.2.2.2.1)) (E.2.2.2.2.2.2.2.2.2.2.1)) (E.2.2.2.2.2.2.2.2.2.1)) (E.2.2.2.2.2.2.2.2.1)) (E.2.2.2.2.2.2.2.1)) (E.2.2.2.2.2.2.1)) (E.2.2.2.2.2.1)) (E.2.2.2.2.1)) (E.2.2.2.1)) (E.2.2.1)) (E.2.1)) (E.1)), by omega, by omega, by omega, by omega, by omega⟩
        ·
         refine HE (o := ⟨some 18, _, _, _, _, _⟩) rfl rfl (Oper.wp_alloc AgI rfl ?_)
         intro bO11 wO11 eO11 zO11 dO11 xO11
         have lO11_0 : bM10 < bO11 := by rw [eO11]; exact Bx.lt (E.2.2.2.2.2.1)
         have lO11_1 : bM11 < bO11 := by rw [eO11]; exact Bx.lt (E.2.2.2.2.1)
         replace E := E.below dO11
         clear eO11 zO11 dO11
         refine ⟨E.2, ?_⟩
         simp only [Act.put,q1,q2,q3]
         refine H2 (i := 4) (j := 12) (by kernel_rfl) ?_ ?_
         ·
          refine HE (o := ⟨some 86, _, _, _, _, _⟩) rfl rfl (Oper.wp_callI fn_integer_Sub rfl (Sub_z _ _ (r.natAbs : Int) ((u1 % ((y.natAbs : Int) / (r.natAbs : Int))) * x) _ (E.2.2.2.2.2.2.2.2.2.2.2.1) (E.1) (Fits.mono Fg (by decide)) (Fits.mono Fm (by decide))) rfl E ?_)
          clear E
          intro wO4 nO4 sO4 dO4 E
          replace xO11 := xO11.below dO4
          clear dO4
          refine ⟨E.2.2, ?_⟩
          simp only [Act.put,q1,q2,q3]
          refine H2 (i := 6) (j := 12) (by kernel_rfl) ?_ ?_
          ·
           refine HE (o := ⟨some 88, _, _, _, _, _⟩) rfl rfl (Oper.wp_callIIE fn_integer_DivMod rfl (DivMod_z _ _ ((r.natAbs : Int) - ((u1 % ((y.natAbs : Int) / (r.natAbs : Int))) * x)) y _ (E.1) (E.2.2.2.2.2.2.2.2.2.2.2.2.2.2.2.2.2.2.2.2.2.2.2.2.2.1) (hy) (Fits.mono Fd (by decide)) (Fits.mono Fy (by decide))) rfl E ?_)
           clear E
           intro wO6 nO6 sO6 mO6 tO6 dO6 E
           replace xO11 := xO11.below dO6
           clear dO6
           refine ⟨E.2.2.2.2, ?_⟩
           simp only [Act.put,q1,q2,q3]
           refine HP (i := 7) (o := ⟨some 81, _, _, _, _, _⟩) (v := .tuple #[.agg #[.bool nO6, sO6], .agg #[.bool mO6, tO6], .int .i64 0]) rfl (by kernel_rfl) (fun _ _ _ h => h) rfl (fun w hS => run_move rfl rfl) (E.2.2.2.2) ?_
           simp only [Act.put,q1,q2,q3]
           refine HP (i := 8) (o := ⟨some 89, _, _, _, _, _⟩) (v := .agg #[.bool nO6, sO6]) rfl (by kernel_rfl) (fun _ _ _ h => h) rfl (fun w hS => run_extract (vs := [.agg #[.bool nO6, sO6], .agg #[.bool mO6, tO6], .int .i64 0]) rfl rfl rfl) (E.2.2.2.2) ?_
           simp only [Act.put,q1,q2,q3]
           refine HP (i := 9) (o := ⟨some 90, _, _, _, _, _⟩) (v := .agg #[.bool mO6, tO6]) rfl (by kernel_rfl) (fun _ _ _ h => h) rfl (fun w hS => run_extract (vs := [.agg #[.bool nO6, sO6], .agg #[.bool mO6, tO6], .int .i64 0]) rfl rfl rfl) (E.2.2.2.2) ?_
           simp only [Act.put,q1,q2,q3]
           refine HP (i := 10) (o := ⟨some 91, _, _, _, _, _⟩) (v := .int .i64 0) rfl (by kernel_rfl) (fun _ _ _ h => h) rfl (fun w hS => run_extract (vs := [.agg #[.bool nO6, sO6], .agg #[.bool mO6, tO6], .int .i64 0]) rfl rfl rfl) (E.2.2.2.2) ?_
           simp only [Act.put,q1,q2,q3]
           refine H1 (i := 12) (by kernel_rfl) ?_
           refine HE (o := ⟨some 19, _, _, _, _, _⟩) rfl rfl (Oper.wp_alloc AgI rfl ?_)
           intro bO12 wO12 eO12 zO12 dO12 xO12
           have lO12_0 : bO11 < bO12 := by rw [eO12]; exact Bx.lt (xO11)
           replace E := E.below dO12
           replace xO11 := Bx.below xO11 dO12
           clear eO12 zO12 dO12
           refine ⟨E.2.2.2.2, ?_⟩
           simp only [Act.put,q1,q2,q3]
           refine H1 (i := 13) (by kernel_rfl) ?_
           refine HE (o := ⟨none, _, _, _, _, _⟩) rfl rfl (Oper.wp_store AgI rfl rfl rfl xO11 rfl rfl (IsI.one (E.2.1)) ?_)
           intro wO13 oO13 yO13
           replace E := (E.onl (xO11.noW now0) ⟨trivial, trivial, trivial, trivial, okB (by omega), trivial, trivial, okB (by omega), okB (by omega), trivial, trivial, trivial, trivial, okB (by omega), trivial, trivial, trivial, okB (by omega), trivial, okB (by omega), trivial, trivial, okB (by omega), trivial, okB (by omega), trivial, okB (by omega), trivial, okB (by omega), okB (by omega), okB (by omega), okW (by omega), trivial⟩ oO13).b yO13
           replace xO12 := Bx.onl xO12 (by omega) oO13
           clear xO11 oO13 yO13
           refine ⟨E.2.2.2.2.2, ?_⟩
           simp only [Act.put]
           refine H1 (i := 14) (by kernel_rfl) ?_
           refine HE (o := ⟨none, _, _, _, _, _⟩) rfl rfl (Oper.wp_store AgI rfl rfl rfl xO12 rfl rfl (IsI.one (E.2.1)) ?_)
           intro wO14 oO14 yO14
           replace E := (E.onl (xO12.noW now0) ⟨okB (by omega), trivial, trivial, trivial, trivial, okB (by omega), trivial, trivial, okB (by omega), okB (by omega), trivial, trivial, trivial, trivial, okB (by omega), trivial, trivial, trivial, okB (by omega), trivial, okB (by omega), trivial, trivial, okB (by omega), trivial, okB (by omega), trivial, okB (by omega), trivial, okB (by omega), okB (by omega), okB (by omega), okW (by omega), trivial⟩ oO14).b yO14
           clear xO12 oO14 yO14
           refine ⟨E.2.2.2.2.2.2, ?_⟩
           simp only [Act.put]
           refine HP (i := 15) (o := ⟨some 20, _, _, _, _, _⟩) (v := .int .i64 0) rfl (by kernel_rfl) (fun _ _ _ h => h) rfl (fun w hS => run_assign rfl rfl) (E.2.2.2.2.2.2) ?_
           simp only [Act.put,q1,q2,q3]
           refine HN (by kernel_rfl) ?_
           exact ⟨nO3, sO3, nO4, sO4, nO6, sO6, mO6, tO6, bO11, bO12, rfl, (Env.b (Env.b (Env.i (Env.i (Env.i (Env.i (Env.b (Env.i (Env.i (Env.b (Env.b (Env.i (Env.i (Env.i (Env.s (Env.b (Env.i (Env.s (Env.i (Env.b (Env.i (Env.b (Env.i (Env.i (Env.b (Env.i (Env.b (Env.i (Env.b (Env.i (Env.b (Env.b (Env.b (Env.ww (Env.nil _) (E.2.2.2.2.2.2.2.2.2.2.2.2.2.2.2.2.2.2.2.2.2.2.2.2.2.2.2.2.2.2.2.2.2.1)) (E.2.2.2.2.2.2.2.2.2.2.2.2.2.2.2.2.2.2.2.2.2.2.2.2.2.2.2.2.2.2.2.2.1)) (E.2.2.2.2.2.2.2.2.2.2.2.2.2.2.2.2.2.2.2.2.2.2.2.2.2.2.2.2.2.2.2.1)) (E.2.2.2.2.2.2.2.2.2.2.2.2.2.2.2.2.2.2.2.2.2.2.2.2.2.2.2.2.2.2.1)) (E.2.2.2.2.2.2.2.2.2.2.2.2.2.2.2.2.2.2.2.2.2.2.2.2.2.2.2.2.2.1)) (E.2.2.2.2.2.2.2.2.2.2.2.2.2.2.2.2.2.2.2.2.2.2.2.2.2.2.2.2.1)) (E.2.2.2.2.2.2.2.2.2.2.2.2.2.2.2.2.2.2.2.2.2.2.2.2.2.2.2.1)) (E.2.2.2.2.2.2.2.2.2.2.2.2.2.2.2.2.2.2.2.2.2.2.2.2.2.2.1)) (E.2.2.2.2.2.2.2.2.2.2.2.2.2.2.2.2.2.2.2.2.2.2.2.2.2.1)) (E.2.2.2.2.2.2.2.2.2.2.2.2.2.2.2.2.2.2.2.2.2.2.2.2.1)) (E.2.2.2.2.2.2.2.2.2.2.2.2.2.2.2.2.2.2.2.2.2.2.2.1)) (E.2.2.2.2.2.2.2.2.2.2.2.2.2.2.2.2.2.2.2.2.2.2.1)) (E.2.2.2.2.2.2.2.2.2.2.2.2.2.2.2.2.2.2.2.2.2.1)) (E.2.2.2.2.2.2.2.2.2.2.2.2.2.2.2.2.2.2.2.2.1)) (E.2.2.2.2.2.2.2.2.2.2.2.2.2.2.2.2.2.2.2.1)) (E.2.2.2.2.2.2.2.2.2.2.2.2.2.2.2.2.2.2.1)) (E.2.2.2.2.2.2.2.2.2.2.2.2.2.2.2.2.2.1)) (E.2.2.2.2.2.2.2.2.2.2.2.2.2.2.2.2.1)) (E.2.2.2.2.2.2.2.2.2.2.2.2.2.2.2.1)) (E.2.2.2.2.2.2.2.2.2.2.2.2.2.2.1)) (E.2.2.2.2.2.2.2.2.2.2.2.2.2.1)) (E.2.2.2.2.2.2.2.2.2.2.2.2.1)) (E.2.2.2.2.2.2.2.2.2.2.2.1)) (E.2.2.2.2.2.2.2.2.2.2.1)) (E.2.2.2.2.2.2.2.2.2.1)) (E.2.2.2.2.2.2.2.2.1)) (E.2.2.2.2.2.2.2.1)) (E.2.2.2.2.2.2.1)) (E.2.2.2.2.2.1)) (E.2.2.2.2.1)) (E.2.2.2.1)) (E.2.2.1)) (E.2.1)) (E.1)), by omega, by omega, by omega, by omega, by omega⟩
          ·
           refine HE (o := ⟨some 19, _, _, _, _, _⟩) rfl rfl (Oper.wp_alloc AgI rfl ?_)
           intro bO12 wO12 eO12 zO12 dO12 xO12
           have lO12_0 : bO11 < bO12 := by rw [eO12]; exact Bx.lt (xO11)
           replace E := E.below dO12
           replace xO11 := Bx.below xO11 dO12
           clear eO12 zO12 dO12
           refine ⟨E.2.2, ?_⟩
           simp only [Act.put,q1,q2,q3]
           refine H1 (i := 6) (by kernel_rfl) ?_
           refine HE (o := ⟨some 88, _, _, _, _, _⟩) rfl rfl (Oper.wp_callIIE fn_integer_DivMod rfl (DivMod_z _ _ ((r.natAbs : Int) - ((u1 % ((y.natAbs : Int) / (r.natAbs : Int))) * x)) y _ (E.1) (E.2.2.2.2.2.2.2.2.2.2.2.2.2.2.2.2.2.2.2.2.2.2.2.2.2.1) (hy) (Fits.mono Fd (by decide)) (Fits.mono Fy (by decide))) rfl E ?_)
           clear E
           intro wO6 nO6 sO6 mO6 tO6 dO6 E
           replace xO11 := xO11.below dO6
           replace xO12 := xO12.below dO6
           clear dO6
           refine ⟨E.2.2.2.2, ?_⟩
           simp only [Act.put,q1,q2,q3]
           refine HP (i := 7) (o := ⟨some 81, _, _, _, _, _⟩) (v := .tuple #[.agg #[.bool nO6, sO6], .agg #[.bool mO6, tO6], .int .i64 0]) rfl (by kernel_rfl) (fun _ _ _ h => h) rfl (fun w hS => run_move rfl rfl) (E.2.2.2.2) ?_
           simp only [Act.put,q1,q2,q3]
           refine HP (i := 8) (o := ⟨some 89, _, _, _, _, _⟩) (v := .agg #[.bool nO6, sO6]) rfl (by kernel_rfl) (fun _ _ _ h => h) rfl (fun w hS => run_extract (vs := [.agg #[.bool nO6, sO6], .agg #[.bool mO6, tO6], .int .i64 0]) rfl rfl rfl) (E.2.2.2.2) ?_
           simp only [Act.put,q1,q2,q3]
           refine HP (i := 9) (o := ⟨some 90, _, _, _, _, _⟩) (v := .agg #[.bool mO6, tO6]) rfl (by kernel_rfl) (fun _ _ _ h => h) rfl (fun w hS => run_extract (vs := [.agg #[.bool nO6, sO6], .agg #[.bool mO6, tO6], .int .i64 0]) rfl rfl rfl) (E.2.2.2.2) ?_
           simp only [Act.put,q1,q2,q3]
           refine HP (i := 10) (o := ⟨some 91, _, _, _, _, _⟩) (v := .int .i64 0) rfl (by kernel_rfl) (fun _ _ _ h => h) rfl (fun w hS => run_extract (vs := [.agg #[.bool nO6, sO6], .agg #[.bool mO6, tO6], .int .i64 0]) rfl rfl rfl) (E.2.2.2.2) ?_
           simp only [Act.put,q1,q2,q3]
           refine H1 (i := 13) (by kernel_rfl) ?_
           refine HE (o := ⟨none, _, _, _, _, _⟩) rfl rfl (Oper.wp_store AgI rfl rfl rfl xO11 rfl rfl (IsI.one (E.2.1)) ?_)
           intro wO13 oO13 yO13
           replace E := (E.onl (xO11.noW now0) ⟨trivial, trivial, trivial, trivial, okB (by omega), trivial, trivial, okB (by omega), okB (by omega), trivial, trivial, trivial, trivial, okB (by omega), trivial, trivial, trivial, okB (by omega), trivial, okB (by omega), trivial, trivial, okB (by omega), trivial, okB (by omega), trivial, okB (by omega), trivial, okB (by omega), okB (by omega), okB (by omega), okW (by omega), trivial⟩ oO13).b yO13
           replace xO12 := Bx.onl xO12 (by omega) oO13
           clear xO11 oO13 yO13
           refine ⟨E.2.2.2.2.2, ?_⟩
           simp only [Act.put]
           refine H1 (i := 14) (by kernel_rfl) ?_
           refine HE (o := ⟨none, _, _, _, _, _⟩) rfl rfl (Oper.wp_store AgI rfl rfl rfl xO12 rfl rfl (IsI.one (E.2.1)) ?_)
           intro wO14 oO14 yO14
           replace E := (E.onl (xO12.noW now0) ⟨okB (by omega), trivial, trivial, trivial, trivial, okB (by omega), trivial, trivial, okB (by omega), okB (by omega), trivial, trivial, trivial, trivial, okB (by omega), trivial, trivial, trivial, okB (by omega), trivial, okB (by omega), trivial, trivial, okB (by omega), trivial, okB (by omega), trivial, okB (by omega), trivial, okB (by omega), okB (by omega), okB (by omega), okW (by omega), trivial⟩ oO14).b yO14
           clear xO12 oO14 yO14
           refine ⟨E.2.2.2.2.2.2, ?_⟩
           simp only [Act.put]
           refine HP (i := 15) (o := ⟨some 20, _, _, _, _, _⟩) (v := .int .i64 0) rfl (by kernel_rfl) (fun _ _ _ h => h) rfl (fun w hS => run_assign rfl rfl) (E.2.2.2.2.2.2) ?_
           simp only [Act.put,q1,q2,q3]
           refine HN (by kernel_rfl) ?_
           exact ⟨nO3, sO3, nO4, sO4, nO6, sO6, mO6, tO6, bO11, bO12, rfl, (Env.b (Env.b (Env.i (Env.i (Env.i (Env.i (Env.b (Env.i (Env.i (Env.b (Env.b (Env.i (Env.i (Env.i (Env.s (Env.b (Env.i (Env.s (Env.i (Env.b (Env.i (Env.b (Env.i (Env.i (Env.b (Env.i (Env.b (Env.i (Env.b (Env.i (Env.b (Env.b (Env.b (Env.ww (Env.nil _) (E.2.2.2.2.2.2.2.2.2.2.2.2.2.2.2.2.2.2.2.2.2.2.2.2.2.2.2.2.2.2.2.2.2.1)) (E.2.2.2.2.2.2.2.2.2.2.2.2.2.2.2.2.2.2.2.2.2.2.2.2.2.2.2.2.2.2.2.2.1)) (E.2.2.2.2.2.2.2.2.2.2.2.2.2.2.2.2.2.2.2.2.2.2.2.2.2.2.2.2.2.2.2.1)) (E.2.2.2.2.2.2.2.2.2.2.2.2.2.2.2.2.2.2.2.2.2.2.2.2.2.2.2.2.2.2.1)) (E.2.2.2.2.2.2.2.2.2.2.2.2.2.2.2.2.2.2.2.2.2.2.2.2.2.2.2.2.2.1)) (E.2.2.2.2.2.2.2.2.2.2.2.2.2.2.2.2.2.2.2.2.2.2.2.2.2.2.2.2.1)) (E.2.2.2.2.2.2.2.2.2.2.2.2.2.2.2.2.2.2.2.2.2.2.2.2.2.2.2.1)) (E.2.2.2.2.2.2.2.2.2.2.2.2.2.2.2.2.2.2.2.2.2.2.2.2.2.2.1)) (E.2.2.2.2.2.2.2.2.2.2.2.2.2.2.2.2.2.2.2.2.2.2.2.2.2.1)) (E.2.2.2.2.2.2.2.2.2.2.2.2.2.2.2.2.2.2.2.2.2.2.2.2.1)) (E.2.2.2.2.2.2.2.2.2.2.2.2.2.2.2.2.2.2.2.2.2.2.2.1)) (E.2.2.2.2.2.2.2.2.2.2.2.2.2.2.2.2.2.2.2.2.2.2.1)) (E.2.2.2.2.2.2.2.2.2.2.2.2.2.2.2.2.2.2.2.2.2.1)) (E.2.2.2.2.2.2.2.2.2.2.2.2.2.2.2.2.2.2.2.2.1)) (E.2.2.2.2.2.2.2.2.2.2.2.2.2.2.2.2.2.2.2.1)) (E.2.2.2.2.2.2.2.2.2.2.2.2.2.2.2.2.2.2.1)) (E.2.2.2.2.2.2.2.2.2.2.2.2.2.2.2.2.2.1)) (E.2.2.2.2.2.2.2.2.2.2.2.2.2.2.2.2.1)) (E.2.2.2.2.2.2.2.2.2.2.2.2.2.2.2.1)) (E.2.2.2.2.2.2.2.2.2.2.2.2.2.2.1)) (E.2.2.2.2.2.2.2.2.2.2.2.2.2.1)) (E.2.2.2.2.2.2.2.2.2.2.2.2.1)) (E.2.2.2.2.2.2.2.2.2.2.2.1)) (E.2.2.2.2.2.2.2.2.2.2.1)) (E.2.2.2.2.2.2.2.2.2.1)) (E.2.2.2.2.2.2.2.2.1)) (E.2.2.2.2.2.2.2.1)) (E.2.2.2.2.2.2.1)) (E.2.2.2.2.2.1)) (E.2.2.2.2.1)) (E.2.2.2.1)) (E.2.2.1)) (E.2.1)) (E.1)), by omega, by omega, by omega, by omega, by omega⟩
         ·
          refine HE (o := ⟨some 19, _, _, _, _, _⟩) rfl rfl (Oper.wp_alloc AgI rfl ?_)
          intro bO12 wO12 eO12 zO12 dO12 xO12
          have lO12_0 : bO11 < bO12 := by rw [eO12]; exact Bx.lt (xO11)
          replace E := E.below dO12
          replace xO11 := Bx.below xO11 dO12
          clear eO12 zO12 dO12
          refine ⟨E.2, ?_⟩
          simp only [Act.put,q1,q2,q3]
          refine H1 (i := 4) (by kernel_rfl) ?_
          refine HE (o := ⟨some 86, _, _, _, _, _⟩) rfl rfl (Oper.wp_callI fn_integer_Sub rfl (Sub_z _ _ (r.natAbs : Int) ((u1 % ((y.natAbs : Int) / (r.natAbs : Int))) * x) _ (E.2.2.2.2.2.2.2.2.2.2.2.1) (E.1) (Fits.mono Fg (by decide)) (Fits.mono Fm (by decide))) rfl E ?_)
          clear E
          intro wO4 nO4 sO4 dO4 E
          replace xO11 := xO11.below dO4
          replace xO12 := xO12.below dO4
          clear dO4
          refine ⟨E.2.2, ?_⟩
          simp only [Act.put,q1,q2,q3]
          refine H1 (i := 6) (by kernel_rfl) ?_
          refine HE (o := ⟨some 88, _, _, _, _, _⟩) rfl rfl (Oper.wp_callIIE fn_integer_DivMod rfl (DivMod_z _ _ ((r.natAbs : Int) - ((u1 % ((y.natAbs : Int) / (r.natAbs : Int))) * x)) y _ (E.1) (E.2.2.2.2.2.2.2.2.2.2.2.2.2.2.2.2.2.2.2.2.2.2.2.2.2.1) (hy) (Fits.mono Fd (by decide)) (Fits.mono Fy (by decide))) rfl E ?_)
          clear E
          intro wO6 nO6 sO6 mO6 tO6 dO6 E
          replace xO11 := xO11.below dO6
          replace xO12 := xO12.below dO6
          clear dO6
          refine ⟨E.2.2.2.2, ?_⟩
          simp only [Act.put,q1,q2,q3]
          refine HP (i := 7) (o := ⟨some 81, _, _, _, _, _⟩) (v := .tuple #[.agg #[.bool nO6, sO6], .agg #[.bool mO6, tO6], .int .i64 0]) rfl (by kernel_rfl) (fun _ _ _ h => h) rfl (fun w hS => run_move rfl rfl) (E.2.2.2.2) ?_
          simp only [Act.put,q1,q2,q3]
          refine HP (i := 8) (o := ⟨some 89, _, _, _, _, _⟩) (v := .agg #[.bool nO6, sO6]) rfl (by kernel_rfl) (fun _ _ _ h => h) rfl (fun w hS => run_extract (vs := [.agg #[.bool nO6, sO6], .agg #[.bool mO6, tO6], .int .i64 0]) rfl rfl rfl) (E.2.2.2.2) ?_
          simp only [Act.put,q1,q2,q3]
          refine HP (i := 9) (o := ⟨some 90, _, _, _, _, _⟩) (v := .agg #[.bool mO6, tO6]) rfl (by kernel_rfl) (fun _ _ _ h => h) rfl (fun w hS => run_extract (vs := [.agg #[.bool nO6, sO6], .agg #[.bool mO6, tO6], .int .i64 0]) rfl rfl rfl) (E.2.2.2.2) ?_
          simp only [Act.put,q1,q2,q3]
          refine HP (i := 10) (o := ⟨some 91, _, _, _, _, _⟩) (v := .int .i64 0) rfl (by kernel_rfl) (fun _ _ _ h => h) rfl (fun w hS => run_extract (vs := [.agg #[.bool nO6, sO6], .agg #[.bool mO6, tO6], .int .i64 0]) rfl rfl rfl) (E.2.2.2.2) ?_
          simp only [Act.put,q1,q2,q3]
          refine H1 (i := 13) (by kernel_rfl) ?_
          refine HE (o := ⟨none, _, _, _, _, _⟩) rfl rfl (Oper.wp_store AgI rfl rfl rfl xO11 rfl rfl (IsI.one (E.2.1)) ?_)
          intro wO13 oO13 yO13
          replace E := (E.onl (xO11.noW now0) ⟨trivial, trivial, trivial, trivial, okB (by omega), trivial, trivial, okB (by omega), okB (by omega), trivial, trivial, trivial, trivial, okB (by omega), trivial, trivial, trivial, okB (by omega), trivial, okB (by omega), trivial, trivial, okB (by omega), trivial, okB (by omega), trivial, okB (by omega), trivial, okB (by omega), okB (by omega), okB (by omega), okW (by omega), trivial⟩ oO13).b yO13
          replace xO12 := Bx.onl xO12 (by omega) oO13
          clear xO11 oO13 yO13
          refine ⟨E.2.2.2.2.2, ?_⟩
          simp only [Act.put]
          refine H1 (i := 14) (by kernel_rfl) ?_
          refine HE (o := ⟨none, _, _, _, _, _⟩) rfl rfl (Oper.wp_store AgI rfl rfl rfl xO12 rfl rfl (IsI.one (E.2.1)) ?_)
          intro wO14 oO14 yO14
          replace E := (E.onl (xO12.noW now0) ⟨okB (by omega), trivial, trivial, trivial, trivial, okB (by omega), trivial, trivial, okB (by omega), okB (by omega), trivial, trivial, trivial, trivial, okB (by omega), trivial, trivial, trivial, okB (by omega), trivial, okB (by omega), trivial, trivial, okB (by omega), trivial, okB (by omega), trivial, okB (by omega), trivial, okB (by omega), okB (by omega), okB (by omega), okW (by omega), trivial⟩ oO14).b yO14
          clear xO12 oO14 yO14
          refine ⟨E.2.2.2.2.2.2, ?_⟩
          simp only [Act.put]
          refine HP (i := 15) (o := ⟨some 20, _, _, _, _, _⟩) (v := .int .i64 0) rfl (by kernel_rfl) (fun _ _ _ h => h) rfl (fun w hS => run_assign rfl rfl) (E.2.2.2.2.2.2) ?_
          simp only [Act.put,q1,q2,q3]
          refine HN (by kernel_rfl) ?_
          exact ⟨nO3, sO3, nO4, sO4, nO6, sO6, mO6, tO6, bO11, bO12, rfl, (Env.b (Env.b (Env.i (Env.i (Env.i (Env.i (Env.b (Env.i (Env.i (Env.b (Env.b (Env.i (Env.i (Env.i (Env.s (Env.b (Env.i (Env.s (Env.i (Env.b (Env.i (Env.b (Env.i (Env.i (Env.b (Env.i (Env.b (Env.i (Env.b (Env.i (Env.b (Env.b (Env.b (Env.ww (Env.nil _) (E.2.2.2.2.2.2.2.2.2.2.2.2.2.2.2.2.2.2.2.2.2.2.2.2.2.2.2.2.2.2.2.2.2.1)) (E.2.2.2.2.2.2.2.2.2.2.2.2.2.2.2.2.2.2.2.2.2.2.2.2.2.2.2.2.2.2.2.2.1)) (E.2.2.2.2.2.2.2.2.2.2.2.2.2.2.2.2.2.2.2.2.2.2.2.2.2.2.2.2.2.2.2.1)) (E.2.2.2.2.2.2.2.2.2.2.2.2.2.2.2.2.2.2.2.2.2.2.2.2.2.2.2.2.2.2.1)) (E.2.2.2.2.2.2.2.2.2.2.2.2.2.2.2.2.2.2.2.2.2.2.2.2.2.2.2.2.2.1)) (E.2.2.2.2.2.2.2.2.2.2.2.2.2.2.2.2.2.2.2.2.2.2.2.2.2.2.2.2.1)) (E.2.2.2.2.2.2.2.2.2.2.2.2.2.2.2.2.2.2.2.2.2.2.2.2.2.2.2.1)) (E.2.2.2.2.2.2.2.2.2.2.2.2.2.2.2.2.2.2.2.2.2.2.2.2.2.2.1)) (E.2.2.2.2.2.2.2.2.2.2.2.2.2.2.2.2.2.2.2.2.2.2.2.2.2.1)) (E.2.2.2.2.2.2.2.2.2.2.2.2.2.2.2.2.2.2.2.2.2.2.2.2.1)) (E.2.2.2.2.2.2.2.2.2.2.2.2.2.2.2.2.2.2.2.2.2.2.2.1)) (E.2.2.2.2.2.2.2.2.2.2.2.2.2.2.2.2.2.2.2.2.2.2.1)) (E.2.2.2.2.2.2.2.2.2.2.2.2.2.2.2.2.2.2.2.2.2.1)) (E.2.2.2.2.2.2.2.2.2.2.2.2.2.2.2.2.2.2.2.2.1)) (E.2.2.2.2.2.2.2.2.2.2.2.2.2.2.2.2.2.2.2.1)) (E.2.2.2.2.2.2.2.2.2.2.2.2.2.2.2.2.2.2.1)) (E.2.2.2.2.2.2.2.2.2.2.2.2.2.2.2.2.2.1)) (E.2.2.2.2.2.2.2.2.2.2.2.2.2.2.2.2.1)) (E.2.2.2.2.2.2.2.2.2.2.2.2.2.2.2.1)) (E.2.2.2.2.2.2.2.2.2.2.2.2.2.2.1)) (E.2.2.2.2.2.2.2.2.2.2.2.2.2.1)) (E.2.2.2.2.2.2.2.2.2.2.2.2.1)) (E.2.2.2.2.2.2.2.2.2.2.2.1)) (E.2.2.2.2.2.2.2.2.2.2.1)) (E.2.2.2.2.2.2.2.2.2.1)) (E.2.2.2.2.2.2.2.2.1)) (E.2.2.2.2.2.2.2.1)) (E.2.2.2.2.2.2.1)) (E.2.2.2.2.2.1)) (E.2.2.2.2.1)) (E.2.2.2.1)) (E.2.2.1)) (E.2.1)) (E.1)), by omega, by omega, by omega, by omega, by omega⟩
        ·
         refine HE (o := ⟨some 19, _, _, _, _, _⟩) rfl rfl (Oper.wp_alloc AgI rfl ?_)
         intro bO12 wO12 eO12 zO12 dO12 xO12
         have lO12_0 : bM10 < bO12 := by rw [eO12]; exact Bx.lt (E.2.2.2.2.2.1)
         have lO12_1 : bM11 < bO12 := by rw [eO12]; exact Bx.lt (E.2.2.2.2.1)
         replace E := E.below dO12
         clear eO12 zO12 dO12
         refine ⟨E.2, ?_⟩
         simp only [Act.put,q1,q2,q3]
         refine H2 (i := 4) (j := 11) (by kernel_rfl) ?_ ?_
         ·
          refine HE (o := ⟨some 86, _, _, _, _, _⟩) rfl rfl (Oper.wp_callI fn_integer_Sub rfl (Sub_z _ _ (r.natAbs : Int) ((u1 % ((y.natAbs : Int) / (r.natAbs : Int))) * x) _ (E.2.2.2.2.2.2.2.2.2.2.2.1) (E.1) (Fits.mono Fg (by decide)) (Fits.mono Fm (by decide))) rfl E ?_)
          clear E
          intro wO4 nO4 sO4 dO4 E
          replace xO12 := xO12.below dO4
          clear dO4
          refine ⟨E.2.2, ?_⟩
          simp only [Act.put,q1,q2,q3]
          refine H2 (i := 6) (j := 11) (by kernel_rfl) ?_ ?_
          ·
           refine HE (o := ⟨some 88, _, _, _, _, _⟩) rfl rfl (Oper.wp_callIIE fn_integer_DivMod rfl (DivMod_z _ _ ((r.natAbs : Int) - ((u1 % ((y.natAbs : Int) / (r.natAbs : Int))) * x)) y _ (E.1) (E.2.2.2.2.2.2.2.2.2.2.2.2.2.2.2.2.2.2.2.2.2.2.2.2.2.1) (hy) (Fits.mono Fd (by decide)) (Fits.mono Fy (by decide))) rfl E ?_)
           clear E
           intro wO6 nO6 sO6 mO6 tO6 dO6 E
           replace xO12 := xO12.below dO6
           clear dO6
           refine ⟨E.2.2.2.2, ?_⟩
           simp only [Act.put,q1,q2,q3]
           refine HP (i := 7) (o := ⟨some 81, _, _, _, _, _⟩) (v := .tuple #[.agg #[.bool nO6, sO6], .agg #[.bool mO6, tO6], .int .i64 0]) rfl (by kernel_rfl) (fun _ _ _ h => h) rfl (fun w hS => run_move rfl rfl) (E.2.2.2.2) ?_
           simp only [Act.put,q1,q2,q3]
           refine HP (i := 8) (o := ⟨some 89, _, _, _, _, _⟩) (v := .agg #[.bool nO6, sO6]) rfl (by kernel_rfl) (fun _ _ _ h => h) rfl (fun w hS => run_extract (vs := [.agg #[.bool nO6, sO6], .agg #[.bool mO6, tO6], .int .i64 0]) rfl rfl rfl) (E.2.2.2.2) ?_
           simp only [Act.put,q1,q2,q3]
           refine HP (i := 9) (o := ⟨some 90, _, _, _, _, _⟩) (v := .agg #[.bool mO6, tO6]) rfl (by kernel_rfl) (fun _ _ _ h => h) rfl (fun w hS => run_extract (vs := [.agg #[.bool nO6, sO6], .agg #[.bool mO6, tO6], .int .i64 0]) rfl rfl rfl) (E.2.2.2.2) ?_
           simp only [Act.put,q1,q2,q3]
           refine HP (i := 10) (o := ⟨some 91, _, _, _, _, _⟩) (v := .int .i64 0) rfl (by kernel_rfl) (fun _ _ _ h => h) rfl (fun w hS => run_extract (vs := [.agg #[.bool nO6, sO6], .agg #[.bool mO6, tO6], .int .i64 0]) rfl rfl rfl) (E.2.2.2.2) ?_
           simp only [Act.put,q1,q2,q3]
           refine H1 (i := 11) (by kernel_rfl) ?_
           refine HE (o := ⟨some 18, _, _, _, _, _⟩) rfl rfl (Oper.wp_alloc AgI rfl ?_)
           intro bO11 wO11 eO11 zO11 dO11 xO11
           have lO11_0 : bO12 < bO11 := by rw [eO11]; exact Bx.lt (xO12)
           replace E := E.below dO11
           replace xO12 := Bx.below xO12 dO11
           clear eO11 zO11 dO11
           refine ⟨E.2.2.2.2, ?_⟩
           simp only [Act.put,q1,q2,q3]
           refine H1 (i := 13) (by kernel_rfl) ?_
           refine HE (o := ⟨none, _, _, _, _, _⟩) rfl rfl (Oper.wp_store AgI rfl rfl rfl xO11 rfl rfl (IsI.one (E.2.1)) ?_)
           intro wO13 oO13 yO13
           replace E := (E.onl (xO11.noW now0) ⟨trivial, trivial, trivial, trivial, okB (by omega), trivial, trivial, okB (by omega), okB (by omega), trivial, trivial, trivial, trivial, okB (by omega), trivial, trivial, trivial, okB (by omega), trivial, okB (by omega), trivial, trivial, okB (by omega), trivial, okB (by omega), trivial, okB (by omega), trivial, okB (by omega), okB (by omega), okB (by omega), okW (by omega), trivial⟩ oO13).b yO13
           replace xO12 := Bx.onl xO12 (by omega) oO13
           clear xO11 oO13 yO13
           refine ⟨E.2.2.2.2.2, ?_⟩
           simp only [Act.put]
           refine H1 (i := 14) (by kernel_rfl) ?_
           refine HE (o := ⟨none, _, _, _, _, _⟩) rfl rfl (Oper.wp_store AgI rfl rfl rfl xO12 rfl rfl (IsI.one (E.2.1)) ?_)
           intro wO14 oO14 yO14
           replace E := (E.onl (xO12.noW now0) ⟨okB (by omega), trivial, trivial, trivial, trivial, okB (by omega), trivial, trivial, okB (by omega), okB (by omega), trivial, trivial, trivial, trivial, okB (by omega), trivial, trivial, trivial, okB (by omega), trivial, okB (by omega), trivial, trivial, okB (by omega), trivial, okB (by omega), trivial, okB (by omega), trivial, okB (by omega), okB (by omega), okB (by omega), okW (by omega), trivial⟩ oO14).b yO14
           clear xO12 oO14 yO14
           refine ⟨E.2.2.2.2.2.2, ?_⟩
           simp only [Act.put]
           refine HP (i := 15) (o := ⟨some 20, _, _, _, _, _⟩) (v := .int .i64 0) rfl (by kernel_rfl) (fun _ _ _ h => h) rfl (fun w hS => run_assign rfl rfl) (E.2.2.2.2.2.2) ?_
           simp only [Act.put,q1,q2,q3]
           refine HN (by kernel_rfl) ?_
           exact ⟨nO3, sO3, nO4, sO4, nO6, sO6, mO6, tO6, bO11, bO12, rfl, (Env.b (Env.b (Env.i (Env.i (Env.i (Env.i (Env.b (Env.i (Env.i (Env.b (Env.b (Env.i (Env.i (Env.i (Env.s (Env.b (Env.i (Env.s (Env.i (Env.b (Env.i (Env.b (Env.i (Env.i (Env.b (Env.i (Env.b (Env.i (Env.b (Env.i (Env.b (Env.b (Env.b (Env.ww (Env.nil _) (E.2.2.2.2.2.2.2.2.2.2.2.2.2.2.2.2.2.2.2.2.2.2.2.2.2.2.2.2.2.2.2.2.2.1)) (E.2.2.2.2.2.2.2.2.2.2.2.2.2.2.2.2.2.2.2.2.2.2.2.2.2.2.2.2.2.2.2.2.1)) (E.2.2.2.2.2.2.2.2.2.2.2.2.2.2.2.2.2.2.2.2.2.2.2.2.2.2.2.2.2.2.2.1)) (E.2.2.2.2.2.2.2.2.2.2.2.2.2.2.2.2.2.2.2.2.2.2.2.2.2.2.2.2.2.2.1)) (E.2.2.2.2.2.2.2.2.2.2.2.2.2.2.2.2.2.2.2.2.2.2.2.2.2.2.2.2.2.1)) (E.2.2.2.2.2.2.2.2.2.2.2.2.2.2.2.2.2.2.2.2.2.2.2.2.2.2.2.2.1)) (E.2.2.2.2.2.2.2.2.2.2.2.2.2.2.2.2.2.2.2.2.2.2.2.2.2.2.2.1)) (E.2.2.2.2.2.2.2.2.2.2.2.2.2.2.2.2.2.2.2.2.2.2.2.2.2.2.1)) (E.2.2.2.2.2.2.2.2.2.2.2.2.2.2.2.2.2.2.2.2.2.2.2.2.2.1)) (E.2.2.2.2.2.2.2.2.2.2.2.2.2.2.2.2.2.2.2.2.2.2.2.2.1)) (E.2.2.2.2.2.2.2.2.2.2.2.2.2.2.2.2.2.2.2.2.2.2.2.1)) (E.2.2.2.2.2.2.2.2.2.2.2.2.2.2.2.2.2.2.2.2.2.2.1)) (E.2.2.2.2.2.2.2.2.2.2.2.2.2.2.2.2.2.2.2.2.2.1)) (E.2.2.2.2.2.2.2.2.2.2.2.2.2.2.2.2.2.2.2.2.1)) (E.2.2.2.2.2.2.2.2.2.2.2.2.2.2.2.2.2.2.2.1)) (E.2.2.2.2.2.2.2.2.2.2.2.2.2.2.2.2.2.2.1)) (E.2.2.2.2.2.2.2.2.2.2.2.2.2.2.2.2.2.1)) (E.2.2.2.2.2.2.2.2.2.2.2.2.2.2.2.2.1)) (E.2.2.2.2.2.2.2.2.2.2.2.2.2.2.2.1)) (E.2.2.2.2.2.2.2.2.2.2.2.2.2.2.1)) (E.2.2.2.2.2.2.2.2.2.2.2.2.2.1)) (E.2.2.2.2.2.2.2.2.2.2.2.2.1)) (E.2.2.2.2.2.2.2.2.2.2.2.1)) (E.2.2.2.2.2.2.2.2.2.2.1)) (E.2.2.2.2.2.2.2.2.2.1)) (E.2.2.2.2.2.2.2.2.1)) (E.2.2.2.2.2.2.2.1)) (E.2.2.2.2.2.2.1)) (E.2.2.2.2.2.1)) (E.2.2.2.2.1)) (E.2.2.2.1)) (E.2.2.1)) (E.2.1)) (E.1)), by omega, by omega, by omega, by omega, by omega⟩
          ·
           refine HE (o := ⟨some 18, _, _, _, _, _⟩) rfl rfl (Oper.wp_alloc AgI rfl ?_)
           intro bO11 wO11 eO11 zO11 dO11 xO11
           have lO11_0 : bO12 < bO11 := by rw [eO11]; exact Bx.lt (xO12)
           replace E := E.below dO11
           replace xO12 := Bx.below xO12 dO11
           clear eO11 zO11 dO11
           refine ⟨E.2.2, ?_⟩
           simp only [Act.put,q1,q2,q3]
           refine H1 (i := 6) (by kernel_rfl) ?_
           refine HE (o := ⟨some 88, _, _, _, _, _⟩) rfl rfl (Oper.wp_callIIE fn_integer_DivMod rfl (DivMod_z _ _ ((r.natAbs : Int) - ((u1 % ((y.natAbs : Int) / (r.natAbs : Int))) * x)) y _ (E.1) (E.2.2.2.2.2.2.2.2.2.2.2.2.2.2.2.2.2.2.2.2.2.2.2.2.2.1) (hy) (Fits.mono Fd (by decide)) (Fits.mono Fy (by decide))) rfl E ?_)
           clear E
           intro wO6 nO6 sO6 mO6 tO6 dO6 E
           replace xO12 := xO12.below dO6
           replace xO11 := xO11.below dO6
           clear dO6
           refine ⟨E.2.2.2.2, ?_⟩
           simp only [Act.put,q1,q2,q3]
           refine HP (i := 7) (o := ⟨some 81, _, _, _, _, _⟩) (v := .tuple #[.agg #[.bool nO6, sO6], .agg #[.bool mO6, tO6], .int .i64 0]) rfl (by kernel_rfl) (fun _ _ _ h => h) rfl (fun w hS => run_move rfl rfl) (E.2.2.2.2) ?_
           simp only [Act.put,q1,q2,q3]
           refine HP (i := 8) (o := ⟨some 89, _, _, _, _, _⟩) (v := .agg #[.bool nO6, sO6]) rfl (by kernel_rfl) (fun _ _ _ h => h) rfl (fun w hS => run_extract (vs := [.agg #[.bool nO6, sO6], .agg #[.bool mO6, tO6], .int .i64 0]) rfl rfl rfl) (E.2.2.2.2) ?_
           simp only [Act.put,q1,q2,q3]
           refine HP (i := 9) (o := ⟨some 90, _, _, _, _, _⟩) (v := .agg #[.bool mO6, tO6]) rfl (by kernel_rfl) (fun _ _ _ h => h) rfl (fun w hS => run_extract (vs := [.agg #[.bool nO6, sO6], .agg #[.bool mO6, tO6], .int .i64 0]) rfl rfl rfl) (E.2.2.2.2) ?_
           simp only [Act.put,q1,q2,q3]
           refine HP (i := 10) (o := ⟨some 91, _, _, _, _, _⟩) (v := .int .i64 0) rfl (by kernel_rfl) (fun _ _ _ h => h) rfl (fun w hS => run_extract (vs := [.agg #[.bool nO6, sO6], .agg #[.bool mO6, tO6], .int .i64 0]) rfl rfl rfl) (E.2.2.2.2) ?_
           simp only [Act.put,q1,q2,q3]
           refine H1 (i := 13) (by kernel_rfl) ?_
           refine HE (o := ⟨none, _, _, _, _, _⟩) rfl rfl (Oper.wp_store AgI rfl rfl rfl xO11 rfl rfl (IsI.one (E.2.1)) ?_)
           intro wO13 oO13 yO13
           replace E := (E.onl (xO11.noW now0) ⟨trivial, trivial, trivial, trivial, okB (by omega), trivial, trivial, okB (by omega), okB (by omega), trivial, trivial, trivial, trivial, okB (by omega), trivial, trivial, trivial, okB (by omega), trivial, okB (by omega), trivial, trivial, okB (by omega), trivial, okB (by omega), trivial, okB (by omega), trivial, okB (by omega), okB (by omega), okB (by omega), okW (by omega), trivial⟩ oO13).b yO13
           replace xO12 := Bx.onl xO12 (by omega) oO13
           clear xO11 oO13 yO13
           refine ⟨E.2.2.2.2.2, ?_⟩
           simp only [Act.put]
           refine H1 (i := 14) (by kernel_rfl) ?_
           refine HE (o := ⟨none, _, _, _, _, _⟩) rfl rfl (Oper.wp_store AgI rfl rfl rfl xO12 rfl rfl (IsI.one (E.2.1)) ?_)
           intro wO14 oO14 yO14
           replace E := (E.onl (xO12.noW now0) ⟨okB (by omega), trivial, trivial, trivial, trivial, okB (by omega), trivial, trivial, okB (by omega), okB (by omega), trivial, trivial, trivial, trivial, okB (by omega), trivial, trivial, trivial, okB (by omega), trivial, okB (by omega), trivial, trivial, okB (by omega), trivial, okB (by omega), trivial, okB (by omega), trivial, okB (by omega), okB (by omega), okB (by omega), okW (by omega), trivial⟩ oO14).b yO14
           clear xO12 oO14 yO14
           refine ⟨E.2.2.2.2.2.2, ?_⟩
           simp only [Act.put]
           refine HP (i := 15) (o := ⟨some 20, _, _, _, _, _⟩) (v := .int .i64 0) rfl (by kernel_rfl) (fun _ _ _ h => h) rfl (fun w hS => run_assign rfl rfl) (E.2.2.2.2.2.2) ?_
           simp only [Act.put,q1,q2,q3]
           refine HN (by kernel_rfl) ?_
           exact ⟨nO3, sO3, nO4, sO4, nO6, sO6, mO6, tO6, bO11, bO12, rfl, (Env.b (Env.b (Env.i (Env.i (Env.i (Env.i (Env.b (Env.i (Env.i (Env.b (Env.b (Env.i (Env.i (Env.i (Env.s (Env.b (Env.i (Env.s (Env.i (Env.b (Env.i (Env.b (Env.i (Env.i (Env.b (Env.i (Env.b (Env.i (Env.b (Env.i (Env.b (Env.b (Env.b (Env.ww (Env.nil _) (E.2.2.2.2.2.2.2.2.2.2.2.2.2.2.2.2.2.2.2.2.2.2.2.2.2.2.2.2.2.2.2.2.2.1)) (E.2.2.2.2.2.2.2.2.2.2.2.2.2.2.2.2.2.2.2.2.2.2.2.2.2.2.2.2.2.2.2.2.1)) (E.2.2.2.2.2.2.2.2.2.2.2.2.2.2.2.2.2.2.2.2.2.2.2.2.2.2.2.2.2.2.2.1)) (E.2.2.2.2.2.2.2.2.2.2.2.2.2.2.2.2.2.2.2.2.2.2.2.2.2.2.2.2.2.2.1)) (E.2.2.2.2.2.2.2.2.2.2.2.2.2.2.2.2.2.2.2.2.2.2.2.2.2.2.2.2.2.1)) (E.2.2.2.2.2.2.2.2.2.2.2.2.2.2.2.2.2.2.2.2.2.2.2.2.2.2.2.2.1)) (E.2.2.2.2.2.2.2.2.2.2.2.2.2.2.2.2.2.2.2.2.2.2.2.2.2.2.2.1)) (E.2.2.2.2.2.2.2.2.2.2.2.2.2.2.2.2.2.2.2.2.2.2.2.2.2.2.1)) (E.2.2.2.2.2.2.2.2.2.2.2.2.2.2.2.2.2.2.2.2.2.2.2.2.2.1)) (E.2.2.2.2.2.2.2.2.2.2.2.2.2.2.2.2.2.2.2.2.2.2.2.2.1)) (E.2.2.2.2.2.2.2.2.2.2.2.2.2.2.2.2.2.2.2.2.2.2.2.1)) (E.2.2.2.2.2.2.2.2.2.2.2.2.2.2.2.2.2.2.2.2.2.2.1)) (E.2.2.2.2.2.2.2.2.2.2.2.2.2.2.2.2.2.2.2.2.2.1)) (E.2.2.2.2.2.2.2.2.2.2.2.2.2.2.2.2.2.2.2.2.1)) (E.2.2.2.2.2.2.2.2.2.2.2.2.2.2.2.2.2.2.2.1)) (E.2.2.2.2.2.2.2.2.2.2.2.2.2.2.2.2.2.2.1)) (E.2.2.2.2.2.2.2.2.2.2.2.2.2.2.2.2.2.1)) (E.2.2.2.2.2.2.2.2.2.2.2.2.2.2.2.2.1)) (E.2.2.2.2.2.2.2.2.2.2.2.2.2.2.2.1)) (E.2.2.2.2.2.2.2.2.2.2.2.2.2.2.1)) (E.2.2.2.2.2.2.2.2.2.2.2.2.2.1)) (E.2.2.2.2.2.2.2.2.2.2.2.2.1)) (E.2.2.2.2.2.2.2.2.2.2.2.1)) (E.2.2.2.2.2.2.2.2.2.2.1)) (E.2.2.2.2.2.2.2.2.2.1)) (E.2.2.2.2.2.2.2.2.1)) (E.2.2.2.2.2.2.2.1)) (E.2.2.2.2.2.2.1)) (E.2.2.2.2.2.1)) (E.2.2.2.2.1)) (E.2.2.2.1)) (E.2.2.1)) (E.2.1)) (E.1)), by omega, by omega, by omega, by omega, by omega⟩
         ·
          refine HE (o := ⟨some 18, _, _, _, _, _⟩) rfl rfl (Oper.wp_alloc AgI rfl ?_)
          intro bO11 wO11 eO11 zO11 dO11 xO11
          have lO11_0 : bO12 < bO11 := by rw [eO11]; exact Bx.lt (xO12)
          replace E := E.below dO11
          replace xO12 := Bx.below xO12 dO11
          clear eO11 zO11 dO11
          refine ⟨E.2, ?_⟩
          simp only [Act.put,q1,q2,q3]
          refine H1 (i := 4) (by kernel_rfl) ?_
          refine HE (o := ⟨some 86, _, _, _, _, _⟩) rfl rfl (Oper.wp_callI fn_integer_Sub rfl (Sub_z _ _ (r.natAbs : Int) ((u1 % ((y.natAbs : Int) / (r.natAbs : Int))) * x) _ (E.2.2.2.2.2.2.2.2.2.2.2.1) (E.1) (Fits.mono Fg (by decide)) (Fits.mono Fm (by decide))) rfl E ?_)
          clear E
          intro wO4 nO4 sO4 dO4 E
          replace xO12 := xO12.below dO4
          replace xO11 := xO11.below dO4
          clear dO4
          refine ⟨E.2.2, ?_⟩
          simp only [Act.put,q1,q2,q3]
          refine H1 (i := 6) (by kernel_rfl) ?_
          refine HE (o := ⟨some 88, _, _, _, _, _⟩) rfl rfl (Oper.wp_callIIE fn_integer_DivMod rfl (DivMod_z _ _ ((r.natAbs : Int) - ((u1 % ((y.natAbs : Int) / (r.natAbs : Int))) * x)) y _ (E.1) (E.2.2.2.2.2.2.2.2.2.2.2.2.2.2.2.2.2.2.2.2.2.2.2.2.2.1) (hy) (Fits.mono Fd (by decide)) (Fits.mono Fy (by decide))) rfl E ?_)
          clear E
          intro wO6 nO6 sO6 mO6 tO6 dO6 E
          replace xO12 := xO12.below dO6
          replace xO11 := xO11.below dO6
          clear dO6
          refine ⟨E.2.2.2.2, ?_⟩
          simp only [Act.put,q1,q2,q3]
          refine HP (i := 7) (o := ⟨some 81, _, _, _, _, _⟩) (v := .tuple #[.agg #[.bool nO6, sO6], .agg #[.bool mO6, tO6], .int .i64 0]) rfl (by kernel_rfl) (fun _ _ _ h => h) rfl (fun w hS => run_move rfl rfl) (E.2.2.2.2) ?_
          simp only [Act.put,q1,q2,q3]
          refine HP (i := 8) (o := ⟨some 89, _, _, _, _, _⟩) (v := .agg #[.bool nO6, sO6]) rfl (by kernel_rfl) (fun _ _ _ h => h) rfl (fun w hS => run_extract (vs := [.agg #[.bool nO6, sO6], .agg #[.bool mO6, tO6], .int .i64 0]) rfl rfl rfl) (E.2.2.2.2) ?_
          simp only [Act.put,q1,q2,q3]
          refine HP (i := 9) (o := ⟨some 90, _, _, _, _, _⟩) (v := .agg #[.bool mO6, tO6]) rfl (by kernel_rfl) (fun _ _ _ h => h) rfl (fun w hS => run_extract (vs := [.agg #[.bool nO6, sO6], .agg #[.bool mO6, tO6], .int .i64 0]) rfl rfl rfl) (E.2.2.2.2) ?_
          simp only [Act.put,q1,q2,q3]
          refine HP (i := 10) (o := ⟨some 91, _, _, _, _, _⟩) (v := .int .i64 0) rfl (by kernel_rfl) (fun _ _ _ h => h) rfl (fun w hS => run_extract (vs := [.agg #[.bool nO6, sO6], .agg #[.bool mO6, tO6], .int .i64 0]) rfl rfl rfl) (E.2.2.2.2) ?_
          simp only [Act.put,q1,q2,q3]
          refine H1 (i := 13) (by kernel_rfl) ?_
          refine HE (o := ⟨none, _, _, _, _, _⟩) rfl rfl (Oper.wp_store AgI rfl rfl rfl xO11 rfl rfl (IsI.one (E.2.1)) ?_)
          intro wO13 oO13 yO13
          replace E := (E.onl (xO11.noW now0) ⟨trivial, trivial, trivial, trivial, okB (by omega), trivial, trivial, okB (by omega), okB (by omega), trivial, trivial, trivial, trivial, okB (by omega), trivial, trivial, trivial, okB (by omega), trivial, okB (by omega), trivial, trivial, okB (by omega), trivial, okB (by omega), trivial, okB (by omega), trivial, okB (by omega), okB (by omega), okB (by omega), okW (by omega), trivial⟩ oO13).b yO13
          replace xO12 := Bx.onl xO12 (by omega) oO13
          clear xO11 oO13 yO13
          refine ⟨E.2.2.2.2.2, ?_⟩
          simp only [Act.put]
          refine H1 (i := 14) (by kernel_rfl) ?_
          refine HE (o := ⟨none, _, _, _, _, _⟩) rfl rfl (Oper.wp_store AgI rfl rfl rfl xO12 rfl rfl (IsI.one (E.2.1)) ?_)
          intro wO14 oO14 yO14
          replace E := (E.onl (xO12.noW now0) ⟨okB (by omega), trivial, trivial, trivial, trivial, okB (by omega), trivial, trivial, okB (by omega), okB (by omega), trivial, trivial, trivial, trivial, okB (by omega), trivial, trivial, trivial, okB (by omega), trivial, okB (by omega), trivial, trivial, okB (by omega), trivial, okB (by omega), trivial, okB (by omega), trivial, okB (by omega), okB (by omega), okB (by omega), okW (by omega), trivial⟩ oO14).b yO14
          clear xO12 oO14 yO14
          refine ⟨E.2.2.2.2.2.2, ?_⟩
          simp only [Act.put]
          refine HP (i := 15) (o := ⟨some 20, _, _, _, _, _⟩) (v := .int .i64 0) rfl (by kernel_rfl) (fun _ _ _ h => h) rfl (fun w hS => run_assign rfl rfl) (E.2.2.2.2.2.2) ?_
          simp only [Act.put,q1,q2,q3]
          refine HN (by kernel_rfl) ?_
          exact ⟨nO3, sO3, nO4, sO4, nO6, sO6, mO6, tO6, bO11, bO12, rfl, (Env.b (Env.b (Env.i (Env.i (Env.i (Env.i (Env.b (Env.i (Env.i (Env.b (Env.b (Env.i (Env.i (Env.i (Env.s (Env.b (Env.i (Env.s (Env.i (Env.b (Env.i (Env.b (Env.i (Env.i (Env.b (Env.i (Env.b (Env.i (Env.b (Env.i (Env.b (Env.b (Env.b (Env.ww (Env.nil _) (E.2.2.2.2.2.2.2.2.2.2.2.2.2.2.2.2.2.2.2.2.2.2.2.2.2.2.2.2.2.2.2.2.2.1)) (E.2.2.2.2.2.2.2.2.2.2.2.2.2.2.2.2.2.2.2.2.2.2.2.2.2.2.2.2.2.2.2.2.1)) (E.2.2.2.2.2.2.2.2.2.2.2.2.2.2.2.2.2.2.2.2.2.2.2.2.2.2.2.2.2.2.2.1)) (E.2.2.2.2.2.2.2.2.2.2.2.2.2.2.2.2.2.2.2.2.2.2.2.2.2.2.2.2.2.2.1)) (E.2.2.2.2.2.2.2.2.2.2.2.2.2.2.2.2.2.2.2.2.2.2.2.2.2.2.2.2.2.1)) (E.2.2.2.2.2.2.2.2.2.2.2.2.2.2.2.2.2.2.2.2.2.2.2.2.2.2.2.2.1)) (E.2.2.2.2.2.2.2.2.2.2.2.2.2.2.2.2.2.2.2.2.2.2.2.2.2.2.2.1)) (E.2.2.2.2.2.2.2.2.2.2.2.2.2.2.2.2.2.2.2.2.2.2.2.2.2.2.1)) (E.2.2.2.2.2.2.2.2.2.2.2.2.2.2.2.2.2.2.2.2.2.2.2.2.2.1)) (E.2.2.2.2.2.2.2.2.2.2.2.2.2.2.2.2.2.2.2.2.2.2.2.2.1)) (E.2.2.2.2.2.2.2.2.2.2.2.2.2.2.2.2.2.2.2.2.2.2.2.1)) (E.2.2.2.2.2.2.2.2.2.2.2.2.2.2.2.2.2.2.2.2.2.2.1)) (E.2.2.2.2.2.2.2.2.2.2.2.2.2.2.2.2.2.2.2.2.2.1)) (E.2.2.2.2.2.2.2.2.2.2.2.2.2.2.2.2.2.2.2.2.1)) (E.2.2.2.2.2.2.2.2.2.2.2.2.2.2.2.2.2.2.2.1)) (E.2.2.2.2.2.2.2.2.2.2.2.2.2.2.2.2.2.2.1)) (E.2.2.2.2.2.2.2.2.2.2.2.2.2.2.2.2.2.1)) (E.2.2.2.2.2.2.2.2.2.2.2.2.2.2.2.2.1)) (E.2.2.2.2.2.2.2.2.2.2.2.2.2.2.2.1)) (E.2.2.2.2.2.2.2.2.2.2.2.2.2.2.1)) (E.2.2.2.2.2.2.2.2.2.2.2.2.2.1)) (E.2.2.2.2.2.2.2.2.2.2.2.2.1)) (E.2.2.2.2.2.2.2.2.2.2.2.1)) (E.2.2.2.2.2.2.2.2.2.2.1)) (E.2.2.2.2.2.2.2.2.2.1)) (E.2.2.2.2.2.2.2.2.1)) (E.2.2.2.2.2.2.2.1)) (E.2.2.2.2.2.2.1)) (E.2.2.2.2.2.1)) (E.2.2.2.2.1)) (E.2.2.2.1)) (E.2.2.1)) (E.2.1)) (E.1)), by omega, by omega, by omega, by omega, by omega⟩
       ·
        refine HE (o := ⟨some 18, _, _, _, _, _⟩) rfl rfl (Oper.wp_alloc AgI rfl ?_)
        intro bO11 wO11 eO11 zO11 dO11 xO11
        have lO11_0 : bM10 < bO11 := by rw [eO11]; exact Bx.lt (E.2.2.2.2.1)
        have lO11_1 : bM11 < bO11 := by rw [eO11]; exact Bx.lt (E.2.2.2.1)
        replace E := E.below dO11
        clear eO11 zO11 dO11
        refine ⟨E, ?_⟩
        simp only [Act.put,q1,q2,q3]
        refine H2 (i := 3) (j := 12) (by kernel_rfl) ?_ ?_
        ·
         refine HE (o := ⟨some 85, _, _, _, _, _⟩) rfl rfl (Oper.wp_callI fn_integer_Mul rfl (Mul_z _ _ (u1 % ((y.natAbs : Int) / (r.natAbs : Int))) x _ (E.2.1) (E.2.2.2.2.2.2.2.2.2.2.2.2.2.2.2.2.2.2.2.2.2.1) (Fits.mono Fu2 (by decide)) (Fits.mono Fx (by decide))) rfl E ?_)
         clear E
         intro wO3 nO3 sO3 dO3 E
         replace xO11 := xO11.below dO3
         clear dO3
         refine ⟨E.2, ?_⟩
         simp only [Act.put,q1,q2,q3]
         refine H2 (i := 4) (j := 12) (by kernel_rfl) ?_ ?_
         ·
          refine HE (o := ⟨some 86, _, _, _, _, _⟩) rfl rfl (Oper.wp_callI fn_integer_Sub rfl (Sub_z _ _ (r.natAbs : Int) ((u1 % ((y.natAbs : Int) / (r.natAbs : Int))) * x) _ (E.2.2.2.2.2.2.2.2.2.2.2.1) (E.1) (Fits.mono Fg (by decide)) (Fits.mono Fm (by decide))) rfl E ?_)
          clear E
          intro wO4 nO4 sO4 dO4 E
          replace xO11 := xO11.below dO4
          clear dO4
          refine ⟨E.2.2, ?_⟩
          simp only [Act.put,q1,q2,q3]
          refine H2 (i := 6) (j := 12) (by kernel_rfl) ?_ ?_
          ·
           refine HE (o := ⟨some 88, _, _, _, _, _⟩) rfl rfl (Oper.wp_callIIE fn_integer_DivMod rfl (DivMod_z _ _ ((r.natAbs : Int) - ((u1 % ((y.natAbs : Int) / (r.natAbs : Int))) * x)) y _ (E.1) (E.2.2.2.2.2.2.2.2.2.2.2.2.2.2.2.2.2.2.2.2.2.2.2.2.2.1) (hy) (Fits.mono Fd (by decide)) (Fits.mono Fy (by decide))) rfl E ?_)
           clear E
           intro wO6 nO6 sO6 mO6 tO6 dO6 E
           replace xO11 := xO11.below dO6
           clear dO6
           refine ⟨E.2.2.2.2, ?_⟩
           simp only [Act.put,q1,q2,q3]
           refine HP (i := 7) (o := ⟨some 81, _, _, _, _, _⟩) (v := .tuple #[.agg #[.bool nO6, sO6], .agg #[.bool mO6, tO6], .int .i64 0]) rfl (by kernel_rfl) (fun _ _ _ h => h) rfl (fun w hS => run_move rfl rfl) (E.2.2.2.2) ?_
           simp only [Act.put,q1,q2,q3]
           refine HP (i := 8) (o := ⟨some 89, _, _, _, _, _⟩) (v := .agg #[.bool nO6, sO6]) rfl (by kernel_rfl) (fun _ _ _ h => h) rfl (fun w hS => run_extract (vs := [.agg #[.bool nO6, sO6], .agg #[.bool mO6, tO6], .int .i64 0]) rfl rfl rfl) (E.2.2.2.2) ?_
           simp only [Act.put,q1,q2,q3]
           refine HP (i := 9) (o := ⟨some 90, _, _, _, _, _⟩) (v := .agg #[.bool mO6, tO6]) rfl (by kernel_rfl) (fun _ _ _ h => h) rfl (fun w hS => run_extract (vs := [.agg #[.bool nO6, sO6], .agg #[.bool mO6, tO6], .int .i64 0]) rfl rfl rfl) (E.2.2.2.2) ?_
           simp only [Act.put,q1,q2,q3]
           refine HP (i := 10) (o := ⟨some 91, _, _, _, _, _⟩) (v := .int .i64 0) rfl (by kernel_rfl) (fun _ _ _ h => h) rfl (fun w hS => run_extract (vs := [.agg #[.bool nO6, sO6], .agg #[.bool mO6, tO6], .int .i64 0]) rfl rfl rfl) (E.2.2.2.2) ?_
           simp only [Act.put,q1,q2,q3]
           refine H1 (i := 12) (by kernel_rfl) ?_
           refine HE (o := ⟨some 19, _, _, _, _, _⟩) rfl rfl (Oper.wp_alloc AgI rfl ?_)
           intro bO12 wO12 eO12 zO12 dO12 xO12
           have lO12_0 : bO11 < bO12 := by rw [eO12]; exact Bx.lt (xO11)
           replace E := E.below dO12
           replace xO11 := Bx.below xO11 dO12
           clear eO12 zO12 dO12
           refine ⟨E.2.2.2.2, ?_⟩
           simp only [Act.put,q1,q2,q3]
           refine H1 (i := 13) (by kernel_rfl) ?_
           refine HE (o := ⟨none, _, _, _, _, _⟩) rfl rfl (Oper.wp_store AgI rfl rfl rfl xO11 rfl rfl (IsI.one (E.2.1)) ?_)
           intro wO13 oO13 yO13
           replace E := (E.onl (xO11.noW now0) ⟨trivial, trivial, trivial, trivial, okB (by omega), trivial, trivial, okB (by omega), okB (by omega), trivial, trivial, trivial, trivial, okB (by omega), trivial, trivial, trivial, okB (by omega), trivial, okB (by omega), trivial, trivial, okB (by omega), trivial, okB (by omega), trivial, okB (by omega), trivial, okB (by omega), okB (by omega), okB (by omega), okW (by omega), trivial⟩ oO13).b yO13
           replace xO12 := Bx.onl xO12 (by omega) oO13
           clear xO11 oO13 yO13
           refine ⟨E.2.2.2.2.2, ?_⟩
           simp only [Act.put]
           refine H1 (i := 14) (by kernel_rfl) ?_
           refine HE (o := ⟨none, _, _, _, _, _⟩) rfl rfl (Oper.wp_store AgI rfl rfl rfl xO12 rfl rfl (IsI.one (E.2.1)) ?_)
           intro wO14 oO14 yO14
           replace E := (E.onl (xO12.noW now0) ⟨okB (by omega), trivial, trivial, trivial, trivial, okB (by omega), trivial, trivial, okB (by omega), okB (by omega), trivial, trivial, trivial, trivial, okB (by omega), trivial, trivial, trivial, okB (by omega), trivial, okB (by omega), trivial, trivial, okB (by omega), trivial, okB (by omega), trivial, okB (by omega), trivial, okB (by omega), okB (by omega), okB (by omega), okW (by omega), trivial⟩ oO14).b yO14
           clear xO12 oO14 yO14
           refine ⟨E.2.2.2.2.2.2, ?_⟩
           simp only [Act.put]
           refine HP (i := 15) (o := ⟨some 20, _, _, _, _, _⟩) (v := .int .i64 0) rfl (by kernel_rfl) (fun _ _ _ h => h) rfl (fun w hS => run_assign rfl rfl) (E.2.2.2.2.2.2) ?_
           simp only [Act.put,q1,q2,q3]
           refine HN (by kernel_rfl) ?_
           exact ⟨nO3, sO3, nO4, sO4, nO6, sO6, mO6, tO6, bO11, bO12, rfl, (Env.b (Env.b (Env.i (Env.i (Env.i (Env.i (Env.b (Env.i (Env.i (Env.b (Env.b (Env.i (Env.i (Env.i (Env.s (Env.b (Env.i (Env.s (Env.i (Env.b (Env.i (Env.b (Env.i (Env.i (Env.b (Env.i (Env.b (Env.i (Env.b (Env.i (Env.b (Env.b (Env.b (Env.ww (Env.nil _) (E.2.2.2.2.2.2.2.2.2.2.2.2.2.2.2.2.2.2.2.2.2.2.2.2.2.2.2.2.2.2.2.2.2.1)) (E.2.2.2.2.2.2.2.2.2.2.2.2.2.2.2.2.2.2.2.2.2.2.2.2.2.2.2.2.2.2.2.2.1)) (E.2.2.2.2.2.2.2.2.2.2.2.2.2.2.2.2.2.2.2.2.2.2.2.2.2.2.2.2.2.2.2.1)) (E.2.2.2.2.2.2.2.2.2.2.2.2.2.2.2.2.2.2.2.2.2.2.2.2.2.2.2.2.2.2.1)) (E.2.2.2.2.2.2.2.2.2.2.2.2.2.2.2.2.2.2.2.2.2.2.2.2.2.2.2.2.2.1)) (E.2.2.2.2.2.2.2.2.2.2.2.2.2.2.2.2.2.2.2.2.2.2.2.2.2.2.2.2.1)) (E.2.2.2.2.2.2.2.2.2.2.2.2.2.2.2.2.2.2.2.2.2.2.2.2.2.2.2.1)) (E.2.2.2.2.2.2.2.2.2.2.2.2.2.2.2.2.2.2.2.2.2.2.2.2.2.2.1)) (E.2.2.2.2.2.2.2.2.2.2.2.2.2.2.2.2.2.2.2.2.2.2.2.2.2.1)) (E.2.2.2.2.2.2.2.2.2.2.2.2.2.2.2.2.2.2.2.2.2.2.2.2.1)) (E.2.2.2.2.2.2.2.2.2.2.2.2.2.2.2.2.2.2.2.2.2.2.2.1)) (E.2.2.2.2.2.2.2.2.2.2.2.2.2.2.2.2.2.2.2.2.2.2.1)) (E.2.2.2.2.2.2.2.2.2.2.2.2.2.2.2.2.2.2.2.2.2.1)) (E.2.2.2.2.2.2.2.2.2.2.2.2.2.2.2.2.2.2.2.2.1)) (E.2.2.2.2.2.2.2.2.2.2.2.2.2.2.2.2.2.2.2.1)) (E.2.2.2.2.2.2.2.2.2.2.2.2.2.2.2.2.2.2.1)) (E.2.2.2.2.2.2.2.2.2.2.2.2.2.2.2.2.2.1)) (E.2.2.2.2.2.2.2.2.2.2.2.2.2.2.2.2.1)) (E.2.2.2.2.2.2.2.2.2.2.2.2.2.2.2.1)) (E.2.2.2.2.2.2.2.2.2.2.2.2.2.2.1)) (E.2.2.2.2.2.2.2.2.2.2.2.2.2.1)) (E.2.2.2.2.2.2.2.2.2.2.2.2.1)) (E.2.2.2.2.2.2.2.2.2.2.2.1)) (E.2.2.2.2.2.2.2.2.2.2.1)) (E.2.2.2.2.2.2.2.2.2.1)) (E.2.2.2.2.2.2.2.2.1)) (E.2.2.2.2.2.2.2.1)) (E.2.2.2.2.2.2.1)) (E.2.2.2.2.2.1)) (E.2.2.2.2.1)) (E.2.2.2.1)) (E.2.2.1)) (E.2.1)) (E.1)), by omega, by omega, by omega, by omega, by omega⟩
          ·
           refine HE (o := ⟨some 19, _, _, _, _, _⟩) rfl rfl (Oper.wp_alloc AgI rfl ?_)
           intro bO12 wO12 eO12 zO12 dO12 xO12
           have lO12_0 : bO11 < bO12 := by rw [eO12]; exact Bx.lt (xO11)
           replace E := E.below dO12
           replace xO11 := Bx.below xO11 dO12
           clear eO12 zO12 dO12
           refine ⟨E.2.2, ?_⟩
           simp only [Act.put,q1,q2,q3]
           refine H1 (i := 6) (by kernel_rfl) ?_
           refine HE (o := ⟨some 88, _, _, _, _, _⟩) rfl rfl (Oper.wp_callIIE fn_integer_DivMod rfl (DivMod_z _ _ ((r.natAbs : Int) - ((u1 % ((y.natAbs : Int) / (r.natAbs : Int))) * x)) y _ (E.1) (E.2.2.2.2.2.2.2.2.2.2.2.2.2.2.2.2.2.2.2.2.2.2.2.2.2.1) (hy) (Fits.mono Fd (by decide)) (Fits.mono Fy (by decide))) rfl E ?_)
           clear E
           intro wO6 nO6 sO6 mO6 tO6 dO6 E
           replace xO11 := xO11.below dO6
           replace xO12 := xO12.below dO6
           clear dO6
           refine ⟨E.2.2.2.2, ?_⟩
           simp only [Act.put,q1,q2,q3]
           refine HP (i := 7) (o := ⟨some 81, _, _, _, _, _⟩) (v := .tuple #[.agg #[.bool nO6, sO6], .agg #[.bool mO6, tO6], .int .i64 0]) rfl (by kernel_rfl) (fun _ _ _ h => h) rfl (fun w hS => run_move rfl rfl) (E.2.2.2.2) ?_
           simp only [Act.put,q1,q2,q3]
           refine HP (i := 8) (o := ⟨some 89, _, _, _, _, _⟩) (v := .agg #[.bool nO6, sO6]) rfl (by kernel_rfl) (fun _ _ _ h => h) rfl (fun w hS => run_extract (vs := [.agg #[.bool nO6, sO6], .agg #[.bool mO6, tO6], .int .i64 0]) rfl rfl rfl) (E.2.2.2.2) ?_
           simp only [Act.put,q1,q2,q3]
           refine HP (i := 9) (o := ⟨some 90, _, _, _, _, _⟩) (v := .agg #[.bool mO6, tO6]) rfl (by kernel_rfl) (fun _ _ _ h => h) rfl (fun w hS => run_extract (vs := [.agg #[.bool nO6, sO6], .agg #[.bool mO6, tO6], .int .i64 0]) rfl rfl rfl) (E.2.2.2.2) ?_
           simp only [Act.put,q1,q2,q3]
           refine HP (i := 10) (o := ⟨some 91, _, _, _, _, _⟩) (v := .int .i64 0) rfl (by kernel_rfl) (fun _ _ _ h => h) rfl (fun w hS => run_extract (vs := [.agg #[.bool nO6, sO6], .agg #[.bool mO6, tO6], .int .i64 0]) rfl rfl rfl) (E.2.2.2.2) ?_
           simp only [Act.put,q1,q2,q3]
           refine H1 (i := 13) (by kernel_rfl) ?_
           refine HE (o := ⟨none, _, _, _, _, _⟩) rfl rfl (Oper.wp_store AgI rfl rfl rfl xO11 rfl rfl (IsI.one (E.2.1)) ?_)
           intro wO13 oO13 yO13
           replace E := (E.onl (xO11.noW now0) ⟨trivial, trivial, trivial, trivial, okB (by omega), trivial, trivial, okB (by omega), okB (by omega), trivial, trivial, trivial, trivial, okB (by omega), trivial, trivial, trivial, okB (by omega), trivial, okB (by omega), trivial, trivial, okB (by omega), trivial, okB (by omega), trivial, okB (by omega), trivial, okB (by omega), okB (by omega), okB (by omega), okW (by omega), trivial⟩ oO13).b yO13
           replace xO12 := Bx.onl xO12 (by omega) oO13
           clear xO11 oO13 yO13
           refine ⟨E.2.2.2.2.2, ?_⟩
           simp only [Act.put]
           refine H1 (i := 14) (by kernel_rfl) ?_
           refine HE (o := ⟨none, _, _, _, _, _⟩) rfl rfl (Oper.wp_store AgI rfl rfl rfl xO12 rfl rfl (IsI.one (E.2.1)) ?_)
           intro wO14 oO14 yO14
           replace E := (E.onl (xO12.noW now0) ⟨okB (by omega), trivial, trivial, trivial, trivial, okB (by omega), trivial, trivial, okB (by omega), okB (by omega), trivial, trivial, trivial, trivial, okB (by omega), trivial, trivial, trivial, okB (by omega), trivial, okB (by omega), trivial, trivial, okB (by omega), trivial, okB (by omega), trivial, okB (by omega), trivial, okB (by omega), okB (by omega), okB (by omega), okW (by omega), trivial⟩ oO14).b yO14
           clear xO12 oO14 yO14
           refine ⟨E.2.2.2.2.2.2, ?_⟩
           simp only [Act.put]
           refine HP (i := 15) (o := ⟨some 20, _, _, _, _, _⟩) (v := .int .i64 0) rfl (by kernel_rfl) (fun _ _ _ h => h) rfl (fun w hS => run_assign rfl rfl) (E.2.2.2.2.2.2) ?_
           simp only [Act.put,q1,q2,q3]
           refine HN (by kernel_rfl) ?_
           exact ⟨nO3, sO3, nO4, sO4, nO6, sO6, mO6, tO6, bO11, bO12, rfl, (Env.b (Env.b (Env.i (Env.i (Env.i (Env.i (Env.b (Env.i (Env.i (Env.b (Env.b (Env.i (Env.i (Env.i (Env.s (Env.b (Env.i (Env.s (Env.i (Env.b (Env.i (Env.b (Env.i (Env.i (Env.b (Env.i (Env.b (Env.i (Env.b (Env.i (Env.b (Env.b (Env.b (Env.ww (Env.nil _) (E.2.2.2.2.2.2.2.2.2.2.2.2.2.2.2.2.2.2.2.2.2.2.2.2.2.2.2.2.2.2.2.2.2.1)) (E.2.2.2.2.2.2.2.2.2.2.2.2.2.2.2.2.2.2.2.2.2.2.2.2.2.2.2.2.2.2.2.2.1)) (E.2.2.2.2.2.2.2.2.2.2.2.2.2.2.2.2.2.2.2.2.2.2.2.2.2.2.2.2.2.2.2.1)) (E.2.2.2.2.2.2.2.2.2.2.2.2.2.2.2.2.2.2.2.2.2.2.2.2.2.2.2.2.2.2.1)) (E.2.2.2.2.2.2.2.2.2.2.2.2.2.2.2.2.2.2.2.2.2.2.2.2.2.2.2.2.2.1)) (E.2.2.2.2.2.2.2.2.2.2.2.2.2.2.2.2.2.2.2.2.2.2.2.2.2.2.2.2.1)) (E.2.2.2.2.2.2.2.2.2.2.2.2.2.2.2.2.2.2.2.2.2.2.2.2.2.2.2.1)) (E.2.2.2.2.2.2.2.2.2.2.2.2.2.2.2.2.2.2.2.2.2.2.2.2.2.2.1)) (E.2.2.2.2.2.2.2.2.2.2.2.2.2.2.2.2.2.2.2.2.2.2.2.2.2.1)) (E.2.2.2.2.2.2.2.2.2.2.2.2.2.2.2.2.2.2.2.2.2.2.2.2.1)) (E.2.2.2.2.2.2.2.2.2.2.2.2.2.2.2.2.2.2.2.2.2.2.2.1)) (E.2.2.2.2.2.2.2.2.2.2.2.2.2.2.2.2.2.2.2.2.2.2.1)) (E.2.2.2.2.2.2.2.2.2.2.2.2.2.2.2.2.2.2.2.2.2.1)) (E.2.2.2.2.2.2.2.2.2.2.2.2.2.2.2.2.2.2.2.2.1)) (E.2.2.2.2.2.2.2.2.2.2.2.2.2.2.2.2.2.2.2.1)) (E.2.2.2.2.2.2.2.2.2.2.2.2.2.2.2.2.2.2.1)) (E.2.2.2.2.2.2.2.2.2.2.2.2.2.2.2.2.2.1)) (E.2.2.2.2.2.2.2.2.2.2.2.2.2.2.2.2.1)) (E.2.2.2.2.2.2.2.2.2.2.2.2.2.2.2.1)) (E.2.2.2.2.2.2.2.2.2.2.2.2.2.2.1)) (E.2.2.2.2.2.2.2.2.2.2.2.2.2.1)) (E.2.2.2.2.2.2.2.2.2.2.2.2.1)) (E.2.2.2.2.2.2.2.2.2.2.2.1)) (E.2.2.2.2.2.2.2.2.2.2.1)) (E.2.2.2.2.2.2.2.2.2.1)) (E.2.2.2.2.2.2.2.2.1)) (E.2.2.2.2.2.2.2.1)) (E.2.2.2.2.2.2.1)) (E.2.2.2.2.2.1)) (E.2.2.2.2.1)) (E.2.2.2.1)) (E.2.2.1)) (E.2.1)) (E.1)), by omega, by omega, by omega, by omega, by omega⟩
         ·
          refine HE (o := ⟨some 19, _, _, _, _, _⟩) rfl rfl (Oper.wp_alloc AgI rfl ?_)
          intro bO12 wO12 eO12 zO12 dO12 xO12
          have lO12_0 : bO11 < bO12 := by rw [eO12]; exact Bx.lt (xO11)
          replace E := E.below dO12
          replace xO11 := Bx.below xO11 dO12
          clear eO12 zO12 dO12
          refine ⟨E.2, ?_⟩
          simp only [Act.put,q1,q2,q3]
          refine H1 (i := 4) (by kernel_rfl) ?_
          refine HE (o := ⟨some 86, _, _, _, _, _⟩) rfl rfl (Oper.wp_callI fn_integer_Sub rfl (Sub_z _ _ (r.natAbs : Int) ((u1 % ((y.natAbs : Int) / (r.natAbs : Int))) * x) _ (E.2.2.2.2.2.2.2.2.2.2.2.1) (E.1) (Fits.mono Fg (by decide)) (Fits.mono Fm (by decide))) rfl E ?_)
          clear E
          intro wO4 nO4 sO4 dO4 E
          replace xO11 := xO11.below dO4
          replace xO12 := xO12.below dO4
          clear dO4
          refine ⟨E.2.2, ?_⟩
          simp only [Act.put,q1,q2,q3]
          refine H1 (i := 6) (by kernel_rfl) ?_
          refine HE (o := ⟨some 88, _, _, _, _, _⟩) rfl rfl (Oper.wp_callIIE fn_integer_DivMod rfl (DivMod_z _ _ ((r.natAbs : Int) - ((u1 % ((y.natAbs : Int) / (r.natAbs : Int))) * x)) y _ (E.1) (E.2.2.2.2.2.2.2.2.2.2.2.2.2.2.2.2.2.2.2.2.2.2.2.2.2.1) (hy) (Fits.mono Fd (by decide)) (Fits.mono Fy (by decide))) rfl E ?_)
          clear E
          intro wO6 nO6 sO6 mO6 tO6 dO6 E
          replace xO11 := xO11.below dO6
          replace xO12 := xO12.below dO6
          clear dO6
          refine ⟨E.2.2.2.2, ?_⟩
          simp only [Act.put,q1,q2,q3]
          refine HP (i := 7) (o := ⟨some 81, _, _, _, _, _⟩) (v := .tuple #[.agg #[.bool nO6, sO6], .agg #[.bool mO6, tO6], .int .i64 0]) rfl (by kernel_rfl) (fun _ _ _ h => h) rfl (fun w hS => run_move rfl rfl) (E.2.2.2.2) ?_
          simp only [Act.put,q1,q2,q3]
          refine HP (i := 8) (o := ⟨some 89, _, _, _, _, _⟩) (v := .agg #[.bool nO6, sO6]) rfl (by kernel_rfl) (fun _ _ _ h => h) rfl (fun w hS => run_extract (vs := [.agg #[.bool nO6, sO6], .agg #[.bool mO6, tO6], .int .i64 0]) rfl rfl rfl) (E.2.2.2.2) ?_
          simp only [Act.put,q1,q2,q3]
          refine HP (i := 9) (o := ⟨some 90, _, _, _, _, _⟩) (v := .agg #[.bool mO6, tO6]) rfl (by kernel_rfl) (fun _ _ _ h => h) rfl (fun w hS => run_extract (vs := [.agg #[.bool nO6, sO6], .agg #[.bool mO6, tO6], .int .i64 0]) rfl rfl rfl) (E.2.2.2.2) ?_
          simp only [Act.put,q1,q2,q3]
          refine HP (i := 10) (o := ⟨some 91, _, _, _, _, _⟩) (v := .int .i64 0) rfl (by kernel_rfl) (fun _ _ _ h => h) rfl (fun w hS => run_extract (vs := [.agg #[.bool nO6, sO6], .agg #[.bool mO6, tO6], .int .i64 0]) rfl rfl rfl) (E.2.2.2.2) ?_
          simp only [Act.put,q1,q2,q3]
          refine H1 (i := 13) (by kernel_rfl) ?_
          refine HE (o := ⟨none, _, _, _, _, _⟩) rfl rfl (Oper.wp_store AgI rfl rfl rfl xO11 rfl rfl (IsI.one (E.2.1)) ?_)
          intro wO13 oO13 yO13
          replace E := (E.onl (xO11.noW now0) ⟨trivial, trivial, trivial, trivial, okB (by omega), trivial, trivial, okB (by omega), okB (by omega), trivial, trivial, trivial, trivial, okB (by omega), trivial, trivial, trivial, okB (by omega), trivial, okB (by omega), trivial, trivial, okB (by omega), trivial, okB (by omega), trivial, okB (by omega), trivial, okB (by omega), okB (by omega), okB (by omega), okW (by omega), trivial⟩ oO13).b yO13
          replace xO12 := Bx.onl xO12 (by omega) oO13
          clear xO11 oO13 yO13
          refine ⟨E.2.2.2.2.2, ?_⟩
          simp only [Act.put]
          refine H1 (i := 14) (by kernel_rfl) ?_
          refine HE (o := ⟨none, _, _, _, _, _⟩) rfl rfl (Oper.wp_store AgI rfl rfl rfl xO12 rfl rfl (IsI.one (E.2.1)) ?_)
          intro wO14 oO14 yO14
          replace E := (E.onl (xO12.noW now0) ⟨okB (by omega), trivial, trivial, trivial, trivial, okB (by omega), trivial, trivial, okB (by omega), okB (by omega), trivial, trivial, trivial, trivial, okB (by omega), trivial, trivial, trivial, okB (by omega), trivial, okB (by omega), trivial, trivial, okB (by omega), trivial, okB (by omega), trivial, okB (by omega), trivial, okB (by omega), okB (by omega), okB (by omega), okW (by omega), trivial⟩ oO14).b yO14
          clear xO12 oO14 yO14
          refine ⟨E.2.2.2.2.2.2, ?_⟩
          simp only [Act.put]
          refine HP (i := 15) (o := ⟨some 20, _, _, _, _, _⟩) (v := .int .i64 0) rfl (by kernel_rfl) (fun _ _ _ h => h) rfl (fun w hS => run_assign rfl rfl) (E.2.2.2.2.2.2) ?_
          simp only [Act.put,q1,q2,q3]
          refine HN (by kernel_rfl) ?_
          exact ⟨nO3, sO3, nO4, sO4, nO6, sO6, mO6, tO6, bO11, bO12, rfl, (Env.b (Env.b (Env.i (Env.i (Env.i (Env.i (Env.b (Env.i (Env.i (Env.b (Env.b (Env.i (Env.i (Env.i (Env.s (Env.b (Env.i (Env.s (Env.i (Env.b (Env.i (Env.b (Env.i (Env.i (Env.b (Env.i (Env.b (Env.i (Env.b (Env.i (Env.b (Env.b (Env.b (Env.ww (Env.nil _) (E.2.2.2.2.2.2.2.2.2.2.2.2.2.2.2.2.2.2.2.2.2.2.2.2.2.2.2.2.2.2.2.2.2.1)) (E.2.2.2.2.2.2.2.2.2.2.2.2.2.2.2.2.2.2.2.2.2.2.2.2.2.2.2.2.2.2.2.2.1)) (E.2.2.2.2.2.2.2.2.2.2.2.2.2.2.2.2.2.2.2.2.2.2.2.2.2.2.2.2.2.2.2.1)) (E.2.2.2.2.2.2.2.2.2.2.2.2.2.2.2.2.2.2.2.2.2.2.2.2.2.2.2.2.2.2.1)) (E.2.2.2.2.2.2.2.2.2.2.2.2.2.2.2.2.2.2.2.2.2.2.2.2.2.2.2.2.2.1)) (E.2.2.2.2.2.2.2.2.2.2.2.2.2.2.2.2.2.2.2.2.2.2.2.2.2.2.2.2.1)) (E.2.2.2.2.2.2.2.2.2.2.2.2.2.2.2.2.2.2.2.2.2.2.2.2.2.2.2.1)) (E.2.2.2.2.2.2.2.2.2.2.2.2.2.2.2.2.2.2.2.2.2.2.2.2.2.2.1)) (E.2.2.2.2.2.2.2.2.2.2.2.2.2.2.2.2.2.2.2.2.2.2.2.2.2.1)) (E.2.2.2.2.2.2.2.2.2.2.2.2.2.2.2.2.2.2.2.2.2.2.2.2.1)) (E.2.2.2.2.2.2.2.2.2.2.2.2.2.2.2.2.2.2.2.2.2.2.2.1)) (E.2.2.2.2.2.2.2.2.2.2.2.2.2.2.2.2.2.2.2.2.2.2.1)) (E.2.2.2.2.2.2.2.2.2.2.2.2.2.2.2.2.2.2.2.2.2.1)) (E.2.2.2.2.2.2.2.2.2.2.2.2.2.2.2.2.2.2.2.2.1)) (E.2.2.2.2.2.2.2.2.2.2.2.2.2.2.2.2.2.2.2.1)) (E.2.2.2.2.2.2.2.2.2.2.2.2.2.2.2.2.2.2.1)) (E.2.2.2.2.2.2.2.2.2.2.2.2.2.2.2.2.2.1)) (E.2.2.2.2.2.2.2.2.2.2.2.2.2.2.2.2.1)) (E.2.2.2.2.2.2.2.2.2.2.2.2.2.2.2.1)) (E.2.2.2.2.2.2.2.2.2.2.2.2.2.2.1)) (E.2.2.2.2.2.2.2.2.2.2.2.2.2.1)) (E.2.2.2.2.2.2.2.2.2.2.2.2.1)) (E.2.2.2.2.2.2.2.2.2.2.2.1)) (E.2.2.2.2.2.2.2.2.2.2.1)) (E.2.2.2.2.2.2.2.2.2.1)) (E.2.2.2.2.2.2.2.2.1)) (E.2.2.2.2.2.2.2.1)) (E.2.2.2.2.2.2.1)) (E.2.2.2.2.2.1)) (E.2.2.2.2.1)) (E.2.2.2.1)) (E.2.2.1)) (E.2.1)) (E.1)), by omega, by omega, by omega, by omega, by omega⟩
        ·
         refine HE (o := ⟨some 19, _, _, _, _, _⟩) rfl rfl (Oper.wp_alloc AgI rfl ?_)
         intro bO12 wO12 eO12 zO12 dO12 xO12
         have lO12_0 : bO11 < bO12 := by rw [eO12]; exact Bx.lt (xO11)
         replace E := E.below dO12
         replace xO11 := Bx.below xO11 dO12
         clear eO12 zO12 dO12
         refine ⟨E, ?_⟩
         simp only [Act.put,q1,q2,q3]
         refine H1 (i := 3) (by kernel_rfl) ?_
         refine HE (o := ⟨some 85, _, _, _, _, _⟩) rfl rfl (Oper.wp_callI fn_integer_Mul rfl (Mul_z _ _ (u1 % ((y.natAbs : Int) / (r.natAbs : Int))) x _ (E.2.1) (E.2.2.2.2.2.2.2.2.2.2.2.2.2.2.2.2.2.2.2.2.2.1) (Fits.mono Fu2 (by decide)) (Fits.mono Fx (by decide))) rfl E ?_)
         clear E
         intro wO3 nO3 sO3 dO3 E
         replace xO11 := xO11.below dO3
         replace xO12 := xO12.below dO3
         clear dO3
         refine ⟨E.2, ?_⟩
         simp only [Act.put,q1,q2,q3]
         refine H1 (i := 4) (by kernel_rfl) ?_
         refine HE (o := ⟨some 86, _, _, _, _, _⟩) rfl rfl (Oper.wp_callI fn_integer_Sub rfl (Sub_z _ _ (r.natAbs : Int) ((u1 % ((y.natAbs : Int) / (r.natAbs : Int))) * x) _ (E.2.2.2.2.2.2.2.2.2.2.2.1) (E.1) (Fits.mono Fg (by decide)) (Fits.mono Fm (by decide))) rfl E ?_)
         clear E
         intro wO4 nO4 sO4 dO4 E
         replace xO11 := xO11.below dO4
         replace xO12 := xO12.below dO4
         clear dO4
         refine ⟨E.2.2, ?_⟩
         simp only [Act.put,q1,q2,q3]
         refine H1 (i := 6) (by kernel_rfl) ?_
         refine HE (o := ⟨some 88, _, _, _, _, _⟩) rfl rfl (Oper.wp_callIIE fn_integer_DivMod rfl (DivMod_z _ _ ((r.natAbs : Int) - ((u1 % ((y.natAbs : Int) / (r.natAbs : Int))) * x)) y _ (E.1) (E.2.2.2.2.2.2.2.2.2.2.2.2.2.2.2.2.2.2.2.2.2.2.2.2.2.1) (hy) (Fits.mono Fd (by decide)) (Fits.mono Fy (by decide))) rfl E ?_)
         clear E
         intro wO6 nO6 sO6 mO6 tO6 dO6 E
         replace xO11 := xO11.below dO6
         replace xO12 := xO12.below dO6
         clear dO6
         refine ⟨E.2.2.2.2, ?_⟩
         simp only [Act.put,q1,q2,q3]
         refine HP (i := 7) (o := ⟨some 81, _, _, _, _, _⟩) (v := .tuple #[.agg #[.bool nO6, sO6], .agg #[.bool mO6, tO6], .int .i64 0]) rfl (by kernel_rfl) (fun _ _ _ h => h) rfl (fun w hS => run_move rfl rfl) (E.2.2.2.2) ?_
         simp only [Act.put,q1,q2,q3]
         refine HP (i := 8) (o := ⟨some 89, _, _, _, _, _⟩) (v := .agg #[.bool nO6, sO6]) rfl (by kernel_rfl) (fun _ _ _ h => h) rfl (fun w hS => run_extract (vs := [.agg #[.bool nO6, sO6], .agg #[.bool mO6, tO6], .int .i64 0]) rfl rfl rfl) (E.2.2.2.2) ?_
         simp only [Act.put,q1,q2,q3]
         refine HP (i := 9) (o := ⟨some 90, _, _, _, _, _⟩) (v := .agg #[.bool mO6, tO6]) rfl (by kernel_rfl) (fun _ _ _ h => h) rfl (fun w hS => run_extract (vs := [.agg #[.bool nO6, sO6], .agg #[.bool mO6, tO6], .int .i64 0]) rfl rfl rfl) (E.2.2.2.2) ?_
         simp only [Act.put,q1,q2,q3]
         refine HP (i := 10) (o := ⟨some 91, _, _, _, _, _⟩) (v := .int .i64 0) rfl (by kernel_rfl) (fun _ _ _ h => h) rfl (fun w hS => run_extract (vs := [.agg #[.bool nO6, sO6], .agg #[.bool mO6, tO6], .int .i64 0]) rfl rfl rfl) (E.2.2.2.2) ?_
         simp only [Act.put,q1,q2,q3]
         refine H1 (i := 13) (by kernel_rfl) ?_
         refine HE (o := ⟨none, _, _, _, _, _⟩) rfl rfl (Oper.wp_store AgI rfl rfl rfl xO11 rfl rfl (IsI.one (E.2.1)) ?_)
         intro wO13 oO13 yO13
         replace E := (E.onl (xO11.noW now0) ⟨trivial, trivial, trivial, trivial, okB (by omega), trivial, trivial, okB (by omega), okB (by omega), trivial, trivial, trivial, trivial, okB (by omega), trivial, trivial, trivial, okB (by omega), trivial, okB (by omega), trivial, trivial, okB (by omega), trivial, okB (by omega), trivial, okB (by omega), trivial, okB (by omega), okB (by omega), okB (by omega), okW (by omega), trivial⟩ oO13).b yO13
         replace xO12 := Bx.onl xO12 (by omega) oO13
         clear xO11 oO13 yO13
         refine ⟨E.2.2.2.2.2, ?_⟩
         simp only [Act.put]
         refine H1 (i := 14) (by kernel_rfl) ?_
         refine HE (o := ⟨none, _, _, _, _, _⟩) rfl rfl (Oper.wp_store AgI rfl rfl rfl xO12 rfl rfl (IsI.one (E.2.1)) ?_)
         intro wO14 oO14 yO14
         replace E := (E.onl (xO12.noW now0) ⟨okB (by omega), trivial, trivial, trivial, trivial, okB (by omega), trivial, trivial, okB (by omega), okB (by omega), trivial, trivial, trivial, trivial, okB (by omega), trivial, trivial, trivial, okB (by omega), trivial, okB (by omega), trivial, trivial, okB (by omega), trivial, okB (by omega), trivial, okB (by omega), trivial, okB (by omega), okB (by omega), okB (by omega), okW (by omega), trivial⟩ oO14).b yO14
         clear xO12 oO14 yO14
         refine ⟨E.2.2.2.2.2.2, ?_⟩
         simp only [Act.put]
         refine HP (i := 15) (o := ⟨some 20, _, _, _, _, _⟩) (v := .int .i64 0) rfl (by kernel_rfl) (fun _ _ _ h => h) rfl (fun w hS => run_assign rfl rfl) (E.2.2.2.2.2.2) ?_
         simp only [Act.put,q1,q2,q3]
         refine HN (by kernel_rfl) ?_
         exact ⟨nO3, sO3, nO4, sO4, nO6, sO6, mO6, tO6, bO11, bO12, rfl, (Env.b (Env.b (Env.i (Env.i (Env.i (Env.i (Env.b (Env.i (Env.i (Env.b (Env.b (Env.i (Env.i (Env.i (Env.s (Env.b (Env.i (Env.s (Env.i (Env.b (Env.i (Env.b (Env.i (Env.i (Env.b (Env.i (Env.b (Env.i (Env.b (Env.i (Env.b (Env.b (Env.b (Env.ww (Env.nil _) (E.2.2.2.2.2.2.2.2.2.2.2.2.2.2.2.2.2.2.2.2.2.2.2.2.2.2.2.2.2.2.2.2.2.1)) (E.2.2.2.2.2.2.2.2.2.2.2.2.2.2.2.2.2.2.2.2.2.2.2.2.2.2.2.2.2.2.2.2.1)) (E.2.2.2.2.2.2.2.2.2.2.2.2.2.2.2.2.2.2.2.2.2.2.2.2.2.2.2.2.2.2.2.1)) (E.2.2.2.2.2.2.2.2.2.2.2.2.2.2.2.2.2.2.2.2.2.2.2.2.2.2.2.2.2.2.1)) (E.2.2.2.2.2.2.2.2.2.2.2.2.2.2.2.2.2.2.2.2.2.2.2.2.2.2.2.2.2.1)) (E.2.2.2.2.2.2.2.2.2.2.2.2.2.2.2.2.2.2.2.2.2.2.2.2.2.2.2.2.1)) (E.2.2.2.2.2.2.2.2.2.2.2.2.2.2.2.2.2.2.2.2.2.2.2.2.2.2.2.1)) (E.2.2.2.2.2.2.2.2.2.2.2.2.2.2.2.2.2.2.2.2.2.2.2.2.2.2.1)) (E.2.2.2.2.2.2.2.2.2.2.2.2.2.2.2.2.2.2.2.2.2.2.2.2.2.1)) (E.2.2.2.2.2.2.2.2.2.2.2.2.2.2.2.2.2.2.2.2.2.2.2.2.1)) (E.2.2.2.2.2.2.2.2.2.2.2.2.2.2.2.2.2.2.2.2.2.2.2.1)) (E.2.2.2.2.2.2.2.2.2.2.2.2.2.2.2.2.2.2.2.2.2.2.1)) (E.2.2.2.2.2.2.2.2.2.2.2.2.2.2.2.2.2.2.2.2.2.1)) (E.2.2.2.2.2.2.2.2.2.2.2.2.2.2.2.2.2.2.2.2.1)) (E.2.2.2.2.2.2.2.2.2.2.2.2.2.2.2.2.2.2.2.1)) (E.2.2.2.2.2.2.2.2.2.2.2.2.2.2.2.2.2.2.1)) (E.2.2.2.2.2.2.2.2.2.2.2.2.2.2.2.2.2.1)) (E.2.2.2.2.2.2.2.2.2.2.2.2.2.2.2.2.1)) (E.2.2.2.2.2.2.2.2.2.2.2.2.2.2.2.1)) (E.2.2.2.2.2.2.2.2.2.2.2.2.2.2.1)) (E.2.2.2.2.2.2.2.2.2.2.2.2.2.1)) (E.2.2.2.2.2.2.2.2.2.2.2.2.1)) (E.2.2.2.2.2.2.2.2.2.2.2.1)) (E.2.2.2.2.2.2.2.2.2.2.1)) (E.2.2.2.2.2.2.2.2.2.1)) (E.2.2.2.2.2.2.2.2.1)) (E.2.2.2.2.2.2.2.1)) (E.2.2.2.2.2.2.1)) (E.2.2.2.2.2.1)) (E.2.2.2.2.1)) (E.2.2.2.1)) (E.2.2.1)) (E.2.1)) (E.1)), by omega, by omega, by omega, by omega, by omega⟩
       ·
        refine HE (o := ⟨some 19, _, _, _, _, _⟩) rfl rfl (Oper.wp_alloc AgI rfl ?_)
        intro bO12 wO12 eO12 zO12 dO12 xO12
        have lO12_0 : bM10 < bO12 := by rw [eO12]; exact Bx.lt (E.2.2.2.2.1)
        have lO12_1 : bM11 < bO12 := by rw [eO12]; exact Bx.lt (E.2.2.2.1)
        replace E := E.below dO12
        clear eO12 zO12 dO12
        refine ⟨E, ?_⟩
        simp only [Act.put,q1,q2,q3]
        refine H2 (i := 3) (j := 11) (by kernel_rfl) ?_ ?_
        ·
         refine HE (o := ⟨some 85, _, _, _, _, _⟩) rfl rfl (Oper.wp_callI fn_integer_Mul rfl (Mul_z _ _ (u1 % ((y.natAbs : Int) / (r.natAbs : Int))) x _ (E.2.1) (E.2.2.2.2.2.2.2.2.2.2.2.2.2.2.2.2.2.2.2.2.2.1) (Fits.mono Fu2 (by decide)) (Fits.mono Fx (by decide))) rfl E ?_)
         clear E
         intro wO3 nO3 sO3 dO3 E
         replace xO12 := xO12.below dO3
         clear dO3
         refine ⟨E.2, ?_⟩
         simp only [Act.put,q1,q2,q3]
         refine H2 (i := 4) (j := 11) (by kernel_rfl) ?_ ?_
         ·
          refine HE (o := ⟨some 86, _, _, _, _, _⟩) rfl rfl (Oper.wp_callI fn_integer_Sub rfl (Sub_z _ _ (r.natAbs : Int) ((u1 % ((y.natAbs : Int) / (r.natAbs : Int))) * x) _ (E.2.2.2.2.2.2.2.2.2.2.2.1) (E.1) (Fits.mono Fg (by decide)) (Fits.mono Fm (by decide))) rfl E ?_)
          clear E
          intro wO4 nO4 sO4 dO4 E
          replace xO12 := xO12.below dO4
          clear dO4
          refine ⟨E.2.2, ?_⟩
          simp only [Act.put,q1,q2,q3]
          refine H2 (i := 6) (j := 11) (by kernel_rfl) ?_ ?_
          ·
           refine HE (o := ⟨some 88, _, _, _, _, _⟩) rfl rfl (Oper.wp_callIIE fn_integer_DivMod rfl (DivMod_z _ _ ((r.natAbs : Int) - ((u1 % ((y.natAbs : Int) / (r.natAbs : Int))) * x)) y _ (E.1) (E.2.2.2.2.2.2.2.2.2.2.2.2.2.2.2.2.2.2.2.2.2.2.2.2.2.1) (hy) (Fits.mono Fd (by decide)) (Fits.mono Fy (by decide))) rfl E ?_)
           clear E
           intro wO6 nO6 sO6 mO6 tO6 dO6 E
           replace xO12 := xO12.below dO6
           clear dO6
           refine ⟨E.2.2.2.2, ?_⟩
           simp only [Act.put,q1,q2,q3]
           refine HP (i := 7) (o := ⟨some 81, _, _, _, _, _⟩) (v := .tuple #[.agg #[.bool nO6, sO6], .agg #[.bool mO6, tO6], .int .i64 0]) rfl (by kernel_rfl) (fun _ _ _ h => h) rfl (fun w hS => run_move rfl rfl) (E.2.2.2.2) ?_
           simp only [Act.put,q1,q2,q3]
           refine HP (i := 8) (o := ⟨some 89, _, _, _, _, _⟩) (v := .agg #[.bool nO6, sO6]) rfl (by kernel_rfl) (fun _ _ _ h => h) rfl (fun w hS => run_extract (vs := [.agg #[.bool nO6, sO6], .agg #[.bool mO6, tO6], .int .i64 0]) rfl rfl rfl) (E.2.2.2.2) ?_
           simp only [Act.put,q1,q2,q3]
           refine HP (i := 9) (o := ⟨some 90, _, _, _, _, _⟩) (v := .agg #[.bool mO6, tO6]) rfl (by kernel_rfl) (fun _ _ _ h => h) rfl (fun w hS => run_extract (vs := [.agg #[.bool nO6, sO6], .agg #[.bool mO6, tO6], .int .i64 0]) rfl rfl rfl) (E.2.2.2.2) ?_
           simp only [Act.put,q1,q2,q3]
           refine HP (i := 10) (o := ⟨some 91, _, _, _, _, _⟩) (v := .int .i64 0) rfl (by kernel_rfl) (fun _ _ _ h => h) rfl (fun w hS => run_extract (vs := [.agg #[.bool nO6, sO6], .agg #[.bool mO6, tO6], .int .i64 0]) rfl rfl rfl) (E.2.2.2.2) ?_
           simp only [Act.put,q1,q2,q3]
           refine H1 (i := 11) (by kernel_rfl) ?_
           refine HE (o := ⟨some 18, _, _, _, _, _⟩) rfl rfl (Oper.wp_alloc AgI rfl ?_)
           intro bO11 wO11 eO11 zO11 dO11 xO11
           have lO11_0 : bO12 < bO11 := by rw [eO11]; exact Bx.lt (xO12)
           replace E := E.below dO11
           replace xO12 := Bx.below xO12 dO11
           clear eO11 zO11 dO11
           refine ⟨E.2.2.2.2, ?_⟩
           simp only [Act.put,q1,q2,q3]
           refine H1 (i := 13) (by kernel_rfl) ?_
           refine HE (o := ⟨none, _, _, _, _, _⟩) rfl rfl (Oper.wp_store AgI rfl rfl rfl xO11 rfl rfl (IsI.one (E.2.1)) ?_)
           intro wO13 oO13 yO13
           replace E := (E.onl (xO11.noW now0) ⟨trivial, trivial, trivial, trivial, okB (by omega), trivial, trivial, okB (by omega), okB (by omega), trivial, trivial, trivial, trivial, okB (by omega), trivial, trivial, trivial, okB (by omega), trivial, okB (by omega), trivial, trivial, okB (by omega), trivial, okB (by omega), trivial, okB (by omega), trivial, okB (by omega), okB (by omega), okB (by omega), okW (by omega), trivial⟩ oO13).b yO13
           replace xO12 := Bx.onl xO12 (by omega) oO13
           clear xO11 oO13 yO13
           refine ⟨E.2.2.2.2.2, ?_⟩
           simp only [Act.put]
           refine H1 (i := 14) (by kernel_rfl) ?_
           refine HE (o := ⟨none, _, _, _, _, _⟩) rfl rfl (Oper.wp_store AgI rfl rfl rfl xO12 rfl rfl (IsI.one (E.2.1)) ?_)
           intro wO14 oO14 yO14
           replace E := (E.onl (xO12.noW now0) ⟨okB (by omega), trivial, trivial, trivial, trivial, okB (by omega), trivial, trivial, okB (by omega), okB (by omega), trivial, trivial, trivial, trivial, okB (by omega), trivial, trivial, trivial, okB (by omega), trivial, okB (by omega), trivial, trivial, okB (by omega), trivial, okB (by omega), trivial, okB (by omega), trivial, okB (by omega), okB (by omega), okB (by omega), okW (by omega), trivial⟩ oO14).b yO14
           clear xO12 oO14 yO14
           refine ⟨E.2.2.2.2.2.2, ?_⟩
           simp only [Act.put]
           refine HP (i := 15) (o := ⟨some 20, _, _, _, _, _⟩) (v := .int .i64 0) rfl (by kernel_rfl) (fun _ _ _ h => h) rfl (fun w hS => run_assign rfl rfl) (E.2.2.2.2.2.2) ?_
           simp only [Act.put,q1,q2,q3]
           refine HN (by kernel_rfl) ?_
           exact ⟨nO3, sO3, nO4, sO4, nO6, sO6, mO6, tO6, bO11, bO12, rfl, (Env.b (Env.b (Env.i (Env.i (Env.i (Env.i (Env.b (Env.i (Env.i (Env.b (Env.b (Env.i (Env.i (Env.i (Env.s (Env.b (Env.i (Env.s (Env.i (Env.b (Env.i (Env.b (Env.i (Env.i (Env.b (Env.i (Env.b (Env.i (Env.b (Env.i (Env.b (Env.b (Env.b (Env.ww (Env.nil _) (E.2.2.2.2.2.2.2.2.2.2.2.2.2.2.2.2.2.2.2.2.2.2.2.2.2.2.2.2.2.2.2.2.2.1)) (E.2.2.2.2.2.2.2.2.2.2.2.2.2.2.2.2.2.2.2.2.2.2.2.2.2.2.2.2.2.2.2.2.1)) (E.2.2.2.2.2.2.2.2.2.2.2.2.2.2.2.2.2.2.2.2.2.2.2.2.2.2.2.2.2.2.2.1)) (E.2.2.2.2.2.2.2.2.2.2.2.2.2.2.2.2.2.2.2.2.2.2.2.2.2.2.2.2.2.2.1)) (E.2.2.2.2.2.2.2.2.2.2.2.2.2.2.2.2.2.2.2.2.2.2.2.2.2.2.2.2.2.1)) (E.2.2.2.2.2.2.2.2.2.2.2.2.2.2.2.2.2.2.2.2.2.2.2.2.2.2.2.2.1)) (E.2.2.2.2.2.2.2.2.2.2.2.2.2.2.2.2.2.2.2.2.2.2.2.2.2.2.2.1)) (E.2.2.2.2.2.2.2.2.2.2.2.2.2.2.2.2.2.2.2.2.2.2.2.2.2.2.1)) (E.2.2.2.2.2.2.2.2.2.2.2.2.2.2.2.2.2.2.2.2.2.2.2.2.2.1)) (E.2.2.2.2.2.2.2.2.2.2.2.2.2.2.2.2.2.2.2.2.2.2.2.2.1)) (E.2.2.2.2.2.2.2.2.2.2.2.2.2.2.2.2.2.2.2.2.2.2.2.1)) (E.2.2.2.2.2.2.2.2.2.2.2.2.2.2.2.2.2.2.2.2.2.2.1)) (E.2.2.2.2.2.2.2.2.2.2.2.2.2.2.2.2.2.2.2.2.2.1)) (E.2.2.2.2.2.2.2.2.2.2.2.2.2.2.2.2.2.2.2.2.1)) (E.2.2.2.2.2.2.2.2.2.2.2.2.2.2.2.2.2.2.2.1)) (E.2.2.2.2.2.2.2.2.2.2.2.2.2.2.2.2.2.2.1)) (E.2.2.2.2.2.2.2.2.2.2.2.2.2.2.2.2.2.1)) (E.2.2.2.2.2.2.2.2.2.2.2.2.2.2.2.2.1)) (E.2.2.2.2.2.2.2.2.2.2.2.2.2.2.2.1)) (E.2.2.2.2.2.2.2.2.2.2.2.2.2.2.1)) (E.2.2.2.2.2.2.2.2.2.2.2.2.2.1)) (E.2.2.2.2.2.2.2.2.2.2.2.2.1)) (E.2.2.2.2.2.2.2.2.2.2.2.1)) (E.2.2.2.2.2.2.2.2.2.2.1)) (E.2.2.2.2.2.2.2.2.2.1)) (E.2.2.2.2.2.2.2.2.1)) (E.2.2.2.2.2.2.2.1)) (E.2.2.2.2.2.2.1)) (E.2.2.2.2.2.1)) (E.2.2.2.2.1)) (E.2.2.2.1)) (E.2.2.1)) (E.2.1)) (E.1)), by omega, by omega, by omega, by omega, by omega⟩
          ·
           refine HE (o := ⟨some 18, _, _, _, _, _⟩) rfl rfl (Oper.wp_alloc AgI rfl ?_)
           intro bO11 wO11 eO11 zO11 dO11 xO11
           have lO11_0 : bO12 < bO11 := by rw [eO11]; exact Bx.lt (xO12)
           replace E := E.below dO11
           replace xO12 := Bx.below xO12 dO11
           clear eO11 zO11 dO11
           refine ⟨E.2.2, ?_⟩
           simp only [Act.put,q1,q2,q3]
           refine H1 (i := 6) (by kernel_rfl) ?_
           refine HE (o := ⟨some 88, _, _, _, _, _⟩) rfl rfl (Oper.wp_callIIE fn_integer_DivMod rfl (DivMod_z _ _ ((r.natAbs : Int) - ((u1 % ((y.natAbs : Int) / (r.natAbs : Int))) * x)) y _ (E.1) (E.2.2.2.2.2.2.2.2.2.2.2.2.2.2.2.2.2.2.2.2.2.2.2.2.2.1) (hy) (Fits.mono Fd (by decide)) (Fits.mono Fy (by decide))) rfl E ?_)
           clear E
           intro wO6 nO6 sO6 mO6 tO6 dO6 E
           replace xO12 := xO12.below dO6
           replace xO11 := xO11.below dO6
           clear dO6
           refine ⟨E.2.2.2.2, ?_⟩
           simp only [Act.put,q1,q2,q3]
           refine HP (i := 7) (o := ⟨some 81, _, _, _, _, _⟩) (v := .tuple #[.agg #[.bool nO6, sO6], .agg #[.bool mO6, tO6], .int .i64 0]) rfl (by kernel_rfl) (fun _ _ _ h => h) rfl (fun w hS => run_move rfl rfl) (E.2.2.2.2) ?_
           simp only [Act.put,q1,q2,q3]
           refine HP (i := 8) (o := ⟨some 89, _, _, _, _, _⟩) (v := .agg #[.bool nO6, sO6]) rfl (by kernel_rfl) (fun _ _ _ h => h) rfl (fun w hS => run_extract (vs := [.agg #[.bool nO6, sO6], .agg #[.bool mO6, tO6], .int .i64 0]) rfl rfl rfl) (E.2.2.2.2) ?_
           simp only [Act.put,q1,q2,q3]
           refine HP (i := 9) (o := ⟨some 90, _, _, _, _, _⟩) (v := .agg #[.bool mO6, tO6]) rfl (by kernel_rfl) (fun _ _ _ h => h) rfl (fun w hS => run_extract (vs := [.agg #[.bool nO6, sO6], .agg #[.bool mO6, tO6], .int .i64 0]) rfl rfl rfl) (E.2.2.2.2) ?_
           simp only [Act.put,q1,q2,q3]
           refine HP (i := 10) (o := ⟨some 91, _, _, _, _, _⟩) (v := .int .i64 0) rfl (by kernel_rfl) (fun _ _ _ h => h) rfl (fun w hS => run_extract (vs := [.agg #[.bool nO6, sO6], .agg #[.bool mO6, tO6], .int .i64 0]) rfl rfl rfl) (E.2.2.2.2) ?_
           simp only [Act.put,q1,q2,q3]
           refine H1 (i := 13) (by kernel_rfl) ?_
           refine HE (o := ⟨none, _, _, _, _, _⟩) rfl rfl (Oper.wp_store AgI rfl rfl rfl xO11 rfl rfl (IsI.one (E.2.1)) ?_)
           intro wO13 oO13 yO13
           replace E := (E.onl (xO11.noW now0) ⟨trivial, trivial, trivial, trivial, okB (by omega), trivial, trivial, okB (by omega), okB (by omega), trivial, trivial, trivial, trivial, okB (by omega), trivial, trivial, trivial, okB (by omega), trivial, okB (by omega), trivial, trivial, okB (by omega), trivial, okB (by omega), trivial, okB (by omega), trivial, okB (by omega), okB (by omega), okB (by omega), okW (by omega), trivial⟩ oO13).b yO13
           replace xO12 := Bx.onl xO12 (by omega) oO13
           clear xO11 oO13 yO13
           refine ⟨E.2.2.2.2.2, ?_⟩
           simp only [Act.put]
           refine H1 (i := 14) (by kernel_rfl) ?_
           refine HE (o := ⟨none, _, _, _, _, _⟩) rfl rfl (Oper.wp_store AgI rfl rfl rfl xO12 rfl rfl (IsI.one (E.2.1)) ?_)
           intro wO14 oO14 yO14
           replace E := (E.onl (xO12.noW now0) ⟨okB (by omega), trivial, trivial, trivial, trivial, okB (by omega), trivial, trivial, okB (by omega), okB (by omega), trivial, trivial, trivial, trivial, okB (by omega), trivial, trivial, trivial, okB (by omega), trivial, okB (by omega), trivial, trivial, okB (by omega), trivial, okB (by omega), trivial, okB (by omega), trivial, okB (by omega), okB (by omega), okB (by omega), okW (by omega), trivial⟩ oO14).b yO14
           clear xO12 oO14 yO14
           refine ⟨E.2.2.2.2.2.2, ?_⟩
           simp only [Act.put]
           refine HP (i := 15) (o := ⟨some 20, _, _, _, _, _⟩) (v := .int .i64 0) rfl (by kernel_rfl) (fun _ _ _ h => h) rfl (fun w hS => run_assign rfl rfl) (E.2.2.2.2.2.2) ?_
           simp only [Act.put,q1,q2,q3]
           refine HN (by kernel_rfl) ?_
           exact ⟨nO3, sO3, nO4, sO4, nO6, sO6, mO6, tO6, bO11, bO12, rfl, (Env.b (Env.b (Env.i (Env.i (Env.i (Env.i (Env.b (Env.i (Env.i (Env.b (Env.b (Env.i (Env.i (Env.i (Env.s (Env.b (Env.i (Env.s (Env.i (Env.b (Env.i (Env.b (Env.i (Env.i (Env.b (Env.i (Env.b (Env.i (Env.b (Env.i (Env.b (Env.b (Env.b (Env.ww (Env.nil _) (E.2.2.2.2.2.2.2.2.2.2.2.2.2.2.2.2.2.2.2.2.2.2.2.2.2.2.2.2.2.2.2.2.2.1)) (E.2.2.2.2.2.2.2.2.2.2.2.2.2.2.2.2.2.2.2.2.2.2.2.2.2.2.2.2.2.2.2.2.1)) (E.2.2.2.2.2.2.2.2.2.2.2.2.2.2.2.2.2.2.2.2.2.2.2.2.2.2.2.2.2.2.2.1)) (E.2.2.2.2.2.2.2.2.2.2.2.2.2.2.2.2.2.2.2.2.2.2.2.2.2.2.2.2.2.2.1)) (E.2.2.2.2.2.2.2.2.2.2.2.2.2.2.2.2.2.2.2.2.2.2.2.2.2.2.2.2.2.1)) (E.2.2.2.2.2.2.2.2.2.2.2.2.2.2.2.2.2.2.2.2.2.2.2.2.2.2.2.2.1)) (E.2.2.2.2.2.2.2.2.2.2.2.2.2.2.2.2.2.2.2.2.2.2.2.2.2.2.2.1)) (E.2.2.2.2.2.2.2.2.2.2.2.2.2.2.2.2.2.2.2.2.2.2.2.2.2.2.1)) (E.2.2.2.2.2.2.2.2.2.2.2.2.2.2.2.2.2.2.2.2.2.2.2.2.2.1)) (E.2.2.2.2.2.2.2.2.2.2.2.2.2.2.2.2.2.2.2.2.2.2.2.2.1)) (E.2.2.2.2.2.2.2.2.2.2.2.2.2.2.2.2.2.2.2.2.2.2.2.1)) (E.2.2.2.2.2.2.2.2.2.2.2.2.2.2.2.2.2.2.2.2.2.2.1)) (E.2.2.2.2.2.2.2.2.2.2.2.2.2.2.2.2.2.2.2.2.2.1)) (E.2.2.2.2.2.2.2.2.2.2.2.2.2.2.2.2.2.2.2.2.1)) (E.2.2.2.2.2.2.2.2.2.2.2.2.2.2.2.2.2.2.2.1)) (E.2.2.2.2.2.2.2.2.2.2.2.2.2.2.2.2.2.2.1)) (E.2.2.2.2.2.2.2.2.2.2.2.2.2.2.2.2.2.1)) (E.2.2.2.2.2.2.2.2.2.2.2.2.2.2.2.2.1)) (E.2.2.2.2.2.2.2.2.2.2.2.2.2.2.2.1)) (E.2.2.2.2.2.2.2.2.2.2.2.2.2.2.1)) (E.2.2.2.2.2.2.2.2.2.2.2.2.2.1)) (E.2.2.2.2.2.2.2.2.2.2.2.2.1)) (E.2.2.2.2.2.2.2.2.2.2.2.1)) (E.2.2.2.2.2.2.2.2.2.2.1)) (E.2.2.2.2.2.2.2.2.2.1)) (E.2.2.2.2.2.2.2.2.1)) (E.2.2.2.2.2.2.2.1)) (E.2.2.2.2.2.2.1)) (E.2.2.2.2.2.1)) (E.2.2.2.2.1)) (E.2.2.2.1)) (E.2.2.1)) (E.2.1)) (E.1)), by omega, by omega, by omega, by omega, by omega⟩
         ·
          refine HE (o := ⟨some 18, _, _, _, _, _⟩) rfl rfl (Oper.wp_alloc AgI rfl ?_)
          intro bO11 wO11 eO11 zO11 dO11 xO11
          have lO11_0 : bO12 < bO11 := by rw [eO11]; exact Bx.lt (xO12)
          replace E := E.below dO11
          replace xO12 := Bx.below xO12 dO11
          clear eO11 zO11 dO11
          refine ⟨E.2, ?_⟩
          simp only [Act.put,q1,q2,q3]
          refine H1 (i := 4) (by kernel_rfl) ?_
          refine HE (o := ⟨some 86, _, _, _, _, _⟩) rfl rfl (Oper.wp_callI fn_integer_Sub rfl (Sub_z _ _ (r.natAbs : Int) ((u1 % ((y.natAbs : Int) / (r.natAbs : Int))) * x) _ (E.2.2.2.2.2.2.2.2.2.2.2.1) (E.1) (Fits.mono Fg (by decide)) (Fits.mono Fm (by decide))) rfl E ?_)
          clear E
          intro wO4 nO4 sO4 dO4 E
          replace xO12 := xO12.below dO4
          replace xO11 := xO11.below dO4
          clear dO4
          refine ⟨E.2.2, ?_⟩
          simp only [Act.put,q1,q2,q3]
          refine H1 (i := 6) (by kernel_rfl) ?_
          refine HE (o := ⟨some 88, _, _, _, _, _⟩) rfl rfl (Oper.wp_callIIE fn_integer_DivMod rfl (DivMod_z _ _ ((r.natAbs : Int) - ((u1 % ((y.natAbs : Int) / (r.natAbs : Int))) * x)) y _ (E.1) (E.2.2.2.2.2.2.2.2.2.2.2.2.2.2.2.2.2.2.2.2.2.2.2.2.2.1) (hy) (Fits.mono Fd (by decide)) (Fits.mono Fy (by decide))) rfl E ?_)
          clear E
          intro wO6 nO6 sO6 mO6 tO6 dO6 E
          replace xO12 := xO12.below dO6
          replace xO11 := xO11.below dO6
          clear dO6
          refine ⟨E.2.2.2.2, ?_⟩
          simp only [Act.put,q1,q2,q3]
          refine HP (i := 7) (o := ⟨some 81, _, _, _, _, _⟩) (v := .tuple #[.agg #[.bool nO6, sO6], .agg #[.bool mO6, tO6], .int .i64 0]) rfl (by kernel_rfl) (fun _ _ _ h => h) rfl (fun w hS => run_move rfl rfl) (E.2.2.2.2) ?_
          simp only [Act.put,q1,q2,q3]
          refine HP (i := 8) (o := ⟨some 89, _, _, _, _, _⟩) (v := .agg #[.bool nO6, sO6]) rfl (by kernel_rfl) (fun _ _ _ h => h) rfl (fun w hS => run_extract (vs := [.agg #[.bool nO6, sO6], .agg #[.bool mO6, tO6], .int .i64 0]) rfl rfl rfl) (E.2.2.2.2) ?_
          simp only [Act.put,q1,q2,q3]
          refine HP (i := 9) (o := ⟨some 90, _, _, _, _, _⟩) (v := .agg #[.bool mO6, tO6]) rfl (by kernel_rfl) (fun _ _ _ h => h) rfl (fun w hS => run_extract (vs := [.agg #[.bool nO6, sO6], .agg #[.bool mO6, tO6], .int .i64 0]) rfl rfl rfl) (E.2.2.2.2) ?_
          simp only [Act.put,q1,q2,q3]
          refine HP (i := 10) (o := ⟨some 91, _, _, _, _, _⟩) (v := .int .i64 0) rfl (by kernel_rfl) (fun _ _ _ h => h) rfl (fun w hS => run_extract (vs := [.agg #[.bool nO6, sO6], .agg #[.bool mO6, tO6], .int .i64 0]) rfl rfl rfl) (E.2.2.2.2) ?_
          simp only [Act.put,q1,q2,q3]
          refine H1 (i := 13) (by kernel_rfl) ?_
          refine HE (o := ⟨none, _, _, _, _, _⟩) rfl rfl (Oper.wp_store AgI rfl rfl rfl xO11 rfl rfl (IsI.one (E.2.1)) ?_)
          intro wO13 oO13 yO13
          replace E := (E.onl (xO11.noW now0) ⟨trivial, trivial, trivial, trivial, okB (by omega), trivial, trivial, okB (by omega), okB (by omega), trivial, trivial, trivial, trivial, okB (by omega), trivial, trivial, trivial, okB (by omega), trivial, okB (by omega), trivial, trivial, okB (by omega), trivial, okB (by omega), trivial, okB (by omega), trivial, okB (by omega), okB (by omega), okB (by omega), okW (by omega), trivial⟩ oO13).b yO13
          replace xO12 := Bx.onl xO12 (by omega) oO13
          clear xO11 oO13 yO13
          refine ⟨E.2.2.2.2.2, ?_⟩
          simp only [Act.put]
          refine H1 (i := 14) (by kernel_rfl) ?_
          refine HE (o := ⟨none, _, _, _, _, _⟩) rfl rfl (Oper.wp_store AgI rfl rfl rfl xO12 rfl rfl (IsI.one (E.2.1)) ?_)
          intro wO14 oO14 yO14
          replace E := (E.onl (xO12.noW now0) ⟨okB (by omega), trivial, trivial, trivial, trivial, okB (by omega), trivial, trivial, okB (by omega), okB (by omega), trivial, trivial, trivial, trivial, okB (by omega), trivial, trivial, trivial, okB (by omega), trivial, okB (by omega), trivial, trivial, okB (by omega), trivial, okB (by omega), trivial, okB (by omega), trivial, okB (by omega), okB (by omega), okB (by omega), okW (by omega), trivial⟩ oO14).b yO14
          clear xO12 oO14 yO14
          refine ⟨E.2.2.2.2.2.2, ?_⟩
          simp only [Act.put]
          refine HP (i := 15) (o := ⟨some 20, _, _, _, _, _⟩) (v := .int .i64 0) rfl (by kernel_rfl) (fun _ _ _ h => h) rfl (fun w hS => run_assign rfl rfl) (E.2.2.2.2.2.2) ?_
          simp only [Act.put,q1,q2,q3]
          refine HN (by kernel_rfl) ?_
          exact ⟨nO3, sO3, nO4, sO4, nO6, sO6, mO6, tO6, bO11, bO12, rfl, (Env.b (Env.b (Env.i (Env.i (Env.i (Env.i (Env.b (Env.i (Env.i (Env.b (Env.b (Env.i (Env.i (Env.i (Env.s (Env.b (Env.i (Env.s (Env.i (Env.b (Env.i (Env.b (Env.i (Env.i (Env.b (Env.i (Env.b (Env.i (Env.b (Env.i (Env.b (Env.b (Env.b (Env.ww (Env.nil _) (E.2.2.2.2.2.2.2.2.2.2.2.2.2.2.2.2.2.2.2.2.2.2.2.2.2.2.2.2.2.2.2.2.2.1)) (E.2.2.2.2.2.2.2.2.2.2.2.2.2.2.2.2.2.2.2.2.2.2.2.2.2.2.2.2.2.2.2.2.1)) (E.2.2.2.2.2.2.2.2.2.2.2.2.2.2.2.2.2.2.2.2.2.2.2.2.2.2.2.2.2.2.2.1)) (E.2.2.2.2.2.2.2.2.2.2.2.2.2.2.2.2.2.2.2.2.2.2.2.2.2.2.2.2.2.2.1)) (E.2.2.2.2.2.2.2.2.2.2.2.2.2.2.2.2.2.2.2.2.2.2.2.2.2.2.2.2.2.1)) (E.2.2.2.2.2.2.2.2.2.2.2.2.2.2.2.2.2.2.2.2.2.2.2.2.2.2.2.2.1)) (E.2.2.2.2.2.2.2.2.2.2.2.2.2.2.2.2.2.2.2.2.2.2.2.2.2.2.2.1)) (E.2.2.2.2.2.2.2.2.2.2.2.2.2.2.2.2.2.2.2.2.2.2.2.2.2.2.1)) (E.2.2.2.2.2.2.2.2.2.2.2.2.2.2.2.2.2.2.2.2.2.2.2.2.2.1)) (E.2.2.2.2.2.2.2.2.2.2.2.2.2.2.2.2.2.2.2.2.2.2.2.2.1)) (E.2.2.2.2.2.2.2.2.2.2.2.2.2.2.2.2.2.2.2.2.2.2.2.1)) (E.2.2.2.2.2.2.2.2.2.2.2.2.2.2.2.2.2.2.2.2.2.2.1)) (E.2.2.2.2.2.2.2.2.2.2.2.2.2.2.2.2.2.2.2.2.2.1)) (E.2.2.2.2.2.2.2.2.2.2.2.2.2.2.2.2.2.2.2.2.1)) (E.2.2.2.2.2.2.2.2.2.2.2.2.2.2.2.2.2.2.2.1)) (E.2.2.2.2.2.2.2.2.2.2.2.2.2.2.2.2.2.2.1)) (E.2.2.2.2.2.2.2.2.2.2.2.2.2.2.2.2.2.1)) (E.2.2.2.2.2.2.2.2.2.2.2.2.2.2.2.2.1)) (E.2.2.2.2.2.2.2.2.2.2.2.2.2.2.2.1)) (E.2.2.2.2.2.2.2.2.2.2.2.2.2.2.1)) (E.2.2.2.2.2.2.2.2.2.2.2.2.2.1)) (E.2.2.2.2.2.2.2.2.2.2.2.2.1)) (E.2.2.2.2.2.2.2.2.2.2.2.1)) (E.2.2.2.2.2.2.2.2.2.2.1)) (E.2.2.2.2.2.2.2.2.2.1)) (E.2.2.2.2.2.2.2.2.1)) (E.2.2.2.2.2.2.2.1)) (E.2.2.2.2.2.2.1)) (E.2.2.2.2.2.1)) (E.2.2.2.2.1)) (E.2.2.2.1)) (E.2.2.1)) (E.2.1)) (E.1)), by omega, by omega, by omega, by omega, by omega⟩
        ·
         refine HE (o := ⟨some 18, _, _, _, _, _⟩) rfl rfl (Oper.wp_alloc AgI rfl ?_)
         intro bO11 wO11 eO11 zO11 dO11 xO11
         have lO11_0 : bO12 < bO11 := by rw [eO11]; exact Bx.lt (xO12)
         replace E := E.below dO11
         replace xO12 := Bx.below xO12 dO11
         clear eO11 zO11 dO11
         refine ⟨E, ?_⟩
         simp only [Act.put,q1,q2,q3]
         refine H1 (i := 3) (by kernel_rfl) ?_
         refine HE (o := ⟨some 85, _, _, _, _, _⟩) rfl rfl (Oper.wp_callI fn_integer_Mul rfl (Mul_z _ _ (u1 % ((y.natAbs : Int) / (r.natAbs : Int))) x _ (E.2.1) (E.2.2.2.2.2.2.2.2.2.2.2.2.2.2.2.2.2.2.2.2.2.1) (Fits.mono Fu2 (by decide)) (Fits.mono Fx (by decide))) rfl E ?_)
         clear E
         intro wO3 nO3 sO3 dO3 E
         replace xO12 := xO12.below dO3
         replace xO11 := xO11.below dO3
         clear dO3
         refine ⟨E.2, ?_⟩
         simp only [Act.put,q1,q2,q3]
         refine H1 (i := 4) (by kernel_rfl) ?_
         refine HE (o := ⟨some 86, _, _, _, _, _⟩) rfl rfl (Oper.wp_callI fn_integer_Sub rfl (Sub_z _ _ (r.natAbs : Int) ((u1 % ((y.natAbs : Int) / (r.natAbs : Int))) * x) _ (E.2.2.2.2.2.2.2.2.2.2.2.1) (E.1) (Fits.mono Fg (by decide)) (Fits.mono Fm (by decide))) rfl E ?_)
         clear E
         intro wO4 nO4 sO4 dO4 E
         replace xO12 := xO12.below dO4
         replace xO11 := xO11.below dO4
         clear dO4
         refine ⟨E.2.2, ?_⟩
         simp only [Act.put,q1,q2,q3]
         refine H1 (i := 6) (by kernel_rfl) ?_
         refine HE (o := ⟨some 88, _, _, _, _, _⟩) rfl rfl (Oper.wp_callIIE fn_integer_DivMod rfl (DivMod_z _ _ ((r.natAbs : Int) - ((u1 % ((y.natAbs : Int) / (r.natAbs : Int))) * x)) y _ (E.1) (E.2.2.2.2.2.2.2.2.2.2.2.2.2.2.2.2.2.2.2.2.2.2.2.2.2.1) (hy) (Fits.mono Fd (by decide)) (Fits.mono Fy (by decide))) rfl E ?_)
         clear E
         intro wO6 nO6 sO6 mO6 tO6 dO6 E
         replace xO12 := xO12.below dO6
         replace xO11 := xO11.below dO6
         clear dO6
         refine ⟨E.2.2.2.2, ?_⟩
         simp only [Act.put,q1,q2,q3]
         refine HP (i := 7) (o := ⟨some 81, _, _, _, _, _⟩) (v := .tuple #[.agg #[.bool nO6, sO6], .agg #[.bool mO6, tO6], .int .i64 0]) rfl (by kernel_rfl) (fun _ _ _ h => h) rfl (fun w hS => run_move rfl rfl) (E.2.2.2.2) ?_
         simp only [Act.put,q1,q2,q3]
         refine HP (i := 8) (o := ⟨some 89, _, _, _, _, _⟩) (v := .agg #[.bool nO6, sO6]) rfl (by kernel_rfl) (fun _ _ _ h => h) rfl (fun w hS => run_extract (vs := [.agg #[.bool nO6, sO6], .agg #[.bool mO6, tO6], .int .i64 0]) rfl rfl rfl) (E.2.2.2.2) ?_
         simp only [Act.put,q1,q2,q3]
         refine HP (i := 9) (o := ⟨some 90, _, _, _, _, _⟩) (v := .agg #[.bool mO6, tO6]) rfl (by kernel_rfl) (fun _ _ _ h => h) rfl (fun w hS => run_extract (vs := [.agg #[.bool nO6, sO6], .agg #[.bool mO6, tO6], .int .i64 0]) rfl rfl rfl) (E.2.2.2.2) ?_
         simp only [Act.put,q1,q2,q3]
         refine HP (i := 10) (o := ⟨some 91, _, _, _, _, _⟩) (v := .int .i64 0) rfl (by kernel_rfl) (fun _ _ _ h => h) rfl (fun w hS => run_extract (vs := [.agg #[.bool nO6, sO6], .agg #[.bool mO6, tO6], .int .i64 0]) rfl rfl rfl) (E.2.2.2.2) ?_
         simp only [Act.put,q1,q2,q3]
         refine H1 (i := 13) (by kernel_rfl) ?_
         refine HE (o := ⟨none, _, _, _, _, _⟩) rfl rfl (Oper.wp_store AgI rfl rfl rfl xO11 rfl rfl (IsI.one (E.2.1)) ?_)
         intro wO13 oO13 yO13
         replace E := (E.onl (xO11.noW now0) ⟨trivial, trivial, trivial, trivial, okB (by omega), trivial, trivial, okB (by omega), okB (by omega), trivial, trivial, trivial, trivial, okB (by omega), trivial, trivial, trivial, okB (by omega), trivial, okB (by omega), trivial, trivial, okB (by omega), trivial, okB (by omega), trivial, okB (by omega), trivial, okB (by omega), okB (by omega), okB (by omega), okW (by omega), trivial⟩ oO13).b yO13
         replace xO12 := Bx.onl xO12 (by omega) oO13
         clear xO11 oO13 yO13
         refine ⟨E.2.2.2.2.2, ?_⟩
         simp only [Act.put]
         refine H1 (i := 14) (by kernel_rfl) ?_
         refine HE (o := ⟨none, _, _, _, _, _⟩) rfl rfl (Oper.wp_store AgI rfl rfl rfl xO12 rfl rfl (IsI.one (E.2.1)) ?_)
         intro wO14 oO14 yO14
         replace E := (E.onl (xO12.noW now0) ⟨okB (by omega), trivial, trivial, trivial, trivial, okB (by omega), trivial, trivial, okB (by omega), okB (by omega), trivial, trivial, trivial, trivial, okB (by omega), trivial, trivial, trivial, okB (by omega), trivial, okB (by omega), trivial, trivial, okB (by omega), trivial, okB (by omega), trivial, okB (by omega), trivial, okB (by omega), okB (by omega), okB (by omega), okW (by omega), trivial⟩ oO14).b yO14
         clear xO12 oO14 yO14
         refine ⟨E.2.2.2.2.2.2, ?_⟩
         simp only [Act.put]
         refine HP (i := 15) (o := ⟨some 20, _, _, _, _, _⟩) (v := .int .i64 0) rfl (by kernel_rfl) (fun _ _ _ h => h) rfl (fun w hS => run_assign rfl rfl) (E.2.2.2.2.2.2) ?_
         simp only [Act.put,q1,q2,q3]
         refine HN (by kernel_rfl) ?_
         exact ⟨nO3, sO3, nO4, sO4, nO6, sO6, mO6, tO6, bO11, bO12, rfl, (Env.b (Env.b (Env.i (Env.i (Env.i (Env.i (Env.b (Env.i (Env.i (Env.b (Env.b (Env.i (Env.i (Env.i (Env.s (Env.b (Env.i (Env.s (Env.i (Env.b (Env.i (Env.b (Env.i (Env.i (Env.b (Env.i (Env.b (Env.i (Env.b (Env.i (Env.b (Env.b (Env.b (Env.ww (Env.nil _) (E.2.2.2.2.2.2.2.2.2.2.2.2.2.2.2.2.2.2.2.2.2.2.2.2.2.2.2.2.2.2.2.2.2.1)) (E.2.2.2.2.2.2.2.2.2.2.2.2.2.2.2.2.2.2.2.2.2.2.2.2.2.2.2.2.2.2.2.2.1)) (E.2.2.2.2.2.2.2.2.2.2.2.2.2.2.2.2.2.2.2.2.2.2.2.2.2.2.2.2.2.2.2.1)) (E.2.2.2.2.2.2.2.2.2.2.2.2.2.2.2.2.2.2.2.2.2.2.2.2.2.2.2.2.2.2.1)) (E.2.2.2.2.2.2.2.2.2.2.2.2.2.2.2.2.2.2.2.2.2.2.2.2.2.2.2.2.2.1)) (E.2.2.2.2.2.2.2.2.2.2.2.2.2.2.2.2.2.2.2.2.2.2.2.2.2.2.2.2.1)) (E.2.2.2.2.2.2.2.2.2.2.2.2.2.2.2.2.2.2.2.2.2.2.2.2.2.2.2.1)) (E.2.2.2.2.2.2.2.2.2.2.2.2.2.2.2.2.2.2.2.2.2.2.2.2.2.2.1)) (E.2.2.2.2.2.2.2.2.2.2.2.2.2.2.2.2.2.2.2.2.2.2.2.2.2.1)) (E.2.2.2.2.2.2.2.2.2.2.2.2.2.2.2.2.2.2.2.2.2.2.2.2.1)) (E.2.2.2.2.2.2.2.2.2.2.2.2.2.2.2.2.2.2.2.2.2.2.2.1)) (E.2.2.2.2.2.2.2.2.2.2.2.2.2.2.2.2.2.2.2.2.2.2.1)) (E.2.2.2.2.2.2.2.2.2.2.2.2.2.2.2.2.2.2.2.2.2.1)) (E.2.2.2.2.2.2.2.2.2.2.2.2.2.2.2.2.2.2.2.2.1)) (E.2.2.2.2.2.2.2.2.2.2.2.2.2.2.2.2.2.2.2.1)) (E.2.2.2.2.2.2.2.2.2.2.2.2.2.2.2.2.2.2.1)) (E.2.2.2.2.2.2.2.2.2.2.2.2.2.2.2.2.2.1)) (E.2.2.2.2.2.2.2.2.2.2.2.2.2.2.2.2.1)) (E.2.2.2.2.2.2.2.2.2.2.2.2.2.2.2.1)) (E.2.2.2.2.2.2.2.2.2.2.2.2.2.2.1)) (E.2.2.2.2.2.2.2.2.2.2.2.2.2.1)) (E.2.2.2.2.2.2.2.2.2.2.2.2.1)) (E.2.2.2.2.2.2.2.2.2.2.2.1)) (E.2.2.2.2.2.2.2.2.2.2.1)) (E.2.2.2.2.2.2.2.2.2.1)) (E.2.2.2.2.2.2.2.2.1)) (E.2.2.2.2.2.2.2.1)) (E.2.2.2.2.2.2.1)) (E.2.2.2.2.2.1)) (E.2.2.2.2.1)) (E.2.2.2.1)) (E.2.2.1)) (E.2.1)) (E.1)), by omega, by omega, by omega, by omega, by omega⟩
      case refine_2 =>
       rintro _ wO15 ⟨nO3, sO3, nO4, sO4, nO6, sO6, mO6, tO6, bO11, bO12, rfl, E, qO15_0, qO15_1, qO15_2, qO15_3, qO15_4⟩
       change Code.wp _ _ _ _ _
       refine wp_seq ?_
       -- region 15
       have x39 := E.2.2.2.2.2.2.2.2.2.2.2.2.2.2.2.2.2.2.2.2.2.2.2.2.2.2.2.2.2.2.1
       replace E := ((((((((((((((((((((((((((((((E.2.2.2.2.2.2.2.2.2.2.2.2.2.2.2.2.2.2.2.2.2.2.2.2.2.2.2.2.2.2.2).i (E.2.2.2.2.2.2.2.2.2.2.2.2.2.2.2.2.2.2.2.2.2.2.2.2.2.2.2.2.2.1)).b (E.2.2.2.2.2.2.2.2.2.2.2.2.2.2.2.2.2.2.2.2.2.2.2.2.2.2.2.2.1)).i (E.2.2.2.2.2.2.2.2.2.2.2.2.2.2.2.2.2.2.2.2.2.2.2.2.2.2.2.1)).b (E.2.2.2.2.2.2.2.2.2.2.2.2.2.2.2.2.2.2.2.2.2.2.2.2.2.2.1)).i (E.2.2.2.2.2.2.2.2.2.2.2.2.2.2.2.2.2.2.2.2.2.2.2.2.2.1)).b (E.2.2.2.2.2.2.2.2.2.2.2.2.2.2.2.2.2.2.2.2.2.2.2.2.1)).i (E.2.2.2.2.2.2.2.2.2.2.2.2.2.2.2.2.2.2.2.2.2.2.2.1)).i (E.2.2.2.2.2.2.2.2.2.2.2.2.2.2.2.2.2.2.2.2.2.2.1)).b (E.2.2.2.2.2.2.2.2.2.2.2.2.2.2.2.2.2.2.2.2.2.1)).i (E.2.2.2.2.2.2.2.2.2.2.2.2.2.2.2.2.2.2.2.2.1)).b (E.2.2.2.2.2.2.2.2.2.2.2.2.2.2.2.2.2.2.2.1)).i (E.2.2.2.2.2.2.2.2.2.2.2.2.2.2.2.2.2.2.1)).s (E.2.2.2.2.2.2.2.2.2.2.2.2.2.2.2.2.2.1)).i (E.2.2.2.2.2.2.2.2.2.2.2.2.2.2.2.2.1)).b (E.2.2.2.2.2.2.2.2.2.2.2.2.2.2.2.1)).s (E.2.2.2.2.2.2.2.2.2.2.2.2.2.2.1)).i (E.2.2.2.2.2.2.2.2.2.2.2.2.2.1)).i (E.2.2.2.2.2.2.2.2.2.2.2.2.1)).i (E.2.2.2.2.2.2.2.2.2.2.2.1)).b (E.2.2.2.2.2.2.2.2.2.2.1)).b (E.2.2.2.2.2.2.2.2.2.1)).i (E.2.2.2.2.2.2.2.2.1)).i (E.2.2.2.2.2.2.2.1)).b (E.2.2.2.2.2.2.1)).i (E.2.2.2.2.2.1)).i (E.2.2.2.2.1)).i (E.2.2.2.1)).i (E.2.2.1)).b (E.2.1)).b (E.1)
       have x40 := E.2.2.2.2.2.2.2.2.2.2.2.2.2.2.2.2.2.2.2.2.2.2.2.2.2.2.2.2.2.2.1
       replace E := ((((((((((((((((((((((((((((((E.2.2.2.2.2.2.2.2.2.2.2.2.2.2.2.2.2.2.2.2.2.2.2.2.2.2.2.2.2.2.2).i (E.2.2.2.2.2.2.2.2.2.2.2.2.2.2.2.2.2.2.2.2.2.2.2.2.2.2.2.2.2.1)).b (E.2.2.2.2.2.2.2.2.2.2.2.2.2.2.2.2.2.2.2.2.2.2.2.2.2.2.2.2.1)).i (E.2.2.2.2.2.2.2.2.2.2.2.2.2.2.2.2.2.2.2.2.2.2.2.2.2.2.2.1)).b (E.2.2.2.2.2.2.2.2.2.2.2.2.2.2.2.2.2.2.2.2.2.2.2.2.2.2.1)).i (E.2.2.2.2.2.2.2.2.2.2.2.2.2.2.2.2.2.2.2.2.2.2.2.2.2.1)).b (E.2.2.2.2.2.2.2.2.2.2.2.2.2.2.2.2.2.2.2.2.2.2.2.2.1)).i (E.2.2.2.2.2.2.2.2.2.2.2.2.2.2.2.2.2.2.2.2.2.2.2.1)).i (E.2.2.2.2.2.2.2.2.2.2.2.2.2.2.2.2.2.2.2.2.2.2.1)).b (E.2.2.2.2.2.2.2.2.2.2.2.2.2.2.2.2.2.2.2.2.2.1)).i (E.2.2.2.2.2.2.2.2.2.2.2.2.2.2.2.2.2.2.2.2.1)).b (E.2.2.2.2.2.2.2.2.2.2.2.2.2.2.2.2.2.2.2.1)).i (E.2.2.2.2.2.2.2.2.2.2.2.2.2.2.2.2.2.2.1)).s (E.2.2.2.2.2.2.2.2.2.2.2.2.2.2.2.2.2.1)).i (E.2.2.2.2.2.2.2.2.2.2.2.2.2.2.2.2.1)).b (E.2.2.2.2.2.2.2.2.2.2.2.2.2.2.2.1)).s (E.2.2.2.2.2.2.2.2.2.2.2.2.2.2.1)).i (E.2.2.2.2.2.2.2.2.2.2.2.2.2.1)).i (E.2.2.2.2.2.2.2.2.2.2.2.2.1)).i (E.2.2.2.2.2.2.2.2.2.2.2.1)).b (E.2.2.2.2.2.2.2.2.2.2.1)).b (E.2.2.2.2.2.2.2.2.2.1)).i (E.2.2.2.2.2.2.2.2.1)).i (E.2.2.2.2.2.2.2.1)).b (E.2.2.2.2.2.2.1)).i (E.2.2.2.2.2.1)).i (E.2.2.2.2.1)).i (E.2.2.2.1)).i (E.2.2.1)).b (E.2.1)).b (E.1)
       have x41 := E.2.2.2.2.2.2.2.2.2.2.2.2.2.2.2.2.2.2.2.2.2.2.2.2.2.2.2.2.2.2.1
       replace E := ((((((((((((((((((((((((((((((E.2.2.2.2.2.2.2.2.2.2.2.2.2.2.2.2.2.2.2.2.2.2.2.2.2.2.2.2.2.2.2).i (E.2.2.2.2.2.2.2.2.2.2.2.2.2.2.2.2.2.2.2.2.2.2.2.2.2.2.2.2.2.1)).b (E.2.2.2.2.2.2.2.2.2.2.2.2.2.2.2.2.2.2.2.2.2.2.2.2.2.2.2.2.1)).i (E.2.2.2.2.2.2.2.2.2.2.2.2.2.2.2.2.2.2.2.2.2.2.2.2.2.2.2.1)).b (E.2.2.2.2.2.2.2.2.2.2.2.2.2.2.2.2.2.2.2.2.2.2.2.2.2.2.1)).i (E.2.2.2.2.2.2.2.2.2.2.2.2.2.2.2.2.2.2.2.2.2.2.2.2.2.1)).b (E.2.2.2.2.2.2.2.2.2.2.2.2.2.2.2.2.2.2.2.2.2.2.2.2.1)).i (E.2.2.2.2.2.2.2.2.2.2.2.2.2.2.2.2.2.2.2.2.2.2.2.1)).i (E.2.2.2.2.2.2.2.2.2.2.2.2.2.2.2.2.2.2.2.2.2.2.1)).b (E.2.2.2.2.2.2.2.2.2.2.2.2.2.2.2.2.2.2.2.2.2.1)).i (E.2.2.2.2.2.2.2.2.2.2.2.2.2.2.2.2.2.2.2.2.1)).b (E.2.2.2.2.2.2.2.2.2.2.2.2.2.2.2.2.2.2.2.1)).i (E.2.2.2.2.2.2.2.2.2.2.2.2.2.2.2.2.2.2.1)).s (E.2.2.2.2.2.2.2.2.2.2.2.2.2.2.2.2.2.1)).i (E.2.2.2.2.2.2.2.2.2.2.2.2.2.2.2.2.1)).b (E.2.2.2.2.2.2.2.2.2.2.2.2.2.2.2.1)).s (E.2.2.2.2.2.2.2.2.2.2.2.2.2.2.1)).i (E.2.2.2.2.2.2.2.2.2.2.2.2.2.1)).i (E.2.2.2.2.2.2.2.2.2.2.2.2.1)).i (E.2.2.2.2.2.2.2.2.2.2.2.1)).b (E.2.2.2.2.2.2.2.2.2.2.1)).b (E.2.2.2.2.2.2.2.2.2.1)).i (E.2.2.2.2.2.2.2.2.1)).i (E.2.2.2.2.2.2.2.1)).b (E.2.2.2.2.2.2.1)).i (E.2.2.2.2.2.1)).i (E.2.2.2.2.1)).i (E.2.2.2.1)).i (E.2.2.1)).b (E.2.1)).b (E.1)
       refine wp_schedE E ([0, 1, 2, 3, 4, 5]) (by kernel_rfl) (by kernel_rfl) (by kernel_rfl) (by kernel_rfl) (by intro d v c a w h; cases d <;> exact h) ?_
       replace E := E.drew
       replace x39 := Bx.drew x39
       replace x40 := Bx.drew x40
       replace x41 := Bx.drew x41
       refine SP (o := ⟨some 92, _, _, _, _, _⟩) (v := .agg #[.bool n33, s33]) rfl rfl rfl rfl (fun w hS => run_load_bx AgI rfl rfl (hS.2.2.2.2.2.2.2.2.2.2.2.2.2.2.2.1) rfl) ?_
       simp only [Act.put,q1,q2,q3]
       refine SP (o := ⟨some 93, _, _, _, _, _⟩) (v := .agg #[.bool m36, t36]) rfl rfl rfl rfl (fun w hS => run_load_bx AgI rfl rfl (hS.2.2.2.2.2.2.1) rfl) ?_
       simp only [Act.put,q1,q2,q3]
       refine SP (o := ⟨some 94, _, _, _, _, _⟩) (v := .agg #[.bool nO6, sO6]) rfl rfl rfl rfl (fun w hS => run_load_bx AgI rfl rfl (hS.2.1) rfl) ?_
       simp only [Act.put,q1,q2,q3]
       refine S1a (o := ⟨none, _, _, _, _, _⟩) rfl rfl rfl rfl (Oper.wp_store AgI rfl rfl rfl x39 rfl rfl (IsI.one (E.2.2.2.2.2.2.2.2.2.2.2.2.2.2.2.2.1)) ?_)
       intro w42 o42 y42
       replace E := (E.onl (x39.noW now0) ⟨okB (by omega), okB (by omega), trivial, trivial, trivial, trivial, okB (by omega), trivial, trivial, okB (by omega), okB (by omega), trivial, trivial, trivial, trivial, okB (by omega), trivial, trivial, trivial, okB (by omega), trivial, okB (by omega), trivial, trivial, okB (by omega), trivial, okB (by omega), trivial, okB (by omega), trivial, okW (by omega), trivial⟩ o42).b y42
       replace x40 := Bx.onl x40 (by omega) o42
       replace x41 := Bx.onl x41 (by omega) o42
       clear x39 o42 y42
       refine ⟨E.2, ?_⟩
       simp only [Act.put]
       refine S1a (o := ⟨none, _, _, _, _, _⟩) rfl rfl rfl rfl (Oper.wp_store AgI rfl rfl rfl x40 rfl rfl (IsI.one (E.2.2.2.2.2.2.2.2.1)) ?_)
       intro w43 o43 y43
       replace E := (E.onl (x40.noW now0) ⟨okB (by omega), okB (by omega), okB (by omega), trivial, trivial, trivial, trivial, okB (by omega), trivial, trivial, okB (by omega), okB (by omega), trivial, trivial, trivial, trivial, okB (by omega), trivial, trivial, trivial, okB (by omega), trivial, okB (by omega), trivial, trivial, okB (by omega), trivial, okB (by omega), trivial, okB (by omega), trivial, okW (by omega), trivial⟩ o43).b y43
       replace x41 := Bx.onl x41 (by omega) o43
       clear x40 o43 y43
       refine ⟨E.2.2, ?_⟩
       simp only [Act.put]
       refine S1a (o := ⟨none, _, _, _, _, _⟩) rfl rfl rfl rfl (Oper.wp_store AgI rfl rfl rfl x41 rfl rfl (IsI.one (E.2.2.2.2.2.1)) ?_)
       intro w44 o44 y44
       replace E := (E.onl (x41.noW now0) ⟨okB (by omega), okB (by omega), okB (by omega), okB (by omega), trivial, trivial, trivial, trivial, okB (by omega), trivial, trivial, okB (by omega), okB (by omega), trivial, trivial, trivial, trivial, okB (by omega), trivial, trivial, trivial, okB (by omega), trivial, okB (by omega), trivial, trivial, okB (by omega), trivial, okB (by omega), trivial, okB (by omega), trivial, okW (by omega), trivial⟩ o44).b y44
       clear x41 o44 y44
       refine ⟨E.2.2.2, ?_⟩
       simp only [Act.put]
       refine SN ?_
       change Code.wp _ _ _ _ _
       refine wp_ret ?_
       have r45 := res_box AgI (E.2.2.1) rfl
       have r46 := res_box AgI (E.2.1) rfl
       have r47 := res_box AgI (E.1) rfl
       exact bodyPost_ret (v := .tuple #[.agg #[.bool n33, s33], .agg #[.bool m36, t36], .agg #[.bool nO6, sO6]]) (by simp [results, Try.results35, asAddr, r45, r46, r47]) rfl ⟨_, _, _, hD.2.2, _, _, _, rfl, E.2.2.2.2.2.2.2.2.2.2.2.2.2.2.2.2.2.2.2.1, E.2.2.2.2.2.2.2.2.2.2.1, E.2.2.2.2.2.2.1, E.2.2.2.2.2.2.2.2.2.2.2.2.2.2.2.2.2.2.2.2.2.2.2.2.2.2.2.2.2.2.2.2.2.1⟩
   case neg =>
    have hSt := hI24.step hz
    have Fq : Fits (r / nx) 400000001 := Fits_div Fr
    have Fqs := Fits_mul Fq Fs
    refine wp_seq ?_
    refine wp_seq ?_
    -- region 5
    refine wp_region_lit ?_
    refine LV (v := .pointer (some ⟨bD3, 1, none⟩)) rfl (run_fieldI1 rfl rfl) ?_
    simp only [Act.put,q1,q2,q3]
    refine LV (v := s8) rfl (run_cell rfl isAgg_words rfl (E.2.2.1) rfl) ?_
    simp only [Act.put,q1,q2,q3]
    obtain ⟨ao48, cap48, hs48⟩ := IsI.slice (E.2.2.2.1)
    refine LV (v := .int .i64 (((digs nx.natAbs).length : Nat) : Int)) rfl (run_len rfl hs48) ?_
    simp only [Act.put,q1,q2,q3]
    refine LV (v := .bool true) rfl (run_gtI (c := true) rfl rfl rfl (len_gt0 hz)) ?_
    simp only [Act.put,q1,q2,q3]
    refine wpList_nil ?_
    change Code.wp _ _ _ _ _
    refine wp_cond_true rfl ?_
    refine wp_skip ?_
    change Code.wp _ _ _ _ _
    refine wp_block ?_
    refine wp_seq ?_
    -- region 6
    refine wp_region_lit ?_
    refine LV (v := .agg #[.bool n7, s7]) rfl (run_load_bx AgI rfl rfl (E.1) rfl) ?_
    simp only [Act.put,q1,q2,q3]
    refine LV (v := .agg #[.bool n8, s8]) rfl (run_load_bx AgI rfl rfl (E.2.2.1) rfl) ?_
    simp only [Act.put,q1,q2,q3]
    refine L1 rfl (Oper.wp_callIIE fn_integer_DivMod rfl (DivMod_z _ _ r nx _ (E.2.1) (E.2.2.2.1) (hz) (Fits.mono Fr (by decide)) (Fits.mono Fn (by decide))) rfl E ?_)
    clear E
    intro w49 n49 s49 m49 t49 d49 E
    clear d49
    simp only [Act.put,q1,q2,q3]
    refine LV (v := .tuple #[.agg #[.bool n49, s49], .agg #[.bool m49, t49], .int .i64 0]) rfl (run_move rfl rfl) ?_
    simp only [Act.put,q1,q2,q3]
    refine LV (v := .agg #[.bool n49, s49]) rfl (run_extract (vs := [.agg #[.bool n49, s49], .agg #[.bool m49, t49], .int .i64 0]) rfl rfl rfl) ?_
    simp only [Act.put,q1,q2,q3]
    refine LV (v := .agg #[.bool m49, t49]) rfl (run_extract (vs := [.agg #[.bool n49, s49], .agg #[.bool m49, t49], .int .i64 0]) rfl rfl rfl) ?_
    simp only [Act.put,q1,q2,q3]
    refine LV (v := .int .i64 0) rfl (run_extract (vs := [.agg #[.bool n49, s49], .agg #[.bool m49, t49], .int .i64 0]) rfl rfl rfl) ?_
    simp only [Act.put,q1,q2,q3]
    refine L1 rfl (Oper.wp_alloc AgI rfl ?_)
    intro b50 w50 e50 z50 d50 x50
    have l50_0 : b21 < b50 := by rw [e50]; exact Bx.lt (E.2.2.2.2.2.2.2.2.1)
    replace E := E.below d50
    clear e50 z50 d50
    simp only [Act.put,q1,q2,q3]
    refine L1 rfl (Oper.wp_alloc AgI rfl ?_)
    intro b51 w51 e51 z51 d51 x51
    have l51_0 : b50 < b51 := by rw [e51]; exact Bx.lt (x50)
    replace E := E.below d51
    replace x50 := Bx.below x50 d51
    clear e51 z51 d51
    simp only [Act.put,q1,q2,q3]
    refine L1 rfl (Oper.wp_store AgI rfl rfl rfl x50 rfl rfl (IsI.one (E.2.1)) ?_)
    intro w52 o52 y52
    replace E := (E.onl (x50.noW now0) ⟨trivial, trivial, okB (by omega), trivial, okB (by omega), trivial, okB (by omega), trivial, okB (by omega), trivial, okB (by omega), trivial, okB (by omega), trivial, okB (by omega), okB (by omega), okB (by omega), okW (by omega), trivial⟩ o52).b y52
    replace x51 := Bx.onl x51 (by omega) o52
    clear x50 o52 y52
    simp only [Act.put]
    refine L1 rfl (Oper.wp_store AgI rfl rfl rfl x51 rfl rfl (IsI.one (E.2.1)) ?_)
    intro w53 o53 y53
    replace E := (E.onl (x51.noW now0) ⟨okB (by omega), trivial, trivial, okB (by omega), trivial, okB (by omega), trivial, okB (by omega), trivial, okB (by omega), trivial, okB (by omega), trivial, okB (by omega), trivial, okB (by omega), okB (by omega), okB (by omega), okW (by omega), trivial⟩ o53).b y53
    clear x51 o53 y53
    simp only [Act.put]
    refine LV (v := .int .i64 0) rfl (run_assign rfl rfl) ?_
    simp only [Act.put,q1,q2,q3]
    refine wpList_nil ?_
    change Code.wp _ _ _ _ _
    refine wp_seq ?_
    -- region 7
    have x54 := E.2.2.2.2.1
    replace E := ((((E.2.2.2.2.2).i (E.2.2.2.1)).i (E.2.2.1)).b (E.2.1)).b (E.1)
    refine wp_schedB (l2 := [fB b51 m49 t49, fB b50 n49 s49, fI (.agg #[.bool m49, t49]) (r % nx), fI (.agg #[.bool n49, s49]) (r / nx), fI (.agg #[.bool n7, s7]) r, fI (.agg #[.bool n8, s8]) nx, fB b20 n9 s9, fI (.agg #[.bool n9, s9]) u, fB b21 n10 s10, fI (.agg #[.bool n10, s10]) st, fB b1 nva sva, fI (.agg #[.bool nva, sva]) x, fB b2 nvb svb, fI (.agg #[.bool nvb, svb]) y, fB b3 false (.slice none 0 0), fB b4 false (.slice none 0 0), fB b5 false (.slice none 0 0), fW w]) E (fun w E => (Env.b (Env.b (Env.i (Env.i (Env.i (Env.i (Env.b (Env.i (Env.b (Env.i (Env.b (Env.i (Env.b (Env.i (Env.b (Env.b (Env.b (Env.ww (Env.nil _) (E.2.2.2.2.2.2.2.2.2.2.2.2.2.2.2.2.2.2.1)) (E.2.2.2.2.2.2.2.2.2.2.2.2.2.2.2.2.2.1)) (E.2.2.2.2.2.2.2.2.2.2.2.2.2.2.2.2.1)) (E.2.2.2.2.2.2.2.2.2.2.2.2.2.2.2.1)) (E.2.2.2.2.2.2.2.2.2.2.2.2.2.2.1)) (E.2.2.2.2.2.2.2.2.2.2.2.2.2.1)) (E.2.2.2.2.2.2.2.2.2.2.2.2.1)) (E.2.2.2.2.2.2.2.2.2.2.2.1)) (E.2.2.2.2.2.2.2.2.2.2.1)) (E.2.2.2.2.2.2.2.2.2.1)) (E.2.2.2.2.2.2.2.2.1)) (E.2.2.2.2.2.2.2.1)) (E.2.2.2.2.2.2.1)) (E.2.2.2.2.1)) (E.2.2.2.1)) (E.2.2.1)) (E.2.1)) (E.1))) ([3]) ([0, 1, 2, 3]) (by kernel_rfl) (by kernel_rfl) (by kernel_rfl) (by kernel_rfl) (by intro d v c a w h; cases d <;> exact h) ?_
    replace E := E.drew
    replace x54 := Bx.drew x54
    refine SP (o := ⟨some 48, _, _, _, _, _⟩) (v := .agg #[.bool n8, s8]) rfl rfl rfl rfl (fun w hS => run_load_bx AgI rfl rfl (hS.2.2.2.2.2.1) rfl) ?_
    simp only [Act.put,q1,q2,q3]
    refine SP (o := ⟨some 49, _, _, _, _, _⟩) (v := .agg #[.bool m49, t49]) rfl rfl rfl rfl (fun w hS => run_load_bx AgI rfl rfl (hS.1) rfl) ?_
    simp only [Act.put,q1,q2,q3]
    refine S1a (o := ⟨none, _, _, _, _, _⟩) rfl rfl rfl rfl (Oper.wp_store AgI rfl rfl rfl x54 rfl rfl (IsI.one (E.2.2.2.2.2.2.1)) ?_)
    intro w55 o55 y55
    replace E := (E.onl (x54.noW (IsI.now (E.2.2.2.2.1))) ⟨okB (by omega), okB (by omega), trivial, trivial, trivial, okB (by omega), trivial, okB (by omega), trivial, okB (by omega), trivial, okB (by omega), trivial, okB (by omega), trivial, okB (by omega), okB (by omega), okB (by omega), okW (by omega), trivial⟩ o55).b y55
    clear x54 o55 y55
    refine ⟨E.2, ?_⟩
    simp only [Act.put]
    have x56 := E.2.2.2.2.2.2.1
    replace E := (Env.b (Env.b (Env.b (Env.i (Env.i (Env.i (Env.i (Env.b (Env.i (Env.b (Env.i (Env.b (Env.i (Env.b (Env.i (Env.b (Env.b (Env.b (Env.ww (Env.nil _) (E.2.2.2.2.2.2.2.2.2.2.2.2.2.2.2.2.2.2.2.1)) (E.2.2.2.2.2.2.2.2.2.2.2.2.2.2.2.2.2.2.1)) (E.2.2.2.2.2.2.2.2.2.2.2.2.2.2.2.2.2.1)) (E.2.2.2.2.2.2.2.2.2.2.2.2.2.2.2.2.1)) (E.2.2.2.2.2.2.2.2.2.2.2.2.2.2.2.1)) (E.2.2.2.2.2.2.2.2.2.2.2.2.2.2.1)) (E.2.2.2.2.2.2.2.2.2.2.2.2.2.1)) (E.2.2.2.2.2.2.2.2.2.2.2.2.1)) (E.2.2.2.2.2.2.2.2.2.2.2.1)) (E.2.2.2.2.2.2.2.2.2.2.1)) (E.2.2.2.2.2.2.2.2.2.1)) (E.2.2.2.2.2.2.2.2.1)) (E.2.2.2.2.2.2.2.1)) (E.2.2.2.2.2.1)) (E.2.2.2.2.1)) (E.2.2.2.1)) (E.2.2.1)) (E.2.1)) (E.1))
    refine S1b (o := ⟨none, _, _, _, _, _⟩) rfl rfl rfl rfl (Oper.wp_store AgI rfl rfl rfl x56 rfl rfl (IsI.one (E.2.2.2.1)) ?_)
    intro w57 o57 y57
    replace E := (E.onl (x56.noW (IsI.now (E.2.2.2.2.2.2.1))) ⟨okB (by omega), okB (by omega), okB (by omega), trivial, trivial, trivial, trivial, okB (by omega), trivial, okB (by omega), trivial, okB (by omega), trivial, okB (by omega), trivial, okB (by omega), okB (by omega), okB (by omega), okW (by omega), trivial⟩ o57).b y57
    clear x56 o57 y57
    refine ⟨E.2.2, ?_⟩
    simp only [Act.put]
    refine SN ?_
    change Code.wp _ _ _ _ _
    -- region 8
    refine wp_schedB (l2 := [fB bD3 m49 t49, fB bD2 n8 s8, fB b51 m49 t49, fB b50 n49 s49, fI (.agg #[.bool m49, t49]) (r % nx), fI (.agg #[.bool n49, s49]) (r / nx), fI (.agg #[.bool n7, s7]) r, fI (.agg #[.bool n8, s8]) nx, fI (.agg #[.bool n9, s9]) u, fI (.agg #[.bool n10, s10]) st, fB b1 nva sva, fI (.agg #[.bool nva, sva]) x, fB b2 nvb svb, fI (.agg #[.bool nvb, svb]) y, fB b3 false (.slice none 0 0), fB b4 false (.slice none 0 0), fB b5 false (.slice none 0 0), fW w]) E (fun w E => (Env.b (Env.b (Env.b (Env.b (Env.i (Env.i (Env.i (Env.i (Env.i (Env.i (Env.b (Env.i (Env.b (Env.i (Env.b (Env.b (Env.b (Env.ww (Env.nil _) (E.2.2.2.2.2.2.2.2.2.2.2.2.2.2.2.2.2.2.2.1)) (E.2.2.2.2.2.2.2.2.2.2.2.2.2.2.2.2.2.2.1)) (E.2.2.2.2.2.2.2.2.2.2.2.2.2.2.2.2.2.1)) (E.2.2.2.2.2.2.2.2.2.2.2.2.2.2.2.2.1)) (E.2.2.2.2.2.2.2.2.2.2.2.2.2.2.2.1)) (E.2.2.2.2.2.2.2.2.2.2.2.2.2.2.1)) (E.2.2.2.2.2.2.2.2.2.2.2.2.2.1)) (E.2.2.2.2.2.2.2.2.2.2.2.2.1)) (E.2.2.2.2.2.2.2.2.2.2.2.1)) (E.2.2.2.2.2.2.2.2.2.1)) (E.2.2.2.2.2.2.2.1)) (E.2.2.2.2.2.2.1)) (E.2.2.2.2.2.1)) (E.2.2.2.2.1)) (E.2.2.2.1)) (E.2.2.1)) (E.2.1)) (E.1))) ([6, 7]) ([0, 1, 2, 3, 4, 5, 6, 7]) (by kernel_rfl) (by kernel_rfl) (by kernel_rfl) (by kernel_rfl) (by intro d v c a w h; cases d <;> exact h) ?_
    replace E := E.drew
    refine SP (o := ⟨some 50, _, _, _, _, _⟩) (v := .agg #[.bool n10, s10]) rfl rfl rfl rfl (fun w hS => run_load_bx AgI rfl rfl (hS.2.2.2.2.2.2.2.2.2.2.1) rfl) ?_
    simp only [Act.put,q1,q2,q3]
    refine SP (o := ⟨some 51, _, _, _, _, _⟩) (v := .agg #[.bool n9, s9]) rfl rfl rfl rfl (fun w hS => run_load_bx AgI rfl rfl (hS.2.2.2.2.2.2.2.2.1) rfl) ?_
    simp only [Act.put,q1,q2,q3]
    refine SP (o := ⟨some 52, _, _, _, _, _⟩) (v := .agg #[.bool n49, s49]) rfl rfl rfl rfl (fun w hS => run_load_bx AgI rfl rfl (hS.2.2.2.1) rfl) ?_
    simp only [Act.put,q1,q2,q3]
    refine SP (o := ⟨some 53, _, _, _, _, _⟩) (v := .agg #[.bool n10, s10]) rfl rfl rfl rfl (fun w hS => run_load_bx AgI rfl rfl (hS.2.2.2.2.2.2.2.2.2.2.1) rfl) ?_
    simp only [Act.put,q1,q2,q3]
    refine S1a (o := ⟨some 54, _, _, _, _, _⟩) rfl rfl rfl rfl (Oper.wp_callI fn_integer_Mul rfl (Mul_z _ _ (r / nx) st _ (E.2.2.2.2.2.1) (E.2.2.2.2.2.2.2.2.2.2.2.1) (Fits.mono Fq (by decide)) (Fits.mono Fs (by decide))) rfl E ?_)
    clear E
    intro w58 n58 s58 d58 E
    clear d58
    refine ⟨E.2, ?_⟩
    simp only [Act.put,q1,q2,q3]
    refine S1a (o := ⟨some 55, _, _, _, _, _⟩) rfl rfl rfl rfl (Oper.wp_callI fn_integer_Sub rfl (Sub_z _ _ u ((r / nx) * st) _ (E.2.2.2.2.2.2.2.2.2.2.1) (E.1) (Fits.mono Fu (by decide)) (Fits.mono Fqs (by decide))) rfl E ?_)
    clear E
    intro w59 n59 s59 d59 E
    clear d59
    refine ⟨E.2.2, ?_⟩
    simp only [Act.put,q1,q2,q3]
    have x60 := E.2.2.2.2.2.2.2.2.2.2.1
    have x61 := E.2.2.2.2.2.2.2.2.2.2.2.2.1
    replace E := (Env.i (Env.i (Env.b (Env.b (Env.b (Env.b (Env.i (Env.i (Env.i (Env.i (Env.i (Env.i (Env.b (Env.i (Env.b (Env.i (Env.b (Env.b (Env.b (Env.ww (Env.nil _) (E.2.2.2.2.2.2.2.2.2.2.2.2.2.2.2.2.2.2.2.2.2.1)) (E.2.2.2.2.2.2.2.2.2.2.2.2.2.2.2.2.2.2.2.2.1)) (E.2.2.2.2.2.2.2.2.2.2.2.2.2.2.2.2.2.2.2.1)) (E.2.2.2.2.2.2.2.2.2.2.2.2.2.2.2.2.2.2.1)) (E.2.2.2.2.2.2.2.2.2.2.2.2.2.2.2.2.2.1)) (E.2.2.2.2.2.2.2.2.2.2.2.2.2.2.2.2.1)) (E.2.2.2.2.2.2.2.2.2.2.2.2.2.2.2.1)) (E.2.2.2.2.2.2.2.2.2.2.2.2.2.2.1)) (E.2.2.2.2.2.2.2.2.2.2.2.2.2.1)) (E.2.2.2.2.2.2.2.2.2.2.2.1)) (E.2.2.2.2.2.2.2.2.2.1)) (E.2.2.2.2.2.2.2.2.1)) (E.2.2.2.2.2.2.2.1)) (E.2.2.2.2.2.2.1)) (E.2.2.2.2.2.1)) (E.2.2.2.2.1)) (E.2.2.2.1)) (E.2.2.1)) (E.2.1)) (E.1))
    refine S1b (o := ⟨none, _, _, _, _, _⟩) rfl rfl rfl rfl (Oper.wp_store AgI rfl rfl rfl x60 rfl rfl (IsI.one (E.2.2.2.2.2.2.2.2.2.2.2.1)) ?_)
    intro w62 o62 y62
    replace E := (E.onl (x60.noW (IsI.now (E.2.2.2.2.2.2.2.2.2.2.1))) ⟨trivial, trivial, okB (by omega), okB (by omega), okB (by omega), okB (by omega), trivial, trivial, trivial, trivial, trivial, trivial, okB (by omega), trivial, okB (by omega), trivial, okB (by omega), okB (by omega), okB (by omega), okW (by omega), trivial⟩ o62).b y62
    replace x61 := Bx.onl x61 (by omega) o62
    clear x60 o62 y62
    refine ⟨E.2.2.2, ?_⟩
    simp only [Act.put]
    refine S1b (o := ⟨none, _, _, _, _, _⟩) rfl rfl rfl rfl (Oper.wp_store AgI rfl rfl rfl x61 rfl rfl (IsI.one (E.2.1)) ?_)
    intro w63 o63 y63
    replace E := (E.onl (x61.noW (IsI.now (E.2.2.2.2.2.2.2.2.2.2.2.2.1))) ⟨okB (by omega), trivial, trivial, okB (by omega), okB (by omega), okB (by omega), okB (by omega), trivial, trivial, trivial, trivial, trivial, trivial, okB (by omega), trivial, okB (by omega), trivial, okB (by omega), okB (by omega), okB (by omega), okW (by omega), trivial⟩ o63).b y63
    clear x61 o63 y63
    refine ⟨E.2.2.2.2, ?_⟩
    simp only [Act.put]
    refine SN ?_
    exact ⟨_, (by rw [hm24]; exact emod_natAbs_lt hz), nx, r % nx, st, u - ((r / nx) * st), n8, s8, m49, t49, n10, s10, n59, s59, _, _, _, _, _, _, _, _, _, _, _, _, _, _, _, _, _, _, _, _, _, _, rfl, (Env.b (Env.i (Env.b (Env.i (Env.b (Env.i (Env.b (Env.i (Env.b (Env.i (Env.b (Env.i (Env.b (Env.b (Env.b (Env.ww (Env.nil _) (E.2.2.2.2.2.2.2.2.2.2.2.2.2.2.2.2.2.2.2.2.2.1)) (E.2.2.2.2.2.2.2.2.2.2.2.2.2.2.2.2.2.2.2.2.1)) (E.2.2.2.2.2.2.2.2.2.2.2.2.2.2.2.2.2.2.2.1)) (E.2.2.2.2.2.2.2.2.2.2.2.2.2.2.2.2.2.2.1)) (E.2.2.2.2.2.2.2.2.2.2.2.2.2.2.2.2.2.1)) (E.2.2.2.2.2.2.2.2.2.2.2.2.2.2.2.2.1)) (E.2.2.2.2.2.2.2.2.2.2.2.2.2.2.2.1)) (E.2.2.2.2.2.2.2.2.2.2.2.2.2.2.1)) (E.2.2.1)) (E.1)) (E.2.2.2.2.2.2.2.2.2.2.2.2.2.1)) (E.2.1)) (E.2.2.2.2.2.2.2.2.1)) (E.2.2.2.2.1)) (E.2.2.2.2.2.2.2.2.2.2.2.1)) (E.2.2.2.2.2.1)), rfl, hSt⟩
end Go.Proofs.Ytjgmfdenicbniaa
