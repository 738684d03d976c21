/- Walk: the law RationalOrdered. (Printed by a g_ program.) -/
import Derived.Test.YtndpjfhhigpbhaaExQ
import Derived.Test.YtndpjfhhigpbhaaOrdQ
namespace Go.Proofs.Ytndpjfhhigpbhaa
open Go.RowKit W
set_option maxRecDepth 100000 in
set_option maxHeartbeats 8000000 in
theorem orq_t  (ca0 cb0 : Int) (ck0 : Nat) (ca1 cb1 : Int) (ck1 : Nat) (ca2 cb2 : Int) (ck2 : Nat)  (w : World)  (r0 : -128 ≤ ca0 ∧ ca0 ≤ 127 ∧ -128 ≤ cb0 ∧ cb0 ≤ 127 ∧ ck0 < 256) (r1 : -128 ≤ ca1 ∧ ca1 ≤ 127 ∧ -128 ≤ cb1 ∧ cb1 ≤ 127 ∧ ck1 < 256) (r2 : -128 ≤ ca2 ∧ ca2 ≤ 127 ∧ -128 ≤ cb2 ∧ cb2 ≤ 127 ∧ ck2 < 256) :
    Calls Try.prog 6 #[.agg #[.int .i8 ca0, .int .i8 cb0, .int .u8 ((ck0 : Nat) : Int), .int .i8 ca1, .int .i8 cb1, .int .u8 ((ck1 : Nat) : Int), .int .i8 ca2, .int .i8 cb2, .int .u8 ((ck2 : Nat) : Int)]] w (RetB w true) := by
 have E := Env.start w
 obtain ⟨ra0, rb0, rc0, rd0, re0⟩ := r0
 obtain ⟨x, hm0⟩ : ∃ q, madeQ ca0 cb0 ck0 = q := ⟨_, rfl⟩
 have Fx : FitQ x 20 := by rw [← hm0]; exact madeQ_fit ra0 rb0 rc0 rd0 re0
 obtain ⟨ra1, rb1, rc1, rd1, re1⟩ := r1
 obtain ⟨y, hm1⟩ : ∃ q, madeQ ca1 cb1 ck1 = q := ⟨_, rfl⟩
 have Fy : FitQ y 20 := by rw [← hm1]; exact madeQ_fit ra1 rb1 rc1 rd1 re1
 obtain ⟨ra2, rb2, rc2, rd2, re2⟩ := r2
 obtain ⟨z, hm2⟩ : ∃ q, madeQ ca2 cb2 ck2 = q := ⟨_, rfl⟩
 have Fz : FitQ z 20 := by rw [← hm2]; exact madeQ_fit ra2 rb2 rc2 rd2 re2
 go_enter Try.func6, Try.ntmps6
 refine wp_seq ?_
 -- region 0
 refine RL ?_
 refine EF rfl (Oper.wp_box (cs := [.int .i8 ca0, .int .i8 cb0, .int .u8 ((ck0 : Nat) : Int), .int .i8 ca1, .int .i8 cb1, .int .u8 ((ck1 : Nat) : Int), .int .i8 ca2, .int .i8 cb2, .int .u8 ((ck2 : Nat) : Int)]) rfl rfl ?_)
 intro b1 w1 e1 z1 d1 x1
 have l1 : w.heap.size ≤ b1 := by rw [e1]; exact (E.1).size
 replace E := E.below d1
 clear e1 z1 d1
 replace E := E.x x1
 clear x1
 refine kw rfl ?_
 refine AC rfl rfl rfl rfl <| ?_
 simp only [q2,q3]
 refine WN ?_
 change Code.wp _ _ _ _ _
 refine wp_seq ?_
 -- region 1
 refine RL ?_
 refine EF rfl (Oper.wp_callB fn_elaw02_examples rfl (examples_t _) rfl E ?_)
 clear E
 intro w2 d2 E
 clear d2
 refine kw rfl ?_
 refine A rfl rfl rfl rfl rfl <| ?_
 simp only [q2,q3]
 refine WN ?_
 change Code.wp _ _ _ _ _
 refine wp_seq ?_
 refine wp_seq ?_
 -- region 2
 refine RL ?_
 refine M rfl rfl rfl rfl rfl <| V (v := .bool false) rfl rfl (run_not (b := true) rfl rfl) <| ?_
 simp only [q2,q3]
 refine WN ?_
 change Code.wp _ _ _ _ _
 refine wp_cond_false rfl ?_
 refine wp_skip ?_
 change Code.wp _ _ _ _ _
 refine wp_seq ?_
 -- region 4
 have hB3_0 : b1 < w2.heap.size := Bx.lt (E.1)
 refine wp_schedF E [.op 0, .op 1, .op 3, .op 4, .op 6, .op 7, .av 9, .av 10, .av 11, .op 2, .op 5, .op 8, .op 9, .op 10, .op 11] 3 (#[true, true, true, true, true, true, true, true, true, true, true, true, false, false, false]) (by kernel_rfl) (by kernel_rfl) (by kernel_rfl) (by kernel_rfl) (by intro d v c a w h; cases d <;> exact h) (by intro d v c a w h; cases d <;> exact h) ?_
 refine FP (v := .pointer (some ⟨b1, 0 + 0 * 3, none⟩)) rfl rfl rfl rfl rfl (fun w hS => run_idxA (j := 0) rfl Try.underlying52 (by kernel_rfl) rfl rfl rfl (by decide)) <| FP (v := .agg #[.int .i8 ca0, .int .i8 cb0, .int .u8 ((ck0 : Nat) : Int)]) rfl rfl rfl rfl rfl (fun w hS => run_loadW rfl rfl (hS.1) rfl rfl rfl) <| FP (v := .pointer (some ⟨b1, 0 + 1 * 3, none⟩)) rfl rfl rfl rfl rfl (fun w hS => run_idxA (j := 1) rfl Try.underlying52 (by kernel_rfl) rfl rfl rfl (by decide)) <| FP (v := .agg #[.int .i8 ca1, .int .i8 cb1, .int .u8 ((ck1 : Nat) : Int)]) rfl rfl rfl rfl rfl (fun w hS => run_loadW rfl rfl (hS.1) rfl rfl rfl) <| ?_
 simp only [q2,q3]
 refine FP (v := .pointer (some ⟨b1, 0 + 2 * 3, none⟩)) rfl rfl rfl rfl rfl (fun w hS => run_idxA (j := 2) rfl Try.underlying52 (by kernel_rfl) rfl rfl rfl (by decide)) <| FP (v := .agg #[.int .i8 ca2, .int .i8 cb2, .int .u8 ((ck2 : Nat) : Int)]) rfl rfl rfl rfl rfl (fun w hS => run_loadW rfl rfl (hS.1) rfl rfl rfl) <| FA _ (RunF.alloc AgR rfl rfl rfl) <| FA _ (RunF.alloc AgR rfl rfl rfl) <| FA _ (RunF.alloc AgR rfl rfl rfl) <| ?_
 simp only [q2,q3]
 clear E
 refine FE rfl rfl rfl rfl ?_
 intro w5 E
 refine Oper.wp_callP fn_eref02_Made rfl (Made_is ca0 cb0 ck0 x _ hm0 ra0 rb0 rc0 rd0 re0) rfl E ?_
 clear E
 intro w4 n4 s4 m4 t4 d4 E
 refine kF d4 E rfl ?_
 simp only [q2,q3]
 clear E
 refine FE rfl rfl rfl rfl ?_
 intro w7 E
 refine Oper.wp_callP fn_eref02_Made rfl (Made_is ca1 cb1 ck1 y _ hm1 ra1 rb1 rc1 rd1 re1) rfl E ?_
 clear E
 intro w6 n6 s6 m6 t6 d6 E
 refine kF d6 E rfl ?_
 simp only [q2,q3]
 clear E
 refine FE rfl rfl rfl rfl ?_
 intro w9 E
 refine Oper.wp_callP fn_eref02_Made rfl (Made_is ca2 cb2 ck2 z _ hm2 ra2 rb2 rc2 rd2 re2) rfl E ?_
 clear E
 intro w8 n8 s8 m8 t8 d8 E
 refine kF d8 E rfl ?_
 simp only [q2,q3]
 refine FF rfl rfl ?_
 intro b10 f10 u10
 have l10_0 : b1 < b10 := by omega
 simp only [q2,q3]
 refine FF rfl rfl ?_
 intro b11 f11 u11
 have l11_0 : b1 < b11 := by omega
 have v11_0 : b11 ≠ b10 := by rintro rfl; exact u11 (by simp)
 simp only [q2,q3]
 refine FF rfl rfl ?_
 intro b12 f12 u12
 have l12_0 : b1 < b12 := by omega
 have v12_0 : b12 ≠ b11 := by rintro rfl; exact u12 (by simp)
 have v12_1 : b12 ≠ b10 := by rintro rfl; exact u12 (by simp)
 simp only [q2,q3]
 clear E
 intro w13 E
 refine H1 (i := 12) (by kernel_rfl) ?_
 have x15 := E.2.2.1
 replace E := ((E.2.2.2).x (E.2.1)).x (E.1)
 refine HE (o := ⟨none, _, _, _, _, _⟩) rfl rfl (Oper.wp_store AgR rfl rfl rfl x15 rfl rfl (one4 (IsI.one (e7 E)) (IsI.one (e6 E))) ?_)
 intro w14 o14 y14
 replace E := (E.onl (x15.noW (now4 now0 now0)) ⟨okX (by omega), okX (by omega), trivial, trivial, trivial, trivial, trivial, trivial, okX (by omega), okW (by omega), trivial⟩ o14).x y14
 clear x15 o14 y14
 refine ⟨E.2.2.2.2.2.2.2.2.2, ?_⟩
 simp only [Act.put]
 refine H1 (i := 13) (by kernel_rfl) ?_
 have x17 := E.2.2.1
 replace E := ((E.2.2.2).x (E.2.1)).x (E.1)
 refine HE (o := ⟨none, _, _, _, _, _⟩) rfl rfl (Oper.wp_store AgR rfl rfl rfl x17 rfl rfl (one4 (IsI.one (e5 E)) (IsI.one (e4 E))) ?_)
 intro w16 o16 y16
 replace E := (E.onl (x17.noW (now4 now0 now0)) ⟨okX (by omega), okX (by omega), trivial, trivial, trivial, trivial, trivial, trivial, okX (by omega), okW (by omega), trivial⟩ o16).x y16
 clear x17 o16 y16
 refine ⟨E.2.2.2.2.2.2.2.2.2, ?_⟩
 simp only [Act.put]
 refine H1 (i := 14) (by kernel_rfl) ?_
 have x19 := E.2.2.1
 replace E := ((E.2.2.2).x (E.2.1)).x (E.1)
 refine HE (o := ⟨none, _, _, _, _, _⟩) rfl rfl (Oper.wp_store AgR rfl rfl rfl x19 rfl rfl (one4 (IsI.one (e3 E)) (IsI.one (E.2.2.1))) ?_)
 intro w18 o18 y18
 replace E := (E.onl (x19.noW (now4 now0 now0)) ⟨okX (by omega), okX (by omega), trivial, trivial, trivial, trivial, trivial, trivial, okX (by omega), okW (by omega), trivial⟩ o18).x y18
 clear x19 o18 y18
 refine ⟨E.2.2.2.2.2.2.2.2.2, ?_⟩
 simp only [Act.put]
 refine HN (by kernel_rfl) ?_
 change Code.wp _ _ _ _ _
 refine wp_seq ?_
 -- region 5
 refine RL ?_
 refine V rfl rfl (run_load_bx AgR rfl rfl (E.2.2.1) rfl) <| V rfl rfl (run_load_bx AgR rfl rfl (E.2.1) rfl) <| ?_
 simp only [q2,q3]
 refine EF rfl (Oper.wp_callN fn_rational_Cmp rfl (Cmp_q _ _ _ _ x _ _ _ _ y _ (e8 E) (e7 E) (e6 E) (e5 E) (FitQ.mono Fx (by decide)) (FitQ.mono Fy (by decide))) rfl E ?_)
 clear E
 intro w20 d20 E
 clear d20
 refine kw rfl ?_
 refine A rfl rfl rfl rfl rfl <| ?_
 simp only [q2,q3]
 refine WN ?_
 change Code.wp _ _ _ _ _
 refine wp_seq ?_
 refine wp_seq ?_
 by_cases hxy : x = y
 case pos =>
  -- region 6
  refine wp_schedE E ([0, 1, 2, 3, 4, 5, 6, 7, 8, 9, 10, 11, 12, 13, 14, 15, 16, 18, 19, 22, 17, 20, 21, 23, 24, 25, 26, 28, 31, 32, 27, 29, 30, 33, 34, 35, 36, 37, 38, 39, 40, 41, 42]) (by kernel_rfl) (by kernel_rfl) (by kernel_rfl) (by kernel_rfl) (by intro d v c a w h; cases d <;> exact h) ?_
  replace E := E.drew
  refine SM rfl rfl rfl rfl rfl rfl rfl rfl <| SW rfl rfl rfl rfl rfl (fun w hS => run_load_bx AgR rfl rfl (hS.2.2.1) rfl) <| SW rfl rfl rfl rfl rfl (fun w hS => run_load_bx AgR rfl rfl (hS.2.1) rfl) <| ?_
  simp only [q2,q3]
  refine S1a (o := ⟨some 27, _, _, _, _, _⟩) rfl rfl rfl rfl (Oper.wp_callP fn_rational_Sub rfl (Sub_q _ _ _ _ x _ _ _ _ y _ (e8 E) (e7 E) (e6 E) (e5 E) (FitQ.mono Fx (by decide)) (FitQ.mono Fy (by decide))) rfl E ?_)
  clear E
  intro w22 n22 s22 m22 t22 d22 E
  clear d22
  refine ⟨E.2.2, ?_⟩
  simp only [Act.put,q1,q2,q3]
  have F21 : FitQ (x - y) 41 := FitQ_sub Fx Fy
  refine S1a (o := ⟨some 28, _, _, _, _, _⟩) rfl rfl rfl rfl (Oper.wp_callN fn_rational_Sign rfl (Sign_q _ _ _ _ (x - y) _ (E.2.1) (E.1)) rfl E ?_)
  clear E
  intro w23 d23 E
  clear d23
  refine ⟨E.2.2, ?_⟩
  simp only [Act.put,q1,q2,q3]
  refine SW rfl rfl rfl rfl rfl (fun w hS => run_neI (c := false) rfl rfl rfl (bne_z (cmpQ_sub x y))) <| SM rfl rfl rfl rfl rfl rfl rfl rfl <| SM rfl rfl rfl (by kernel_rfl) rfl rfl rfl rfl <| SW rfl rfl rfl (by kernel_rfl) rfl (fun w hS => run_load_bx AgR rfl rfl (hS.2.1) rfl) <| ?_
  simp only [q2,q3]
  refine SW rfl rfl rfl (by kernel_rfl) rfl (fun w hS => run_load_bx AgR rfl rfl (hS.2.2.1) rfl) <| ?_
  simp only [q2,q3]
  refine S1a (o := ⟨some 34, _, _, _, _, _⟩) rfl rfl rfl rfl (Oper.wp_callN fn_rational_Cmp rfl (Cmp_q _ _ _ _ y _ _ _ _ x _ (e8 E) (e7 E) (e10 E) (e9 E) (FitQ.mono Fy (by decide)) (FitQ.mono Fx (by decide))) rfl E ?_)
  clear E
  intro w24 d24 E
  clear d24
  refine ⟨E.2.2, ?_⟩
  simp only [Act.put,q1,q2,q3]
  refine SW (v := .int .i64 (-(cmpQ y x))) rfl rfl rfl (by kernel_rfl) rfl (fun w hS => run_negQ rfl rfl (cmpQ_negw y x)) <| SW rfl rfl rfl (by kernel_rfl) rfl (fun w hS => run_neI (c := false) rfl rfl rfl (bne_z (cmpQ_swap y x))) <| SW (v := .bool false) rfl rfl rfl rfl rfl (fun w hS => run_pick (b := false) rfl rfl rfl) <| SM rfl rfl rfl rfl rfl rfl rfl rfl <| ?_
  simp only [q2,q3]
  refine SW rfl rfl rfl (by kernel_rfl) rfl (fun w hS => run_load_bx AgR rfl rfl (hS.2.2.1) rfl) <| SW rfl rfl rfl (by kernel_rfl) rfl (fun w hS => run_load_bx AgR rfl rfl (hS.1) rfl) <| SW rfl rfl rfl (by kernel_rfl) rfl (fun w hS => run_load_bx AgR rfl rfl (hS.2.1) rfl) <| SW rfl rfl rfl (by kernel_rfl) rfl (fun w hS => run_load_bx AgR rfl rfl (hS.1) rfl) <| ?_
  simp only [q2,q3]
  refine SM rfl rfl rfl (by kernel_rfl) rfl rfl rfl rfl <| ?_
  simp only [q2,q3]
  refine S1a (o := ⟨some 41, _, _, _, _, _⟩) rfl rfl rfl rfl (Oper.wp_callP fn_rational_Add rfl (Add_q _ _ _ _ x _ _ _ _ z _ (e10 E) (e9 E) (e6 E) (e5 E) (FitQ.mono Fx (by decide)) (FitQ.mono Fz (by decide))) rfl E ?_)
  clear E
  intro w26 n26 s26 m26 t26 d26 E
  clear d26
  refine ⟨E.2.2.2.2, ?_⟩
  simp only [Act.put,q1,q2,q3]
  have F25 : FitQ (x + z) 41 := FitQ_add Fx Fz
  refine S1a (o := ⟨some 44, _, _, _, _, _⟩) rfl rfl rfl rfl (Oper.wp_callP fn_rational_Add rfl (Add_q _ _ _ _ y _ _ _ _ z _ (e10 E) (e9 E) (e8 E) (e7 E) (FitQ.mono Fy (by decide)) (FitQ.mono Fz (by decide))) rfl E ?_)
  clear E
  intro w28 n28 s28 m28 t28 d28 E
  clear d28
  refine ⟨E.2.2.2.2.2.2, ?_⟩
  simp only [Act.put,q1,q2,q3]
  have F27 : FitQ (y + z) 41 := FitQ_add Fy Fz
  refine S1a (o := ⟨some 45, _, _, _, _, _⟩) rfl rfl rfl rfl (Oper.wp_callN fn_rational_Cmp rfl (Cmp_q _ _ _ _ (x + z) _ _ _ _ (y + z) _ (e3 E) (E.2.2.1) (E.2.1) (E.1) (FitQ.mono F25 (by decide)) (FitQ.mono F27 (by decide))) rfl E ?_)
  clear E
  intro w29 d29 E
  clear d29
  refine ⟨E.2.2.2.2.2.2, ?_⟩
  simp only [Act.put,q1,q2,q3]
  refine SW rfl rfl rfl (by kernel_rfl) rfl (fun w hS => run_neI (c := false) rfl rfl rfl (bne_z (cmpQ_add x y z))) <| SW (v := .bool false) rfl rfl rfl rfl rfl (fun w hS => run_pick (b := false) rfl rfl rfl) <| SM rfl rfl rfl rfl rfl rfl rfl rfl <| SW rfl rfl rfl (by kernel_rfl) rfl (fun w hS => run_load_bx AgR rfl rfl (hS.2.2.1) rfl) <| ?_
  simp only [q2,q3]
  refine SW rfl rfl rfl (by kernel_rfl) rfl (fun w hS => run_load_bx AgR rfl rfl (hS.2.1) rfl) <| SM rfl rfl rfl (by kernel_rfl) rfl rfl rfl rfl <| SW (v := .int .i64 (-(cmpQ x y))) rfl rfl rfl (by kernel_rfl) rfl (fun w hS => run_negQ rfl rfl (cmpQ_negw x y)) <| ?_
  simp only [q2,q3]
  refine S1a (o := ⟨some 51, _, _, _, _, _⟩) rfl rfl rfl rfl (Oper.wp_callP fn_rational_Neg rfl (Neg_q _ _ _ _ x _ (e14 E) (e13 E) (FitQ.mono Fx (by decide))) rfl E ?_)
  clear E
  intro w31 n31 s31 m31 t31 d31 E
  clear d31
  refine ⟨E.2.2.2.2.2.2.2.2, ?_⟩
  simp only [Act.put,q1,q2,q3]
  have F30 : FitQ (-x) 20 := FitQ_neg Fx
  refine S1a (o := ⟨some 53, _, _, _, _, _⟩) rfl rfl rfl rfl (Oper.wp_callP fn_rational_Neg rfl (Neg_q _ _ _ _ y _ (e14 E) (e13 E) (FitQ.mono Fy (by decide))) rfl E ?_)
  clear E
  intro w33 n33 s33 m33 t33 d33 E
  clear d33
  refine ⟨E.2.2.2.2.2.2.2.2.2.2, ?_⟩
  simp only [Act.put,q1,q2,q3]
  have F32 : FitQ (-y) 20 := FitQ_neg Fy
  refine S1a (o := ⟨some 54, _, _, _, _, _⟩) rfl rfl rfl rfl (Oper.wp_callN fn_rational_Cmp rfl (Cmp_q _ _ _ _ (-x) _ _ _ _ (-y) _ (e3 E) (E.2.2.1) (E.2.1) (E.1) (FitQ.mono F30 (by decide)) (FitQ.mono F32 (by decide))) rfl E ?_)
  clear E
  intro w34 d34 E
  clear d34
  refine ⟨E.2.2.2.2.2.2.2.2.2.2, ?_⟩
  simp only [Act.put,q1,q2,q3]
  refine SW rfl rfl rfl (by kernel_rfl) rfl (fun w hS => run_neI (c := false) rfl rfl rfl (bne_z (cmpQ_neg x y))) <| SW (v := .bool false) rfl rfl rfl rfl rfl (fun w hS => run_pick (b := false) rfl rfl rfl) <| SM rfl rfl rfl rfl rfl rfl rfl rfl <| SM rfl rfl rfl (by kernel_rfl) rfl rfl rfl rfl <| ?_
  simp only [q2,q3]
  refine SW rfl rfl rfl (by kernel_rfl) rfl (fun w hS => run_eqI (c := true) rfl rfl rfl (cmpQ_eq0 hxy)) <| SW rfl rfl rfl (by kernel_rfl) rfl (fun w hS => run_load_bx AgR rfl rfl (hS.2.2.1) rfl) <| SW rfl rfl rfl (by kernel_rfl) rfl (fun w hS => run_load_bx AgR rfl rfl (hS.2.1) rfl) <| ?_
  simp only [q2,q3]
  refine S1a (o := ⟨some 64, _, _, _, _, _⟩) rfl rfl rfl rfl (Oper.wp_callB fn_eref02_Same rfl (retB_is (decide_eq_true hxy) (Same_rq _ _ _ _ x _ _ _ _ y _ (e18 E) (e17 E) (e16 E) (e15 E))) rfl E ?_)
  clear E
  intro w35 d35 E
  clear d35
  refine ⟨E.2.2.2.2.2.2.2.2.2.2, ?_⟩
  simp only [Act.put,q1,q2,q3]
  refine SW rfl rfl rfl (by kernel_rfl) rfl (fun w hS => run_neB (a := true) (b := true) (c := false) rfl Try.underlying4 rfl rfl (rfl)) <| SW (v := .bool false) rfl rfl rfl rfl rfl (fun w hS => run_pick (b := false) rfl rfl rfl) <| ?_
  simp only [q2,q3]
  refine SN ?_
  change Code.wp _ _ _ _ _
  refine wp_cond_false rfl ?_
  refine wp_skip ?_
  change Code.wp _ _ _ _ _
  refine wp_seq ?_
  refine wp_seq ?_
  -- region 8
  refine wp_schedE E ([0, 1, 3, 4, 7, 8, 2, 5, 6, 9, 10, 11]) (by kernel_rfl) (by kernel_rfl) (by kernel_rfl) (by kernel_rfl) (by intro d v c a w h; cases d <;> exact h) ?_
  replace E := E.drew
  refine SW rfl rfl rfl rfl rfl (fun w hS => run_load_bx AgR rfl rfl (e12 hS) rfl) <| SW rfl rfl rfl rfl rfl (fun w hS => run_load_bx AgR rfl rfl (e10 hS) rfl) <| SW rfl rfl rfl rfl rfl (fun w hS => run_load_bx AgR rfl rfl (e11 hS) rfl) <| SW rfl rfl rfl rfl rfl (fun w hS => run_load_bx AgR rfl rfl (e10 hS) rfl) <| ?_
  simp only [q2,q3]
  refine SM rfl rfl rfl rfl rfl rfl rfl rfl <| SW rfl rfl rfl rfl rfl (fun w hS => run_load_bx AgR rfl rfl (e10 hS) rfl) <| ?_
  simp only [q2,q3]
  refine S1a (o := ⟨some 69, _, _, _, _, _⟩) rfl rfl rfl rfl (Oper.wp_callP fn_rational_Mul rfl (Mul_q _ _ _ _ x _ _ _ _ z _ (e18 E) (e17 E) (e14 E) (e13 E) (FitQ.mono Fx (by decide)) (FitQ.mono Fz (by decide))) rfl E ?_)
  clear E
  intro w37 n37 s37 m37 t37 d37 E
  clear d37
  refine ⟨E.2.2, ?_⟩
  simp only [Act.put,q1,q2,q3]
  have F36 : FitQ (x * z) 40 := FitQ_mul Fx Fz
  refine S1a (o := ⟨some 72, _, _, _, _, _⟩) rfl rfl rfl rfl (Oper.wp_callP fn_rational_Mul rfl (Mul_q _ _ _ _ y _ _ _ _ z _ (e18 E) (e17 E) (e16 E) (e15 E) (FitQ.mono Fy (by decide)) (FitQ.mono Fz (by decide))) rfl E ?_)
  clear E
  intro w39 n39 s39 m39 t39 d39 E
  clear d39
  refine ⟨E.2.2.2.2, ?_⟩
  simp only [Act.put,q1,q2,q3]
  have F38 : FitQ (y * z) 40 := FitQ_mul Fy Fz
  refine S1a (o := ⟨some 73, _, _, _, _, _⟩) rfl rfl rfl rfl (Oper.wp_callN fn_rational_Cmp rfl (Cmp_q _ _ _ _ (x * z) _ _ _ _ (y * z) _ (e3 E) (E.2.2.1) (E.2.1) (E.1) (FitQ.mono F36 (by decide)) (FitQ.mono F38 (by decide))) rfl E ?_)
  clear E
  intro w40 d40 E
  clear d40
  refine ⟨E.2.2.2.2, ?_⟩
  simp only [Act.put,q1,q2,q3]
  refine S1a (o := ⟨some 76, _, _, _, _, _⟩) rfl rfl rfl rfl (Oper.wp_callN fn_rational_Sign rfl (Sign_q _ _ _ _ z _ (e18 E) (e17 E)) rfl E ?_)
  clear E
  intro w41 d41 E
  clear d41
  refine ⟨E.2.2.2.2, ?_⟩
  simp only [Act.put,q1,q2,q3]
  refine SW (v := .int .i64 ((cmpQ x y) * (sgn z.num))) rfl rfl rfl rfl rfl (fun w hS => run_mulI rfl rfl rfl (cmpQ_mulw x y z)) <| SW rfl rfl rfl rfl rfl (fun w hS => run_neI (c := false) rfl rfl rfl (bne_z (cmpQ_mul x y z))) <| ?_
  simp only [q2,q3]
  refine SN ?_
  change Code.wp _ _ _ _ _
  refine wp_cond_false rfl ?_
  refine wp_skip ?_
  change Code.wp _ _ _ _ _
  refine wp_seq ?_
  -- region 10
  refine RL ?_
  refine V rfl rfl (run_load_bx AgR rfl rfl (e16 E) rfl) <| ?_
  simp only [q2,q3]
  refine EF rfl (Oper.wp_callI fn_rational_Floor rfl (Floor_q _ _ _ _ x _ (e22 E) (e21 E) (FitQ.mono Fx (by decide))) rfl E ?_)
  clear E
  intro w43 n43 s43 d43 E
  clear d43
  refine kw rfl ?_
  have F42 : Fits x.floor 20 := Fits_floorQ Fx
  simp only [q2,q3]
  refine EF rfl (Oper.wp_callI fn_integer_Of rfl (Of_z 1 _ (by decide) (by decide)) rfl E ?_)
  clear E
  intro w44 n44 s44 d44 E
  clear d44
  refine kw rfl ?_
  simp only [q2,q3]
  replace E := (E.i (eqZ (z' := ((x.floor : Int) : Rat).num) (Rat.num_intCast _).symm (E.2.1))).i (eqZ (z' := ((((x.floor : Int) : Rat).den : Nat) : Int)) rfl (E.1))
  have FF : FitQ ((x.floor : Int) : Rat) 20 := FitQ_int (by decide) (Fits_floorQ Fx)
  refine V (v := .agg #[.bool n43, s43, .bool n44, s44]) rfl rfl (run_buildR rfl rfl rfl) <| ?_
  simp only [q2,q3]
  refine EF rfl (Oper.wp_alloc AgR rfl ?_)
  intro b45 w45 e45 z45 d45 x45
  have l45_0 : b12 < b45 := by rw [e45]; exact Bx.lt (e18 E)
  have l45_1 : b11 < b45 := by rw [e45]; exact Bx.lt (e19 E)
  have l45_2 : b10 < b45 := by rw [e45]; exact Bx.lt (e20 E)
  replace E := E.below d45
  clear e45 z45 d45
  refine kw rfl ?_
  simp only [q2,q3]
  refine EF rfl (Oper.wp_store AgR rfl rfl rfl x45 rfl rfl (one4 (IsI.one (E.2.1)) (IsI.one (E.1))) ?_)
  intro w46 o46 y46
  replace E := (E.onl (x45.noW (now4 now0 now0)) ⟨trivial, trivial, trivial, trivial, trivial, trivial, trivial, trivial, trivial, trivial, trivial, trivial, trivial, trivial, trivial, trivial, trivial, trivial, okX (by omega), okX (by omega), okX (by omega), trivial, trivial, trivial, trivial, trivial, trivial, okX (by omega), okW (by omega), trivial⟩ o46).x y46
  clear x45 o46 y46
  refine kn rfl ?_
  refine WN ?_
  change Code.wp _ _ _ _ _
  refine wp_seq ?_
  -- region 11
  refine wp_schedE E ([0, 1, 2, 3, 4, 5, 6, 7, 8, 9, 10, 11, 12, 13, 14, 15, 16, 17, 18, 19]) (by kernel_rfl) (by kernel_rfl) (by kernel_rfl) (by kernel_rfl) (by intro d v c a w h; cases d <;> exact h) ?_
  replace E := E.drew
  refine SW rfl rfl rfl rfl rfl (fun w hS => run_load_bx AgR rfl rfl (hS.1) rfl) <| ?_
  simp only [q2,q3]
  refine S1a (o := ⟨some 84, _, _, _, _, _⟩) rfl rfl rfl rfl (Oper.wp_callB fn_rational_Valid rfl (Valid_r _ _ _ _ ((x.floor : Int) : Rat) _ (E.2.2.1) (E.2.1) (FitQ.mono FF (by decide))) rfl E ?_)
  clear E
  intro w47 d47 E
  clear d47
  refine ⟨E, ?_⟩
  simp only [Act.put,q1,q2,q3]
  refine SM rfl rfl rfl rfl rfl rfl rfl rfl <| SW rfl rfl rfl (by kernel_rfl) rfl (fun w hS => run_load_bx AgR rfl rfl (hS.1) rfl) <| SW rfl rfl rfl (by kernel_rfl) rfl (fun w hS => run_load_bx AgR rfl rfl (e21 hS) rfl) <| ?_
  simp only [q2,q3]
  refine S1a (o := ⟨some 88, _, _, _, _, _⟩) rfl rfl rfl rfl (Oper.wp_callN fn_rational_Cmp rfl (Cmp_q _ _ _ _ ((x.floor : Int) : Rat) _ _ _ _ x _ (E.2.2.1) (E.2.1) (e27 E) (e26 E) (FitQ.mono FF (by decide)) (FitQ.mono Fx (by decide))) rfl E ?_)
  clear E
  intro w48 d48 E
  clear d48
  refine ⟨E, ?_⟩
  simp only [Act.put,q1,q2,q3]
  refine SW rfl rfl rfl (by kernel_rfl) rfl (fun w hS => run_leI (c := true) rfl rfl rfl (cmpQ_le0 (Rat.floor_le x))) <| SW (v := .bool true) rfl rfl rfl rfl rfl (fun w hS => run_pick (b := true) rfl rfl rfl) <| SM rfl rfl rfl rfl rfl rfl rfl rfl <| SW rfl rfl rfl (by kernel_rfl) rfl (fun w hS => run_load_bx AgR rfl rfl (e21 hS) rfl) <| ?_
  simp only [q2,q3]
  refine SW rfl rfl rfl (by kernel_rfl) rfl (fun w hS => run_load_bx AgR rfl rfl (hS.1) rfl) <| ?_
  simp only [q2,q3]
  refine S1a (o := ⟨some 94, _, _, _, _, _⟩) rfl rfl rfl rfl (Oper.wp_callP fn_rational_Whole rfl (Whole_z 1 _ (by decide) (by decide)) rfl E ?_)
  clear E
  intro w50 n50 s50 m50 t50 d50 E
  clear d50
  refine ⟨E.2.2, ?_⟩
  simp only [Act.put,q1,q2,q3]
  have F49 : FitQ ((1 : Int) : Rat) 4 := FitQ_int (k := 4) (by decide) (Fits_of64 (by decide) (by decide))
  refine S1a (o := ⟨some 95, _, _, _, _, _⟩) rfl rfl rfl rfl (Oper.wp_callP fn_rational_Add rfl (Add_q _ _ _ _ ((x.floor : Int) : Rat) _ _ _ _ ((1 : Int) : Rat) _ (e4 E) (e3 E) (E.2.1) (E.1) (FitQ.mono FF (by decide)) (FitQ.mono F49 (by decide))) rfl E ?_)
  clear E
  intro w52 n52 s52 m52 t52 d52 E
  clear d52
  refine ⟨E.2.2.2.2, ?_⟩
  simp only [Act.put,q1,q2,q3]
  have F51 : FitQ (((x.floor : Int) : Rat) + ((1 : Int) : Rat)) 25 := FitQ_add FF F49
  refine S1a (o := ⟨some 96, _, _, _, _, _⟩) rfl rfl rfl rfl (Oper.wp_callN fn_rational_Cmp rfl (Cmp_q _ _ _ _ x _ _ _ _ (((x.floor : Int) : Rat) + ((1 : Int) : Rat)) _ (E.2.2.2.2.2.2.2.2.2.2.2.2.2.2.2.2.2.2.2.2.2.2.2.2.2.2.2.2.2.2.2.1) (E.2.2.2.2.2.2.2.2.2.2.2.2.2.2.2.2.2.2.2.2.2.2.2.2.2.2.2.2.2.2.1) (E.2.1) (E.1) (FitQ.mono Fx (by decide)) (FitQ.mono F51 (by decide))) rfl E ?_)
  clear E
  intro w53 d53 E
  clear d53
  refine ⟨E.2.2.2.2, ?_⟩
  simp only [Act.put,q1,q2,q3]
  refine SW rfl rfl rfl (by kernel_rfl) rfl (fun w hS => run_ltI (c := true) rfl rfl rfl (cmpQ_lt0 (by have := Rat.lt_floor_add_one x; rw [← succ_int] at this; exact this))) <| SW (v := .bool true) rfl rfl rfl rfl rfl (fun w hS => run_pick (b := true) rfl rfl rfl) <| SM rfl rfl rfl rfl rfl rfl rfl rfl <| SM rfl rfl rfl (by kernel_rfl) rfl rfl rfl rfl <| ?_
  simp only [q2,q3]
  refine SW (v := .bool true) rfl rfl rfl rfl rfl (fun w hS => run_pick (b := true) rfl rfl rfl) <| SA rfl rfl rfl rfl rfl rfl rfl rfl <| ?_
  simp only [q2,q3]
  refine SN ?_
  change Code.wp _ _ _ _ _
  refine wp_ret ?_
  exact bodyPost_ret (v := .bool true) (by simp [results, Try.results6, asAddr]) rfl ⟨rfl, E.2.2.2.2.2.2.2.2.2.2.2.2.2.2.2.2.2.2.2.2.2.2.2.2.2.2.2.2.2.2.2.2.2.1⟩
 case neg =>
  -- region 6
  refine wp_schedE E ([0, 1, 2, 3, 4, 5, 6, 7, 8, 9, 10, 11, 12, 13, 14, 15, 16, 18, 19, 22, 17, 20, 21, 23, 24, 25, 26, 28, 31, 32, 27, 29, 30, 33, 34, 35, 36, 37, 38, 39, 40, 41, 42]) (by kernel_rfl) (by kernel_rfl) (by kernel_rfl) (by kernel_rfl) (by intro d v c a w h; cases d <;> exact h) ?_
  replace E := E.drew
  refine SM rfl rfl rfl rfl rfl rfl rfl rfl <| SW rfl rfl rfl rfl rfl (fun w hS => run_load_bx AgR rfl rfl (hS.2.2.1) rfl) <| SW rfl rfl rfl rfl rfl (fun w hS => run_load_bx AgR rfl rfl (hS.2.1) rfl) <| ?_
  simp only [q2,q3]
  refine S1a (o := ⟨some 27, _, _, _, _, _⟩) rfl rfl rfl rfl (Oper.wp_callP fn_rational_Sub rfl (Sub_q _ _ _ _ x _ _ _ _ y _ (e8 E) (e7 E) (e6 E) (e5 E) (FitQ.mono Fx (by decide)) (FitQ.mono Fy (by decide))) rfl E ?_)
  clear E
  intro w55 n55 s55 m55 t55 d55 E
  clear d55
  refine ⟨E.2.2, ?_⟩
  simp only [Act.put,q1,q2,q3]
  have F54 : FitQ (x - y) 41 := FitQ_sub Fx Fy
  refine S1a (o := ⟨some 28, _, _, _, _, _⟩) rfl rfl rfl rfl (Oper.wp_callN fn_rational_Sign rfl (Sign_q _ _ _ _ (x - y) _ (E.2.1) (E.1)) rfl E ?_)
  clear E
  intro w56 d56 E
  clear d56
  refine ⟨E.2.2, ?_⟩
  simp only [Act.put,q1,q2,q3]
  refine SW rfl rfl rfl rfl rfl (fun w hS => run_neI (c := false) rfl rfl rfl (bne_z (cmpQ_sub x y))) <| SM rfl rfl rfl rfl rfl rfl rfl rfl <| SM rfl rfl rfl (by kernel_rfl) rfl rfl rfl rfl <| SW rfl rfl rfl (by kernel_rfl) rfl (fun w hS => run_load_bx AgR rfl rfl (hS.2.1) rfl) <| ?_
  simp only [q2,q3]
  refine SW rfl rfl rfl (by kernel_rfl) rfl (fun w hS => run_load_bx AgR rfl rfl (hS.2.2.1) rfl) <| ?_
  simp only [q2,q3]
  refine S1a (o := ⟨some 34, _, _, _, _, _⟩) rfl rfl rfl rfl (Oper.wp_callN fn_rational_Cmp rfl (Cmp_q _ _ _ _ y _ _ _ _ x _ (e8 E) (e7 E) (e10 E) (e9 E) (FitQ.mono Fy (by decide)) (FitQ.mono Fx (by decide))) rfl E ?_)
  clear E
  intro w57 d57 E
  clear d57
  refine ⟨E.2.2, ?_⟩
  simp only [Act.put,q1,q2,q3]
  refine SW (v := .int .i64 (-(cmpQ y x))) rfl rfl rfl (by kernel_rfl) rfl (fun w hS => run_negQ rfl rfl (cmpQ_negw y x)) <| SW rfl rfl rfl (by kernel_rfl) rfl (fun w hS => run_neI (c := false) rfl rfl rfl (bne_z (cmpQ_swap y x))) <| SW (v := .bool false) rfl rfl rfl rfl rfl (fun w hS => run_pick (b := false) rfl rfl rfl) <| SM rfl rfl rfl rfl rfl rfl rfl rfl <| ?_
  simp only [q2,q3]
  refine SW rfl rfl rfl (by kernel_rfl) rfl (fun w hS => run_load_bx AgR rfl rfl (hS.2.2.1) rfl) <| SW rfl rfl rfl (by kernel_rfl) rfl (fun w hS => run_load_bx AgR rfl rfl (hS.1) rfl) <| SW rfl rfl rfl (by kernel_rfl) rfl (fun w hS => run_load_bx AgR rfl rfl (hS.2.1) rfl) <| SW rfl rfl rfl (by kernel_rfl) rfl (fun w hS => run_load_bx AgR rfl rfl (hS.1) rfl) <| ?_
  simp only [q2,q3]
  refine SM rfl rfl rfl (by kernel_rfl) rfl rfl rfl rfl <| ?_
  simp only [q2,q3]
  refine S1a (o := ⟨some 41, _, _, _, _, _⟩) rfl rfl rfl rfl (Oper.wp_callP fn_rational_Add rfl (Add_q _ _ _ _ x _ _ _ _ z _ (e10 E) (e9 E) (e6 E) (e5 E) (FitQ.mono Fx (by decide)) (FitQ.mono Fz (by decide))) rfl E ?_)
  clear E
  intro w59 n59 s59 m59 t59 d59 E
  clear d59
  refine ⟨E.2.2.2.2, ?_⟩
  simp only [Act.put,q1,q2,q3]
  have F58 : FitQ (x + z) 41 := FitQ_add Fx Fz
  refine S1a (o := ⟨some 44, _, _, _, _, _⟩) rfl rfl rfl rfl (Oper.wp_callP fn_rational_Add rfl (Add_q _ _ _ _ y _ _ _ _ z _ (e10 E) (e9 E) (e8 E) (e7 E) (FitQ.mono Fy (by decide)) (FitQ.mono Fz (by decide))) rfl E ?_)
  clear E
  intro w61 n61 s61 m61 t61 d61 E
  clear d61
  refine ⟨E.2.2.2.2.2.2, ?_⟩
  simp only [Act.put,q1,q2,q3]
  have F60 : FitQ (y + z) 41 := FitQ_add Fy Fz
  refine S1a (o := ⟨some 45, _, _, _, _, _⟩) rfl rfl rfl rfl (Oper.wp_callN fn_rational_Cmp rfl (Cmp_q _ _ _ _ (x + z) _ _ _ _ (y + z) _ (e3 E) (E.2.2.1) (E.2.1) (E.1) (FitQ.mono F58 (by decide)) (FitQ.mono F60 (by decide))) rfl E ?_)
  clear E
  intro w62 d62 E
  clear d62
  refine ⟨E.2.2.2.2.2.2, ?_⟩
  simp only [Act.put,q1,q2,q3]
  refine SW rfl rfl rfl (by kernel_rfl) rfl (fun w hS => run_neI (c := false) rfl rfl rfl (bne_z (cmpQ_add x y z))) <| SW (v := .bool false) rfl rfl rfl rfl rfl (fun w hS => run_pick (b := false) rfl rfl rfl) <| SM rfl rfl rfl rfl rfl rfl rfl rfl <| SW rfl rfl rfl (by kernel_rfl) rfl (fun w hS => run_load_bx AgR rfl rfl (hS.2.2.1) rfl) <| ?_
  simp only [q2,q3]
  refine SW rfl rfl rfl (by kernel_rfl) rfl (fun w hS => run_load_bx AgR rfl rfl (hS.2.1) rfl) <| SM rfl rfl rfl (by kernel_rfl) rfl rfl rfl rfl <| SW (v := .int .i64 (-(cmpQ x y))) rfl rfl rfl (by kernel_rfl) rfl (fun w hS => run_negQ rfl rfl (cmpQ_negw x y)) <| ?_
  simp only [q2,q3]
  refine S1a (o := ⟨some 51, _, _, _, _, _⟩) rfl rfl rfl rfl (Oper.wp_callP fn_rational_Neg rfl (Neg_q _ _ _ _ x _ (e14 E) (e13 E) (FitQ.mono Fx (by decide))) rfl E ?_)
  clear E
  intro w64 n64 s64 m64 t64 d64 E
  clear d64
  refine ⟨E.2.2.2.2.2.2.2.2, ?_⟩
  simp only [Act.put,q1,q2,q3]
  have F63 : FitQ (-x) 20 := FitQ_neg Fx
  refine S1a (o := ⟨some 53, _, _, _, _, _⟩) rfl rfl rfl rfl (Oper.wp_callP fn_rational_Neg rfl (Neg_q _ _ _ _ y _ (e14 E) (e13 E) (FitQ.mono Fy (by decide))) rfl E ?_)
  clear E
  intro w66 n66 s66 m66 t66 d66 E
  clear d66
  refine ⟨E.2.2.2.2.2.2.2.2.2.2, ?_⟩
  simp only [Act.put,q1,q2,q3]
  have F65 : FitQ (-y) 20 := FitQ_neg Fy
  refine S1a (o := ⟨some 54, _, _, _, _, _⟩) rfl rfl rfl rfl (Oper.wp_callN fn_rational_Cmp rfl (Cmp_q _ _ _ _ (-x) _ _ _ _ (-y) _ (e3 E) (E.2.2.1) (E.2.1) (E.1) (FitQ.mono F63 (by decide)) (FitQ.mono F65 (by decide))) rfl E ?_)
  clear E
  intro w67 d67 E
  clear d67
  refine ⟨E.2.2.2.2.2.2.2.2.2.2, ?_⟩
  simp only [Act.put,q1,q2,q3]
  refine SW rfl rfl rfl (by kernel_rfl) rfl (fun w hS => run_neI (c := false) rfl rfl rfl (bne_z (cmpQ_neg x y))) <| SW (v := .bool false) rfl rfl rfl rfl rfl (fun w hS => run_pick (b := false) rfl rfl rfl) <| SM rfl rfl rfl rfl rfl rfl rfl rfl <| SM rfl rfl rfl (by kernel_rfl) rfl rfl rfl rfl <| ?_
  simp only [q2,q3]
  refine SW rfl rfl rfl (by kernel_rfl) rfl (fun w hS => run_eqI (c := false) rfl rfl rfl (cmpQ_ne0 hxy)) <| SW rfl rfl rfl (by kernel_rfl) rfl (fun w hS => run_load_bx AgR rfl rfl (hS.2.2.1) rfl) <| SW rfl rfl rfl (by kernel_rfl) rfl (fun w hS => run_load_bx AgR rfl rfl (hS.2.1) rfl) <| ?_
  simp only [q2,q3]
  refine S1a (o := ⟨some 64, _, _, _, _, _⟩) rfl rfl rfl rfl (Oper.wp_callB fn_eref02_Same rfl (retB_is (decide_eq_false hxy) (Same_rq _ _ _ _ x _ _ _ _ y _ (e18 E) (e17 E) (e16 E) (e15 E))) rfl E ?_)
  clear E
  intro w68 d68 E
  clear d68
  refine ⟨E.2.2.2.2.2.2.2.2.2.2, ?_⟩
  simp only [Act.put,q1,q2,q3]
  refine SW rfl rfl rfl (by kernel_rfl) rfl (fun w hS => run_neB (a := false) (b := false) (c := false) rfl Try.underlying4 rfl rfl (rfl)) <| SW (v := .bool false) rfl rfl rfl rfl rfl (fun w hS => run_pick (b := false) rfl rfl rfl) <| ?_
  simp only [q2,q3]
  refine SN ?_
  change Code.wp _ _ _ _ _
  refine wp_cond_false rfl ?_
  refine wp_skip ?_
  change Code.wp _ _ _ _ _
  refine wp_seq ?_
  refine wp_seq ?_
  -- region 8
  refine wp_schedE E ([0, 1, 3, 4, 7, 8, 2, 5, 6, 9, 10, 11]) (by kernel_rfl) (by kernel_rfl) (by kernel_rfl) (by kernel_rfl) (by intro d v c a w h; cases d <;> exact h) ?_
  replace E := E.drew
  refine SW rfl rfl rfl rfl rfl (fun w hS => run_load_bx AgR rfl rfl (e12 hS) rfl) <| SW rfl rfl rfl rfl rfl (fun w hS => run_load_bx AgR rfl rfl (e10 hS) rfl) <| SW rfl rfl rfl rfl rfl (fun w hS => run_load_bx AgR rfl rfl (e11 hS) rfl) <| SW rfl rfl rfl rfl rfl (fun w hS => run_load_bx AgR rfl rfl (e10 hS) rfl) <| ?_
  simp only [q2,q3]
  refine SM rfl rfl rfl rfl rfl rfl rfl rfl <| SW rfl rfl rfl rfl rfl (fun w hS => run_load_bx AgR rfl rfl (e10 hS) rfl) <| ?_
  simp only [q2,q3]
  refine S1a (o := ⟨some 69, _, _, _, _, _⟩) rfl rfl rfl rfl (Oper.wp_callP fn_rational_Mul rfl (Mul_q _ _ _ _ x _ _ _ _ z _ (e18 E) (e17 E) (e14 E) (e13 E) (FitQ.mono Fx (by decide)) (FitQ.mono Fz (by decide))) rfl E ?_)
  clear E
  intro w70 n70 s70 m70 t70 d70 E
  clear d70
  refine ⟨E.2.2, ?_⟩
  simp only [Act.put,q1,q2,q3]
  have F69 : FitQ (x * z) 40 := FitQ_mul Fx Fz
  refine S1a (o := ⟨some 72, _, _, _, _, _⟩) rfl rfl rfl rfl (Oper.wp_callP fn_rational_Mul rfl (Mul_q _ _ _ _ y _ _ _ _ z _ (e18 E) (e17 E) (e16 E) (e15 E) (FitQ.mono Fy (by decide)) (FitQ.mono Fz (by decide))) rfl E ?_)
  clear E
  intro w72 n72 s72 m72 t72 d72 E
  clear d72
  refine ⟨E.2.2.2.2, ?_⟩
  simp only [Act.put,q1,q2,q3]
  have F71 : FitQ (y * z) 40 := FitQ_mul Fy Fz
  refine S1a (o := ⟨some 73, _, _, _, _, _⟩) rfl rfl rfl rfl (Oper.wp_callN fn_rational_Cmp rfl (Cmp_q _ _ _ _ (x * z) _ _ _ _ (y * z) _ (e3 E) (E.2.2.1) (E.2.1) (E.1) (FitQ.mono F69 (by decide)) (FitQ.mono F71 (by decide))) rfl E ?_)
  clear E
  intro w73 d73 E
  clear d73
  refine ⟨E.2.2.2.2, ?_⟩
  simp only [Act.put,q1,q2,q3]
  refine S1a (o := ⟨some 76, _, _, _, _, _⟩) rfl rfl rfl rfl (Oper.wp_callN fn_rational_Sign rfl (Sign_q _ _ _ _ z _ (e18 E) (e17 E)) rfl E ?_)
  clear E
  intro w74 d74 E
  clear d74
  refine ⟨E.2.2.2.2, ?_⟩
  simp only [Act.put,q1,q2,q3]
  refine SW (v := .int .i64 ((cmpQ x y) * (sgn z.num))) rfl rfl rfl rfl rfl (fun w hS => run_mulI rfl rfl rfl (cmpQ_mulw x y z)) <| SW rfl rfl rfl rfl rfl (fun w hS => run_neI (c := false) rfl rfl rfl (bne_z (cmpQ_mul x y z))) <| ?_
  simp only [q2,q3]
  refine SN ?_
  change Code.wp _ _ _ _ _
  refine wp_cond_false rfl ?_
  refine wp_skip ?_
  change Code.wp _ _ _ _ _
  refine wp_seq ?_
  -- region 10
  refine RL ?_
  refine V rfl rfl (run_load_bx AgR rfl rfl (e16 E) rfl) <| ?_
  simp only [q2,q3]
  refine EF rfl (Oper.wp_callI fn_rational_Floor rfl (Floor_q _ _ _ _ x _ (e22 E) (e21 E) (FitQ.mono Fx (by decide))) rfl E ?_)
  clear E
  intro w76 n76 s76 d76 E
  clear d76
  refine kw rfl ?_
  have F75 : Fits x.floor 20 := Fits_floorQ Fx
  simp only [q2,q3]
  refine EF rfl (Oper.wp_callI fn_integer_Of rfl (Of_z 1 _ (by decide) (by decide)) rfl E ?_)
  clear E
  intro w77 n77 s77 d77 E
  clear d77
  refine kw rfl ?_
  simp only [q2,q3]
  replace E := (E.i (eqZ (z' := ((x.floor : Int) : Rat).num) (Rat.num_intCast _).symm (E.2.1))).i (eqZ (z' := ((((x.floor : Int) : Rat).den : Nat) : Int)) rfl (E.1))
  have FF : FitQ ((x.floor : Int) : Rat) 20 := FitQ_int (by decide) (Fits_floorQ Fx)
  refine V (v := .agg #[.bool n76, s76, .bool n77, s77]) rfl rfl (run_buildR rfl rfl rfl) <| ?_
  simp only [q2,q3]
  refine EF rfl (Oper.wp_alloc AgR rfl ?_)
  intro b78 w78 e78 z78 d78 x78
  have l78_0 : b12 < b78 := by rw [e78]; exact Bx.lt (e18 E)
  have l78_1 : b11 < b78 := by rw [e78]; exact Bx.lt (e19 E)
  have l78_2 : b10 < b78 := by rw [e78]; exact Bx.lt (e20 E)
  replace E := E.below d78
  clear e78 z78 d78
  refine kw rfl ?_
  simp only [q2,q3]
  refine EF rfl (Oper.wp_store AgR rfl rfl rfl x78 rfl rfl (one4 (IsI.one (E.2.1)) (IsI.one (E.1))) ?_)
  intro w79 o79 y79
  replace E := (E.onl (x78.noW (now4 now0 now0)) ⟨trivial, trivial, trivial, trivial, trivial, trivial, trivial, trivial, trivial, trivial, trivial, trivial, trivial, trivial, trivial, trivial, trivial, trivial, okX (by omega), okX (by omega), okX (by omega), trivial, trivial, trivial, trivial, trivial, trivial, okX (by omega), okW (by omega), trivial⟩ o79).x y79
  clear x78 o79 y79
  refine kn rfl ?_
  refine WN ?_
  change Code.wp _ _ _ _ _
  refine wp_seq ?_
  -- region 11
  refine wp_schedE E ([0, 1, 2, 3, 4, 5, 6, 7, 8, 9, 10, 11, 12, 13, 14, 15, 16, 17, 18, 19]) (by kernel_rfl) (by kernel_rfl) (by kernel_rfl) (by kernel_rfl) (by intro d v c a w h; cases d <;> exact h) ?_
  replace E := E.drew
  refine SW rfl rfl rfl rfl rfl (fun w hS => run_load_bx AgR rfl rfl (hS.1) rfl) <| ?_
  simp only [q2,q3]
  refine S1a (o := ⟨some 84, _, _, _, _, _⟩) rfl rfl rfl rfl (Oper.wp_callB fn_rational_Valid rfl (Valid_r _ _ _ _ ((x.floor : Int) : Rat) _ (E.2.2.1) (E.2.1) (FitQ.mono FF (by decide))) rfl E ?_)
  clear E
  intro w80 d80 E
  clear d80
  refine ⟨E, ?_⟩
  simp only [Act.put,q1,q2,q3]
  refine SM rfl rfl rfl rfl rfl rfl rfl rfl <| SW rfl rfl rfl (by kernel_rfl) rfl (fun w hS => run_load_bx AgR rfl rfl (hS.1) rfl) <| SW rfl rfl rfl (by kernel_rfl) rfl (fun w hS => run_load_bx AgR rfl rfl (e21 hS) rfl) <| ?_
  simp only [q2,q3]
  refine S1a (o := ⟨some 88, _, _, _, _, _⟩) rfl rfl rfl rfl (Oper.wp_callN fn_rational_Cmp rfl (Cmp_q _ _ _ _ ((x.floor : Int) : Rat) _ _ _ _ x _ (E.2.2.1) (E.2.1) (e27 E) (e26 E) (FitQ.mono FF (by decide)) (FitQ.mono Fx (by decide))) rfl E ?_)
  clear E
  intro w81 d81 E
  clear d81
  refine ⟨E, ?_⟩
  simp only [Act.put,q1,q2,q3]
  refine SW rfl rfl rfl (by kernel_rfl) rfl (fun w hS => run_leI (c := true) rfl rfl rfl (cmpQ_le0 (Rat.floor_le x))) <| SW (v := .bool true) rfl rfl rfl rfl rfl (fun w hS => run_pick (b := true) rfl rfl rfl) <| SM rfl rfl rfl rfl rfl rfl rfl rfl <| SW rfl rfl rfl (by kernel_rfl) rfl (fun w hS => run_load_bx AgR rfl rfl (e21 hS) rfl) <| ?_
  simp only [q2,q3]
  refine SW rfl rfl rfl (by kernel_rfl) rfl (fun w hS => run_load_bx AgR rfl rfl (hS.1) rfl) <| ?_
  simp only [q2,q3]
  refine S1a (o := ⟨some 94, _, _, _, _, _⟩) rfl rfl rfl rfl (Oper.wp_callP fn_rational_Whole rfl (Whole_z 1 _ (by decide) (by decide)) rfl E ?_)
  clear E
  intro w83 n83 s83 m83 t83 d83 E
  clear d83
  refine ⟨E.2.2, ?_⟩
  simp only [Act.put,q1,q2,q3]
  have F82 : FitQ ((1 : Int) : Rat) 4 := FitQ_int (k := 4) (by decide) (Fits_of64 (by decide) (by decide))
  refine S1a (o := ⟨some 95, _, _, _, _, _⟩) rfl rfl rfl rfl (Oper.wp_callP fn_rational_Add rfl (Add_q _ _ _ _ ((x.floor : Int) : Rat) _ _ _ _ ((1 : Int) : Rat) _ (e4 E) (e3 E) (E.2.1) (E.1) (FitQ.mono FF (by decide)) (FitQ.mono F82 (by decide))) rfl E ?_)
  clear E
  intro w85 n85 s85 m85 t85 d85 E
  clear d85
  refine ⟨E.2.2.2.2, ?_⟩
  simp only [Act.put,q1,q2,q3]
  have F84 : FitQ (((x.floor : Int) : Rat) + ((1 : Int) : Rat)) 25 := FitQ_add FF F82
  refine S1a (o := ⟨some 96, _, _, _, _, _⟩) rfl rfl rfl rfl (Oper.wp_callN fn_rational_Cmp rfl (Cmp_q _ _ _ _ x _ _ _ _ (((x.floor : Int) : Rat) + ((1 : Int) : Rat)) _ (E.2.2.2.2.2.2.2.2.2.2.2.2.2.2.2.2.2.2.2.2.2.2.2.2.2.2.2.2.2.2.2.1) (E.2.2.2.2.2.2.2.2.2.2.2.2.2.2.2.2.2.2.2.2.2.2.2.2.2.2.2.2.2.2.1) (E.2.1) (E.1) (FitQ.mono Fx (by decide)) (FitQ.mono F84 (by decide))) rfl E ?_)
  clear E
  intro w86 d86 E
  clear d86
  refine ⟨E.2.2.2.2, ?_⟩
  simp only [Act.put,q1,q2,q3]
  refine SW rfl rfl rfl (by kernel_rfl) rfl (fun w hS => run_ltI (c := true) rfl rfl rfl (cmpQ_lt0 (by have := Rat.lt_floor_add_one x; rw [← succ_int] at this; exact this))) <| SW (v := .bool true) rfl rfl rfl rfl rfl (fun w hS => run_pick (b := true) rfl rfl rfl) <| SM rfl rfl rfl rfl rfl rfl rfl rfl <| SM rfl rfl rfl (by kernel_rfl) rfl rfl rfl rfl <| ?_
  simp only [q2,q3]
  refine SW (v := .bool true) rfl rfl rfl rfl rfl (fun w hS => run_pick (b := true) rfl rfl rfl) <| SA rfl rfl rfl rfl rfl rfl rfl rfl <| ?_
  simp only [q2,q3]
  refine SN ?_
  change Code.wp _ _ _ _ _
  refine wp_ret ?_
  exact bodyPost_ret (v := .bool true) (by simp [results, Try.results6, asAddr]) rfl ⟨rfl, E.2.2.2.2.2.2.2.2.2.2.2.2.2.2.2.2.2.2.2.2.2.2.2.2.2.2.2.2.2.2.2.2.2.1⟩
end Go.Proofs.Ytndpjfhhigpbhaa
