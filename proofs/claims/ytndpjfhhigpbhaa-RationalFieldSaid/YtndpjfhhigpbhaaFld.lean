/- Walk: the law RationalField. (Printed by a g_ program.) -/
import Derived.Test.YtndpjfhhigpbhaaExQ
namespace Go.Proofs.Ytndpjfhhigpbhaa
open Go.RowKit W
set_option maxRecDepth 100000 in
set_option maxHeartbeats 8000000 in
theorem fld_t  (ca0 cb0 : Int) (ck0 : Nat) (ca1 cb1 : Int) (ck1 : Nat) (ca2 cb2 : Int) (ck2 : Nat)  (w : World)  (r0 : -128 ≤ ca0 ∧ ca0 ≤ 127 ∧ -128 ≤ cb0 ∧ cb0 ≤ 127 ∧ ck0 < 256) (r1 : -128 ≤ ca1 ∧ ca1 ≤ 127 ∧ -128 ≤ cb1 ∧ cb1 ≤ 127 ∧ ck1 < 256) (r2 : -128 ≤ ca2 ∧ ca2 ≤ 127 ∧ -128 ≤ cb2 ∧ cb2 ≤ 127 ∧ ck2 < 256) :
    Calls Try.prog 8 #[.agg #[.int .i8 ca0, .int .i8 cb0, .int .u8 ((ck0 : Nat) : Int), .int .i8 ca1, .int .i8 cb1, .int .u8 ((ck1 : Nat) : Int), .int .i8 ca2, .int .i8 cb2, .int .u8 ((ck2 : Nat) : Int)]] w (RetB w true) := by
 have E := Env.start w
 obtain ⟨ra0, rb0, rc0, rd0, re0⟩ := r0
 obtain ⟨x, hm0⟩ : ∃ q, madeQ ca0 cb0 ck0 = q := ⟨_, rfl⟩
 have Fx : FitQ x 20 := by rw [← hm0]; exact madeQ_fit ra0 rb0 rc0 rd0 re0
 obtain ⟨ra1, rb1, rc1, rd1, re1⟩ := r1
 obtain ⟨y, hm1⟩ : ∃ q, madeQ ca1 cb1 ck1 = q := ⟨_, rfl⟩
 have Fy : FitQ y 20 := by rw [← hm1]; exact madeQ_fit ra1 rb1 rc1 rd1 re1
 obtain ⟨ra2, rb2, rc2, rd2, re2⟩ := r2
 obtain ⟨z, hm2⟩ : ∃ q, madeQ ca2 cb2 ck2 = q := ⟨_, rfl⟩
 have Fz : FitQ z 20 := by rw [← hm2]; exact madeQ_fit ra2 rb2 rc2 rd2 re2
 go_enter Try.func8, Try.ntmps8
 refine wp_seq ?_
 -- region 0
 refine RL ?_
 refine EF rfl (Oper.wp_box (cs := [.int .i8 ca0, .int .i8 cb0, .int .u8 ((ck0 : Nat) : Int), .int .i8 ca1, .int .i8 cb1, .int .u8 ((ck1 : Nat) : Int), .int .i8 ca2, .int .i8 cb2, .int .u8 ((ck2 : Nat) : Int)]) rfl rfl ?_)
 intro b1 w1 e1 z1 d1 x1
 have l1 : w.heap.size ≤ b1 := by rw [e1]; exact (E.1).size
 replace E := E.below d1
 clear e1 z1 d1
 replace E := E.x x1
 clear x1
 refine kw rfl ?_
 refine AC rfl rfl rfl rfl <| ?_
 simp only [q2,q3]
 refine WN ?_
 change Code.wp _ _ _ _ _
 refine wp_seq ?_
 -- region 1
 refine RL ?_
 refine EF rfl (Oper.wp_callB fn_elaw02_examples rfl (examples_t _) rfl E ?_)
 clear E
 intro w2 d2 E
 clear d2
 refine kw rfl ?_
 refine A rfl rfl rfl rfl rfl <| ?_
 simp only [q2,q3]
 refine WN ?_
 change Code.wp _ _ _ _ _
 refine wp_seq ?_
 refine wp_seq ?_
 -- region 2
 refine RL ?_
 refine M rfl rfl rfl rfl rfl <| V (v := .bool false) rfl rfl (run_not (b := true) rfl rfl) <| ?_
 simp only [q2,q3]
 refine WN ?_
 change Code.wp _ _ _ _ _
 refine wp_cond_false rfl ?_
 refine wp_skip ?_
 change Code.wp _ _ _ _ _
 refine wp_seq ?_
 -- region 4
 have hB3_0 : b1 < w2.heap.size := Bx.lt (E.1)
 refine wp_schedF E [.op 0, .op 1, .op 3, .op 4, .op 6, .op 7, .av 9, .av 10, .av 11, .op 2, .op 5, .op 8, .op 9, .op 10, .op 11] 3 (#[true, true, true, true, true, true, true, true, true, true, true, true, false, false, false]) (by kernel_rfl) (by kernel_rfl) (by kernel_rfl) (by kernel_rfl) (by intro d v c a w h; cases d <;> exact h) (by intro d v c a w h; cases d <;> exact h) ?_
 refine FP (v := .pointer (some ⟨b1, 0 + 0 * 3, none⟩)) rfl rfl rfl rfl rfl (fun w hS => run_idxA (j := 0) rfl Try.underlying52 (by kernel_rfl) rfl rfl rfl (by decide)) <| FP (v := .agg #[.int .i8 ca0, .int .i8 cb0, .int .u8 ((ck0 : Nat) : Int)]) rfl rfl rfl rfl rfl (fun w hS => run_loadW rfl rfl (hS.1) rfl rfl rfl) <| FP (v := .pointer (some ⟨b1, 0 + 1 * 3, none⟩)) rfl rfl rfl rfl rfl (fun w hS => run_idxA (j := 1) rfl Try.underlying52 (by kernel_rfl) rfl rfl rfl (by decide)) <| FP (v := .agg #[.int .i8 ca1, .int .i8 cb1, .int .u8 ((ck1 : Nat) : Int)]) rfl rfl rfl rfl rfl (fun w hS => run_loadW rfl rfl (hS.1) rfl rfl rfl) <| ?_
 simp only [q2,q3]
 refine FP (v := .pointer (some ⟨b1, 0 + 2 * 3, none⟩)) rfl rfl rfl rfl rfl (fun w hS => run_idxA (j := 2) rfl Try.underlying52 (by kernel_rfl) rfl rfl rfl (by decide)) <| FP (v := .agg #[.int .i8 ca2, .int .i8 cb2, .int .u8 ((ck2 : Nat) : Int)]) rfl rfl rfl rfl rfl (fun w hS => run_loadW rfl rfl (hS.1) rfl rfl rfl) <| FA _ (RunF.alloc AgR rfl rfl rfl) <| FA _ (RunF.alloc AgR rfl rfl rfl) <| FA _ (RunF.alloc AgR rfl rfl rfl) <| ?_
 simp only [q2,q3]
 clear E
 refine FE rfl rfl rfl rfl ?_
 intro w5 E
 refine Oper.wp_callP fn_eref02_Made rfl (Made_is ca0 cb0 ck0 x _ hm0 ra0 rb0 rc0 rd0 re0) rfl E ?_
 clear E
 intro w4 n4 s4 m4 t4 d4 E
 refine kF d4 E rfl ?_
 simp only [q2,q3]
 clear E
 refine FE rfl rfl rfl rfl ?_
 intro w7 E
 refine Oper.wp_callP fn_eref02_Made rfl (Made_is ca1 cb1 ck1 y _ hm1 ra1 rb1 rc1 rd1 re1) rfl E ?_
 clear E
 intro w6 n6 s6 m6 t6 d6 E
 refine kF d6 E rfl ?_
 simp only [q2,q3]
 clear E
 refine FE rfl rfl rfl rfl ?_
 intro w9 E
 refine Oper.wp_callP fn_eref02_Made rfl (Made_is ca2 cb2 ck2 z _ hm2 ra2 rb2 rc2 rd2 re2) rfl E ?_
 clear E
 intro w8 n8 s8 m8 t8 d8 E
 refine kF d8 E rfl ?_
 simp only [q2,q3]
 refine FF rfl rfl ?_
 intro b10 f10 u10
 have l10_0 : b1 < b10 := by omega
 simp only [q2,q3]
 refine FF rfl rfl ?_
 intro b11 f11 u11
 have l11_0 : b1 < b11 := by omega
 have v11_0 : b11 ≠ b10 := by rintro rfl; exact u11 (by simp)
 simp only [q2,q3]
 refine FF rfl rfl ?_
 intro b12 f12 u12
 have l12_0 : b1 < b12 := by omega
 have v12_0 : b12 ≠ b11 := by rintro rfl; exact u12 (by simp)
 have v12_1 : b12 ≠ b10 := by rintro rfl; exact u12 (by simp)
 simp only [q2,q3]
 clear E
 intro w13 E
 refine H1 (i := 12) (by kernel_rfl) ?_
 have x15 := E.2.2.1
 replace E := ((E.2.2.2).x (E.2.1)).x (E.1)
 refine HE (o := ⟨none, _, _, _, _, _⟩) rfl rfl (Oper.wp_store AgR rfl rfl rfl x15 rfl rfl (one4 (IsI.one (e7 E)) (IsI.one (e6 E))) ?_)
 intro w14 o14 y14
 replace E := (E.onl (x15.noW (now4 now0 now0)) ⟨okX (by omega), okX (by omega), trivial, trivial, trivial, trivial, trivial, trivial, okX (by omega), okW (by omega), trivial⟩ o14).x y14
 clear x15 o14 y14
 refine ⟨E.2.2.2.2.2.2.2.2.2, ?_⟩
 simp only [Act.put]
 refine H1 (i := 13) (by kernel_rfl) ?_
 have x17 := E.2.2.1
 replace E := ((E.2.2.2).x (E.2.1)).x (E.1)
 refine HE (o := ⟨none, _, _, _, _, _⟩) rfl rfl (Oper.wp_store AgR rfl rfl rfl x17 rfl rfl (one4 (IsI.one (e5 E)) (IsI.one (e4 E))) ?_)
 intro w16 o16 y16
 replace E := (E.onl (x17.noW (now4 now0 now0)) ⟨okX (by omega), okX (by omega), trivial, trivial, trivial, trivial, trivial, trivial, okX (by omega), okW (by omega), trivial⟩ o16).x y16
 clear x17 o16 y16
 refine ⟨E.2.2.2.2.2.2.2.2.2, ?_⟩
 simp only [Act.put]
 refine H1 (i := 14) (by kernel_rfl) ?_
 have x19 := E.2.2.1
 replace E := ((E.2.2.2).x (E.2.1)).x (E.1)
 refine HE (o := ⟨none, _, _, _, _, _⟩) rfl rfl (Oper.wp_store AgR rfl rfl rfl x19 rfl rfl (one4 (IsI.one (e3 E)) (IsI.one (E.2.2.1))) ?_)
 intro w18 o18 y18
 replace E := (E.onl (x19.noW (now4 now0 now0)) ⟨okX (by omega), okX (by omega), trivial, trivial, trivial, trivial, trivial, trivial, okX (by omega), okW (by omega), trivial⟩ o18).x y18
 clear x19 o18 y18
 refine ⟨E.2.2.2.2.2.2.2.2.2, ?_⟩
 simp only [Act.put]
 refine HN (by kernel_rfl) ?_
 change Code.wp _ _ _ _ _
 refine wp_seq ?_
 -- region 5
 have hB20_0 : b12 < w18.heap.size := Bx.lt (E.1)
 have hB20_1 : b11 < w18.heap.size := Bx.lt (E.2.1)
 have hB20_2 : b10 < w18.heap.size := Bx.lt (E.2.2.1)
 refine wp_schedF E [.op 0, .op 1, .op 3, .op 4, .av 6, .av 7, .op 2, .op 5, .op 6, .op 7] 2 (#[true, true, true, true, true, true, true, true, false, false]) (by kernel_rfl) (by kernel_rfl) (by kernel_rfl) (by kernel_rfl) (by intro d v c a w h; cases d <;> exact h) (by intro d v c a w h; cases d <;> exact h) ?_
 refine FP (v := .agg #[.bool n4, s4, .bool m4, t4]) rfl rfl rfl rfl rfl (fun w hS => run_load_bx AgR rfl rfl (hS.2.2.1) rfl) <| FP (v := .agg #[.bool n6, s6, .bool m6, t6]) rfl rfl rfl rfl rfl (fun w hS => run_load_bx AgR rfl rfl (hS.2.1) rfl) <| FP (v := .agg #[.bool n4, s4, .bool m4, t4]) rfl rfl rfl rfl rfl (fun w hS => run_load_bx AgR rfl rfl (hS.2.2.1) rfl) <| FP (v := .agg #[.bool n6, s6, .bool m6, t6]) rfl rfl rfl rfl rfl (fun w hS => run_load_bx AgR rfl rfl (hS.2.1) rfl) <| FA _ (RunF.alloc AgR rfl rfl rfl) <| FA _ (RunF.alloc AgR rfl rfl rfl) <| ?_
 simp only [q2,q3]
 clear E
 refine FE rfl rfl rfl rfl ?_
 intro w23 E
 refine Oper.wp_callP fn_rational_Add rfl (Add_q _ _ _ _ x _ _ _ _ y _ (e8 E) (e7 E) (e6 E) (e5 E) (FitQ.mono Fx (by decide)) (FitQ.mono Fy (by decide))) rfl E ?_
 clear E
 intro w22 n22 s22 m22 t22 d22 E
 refine kF d22 E rfl ?_
 have F21 : FitQ (x + y) 41 := FitQ_add Fx Fy
 simp only [q2,q3]
 clear E
 refine FE rfl rfl rfl rfl ?_
 intro w26 E
 refine Oper.wp_callP fn_rational_Mul rfl (Mul_q _ _ _ _ x _ _ _ _ y _ (e10 E) (e9 E) (e8 E) (e7 E) (FitQ.mono Fx (by decide)) (FitQ.mono Fy (by decide))) rfl E ?_
 clear E
 intro w25 n25 s25 m25 t25 d25 E
 refine kF d25 E rfl ?_
 have F24 : FitQ (x * y) 40 := FitQ_mul Fx Fy
 simp only [q2,q3]
 refine FF rfl rfl ?_
 intro b27 f27 u27
 have l27_0 : b12 < b27 := by omega
 have l27_1 : b11 < b27 := by omega
 have l27_2 : b10 < b27 := by omega
 simp only [q2,q3]
 refine FF rfl rfl ?_
 intro b28 f28 u28
 have l28_0 : b12 < b28 := by omega
 have l28_1 : b11 < b28 := by omega
 have l28_2 : b10 < b28 := by omega
 have v28_0 : b28 ≠ b27 := by rintro rfl; exact u28 (by simp)
 simp only [q2,q3]
 clear E
 intro w29 E
 refine H1 (i := 8) (by kernel_rfl) ?_
 have x31 := E.2.1
 replace E := (E.2.2).x (E.1)
 refine HE (o := ⟨none, _, _, _, _, _⟩) rfl rfl (Oper.wp_store AgR rfl rfl rfl x31 rfl rfl (one4 (IsI.one (e4 E)) (IsI.one (e3 E))) ?_)
 intro w30 o30 y30
 replace E := (E.onl (x31.noW (now4 now0 now0)) ⟨okX (by omega), trivial, trivial, trivial, trivial, okX (by omega), okX (by omega), okX (by omega), trivial, trivial, trivial, trivial, trivial, trivial, okX (by omega), okW (by omega), trivial⟩ o30).x y30
 clear x31 o30 y30
 refine ⟨E.2.2.2.2.2.2, ?_⟩
 simp only [Act.put]
 refine H1 (i := 9) (by kernel_rfl) ?_
 have x33 := E.2.1
 replace E := (E.2.2).x (E.1)
 refine HE (o := ⟨none, _, _, _, _, _⟩) rfl rfl (Oper.wp_store AgR rfl rfl rfl x33 rfl rfl (one4 (IsI.one (E.2.2.1)) (IsI.one (E.2.1))) ?_)
 intro w32 o32 y32
 replace E := (E.onl (x33.noW (now4 now0 now0)) ⟨okX (by omega), trivial, trivial, trivial, trivial, okX (by omega), okX (by omega), okX (by omega), trivial, trivial, trivial, trivial, trivial, trivial, okX (by omega), okW (by omega), trivial⟩ o32).x y32
 clear x33 o32 y32
 refine ⟨E.2.2.2.2.2.2, ?_⟩
 simp only [Act.put]
 refine HN (by kernel_rfl) ?_
 change Code.wp _ _ _ _ _
 refine wp_seq ?_
 refine wp_seq ?_
 -- region 6
 refine wp_schedE E ([0, 1, 2, 3, 4, 5, 6, 7, 8, 9, 10, 11, 12, 13, 14, 15, 16, 18, 19, 20, 17, 21, 22, 23, 24, 25, 26, 27, 28, 30, 31, 32, 29, 33, 34, 35, 36, 37]) (by kernel_rfl) (by kernel_rfl) (by kernel_rfl) (by kernel_rfl) (by intro d v c a w h; cases d <;> exact h) ?_
 replace E := E.drew
 refine SW rfl rfl rfl rfl rfl (fun w hS => run_load_bx AgR rfl rfl (hS.2.1) rfl) <| SW rfl rfl rfl rfl rfl (fun w hS => run_load_bx AgR rfl rfl (e7 hS) rfl) <| SW rfl rfl rfl rfl rfl (fun w hS => run_load_bx AgR rfl rfl (e8 hS) rfl) <| ?_
 simp only [q2,q3]
 refine S1a (o := ⟨some 34, _, _, _, _, _⟩) rfl rfl rfl rfl (Oper.wp_callP fn_rational_Add rfl (Add_q _ _ _ _ y _ _ _ _ x _ (e12 E) (e11 E) (e14 E) (e13 E) (FitQ.mono Fy (by decide)) (FitQ.mono Fx (by decide))) rfl E ?_)
 clear E
 intro w35 n35 s35 m35 t35 d35 E
 clear d35
 refine ⟨E.2.2, ?_⟩
 simp only [Act.put,q1,q2,q3]
 have F34 : FitQ (y + x) 41 := FitQ_add Fy Fx
 refine S1a (o := ⟨some 35, _, _, _, _, _⟩) rfl rfl rfl rfl (Oper.wp_callB fn_eref02_Same rfl (Same_t _ _ _ _ ((x + y).num) (((x + y).den : Nat) : Int) _ _ _ _ ((y + x).num) (((y + x).den : Nat) : Int) _ (e7 E) (e6 E) (E.2.1) (E.1) (congrArg Rat.num (Rat.add_comm x y)) (congrArg (fun z => ((Rat.den z : Nat) : Int)) (Rat.add_comm x y))) rfl E ?_)
 clear E
 intro w36 d36 E
 clear d36
 refine ⟨E.2.2, ?_⟩
 simp only [Act.put,q1,q2,q3]
 refine SW (v := .bool false) rfl rfl rfl rfl rfl (fun w hS => run_not (b := true) rfl rfl) <| SM rfl rfl rfl rfl rfl rfl rfl rfl <| SW rfl rfl rfl (by kernel_rfl) rfl (fun w hS => run_load_bx AgR rfl rfl (hS.1) rfl) <| SW rfl rfl rfl (by kernel_rfl) rfl (fun w hS => run_load_bx AgR rfl rfl (e7 hS) rfl) <| ?_
 simp only [q2,q3]
 refine SW rfl rfl rfl (by kernel_rfl) rfl (fun w hS => run_load_bx AgR rfl rfl (e8 hS) rfl) <| ?_
 simp only [q2,q3]
 refine S1a (o := ⟨some 41, _, _, _, _, _⟩) rfl rfl rfl rfl (Oper.wp_callP fn_rational_Mul rfl (Mul_q _ _ _ _ y _ _ _ _ x _ (e14 E) (e13 E) (e16 E) (e15 E) (FitQ.mono Fy (by decide)) (FitQ.mono Fx (by decide))) rfl E ?_)
 clear E
 intro w38 n38 s38 m38 t38 d38 E
 clear d38
 refine ⟨E.2.2.2.2, ?_⟩
 simp only [Act.put,q1,q2,q3]
 have F37 : FitQ (y * x) 40 := FitQ_mul Fy Fx
 refine S1a (o := ⟨some 42, _, _, _, _, _⟩) rfl rfl rfl rfl (Oper.wp_callB fn_eref02_Same rfl (Same_t _ _ _ _ ((x * y).num) (((x * y).den : Nat) : Int) _ _ _ _ ((y * x).num) (((y * x).den : Nat) : Int) _ (e7 E) (e6 E) (E.2.1) (E.1) (congrArg Rat.num (Rat.mul_comm x y)) (congrArg (fun z => ((Rat.den z : Nat) : Int)) (Rat.mul_comm x y))) rfl E ?_)
 clear E
 intro w39 d39 E
 clear d39
 refine ⟨E.2.2.2.2, ?_⟩
 simp only [Act.put,q1,q2,q3]
 refine SW (v := .bool false) rfl rfl rfl (by kernel_rfl) rfl (fun w hS => run_not (b := true) rfl rfl) <| SW (v := .bool false) rfl rfl rfl rfl rfl (fun w hS => run_pick (b := false) rfl rfl rfl) <| SM rfl rfl rfl rfl rfl rfl rfl rfl <| SW rfl rfl rfl (by kernel_rfl) rfl (fun w hS => run_load_bx AgR rfl rfl (hS.2.1) rfl) <| ?_
 simp only [q2,q3]
 refine SW rfl rfl rfl (by kernel_rfl) rfl (fun w hS => run_load_bx AgR rfl rfl (e6 hS) rfl) <| SW rfl rfl rfl (by kernel_rfl) rfl (fun w hS => run_load_bx AgR rfl rfl (e8 hS) rfl) <| SW rfl rfl rfl (by kernel_rfl) rfl (fun w hS => run_load_bx AgR rfl rfl (e7 hS) rfl) <| SW rfl rfl rfl (by kernel_rfl) rfl (fun w hS => run_load_bx AgR rfl rfl (e6 hS) rfl) <| ?_
 simp only [q2,q3]
 refine S1a (o := ⟨some 48, _, _, _, _, _⟩) rfl rfl rfl rfl (Oper.wp_callP fn_rational_Add rfl (Add_q _ _ _ _ (x + y) _ _ _ _ z _ (e9 E) (e8 E) (e14 E) (e13 E) (FitQ.mono F21 (by decide)) (FitQ.mono Fz (by decide))) rfl E ?_)
 clear E
 intro w41 n41 s41 m41 t41 d41 E
 clear d41
 refine ⟨E.2.2.2.2.2.2, ?_⟩
 simp only [Act.put,q1,q2,q3]
 have F40 : FitQ ((x + y) + z) 62 := FitQ_add F21 Fz
 refine S1a (o := ⟨some 52, _, _, _, _, _⟩) rfl rfl rfl rfl (Oper.wp_callP fn_rational_Add rfl (Add_q _ _ _ _ y _ _ _ _ z _ (e18 E) (e17 E) (e16 E) (e15 E) (FitQ.mono Fy (by decide)) (FitQ.mono Fz (by decide))) rfl E ?_)
 clear E
 intro w43 n43 s43 m43 t43 d43 E
 clear d43
 refine ⟨E.2.2.2.2.2.2.2.2, ?_⟩
 simp only [Act.put,q1,q2,q3]
 have F42 : FitQ (y + z) 41 := FitQ_add Fy Fz
 refine S1a (o := ⟨some 53, _, _, _, _, _⟩) rfl rfl rfl rfl (Oper.wp_callP fn_rational_Add rfl (Add_q _ _ _ _ x _ _ _ _ (y + z) _ (e22 E) (e21 E) (E.2.1) (E.1) (FitQ.mono Fx (by decide)) (FitQ.mono F42 (by decide))) rfl E ?_)
 clear E
 intro w45 n45 s45 m45 t45 d45 E
 clear d45
 refine ⟨E.2.2.2.2.2.2.2.2.2.2, ?_⟩
 simp only [Act.put,q1,q2,q3]
 have F44 : FitQ (x + (y + z)) 62 := FitQ_add Fx F42
 refine S1a (o := ⟨some 54, _, _, _, _, _⟩) rfl rfl rfl rfl (Oper.wp_callB fn_eref02_Same rfl (Same_t _ _ _ _ (((x + y) + z).num) ((((x + y) + z).den : Nat) : Int) _ _ _ _ ((x + (y + z)).num) (((x + (y + z)).den : Nat) : Int) _ (e5 E) (e4 E) (E.2.1) (E.1) (congrArg Rat.num (Rat.add_assoc x y z)) (congrArg (fun z => ((Rat.den z : Nat) : Int)) (Rat.add_assoc x y z))) rfl E ?_)
 clear E
 intro w46 d46 E
 clear d46
 refine ⟨E.2.2.2.2.2.2.2.2.2.2, ?_⟩
 simp only [Act.put,q1,q2,q3]
 refine SW (v := .bool false) rfl rfl rfl (by kernel_rfl) rfl (fun w hS => run_not (b := true) rfl rfl) <| SW (v := .bool false) rfl rfl rfl rfl rfl (fun w hS => run_pick (b := false) rfl rfl rfl) <| SM rfl rfl rfl rfl rfl rfl rfl rfl <| SW rfl rfl rfl (by kernel_rfl) rfl (fun w hS => run_load_bx AgR rfl rfl (hS.1) rfl) <| ?_
 simp only [q2,q3]
 refine SW rfl rfl rfl (by kernel_rfl) rfl (fun w hS => run_load_bx AgR rfl rfl (e6 hS) rfl) <| SW rfl rfl rfl (by kernel_rfl) rfl (fun w hS => run_load_bx AgR rfl rfl (e8 hS) rfl) <| SW rfl rfl rfl (by kernel_rfl) rfl (fun w hS => run_load_bx AgR rfl rfl (e7 hS) rfl) <| SW rfl rfl rfl (by kernel_rfl) rfl (fun w hS => run_load_bx AgR rfl rfl (e6 hS) rfl) <| ?_
 simp only [q2,q3]
 refine S1a (o := ⟨some 60, _, _, _, _, _⟩) rfl rfl rfl rfl (Oper.wp_callP fn_rational_Mul rfl (Mul_q _ _ _ _ (x * y) _ _ _ _ z _ (e13 E) (e12 E) (e20 E) (e19 E) (FitQ.mono F24 (by decide)) (FitQ.mono Fz (by decide))) rfl E ?_)
 clear E
 intro w48 n48 s48 m48 t48 d48 E
 clear d48
 refine ⟨E.2.2.2.2.2.2.2.2.2.2.2.2, ?_⟩
 simp only [Act.put,q1,q2,q3]
 have F47 : FitQ ((x * y) * z) 60 := FitQ_mul F24 Fz
 refine S1a (o := ⟨some 64, _, _, _, _, _⟩) rfl rfl rfl rfl (Oper.wp_callP fn_rational_Mul rfl (Mul_q _ _ _ _ y _ _ _ _ z _ (e24 E) (e23 E) (e22 E) (e21 E) (FitQ.mono Fy (by decide)) (FitQ.mono Fz (by decide))) rfl E ?_)
 clear E
 intro w50 n50 s50 m50 t50 d50 E
 clear d50
 refine ⟨E.2.2.2.2.2.2.2.2.2.2.2.2.2.2, ?_⟩
 simp only [Act.put,q1,q2,q3]
 have F49 : FitQ (y * z) 40 := FitQ_mul Fy Fz
 refine S1a (o := ⟨some 65, _, _, _, _, _⟩) rfl rfl rfl rfl (Oper.wp_callP fn_rational_Mul rfl (Mul_q _ _ _ _ x _ _ _ _ (y * z) _ (e28 E) (e27 E) (E.2.1) (E.1) (FitQ.mono Fx (by decide)) (FitQ.mono F49 (by decide))) rfl E ?_)
 clear E
 intro w52 n52 s52 m52 t52 d52 E
 clear d52
 refine ⟨E.2.2.2.2.2.2.2.2.2.2.2.2.2.2.2.2, ?_⟩
 simp only [Act.put,q1,q2,q3]
 have F51 : FitQ (x * (y * z)) 60 := FitQ_mul Fx F49
 refine S1a (o := ⟨some 66, _, _, _, _, _⟩) rfl rfl rfl rfl (Oper.wp_callB fn_eref02_Same rfl (Same_t _ _ _ _ (((x * y) * z).num) ((((x * y) * z).den : Nat) : Int) _ _ _ _ ((x * (y * z)).num) (((x * (y * z)).den : Nat) : Int) _ (e5 E) (e4 E) (E.2.1) (E.1) (congrArg Rat.num (Rat.mul_assoc x y z)) (congrArg (fun z => ((Rat.den z : Nat) : Int)) (Rat.mul_assoc x y z))) rfl E ?_)
 clear E
 intro w53 d53 E
 clear d53
 refine ⟨E.2.2.2.2.2.2.2.2.2.2.2.2.2.2.2.2, ?_⟩
 simp only [Act.put,q1,q2,q3]
 refine SW (v := .bool false) rfl rfl rfl (by kernel_rfl) rfl (fun w hS => run_not (b := true) rfl rfl) <| SW (v := .bool false) rfl rfl rfl rfl rfl (fun w hS => run_pick (b := false) rfl rfl rfl) <| ?_
 simp only [q2,q3]
 refine SN ?_
 change Code.wp _ _ _ _ _
 refine wp_cond_false rfl ?_
 refine wp_skip ?_
 change Code.wp _ _ _ _ _
 refine wp_seq ?_
 refine wp_seq ?_
 -- region 8
 refine wp_schedE E ([0, 1, 3, 4, 6, 7, 2, 5, 8, 9, 10, 11, 12, 13, 14, 16, 15, 17, 18, 19, 20, 21, 22, 23, 24, 25, 26, 27, 28, 29, 30, 33, 31, 32, 34, 35, 36]) (by kernel_rfl) (by kernel_rfl) (by kernel_rfl) (by kernel_rfl) (by intro d v c a w h; cases d <;> exact h) ?_
 replace E := E.drew
 refine SW rfl rfl rfl rfl rfl (fun w hS => run_load_bx AgR rfl rfl (e22 hS) rfl) <| SW rfl rfl rfl rfl rfl (fun w hS => run_load_bx AgR rfl rfl (e17 hS) rfl) <| SW rfl rfl rfl rfl rfl (fun w hS => run_load_bx AgR rfl rfl (e22 hS) rfl) <| SW rfl rfl rfl rfl rfl (fun w hS => run_load_bx AgR rfl rfl (e24 hS) rfl) <| ?_
 simp only [q2,q3]
 refine SW rfl rfl rfl rfl rfl (fun w hS => run_load_bx AgR rfl rfl (e22 hS) rfl) <| SW rfl rfl rfl rfl rfl (fun w hS => run_load_bx AgR rfl rfl (e23 hS) rfl) <| ?_
 simp only [q2,q3]
 refine S1a (o := ⟨some 71, _, _, _, _, _⟩) rfl rfl rfl rfl (Oper.wp_callP fn_rational_Mul rfl (Mul_q _ _ _ _ z _ _ _ _ (x + y) _ (e26 E) (e25 E) (e21 E) (e20 E) (FitQ.mono Fz (by decide)) (FitQ.mono F21 (by decide))) rfl E ?_)
 clear E
 intro w55 n55 s55 m55 t55 d55 E
 clear d55
 refine ⟨E.2.2, ?_⟩
 simp only [Act.put,q1,q2,q3]
 have F54 : FitQ (z * (x + y)) 61 := FitQ_mul Fz F21
 refine S1a (o := ⟨some 74, _, _, _, _, _⟩) rfl rfl rfl rfl (Oper.wp_callP fn_rational_Mul rfl (Mul_q _ _ _ _ z _ _ _ _ x _ (e28 E) (e27 E) (E.2.2.2.2.2.2.2.2.2.2.2.2.2.2.2.2.2.2.2.2.2.2.2.2.2.2.2.2.2.2.2.2.1) (E.2.2.2.2.2.2.2.2.2.2.2.2.2.2.2.2.2.2.2.2.2.2.2.2.2.2.2.2.2.2.2.1) (FitQ.mono Fz (by decide)) (FitQ.mono Fx (by decide))) rfl E ?_)
 clear E
 intro w57 n57 s57 m57 t57 d57 E
 clear d57
 refine ⟨E.2.2.2.2, ?_⟩
 simp only [Act.put,q1,q2,q3]
 have F56 : FitQ (z * x) 40 := FitQ_mul Fz Fx
 refine S1a (o := ⟨some 77, _, _, _, _, _⟩) rfl rfl rfl rfl (Oper.wp_callP fn_rational_Mul rfl (Mul_q _ _ _ _ z _ _ _ _ y _ (E.2.2.2.2.2.2.2.2.2.2.2.2.2.2.2.2.2.2.2.2.2.2.2.2.2.2.2.2.2.2.1) (e29 E) (E.2.2.2.2.2.2.2.2.2.2.2.2.2.2.2.2.2.2.2.2.2.2.2.2.2.2.2.2.2.2.2.2.1) (E.2.2.2.2.2.2.2.2.2.2.2.2.2.2.2.2.2.2.2.2.2.2.2.2.2.2.2.2.2.2.2.1) (FitQ.mono Fz (by decide)) (FitQ.mono Fy (by decide))) rfl E ?_)
 clear E
 intro w59 n59 s59 m59 t59 d59 E
 clear d59
 refine ⟨E.2.2.2.2.2.2, ?_⟩
 simp only [Act.put,q1,q2,q3]
 have F58 : FitQ (z * y) 40 := FitQ_mul Fz Fy
 refine S1a (o := ⟨some 78, _, _, _, _, _⟩) rfl rfl rfl rfl (Oper.wp_callP fn_rational_Add rfl (Add_q _ _ _ _ (z * x) _ _ _ _ (z * y) _ (e3 E) (E.2.2.1) (E.2.1) (E.1) (FitQ.mono F56 (by decide)) (FitQ.mono F58 (by decide))) rfl E ?_)
 clear E
 intro w61 n61 s61 m61 t61 d61 E
 clear d61
 refine ⟨E.2.2.2.2.2.2.2.2, ?_⟩
 simp only [Act.put,q1,q2,q3]
 have F60 : FitQ ((z * x) + (z * y)) 81 := FitQ_add F56 F58
 refine S1a (o := ⟨some 79, _, _, _, _, _⟩) rfl rfl rfl rfl (Oper.wp_callB fn_eref02_Same rfl (Same_t _ _ _ _ ((z * (x + y)).num) (((z * (x + y)).den : Nat) : Int) _ _ _ _ (((z * x) + (z * y)).num) ((((z * x) + (z * y)).den : Nat) : Int) _ (e7 E) (e6 E) (E.2.1) (E.1) (congrArg Rat.num (Rat.mul_add z x y)) (congrArg (fun z => ((Rat.den z : Nat) : Int)) (Rat.mul_add z x y))) rfl E ?_)
 clear E
 intro w62 d62 E
 clear d62
 refine ⟨E.2.2.2.2.2.2.2.2, ?_⟩
 simp only [Act.put,q1,q2,q3]
 refine SW (v := .bool false) rfl rfl rfl rfl rfl (fun w hS => run_not (b := true) rfl rfl) <| SM rfl rfl rfl rfl rfl rfl rfl rfl <| SW rfl rfl rfl (by kernel_rfl) rfl (fun w hS => run_load_bx AgR rfl rfl (e17 hS) rfl) <| SW rfl rfl rfl (by kernel_rfl) rfl (fun w hS => run_load_bx AgR rfl rfl (e23 hS) rfl) <| ?_
 simp only [q2,q3]
 refine SW rfl rfl rfl (by kernel_rfl) rfl (fun w hS => run_load_bx AgR rfl rfl (e24 hS) rfl) <| ?_
 simp only [q2,q3]
 refine S1a (o := ⟨some 84, _, _, _, _, _⟩) rfl rfl rfl rfl (Oper.wp_callP fn_rational_Sub rfl (Sub_q _ _ _ _ (x + y) _ _ _ _ y _ (e29 E) (e28 E) (E.2.2.2.2.2.2.2.2.2.2.2.2.2.2.2.2.2.2.2.2.2.2.2.2.2.2.2.2.2.2.2.2.2.2.2.2.1) (E.2.2.2.2.2.2.2.2.2.2.2.2.2.2.2.2.2.2.2.2.2.2.2.2.2.2.2.2.2.2.2.2.2.2.2.1) (FitQ.mono F21 (by decide)) (FitQ.mono Fy (by decide))) rfl E ?_)
 clear E
 intro w64 n64 s64 m64 t64 d64 E
 clear d64
 refine ⟨E.2.2.2.2.2.2.2.2.2.2, ?_⟩
 simp only [Act.put,q1,q2,q3]
 have F63 : FitQ ((x + y) - y) 62 := FitQ_sub F21 Fy
 refine S1a (o := ⟨some 86, _, _, _, _, _⟩) rfl rfl rfl rfl (Oper.wp_callB fn_eref02_Same rfl (Same_t _ _ _ _ (((x + y) - y).num) ((((x + y) - y).den : Nat) : Int) _ _ _ _ x.num ((x.den : Nat) : Int) _ (E.2.1) (E.1) (E.2.2.2.2.2.2.2.2.2.2.2.2.2.2.2.2.2.2.2.2.2.2.2.2.2.2.2.2.2.2.2.2.2.2.2.2.2.2.2.2.1) (E.2.2.2.2.2.2.2.2.2.2.2.2.2.2.2.2.2.2.2.2.2.2.2.2.2.2.2.2.2.2.2.2.2.2.2.2.2.2.2.1) (congrArg Rat.num (Rat.add_sub_cancel (a := x) (b := y))) (congrArg (fun z => ((Rat.den z : Nat) : Int)) (Rat.add_sub_cancel (a := x) (b := y)))) rfl E ?_)
 clear E
 intro w65 d65 E
 clear d65
 refine ⟨E.2.2.2.2.2.2.2.2.2.2, ?_⟩
 simp only [Act.put,q1,q2,q3]
 refine SW (v := .bool false) rfl rfl rfl (by kernel_rfl) rfl (fun w hS => run_not (b := true) rfl rfl) <| SW (v := .bool false) rfl rfl rfl rfl rfl (fun w hS => run_pick (b := false) rfl rfl rfl) <| SM rfl rfl rfl rfl rfl rfl rfl rfl <| SW rfl rfl rfl (by kernel_rfl) rfl (fun w hS => run_load_bx AgR rfl rfl (e24 hS) rfl) <| ?_
 simp only [q2,q3]
 refine SW rfl rfl rfl (by kernel_rfl) rfl (fun w hS => run_load_bx AgR rfl rfl (e24 hS) rfl) <| ?_
 simp only [q2,q3]
 refine S1a (o := ⟨some 92, _, _, _, _, _⟩) rfl rfl rfl rfl (Oper.wp_callP fn_rational_Neg rfl (Neg_q _ _ _ _ x _ (E.2.2.2.2.2.2.2.2.2.2.2.2.2.2.2.2.2.2.2.2.2.2.2.2.2.2.2.2.2.2.2.2.2.2.2.2.2.2.2.2.1) (E.2.2.2.2.2.2.2.2.2.2.2.2.2.2.2.2.2.2.2.2.2.2.2.2.2.2.2.2.2.2.2.2.2.2.2.2.2.2.2.1) (FitQ.mono Fx (by decide))) rfl E ?_)
 clear E
 intro w67 n67 s67 m67 t67 d67 E
 clear d67
 refine ⟨E.2.2.2.2.2.2.2.2.2.2.2.2, ?_⟩
 simp only [Act.put,q1,q2,q3]
 have F66 : FitQ (-x) 20 := FitQ_neg Fx
 refine S1a (o := ⟨some 93, _, _, _, _, _⟩) rfl rfl rfl rfl (Oper.wp_callP fn_rational_Add rfl (Add_q _ _ _ _ x _ _ _ _ (-x) _ (E.2.2.2.2.2.2.2.2.2.2.2.2.2.2.2.2.2.2.2.2.2.2.2.2.2.2.2.2.2.2.2.2.2.2.2.2.2.2.2.2.2.2.1) (E.2.2.2.2.2.2.2.2.2.2.2.2.2.2.2.2.2.2.2.2.2.2.2.2.2.2.2.2.2.2.2.2.2.2.2.2.2.2.2.2.2.1) (E.2.1) (E.1) (FitQ.mono Fx (by decide)) (FitQ.mono F66 (by decide))) rfl E ?_)
 clear E
 intro w69 n69 s69 m69 t69 d69 E
 clear d69
 refine ⟨E.2.2.2.2.2.2.2.2.2.2.2.2.2.2, ?_⟩
 simp only [Act.put,q1,q2,q3]
 have F68 : FitQ (x + (-x)) 41 := FitQ_add Fx F66
 refine S1a (o := ⟨some 94, _, _, _, _, _⟩) rfl rfl rfl rfl (Oper.wp_callP fn_rational_Whole rfl (Whole_z 0 _ (by decide) (by decide)) rfl E ?_)
 clear E
 intro w71 n71 s71 m71 t71 d71 E
 clear d71
 refine ⟨E.2.2.2.2.2.2.2.2.2.2.2.2.2.2.2.2, ?_⟩
 simp only [Act.put,q1,q2,q3]
 have F70 : FitQ ((0 : Int) : Rat) 4 := FitQ_int (k := 4) (by decide) (Fits_of64 (by decide) (by decide))
 refine S1a (o := ⟨some 95, _, _, _, _, _⟩) rfl rfl rfl rfl (Oper.wp_callB fn_eref02_Same rfl (Same_t _ _ _ _ ((x + (-x)).num) (((x + (-x)).den : Nat) : Int) _ _ _ _ (((0 : Int) : Rat).num) ((((0 : Int) : Rat).den : Nat) : Int) _ (e3 E) (E.2.2.1) (E.2.1) (E.1) (congrArg Rat.num (Rat.add_neg_cancel x)) (congrArg (fun z => ((Rat.den z : Nat) : Int)) (Rat.add_neg_cancel x))) rfl E ?_)
 clear E
 intro w72 d72 E
 clear d72
 refine ⟨E.2.2.2.2.2.2.2.2.2.2.2.2.2.2.2.2, ?_⟩
 simp only [Act.put,q1,q2,q3]
 refine SW (v := .bool false) rfl rfl rfl (by kernel_rfl) rfl (fun w hS => run_not (b := true) rfl rfl) <| SW (v := .bool false) rfl rfl rfl rfl rfl (fun w hS => run_pick (b := false) rfl rfl rfl) <| SM rfl rfl rfl rfl rfl rfl rfl rfl <| SW rfl rfl rfl (by kernel_rfl) rfl (fun w hS => run_load_bx AgR rfl rfl (e24 hS) rfl) <| ?_
 simp only [q2,q3]
 refine SW rfl rfl rfl (by kernel_rfl) rfl (fun w hS => run_load_bx AgR rfl rfl (e24 hS) rfl) <| ?_
 simp only [q2,q3]
 refine S1a (o := ⟨some 100, _, _, _, _, _⟩) rfl rfl rfl rfl (Oper.wp_callP fn_rational_Whole rfl (Whole_z 1 _ (by decide) (by decide)) rfl E ?_)
 clear E
 intro w74 n74 s74 m74 t74 d74 E
 clear d74
 refine ⟨E.2.2.2.2.2.2.2.2.2.2.2.2.2.2.2.2.2.2, ?_⟩
 simp only [Act.put,q1,q2,q3]
 have F73 : FitQ ((1 : Int) : Rat) 4 := FitQ_int (k := 4) (by decide) (Fits_of64 (by decide) (by decide))
 refine S1a (o := ⟨some 101, _, _, _, _, _⟩) rfl rfl rfl rfl (Oper.wp_callP fn_rational_Mul rfl (Mul_q _ _ _ _ x _ _ _ _ ((1 : Int) : Rat) _ (E.2.2.2.2.2.2.2.2.2.2.2.2.2.2.2.2.2.2.2.2.2.2.2.2.2.2.2.2.2.2.2.2.2.2.2.2.2.2.2.2.2.2.2.2.2.2.2.2.1) (E.2.2.2.2.2.2.2.2.2.2.2.2.2.2.2.2.2.2.2.2.2.2.2.2.2.2.2.2.2.2.2.2.2.2.2.2.2.2.2.2.2.2.2.2.2.2.2.1) (E.2.1) (E.1) (FitQ.mono Fx (by decide)) (FitQ.mono F73 (by decide))) rfl E ?_)
 clear E
 intro w76 n76 s76 m76 t76 d76 E
 clear d76
 refine ⟨E.2.2.2.2.2.2.2.2.2.2.2.2.2.2.2.2.2.2.2.2, ?_⟩
 simp only [Act.put,q1,q2,q3]
 have F75 : FitQ (x * ((1 : Int) : Rat)) 24 := FitQ_mul Fx F73
 refine S1a (o := ⟨some 103, _, _, _, _, _⟩) rfl rfl rfl rfl (Oper.wp_callB fn_eref02_Same rfl (Same_t _ _ _ _ ((x * ((1 : Int) : Rat)).num) (((x * ((1 : Int) : Rat)).den : Nat) : Int) _ _ _ _ x.num ((x.den : Nat) : Int) _ (E.2.1) (E.1) (E.2.2.2.2.2.2.2.2.2.2.2.2.2.2.2.2.2.2.2.2.2.2.2.2.2.2.2.2.2.2.2.2.2.2.2.2.2.2.2.2.2.2.2.2.2.2.2.2.2.2.1) (E.2.2.2.2.2.2.2.2.2.2.2.2.2.2.2.2.2.2.2.2.2.2.2.2.2.2.2.2.2.2.2.2.2.2.2.2.2.2.2.2.2.2.2.2.2.2.2.2.2.1) (congrArg Rat.num (Rat.mul_one x)) (congrArg (fun z => ((Rat.den z : Nat) : Int)) (Rat.mul_one x))) rfl E ?_)
 clear E
 intro w77 d77 E
 clear d77
 refine ⟨E.2.2.2.2.2.2.2.2.2.2.2.2.2.2.2.2.2.2.2.2, ?_⟩
 simp only [Act.put,q1,q2,q3]
 refine SW (v := .bool false) rfl rfl rfl (by kernel_rfl) rfl (fun w hS => run_not (b := true) rfl rfl) <| SW (v := .bool false) rfl rfl rfl rfl rfl (fun w hS => run_pick (b := false) rfl rfl rfl) <| ?_
 simp only [q2,q3]
 refine SN ?_
 change Code.wp _ _ _ _ _
 refine wp_cond_false rfl ?_
 refine wp_skip ?_
 change Code.wp _ _ _ _ _
 refine wp_seq ?_
 by_cases hy : y = 0
 case pos =>
  -- region 10
  refine RL ?_
  refine V rfl rfl (run_load_bx AgR rfl rfl (E.2.2.2.2.2.2.2.2.2.2.2.2.2.2.2.2.2.2.2.2.2.2.2.2.2.2.2.2.2.2.2.2.2.2.2.2.1) rfl) <| V rfl rfl (run_load_bx AgR rfl rfl (E.2.2.2.2.2.2.2.2.2.2.2.2.2.2.2.2.2.2.2.2.2.2.2.2.2.2.2.2.2.2.2.2.2.2.2.2.2.2.2.2.2.2.2.1) rfl) <| ?_
  simp only [q2,q3]
  refine EF rfl (Oper.wp_callPE fn_rational_Div rfl (Div_zero _ _ _ _ (x * y) _ _ _ _ y _ (E.2.2.2.2.2.2.2.2.2.2.2.2.2.2.2.2.2.2.2.2.2.2.2.2.2.2.2.2.2.2.2.2.2.2.2.2.2.2.2.1) (E.2.2.2.2.2.2.2.2.2.2.2.2.2.2.2.2.2.2.2.2.2.2.2.2.2.2.2.2.2.2.2.2.2.2.2.2.2.2.1) (E.2.2.2.2.2.2.2.2.2.2.2.2.2.2.2.2.2.2.2.2.2.2.2.2.2.2.2.2.2.2.2.2.2.2.2.2.2.2.2.2.2.2.2.2.2.2.2.2.1) (E.2.2.2.2.2.2.2.2.2.2.2.2.2.2.2.2.2.2.2.2.2.2.2.2.2.2.2.2.2.2.2.2.2.2.2.2.2.2.2.2.2.2.2.2.2.2.2.1) (by rw [hy]; rfl)) rfl E ?_)
  clear E
  intro w78 n78 s78 m78 t78 d78 E
  clear d78
  refine kw rfl ?_
  refine M rfl rfl rfl rfl rfl <| V rfl rfl (run_extract (vs := [.agg #[.bool n78, s78, .bool m78, t78], .int .i64 10]) rfl rfl rfl) <| V rfl rfl (run_extract (vs := [.agg #[.bool n78, s78, .bool m78, t78], .int .i64 10]) rfl rfl rfl) <| ?_
  simp only [q2,q3]
  refine EF rfl (Oper.wp_alloc AgR rfl ?_)
  intro b79 w79 e79 z79 d79 x79
  have l79_0 : b28 < b79 := by rw [e79]; exact Bx.lt (E.2.2.2.2.2.2.2.2.2.2.2.2.2.2.2.2.2.2.2.2.2.2.2.2.2.2.2.2.2.2.2.2.2.2.2.2.2.2.1)
  have l79_1 : b27 < b79 := by rw [e79]; exact Bx.lt (E.2.2.2.2.2.2.2.2.2.2.2.2.2.2.2.2.2.2.2.2.2.2.2.2.2.2.2.2.2.2.2.2.2.2.2.2.2.2.2.1)
  replace E := E.below d79
  clear e79 z79 d79
  refine kw rfl ?_
  simp only [q2,q3]
  refine EF rfl (Oper.wp_store AgR rfl rfl rfl x79 rfl rfl (one4 (IsI.one (E.2.1)) (IsI.one (E.1))) ?_)
  intro w80 o80 y80
  replace E := (E.onl (x79.noW (now4 now0 now0)) ⟨trivial, trivial, trivial, trivial, trivial, trivial, trivial, trivial, trivial, trivial, trivial, trivial, trivial, trivial, trivial, trivial, trivial, trivial, trivial, trivial, trivial, trivial, trivial, trivial, trivial, trivial, trivial, trivial, trivial, trivial, trivial, trivial, trivial, trivial, trivial, trivial, trivial, trivial, okX (by omega), okX (by omega), trivial, trivial, trivial, trivial, okX (by omega), okX (by omega), okX (by omega), trivial, trivial, trivial, trivial, trivial, trivial, okX (by omega), okW (by omega), trivial⟩ o80).x y80
  clear x79 o80 y80
  refine kn rfl ?_
  refine A rfl rfl rfl rfl rfl <| ?_
  simp only [q2,q3]
  refine WN ?_
  change Code.wp _ _ _ _ _
  refine wp_seq ?_
  -- region 11
  refine RL ?_
  refine V rfl rfl (run_load_bx AgR rfl rfl (E.2.2.2.2.2.2.2.2.2.2.2.2.2.2.2.2.2.2.2.2.2.2.2.2.2.2.2.2.2.2.2.2.2.2.2.2.2.2.2.2.2.2.2.2.2.2.1) rfl) <| ?_
  simp only [q2,q3]
  refine EF rfl (Oper.wp_callPE fn_rational_Inv rfl (Inv_zero _ _ _ _ y _ (E.2.2.2.2.2.2.2.2.2.2.2.2.2.2.2.2.2.2.2.2.2.2.2.2.2.2.2.2.2.2.2.2.2.2.2.2.2.2.2.2.2.2.2.2.2.2.2.2.2.2.2.1) (E.2.2.2.2.2.2.2.2.2.2.2.2.2.2.2.2.2.2.2.2.2.2.2.2.2.2.2.2.2.2.2.2.2.2.2.2.2.2.2.2.2.2.2.2.2.2.2.2.2.2.1) (by rw [hy]; rfl)) rfl E ?_)
  clear E
  intro w81 n81 s81 m81 t81 d81 E
  clear d81
  refine kw rfl ?_
  refine M rfl rfl rfl rfl rfl <| V rfl rfl (run_extract (vs := [.agg #[.bool n81, s81, .bool m81, t81], .int .i64 10]) rfl rfl rfl) <| V rfl rfl (run_extract (vs := [.agg #[.bool n81, s81, .bool m81, t81], .int .i64 10]) rfl rfl rfl) <| ?_
  simp only [q2,q3]
  refine EF rfl (Oper.wp_alloc AgR rfl ?_)
  intro b82 w82 e82 z82 d82 x82
  have l82_0 : b79 < b82 := by rw [e82]; exact Bx.lt (E.2.2.1)
  replace E := E.below d82
  clear e82 z82 d82
  refine kw rfl ?_
  simp only [q2,q3]
  refine EF rfl (Oper.wp_store AgR rfl rfl rfl x82 rfl rfl (one4 (IsI.one (E.2.1)) (IsI.one (E.1))) ?_)
  intro w83 o83 y83
  replace E := (E.onl (x82.noW (now4 now0 now0)) ⟨trivial, trivial, okX (by omega), trivial, trivial, trivial, trivial, trivial, trivial, trivial, trivial, trivial, trivial, trivial, trivial, trivial, trivial, trivial, trivial, trivial, trivial, trivial, trivial, trivial, trivial, trivial, trivial, trivial, trivial, trivial, trivial, trivial, trivial, trivial, trivial, trivial, trivial, trivial, trivial, trivial, trivial, okX (by omega), okX (by omega), trivial, trivial, trivial, trivial, okX (by omega), okX (by omega), okX (by omega), trivial, trivial, trivial, trivial, trivial, trivial, okX (by omega), okW (by omega), trivial⟩ o83).x y83
  clear x82 o83 y83
  refine kn rfl ?_
  refine A rfl rfl rfl rfl rfl <| ?_
  simp only [q2,q3]
  refine WN ?_
  change Code.wp _ _ _ _ _
  refine wp_seq ?_
  refine wp_seq ?_
  -- region 12
  refine RL ?_
  refine V rfl rfl (run_load_bx AgR rfl rfl (E.2.2.2.2.2.2.2.2.2.2.2.2.2.2.2.2.2.2.2.2.2.2.2.2.2.2.2.2.2.2.2.2.2.2.2.2.2.2.2.2.2.2.2.2.2.2.2.2.2.1) rfl) <| ?_
  simp only [q2,q3]
  refine EF rfl (Oper.wp_callN fn_rational_Sign rfl (Sign_q _ _ _ _ y _ (E.2.2.2.2.2.2.2.2.2.2.2.2.2.2.2.2.2.2.2.2.2.2.2.2.2.2.2.2.2.2.2.2.2.2.2.2.2.2.2.2.2.2.2.2.2.2.2.2.2.2.2.2.2.2.1) (E.2.2.2.2.2.2.2.2.2.2.2.2.2.2.2.2.2.2.2.2.2.2.2.2.2.2.2.2.2.2.2.2.2.2.2.2.2.2.2.2.2.2.2.2.2.2.2.2.2.2.2.2.2.1)) rfl E ?_)
  clear E
  intro w84 d84 E
  clear d84
  refine kw rfl ?_
  refine V rfl rfl (run_eqI (c := true) rfl rfl rfl (sgn_eq0 (by rw [hy]; rfl))) <| ?_
  simp only [q2,q3]
  refine WN ?_
  change Code.wp _ _ _ _ _
  refine wp_cond_true rfl ?_
  refine wp_seq ?_
  -- region 13
  refine RL ?_
  refine V rfl rfl (run_load_bx AgR rfl rfl (e3 E) rfl) <| M rfl rfl rfl rfl rfl <| ?_
  simp only [q2,q3]
  refine EF rfl (Oper.wp_callB fn_elaw02_fails rfl (fails_t 10 _ _ _ _ 0 0 _ (e5 E) (e4 E) rfl rfl) rfl E ?_)
  clear E
  intro w85 d85 E
  clear d85
  refine kw rfl ?_
  refine M rfl rfl rfl rfl rfl <| V (by kernel_rfl) rfl (run_load_bx AgR rfl rfl (E.1) rfl) <| M (by kernel_rfl) rfl rfl rfl rfl <| ?_
  simp only [q2,q3]
  refine EF rfl (Oper.wp_callB fn_elaw02_fails rfl (fails_t 10 _ _ _ _ 0 0 _ (E.2.2.1) (E.2.1) rfl rfl) rfl E ?_)
  clear E
  intro w86 d86 E
  clear d86
  refine kw rfl ?_
  refine V (v := .bool true) rfl rfl (run_pick (b := true) rfl rfl rfl) <| M rfl rfl rfl rfl rfl <| M (by kernel_rfl) rfl rfl rfl rfl <| V (v := .bool true) rfl rfl (run_pick (b := true) rfl rfl rfl) <| ?_
  simp only [q2,q3]
  refine A rfl rfl rfl rfl rfl <| ?_
  simp only [q2,q3]
  refine WN ?_
  change Code.wp _ _ _ _ _
  refine wp_ret ?_
  exact bodyPost_ret (v := .bool true) (by simp [results, Try.results8, asAddr]) rfl ⟨rfl, E.2.2.2.2.2.2.2.2.2.2.2.2.2.2.2.2.2.2.2.2.2.2.2.2.2.2.2.2.2.2.2.2.2.2.2.2.2.2.2.2.2.2.2.2.2.2.2.2.2.2.2.2.2.2.2.2.2.2.1⟩
 case neg =>
  -- region 10
  refine RL ?_
  refine V rfl rfl (run_load_bx AgR rfl rfl (E.2.2.2.2.2.2.2.2.2.2.2.2.2.2.2.2.2.2.2.2.2.2.2.2.2.2.2.2.2.2.2.2.2.2.2.2.1) rfl) <| V rfl rfl (run_load_bx AgR rfl rfl (E.2.2.2.2.2.2.2.2.2.2.2.2.2.2.2.2.2.2.2.2.2.2.2.2.2.2.2.2.2.2.2.2.2.2.2.2.2.2.2.2.2.2.2.1) rfl) <| ?_
  simp only [q2,q3]
  refine EF rfl (Oper.wp_callPE fn_rational_Div rfl (Div_q _ _ _ _ (x * y) _ _ _ _ y _ (E.2.2.2.2.2.2.2.2.2.2.2.2.2.2.2.2.2.2.2.2.2.2.2.2.2.2.2.2.2.2.2.2.2.2.2.2.2.2.2.1) (E.2.2.2.2.2.2.2.2.2.2.2.2.2.2.2.2.2.2.2.2.2.2.2.2.2.2.2.2.2.2.2.2.2.2.2.2.2.2.1) (E.2.2.2.2.2.2.2.2.2.2.2.2.2.2.2.2.2.2.2.2.2.2.2.2.2.2.2.2.2.2.2.2.2.2.2.2.2.2.2.2.2.2.2.2.2.2.2.2.1) (E.2.2.2.2.2.2.2.2.2.2.2.2.2.2.2.2.2.2.2.2.2.2.2.2.2.2.2.2.2.2.2.2.2.2.2.2.2.2.2.2.2.2.2.2.2.2.2.1) hy (FitQ.mono F24 (by decide)) (FitQ.mono Fy (by decide))) rfl E ?_)
  clear E
  intro w88 n88 s88 m88 t88 d88 E
  clear d88
  refine kw rfl ?_
  have F87 : FitQ ((x * y) / y) 60 := FitQ_div hy F24 Fy
  refine M rfl rfl rfl rfl rfl <| V rfl rfl (run_extract (vs := [.agg #[.bool n88, s88, .bool m88, t88], .int .i64 0]) rfl rfl rfl) <| V rfl rfl (run_extract (vs := [.agg #[.bool n88, s88, .bool m88, t88], .int .i64 0]) rfl rfl rfl) <| ?_
  simp only [q2,q3]
  refine EF rfl (Oper.wp_alloc AgR rfl ?_)
  intro b89 w89 e89 z89 d89 x89
  have l89_0 : b28 < b89 := by rw [e89]; exact Bx.lt (E.2.2.2.2.2.2.2.2.2.2.2.2.2.2.2.2.2.2.2.2.2.2.2.2.2.2.2.2.2.2.2.2.2.2.2.2.2.2.1)
  have l89_1 : b27 < b89 := by rw [e89]; exact Bx.lt (E.2.2.2.2.2.2.2.2.2.2.2.2.2.2.2.2.2.2.2.2.2.2.2.2.2.2.2.2.2.2.2.2.2.2.2.2.2.2.2.1)
  replace E := E.below d89
  clear e89 z89 d89
  refine kw rfl ?_
  simp only [q2,q3]
  refine EF rfl (Oper.wp_store AgR rfl rfl rfl x89 rfl rfl (one4 (IsI.one (E.2.1)) (IsI.one (E.1))) ?_)
  intro w90 o90 y90
  replace E := (E.onl (x89.noW (now4 now0 now0)) ⟨trivial, trivial, trivial, trivial, trivial, trivial, trivial, trivial, trivial, trivial, trivial, trivial, trivial, trivial, trivial, trivial, trivial, trivial, trivial, trivial, trivial, trivial, trivial, trivial, trivial, trivial, trivial, trivial, trivial, trivial, trivial, trivial, trivial, trivial, trivial, trivial, trivial, trivial, okX (by omega), okX (by omega), trivial, trivial, trivial, trivial, okX (by omega), okX (by omega), okX (by omega), trivial, trivial, trivial, trivial, trivial, trivial, okX (by omega), okW (by omega), trivial⟩ o90).x y90
  clear x89 o90 y90
  refine kn rfl ?_
  refine A rfl rfl rfl rfl rfl <| ?_
  simp only [q2,q3]
  refine WN ?_
  change Code.wp _ _ _ _ _
  refine wp_seq ?_
  -- region 11
  refine RL ?_
  refine V rfl rfl (run_load_bx AgR rfl rfl (E.2.2.2.2.2.2.2.2.2.2.2.2.2.2.2.2.2.2.2.2.2.2.2.2.2.2.2.2.2.2.2.2.2.2.2.2.2.2.2.2.2.2.2.2.2.2.1) rfl) <| ?_
  simp only [q2,q3]
  refine EF rfl (Oper.wp_callPE fn_rational_Inv rfl (Inv_q _ _ _ _ y _ (E.2.2.2.2.2.2.2.2.2.2.2.2.2.2.2.2.2.2.2.2.2.2.2.2.2.2.2.2.2.2.2.2.2.2.2.2.2.2.2.2.2.2.2.2.2.2.2.2.2.2.2.1) (E.2.2.2.2.2.2.2.2.2.2.2.2.2.2.2.2.2.2.2.2.2.2.2.2.2.2.2.2.2.2.2.2.2.2.2.2.2.2.2.2.2.2.2.2.2.2.2.2.2.2.1) hy (FitQ.mono Fy (by decide))) rfl E ?_)
  clear E
  intro w92 n92 s92 m92 t92 d92 E
  clear d92
  refine kw rfl ?_
  have F91 : FitQ (y⁻¹) 20 := FitQ_inv hy Fy
  refine M rfl rfl rfl rfl rfl <| V rfl rfl (run_extract (vs := [.agg #[.bool n92, s92, .bool m92, t92], .int .i64 0]) rfl rfl rfl) <| V rfl rfl (run_extract (vs := [.agg #[.bool n92, s92, .bool m92, t92], .int .i64 0]) rfl rfl rfl) <| ?_
  simp only [q2,q3]
  refine EF rfl (Oper.wp_alloc AgR rfl ?_)
  intro b93 w93 e93 z93 d93 x93
  have l93_0 : b89 < b93 := by rw [e93]; exact Bx.lt (E.2.2.1)
  replace E := E.below d93
  clear e93 z93 d93
  refine kw rfl ?_
  simp only [q2,q3]
  refine EF rfl (Oper.wp_store AgR rfl rfl rfl x93 rfl rfl (one4 (IsI.one (E.2.1)) (IsI.one (E.1))) ?_)
  intro w94 o94 y94
  replace E := (E.onl (x93.noW (now4 now0 now0)) ⟨trivial, trivial, okX (by omega), trivial, trivial, trivial, trivial, trivial, trivial, trivial, trivial, trivial, trivial, trivial, trivial, trivial, trivial, trivial, trivial, trivial, trivial, trivial, trivial, trivial, trivial, trivial, trivial, trivial, trivial, trivial, trivial, trivial, trivial, trivial, trivial, trivial, trivial, trivial, trivial, trivial, trivial, okX (by omega), okX (by omega), trivial, trivial, trivial, trivial, okX (by omega), okX (by omega), okX (by omega), trivial, trivial, trivial, trivial, trivial, trivial, okX (by omega), okW (by omega), trivial⟩ o94).x y94
  clear x93 o94 y94
  refine kn rfl ?_
  refine A rfl rfl rfl rfl rfl <| ?_
  simp only [q2,q3]
  refine WN ?_
  change Code.wp _ _ _ _ _
  refine wp_seq ?_
  refine wp_seq ?_
  -- region 12
  refine RL ?_
  refine V rfl rfl (run_load_bx AgR rfl rfl (E.2.2.2.2.2.2.2.2.2.2.2.2.2.2.2.2.2.2.2.2.2.2.2.2.2.2.2.2.2.2.2.2.2.2.2.2.2.2.2.2.2.2.2.2.2.2.2.2.2.1) rfl) <| ?_
  simp only [q2,q3]
  refine EF rfl (Oper.wp_callN fn_rational_Sign rfl (Sign_q _ _ _ _ y _ (E.2.2.2.2.2.2.2.2.2.2.2.2.2.2.2.2.2.2.2.2.2.2.2.2.2.2.2.2.2.2.2.2.2.2.2.2.2.2.2.2.2.2.2.2.2.2.2.2.2.2.2.2.2.2.1) (E.2.2.2.2.2.2.2.2.2.2.2.2.2.2.2.2.2.2.2.2.2.2.2.2.2.2.2.2.2.2.2.2.2.2.2.2.2.2.2.2.2.2.2.2.2.2.2.2.2.2.2.2.2.1)) rfl E ?_)
  clear E
  intro w95 d95 E
  clear d95
  refine kw rfl ?_
  refine V rfl rfl (run_eqI (c := false) rfl rfl rfl (sgn_ne0 (num_ne hy))) <| ?_
  simp only [q2,q3]
  refine WN ?_
  change Code.wp _ _ _ _ _
  refine wp_cond_false rfl ?_
  refine wp_skip ?_
  change Code.wp _ _ _ _ _
  refine wp_seq ?_
  -- region 14
  refine RL ?_
  refine V rfl rfl (run_load_bx AgR rfl rfl (e3 E) rfl) <| M rfl rfl rfl rfl rfl <| V rfl rfl (run_load_bx AgR rfl rfl (E.2.2.2.2.2.2.2.2.2.2.2.2.2.2.2.2.2.2.2.2.2.2.2.2.2.2.2.2.2.2.2.2.2.2.2.2.2.2.2.2.2.2.2.2.2.2.2.2.2.2.1) rfl) <| ?_
  simp only [q2,q3]
  refine EF rfl (Oper.wp_callB fn_elaw02_is rfl (is_t _ _ _ _ (((x * y) / y).num) ((((x * y) / y).den : Nat) : Int) _ _ _ _ x.num ((x.den : Nat) : Int) _ (e5 E) (e4 E) (E.2.2.2.2.2.2.2.2.2.2.2.2.2.2.2.2.2.2.2.2.2.2.2.2.2.2.2.2.2.2.2.2.2.2.2.2.2.2.2.2.2.2.2.2.2.2.2.2.2.2.2.2.2.2.2.2.1) (E.2.2.2.2.2.2.2.2.2.2.2.2.2.2.2.2.2.2.2.2.2.2.2.2.2.2.2.2.2.2.2.2.2.2.2.2.2.2.2.2.2.2.2.2.2.2.2.2.2.2.2.2.2.2.2.1) (congrArg Rat.num (Rat.mul_div_cancel hy)) (congrArg (fun z => ((Rat.den z : Nat) : Int)) (Rat.mul_div_cancel hy))) rfl E ?_)
  clear E
  intro w96 d96 E
  clear d96
  refine kw rfl ?_
  refine M rfl rfl rfl rfl rfl <| M (by kernel_rfl) rfl rfl rfl rfl <| V (by kernel_rfl) rfl (run_eqI (c := true) rfl rfl rfl (by decide)) <| V (v := .bool true) rfl rfl (run_pick (b := true) rfl rfl rfl) <| ?_
  simp only [q2,q3]
  refine M rfl rfl rfl rfl rfl <| V (by kernel_rfl) rfl (run_load_bx AgR rfl rfl (E.1) rfl) <| V (by kernel_rfl) rfl (run_load_bx AgR rfl rfl (E.2.2.2.2.2.2.2.2.2.2.2.2.2.2.2.2.2.2.2.2.2.2.2.2.2.2.2.2.2.2.2.2.2.2.2.2.2.2.2.2.2.2.2.2.2.2.2.2.2.1) rfl) <| ?_
  simp only [q2,q3]
  refine EF rfl (Oper.wp_callP fn_rational_Mul rfl (Mul_q _ _ _ _ (y⁻¹) _ _ _ _ y _ (E.2.2.1) (E.2.1) (E.2.2.2.2.2.2.2.2.2.2.2.2.2.2.2.2.2.2.2.2.2.2.2.2.2.2.2.2.2.2.2.2.2.2.2.2.2.2.2.2.2.2.2.2.2.2.2.2.2.2.2.2.2.2.1) (E.2.2.2.2.2.2.2.2.2.2.2.2.2.2.2.2.2.2.2.2.2.2.2.2.2.2.2.2.2.2.2.2.2.2.2.2.2.2.2.2.2.2.2.2.2.2.2.2.2.2.2.2.2.1) (FitQ.mono F91 (by decide)) (FitQ.mono Fy (by decide))) rfl E ?_)
  clear E
  intro w98 n98 s98 m98 t98 d98 E
  clear d98
  refine kw rfl ?_
  have F97 : FitQ ((y⁻¹) * y) 40 := FitQ_mul F91 Fy
  simp only [q2,q3]
  refine EF rfl (Oper.wp_callP fn_rational_Whole rfl (Whole_z 1 _ (by decide) (by decide)) rfl E ?_)
  clear E
  intro w99 n99 s99 m99 t99 d99 E
  clear d99
  refine kw rfl ?_
  simp only [q2,q3]
  refine EF rfl (Oper.wp_callB fn_eref02_Same rfl (Same_t _ _ _ _ (((y⁻¹) * y).num) ((((y⁻¹) * y).den : Nat) : Int) _ _ _ _ (((1 : Int) : Rat).num) ((((1 : Int) : Rat).den : Nat) : Int) _ (e3 E) (E.2.2.1) (E.2.1) (E.1) (congrArg Rat.num (Rat.inv_mul_cancel y hy)) (congrArg (fun z => ((Rat.den z : Nat) : Int)) (Rat.inv_mul_cancel y hy))) rfl E ?_)
  clear E
  intro w100 d100 E
  clear d100
  refine kw rfl ?_
  refine V (v := .bool true) rfl rfl (run_pick (b := true) rfl rfl rfl) <| M rfl rfl rfl rfl rfl <| M (by kernel_rfl) rfl rfl rfl rfl <| V (v := .bool true) rfl rfl (run_pick (b := true) rfl rfl rfl) <| ?_
  simp only [q2,q3]
  refine A rfl rfl rfl rfl rfl <| ?_
  simp only [q2,q3]
  refine WN ?_
  change Code.wp _ _ _ _ _
  refine wp_ret ?_
  exact bodyPost_ret (v := .bool true) (by simp [results, Try.results8, asAddr]) rfl ⟨rfl, E.2.2.2.2.2.2.2.2.2.2.2.2.2.2.2.2.2.2.2.2.2.2.2.2.2.2.2.2.2.2.2.2.2.2.2.2.2.2.2.2.2.2.2.2.2.2.2.2.2.2.2.2.2.2.2.2.2.2.2.2.2.2.1⟩
end Go.Proofs.Ytndpjfhhigpbhaa
