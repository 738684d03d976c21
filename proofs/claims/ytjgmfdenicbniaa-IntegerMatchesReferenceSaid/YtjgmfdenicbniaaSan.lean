/- sanity: the fixed examples. (Printed by g_law01b.py.) -/
import Derived.Test.YtjgmfdenicbniaaLawB
namespace Go.Proofs.Ytjgmfdenicbniaa
open Go.RowKit W
theorem bz_64 : BezIs 6 4 2 1 (-1) := ⟨by decide, fun h => absurd h (by decide), fun _ => by decide, by decide⟩
theorem bz_50 : BezIs (-5) 0 5 (-1) 0 := ⟨by decide, fun _ => by decide, fun h => absurd rfl h, by decide⟩
theorem bz_03 : BezIs 0 (-3) 3 0 (-1) := ⟨by decide, fun h => absurd h (by decide), fun _ => by decide, by decide⟩
theorem run_buildI1 {ρ : Operand → Value} {o : Oper} {w : World} (ho : o.op = .build 24 #[(0, .const (.bool true))]) (hr : ρ (.const (.bool true)) = .bool true := by rfl) : (execOp ρ o).run Try.prog w = .ok (.value (.agg #[.bool true, .slice none 0 0])) w := by
  unfold execOp; rw [ho]
  have hi : (zeroValue 24).run Try.prog w = .ok (.agg #[.bool false, .slice none 0 0]) w := by kernel_rfl
  simp [go_sem, hi, hr]
set_option maxRecDepth 100000 in
set_option maxHeartbeats 8000000 in
theorem sanity_t   (w : World)   :
    Calls Try.prog 13 #[] w (RetB w true) := by
 have E := Env.start w
 go_enter Try.func13, Try.ntmps13
 refine wp_seq ?_
 -- region 0
 refine wp_region_lit ?_
 refine LV (v := .bool false) rfl (run_assign rfl rfl) ?_
 simp only [Act.put,q1,q2]
 refine wpList_nil ?_
 change Code.wp _ _ _ _ _
 refine wp_seq ?_
 -- region 1
 refine wp_region_lit ?_
 refine L1 rfl (Oper.wp_callI fn_elaw01_of rfl (of_z (-7) _ (by decide) (by decide)) rfl E ?_)
 clear E
 intro w1 n1 s1 d1 E
 clear d1
 simp only [Act.put,q1,q2,q3]
 refine L1 rfl (Oper.wp_callI fn_elaw01_of rfl (of_z 2 _ (by decide) (by decide)) rfl E ?_)
 clear E
 intro w2 n2 s2 d2 E
 clear d2
 simp only [Act.put,q1,q2,q3]
 refine L1 rfl (Oper.wp_callIIE fn_integer_DivMod rfl (DivMod_z _ _ (-7) 2 _ (E.2.1) (E.1) (by decide) (Fits.mono (Fits_lt (m := 4) (by decide) : Fits (-7) 4) (by decide)) (Fits.mono (Fits_lt (m := 4) (by decide) : Fits 2 4) (by decide))) rfl E ?_)
 clear E
 intro w3 n3 s3 m3 t3 d3 E
 clear d3
 simp only [Act.put,q1,q2,q3]
 refine LV (v := .tuple #[.agg #[.bool n3, s3], .agg #[.bool m3, t3], .int .i64 0]) rfl (run_move rfl rfl) ?_
 simp only [Act.put,q1,q2,q3]
 refine LV (v := .agg #[.bool n3, s3]) rfl (run_extract (vs := [.agg #[.bool n3, s3], .agg #[.bool m3, t3], .int .i64 0]) rfl rfl rfl) ?_
 simp only [Act.put,q1,q2,q3]
 refine LV (v := .agg #[.bool m3, t3]) rfl (run_extract (vs := [.agg #[.bool n3, s3], .agg #[.bool m3, t3], .int .i64 0]) rfl rfl rfl) ?_
 simp only [Act.put,q1,q2,q3]
 refine LV (v := .int .i64 0) rfl (run_extract (vs := [.agg #[.bool n3, s3], .agg #[.bool m3, t3], .int .i64 0]) rfl rfl rfl) ?_
 simp only [Act.put,q1,q2,q3]
 refine L1 rfl (Oper.wp_alloc AgI rfl ?_)
 intro b4 w4 e4 z4 d4 x4
 have l4 : w.heap.size ≤ b4 := by rw [e4]; exact (E.2.2.2.2.1).size
 replace E := E.below d4
 clear e4 z4 d4
 simp only [Act.put,q1,q2,q3]
 refine L1 rfl (Oper.wp_alloc AgI rfl ?_)
 intro b5 w5 e5 z5 d5 x5
 have l5_0 : b4 < b5 := by rw [e5]; exact Bx.lt (x4)
 replace E := E.below d5
 replace x4 := Bx.below x4 d5
 clear e5 z5 d5
 simp only [Act.put,q1,q2,q3]
 refine L1 rfl (Oper.wp_store AgI rfl rfl rfl x4 rfl rfl (IsI.one (E.2.1)) ?_)
 intro w6 o6 y6
 replace E := (E.onl (x4.noW now0) ⟨trivial, trivial, trivial, trivial, okW (by omega), trivial⟩ o6).b y6
 replace x5 := Bx.onl x5 (by omega) o6
 clear x4 o6 y6
 simp only [Act.put]
 refine L1 rfl (Oper.wp_store AgI rfl rfl rfl x5 rfl rfl (IsI.one (E.2.1)) ?_)
 intro w7 o7 y7
 replace E := (E.onl (x5.noW now0) ⟨okB (by omega), trivial, trivial, trivial, trivial, okW (by omega), trivial⟩ o7).b y7
 clear x5 o7 y7
 simp only [Act.put]
 refine LV (v := .int .i64 0) rfl (run_assign rfl rfl) ?_
 simp only [Act.put,q1,q2,q3]
 refine wpList_nil ?_
 change Code.wp _ _ _ _ _
 refine wp_seq ?_
 -- region 2
 refine wp_region_lit ?_
 refine L1 rfl (Oper.wp_callI fn_elaw01_of rfl (of_z 7 _ (by decide) (by decide)) rfl E ?_)
 clear E
 intro w8 n8 s8 d8 E
 clear d8
 simp only [Act.put,q1,q2,q3]
 refine L1 rfl (Oper.wp_callI fn_elaw01_of rfl (of_z (-2) _ (by decide) (by decide)) rfl E ?_)
 clear E
 intro w9 n9 s9 d9 E
 clear d9
 simp only [Act.put,q1,q2,q3]
 refine L1 rfl (Oper.wp_callIIE fn_integer_DivMod rfl (DivMod_z _ _ 7 (-2) _ (E.2.1) (E.1) (by decide) (Fits.mono (Fits_lt (m := 4) (by decide) : Fits 7 4) (by decide)) (Fits.mono (Fits_lt (m := 4) (by decide) : Fits (-2) 4) (by decide))) rfl E ?_)
 clear E
 intro w10 n10 s10 m10 t10 d10 E
 clear d10
 simp only [Act.put,q1,q2,q3]
 refine LV (v := .tuple #[.agg #[.bool n10, s10], .agg #[.bool m10, t10], .int .i64 0]) rfl (run_move rfl rfl) ?_
 simp only [Act.put,q1,q2,q3]
 refine LV (v := .agg #[.bool n10, s10]) rfl (run_extract (vs := [.agg #[.bool n10, s10], .agg #[.bool m10, t10], .int .i64 0]) rfl rfl rfl) ?_
 simp only [Act.put,q1,q2,q3]
 refine LV (v := .agg #[.bool m10, t10]) rfl (run_extract (vs := [.agg #[.bool n10, s10], .agg #[.bool m10, t10], .int .i64 0]) rfl rfl rfl) ?_
 simp only [Act.put,q1,q2,q3]
 refine LV (v := .int .i64 0) rfl (run_extract (vs := [.agg #[.bool n10, s10], .agg #[.bool m10, t10], .int .i64 0]) rfl rfl rfl) ?_
 simp only [Act.put,q1,q2,q3]
 refine L1 rfl (Oper.wp_alloc AgI rfl ?_)
 intro b11 w11 e11 z11 d11 x11
 have l11_0 : b5 < b11 := by rw [e11]; exact Bx.lt (E.2.2.2.2.1)
 replace E := E.below d11
 clear e11 z11 d11
 simp only [Act.put,q1,q2,q3]
 refine L1 rfl (Oper.wp_alloc AgI rfl ?_)
 intro b12 w12 e12 z12 d12 x12
 have l12_0 : b11 < b12 := by rw [e12]; exact Bx.lt (x11)
 replace E := E.below d12
 replace x11 := Bx.below x11 d12
 clear e12 z12 d12
 simp only [Act.put,q1,q2,q3]
 refine L1 rfl (Oper.wp_store AgI rfl rfl rfl x11 rfl rfl (IsI.one (E.2.1)) ?_)
 intro w13 o13 y13
 replace E := (E.onl (x11.noW now0) ⟨trivial, trivial, trivial, trivial, okB (by omega), okB (by omega), trivial, trivial, trivial, trivial, okW (by omega), trivial⟩ o13).b y13
 replace x12 := Bx.onl x12 (by omega) o13
 clear x11 o13 y13
 simp only [Act.put]
 refine L1 rfl (Oper.wp_store AgI rfl rfl rfl x12 rfl rfl (IsI.one (E.2.1)) ?_)
 intro w14 o14 y14
 replace E := (E.onl (x12.noW now0) ⟨okB (by omega), trivial, trivial, trivial, trivial, okB (by omega), okB (by omega), trivial, trivial, trivial, trivial, okW (by omega), trivial⟩ o14).b y14
 clear x12 o14 y14
 simp only [Act.put]
 refine LV (v := .int .i64 0) rfl (run_assign rfl rfl) ?_
 simp only [Act.put,q1,q2,q3]
 refine wpList_nil ?_
 change Code.wp _ _ _ _ _
 refine wp_seq ?_
 -- region 3
 refine wp_region_lit ?_
 refine L1 rfl (Oper.wp_callI fn_elaw01_of rfl (of_z 7 _ (by decide) (by decide)) rfl E ?_)
 clear E
 intro w15 n15 s15 d15 E
 clear d15
 simp only [Act.put,q1,q2,q3]
 refine L1 rfl (Oper.wp_callI fn_elaw01_of rfl (of_z 0 _ (by decide) (by decide)) rfl E ?_)
 clear E
 intro w16 n16 s16 d16 E
 clear d16
 simp only [Act.put,q1,q2,q3]
 refine L1 rfl (Oper.wp_callIIE fn_integer_DivMod rfl (DivMod_zero _ _ 7 _ (E.2.1) (E.1)) rfl E ?_)
 clear E
 intro w17 n17 s17 m17 t17 d17 E
 clear d17
 simp only [Act.put,q1,q2,q3]
 refine LV (v := .tuple #[.agg #[.bool n17, s17], .agg #[.bool m17, t17], .int .i64 10]) rfl (run_move rfl rfl) ?_
 simp only [Act.put,q1,q2,q3]
 refine LV (v := .agg #[.bool n17, s17]) rfl (run_extract (vs := [.agg #[.bool n17, s17], .agg #[.bool m17, t17], .int .i64 10]) rfl rfl rfl) ?_
 simp only [Act.put,q1,q2,q3]
 refine LV (v := .agg #[.bool m17, t17]) rfl (run_extract (vs := [.agg #[.bool n17, s17], .agg #[.bool m17, t17], .int .i64 10]) rfl rfl rfl) ?_
 simp only [Act.put,q1,q2,q3]
 refine LV (v := .int .i64 10) rfl (run_extract (vs := [.agg #[.bool n17, s17], .agg #[.bool m17, t17], .int .i64 10]) rfl rfl rfl) ?_
 simp only [Act.put,q1,q2,q3]
 refine L1 rfl (Oper.wp_alloc AgI rfl ?_)
 intro b18 w18 e18 z18 d18 x18
 have l18_0 : b12 < b18 := by rw [e18]; exact Bx.lt (E.2.2.2.2.1)
 replace E := E.below d18
 clear e18 z18 d18
 simp only [Act.put,q1,q2,q3]
 refine L1 rfl (Oper.wp_alloc AgI rfl ?_)
 intro b19 w19 e19 z19 d19 x19
 have l19_0 : b18 < b19 := by rw [e19]; exact Bx.lt (x18)
 replace E := E.below d19
 replace x18 := Bx.below x18 d19
 clear e19 z19 d19
 simp only [Act.put,q1,q2,q3]
 refine L1 rfl (Oper.wp_store AgI rfl rfl rfl x18 rfl rfl (IsI.one (E.2.1)) ?_)
 intro w20 o20 y20
 replace E := (E.onl (x18.noW now0) ⟨trivial, trivial, trivial, trivial, okB (by omega), okB (by omega), trivial, trivial, trivial, trivial, okB (by omega), okB (by omega), trivial, trivial, trivial, trivial, okW (by omega), trivial⟩ o20).b y20
 replace x19 := Bx.onl x19 (by omega) o20
 clear x18 o20 y20
 simp only [Act.put]
 refine L1 rfl (Oper.wp_store AgI rfl rfl rfl x19 rfl rfl (IsI.one (E.2.1)) ?_)
 intro w21 o21 y21
 replace E := (E.onl (x19.noW now0) ⟨okB (by omega), trivial, trivial, trivial, trivial, okB (by omega), okB (by omega), trivial, trivial, trivial, trivial, okB (by omega), okB (by omega), trivial, trivial, trivial, trivial, okW (by omega), trivial⟩ o21).b y21
 clear x19 o21 y21
 simp only [Act.put]
 refine LV (v := .int .i64 10) rfl (run_assign rfl rfl) ?_
 simp only [Act.put,q1,q2,q3]
 refine wpList_nil ?_
 change Code.wp _ _ _ _ _
 refine wp_seq ?_
 -- region 4
 refine wp_region_lit ?_
 refine L1 rfl (Oper.wp_callI fn_elaw01_of rfl (of_z 6 _ (by decide) (by decide)) rfl E ?_)
 clear E
 intro w22 n22 s22 d22 E
 clear d22
 simp only [Act.put,q1,q2,q3]
 refine L1 rfl (Oper.wp_callI fn_elaw01_of rfl (of_z 4 _ (by decide) (by decide)) rfl E ?_)
 clear E
 intro w23 n23 s23 d23 E
 clear d23
 simp only [Act.put,q1,q2,q3]
 refine L1 rfl (Oper.wp_callIII fn_integer_Bezout rfl (Bezout_is _ _ 6 4 2 1 (-1) _ (E.2.1) (E.1) (Fits.mono (Fits_lt (m := 4) (by decide) : Fits 6 4) (by decide)) (Fits.mono (Fits_lt (m := 4) (by decide) : Fits 4 4) (by decide)) bz_64) rfl E ?_)
 clear E
 intro w24 n24 s24 m24 t24 p24 q24 d24 E
 clear d24
 simp only [Act.put,q1,q2,q3]
 refine LV (v := .tuple #[.agg #[.bool n24, s24], .agg #[.bool m24, t24], .agg #[.bool p24, q24]]) rfl (run_move rfl rfl) ?_
 simp only [Act.put,q1,q2,q3]
 refine LV (v := .agg #[.bool n24, s24]) rfl (run_extract (vs := [.agg #[.bool n24, s24], .agg #[.bool m24, t24], .agg #[.bool p24, q24]]) rfl rfl rfl) ?_
 simp only [Act.put,q1,q2,q3]
 refine LV (v := .agg #[.bool m24, t24]) rfl (run_extract (vs := [.agg #[.bool n24, s24], .agg #[.bool m24, t24], .agg #[.bool p24, q24]]) rfl rfl rfl) ?_
 simp only [Act.put,q1,q2,q3]
 refine LV (v := .agg #[.bool p24, q24]) rfl (run_extract (vs := [.agg #[.bool n24, s24], .agg #[.bool m24, t24], .agg #[.bool p24, q24]]) rfl rfl rfl) ?_
 simp only [Act.put,q1,q2,q3]
 refine L1 rfl (Oper.wp_alloc AgI rfl ?_)
 intro b25 w25 e25 z25 d25 x25
 have l25_0 : b19 < b25 := by rw [e25]; exact Bx.lt (E.2.2.2.2.2.1)
 replace E := E.below d25
 clear e25 z25 d25
 simp only [Act.put,q1,q2,q3]
 refine L1 rfl (Oper.wp_alloc AgI rfl ?_)
 intro b26 w26 e26 z26 d26 x26
 have l26_0 : b25 < b26 := by rw [e26]; exact Bx.lt (x25)
 replace E := E.below d26
 replace x25 := Bx.below x25 d26
 clear e26 z26 d26
 simp only [Act.put,q1,q2,q3]
 refine L1 rfl (Oper.wp_alloc AgI rfl ?_)
 intro b27 w27 e27 z27 d27 x27
 have l27_0 : b26 < b27 := by rw [e27]; exact Bx.lt (x26)
 replace E := E.below d27
 replace x25 := Bx.below x25 d27
 replace x26 := Bx.below x26 d27
 clear e27 z27 d27
 simp only [Act.put,q1,q2,q3]
 refine L1 rfl (Oper.wp_store AgI rfl rfl rfl x25 rfl rfl (IsI.one (E.2.2.1)) ?_)
 intro w28 o28 y28
 replace E := (E.onl (x25.noW now0) ⟨trivial, trivial, trivial, trivial, trivial, okB (by omega), okB (by omega), trivial, trivial, trivial, trivial, okB (by omega), okB (by omega), trivial, trivial, trivial, trivial, okB (by omega), okB (by omega), trivial, trivial, trivial, trivial, okW (by omega), trivial⟩ o28).b y28
 replace x26 := Bx.onl x26 (by omega) o28
 replace x27 := Bx.onl x27 (by omega) o28
 clear x25 o28 y28
 simp only [Act.put]
 refine L1 rfl (Oper.wp_store AgI rfl rfl rfl x26 rfl rfl (IsI.one (E.2.2.1)) ?_)
 intro w29 o29 y29
 replace E := (E.onl (x26.noW now0) ⟨okB (by omega), trivial, trivial, trivial, trivial, trivial, okB (by omega), okB (by omega), trivial, trivial, trivial, trivial, okB (by omega), okB (by omega), trivial, trivial, trivial, trivial, okB (by omega), okB (by omega), trivial, trivial, trivial, trivial, okW (by omega), trivial⟩ o29).b y29
 replace x27 := Bx.onl x27 (by omega) o29
 clear x26 o29 y29
 simp only [Act.put]
 refine L1 rfl (Oper.wp_store AgI rfl rfl rfl x27 rfl rfl (IsI.one (E.2.2.1)) ?_)
 intro w30 o30 y30
 replace E := (E.onl (x27.noW now0) ⟨okB (by omega), okB (by omega), trivial, trivial, trivial, trivial, trivial, okB (by omega), okB (by omega), trivial, trivial, trivial, trivial, okB (by omega), okB (by omega), trivial, trivial, trivial, trivial, okB (by omega), okB (by omega), trivial, trivial, trivial, trivial, okW (by omega), trivial⟩ o30).b y30
 clear x27 o30 y30
 simp only [Act.put]
 refine wpList_nil ?_
 change Code.wp _ _ _ _ _
 refine wp_seq ?_
 -- region 5
 refine wp_region_lit ?_
 refine L1 rfl (Oper.wp_callI fn_elaw01_of rfl (of_z (-5) _ (by decide) (by decide)) rfl E ?_)
 clear E
 intro w31 n31 s31 d31 E
 clear d31
 simp only [Act.put,q1,q2,q3]
 refine L1 rfl (Oper.wp_callI fn_elaw01_of rfl (of_z 0 _ (by decide) (by decide)) rfl E ?_)
 clear E
 intro w32 n32 s32 d32 E
 clear d32
 simp only [Act.put,q1,q2,q3]
 refine L1 rfl (Oper.wp_callIII fn_integer_Bezout rfl (Bezout_is _ _ (-5) 0 5 (-1) 0 _ (E.2.1) (E.1) (Fits.mono (Fits_lt (m := 4) (by decide) : Fits (-5) 4) (by decide)) (Fits.mono (Fits_lt (m := 4) (by decide) : Fits 0 4) (by decide)) bz_50) rfl E ?_)
 clear E
 intro w33 n33 s33 m33 t33 p33 q33 d33 E
 clear d33
 simp only [Act.put,q1,q2,q3]
 refine LV (v := .tuple #[.agg #[.bool n33, s33], .agg #[.bool m33, t33], .agg #[.bool p33, q33]]) rfl (run_move rfl rfl) ?_
 simp only [Act.put,q1,q2,q3]
 refine LV (v := .agg #[.bool n33, s33]) rfl (run_extract (vs := [.agg #[.bool n33, s33], .agg #[.bool m33, t33], .agg #[.bool p33, q33]]) rfl rfl rfl) ?_
 simp only [Act.put,q1,q2,q3]
 refine LV (v := .agg #[.bool m33, t33]) rfl (run_extract (vs := [.agg #[.bool n33, s33], .agg #[.bool m33, t33], .agg #[.bool p33, q33]]) rfl rfl rfl) ?_
 simp only [Act.put,q1,q2,q3]
 refine LV (v := .agg #[.bool p33, q33]) rfl (run_extract (vs := [.agg #[.bool n33, s33], .agg #[.bool m33, t33], .agg #[.bool p33, q33]]) rfl rfl rfl) ?_
 simp only [Act.put,q1,q2,q3]
 refine L1 rfl (Oper.wp_alloc AgI rfl ?_)
 intro b34 w34 e34 z34 d34 x34
 have l34_0 : b27 < b34 := by rw [e34]; exact Bx.lt (E.2.2.2.2.2.1)
 replace E := E.below d34
 clear e34 z34 d34
 simp only [Act.put,q1,q2,q3]
 refine L1 rfl (Oper.wp_alloc AgI rfl ?_)
 intro b35 w35 e35 z35 d35 x35
 have l35_0 : b34 < b35 := by rw [e35]; exact Bx.lt (x34)
 replace E := E.below d35
 replace x34 := Bx.below x34 d35
 clear e35 z35 d35
 simp only [Act.put,q1,q2,q3]
 refine L1 rfl (Oper.wp_alloc AgI rfl ?_)
 intro b36 w36 e36 z36 d36 x36
 have l36_0 : b35 < b36 := by rw [e36]; exact Bx.lt (x35)
 replace E := E.below d36
 replace x34 := Bx.below x34 d36
 replace x35 := Bx.below x35 d36
 clear e36 z36 d36
 simp only [Act.put,q1,q2,q3]
 refine L1 rfl (Oper.wp_store AgI rfl rfl rfl x34 rfl rfl (IsI.one (E.2.2.1)) ?_)
 intro w37 o37 y37
 replace E := (E.onl (x34.noW now0) ⟨trivial, trivial, trivial, trivial, trivial, okB (by omega), okB (by omega), okB (by omega), trivial, trivial, trivial, trivial, trivial, okB (by omega), okB (by omega), trivial, trivial, trivial, trivial, okB (by omega), okB (by omega), trivial, trivial, trivial, trivial, okB (by omega), okB (by omega), trivial, trivial, trivial, trivial, okW (by omega), trivial⟩ o37).b y37
 replace x35 := Bx.onl x35 (by omega) o37
 replace x36 := Bx.onl x36 (by omega) o37
 clear x34 o37 y37
 simp only [Act.put]
 refine L1 rfl (Oper.wp_store AgI rfl rfl rfl x35 rfl rfl (IsI.one (E.2.2.1)) ?_)
 intro w38 o38 y38
 replace E := (E.onl (x35.noW now0) ⟨okB (by omega), trivial, trivial, trivial, trivial, trivial, okB (by omega), okB (by omega), okB (by omega), trivial, trivial, trivial, trivial, trivial, okB (by omega), okB (by omega), trivial, trivial, trivial, trivial, okB (by omega), okB (by omega), trivial, trivial, trivial, trivial, okB (by omega), okB (by omega), trivial, trivial, trivial, trivial, okW (by omega), trivial⟩ o38).b y38
 replace x36 := Bx.onl x36 (by omega) o38
 clear x35 o38 y38
 simp only [Act.put]
 refine L1 rfl (Oper.wp_store AgI rfl rfl rfl x36 rfl rfl (IsI.one (E.2.2.1)) ?_)
 intro w39 o39 y39
 replace E := (E.onl (x36.noW now0) ⟨okB (by omega), okB (by omega), trivial, trivial, trivial, trivial, trivial, okB (by omega), okB (by omega), okB (by omega), trivial, trivial, trivial, trivial, trivial, okB (by omega), okB (by omega), trivial, trivial, trivial, trivial, okB (by omega), okB (by omega), trivial, trivial, trivial, trivial, okB (by omega), okB (by omega), trivial, trivial, trivial, trivial, okW (by omega), trivial⟩ o39).b y39
 clear x36 o39 y39
 simp only [Act.put]
 refine wpList_nil ?_
 change Code.wp _ _ _ _ _
 refine wp_seq ?_
 -- region 6
 refine wp_region_lit ?_
 refine L1 rfl (Oper.wp_callI fn_elaw01_of rfl (of_z 0 _ (by decide) (by decide)) rfl E ?_)
 clear E
 intro w40 n40 s40 d40 E
 clear d40
 simp only [Act.put,q1,q2,q3]
 refine L1 rfl (Oper.wp_callI fn_elaw01_of rfl (of_z (-3) _ (by decide) (by decide)) rfl E ?_)
 clear E
 intro w41 n41 s41 d41 E
 clear d41
 simp only [Act.put,q1,q2,q3]
 refine L1 rfl (Oper.wp_callIII fn_integer_Bezout rfl (Bezout_is _ _ 0 (-3) 3 0 (-1) _ (E.2.1) (E.1) (Fits.mono (Fits_lt (m := 4) (by decide) : Fits 0 4) (by decide)) (Fits.mono (Fits_lt (m := 4) (by decide) : Fits (-3) 4) (by decide)) bz_03) rfl E ?_)
 clear E
 intro w42 n42 s42 m42 t42 p42 q42 d42 E
 clear d42
 simp only [Act.put,q1,q2,q3]
 refine LV (v := .tuple #[.agg #[.bool n42, s42], .agg #[.bool m42, t42], .agg #[.bool p42, q42]]) rfl (run_move rfl rfl) ?_
 simp only [Act.put,q1,q2,q3]
 refine LV (v := .agg #[.bool n42, s42]) rfl (run_extract (vs := [.agg #[.bool n42, s42], .agg #[.bool m42, t42], .agg #[.bool p42, q42]]) rfl rfl rfl) ?_
 simp only [Act.put,q1,q2,q3]
 refine LV (v := .agg #[.bool m42, t42]) rfl (run_extract (vs := [.agg #[.bool n42, s42], .agg #[.bool m42, t42], .agg #[.bool p42, q42]]) rfl rfl rfl) ?_
 simp only [Act.put,q1,q2,q3]
 refine LV (v := .agg #[.bool p42, q42]) rfl (run_extract (vs := [.agg #[.bool n42, s42], .agg #[.bool m42, t42], .agg #[.bool p42, q42]]) rfl rfl rfl) ?_
 simp only [Act.put,q1,q2,q3]
 refine L1 rfl (Oper.wp_alloc AgI rfl ?_)
 intro b43 w43 e43 z43 d43 x43
 have l43_0 : b36 < b43 := by rw [e43]; exact Bx.lt (E.2.2.2.2.2.1)
 replace E := E.below d43
 clear e43 z43 d43
 simp only [Act.put,q1,q2,q3]
 refine L1 rfl (Oper.wp_alloc AgI rfl ?_)
 intro b44 w44 e44 z44 d44 x44
 have l44_0 : b43 < b44 := by rw [e44]; exact Bx.lt (x43)
 replace E := E.below d44
 replace x43 := Bx.below x43 d44
 clear e44 z44 d44
 simp only [Act.put,q1,q2,q3]
 refine L1 rfl (Oper.wp_alloc AgI rfl ?_)
 intro b45 w45 e45 z45 d45 x45
 have l45_0 : b44 < b45 := by rw [e45]; exact Bx.lt (x44)
 replace E := E.below d45
 replace x43 := Bx.below x43 d45
 replace x44 := Bx.below x44 d45
 clear e45 z45 d45
 simp only [Act.put,q1,q2,q3]
 refine L1 rfl (Oper.wp_store AgI rfl rfl rfl x43 rfl rfl (IsI.one (E.2.2.1)) ?_)
 intro w46 o46 y46
 replace E := (E.onl (x43.noW now0) ⟨trivial, trivial, trivial, trivial, trivial, okB (by omega), okB (by omega), okB (by omega), trivial, trivial, trivial, trivial, trivial, okB (by omega), okB (by omega), okB (by omega), trivial, trivial, trivial, trivial, trivial, okB (by omega), okB (by omega), trivial, trivial, trivial, trivial, okB (by omega), okB (by omega), trivial, trivial, trivial, trivial, okB (by omega), okB (by omega), trivial, trivial, trivial, trivial, okW (by omega), trivial⟩ o46).b y46
 replace x44 := Bx.onl x44 (by omega) o46
 replace x45 := Bx.onl x45 (by omega) o46
 clear x43 o46 y46
 simp only [Act.put]
 refine L1 rfl (Oper.wp_store AgI rfl rfl rfl x44 rfl rfl (IsI.one (E.2.2.1)) ?_)
 intro w47 o47 y47
 replace E := (E.onl (x44.noW now0) ⟨okB (by omega), trivial, trivial, trivial, trivial, trivial, okB (by omega), okB (by omega), okB (by omega), trivial, trivial, trivial, trivial, trivial, okB (by omega), okB (by omega), okB (by omega), trivial, trivial, trivial, trivial, trivial, okB (by omega), okB (by omega), trivial, trivial, trivial, trivial, okB (by omega), okB (by omega), trivial, trivial, trivial, trivial, okB (by omega), okB (by omega), trivial, trivial, trivial, trivial, okW (by omega), trivial⟩ o47).b y47
 replace x45 := Bx.onl x45 (by omega) o47
 clear x44 o47 y47
 simp only [Act.put]
 refine L1 rfl (Oper.wp_store AgI rfl rfl rfl x45 rfl rfl (IsI.one (E.2.2.1)) ?_)
 intro w48 o48 y48
 replace E := (E.onl (x45.noW now0) ⟨okB (by omega), okB (by omega), trivial, trivial, trivial, trivial, trivial, okB (by omega), okB (by omega), okB (by omega), trivial, trivial, trivial, trivial, trivial, okB (by omega), okB (by omega), okB (by omega), trivial, trivial, trivial, trivial, trivial, okB (by omega), okB (by omega), trivial, trivial, trivial, trivial, okB (by omega), okB (by omega), trivial, trivial, trivial, trivial, okB (by omega), okB (by omega), trivial, trivial, trivial, trivial, okW (by omega), trivial⟩ o48).b y48
 clear x45 o48 y48
 simp only [Act.put]
 refine wpList_nil ?_
 change Code.wp _ _ _ _ _
 refine wp_seq ?_
 -- region 7
 refine wp_region_lit ?_
 refine L1 rfl (Oper.wp_callI fn_elaw01_of rfl (of_z (-2) _ (by decide) (by decide)) rfl E ?_)
 clear E
 intro w49 n49 s49 d49 E
 clear d49
 simp only [Act.put,q1,q2,q3]
 refine L1 rfl (Oper.wp_callIE fn_integer_Pow rfl (Pow_z _ (-2) 33 _ (E.1) (by decide) (Fits.mono (Fits_lt (m := 4) (by decide) : Fits (-2) 4) (by decide)) (pow_fits2 (Fits_lt (m := 4) (by decide) : Fits (-2) 4) _ (by decide) (by decide))) rfl E ?_)
 clear E
 intro w50 n50 s50 d50 E
 clear d50
 simp only [Act.put,q1,q2,q3]
 refine LV (v := .tuple #[.agg #[.bool n50, s50], .int .i64 0]) rfl (run_move rfl rfl) ?_
 simp only [Act.put,q1,q2,q3]
 refine LV (v := .agg #[.bool n50, s50]) rfl (run_extract (vs := [.agg #[.bool n50, s50], .int .i64 0]) rfl rfl rfl) ?_
 simp only [Act.put,q1,q2,q3]
 refine LV (v := .int .i64 0) rfl (run_extract (vs := [.agg #[.bool n50, s50], .int .i64 0]) rfl rfl rfl) ?_
 simp only [Act.put,q1,q2,q3]
 refine L1 rfl (Oper.wp_alloc AgI rfl ?_)
 intro b51 w51 e51 z51 d51 x51
 have l51_0 : b45 < b51 := by rw [e51]; exact Bx.lt (E.2.2.1)
 replace E := E.below d51
 clear e51 z51 d51
 simp only [Act.put,q1,q2,q3]
 refine L1 rfl (Oper.wp_store AgI rfl rfl rfl x51 rfl rfl (IsI.one (E.1)) ?_)
 intro w52 o52 y52
 replace E := (E.onl (x51.noW now0) ⟨trivial, trivial, okB (by omega), okB (by omega), okB (by omega), trivial, trivial, trivial, trivial, trivial, okB (by omega), okB (by omega), okB (by omega), trivial, trivial, trivial, trivial, trivial, okB (by omega), okB (by omega), okB (by omega), trivial, trivial, trivial, trivial, trivial, okB (by omega), okB (by omega), trivial, trivial, trivial, trivial, okB (by omega), okB (by omega), trivial, trivial, trivial, trivial, okB (by omega), okB (by omega), trivial, trivial, trivial, trivial, okW (by omega), trivial⟩ o52).b y52
 clear x51 o52 y52
 simp only [Act.put]
 refine LV (v := .int .i64 0) rfl (run_assign rfl rfl) ?_
 simp only [Act.put,q1,q2,q3]
 refine wpList_nil ?_
 change Code.wp _ _ _ _ _
 refine wp_seq ?_
 -- region 8
 refine wp_region_lit ?_
 refine L1 rfl (Oper.wp_callI fn_elaw01_of rfl (of_z 99 _ (by decide) (by decide)) rfl E ?_)
 clear E
 intro w53 n53 s53 d53 E
 clear d53
 simp only [Act.put,q1,q2,q3]
 refine L1 rfl (Oper.wp_callIE fn_integer_Root rfl (Root_is _ 99 2 9 _ (E.1) (by decide) (by decide) (by decide) (Fits.mono (Fits_lt (m := 4) (by decide) : Fits 99 4) (by decide)) ⟨by decide, by decide⟩) rfl E ?_)
 clear E
 intro w54 n54 s54 d54 E
 clear d54
 simp only [Act.put,q1,q2,q3]
 refine LV (v := .tuple #[.agg #[.bool n54, s54], .int .i64 0]) rfl (run_move rfl rfl) ?_
 simp only [Act.put,q1,q2,q3]
 refine LV (v := .agg #[.bool n54, s54]) rfl (run_extract (vs := [.agg #[.bool n54, s54], .int .i64 0]) rfl rfl rfl) ?_
 simp only [Act.put,q1,q2,q3]
 refine LV (v := .int .i64 0) rfl (run_extract (vs := [.agg #[.bool n54, s54], .int .i64 0]) rfl rfl rfl) ?_
 simp only [Act.put,q1,q2,q3]
 refine L1 rfl (Oper.wp_alloc AgI rfl ?_)
 intro b55 w55 e55 z55 d55 x55
 have l55_0 : b51 < b55 := by rw [e55]; exact Bx.lt (E.2.2.1)
 replace E := E.below d55
 clear e55 z55 d55
 simp only [Act.put,q1,q2,q3]
 refine L1 rfl (Oper.wp_store AgI rfl rfl rfl x55 rfl rfl (IsI.one (E.1)) ?_)
 intro w56 o56 y56
 replace E := (E.onl (x55.noW now0) ⟨trivial, trivial, okB (by omega), trivial, trivial, okB (by omega), okB (by omega), okB (by omega), trivial, trivial, trivial, trivial, trivial, okB (by omega), okB (by omega), okB (by omega), trivial, trivial, trivial, trivial, trivial, okB (by omega), okB (by omega), okB (by omega), trivial, trivial, trivial, trivial, trivial, okB (by omega), okB (by omega), trivial, trivial, trivial, trivial, okB (by omega), okB (by omega), trivial, trivial, trivial, trivial, okB (by omega), okB (by omega), trivial, trivial, trivial, trivial, okW (by omega), trivial⟩ o56).b y56
 clear x55 o56 y56
 simp only [Act.put]
 refine LV (v := .int .i64 0) rfl (run_assign rfl rfl) ?_
 simp only [Act.put,q1,q2,q3]
 refine wpList_nil ?_
 change Code.wp _ _ _ _ _
 refine wp_seq ?_
 -- region 9
 refine wp_region_lit ?_
 refine L1 rfl (Oper.wp_callI fn_elaw01_of rfl (of_z 2 _ (by decide) (by decide)) rfl E ?_)
 clear E
 intro w57 n57 s57 d57 E
 clear d57
 simp only [Act.put,q1,q2,q3]
 refine L1 rfl (Oper.wp_callIE fn_integer_Pow rfl (Pow_out _ 2 (-1) _ (E.1) (.inl (by decide))) rfl E ?_)
 clear E
 intro w58 n58 s58 d58 E
 clear d58
 simp only [Act.put,q1,q2,q3]
 refine LV (v := .tuple #[.agg #[.bool n58, s58], .int .i64 1]) rfl (run_move rfl rfl) ?_
 simp only [Act.put,q1,q2,q3]
 refine LV (v := .agg #[.bool n58, s58]) rfl (run_extract (vs := [.agg #[.bool n58, s58], .int .i64 1]) rfl rfl rfl) ?_
 simp only [Act.put,q1,q2,q3]
 refine LV (v := .int .i64 1) rfl (run_extract (vs := [.agg #[.bool n58, s58], .int .i64 1]) rfl rfl rfl) ?_
 simp only [Act.put,q1,q2,q3]
 refine L1 rfl (Oper.wp_alloc AgI rfl ?_)
 intro b59 w59 e59 z59 d59 x59
 have l59_0 : b55 < b59 := by rw [e59]; exact Bx.lt (E.2.2.1)
 replace E := E.below d59
 clear e59 z59 d59
 simp only [Act.put,q1,q2,q3]
 refine L1 rfl (Oper.wp_store AgI rfl rfl rfl x59 rfl rfl (IsI.one (E.1)) ?_)
 intro w60 o60 y60
 replace E := (E.onl (x59.noW now0) ⟨trivial, trivial, okB (by omega), trivial, trivial, okB (by omega), trivial, trivial, okB (by omega), okB (by omega), okB (by omega), trivial, trivial, trivial, trivial, trivial, okB (by omega), okB (by omega), okB (by omega), trivial, trivial, trivial, trivial, trivial, okB (by omega), okB (by omega), okB (by omega), trivial, trivial, trivial, trivial, trivial, okB (by omega), okB (by omega), trivial, trivial, trivial, trivial, okB (by omega), okB (by omega), trivial, trivial, trivial, trivial, okB (by omega), okB (by omega), trivial, trivial, trivial, trivial, okW (by omega), trivial⟩ o60).b y60
 clear x59 o60 y60
 simp only [Act.put]
 refine LV (v := .int .i64 1) rfl (run_assign rfl rfl) ?_
 simp only [Act.put,q1,q2,q3]
 refine wpList_nil ?_
 change Code.wp _ _ _ _ _
 refine wp_seq ?_
 -- region 10
 refine wp_region_lit ?_
 refine L1 rfl (Oper.wp_callI fn_elaw01_of rfl (of_z (-1) _ (by decide) (by decide)) rfl E ?_)
 clear E
 intro w61 n61 s61 d61 E
 clear d61
 simp only [Act.put,q1,q2,q3]
 refine L1 rfl (Oper.wp_callIE fn_integer_Root rfl (Root_out _ (-1) 3 _ (E.1) (.inl (by decide))) rfl E ?_)
 clear E
 intro w62 n62 s62 d62 E
 clear d62
 simp only [Act.put,q1,q2,q3]
 refine LV (v := .tuple #[.agg #[.bool n62, s62], .int .i64 1]) rfl (run_move rfl rfl) ?_
 simp only [Act.put,q1,q2,q3]
 refine LV (v := .agg #[.bool n62, s62]) rfl (run_extract (vs := [.agg #[.bool n62, s62], .int .i64 1]) rfl rfl rfl) ?_
 simp only [Act.put,q1,q2,q3]
 refine LV (v := .int .i64 1) rfl (run_extract (vs := [.agg #[.bool n62, s62], .int .i64 1]) rfl rfl rfl) ?_
 simp only [Act.put,q1,q2,q3]
 refine L1 rfl (Oper.wp_alloc AgI rfl ?_)
 intro b63 w63 e63 z63 d63 x63
 have l63_0 : b59 < b63 := by rw [e63]; exact Bx.lt (E.2.2.1)
 replace E := E.below d63
 clear e63 z63 d63
 simp only [Act.put,q1,q2,q3]
 refine L1 rfl (Oper.wp_store AgI rfl rfl rfl x63 rfl rfl (IsI.one (E.1)) ?_)
 intro w64 o64 y64
 replace E := (E.onl (x63.noW now0) ⟨trivial, trivial, okB (by omega), trivial, trivial, okB (by omega), trivial, trivial, okB (by omega), trivial, trivial, okB (by omega), okB (by omega), okB (by omega), trivial, trivial, trivial, trivial, trivial, okB (by omega), okB (by omega), okB (by omega), trivial, trivial, trivial, trivial, trivial, okB (by omega), okB (by omega), okB (by omega), trivial, trivial, trivial, trivial, trivial, okB (by omega), okB (by omega), trivial, trivial, trivial, trivial, okB (by omega), okB (by omega), trivial, trivial, trivial, trivial, okB (by omega), okB (by omega), trivial, trivial, trivial, trivial, okW (by omega), trivial⟩ o64).b y64
 clear x63 o64 y64
 simp only [Act.put]
 refine LV (v := .int .i64 1) rfl (run_assign rfl rfl) ?_
 simp only [Act.put,q1,q2,q3]
 refine wpList_nil ?_
 change Code.wp _ _ _ _ _
 refine wp_seq ?_
 -- region 11
 refine wp_region_lit ?_
 refine L1 rfl (Oper.wp_callIE fn_integer_Parse rfl (Parse_none _ _ (by decide) parse_m0) rfl E ?_)
 clear E
 intro w65 n65 s65 d65 E
 clear d65
 simp only [Act.put,q1,q2,q3]
 refine LV (v := .tuple #[.agg #[.bool n65, s65], .int .i64 3]) rfl (run_move rfl rfl) ?_
 simp only [Act.put,q1,q2,q3]
 refine LV (v := .agg #[.bool n65, s65]) rfl (run_extract (vs := [.agg #[.bool n65, s65], .int .i64 3]) rfl rfl rfl) ?_
 simp only [Act.put,q1,q2,q3]
 refine LV (v := .int .i64 3) rfl (run_extract (vs := [.agg #[.bool n65, s65], .int .i64 3]) rfl rfl rfl) ?_
 simp only [Act.put,q1,q2,q3]
 refine L1 rfl (Oper.wp_alloc AgI rfl ?_)
 intro b66 w66 e66 z66 d66 x66
 have l66_0 : b63 < b66 := by rw [e66]; exact Bx.lt (E.2.1)
 replace E := E.below d66
 clear e66 z66 d66
 simp only [Act.put,q1,q2,q3]
 refine L1 rfl (Oper.wp_store AgI rfl rfl rfl x66 rfl rfl (IsI.one (E.1)) ?_)
 intro w67 o67 y67
 replace E := (E.onl (x66.noW now0) ⟨trivial, okB (by omega), trivial, trivial, okB (by omega), trivial, trivial, okB (by omega), trivial, trivial, okB (by omega), trivial, trivial, okB (by omega), okB (by omega), okB (by omega), trivial, trivial, trivial, trivial, trivial, okB (by omega), okB (by omega), okB (by omega), trivial, trivial, trivial, trivial, trivial, okB (by omega), okB (by omega), okB (by omega), trivial, trivial, trivial, trivial, trivial, okB (by omega), okB (by omega), trivial, trivial, trivial, trivial, okB (by omega), okB (by omega), trivial, trivial, trivial, trivial, okB (by omega), okB (by omega), trivial, trivial, trivial, trivial, okW (by omega), trivial⟩ o67).b y67
 clear x66 o67 y67
 simp only [Act.put]
 refine LV (v := .int .i64 3) rfl (run_assign rfl rfl) ?_
 simp only [Act.put,q1,q2,q3]
 refine wpList_nil ?_
 change Code.wp _ _ _ _ _
 refine wp_seq ?_
 -- region 12
 refine wp_region_lit ?_
 refine L1 rfl (Oper.wp_callI fn_elaw01_of rfl (of_z (-9) _ (by decide) (by decide)) rfl E ?_)
 clear E
 intro w68 n68 s68 d68 E
 clear d68
 simp only [Act.put,q1,q2,q3]
 refine L1 rfl (Oper.wp_callSm fn_integer_Small rfl (Small_ok _ (-9) _ (E.1) (by decide) (by decide)) rfl E ?_)
 clear E
 intro w69 d69 E
 clear d69
 simp only [Act.put,q1,q2,q3]
 refine LV (v := .tuple #[.int .i64 (-9), .bool true]) rfl (run_move rfl rfl) ?_
 simp only [Act.put,q1,q2,q3]
 refine LV (v := .int .i64 (-9)) rfl (run_extract (vs := [.int .i64 (-9), .bool true]) rfl rfl rfl) ?_
 simp only [Act.put,q1,q2,q3]
 refine LV (v := .bool true) rfl (run_extract (vs := [.int .i64 (-9), .bool true]) rfl rfl rfl) ?_
 simp only [Act.put,q1,q2,q3]
 refine LV (v := .int .i64 (-9)) rfl (run_assign rfl rfl) ?_
 simp only [Act.put,q1,q2,q3]
 refine LV (v := .bool true) rfl (run_assign rfl rfl) ?_
 simp only [Act.put,q1,q2,q3]
 refine wpList_nil ?_
 change Code.wp _ _ _ _ _
 refine wp_seq ?_
 -- region 13
 refine wp_schedE E ([0, 1, 2, 3, 4, 5, 6, 7, 8, 9, 10, 11, 12, 13, 14, 15, 16, 17, 18, 19, 20, 21, 22, 23, 24, 25, 26, 27, 28, 29, 30, 31, 32, 33, 34, 35, 36, 37, 38, 39]) (by kernel_rfl) (by kernel_rfl) (by kernel_rfl) (by kernel_rfl) (by intro d v c a w h; cases d <;> exact h) ?_
 replace E := E.drew
 refine SP (o := ⟨some 105, _, _, _, _, _⟩) (v := .int .i64 0) rfl rfl rfl rfl (fun w hS => run_move rfl rfl) ?_
 simp only [Act.put,q1,q2,q3]
 refine SP (o := ⟨some 106, _, _, _, _, _⟩) (v := .bool true) rfl rfl rfl rfl (fun w hS => run_eqI (c := true) rfl rfl rfl (by decide)) ?_
 simp only [Act.put,q1,q2,q3]
 refine SP (o := ⟨some 107, _, _, _, _, _⟩) (v := .bool true) rfl rfl rfl rfl (fun w hS => run_move rfl rfl) ?_
 simp only [Act.put,q1,q2,q3]
 refine SP (o := ⟨some 108, _, _, _, _, _⟩) (v := .int .i64 0) rfl rfl rfl rfl (fun w hS => run_move rfl rfl) ?_
 simp only [Act.put,q1,q2,q3]
 refine SP (o := ⟨some 109, _, _, _, _, _⟩) (v := .bool true) rfl rfl rfl rfl (fun w hS => run_eqI (c := true) rfl rfl rfl (by decide)) ?_
 simp only [Act.put,q1,q2,q3]
 refine SP (o := ⟨some 110, _, _, _, _, _⟩) (v := .bool true) rfl rfl rfl rfl (fun w hS => run_pick (b := true) rfl rfl rfl) ?_
 simp only [Act.put,q1,q2,q3]
 refine SP (o := ⟨some 111, _, _, _, _, _⟩) (v := .bool true) rfl rfl rfl rfl (fun w hS => run_move rfl rfl) ?_
 simp only [Act.put,q1,q2,q3]
 refine SP (o := ⟨some 112, _, _, _, _, _⟩) (v := .int .i64 10) rfl rfl rfl rfl (fun w hS => run_move rfl rfl) ?_
 simp only [Act.put,q1,q2,q3]
 refine SP (o := ⟨some 113, _, _, _, _, _⟩) (v := .bool true) rfl rfl rfl rfl (fun w hS => run_eqI (c := true) rfl rfl rfl (by decide)) ?_
 simp only [Act.put,q1,q2,q3]
 refine SP (o := ⟨some 114, _, _, _, _, _⟩) (v := .bool true) rfl rfl rfl rfl (fun w hS => run_pick (b := true) rfl rfl rfl) ?_
 simp only [Act.put,q1,q2,q3]
 refine SP (o := ⟨some 115, _, _, _, _, _⟩) (v := .bool true) rfl rfl rfl rfl (fun w hS => run_move rfl rfl) ?_
 simp only [Act.put,q1,q2,q3]
 refine SP (o := ⟨some 116, _, _, _, _, _⟩) (v := .agg #[.bool n3, s3]) rfl rfl rfl rfl (fun w hS => run_load_bx AgI rfl rfl (hS.2.2.2.2.2.2.2.2.2.2.2.2.2.2.2.2.2.2.2.2.2.2.2.2.2.2.2.2.2.2.2.2.2.2.2.2.2.2.2.2.2.2.2.2.2.2.2.2.2.2.2.2.1) rfl) ?_
 simp only [Act.put,q1,q2,q3]
 refine SP (o := ⟨some 117, _, _, _, _, _⟩) (v := .agg #[.bool m3, t3]) rfl rfl rfl rfl (fun w hS => run_load_bx AgI rfl rfl (hS.2.2.2.2.2.2.2.2.2.2.2.2.2.2.2.2.2.2.2.2.2.2.2.2.2.2.2.2.2.2.2.2.2.2.2.2.2.2.2.2.2.2.2.2.2.2.2.2.2.2.2.1) rfl) ?_
 simp only [Act.put,q1,q2,q3]
 refine SP (o := ⟨some 118, _, _, _, _, _⟩) (v := .agg #[.bool n10, s10]) rfl rfl rfl rfl (fun w hS => run_load_bx AgI rfl rfl (hS.2.2.2.2.2.2.2.2.2.2.2.2.2.2.2.2.2.2.2.2.2.2.2.2.2.2.2.2.2.2.2.2.2.2.2.2.2.2.2.2.2.2.2.2.2.2.1) rfl) ?_
 simp only [Act.put,q1,q2,q3]
 refine S1a (o := ⟨some 119, _, _, _, _, _⟩) rfl rfl rfl rfl (Oper.wp_callB fn_elaw01_three rfl (three_t _ ((-7) / 2) _ ((-7) % 2) _ (7 / (-2)) (-4) 1 (-3) _ (E.2.2.2.2.2.2.2.2.2.2.2.2.2.2.2.2.2.2.2.2.2.2.2.2.2.2.2.2.2.2.2.2.2.2.2.2.2.2.2.2.2.2.2.2.2.2.2.2.2.2.2.2.2.2.1) (E.2.2.2.2.2.2.2.2.2.2.2.2.2.2.2.2.2.2.2.2.2.2.2.2.2.2.2.2.2.2.2.2.2.2.2.2.2.2.2.2.2.2.2.2.2.2.2.2.2.2.2.2.2.1) (E.2.2.2.2.2.2.2.2.2.2.2.2.2.2.2.2.2.2.2.2.2.2.2.2.2.2.2.2.2.2.2.2.2.2.2.2.2.2.2.2.2.2.2.2.2.2.2.2.1) (by decide) (by decide) (by decide) (by decide) (by decide) (by decide) (by decide) (by decide) (by decide)) rfl E ?_)
 clear E
 intro w70 d70 E
 clear d70
 refine ⟨E, ?_⟩
 simp only [Act.put,q1,q2,q3]
 refine SP (o := ⟨some 120, _, _, _, _, _⟩) (v := .bool true) rfl rfl rfl rfl (fun w hS => run_pick (b := true) rfl rfl rfl) ?_
 simp only [Act.put,q1,q2,q3]
 refine SP (o := ⟨some 121, _, _, _, _, _⟩) (v := .bool true) rfl rfl rfl rfl (fun w hS => run_move rfl rfl) ?_
 simp only [Act.put,q1,q2,q3]
 refine SP (o := ⟨some 122, _, _, _, _, _⟩) (v := .agg #[.bool m10, t10]) rfl rfl rfl rfl (fun w hS => run_load_bx AgI rfl rfl (hS.2.2.2.2.2.2.2.2.2.2.2.2.2.2.2.2.2.2.2.2.2.2.2.2.2.2.2.2.2.2.2.2.2.2.2.2.2.2.2.2.2.2.2.2.2.1) rfl) ?_
 simp only [Act.put,q1,q2,q3]
 refine SP (o := ⟨some 123, _, _, _, _, _⟩) (v := .agg #[.bool n24, s24]) rfl rfl rfl rfl (fun w hS => run_load_bx AgI rfl rfl (hS.2.2.2.2.2.2.2.2.2.2.2.2.2.2.2.2.2.2.2.2.2.2.2.2.2.2.2.2.2.2.2.2.2.1) rfl) ?_
 simp only [Act.put,q1,q2,q3]
 refine SP (o := ⟨some 124, _, _, _, _, _⟩) (v := .agg #[.bool m24, t24]) rfl rfl rfl rfl (fun w hS => run_load_bx AgI rfl rfl (hS.2.2.2.2.2.2.2.2.2.2.2.2.2.2.2.2.2.2.2.2.2.2.2.2.2.2.2.2.2.2.2.2.1) rfl) ?_
 simp only [Act.put,q1,q2,q3]
 refine S1a (o := ⟨some 125, _, _, _, _, _⟩) rfl rfl rfl rfl (Oper.wp_callB fn_elaw01_three rfl (three_t _ (7 % (-2)) _ 2 _ 1 1 2 1 _ (E.2.2.2.2.2.2.2.2.2.2.2.2.2.2.2.2.2.2.2.2.2.2.2.2.2.2.2.2.2.2.2.2.2.2.2.2.2.2.2.2.2.2.2.2.2.2.2.1) (E.2.2.2.2.2.2.2.2.2.2.2.2.2.2.2.2.2.2.2.2.2.2.2.2.2.2.2.2.2.2.2.2.2.2.2.2.1) (E.2.2.2.2.2.2.2.2.2.2.2.2.2.2.2.2.2.2.2.2.2.2.2.2.2.2.2.2.2.2.2.2.2.2.2.1) (by decide) (by decide) (by decide) (by decide) (by decide) (by decide) (by decide) (by decide) (by decide)) rfl E ?_)
 clear E
 intro w71 d71 E
 clear d71
 refine ⟨E, ?_⟩
 simp only [Act.put,q1,q2,q3]
 refine SP (o := ⟨some 126, _, _, _, _, _⟩) (v := .bool true) rfl rfl rfl rfl (fun w hS => run_pick (b := true) rfl rfl rfl) ?_
 simp only [Act.put,q1,q2,q3]
 refine SP (o := ⟨some 127, _, _, _, _, _⟩) (v := .bool true) rfl rfl rfl rfl (fun w hS => run_move rfl rfl) ?_
 simp only [Act.put,q1,q2,q3]
 refine SP (o := ⟨some 128, _, _, _, _, _⟩) (v := .agg #[.bool p24, q24]) rfl rfl rfl rfl (fun w hS => run_load_bx AgI rfl rfl (hS.2.2.2.2.2.2.2.2.2.2.2.2.2.2.2.2.2.2.2.2.2.2.2.2.2.2.2.2.2.2.2.1) rfl) ?_
 simp only [Act.put,q1,q2,q3]
 refine SP (o := ⟨some 129, _, _, _, _, _⟩) (v := .agg #[.bool n33, s33]) rfl rfl rfl rfl (fun w hS => run_load_bx AgI rfl rfl (hS.2.2.2.2.2.2.2.2.2.2.2.2.2.2.2.2.2.2.2.2.2.2.2.2.2.1) rfl) ?_
 simp only [Act.put,q1,q2,q3]
 refine SP (o := ⟨some 130, _, _, _, _, _⟩) (v := .agg #[.bool m33, t33]) rfl rfl rfl rfl (fun w hS => run_load_bx AgI rfl rfl (hS.2.2.2.2.2.2.2.2.2.2.2.2.2.2.2.2.2.2.2.2.2.2.2.2.1) rfl) ?_
 simp only [Act.put,q1,q2,q3]
 refine S1a (o := ⟨some 131, _, _, _, _, _⟩) rfl rfl rfl rfl (Oper.wp_callB fn_elaw01_three rfl (three_t _ (-1) _ 5 _ (-1) (-1) 5 (-1) _ (E.2.2.2.2.2.2.2.2.2.2.2.2.2.2.2.2.2.2.2.2.2.2.2.2.2.2.2.2.2.2.2.2.2.2.1) (E.2.2.2.2.2.2.2.2.2.2.2.2.2.2.2.2.2.2.2.2.2.2.2.2.2.2.2.2.1) (E.2.2.2.2.2.2.2.2.2.2.2.2.2.2.2.2.2.2.2.2.2.2.2.2.2.2.2.1) (by decide) (by decide) (by decide) (by decide) (by decide) (by decide) (by decide) (by decide) (by decide)) rfl E ?_)
 clear E
 intro w72 d72 E
 clear d72
 refine ⟨E, ?_⟩
 simp only [Act.put,q1,q2,q3]
 refine SP (o := ⟨some 132, _, _, _, _, _⟩) (v := .bool true) rfl rfl rfl rfl (fun w hS => run_pick (b := true) rfl rfl rfl) ?_
 simp only [Act.put,q1,q2,q3]
 refine SP (o := ⟨some 133, _, _, _, _, _⟩) (v := .bool true) rfl rfl rfl rfl (fun w hS => run_move rfl rfl) ?_
 simp only [Act.put,q1,q2,q3]
 refine SP (o := ⟨some 134, _, _, _, _, _⟩) (v := .agg #[.bool p33, q33]) rfl rfl rfl rfl (fun w hS => run_load_bx AgI rfl rfl (hS.2.2.2.2.2.2.2.2.2.2.2.2.2.2.2.2.2.2.2.2.2.2.2.1) rfl) ?_
 simp only [Act.put,q1,q2,q3]
 refine SP (o := ⟨some 135, _, _, _, _, _⟩) (v := .agg #[.bool n42, s42]) rfl rfl rfl rfl (fun w hS => run_load_bx AgI rfl rfl (hS.2.2.2.2.2.2.2.2.2.2.2.2.2.2.2.2.2.1) rfl) ?_
 simp only [Act.put,q1,q2,q3]
 refine SP (o := ⟨some 136, _, _, _, _, _⟩) (v := .agg #[.bool m42, t42]) rfl rfl rfl rfl (fun w hS => run_load_bx AgI rfl rfl (hS.2.2.2.2.2.2.2.2.2.2.2.2.2.2.2.2.1) rfl) ?_
 simp only [Act.put,q1,q2,q3]
 refine S1a (o := ⟨some 137, _, _, _, _, _⟩) rfl rfl rfl rfl (Oper.wp_callB fn_elaw01_three rfl (three_t _ 0 _ 3 _ 0 0 3 0 _ (E.2.2.2.2.2.2.2.2.2.2.2.2.2.2.2.2.2.2.2.2.2.2.2.2.2.2.1) (E.2.2.2.2.2.2.2.2.2.2.2.2.2.2.2.2.2.2.2.2.1) (E.2.2.2.2.2.2.2.2.2.2.2.2.2.2.2.2.2.2.2.1) (by decide) (by decide) (by decide) (by decide) (by decide) (by decide) (by decide) (by decide) (by decide)) rfl E ?_)
 clear E
 intro w73 d73 E
 clear d73
 refine ⟨E, ?_⟩
 simp only [Act.put,q1,q2,q3]
 refine SP (o := ⟨some 138, _, _, _, _, _⟩) (v := .bool true) rfl rfl rfl rfl (fun w hS => run_pick (b := true) rfl rfl rfl) ?_
 simp only [Act.put,q1,q2,q3]
 refine SP (o := ⟨some 139, _, _, _, _, _⟩) (v := .bool true) rfl rfl rfl rfl (fun w hS => run_move rfl rfl) ?_
 simp only [Act.put,q1,q2,q3]
 refine SP (o := ⟨some 140, _, _, _, _, _⟩) (v := .agg #[.bool p42, q42]) rfl rfl rfl rfl (fun w hS => run_load_bx AgI rfl rfl (hS.2.2.2.2.2.2.2.2.2.2.2.2.2.2.2.1) rfl) ?_
 simp only [Act.put,q1,q2,q3]
 refine S1a (o := ⟨some 141, _, _, _, _, _⟩) rfl rfl rfl rfl (Oper.wp_callI fn_elaw01_of rfl (of_z (-1) _ (by decide) (by decide)) rfl E ?_)
 clear E
 intro w74 n74 s74 d74 E
 clear d74
 refine ⟨E.2, ?_⟩
 simp only [Act.put,q1,q2,q3]
 refine S1a (o := ⟨some 142, _, _, _, _, _⟩) rfl rfl rfl rfl (Oper.wp_callB fn_eref01_Same rfl (RSame_t _ _ (-1) (-1) _ (E.2.2.2.2.2.2.2.2.2.2.2.2.2.2.2.2.2.2.2.1) (E.1) (by decide)) rfl E ?_)
 clear E
 intro w75 d75 E
 clear d75
 refine ⟨E.2, ?_⟩
 simp only [Act.put,q1,q2,q3]
 refine SP (o := ⟨some 143, _, _, _, _, _⟩) (v := .bool true) rfl rfl rfl rfl (fun w hS => run_pick (b := true) rfl rfl rfl) ?_
 simp only [Act.put,q1,q2,q3]
 refine SP (o := ⟨some 31, _, _, _, _, _⟩) (v := .bool true) rfl rfl rfl rfl (fun w hS => run_assign rfl rfl) ?_
 simp only [Act.put,q1,q2,q3]
 refine SN ?_
 change Code.wp _ _ _ _ _
 refine wp_seq ?_
 -- region 14
 refine wp_schedE E ([0, 1, 2, 3, 4, 5, 6, 7, 8, 9, 10, 11, 12, 13, 14, 15, 16, 17, 18, 19, 20, 21, 22, 23, 24]) (by kernel_rfl) (by kernel_rfl) (by kernel_rfl) (by kernel_rfl) (by intro d v c a w h; cases d <;> exact h) ?_
 replace E := E.drew
 refine SP (o := ⟨some 144, _, _, _, _, _⟩) (v := .int .i64 0) rfl rfl rfl rfl (fun w hS => run_move rfl rfl) ?_
 simp only [Act.put,q1,q2,q3]
 refine SP (o := ⟨some 145, _, _, _, _, _⟩) (v := .bool true) rfl rfl rfl rfl (fun w hS => run_eqI (c := true) rfl rfl rfl (by decide)) ?_
 simp only [Act.put,q1,q2,q3]
 refine SP (o := ⟨some 146, _, _, _, _, _⟩) (v := .bool true) rfl rfl rfl rfl (fun w hS => run_move rfl rfl) ?_
 simp only [Act.put,q1,q2,q3]
 refine SP (o := ⟨some 147, _, _, _, _, _⟩) (v := .int .i64 0) rfl rfl rfl rfl (fun w hS => run_move rfl rfl) ?_
 simp only [Act.put,q1,q2,q3]
 refine SP (o := ⟨some 148, _, _, _, _, _⟩) (v := .bool true) rfl rfl rfl rfl (fun w hS => run_eqI (c := true) rfl rfl rfl (by decide)) ?_
 simp only [Act.put,q1,q2,q3]
 refine SP (o := ⟨some 149, _, _, _, _, _⟩) (v := .bool true) rfl rfl rfl rfl (fun w hS => run_pick (b := true) rfl rfl rfl) ?_
 simp only [Act.put,q1,q2,q3]
 refine SP (o := ⟨some 150, _, _, _, _, _⟩) (v := .bool true) rfl rfl rfl rfl (fun w hS => run_move rfl rfl) ?_
 simp only [Act.put,q1,q2,q3]
 refine SP (o := ⟨some 151, _, _, _, _, _⟩) (v := .agg #[.bool n50, s50]) rfl rfl rfl rfl (fun w hS => run_load_bx AgI rfl rfl (hS.2.2.2.2.2.2.2.2.2.2.2.2.2.1) rfl) ?_
 simp only [Act.put,q1,q2,q3]
 refine S1a (o := ⟨some 152, _, _, _, _, _⟩) rfl rfl rfl rfl (Oper.wp_callI fn_elaw01_of rfl (of_z (-8589934592) _ (by decide) (by decide)) rfl E ?_)
 clear E
 intro w76 n76 s76 d76 E
 clear d76
 refine ⟨E.2, ?_⟩
 simp only [Act.put,q1,q2,q3]
 refine S1a (o := ⟨some 153, _, _, _, _, _⟩) rfl rfl rfl rfl (Oper.wp_callB fn_eref01_Same rfl (RSame_t _ _ ((-2) ^ 33) (-8589934592) _ (E.2.2.2.2.2.2.2.2.2.2.2.2.2.2.2.1) (E.1) (by decide)) rfl E ?_)
 clear E
 intro w77 d77 E
 clear d77
 refine ⟨E.2, ?_⟩
 simp only [Act.put,q1,q2,q3]
 refine SP (o := ⟨some 154, _, _, _, _, _⟩) (v := .bool true) rfl rfl rfl rfl (fun w hS => run_pick (b := true) rfl rfl rfl) ?_
 simp only [Act.put,q1,q2,q3]
 refine SP (o := ⟨some 155, _, _, _, _, _⟩) (v := .bool true) rfl rfl rfl rfl (fun w hS => run_move rfl rfl) ?_
 simp only [Act.put,q1,q2,q3]
 refine SP (o := ⟨some 156, _, _, _, _, _⟩) (v := .agg #[.bool n54, s54]) rfl rfl rfl rfl (fun w hS => run_load_bx AgI rfl rfl (hS.2.2.2.2.2.2.2.2.2.2.1) rfl) ?_
 simp only [Act.put,q1,q2,q3]
 refine S1a (o := ⟨some 157, _, _, _, _, _⟩) rfl rfl rfl rfl (Oper.wp_callI fn_elaw01_of rfl (of_z 9 _ (by decide) (by decide)) rfl E ?_)
 clear E
 intro w78 n78 s78 d78 E
 clear d78
 refine ⟨E.2.2, ?_⟩
 simp only [Act.put,q1,q2,q3]
 refine S1a (o := ⟨some 158, _, _, _, _, _⟩) rfl rfl rfl rfl (Oper.wp_callB fn_eref01_Same rfl (RSame_t _ _ ((9 : Nat) : Int) 9 _ (E.2.2.2.2.2.2.2.2.2.2.2.2.2.1) (E.1) (by decide)) rfl E ?_)
 clear E
 intro w79 d79 E
 clear d79
 refine ⟨E.2.2, ?_⟩
 simp only [Act.put,q1,q2,q3]
 refine SP (o := ⟨some 159, _, _, _, _, _⟩) (v := .bool true) rfl rfl rfl rfl (fun w hS => run_pick (b := true) rfl rfl rfl) ?_
 simp only [Act.put,q1,q2,q3]
 refine SP (o := ⟨some 160, _, _, _, _, _⟩) (v := .bool true) rfl rfl rfl rfl (fun w hS => run_move rfl rfl) ?_
 simp only [Act.put,q1,q2,q3]
 refine SP (o := ⟨some 161, _, _, _, _, _⟩) (v := .int .i64 1) rfl rfl rfl rfl (fun w hS => run_move rfl rfl) ?_
 simp only [Act.put,q1,q2,q3]
 refine SP (o := ⟨some 162, _, _, _, _, _⟩) (v := .bool true) rfl rfl rfl rfl (fun w hS => run_eqI (c := true) rfl rfl rfl (by decide)) ?_
 simp only [Act.put,q1,q2,q3]
 refine SP (o := ⟨some 163, _, _, _, _, _⟩) (v := .bool true) rfl rfl rfl rfl (fun w hS => run_pick (b := true) rfl rfl rfl) ?_
 simp only [Act.put,q1,q2,q3]
 refine SP (o := ⟨some 164, _, _, _, _, _⟩) (v := .bool true) rfl rfl rfl rfl (fun w hS => run_move rfl rfl) ?_
 simp only [Act.put,q1,q2,q3]
 refine SP (o := ⟨some 165, _, _, _, _, _⟩) (v := .int .i64 1) rfl rfl rfl rfl (fun w hS => run_move rfl rfl) ?_
 simp only [Act.put,q1,q2,q3]
 refine SP (o := ⟨some 166, _, _, _, _, _⟩) (v := .bool true) rfl rfl rfl rfl (fun w hS => run_eqI (c := true) rfl rfl rfl (by decide)) ?_
 simp only [Act.put,q1,q2,q3]
 refine SP (o := ⟨some 167, _, _, _, _, _⟩) (v := .bool true) rfl rfl rfl rfl (fun w hS => run_pick (b := true) rfl rfl rfl) ?_
 simp only [Act.put,q1,q2,q3]
 refine SP (o := ⟨some 32, _, _, _, _, _⟩) (v := .bool true) rfl rfl rfl rfl (fun w hS => run_assign rfl rfl) ?_
 simp only [Act.put,q1,q2,q3]
 refine SN ?_
 change Code.wp _ _ _ _ _
 refine wp_seq ?_
 -- region 15
 refine wp_region_lit ?_
 refine LV (v := .int .i64 3) rfl (run_move rfl rfl) ?_
 simp only [Act.put,q1,q2,q3]
 refine LV (v := .bool true) rfl (run_eqI (c := true) rfl rfl rfl (by decide)) ?_
 simp only [Act.put,q1,q2,q3]
 refine LV (v := .bool true) rfl (run_move rfl rfl) ?_
 simp only [Act.put,q1,q2,q3]
 refine L1 rfl (Oper.wp_callI fn_elaw01_of rfl (of_z (-120) _ (by decide) (by decide)) rfl E ?_)
 clear E
 intro w80 n80 s80 d80 E
 clear d80
 simp only [Act.put,q1,q2,q3]
 refine L1 rfl (Oper.wp_callT fn_integer_Text rfl (Text_z _ (-120) _ (E.1) (Fits.mono (Fits_lt (m := 4) (by decide) : Fits (-120) 4) (by decide))) rfl E ?_)
 clear E
 intro w81 d81 E
 clear d81
 simp only [Act.put,q1,q2,q3]
 refine LV (v := .bool true) rfl (run_eqS rfl rfl rfl txt_m120) ?_
 simp only [Act.put,q1,q2,q3]
 refine LV (v := .bool true) rfl (run_pick (b := true) rfl rfl rfl) ?_
 simp only [Act.put,q1,q2,q3]
 refine LV (v := .bool true) rfl (run_move rfl rfl) ?_
 simp only [Act.put,q1,q2,q3]
 refine LV (v := .bool true) rfl (run_move rfl rfl) ?_
 simp only [Act.put,q1,q2,q3]
 refine LV (v := .bool true) rfl (run_pick (b := true) rfl rfl rfl) ?_
 simp only [Act.put,q1,q2,q3]
 refine LV (v := .bool true) rfl (run_move rfl rfl) ?_
 simp only [Act.put,q1,q2,q3]
 refine LV (v := .int .i64 (-9)) rfl (run_move rfl rfl) ?_
 simp only [Act.put,q1,q2,q3]
 refine LV (v := .bool true) rfl (run_eqI (c := true) rfl rfl rfl (by decide)) ?_
 simp only [Act.put,q1,q2,q3]
 refine LV (v := .bool true) rfl (run_pick (b := true) rfl rfl rfl) ?_
 simp only [Act.put,q1,q2,q3]
 refine LV (v := .bool true) rfl (run_move rfl rfl) ?_
 simp only [Act.put,q1,q2,q3]
 refine L1 rfl (Oper.wp_callI fn_elaw01_of rfl (of_z (-8) _ (by decide) (by decide)) rfl E ?_)
 clear E
 intro w82 n82 s82 d82 E
 clear d82
 simp only [Act.put,q1,q2,q3]
 refine L1 rfl (Oper.wp_callN fn_integer_Bits rfl (Bits_z _ (-8) _ (E.1) (Fits.mono (Fits_lt (m := 4) (by decide) : Fits (-8) 4) (by decide))) rfl E ?_)
 clear E
 intro w83 d83 E
 clear d83
 simp only [Act.put,q1,q2,q3]
 refine LV (v := .bool true) rfl (run_eqI (c := true) rfl rfl rfl (by rw [bits_8]; rfl)) ?_
 simp only [Act.put,q1,q2,q3]
 refine LV (v := .bool true) rfl (run_pick (b := true) rfl rfl rfl) ?_
 simp only [Act.put,q1,q2,q3]
 refine LV (v := .bool true) rfl (run_assign rfl rfl) ?_
 simp only [Act.put,q1,q2,q3]
 refine wpList_nil ?_
 change Code.wp _ _ _ _ _
 refine wp_seq ?_
 -- region 16
 refine wp_region_lit ?_
 refine LV (v := .bool true) rfl (run_move rfl rfl) ?_
 simp only [Act.put,q1,q2,q3]
 refine LV (v := .bool true) rfl (run_move rfl rfl) ?_
 simp only [Act.put,q1,q2,q3]
 refine LV (v := .bool true) rfl (run_move rfl rfl) ?_
 simp only [Act.put,q1,q2,q3]
 refine LV (v := .bool true) rfl (run_pick (b := true) rfl rfl rfl) ?_
 simp only [Act.put,q1,q2,q3]
 refine LV (v := .bool true) rfl (run_move rfl rfl) ?_
 simp only [Act.put,q1,q2,q3]
 refine LV (v := .bool true) rfl (run_move rfl rfl) ?_
 simp only [Act.put,q1,q2,q3]
 refine LV (v := .bool true) rfl (run_pick (b := true) rfl rfl rfl) ?_
 simp only [Act.put,q1,q2,q3]
 refine LV (v := .bool true) rfl (run_move rfl rfl) ?_
 simp only [Act.put,q1,q2,q3]
 refine L1 rfl (Oper.wp_callI fn_elaw01_of rfl (of_z (-1) _ (by decide) (by decide)) rfl E ?_)
 clear E
 intro w84 n84 s84 d84 E
 clear d84
 simp only [Act.put,q1,q2,q3]
 refine L1 rfl (Oper.wp_callB fn_integer_Valid rfl (Valid_z _ (-1) _ (E.1)) rfl E ?_)
 clear E
 intro w85 d85 E
 clear d85
 simp only [Act.put,q1,q2,q3]
 refine LV (v := .bool true) rfl (run_pick (b := true) rfl rfl rfl) ?_
 simp only [Act.put,q1,q2,q3]
 refine LV (v := .bool true) rfl (run_move rfl rfl) ?_
 simp only [Act.put,q1,q2,q3]
 refine LV (v := .agg #[.bool true, .slice none 0 0]) rfl (run_buildI1 rfl) ?_
 simp only [Act.put,q1,q2,q3]
 refine L1 rfl (Oper.wp_callB fn_integer_Valid rfl (Valid_not _) rfl E ?_)
 clear E
 intro w86 d86 E
 clear d86
 simp only [Act.put,q1,q2,q3]
 refine LV (v := .bool true) rfl (run_not (b := false) rfl rfl) ?_
 simp only [Act.put,q1,q2,q3]
 refine LV (v := .bool true) rfl (run_pick (b := true) rfl rfl rfl) ?_
 simp only [Act.put,q1,q2,q3]
 refine LV (v := .bool true) rfl (run_move rfl rfl) ?_
 simp only [Act.put,q1,q2,q3]
 refine L1 rfl (Oper.wp_callI fn_elaw01_of rfl (of_z (-4) _ (by decide) (by decide)) rfl E ?_)
 clear E
 intro w87 n87 s87 d87 E
 clear d87
 simp only [Act.put,q1,q2,q3]
 refine L1 rfl (Oper.wp_callN fn_integer_Sign rfl (Sign_z _ (-4) _ (E.1)) rfl E ?_)
 clear E
 intro w88 d88 E
 clear d88
 simp only [Act.put,q1,q2,q3]
 refine LV (v := .bool true) rfl (run_eqI (c := true) rfl rfl rfl (by decide)) ?_
 simp only [Act.put,q1,q2,q3]
 refine LV (v := .bool true) rfl (run_pick (b := true) rfl rfl rfl) ?_
 simp only [Act.put,q1,q2,q3]
 refine LV (v := .bool true) rfl (run_move rfl rfl) ?_
 simp only [Act.put,q1,q2,q3]
 refine L1 rfl (Oper.wp_callI fn_elaw01_of rfl (of_z (-4) _ (by decide) (by decide)) rfl E ?_)
 clear E
 intro w89 n89 s89 d89 E
 clear d89
 simp only [Act.put,q1,q2,q3]
 refine L1 rfl (Oper.wp_callI fn_elaw01_of rfl (of_z 3 _ (by decide) (by decide)) rfl E ?_)
 clear E
 intro w90 n90 s90 d90 E
 clear d90
 simp only [Act.put,q1,q2,q3]
 refine L1 rfl (Oper.wp_callN fn_integer_Cmp rfl (Cmp_z _ _ (-4) 3 _ (E.2.1) (E.1)) rfl E ?_)
 clear E
 intro w91 d91 E
 clear d91
 simp only [Act.put,q1,q2,q3]
 refine LV (v := .bool true) rfl (run_eqI (c := true) rfl rfl rfl (by decide)) ?_
 simp only [Act.put,q1,q2,q3]
 refine LV (v := .bool true) rfl (run_pick (b := true) rfl rfl rfl) ?_
 simp only [Act.put,q1,q2,q3]
 refine LV (v := .bool true) rfl (run_move rfl rfl) ?_
 simp only [Act.put,q1,q2,q3]
 refine L1 rfl (Oper.wp_callI fn_elaw01_of rfl (of_z 3 _ (by decide) (by decide)) rfl E ?_)
 clear E
 intro w92 n92 s92 d92 E
 clear d92
 simp only [Act.put,q1,q2,q3]
 refine L1 rfl (Oper.wp_callI fn_elaw01_of rfl (of_z 5 _ (by decide) (by decide)) rfl E ?_)
 clear E
 intro w93 n93 s93 d93 E
 clear d93
 simp only [Act.put,q1,q2,q3]
 refine L1 rfl (Oper.wp_callI fn_integer_Sub rfl (Sub_z _ _ 3 5 _ (E.2.1) (E.1) (Fits.mono (Fits_lt (m := 4) (by decide) : Fits 3 4) (by decide)) (Fits.mono (Fits_lt (m := 4) (by decide) : Fits 5 4) (by decide))) rfl E ?_)
 clear E
 intro w94 n94 s94 d94 E
 clear d94
 simp only [Act.put,q1,q2,q3]
 refine L1 rfl (Oper.wp_callI fn_elaw01_of rfl (of_z 2 _ (by decide) (by decide)) rfl E ?_)
 clear E
 intro w95 n95 s95 d95 E
 clear d95
 simp only [Act.put,q1,q2,q3]
 refine L1 rfl (Oper.wp_callI fn_integer_Neg rfl (Neg_z _ 2 _ (E.1) (Fits.mono (Fits_lt (m := 4) (by decide) : Fits 2 4) (by decide))) rfl E ?_)
 clear E
 intro w96 n96 s96 d96 E
 clear d96
 simp only [Act.put,q1,q2,q3]
 refine L1 rfl (Oper.wp_callB fn_eref01_Same rfl (RSame_t _ _ (3 - 5) (-2) _ (E.2.2.1) (E.1) (by decide)) rfl E ?_)
 clear E
 intro w97 d97 E
 clear d97
 simp only [Act.put,q1,q2,q3]
 refine LV (v := .bool true) rfl (run_pick (b := true) rfl rfl rfl) ?_
 simp only [Act.put,q1,q2,q3]
 refine LV (v := .bool true) rfl (run_assign rfl rfl) ?_
 simp only [Act.put,q1,q2]
 refine wpList_nil ?_
 change Code.wp _ _ _ _ _
 refine wp_ret ?_
 exact bodyPost_ret (v := .bool true) (by simp [results, Try.results13, asAddr]) rfl ⟨rfl, E.2.2.2.2.2.2.2.2.2.2.2.2.2.2.2.2.2.2.2.2.2.2.2.2.2.2.2.2.2.2.2.2.2.2.2.2.2.2.2.2.2.2.2.2.2.2.2.2.2.2.2.2.2.2.2.2.2.2.2.2.2.2.2.2.2.2.2.2.2.2.2.1⟩
end Go.Proofs.Ytjgmfdenicbniaa
