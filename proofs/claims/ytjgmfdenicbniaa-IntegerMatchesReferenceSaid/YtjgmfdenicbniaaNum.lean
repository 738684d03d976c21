/- The helper numbers of the laws. (Printed by g_match.py.) -/
import Derived.Test.YtjgmfdenicbniaaLawC
import Derived.Test.YtjgmfdenicbniaaKitC
import Derived.Test.YtjgmfdenicbniaaRefT
import Derived.Test.YtjgmfdenicbniaaDecim
namespace Go.Proofs.Ytjgmfdenicbniaa
open Go.RowKit W
set_option maxRecDepth 100000 in
set_option maxHeartbeats 8000000 in
theorem numbers_t  (va : Value) (x : Int) (w : World) (hva : IsI w va x) (Fx : Fits x 12) :
    Calls Try.prog 40 #[va] w (RetB w true) := by
 have E := Env.start w
 obtain ⟨nva, sva, rfl, _, _⟩ := hva.sh
 replace E := E.i hva
 clear hva
 go_enter Try.func40, Try.ntmps40
 refine wp_seq ?_
 -- region 0
 refine RL ?_
 refine EF rfl (Oper.wp_box rfl rfl ?_)
 intro b1 w1 e1 z1 d1 x1
 have l1 : w.heap.size ≤ b1 := by rw [e1]; exact (E.2.1).size
 replace E := E.below d1
 clear e1 z1 d1
 replace E := E.b x1
 clear x1
 refine kw rfl ?_
 refine AC rfl rfl rfl rfl <| ?_
 simp only [q2,q3]
 refine WN ?_
 change Code.wp _ _ _ _ _
 refine wp_seq ?_
 -- region 1
 refine RL ?_
 refine V rfl rfl (run_load_bx AgI rfl rfl (E.1) rfl) <| ?_
 simp only [q2,q3]
 refine EF rfl (Oper.wp_callSm fn_integer_Small rfl (Small_z _ x _ (E.2.1)) rfl E ?_)
 clear E
 intro w2 d2 E
 clear d2
 refine kw rfl ?_
 refine M rfl rfl rfl rfl rfl <| V rfl rfl (run_extract (vs := [.int .i64 (smallN x), .bool (isSmall x)]) rfl rfl rfl) <| V rfl rfl (run_extract (vs := [.int .i64 (smallN x), .bool (isSmall x)]) rfl rfl rfl) <| A rfl rfl rfl rfl rfl <| ?_
 simp only [q2,q3]
 refine A rfl rfl rfl rfl rfl <| ?_
 simp only [q2,q3]
 refine WN ?_
 change Code.wp _ _ _ _ _
 refine wp_seq ?_
 -- region 2
 refine RL ?_
 refine V rfl rfl (run_load_bx AgI rfl rfl (E.1) rfl) <| ?_
 simp only [q2,q3]
 refine EF rfl (Oper.wp_callSm fn_eref01_Small rfl (RSmall_z _ x _ (E.2.1)) rfl E ?_)
 clear E
 intro w3 d3 E
 clear d3
 refine kw rfl ?_
 refine M rfl rfl rfl rfl rfl <| V rfl rfl (run_extract (vs := [.int .i64 (smallN x), .bool (isSmall x)]) rfl rfl rfl) <| V rfl rfl (run_extract (vs := [.int .i64 (smallN x), .bool (isSmall x)]) rfl rfl rfl) <| A rfl rfl rfl rfl rfl <| ?_
 simp only [q2,q3]
 refine A rfl rfl rfl rfl rfl <| ?_
 simp only [q2,q3]
 refine WN ?_
 change Code.wp _ _ _ _ _
 refine wp_seq ?_
 -- region 3
 refine wp_schedE E ([0, 1, 2, 3, 4, 5, 6, 7, 8, 9, 11, 10, 12, 13, 14, 15, 16, 18, 17, 19, 20, 21, 22, 23, 25, 24, 26, 27, 28, 29, 30, 32, 31, 33, 34, 35, 36]) (by kernel_rfl) (by kernel_rfl) (by kernel_rfl) (by kernel_rfl) (by intro d v c a w h; cases d <;> exact h) ?_
 replace E := E.drew
 refine SM rfl rfl rfl rfl rfl rfl rfl rfl <| SM rfl rfl rfl rfl rfl rfl rfl rfl <| SW rfl rfl rfl rfl rfl (fun w hS => run_eqI (c := true) rfl rfl rfl (beq_self_eq_true _)) <| SM rfl rfl rfl rfl rfl rfl rfl rfl <| ?_
 simp only [q2,q3]
 refine SM rfl rfl rfl (by kernel_rfl) rfl rfl rfl rfl <| SM rfl rfl rfl (by kernel_rfl) rfl rfl rfl rfl <| SW rfl rfl rfl (by kernel_rfl) rfl (fun w hS => run_eqB (a := (isSmall x)) (b := (isSmall x)) (c := true) rfl Try.underlying4 rfl rfl (beq_self_eq_true _)) <| SW (v := .bool true) rfl rfl rfl rfl rfl (fun w hS => run_pick (b := true) rfl rfl rfl) <| ?_
 simp only [q2,q3]
 refine SM rfl rfl rfl rfl rfl rfl rfl rfl <| SW rfl rfl rfl (by kernel_rfl) rfl (fun w hS => run_load_bx AgI rfl rfl (hS.1) rfl) <| SW rfl rfl rfl (by kernel_rfl) rfl (fun w hS => run_load_bx AgI rfl rfl (hS.1) rfl) <| ?_
 simp only [q2,q3]
 refine S1a (o := ⟨some 27, _, _, _, _, _⟩) rfl rfl rfl rfl (Oper.wp_callN fn_integer_Sign rfl (Sign_z _ x _ (E.2.1)) rfl E ?_)
 clear E
 intro w4 d4 E
 clear d4
 refine ⟨E, ?_⟩
 simp only [Act.put,q1,q2,q3]
 refine S1a (o := ⟨some 29, _, _, _, _, _⟩) rfl rfl rfl rfl (Oper.wp_callN fn_eref01_Sign rfl (RSign_z _ x _ (E.2.1)) rfl E ?_)
 clear E
 intro w5 d5 E
 clear d5
 refine ⟨E, ?_⟩
 simp only [Act.put,q1,q2,q3]
 refine SW rfl rfl rfl (by kernel_rfl) rfl (fun w hS => run_eqI (c := true) rfl rfl rfl (beq_self_eq_true _)) <| SW (v := .bool true) rfl rfl rfl rfl rfl (fun w hS => run_pick (b := true) rfl rfl rfl) <| SM rfl rfl rfl rfl rfl rfl rfl rfl <| SW rfl rfl rfl (by kernel_rfl) rfl (fun w hS => run_load_bx AgI rfl rfl (hS.1) rfl) <| ?_
 simp only [q2,q3]
 refine SW rfl rfl rfl (by kernel_rfl) rfl (fun w hS => run_load_bx AgI rfl rfl (hS.1) rfl) <| ?_
 simp only [q2,q3]
 refine S1a (o := ⟨some 34, _, _, _, _, _⟩) rfl rfl rfl rfl (Oper.wp_callI fn_integer_Neg rfl (Neg_z _ x _ (E.2.1) (Fits.mono Fx (by decide))) rfl E ?_)
 clear E
 intro w7 n7 s7 d7 E
 clear d7
 refine ⟨E.2, ?_⟩
 simp only [Act.put,q1,q2,q3]
 have F6 : Fits (-x) 12 := Fits_neg Fx
 refine S1a (o := ⟨some 36, _, _, _, _, _⟩) rfl rfl rfl rfl (Oper.wp_callI fn_eref01_Neg rfl (RNeg_z _ x _ (E.2.2.1)) rfl E ?_)
 clear E
 intro w8 n8 s8 d8 E
 clear d8
 refine ⟨E.2.2, ?_⟩
 simp only [Act.put,q1,q2,q3]
 refine S1a (o := ⟨some 37, _, _, _, _, _⟩) rfl rfl rfl rfl (Oper.wp_callB fn_eref01_Same rfl (RSame_t _ _ (-x) (-x) _ (E.2.1) (E.1) rfl) rfl E ?_)
 clear E
 intro w9 d9 E
 clear d9
 refine ⟨E.2.2, ?_⟩
 simp only [Act.put,q1,q2,q3]
 refine SW (v := .bool true) rfl rfl rfl rfl rfl (fun w hS => run_pick (b := true) rfl rfl rfl) <| SM rfl rfl rfl rfl rfl rfl rfl rfl <| SW rfl rfl rfl (by kernel_rfl) rfl (fun w hS => run_load_bx AgI rfl rfl (hS.1) rfl) <| SW rfl rfl rfl (by kernel_rfl) rfl (fun w hS => run_load_bx AgI rfl rfl (hS.1) rfl) <| ?_
 simp only [q2,q3]
 refine S1a (o := ⟨some 41, _, _, _, _, _⟩) rfl rfl rfl rfl (Oper.wp_callN fn_integer_Bits rfl (Bits_z _ x _ (e3 E) (Fits.mono Fx (by decide))) rfl E ?_)
 clear E
 intro w10 d10 E
 clear d10
 refine ⟨E.2.2, ?_⟩
 simp only [Act.put,q1,q2,q3]
 refine S1a (o := ⟨some 43, _, _, _, _, _⟩) rfl rfl rfl rfl (Oper.wp_callN fn_eref01_Bits rfl (RBits_z _ x _ (e3 E) (Fits.mono Fx (by decide))) rfl E ?_)
 clear E
 intro w11 d11 E
 clear d11
 refine ⟨E.2.2, ?_⟩
 simp only [Act.put,q1,q2,q3]
 refine SW rfl rfl rfl (by kernel_rfl) rfl (fun w hS => run_eqI (c := true) rfl rfl rfl (beq_self_eq_true _)) <| SW (v := .bool true) rfl rfl rfl rfl rfl (fun w hS => run_pick (b := true) rfl rfl rfl) <| SM rfl rfl rfl rfl rfl rfl rfl rfl <| SW rfl rfl rfl (by kernel_rfl) rfl (fun w hS => run_load_bx AgI rfl rfl (hS.1) rfl) <| ?_
 simp only [q2,q3]
 refine SW rfl rfl rfl (by kernel_rfl) rfl (fun w hS => run_load_bx AgI rfl rfl (hS.1) rfl) <| ?_
 simp only [q2,q3]
 refine S1a (o := ⟨some 48, _, _, _, _, _⟩) rfl rfl rfl rfl (Oper.wp_callT fn_integer_Text rfl (Text_z _ x _ (e3 E) (Fits.mono Fx (by decide))) rfl E ?_)
 clear E
 intro w12 d12 E
 clear d12
 refine ⟨E.2.2, ?_⟩
 simp only [Act.put,q1,q2,q3]
 refine S1a (o := ⟨some 50, _, _, _, _, _⟩) rfl rfl rfl rfl (Oper.wp_callT fn_eref01_Text rfl (RText_z _ x _ (e3 E) (Fits.mono Fx (by decide))) rfl E ?_)
 clear E
 intro w13 d13 E
 clear d13
 refine ⟨E.2.2, ?_⟩
 simp only [Act.put,q1,q2,q3]
 refine SW rfl rfl rfl (by kernel_rfl) rfl (fun w hS => run_eqS rfl rfl rfl (beq_self_eq_true _)) <| SW (v := .bool true) rfl rfl rfl rfl rfl (fun w hS => run_pick (b := true) rfl rfl rfl) <| SA rfl rfl rfl rfl rfl rfl rfl rfl <| ?_
 simp only [q2,q3]
 refine SN ?_
 change Code.wp _ _ _ _ _
 refine wp_ret ?_
 exact bodyPost_ret (v := .bool true) (by simp [results, Try.results40, asAddr]) rfl ⟨rfl, e4 E⟩
end Go.Proofs.Ytjgmfdenicbniaa
