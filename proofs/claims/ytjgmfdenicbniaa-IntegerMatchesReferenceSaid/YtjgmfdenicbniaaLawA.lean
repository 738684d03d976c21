/- The small functions of the laws on integers. (Printed by g_law01a.py.) -/
import Derived.Test.YtjgmfdenicbniaaRef1
import Derived.Test.YtjgmfdenicbniaaFns
namespace Go.Proofs.Ytjgmfdenicbniaa
open Go.RowKit W
theorem RSame_t (va vb : Value) (x y : Int) (w : World) (ha : IsI w va x) (hb : IsI w vb y) (h : x = y) : Calls Try.prog 21 #[va, vb] w (RetB w true) := by
  have := RSame_z va vb x y w ha hb
  rwa [decide_eq_true h] at this
set_option maxRecDepth 100000 in
set_option maxHeartbeats 4000000 in
theorem of_z  (n : Int) (w : World)  (hn1 : -9223372036854775808 ≤ n) (hn2 : n ≤ 9223372036854775807) :
    Calls Try.prog 23 #[.int .i64 n] w (RetZ w n) := by
 have E := Env.start w
 go_enter Try.func23, Try.ntmps23
 refine wp_seq ?_
 -- region 0
 refine wp_region_lit ?_
 refine L1 rfl (Oper.wp_alloc AgI rfl ?_)
 intro b1 w1 e1 z1 d1 x1
 have l1 : w.heap.size ≤ b1 := by rw [e1]; exact (E.1).size
 replace E := E.below d1
 clear e1 z1 d1
 simp only [Act.put,q1,q2,q3]
 refine wpList_nil ?_
 change Code.wp _ _ _ _ _
 refine wp_seq ?_
 -- region 1
 refine wp_region_lit ?_
 refine LV (v := .int .i64 n) rfl (run_move rfl rfl) ?_
 simp only [Act.put,q1,q2,q3]
 refine L1 rfl (Oper.wp_callI fn_eref01_Of rfl (ROf_z n _ hn1 hn2) rfl E ?_)
 clear E
 intro w2 n2 s2 d2 E
 replace x1 := x1.below d2
 clear d2
 simp only [Act.put,q1,q2,q3]
 refine L1 rfl (Oper.wp_store AgI rfl rfl rfl x1 rfl rfl (IsI.one (E.1)) ?_)
 intro w3 o3 y3
 replace E := (E.onl (x1.noW now0) ⟨trivial, okW (by omega), trivial⟩ o3).b y3
 clear x1 o3 y3
 simp only [Act.put]
 refine wpList_nil ?_
 change Code.wp _ _ _ _ _
 refine wp_ret ?_
 have r4 := res_box AgI (E.1) rfl
 exact bodyPost_ret (v := .agg #[.bool n2, s2]) (by simp [results, Try.results23, asAddr, r4]) rfl ⟨_, rfl, E.2.1, E.2.2.1⟩
set_option maxRecDepth 100000 in
set_option maxHeartbeats 4000000 in
theorem three_t  (va : Value) (x : Int) (vb : Value) (y : Int) (vc : Value) (z : Int) (p : Int) (q : Int) (r : Int) (w : World) (hva : IsI w va x) (hvb : IsI w vb y) (hvc : IsI w vc z) (hp1 : -9223372036854775808 ≤ p) (hp2 : p ≤ 9223372036854775807) (hq1 : -9223372036854775808 ≤ q) (hq2 : q ≤ 9223372036854775807) (hr1 : -9223372036854775808 ≤ r) (hr2 : r ≤ 9223372036854775807) (hx : x = p) (hy : y = q) (hz : z = r) :
    Calls Try.prog 50 #[va, vb, vc, .int .i64 p, .int .i64 q, .int .i64 r] w (RetB w true) := by
 have E := Env.start w
 obtain ⟨nva, sva, rfl, _, _⟩ := hva.sh
 replace E := E.i hva
 clear hva
 obtain ⟨nvb, svb, rfl, _, _⟩ := hvb.sh
 replace E := E.i hvb
 clear hvb
 obtain ⟨nvc, svc, rfl, _, _⟩ := hvc.sh
 replace E := E.i hvc
 clear hvc
 go_enter Try.func50, Try.ntmps50
 refine wp_seq ?_
 -- region 0
 refine wp_region_lit ?_
 refine L1 rfl (Oper.wp_box rfl rfl ?_)
 intro b1 w1 e1 z1 d1 x1
 have l1 : w.heap.size ≤ b1 := by rw [e1]; exact (E.2.2.2.1).size
 replace E := E.below d1
 clear e1 z1 d1
 replace E := E.b x1
 clear x1
 simp only [Act.put,q1,q2,q3]
 refine L1 rfl (Oper.wp_box rfl rfl ?_)
 intro b2 w2 e2 z2 d2 x2
 have l2_0 : b1 < b2 := by rw [e2]; exact Bx.lt (E.1)
 replace E := E.below d2
 clear e2 z2 d2
 replace E := E.b x2
 clear x2
 simp only [Act.put,q1,q2,q3]
 refine L1 rfl (Oper.wp_box rfl rfl ?_)
 intro b3 w3 e3 z3 d3 x3
 have l3_0 : b2 < b3 := by rw [e3]; exact Bx.lt (E.1)
 replace E := E.below d3
 clear e3 z3 d3
 replace E := E.b x3
 clear x3
 simp only [Act.put,q1,q2,q3]
 refine LV (v := .bool false) rfl (run_assign rfl rfl) ?_
 simp only [Act.put,q1,q2,q3]
 refine wpList_nil ?_
 change Code.wp _ _ _ _ _
 refine wp_seq ?_
 -- region 1
 refine wp_schedE E ([0, 1, 2, 3, 4, 5, 6, 7, 8, 9, 10, 11, 12, 13, 14, 15, 16]) (by kernel_rfl) (by kernel_rfl) (by kernel_rfl) (by kernel_rfl) (by intro d v c a w h; cases d <;> exact h) ?_
 replace E := E.drew
 refine SP (o := ⟨some 13, _, _, _, _, _⟩) (v := .agg #[.bool nva, sva]) rfl rfl rfl rfl (fun w hS => run_load_bx AgI rfl rfl (hS.2.2.1) rfl) ?_
 simp only [Act.put,q1,q2,q3]
 refine SP (o := ⟨some 14, _, _, _, _, _⟩) (v := .int .i64 p) rfl rfl rfl rfl (fun w hS => run_move rfl rfl) ?_
 simp only [Act.put,q1,q2,q3]
 refine S1a (o := ⟨some 15, _, _, _, _, _⟩) rfl rfl rfl rfl (Oper.wp_callI fn_elaw01_of rfl (of_z p _ hp1 hp2) rfl E ?_)
 clear E
 intro w4 n4 s4 d4 E
 clear d4
 refine ⟨E.2, ?_⟩
 simp only [Act.put,q1,q2,q3]
 refine S1a (o := ⟨some 16, _, _, _, _, _⟩) rfl rfl rfl rfl (Oper.wp_callB fn_eref01_Same rfl (RSame_t _ _ x p _ (E.2.2.2.2.2.2.1) (E.1) (hx)) rfl E ?_)
 clear E
 intro w5 d5 E
 clear d5
 refine ⟨E.2, ?_⟩
 simp only [Act.put,q1,q2,q3]
 refine SP (o := ⟨some 17, _, _, _, _, _⟩) (v := .bool true) rfl rfl rfl rfl (fun w hS => run_move rfl rfl) ?_
 simp only [Act.put,q1,q2,q3]
 refine SP (o := ⟨some 18, _, _, _, _, _⟩) (v := .agg #[.bool nvb, svb]) rfl rfl rfl rfl (fun w hS => run_load_bx AgI rfl rfl (hS.2.1) rfl) ?_
 simp only [Act.put,q1,q2,q3]
 refine SP (o := ⟨some 19, _, _, _, _, _⟩) (v := .int .i64 q) rfl rfl rfl rfl (fun w hS => run_move rfl rfl) ?_
 simp only [Act.put,q1,q2,q3]
 refine S1a (o := ⟨some 20, _, _, _, _, _⟩) rfl rfl rfl rfl (Oper.wp_callI fn_elaw01_of rfl (of_z q _ hq1 hq2) rfl E ?_)
 clear E
 intro w6 n6 s6 d6 E
 clear d6
 refine ⟨E.2.2, ?_⟩
 simp only [Act.put,q1,q2,q3]
 refine S1a (o := ⟨some 21, _, _, _, _, _⟩) rfl rfl rfl rfl (Oper.wp_callB fn_eref01_Same rfl (RSame_t _ _ y q _ (E.2.2.2.2.2.2.1) (E.1) (hy)) rfl E ?_)
 clear E
 intro w7 d7 E
 clear d7
 refine ⟨E.2.2, ?_⟩
 simp only [Act.put,q1,q2,q3]
 refine SP (o := ⟨some 22, _, _, _, _, _⟩) (v := .bool true) rfl rfl rfl rfl (fun w hS => run_pick (b := true) rfl rfl rfl) ?_
 simp only [Act.put,q1,q2,q3]
 refine SP (o := ⟨some 23, _, _, _, _, _⟩) (v := .bool true) rfl rfl rfl rfl (fun w hS => run_move rfl rfl) ?_
 simp only [Act.put,q1,q2,q3]
 refine SP (o := ⟨some 24, _, _, _, _, _⟩) (v := .agg #[.bool nvc, svc]) rfl rfl rfl rfl (fun w hS => run_load_bx AgI rfl rfl (hS.1) rfl) ?_
 simp only [Act.put,q1,q2,q3]
 refine SP (o := ⟨some 25, _, _, _, _, _⟩) (v := .int .i64 r) rfl rfl rfl rfl (fun w hS => run_move rfl rfl) ?_
 simp only [Act.put,q1,q2,q3]
 refine S1a (o := ⟨some 26, _, _, _, _, _⟩) rfl rfl rfl rfl (Oper.wp_callI fn_elaw01_of rfl (of_z r _ hr1 hr2) rfl E ?_)
 clear E
 intro w8 n8 s8 d8 E
 clear d8
 refine ⟨E.2.2.2, ?_⟩
 simp only [Act.put,q1,q2,q3]
 refine S1a (o := ⟨some 27, _, _, _, _, _⟩) rfl rfl rfl rfl (Oper.wp_callB fn_eref01_Same rfl (RSame_t _ _ z r _ (E.2.2.2.2.2.2.1) (E.1) (hz)) rfl E ?_)
 clear E
 intro w9 d9 E
 clear d9
 refine ⟨E.2.2.2, ?_⟩
 simp only [Act.put,q1,q2,q3]
 refine SP (o := ⟨some 28, _, _, _, _, _⟩) (v := .bool true) rfl rfl rfl rfl (fun w hS => run_pick (b := true) rfl rfl rfl) ?_
 simp only [Act.put,q1,q2,q3]
 refine SP (o := ⟨some 12, _, _, _, _, _⟩) (v := .bool true) rfl rfl rfl rfl (fun w hS => run_assign rfl rfl) ?_
 simp only [Act.put,q1,q2,q3]
 refine SN ?_
 change Code.wp _ _ _ _ _
 refine wp_ret ?_
 exact bodyPost_ret (v := .bool true) (by simp [results, Try.results50, asAddr]) rfl ⟨rfl, E.2.2.2.2.2.2.2.2.2.1⟩
set_option maxRecDepth 100000 in
set_option maxHeartbeats 4000000 in
theorem same3_t  (va : Value) (x : Int) (vb : Value) (y : Int) (vc : Value) (z : Int) (vd : Value) (p : Int) (ve : Value) (q : Int) (vf : Value) (r : Int) (w : World) (hva : IsI w va x) (hvb : IsI w vb y) (hvc : IsI w vc z) (hvd : IsI w vd p) (hve : IsI w ve q) (hvf : IsI w vf r) (hx : x = p) (hy : y = q) (hz : z = r) :
    Calls Try.prog 37 #[va, vb, vc, vd, ve, vf] w (RetB w true) := by
 have E := Env.start w
 obtain ⟨nva, sva, rfl, _, _⟩ := hva.sh
 replace E := E.i hva
 clear hva
 obtain ⟨nvb, svb, rfl, _, _⟩ := hvb.sh
 replace E := E.i hvb
 clear hvb
 obtain ⟨nvc, svc, rfl, _, _⟩ := hvc.sh
 replace E := E.i hvc
 clear hvc
 obtain ⟨nvd, svd, rfl, _, _⟩ := hvd.sh
 replace E := E.i hvd
 clear hvd
 obtain ⟨nve, sve, rfl, _, _⟩ := hve.sh
 replace E := E.i hve
 clear hve
 obtain ⟨nvf, svf, rfl, _, _⟩ := hvf.sh
 replace E := E.i hvf
 clear hvf
 go_enter Try.func37, Try.ntmps37
 refine wp_seq ?_
 -- region 0
 refine wp_region_lit ?_
 refine L1 rfl (Oper.wp_box rfl rfl ?_)
 intro b1 w1 e1 z1 d1 x1
 have l1 : w.heap.size ≤ b1 := by rw [e1]; exact (E.2.2.2.2.2.2.1).size
 replace E := E.below d1
 clear e1 z1 d1
 replace E := E.b x1
 clear x1
 simp only [Act.put,q1,q2,q3]
 refine L1 rfl (Oper.wp_box rfl rfl ?_)
 intro b2 w2 e2 z2 d2 x2
 have l2_0 : b1 < b2 := by rw [e2]; exact Bx.lt (E.1)
 replace E := E.below d2
 clear e2 z2 d2
 replace E := E.b x2
 clear x2
 simp only [Act.put,q1,q2,q3]
 refine L1 rfl (Oper.wp_box rfl rfl ?_)
 intro b3 w3 e3 z3 d3 x3
 have l3_0 : b2 < b3 := by rw [e3]; exact Bx.lt (E.1)
 replace E := E.below d3
 clear e3 z3 d3
 replace E := E.b x3
 clear x3
 simp only [Act.put,q1,q2,q3]
 refine L1 rfl (Oper.wp_box rfl rfl ?_)
 intro b4 w4 e4 z4 d4 x4
 have l4_0 : b3 < b4 := by rw [e4]; exact Bx.lt (E.1)
 replace E := E.below d4
 clear e4 z4 d4
 replace E := E.b x4
 clear x4
 simp only [Act.put,q1,q2,q3]
 refine L1 rfl (Oper.wp_box rfl rfl ?_)
 intro b5 w5 e5 z5 d5 x5
 have l5_0 : b4 < b5 := by rw [e5]; exact Bx.lt (E.1)
 replace E := E.below d5
 clear e5 z5 d5
 replace E := E.b x5
 clear x5
 simp only [Act.put,q1,q2,q3]
 refine L1 rfl (Oper.wp_box rfl rfl ?_)
 intro b6 w6 e6 z6 d6 x6
 have l6_0 : b5 < b6 := by rw [e6]; exact Bx.lt (E.1)
 replace E := E.below d6
 clear e6 z6 d6
 replace E := E.b x6
 clear x6
 simp only [Act.put,q1,q2,q3]
 refine LV (v := .bool false) rfl (run_assign rfl rfl) ?_
 simp only [Act.put,q1,q2,q3]
 refine wpList_nil ?_
 change Code.wp _ _ _ _ _
 refine wp_seq ?_
 -- region 1
 refine wp_region_lit ?_
 refine LV (v := .agg #[.bool nva, sva]) rfl (run_load_bx AgI rfl rfl (E.2.2.2.2.2.1) rfl) ?_
 simp only [Act.put,q1,q2,q3]
 refine LV (v := .agg #[.bool nvd, svd]) rfl (run_load_bx AgI rfl rfl (E.2.2.1) rfl) ?_
 simp only [Act.put,q1,q2,q3]
 refine L1 rfl (Oper.wp_callB fn_eref01_Same rfl (RSame_t _ _ x p _ (E.2.2.2.2.2.2.2.2.2.2.2.1) (E.2.2.2.2.2.2.2.2.1) (hx)) rfl E ?_)
 clear E
 intro w7 d7 E
 clear d7
 simp only [Act.put,q1,q2,q3]
 refine LV (v := .bool true) rfl (run_move rfl rfl) ?_
 simp only [Act.put,q1,q2,q3]
 refine LV (v := .agg #[.bool nvb, svb]) rfl (run_load_bx AgI rfl rfl (E.2.2.2.2.1) rfl) ?_
 simp only [Act.put,q1,q2,q3]
 refine LV (v := .agg #[.bool nve, sve]) rfl (run_load_bx AgI rfl rfl (E.2.1) rfl) ?_
 simp only [Act.put,q1,q2,q3]
 refine L1 rfl (Oper.wp_callB fn_eref01_Same rfl (RSame_t _ _ y q _ (E.2.2.2.2.2.2.2.2.2.2.1) (E.2.2.2.2.2.2.2.1) (hy)) rfl E ?_)
 clear E
 intro w8 d8 E
 clear d8
 simp only [Act.put,q1,q2,q3]
 refine LV (v := .bool true) rfl (run_pick (b := true) rfl rfl rfl) ?_
 simp only [Act.put,q1,q2,q3]
 refine LV (v := .bool true) rfl (run_move rfl rfl) ?_
 simp only [Act.put,q1,q2,q3]
 refine LV (v := .agg #[.bool nvc, svc]) rfl (run_load_bx AgI rfl rfl (E.2.2.2.1) rfl) ?_
 simp only [Act.put,q1,q2,q3]
 refine LV (v := .agg #[.bool nvf, svf]) rfl (run_load_bx AgI rfl rfl (E.1) rfl) ?_
 simp only [Act.put,q1,q2,q3]
 refine L1 rfl (Oper.wp_callB fn_eref01_Same rfl (RSame_t _ _ z r _ (E.2.2.2.2.2.2.2.2.2.1) (E.2.2.2.2.2.2.1) (hz)) rfl E ?_)
 clear E
 intro w9 d9 E
 clear d9
 simp only [Act.put,q1,q2,q3]
 refine LV (v := .bool true) rfl (run_pick (b := true) rfl rfl rfl) ?_
 simp only [Act.put,q1,q2,q3]
 refine LV (v := .bool true) rfl (run_assign rfl rfl) ?_
 simp only [Act.put,q1,q2,q3]
 refine wpList_nil ?_
 change Code.wp _ _ _ _ _
 refine wp_ret ?_
 exact bodyPost_ret (v := .bool true) (by simp [results, Try.results37, asAddr]) rfl ⟨rfl, E.2.2.2.2.2.2.2.2.2.2.2.2.1⟩
end Go.Proofs.Ytjgmfdenicbniaa
