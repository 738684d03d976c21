/- The reference of rationals: its arithmetic and Between. (Printed by g_ref02b.py.) -/
import Derived.Test.YtndpjfhhigpbhaaGreatSameQ
import Derived.Test.YtndpjfhhigpbhaaGreatRat2
import Derived.Test.YtndpjfhhigpbhaaGreatRat3
import Derived.Test.YtndpjfhhigpbhaaGreatFns
namespace Go.Proofs.YtndpjfhhigpbhaaGreat
open Go.RowKit W
set_option maxRecDepth 100000 in
set_option maxHeartbeats 8000000 in
theorem RNew_zero  (va : Value) (n : Int) (vb : Value) (d : Int) (w : World) (hva : IsI w va n) (hvb : IsI w vb d) (hd : d = 0) :
    Calls Tryz.prog 53 #[va, vb] w (RetPE w 0 0 10) := by
 have E := Env.start w
 obtain ⟨nva, sva, rfl, _, _⟩ := hva.sh
 replace E := E.i hva
 clear hva
 obtain ⟨nvb, svb, rfl, _, _⟩ := hvb.sh
 replace E := E.i hvb
 clear hvb
 go_enter Tryz.func53, Tryz.ntmps53
 refine wp_seq ?_
 -- region 0
 refine RL ?_
 refine EF rfl (Oper.wp_box rfl rfl ?_)
 intro b1 w1 e1 z1 d1 x1
 have l1 : w.heap.size ≤ b1 := by rw [e1]; exact (E.2.2.1).size
 replace E := E.below d1
 clear e1 z1 d1
 replace E := E.b x1
 clear x1
 refine kw rfl ?_
 simp only [q2,q3]
 refine EF rfl (Oper.wp_box rfl rfl ?_)
 intro b2 w2 e2 z2 d2 x2
 have l2_0 : b1 < b2 := by rw [e2]; exact Bx.lt (E.1)
 replace E := E.below d2
 clear e2 z2 d2
 replace E := E.b x2
 clear x2
 refine kw rfl ?_
 simp only [q2,q3]
 refine EF rfl (Oper.wp_alloc AgR rfl ?_)
 intro b3 w3 e3 z3 d3 x3
 have l3_0 : b2 < b3 := by rw [e3]; exact Bx.lt (E.1)
 replace E := E.below d3
 clear e3 z3 d3
 refine kw rfl ?_
 refine AC rfl rfl rfl rfl <| ?_
 simp only [q2,q3]
 refine WN ?_
 change Code.wp _ _ _ _ _
 refine wp_seq ?_
 refine wp_seq ?_
 -- region 1
 refine RL ?_
 refine V rfl rfl (run_load_bx AgI rfl rfl (E.1) rfl) <| ?_
 simp only [q2,q3]
 refine EF rfl (Oper.wp_callN fn_eref01_Sign rfl (RSign_z _ d _ (E.2.2.1)) rfl E ?_)
 clear E
 intro w4 d4 E
 replace x3 := x3.below d4
 clear d4
 refine kw rfl ?_
 refine V rfl rfl (run_eqI (c := true) rfl rfl rfl (sgn_eq0 hd)) <| ?_
 simp only [q2,q3]
 refine WN ?_
 change Code.wp _ _ _ _ _
 refine wp_cond_true rfl ?_
 refine wp_seq ?_
 -- region 2
 refine RL ?_
 refine V (v := .agg #[.bool false, .slice none 0 0, .bool false, .slice none 0 0]) rfl rfl (run_buildR0 rfl) <| ?_
 simp only [q2,q3]
 refine EF rfl (Oper.wp_store AgR rfl rfl rfl x3 rfl rfl (one4 one0 one0) ?_)
 intro w5 o5 y5
 replace E := (E.onl (x3.noW (now4 now0 now0)) ⟨okB (by omega), okB (by omega), trivial, trivial, okW (by omega), trivial⟩ o5).x y5
 clear x3 o5 y5
 refine kn rfl ?_
 refine AC rfl rfl rfl rfl <| ?_
 simp only [q2,q3]
 refine WN ?_
 change Code.wp _ _ _ _ _
 refine wp_ret ?_
 have r6 := res_box AgR (E.1) rfl
 exact bodyPost_ret (v := .tuple #[.agg #[.bool false, .slice none 0 0, .bool false, .slice none 0 0], .int .i64 10]) (by simp [results, Tryz.results53, asAddr, r6]) rfl ⟨_, _, _, _, rfl, eqZ rfl (zero_i _), eqZ rfl (zero_i _), e5 E⟩
set_option maxRecDepth 100000 in
set_option maxHeartbeats 8000000 in
theorem RNew_z  (va : Value) (n : Int) (vb : Value) (d : Int) (w : World) (hva : IsI w va n) (hvb : IsI w vb d) (hd : d ≠ 0) (Fn : Fits n 900000000) (Fd : Fits d 900000000) :
    Calls Tryz.prog 53 #[va, vb] w (RetPE w (Rat.divInt n d).num (((Rat.divInt n d).den : Nat) : Int) 0) := by
 have E := Env.start w
 obtain ⟨nva, sva, rfl, _, _⟩ := hva.sh
 replace E := E.i hva
 clear hva
 obtain ⟨nvb, svb, rfl, _, _⟩ := hvb.sh
 replace E := E.i hvb
 clear hvb
 go_enter Tryz.func53, Tryz.ntmps53
 refine wp_seq ?_
 -- region 0
 refine RL ?_
 refine EF rfl (Oper.wp_box rfl rfl ?_)
 intro b1 w1 e1 z1 d1 x1
 have l1 : w.heap.size ≤ b1 := by rw [e1]; exact (E.2.2.1).size
 replace E := E.below d1
 clear e1 z1 d1
 replace E := E.b x1
 clear x1
 refine kw rfl ?_
 simp only [q2,q3]
 refine EF rfl (Oper.wp_box rfl rfl ?_)
 intro b2 w2 e2 z2 d2 x2
 have l2_0 : b1 < b2 := by rw [e2]; exact Bx.lt (E.1)
 replace E := E.below d2
 clear e2 z2 d2
 replace E := E.b x2
 clear x2
 refine kw rfl ?_
 simp only [q2,q3]
 refine EF rfl (Oper.wp_alloc AgR rfl ?_)
 intro b3 w3 e3 z3 d3 x3
 have l3_0 : b2 < b3 := by rw [e3]; exact Bx.lt (E.1)
 replace E := E.below d3
 clear e3 z3 d3
 refine kw rfl ?_
 refine AC rfl rfl rfl rfl <| ?_
 simp only [q2,q3]
 refine WN ?_
 change Code.wp _ _ _ _ _
 refine wp_seq ?_
 refine wp_seq ?_
 -- region 1
 refine RL ?_
 refine V rfl rfl (run_load_bx AgI rfl rfl (E.1) rfl) <| ?_
 simp only [q2,q3]
 refine EF rfl (Oper.wp_callN fn_eref01_Sign rfl (RSign_z _ d _ (E.2.2.1)) rfl E ?_)
 clear E
 intro w4 d4 E
 replace x3 := x3.below d4
 clear d4
 refine kw rfl ?_
 refine V rfl rfl (run_eqI (c := false) rfl rfl rfl (sgn_ne0 hd)) <| ?_
 simp only [q2,q3]
 refine WN ?_
 change Code.wp _ _ _ _ _
 refine wp_cond_false rfl ?_
 refine wp_skip ?_
 change Code.wp _ _ _ _ _
 refine wp_seq ?_
 -- region 3
 refine RL ?_
 refine V rfl rfl (run_load_bx AgI rfl rfl (E.2.1) rfl) <| V rfl rfl (run_load_bx AgI rfl rfl (E.1) rfl) <| ?_
 simp only [q2,q3]
 refine EF rfl (Oper.wp_callP fn_eref02_lowest rfl (Rlowest_z _ n _ d _ (e3 E) (E.2.2.1) hd (Fits.mono Fn (by decide)) (Fits.mono Fd (by decide))) rfl E ?_)
 clear E
 intro w6 n6 s6 m6 t6 d6 E
 replace x3 := x3.below d6
 clear d6
 refine kw rfl ?_
 have F5 : FitQ (Rat.divInt n d) 900000000 := FitQ_low (k := 900000000) hd (Fits.mono Fn (by decide)) (Fits.mono Fd (by decide))
 simp only [q2,q3]
 refine EF rfl (Oper.wp_store AgR rfl rfl rfl x3 rfl rfl (one4 (IsI.one (E.2.1)) (IsI.one (E.1))) ?_)
 intro w7 o7 y7
 replace E := (E.onl (x3.noW (now4 now0 now0)) ⟨trivial, trivial, okB (by omega), okB (by omega), trivial, trivial, okW (by omega), trivial⟩ o7).x y7
 clear x3 o7 y7
 refine kn rfl ?_
 refine AC rfl rfl rfl rfl <| ?_
 simp only [q2,q3]
 refine WN ?_
 change Code.wp _ _ _ _ _
 refine wp_ret ?_
 have r8 := res_box AgR (E.1) rfl
 exact bodyPost_ret (v := .tuple #[.agg #[.bool n6, s6, .bool m6, t6], .int .i64 0]) (by simp [results, Tryz.results53, asAddr, r8]) rfl ⟨_, _, _, _, rfl, eqZ rfl (E.2.2.1), eqZ rfl (E.2.1), e7 E⟩
set_option maxRecDepth 100000 in
set_option maxHeartbeats 4000000 in
theorem Rwhole_z  (va : Value) (n : Int) (w : World) (hva : IsI w va n)  :
    Calls Tryz.prog 84 #[va] w (RetP w ((n : Int) : Rat).num (((((n : Int) : Rat)).den : Nat) : Int)) := by
 have E := Env.start w
 obtain ⟨nva, sva, rfl, _, _⟩ := hva.sh
 replace E := E.i hva
 clear hva
 go_enter Tryz.func84, Tryz.ntmps84
 refine wp_seq ?_
 -- region 0
 refine RL ?_
 refine EF rfl (Oper.wp_box rfl rfl ?_)
 intro b1 w1 e1 z1 d1 x1
 have l1 : w.heap.size ≤ b1 := by rw [e1]; exact (E.2.1).size
 replace E := E.below d1
 clear e1 z1 d1
 replace E := E.b x1
 clear x1
 refine kw rfl ?_
 simp only [q2,q3]
 refine EF rfl (Oper.wp_alloc AgR rfl ?_)
 intro b2 w2 e2 z2 d2 x2
 have l2_0 : b1 < b2 := by rw [e2]; exact Bx.lt (E.1)
 replace E := E.below d2
 clear e2 z2 d2
 refine kw rfl ?_
 simp only [q2,q3]
 refine WN ?_
 change Code.wp _ _ _ _ _
 refine wp_seq ?_
 -- region 1
 refine wp_schedE E ([0, 1, 2, 3]) (by kernel_rfl) (by kernel_rfl) (by kernel_rfl) (by kernel_rfl) (by intro d v c a w h; cases d <;> exact h) ?_
 replace E := E.drew
 replace x2 := Bx.drew x2
 refine SW rfl rfl rfl rfl rfl (fun w hS => run_load_bx AgI rfl rfl (hS.1) rfl) <| ?_
 simp only [q2,q3]
 refine S1a (o := ⟨some 4, _, _, _, _, _⟩) rfl rfl rfl rfl (Oper.wp_callI fn_eref01_Of rfl (ROf_z 1 _ (by decide) (by decide)) rfl E ?_)
 clear E
 intro w3 n3 s3 d3 E
 replace x2 := x2.below d3
 clear d3
 refine ⟨E.2, ?_⟩
 simp only [Act.put,q1,q2,q3]
 refine SW (v := .agg #[.bool nva, sva, .bool n3, s3]) rfl rfl rfl rfl rfl (fun w hS => run_buildR rfl rfl rfl) <| ?_
 simp only [q2,q3]
 refine S1a (o := ⟨none, _, _, _, _, _⟩) rfl rfl rfl rfl (Oper.wp_store AgR rfl rfl rfl x2 rfl rfl (one4 (IsI.one (E.2.2.1)) (IsI.one (E.1))) ?_)
 intro w4 o4 y4
 replace E := (E.onl (x2.noW (now4 now0 now0)) ⟨trivial, okB (by omega), trivial, okW (by omega), trivial⟩ o4).x y4
 clear x2 o4 y4
 refine ⟨E.2.2, ?_⟩
 simp only [Act.put]
 refine SN ?_
 change Code.wp _ _ _ _ _
 refine wp_ret ?_
 have r5 := res_box AgR (E.1) rfl
 exact bodyPost_ret (v := .agg #[.bool nva, sva, .bool n3, s3]) (by simp [results, Tryz.results84, asAddr, r5]) rfl ⟨_, _, _, _, rfl, eqZ rfl (e3 E), eqZ rfl (E.2.1), e4 E⟩
set_option maxRecDepth 100000 in
set_option maxHeartbeats 4000000 in
theorem RWhole_z  (n : Int) (w : World)  (h1 : -9223372036854775808 ≤ n) (h2 : n ≤ 9223372036854775807) :
    Calls Tryz.prog 16 #[.int .i64 n] w (RetP w ((n : Int) : Rat).num (((((n : Int) : Rat)).den : Nat) : Int)) := by
 have E := Env.start w
 go_enter Tryz.func16, Tryz.ntmps16
 refine wp_seq ?_
 -- region 0
 refine RL ?_
 refine EF rfl (Oper.wp_alloc AgR rfl ?_)
 intro b1 w1 e1 z1 d1 x1
 have l1 : w.heap.size ≤ b1 := by rw [e1]; exact (E.1).size
 replace E := E.below d1
 clear e1 z1 d1
 refine kw rfl ?_
 simp only [q2,q3]
 refine WN ?_
 change Code.wp _ _ _ _ _
 refine wp_seq ?_
 -- region 1
 refine RL ?_
 refine M rfl rfl rfl rfl rfl <| ?_
 simp only [q2,q3]
 refine EF rfl (Oper.wp_callI fn_eref01_Of rfl (ROf_z n _ h1 h2) rfl E ?_)
 clear E
 intro w3 n3 s3 d3 E
 replace x1 := x1.below d3
 clear d3
 refine kw rfl ?_
 have F2 : Fits n 4 := Fits_of64 h1 h2
 simp only [q2,q3]
 refine EF rfl (Oper.wp_callI fn_eref01_Of rfl (ROf_z 1 _ (by decide) (by decide)) rfl E ?_)
 clear E
 intro w4 n4 s4 d4 E
 replace x1 := x1.below d4
 clear d4
 refine kw rfl ?_
 refine V (v := .agg #[.bool n3, s3, .bool n4, s4]) rfl rfl (run_buildR rfl rfl rfl) <| ?_
 simp only [q2,q3]
 refine EF rfl (Oper.wp_store AgR rfl rfl rfl x1 rfl rfl (one4 (IsI.one (E.2.1)) (IsI.one (E.1))) ?_)
 intro w5 o5 y5
 replace E := (E.onl (x1.noW (now4 now0 now0)) ⟨trivial, trivial, okW (by omega), trivial⟩ o5).x y5
 clear x1 o5 y5
 refine kn rfl ?_
 refine WN ?_
 change Code.wp _ _ _ _ _
 refine wp_ret ?_
 have r6 := res_box AgR (E.1) rfl
 exact bodyPost_ret (v := .agg #[.bool n3, s3, .bool n4, s4]) (by simp [results, Tryz.results16, asAddr, r6]) rfl ⟨_, _, _, _, rfl, eqZ rfl (E.2.2.1), eqZ rfl (E.2.1), e3 E⟩
set_option maxRecDepth 100000 in
set_option maxHeartbeats 8000000 in
theorem RAdd_q  (na : Bool) (sa : Value) (ma : Bool) (ta : Value) (x : Rat) (nb : Bool) (sb : Value) (mb : Bool) (tb : Value) (y : Rat)  (w : World)  (hna : IsI w (.agg #[.bool na, sa]) x.num) (hda : IsI w (.agg #[.bool ma, ta]) ((x.den : Nat) : Int)) (hnb : IsI w (.agg #[.bool nb, sb]) y.num) (hdb : IsI w (.agg #[.bool mb, tb]) ((y.den : Nat) : Int)) (Fx : FitQ x 100000000) (Fy : FitQ y 100000000) :
    Calls Tryz.prog 8 #[.agg #[.bool na, sa, .bool ma, ta], .agg #[.bool nb, sb, .bool mb, tb]] w (RetP w (x + y).num (((x + y).den : Nat) : Int)) := by
 have E := Env.start w
 replace E := (E.i hna).i hda
 clear hna hda
 replace E := (E.i hnb).i hdb
 clear hnb hdb
 go_enter Tryz.func8, Tryz.ntmps8
 refine wp_seq ?_
 -- region 0
 refine RL ?_
 refine EF rfl (Oper.wp_box (cs := [.bool na, sa, .bool ma, ta]) rfl rfl ?_)
 intro b1 w1 e1 z1 d1 x1
 have l1 : w.heap.size ≤ b1 := by rw [e1]; exact (e4 E).size
 replace E := E.below d1
 clear e1 z1 d1
 replace E := E.x x1
 clear x1
 refine kw rfl ?_
 simp only [q2,q3]
 refine EF rfl (Oper.wp_box (cs := [.bool nb, sb, .bool mb, tb]) rfl rfl ?_)
 intro b2 w2 e2 z2 d2 x2
 have l2_0 : b1 < b2 := by rw [e2]; exact Bx.lt (E.1)
 replace E := E.below d2
 clear e2 z2 d2
 replace E := E.x x2
 clear x2
 refine kw rfl ?_
 simp only [q2,q3]
 refine EF rfl (Oper.wp_alloc AgR rfl ?_)
 intro b3 w3 e3 z3 d3 x3
 have l3_0 : b2 < b3 := by rw [e3]; exact Bx.lt (E.1)
 replace E := E.below d3
 clear e3 z3 d3
 refine kw rfl ?_
 simp only [q2,q3]
 refine WN ?_
 change Code.wp _ _ _ _ _
 refine wp_seq ?_
 -- region 1
 refine wp_schedE E ([0, 1, 2, 3, 5, 6, 7, 8, 11, 12, 13, 14, 4, 9, 10, 15, 16, 17]) (by kernel_rfl) (by kernel_rfl) (by kernel_rfl) (by kernel_rfl) (by intro d v c a w h; cases d <;> exact h) ?_
 replace E := E.drew
 replace x3 := Bx.drew x3
 refine SW rfl rfl rfl rfl rfl (fun w hS => run_fieldR0 rfl rfl) <| SW rfl rfl rfl rfl rfl (fun w hS => run_loadAt rfl rfl (hS.2.1) rfl rfl) <| SW rfl rfl rfl rfl rfl (fun w hS => run_fieldR1 rfl rfl) <| SW rfl rfl rfl rfl rfl (fun w hS => run_loadAt rfl rfl (hS.1) rfl rfl) <| ?_
 simp only [q2,q3]
 refine SW rfl rfl rfl rfl rfl (fun w hS => run_fieldR0 rfl rfl) <| SW rfl rfl rfl rfl rfl (fun w hS => run_loadAt rfl rfl (hS.1) rfl rfl) <| SW rfl rfl rfl rfl rfl (fun w hS => run_fieldR1 rfl rfl) <| SW rfl rfl rfl rfl rfl (fun w hS => run_loadAt rfl rfl (hS.2.1) rfl rfl) <| ?_
 simp only [q2,q3]
 refine SW rfl rfl rfl rfl rfl (fun w hS => run_fieldR1 rfl rfl) <| SW rfl rfl rfl rfl rfl (fun w hS => run_loadAt rfl rfl (hS.2.1) rfl rfl) <| SW rfl rfl rfl rfl rfl (fun w hS => run_fieldR1 rfl rfl) <| SW rfl rfl rfl rfl rfl (fun w hS => run_loadAt rfl rfl (hS.1) rfl rfl) <| ?_
 simp only [q2,q3]
 refine S1a (o := ⟨some 9, _, _, _, _, _⟩) rfl rfl rfl rfl (Oper.wp_callI fn_eref01_Mul rfl (RMul_z _ x.num _ ((y.den : Nat) : Int) _ (e5 E) (E.2.2.1) (Fits.mono Fx.1 (by decide)) (Fits.mono Fy.2 (by decide))) rfl E ?_)
 clear E
 intro w5 n5 s5 d5 E
 replace x3 := x3.below d5
 clear d5
 refine ⟨E.2, ?_⟩
 simp only [Act.put,q1,q2,q3]
 have F4 : Fits (x.num * ((y.den : Nat) : Int)) 200000000 := Fits_mul Fx.1 Fy.2
 refine S1a (o := ⟨some 14, _, _, _, _, _⟩) rfl rfl rfl rfl (Oper.wp_callI fn_eref01_Mul rfl (RMul_z _ y.num _ ((x.den : Nat) : Int) _ (e4 E) (e5 E) (Fits.mono Fy.1 (by decide)) (Fits.mono Fx.2 (by decide))) rfl E ?_)
 clear E
 intro w7 n7 s7 d7 E
 replace x3 := x3.below d7
 clear d7
 refine ⟨E.2.2, ?_⟩
 simp only [Act.put,q1,q2,q3]
 have F6 : Fits (y.num * ((x.den : Nat) : Int)) 200000000 := Fits_mul Fy.1 Fx.2
 refine S1a (o := ⟨some 15, _, _, _, _, _⟩) rfl rfl rfl rfl (Oper.wp_callI fn_eref01_Add rfl (RAdd_z _ (x.num * ((y.den : Nat) : Int)) _ (y.num * ((x.den : Nat) : Int)) _ (E.2.1) (E.1) (Fits.mono F4 (by decide)) (Fits.mono F6 (by decide))) rfl E ?_)
 clear E
 intro w9 n9 s9 d9 E
 replace x3 := x3.below d9
 clear d9
 refine ⟨E.2.2.2, ?_⟩
 simp only [Act.put,q1,q2,q3]
 have F8 : Fits ((x.num * ((y.den : Nat) : Int)) + (y.num * ((x.den : Nat) : Int))) 200000001 := Fits_add F4 F6 (k := 200000000) (by decide) (by decide)
 refine S1a (o := ⟨some 20, _, _, _, _, _⟩) rfl rfl rfl rfl (Oper.wp_callI fn_eref01_Mul rfl (RMul_z _ ((x.den : Nat) : Int) _ ((y.den : Nat) : Int) _ (e7 E) (e5 E) (Fits.mono Fx.2 (by decide)) (Fits.mono Fy.2 (by decide))) rfl E ?_)
 clear E
 intro w11 n11 s11 d11 E
 replace x3 := x3.below d11
 clear d11
 refine ⟨E.2.2.2.2, ?_⟩
 simp only [Act.put,q1,q2,q3]
 have F10 : Fits (((x.den : Nat) : Int) * ((y.den : Nat) : Int)) 200000000 := Fits_mul Fx.2 Fy.2
 refine S1a (o := ⟨some 21, _, _, _, _, _⟩) rfl rfl rfl rfl (Oper.wp_callP fn_eref02_lowest rfl (Rlowest_z _ ((x.num * ((y.den : Nat) : Int)) + (y.num * ((x.den : Nat) : Int))) _ (((x.den : Nat) : Int) * ((y.den : Nat) : Int)) _ (E.2.1) (E.1) (Int.mul_ne_zero (den_ne x) (den_ne y)) (Fits.mono F8 (by decide)) (Fits.mono F10 (by decide))) rfl E ?_)
 clear E
 intro w13 n13 s13 m13 t13 d13 E
 replace x3 := x3.below d13
 clear d13
 refine ⟨E.2.2.2.2.2.2, ?_⟩
 simp only [Act.put,q1,q2,q3]
 have F12 : FitQ (Rat.divInt ((x.num * ((y.den : Nat) : Int)) + (y.num * ((x.den : Nat) : Int))) (((x.den : Nat) : Int) * ((y.den : Nat) : Int))) 200000001 := FitQ_low (k := 200000001) (Int.mul_ne_zero (den_ne x) (den_ne y)) (Fits.mono F8 (by decide)) (Fits.mono F10 (by decide))
 refine S1a (o := ⟨none, _, _, _, _, _⟩) rfl rfl rfl rfl (Oper.wp_store AgR rfl rfl rfl x3 rfl rfl (one4 (IsI.one (E.2.1)) (IsI.one (E.1))) ?_)
 intro w14 o14 y14
 replace E := (E.onl (x3.noW (now4 now0 now0)) ⟨trivial, trivial, trivial, trivial, trivial, trivial, okX (by omega), okX (by omega), trivial, trivial, trivial, trivial, okW (by omega), trivial⟩ o14).x y14
 clear x3 o14 y14
 refine ⟨E.2.2.2.2.2.2.2, ?_⟩
 simp only [Act.put]
 refine SN ?_
 change Code.wp _ _ _ _ _
 refine wp_ret ?_
 have r15 := res_box AgR (E.1) rfl
 exact bodyPost_ret (v := .agg #[.bool n13, s13, .bool m13, t13]) (by simp [results, Tryz.results8, asAddr, r15]) rfl ⟨_, _, _, _, rfl, eqZ (congrArg Rat.num (addQ x y)) (E.2.2.1), eqZ (congrArg (fun z => ((Rat.den z : Nat) : Int)) (addQ x y)) (E.2.1), e13 E⟩
set_option maxRecDepth 100000 in
set_option maxHeartbeats 8000000 in
theorem RNeg_q  (na : Bool) (sa : Value) (ma : Bool) (ta : Value) (x : Rat)  (w : World)  (hna : IsI w (.agg #[.bool na, sa]) x.num) (hda : IsI w (.agg #[.bool ma, ta]) ((x.den : Nat) : Int)) (Fx : FitQ x 100000000) :
    Calls Tryz.prog 14 #[.agg #[.bool na, sa, .bool ma, ta]] w (RetP w (-x).num (((-x).den : Nat) : Int)) := by
 have E := Env.start w
 replace E := (E.i hna).i hda
 clear hna hda
 go_enter Tryz.func14, Tryz.ntmps14
 refine wp_seq ?_
 -- region 0
 refine RL ?_
 refine EF rfl (Oper.wp_box (cs := [.bool na, sa, .bool ma, ta]) rfl rfl ?_)
 intro b1 w1 e1 z1 d1 x1
 have l1 : w.heap.size ≤ b1 := by rw [e1]; exact (E.2.2.1).size
 replace E := E.below d1
 clear e1 z1 d1
 replace E := E.x x1
 clear x1
 refine kw rfl ?_
 simp only [q2,q3]
 refine EF rfl (Oper.wp_alloc AgR rfl ?_)
 intro b2 w2 e2 z2 d2 x2
 have l2_0 : b1 < b2 := by rw [e2]; exact Bx.lt (E.1)
 replace E := E.below d2
 clear e2 z2 d2
 refine kw rfl ?_
 simp only [q2,q3]
 refine WN ?_
 change Code.wp _ _ _ _ _
 refine wp_seq ?_
 -- region 1
 refine wp_schedE E ([0, 1, 3, 4, 2, 5, 6]) (by kernel_rfl) (by kernel_rfl) (by kernel_rfl) (by kernel_rfl) (by intro d v c a w h; cases d <;> exact h) ?_
 replace E := E.drew
 replace x2 := Bx.drew x2
 refine SW rfl rfl rfl rfl rfl (fun w hS => run_fieldR0 rfl rfl) <| SW rfl rfl rfl rfl rfl (fun w hS => run_loadAt rfl rfl (hS.1) rfl rfl) <| SW rfl rfl rfl rfl rfl (fun w hS => run_fieldR1 rfl rfl) <| SW rfl rfl rfl rfl rfl (fun w hS => run_loadAt rfl rfl (hS.1) rfl rfl) <| ?_
 simp only [q2,q3]
 refine S1a (o := ⟨some 5, _, _, _, _, _⟩) rfl rfl rfl rfl (Oper.wp_callI fn_eref01_Neg rfl (RNeg_z _ x.num _ (E.2.2.1)) rfl E ?_)
 clear E
 intro w4 n4 s4 d4 E
 replace x2 := x2.below d4
 clear d4
 refine ⟨E.2, ?_⟩
 simp only [Act.put,q1,q2,q3]
 have F3 : Fits (-x.num) 100000000 := Fits_neg Fx.1
 refine SW (v := .agg #[.bool n4, s4, .bool ma, ta]) rfl rfl rfl rfl rfl (fun w hS => run_buildR rfl rfl rfl) <| ?_
 simp only [q2,q3]
 refine S1a (o := ⟨none, _, _, _, _, _⟩) rfl rfl rfl rfl (Oper.wp_store AgR rfl rfl rfl x2 rfl rfl (one4 (IsI.one (E.1)) (IsI.one (E.2.2.1))) ?_)
 intro w5 o5 y5
 replace E := (E.onl (x2.noW (now4 now0 now0)) ⟨trivial, okX (by omega), trivial, trivial, okW (by omega), trivial⟩ o5).x y5
 clear x2 o5 y5
 refine ⟨E.2.2, ?_⟩
 simp only [Act.put]
 refine SN ?_
 change Code.wp _ _ _ _ _
 refine wp_ret ?_
 have r6 := res_box AgR (E.1) rfl
 exact bodyPost_ret (v := .agg #[.bool n4, s4, .bool ma, ta]) (by simp [results, Tryz.results14, asAddr, r6]) rfl ⟨_, _, _, _, rfl, eqZ rfl (E.2.1), eqZ rfl (e3 E), e5 E⟩
set_option maxRecDepth 100000 in
set_option maxHeartbeats 8000000 in
theorem RSub_q  (na : Bool) (sa : Value) (ma : Bool) (ta : Value) (x : Rat) (nb : Bool) (sb : Value) (mb : Bool) (tb : Value) (y : Rat)  (w : World)  (hna : IsI w (.agg #[.bool na, sa]) x.num) (hda : IsI w (.agg #[.bool ma, ta]) ((x.den : Nat) : Int)) (hnb : IsI w (.agg #[.bool nb, sb]) y.num) (hdb : IsI w (.agg #[.bool mb, tb]) ((y.den : Nat) : Int)) (Fx : FitQ x 40000000) (Fy : FitQ y 40000000) :
    Calls Tryz.prog 10 #[.agg #[.bool na, sa, .bool ma, ta], .agg #[.bool nb, sb, .bool mb, tb]] w (RetP w (x - y).num (((x - y).den : Nat) : Int)) := by
 have E := Env.start w
 replace E := (E.i hna).i hda
 clear hna hda
 replace E := (E.i hnb).i hdb
 clear hnb hdb
 go_enter Tryz.func10, Tryz.ntmps10
 refine wp_seq ?_
 -- region 0
 refine RL ?_
 refine EF rfl (Oper.wp_box (cs := [.bool na, sa, .bool ma, ta]) rfl rfl ?_)
 intro b1 w1 e1 z1 d1 x1
 have l1 : w.heap.size ≤ b1 := by rw [e1]; exact (e4 E).size
 replace E := E.below d1
 clear e1 z1 d1
 replace E := E.x x1
 clear x1
 refine kw rfl ?_
 simp only [q2,q3]
 refine EF rfl (Oper.wp_box (cs := [.bool nb, sb, .bool mb, tb]) rfl rfl ?_)
 intro b2 w2 e2 z2 d2 x2
 have l2_0 : b1 < b2 := by rw [e2]; exact Bx.lt (E.1)
 replace E := E.below d2
 clear e2 z2 d2
 replace E := E.x x2
 clear x2
 refine kw rfl ?_
 simp only [q2,q3]
 refine EF rfl (Oper.wp_alloc AgR rfl ?_)
 intro b3 w3 e3 z3 d3 x3
 have l3_0 : b2 < b3 := by rw [e3]; exact Bx.lt (E.1)
 replace E := E.below d3
 clear e3 z3 d3
 refine kw rfl ?_
 simp only [q2,q3]
 refine WN ?_
 change Code.wp _ _ _ _ _
 refine wp_seq ?_
 -- region 1
 refine wp_schedE E ([0, 1, 2, 3, 4]) (by kernel_rfl) (by kernel_rfl) (by kernel_rfl) (by kernel_rfl) (by intro d v c a w h; cases d <;> exact h) ?_
 replace E := E.drew
 replace x3 := Bx.drew x3
 refine SW rfl rfl rfl rfl rfl (fun w hS => run_load_bx AgR rfl rfl (hS.2.1) rfl) <| SW rfl rfl rfl rfl rfl (fun w hS => run_load_bx AgR rfl rfl (hS.1) rfl) <| ?_
 simp only [q2,q3]
 refine S1a (o := ⟨some 7, _, _, _, _, _⟩) rfl rfl rfl rfl (Oper.wp_callP fn_eref02_Neg rfl (RNeg_q _ _ _ _ y _ (e3 E) (E.2.2.1) (FitQ.mono Fy (by decide))) rfl E ?_)
 clear E
 intro w5 n5 s5 m5 t5 d5 E
 replace x3 := x3.below d5
 clear d5
 refine ⟨E.2.2, ?_⟩
 simp only [Act.put,q1,q2,q3]
 have F4 : FitQ (-y) 40000000 := FitQ_neg Fy
 refine S1a (o := ⟨some 8, _, _, _, _, _⟩) rfl rfl rfl rfl (Oper.wp_callP fn_eref02_Add rfl (RAdd_q _ _ _ _ x _ _ _ _ (-y) _ (e7 E) (e6 E) (E.2.1) (E.1) (FitQ.mono Fx (by decide)) (FitQ.mono F4 (by decide))) rfl E ?_)
 clear E
 intro w7 n7 s7 m7 t7 d7 E
 replace x3 := x3.below d7
 clear d7
 refine ⟨E.2.2.2.2, ?_⟩
 simp only [Act.put,q1,q2,q3]
 have F6 : FitQ (x + (-y)) 80000001 := FitQ_add Fx F4
 refine S1a (o := ⟨none, _, _, _, _, _⟩) rfl rfl rfl rfl (Oper.wp_store AgR rfl rfl rfl x3 rfl rfl (one4 (IsI.one (E.2.1)) (IsI.one (E.1))) ?_)
 intro w8 o8 y8
 replace E := (E.onl (x3.noW (now4 now0 now0)) ⟨trivial, trivial, trivial, trivial, okX (by omega), okX (by omega), trivial, trivial, trivial, trivial, okW (by omega), trivial⟩ o8).x y8
 clear x3 o8 y8
 refine ⟨E.2.2.2.2.2, ?_⟩
 simp only [Act.put]
 refine SN ?_
 change Code.wp _ _ _ _ _
 refine wp_ret ?_
 have r9 := res_box AgR (E.1) rfl
 exact bodyPost_ret (v := .agg #[.bool n7, s7, .bool m7, t7]) (by simp [results, Tryz.results10, asAddr, r9]) rfl ⟨_, _, _, _, rfl, eqZ (congrArg Rat.num (subQ x y)) (E.2.2.1), eqZ (congrArg (fun z => ((Rat.den z : Nat) : Int)) (subQ x y)) (E.2.1), e11 E⟩
set_option maxRecDepth 100000 in
set_option maxHeartbeats 8000000 in
theorem RMul_q  (na : Bool) (sa : Value) (ma : Bool) (ta : Value) (x : Rat) (nb : Bool) (sb : Value) (mb : Bool) (tb : Value) (y : Rat)  (w : World)  (hna : IsI w (.agg #[.bool na, sa]) x.num) (hda : IsI w (.agg #[.bool ma, ta]) ((x.den : Nat) : Int)) (hnb : IsI w (.agg #[.bool nb, sb]) y.num) (hdb : IsI w (.agg #[.bool mb, tb]) ((y.den : Nat) : Int)) (Fx : FitQ x 100000000) (Fy : FitQ y 100000000) :
    Calls Tryz.prog 12 #[.agg #[.bool na, sa, .bool ma, ta], .agg #[.bool nb, sb, .bool mb, tb]] w (RetP w (x * y).num (((x * y).den : Nat) : Int)) := by
 have E := Env.start w
 replace E := (E.i hna).i hda
 clear hna hda
 replace E := (E.i hnb).i hdb
 clear hnb hdb
 go_enter Tryz.func12, Tryz.ntmps12
 refine wp_seq ?_
 -- region 0
 refine RL ?_
 refine EF rfl (Oper.wp_box (cs := [.bool na, sa, .bool ma, ta]) rfl rfl ?_)
 intro b1 w1 e1 z1 d1 x1
 have l1 : w.heap.size ≤ b1 := by rw [e1]; exact (e4 E).size
 replace E := E.below d1
 clear e1 z1 d1
 replace E := E.x x1
 clear x1
 refine kw rfl ?_
 simp only [q2,q3]
 refine EF rfl (Oper.wp_box (cs := [.bool nb, sb, .bool mb, tb]) rfl rfl ?_)
 intro b2 w2 e2 z2 d2 x2
 have l2_0 : b1 < b2 := by rw [e2]; exact Bx.lt (E.1)
 replace E := E.below d2
 clear e2 z2 d2
 replace E := E.x x2
 clear x2
 refine kw rfl ?_
 simp only [q2,q3]
 refine EF rfl (Oper.wp_alloc AgR rfl ?_)
 intro b3 w3 e3 z3 d3 x3
 have l3_0 : b2 < b3 := by rw [e3]; exact Bx.lt (E.1)
 replace E := E.below d3
 clear e3 z3 d3
 refine kw rfl ?_
 simp only [q2,q3]
 refine WN ?_
 change Code.wp _ _ _ _ _
 refine wp_seq ?_
 -- region 1
 refine wp_schedE E ([0, 1, 2, 3, 5, 6, 7, 8, 4, 9, 10, 11]) (by kernel_rfl) (by kernel_rfl) (by kernel_rfl) (by kernel_rfl) (by intro d v c a w h; cases d <;> exact h) ?_
 replace E := E.drew
 replace x3 := Bx.drew x3
 refine SW rfl rfl rfl rfl rfl (fun w hS => run_fieldR0 rfl rfl) <| SW rfl rfl rfl rfl rfl (fun w hS => run_loadAt rfl rfl (hS.2.1) rfl rfl) <| SW rfl rfl rfl rfl rfl (fun w hS => run_fieldR0 rfl rfl) <| SW rfl rfl rfl rfl rfl (fun w hS => run_loadAt rfl rfl (hS.1) rfl rfl) <| ?_
 simp only [q2,q3]
 refine SW rfl rfl rfl rfl rfl (fun w hS => run_fieldR1 rfl rfl) <| SW rfl rfl rfl rfl rfl (fun w hS => run_loadAt rfl rfl (hS.2.1) rfl rfl) <| SW rfl rfl rfl rfl rfl (fun w hS => run_fieldR1 rfl rfl) <| SW rfl rfl rfl rfl rfl (fun w hS => run_loadAt rfl rfl (hS.1) rfl rfl) <| ?_
 simp only [q2,q3]
 refine S1a (o := ⟨some 9, _, _, _, _, _⟩) rfl rfl rfl rfl (Oper.wp_callI fn_eref01_Mul rfl (RMul_z _ x.num _ y.num _ (e5 E) (e3 E) (Fits.mono Fx.1 (by decide)) (Fits.mono Fy.1 (by decide))) rfl E ?_)
 clear E
 intro w5 n5 s5 d5 E
 replace x3 := x3.below d5
 clear d5
 refine ⟨E.2, ?_⟩
 simp only [Act.put,q1,q2,q3]
 have F4 : Fits (x.num * y.num) 200000000 := Fits_mul Fx.1 Fy.1
 refine S1a (o := ⟨some 14, _, _, _, _, _⟩) rfl rfl rfl rfl (Oper.wp_callI fn_eref01_Mul rfl (RMul_z _ ((x.den : Nat) : Int) _ ((y.den : Nat) : Int) _ (e5 E) (e3 E) (Fits.mono Fx.2 (by decide)) (Fits.mono Fy.2 (by decide))) rfl E ?_)
 clear E
 intro w7 n7 s7 d7 E
 replace x3 := x3.below d7
 clear d7
 refine ⟨E.2.2, ?_⟩
 simp only [Act.put,q1,q2,q3]
 have F6 : Fits (((x.den : Nat) : Int) * ((y.den : Nat) : Int)) 200000000 := Fits_mul Fx.2 Fy.2
 refine S1a (o := ⟨some 15, _, _, _, _, _⟩) rfl rfl rfl rfl (Oper.wp_callP fn_eref02_lowest rfl (Rlowest_z _ (x.num * y.num) _ (((x.den : Nat) : Int) * ((y.den : Nat) : Int)) _ (E.2.1) (E.1) (Int.mul_ne_zero (den_ne x) (den_ne y)) (Fits.mono F4 (by decide)) (Fits.mono F6 (by decide))) rfl E ?_)
 clear E
 intro w9 n9 s9 m9 t9 d9 E
 replace x3 := x3.below d9
 clear d9
 refine ⟨E.2.2.2.2, ?_⟩
 simp only [Act.put,q1,q2,q3]
 have F8 : FitQ (Rat.divInt (x.num * y.num) (((x.den : Nat) : Int) * ((y.den : Nat) : Int))) 200000000 := FitQ_low (k := 200000000) (Int.mul_ne_zero (den_ne x) (den_ne y)) (Fits.mono F4 (by decide)) (Fits.mono F6 (by decide))
 refine S1a (o := ⟨none, _, _, _, _, _⟩) rfl rfl rfl rfl (Oper.wp_store AgR rfl rfl rfl x3 rfl rfl (one4 (IsI.one (E.2.1)) (IsI.one (E.1))) ?_)
 intro w10 o10 y10
 replace E := (E.onl (x3.noW (now4 now0 now0)) ⟨trivial, trivial, trivial, trivial, okX (by omega), okX (by omega), trivial, trivial, trivial, trivial, okW (by omega), trivial⟩ o10).x y10
 clear x3 o10 y10
 refine ⟨E.2.2.2.2.2, ?_⟩
 simp only [Act.put]
 refine SN ?_
 change Code.wp _ _ _ _ _
 refine wp_ret ?_
 have r11 := res_box AgR (E.1) rfl
 exact bodyPost_ret (v := .agg #[.bool n9, s9, .bool m9, t9]) (by simp [results, Tryz.results12, asAddr, r11]) rfl ⟨_, _, _, _, rfl, eqZ (congrArg Rat.num (mulQ x y)) (E.2.2.1), eqZ (congrArg (fun z => ((Rat.den z : Nat) : Int)) (mulQ x y)) (E.2.1), e11 E⟩
set_option maxRecDepth 100000 in
set_option maxHeartbeats 8000000 in
theorem RInv_zero  (na : Bool) (sa : Value) (ma : Bool) (ta : Value) (x : Rat)  (w : World)  (hna : IsI w (.agg #[.bool na, sa]) x.num) (hda : IsI w (.agg #[.bool ma, ta]) ((x.den : Nat) : Int)) (hx : x.num = 0) :
    Calls Tryz.prog 18 #[.agg #[.bool na, sa, .bool ma, ta]] w (RetPE w 0 0 10) := by
 have E := Env.start w
 replace E := (E.i hna).i hda
 clear hna hda
 go_enter Tryz.func18, Tryz.ntmps18
 refine wp_seq ?_
 -- region 0
 refine RL ?_
 refine EF rfl (Oper.wp_box (cs := [.bool na, sa, .bool ma, ta]) rfl rfl ?_)
 intro b1 w1 e1 z1 d1 x1
 have l1 : w.heap.size ≤ b1 := by rw [e1]; exact (E.2.2.1).size
 replace E := E.below d1
 clear e1 z1 d1
 replace E := E.x x1
 clear x1
 refine kw rfl ?_
 simp only [q2,q3]
 refine EF rfl (Oper.wp_alloc AgR rfl ?_)
 intro b2 w2 e2 z2 d2 x2
 have l2_0 : b1 < b2 := by rw [e2]; exact Bx.lt (E.1)
 replace E := E.below d2
 clear e2 z2 d2
 refine kw rfl ?_
 refine AC rfl rfl rfl rfl <| ?_
 simp only [q2,q3]
 refine WN ?_
 change Code.wp _ _ _ _ _
 refine wp_seq ?_
 -- region 1
 refine RL ?_
 refine V rfl rfl (run_fieldR1 rfl rfl) <| V rfl rfl (run_loadAt rfl rfl (E.1) rfl rfl) <| V rfl rfl (run_fieldR0 rfl rfl) <| V rfl rfl (run_loadAt rfl rfl (E.1) rfl rfl) <| ?_
 simp only [q2,q3]
 refine EF rfl (Oper.wp_callPE fn_eref02_New rfl (RNew_zero _ ((x.den : Nat) : Int) _ x.num _ (E.2.1) (E.2.2.1) hx) rfl E ?_)
 clear E
 intro w3 n3 s3 m3 t3 d3 E
 replace x2 := x2.below d3
 clear d3
 refine kw rfl ?_
 refine V rfl rfl (run_extract (vs := [.agg #[.bool n3, s3, .bool m3, t3], .int .i64 10]) rfl rfl rfl) <| V rfl rfl (run_extract (vs := [.agg #[.bool n3, s3, .bool m3, t3], .int .i64 10]) rfl rfl rfl) <| ?_
 simp only [q2,q3]
 refine EF rfl (Oper.wp_store AgR rfl rfl rfl x2 rfl rfl (one4 (IsI.one (E.2.1)) (IsI.one (E.1))) ?_)
 intro w4 o4 y4
 replace E := (E.onl (x2.noW (now4 now0 now0)) ⟨trivial, trivial, okX (by omega), trivial, trivial, okW (by omega), trivial⟩ o4).x y4
 clear x2 o4 y4
 refine kn rfl ?_
 refine A rfl rfl rfl rfl rfl <| ?_
 simp only [q2,q3]
 refine WN ?_
 change Code.wp _ _ _ _ _
 refine wp_ret ?_
 have r5 := res_box AgR (E.1) rfl
 exact bodyPost_ret (v := .tuple #[.agg #[.bool n3, s3, .bool m3, t3], .int .i64 10]) (by simp [results, Tryz.results18, asAddr, r5]) rfl ⟨_, _, _, _, rfl, eqZ rfl (E.2.2.1), eqZ rfl (E.2.1), e6 E⟩
set_option maxRecDepth 100000 in
set_option maxHeartbeats 8000000 in
theorem RInv_q  (na : Bool) (sa : Value) (ma : Bool) (ta : Value) (x : Rat)  (w : World)  (hna : IsI w (.agg #[.bool na, sa]) x.num) (hda : IsI w (.agg #[.bool ma, ta]) ((x.den : Nat) : Int)) (hx : x ≠ 0) (Fx : FitQ x 100000000) :
    Calls Tryz.prog 18 #[.agg #[.bool na, sa, .bool ma, ta]] w (RetPE w (x⁻¹).num (((x⁻¹).den : Nat) : Int) 0) := by
 have E := Env.start w
 replace E := (E.i hna).i hda
 clear hna hda
 go_enter Tryz.func18, Tryz.ntmps18
 refine wp_seq ?_
 -- region 0
 refine RL ?_
 refine EF rfl (Oper.wp_box (cs := [.bool na, sa, .bool ma, ta]) rfl rfl ?_)
 intro b1 w1 e1 z1 d1 x1
 have l1 : w.heap.size ≤ b1 := by rw [e1]; exact (E.2.2.1).size
 replace E := E.below d1
 clear e1 z1 d1
 replace E := E.x x1
 clear x1
 refine kw rfl ?_
 simp only [q2,q3]
 refine EF rfl (Oper.wp_alloc AgR rfl ?_)
 intro b2 w2 e2 z2 d2 x2
 have l2_0 : b1 < b2 := by rw [e2]; exact Bx.lt (E.1)
 replace E := E.below d2
 clear e2 z2 d2
 refine kw rfl ?_
 refine AC rfl rfl rfl rfl <| ?_
 simp only [q2,q3]
 refine WN ?_
 change Code.wp _ _ _ _ _
 refine wp_seq ?_
 -- region 1
 refine RL ?_
 refine V rfl rfl (run_fieldR1 rfl rfl) <| V rfl rfl (run_loadAt rfl rfl (E.1) rfl rfl) <| V rfl rfl (run_fieldR0 rfl rfl) <| V rfl rfl (run_loadAt rfl rfl (E.1) rfl rfl) <| ?_
 simp only [q2,q3]
 refine EF rfl (Oper.wp_callPE fn_eref02_New rfl (RNew_z _ ((x.den : Nat) : Int) _ x.num _ (E.2.1) (E.2.2.1) (num_ne hx) (Fits.mono Fx.2 (by decide)) (Fits.mono Fx.1 (by decide))) rfl E ?_)
 clear E
 intro w4 n4 s4 m4 t4 d4 E
 replace x2 := x2.below d4
 clear d4
 refine kw rfl ?_
 have F3 : FitQ (Rat.divInt ((x.den : Nat) : Int) x.num) 100000000 := FitQ_low (k := 100000000) (num_ne hx) (Fits.mono Fx.2 (by decide)) (Fits.mono Fx.1 (by decide))
 refine V rfl rfl (run_extract (vs := [.agg #[.bool n4, s4, .bool m4, t4], .int .i64 0]) rfl rfl rfl) <| V rfl rfl (run_extract (vs := [.agg #[.bool n4, s4, .bool m4, t4], .int .i64 0]) rfl rfl rfl) <| ?_
 simp only [q2,q3]
 refine EF rfl (Oper.wp_store AgR rfl rfl rfl x2 rfl rfl (one4 (IsI.one (E.2.1)) (IsI.one (E.1))) ?_)
 intro w5 o5 y5
 replace E := (E.onl (x2.noW (now4 now0 now0)) ⟨trivial, trivial, okX (by omega), trivial, trivial, okW (by omega), trivial⟩ o5).x y5
 clear x2 o5 y5
 refine kn rfl ?_
 refine A rfl rfl rfl rfl rfl <| ?_
 simp only [q2,q3]
 refine WN ?_
 change Code.wp _ _ _ _ _
 refine wp_ret ?_
 have r6 := res_box AgR (E.1) rfl
 exact bodyPost_ret (v := .tuple #[.agg #[.bool n4, s4, .bool m4, t4], .int .i64 0]) (by simp [results, Tryz.results18, asAddr, r6]) rfl ⟨_, _, _, _, rfl, eqZ (congrArg Rat.num (invQ_div x)) (E.2.2.1), eqZ (congrArg (fun z => ((Rat.den z : Nat) : Int)) (invQ_div x)) (E.2.1), e6 E⟩
set_option maxRecDepth 100000 in
set_option maxHeartbeats 8000000 in
theorem RDiv_zero  (na : Bool) (sa : Value) (ma : Bool) (ta : Value) (x : Rat) (nb : Bool) (sb : Value) (mb : Bool) (tb : Value) (y : Rat)  (w : World)  (hna : IsI w (.agg #[.bool na, sa]) x.num) (hda : IsI w (.agg #[.bool ma, ta]) ((x.den : Nat) : Int)) (hnb : IsI w (.agg #[.bool nb, sb]) y.num) (hdb : IsI w (.agg #[.bool mb, tb]) ((y.den : Nat) : Int)) (hy : y.num = 0) (Fx : FitQ x 100000000) (Fy : FitQ y 100000000) :
    Calls Tryz.prog 20 #[.agg #[.bool na, sa, .bool ma, ta], .agg #[.bool nb, sb, .bool mb, tb]] w (RetPE w 0 0 10) := by
 have E := Env.start w
 replace E := (E.i hna).i hda
 clear hna hda
 replace E := (E.i hnb).i hdb
 clear hnb hdb
 go_enter Tryz.func20, Tryz.ntmps20
 refine wp_seq ?_
 -- region 0
 refine RL ?_
 refine EF rfl (Oper.wp_box (cs := [.bool na, sa, .bool ma, ta]) rfl rfl ?_)
 intro b1 w1 e1 z1 d1 x1
 have l1 : w.heap.size ≤ b1 := by rw [e1]; exact (e4 E).size
 replace E := E.below d1
 clear e1 z1 d1
 replace E := E.x x1
 clear x1
 refine kw rfl ?_
 simp only [q2,q3]
 refine EF rfl (Oper.wp_box (cs := [.bool nb, sb, .bool mb, tb]) rfl rfl ?_)
 intro b2 w2 e2 z2 d2 x2
 have l2_0 : b1 < b2 := by rw [e2]; exact Bx.lt (E.1)
 replace E := E.below d2
 clear e2 z2 d2
 replace E := E.x x2
 clear x2
 refine kw rfl ?_
 simp only [q2,q3]
 refine EF rfl (Oper.wp_alloc AgR rfl ?_)
 intro b3 w3 e3 z3 d3 x3
 have l3_0 : b2 < b3 := by rw [e3]; exact Bx.lt (E.1)
 replace E := E.below d3
 clear e3 z3 d3
 refine kw rfl ?_
 refine AC rfl rfl rfl rfl <| ?_
 simp only [q2,q3]
 refine WN ?_
 change Code.wp _ _ _ _ _
 refine wp_seq ?_
 -- region 1
 refine wp_schedE E ([0, 1, 2, 3, 5, 6, 7, 8, 4, 9, 10, 11, 12, 13, 14]) (by kernel_rfl) (by kernel_rfl) (by kernel_rfl) (by kernel_rfl) (by intro d v c a w h; cases d <;> exact h) ?_
 replace E := E.drew
 replace x3 := Bx.drew x3
 refine SW rfl rfl rfl rfl rfl (fun w hS => run_fieldR0 rfl rfl) <| SW rfl rfl rfl rfl rfl (fun w hS => run_loadAt rfl rfl (hS.2.1) rfl rfl) <| SW rfl rfl rfl rfl rfl (fun w hS => run_fieldR1 rfl rfl) <| SW rfl rfl rfl rfl rfl (fun w hS => run_loadAt rfl rfl (hS.1) rfl rfl) <| ?_
 simp only [q2,q3]
 refine SW rfl rfl rfl rfl rfl (fun w hS => run_fieldR1 rfl rfl) <| SW rfl rfl rfl rfl rfl (fun w hS => run_loadAt rfl rfl (hS.2.1) rfl rfl) <| SW rfl rfl rfl rfl rfl (fun w hS => run_fieldR0 rfl rfl) <| SW rfl rfl rfl rfl rfl (fun w hS => run_loadAt rfl rfl (hS.1) rfl rfl) <| ?_
 simp only [q2,q3]
 refine S1a (o := ⟨some 10, _, _, _, _, _⟩) rfl rfl rfl rfl (Oper.wp_callI fn_eref01_Mul rfl (RMul_z _ x.num _ ((y.den : Nat) : Int) _ (e5 E) (E.2.2.1) (Fits.mono Fx.1 (by decide)) (Fits.mono Fy.2 (by decide))) rfl E ?_)
 clear E
 intro w5 n5 s5 d5 E
 replace x3 := x3.below d5
 clear d5
 refine ⟨E.2, ?_⟩
 simp only [Act.put,q1,q2,q3]
 have F4 : Fits (x.num * ((y.den : Nat) : Int)) 200000000 := Fits_mul Fx.1 Fy.2
 refine S1a (o := ⟨some 15, _, _, _, _, _⟩) rfl rfl rfl rfl (Oper.wp_callI fn_eref01_Mul rfl (RMul_z _ ((x.den : Nat) : Int) _ y.num _ (e5 E) (e4 E) (Fits.mono Fx.2 (by decide)) (Fits.mono Fy.1 (by decide))) rfl E ?_)
 clear E
 intro w7 n7 s7 d7 E
 replace x3 := x3.below d7
 clear d7
 refine ⟨E.2.2, ?_⟩
 simp only [Act.put,q1,q2,q3]
 have F6 : Fits (((x.den : Nat) : Int) * y.num) 200000000 := Fits_mul Fx.2 Fy.1
 refine S1a (o := ⟨some 16, _, _, _, _, _⟩) rfl rfl rfl rfl (Oper.wp_callPE fn_eref02_New rfl (RNew_zero _ (x.num * ((y.den : Nat) : Int)) _ (((x.den : Nat) : Int) * y.num) _ (E.2.1) (E.1) (by rw [hy, Int.mul_zero])) rfl E ?_)
 clear E
 intro w8 n8 s8 m8 t8 d8 E
 replace x3 := x3.below d8
 clear d8
 refine ⟨E.2.2.2.2, ?_⟩
 simp only [Act.put,q1,q2,q3]
 refine SW rfl rfl rfl rfl rfl (fun w hS => run_extract (vs := [.agg #[.bool n8, s8, .bool m8, t8], .int .i64 10]) rfl rfl rfl) <| SW rfl rfl rfl rfl rfl (fun w hS => run_extract (vs := [.agg #[.bool n8, s8, .bool m8, t8], .int .i64 10]) rfl rfl rfl) <| ?_
 simp only [q2,q3]
 refine S1a (o := ⟨none, _, _, _, _, _⟩) rfl rfl rfl rfl (Oper.wp_store AgR rfl rfl rfl x3 rfl rfl (one4 (IsI.one (E.2.1)) (IsI.one (E.1))) ?_)
 intro w9 o9 y9
 replace E := (E.onl (x3.noW (now4 now0 now0)) ⟨trivial, trivial, trivial, trivial, okX (by omega), okX (by omega), trivial, trivial, trivial, trivial, okW (by omega), trivial⟩ o9).x y9
 clear x3 o9 y9
 refine ⟨E.2.2.2.2.2, ?_⟩
 simp only [Act.put]
 refine SA rfl rfl rfl rfl rfl rfl rfl rfl <| ?_
 simp only [q2,q3]
 refine SN ?_
 change Code.wp _ _ _ _ _
 refine wp_ret ?_
 have r10 := res_box AgR (E.1) rfl
 exact bodyPost_ret (v := .tuple #[.agg #[.bool n8, s8, .bool m8, t8], .int .i64 10]) (by simp [results, Tryz.results20, asAddr, r10]) rfl ⟨_, _, _, _, rfl, eqZ rfl (E.2.2.1), eqZ rfl (E.2.1), e11 E⟩
set_option maxRecDepth 100000 in
set_option maxHeartbeats 8000000 in
theorem RDiv_q  (na : Bool) (sa : Value) (ma : Bool) (ta : Value) (x : Rat) (nb : Bool) (sb : Value) (mb : Bool) (tb : Value) (y : Rat)  (w : World)  (hna : IsI w (.agg #[.bool na, sa]) x.num) (hda : IsI w (.agg #[.bool ma, ta]) ((x.den : Nat) : Int)) (hnb : IsI w (.agg #[.bool nb, sb]) y.num) (hdb : IsI w (.agg #[.bool mb, tb]) ((y.den : Nat) : Int)) (hy : y ≠ 0) (Fx : FitQ x 100000000) (Fy : FitQ y 100000000) :
    Calls Tryz.prog 20 #[.agg #[.bool na, sa, .bool ma, ta], .agg #[.bool nb, sb, .bool mb, tb]] w (RetPE w (x / y).num (((x / y).den : Nat) : Int) 0) := by
 have E := Env.start w
 replace E := (E.i hna).i hda
 clear hna hda
 replace E := (E.i hnb).i hdb
 clear hnb hdb
 go_enter Tryz.func20, Tryz.ntmps20
 refine wp_seq ?_
 -- region 0
 refine RL ?_
 refine EF rfl (Oper.wp_box (cs := [.bool na, sa, .bool ma, ta]) rfl rfl ?_)
 intro b1 w1 e1 z1 d1 x1
 have l1 : w.heap.size ≤ b1 := by rw [e1]; exact (e4 E).size
 replace E := E.below d1
 clear e1 z1 d1
 replace E := E.x x1
 clear x1
 refine kw rfl ?_
 simp only [q2,q3]
 refine EF rfl (Oper.wp_box (cs := [.bool nb, sb, .bool mb, tb]) rfl rfl ?_)
 intro b2 w2 e2 z2 d2 x2
 have l2_0 : b1 < b2 := by rw [e2]; exact Bx.lt (E.1)
 replace E := E.below d2
 clear e2 z2 d2
 replace E := E.x x2
 clear x2
 refine kw rfl ?_
 simp only [q2,q3]
 refine EF rfl (Oper.wp_alloc AgR rfl ?_)
 intro b3 w3 e3 z3 d3 x3
 have l3_0 : b2 < b3 := by rw [e3]; exact Bx.lt (E.1)
 replace E := E.below d3
 clear e3 z3 d3
 refine kw rfl ?_
 refine AC rfl rfl rfl rfl <| ?_
 simp only [q2,q3]
 refine WN ?_
 change Code.wp _ _ _ _ _
 refine wp_seq ?_
 -- region 1
 refine wp_schedE E ([0, 1, 2, 3, 5, 6, 7, 8, 4, 9, 10, 11, 12, 13, 14]) (by kernel_rfl) (by kernel_rfl) (by kernel_rfl) (by kernel_rfl) (by intro d v c a w h; cases d <;> exact h) ?_
 replace E := E.drew
 replace x3 := Bx.drew x3
 refine SW rfl rfl rfl rfl rfl (fun w hS => run_fieldR0 rfl rfl) <| SW rfl rfl rfl rfl rfl (fun w hS => run_loadAt rfl rfl (hS.2.1) rfl rfl) <| SW rfl rfl rfl rfl rfl (fun w hS => run_fieldR1 rfl rfl) <| SW rfl rfl rfl rfl rfl (fun w hS => run_loadAt rfl rfl (hS.1) rfl rfl) <| ?_
 simp only [q2,q3]
 refine SW rfl rfl rfl rfl rfl (fun w hS => run_fieldR1 rfl rfl) <| SW rfl rfl rfl rfl rfl (fun w hS => run_loadAt rfl rfl (hS.2.1) rfl rfl) <| SW rfl rfl rfl rfl rfl (fun w hS => run_fieldR0 rfl rfl) <| SW rfl rfl rfl rfl rfl (fun w hS => run_loadAt rfl rfl (hS.1) rfl rfl) <| ?_
 simp only [q2,q3]
 refine S1a (o := ⟨some 10, _, _, _, _, _⟩) rfl rfl rfl rfl (Oper.wp_callI fn_eref01_Mul rfl (RMul_z _ x.num _ ((y.den : Nat) : Int) _ (e5 E) (E.2.2.1) (Fits.mono Fx.1 (by decide)) (Fits.mono Fy.2 (by decide))) rfl E ?_)
 clear E
 intro w5 n5 s5 d5 E
 replace x3 := x3.below d5
 clear d5
 refine ⟨E.2, ?_⟩
 simp only [Act.put,q1,q2,q3]
 have F4 : Fits (x.num * ((y.den : Nat) : Int)) 200000000 := Fits_mul Fx.1 Fy.2
 refine S1a (o := ⟨some 15, _, _, _, _, _⟩) rfl rfl rfl rfl (Oper.wp_callI fn_eref01_Mul rfl (RMul_z _ ((x.den : Nat) : Int) _ y.num _ (e5 E) (e4 E) (Fits.mono Fx.2 (by decide)) (Fits.mono Fy.1 (by decide))) rfl E ?_)
 clear E
 intro w7 n7 s7 d7 E
 replace x3 := x3.below d7
 clear d7
 refine ⟨E.2.2, ?_⟩
 simp only [Act.put,q1,q2,q3]
 have F6 : Fits (((x.den : Nat) : Int) * y.num) 200000000 := Fits_mul Fx.2 Fy.1
 refine S1a (o := ⟨some 16, _, _, _, _, _⟩) rfl rfl rfl rfl (Oper.wp_callPE fn_eref02_New rfl (RNew_z _ (x.num * ((y.den : Nat) : Int)) _ (((x.den : Nat) : Int) * y.num) _ (E.2.1) (E.1) (Int.mul_ne_zero (den_ne x) (num_ne hy)) (Fits.mono F4 (by decide)) (Fits.mono F6 (by decide))) rfl E ?_)
 clear E
 intro w9 n9 s9 m9 t9 d9 E
 replace x3 := x3.below d9
 clear d9
 refine ⟨E.2.2.2.2, ?_⟩
 simp only [Act.put,q1,q2,q3]
 have F8 : FitQ (Rat.divInt (x.num * ((y.den : Nat) : Int)) (((x.den : Nat) : Int) * y.num)) 200000000 := FitQ_low (k := 200000000) (Int.mul_ne_zero (den_ne x) (num_ne hy)) (Fits.mono F4 (by decide)) (Fits.mono F6 (by decide))
 refine SW rfl rfl rfl rfl rfl (fun w hS => run_extract (vs := [.agg #[.bool n9, s9, .bool m9, t9], .int .i64 0]) rfl rfl rfl) <| SW rfl rfl rfl rfl rfl (fun w hS => run_extract (vs := [.agg #[.bool n9, s9, .bool m9, t9], .int .i64 0]) rfl rfl rfl) <| ?_
 simp only [q2,q3]
 refine S1a (o := ⟨none, _, _, _, _, _⟩) rfl rfl rfl rfl (Oper.wp_store AgR rfl rfl rfl x3 rfl rfl (one4 (IsI.one (E.2.1)) (IsI.one (E.1))) ?_)
 intro w10 o10 y10
 replace E := (E.onl (x3.noW (now4 now0 now0)) ⟨trivial, trivial, trivial, trivial, okX (by omega), okX (by omega), trivial, trivial, trivial, trivial, okW (by omega), trivial⟩ o10).x y10
 clear x3 o10 y10
 refine ⟨E.2.2.2.2.2, ?_⟩
 simp only [Act.put]
 refine SA rfl rfl rfl rfl rfl rfl rfl rfl <| ?_
 simp only [q2,q3]
 refine SN ?_
 change Code.wp _ _ _ _ _
 refine wp_ret ?_
 have r11 := res_box AgR (E.1) rfl
 exact bodyPost_ret (v := .tuple #[.agg #[.bool n9, s9, .bool m9, t9], .int .i64 0]) (by simp [results, Tryz.results20, asAddr, r11]) rfl ⟨_, _, _, _, rfl, eqZ (congrArg Rat.num (divQ x y)) (E.2.2.1), eqZ (congrArg (fun z => ((Rat.den z : Nat) : Int)) (divQ x y)) (E.2.1), e11 E⟩
set_option maxRecDepth 100000 in
set_option maxHeartbeats 8000000 in
theorem RSign_q  (na : Bool) (sa : Value) (ma : Bool) (ta : Value) (x : Rat)  (w : World)  (hna : IsI w (.agg #[.bool na, sa]) x.num) (hda : IsI w (.agg #[.bool ma, ta]) ((x.den : Nat) : Int)) :
    Calls Tryz.prog 28 #[.agg #[.bool na, sa, .bool ma, ta]] w (RetN w (sgn x.num)) := by
 have E := Env.start w
 replace E := (E.i hna).i hda
 clear hna hda
 go_enter Tryz.func28, Tryz.ntmps28
 refine wp_seq ?_
 -- region 0
 refine RL ?_
 refine EF rfl (Oper.wp_box (cs := [.bool na, sa, .bool ma, ta]) rfl rfl ?_)
 intro b1 w1 e1 z1 d1 x1
 have l1 : w.heap.size ≤ b1 := by rw [e1]; exact (E.2.2.1).size
 replace E := E.below d1
 clear e1 z1 d1
 replace E := E.x x1
 clear x1
 refine kw rfl ?_
 refine AC rfl rfl rfl rfl <| ?_
 simp only [q2,q3]
 refine WN ?_
 change Code.wp _ _ _ _ _
 refine wp_seq ?_
 -- region 1
 refine RL ?_
 refine V rfl rfl (run_fieldR0 rfl rfl) <| V rfl rfl (run_loadAt rfl rfl (E.1) rfl rfl) <| ?_
 simp only [q2,q3]
 refine EF rfl (Oper.wp_callN fn_eref01_Sign rfl (RSign_z _ x.num _ (E.2.2.1)) rfl E ?_)
 clear E
 intro w2 d2 E
 clear d2
 refine kw rfl ?_
 refine A rfl rfl rfl rfl rfl <| ?_
 simp only [q2,q3]
 refine WN ?_
 change Code.wp _ _ _ _ _
 refine wp_ret ?_
 exact bodyPost_ret (v := .int .i64 (sgn x.num)) (by simp [results, Tryz.results28, asAddr]) rfl ⟨rfl, e3 E⟩
set_option maxRecDepth 100000 in
set_option maxHeartbeats 8000000 in
theorem RCmp_q  (na : Bool) (sa : Value) (ma : Bool) (ta : Value) (x : Rat) (nb : Bool) (sb : Value) (mb : Bool) (tb : Value) (y : Rat)  (w : World)  (hna : IsI w (.agg #[.bool na, sa]) x.num) (hda : IsI w (.agg #[.bool ma, ta]) ((x.den : Nat) : Int)) (hnb : IsI w (.agg #[.bool nb, sb]) y.num) (hdb : IsI w (.agg #[.bool mb, tb]) ((y.den : Nat) : Int)) (Fx : FitQ x 100000000) (Fy : FitQ y 100000000) :
    Calls Tryz.prog 30 #[.agg #[.bool na, sa, .bool ma, ta], .agg #[.bool nb, sb, .bool mb, tb]] w (RetN w (cmpQ x y)) := by
 have E := Env.start w
 replace E := (E.i hna).i hda
 clear hna hda
 replace E := (E.i hnb).i hdb
 clear hnb hdb
 go_enter Tryz.func30, Tryz.ntmps30
 refine wp_seq ?_
 -- region 0
 refine RL ?_
 refine EF rfl (Oper.wp_box (cs := [.bool na, sa, .bool ma, ta]) rfl rfl ?_)
 intro b1 w1 e1 z1 d1 x1
 have l1 : w.heap.size ≤ b1 := by rw [e1]; exact (e4 E).size
 replace E := E.below d1
 clear e1 z1 d1
 replace E := E.x x1
 clear x1
 refine kw rfl ?_
 simp only [q2,q3]
 refine EF rfl (Oper.wp_box (cs := [.bool nb, sb, .bool mb, tb]) rfl rfl ?_)
 intro b2 w2 e2 z2 d2 x2
 have l2_0 : b1 < b2 := by rw [e2]; exact Bx.lt (E.1)
 replace E := E.below d2
 clear e2 z2 d2
 replace E := E.x x2
 clear x2
 refine kw rfl ?_
 refine AC rfl rfl rfl rfl <| ?_
 simp only [q2,q3]
 refine WN ?_
 change Code.wp _ _ _ _ _
 refine wp_seq ?_
 -- region 1
 refine wp_schedE E ([0, 1, 2, 3, 5, 6, 7, 8, 4, 9, 10, 11]) (by kernel_rfl) (by kernel_rfl) (by kernel_rfl) (by kernel_rfl) (by intro d v c a w h; cases d <;> exact h) ?_
 replace E := E.drew
 refine SW rfl rfl rfl rfl rfl (fun w hS => run_fieldR0 rfl rfl) <| SW rfl rfl rfl rfl rfl (fun w hS => run_loadAt rfl rfl (hS.2.1) rfl rfl) <| SW rfl rfl rfl rfl rfl (fun w hS => run_fieldR1 rfl rfl) <| SW rfl rfl rfl rfl rfl (fun w hS => run_loadAt rfl rfl (hS.1) rfl rfl) <| ?_
 simp only [q2,q3]
 refine SW rfl rfl rfl rfl rfl (fun w hS => run_fieldR0 rfl rfl) <| SW rfl rfl rfl rfl rfl (fun w hS => run_loadAt rfl rfl (hS.1) rfl rfl) <| SW rfl rfl rfl rfl rfl (fun w hS => run_fieldR1 rfl rfl) <| SW rfl rfl rfl rfl rfl (fun w hS => run_loadAt rfl rfl (hS.2.1) rfl rfl) <| ?_
 simp only [q2,q3]
 refine S1a (o := ⟨some 9, _, _, _, _, _⟩) rfl rfl rfl rfl (Oper.wp_callI fn_eref01_Mul rfl (RMul_z _ x.num _ ((y.den : Nat) : Int) _ (e5 E) (E.2.2.1) (Fits.mono Fx.1 (by decide)) (Fits.mono Fy.2 (by decide))) rfl E ?_)
 clear E
 intro w4 n4 s4 d4 E
 clear d4
 refine ⟨E.2, ?_⟩
 simp only [Act.put,q1,q2,q3]
 have F3 : Fits (x.num * ((y.den : Nat) : Int)) 200000000 := Fits_mul Fx.1 Fy.2
 refine S1a (o := ⟨some 14, _, _, _, _, _⟩) rfl rfl rfl rfl (Oper.wp_callI fn_eref01_Mul rfl (RMul_z _ y.num _ ((x.den : Nat) : Int) _ (e4 E) (e5 E) (Fits.mono Fy.1 (by decide)) (Fits.mono Fx.2 (by decide))) rfl E ?_)
 clear E
 intro w6 n6 s6 d6 E
 clear d6
 refine ⟨E.2.2, ?_⟩
 simp only [Act.put,q1,q2,q3]
 have F5 : Fits (y.num * ((x.den : Nat) : Int)) 200000000 := Fits_mul Fy.1 Fx.2
 refine S1a (o := ⟨some 15, _, _, _, _, _⟩) rfl rfl rfl rfl (Oper.wp_callN fn_eref01_Cmp rfl (RCmp_z _ (x.num * ((y.den : Nat) : Int)) _ (y.num * ((x.den : Nat) : Int)) _ (E.2.1) (E.1)) rfl E ?_)
 clear E
 intro w7 d7 E
 clear d7
 refine ⟨E.2.2, ?_⟩
 simp only [Act.put,q1,q2,q3]
 refine SA rfl rfl rfl rfl rfl rfl rfl rfl <| ?_
 simp only [q2,q3]
 refine SN ?_
 change Code.wp _ _ _ _ _
 refine wp_ret ?_
 exact bodyPost_ret (v := .int .i64 (cmpI (x.num * ((y.den : Nat) : Int)) (y.num * ((x.den : Nat) : Int)))) (by simp [results, Tryz.results30, asAddr]) rfl ⟨rfl, e8 E⟩
set_option maxRecDepth 100000 in
set_option maxHeartbeats 8000000 in
theorem RFloor_q  (na : Bool) (sa : Value) (ma : Bool) (ta : Value) (x : Rat)  (w : World)  (hna : IsI w (.agg #[.bool na, sa]) x.num) (hda : IsI w (.agg #[.bool ma, ta]) ((x.den : Nat) : Int)) (Fx : FitQ x 100000000) :
    Calls Tryz.prog 26 #[.agg #[.bool na, sa, .bool ma, ta]] w (RetZ w x.floor) := by
 have E := Env.start w
 replace E := (E.i hna).i hda
 clear hna hda
 go_enter Tryz.func26, Tryz.ntmps26
 refine wp_seq ?_
 -- region 0
 refine RL ?_
 refine EF rfl (Oper.wp_box (cs := [.bool na, sa, .bool ma, ta]) rfl rfl ?_)
 intro b1 w1 e1 z1 d1 x1
 have l1 : w.heap.size ≤ b1 := by rw [e1]; exact (E.2.2.1).size
 replace E := E.below d1
 clear e1 z1 d1
 replace E := E.x x1
 clear x1
 refine kw rfl ?_
 simp only [q2,q3]
 refine EF rfl (Oper.wp_alloc AgI rfl ?_)
 intro b2 w2 e2 z2 d2 x2
 have l2_0 : b1 < b2 := by rw [e2]; exact Bx.lt (E.1)
 replace E := E.below d2
 clear e2 z2 d2
 refine kw rfl ?_
 simp only [q2,q3]
 refine WN ?_
 change Code.wp _ _ _ _ _
 refine wp_seq ?_
 -- region 1
 refine RL ?_
 refine V rfl rfl (run_fieldR0 rfl rfl) <| V rfl rfl (run_loadAt rfl rfl (E.1) rfl rfl) <| V rfl rfl (run_fieldR1 rfl rfl) <| V rfl rfl (run_loadAt rfl rfl (E.1) rfl rfl) <| ?_
 simp only [q2,q3]
 refine EF rfl (Oper.wp_callIIE fn_eref01_DivMod rfl (RDivMod_z _ x.num _ ((x.den : Nat) : Int) _ (E.2.2.1) (E.2.1) (den_ne x) (Fits.mono Fx.1 (by decide)) (Fits.mono Fx.2 (by decide))) rfl E ?_)
 clear E
 intro w4 n4 s4 m4 t4 d4 E
 replace x2 := x2.below d4
 clear d4
 refine kw rfl ?_
 have F3 : Fits (x.num / ((x.den : Nat) : Int)) 100000000 := Fits_div (y := ((x.den : Nat) : Int)) Fx.1
 refine M rfl rfl rfl rfl rfl <| V rfl rfl (run_extract (vs := [.agg #[.bool n4, s4], .agg #[.bool m4, t4], .int .i64 0]) rfl rfl rfl) <| V rfl rfl (run_extract (vs := [.agg #[.bool n4, s4], .agg #[.bool m4, t4], .int .i64 0]) rfl rfl rfl) <| V rfl rfl (run_extract (vs := [.agg #[.bool n4, s4], .agg #[.bool m4, t4], .int .i64 0]) rfl rfl rfl) <| ?_
 simp only [q2,q3]
 refine EF rfl (Oper.wp_alloc AgI rfl ?_)
 intro b5 w5 e5 z5 d5 x5
 have l5_0 : b2 < b5 := by rw [e5]; exact Bx.lt (x2)
 replace E := E.below d5
 replace x2 := Bx.below x2 d5
 clear e5 z5 d5
 refine kw rfl ?_
 simp only [q2,q3]
 refine EF rfl (Oper.wp_alloc AgI rfl ?_)
 intro b6 w6 e6 z6 d6 x6
 have l6_0 : b5 < b6 := by rw [e6]; exact Bx.lt (x5)
 replace E := E.below d6
 replace x2 := Bx.below x2 d6
 replace x5 := Bx.below x5 d6
 clear e6 z6 d6
 refine kw rfl ?_
 simp only [q2,q3]
 refine EF rfl (Oper.wp_store AgI rfl rfl rfl x5 rfl rfl (IsI.one (E.2.1)) ?_)
 intro w7 o7 y7
 replace E := (E.onl (x5.noW now0) ⟨trivial, trivial, okX (by omega), trivial, trivial, okW (by omega), trivial⟩ o7).b y7
 replace x2 := Bx.onl x2 (by omega) o7
 replace x6 := Bx.onl x6 (by omega) o7
 clear x5 o7 y7
 refine kn rfl ?_
 refine EF rfl (Oper.wp_store AgI rfl rfl rfl x6 rfl rfl (IsI.one (E.2.1)) ?_)
 intro w8 o8 y8
 replace E := (E.onl (x6.noW now0) ⟨okB (by omega), trivial, trivial, okX (by omega), trivial, trivial, okW (by omega), trivial⟩ o8).b y8
 replace x2 := Bx.onl x2 (by omega) o8
 clear x6 o8 y8
 refine kn rfl ?_
 refine A rfl rfl rfl rfl rfl <| ?_
 simp only [q2,q3]
 refine WN ?_
 change Code.wp _ _ _ _ _
 refine wp_seq ?_
 -- region 2
 refine RL ?_
 refine V rfl rfl (run_load_bx AgI rfl rfl (E.2.1) rfl) <| ?_
 simp only [q2,q3]
 refine EF rfl (Oper.wp_store AgI rfl rfl rfl x2 rfl rfl (IsI.one (e3 E)) ?_)
 intro w9 o9 y9
 replace E := (E.onl (x2.noW now0) ⟨okB (by omega), okB (by omega), trivial, trivial, okX (by omega), trivial, trivial, okW (by omega), trivial⟩ o9).b y9
 clear x2 o9 y9
 refine kn rfl ?_
 refine WN ?_
 change Code.wp _ _ _ _ _
 refine wp_ret ?_
 have r10 := res_box AgI (E.1) rfl
 exact bodyPost_ret (v := .agg #[.bool n4, s4]) (by simp [results, Tryz.results26, asAddr, r10]) rfl ⟨_, rfl, eqZ (floorQ x) (e4 E), e8 E⟩
set_option maxRecDepth 100000 in
set_option maxHeartbeats 8000000 in
theorem RBits_q  (na : Bool) (sa : Value) (ma : Bool) (ta : Value) (x : Rat)  (w : World)  (hna : IsI w (.agg #[.bool na, sa]) x.num) (hda : IsI w (.agg #[.bool ma, ta]) ((x.den : Nat) : Int)) (Fx : FitQ x 1000000) :
    Calls Tryz.prog 32 #[.agg #[.bool na, sa, .bool ma, ta]] w (RetN w (((bitsN x.num.natAbs : Nat) : Int) + ((bitsN ((x.den : Nat) : Int).natAbs : Nat) : Int))) := by
 have E := Env.start w
 replace E := (E.i hna).i hda
 clear hna hda
 go_enter Tryz.func32, Tryz.ntmps32
 refine wp_seq ?_
 -- region 0
 refine RL ?_
 refine EF rfl (Oper.wp_box (cs := [.bool na, sa, .bool ma, ta]) rfl rfl ?_)
 intro b1 w1 e1 z1 d1 x1
 have l1 : w.heap.size ≤ b1 := by rw [e1]; exact (E.2.2.1).size
 replace E := E.below d1
 clear e1 z1 d1
 replace E := E.x x1
 clear x1
 refine kw rfl ?_
 refine AC rfl rfl rfl rfl <| ?_
 simp only [q2,q3]
 refine WN ?_
 change Code.wp _ _ _ _ _
 refine wp_seq ?_
 -- region 1
 refine wp_schedE E ([0, 1, 3, 4, 2, 5, 6, 7]) (by kernel_rfl) (by kernel_rfl) (by kernel_rfl) (by kernel_rfl) (by intro d v c a w h; cases d <;> exact h) ?_
 replace E := E.drew
 refine SW rfl rfl rfl rfl rfl (fun w hS => run_fieldR0 rfl rfl) <| SW rfl rfl rfl rfl rfl (fun w hS => run_loadAt rfl rfl (hS.1) rfl rfl) <| SW rfl rfl rfl rfl rfl (fun w hS => run_fieldR1 rfl rfl) <| SW rfl rfl rfl rfl rfl (fun w hS => run_loadAt rfl rfl (hS.1) rfl rfl) <| ?_
 simp only [q2,q3]
 refine S1a (o := ⟨some 5, _, _, _, _, _⟩) rfl rfl rfl rfl (Oper.wp_callN fn_eref01_Bits rfl (RBits_z _ x.num _ (E.2.2.1) (Fits.mono Fx.1 (by decide))) rfl E ?_)
 clear E
 intro w2 d2 E
 clear d2
 refine ⟨E, ?_⟩
 simp only [Act.put,q1,q2,q3]
 refine S1a (o := ⟨some 8, _, _, _, _, _⟩) rfl rfl rfl rfl (Oper.wp_callN fn_eref01_Bits rfl (RBits_z _ ((x.den : Nat) : Int) _ (E.2.1) (Fits.mono Fx.2 (by decide))) rfl E ?_)
 clear E
 intro w3 d3 E
 clear d3
 refine ⟨E, ?_⟩
 simp only [Act.put,q1,q2,q3]
 refine SW (v := .int .i64 (((bitsN x.num.natAbs : Nat) : Int) + ((bitsN ((x.den : Nat) : Int).natAbs : Nat) : Int))) rfl rfl rfl rfl rfl (fun w hS => run_addI rfl rfl rfl (bits_wrap Fx.1 Fx.2)) <| SA rfl rfl rfl rfl rfl rfl rfl rfl <| ?_
 simp only [q2,q3]
 refine SN ?_
 change Code.wp _ _ _ _ _
 refine wp_ret ?_
 exact bodyPost_ret (v := .int .i64 (((bitsN x.num.natAbs : Nat) : Int) + ((bitsN ((x.den : Nat) : Int).natAbs : Nat) : Int))) (by simp [results, Tryz.results32, asAddr]) rfl ⟨rfl, e3 E⟩
def RSearchOk (k : Nat) : Prop := ∀ (na : Bool) (sa : Value) (ma : Bool) (ta : Value) (x : Rat) (nb : Bool) (sb : Value) (mb : Bool) (tb : Value) (y : Rat) (w : World),
  IsI w (.agg #[.bool na, sa]) x.num → IsI w (.agg #[.bool ma, ta]) ((x.den : Nat) : Int) → IsI w (.agg #[.bool nb, sb]) y.num → IsI w (.agg #[.bool mb, tb]) ((y.den : Nat) : Int) →
  0 < x → x ≤ y → x.den + y.den ≤ k → FitQ x 1000 → FitQ y 1000 →
  Calls Tryz.prog 55 #[.agg #[.bool na, sa, .bool ma, ta], .agg #[.bool nb, sb, .bool mb, tb]] w (RetSm w x y)
theorem simp_self {x y : Rat} (hx : 0 < x) (hxy : x ≤ y) (h : ((x.floor : Int) : Rat) = x) : IsSimp x x y := by
  have := simp_floor hx hxy h
  rw [h] at this; exact this
set_option maxRecDepth 100000 in
set_option maxHeartbeats 8000000 in
theorem Rsearch_step (k : Nat) (na : Bool) (sa : Value) (ma : Bool) (ta : Value) (x : Rat) (nb : Bool) (sb : Value) (mb : Bool) (tb : Value) (y : Rat)  (w : World)  (hna : IsI w (.agg #[.bool na, sa]) x.num) (hda : IsI w (.agg #[.bool ma, ta]) ((x.den : Nat) : Int)) (hnb : IsI w (.agg #[.bool nb, sb]) y.num) (hdb : IsI w (.agg #[.bool mb, tb]) ((y.den : Nat) : Int)) (hx : 0 < x) (hxy : x ≤ y) (hk : x.den + y.den ≤ k + 1) (ih : RSearchOk k) (Fx : FitQ x 1000) (Fy : FitQ y 1000) :
    Calls Tryz.prog 55 #[.agg #[.bool na, sa, .bool ma, ta], .agg #[.bool nb, sb, .bool mb, tb]] w (RetSm w x y) := by
 have E := Env.start w
 replace E := (E.i hna).i hda
 clear hna hda
 replace E := (E.i hnb).i hdb
 clear hnb hdb
 go_enter Tryz.func55, Tryz.ntmps55
 refine wp_seq ?_
 -- region 0
 refine RL ?_
 refine EF rfl (Oper.wp_box (cs := [.bool na, sa, .bool ma, ta]) rfl rfl ?_)
 intro b1 w1 e1 z1 d1 x1
 have l1 : w.heap.size ≤ b1 := by rw [e1]; exact (e4 E).size
 replace E := E.below d1
 clear e1 z1 d1
 replace E := E.x x1
 clear x1
 refine kw rfl ?_
 simp only [q2,q3]
 refine EF rfl (Oper.wp_box (cs := [.bool nb, sb, .bool mb, tb]) rfl rfl ?_)
 intro b2 w2 e2 z2 d2 x2
 have l2_0 : b1 < b2 := by rw [e2]; exact Bx.lt (E.1)
 replace E := E.below d2
 clear e2 z2 d2
 replace E := E.x x2
 clear x2
 refine kw rfl ?_
 simp only [q2,q3]
 refine EF rfl (Oper.wp_alloc AgR rfl ?_)
 intro b3 w3 e3 z3 d3 x3
 have l3_0 : b2 < b3 := by rw [e3]; exact Bx.lt (E.1)
 replace E := E.below d3
 clear e3 z3 d3
 refine kw rfl ?_
 simp only [q2,q3]
 refine WN ?_
 change Code.wp _ _ _ _ _
 refine wp_seq ?_
 -- region 1
 refine RL ?_
 refine V rfl rfl (run_load_bx AgR rfl rfl (E.2.1) rfl) <| ?_
 simp only [q2,q3]
 refine EF rfl (Oper.wp_callI fn_eref02_Floor rfl (RFloor_q _ _ _ _ x _ (e5 E) (e4 E) (FitQ.mono Fx (by decide))) rfl E ?_)
 clear E
 intro w5 n5 s5 d5 E
 replace x3 := x3.below d5
 clear d5
 refine kw rfl ?_
 have F4 : Fits x.floor 1000 := Fits_floorQ Fx
 simp only [q2,q3]
 refine EF rfl (Oper.wp_callP fn_eref02_whole rfl (Rwhole_z _ x.floor _ (E.1)) rfl E ?_)
 clear E
 intro w7 n7 s7 m7 t7 d7 E
 replace x3 := x3.below d7
 clear d7
 refine kw rfl ?_
 have F6 : FitQ ((x.floor : Int) : Rat) 1000 := FitQ_int (by decide) F4
 simp only [q2,q3]
 refine EF rfl (Oper.wp_alloc AgR rfl ?_)
 intro b8 w8 e8 z8 d8 x8
 have l8_0 : b3 < b8 := by rw [e8]; exact Bx.lt (x3)
 replace E := E.below d8
 replace x3 := Bx.below x3 d8
 clear e8 z8 d8
 refine kw rfl ?_
 simp only [q2,q3]
 refine EF rfl (Oper.wp_store AgR rfl rfl rfl x8 rfl rfl (one4 (IsI.one (E.2.1)) (IsI.one (E.1))) ?_)
 intro w9 o9 y9
 replace E := (E.onl (x8.noW (now4 now0 now0)) ⟨trivial, trivial, trivial, okX (by omega), okX (by omega), trivial, trivial, trivial, trivial, okW (by omega), trivial⟩ o9).x y9
 replace x3 := Bx.onl x3 (by omega) o9
 clear x8 o9 y9
 refine kn rfl ?_
 refine WN ?_
 change Code.wp _ _ _ _ _
 refine wp_seq ?_
 refine wp_seq ?_
 by_cases h1 : ((x.floor : Int) : Rat) = x
 case pos =>
  -- region 2
  refine RL ?_
  refine V rfl rfl (run_load_bx AgR rfl rfl (E.1) rfl) <| V rfl rfl (run_load_bx AgR rfl rfl (e5 E) rfl) <| ?_
  simp only [q2,q3]
  refine EF rfl (Oper.wp_callN fn_eref02_Cmp rfl (RCmp_q _ _ _ _ ((x.floor : Int) : Rat) _ _ _ _ x _ (E.2.2.1) (E.2.1) (e9 E) (e8 E) (FitQ.mono F6 (by decide)) (FitQ.mono Fx (by decide))) rfl E ?_)
  clear E
  intro w10 d10 E
  replace x3 := x3.below d10
  clear d10
  refine kw rfl ?_
  refine V rfl rfl (run_eqI (c := true) rfl rfl rfl (cmpQ_eq0 h1)) <| ?_
  simp only [q2,q3]
  refine WN ?_
  change Code.wp _ _ _ _ _
  refine wp_cond_true rfl ?_
  refine wp_seq ?_
  -- region 3
  refine RL ?_
  refine V rfl rfl (run_load_bx AgR rfl rfl (e5 E) rfl) <| ?_
  simp only [q2,q3]
  refine EF rfl (Oper.wp_store AgR rfl rfl rfl x3 rfl rfl (one4 (IsI.one (e9 E)) (IsI.one (e8 E))) ?_)
  intro w11 o11 y11
  replace E := (E.onl (x3.noW (now4 now0 now0)) ⟨okX (by omega), trivial, trivial, trivial, okX (by omega), okX (by omega), trivial, trivial, trivial, trivial, okW (by omega), trivial⟩ o11).x y11
  clear x3 o11 y11
  refine kn rfl ?_
  refine WN ?_
  change Code.wp _ _ _ _ _
  refine wp_ret ?_
  have r12 := res_box AgR (E.1) rfl
  exact bodyPost_ret (v := .agg #[.bool na, sa, .bool ma, ta]) (by simp [results, Tryz.results55, asAddr, r12]) rfl ⟨_, simp_self hx hxy h1, _, _, _, _, rfl, e10 E, e9 E, e11 E⟩
 case neg =>
  -- region 2
  refine RL ?_
  refine V rfl rfl (run_load_bx AgR rfl rfl (E.1) rfl) <| V rfl rfl (run_load_bx AgR rfl rfl (e5 E) rfl) <| ?_
  simp only [q2,q3]
  refine EF rfl (Oper.wp_callN fn_eref02_Cmp rfl (RCmp_q _ _ _ _ ((x.floor : Int) : Rat) _ _ _ _ x _ (E.2.2.1) (E.2.1) (e9 E) (e8 E) (FitQ.mono F6 (by decide)) (FitQ.mono Fx (by decide))) rfl E ?_)
  clear E
  intro w13 d13 E
  replace x3 := x3.below d13
  clear d13
  refine kw rfl ?_
  refine V rfl rfl (run_eqI (c := false) rfl rfl rfl (cmpQ_ne0 h1)) <| ?_
  simp only [q2,q3]
  refine WN ?_
  change Code.wp _ _ _ _ _
  refine wp_cond_false rfl ?_
  refine wp_skip ?_
  change Code.wp _ _ _ _ _
  refine wp_seq ?_
  -- region 4
  replace E := E.x x3
  clear x3
  have hB14_0 : b8 < w13.heap.size := Bx.lt (E.2.1)
  refine wp_schedF E [.op 0, .av 3, .op 1, .op 2, .op 3] 1 (#[true, true, true, true, false]) (by kernel_rfl) (by kernel_rfl) (by kernel_rfl) (by kernel_rfl) (by intro d v c a w h; cases d <;> exact h) (by intro d v c a w h; cases d <;> exact h) ?_
  refine FP (v := .agg #[.bool n7, s7, .bool m7, t7]) rfl rfl rfl rfl rfl (fun w hS => run_load_bx AgR rfl rfl (hS.2.1) rfl) <| FA _ (RunF.alloc AgR rfl rfl rfl) <| ?_
  simp only [q2,q3]
  clear E
  refine FE rfl rfl rfl rfl ?_
  intro w17 E
  refine Oper.wp_callP fn_eref02_Whole rfl (RWhole_z 1 _ (by decide) (by decide)) rfl E ?_
  clear E
  intro w16 n16 s16 m16 t16 d16 E
  refine kF d16 E rfl ?_
  have F15 : FitQ ((1 : Int) : Rat) 4 := FitQ_int (k := 4) (by decide) (Fits_of64 (by decide) (by decide))
  simp only [q2,q3]
  clear E
  refine FE rfl rfl rfl rfl ?_
  intro w20 E
  refine Oper.wp_callP fn_eref02_Add rfl (RAdd_q _ _ _ _ ((x.floor : Int) : Rat) _ _ _ _ ((1 : Int) : Rat) _ (e5 E) (e4 E) (E.2.1) (E.1) (FitQ.mono F6 (by decide)) (FitQ.mono F15 (by decide))) rfl E ?_
  clear E
  intro w19 n19 s19 m19 t19 d19 E
  refine kF d19 E rfl ?_
  have F18 : FitQ (((x.floor : Int) : Rat) + ((1 : Int) : Rat)) 1005 := FitQ_add F6 F15
  simp only [q2,q3]
  refine FF rfl rfl ?_
  intro b21 f21 u21
  have l21_0 : b8 < b21 := by omega
  simp only [q2,q3]
  clear E
  intro w22 E
  refine H1 (i := 4) (by kernel_rfl) ?_
  have x24 := E.1
  replace E := E.2
  refine HE (o := ⟨none, _, _, _, _, _⟩) rfl rfl (Oper.wp_store AgR rfl rfl rfl x24 rfl rfl (one4 (IsI.one (E.2.1)) (IsI.one (E.1))) ?_)
  intro w23 o23 y23
  replace E := (E.onl (x24.noW (now4 now0 now0)) ⟨trivial, trivial, trivial, trivial, okX (by omega), okX (by omega), trivial, trivial, trivial, okX (by omega), okX (by omega), trivial, trivial, trivial, trivial, okW (by omega), trivial⟩ o23).x y23
  clear x24 o23 y23
  refine ⟨E.2.2.2.2.2, ?_⟩
  simp only [Act.put]
  refine HN (by kernel_rfl) ?_
  change Code.wp _ _ _ _ _
  refine wp_seq ?_
  refine wp_seq ?_
  by_cases h2 : ((x.floor : Int) : Rat) + 1 ≤ y
  case pos =>
   -- region 5
   refine RL ?_
   refine V rfl rfl (run_load_bx AgR rfl rfl (E.1) rfl) <| V rfl rfl (run_load_bx AgR rfl rfl (e10 E) rfl) <| ?_
   simp only [q2,q3]
   refine EF rfl (Oper.wp_callN fn_eref02_Cmp rfl (RCmp_q _ _ _ _ (((x.floor : Int) : Rat) + ((1 : Int) : Rat)) _ _ _ _ y _ (E.2.2.1) (E.2.1) (e13 E) (e12 E) (FitQ.mono F18 (by decide)) (FitQ.mono Fy (by decide))) rfl E ?_)
   clear E
   intro w25 d25 E
   clear d25
   refine kw rfl ?_
   refine V rfl rfl (run_leI (c := true) rfl rfl rfl (cmpQ_le0 h2)) <| ?_
   simp only [q2,q3]
   refine WN ?_
   change Code.wp _ _ _ _ _
   refine wp_cond_true rfl ?_
   refine wp_seq ?_
   -- region 6
   refine RL ?_
   refine V rfl rfl (run_load_bx AgR rfl rfl (E.1) rfl) <| ?_
   have x27 := e5 E
   replace E := (((((E.2.2.2.2.2.2).i (e4 E)).i (e3 E)).i (E.2.2.1)).i (E.2.1)).x (E.1)
   simp only [q2,q3]
   refine EF rfl (Oper.wp_store AgR rfl rfl rfl x27 rfl rfl (one4 (IsI.one (E.2.2.1)) (IsI.one (E.2.1))) ?_)
   intro w26 o26 y26
   replace E := (E.onl (x27.noW (now4 now0 now0)) ⟨okX (by omega), trivial, trivial, trivial, trivial, okX (by omega), trivial, trivial, trivial, okX (by omega), okX (by omega), trivial, trivial, trivial, trivial, okW (by omega), trivial⟩ o26).x y26
   clear x27 o26 y26
   refine kn rfl ?_
   refine WN ?_
   change Code.wp _ _ _ _ _
   refine wp_ret ?_
   have r28 := res_box AgR (E.1) rfl
   exact bodyPost_ret (v := .agg #[.bool n19, s19, .bool m19, t19]) (by simp [results, Tryz.results55, asAddr, r28]) rfl ⟨_, simp_next hx h1 h2, _, _, _, _, rfl, e3 E, E.2.2.1, e16 E⟩
  case neg =>
   have g1 := step_facts hx hxy h1 h2
   have g2 := step_pre hx hxy h1 h2
   have g3 := step_dens hx hxy h1 h2
   have g4 := step_fit hx hxy h1 h2 Fx Fy
   -- region 5
   refine RL ?_
   refine V rfl rfl (run_load_bx AgR rfl rfl (E.1) rfl) <| V rfl rfl (run_load_bx AgR rfl rfl (e10 E) rfl) <| ?_
   simp only [q2,q3]
   refine EF rfl (Oper.wp_callN fn_eref02_Cmp rfl (RCmp_q _ _ _ _ (((x.floor : Int) : Rat) + ((1 : Int) : Rat)) _ _ _ _ y _ (E.2.2.1) (E.2.1) (e13 E) (e12 E) (FitQ.mono F18 (by decide)) (FitQ.mono Fy (by decide))) rfl E ?_)
   clear E
   intro w29 d29 E
   clear d29
   refine kw rfl ?_
   refine V rfl rfl (run_leI (c := false) rfl rfl rfl (cmpQ_nle0 h2)) <| ?_
   simp only [q2,q3]
   refine WN ?_
   change Code.wp _ _ _ _ _
   refine wp_cond_false rfl ?_
   refine wp_skip ?_
   change Code.wp _ _ _ _ _
   refine wp_seq ?_
   -- region 7
   refine RL ?_
   refine V rfl rfl (run_load_bx AgR rfl rfl (e10 E) rfl) <| V rfl rfl (run_load_bx AgR rfl rfl (e6 E) rfl) <| ?_
   simp only [q2,q3]
   refine EF rfl (Oper.wp_callP fn_eref02_Sub rfl (RSub_q _ _ _ _ y _ _ _ _ ((x.floor : Int) : Rat) _ (e13 E) (e12 E) (e8 E) (e7 E) (FitQ.mono Fy (by decide)) (FitQ.mono F6 (by decide))) rfl E ?_)
   clear E
   intro w31 n31 s31 m31 t31 d31 E
   clear d31
   refine kw rfl ?_
   have F30 : FitQ (y - ((x.floor : Int) : Rat)) 2001 := FitQ_sub Fy F6
   simp only [q2,q3]
   refine EF rfl (Oper.wp_callPE fn_eref02_Inv rfl (RInv_q _ _ _ _ (y - ((x.floor : Int) : Rat)) _ (E.2.1) (E.1) (pos_ne g1.1) (FitQ.mono F30 (by decide))) rfl E ?_)
   clear E
   intro w33 n33 s33 m33 t33 d33 E
   clear d33
   refine kw rfl ?_
   have F32 : FitQ ((y - ((x.floor : Int) : Rat))⁻¹) 2001 := FitQ_inv (pos_ne g1.1) F30
   refine M rfl rfl rfl rfl rfl <| V rfl rfl (run_extract (vs := [.agg #[.bool n33, s33, .bool m33, t33], .int .i64 0]) rfl rfl rfl) <| V rfl rfl (run_extract (vs := [.agg #[.bool n33, s33, .bool m33, t33], .int .i64 0]) rfl rfl rfl) <| ?_
   simp only [q2,q3]
   refine EF rfl (Oper.wp_alloc AgR rfl ?_)
   intro b34 w34 e34 z34 d34 x34
   have l34_0 : b21 < b34 := by rw [e34]; exact Bx.lt (e4 E)
   replace E := E.below d34
   clear e34 z34 d34
   refine kw rfl ?_
   simp only [q2,q3]
   refine EF rfl (Oper.wp_store AgR rfl rfl rfl x34 rfl rfl (one4 (IsI.one (E.2.1)) (IsI.one (E.1))) ?_)
   intro w35 o35 y35
   replace E := (E.onl (x34.noW (now4 now0 now0)) ⟨trivial, trivial, trivial, trivial, okX (by omega), trivial, trivial, trivial, trivial, okX (by omega), okX (by omega), trivial, trivial, trivial, okX (by omega), okX (by omega), trivial, trivial, trivial, trivial, okW (by omega), trivial⟩ o35).x y35
   clear x34 o35 y35
   refine kn rfl ?_
   refine A rfl rfl rfl rfl rfl <| ?_
   simp only [q2,q3]
   refine WN ?_
   change Code.wp _ _ _ _ _
   refine wp_seq ?_
   -- region 8
   refine RL ?_
   refine V rfl rfl (run_load_bx AgR rfl rfl (e16 E) rfl) <| V rfl rfl (run_load_bx AgR rfl rfl (e11 E) rfl) <| ?_
   simp only [q2,q3]
   refine EF rfl (Oper.wp_callP fn_eref02_Sub rfl (RSub_q _ _ _ _ x _ _ _ _ ((x.floor : Int) : Rat) _ (e20 E) (e19 E) (e13 E) (e12 E) (FitQ.mono Fx (by decide)) (FitQ.mono F6 (by decide))) rfl E ?_)
   clear E
   intro w37 n37 s37 m37 t37 d37 E
   clear d37
   refine kw rfl ?_
   have F36 : FitQ (x - ((x.floor : Int) : Rat)) 2001 := FitQ_sub Fx F6
   simp only [q2,q3]
   refine EF rfl (Oper.wp_callPE fn_eref02_Inv rfl (RInv_q _ _ _ _ (x - ((x.floor : Int) : Rat)) _ (E.2.1) (E.1) (pos_ne g1.2.1) (FitQ.mono F36 (by decide))) rfl E ?_)
   clear E
   intro w39 n39 s39 m39 t39 d39 E
   clear d39
   refine kw rfl ?_
   have F38 : FitQ ((x - ((x.floor : Int) : Rat))⁻¹) 2001 := FitQ_inv (pos_ne g1.2.1) F36
   refine M rfl rfl rfl rfl rfl <| V rfl rfl (run_extract (vs := [.agg #[.bool n39, s39, .bool m39, t39], .int .i64 0]) rfl rfl rfl) <| V rfl rfl (run_extract (vs := [.agg #[.bool n39, s39, .bool m39, t39], .int .i64 0]) rfl rfl rfl) <| ?_
   simp only [q2,q3]
   refine EF rfl (Oper.wp_alloc AgR rfl ?_)
   intro b40 w40 e40 z40 d40 x40
   have l40_0 : b34 < b40 := by rw [e40]; exact Bx.lt (e4 E)
   replace E := E.below d40
   clear e40 z40 d40
   refine kw rfl ?_
   simp only [q2,q3]
   refine EF rfl (Oper.wp_store AgR rfl rfl rfl x40 rfl rfl (one4 (IsI.one (E.2.1)) (IsI.one (E.1))) ?_)
   intro w41 o41 y41
   replace E := (E.onl (x40.noW (now4 now0 now0)) ⟨trivial, trivial, trivial, trivial, okX (by omega), trivial, trivial, trivial, trivial, okX (by omega), trivial, trivial, trivial, trivial, okX (by omega), okX (by omega), trivial, trivial, trivial, okX (by omega), okX (by omega), trivial, trivial, trivial, trivial, okW (by omega), trivial⟩ o41).x y41
   clear x40 o41 y41
   refine kn rfl ?_
   refine A rfl rfl rfl rfl rfl <| ?_
   simp only [q2,q3]
   refine WN ?_
   change Code.wp _ _ _ _ _
   refine wp_seq ?_
   -- region 9
   refine RL ?_
   refine V rfl rfl (run_load_bx AgR rfl rfl (e5 E) rfl) <| V rfl rfl (run_load_bx AgR rfl rfl (E.1) rfl) <| ?_
   simp only [q2,q3]
   refine EF rfl (Oper.wp_call fn_eref02_simplest rfl (ih _ _ _ _ ((y - ((x.floor : Int) : Rat))⁻¹) _ _ _ _ ((x - ((x.floor : Int) : Rat))⁻¹) _ (e7 E) (e6 E) (E.2.2.1) (E.2.1) g2.1 g2.2 (by have := g3.1; omega) g4.1 g4.2) rfl ?_)
   rintro _ w42 ⟨c, hc, n42, s42, m42, t42, rfl, p42, q42, d42⟩
   have Fc : FitQ c 1000 := simp_fit hc g2.1 g2.2 g4.1
   refine ⟨_, rfl, ?_⟩
   replace E := ((E.below d42).i p42).i q42
   clear d42
   refine kw rfl ?_
   simp only [q2,q3]
   refine EF rfl (Oper.wp_callPE fn_eref02_Inv rfl (RInv_q _ _ _ _ c _ (E.2.1) (E.1) (pos_ne (lt_of_lt_le g2.1 hc.lo)) (FitQ.mono Fc (by decide))) rfl E ?_)
   clear E
   intro w44 n44 s44 m44 t44 d44 E
   clear d44
   refine kw rfl ?_
   have F43 : FitQ (c⁻¹) 1000 := FitQ_inv (pos_ne (lt_of_lt_le g2.1 hc.lo)) Fc
   refine M rfl rfl rfl rfl rfl <| V rfl rfl (run_extract (vs := [.agg #[.bool n44, s44, .bool m44, t44], .int .i64 0]) rfl rfl rfl) <| V rfl rfl (run_extract (vs := [.agg #[.bool n44, s44, .bool m44, t44], .int .i64 0]) rfl rfl rfl) <| ?_
   simp only [q2,q3]
   refine EF rfl (Oper.wp_alloc AgR rfl ?_)
   intro b45 w45 e45 z45 d45 x45
   have l45_0 : b40 < b45 := by rw [e45]; exact Bx.lt (e4 E)
   replace E := E.below d45
   clear e45 z45 d45
   refine kw rfl ?_
   simp only [q2,q3]
   refine EF rfl (Oper.wp_store AgR rfl rfl rfl x45 rfl rfl (one4 (IsI.one (E.2.1)) (IsI.one (E.1))) ?_)
   intro w46 o46 y46
   replace E := (E.onl (x45.noW (now4 now0 now0)) ⟨trivial, trivial, trivial, trivial, okX (by omega), trivial, trivial, trivial, trivial, okX (by omega), trivial, trivial, trivial, trivial, okX (by omega), trivial, trivial, trivial, trivial, okX (by omega), okX (by omega), trivial, trivial, trivial, okX (by omega), okX (by omega), trivial, trivial, trivial, trivial, okW (by omega), trivial⟩ o46).x y46
   clear x45 o46 y46
   refine kn rfl ?_
   refine A rfl rfl rfl rfl rfl <| ?_
   simp only [q2,q3]
   refine WN ?_
   change Code.wp _ _ _ _ _
   refine wp_seq ?_
   -- region 10
   refine RL ?_
   refine V rfl rfl (run_load_bx AgR rfl rfl (e21 E) rfl) <| V rfl rfl (run_load_bx AgR rfl rfl (E.1) rfl) <| ?_
   simp only [q2,q3]
   refine EF rfl (Oper.wp_callP fn_eref02_Add rfl (RAdd_q _ _ _ _ ((x.floor : Int) : Rat) _ _ _ _ (c⁻¹) _ (e23 E) (e22 E) (E.2.2.1) (E.2.1) (FitQ.mono F6 (by decide)) (FitQ.mono F43 (by decide))) rfl E ?_)
   clear E
   intro w48 n48 s48 m48 t48 d48 E
   clear d48
   refine kw rfl ?_
   have F47 : FitQ (((x.floor : Int) : Rat) + (c⁻¹)) 2001 := FitQ_add F6 F43
   have x50 := e22 E
   replace E := ((((((((((((((((((((((E.2.2.2.2.2.2.2.2.2.2.2.2.2.2.2.2.2.2.2.2.2.2.2).i (e21 E)).i (e20 E)).i (e19 E)).i (e18 E)).x (e17 E)).i (e16 E)).i (e15 E)).i (e14 E)).i (e13 E)).x (e12 E)).i (e11 E)).i (e10 E)).i (e9 E)).i (e8 E)).x (e7 E)).i (e6 E)).i (e5 E)).i (e4 E)).i (e3 E)).x (E.2.2.1)).i (E.2.1)).i (E.1)
   simp only [q2,q3]
   refine EF rfl (Oper.wp_store AgR rfl rfl rfl x50 rfl rfl (one4 (IsI.one (E.2.1)) (IsI.one (E.1))) ?_)
   intro w49 o49 y49
   replace E := (E.onl (x50.noW (now4 now0 now0)) ⟨trivial, trivial, okX (by omega), trivial, trivial, trivial, trivial, okX (by omega), trivial, trivial, trivial, trivial, okX (by omega), trivial, trivial, trivial, trivial, okX (by omega), trivial, trivial, trivial, trivial, okX (by omega), trivial, trivial, trivial, okX (by omega), okX (by omega), trivial, trivial, trivial, trivial, okW (by omega), trivial⟩ o49).x y49
   clear x50 o49 y49
   refine kn rfl ?_
   refine WN ?_
   change Code.wp _ _ _ _ _
   refine wp_ret ?_
   have r51 := res_box AgR (E.1) rfl
   exact bodyPost_ret (v := .agg #[.bool n48, s48, .bool m48, t48]) (by simp [results, Tryz.results55, asAddr, r51]) rfl ⟨_, simp_step hx hxy h1 h2 hc, _, _, _, _, rfl, E.2.2.1, E.2.1, E.2.2.2.2.2.2.2.2.2.2.2.2.2.2.2.2.2.2.2.2.2.2.2.2.2.2.2.2.2.2.2.2.2.1⟩
theorem Rsearch_ok (k : Nat) : RSearchOk k := by
  induction k with
  | zero =>
    intro na sa ma ta x nb sb mb tb y w _ _ _ _ _ _ hk _ _
    exact absurd hk (Nat.not_le.2 (Nat.lt_of_lt_of_le x.den_pos (Nat.le_add_right _ _)))
  | succ k ih =>
    intro na sa ma ta x nb sb mb tb y w h1 h2 h3 h4 hx hxy hk Fx Fy
    exact Rsearch_step k na sa ma ta x nb sb mb tb y w h1 h2 h3 h4 hx hxy hk ih Fx Fy
theorem Rsearch_q (na : Bool) (sa : Value) (ma : Bool) (ta : Value) (x : Rat) (nb : Bool) (sb : Value) (mb : Bool) (tb : Value) (y : Rat) (w : World) (hna : IsI w (.agg #[.bool na, sa]) x.num) (hda : IsI w (.agg #[.bool ma, ta]) ((x.den : Nat) : Int)) (hnb : IsI w (.agg #[.bool nb, sb]) y.num) (hdb : IsI w (.agg #[.bool mb, tb]) ((y.den : Nat) : Int))
    (hx : 0 < x) (hxy : x ≤ y) (Fx : FitQ x 1000) (Fy : FitQ y 1000) :
    Calls Tryz.prog 55 #[.agg #[.bool na, sa, .bool ma, ta], .agg #[.bool nb, sb, .bool mb, tb]] w (RetSm w x y) :=
  Rsearch_ok _ na sa ma ta x nb sb mb tb y w hna hda hnb hdb hx hxy (Nat.le_refl _) Fx Fy
theorem sgnQ_gt {x : Rat} (h : 0 < x) : decide (sgn x.num > 0) = true := by rw [sgnQ_pos (pos_num.1 h)]; rfl
theorem sgnQ_ngt {x : Rat} (h : ¬ 0 < x) : decide (sgn x.num > 0) = false := by
  have h' : ¬ 0 < x.num := fun g => h (pos_num.2 g)
  rcases sgn_vals x.num with ⟨_, e⟩ | ⟨_, e⟩ | ⟨g, _⟩
  · rw [e]; rfl
  · rw [e]; rfl
  · omega
theorem RetBt.isR {w : World} {x y c : Rat} {e : Ending} {w' : World} (h : RetBt w x y e w') (hle : x ≤ y) (hc : IsBet c x y) : RetPE w c.num ((c.den : Nat) : Int) 0 e w' := by
  obtain ⟨d, hd, h⟩ := h
  rw [hc.unique hle hd]; exact h
set_option maxRecDepth 100000 in
set_option maxHeartbeats 8000000 in
theorem RBetween_gt  (na : Bool) (sa : Value) (ma : Bool) (ta : Value) (x : Rat) (nb : Bool) (sb : Value) (mb : Bool) (tb : Value) (y : Rat)  (w : World)  (hna : IsI w (.agg #[.bool na, sa]) x.num) (hda : IsI w (.agg #[.bool ma, ta]) ((x.den : Nat) : Int)) (hnb : IsI w (.agg #[.bool nb, sb]) y.num) (hdb : IsI w (.agg #[.bool mb, tb]) ((y.den : Nat) : Int)) (hxy : ¬ x ≤ y) (Fx : FitQ x 1000) (Fy : FitQ y 1000) :
    Calls Tryz.prog 22 #[.agg #[.bool na, sa, .bool ma, ta], .agg #[.bool nb, sb, .bool mb, tb]] w (RetPE w 0 0 1) := by
 have E := Env.start w
 replace E := (E.i hna).i hda
 clear hna hda
 replace E := (E.i hnb).i hdb
 clear hnb hdb
 go_enter Tryz.func22, Tryz.ntmps22
 refine wp_seq ?_
 -- region 0
 refine RL ?_
 refine EF rfl (Oper.wp_box (cs := [.bool na, sa, .bool ma, ta]) rfl rfl ?_)
 intro b1 w1 e1 z1 d1 x1
 have l1 : w.heap.size ≤ b1 := by rw [e1]; exact (e4 E).size
 replace E := E.below d1
 clear e1 z1 d1
 replace E := E.x x1
 clear x1
 refine kw rfl ?_
 simp only [q2,q3]
 refine EF rfl (Oper.wp_box (cs := [.bool nb, sb, .bool mb, tb]) rfl rfl ?_)
 intro b2 w2 e2 z2 d2 x2
 have l2_0 : b1 < b2 := by rw [e2]; exact Bx.lt (E.1)
 replace E := E.below d2
 clear e2 z2 d2
 replace E := E.x x2
 clear x2
 refine kw rfl ?_
 simp only [q2,q3]
 refine EF rfl (Oper.wp_alloc AgR rfl ?_)
 intro b3 w3 e3 z3 d3 x3
 have l3_0 : b2 < b3 := by rw [e3]; exact Bx.lt (E.1)
 replace E := E.below d3
 clear e3 z3 d3
 refine kw rfl ?_
 refine AC rfl rfl rfl rfl <| ?_
 simp only [q2,q3]
 refine WN ?_
 change Code.wp _ _ _ _ _
 refine wp_seq ?_
 refine wp_seq ?_
 -- region 1
 refine RL ?_
 refine V rfl rfl (run_load_bx AgR rfl rfl (E.2.1) rfl) <| V rfl rfl (run_load_bx AgR rfl rfl (E.1) rfl) <| ?_
 simp only [q2,q3]
 refine EF rfl (Oper.wp_callN fn_eref02_Cmp rfl (RCmp_q _ _ _ _ x _ _ _ _ y _ (e5 E) (e4 E) (e3 E) (E.2.2.1) (FitQ.mono Fx (by decide)) (FitQ.mono Fy (by decide))) rfl E ?_)
 clear E
 intro w4 d4 E
 replace x3 := x3.below d4
 clear d4
 refine kw rfl ?_
 refine V rfl rfl (run_gtI (c := true) rfl rfl rfl (cmpQ_gt0 hxy)) <| ?_
 simp only [q2,q3]
 refine WN ?_
 change Code.wp _ _ _ _ _
 refine wp_cond_true rfl ?_
 refine wp_seq ?_
 -- region 2
 refine RL ?_
 refine V (v := .agg #[.bool false, .slice none 0 0, .bool false, .slice none 0 0]) rfl rfl (run_buildR0 rfl) <| ?_
 simp only [q2,q3]
 refine EF rfl (Oper.wp_store AgR rfl rfl rfl x3 rfl rfl (one4 one0 one0) ?_)
 intro w5 o5 y5
 replace E := (E.onl (x3.noW (now4 now0 now0)) ⟨okX (by omega), okX (by omega), trivial, trivial, trivial, trivial, okW (by omega), trivial⟩ o5).x y5
 clear x3 o5 y5
 refine kn rfl ?_
 refine AC rfl rfl rfl rfl <| ?_
 simp only [q2,q3]
 refine WN ?_
 change Code.wp _ _ _ _ _
 refine wp_ret ?_
 have r6 := res_box AgR (E.1) rfl
 exact bodyPost_ret (v := .tuple #[.agg #[.bool false, .slice none 0 0, .bool false, .slice none 0 0], .int .i64 1]) (by simp [results, Tryz.results22, asAddr, r6]) rfl ⟨_, _, _, _, rfl, eqZ rfl (zero_i _), eqZ rfl (zero_i _), e7 E⟩
set_option maxRecDepth 100000 in
set_option maxHeartbeats 8000000 in
theorem RBetween_le  (na : Bool) (sa : Value) (ma : Bool) (ta : Value) (x : Rat) (nb : Bool) (sb : Value) (mb : Bool) (tb : Value) (y : Rat)  (w : World)  (hna : IsI w (.agg #[.bool na, sa]) x.num) (hda : IsI w (.agg #[.bool ma, ta]) ((x.den : Nat) : Int)) (hnb : IsI w (.agg #[.bool nb, sb]) y.num) (hdb : IsI w (.agg #[.bool mb, tb]) ((y.den : Nat) : Int)) (hxy : x ≤ y) (Fx : FitQ x 1000) (Fy : FitQ y 1000) :
    Calls Tryz.prog 22 #[.agg #[.bool na, sa, .bool ma, ta], .agg #[.bool nb, sb, .bool mb, tb]] w (RetBt w x y) := by
 have E := Env.start w
 replace E := (E.i hna).i hda
 clear hna hda
 replace E := (E.i hnb).i hdb
 clear hnb hdb
 go_enter Tryz.func22, Tryz.ntmps22
 refine wp_seq ?_
 -- region 0
 refine RL ?_
 refine EF rfl (Oper.wp_box (cs := [.bool na, sa, .bool ma, ta]) rfl rfl ?_)
 intro b1 w1 e1 z1 d1 x1
 have l1 : w.heap.size ≤ b1 := by rw [e1]; exact (e4 E).size
 replace E := E.below d1
 clear e1 z1 d1
 replace E := E.x x1
 clear x1
 refine kw rfl ?_
 simp only [q2,q3]
 refine EF rfl (Oper.wp_box (cs := [.bool nb, sb, .bool mb, tb]) rfl rfl ?_)
 intro b2 w2 e2 z2 d2 x2
 have l2_0 : b1 < b2 := by rw [e2]; exact Bx.lt (E.1)
 replace E := E.below d2
 clear e2 z2 d2
 replace E := E.x x2
 clear x2
 refine kw rfl ?_
 simp only [q2,q3]
 refine EF rfl (Oper.wp_alloc AgR rfl ?_)
 intro b3 w3 e3 z3 d3 x3
 have l3_0 : b2 < b3 := by rw [e3]; exact Bx.lt (E.1)
 replace E := E.below d3
 clear e3 z3 d3
 refine kw rfl ?_
 refine AC rfl rfl rfl rfl <| ?_
 simp only [q2,q3]
 refine WN ?_
 change Code.wp _ _ _ _ _
 refine wp_seq ?_
 refine wp_seq ?_
 -- region 1
 refine RL ?_
 refine V rfl rfl (run_load_bx AgR rfl rfl (E.2.1) rfl) <| V rfl rfl (run_load_bx AgR rfl rfl (E.1) rfl) <| ?_
 simp only [q2,q3]
 refine EF rfl (Oper.wp_callN fn_eref02_Cmp rfl (RCmp_q _ _ _ _ x _ _ _ _ y _ (e5 E) (e4 E) (e3 E) (E.2.2.1) (FitQ.mono Fx (by decide)) (FitQ.mono Fy (by decide))) rfl E ?_)
 clear E
 intro w4 d4 E
 replace x3 := x3.below d4
 clear d4
 refine kw rfl ?_
 refine V rfl rfl (run_gtI (c := false) rfl rfl rfl (cmpQ_ngt0 hxy)) <| ?_
 simp only [q2,q3]
 refine WN ?_
 change Code.wp _ _ _ _ _
 refine wp_cond_false rfl ?_
 refine wp_skip ?_
 change Code.wp _ _ _ _ _
 refine wp_seq ?_
 refine wp_seq ?_
 by_cases hx : 0 < x
 case pos =>
  -- region 3
  refine RL ?_
  refine V rfl rfl (run_load_bx AgR rfl rfl (E.2.1) rfl) <| ?_
  simp only [q2,q3]
  refine EF rfl (Oper.wp_callN fn_eref02_Sign rfl (RSign_q _ _ _ _ x _ (e5 E) (e4 E)) rfl E ?_)
  clear E
  intro w5 d5 E
  replace x3 := x3.below d5
  clear d5
  refine kw rfl ?_
  refine V rfl rfl (run_gtI (c := true) rfl rfl rfl (sgnQ_gt hx)) <| ?_
  simp only [q2,q3]
  refine WN ?_
  change Code.wp _ _ _ _ _
  refine wp_cond_true rfl ?_
  refine wp_seq ?_
  -- region 4
  refine RL ?_
  refine V rfl rfl (run_load_bx AgR rfl rfl (E.2.1) rfl) <| V rfl rfl (run_load_bx AgR rfl rfl (E.1) rfl) <| ?_
  simp only [q2,q3]
  refine EF rfl (Oper.wp_call fn_eref02_simplest rfl (Rsearch_q _ _ _ _ x _ _ _ _ y _ (e5 E) (e4 E) (e3 E) (E.2.2.1) hx hxy Fx Fy) rfl ?_)
  rintro _ w6 ⟨c, hc, n6, s6, m6, t6, rfl, p6, q6, d6⟩
  have Fc : FitQ c 1000 := simp_fit hc hx hxy Fx
  refine ⟨_, rfl, ?_⟩
  replace E := ((E.below d6).i p6).i q6
  replace x3 := x3.below d6
  clear d6
  refine kw rfl ?_
  simp only [q2,q3]
  refine EF rfl (Oper.wp_store AgR rfl rfl rfl x3 rfl rfl (one4 (IsI.one (E.2.1)) (IsI.one (E.1))) ?_)
  intro w7 o7 y7
  replace E := (E.onl (x3.noW (now4 now0 now0)) ⟨trivial, trivial, okX (by omega), okX (by omega), trivial, trivial, trivial, trivial, okW (by omega), trivial⟩ o7).x y7
  clear x3 o7 y7
  refine kn rfl ?_
  refine AC rfl rfl rfl rfl <| ?_
  simp only [q2,q3]
  refine WN ?_
  change Code.wp _ _ _ _ _
  refine wp_ret ?_
  have r8 := res_box AgR (E.1) rfl
  exact bodyPost_ret (v := .tuple #[.agg #[.bool n6, s6, .bool m6, t6], .int .i64 0]) (by simp [results, Tryz.results22, asAddr, r8]) rfl ⟨_, .inl ⟨hx, hc⟩, _, _, _, _, rfl, E.2.2.1, E.2.1, e9 E⟩
 case neg =>
  by_cases hy : y < 0
  case pos =>
   -- region 3
   refine RL ?_
   refine V rfl rfl (run_load_bx AgR rfl rfl (E.2.1) rfl) <| ?_
   simp only [q2,q3]
   refine EF rfl (Oper.wp_callN fn_eref02_Sign rfl (RSign_q _ _ _ _ x _ (e5 E) (e4 E)) rfl E ?_)
   clear E
   intro w9 d9 E
   replace x3 := x3.below d9
   clear d9
   refine kw rfl ?_
   refine V rfl rfl (run_gtI (c := false) rfl rfl rfl (sgnQ_ngt hx)) <| ?_
   simp only [q2,q3]
   refine WN ?_
   change Code.wp _ _ _ _ _
   refine wp_cond_false rfl ?_
   refine wp_skip ?_
   change Code.wp _ _ _ _ _
   refine wp_seq ?_
   refine wp_seq ?_
   -- region 5
   refine RL ?_
   refine V rfl rfl (run_load_bx AgR rfl rfl (E.1) rfl) <| ?_
   simp only [q2,q3]
   refine EF rfl (Oper.wp_callN fn_eref02_Sign rfl (RSign_q _ _ _ _ y _ (e3 E) (E.2.2.1)) rfl E ?_)
   clear E
   intro w10 d10 E
   replace x3 := x3.below d10
   clear d10
   refine kw rfl ?_
   refine V rfl rfl (run_ltI (c := true) rfl rfl rfl (sgnQ_lt hy)) <| ?_
   simp only [q2,q3]
   refine WN ?_
   change Code.wp _ _ _ _ _
   refine wp_cond_true rfl ?_
   refine wp_seq ?_
   -- region 6
   refine wp_schedE E ([0, 2, 1, 3, 4, 5, 6, 7]) (by kernel_rfl) (by kernel_rfl) (by kernel_rfl) (by kernel_rfl) (by intro d v c a w h; cases d <;> exact h) ?_
   replace E := E.drew
   replace x3 := Bx.drew x3
   refine SW rfl rfl rfl rfl rfl (fun w hS => run_load_bx AgR rfl rfl (hS.1) rfl) <| SW rfl rfl rfl rfl rfl (fun w hS => run_load_bx AgR rfl rfl (hS.2.1) rfl) <| ?_
   simp only [q2,q3]
   refine S1a (o := ⟨some 21, _, _, _, _, _⟩) rfl rfl rfl rfl (Oper.wp_callP fn_eref02_Neg rfl (RNeg_q _ _ _ _ y _ (e3 E) (E.2.2.1) (FitQ.mono Fy (by decide))) rfl E ?_)
   clear E
   intro w12 n12 s12 m12 t12 d12 E
   replace x3 := x3.below d12
   clear d12
   refine ⟨E.2.2, ?_⟩
   simp only [Act.put,q1,q2,q3]
   have F11 : FitQ (-y) 1000 := FitQ_neg Fy
   refine S1a (o := ⟨some 23, _, _, _, _, _⟩) rfl rfl rfl rfl (Oper.wp_callP fn_eref02_Neg rfl (RNeg_q _ _ _ _ x _ (e7 E) (e6 E) (FitQ.mono Fx (by decide))) rfl E ?_)
   clear E
   intro w14 n14 s14 m14 t14 d14 E
   replace x3 := x3.below d14
   clear d14
   refine ⟨E.2.2.2.2, ?_⟩
   simp only [Act.put,q1,q2,q3]
   have F13 : FitQ (-x) 1000 := FitQ_neg Fx
   refine S1a (o := ⟨some 24, _, _, _, _, _⟩) rfl rfl rfl rfl (Oper.wp_call fn_eref02_simplest rfl (Rsearch_q _ _ _ _ (-y) _ _ _ _ (-x) _ (e3 E) (E.2.2.1) (E.2.1) (E.1) (negpos hy) (Rat.neg_le_neg hxy) (FitQ_neg Fy) (FitQ_neg Fx)) rfl ?_)
   rintro _ w15 ⟨c, hc, n15, s15, m15, t15, rfl, p15, q15, d15⟩
   have Fc : FitQ c 1000 := simp_fit hc (negpos hy) (Rat.neg_le_neg hxy) (FitQ_neg Fy)
   refine ⟨_, rfl, ?_⟩
   replace E := ((E.below d15).i p15).i q15
   replace x3 := x3.below d15
   clear d15
   refine ⟨E.2.2.2.2.2.2, ?_⟩
   simp only [Act.put,q1,q2,q3]
   refine S1a (o := ⟨some 25, _, _, _, _, _⟩) rfl rfl rfl rfl (Oper.wp_callP fn_eref02_Neg rfl (RNeg_q _ _ _ _ c _ (E.2.1) (E.1) (FitQ.mono Fc (by decide))) rfl E ?_)
   clear E
   intro w17 n17 s17 m17 t17 d17 E
   replace x3 := x3.below d17
   clear d17
   refine ⟨E.2.2.2.2.2.2.2.2, ?_⟩
   simp only [Act.put,q1,q2,q3]
   have F16 : FitQ (-c) 1000 := FitQ_neg Fc
   refine S1a (o := ⟨none, _, _, _, _, _⟩) rfl rfl rfl rfl (Oper.wp_store AgR rfl rfl rfl x3 rfl rfl (one4 (IsI.one (E.2.1)) (IsI.one (E.1))) ?_)
   intro w18 o18 y18
   replace E := (E.onl (x3.noW (now4 now0 now0)) ⟨trivial, trivial, trivial, trivial, trivial, trivial, trivial, trivial, okX (by omega), okX (by omega), trivial, trivial, trivial, trivial, okW (by omega), trivial⟩ o18).x y18
   clear x3 o18 y18
   refine ⟨E.2.2.2.2.2.2.2.2.2, ?_⟩
   simp only [Act.put]
   refine SAC rfl rfl rfl rfl rfl rfl rfl <| ?_
   simp only [q2,q3]
   refine SN ?_
   change Code.wp _ _ _ _ _
   refine wp_ret ?_
   have r19 := res_box AgR (E.1) rfl
   exact bodyPost_ret (v := .tuple #[.agg #[.bool n17, s17, .bool m17, t17], .int .i64 0]) (by simp [results, Tryz.results22, asAddr, r19]) rfl ⟨_, .inr (.inl ⟨hy, by rw [Rat.neg_neg]; exact hc⟩), _, _, _, _, rfl, E.2.2.1, E.2.1, e15 E⟩
  case neg =>
   -- region 3
   refine RL ?_
   refine V rfl rfl (run_load_bx AgR rfl rfl (E.2.1) rfl) <| ?_
   simp only [q2,q3]
   refine EF rfl (Oper.wp_callN fn_eref02_Sign rfl (RSign_q _ _ _ _ x _ (e5 E) (e4 E)) rfl E ?_)
   clear E
   intro w20 d20 E
   replace x3 := x3.below d20
   clear d20
   refine kw rfl ?_
   refine V rfl rfl (run_gtI (c := false) rfl rfl rfl (sgnQ_ngt hx)) <| ?_
   simp only [q2,q3]
   refine WN ?_
   change Code.wp _ _ _ _ _
   refine wp_cond_false rfl ?_
   refine wp_skip ?_
   change Code.wp _ _ _ _ _
   refine wp_seq ?_
   refine wp_seq ?_
   -- region 5
   refine RL ?_
   refine V rfl rfl (run_load_bx AgR rfl rfl (E.1) rfl) <| ?_
   simp only [q2,q3]
   refine EF rfl (Oper.wp_callN fn_eref02_Sign rfl (RSign_q _ _ _ _ y _ (e3 E) (E.2.2.1)) rfl E ?_)
   clear E
   intro w21 d21 E
   replace x3 := x3.below d21
   clear d21
   refine kw rfl ?_
   refine V rfl rfl (run_ltI (c := false) rfl rfl rfl (sgnQ_nlt hy)) <| ?_
   simp only [q2,q3]
   refine WN ?_
   change Code.wp _ _ _ _ _
   refine wp_cond_false rfl ?_
   refine wp_skip ?_
   change Code.wp _ _ _ _ _
   refine wp_seq ?_
   -- region 7
   refine RL ?_
   refine EF rfl (Oper.wp_callP fn_eref02_Whole rfl (RWhole_z 0 _ (by decide) (by decide)) rfl E ?_)
   clear E
   intro w23 n23 s23 m23 t23 d23 E
   replace x3 := x3.below d23
   clear d23
   refine kw rfl ?_
   have F22 : FitQ ((0 : Int) : Rat) 4 := FitQ_int (k := 4) (by decide) (Fits_of64 (by decide) (by decide))
   simp only [q2,q3]
   refine EF rfl (Oper.wp_store AgR rfl rfl rfl x3 rfl rfl (one4 (IsI.one (E.2.1)) (IsI.one (E.1))) ?_)
   intro w24 o24 y24
   replace E := (E.onl (x3.noW (now4 now0 now0)) ⟨trivial, trivial, okX (by omega), okX (by omega), trivial, trivial, trivial, trivial, okW (by omega), trivial⟩ o24).x y24
   clear x3 o24 y24
   refine kn rfl ?_
   refine AC rfl rfl rfl rfl <| ?_
   simp only [q2,q3]
   refine WN ?_
   change Code.wp _ _ _ _ _
   refine wp_ret ?_
   have r25 := res_box AgR (E.1) rfl
   exact bodyPost_ret (v := .tuple #[.agg #[.bool n23, s23, .bool m23, t23], .int .i64 0]) (by simp [results, Tryz.results22, asAddr, r25]) rfl ⟨_, .inr (.inr ⟨hx, hy, rfl⟩), _, _, _, _, rfl, E.2.2.1, E.2.1, e9 E⟩
end Go.Proofs.YtndpjfhhigpbhaaGreat
