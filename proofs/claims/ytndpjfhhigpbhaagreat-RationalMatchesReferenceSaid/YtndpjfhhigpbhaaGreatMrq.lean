/- Walk: the law RationalMatchesReference. (Printed by a g_ program.) -/
import Derived.Test.YtndpjfhhigpbhaaGreatExQ
import Derived.Test.YtndpjfhhigpbhaaGreatRat5
namespace Go.Proofs.YtndpjfhhigpbhaaGreat
open Go.RowKit W
theorem Oper.wp_callBt {P : Program} {o : Oper} {a : Act} {w : World} {K : Act → World → Prop} {Q : Exit → Act → World → Prop} {f : Nat} {args : List Operand} {tys : Array TypeId} {vs : List Value} {l : List SF} {x y : Rat}
    (hf : Fn P f) (ho : o.op = .call { callee := .value (.func f), args := args.toArray, argTypes := tys }) (hc : Calls P f vs.toArray w (RetBt w x y)) (hv : args.map a.eval = vs) (E : Env w l)
    (h : ∀ w' (c : Rat) n s m t, IsBet c x y → Below w.heap.size w w' → Env w' (fI (.agg #[.bool m, t]) ((c.den : Nat) : Int) :: fI (.agg #[.bool n, s]) c.num :: l) → K (a.put o.dst (.tuple #[.agg #[.bool n, s, .bool m, t], .int .i64 0])) w') : o.wp P a w K Q := by
  refine Oper.wp_call hf ho hc hv ?_
  rintro e w' ⟨c, hbt, n, s, m, t, rfl, hp, hq, hb⟩
  exact ⟨_, rfl, h w' c n s m t hbt hb ⟨hq, hp, E.below hb⟩⟩
theorem i64_rngq {n : Int} (h : (Lit.int .i64 n).wf = true) : -9223372036854775808 ≤ n ∧ n ≤ 9223372036854775807 := by
  simp [Lit.wf, IntKind.min, IntKind.max, IntKind.signed, IntKind.bits] at h; omega
/-- What Inv and Div return: 0, 0 and an error if they cannot. -/
def okN (b : Bool) (x : Rat) : Int := if b then x.num else 0
def okD (b : Bool) (x : Rat) : Int := if b then ((x.den : Nat) : Int) else 0
def okE (b : Bool) : Int := if b then 0 else 10
theorem ret_ok {f : Nat} {args : Array Value} {w : World} {x : Rat} {b : Bool} (hb : b = true) (h : Calls Tryz.prog f args w (RetPE w x.num ((x.den : Nat) : Int) 0)) : Calls Tryz.prog f args w (RetPE w (okN b x) (okD b x) (okE b)) := by subst hb; exact h
theorem ret_no {f : Nat} {args : Array Value} {w : World} {x : Rat} {b : Bool} (hb : b = false) (h : Calls Tryz.prog f args w (RetPE w 0 0 10)) : Calls Tryz.prog f args w (RetPE w (okN b x) (okD b x) (okE b)) := by subst hb; exact h
theorem Inv_a (na : Bool) (sa : Value) (ma : Bool) (ta : Value) (x : Rat) (w : World) (ha1 : IsI w (.agg #[.bool na, sa]) x.num) (ha2 : IsI w (.agg #[.bool ma, ta]) ((x.den : Nat) : Int)) (Fx : FitQ x 100000000) : Calls Tryz.prog 17 #[.agg #[.bool na, sa, .bool ma, ta]] w (RetPE w (okN (decide (x ≠ 0)) x⁻¹) (okD (decide (x ≠ 0)) x⁻¹) (okE (decide (x ≠ 0)))) := by
  by_cases hx : x = 0
  · exact ret_no (decide_eq_false (fun h => h hx)) (Inv_zero _ _ _ _ x _ ha1 ha2 (by rw [hx]; rfl))
  · exact ret_ok (decide_eq_true hx) (Inv_q _ _ _ _ x _ ha1 ha2 hx Fx)
theorem Div_a (na : Bool) (sa : Value) (ma : Bool) (ta : Value) (x : Rat) (nb : Bool) (sb : Value) (mb : Bool) (tb : Value) (y : Rat) (w : World) (ha1 : IsI w (.agg #[.bool na, sa]) x.num) (ha2 : IsI w (.agg #[.bool ma, ta]) ((x.den : Nat) : Int)) (Fx : FitQ x 100000000) (hb1 : IsI w (.agg #[.bool nb, sb]) y.num) (hb2 : IsI w (.agg #[.bool mb, tb]) ((y.den : Nat) : Int)) (Fy : FitQ y 100000000) : Calls Tryz.prog 19 #[.agg #[.bool na, sa, .bool ma, ta], .agg #[.bool nb, sb, .bool mb, tb]] w (RetPE w (okN (decide (y ≠ 0)) (x / y)) (okD (decide (y ≠ 0)) (x / y)) (okE (decide (y ≠ 0)))) := by
  by_cases hy : y = 0
  · exact ret_no (decide_eq_false (fun h => h hy)) (Div_zero _ _ _ _ x _ _ _ _ y _ ha1 ha2 hb1 hb2 (by rw [hy]; rfl))
  · exact ret_ok (decide_eq_true hy) (Div_q _ _ _ _ x _ _ _ _ y _ ha1 ha2 hb1 hb2 hy Fx Fy)
theorem RInv_a (na : Bool) (sa : Value) (ma : Bool) (ta : Value) (x : Rat) (w : World) (ha1 : IsI w (.agg #[.bool na, sa]) x.num) (ha2 : IsI w (.agg #[.bool ma, ta]) ((x.den : Nat) : Int)) (Fx : FitQ x 100000000) : Calls Tryz.prog 18 #[.agg #[.bool na, sa, .bool ma, ta]] w (RetPE w (okN (decide (x ≠ 0)) x⁻¹) (okD (decide (x ≠ 0)) x⁻¹) (okE (decide (x ≠ 0)))) := by
  by_cases hx : x = 0
  · exact ret_no (decide_eq_false (fun h => h hx)) (RInv_zero _ _ _ _ x _ ha1 ha2 (by rw [hx]; rfl))
  · exact ret_ok (decide_eq_true hx) (RInv_q _ _ _ _ x _ ha1 ha2 hx Fx)
theorem RDiv_a (na : Bool) (sa : Value) (ma : Bool) (ta : Value) (x : Rat) (nb : Bool) (sb : Value) (mb : Bool) (tb : Value) (y : Rat) (w : World) (ha1 : IsI w (.agg #[.bool na, sa]) x.num) (ha2 : IsI w (.agg #[.bool ma, ta]) ((x.den : Nat) : Int)) (Fx : FitQ x 100000000) (hb1 : IsI w (.agg #[.bool nb, sb]) y.num) (hb2 : IsI w (.agg #[.bool mb, tb]) ((y.den : Nat) : Int)) (Fy : FitQ y 100000000) : Calls Tryz.prog 20 #[.agg #[.bool na, sa, .bool ma, ta], .agg #[.bool nb, sb, .bool mb, tb]] w (RetPE w (okN (decide (y ≠ 0)) (x / y)) (okD (decide (y ≠ 0)) (x / y)) (okE (decide (y ≠ 0)))) := by
  by_cases hy : y = 0
  · exact ret_no (decide_eq_false (fun h => h hy)) (RDiv_zero _ _ _ _ x _ _ _ _ y _ ha1 ha2 hb1 hb2 (by rw [hy]; rfl) Fx Fy)
  · exact ret_ok (decide_eq_true hy) (RDiv_q _ _ _ _ x _ _ _ _ y _ ha1 ha2 hb1 hb2 hy Fx Fy)
set_option maxRecDepth 100000 in
set_option maxHeartbeats 8000000 in
theorem mrq_t  (ca0 cb0 : Int) (ck0 : Nat) (ca1 cb1 : Int) (ck1 : Nat) (n : Int) (w : World)  (r0 : -128 ≤ ca0 ∧ ca0 ≤ 127 ∧ -128 ≤ cb0 ∧ cb0 ≤ 127 ∧ ck0 < 256) (r1 : -128 ≤ ca1 ∧ ca1 ≤ 127 ∧ -128 ≤ cb1 ∧ cb1 ≤ 127 ∧ ck1 < 256) (rn : -9223372036854775808 ≤ n ∧ n ≤ 9223372036854775807) :
    Calls Tryz.prog 3 #[.agg #[.int .i8 ca0, .int .i8 cb0, .int .u8 ((ck0 : Nat) : Int), .int .i8 ca1, .int .i8 cb1, .int .u8 ((ck1 : Nat) : Int)], .int .i64 n] w (RetB w true) := by
 have E := Env.start w
 obtain ⟨ra0, rb0, rc0, rd0, re0⟩ := r0
 obtain ⟨x, hm0⟩ : ∃ q, madeQ ca0 cb0 ck0 = q := ⟨_, rfl⟩
 have Fx : FitQ x 20 := by rw [← hm0]; exact madeQ_fit ra0 rb0 rc0 rd0 re0
 obtain ⟨ra1, rb1, rc1, rd1, re1⟩ := r1
 obtain ⟨y, hm1⟩ : ∃ q, madeQ ca1 cb1 ck1 = q := ⟨_, rfl⟩
 have Fy : FitQ y 20 := by rw [← hm1]; exact madeQ_fit ra1 rb1 rc1 rd1 re1
 obtain ⟨rn1, rn2⟩ := rn
 go_enter Tryz.func3, Tryz.ntmps3
 refine wp_seq ?_
 -- region 0
 refine RL ?_
 refine EF rfl (Oper.wp_box (cs := [.int .i8 ca0, .int .i8 cb0, .int .u8 ((ck0 : Nat) : Int), .int .i8 ca1, .int .i8 cb1, .int .u8 ((ck1 : Nat) : Int)]) rfl rfl ?_)
 intro b1 w1 e1 z1 d1 x1
 have l1 : w.heap.size ≤ b1 := by rw [e1]; exact (E.1).size
 replace E := E.below d1
 clear e1 z1 d1
 replace E := E.x x1
 clear x1
 refine kw rfl ?_
 refine AC rfl rfl rfl rfl <| ?_
 simp only [q2,q3]
 refine WN ?_
 change Code.wp _ _ _ _ _
 refine wp_seq ?_
 -- region 1
 refine RL ?_
 refine EF rfl (Oper.wp_callB fn_elaw02_examples rfl (examples_t _) rfl E ?_)
 clear E
 intro w2 d2 E
 clear d2
 refine kw rfl ?_
 refine A rfl rfl rfl rfl rfl <| ?_
 simp only [q2,q3]
 refine WN ?_
 change Code.wp _ _ _ _ _
 refine wp_seq ?_
 refine wp_seq ?_
 -- region 2
 refine RL ?_
 refine M rfl rfl rfl rfl rfl <| V (v := .bool false) rfl rfl (run_not (b := true) rfl rfl) <| ?_
 simp only [q2,q3]
 refine WN ?_
 change Code.wp _ _ _ _ _
 refine wp_cond_false rfl ?_
 refine wp_skip ?_
 change Code.wp _ _ _ _ _
 refine wp_seq ?_
 -- region 4
 have hB3_0 : b1 < w2.heap.size := Bx.lt (E.1)
 refine wp_schedF E [.op 0, .op 1, .op 3, .op 4, .av 6, .av 7, .op 2, .op 5, .op 6, .op 7] 2 (#[true, true, true, true, true, true, true, true, false, false]) (by kernel_rfl) (by kernel_rfl) (by kernel_rfl) (by kernel_rfl) (by intro d v c a w h; cases d <;> exact h) (by intro d v c a w h; cases d <;> exact h) ?_
 refine FP (v := .pointer (some ⟨b1, 0 + 0 * 3, none⟩)) rfl rfl rfl rfl rfl (fun w hS => run_idxA (j := 0) rfl Tryz.underlying25 (by kernel_rfl) rfl rfl rfl (by decide)) <| FP (v := .agg #[.int .i8 ca0, .int .i8 cb0, .int .u8 ((ck0 : Nat) : Int)]) rfl rfl rfl rfl rfl (fun w hS => run_loadW rfl rfl (hS.1) rfl rfl rfl) <| FP (v := .pointer (some ⟨b1, 0 + 1 * 3, none⟩)) rfl rfl rfl rfl rfl (fun w hS => run_idxA (j := 1) rfl Tryz.underlying25 (by kernel_rfl) rfl rfl rfl (by decide)) <| FP (v := .agg #[.int .i8 ca1, .int .i8 cb1, .int .u8 ((ck1 : Nat) : Int)]) rfl rfl rfl rfl rfl (fun w hS => run_loadW rfl rfl (hS.1) rfl rfl rfl) <| FA _ (RunF.alloc AgR rfl rfl rfl) <| FA _ (RunF.alloc AgR rfl rfl rfl) <| ?_
 simp only [q2,q3]
 clear E
 refine FE rfl rfl rfl rfl ?_
 intro w5 E
 refine Oper.wp_callP fn_eref02_Made rfl (Made_is ca0 cb0 ck0 x _ hm0 ra0 rb0 rc0 rd0 re0) rfl E ?_
 clear E
 intro w4 n4 s4 m4 t4 d4 E
 refine kF d4 E rfl ?_
 simp only [q2,q3]
 clear E
 refine FE rfl rfl rfl rfl ?_
 intro w7 E
 refine Oper.wp_callP fn_eref02_Made rfl (Made_is ca1 cb1 ck1 y _ hm1 ra1 rb1 rc1 rd1 re1) rfl E ?_
 clear E
 intro w6 n6 s6 m6 t6 d6 E
 refine kF d6 E rfl ?_
 simp only [q2,q3]
 refine FF rfl rfl ?_
 intro b8 f8 u8
 have l8_0 : b1 < b8 := by omega
 simp only [q2,q3]
 refine FF rfl rfl ?_
 intro b9 f9 u9
 have l9_0 : b1 < b9 := by omega
 have v9_0 : b9 ≠ b8 := by rintro rfl; exact u9 (by simp)
 simp only [q2,q3]
 clear E
 intro w10 E
 refine H1 (i := 8) (by kernel_rfl) ?_
 have x12 := E.2.1
 replace E := (E.2.2).x (E.1)
 refine HE (o := ⟨none, _, _, _, _, _⟩) rfl rfl (Oper.wp_store AgR rfl rfl rfl x12 rfl rfl (one4 (IsI.one (e4 E)) (IsI.one (e3 E))) ?_)
 intro w11 o11 y11
 replace E := (E.onl (x12.noW (now4 now0 now0)) ⟨okX (by omega), trivial, trivial, trivial, trivial, okX (by omega), okW (by omega), trivial⟩ o11).x y11
 clear x12 o11 y11
 refine ⟨E.2.2.2.2.2.2, ?_⟩
 simp only [Act.put]
 refine H1 (i := 9) (by kernel_rfl) ?_
 have x14 := E.2.1
 replace E := (E.2.2).x (E.1)
 refine HE (o := ⟨none, _, _, _, _, _⟩) rfl rfl (Oper.wp_store AgR rfl rfl rfl x14 rfl rfl (one4 (IsI.one (E.2.2.1)) (IsI.one (E.2.1))) ?_)
 intro w13 o13 y13
 replace E := (E.onl (x14.noW (now4 now0 now0)) ⟨okX (by omega), trivial, trivial, trivial, trivial, okX (by omega), okW (by omega), trivial⟩ o13).x y13
 clear x14 o13 y13
 refine ⟨E.2.2.2.2.2.2, ?_⟩
 simp only [Act.put]
 refine HN (by kernel_rfl) ?_
 change Code.wp _ _ _ _ _
 refine wp_seq ?_
 refine wp_seq ?_
 -- region 5
 refine wp_schedE E ([0, 1, 3, 4, 2, 5, 6, 7, 8, 9, 10, 12, 13, 11, 14, 15, 16, 17, 18, 19, 20, 22, 23, 21, 24, 25, 26, 27, 28, 29, 31, 30, 32, 33, 34, 35, 36, 37, 39, 38, 40, 41, 42, 43]) (by kernel_rfl) (by kernel_rfl) (by kernel_rfl) (by kernel_rfl) (by intro d v c a w h; cases d <;> exact h) ?_
 replace E := E.drew
 refine SW rfl rfl rfl rfl rfl (fun w hS => run_load_bx AgR rfl rfl (hS.2.1) rfl) <| SW rfl rfl rfl rfl rfl (fun w hS => run_load_bx AgR rfl rfl (hS.1) rfl) <| SW rfl rfl rfl rfl rfl (fun w hS => run_load_bx AgR rfl rfl (hS.2.1) rfl) <| SW rfl rfl rfl rfl rfl (fun w hS => run_load_bx AgR rfl rfl (hS.1) rfl) <| ?_
 simp only [q2,q3]
 refine S1a (o := ⟨some 32, _, _, _, _, _⟩) rfl rfl rfl rfl (Oper.wp_callP fn_rational_Add rfl (Add_q _ _ _ _ x _ _ _ _ y _ (e5 E) (e4 E) (e3 E) (E.2.2.1) (FitQ.mono Fx (by decide)) (FitQ.mono Fy (by decide))) rfl E ?_)
 clear E
 intro w16 n16 s16 m16 t16 d16 E
 clear d16
 refine ⟨E.2.2, ?_⟩
 simp only [Act.put,q1,q2,q3]
 have F15 : FitQ (x + y) 41 := FitQ_add Fx Fy
 refine S1a (o := ⟨some 35, _, _, _, _, _⟩) rfl rfl rfl rfl (Oper.wp_callP fn_eref02_Add rfl (RAdd_q _ _ _ _ x _ _ _ _ y _ (e7 E) (e6 E) (e5 E) (e4 E) (FitQ.mono Fx (by decide)) (FitQ.mono Fy (by decide))) rfl E ?_)
 clear E
 intro w17 n17 s17 m17 t17 d17 E
 clear d17
 refine ⟨E.2.2.2.2, ?_⟩
 simp only [Act.put,q1,q2,q3]
 refine S1a (o := ⟨some 36, _, _, _, _, _⟩) rfl rfl rfl rfl (Oper.wp_callB fn_eref02_Same rfl (Same_t _ _ _ _ ((x + y).num) (((x + y).den : Nat) : Int) _ _ _ _ ((x + y).num) (((x + y).den : Nat) : Int) _ (e3 E) (E.2.2.1) (E.2.1) (E.1) (congrArg Rat.num rfl) (congrArg (fun z => ((Rat.den z : Nat) : Int)) rfl)) rfl E ?_)
 clear E
 intro w18 d18 E
 clear d18
 refine ⟨E.2.2.2.2, ?_⟩
 simp only [Act.put,q1,q2,q3]
 refine SW (v := .bool false) rfl rfl rfl rfl rfl (fun w hS => run_not (b := true) rfl rfl) <| SM rfl rfl rfl rfl rfl rfl rfl rfl <| SW rfl rfl rfl (by kernel_rfl) rfl (fun w hS => run_load_bx AgR rfl rfl (hS.2.1) rfl) <| SW rfl rfl rfl (by kernel_rfl) rfl (fun w hS => run_load_bx AgR rfl rfl (hS.1) rfl) <| ?_
 simp only [q2,q3]
 refine SW rfl rfl rfl (by kernel_rfl) rfl (fun w hS => run_load_bx AgR rfl rfl (hS.2.1) rfl) <| SW rfl rfl rfl (by kernel_rfl) rfl (fun w hS => run_load_bx AgR rfl rfl (hS.1) rfl) <| ?_
 simp only [q2,q3]
 refine S1a (o := ⟨some 41, _, _, _, _, _⟩) rfl rfl rfl rfl (Oper.wp_callP fn_rational_Sub rfl (Sub_q _ _ _ _ x _ _ _ _ y _ (e9 E) (e8 E) (e7 E) (e6 E) (FitQ.mono Fx (by decide)) (FitQ.mono Fy (by decide))) rfl E ?_)
 clear E
 intro w20 n20 s20 m20 t20 d20 E
 clear d20
 refine ⟨E.2.2.2.2.2.2, ?_⟩
 simp only [Act.put,q1,q2,q3]
 have F19 : FitQ (x - y) 41 := FitQ_sub Fx Fy
 refine S1a (o := ⟨some 44, _, _, _, _, _⟩) rfl rfl rfl rfl (Oper.wp_callP fn_eref02_Sub rfl (RSub_q _ _ _ _ x _ _ _ _ y _ (e11 E) (e10 E) (e9 E) (e8 E) (FitQ.mono Fx (by decide)) (FitQ.mono Fy (by decide))) rfl E ?_)
 clear E
 intro w21 n21 s21 m21 t21 d21 E
 clear d21
 refine ⟨E.2.2.2.2.2.2.2.2, ?_⟩
 simp only [Act.put,q1,q2,q3]
 refine S1a (o := ⟨some 45, _, _, _, _, _⟩) rfl rfl rfl rfl (Oper.wp_callB fn_eref02_Same rfl (Same_t _ _ _ _ ((x - y).num) (((x - y).den : Nat) : Int) _ _ _ _ ((x - y).num) (((x - y).den : Nat) : Int) _ (e3 E) (E.2.2.1) (E.2.1) (E.1) (congrArg Rat.num rfl) (congrArg (fun z => ((Rat.den z : Nat) : Int)) rfl)) rfl E ?_)
 clear E
 intro w22 d22 E
 clear d22
 refine ⟨E.2.2.2.2.2.2.2.2, ?_⟩
 simp only [Act.put,q1,q2,q3]
 refine SW (v := .bool false) rfl rfl rfl (by kernel_rfl) rfl (fun w hS => run_not (b := true) rfl rfl) <| SW (v := .bool false) rfl rfl rfl rfl rfl (fun w hS => run_pick (b := false) rfl rfl rfl) <| SM rfl rfl rfl rfl rfl rfl rfl rfl <| SW rfl rfl rfl (by kernel_rfl) rfl (fun w hS => run_load_bx AgR rfl rfl (hS.2.1) rfl) <| ?_
 simp only [q2,q3]
 refine SW rfl rfl rfl (by kernel_rfl) rfl (fun w hS => run_load_bx AgR rfl rfl (hS.1) rfl) <| SW rfl rfl rfl (by kernel_rfl) rfl (fun w hS => run_load_bx AgR rfl rfl (hS.2.1) rfl) <| SW rfl rfl rfl (by kernel_rfl) rfl (fun w hS => run_load_bx AgR rfl rfl (hS.1) rfl) <| ?_
 simp only [q2,q3]
 refine S1a (o := ⟨some 51, _, _, _, _, _⟩) rfl rfl rfl rfl (Oper.wp_callP fn_rational_Mul rfl (Mul_q _ _ _ _ x _ _ _ _ y _ (e13 E) (e12 E) (e11 E) (e10 E) (FitQ.mono Fx (by decide)) (FitQ.mono Fy (by decide))) rfl E ?_)
 clear E
 intro w24 n24 s24 m24 t24 d24 E
 clear d24
 refine ⟨E.2.2.2.2.2.2.2.2.2.2, ?_⟩
 simp only [Act.put,q1,q2,q3]
 have F23 : FitQ (x * y) 40 := FitQ_mul Fx Fy
 refine S1a (o := ⟨some 54, _, _, _, _, _⟩) rfl rfl rfl rfl (Oper.wp_callP fn_eref02_Mul rfl (RMul_q _ _ _ _ x _ _ _ _ y _ (e15 E) (e14 E) (e13 E) (e12 E) (FitQ.mono Fx (by decide)) (FitQ.mono Fy (by decide))) rfl E ?_)
 clear E
 intro w25 n25 s25 m25 t25 d25 E
 clear d25
 refine ⟨E.2.2.2.2.2.2.2.2.2.2.2.2, ?_⟩
 simp only [Act.put,q1,q2,q3]
 refine S1a (o := ⟨some 55, _, _, _, _, _⟩) rfl rfl rfl rfl (Oper.wp_callB fn_eref02_Same rfl (Same_t _ _ _ _ ((x * y).num) (((x * y).den : Nat) : Int) _ _ _ _ ((x * y).num) (((x * y).den : Nat) : Int) _ (e3 E) (E.2.2.1) (E.2.1) (E.1) (congrArg Rat.num rfl) (congrArg (fun z => ((Rat.den z : Nat) : Int)) rfl)) rfl E ?_)
 clear E
 intro w26 d26 E
 clear d26
 refine ⟨E.2.2.2.2.2.2.2.2.2.2.2.2, ?_⟩
 simp only [Act.put,q1,q2,q3]
 refine SW (v := .bool false) rfl rfl rfl (by kernel_rfl) rfl (fun w hS => run_not (b := true) rfl rfl) <| SW (v := .bool false) rfl rfl rfl rfl rfl (fun w hS => run_pick (b := false) rfl rfl rfl) <| SM rfl rfl rfl rfl rfl rfl rfl rfl <| SW rfl rfl rfl (by kernel_rfl) rfl (fun w hS => run_load_bx AgR rfl rfl (hS.2.1) rfl) <| ?_
 simp only [q2,q3]
 refine SW rfl rfl rfl (by kernel_rfl) rfl (fun w hS => run_load_bx AgR rfl rfl (hS.2.1) rfl) <| ?_
 simp only [q2,q3]
 refine S1a (o := ⟨some 60, _, _, _, _, _⟩) rfl rfl rfl rfl (Oper.wp_callP fn_rational_Neg rfl (Neg_q _ _ _ _ x _ (e17 E) (e16 E) (FitQ.mono Fx (by decide))) rfl E ?_)
 clear E
 intro w28 n28 s28 m28 t28 d28 E
 clear d28
 refine ⟨E.2.2.2.2.2.2.2.2.2.2.2.2.2.2, ?_⟩
 simp only [Act.put,q1,q2,q3]
 have F27 : FitQ (-x) 20 := FitQ_neg Fx
 refine S1a (o := ⟨some 62, _, _, _, _, _⟩) rfl rfl rfl rfl (Oper.wp_callP fn_eref02_Neg rfl (RNeg_q _ _ _ _ x _ (e19 E) (e18 E) (FitQ.mono Fx (by decide))) rfl E ?_)
 clear E
 intro w29 n29 s29 m29 t29 d29 E
 clear d29
 refine ⟨E.2.2.2.2.2.2.2.2.2.2.2.2.2.2.2.2, ?_⟩
 simp only [Act.put,q1,q2,q3]
 refine S1a (o := ⟨some 63, _, _, _, _, _⟩) rfl rfl rfl rfl (Oper.wp_callB fn_eref02_Same rfl (Same_t _ _ _ _ ((-x).num) (((-x).den : Nat) : Int) _ _ _ _ ((-x).num) (((-x).den : Nat) : Int) _ (e3 E) (E.2.2.1) (E.2.1) (E.1) (congrArg Rat.num rfl) (congrArg (fun z => ((Rat.den z : Nat) : Int)) rfl)) rfl E ?_)
 clear E
 intro w30 d30 E
 clear d30
 refine ⟨E.2.2.2.2.2.2.2.2.2.2.2.2.2.2.2.2, ?_⟩
 simp only [Act.put,q1,q2,q3]
 refine SW (v := .bool false) rfl rfl rfl (by kernel_rfl) rfl (fun w hS => run_not (b := true) rfl rfl) <| SW (v := .bool false) rfl rfl rfl rfl rfl (fun w hS => run_pick (b := false) rfl rfl rfl) <| SM rfl rfl rfl rfl rfl rfl rfl rfl <| SM rfl rfl rfl (by kernel_rfl) rfl rfl rfl rfl <| ?_
 simp only [q2,q3]
 refine SM rfl rfl rfl (by kernel_rfl) rfl rfl rfl rfl <| ?_
 simp only [q2,q3]
 refine S1a (o := ⟨some 68, _, _, _, _, _⟩) rfl rfl rfl rfl (Oper.wp_callP fn_rational_Whole rfl (Whole_z n _ rn1 rn2) rfl E ?_)
 clear E
 intro w32 n32 s32 m32 t32 d32 E
 clear d32
 refine ⟨E.2.2.2.2.2.2.2.2.2.2.2.2.2.2.2.2.2.2, ?_⟩
 simp only [Act.put,q1,q2,q3]
 have F31 : FitQ ((n : Int) : Rat) 4 := FitQ_int (k := 4) (by decide) (Fits_of64 rn1 rn2)
 refine S1a (o := ⟨some 70, _, _, _, _, _⟩) rfl rfl rfl rfl (Oper.wp_callP fn_eref02_Whole rfl (RWhole_z n _ rn1 rn2) rfl E ?_)
 clear E
 intro w33 n33 s33 m33 t33 d33 E
 clear d33
 refine ⟨E.2.2.2.2.2.2.2.2.2.2.2.2.2.2.2.2.2.2.2.2, ?_⟩
 simp only [Act.put,q1,q2,q3]
 refine S1a (o := ⟨some 71, _, _, _, _, _⟩) rfl rfl rfl rfl (Oper.wp_callB fn_eref02_Same rfl (Same_t _ _ _ _ (((n : Int) : Rat).num) ((((n : Int) : Rat).den : Nat) : Int) _ _ _ _ (((n : Int) : Rat).num) ((((n : Int) : Rat).den : Nat) : Int) _ (e3 E) (E.2.2.1) (E.2.1) (E.1) (congrArg Rat.num rfl) (congrArg (fun z => ((Rat.den z : Nat) : Int)) rfl)) rfl E ?_)
 clear E
 intro w34 d34 E
 clear d34
 refine ⟨E.2.2.2.2.2.2.2.2.2.2.2.2.2.2.2.2.2.2.2.2, ?_⟩
 simp only [Act.put,q1,q2,q3]
 refine SW (v := .bool false) rfl rfl rfl (by kernel_rfl) rfl (fun w hS => run_not (b := true) rfl rfl) <| SW (v := .bool false) rfl rfl rfl rfl rfl (fun w hS => run_pick (b := false) rfl rfl rfl) <| ?_
 simp only [q2,q3]
 refine SN ?_
 change Code.wp _ _ _ _ _
 refine wp_cond_false rfl ?_
 refine wp_skip ?_
 change Code.wp _ _ _ _ _
 refine wp_seq ?_
 -- region 7
 refine RL ?_
 refine V rfl rfl (run_load_bx AgR rfl rfl (e21 E) rfl) <| ?_
 simp only [q2,q3]
 refine EF rfl (Oper.wp_callPE fn_rational_Inv rfl (Inv_a _ _ _ _ x _ (e25 E) (e24 E) (FitQ.mono Fx (by decide))) rfl E ?_)
 clear E
 intro w35 n35 s35 m35 t35 d35 E
 clear d35
 refine kw rfl ?_
 refine M rfl rfl rfl rfl rfl <| V rfl rfl (run_extract (vs := [.agg #[.bool n35, s35, .bool m35, t35], .int .i64 (okE (decide (x ≠ 0)))]) rfl rfl rfl) <| V rfl rfl (run_extract (vs := [.agg #[.bool n35, s35, .bool m35, t35], .int .i64 (okE (decide (x ≠ 0)))]) rfl rfl rfl) <| ?_
 simp only [q2,q3]
 refine EF rfl (Oper.wp_alloc AgR rfl ?_)
 intro b36 w36 e36 z36 d36 x36
 have l36_0 : b9 < b36 := by rw [e36]; exact Bx.lt (e22 E)
 have l36_1 : b8 < b36 := by rw [e36]; exact Bx.lt (e23 E)
 replace E := E.below d36
 clear e36 z36 d36
 refine kw rfl ?_
 simp only [q2,q3]
 refine EF rfl (Oper.wp_store AgR rfl rfl rfl x36 rfl rfl (one4 (IsI.one (E.2.1)) (IsI.one (E.1))) ?_)
 intro w37 o37 y37
 replace E := (E.onl (x36.noW (now4 now0 now0)) ⟨trivial, trivial, trivial, trivial, trivial, trivial, trivial, trivial, trivial, trivial, trivial, trivial, trivial, trivial, trivial, trivial, trivial, trivial, trivial, trivial, trivial, trivial, okX (by omega), okX (by omega), trivial, trivial, trivial, trivial, okX (by omega), okW (by omega), trivial⟩ o37).x y37
 clear x36 o37 y37
 refine kn rfl ?_
 refine A rfl rfl rfl rfl rfl <| ?_
 simp only [q2,q3]
 refine WN ?_
 change Code.wp _ _ _ _ _
 refine wp_seq ?_
 -- region 8
 refine RL ?_
 refine V rfl rfl (run_load_bx AgR rfl rfl (e24 E) rfl) <| ?_
 simp only [q2,q3]
 refine EF rfl (Oper.wp_callPE fn_eref02_Inv rfl (RInv_a _ _ _ _ x _ (e28 E) (e27 E) (FitQ.mono Fx (by decide))) rfl E ?_)
 clear E
 intro w38 n38 s38 m38 t38 d38 E
 clear d38
 refine kw rfl ?_
 refine M rfl rfl rfl rfl rfl <| V rfl rfl (run_extract (vs := [.agg #[.bool n38, s38, .bool m38, t38], .int .i64 (okE (decide (x ≠ 0)))]) rfl rfl rfl) <| V rfl rfl (run_extract (vs := [.agg #[.bool n38, s38, .bool m38, t38], .int .i64 (okE (decide (x ≠ 0)))]) rfl rfl rfl) <| ?_
 simp only [q2,q3]
 refine EF rfl (Oper.wp_alloc AgR rfl ?_)
 intro b39 w39 e39 z39 d39 x39
 have l39_0 : b36 < b39 := by rw [e39]; exact Bx.lt (E.2.2.1)
 replace E := E.below d39
 clear e39 z39 d39
 refine kw rfl ?_
 simp only [q2,q3]
 refine EF rfl (Oper.wp_store AgR rfl rfl rfl x39 rfl rfl (one4 (IsI.one (E.2.1)) (IsI.one (E.1))) ?_)
 intro w40 o40 y40
 replace E := (E.onl (x39.noW (now4 now0 now0)) ⟨trivial, trivial, okX (by omega), trivial, trivial, trivial, trivial, trivial, trivial, trivial, trivial, trivial, trivial, trivial, trivial, trivial, trivial, trivial, trivial, trivial, trivial, trivial, trivial, trivial, trivial, okX (by omega), okX (by omega), trivial, trivial, trivial, trivial, okX (by omega), okW (by omega), trivial⟩ o40).x y40
 clear x39 o40 y40
 refine kn rfl ?_
 refine A rfl rfl rfl rfl rfl <| ?_
 simp only [q2,q3]
 refine WN ?_
 change Code.wp _ _ _ _ _
 refine wp_seq ?_
 -- region 9
 refine RL ?_
 refine V rfl rfl (run_load_bx AgR rfl rfl (e27 E) rfl) <| V rfl rfl (run_load_bx AgR rfl rfl (e26 E) rfl) <| ?_
 simp only [q2,q3]
 refine EF rfl (Oper.wp_callPE fn_rational_Div rfl (Div_a _ _ _ _ x _ _ _ _ y _ (E.2.2.2.2.2.2.2.2.2.2.2.2.2.2.2.2.2.2.2.2.2.2.2.2.2.2.2.2.2.2.2.1) (E.2.2.2.2.2.2.2.2.2.2.2.2.2.2.2.2.2.2.2.2.2.2.2.2.2.2.2.2.2.2.1) (FitQ.mono Fx (by decide)) (e29 E) (e28 E) (FitQ.mono Fy (by decide))) rfl E ?_)
 clear E
 intro w41 n41 s41 m41 t41 d41 E
 clear d41
 refine kw rfl ?_
 refine M rfl rfl rfl rfl rfl <| V rfl rfl (run_extract (vs := [.agg #[.bool n41, s41, .bool m41, t41], .int .i64 (okE (decide (y ≠ 0)))]) rfl rfl rfl) <| V rfl rfl (run_extract (vs := [.agg #[.bool n41, s41, .bool m41, t41], .int .i64 (okE (decide (y ≠ 0)))]) rfl rfl rfl) <| ?_
 simp only [q2,q3]
 refine EF rfl (Oper.wp_alloc AgR rfl ?_)
 intro b42 w42 e42 z42 d42 x42
 have l42_0 : b39 < b42 := by rw [e42]; exact Bx.lt (E.2.2.1)
 replace E := E.below d42
 clear e42 z42 d42
 refine kw rfl ?_
 simp only [q2,q3]
 refine EF rfl (Oper.wp_store AgR rfl rfl rfl x42 rfl rfl (one4 (IsI.one (E.2.1)) (IsI.one (E.1))) ?_)
 intro w43 o43 y43
 replace E := (E.onl (x42.noW (now4 now0 now0)) ⟨trivial, trivial, okX (by omega), trivial, trivial, okX (by omega), trivial, trivial, trivial, trivial, trivial, trivial, trivial, trivial, trivial, trivial, trivial, trivial, trivial, trivial, trivial, trivial, trivial, trivial, trivial, trivial, trivial, trivial, okX (by omega), okX (by omega), trivial, trivial, trivial, trivial, okX (by omega), okW (by omega), trivial⟩ o43).x y43
 clear x42 o43 y43
 refine kn rfl ?_
 refine A rfl rfl rfl rfl rfl <| ?_
 simp only [q2,q3]
 refine WN ?_
 change Code.wp _ _ _ _ _
 refine wp_seq ?_
 -- region 10
 refine RL ?_
 refine V rfl rfl (run_load_bx AgR rfl rfl (E.2.2.2.2.2.2.2.2.2.2.2.2.2.2.2.2.2.2.2.2.2.2.2.2.2.2.2.2.2.2.1) rfl) <| V rfl rfl (run_load_bx AgR rfl rfl (e29 E) rfl) <| ?_
 simp only [q2,q3]
 refine EF rfl (Oper.wp_callPE fn_eref02_Div rfl (RDiv_a _ _ _ _ x _ _ _ _ y _ (E.2.2.2.2.2.2.2.2.2.2.2.2.2.2.2.2.2.2.2.2.2.2.2.2.2.2.2.2.2.2.2.2.2.2.1) (E.2.2.2.2.2.2.2.2.2.2.2.2.2.2.2.2.2.2.2.2.2.2.2.2.2.2.2.2.2.2.2.2.2.1) (FitQ.mono Fx (by decide)) (E.2.2.2.2.2.2.2.2.2.2.2.2.2.2.2.2.2.2.2.2.2.2.2.2.2.2.2.2.2.2.2.2.1) (E.2.2.2.2.2.2.2.2.2.2.2.2.2.2.2.2.2.2.2.2.2.2.2.2.2.2.2.2.2.2.2.1) (FitQ.mono Fy (by decide))) rfl E ?_)
 clear E
 intro w44 n44 s44 m44 t44 d44 E
 clear d44
 refine kw rfl ?_
 refine M rfl rfl rfl rfl rfl <| V rfl rfl (run_extract (vs := [.agg #[.bool n44, s44, .bool m44, t44], .int .i64 (okE (decide (y ≠ 0)))]) rfl rfl rfl) <| V rfl rfl (run_extract (vs := [.agg #[.bool n44, s44, .bool m44, t44], .int .i64 (okE (decide (y ≠ 0)))]) rfl rfl rfl) <| ?_
 simp only [q2,q3]
 refine EF rfl (Oper.wp_alloc AgR rfl ?_)
 intro b45 w45 e45 z45 d45 x45
 have l45_0 : b42 < b45 := by rw [e45]; exact Bx.lt (E.2.2.1)
 replace E := E.below d45
 clear e45 z45 d45
 refine kw rfl ?_
 simp only [q2,q3]
 refine EF rfl (Oper.wp_store AgR rfl rfl rfl x45 rfl rfl (one4 (IsI.one (E.2.1)) (IsI.one (E.1))) ?_)
 intro w46 o46 y46
 replace E := (E.onl (x45.noW (now4 now0 now0)) ⟨trivial, trivial, okX (by omega), trivial, trivial, okX (by omega), trivial, trivial, okX (by omega), trivial, trivial, trivial, trivial, trivial, trivial, trivial, trivial, trivial, trivial, trivial, trivial, trivial, trivial, trivial, trivial, trivial, trivial, trivial, trivial, trivial, trivial, okX (by omega), okX (by omega), trivial, trivial, trivial, trivial, okX (by omega), okW (by omega), trivial⟩ o46).x y46
 clear x45 o46 y46
 refine kn rfl ?_
 refine A rfl rfl rfl rfl rfl <| ?_
 simp only [q2,q3]
 refine WN ?_
 change Code.wp _ _ _ _ _
 refine wp_seq ?_
 by_cases hxy : x ≤ y
 case pos =>
  -- region 11
  refine RL ?_
  refine V rfl rfl (run_load_bx AgR rfl rfl (E.2.2.2.2.2.2.2.2.2.2.2.2.2.2.2.2.2.2.2.2.2.2.2.2.2.2.2.2.2.2.2.2.2.1) rfl) <| V rfl rfl (run_load_bx AgR rfl rfl (E.2.2.2.2.2.2.2.2.2.2.2.2.2.2.2.2.2.2.2.2.2.2.2.2.2.2.2.2.2.2.2.2.1) rfl) <| ?_
  simp only [q2,q3]
  refine EF rfl (Oper.wp_callBt fn_rational_Between rfl (Between_le _ _ _ _ x _ _ _ _ y _ (E.2.2.2.2.2.2.2.2.2.2.2.2.2.2.2.2.2.2.2.2.2.2.2.2.2.2.2.2.2.2.2.2.2.2.2.2.2.1) (E.2.2.2.2.2.2.2.2.2.2.2.2.2.2.2.2.2.2.2.2.2.2.2.2.2.2.2.2.2.2.2.2.2.2.2.2.1) (E.2.2.2.2.2.2.2.2.2.2.2.2.2.2.2.2.2.2.2.2.2.2.2.2.2.2.2.2.2.2.2.2.2.2.2.1) (E.2.2.2.2.2.2.2.2.2.2.2.2.2.2.2.2.2.2.2.2.2.2.2.2.2.2.2.2.2.2.2.2.2.2.1) hxy (FitQ.mono Fx (by decide)) (FitQ.mono Fy (by decide))) rfl E ?_)
  clear E
  rintro w47 c n47 s47 m47 t47 hc d47 E
  clear d47
  refine kw rfl ?_
  refine M rfl rfl rfl rfl rfl <| V rfl rfl (run_extract (vs := [.agg #[.bool n47, s47, .bool m47, t47], .int .i64 0]) rfl rfl rfl) <| V rfl rfl (run_extract (vs := [.agg #[.bool n47, s47, .bool m47, t47], .int .i64 0]) rfl rfl rfl) <| ?_
  simp only [q2,q3]
  refine EF rfl (Oper.wp_alloc AgR rfl ?_)
  intro b48 w48 e48 z48 d48 x48
  have l48_0 : b45 < b48 := by rw [e48]; exact Bx.lt (E.2.2.1)
  replace E := E.below d48
  clear e48 z48 d48
  refine kw rfl ?_
  simp only [q2,q3]
  refine EF rfl (Oper.wp_store AgR rfl rfl rfl x48 rfl rfl (one4 (IsI.one (E.2.1)) (IsI.one (E.1))) ?_)
  intro w49 o49 y49
  replace E := (E.onl (x48.noW (now4 now0 now0)) ⟨trivial, trivial, okX (by omega), trivial, trivial, okX (by omega), trivial, trivial, okX (by omega), trivial, trivial, okX (by omega), trivial, trivial, trivial, trivial, trivial, trivial, trivial, trivial, trivial, trivial, trivial, trivial, trivial, trivial, trivial, trivial, trivial, trivial, trivial, trivial, trivial, trivial, okX (by omega), okX (by omega), trivial, trivial, trivial, trivial, okX (by omega), okW (by omega), trivial⟩ o49).x y49
  clear x48 o49 y49
  refine kn rfl ?_
  refine A rfl rfl rfl rfl rfl <| ?_
  simp only [q2,q3]
  refine WN ?_
  change Code.wp _ _ _ _ _
  refine wp_seq ?_
  -- region 12
  refine RL ?_
  refine V rfl rfl (run_load_bx AgR rfl rfl (E.2.2.2.2.2.2.2.2.2.2.2.2.2.2.2.2.2.2.2.2.2.2.2.2.2.2.2.2.2.2.2.2.2.2.2.2.1) rfl) <| V rfl rfl (run_load_bx AgR rfl rfl (E.2.2.2.2.2.2.2.2.2.2.2.2.2.2.2.2.2.2.2.2.2.2.2.2.2.2.2.2.2.2.2.2.2.2.2.1) rfl) <| ?_
  simp only [q2,q3]
  refine EF rfl (Oper.wp_callPE fn_eref02_Between rfl ((RBetween_le _ _ _ _ x _ _ _ _ y _ (E.2.2.2.2.2.2.2.2.2.2.2.2.2.2.2.2.2.2.2.2.2.2.2.2.2.2.2.2.2.2.2.2.2.2.2.2.2.2.2.2.1) (E.2.2.2.2.2.2.2.2.2.2.2.2.2.2.2.2.2.2.2.2.2.2.2.2.2.2.2.2.2.2.2.2.2.2.2.2.2.2.2.1) (E.2.2.2.2.2.2.2.2.2.2.2.2.2.2.2.2.2.2.2.2.2.2.2.2.2.2.2.2.2.2.2.2.2.2.2.2.2.2.1) (E.2.2.2.2.2.2.2.2.2.2.2.2.2.2.2.2.2.2.2.2.2.2.2.2.2.2.2.2.2.2.2.2.2.2.2.2.2.1) hxy (FitQ.mono Fx (by decide)) (FitQ.mono Fy (by decide))).mono fun _ _ h => h.isR hxy hc) rfl E ?_)
  clear E
  intro w50 n50 s50 m50 t50 d50 E
  clear d50
  refine kw rfl ?_
  refine M rfl rfl rfl rfl rfl <| V rfl rfl (run_extract (vs := [.agg #[.bool n50, s50, .bool m50, t50], .int .i64 0]) rfl rfl rfl) <| V rfl rfl (run_extract (vs := [.agg #[.bool n50, s50, .bool m50, t50], .int .i64 0]) rfl rfl rfl) <| ?_
  simp only [q2,q3]
  refine EF rfl (Oper.wp_alloc AgR rfl ?_)
  intro b51 w51 e51 z51 d51 x51
  have l51_0 : b48 < b51 := by rw [e51]; exact Bx.lt (E.2.2.1)
  replace E := E.below d51
  clear e51 z51 d51
  refine kw rfl ?_
  simp only [q2,q3]
  refine EF rfl (Oper.wp_store AgR rfl rfl rfl x51 rfl rfl (one4 (IsI.one (E.2.1)) (IsI.one (E.1))) ?_)
  intro w52 o52 y52
  replace E := (E.onl (x51.noW (now4 now0 now0)) ⟨trivial, trivial, okX (by omega), trivial, trivial, okX (by omega), trivial, trivial, okX (by omega), trivial, trivial, okX (by omega), trivial, trivial, okX (by omega), trivial, trivial, trivial, trivial, trivial, trivial, trivial, trivial, trivial, trivial, trivial, trivial, trivial, trivial, trivial, trivial, trivial, trivial, trivial, trivial, trivial, trivial, okX (by omega), okX (by omega), trivial, trivial, trivial, trivial, okX (by omega), okW (by omega), trivial⟩ o52).x y52
  clear x51 o52 y52
  refine kn rfl ?_
  refine A rfl rfl rfl rfl rfl <| ?_
  simp only [q2,q3]
  refine WN ?_
  change Code.wp _ _ _ _ _
  refine wp_seq ?_
  -- region 13
  refine RL ?_
  refine V rfl rfl (run_load_bx AgR rfl rfl (E.2.2.2.2.2.2.2.2.2.2.2.2.2.2.2.2.2.2.2.2.2.2.2.2.2.2.2.2.2.2.2.2.2.2.2.2.2.2.2.1) rfl) <| ?_
  simp only [q2,q3]
  refine EF rfl (Oper.wp_callI fn_rational_Floor rfl (Floor_q _ _ _ _ x _ (E.2.2.2.2.2.2.2.2.2.2.2.2.2.2.2.2.2.2.2.2.2.2.2.2.2.2.2.2.2.2.2.2.2.2.2.2.2.2.2.2.2.2.2.1) (E.2.2.2.2.2.2.2.2.2.2.2.2.2.2.2.2.2.2.2.2.2.2.2.2.2.2.2.2.2.2.2.2.2.2.2.2.2.2.2.2.2.2.1) (FitQ.mono Fx (by decide))) rfl E ?_)
  clear E
  intro w54 n54 s54 d54 E
  clear d54
  refine kw rfl ?_
  have F53 : Fits x.floor 20 := Fits_floorQ Fx
  simp only [q2,q3]
  refine EF rfl (Oper.wp_alloc AgI rfl ?_)
  intro b55 w55 e55 z55 d55 x55
  have l55_0 : b51 < b55 := by rw [e55]; exact Bx.lt (E.2.1)
  replace E := E.below d55
  clear e55 z55 d55
  refine kw rfl ?_
  simp only [q2,q3]
  refine EF rfl (Oper.wp_store AgI rfl rfl rfl x55 rfl rfl (IsI.one (E.1)) ?_)
  intro w56 o56 y56
  replace E := (E.onl (x55.noW now0) ⟨trivial, okX (by omega), trivial, trivial, okX (by omega), trivial, trivial, okX (by omega), trivial, trivial, okX (by omega), trivial, trivial, okX (by omega), trivial, trivial, okX (by omega), trivial, trivial, trivial, trivial, trivial, trivial, trivial, trivial, trivial, trivial, trivial, trivial, trivial, trivial, trivial, trivial, trivial, trivial, trivial, trivial, trivial, trivial, okX (by omega), okX (by omega), trivial, trivial, trivial, trivial, okX (by omega), okW (by omega), trivial⟩ o56).b y56
  clear x55 o56 y56
  refine kn rfl ?_
  refine WN ?_
  change Code.wp _ _ _ _ _
  refine wp_seq ?_
  refine wp_seq ?_
  -- region 14
  refine wp_schedE E ([0, 1, 2, 3, 4, 5, 6, 7, 8, 9, 10, 11, 12, 13, 14, 15, 16, 17, 18, 19, 20, 21, 22, 23, 24, 25, 26, 27, 28]) (by kernel_rfl) (by kernel_rfl) (by kernel_rfl) (by kernel_rfl) (by intro d v c a w h; cases d <;> exact h) ?_
  replace E := E.drew
  refine SW rfl rfl rfl rfl rfl (fun w hS => run_load_bx AgR rfl rfl (e17 hS) rfl) <| SM rfl rfl rfl rfl rfl rfl rfl rfl <| SW rfl rfl rfl rfl rfl (fun w hS => run_load_bx AgR rfl rfl (e14 hS) rfl) <| SM rfl rfl rfl rfl rfl rfl rfl rfl <| ?_
  simp only [q2,q3]
  refine S1a (o := ⟨some 114, _, _, _, _, _⟩) rfl rfl rfl rfl (Oper.wp_callB fn_elaw02_alike rfl (alike_t (okE (decide (x ≠ 0))) _ _ _ _ (okN (decide (x ≠ 0)) x⁻¹) (okD (decide (x ≠ 0)) x⁻¹) _ _ _ _ (okN (decide (x ≠ 0)) x⁻¹) (okD (decide (x ≠ 0)) x⁻¹) _ (e19 E) (e18 E) (e16 E) (e15 E) rfl rfl) rfl E ?_)
  clear E
  intro w57 d57 E
  clear d57
  refine ⟨E, ?_⟩
  simp only [Act.put,q1,q2,q3]
  refine SW (v := .bool false) rfl rfl rfl rfl rfl (fun w hS => run_not (b := true) rfl rfl) <| SM rfl rfl rfl rfl rfl rfl rfl rfl <| SW rfl rfl rfl (by kernel_rfl) rfl (fun w hS => run_load_bx AgR rfl rfl (e11 hS) rfl) <| SM rfl rfl rfl (by kernel_rfl) rfl rfl rfl rfl <| ?_
  simp only [q2,q3]
  refine SW rfl rfl rfl (by kernel_rfl) rfl (fun w hS => run_load_bx AgR rfl rfl (e8 hS) rfl) <| SM rfl rfl rfl (by kernel_rfl) rfl rfl rfl rfl <| ?_
  simp only [q2,q3]
  refine S1a (o := ⟨some 121, _, _, _, _, _⟩) rfl rfl rfl rfl (Oper.wp_callB fn_elaw02_alike rfl (alike_t (okE (decide (y ≠ 0))) _ _ _ _ (okN (decide (y ≠ 0)) (x / y)) (okD (decide (y ≠ 0)) (x / y)) _ _ _ _ (okN (decide (y ≠ 0)) (x / y)) (okD (decide (y ≠ 0)) (x / y)) _ (e13 E) (e12 E) (e10 E) (e9 E) rfl rfl) rfl E ?_)
  clear E
  intro w58 d58 E
  clear d58
  refine ⟨E, ?_⟩
  simp only [Act.put,q1,q2,q3]
  refine SW (v := .bool false) rfl rfl rfl (by kernel_rfl) rfl (fun w hS => run_not (b := true) rfl rfl) <| SW (v := .bool false) rfl rfl rfl rfl rfl (fun w hS => run_pick (b := false) rfl rfl rfl) <| SM rfl rfl rfl rfl rfl rfl rfl rfl <| SW rfl rfl rfl (by kernel_rfl) rfl (fun w hS => run_load_bx AgR rfl rfl (e5 hS) rfl) <| ?_
  simp only [q2,q3]
  refine SM rfl rfl rfl (by kernel_rfl) rfl rfl rfl rfl <| SW rfl rfl rfl (by kernel_rfl) rfl (fun w hS => run_load_bx AgR rfl rfl (hS.2.2.1) rfl) <| SM rfl rfl rfl (by kernel_rfl) rfl rfl rfl rfl <| ?_
  simp only [q2,q3]
  refine S1a (o := ⟨some 129, _, _, _, _, _⟩) rfl rfl rfl rfl (Oper.wp_callB fn_elaw02_alike rfl (alike_t 0 _ _ _ _ c.num ((c.den : Nat) : Int) _ _ _ _ c.num ((c.den : Nat) : Int) _ (e7 E) (e6 E) (e4 E) (e3 E) rfl rfl) rfl E ?_)
  clear E
  intro w59 d59 E
  clear d59
  refine ⟨E, ?_⟩
  simp only [Act.put,q1,q2,q3]
  refine SW (v := .bool false) rfl rfl rfl (by kernel_rfl) rfl (fun w hS => run_not (b := true) rfl rfl) <| SW (v := .bool false) rfl rfl rfl rfl rfl (fun w hS => run_pick (b := false) rfl rfl rfl) <| SM rfl rfl rfl rfl rfl rfl rfl rfl <| SW rfl rfl rfl (by kernel_rfl) rfl (fun w hS => run_load_bx AgI rfl rfl (hS.1) rfl) <| ?_
  simp only [q2,q3]
  refine SW rfl rfl rfl (by kernel_rfl) rfl (fun w hS => run_load_bx AgR rfl rfl (hS.2.2.2.2.2.2.2.2.2.2.2.2.2.2.2.2.2.2.2.2.2.2.2.2.2.2.2.2.2.2.2.2.2.2.2.2.2.2.2.2.2.1) rfl) <| ?_
  simp only [q2,q3]
  refine S1a (o := ⟨some 135, _, _, _, _, _⟩) rfl rfl rfl rfl (Oper.wp_callI fn_eref02_Floor rfl (RFloor_q _ _ _ _ x _ (E.2.2.2.2.2.2.2.2.2.2.2.2.2.2.2.2.2.2.2.2.2.2.2.2.2.2.2.2.2.2.2.2.2.2.2.2.2.2.2.2.2.2.2.2.2.1) (E.2.2.2.2.2.2.2.2.2.2.2.2.2.2.2.2.2.2.2.2.2.2.2.2.2.2.2.2.2.2.2.2.2.2.2.2.2.2.2.2.2.2.2.2.1) (FitQ.mono Fx (by decide))) rfl E ?_)
  clear E
  intro w60 n60 s60 d60 E
  clear d60
  refine ⟨E.2, ?_⟩
  simp only [Act.put,q1,q2,q3]
  refine S1a (o := ⟨some 136, _, _, _, _, _⟩) rfl rfl rfl rfl (Oper.wp_callN fn_integer_Cmp rfl (Cmp_z _ _ x.floor x.floor _ (E.2.2.1) (E.1)) rfl E ?_)
  clear E
  intro w61 d61 E
  clear d61
  refine ⟨E.2, ?_⟩
  simp only [Act.put,q1,q2,q3]
  refine SW rfl rfl rfl (by kernel_rfl) rfl (fun w hS => run_neI (c := false) rfl rfl rfl (by rw [cmpI_eq rfl]; rfl)) <| SW (v := .bool false) rfl rfl rfl rfl rfl (fun w hS => run_pick (b := false) rfl rfl rfl) <| ?_
  simp only [q2,q3]
  refine SN ?_
  change Code.wp _ _ _ _ _
  refine wp_cond_false rfl ?_
  refine wp_skip ?_
  change Code.wp _ _ _ _ _
  refine wp_seq ?_
  -- region 16
  refine wp_schedE E ([0, 2, 1, 3, 4, 5, 6, 7, 9, 10, 8, 11, 12, 13, 14, 15, 17, 16, 18, 19, 20, 21, 22, 24, 23, 25, 26, 27, 28, 29, 30, 31]) (by kernel_rfl) (by kernel_rfl) (by kernel_rfl) (by kernel_rfl) (by intro d v c a w h; cases d <;> exact h) ?_
  replace E := E.drew
  refine SW rfl rfl rfl rfl rfl (fun w hS => run_load_bx AgR rfl rfl (hS.2.2.2.2.2.2.2.2.2.2.2.2.2.2.2.2.2.2.2.2.2.2.2.2.2.2.2.2.2.2.2.2.2.2.2.2.2.2.2.2.2.2.1) rfl) <| SW rfl rfl rfl rfl rfl (fun w hS => run_load_bx AgR rfl rfl (hS.2.2.2.2.2.2.2.2.2.2.2.2.2.2.2.2.2.2.2.2.2.2.2.2.2.2.2.2.2.2.2.2.2.2.2.2.2.2.2.2.2.2.1) rfl) <| ?_
  simp only [q2,q3]
  refine S1a (o := ⟨some 140, _, _, _, _, _⟩) rfl rfl rfl rfl (Oper.wp_callN fn_rational_Sign rfl (Sign_q _ _ _ _ x _ (E.2.2.2.2.2.2.2.2.2.2.2.2.2.2.2.2.2.2.2.2.2.2.2.2.2.2.2.2.2.2.2.2.2.2.2.2.2.2.2.2.2.2.2.2.2.2.1) (E.2.2.2.2.2.2.2.2.2.2.2.2.2.2.2.2.2.2.2.2.2.2.2.2.2.2.2.2.2.2.2.2.2.2.2.2.2.2.2.2.2.2.2.2.2.1)) rfl E ?_)
  clear E
  intro w62 d62 E
  clear d62
  refine ⟨E, ?_⟩
  simp only [Act.put,q1,q2,q3]
  refine S1a (o := ⟨some 142, _, _, _, _, _⟩) rfl rfl rfl rfl (Oper.wp_callN fn_eref02_Sign rfl (RSign_q _ _ _ _ x _ (E.2.2.2.2.2.2.2.2.2.2.2.2.2.2.2.2.2.2.2.2.2.2.2.2.2.2.2.2.2.2.2.2.2.2.2.2.2.2.2.2.2.2.2.2.2.2.1) (E.2.2.2.2.2.2.2.2.2.2.2.2.2.2.2.2.2.2.2.2.2.2.2.2.2.2.2.2.2.2.2.2.2.2.2.2.2.2.2.2.2.2.2.2.2.1)) rfl E ?_)
  clear E
  intro w63 d63 E
  clear d63
  refine ⟨E, ?_⟩
  simp only [Act.put,q1,q2,q3]
  refine SW rfl rfl rfl rfl rfl (fun w hS => run_eqI (c := true) rfl rfl rfl (beq_self_eq_true _)) <| SM rfl rfl rfl rfl rfl rfl rfl rfl <| SW rfl rfl rfl (by kernel_rfl) rfl (fun w hS => run_load_bx AgR rfl rfl (hS.2.2.2.2.2.2.2.2.2.2.2.2.2.2.2.2.2.2.2.2.2.2.2.2.2.2.2.2.2.2.2.2.2.2.2.2.2.2.2.2.2.2.1) rfl) <| SW rfl rfl rfl (by kernel_rfl) rfl (fun w hS => run_load_bx AgR rfl rfl (hS.2.2.2.2.2.2.2.2.2.2.2.2.2.2.2.2.2.2.2.2.2.2.2.2.2.2.2.2.2.2.2.2.2.2.2.2.2.2.2.2.2.1) rfl) <| ?_
  simp only [q2,q3]
  refine SW rfl rfl rfl (by kernel_rfl) rfl (fun w hS => run_load_bx AgR rfl rfl (hS.2.2.2.2.2.2.2.2.2.2.2.2.2.2.2.2.2.2.2.2.2.2.2.2.2.2.2.2.2.2.2.2.2.2.2.2.2.2.2.2.2.2.1) rfl) <| SW rfl rfl rfl (by kernel_rfl) rfl (fun w hS => run_load_bx AgR rfl rfl (hS.2.2.2.2.2.2.2.2.2.2.2.2.2.2.2.2.2.2.2.2.2.2.2.2.2.2.2.2.2.2.2.2.2.2.2.2.2.2.2.2.2.1) rfl) <| ?_
  simp only [q2,q3]
  refine S1a (o := ⟨some 147, _, _, _, _, _⟩) rfl rfl rfl rfl (Oper.wp_callN fn_rational_Cmp rfl (Cmp_q _ _ _ _ x _ _ _ _ y _ (E.2.2.2.2.2.2.2.2.2.2.2.2.2.2.2.2.2.2.2.2.2.2.2.2.2.2.2.2.2.2.2.2.2.2.2.2.2.2.2.2.2.2.2.2.2.2.1) (E.2.2.2.2.2.2.2.2.2.2.2.2.2.2.2.2.2.2.2.2.2.2.2.2.2.2.2.2.2.2.2.2.2.2.2.2.2.2.2.2.2.2.2.2.2.1) (E.2.2.2.2.2.2.2.2.2.2.2.2.2.2.2.2.2.2.2.2.2.2.2.2.2.2.2.2.2.2.2.2.2.2.2.2.2.2.2.2.2.2.2.2.1) (E.2.2.2.2.2.2.2.2.2.2.2.2.2.2.2.2.2.2.2.2.2.2.2.2.2.2.2.2.2.2.2.2.2.2.2.2.2.2.2.2.2.2.2.1) (FitQ.mono Fx (by decide)) (FitQ.mono Fy (by decide))) rfl E ?_)
  clear E
  intro w64 d64 E
  clear d64
  refine ⟨E, ?_⟩
  simp only [Act.put,q1,q2,q3]
  refine S1a (o := ⟨some 150, _, _, _, _, _⟩) rfl rfl rfl rfl (Oper.wp_callN fn_eref02_Cmp rfl (RCmp_q _ _ _ _ x _ _ _ _ y _ (E.2.2.2.2.2.2.2.2.2.2.2.2.2.2.2.2.2.2.2.2.2.2.2.2.2.2.2.2.2.2.2.2.2.2.2.2.2.2.2.2.2.2.2.2.2.2.1) (E.2.2.2.2.2.2.2.2.2.2.2.2.2.2.2.2.2.2.2.2.2.2.2.2.2.2.2.2.2.2.2.2.2.2.2.2.2.2.2.2.2.2.2.2.2.1) (E.2.2.2.2.2.2.2.2.2.2.2.2.2.2.2.2.2.2.2.2.2.2.2.2.2.2.2.2.2.2.2.2.2.2.2.2.2.2.2.2.2.2.2.2.1) (E.2.2.2.2.2.2.2.2.2.2.2.2.2.2.2.2.2.2.2.2.2.2.2.2.2.2.2.2.2.2.2.2.2.2.2.2.2.2.2.2.2.2.2.1) (FitQ.mono Fx (by decide)) (FitQ.mono Fy (by decide))) rfl E ?_)
  clear E
  intro w65 d65 E
  clear d65
  refine ⟨E, ?_⟩
  simp only [Act.put,q1,q2,q3]
  refine SW rfl rfl rfl (by kernel_rfl) rfl (fun w hS => run_eqI (c := true) rfl rfl rfl (beq_self_eq_true _)) <| SW (v := .bool true) rfl rfl rfl rfl rfl (fun w hS => run_pick (b := true) rfl rfl rfl) <| SM rfl rfl rfl rfl rfl rfl rfl rfl <| SW rfl rfl rfl (by kernel_rfl) rfl (fun w hS => run_load_bx AgR rfl rfl (hS.2.2.2.2.2.2.2.2.2.2.2.2.2.2.2.2.2.2.2.2.2.2.2.2.2.2.2.2.2.2.2.2.2.2.2.2.2.2.2.2.2.2.1) rfl) <| ?_
  simp only [q2,q3]
  refine SW rfl rfl rfl (by kernel_rfl) rfl (fun w hS => run_load_bx AgR rfl rfl (hS.2.2.2.2.2.2.2.2.2.2.2.2.2.2.2.2.2.2.2.2.2.2.2.2.2.2.2.2.2.2.2.2.2.2.2.2.2.2.2.2.2.2.1) rfl) <| ?_
  simp only [q2,q3]
  refine S1a (o := ⟨some 155, _, _, _, _, _⟩) rfl rfl rfl rfl (Oper.wp_callN fn_rational_Bits rfl (Bits_q _ _ _ _ x _ (E.2.2.2.2.2.2.2.2.2.2.2.2.2.2.2.2.2.2.2.2.2.2.2.2.2.2.2.2.2.2.2.2.2.2.2.2.2.2.2.2.2.2.2.2.2.2.1) (E.2.2.2.2.2.2.2.2.2.2.2.2.2.2.2.2.2.2.2.2.2.2.2.2.2.2.2.2.2.2.2.2.2.2.2.2.2.2.2.2.2.2.2.2.2.1) (FitQ.mono Fx (by decide))) rfl E ?_)
  clear E
  intro w66 d66 E
  clear d66
  refine ⟨E, ?_⟩
  simp only [Act.put,q1,q2,q3]
  refine S1a (o := ⟨some 157, _, _, _, _, _⟩) rfl rfl rfl rfl (Oper.wp_callN fn_eref02_Bits rfl (RBits_q _ _ _ _ x _ (E.2.2.2.2.2.2.2.2.2.2.2.2.2.2.2.2.2.2.2.2.2.2.2.2.2.2.2.2.2.2.2.2.2.2.2.2.2.2.2.2.2.2.2.2.2.2.1) (E.2.2.2.2.2.2.2.2.2.2.2.2.2.2.2.2.2.2.2.2.2.2.2.2.2.2.2.2.2.2.2.2.2.2.2.2.2.2.2.2.2.2.2.2.2.1) (FitQ.mono Fx (by decide))) rfl E ?_)
  clear E
  intro w67 d67 E
  clear d67
  refine ⟨E, ?_⟩
  simp only [Act.put,q1,q2,q3]
  refine SW rfl rfl rfl (by kernel_rfl) rfl (fun w hS => run_eqI (c := true) rfl rfl rfl (beq_self_eq_true _)) <| SW (v := .bool true) rfl rfl rfl rfl rfl (fun w hS => run_pick (b := true) rfl rfl rfl) <| SM rfl rfl rfl rfl rfl rfl rfl rfl <| SW rfl rfl rfl (by kernel_rfl) rfl (fun w hS => run_load_bx AgR rfl rfl (hS.2.2.2.2.2.2.2.2.2.2.2.2.2.2.2.2.2.2.2.2.2.2.2.2.2.2.2.2.2.2.2.2.2.2.2.2.2.2.2.2.2.2.1) rfl) <| ?_
  simp only [q2,q3]
  refine SW rfl rfl rfl (by kernel_rfl) rfl (fun w hS => run_load_bx AgR rfl rfl (hS.2.2.2.2.2.2.2.2.2.2.2.2.2.2.2.2.2.2.2.2.2.2.2.2.2.2.2.2.2.2.2.2.2.2.2.2.2.2.2.2.2.2.1) rfl) <| ?_
  simp only [q2,q3]
  refine S1a (o := ⟨some 162, _, _, _, _, _⟩) rfl rfl rfl rfl (Oper.wp_callX fn_rational_Text rfl (Text_q _ _ _ _ x _ (E.2.2.2.2.2.2.2.2.2.2.2.2.2.2.2.2.2.2.2.2.2.2.2.2.2.2.2.2.2.2.2.2.2.2.2.2.2.2.2.2.2.2.2.2.2.2.1) (E.2.2.2.2.2.2.2.2.2.2.2.2.2.2.2.2.2.2.2.2.2.2.2.2.2.2.2.2.2.2.2.2.2.2.2.2.2.2.2.2.2.2.2.2.2.1) (FitQ.mono Fx (by decide))) rfl E ?_)
  clear E
  intro w68 d68 E
  clear d68
  refine ⟨E, ?_⟩
  simp only [Act.put,q1,q2,q3]
  refine S1a (o := ⟨some 164, _, _, _, _, _⟩) rfl rfl rfl rfl (Oper.wp_callX fn_eref02_Text rfl (RText_q _ _ _ _ x _ (E.2.2.2.2.2.2.2.2.2.2.2.2.2.2.2.2.2.2.2.2.2.2.2.2.2.2.2.2.2.2.2.2.2.2.2.2.2.2.2.2.2.2.2.2.2.2.1) (E.2.2.2.2.2.2.2.2.2.2.2.2.2.2.2.2.2.2.2.2.2.2.2.2.2.2.2.2.2.2.2.2.2.2.2.2.2.2.2.2.2.2.2.2.2.1) (FitQ.mono Fx (by decide))) rfl E ?_)
  clear E
  intro w69 d69 E
  clear d69
  refine ⟨E, ?_⟩
  simp only [Act.put,q1,q2,q3]
  refine SW rfl rfl rfl (by kernel_rfl) rfl (fun w hS => run_eqS (c := true) rfl rfl rfl (beq_self_eq_true _)) <| SW (v := .bool true) rfl rfl rfl rfl rfl (fun w hS => run_pick (b := true) rfl rfl rfl) <| SM rfl rfl rfl rfl rfl rfl rfl rfl <| SM rfl rfl rfl (by kernel_rfl) rfl rfl rfl rfl <| ?_
  simp only [q2,q3]
  refine SW (v := .bool true) rfl rfl rfl rfl rfl (fun w hS => run_pick (b := true) rfl rfl rfl) <| SA rfl rfl rfl rfl rfl rfl rfl rfl <| ?_
  simp only [q2,q3]
  refine SN ?_
  change Code.wp _ _ _ _ _
  refine wp_ret ?_
  exact bodyPost_ret (v := .bool true) (by simp [results, Tryz.results3, asAddr]) rfl ⟨rfl, E.2.2.2.2.2.2.2.2.2.2.2.2.2.2.2.2.2.2.2.2.2.2.2.2.2.2.2.2.2.2.2.2.2.2.2.2.2.2.2.2.2.2.2.2.2.2.2.2.1⟩
 case neg =>
  -- region 11
  refine RL ?_
  refine V rfl rfl (run_load_bx AgR rfl rfl (E.2.2.2.2.2.2.2.2.2.2.2.2.2.2.2.2.2.2.2.2.2.2.2.2.2.2.2.2.2.2.2.2.2.1) rfl) <| V rfl rfl (run_load_bx AgR rfl rfl (E.2.2.2.2.2.2.2.2.2.2.2.2.2.2.2.2.2.2.2.2.2.2.2.2.2.2.2.2.2.2.2.2.1) rfl) <| ?_
  simp only [q2,q3]
  refine EF rfl (Oper.wp_callPE fn_rational_Between rfl (Between_gt _ _ _ _ x _ _ _ _ y _ (E.2.2.2.2.2.2.2.2.2.2.2.2.2.2.2.2.2.2.2.2.2.2.2.2.2.2.2.2.2.2.2.2.2.2.2.2.2.1) (E.2.2.2.2.2.2.2.2.2.2.2.2.2.2.2.2.2.2.2.2.2.2.2.2.2.2.2.2.2.2.2.2.2.2.2.2.1) (E.2.2.2.2.2.2.2.2.2.2.2.2.2.2.2.2.2.2.2.2.2.2.2.2.2.2.2.2.2.2.2.2.2.2.2.1) (E.2.2.2.2.2.2.2.2.2.2.2.2.2.2.2.2.2.2.2.2.2.2.2.2.2.2.2.2.2.2.2.2.2.2.1) hxy (FitQ.mono Fx (by decide)) (FitQ.mono Fy (by decide))) rfl E ?_)
  clear E
  intro w70 n70 s70 m70 t70 d70 E
  clear d70
  refine kw rfl ?_
  refine M rfl rfl rfl rfl rfl <| V rfl rfl (run_extract (vs := [.agg #[.bool n70, s70, .bool m70, t70], .int .i64 1]) rfl rfl rfl) <| V rfl rfl (run_extract (vs := [.agg #[.bool n70, s70, .bool m70, t70], .int .i64 1]) rfl rfl rfl) <| ?_
  simp only [q2,q3]
  refine EF rfl (Oper.wp_alloc AgR rfl ?_)
  intro b71 w71 e71 z71 d71 x71
  have l71_0 : b45 < b71 := by rw [e71]; exact Bx.lt (E.2.2.1)
  replace E := E.below d71
  clear e71 z71 d71
  refine kw rfl ?_
  simp only [q2,q3]
  refine EF rfl (Oper.wp_store AgR rfl rfl rfl x71 rfl rfl (one4 (IsI.one (E.2.1)) (IsI.one (E.1))) ?_)
  intro w72 o72 y72
  replace E := (E.onl (x71.noW (now4 now0 now0)) ⟨trivial, trivial, okX (by omega), trivial, trivial, okX (by omega), trivial, trivial, okX (by omega), trivial, trivial, okX (by omega), trivial, trivial, trivial, trivial, trivial, trivial, trivial, trivial, trivial, trivial, trivial, trivial, trivial, trivial, trivial, trivial, trivial, trivial, trivial, trivial, trivial, trivial, okX (by omega), okX (by omega), trivial, trivial, trivial, trivial, okX (by omega), okW (by omega), trivial⟩ o72).x y72
  clear x71 o72 y72
  refine kn rfl ?_
  refine A rfl rfl rfl rfl rfl <| ?_
  simp only [q2,q3]
  refine WN ?_
  change Code.wp _ _ _ _ _
  refine wp_seq ?_
  -- region 12
  refine RL ?_
  refine V rfl rfl (run_load_bx AgR rfl rfl (E.2.2.2.2.2.2.2.2.2.2.2.2.2.2.2.2.2.2.2.2.2.2.2.2.2.2.2.2.2.2.2.2.2.2.2.2.1) rfl) <| V rfl rfl (run_load_bx AgR rfl rfl (E.2.2.2.2.2.2.2.2.2.2.2.2.2.2.2.2.2.2.2.2.2.2.2.2.2.2.2.2.2.2.2.2.2.2.2.1) rfl) <| ?_
  simp only [q2,q3]
  refine EF rfl (Oper.wp_callPE fn_eref02_Between rfl (RBetween_gt _ _ _ _ x _ _ _ _ y _ (E.2.2.2.2.2.2.2.2.2.2.2.2.2.2.2.2.2.2.2.2.2.2.2.2.2.2.2.2.2.2.2.2.2.2.2.2.2.2.2.2.1) (E.2.2.2.2.2.2.2.2.2.2.2.2.2.2.2.2.2.2.2.2.2.2.2.2.2.2.2.2.2.2.2.2.2.2.2.2.2.2.2.1) (E.2.2.2.2.2.2.2.2.2.2.2.2.2.2.2.2.2.2.2.2.2.2.2.2.2.2.2.2.2.2.2.2.2.2.2.2.2.2.1) (E.2.2.2.2.2.2.2.2.2.2.2.2.2.2.2.2.2.2.2.2.2.2.2.2.2.2.2.2.2.2.2.2.2.2.2.2.2.1) hxy (FitQ.mono Fx (by decide)) (FitQ.mono Fy (by decide))) rfl E ?_)
  clear E
  intro w73 n73 s73 m73 t73 d73 E
  clear d73
  refine kw rfl ?_
  refine M rfl rfl rfl rfl rfl <| V rfl rfl (run_extract (vs := [.agg #[.bool n73, s73, .bool m73, t73], .int .i64 1]) rfl rfl rfl) <| V rfl rfl (run_extract (vs := [.agg #[.bool n73, s73, .bool m73, t73], .int .i64 1]) rfl rfl rfl) <| ?_
  simp only [q2,q3]
  refine EF rfl (Oper.wp_alloc AgR rfl ?_)
  intro b74 w74 e74 z74 d74 x74
  have l74_0 : b71 < b74 := by rw [e74]; exact Bx.lt (E.2.2.1)
  replace E := E.below d74
  clear e74 z74 d74
  refine kw rfl ?_
  simp only [q2,q3]
  refine EF rfl (Oper.wp_store AgR rfl rfl rfl x74 rfl rfl (one4 (IsI.one (E.2.1)) (IsI.one (E.1))) ?_)
  intro w75 o75 y75
  replace E := (E.onl (x74.noW (now4 now0 now0)) ⟨trivial, trivial, okX (by omega), trivial, trivial, okX (by omega), trivial, trivial, okX (by omega), trivial, trivial, okX (by omega), trivial, trivial, okX (by omega), trivial, trivial, trivial, trivial, trivial, trivial, trivial, trivial, trivial, trivial, trivial, trivial, trivial, trivial, trivial, trivial, trivial, trivial, trivial, trivial, trivial, trivial, okX (by omega), okX (by omega), trivial, trivial, trivial, trivial, okX (by omega), okW (by omega), trivial⟩ o75).x y75
  clear x74 o75 y75
  refine kn rfl ?_
  refine A rfl rfl rfl rfl rfl <| ?_
  simp only [q2,q3]
  refine WN ?_
  change Code.wp _ _ _ _ _
  refine wp_seq ?_
  -- region 13
  refine RL ?_
  refine V rfl rfl (run_load_bx AgR rfl rfl (E.2.2.2.2.2.2.2.2.2.2.2.2.2.2.2.2.2.2.2.2.2.2.2.2.2.2.2.2.2.2.2.2.2.2.2.2.2.2.2.1) rfl) <| ?_
  simp only [q2,q3]
  refine EF rfl (Oper.wp_callI fn_rational_Floor rfl (Floor_q _ _ _ _ x _ (E.2.2.2.2.2.2.2.2.2.2.2.2.2.2.2.2.2.2.2.2.2.2.2.2.2.2.2.2.2.2.2.2.2.2.2.2.2.2.2.2.2.2.2.1) (E.2.2.2.2.2.2.2.2.2.2.2.2.2.2.2.2.2.2.2.2.2.2.2.2.2.2.2.2.2.2.2.2.2.2.2.2.2.2.2.2.2.2.1) (FitQ.mono Fx (by decide))) rfl E ?_)
  clear E
  intro w77 n77 s77 d77 E
  clear d77
  refine kw rfl ?_
  have F76 : Fits x.floor 20 := Fits_floorQ Fx
  simp only [q2,q3]
  refine EF rfl (Oper.wp_alloc AgI rfl ?_)
  intro b78 w78 e78 z78 d78 x78
  have l78_0 : b74 < b78 := by rw [e78]; exact Bx.lt (E.2.1)
  replace E := E.below d78
  clear e78 z78 d78
  refine kw rfl ?_
  simp only [q2,q3]
  refine EF rfl (Oper.wp_store AgI rfl rfl rfl x78 rfl rfl (IsI.one (E.1)) ?_)
  intro w79 o79 y79
  replace E := (E.onl (x78.noW now0) ⟨trivial, okX (by omega), trivial, trivial, okX (by omega), trivial, trivial, okX (by omega), trivial, trivial, okX (by omega), trivial, trivial, okX (by omega), trivial, trivial, okX (by omega), trivial, trivial, trivial, trivial, trivial, trivial, trivial, trivial, trivial, trivial, trivial, trivial, trivial, trivial, trivial, trivial, trivial, trivial, trivial, trivial, trivial, trivial, okX (by omega), okX (by omega), trivial, trivial, trivial, trivial, okX (by omega), okW (by omega), trivial⟩ o79).b y79
  clear x78 o79 y79
  refine kn rfl ?_
  refine WN ?_
  change Code.wp _ _ _ _ _
  refine wp_seq ?_
  refine wp_seq ?_
  -- region 14
  refine wp_schedE E ([0, 1, 2, 3, 4, 5, 6, 7, 8, 9, 10, 11, 12, 13, 14, 15, 16, 17, 18, 19, 20, 21, 22, 23, 24, 25, 26, 27, 28]) (by kernel_rfl) (by kernel_rfl) (by kernel_rfl) (by kernel_rfl) (by intro d v c a w h; cases d <;> exact h) ?_
  replace E := E.drew
  refine SW rfl rfl rfl rfl rfl (fun w hS => run_load_bx AgR rfl rfl (e17 hS) rfl) <| SM rfl rfl rfl rfl rfl rfl rfl rfl <| SW rfl rfl rfl rfl rfl (fun w hS => run_load_bx AgR rfl rfl (e14 hS) rfl) <| SM rfl rfl rfl rfl rfl rfl rfl rfl <| ?_
  simp only [q2,q3]
  refine S1a (o := ⟨some 114, _, _, _, _, _⟩) rfl rfl rfl rfl (Oper.wp_callB fn_elaw02_alike rfl (alike_t (okE (decide (x ≠ 0))) _ _ _ _ (okN (decide (x ≠ 0)) x⁻¹) (okD (decide (x ≠ 0)) x⁻¹) _ _ _ _ (okN (decide (x ≠ 0)) x⁻¹) (okD (decide (x ≠ 0)) x⁻¹) _ (e19 E) (e18 E) (e16 E) (e15 E) rfl rfl) rfl E ?_)
  clear E
  intro w80 d80 E
  clear d80
  refine ⟨E, ?_⟩
  simp only [Act.put,q1,q2,q3]
  refine SW (v := .bool false) rfl rfl rfl rfl rfl (fun w hS => run_not (b := true) rfl rfl) <| SM rfl rfl rfl rfl rfl rfl rfl rfl <| SW rfl rfl rfl (by kernel_rfl) rfl (fun w hS => run_load_bx AgR rfl rfl (e11 hS) rfl) <| SM rfl rfl rfl (by kernel_rfl) rfl rfl rfl rfl <| ?_
  simp only [q2,q3]
  refine SW rfl rfl rfl (by kernel_rfl) rfl (fun w hS => run_load_bx AgR rfl rfl (e8 hS) rfl) <| SM rfl rfl rfl (by kernel_rfl) rfl rfl rfl rfl <| ?_
  simp only [q2,q3]
  refine S1a (o := ⟨some 121, _, _, _, _, _⟩) rfl rfl rfl rfl (Oper.wp_callB fn_elaw02_alike rfl (alike_t (okE (decide (y ≠ 0))) _ _ _ _ (okN (decide (y ≠ 0)) (x / y)) (okD (decide (y ≠ 0)) (x / y)) _ _ _ _ (okN (decide (y ≠ 0)) (x / y)) (okD (decide (y ≠ 0)) (x / y)) _ (e13 E) (e12 E) (e10 E) (e9 E) rfl rfl) rfl E ?_)
  clear E
  intro w81 d81 E
  clear d81
  refine ⟨E, ?_⟩
  simp only [Act.put,q1,q2,q3]
  refine SW (v := .bool false) rfl rfl rfl (by kernel_rfl) rfl (fun w hS => run_not (b := true) rfl rfl) <| SW (v := .bool false) rfl rfl rfl rfl rfl (fun w hS => run_pick (b := false) rfl rfl rfl) <| SM rfl rfl rfl rfl rfl rfl rfl rfl <| SW rfl rfl rfl (by kernel_rfl) rfl (fun w hS => run_load_bx AgR rfl rfl (e5 hS) rfl) <| ?_
  simp only [q2,q3]
  refine SM rfl rfl rfl (by kernel_rfl) rfl rfl rfl rfl <| SW rfl rfl rfl (by kernel_rfl) rfl (fun w hS => run_load_bx AgR rfl rfl (hS.2.2.1) rfl) <| SM rfl rfl rfl (by kernel_rfl) rfl rfl rfl rfl <| ?_
  simp only [q2,q3]
  refine S1a (o := ⟨some 129, _, _, _, _, _⟩) rfl rfl rfl rfl (Oper.wp_callB fn_elaw02_alike rfl (alike_t 1 _ _ _ _ 0 0 _ _ _ _ 0 0 _ (e7 E) (e6 E) (e4 E) (e3 E) rfl rfl) rfl E ?_)
  clear E
  intro w82 d82 E
  clear d82
  refine ⟨E, ?_⟩
  simp only [Act.put,q1,q2,q3]
  refine SW (v := .bool false) rfl rfl rfl (by kernel_rfl) rfl (fun w hS => run_not (b := true) rfl rfl) <| SW (v := .bool false) rfl rfl rfl rfl rfl (fun w hS => run_pick (b := false) rfl rfl rfl) <| SM rfl rfl rfl rfl rfl rfl rfl rfl <| SW rfl rfl rfl (by kernel_rfl) rfl (fun w hS => run_load_bx AgI rfl rfl (hS.1) rfl) <| ?_
  simp only [q2,q3]
  refine SW rfl rfl rfl (by kernel_rfl) rfl (fun w hS => run_load_bx AgR rfl rfl (hS.2.2.2.2.2.2.2.2.2.2.2.2.2.2.2.2.2.2.2.2.2.2.2.2.2.2.2.2.2.2.2.2.2.2.2.2.2.2.2.2.2.1) rfl) <| ?_
  simp only [q2,q3]
  refine S1a (o := ⟨some 135, _, _, _, _, _⟩) rfl rfl rfl rfl (Oper.wp_callI fn_eref02_Floor rfl (RFloor_q _ _ _ _ x _ (E.2.2.2.2.2.2.2.2.2.2.2.2.2.2.2.2.2.2.2.2.2.2.2.2.2.2.2.2.2.2.2.2.2.2.2.2.2.2.2.2.2.2.2.2.2.1) (E.2.2.2.2.2.2.2.2.2.2.2.2.2.2.2.2.2.2.2.2.2.2.2.2.2.2.2.2.2.2.2.2.2.2.2.2.2.2.2.2.2.2.2.2.1) (FitQ.mono Fx (by decide))) rfl E ?_)
  clear E
  intro w83 n83 s83 d83 E
  clear d83
  refine ⟨E.2, ?_⟩
  simp only [Act.put,q1,q2,q3]
  refine S1a (o := ⟨some 136, _, _, _, _, _⟩) rfl rfl rfl rfl (Oper.wp_callN fn_integer_Cmp rfl (Cmp_z _ _ x.floor x.floor _ (E.2.2.1) (E.1)) rfl E ?_)
  clear E
  intro w84 d84 E
  clear d84
  refine ⟨E.2, ?_⟩
  simp only [Act.put,q1,q2,q3]
  refine SW rfl rfl rfl (by kernel_rfl) rfl (fun w hS => run_neI (c := false) rfl rfl rfl (by rw [cmpI_eq rfl]; rfl)) <| SW (v := .bool false) rfl rfl rfl rfl rfl (fun w hS => run_pick (b := false) rfl rfl rfl) <| ?_
  simp only [q2,q3]
  refine SN ?_
  change Code.wp _ _ _ _ _
  refine wp_cond_false rfl ?_
  refine wp_skip ?_
  change Code.wp _ _ _ _ _
  refine wp_seq ?_
  -- region 16
  refine wp_schedE E ([0, 2, 1, 3, 4, 5, 6, 7, 9, 10, 8, 11, 12, 13, 14, 15, 17, 16, 18, 19, 20, 21, 22, 24, 23, 25, 26, 27, 28, 29, 30, 31]) (by kernel_rfl) (by kernel_rfl) (by kernel_rfl) (by kernel_rfl) (by intro d v c a w h; cases d <;> exact h) ?_
  replace E := E.drew
  refine SW rfl rfl rfl rfl rfl (fun w hS => run_load_bx AgR rfl rfl (hS.2.2.2.2.2.2.2.2.2.2.2.2.2.2.2.2.2.2.2.2.2.2.2.2.2.2.2.2.2.2.2.2.2.2.2.2.2.2.2.2.2.2.1) rfl) <| SW rfl rfl rfl rfl rfl (fun w hS => run_load_bx AgR rfl rfl (hS.2.2.2.2.2.2.2.2.2.2.2.2.2.2.2.2.2.2.2.2.2.2.2.2.2.2.2.2.2.2.2.2.2.2.2.2.2.2.2.2.2.2.1) rfl) <| ?_
  simp only [q2,q3]
  refine S1a (o := ⟨some 140, _, _, _, _, _⟩) rfl rfl rfl rfl (Oper.wp_callN fn_rational_Sign rfl (Sign_q _ _ _ _ x _ (E.2.2.2.2.2.2.2.2.2.2.2.2.2.2.2.2.2.2.2.2.2.2.2.2.2.2.2.2.2.2.2.2.2.2.2.2.2.2.2.2.2.2.2.2.2.2.1) (E.2.2.2.2.2.2.2.2.2.2.2.2.2.2.2.2.2.2.2.2.2.2.2.2.2.2.2.2.2.2.2.2.2.2.2.2.2.2.2.2.2.2.2.2.2.1)) rfl E ?_)
  clear E
  intro w85 d85 E
  clear d85
  refine ⟨E, ?_⟩
  simp only [Act.put,q1,q2,q3]
  refine S1a (o := ⟨some 142, _, _, _, _, _⟩) rfl rfl rfl rfl (Oper.wp_callN fn_eref02_Sign rfl (RSign_q _ _ _ _ x _ (E.2.2.2.2.2.2.2.2.2.2.2.2.2.2.2.2.2.2.2.2.2.2.2.2.2.2.2.2.2.2.2.2.2.2.2.2.2.2.2.2.2.2.2.2.2.2.1) (E.2.2.2.2.2.2.2.2.2.2.2.2.2.2.2.2.2.2.2.2.2.2.2.2.2.2.2.2.2.2.2.2.2.2.2.2.2.2.2.2.2.2.2.2.2.1)) rfl E ?_)
  clear E
  intro w86 d86 E
  clear d86
  refine ⟨E, ?_⟩
  simp only [Act.put,q1,q2,q3]
  refine SW rfl rfl rfl rfl rfl (fun w hS => run_eqI (c := true) rfl rfl rfl (beq_self_eq_true _)) <| SM rfl rfl rfl rfl rfl rfl rfl rfl <| SW rfl rfl rfl (by kernel_rfl) rfl (fun w hS => run_load_bx AgR rfl rfl (hS.2.2.2.2.2.2.2.2.2.2.2.2.2.2.2.2.2.2.2.2.2.2.2.2.2.2.2.2.2.2.2.2.2.2.2.2.2.2.2.2.2.2.1) rfl) <| SW rfl rfl rfl (by kernel_rfl) rfl (fun w hS => run_load_bx AgR rfl rfl (hS.2.2.2.2.2.2.2.2.2.2.2.2.2.2.2.2.2.2.2.2.2.2.2.2.2.2.2.2.2.2.2.2.2.2.2.2.2.2.2.2.2.1) rfl) <| ?_
  simp only [q2,q3]
  refine SW rfl rfl rfl (by kernel_rfl) rfl (fun w hS => run_load_bx AgR rfl rfl (hS.2.2.2.2.2.2.2.2.2.2.2.2.2.2.2.2.2.2.2.2.2.2.2.2.2.2.2.2.2.2.2.2.2.2.2.2.2.2.2.2.2.2.1) rfl) <| SW rfl rfl rfl (by kernel_rfl) rfl (fun w hS => run_load_bx AgR rfl rfl (hS.2.2.2.2.2.2.2.2.2.2.2.2.2.2.2.2.2.2.2.2.2.2.2.2.2.2.2.2.2.2.2.2.2.2.2.2.2.2.2.2.2.1) rfl) <| ?_
  simp only [q2,q3]
  refine S1a (o := ⟨some 147, _, _, _, _, _⟩) rfl rfl rfl rfl (Oper.wp_callN fn_rational_Cmp rfl (Cmp_q _ _ _ _ x _ _ _ _ y _ (E.2.2.2.2.2.2.2.2.2.2.2.2.2.2.2.2.2.2.2.2.2.2.2.2.2.2.2.2.2.2.2.2.2.2.2.2.2.2.2.2.2.2.2.2.2.2.1) (E.2.2.2.2.2.2.2.2.2.2.2.2.2.2.2.2.2.2.2.2.2.2.2.2.2.2.2.2.2.2.2.2.2.2.2.2.2.2.2.2.2.2.2.2.2.1) (E.2.2.2.2.2.2.2.2.2.2.2.2.2.2.2.2.2.2.2.2.2.2.2.2.2.2.2.2.2.2.2.2.2.2.2.2.2.2.2.2.2.2.2.2.1) (E.2.2.2.2.2.2.2.2.2.2.2.2.2.2.2.2.2.2.2.2.2.2.2.2.2.2.2.2.2.2.2.2.2.2.2.2.2.2.2.2.2.2.2.1) (FitQ.mono Fx (by decide)) (FitQ.mono Fy (by decide))) rfl E ?_)
  clear E
  intro w87 d87 E
  clear d87
  refine ⟨E, ?_⟩
  simp only [Act.put,q1,q2,q3]
  refine S1a (o := ⟨some 150, _, _, _, _, _⟩) rfl rfl rfl rfl (Oper.wp_callN fn_eref02_Cmp rfl (RCmp_q _ _ _ _ x _ _ _ _ y _ (E.2.2.2.2.2.2.2.2.2.2.2.2.2.2.2.2.2.2.2.2.2.2.2.2.2.2.2.2.2.2.2.2.2.2.2.2.2.2.2.2.2.2.2.2.2.2.1) (E.2.2.2.2.2.2.2.2.2.2.2.2.2.2.2.2.2.2.2.2.2.2.2.2.2.2.2.2.2.2.2.2.2.2.2.2.2.2.2.2.2.2.2.2.2.1) (E.2.2.2.2.2.2.2.2.2.2.2.2.2.2.2.2.2.2.2.2.2.2.2.2.2.2.2.2.2.2.2.2.2.2.2.2.2.2.2.2.2.2.2.2.1) (E.2.2.2.2.2.2.2.2.2.2.2.2.2.2.2.2.2.2.2.2.2.2.2.2.2.2.2.2.2.2.2.2.2.2.2.2.2.2.2.2.2.2.2.1) (FitQ.mono Fx (by decide)) (FitQ.mono Fy (by decide))) rfl E ?_)
  clear E
  intro w88 d88 E
  clear d88
  refine ⟨E, ?_⟩
  simp only [Act.put,q1,q2,q3]
  refine SW rfl rfl rfl (by kernel_rfl) rfl (fun w hS => run_eqI (c := true) rfl rfl rfl (beq_self_eq_true _)) <| SW (v := .bool true) rfl rfl rfl rfl rfl (fun w hS => run_pick (b := true) rfl rfl rfl) <| SM rfl rfl rfl rfl rfl rfl rfl rfl <| SW rfl rfl rfl (by kernel_rfl) rfl (fun w hS => run_load_bx AgR rfl rfl (hS.2.2.2.2.2.2.2.2.2.2.2.2.2.2.2.2.2.2.2.2.2.2.2.2.2.2.2.2.2.2.2.2.2.2.2.2.2.2.2.2.2.2.1) rfl) <| ?_
  simp only [q2,q3]
  refine SW rfl rfl rfl (by kernel_rfl) rfl (fun w hS => run_load_bx AgR rfl rfl (hS.2.2.2.2.2.2.2.2.2.2.2.2.2.2.2.2.2.2.2.2.2.2.2.2.2.2.2.2.2.2.2.2.2.2.2.2.2.2.2.2.2.2.1) rfl) <| ?_
  simp only [q2,q3]
  refine S1a (o := ⟨some 155, _, _, _, _, _⟩) rfl rfl rfl rfl (Oper.wp_callN fn_rational_Bits rfl (Bits_q _ _ _ _ x _ (E.2.2.2.2.2.2.2.2.2.2.2.2.2.2.2.2.2.2.2.2.2.2.2.2.2.2.2.2.2.2.2.2.2.2.2.2.2.2.2.2.2.2.2.2.2.2.1) (E.2.2.2.2.2.2.2.2.2.2.2.2.2.2.2.2.2.2.2.2.2.2.2.2.2.2.2.2.2.2.2.2.2.2.2.2.2.2.2.2.2.2.2.2.2.1) (FitQ.mono Fx (by decide))) rfl E ?_)
  clear E
  intro w89 d89 E
  clear d89
  refine ⟨E, ?_⟩
  simp only [Act.put,q1,q2,q3]
  refine S1a (o := ⟨some 157, _, _, _, _, _⟩) rfl rfl rfl rfl (Oper.wp_callN fn_eref02_Bits rfl (RBits_q _ _ _ _ x _ (E.2.2.2.2.2.2.2.2.2.2.2.2.2.2.2.2.2.2.2.2.2.2.2.2.2.2.2.2.2.2.2.2.2.2.2.2.2.2.2.2.2.2.2.2.2.2.1) (E.2.2.2.2.2.2.2.2.2.2.2.2.2.2.2.2.2.2.2.2.2.2.2.2.2.2.2.2.2.2.2.2.2.2.2.2.2.2.2.2.2.2.2.2.2.1) (FitQ.mono Fx (by decide))) rfl E ?_)
  clear E
  intro w90 d90 E
  clear d90
  refine ⟨E, ?_⟩
  simp only [Act.put,q1,q2,q3]
  refine SW rfl rfl rfl (by kernel_rfl) rfl (fun w hS => run_eqI (c := true) rfl rfl rfl (beq_self_eq_true _)) <| SW (v := .bool true) rfl rfl rfl rfl rfl (fun w hS => run_pick (b := true) rfl rfl rfl) <| SM rfl rfl rfl rfl rfl rfl rfl rfl <| SW rfl rfl rfl (by kernel_rfl) rfl (fun w hS => run_load_bx AgR rfl rfl (hS.2.2.2.2.2.2.2.2.2.2.2.2.2.2.2.2.2.2.2.2.2.2.2.2.2.2.2.2.2.2.2.2.2.2.2.2.2.2.2.2.2.2.1) rfl) <| ?_
  simp only [q2,q3]
  refine SW rfl rfl rfl (by kernel_rfl) rfl (fun w hS => run_load_bx AgR rfl rfl (hS.2.2.2.2.2.2.2.2.2.2.2.2.2.2.2.2.2.2.2.2.2.2.2.2.2.2.2.2.2.2.2.2.2.2.2.2.2.2.2.2.2.2.1) rfl) <| ?_
  simp only [q2,q3]
  refine S1a (o := ⟨some 162, _, _, _, _, _⟩) rfl rfl rfl rfl (Oper.wp_callX fn_rational_Text rfl (Text_q _ _ _ _ x _ (E.2.2.2.2.2.2.2.2.2.2.2.2.2.2.2.2.2.2.2.2.2.2.2.2.2.2.2.2.2.2.2.2.2.2.2.2.2.2.2.2.2.2.2.2.2.2.1) (E.2.2.2.2.2.2.2.2.2.2.2.2.2.2.2.2.2.2.2.2.2.2.2.2.2.2.2.2.2.2.2.2.2.2.2.2.2.2.2.2.2.2.2.2.2.1) (FitQ.mono Fx (by decide))) rfl E ?_)
  clear E
  intro w91 d91 E
  clear d91
  refine ⟨E, ?_⟩
  simp only [Act.put,q1,q2,q3]
  refine S1a (o := ⟨some 164, _, _, _, _, _⟩) rfl rfl rfl rfl (Oper.wp_callX fn_eref02_Text rfl (RText_q _ _ _ _ x _ (E.2.2.2.2.2.2.2.2.2.2.2.2.2.2.2.2.2.2.2.2.2.2.2.2.2.2.2.2.2.2.2.2.2.2.2.2.2.2.2.2.2.2.2.2.2.2.1) (E.2.2.2.2.2.2.2.2.2.2.2.2.2.2.2.2.2.2.2.2.2.2.2.2.2.2.2.2.2.2.2.2.2.2.2.2.2.2.2.2.2.2.2.2.2.1) (FitQ.mono Fx (by decide))) rfl E ?_)
  clear E
  intro w92 d92 E
  clear d92
  refine ⟨E, ?_⟩
  simp only [Act.put,q1,q2,q3]
  refine SW rfl rfl rfl (by kernel_rfl) rfl (fun w hS => run_eqS (c := true) rfl rfl rfl (beq_self_eq_true _)) <| SW (v := .bool true) rfl rfl rfl rfl rfl (fun w hS => run_pick (b := true) rfl rfl rfl) <| SM rfl rfl rfl rfl rfl rfl rfl rfl <| SM rfl rfl rfl (by kernel_rfl) rfl rfl rfl rfl <| ?_
  simp only [q2,q3]
  refine SW (v := .bool true) rfl rfl rfl rfl rfl (fun w hS => run_pick (b := true) rfl rfl rfl) <| SA rfl rfl rfl rfl rfl rfl rfl rfl <| ?_
  simp only [q2,q3]
  refine SN ?_
  change Code.wp _ _ _ _ _
  refine wp_ret ?_
  exact bodyPost_ret (v := .bool true) (by simp [results, Tryz.results3, asAddr]) rfl ⟨rfl, E.2.2.2.2.2.2.2.2.2.2.2.2.2.2.2.2.2.2.2.2.2.2.2.2.2.2.2.2.2.2.2.2.2.2.2.2.2.2.2.2.2.2.2.2.2.2.2.2.1⟩
end Go.Proofs.YtndpjfhhigpbhaaGreat
