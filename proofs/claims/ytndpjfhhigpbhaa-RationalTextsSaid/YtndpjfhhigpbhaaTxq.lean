/- Walk: the law RationalTexts. (Printed by a g_ program.) -/
import Derived.Test.YtndpjfhhigpbhaaExQ
namespace Go.Proofs.Ytndpjfhhigpbhaa
open Go.RowKit W
theorem txtQ_neq {x y : Rat} (h : ¬ x = y) : ((txtQ x).data.toList == (txtQ y).data.toList) = false := by
  rw [beq_eq_false_iff_ne]; intro e; exact h (txtQ_inj (ba_ext e))
theorem plus_no {x : Rat} (y : Rat) : (⟨#[43]⟩ : ByteArray) ++ txtQ x ≠ txtQ y := by
  intro e
  have h := lst e
  rw [ByteArray.data_append, Array.toList_append] at h
  have h0 : ∀ z : Int, (txt z).head? ≠ some 43 := by
    intro z
    unfold txt
    split
    · simp
    · rw [List.nil_append]
      intro g
      cases hb : bts (dec z.natAbs) with
      | nil => rw [hb] at g; cases g
      | cons c l =>
        rw [hb] at g
        obtain ⟨d, hd, hc⟩ := List.mem_map.1 (show c ∈ bts (dec z.natAbs) by rw [hb]; simp)
        have h1 := dec_Dg z.natAbs d hd
        have h2 : c = 43 := by simpa using g
        have h3 : (UInt8.ofNat (48 + d)).toNat = (43 : UInt8).toNat := by rw [hc, h2]
        rw [UInt8.toNat_ofNat'] at h3
        change _ = 43 at h3
        omega
  have h1 := congrArg List.head? h
  rw [txtQ_data y] at h1
  have h2 : ([43] ++ (txtQ x).data.toList).head? = some (43 : UInt8) := rfl
  have h3 : ((⟨#[43]⟩ : ByteArray).data.toList ++ (txtQ x).data.toList).head? = some (43 : UInt8) := rfl
  rw [h3] at h1
  have hne : ∀ z : Int, txt z ≠ [] := by
    intro z e0
    have := parse_txt z
    rw [e0] at this
    rw [show parseZ [] = none from by decide] at this; cases this
  split at h1
  · exact h0 _ h1.symm
  · rw [List.head?_append] at h1
    cases hb : txt y.num with
    | nil => exact hne _ hb
    | cons c l => rw [hb] at h1; exact h0 y.num (by rw [hb]; simpa using h1.symm)
set_option maxRecDepth 100000 in
set_option maxHeartbeats 8000000 in
theorem txq_t  (ca0 cb0 : Int) (ck0 : Nat) (ca1 cb1 : Int) (ck1 : Nat)  (w : World)  (r0 : -128 ≤ ca0 ∧ ca0 ≤ 127 ∧ -128 ≤ cb0 ∧ cb0 ≤ 127 ∧ ck0 < 256) (r1 : -128 ≤ ca1 ∧ ca1 ≤ 127 ∧ -128 ≤ cb1 ∧ cb1 ≤ 127 ∧ ck1 < 256) :
    Calls Try.prog 5 #[.agg #[.int .i8 ca0, .int .i8 cb0, .int .u8 ((ck0 : Nat) : Int), .int .i8 ca1, .int .i8 cb1, .int .u8 ((ck1 : Nat) : Int)]] w (RetB w true) := by
 have E := Env.start w
 obtain ⟨ra0, rb0, rc0, rd0, re0⟩ := r0
 obtain ⟨x, hm0⟩ : ∃ q, madeQ ca0 cb0 ck0 = q := ⟨_, rfl⟩
 have Fx : FitQ x 20 := by rw [← hm0]; exact madeQ_fit ra0 rb0 rc0 rd0 re0
 obtain ⟨ra1, rb1, rc1, rd1, re1⟩ := r1
 obtain ⟨y, hm1⟩ : ∃ q, madeQ ca1 cb1 ck1 = q := ⟨_, rfl⟩
 have Fy : FitQ y 20 := by rw [← hm1]; exact madeQ_fit ra1 rb1 rc1 rd1 re1
 go_enter Try.func5, Try.ntmps5
 refine wp_seq ?_
 -- region 0
 refine RL ?_
 refine EF rfl (Oper.wp_box (cs := [.int .i8 ca0, .int .i8 cb0, .int .u8 ((ck0 : Nat) : Int), .int .i8 ca1, .int .i8 cb1, .int .u8 ((ck1 : Nat) : Int)]) rfl rfl ?_)
 intro b1 w1 e1 z1 d1 x1
 have l1 : w.heap.size ≤ b1 := by rw [e1]; exact (E.1).size
 replace E := E.below d1
 clear e1 z1 d1
 replace E := E.x x1
 clear x1
 refine kw rfl ?_
 refine AC rfl rfl rfl rfl <| ?_
 simp only [q2,q3]
 refine WN ?_
 change Code.wp _ _ _ _ _
 refine wp_seq ?_
 -- region 1
 refine RL ?_
 refine EF rfl (Oper.wp_callB fn_elaw02_examples rfl (examples_t _) rfl E ?_)
 clear E
 intro w2 d2 E
 clear d2
 refine kw rfl ?_
 refine A rfl rfl rfl rfl rfl <| ?_
 simp only [q2,q3]
 refine WN ?_
 change Code.wp _ _ _ _ _
 refine wp_seq ?_
 refine wp_seq ?_
 -- region 2
 refine RL ?_
 refine M rfl rfl rfl rfl rfl <| V (v := .bool false) rfl rfl (run_not (b := true) rfl rfl) <| ?_
 simp only [q2,q3]
 refine WN ?_
 change Code.wp _ _ _ _ _
 refine wp_cond_false rfl ?_
 refine wp_skip ?_
 change Code.wp _ _ _ _ _
 refine wp_seq ?_
 -- region 4
 have hB3_0 : b1 < w2.heap.size := Bx.lt (E.1)
 refine wp_schedF E [.op 0, .op 1, .op 3, .op 4, .av 6, .av 7, .op 2, .op 5, .op 6, .op 7] 2 (#[true, true, true, true, true, true, true, true, false, false]) (by kernel_rfl) (by kernel_rfl) (by kernel_rfl) (by kernel_rfl) (by intro d v c a w h; cases d <;> exact h) (by intro d v c a w h; cases d <;> exact h) ?_
 refine FP (v := .pointer (some ⟨b1, 0 + 0 * 3, none⟩)) rfl rfl rfl rfl rfl (fun w hS => run_idxA (j := 0) rfl Try.underlying46 (by kernel_rfl) rfl rfl rfl (by decide)) <| FP (v := .agg #[.int .i8 ca0, .int .i8 cb0, .int .u8 ((ck0 : Nat) : Int)]) rfl rfl rfl rfl rfl (fun w hS => run_loadW rfl rfl (hS.1) rfl rfl rfl) <| FP (v := .pointer (some ⟨b1, 0 + 1 * 3, none⟩)) rfl rfl rfl rfl rfl (fun w hS => run_idxA (j := 1) rfl Try.underlying46 (by kernel_rfl) rfl rfl rfl (by decide)) <| FP (v := .agg #[.int .i8 ca1, .int .i8 cb1, .int .u8 ((ck1 : Nat) : Int)]) rfl rfl rfl rfl rfl (fun w hS => run_loadW rfl rfl (hS.1) rfl rfl rfl) <| FA _ (RunF.alloc AgR rfl rfl rfl) <| FA _ (RunF.alloc AgR rfl rfl rfl) <| ?_
 simp only [q2,q3]
 clear E
 refine FE rfl rfl rfl rfl ?_
 intro w5 E
 refine Oper.wp_callP fn_eref02_Made rfl (Made_is ca0 cb0 ck0 x _ hm0 ra0 rb0 rc0 rd0 re0) rfl E ?_
 clear E
 intro w4 n4 s4 m4 t4 d4 E
 refine kF d4 E rfl ?_
 simp only [q2,q3]
 clear E
 refine FE rfl rfl rfl rfl ?_
 intro w7 E
 refine Oper.wp_callP fn_eref02_Made rfl (Made_is ca1 cb1 ck1 y _ hm1 ra1 rb1 rc1 rd1 re1) rfl E ?_
 clear E
 intro w6 n6 s6 m6 t6 d6 E
 refine kF d6 E rfl ?_
 simp only [q2,q3]
 refine FF rfl rfl ?_
 intro b8 f8 u8
 have l8_0 : b1 < b8 := by omega
 simp only [q2,q3]
 refine FF rfl rfl ?_
 intro b9 f9 u9
 have l9_0 : b1 < b9 := by omega
 have v9_0 : b9 ≠ b8 := by rintro rfl; exact u9 (by simp)
 simp only [q2,q3]
 clear E
 intro w10 E
 refine H1 (i := 8) (by kernel_rfl) ?_
 have x12 := E.2.1
 replace E := (E.2.2).x (E.1)
 refine HE (o := ⟨none, _, _, _, _, _⟩) rfl rfl (Oper.wp_store AgR rfl rfl rfl x12 rfl rfl (one4 (IsI.one (e4 E)) (IsI.one (e3 E))) ?_)
 intro w11 o11 y11
 replace E := (E.onl (x12.noW (now4 now0 now0)) ⟨okX (by omega), trivial, trivial, trivial, trivial, okX (by omega), okW (by omega), trivial⟩ o11).x y11
 clear x12 o11 y11
 refine ⟨E.2.2.2.2.2.2, ?_⟩
 simp only [Act.put]
 refine H1 (i := 9) (by kernel_rfl) ?_
 have x14 := E.2.1
 replace E := (E.2.2).x (E.1)
 refine HE (o := ⟨none, _, _, _, _, _⟩) rfl rfl (Oper.wp_store AgR rfl rfl rfl x14 rfl rfl (one4 (IsI.one (E.2.2.1)) (IsI.one (E.2.1))) ?_)
 intro w13 o13 y13
 replace E := (E.onl (x14.noW (now4 now0 now0)) ⟨okX (by omega), trivial, trivial, trivial, trivial, okX (by omega), okW (by omega), trivial⟩ o13).x y13
 clear x14 o13 y13
 refine ⟨E.2.2.2.2.2.2, ?_⟩
 simp only [Act.put]
 refine HN (by kernel_rfl) ?_
 change Code.wp _ _ _ _ _
 refine wp_seq ?_
 -- region 5
 refine wp_schedE E ([0, 2, 1, 3, 4, 5]) (by kernel_rfl) (by kernel_rfl) (by kernel_rfl) (by kernel_rfl) (by intro d v c a w h; cases d <;> exact h) ?_
 replace E := E.drew
 refine SW rfl rfl rfl rfl rfl (fun w hS => run_load_bx AgR rfl rfl (hS.2.1) rfl) <| SW rfl rfl rfl rfl rfl (fun w hS => run_load_bx AgR rfl rfl (hS.1) rfl) <| ?_
 simp only [q2,q3]
 refine S1a (o := ⟨some 22, _, _, _, _, _⟩) rfl rfl rfl rfl (Oper.wp_callX fn_rational_Text rfl (Text_q _ _ _ _ x _ (e5 E) (e4 E) (FitQ.mono Fx (by decide))) rfl E ?_)
 clear E
 intro w15 d15 E
 clear d15
 refine ⟨E, ?_⟩
 simp only [Act.put,q1,q2,q3]
 refine S1a (o := ⟨some 24, _, _, _, _, _⟩) rfl rfl rfl rfl (Oper.wp_callX fn_rational_Text rfl (Text_q _ _ _ _ y _ (e3 E) (E.2.2.1) (FitQ.mono Fy (by decide))) rfl E ?_)
 clear E
 intro w16 d16 E
 clear d16
 refine ⟨E, ?_⟩
 simp only [Act.put,q1,q2,q3]
 refine SA rfl rfl rfl rfl rfl rfl rfl rfl <| SA rfl rfl rfl rfl rfl rfl rfl rfl <| ?_
 simp only [q2,q3]
 refine SN ?_
 change Code.wp _ _ _ _ _
 refine wp_seq ?_
 -- region 6
 refine RL ?_
 refine M rfl rfl rfl rfl rfl <| ?_
 simp only [q2,q3]
 refine EF rfl (Oper.wp_callPE fn_rational_Parse rfl (Parse_is _ x _ (by have := txtQ_size Fx; omega) rfl) rfl E ?_)
 clear E
 intro w17 n17 s17 m17 t17 d17 E
 clear d17
 refine kw rfl ?_
 refine M rfl rfl rfl rfl rfl <| V rfl rfl (run_extract (vs := [.agg #[.bool n17, s17, .bool m17, t17], .int .i64 0]) rfl rfl rfl) <| V rfl rfl (run_extract (vs := [.agg #[.bool n17, s17, .bool m17, t17], .int .i64 0]) rfl rfl rfl) <| ?_
 simp only [q2,q3]
 refine EF rfl (Oper.wp_alloc AgR rfl ?_)
 intro b18 w18 e18 z18 d18 x18
 have l18_0 : b9 < b18 := by rw [e18]; exact Bx.lt (E.2.2.1)
 have l18_1 : b8 < b18 := by rw [e18]; exact Bx.lt (e3 E)
 replace E := E.below d18
 clear e18 z18 d18
 refine kw rfl ?_
 simp only [q2,q3]
 refine EF rfl (Oper.wp_store AgR rfl rfl rfl x18 rfl rfl (one4 (IsI.one (E.2.1)) (IsI.one (E.1))) ?_)
 intro w19 o19 y19
 replace E := (E.onl (x18.noW (now4 now0 now0)) ⟨trivial, trivial, okX (by omega), okX (by omega), trivial, trivial, trivial, trivial, okX (by omega), okW (by omega), trivial⟩ o19).x y19
 clear x18 o19 y19
 refine kn rfl ?_
 refine A rfl rfl rfl rfl rfl <| ?_
 simp only [q2,q3]
 refine WN ?_
 change Code.wp _ _ _ _ _
 refine wp_seq ?_
 -- region 7
 refine RL ?_
 refine M rfl rfl rfl rfl rfl <| V (v := .string (⟨#[43]⟩ ++ txtQ x)) rfl rfl (run_cat rfl rfl rfl (by have := txtQ_size Fx; have : (⟨#[43]⟩ : ByteArray).size = 1 := rfl; omega)) <| ?_
 simp only [q2,q3]
 refine EF rfl (Oper.wp_callPE fn_rational_Parse rfl (Parse_no _ _ (by rw [ByteArray.size_append]; have := txtQ_size Fx; have : (⟨#[43]⟩ : ByteArray).size = 1 := rfl; omega) plus_no) rfl E ?_)
 clear E
 intro w20 n20 s20 m20 t20 d20 E
 clear d20
 refine kw rfl ?_
 refine M rfl rfl rfl rfl rfl <| V rfl rfl (run_extract (vs := [.agg #[.bool n20, s20, .bool m20, t20], .int .i64 3]) rfl rfl rfl) <| V rfl rfl (run_extract (vs := [.agg #[.bool n20, s20, .bool m20, t20], .int .i64 3]) rfl rfl rfl) <| ?_
 simp only [q2,q3]
 refine EF rfl (Oper.wp_alloc AgR rfl ?_)
 intro b21 w21 e21 z21 d21 x21
 have l21_0 : b18 < b21 := by rw [e21]; exact Bx.lt (E.2.2.1)
 replace E := E.below d21
 clear e21 z21 d21
 refine kw rfl ?_
 simp only [q2,q3]
 refine EF rfl (Oper.wp_store AgR rfl rfl rfl x21 rfl rfl (one4 (IsI.one (E.2.1)) (IsI.one (E.1))) ?_)
 intro w22 o22 y22
 replace E := (E.onl (x21.noW (now4 now0 now0)) ⟨trivial, trivial, okX (by omega), trivial, trivial, okX (by omega), okX (by omega), trivial, trivial, trivial, trivial, okX (by omega), okW (by omega), trivial⟩ o22).x y22
 clear x21 o22 y22
 refine kn rfl ?_
 refine A rfl rfl rfl rfl rfl <| ?_
 simp only [q2,q3]
 refine WN ?_
 change Code.wp _ _ _ _ _
 refine wp_seq ?_
 by_cases hxy : x = y
 case pos =>
  -- region 8
  refine RL ?_
  refine V rfl rfl (run_load_bx AgR rfl rfl (e3 E) rfl) <| M rfl rfl rfl rfl rfl <| V rfl rfl (run_load_bx AgR rfl rfl (e7 E) rfl) <| ?_
  simp only [q2,q3]
  refine EF rfl (Oper.wp_callB fn_elaw02_is rfl (is_t _ _ _ _ x.num ((x.den : Nat) : Int) _ _ _ _ x.num ((x.den : Nat) : Int) _ (e5 E) (e4 E) (e11 E) (e10 E) (congrArg Rat.num rfl) (congrArg (fun z => ((Rat.den z : Nat) : Int)) rfl)) rfl E ?_)
  clear E
  intro w23 d23 E
  clear d23
  refine kw rfl ?_
  refine M rfl rfl rfl rfl rfl <| V (by kernel_rfl) rfl (run_load_bx AgR rfl rfl (E.1) rfl) <| M (by kernel_rfl) rfl rfl rfl rfl <| ?_
  simp only [q2,q3]
  refine EF rfl (Oper.wp_callB fn_elaw02_fails rfl (fails_t 3 _ _ _ _ 0 0 _ (E.2.2.1) (E.2.1) rfl rfl) rfl E ?_)
  clear E
  intro w24 d24 E
  clear d24
  refine kw rfl ?_
  refine V (v := .bool true) rfl rfl (run_pick (b := true) rfl rfl rfl) <| M rfl rfl rfl rfl rfl <| M (by kernel_rfl) rfl rfl rfl rfl <| M (by kernel_rfl) rfl rfl rfl rfl <| ?_
  simp only [q2,q3]
  refine V (by kernel_rfl) rfl (run_eqS (c := true) rfl rfl rfl (beq_iff_eq.2 (by rw [hxy]))) <| V (by kernel_rfl) rfl (run_load_bx AgR rfl rfl (e7 E) rfl) <| V (by kernel_rfl) rfl (run_load_bx AgR rfl rfl (e6 E) rfl) <| ?_
  simp only [q2,q3]
  refine EF rfl (Oper.wp_callB fn_eref02_Same rfl (retB_is (decide_eq_true hxy) (Same_rq _ _ _ _ x _ _ _ _ y _ (e11 E) (e10 E) (e9 E) (e8 E))) rfl E ?_)
  clear E
  intro w25 d25 E
  clear d25
  refine kw rfl ?_
  refine V (by kernel_rfl) rfl (run_eqB (a := true) (b := true) (c := true) rfl Try.underlying4 rfl rfl rfl) <| V (v := .bool true) rfl rfl (run_pick (b := true) rfl rfl rfl) <| M rfl rfl rfl rfl rfl <| M (by kernel_rfl) rfl rfl rfl rfl <| ?_
  simp only [q2,q3]
  refine V (v := .bool true) rfl rfl (run_pick (b := true) rfl rfl rfl) <| A rfl rfl rfl rfl rfl <| ?_
  simp only [q2,q3]
  refine WN ?_
  change Code.wp _ _ _ _ _
  refine wp_ret ?_
  exact bodyPost_ret (v := .bool true) (by simp [results, Try.results5, asAddr]) rfl ⟨rfl, e13 E⟩
 case neg =>
  -- region 8
  refine RL ?_
  refine V rfl rfl (run_load_bx AgR rfl rfl (e3 E) rfl) <| M rfl rfl rfl rfl rfl <| V rfl rfl (run_load_bx AgR rfl rfl (e7 E) rfl) <| ?_
  simp only [q2,q3]
  refine EF rfl (Oper.wp_callB fn_elaw02_is rfl (is_t _ _ _ _ x.num ((x.den : Nat) : Int) _ _ _ _ x.num ((x.den : Nat) : Int) _ (e5 E) (e4 E) (e11 E) (e10 E) (congrArg Rat.num rfl) (congrArg (fun z => ((Rat.den z : Nat) : Int)) rfl)) rfl E ?_)
  clear E
  intro w26 d26 E
  clear d26
  refine kw rfl ?_
  refine M rfl rfl rfl rfl rfl <| V (by kernel_rfl) rfl (run_load_bx AgR rfl rfl (E.1) rfl) <| M (by kernel_rfl) rfl rfl rfl rfl <| ?_
  simp only [q2,q3]
  refine EF rfl (Oper.wp_callB fn_elaw02_fails rfl (fails_t 3 _ _ _ _ 0 0 _ (E.2.2.1) (E.2.1) rfl rfl) rfl E ?_)
  clear E
  intro w27 d27 E
  clear d27
  refine kw rfl ?_
  refine V (v := .bool true) rfl rfl (run_pick (b := true) rfl rfl rfl) <| M rfl rfl rfl rfl rfl <| M (by kernel_rfl) rfl rfl rfl rfl <| M (by kernel_rfl) rfl rfl rfl rfl <| ?_
  simp only [q2,q3]
  refine V (by kernel_rfl) rfl (run_eqS (c := false) rfl rfl rfl (txtQ_neq hxy)) <| V (by kernel_rfl) rfl (run_load_bx AgR rfl rfl (e7 E) rfl) <| V (by kernel_rfl) rfl (run_load_bx AgR rfl rfl (e6 E) rfl) <| ?_
  simp only [q2,q3]
  refine EF rfl (Oper.wp_callB fn_eref02_Same rfl (retB_is (decide_eq_false hxy) (Same_rq _ _ _ _ x _ _ _ _ y _ (e11 E) (e10 E) (e9 E) (e8 E))) rfl E ?_)
  clear E
  intro w28 d28 E
  clear d28
  refine kw rfl ?_
  refine V (by kernel_rfl) rfl (run_eqB (a := false) (b := false) (c := true) rfl Try.underlying4 rfl rfl rfl) <| V (v := .bool true) rfl rfl (run_pick (b := true) rfl rfl rfl) <| M rfl rfl rfl rfl rfl <| M (by kernel_rfl) rfl rfl rfl rfl <| ?_
  simp only [q2,q3]
  refine V (v := .bool true) rfl rfl (run_pick (b := true) rfl rfl rfl) <| A rfl rfl rfl rfl rfl <| ?_
  simp only [q2,q3]
  refine WN ?_
  change Code.wp _ _ _ _ _
  refine wp_ret ?_
  exact bodyPost_ret (v := .bool true) (by simp [results, Try.results5, asAddr]) rfl ⟨rfl, e13 E⟩
end Go.Proofs.Ytndpjfhhigpbhaa
