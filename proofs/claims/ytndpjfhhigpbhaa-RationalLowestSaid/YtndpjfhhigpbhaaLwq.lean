/- Walk: the law RationalLowest. (Printed by a g_ program.) -/
import Derived.Test.YtndpjfhhigpbhaaExQ
import Derived.Test.YtndpjfhhigpbhaaInt
namespace Go.Proofs.Ytndpjfhhigpbhaa
open Go.RowKit W
theorem Oper.wp_callIs {P : Program} {o : Oper} {a : Act} {w : World} {K : Act → World → Prop} {Q : Exit → Act → World → Prop} {f : Nat} {args : List Operand} {tys : Array TypeId} {vs : List Value} {l : List SF}
    (hf : Fn P f) (ho : o.op = .call { callee := .value (.func f), args := args.toArray, argTypes := tys }) (hc : Calls P f vs.toArray w (RetIs w)) (hv : args.map a.eval = vs) (E : Env w l)
    (h : ∀ w' z n s, Fits z 12 → Below w.heap.size w w' → Env w' (fI (.agg #[.bool n, s]) z :: l) → K (a.put o.dst (.agg #[.bool n, s])) w') : o.wp P a w K Q := by
  refine Oper.wp_call hf ho hc hv ?_
  rintro e w' ⟨z, hF, v, rfl, hz, hb⟩
  obtain ⟨n, s, rfl, _⟩ := hz.sh
  exact ⟨_, rfl, h w' z n s hF hb ⟨hz, E.below hb⟩⟩
theorem low_cross {n d : Int} (h : d ≠ 0) : (Rat.divInt n d).num * d = (((Rat.divInt n d).den : Nat) : Int) * n := by
  have h1 : Rat.divInt (Rat.divInt n d).num (((Rat.divInt n d).den : Nat) : Int) = Rat.divInt n d := Rat.num_divInt_den _
  have h2 := (Rat.divInt_eq_divInt_iff (den_ne (Rat.divInt n d)) h).1 h1
  rw [h2, Int.mul_comm]
theorem cmpI_eq0 {a b : Int} (h : a = b) : (cmpI a b == 0) = true := by rw [cmpI_eq h]; rfl
theorem sgn_den (x : Rat) : (sgn ((x.den : Nat) : Int) == 1) = true := by rw [sgnQ_pos (denI x)]; rfl
theorem gcd_low (x : Rat) : ((Nat.gcd x.num.natAbs (((x.den : Nat) : Int)).natAbs : Nat) : Int) = 1 := by rw [(vq_rat x).2]; rfl
set_option maxRecDepth 100000 in
set_option maxHeartbeats 8000000 in
theorem lwq_t (pn : Bool) (ps : Value) (pl : List Nat) (qn : Bool) (qs : Value) (ql : List Nat)  (w : World)  (hps : Sl w ps pl) (hqs : Sl w qs ql) :
    Calls Try.prog 4 #[.agg #[.bool pn, ps], .agg #[.bool qn, qs]] w (RetB w true) := by
 have E := Env.start w
 go_enter Try.func4, Try.ntmps4
 refine wp_seq ?_
 -- region 0
 refine RL ?_
 refine EF rfl (Oper.wp_box (cs := [.bool pn, ps]) rfl rfl ?_)
 intro b1 w1 e1 z1 d1 x1
 have l1 : w.heap.size ≤ b1 := by rw [e1]; exact (E.1).size
 replace E := E.below d1
 clear e1 z1 d1
 replace E := E.x x1
 clear x1
 refine kw rfl ?_
 simp only [q2,q3]
 refine EF rfl (Oper.wp_box (cs := [.bool qn, qs]) rfl rfl ?_)
 intro b2 w2 e2 z2 d2 x2
 have l2_0 : b1 < b2 := by rw [e2]; exact Bx.lt (E.1)
 replace E := E.below d2
 clear e2 z2 d2
 replace E := E.x x2
 clear x2
 refine kw rfl ?_
 refine AC rfl rfl rfl rfl <| ?_
 simp only [q2,q3]
 refine WN ?_
 change Code.wp _ _ _ _ _
 refine wp_seq ?_
 -- region 1
 refine RL ?_
 refine EF rfl (Oper.wp_callB fn_elaw02_examples rfl (examples_t _) rfl E ?_)
 clear E
 intro w3 d3 E
 clear d3
 refine kw rfl ?_
 refine A rfl rfl rfl rfl rfl <| ?_
 simp only [q2,q3]
 refine WN ?_
 change Code.wp _ _ _ _ _
 refine wp_seq ?_
 refine wp_seq ?_
 -- region 2
 refine RL ?_
 refine M rfl rfl rfl rfl rfl <| V (v := .bool false) rfl rfl (run_not (b := true) rfl rfl) <| ?_
 simp only [q2,q3]
 refine WN ?_
 change Code.wp _ _ _ _ _
 refine wp_cond_false rfl ?_
 refine wp_skip ?_
 change Code.wp _ _ _ _ _
 refine wp_seq ?_
 -- region 4
 have hB4_0 : b2 < w3.heap.size := Bx.lt (E.1)
 refine wp_schedF E [.op 0, .op 2, .av 4, .av 5, .op 1, .op 3, .op 4, .op 5] 2 (#[true, true, true, true, true, true, false, false]) (by kernel_rfl) (by kernel_rfl) (by kernel_rfl) (by kernel_rfl) (by intro d v c a w h; cases d <;> exact h) (by intro d v c a w h; cases d <;> exact h) ?_
 refine FP (v := .agg #[.bool pn, ps]) rfl rfl rfl rfl rfl (fun w hS => run_load_bx AgI rfl rfl (hS.2.1) rfl) <| FP (v := .agg #[.bool qn, qs]) rfl rfl rfl rfl rfl (fun w hS => run_load_bx AgI rfl rfl (hS.1) rfl) <| FA _ (RunF.alloc AgI rfl rfl rfl) <| FA _ (RunF.alloc AgI rfl rfl rfl) <| ?_
 simp only [q2,q3]
 clear E
 refine FE rfl rfl rfl rfl ?_
 intro w6 E
 refine Oper.wp_callIs fn_eref02_Ints rfl (Ints_q pn ps pl _ (Sl.below hps (E.2.2.1))) rfl E ?_
 clear E
 intro w5 zx n5 s5 Fzx d5 E
 refine kF d5 E rfl ?_
 simp only [q2,q3]
 clear E
 refine FE rfl rfl rfl rfl ?_
 intro w8 E
 refine Oper.wp_callIs fn_eref02_Ints rfl (Ints_q qn qs ql _ (Sl.below hqs (e3 E))) rfl E ?_
 clear E
 intro w7 zy n7 s7 Fzy d7 E
 refine kF d7 E rfl ?_
 simp only [q2,q3]
 refine FF rfl rfl ?_
 intro b9 f9 u9
 have l9_0 : b2 < b9 := by omega
 simp only [q2,q3]
 refine FF rfl rfl ?_
 intro b10 f10 u10
 have l10_0 : b2 < b10 := by omega
 have v10_0 : b10 ≠ b9 := by rintro rfl; exact u10 (by simp)
 simp only [q2,q3]
 clear E
 intro w11 E
 refine H1 (i := 6) (by kernel_rfl) ?_
 have x13 := E.2.1
 replace E := (E.2.2).b (E.1)
 refine HE (o := ⟨none, _, _, _, _, _⟩) rfl rfl (Oper.wp_store AgI rfl rfl rfl x13 rfl rfl (IsI.one (E.2.2.1)) ?_)
 intro w12 o12 y12
 replace E := (E.onl (x13.noW now0) ⟨okB (by omega), trivial, trivial, okX (by omega), okX (by omega), okW (by omega), trivial⟩ o12).b y12
 clear x13 o12 y12
 refine ⟨E.2.2.2.2, ?_⟩
 simp only [Act.put]
 refine H1 (i := 7) (by kernel_rfl) ?_
 have x15 := E.2.1
 replace E := (E.2.2).b (E.1)
 refine HE (o := ⟨none, _, _, _, _, _⟩) rfl rfl (Oper.wp_store AgI rfl rfl rfl x15 rfl rfl (IsI.one (E.2.1)) ?_)
 intro w14 o14 y14
 replace E := (E.onl (x15.noW now0) ⟨okB (by omega), trivial, trivial, okX (by omega), okX (by omega), okW (by omega), trivial⟩ o14).b y14
 clear x15 o14 y14
 refine ⟨E.2.2.2.2, ?_⟩
 simp only [Act.put]
 refine HN (by kernel_rfl) ?_
 change Code.wp _ _ _ _ _
 refine wp_seq ?_
 by_cases hy : zy = 0
 case pos =>
  -- region 5
  refine RL ?_
  refine V rfl rfl (run_load_bx AgI rfl rfl (E.2.1) rfl) <| V rfl rfl (run_load_bx AgI rfl rfl (E.1) rfl) <| ?_
  simp only [q2,q3]
  refine EF rfl (Oper.wp_callPE fn_rational_New rfl (New_zero _ zx _ zy _ (e3 E) (E.2.2.1) hy) rfl E ?_)
  clear E
  intro w16 n16 s16 m16 t16 d16 E
  clear d16
  refine kw rfl ?_
  refine M rfl rfl rfl rfl rfl <| V rfl rfl (run_extract (vs := [.agg #[.bool n16, s16, .bool m16, t16], .int .i64 10]) rfl rfl rfl) <| V rfl rfl (run_extract (vs := [.agg #[.bool n16, s16, .bool m16, t16], .int .i64 10]) rfl rfl rfl) <| ?_
  simp only [q2,q3]
  refine EF rfl (Oper.wp_alloc AgR rfl ?_)
  intro b17 w17 e17 z17 d17 x17
  have l17_0 : b10 < b17 := by rw [e17]; exact Bx.lt (E.2.2.1)
  have l17_1 : b9 < b17 := by rw [e17]; exact Bx.lt (e3 E)
  replace E := E.below d17
  clear e17 z17 d17
  refine kw rfl ?_
  simp only [q2,q3]
  refine EF rfl (Oper.wp_store AgR rfl rfl rfl x17 rfl rfl (one4 (IsI.one (E.2.1)) (IsI.one (E.1))) ?_)
  intro w18 o18 y18
  replace E := (E.onl (x17.noW (now4 now0 now0)) ⟨trivial, trivial, okB (by omega), okB (by omega), trivial, trivial, okX (by omega), okX (by omega), okW (by omega), trivial⟩ o18).x y18
  clear x17 o18 y18
  refine kn rfl ?_
  refine A rfl rfl rfl rfl rfl <| ?_
  simp only [q2,q3]
  refine WN ?_
  change Code.wp _ _ _ _ _
  refine wp_seq ?_
  refine wp_seq ?_
  -- region 6
  refine RL ?_
  refine V rfl rfl (run_fieldI1 rfl rfl) <| V rfl rfl (run_cell rfl isAgg_words rfl (e3 E) rfl) <| ?_
  obtain ⟨ao20, cap20, hs20⟩ := IsI.slice (e5 E)
  refine V (v := .int .i64 (((digs zy.natAbs).length : Nat) : Int)) rfl rfl (run_len rfl hs20) <| V rfl rfl (run_eqI (c := true) rfl rfl rfl (len_eq0 hy)) <| ?_
  simp only [q2,q3]
  refine WN ?_
  change Code.wp _ _ _ _ _
  refine wp_cond_true rfl ?_
  refine wp_seq ?_
  -- region 7
  refine RL ?_
  refine V rfl rfl (run_load_bx AgR rfl rfl (E.1) rfl) <| M rfl rfl rfl rfl rfl <| ?_
  simp only [q2,q3]
  refine EF rfl (Oper.wp_callB fn_elaw02_fails rfl (fails_t 10 _ _ _ _ 0 0 _ (E.2.2.1) (E.2.1) rfl rfl) rfl E ?_)
  clear E
  intro w21 d21 E
  clear d21
  refine kw rfl ?_
  refine M rfl rfl rfl rfl rfl <| M (by kernel_rfl) rfl rfl rfl rfl <| V (v := .bool true) rfl rfl (run_pick (b := true) rfl rfl rfl) <| A rfl rfl rfl rfl rfl <| ?_
  simp only [q2,q3]
  refine WN ?_
  change Code.wp _ _ _ _ _
  refine wp_ret ?_
  exact bodyPost_ret (v := .bool true) (by simp [results, Try.results4, asAddr]) rfl ⟨rfl, e9 E⟩
 case neg =>
  -- region 5
  refine RL ?_
  refine V rfl rfl (run_load_bx AgI rfl rfl (E.2.1) rfl) <| V rfl rfl (run_load_bx AgI rfl rfl (E.1) rfl) <| ?_
  simp only [q2,q3]
  refine EF rfl (Oper.wp_callPE fn_rational_New rfl (New_z _ zx _ zy _ (e3 E) (E.2.2.1) hy (Fits.mono Fzx (by decide)) (Fits.mono Fzy (by decide))) rfl E ?_)
  clear E
  intro w23 n23 s23 m23 t23 d23 E
  clear d23
  refine kw rfl ?_
  have F22 : FitQ (Rat.divInt zx zy) 12 := FitQ_low (k := 12) hy (Fits.mono Fzx (by decide)) (Fits.mono Fzy (by decide))
  refine M rfl rfl rfl rfl rfl <| V rfl rfl (run_extract (vs := [.agg #[.bool n23, s23, .bool m23, t23], .int .i64 0]) rfl rfl rfl) <| V rfl rfl (run_extract (vs := [.agg #[.bool n23, s23, .bool m23, t23], .int .i64 0]) rfl rfl rfl) <| ?_
  simp only [q2,q3]
  refine EF rfl (Oper.wp_alloc AgR rfl ?_)
  intro b24 w24 e24 z24 d24 x24
  have l24_0 : b10 < b24 := by rw [e24]; exact Bx.lt (E.2.2.1)
  have l24_1 : b9 < b24 := by rw [e24]; exact Bx.lt (e3 E)
  replace E := E.below d24
  clear e24 z24 d24
  refine kw rfl ?_
  simp only [q2,q3]
  refine EF rfl (Oper.wp_store AgR rfl rfl rfl x24 rfl rfl (one4 (IsI.one (E.2.1)) (IsI.one (E.1))) ?_)
  intro w25 o25 y25
  replace E := (E.onl (x24.noW (now4 now0 now0)) ⟨trivial, trivial, okB (by omega), okB (by omega), trivial, trivial, okX (by omega), okX (by omega), okW (by omega), trivial⟩ o25).x y25
  clear x24 o25 y25
  refine kn rfl ?_
  refine A rfl rfl rfl rfl rfl <| ?_
  simp only [q2,q3]
  refine WN ?_
  change Code.wp _ _ _ _ _
  refine wp_seq ?_
  refine wp_seq ?_
  -- region 6
  refine RL ?_
  refine V rfl rfl (run_fieldI1 rfl rfl) <| V rfl rfl (run_cell rfl isAgg_words rfl (e3 E) rfl) <| ?_
  obtain ⟨ao27, cap27, hs27⟩ := IsI.slice (e5 E)
  refine V (v := .int .i64 (((digs zy.natAbs).length : Nat) : Int)) rfl rfl (run_len rfl hs27) <| V rfl rfl (run_eqI (c := false) rfl rfl rfl (len_ne0 hy)) <| ?_
  simp only [q2,q3]
  refine WN ?_
  change Code.wp _ _ _ _ _
  refine wp_cond_false rfl ?_
  refine wp_skip ?_
  change Code.wp _ _ _ _ _
  refine wp_seq ?_
  -- region 8
  refine wp_schedE E ([0, 1, 2, 3, 4, 5, 6, 7, 8, 9, 11, 12, 13, 10, 14, 15, 16, 17, 18, 19, 20, 21, 22, 23, 24, 25, 26, 27, 28, 29, 30, 31, 32, 33, 34, 35, 36, 37]) (by kernel_rfl) (by kernel_rfl) (by kernel_rfl) (by kernel_rfl) (by intro d v c a w h; cases d <;> exact h) ?_
  replace E := E.drew
  refine SM rfl rfl rfl rfl rfl rfl rfl rfl <| SW rfl rfl rfl rfl rfl (fun w hS => run_eqI (c := true) rfl rfl rfl (by decide)) <| SM rfl rfl rfl rfl rfl rfl rfl rfl <| SW rfl rfl rfl (by kernel_rfl) rfl (fun w hS => run_load_bx AgR rfl rfl (hS.1) rfl) <| ?_
  simp only [q2,q3]
  refine S1a (o := ⟨some 37, _, _, _, _, _⟩) rfl rfl rfl rfl (Oper.wp_callB fn_rational_Valid rfl (Valid_r _ _ _ _ (Rat.divInt zx zy) _ (E.2.2.1) (E.2.1) (FitQ.mono F22 (by decide))) rfl E ?_)
  clear E
  intro w28 d28 E
  clear d28
  refine ⟨E, ?_⟩
  simp only [Act.put,q1,q2,q3]
  refine SW (v := .bool true) rfl rfl rfl rfl rfl (fun w hS => run_pick (b := true) rfl rfl rfl) <| SM rfl rfl rfl rfl rfl rfl rfl rfl <| SW rfl rfl rfl (by kernel_rfl) rfl (fun w hS => run_fieldR0 rfl rfl) <| SW rfl rfl rfl (by kernel_rfl) rfl (fun w hS => run_loadAt rfl rfl (hS.1) rfl rfl) <| ?_
  simp only [q2,q3]
  refine SW rfl rfl rfl (by kernel_rfl) rfl (fun w hS => run_load_bx AgI rfl rfl (e3 hS) rfl) <| SW rfl rfl rfl (by kernel_rfl) rfl (fun w hS => run_fieldR1 rfl rfl) <| SW rfl rfl rfl (by kernel_rfl) rfl (fun w hS => run_loadAt rfl rfl (hS.1) rfl rfl) <| SW rfl rfl rfl (by kernel_rfl) rfl (fun w hS => run_load_bx AgI rfl rfl (e4 hS) rfl) <| ?_
  simp only [q2,q3]
  refine S1a (o := ⟨some 43, _, _, _, _, _⟩) rfl rfl rfl rfl (Oper.wp_callI fn_integer_Mul rfl (Mul_z _ _ ((Rat.divInt zx zy).num) zy _ (E.2.2.1) (e5 E) (Fits.mono F22.1 (by decide)) (Fits.mono Fzy (by decide))) rfl E ?_)
  clear E
  intro w30 n30 s30 d30 E
  clear d30
  refine ⟨E.2, ?_⟩
  simp only [Act.put,q1,q2,q3]
  have F29 : Fits (((Rat.divInt zx zy).num) * zy) 24 := Fits_mul F22.1 Fzy
  refine S1a (o := ⟨some 47, _, _, _, _, _⟩) rfl rfl rfl rfl (Oper.wp_callI fn_integer_Mul rfl (Mul_z _ _ (((Rat.divInt zx zy).den : Nat) : Int) zx _ (E.2.2.1) (e7 E) (Fits.mono F22.2 (by decide)) (Fits.mono Fzx (by decide))) rfl E ?_)
  clear E
  intro w32 n32 s32 d32 E
  clear d32
  refine ⟨E.2.2, ?_⟩
  simp only [Act.put,q1,q2,q3]
  have F31 : Fits ((((Rat.divInt zx zy).den : Nat) : Int) * zx) 24 := Fits_mul F22.2 Fzx
  refine S1a (o := ⟨some 48, _, _, _, _, _⟩) rfl rfl rfl rfl (Oper.wp_callN fn_integer_Cmp rfl (Cmp_z _ _ (((Rat.divInt zx zy).num) * zy) ((((Rat.divInt zx zy).den : Nat) : Int) * zx) _ (E.2.1) (E.1)) rfl E ?_)
  clear E
  intro w33 d33 E
  clear d33
  refine ⟨E.2.2, ?_⟩
  simp only [Act.put,q1,q2,q3]
  refine SW rfl rfl rfl (by kernel_rfl) rfl (fun w hS => run_eqI (c := true) rfl rfl rfl (cmpI_eq0 (low_cross hy))) <| SW (v := .bool true) rfl rfl rfl rfl rfl (fun w hS => run_pick (b := true) rfl rfl rfl) <| SM rfl rfl rfl rfl rfl rfl rfl rfl <| SW rfl rfl rfl (by kernel_rfl) rfl (fun w hS => run_fieldR1 rfl rfl) <| ?_
  simp only [q2,q3]
  refine SW rfl rfl rfl (by kernel_rfl) rfl (fun w hS => run_loadAt rfl rfl (hS.1) rfl rfl) <| ?_
  simp only [q2,q3]
  refine S1a (o := ⟨some 54, _, _, _, _, _⟩) rfl rfl rfl rfl (Oper.wp_callN fn_integer_Sign rfl (Sign_z _ (((Rat.divInt zx zy).den : Nat) : Int) _ (e3 E)) rfl E ?_)
  clear E
  intro w34 d34 E
  clear d34
  refine ⟨E.2.2, ?_⟩
  simp only [Act.put,q1,q2,q3]
  refine SW rfl rfl rfl (by kernel_rfl) rfl (fun w hS => run_eqI (c := true) rfl rfl rfl (sgn_den _)) <| SW (v := .bool true) rfl rfl rfl rfl rfl (fun w hS => run_pick (b := true) rfl rfl rfl) <| SM rfl rfl rfl rfl rfl rfl rfl rfl <| SW rfl rfl rfl (by kernel_rfl) rfl (fun w hS => run_fieldR0 rfl rfl) <| ?_
  simp only [q2,q3]
  refine SW rfl rfl rfl (by kernel_rfl) rfl (fun w hS => run_loadAt rfl rfl (hS.1) rfl rfl) <| SW rfl rfl rfl (by kernel_rfl) rfl (fun w hS => run_fieldR1 rfl rfl) <| SW rfl rfl rfl (by kernel_rfl) rfl (fun w hS => run_loadAt rfl rfl (hS.1) rfl rfl) <| ?_
  simp only [q2,q3]
  refine S1a (o := ⟨some 62, _, _, _, _, _⟩) rfl rfl rfl rfl (Oper.wp_callI fn_integer_Gcd rfl (Gcd_z _ _ ((Rat.divInt zx zy).num) (((Rat.divInt zx zy).den : Nat) : Int) _ (e4 E) (e3 E) (Fits.mono F22.1 (by decide)) (Fits.mono F22.2 (by decide))) rfl E ?_)
  clear E
  intro w36 n36 s36 d36 E
  clear d36
  refine ⟨E.2.2.2, ?_⟩
  simp only [Act.put,q1,q2,q3]
  have F35 : Fits ((Nat.gcd ((Rat.divInt zx zy).num).natAbs (((Rat.divInt zx zy).den : Nat) : Int).natAbs : Nat) : Int) 12 := Fits_gcd (den_ne _) F22.2
  refine S1a (o := ⟨some 63, _, _, _, _, _⟩) rfl rfl rfl rfl (Oper.wp_callI fn_integer_Of rfl (Of_z 1 _ (by decide) (by decide)) rfl E ?_)
  clear E
  intro w37 n37 s37 d37 E
  clear d37
  refine ⟨E.2.2.2.2, ?_⟩
  simp only [Act.put,q1,q2,q3]
  refine S1a (o := ⟨some 64, _, _, _, _, _⟩) rfl rfl rfl rfl (Oper.wp_callN fn_integer_Cmp rfl (Cmp_z _ _ ((Nat.gcd ((Rat.divInt zx zy).num).natAbs (((Rat.divInt zx zy).den : Nat) : Int).natAbs : Nat) : Int) 1 _ (E.2.1) (E.1)) rfl E ?_)
  clear E
  intro w38 d38 E
  clear d38
  refine ⟨E.2.2.2.2, ?_⟩
  simp only [Act.put,q1,q2,q3]
  refine SW rfl rfl rfl (by kernel_rfl) rfl (fun w hS => run_eqI (c := true) rfl rfl rfl (cmpI_eq0 (gcd_low _))) <| SW (v := .bool true) rfl rfl rfl rfl rfl (fun w hS => run_pick (b := true) rfl rfl rfl) <| SM rfl rfl rfl rfl rfl rfl rfl rfl <| SM rfl rfl rfl (by kernel_rfl) rfl rfl rfl rfl <| ?_
  simp only [q2,q3]
  refine SW (v := .bool true) rfl rfl rfl rfl rfl (fun w hS => run_pick (b := true) rfl rfl rfl) <| SA rfl rfl rfl rfl rfl rfl rfl rfl <| ?_
  simp only [q2,q3]
  refine SN ?_
  change Code.wp _ _ _ _ _
  refine wp_ret ?_
  exact bodyPost_ret (v := .bool true) (by simp [results, Try.results4, asAddr]) rfl ⟨rfl, e13 E⟩
end Go.Proofs.Ytndpjfhhigpbhaa
