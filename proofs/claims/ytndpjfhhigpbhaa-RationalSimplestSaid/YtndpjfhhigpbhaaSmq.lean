/- Walk: the law RationalSimplest. (Printed by a g_ program.) -/
import Derived.Test.YtndpjfhhigpbhaaExQ
import Derived.Test.YtndpjfhhigpbhaaOrdQ
namespace Go.Proofs.Ytndpjfhhigpbhaa
open Go.RowKit W
theorem IsBet.lo {c x y : Rat} (h : IsBet c x y) (_ : x ≤ y) : x ≤ c := by
  rcases h with ⟨_, h⟩ | ⟨_, h⟩ | ⟨h1, h2, h3⟩
  · exact h.lo
  · have := h.hi; rw [Rat.neg_le_neg_iff] at this; exact this
  · rw [h3]; exact Rat.not_lt.1 h1
theorem IsBet.hi {c x y : Rat} (h : IsBet c x y) (_ : x ≤ y) : c ≤ y := by
  rcases h with ⟨_, h⟩ | ⟨_, h⟩ | ⟨h1, h2, h3⟩
  · exact h.hi
  · have := h.lo; rw [Rat.neg_le_neg_iff] at this; exact this
  · rw [h3]; exact Rat.not_lt.1 h2
theorem IsBet.den {c x y r : Rat} (h : IsBet c x y) (h1 : x ≤ r) (h2 : r ≤ y) : c.den ≤ r.den := by
  rcases h with ⟨_, h⟩ | ⟨_, h⟩ | ⟨_, _, h3⟩
  · exact h.den r h1 h2
  · have := h.den (-r) (Rat.neg_le_neg h2) (Rat.neg_le_neg h1)
    rw [Rat.neg_den, Rat.neg_den] at this; exact this
  · rw [h3, Rat.den_intCast]; exact r.den_pos
theorem IsBet.numle {c x y r : Rat} (h : IsBet c x y) (h1 : x ≤ r) (h2 : r ≤ y) : c.num.natAbs ≤ r.num.natAbs := by
  rcases h with ⟨hx, h⟩ | ⟨hy, h⟩ | ⟨_, _, h3⟩
  · have g1 := h.num r h1 h2
    have g2 := pos_num.1 (lt_of_lt_le hx h.lo)
    omega
  · have g1 := h.num (-r) (Rat.neg_le_neg h2) (Rat.neg_le_neg h1)
    have g2 := pos_num.1 (lt_of_lt_le (negpos hy) h.lo)
    rw [negQ_num] at g1 g2; rw [negQ_num] at g1
    omega
  · rw [h3, Rat.num_intCast]; simp
theorem IsBet.fit {c x y : Rat} {k : Nat} (h : IsBet c x y) (hxy : x ≤ y) (F : FitQ x k) : FitQ c k :=
  ⟨Fits_le (h.numle Rat.le_refl hxy) F.1, Fits_le (by have := h.den (r := x) Rat.le_refl hxy; omega) F.2⟩
/-- No number of the interval is a multiple of 1/d. -/
theorem IsBet.empty {c x y : Rat} {d : Int} (h : IsBet c x y) (h1 : 1 ≤ d) (h2 : d < ((c.den : Nat) : Int)) : (((y * (d : Rat)).floor : Int) : Rat) < x * (d : Rat) := by
  refine Rat.not_le.1 fun hk => ?_
  have hd : (0 : Rat) < (d : Rat) := Rat.intCast_pos.2 (by omega)
  have hf := Rat.floor_le (y * (d : Rat))
  generalize (y * (d : Rat)).floor = k at *
  have e : Rat.divInt k d * (d : Rat) = (k : Rat) := by
    rw [Rat.divInt_eq_div, Rat.div_mul_cancel (pos_ne hd)]
  have g1 : x ≤ Rat.divInt k d := Rat.le_of_mul_le_mul_right (by rw [e]; exact hk) hd
  have g2 : Rat.divInt k d ≤ y := Rat.le_of_mul_le_mul_right (by rw [e]; exact hf) hd
  have g3 := h.den g1 g2
  have g4 := low_den_le (n := k) (d := d) (by omega)
  omega
theorem sgn_vq (c : Rat) : vq (sgn c.num) ((c.den : Nat) : Int) := by
  refine ⟨denI c, ?_⟩
  rcases Int.lt_trichotomy c.num 0 with h | h | h
  · rw [sgnQ_neg h]; exact Nat.gcd_one_left _
  · rw [h, Rat.num_eq_zero.1 h]; decide
  · rw [sgnQ_pos h]; exact Nat.gcd_one_left _
/-- The next numerator towards 0. -/
theorem next_num {c : Rat} (h : c ≠ 0) : (c - Rat.divInt (sgn c.num) ((c.den : Nat) : Int)).num.natAbs < c.num.natAbs := by
  have e : c - Rat.divInt (sgn c.num) ((c.den : Nat) : Int) = Rat.divInt (c.num - sgn c.num) ((c.den : Nat) : Int) := by
    have hd := den_ne c
    have h1 : c = Rat.divInt c.num ((c.den : Nat) : Int) := (Rat.num_divInt_den c).symm
    have h2 := Rat.divInt_sub_divInt c.num (sgn c.num) hd hd
    rw [← h1] at h2
    rw [h2, ← Int.sub_mul, Rat.divInt_mul_right hd]
  rw [e]
  refine Nat.lt_of_le_of_lt (low_num_le _ _) ?_
  rcases Int.lt_trichotomy c.num 0 with g | g | g
  · rw [sgnQ_neg g]; omega
  · exact absurd g (num_ne h)
  · rw [sgnQ_pos g]; omega
theorem IsBet.next {c x y : Rat} (h : IsBet c x y) (h0 : c ≠ 0) (h1 : x ≤ c - Rat.divInt (sgn c.num) ((c.den : Nat) : Int)) : ¬ c - Rat.divInt (sgn c.num) ((c.den : Nat) : Int) ≤ y := fun h2 => by
  have := h.numle h1 h2; have := next_num h0; omega
theorem IsBet.zero {c x y : Rat} (h : IsBet c x y) (hxy : x ≤ y) (h0 : c = 0) : ¬ 0 < x ∧ ¬ y < 0 := by
  subst h0
  exact ⟨fun g => Rat.lt_irrefl (lt_of_lt_le g (h.lo hxy)), fun g => Rat.lt_irrefl (lt_of_le_lt (h.hi hxy) g)⟩
theorem IsBet.nz {c x y : Rat} (h : IsBet c x y) (hx : ¬ 0 < x) (hy : ¬ y < 0) : c = 0 := by
  rcases h with ⟨h, _⟩ | ⟨h, _⟩ | ⟨_, _, h⟩
  · exact absurd h hx
  · exact absurd h hy
  · exact h
theorem Oper.wp_callBt {P : Program} {o : Oper} {a : Act} {w : World} {K : Act → World → Prop} {Q : Exit → Act → World → Prop} {f : Nat} {args : List Operand} {tys : Array TypeId} {vs : List Value} {l : List SF} {x y : Rat}
    (hf : Fn P f) (ho : o.op = .call { callee := .value (.func f), args := args.toArray, argTypes := tys }) (hc : Calls P f vs.toArray w (RetBt w x y)) (hv : args.map a.eval = vs) (E : Env w l)
    (h : ∀ w' (c : Rat) n s m t, IsBet c x y → Below w.heap.size w w' → Env w' (fI (.agg #[.bool m, t]) ((c.den : Nat) : Int) :: fI (.agg #[.bool n, s]) c.num :: l) → K (a.put o.dst (.tuple #[.agg #[.bool n, s, .bool m, t], .int .i64 0])) w') : o.wp P a w K Q := by
  refine Oper.wp_call hf ho hc hv ?_
  rintro e w' ⟨c, hbt, n, s, m, t, rfl, hp, hq, hb⟩
  exact ⟨_, rfl, h w' c n s m t hbt hb ⟨hq, hp, E.below hb⟩⟩
theorem cmpI_lt0' {a b : Int} (h : a < b) : decide (cmpI a b < 0) = true := by rw [cmpI_lt h]; rfl
theorem cmpI_nlt0' {a b : Int} (h : ¬ a < b) : decide (cmpI a b < 0) = false := by
  rcases Int.lt_trichotomy a b with g | g | g
  · exact absurd g h
  · rw [cmpI_eq g]; rfl
  · rw [cmpI_gt g]; rfl
theorem bne_sgn {z : Int} (h : z ≠ 0) : (sgn z != 0) = true := by
  have := sgn_ne0 h
  rw [beq_eq_false_iff_ne] at this; rw [bne_iff_ne]; exact this
theorem RetZ_eq {w : World} {z z' : Int} {e : Ending} {w' : World} (h : RetZ w z e w') (hz : z = z') : RetZ w z' e w' := by subst hz; exact h
set_option maxRecDepth 100000 in
set_option maxHeartbeats 8000000 in
theorem empty_t (d : Int) (na : Bool) (sa : Value) (ma : Bool) (ta : Value) (x : Rat) (nb : Bool) (sb : Value) (mb : Bool) (tb : Value) (y : Rat)  (w : World)  (hna : IsI w (.agg #[.bool na, sa]) x.num) (hda : IsI w (.agg #[.bool ma, ta]) ((x.den : Nat) : Int)) (hnb : IsI w (.agg #[.bool nb, sb]) y.num) (hdb : IsI w (.agg #[.bool mb, tb]) ((y.den : Nat) : Int)) (h1 : 1 ≤ d) (h2 : d ≤ 40) (he : (((y * ((d : Int) : Rat)).floor : Int) : Rat) < x * ((d : Int) : Rat)) (Fx : FitQ x 1000) (Fy : FitQ y 1000) :
    Calls Try.prog 36 #[.agg #[.bool na, sa, .bool ma, ta], .agg #[.bool nb, sb, .bool mb, tb], .int .i64 d] w (RetB w true) := by
 have E := Env.start w
 replace E := (E.i hna).i hda
 clear hna hda
 replace E := (E.i hnb).i hdb
 clear hnb hdb
 go_enter Try.func36, Try.ntmps36
 refine wp_seq ?_
 -- region 0
 refine RL ?_
 refine EF rfl (Oper.wp_box (cs := [.bool na, sa, .bool ma, ta]) rfl rfl ?_)
 intro b1 w1 e1 z1 d1 x1
 have l1 : w.heap.size ≤ b1 := by rw [e1]; exact (e4 E).size
 replace E := E.below d1
 clear e1 z1 d1
 replace E := E.x x1
 clear x1
 refine kw rfl ?_
 simp only [q2,q3]
 refine EF rfl (Oper.wp_box (cs := [.bool nb, sb, .bool mb, tb]) rfl rfl ?_)
 intro b2 w2 e2 z2 d2 x2
 have l2_0 : b1 < b2 := by rw [e2]; exact Bx.lt (E.1)
 replace E := E.below d2
 clear e2 z2 d2
 replace E := E.x x2
 clear x2
 refine kw rfl ?_
 refine AC rfl rfl rfl rfl <| ?_
 simp only [q2,q3]
 refine WN ?_
 change Code.wp _ _ _ _ _
 refine wp_seq ?_
 -- region 1
 have hB3_0 : b2 < w2.heap.size := Bx.lt (E.1)
 refine wp_schedF E [.op 0, .op 1, .op 4, .op 5, .av 9, .av 10, .op 2, .op 3, .op 6, .op 7, .op 8, .op 9, .op 10] 2 (#[true, true, true, true, true, true, true, true, true, true, true, false, false]) (by kernel_rfl) (by kernel_rfl) (by kernel_rfl) (by kernel_rfl) (by intro d v c a w h; cases d <;> exact h) (by intro d v c a w h; cases d <;> exact h) ?_
 refine FP (v := .agg #[.bool na, sa, .bool ma, ta]) rfl rfl rfl rfl rfl (fun w hS => run_load_bx AgR rfl rfl (hS.2.1) rfl) <| FP (v := .int .i64 d) rfl rfl rfl rfl rfl (fun w hS => run_move rfl rfl) <| FP (v := .agg #[.bool nb, sb, .bool mb, tb]) rfl rfl rfl rfl rfl (fun w hS => run_load_bx AgR rfl rfl (hS.1) rfl) <| FP (v := .int .i64 d) rfl rfl rfl rfl rfl (fun w hS => run_move rfl rfl) <| FA _ (RunF.alloc AgR rfl rfl rfl) <| FA _ (RunF.alloc AgI rfl rfl rfl) <| ?_
 simp only [q2,q3]
 clear E
 refine FE rfl rfl rfl rfl ?_
 intro w6 E
 refine Oper.wp_callP fn_rational_Whole rfl (Whole_z d _ (by omega) (by omega)) rfl E ?_
 clear E
 intro w5 n5 s5 m5 t5 d5 E
 refine kF d5 E rfl ?_
 have F4 : FitQ ((d : Int) : Rat) 4 := FitQ_int (k := 4) (by decide) (Fits_of64 (by omega) (by omega))
 simp only [q2,q3]
 clear E
 refine FE rfl rfl rfl rfl ?_
 intro w9 E
 refine Oper.wp_callP fn_rational_Mul rfl (Mul_q _ _ _ _ x _ _ _ _ ((d : Int) : Rat) _ (e7 E) (e6 E) (E.2.1) (E.1) (FitQ.mono Fx (by decide)) (FitQ.mono F4 (by decide))) rfl E ?_
 clear E
 intro w8 n8 s8 m8 t8 d8 E
 refine kF d8 E rfl ?_
 have F7 : FitQ (x * ((d : Int) : Rat)) 1004 := FitQ_mul Fx F4
 simp only [q2,q3]
 clear E
 refine FE rfl rfl rfl rfl ?_
 intro w11 E
 refine Oper.wp_callP fn_rational_Whole rfl (Whole_z d _ (by omega) (by omega)) rfl E ?_
 clear E
 intro w10 n10 s10 m10 t10 d10 E
 refine kF d10 E rfl ?_
 simp only [q2,q3]
 clear E
 refine FE rfl rfl rfl rfl ?_
 intro w14 E
 refine Oper.wp_callP fn_rational_Mul rfl (Mul_q _ _ _ _ y _ _ _ _ ((d : Int) : Rat) _ (e9 E) (e8 E) (E.2.1) (E.1) (FitQ.mono Fy (by decide)) (FitQ.mono F4 (by decide))) rfl E ?_
 clear E
 intro w13 n13 s13 m13 t13 d13 E
 refine kF d13 E rfl ?_
 have F12 : FitQ (y * ((d : Int) : Rat)) 1004 := FitQ_mul Fy F4
 simp only [q2,q3]
 clear E
 refine FE rfl rfl rfl rfl ?_
 intro w17 E
 refine Oper.wp_callI fn_rational_Floor rfl (Floor_q _ _ _ _ (y * ((d : Int) : Rat)) _ (E.2.1) (E.1) (FitQ.mono F12 (by decide))) rfl E ?_
 clear E
 intro w16 n16 s16 d16 E
 refine kF d16 E rfl ?_
 have F15 : Fits ((y * ((d : Int) : Rat)).floor) 1004 := Fits_floorQ F12
 simp only [q2,q3]
 refine FF rfl rfl ?_
 intro b18 f18 u18
 have l18_0 : b2 < b18 := by omega
 simp only [q2,q3]
 refine FF rfl rfl ?_
 intro b19 f19 u19
 have l19_0 : b2 < b19 := by omega
 have v19_0 : b19 ≠ b18 := by rintro rfl; exact u19 (by simp)
 simp only [q2,q3]
 clear E
 intro w20 E
 refine H1 (i := 11) (by kernel_rfl) ?_
 have x22 := E.2.1
 replace E := (E.2.2).b (E.1)
 refine HE (o := ⟨none, _, _, _, _, _⟩) rfl rfl (Oper.wp_store AgR rfl rfl rfl x22 rfl rfl (one4 (IsI.one (e7 E)) (IsI.one (e6 E))) ?_)
 intro w21 o21 y21
 replace E := (E.onl (x22.noW (now4 now0 now0)) ⟨okB (by omega), trivial, trivial, trivial, trivial, trivial, trivial, trivial, trivial, trivial, okX (by omega), okX (by omega), trivial, trivial, trivial, trivial, okW (by omega), trivial⟩ o21).x y21
 clear x22 o21 y21
 refine ⟨E.2.2.2.2.2.2.2.2.2.2.2, ?_⟩
 simp only [Act.put]
 refine H1 (i := 12) (by kernel_rfl) ?_
 have x24 := E.2.1
 replace E := (E.2.2).x (E.1)
 refine HE (o := ⟨none, _, _, _, _, _⟩) rfl rfl (Oper.wp_store AgI rfl rfl rfl x24 rfl rfl (IsI.one (E.2.1)) ?_)
 intro w23 o23 y23
 replace E := (E.onl (x24.noW now0) ⟨okX (by omega), trivial, trivial, trivial, trivial, trivial, trivial, trivial, trivial, trivial, okX (by omega), okX (by omega), trivial, trivial, trivial, trivial, okW (by omega), trivial⟩ o23).b y23
 clear x24 o23 y23
 refine ⟨E.2.2.2.2.2.2.2.2.2.2.2, ?_⟩
 simp only [Act.put]
 refine HN (by kernel_rfl) ?_
 change Code.wp _ _ _ _ _
 refine wp_seq ?_
 replace E := E.i (eqZ (z' := (((y * ((d : Int) : Rat)).floor : Int) : Rat).num) (Rat.num_intCast _).symm (E.2.2.1))
 have FF25 : FitQ (((y * ((d : Int) : Rat)).floor : Int) : Rat) 2000 := FitQ_int (by decide) (Fits.mono F15 (by decide))
 -- region 2
 refine wp_schedE E ([0, 3, 1, 2, 4, 5, 6]) (by kernel_rfl) (by kernel_rfl) (by kernel_rfl) (by kernel_rfl) (by intro d v c a w h; cases d <;> exact h) ?_
 replace E := E.drew
 refine SW rfl rfl rfl rfl rfl (fun w hS => run_load_bx AgI rfl rfl (hS.2.1) rfl) <| SW rfl rfl rfl rfl rfl (fun w hS => run_load_bx AgR rfl rfl (hS.2.2.1) rfl) <| ?_
 simp only [q2,q3]
 refine S1a (o := ⟨some 19, _, _, _, _, _⟩) rfl rfl rfl rfl (Oper.wp_callI fn_integer_Of rfl ((Of_z 1 _ (by decide) (by decide)).mono fun _ _ h => RetZ_eq (z' := (((((y * ((d : Int) : Rat)).floor : Int) : Rat).den : Nat) : Int)) h rfl) rfl E ?_)
 clear E
 intro w26 n26 s26 d26 E
 clear d26
 refine ⟨E.2, ?_⟩
 simp only [Act.put,q1,q2,q3]
 refine SW (v := .agg #[.bool n16, s16, .bool n26, s26]) rfl rfl rfl rfl rfl (fun w hS => run_buildR rfl rfl rfl) <| ?_
 simp only [q2,q3]
 refine S1a (o := ⟨some 22, _, _, _, _, _⟩) rfl rfl rfl rfl (Oper.wp_callN fn_rational_Cmp rfl (Cmp_q _ _ _ _ (((y * ((d : Int) : Rat)).floor : Int) : Rat) _ _ _ _ (x * ((d : Int) : Rat)) _ (E.2.1) (E.1) (e10 E) (e9 E) (FitQ.mono FF25 (by decide)) (FitQ.mono F7 (by decide))) rfl E ?_)
 clear E
 intro w27 d27 E
 clear d27
 refine ⟨E.2, ?_⟩
 simp only [Act.put,q1,q2,q3]
 refine SW rfl rfl rfl rfl rfl (fun w hS => run_ltI (c := true) rfl rfl rfl (cmpQ_lt0 he)) <| SA rfl rfl rfl rfl rfl rfl rfl rfl <| ?_
 simp only [q2,q3]
 refine SN ?_
 change Code.wp _ _ _ _ _
 refine wp_ret ?_
 exact bodyPost_ret (v := .bool true) (by simp [results, Try.results36, asAddr]) rfl ⟨rfl, e19 E⟩
set_option maxRecDepth 100000 in
set_option maxHeartbeats 8000000 in
theorem smq_t  (ca0 cb0 : Int) (ck0 : Nat) (ca1 cb1 : Int) (ck1 : Nat)  (w : World)  (r0 : -128 ≤ ca0 ∧ ca0 ≤ 127 ∧ -128 ≤ cb0 ∧ cb0 ≤ 127 ∧ ck0 < 256) (r1 : -128 ≤ ca1 ∧ ca1 ≤ 127 ∧ -128 ≤ cb1 ∧ cb1 ≤ 127 ∧ ck1 < 256) :
    Calls Try.prog 7 #[.agg #[.int .i8 ca0, .int .i8 cb0, .int .u8 ((ck0 : Nat) : Int), .int .i8 ca1, .int .i8 cb1, .int .u8 ((ck1 : Nat) : Int)]] w (RetB w true) := by
 have E := Env.start w
 obtain ⟨ra0, rb0, rc0, rd0, re0⟩ := r0
 obtain ⟨x, hm0⟩ : ∃ q, madeQ ca0 cb0 ck0 = q := ⟨_, rfl⟩
 have Fx : FitQ x 20 := by rw [← hm0]; exact madeQ_fit ra0 rb0 rc0 rd0 re0
 obtain ⟨ra1, rb1, rc1, rd1, re1⟩ := r1
 obtain ⟨y, hm1⟩ : ∃ q, madeQ ca1 cb1 ck1 = q := ⟨_, rfl⟩
 have Fy : FitQ y 20 := by rw [← hm1]; exact madeQ_fit ra1 rb1 rc1 rd1 re1
 go_enter Try.func7, Try.ntmps7
 refine wp_seq ?_
 -- region 0
 refine RL ?_
 refine EF rfl (Oper.wp_box (cs := [.int .i8 ca0, .int .i8 cb0, .int .u8 ((ck0 : Nat) : Int), .int .i8 ca1, .int .i8 cb1, .int .u8 ((ck1 : Nat) : Int)]) rfl rfl ?_)
 intro b1 w1 e1 z1 d1 x1
 have l1 : w.heap.size ≤ b1 := by rw [e1]; exact (E.1).size
 replace E := E.below d1
 clear e1 z1 d1
 replace E := E.x x1
 clear x1
 refine kw rfl ?_
 refine AC rfl rfl rfl rfl <| ?_
 simp only [q2,q3]
 refine WN ?_
 change Code.wp _ _ _ _ _
 refine wp_seq ?_
 -- region 1
 refine RL ?_
 refine EF rfl (Oper.wp_callB fn_elaw02_examples rfl (examples_t _) rfl E ?_)
 clear E
 intro w2 d2 E
 clear d2
 refine kw rfl ?_
 refine A rfl rfl rfl rfl rfl <| ?_
 simp only [q2,q3]
 refine WN ?_
 change Code.wp _ _ _ _ _
 refine wp_seq ?_
 refine wp_seq ?_
 -- region 2
 refine RL ?_
 refine M rfl rfl rfl rfl rfl <| V (v := .bool false) rfl rfl (run_not (b := true) rfl rfl) <| ?_
 simp only [q2,q3]
 refine WN ?_
 change Code.wp _ _ _ _ _
 refine wp_cond_false rfl ?_
 refine wp_skip ?_
 change Code.wp _ _ _ _ _
 refine wp_seq ?_
 -- region 4
 have hB3_0 : b1 < w2.heap.size := Bx.lt (E.1)
 refine wp_schedF E [.op 0, .op 1, .op 3, .op 4, .av 6, .av 7, .op 2, .op 5, .op 6, .op 7] 2 (#[true, true, true, true, true, true, true, true, false, false]) (by kernel_rfl) (by kernel_rfl) (by kernel_rfl) (by kernel_rfl) (by intro d v c a w h; cases d <;> exact h) (by intro d v c a w h; cases d <;> exact h) ?_
 refine FP (v := .pointer (some ⟨b1, 0 + 0 * 3, none⟩)) rfl rfl rfl rfl rfl (fun w hS => run_idxA (j := 0) rfl Try.underlying46 (by kernel_rfl) rfl rfl rfl (by decide)) <| FP (v := .agg #[.int .i8 ca0, .int .i8 cb0, .int .u8 ((ck0 : Nat) : Int)]) rfl rfl rfl rfl rfl (fun w hS => run_loadW rfl rfl (hS.1) rfl rfl rfl) <| FP (v := .pointer (some ⟨b1, 0 + 1 * 3, none⟩)) rfl rfl rfl rfl rfl (fun w hS => run_idxA (j := 1) rfl Try.underlying46 (by kernel_rfl) rfl rfl rfl (by decide)) <| FP (v := .agg #[.int .i8 ca1, .int .i8 cb1, .int .u8 ((ck1 : Nat) : Int)]) rfl rfl rfl rfl rfl (fun w hS => run_loadW rfl rfl (hS.1) rfl rfl rfl) <| FA _ (RunF.alloc AgR rfl rfl rfl) <| FA _ (RunF.alloc AgR rfl rfl rfl) <| ?_
 simp only [q2,q3]
 clear E
 refine FE rfl rfl rfl rfl ?_
 intro w5 E
 refine Oper.wp_callP fn_eref02_Made rfl (Made_is ca0 cb0 ck0 x _ hm0 ra0 rb0 rc0 rd0 re0) rfl E ?_
 clear E
 intro w4 n4 s4 m4 t4 d4 E
 refine kF d4 E rfl ?_
 simp only [q2,q3]
 clear E
 refine FE rfl rfl rfl rfl ?_
 intro w7 E
 refine Oper.wp_callP fn_eref02_Made rfl (Made_is ca1 cb1 ck1 y _ hm1 ra1 rb1 rc1 rd1 re1) rfl E ?_
 clear E
 intro w6 n6 s6 m6 t6 d6 E
 refine kF d6 E rfl ?_
 simp only [q2,q3]
 refine FF rfl rfl ?_
 intro b8 f8 u8
 have l8_0 : b1 < b8 := by omega
 simp only [q2,q3]
 refine FF rfl rfl ?_
 intro b9 f9 u9
 have l9_0 : b1 < b9 := by omega
 have v9_0 : b9 ≠ b8 := by rintro rfl; exact u9 (by simp)
 simp only [q2,q3]
 clear E
 intro w10 E
 refine H1 (i := 8) (by kernel_rfl) ?_
 have x12 := E.2.1
 replace E := (E.2.2).x (E.1)
 refine HE (o := ⟨none, _, _, _, _, _⟩) rfl rfl (Oper.wp_store AgR rfl rfl rfl x12 rfl rfl (one4 (IsI.one (e4 E)) (IsI.one (e3 E))) ?_)
 intro w11 o11 y11
 replace E := (E.onl (x12.noW (now4 now0 now0)) ⟨okX (by omega), trivial, trivial, trivial, trivial, okX (by omega), okW (by omega), trivial⟩ o11).x y11
 clear x12 o11 y11
 refine ⟨E.2.2.2.2.2.2, ?_⟩
 simp only [Act.put]
 refine H1 (i := 9) (by kernel_rfl) ?_
 have x14 := E.2.1
 replace E := (E.2.2).x (E.1)
 refine HE (o := ⟨none, _, _, _, _, _⟩) rfl rfl (Oper.wp_store AgR rfl rfl rfl x14 rfl rfl (one4 (IsI.one (E.2.2.1)) (IsI.one (E.2.1))) ?_)
 intro w13 o13 y13
 replace E := (E.onl (x14.noW (now4 now0 now0)) ⟨okX (by omega), trivial, trivial, trivial, trivial, okX (by omega), okW (by omega), trivial⟩ o13).x y13
 clear x14 o13 y13
 refine ⟨E.2.2.2.2.2.2, ?_⟩
 simp only [Act.put]
 refine HN (by kernel_rfl) ?_
 change Code.wp _ _ _ _ _
 refine wp_seq ?_
 refine wp_seq ?_
 by_cases hxy : x ≤ y
 case pos =>
  have hle := hxy
  -- region 5
  refine RL ?_
  refine V rfl rfl (run_load_bx AgR rfl rfl (E.2.1) rfl) <| V rfl rfl (run_load_bx AgR rfl rfl (E.1) rfl) <| ?_
  simp only [q2,q3]
  refine EF rfl (Oper.wp_callN fn_rational_Cmp rfl (Cmp_q _ _ _ _ x _ _ _ _ y _ (e5 E) (e4 E) (e3 E) (E.2.2.1) (FitQ.mono Fx (by decide)) (FitQ.mono Fy (by decide))) rfl E ?_)
  clear E
  intro w15 d15 E
  clear d15
  refine kw rfl ?_
  refine V rfl rfl (run_gtI (c := false) rfl rfl rfl (cmpQ_ngt0 hxy)) <| ?_
  simp only [q2,q3]
  refine WN ?_
  change Code.wp _ _ _ _ _
  refine wp_cond_false rfl ?_
  refine wp_skip ?_
  change Code.wp _ _ _ _ _
  refine wp_seq ?_
  -- region 10
  refine RL ?_
  refine V rfl rfl (run_load_bx AgR rfl rfl (E.2.1) rfl) <| V rfl rfl (run_load_bx AgR rfl rfl (E.1) rfl) <| ?_
  simp only [q2,q3]
  refine EF rfl (Oper.wp_callBt fn_rational_Between rfl (Between_le _ _ _ _ x _ _ _ _ y _ (e5 E) (e4 E) (e3 E) (E.2.2.1) hle (FitQ.mono Fx (by decide)) (FitQ.mono Fy (by decide))) rfl E ?_)
  clear E
  rintro w16 c n16 s16 m16 t16 hc d16 E
  clear d16
  have Fc : FitQ c 20 := hc.fit hle Fx
  refine kw rfl ?_
  refine M rfl rfl rfl rfl rfl <| V rfl rfl (run_extract (vs := [.agg #[.bool n16, s16, .bool m16, t16], .int .i64 0]) rfl rfl rfl) <| V rfl rfl (run_extract (vs := [.agg #[.bool n16, s16, .bool m16, t16], .int .i64 0]) rfl rfl rfl) <| ?_
  simp only [q2,q3]
  refine EF rfl (Oper.wp_alloc AgR rfl ?_)
  intro b17 w17 e17 z17 d17 x17
  have l17_0 : b9 < b17 := by rw [e17]; exact Bx.lt (E.2.2.1)
  have l17_1 : b8 < b17 := by rw [e17]; exact Bx.lt (e3 E)
  replace E := E.below d17
  clear e17 z17 d17
  refine kw rfl ?_
  simp only [q2,q3]
  refine EF rfl (Oper.wp_store AgR rfl rfl rfl x17 rfl rfl (one4 (IsI.one (E.2.1)) (IsI.one (E.1))) ?_)
  intro w18 o18 y18
  replace E := (E.onl (x17.noW (now4 now0 now0)) ⟨trivial, trivial, okX (by omega), okX (by omega), trivial, trivial, trivial, trivial, okX (by omega), okW (by omega), trivial⟩ o18).x y18
  clear x17 o18 y18
  refine kn rfl ?_
  refine A rfl rfl rfl rfl rfl <| ?_
  simp only [q2,q3]
  refine WN ?_
  change Code.wp _ _ _ _ _
  refine wp_seq ?_
  refine wp_seq ?_
  -- region 11
  refine RL ?_
  refine M rfl rfl rfl rfl rfl <| V rfl rfl (run_neI (c := false) rfl rfl rfl (by decide)) <| M rfl rfl rfl rfl rfl <| V (by kernel_rfl) rfl (run_load_bx AgR rfl rfl (E.1) rfl) <| ?_
  simp only [q2,q3]
  refine EF rfl (Oper.wp_callB fn_rational_Valid rfl (Valid_r _ _ _ _ c _ (E.2.2.1) (E.2.1) (FitQ.mono Fc (by decide))) rfl E ?_)
  clear E
  intro w19 d19 E
  clear d19
  refine kw rfl ?_
  refine V (v := .bool false) (by kernel_rfl) rfl (run_not (b := true) rfl rfl) <| V (v := .bool false) rfl rfl (run_pick (b := false) rfl rfl rfl) <| M rfl rfl rfl rfl rfl <| V (by kernel_rfl) rfl (run_load_bx AgR rfl rfl (e4 E) rfl) <| ?_
  simp only [q2,q3]
  refine V (by kernel_rfl) rfl (run_load_bx AgR rfl rfl (E.1) rfl) <| ?_
  simp only [q2,q3]
  refine EF rfl (Oper.wp_callN fn_rational_Cmp rfl (Cmp_q _ _ _ _ x _ _ _ _ c _ (e8 E) (e7 E) (E.2.2.1) (E.2.1) (FitQ.mono Fx (by decide)) (FitQ.mono Fc (by decide))) rfl E ?_)
  clear E
  intro w20 d20 E
  clear d20
  refine kw rfl ?_
  refine V (by kernel_rfl) rfl (run_gtI (c := false) rfl rfl rfl (cmpQ_ngt0 (hc.lo hle))) <| V (v := .bool false) rfl rfl (run_pick (b := false) rfl rfl rfl) <| M rfl rfl rfl rfl rfl <| V (by kernel_rfl) rfl (run_load_bx AgR rfl rfl (E.1) rfl) <| ?_
  simp only [q2,q3]
  refine V (by kernel_rfl) rfl (run_load_bx AgR rfl rfl (e3 E) rfl) <| ?_
  simp only [q2,q3]
  refine EF rfl (Oper.wp_callN fn_rational_Cmp rfl (Cmp_q _ _ _ _ c _ _ _ _ y _ (E.2.2.1) (E.2.1) (e6 E) (e5 E) (FitQ.mono Fc (by decide)) (FitQ.mono Fy (by decide))) rfl E ?_)
  clear E
  intro w21 d21 E
  clear d21
  refine kw rfl ?_
  refine V (by kernel_rfl) rfl (run_gtI (c := false) rfl rfl rfl (cmpQ_ngt0 (hc.hi hle))) <| V (v := .bool false) rfl rfl (run_pick (b := false) rfl rfl rfl) <| ?_
  simp only [q2,q3]
  refine WN ?_
  change Code.wp _ _ _ _ _
  refine wp_cond_false rfl ?_
  refine wp_skip ?_
  change Code.wp _ _ _ _ _
  refine wp_seq ?_
  refine wp_seq ?_
  -- region 13
  refine RL ?_
  refine AC rfl rfl rfl rfl <| ?_
  simp only [q2,q3]
  refine WN ?_
  change Code.wp _ _ _ _ _
  refine wp_block ?_
  refine wp_loop_ghost (fun mz a w' => ∃ (d : Int) (g2 g62 g63 g64 g65 g66 g67 g68 g69 g70 g71 g72 g73 g74 g75 g76 g77 g78 : Value), a = ⟨#[.agg #[.int .i8 ca0, .int .i8 cb0, .int .u8 ((ck0 : Nat) : Int), .int .i8 ca1, .int .i8 cb1, .int .u8 ((ck1 : Nat) : Int)], .pointer (some ⟨b1, 0, none⟩), g2, .bool true, .pointer (some ⟨b8, 0, none⟩), .pointer (some ⟨b9, 0, none⟩), undef, undef, .pointer (some ⟨b17, 0, none⟩), .int .i64 0, .int .i64 d, undef, .bool true, .bool true, .bool false, .pointer (some ⟨b1, 0 + 0 * 3, none⟩), .agg #[.int .i8 ca0, .int .i8 cb0, .int .u8 ((ck0 : Nat) : Int)], .agg #[.bool n4, s4, .bool m4, t4], .pointer (some ⟨b1, 0 + 1 * 3, none⟩), .agg #[.int .i8 ca1, .int .i8 cb1, .int .u8 ((ck1 : Nat) : Int)], .agg #[.bool n6, s6, .bool m6, t6], .agg #[.bool n4, s4, .bool m4, t4], .agg #[.bool n6, s6, .bool m6, t6], .int .i64 (cmpQ x y), .bool false, undef, undef, undef, undef, undef, undef, undef, undef, undef, undef, undef, undef, .tuple #[.agg #[.bool n16, s16, .bool m16, t16], .int .i64 0], .agg #[.bool n4, s4, .bool m4, t4], .agg #[.bool n6, s6, .bool m6, t6], .tuple #[.agg #[.bool n16, s16, .bool m16, t16], .int .i64 0], .agg #[.bool n16, s16, .bool m16, t16], .int .i64 0, .int .i64 0, .bool false, .bool false, .agg #[.bool n16, s16, .bool m16, t16], .bool true, .bool false, .bool false, .bool false, .agg #[.bool n4, s4, .bool m4, t4], .agg #[.bool n16, s16, .bool m16, t16], .int .i64 (cmpQ x c), .bool false, .bool false, .bool false, .agg #[.bool n16, s16, .bool m16, t16], .agg #[.bool n6, s6, .bool m6, t6], .int .i64 (cmpQ c y), .bool false, .bool false, g62, g63, g64, g65, g66, g67, g68, g69, g70, g71, g72, g73, g74, g75, g76, g77, g78, undef, undef, undef, undef, undef, undef, undef, undef, undef, undef, undef, undef, undef, undef, undef, undef, undef, undef, undef, undef, undef, undef, undef, undef, undef, undef, undef, undef, undef, undef, undef, undef, undef, undef, undef, undef, undef, undef, undef, undef, undef, undef], []⟩ ∧ Env w' [fX b17 (26) ([.bool n16, s16, .bool m16, t16]), fI (.agg #[.bool m16, t16]) ((c.den : Nat) : Int), fI (.agg #[.bool n16, s16]) c.num, fX b9 (26) ([.bool n6, s6, .bool m6, t6]), fX b8 (26) ([.bool n4, s4, .bool m4, t4]), fI (.agg #[.bool m6, t6]) ((y.den : Nat) : Int), fI (.agg #[.bool n6, s6]) y.num, fI (.agg #[.bool m4, t4]) ((x.den : Nat) : Int), fI (.agg #[.bool n4, s4]) x.num, fX b1 (46) ([.int .i8 ca0, .int .i8 cb0, .int .u8 ((ck0 : Nat) : Int), .int .i8 ca1, .int .i8 cb1, .int .u8 ((ck1 : Nat) : Int)]), fW w] ∧ mz = (41 - d).toNat ∧ (1 ≤ d ∧ d ≤ 41)) (40) ⟨1, _, _, _, _, _, _, _, _, _, _, _, _, _, _, _, _, _, _, rfl, (Env.x (Env.i (Env.i (Env.x (Env.x (Env.i (Env.i (Env.i (Env.i (Env.x (Env.ww (Env.nil _) (e10 E)) (e9 E)) (e8 E)) (e7 E)) (e6 E)) (e5 E)) (e4 E)) (e3 E)) (E.2.2.1)) (E.2.1)) (E.1)), rfl, (by decide)⟩ ?_
  rintro m22 _ w22 ⟨d, g2, g62, g63, g64, g65, g66, g67, g68, g69, g70, g71, g72, g73, g74, g75, g76, g77, g78, rfl, E, hm22, hI22⟩
  obtain ⟨hI1, hI2⟩ := hI22
  by_cases h40 : 40 < d
  case pos =>
   refine wp_seq ?_
   refine wp_seq ?_
   -- region 14
   refine wp_schedE E ([0, 1, 2, 3, 5, 6, 4, 7, 8, 9]) (by kernel_rfl) (by kernel_rfl) (by kernel_rfl) (by kernel_rfl) (by intro d v c a w h; cases d <;> exact h) ?_
   replace E := E.drew
   refine SM rfl rfl rfl rfl rfl rfl rfl rfl <| SW rfl rfl rfl rfl rfl (fun w hS => run_leI (c := false) rfl rfl rfl (by rw [decide_eq_false_iff_not]; omega)) <| SM rfl rfl rfl rfl rfl rfl rfl rfl <| ?_
   refine S0 (o := ⟨some 65, _, _, _, _, _⟩) rfl rfl (E) ?_
   simp only [Act.put,q1,q2,q3]
   refine S0 (o := ⟨some 67, _, _, _, _, _⟩) rfl rfl (E) ?_
   simp only [Act.put,q1,q2,q3]
   refine S0 (o := ⟨some 68, _, _, _, _, _⟩) rfl rfl (E) ?_
   simp only [Act.put,q1,q2,q3]
   refine S0 (o := ⟨some 66, _, _, _, _, _⟩) rfl rfl (E) ?_
   simp only [Act.put,q1,q2,q3]
   refine S0 (o := ⟨some 69, _, _, _, _, _⟩) rfl rfl (E) ?_
   simp only [Act.put,q1,q2,q3]
   refine S0 (o := ⟨some 70, _, _, _, _, _⟩) rfl rfl (E) ?_
   simp only [Act.put,q1,q2,q3]
   refine SW (v := .bool false) rfl rfl rfl rfl rfl (fun w hS => run_pick (b := false) rfl rfl rfl) <| ?_
   simp only [q2,q3]
   refine SN ?_
   change Code.wp _ _ _ _ _
   refine wp_cond_false rfl ?_
   refine wp_exit ?_
   change Code.wp _ _ _ _ _
   refine wp_seq ?_
   replace E := E.i (eqZ (z' := (((Rat.divInt (sgn c.num) ((c.den : Nat) : Int)).den : Nat) : Int)) (vq_div (sgn_vq c)).2.symm (E.2.1))
   have FX1 : FitQ (Rat.divInt (sgn c.num) ((c.den : Nat) : Int)) 20 := FitQ_low (den_ne c) (Fits_of64 (sgn_lo _) (sgn_hi _) |>.mono (by decide)) Fc.2
   -- region 18
   have hB23_0 : b17 < w22.drew.heap.size := Bx.lt (E.2.1)
   refine wp_schedF E [.op 0, .op 1, .op 4, .op 5, .av 8, .op 2, .op 3, .op 6, .op 7, .op 8] 1 (#[true, true, true, true, true, true, true, true, true, false]) (by kernel_rfl) (by kernel_rfl) (by kernel_rfl) (by kernel_rfl) (by intro d v c a w h; cases d <;> exact h) (by intro d v c a w h; cases d <;> exact h) ?_
   refine FP (v := .agg #[.bool n16, s16, .bool m16, t16]) rfl rfl rfl rfl rfl (fun w hS => run_load_bx AgR rfl rfl (hS.2.1) rfl) <| FP (v := .agg #[.bool n16, s16, .bool m16, t16]) rfl rfl rfl rfl rfl (fun w hS => run_load_bx AgR rfl rfl (hS.2.1) rfl) <| FP (v := .pointer (some ⟨b17, 2, none⟩)) rfl rfl rfl rfl rfl (fun w hS => run_fieldR1 rfl rfl) <| FP (v := .agg #[.bool m16, t16]) rfl rfl rfl rfl rfl (fun w hS => run_loadAt rfl rfl (hS.2.1) rfl rfl) <| FA _ (RunF.alloc AgR rfl rfl rfl) <| ?_
   simp only [q2,q3]
   clear E
   refine FE rfl rfl rfl rfl ?_
   intro w25 E
   refine Oper.wp_callN fn_rational_Sign rfl (Sign_q _ _ _ _ c _ (e3 E) (E.2.2.1)) rfl E ?_
   clear E
   intro w24 d24 E
   refine kF d24 E rfl ?_
   simp only [q2,q3]
   clear E
   refine FE rfl rfl rfl rfl ?_
   intro w27 E
   refine Oper.wp_callI fn_integer_Of rfl ((Of_z (sgn c.num) _ (sgn_lo _) (sgn_hi _)).mono fun _ _ h => RetZ_eq (z' := (Rat.divInt (sgn c.num) ((c.den : Nat) : Int)).num) h (vq_div (sgn_vq c)).1.symm) rfl E ?_
   clear E
   intro w26 n26 s26 d26 E
   refine kF d26 E rfl ?_
   refine FP (v := .agg #[.bool n26, s26, .bool m16, t16]) rfl rfl rfl rfl rfl (fun w hS => run_buildR rfl rfl rfl) <| ?_
   simp only [q2,q3]
   clear E
   refine FE rfl rfl rfl rfl ?_
   intro w30 E
   refine Oper.wp_callP fn_rational_Sub rfl (Sub_q _ _ _ _ c _ _ _ _ (Rat.divInt (sgn c.num) ((c.den : Nat) : Int)) _ (e4 E) (e3 E) (E.1) (E.2.1) (FitQ.mono Fc (by decide)) (FitQ.mono FX1 (by decide))) rfl E ?_
   clear E
   intro w29 n29 s29 m29 t29 d29 E
   refine kF d29 E rfl ?_
   have F28 : FitQ (c - (Rat.divInt (sgn c.num) ((c.den : Nat) : Int))) 41 := FitQ_sub Fc FX1
   simp only [q2,q3]
   refine FF rfl rfl ?_
   intro b31 f31 u31
   have l31_0 : b17 < b31 := by omega
   simp only [q2,q3]
   clear E
   intro w32 E
   refine H1 (i := 9) (by kernel_rfl) ?_
   have x34 := E.1
   replace E := E.2
   refine HE (o := ⟨none, _, _, _, _, _⟩) rfl rfl (Oper.wp_store AgR rfl rfl rfl x34 rfl rfl (one4 (IsI.one (E.2.1)) (IsI.one (E.1))) ?_)
   intro w33 o33 y33
   replace E := (E.onl (x34.noW (now4 now0 now0)) ⟨trivial, trivial, trivial, trivial, okX (by omega), trivial, trivial, okX (by omega), okX (by omega), trivial, trivial, trivial, trivial, okX (by omega), okW (by omega), trivial⟩ o33).x y33
   clear x34 o33 y33
   refine ⟨E.2.2.2.2, ?_⟩
   simp only [Act.put]
   refine HN (by kernel_rfl) ?_
   change Code.wp _ _ _ _ _
   refine wp_seq ?_
   refine wp_seq ?_
   by_cases hc0 : c = 0
   case pos =>
    have hz := hc.zero hle hc0
    -- region 19
    refine RL ?_
    refine V rfl rfl (run_load_bx AgR rfl rfl (E.1) rfl) <| ?_
    simp only [q2,q3]
    refine EF rfl (Oper.wp_callB fn_rational_Valid rfl (Valid_r _ _ _ _ (c - (Rat.divInt (sgn c.num) ((c.den : Nat) : Int))) _ (E.2.2.1) (E.2.1) (FitQ.mono F28 (by decide))) rfl E ?_)
    clear E
    intro w35 d35 E
    clear d35
    refine kw rfl ?_
    refine M rfl rfl rfl rfl rfl <| V (by kernel_rfl) rfl (run_load_bx AgR rfl rfl (e5 E) rfl) <| ?_
    simp only [q2,q3]
    refine EF rfl (Oper.wp_callN fn_rational_Sign rfl (Sign_q _ _ _ _ c _ (e7 E) (e6 E)) rfl E ?_)
    clear E
    intro w36 d36 E
    clear d36
    refine kw rfl ?_
    refine V (by kernel_rfl) rfl (run_neI (c := false) rfl rfl rfl (by rw [hc0]; rfl)) <| V (v := .bool false) rfl rfl (run_pick (b := true) rfl rfl rfl) <| M rfl rfl rfl rfl rfl <| L0C (by kernel_rfl) rfl <| ?_
    simp only [q2,q3]
    refine L0C (by kernel_rfl) rfl <| L0C (by kernel_rfl) rfl <| L0C (by kernel_rfl) rfl <| V (v := .bool false) rfl rfl (run_pick (b := false) rfl rfl rfl) <| ?_
    simp only [q2,q3]
    refine M rfl rfl rfl rfl rfl <| L0C (by kernel_rfl) rfl <| L0C (by kernel_rfl) rfl <| L0C (by kernel_rfl) rfl <| ?_
    simp only [q2,q3]
    refine L0C (by kernel_rfl) rfl <| V (v := .bool false) rfl rfl (run_pick (b := false) rfl rfl rfl) <| ?_
    simp only [q2,q3]
    refine WN ?_
    change Code.wp _ _ _ _ _
    refine wp_cond_false rfl ?_
    refine wp_skip ?_
    change Code.wp _ _ _ _ _
    refine wp_seq ?_
    -- region 21
    refine wp_schedE E ([0, 3, 1, 2, 4, 5, 6, 7, 8, 9, 10, 11, 12, 13, 14, 15]) (by kernel_rfl) (by kernel_rfl) (by kernel_rfl) (by kernel_rfl) (by intro d v c a w h; cases d <;> exact h) ?_
    replace E := E.drew
    refine SW rfl rfl rfl rfl rfl (fun w hS => run_load_bx AgR rfl rfl (e5 hS) rfl) <| SW rfl rfl rfl rfl rfl (fun w hS => run_load_bx AgR rfl rfl (e9 hS) rfl) <| ?_
    simp only [q2,q3]
    refine S1a (o := ⟨some 107, _, _, _, _, _⟩) rfl rfl rfl rfl (Oper.wp_callN fn_rational_Sign rfl (Sign_q _ _ _ _ c _ (e7 E) (e6 E)) rfl E ?_)
    clear E
    intro w37 d37 E
    clear d37
    refine ⟨E, ?_⟩
    simp only [Act.put,q1,q2,q3]
    refine SW rfl rfl rfl rfl rfl (fun w hS => run_eqI (c := true) rfl rfl rfl (by rw [hc0]; rfl)) <| ?_
    simp only [q2,q3]
    refine S1a (o := ⟨some 110, _, _, _, _, _⟩) rfl rfl rfl rfl (Oper.wp_callN fn_rational_Sign rfl (Sign_q _ _ _ _ x _ (e13 E) (e12 E)) rfl E ?_)
    clear E
    intro w38 d38 E
    clear d38
    refine ⟨E, ?_⟩
    simp only [Act.put,q1,q2,q3]
    refine SW rfl rfl rfl rfl rfl (fun w hS => run_leI (c := true) rfl rfl rfl (sgnQ_le hz.1)) <| SM rfl rfl rfl rfl rfl rfl rfl rfl <| SW rfl rfl rfl (by kernel_rfl) rfl (fun w hS => run_load_bx AgR rfl rfl (e8 hS) rfl) <| ?_
    simp only [q2,q3]
    refine S1a (o := ⟨some 114, _, _, _, _, _⟩) rfl rfl rfl rfl (Oper.wp_callN fn_rational_Sign rfl (Sign_q _ _ _ _ y _ (e11 E) (e10 E)) rfl E ?_)
    clear E
    intro w39 d39 E
    clear d39
    refine ⟨E, ?_⟩
    simp only [Act.put,q1,q2,q3]
    refine SW rfl rfl rfl (by kernel_rfl) rfl (fun w hS => run_geI (c := true) rfl rfl rfl (sgnQ_ge hz.2)) <| SW (v := .bool true) rfl rfl rfl rfl rfl (fun w hS => run_pick (b := true) rfl rfl rfl) <| SW rfl rfl rfl rfl rfl (fun w hS => run_eqB (a := true) (b := true) (c := true) rfl Try.underlying4 rfl rfl rfl) <| SM rfl rfl rfl rfl rfl rfl rfl rfl <| ?_
    simp only [q2,q3]
    refine SM rfl rfl rfl (by kernel_rfl) rfl rfl rfl rfl <| SW (v := .bool true) rfl rfl rfl rfl rfl (fun w hS => run_pick (b := true) rfl rfl rfl) <| SA rfl rfl rfl rfl rfl rfl rfl rfl <| ?_
    simp only [q2,q3]
    refine SN ?_
    change Code.wp _ _ _ _ _
    refine wp_ret ?_
    exact bodyPost_ret (v := .bool true) (by simp [results, Try.results7, asAddr]) rfl ⟨rfl, e15 E⟩
   case neg =>
    by_cases hlo : 0 < x
    case pos =>
     by_cases hnl : x ≤ (c - (Rat.divInt (sgn c.num) ((c.den : Nat) : Int)))
     case pos =>
      -- region 19
      refine RL ?_
      refine V rfl rfl (run_load_bx AgR rfl rfl (E.1) rfl) <| ?_
      simp only [q2,q3]
      refine EF rfl (Oper.wp_callB fn_rational_Valid rfl (Valid_r _ _ _ _ (c - (Rat.divInt (sgn c.num) ((c.den : Nat) : Int))) _ (E.2.2.1) (E.2.1) (FitQ.mono F28 (by decide))) rfl E ?_)
      clear E
      intro w40 d40 E
      clear d40
      refine kw rfl ?_
      refine M rfl rfl rfl rfl rfl <| V (by kernel_rfl) rfl (run_load_bx AgR rfl rfl (e5 E) rfl) <| ?_
      simp only [q2,q3]
      refine EF rfl (Oper.wp_callN fn_rational_Sign rfl (Sign_q _ _ _ _ c _ (e7 E) (e6 E)) rfl E ?_)
      clear E
      intro w41 d41 E
      clear d41
      refine kw rfl ?_
      refine V (by kernel_rfl) rfl (run_neI (c := true) rfl rfl rfl (bne_sgn (num_ne hc0))) <| V (v := .bool true) rfl rfl (run_pick (b := true) rfl rfl rfl) <| M rfl rfl rfl rfl rfl <| V (by kernel_rfl) rfl (run_load_bx AgR rfl rfl (e9 E) rfl) <| ?_
      simp only [q2,q3]
      refine V (by kernel_rfl) rfl (run_load_bx AgR rfl rfl (E.1) rfl) <| ?_
      simp only [q2,q3]
      refine EF rfl (Oper.wp_callN fn_rational_Cmp rfl (Cmp_q _ _ _ _ x _ _ _ _ (c - (Rat.divInt (sgn c.num) ((c.den : Nat) : Int))) _ (e13 E) (e12 E) (E.2.2.1) (E.2.1) (FitQ.mono Fx (by decide)) (FitQ.mono F28 (by decide))) rfl E ?_)
      clear E
      intro w42 d42 E
      clear d42
      refine kw rfl ?_
      refine V (by kernel_rfl) rfl (run_leI (c := true) rfl rfl rfl (cmpQ_le0 hnl)) <| V (v := .bool true) rfl rfl (run_pick (b := true) rfl rfl rfl) <| M rfl rfl rfl rfl rfl <| V (by kernel_rfl) rfl (run_load_bx AgR rfl rfl (E.1) rfl) <| ?_
      simp only [q2,q3]
      refine V (by kernel_rfl) rfl (run_load_bx AgR rfl rfl (e8 E) rfl) <| ?_
      simp only [q2,q3]
      refine EF rfl (Oper.wp_callN fn_rational_Cmp rfl (Cmp_q _ _ _ _ (c - (Rat.divInt (sgn c.num) ((c.den : Nat) : Int))) _ _ _ _ y _ (E.2.2.1) (E.2.1) (e11 E) (e10 E) (FitQ.mono F28 (by decide)) (FitQ.mono Fy (by decide))) rfl E ?_)
      clear E
      intro w43 d43 E
      clear d43
      refine kw rfl ?_
      refine V (by kernel_rfl) rfl (run_leI (c := false) rfl rfl rfl (cmpQ_nle0 (hc.next hc0 hnl))) <| V (v := .bool false) rfl rfl (run_pick (b := true) rfl rfl rfl) <| ?_
      simp only [q2,q3]
      refine WN ?_
      change Code.wp _ _ _ _ _
      refine wp_cond_false rfl ?_
      refine wp_skip ?_
      change Code.wp _ _ _ _ _
      refine wp_seq ?_
      -- region 21
      refine wp_schedE E ([0, 3, 1, 2, 4, 5, 6, 7, 8, 9, 10, 11, 12, 13, 14, 15]) (by kernel_rfl) (by kernel_rfl) (by kernel_rfl) (by kernel_rfl) (by intro d v c a w h; cases d <;> exact h) ?_
      replace E := E.drew
      refine SW rfl rfl rfl rfl rfl (fun w hS => run_load_bx AgR rfl rfl (e5 hS) rfl) <| SW rfl rfl rfl rfl rfl (fun w hS => run_load_bx AgR rfl rfl (e9 hS) rfl) <| ?_
      simp only [q2,q3]
      refine S1a (o := ⟨some 107, _, _, _, _, _⟩) rfl rfl rfl rfl (Oper.wp_callN fn_rational_Sign rfl (Sign_q _ _ _ _ c _ (e7 E) (e6 E)) rfl E ?_)
      clear E
      intro w44 d44 E
      clear d44
      refine ⟨E, ?_⟩
      simp only [Act.put,q1,q2,q3]
      refine SW rfl rfl rfl rfl rfl (fun w hS => run_eqI (c := false) rfl rfl rfl (sgn_ne0 (num_ne hc0))) <| ?_
      simp only [q2,q3]
      refine S1a (o := ⟨some 110, _, _, _, _, _⟩) rfl rfl rfl rfl (Oper.wp_callN fn_rational_Sign rfl (Sign_q _ _ _ _ x _ (e13 E) (e12 E)) rfl E ?_)
      clear E
      intro w45 d45 E
      clear d45
      refine ⟨E, ?_⟩
      simp only [Act.put,q1,q2,q3]
      refine SW rfl rfl rfl rfl rfl (fun w hS => run_leI (c := false) rfl rfl rfl (sgnQ_nle hlo)) <| SM rfl rfl rfl rfl rfl rfl rfl rfl <| ?_
      refine S0 (o := ⟨some 113, _, _, _, _, _⟩) rfl rfl (E) ?_
      simp only [Act.put,q1,q2,q3]
      refine S0 (o := ⟨some 114, _, _, _, _, _⟩) rfl rfl (E) ?_
      simp only [Act.put,q1,q2,q3]
      refine S0 (o := ⟨some 115, _, _, _, _, _⟩) rfl rfl (E) ?_
      simp only [Act.put,q1,q2,q3]
      refine SW (v := .bool false) rfl rfl rfl rfl rfl (fun w hS => run_pick (b := false) rfl rfl rfl) <| SW rfl rfl rfl rfl rfl (fun w hS => run_eqB (a := false) (b := false) (c := true) rfl Try.underlying4 rfl rfl rfl) <| ?_
      simp only [q2,q3]
      refine SM rfl rfl rfl rfl rfl rfl rfl rfl <| SM rfl rfl rfl (by kernel_rfl) rfl rfl rfl rfl <| SW (v := .bool true) rfl rfl rfl rfl rfl (fun w hS => run_pick (b := true) rfl rfl rfl) <| SA rfl rfl rfl rfl rfl rfl rfl rfl <| ?_
      simp only [q2,q3]
      refine SN ?_
      change Code.wp _ _ _ _ _
      refine wp_ret ?_
      exact bodyPost_ret (v := .bool true) (by simp [results, Try.results7, asAddr]) rfl ⟨rfl, e15 E⟩
     case neg =>
      -- region 19
      refine RL ?_
      refine V rfl rfl (run_load_bx AgR rfl rfl (E.1) rfl) <| ?_
      simp only [q2,q3]
      refine EF rfl (Oper.wp_callB fn_rational_Valid rfl (Valid_r _ _ _ _ (c - (Rat.divInt (sgn c.num) ((c.den : Nat) : Int))) _ (E.2.2.1) (E.2.1) (FitQ.mono F28 (by decide))) rfl E ?_)
      clear E
      intro w46 d46 E
      clear d46
      refine kw rfl ?_
      refine M rfl rfl rfl rfl rfl <| V (by kernel_rfl) rfl (run_load_bx AgR rfl rfl (e5 E) rfl) <| ?_
      simp only [q2,q3]
      refine EF rfl (Oper.wp_callN fn_rational_Sign rfl (Sign_q _ _ _ _ c _ (e7 E) (e6 E)) rfl E ?_)
      clear E
      intro w47 d47 E
      clear d47
      refine kw rfl ?_
      refine V (by kernel_rfl) rfl (run_neI (c := true) rfl rfl rfl (bne_sgn (num_ne hc0))) <| V (v := .bool true) rfl rfl (run_pick (b := true) rfl rfl rfl) <| M rfl rfl rfl rfl rfl <| V (by kernel_rfl) rfl (run_load_bx AgR rfl rfl (e9 E) rfl) <| ?_
      simp only [q2,q3]
      refine V (by kernel_rfl) rfl (run_load_bx AgR rfl rfl (E.1) rfl) <| ?_
      simp only [q2,q3]
      refine EF rfl (Oper.wp_callN fn_rational_Cmp rfl (Cmp_q _ _ _ _ x _ _ _ _ (c - (Rat.divInt (sgn c.num) ((c.den : Nat) : Int))) _ (e13 E) (e12 E) (E.2.2.1) (E.2.1) (FitQ.mono Fx (by decide)) (FitQ.mono F28 (by decide))) rfl E ?_)
      clear E
      intro w48 d48 E
      clear d48
      refine kw rfl ?_
      refine V (by kernel_rfl) rfl (run_leI (c := false) rfl rfl rfl (cmpQ_nle0 hnl)) <| V (v := .bool false) rfl rfl (run_pick (b := true) rfl rfl rfl) <| M rfl rfl rfl rfl rfl <| L0C (by kernel_rfl) rfl <| ?_
      simp only [q2,q3]
      refine L0C (by kernel_rfl) rfl <| L0C (by kernel_rfl) rfl <| L0C (by kernel_rfl) rfl <| V (v := .bool false) rfl rfl (run_pick (b := false) rfl rfl rfl) <| ?_
      simp only [q2,q3]
      refine WN ?_
      change Code.wp _ _ _ _ _
      refine wp_cond_false rfl ?_
      refine wp_skip ?_
      change Code.wp _ _ _ _ _
      refine wp_seq ?_
      -- region 21
      refine wp_schedE E ([0, 3, 1, 2, 4, 5, 6, 7, 8, 9, 10, 11, 12, 13, 14, 15]) (by kernel_rfl) (by kernel_rfl) (by kernel_rfl) (by kernel_rfl) (by intro d v c a w h; cases d <;> exact h) ?_
      replace E := E.drew
      refine SW rfl rfl rfl rfl rfl (fun w hS => run_load_bx AgR rfl rfl (e5 hS) rfl) <| SW rfl rfl rfl rfl rfl (fun w hS => run_load_bx AgR rfl rfl (e9 hS) rfl) <| ?_
      simp only [q2,q3]
      refine S1a (o := ⟨some 107, _, _, _, _, _⟩) rfl rfl rfl rfl (Oper.wp_callN fn_rational_Sign rfl (Sign_q _ _ _ _ c _ (e7 E) (e6 E)) rfl E ?_)
      clear E
      intro w49 d49 E
      clear d49
      refine ⟨E, ?_⟩
      simp only [Act.put,q1,q2,q3]
      refine SW rfl rfl rfl rfl rfl (fun w hS => run_eqI (c := false) rfl rfl rfl (sgn_ne0 (num_ne hc0))) <| ?_
      simp only [q2,q3]
      refine S1a (o := ⟨some 110, _, _, _, _, _⟩) rfl rfl rfl rfl (Oper.wp_callN fn_rational_Sign rfl (Sign_q _ _ _ _ x _ (e13 E) (e12 E)) rfl E ?_)
      clear E
      intro w50 d50 E
      clear d50
      refine ⟨E, ?_⟩
      simp only [Act.put,q1,q2,q3]
      refine SW rfl rfl rfl rfl rfl (fun w hS => run_leI (c := false) rfl rfl rfl (sgnQ_nle hlo)) <| SM rfl rfl rfl rfl rfl rfl rfl rfl <| ?_
      refine S0 (o := ⟨some 113, _, _, _, _, _⟩) rfl rfl (E) ?_
      simp only [Act.put,q1,q2,q3]
      refine S0 (o := ⟨some 114, _, _, _, _, _⟩) rfl rfl (E) ?_
      simp only [Act.put,q1,q2,q3]
      refine S0 (o := ⟨some 115, _, _, _, _, _⟩) rfl rfl (E) ?_
      simp only [Act.put,q1,q2,q3]
      refine SW (v := .bool false) rfl rfl rfl rfl rfl (fun w hS => run_pick (b := false) rfl rfl rfl) <| SW rfl rfl rfl rfl rfl (fun w hS => run_eqB (a := false) (b := false) (c := true) rfl Try.underlying4 rfl rfl rfl) <| ?_
      simp only [q2,q3]
      refine SM rfl rfl rfl rfl rfl rfl rfl rfl <| SM rfl rfl rfl (by kernel_rfl) rfl rfl rfl rfl <| SW (v := .bool true) rfl rfl rfl rfl rfl (fun w hS => run_pick (b := true) rfl rfl rfl) <| SA rfl rfl rfl rfl rfl rfl rfl rfl <| ?_
      simp only [q2,q3]
      refine SN ?_
      change Code.wp _ _ _ _ _
      refine wp_ret ?_
      exact bodyPost_ret (v := .bool true) (by simp [results, Try.results7, asAddr]) rfl ⟨rfl, e15 E⟩
    case neg =>
     have hhi : y < 0 := Decidable.by_contra fun g => hc0 (hc.nz hlo g)
     by_cases hnl : x ≤ (c - (Rat.divInt (sgn c.num) ((c.den : Nat) : Int)))
     case pos =>
      -- region 19
      refine RL ?_
      refine V rfl rfl (run_load_bx AgR rfl rfl (E.1) rfl) <| ?_
      simp only [q2,q3]
      refine EF rfl (Oper.wp_callB fn_rational_Valid rfl (Valid_r _ _ _ _ (c - (Rat.divInt (sgn c.num) ((c.den : Nat) : Int))) _ (E.2.2.1) (E.2.1) (FitQ.mono F28 (by decide))) rfl E ?_)
      clear E
      intro w51 d51 E
      clear d51
      refine kw rfl ?_
      refine M rfl rfl rfl rfl rfl <| V (by kernel_rfl) rfl (run_load_bx AgR rfl rfl (e5 E) rfl) <| ?_
      simp only [q2,q3]
      refine EF rfl (Oper.wp_callN fn_rational_Sign rfl (Sign_q _ _ _ _ c _ (e7 E) (e6 E)) rfl E ?_)
      clear E
      intro w52 d52 E
      clear d52
      refine kw rfl ?_
      refine V (by kernel_rfl) rfl (run_neI (c := true) rfl rfl rfl (bne_sgn (num_ne hc0))) <| V (v := .bool true) rfl rfl (run_pick (b := true) rfl rfl rfl) <| M rfl rfl rfl rfl rfl <| V (by kernel_rfl) rfl (run_load_bx AgR rfl rfl (e9 E) rfl) <| ?_
      simp only [q2,q3]
      refine V (by kernel_rfl) rfl (run_load_bx AgR rfl rfl (E.1) rfl) <| ?_
      simp only [q2,q3]
      refine EF rfl (Oper.wp_callN fn_rational_Cmp rfl (Cmp_q _ _ _ _ x _ _ _ _ (c - (Rat.divInt (sgn c.num) ((c.den : Nat) : Int))) _ (e13 E) (e12 E) (E.2.2.1) (E.2.1) (FitQ.mono Fx (by decide)) (FitQ.mono F28 (by decide))) rfl E ?_)
      clear E
      intro w53 d53 E
      clear d53
      refine kw rfl ?_
      refine V (by kernel_rfl) rfl (run_leI (c := true) rfl rfl rfl (cmpQ_le0 hnl)) <| V (v := .bool true) rfl rfl (run_pick (b := true) rfl rfl rfl) <| M rfl rfl rfl rfl rfl <| V (by kernel_rfl) rfl (run_load_bx AgR rfl rfl (E.1) rfl) <| ?_
      simp only [q2,q3]
      refine V (by kernel_rfl) rfl (run_load_bx AgR rfl rfl (e8 E) rfl) <| ?_
      simp only [q2,q3]
      refine EF rfl (Oper.wp_callN fn_rational_Cmp rfl (Cmp_q _ _ _ _ (c - (Rat.divInt (sgn c.num) ((c.den : Nat) : Int))) _ _ _ _ y _ (E.2.2.1) (E.2.1) (e11 E) (e10 E) (FitQ.mono F28 (by decide)) (FitQ.mono Fy (by decide))) rfl E ?_)
      clear E
      intro w54 d54 E
      clear d54
      refine kw rfl ?_
      refine V (by kernel_rfl) rfl (run_leI (c := false) rfl rfl rfl (cmpQ_nle0 (hc.next hc0 hnl))) <| V (v := .bool false) rfl rfl (run_pick (b := true) rfl rfl rfl) <| ?_
      simp only [q2,q3]
      refine WN ?_
      change Code.wp _ _ _ _ _
      refine wp_cond_false rfl ?_
      refine wp_skip ?_
      change Code.wp _ _ _ _ _
      refine wp_seq ?_
      -- region 21
      refine wp_schedE E ([0, 3, 1, 2, 4, 5, 6, 7, 8, 9, 10, 11, 12, 13, 14, 15]) (by kernel_rfl) (by kernel_rfl) (by kernel_rfl) (by kernel_rfl) (by intro d v c a w h; cases d <;> exact h) ?_
      replace E := E.drew
      refine SW rfl rfl rfl rfl rfl (fun w hS => run_load_bx AgR rfl rfl (e5 hS) rfl) <| SW rfl rfl rfl rfl rfl (fun w hS => run_load_bx AgR rfl rfl (e9 hS) rfl) <| ?_
      simp only [q2,q3]
      refine S1a (o := ⟨some 107, _, _, _, _, _⟩) rfl rfl rfl rfl (Oper.wp_callN fn_rational_Sign rfl (Sign_q _ _ _ _ c _ (e7 E) (e6 E)) rfl E ?_)
      clear E
      intro w55 d55 E
      clear d55
      refine ⟨E, ?_⟩
      simp only [Act.put,q1,q2,q3]
      refine SW rfl rfl rfl rfl rfl (fun w hS => run_eqI (c := false) rfl rfl rfl (sgn_ne0 (num_ne hc0))) <| ?_
      simp only [q2,q3]
      refine S1a (o := ⟨some 110, _, _, _, _, _⟩) rfl rfl rfl rfl (Oper.wp_callN fn_rational_Sign rfl (Sign_q _ _ _ _ x _ (e13 E) (e12 E)) rfl E ?_)
      clear E
      intro w56 d56 E
      clear d56
      refine ⟨E, ?_⟩
      simp only [Act.put,q1,q2,q3]
      refine SW rfl rfl rfl rfl rfl (fun w hS => run_leI (c := true) rfl rfl rfl (sgnQ_le hlo)) <| SM rfl rfl rfl rfl rfl rfl rfl rfl <| SW rfl rfl rfl (by kernel_rfl) rfl (fun w hS => run_load_bx AgR rfl rfl (e8 hS) rfl) <| ?_
      simp only [q2,q3]
      refine S1a (o := ⟨some 114, _, _, _, _, _⟩) rfl rfl rfl rfl (Oper.wp_callN fn_rational_Sign rfl (Sign_q _ _ _ _ y _ (e11 E) (e10 E)) rfl E ?_)
      clear E
      intro w57 d57 E
      clear d57
      refine ⟨E, ?_⟩
      simp only [Act.put,q1,q2,q3]
      refine SW rfl rfl rfl (by kernel_rfl) rfl (fun w hS => run_geI (c := false) rfl rfl rfl (sgnQ_nge hhi)) <| SW (v := .bool false) rfl rfl rfl rfl rfl (fun w hS => run_pick (b := true) rfl rfl rfl) <| SW rfl rfl rfl rfl rfl (fun w hS => run_eqB (a := false) (b := false) (c := true) rfl Try.underlying4 rfl rfl rfl) <| SM rfl rfl rfl rfl rfl rfl rfl rfl <| ?_
      simp only [q2,q3]
      refine SM rfl rfl rfl (by kernel_rfl) rfl rfl rfl rfl <| SW (v := .bool true) rfl rfl rfl rfl rfl (fun w hS => run_pick (b := true) rfl rfl rfl) <| SA rfl rfl rfl rfl rfl rfl rfl rfl <| ?_
      simp only [q2,q3]
      refine SN ?_
      change Code.wp _ _ _ _ _
      refine wp_ret ?_
      exact bodyPost_ret (v := .bool true) (by simp [results, Try.results7, asAddr]) rfl ⟨rfl, e15 E⟩
     case neg =>
      -- region 19
      refine RL ?_
      refine V rfl rfl (run_load_bx AgR rfl rfl (E.1) rfl) <| ?_
      simp only [q2,q3]
      refine EF rfl (Oper.wp_callB fn_rational_Valid rfl (Valid_r _ _ _ _ (c - (Rat.divInt (sgn c.num) ((c.den : Nat) : Int))) _ (E.2.2.1) (E.2.1) (FitQ.mono F28 (by decide))) rfl E ?_)
      clear E
      intro w58 d58 E
      clear d58
      refine kw rfl ?_
      refine M rfl rfl rfl rfl rfl <| V (by kernel_rfl) rfl (run_load_bx AgR rfl rfl (e5 E) rfl) <| ?_
      simp only [q2,q3]
      refine EF rfl (Oper.wp_callN fn_rational_Sign rfl (Sign_q _ _ _ _ c _ (e7 E) (e6 E)) rfl E ?_)
      clear E
      intro w59 d59 E
      clear d59
      refine kw rfl ?_
      refine V (by kernel_rfl) rfl (run_neI (c := true) rfl rfl rfl (bne_sgn (num_ne hc0))) <| V (v := .bool true) rfl rfl (run_pick (b := true) rfl rfl rfl) <| M rfl rfl rfl rfl rfl <| V (by kernel_rfl) rfl (run_load_bx AgR rfl rfl (e9 E) rfl) <| ?_
      simp only [q2,q3]
      refine V (by kernel_rfl) rfl (run_load_bx AgR rfl rfl (E.1) rfl) <| ?_
      simp only [q2,q3]
      refine EF rfl (Oper.wp_callN fn_rational_Cmp rfl (Cmp_q _ _ _ _ x _ _ _ _ (c - (Rat.divInt (sgn c.num) ((c.den : Nat) : Int))) _ (e13 E) (e12 E) (E.2.2.1) (E.2.1) (FitQ.mono Fx (by decide)) (FitQ.mono F28 (by decide))) rfl E ?_)
      clear E
      intro w60 d60 E
      clear d60
      refine kw rfl ?_
      refine V (by kernel_rfl) rfl (run_leI (c := false) rfl rfl rfl (cmpQ_nle0 hnl)) <| V (v := .bool false) rfl rfl (run_pick (b := true) rfl rfl rfl) <| M rfl rfl rfl rfl rfl <| L0C (by kernel_rfl) rfl <| ?_
      simp only [q2,q3]
      refine L0C (by kernel_rfl) rfl <| L0C (by kernel_rfl) rfl <| L0C (by kernel_rfl) rfl <| V (v := .bool false) rfl rfl (run_pick (b := false) rfl rfl rfl) <| ?_
      simp only [q2,q3]
      refine WN ?_
      change Code.wp _ _ _ _ _
      refine wp_cond_false rfl ?_
      refine wp_skip ?_
      change Code.wp _ _ _ _ _
      refine wp_seq ?_
      -- region 21
      refine wp_schedE E ([0, 3, 1, 2, 4, 5, 6, 7, 8, 9, 10, 11, 12, 13, 14, 15]) (by kernel_rfl) (by kernel_rfl) (by kernel_rfl) (by kernel_rfl) (by intro d v c a w h; cases d <;> exact h) ?_
      replace E := E.drew
      refine SW rfl rfl rfl rfl rfl (fun w hS => run_load_bx AgR rfl rfl (e5 hS) rfl) <| SW rfl rfl rfl rfl rfl (fun w hS => run_load_bx AgR rfl rfl (e9 hS) rfl) <| ?_
      simp only [q2,q3]
      refine S1a (o := ⟨some 107, _, _, _, _, _⟩) rfl rfl rfl rfl (Oper.wp_callN fn_rational_Sign rfl (Sign_q _ _ _ _ c _ (e7 E) (e6 E)) rfl E ?_)
      clear E
      intro w61 d61 E
      clear d61
      refine ⟨E, ?_⟩
      simp only [Act.put,q1,q2,q3]
      refine SW rfl rfl rfl rfl rfl (fun w hS => run_eqI (c := false) rfl rfl rfl (sgn_ne0 (num_ne hc0))) <| ?_
      simp only [q2,q3]
      refine S1a (o := ⟨some 110, _, _, _, _, _⟩) rfl rfl rfl rfl (Oper.wp_callN fn_rational_Sign rfl (Sign_q _ _ _ _ x _ (e13 E) (e12 E)) rfl E ?_)
      clear E
      intro w62 d62 E
      clear d62
      refine ⟨E, ?_⟩
      simp only [Act.put,q1,q2,q3]
      refine SW rfl rfl rfl rfl rfl (fun w hS => run_leI (c := true) rfl rfl rfl (sgnQ_le hlo)) <| SM rfl rfl rfl rfl rfl rfl rfl rfl <| SW rfl rfl rfl (by kernel_rfl) rfl (fun w hS => run_load_bx AgR rfl rfl (e8 hS) rfl) <| ?_
      simp only [q2,q3]
      refine S1a (o := ⟨some 114, _, _, _, _, _⟩) rfl rfl rfl rfl (Oper.wp_callN fn_rational_Sign rfl (Sign_q _ _ _ _ y _ (e11 E) (e10 E)) rfl E ?_)
      clear E
      intro w63 d63 E
      clear d63
      refine ⟨E, ?_⟩
      simp only [Act.put,q1,q2,q3]
      refine SW rfl rfl rfl (by kernel_rfl) rfl (fun w hS => run_geI (c := false) rfl rfl rfl (sgnQ_nge hhi)) <| SW (v := .bool false) rfl rfl rfl rfl rfl (fun w hS => run_pick (b := true) rfl rfl rfl) <| SW rfl rfl rfl rfl rfl (fun w hS => run_eqB (a := false) (b := false) (c := true) rfl Try.underlying4 rfl rfl rfl) <| SM rfl rfl rfl rfl rfl rfl rfl rfl <| ?_
      simp only [q2,q3]
      refine SM rfl rfl rfl (by kernel_rfl) rfl rfl rfl rfl <| SW (v := .bool true) rfl rfl rfl rfl rfl (fun w hS => run_pick (b := true) rfl rfl rfl) <| SA rfl rfl rfl rfl rfl rfl rfl rfl <| ?_
      simp only [q2,q3]
      refine SN ?_
      change Code.wp _ _ _ _ _
      refine wp_ret ?_
      exact bodyPost_ret (v := .bool true) (by simp [results, Try.results7, asAddr]) rfl ⟨rfl, e15 E⟩
  case neg =>
   by_cases hdc : d < ((c.den : Nat) : Int)
   case pos =>
    refine wp_seq ?_
    refine wp_seq ?_
    -- region 14
    refine wp_schedE E ([0, 1, 2, 3, 5, 6, 4, 7, 8, 9]) (by kernel_rfl) (by kernel_rfl) (by kernel_rfl) (by kernel_rfl) (by intro d v c a w h; cases d <;> exact h) ?_
    replace E := E.drew
    refine SM rfl rfl rfl rfl rfl rfl rfl rfl <| SW rfl rfl rfl rfl rfl (fun w hS => run_leI (c := true) rfl rfl rfl (by rw [decide_eq_true_eq]; omega)) <| SM rfl rfl rfl rfl rfl rfl rfl rfl <| SM rfl rfl rfl (by kernel_rfl) rfl rfl rfl rfl <| ?_
    simp only [q2,q3]
    refine SW rfl rfl rfl (by kernel_rfl) rfl (fun w hS => run_fieldR1 rfl rfl) <| SW rfl rfl rfl (by kernel_rfl) rfl (fun w hS => run_loadAt rfl rfl (hS.1) rfl rfl) <| ?_
    simp only [q2,q3]
    refine S1a (o := ⟨some 66, _, _, _, _, _⟩) rfl rfl rfl rfl (Oper.wp_callI fn_integer_Of rfl (Of_z d _ (by omega) (by omega)) rfl E ?_)
    clear E
    intro w65 n65 s65 d65 E
    clear d65
    refine ⟨E.2, ?_⟩
    simp only [Act.put,q1,q2,q3]
    have F64 : Fits d 4 := Fits_of64 (by omega) (by omega)
    refine S1a (o := ⟨some 69, _, _, _, _, _⟩) rfl rfl rfl rfl (Oper.wp_callN fn_integer_Cmp rfl (Cmp_z _ _ d ((c.den : Nat) : Int) _ (E.1) (E.2.2.1)) rfl E ?_)
    clear E
    intro w66 d66 E
    clear d66
    refine ⟨E.2, ?_⟩
    simp only [Act.put,q1,q2,q3]
    refine SW rfl rfl rfl (by kernel_rfl) rfl (fun w hS => run_ltI (c := true) rfl rfl rfl (cmpI_lt0' hdc)) <| SW (v := .bool true) rfl rfl rfl rfl rfl (fun w hS => run_pick (b := true) rfl rfl rfl) <| ?_
    simp only [q2,q3]
    refine SN ?_
    change Code.wp _ _ _ _ _
    refine wp_cond_true rfl ?_
    refine wp_skip ?_
    change Code.wp _ _ _ _ _
    refine wp_seq ?_
    refine wp_block ?_
    refine wp_seq ?_
    -- region 16
    refine RL ?_
    refine V rfl rfl (run_load_bx AgR rfl rfl (e5 E) rfl) <| V rfl rfl (run_load_bx AgR rfl rfl (e4 E) rfl) <| M rfl rfl rfl rfl rfl <| ?_
    simp only [q2,q3]
    refine EF rfl (Oper.wp_callB fn_elaw02_empty rfl (empty_t d _ _ _ _ x _ _ _ _ y _ (e9 E) (e8 E) (e7 E) (e6 E) hI1 (by omega) (hc.empty hI1 hdc) (FitQ.mono Fx (by decide)) (FitQ.mono Fy (by decide))) rfl E ?_)
    clear E
    intro w67 d67 E
    clear d67
    refine kw rfl ?_
    refine V (v := .bool false) rfl rfl (run_not (b := true) rfl rfl) <| ?_
    simp only [q2,q3]
    refine WN ?_
    change Code.wp _ _ _ _ _
    refine wp_cond_false rfl ?_
    refine wp_skip ?_
    change Code.wp _ _ _ _ _
    -- region 15
    refine RL ?_
    refine M rfl rfl rfl rfl rfl <| V (v := .int .i64 (d + 1)) rfl rfl (run_addI rfl rfl rfl (wrap_i (by omega))) <| A rfl rfl rfl rfl rfl <| ?_
    simp only [q2,q3]
    refine WN ?_
    exact ⟨_, (by rw [hm22]; omega), (d + 1), _, _, _, _, _, _, _, _, _, _, _, _, _, _, _, _, _, _, rfl, (Env.x (Env.i (Env.i (Env.x (Env.x (Env.i (Env.i (Env.i (Env.i (Env.x (Env.ww (Env.nil _) (e11 E)) (e10 E)) (e9 E)) (e8 E)) (e7 E)) (e6 E)) (e5 E)) (e4 E)) (e3 E)) (E.2.2.1)) (E.2.1)), rfl, ⟨by omega, by omega⟩⟩
   case neg =>
    refine wp_seq ?_
    refine wp_seq ?_
    -- region 14
    refine wp_schedE E ([0, 1, 2, 3, 5, 6, 4, 7, 8, 9]) (by kernel_rfl) (by kernel_rfl) (by kernel_rfl) (by kernel_rfl) (by intro d v c a w h; cases d <;> exact h) ?_
    replace E := E.drew
    refine SM rfl rfl rfl rfl rfl rfl rfl rfl <| SW rfl rfl rfl rfl rfl (fun w hS => run_leI (c := true) rfl rfl rfl (by rw [decide_eq_true_eq]; omega)) <| SM rfl rfl rfl rfl rfl rfl rfl rfl <| SM rfl rfl rfl (by kernel_rfl) rfl rfl rfl rfl <| ?_
    simp only [q2,q3]
    refine SW rfl rfl rfl (by kernel_rfl) rfl (fun w hS => run_fieldR1 rfl rfl) <| SW rfl rfl rfl (by kernel_rfl) rfl (fun w hS => run_loadAt rfl rfl (hS.1) rfl rfl) <| ?_
    simp only [q2,q3]
    refine S1a (o := ⟨some 66, _, _, _, _, _⟩) rfl rfl rfl rfl (Oper.wp_callI fn_integer_Of rfl (Of_z d _ (by omega) (by omega)) rfl E ?_)
    clear E
    intro w69 n69 s69 d69 E
    clear d69
    refine ⟨E.2, ?_⟩
    simp only [Act.put,q1,q2,q3]
    have F68 : Fits d 4 := Fits_of64 (by omega) (by omega)
    refine S1a (o := ⟨some 69, _, _, _, _, _⟩) rfl rfl rfl rfl (Oper.wp_callN fn_integer_Cmp rfl (Cmp_z _ _ d ((c.den : Nat) : Int) _ (E.1) (E.2.2.1)) rfl E ?_)
    clear E
    intro w70 d70 E
    clear d70
    refine ⟨E.2, ?_⟩
    simp only [Act.put,q1,q2,q3]
    refine SW rfl rfl rfl (by kernel_rfl) rfl (fun w hS => run_ltI (c := false) rfl rfl rfl (cmpI_nlt0' hdc)) <| SW (v := .bool false) rfl rfl rfl rfl rfl (fun w hS => run_pick (b := true) rfl rfl rfl) <| ?_
    simp only [q2,q3]
    refine SN ?_
    change Code.wp _ _ _ _ _
    refine wp_cond_false rfl ?_
    refine wp_exit ?_
    change Code.wp _ _ _ _ _
    refine wp_seq ?_
    replace E := E.i (eqZ (z' := (((Rat.divInt (sgn c.num) ((c.den : Nat) : Int)).den : Nat) : Int)) (vq_div (sgn_vq c)).2.symm (E.2.2.1))
    have FX1 : FitQ (Rat.divInt (sgn c.num) ((c.den : Nat) : Int)) 20 := FitQ_low (den_ne c) (Fits_of64 (sgn_lo _) (sgn_hi _) |>.mono (by decide)) Fc.2
    -- region 18
    have hB71_0 : b17 < w70.heap.size := Bx.lt (E.2.2.1)
    refine wp_schedF E [.op 0, .op 1, .op 4, .op 5, .av 8, .op 2, .op 3, .op 6, .op 7, .op 8] 1 (#[true, true, true, true, true, true, true, true, true, false]) (by kernel_rfl) (by kernel_rfl) (by kernel_rfl) (by kernel_rfl) (by intro d v c a w h; cases d <;> exact h) (by intro d v c a w h; cases d <;> exact h) ?_
    refine FP (v := .agg #[.bool n16, s16, .bool m16, t16]) rfl rfl rfl rfl rfl (fun w hS => run_load_bx AgR rfl rfl (hS.2.2.1) rfl) <| FP (v := .agg #[.bool n16, s16, .bool m16, t16]) rfl rfl rfl rfl rfl (fun w hS => run_load_bx AgR rfl rfl (hS.2.2.1) rfl) <| FP (v := .pointer (some ⟨b17, 2, none⟩)) rfl rfl rfl rfl rfl (fun w hS => run_fieldR1 rfl rfl) <| FP (v := .agg #[.bool m16, t16]) rfl rfl rfl rfl rfl (fun w hS => run_loadAt rfl rfl (hS.2.2.1) rfl rfl) <| FA _ (RunF.alloc AgR rfl rfl rfl) <| ?_
    simp only [q2,q3]
    clear E
    refine FE rfl rfl rfl rfl ?_
    intro w73 E
    refine Oper.wp_callN fn_rational_Sign rfl (Sign_q _ _ _ _ c _ (e4 E) (e3 E)) rfl E ?_
    clear E
    intro w72 d72 E
    refine kF d72 E rfl ?_
    simp only [q2,q3]
    clear E
    refine FE rfl rfl rfl rfl ?_
    intro w75 E
    refine Oper.wp_callI fn_integer_Of rfl ((Of_z (sgn c.num) _ (sgn_lo _) (sgn_hi _)).mono fun _ _ h => RetZ_eq (z' := (Rat.divInt (sgn c.num) ((c.den : Nat) : Int)).num) h (vq_div (sgn_vq c)).1.symm) rfl E ?_
    clear E
    intro w74 n74 s74 d74 E
    refine kF d74 E rfl ?_
    refine FP (v := .agg #[.bool n74, s74, .bool m16, t16]) rfl rfl rfl rfl rfl (fun w hS => run_buildR rfl rfl rfl) <| ?_
    simp only [q2,q3]
    clear E
    refine FE rfl rfl rfl rfl ?_
    intro w78 E
    refine Oper.wp_callP fn_rational_Sub rfl (Sub_q _ _ _ _ c _ _ _ _ (Rat.divInt (sgn c.num) ((c.den : Nat) : Int)) _ (e5 E) (e4 E) (E.1) (E.2.1) (FitQ.mono Fc (by decide)) (FitQ.mono FX1 (by decide))) rfl E ?_
    clear E
    intro w77 n77 s77 m77 t77 d77 E
    refine kF d77 E rfl ?_
    have F76 : FitQ (c - (Rat.divInt (sgn c.num) ((c.den : Nat) : Int))) 41 := FitQ_sub Fc FX1
    simp only [q2,q3]
    refine FF rfl rfl ?_
    intro b79 f79 u79
    have l79_0 : b17 < b79 := by omega
    simp only [q2,q3]
    clear E
    intro w80 E
    refine H1 (i := 9) (by kernel_rfl) ?_
    have x82 := E.1
    replace E := E.2
    refine HE (o := ⟨none, _, _, _, _, _⟩) rfl rfl (Oper.wp_store AgR rfl rfl rfl x82 rfl rfl (one4 (IsI.one (E.2.1)) (IsI.one (E.1))) ?_)
    intro w81 o81 y81
    replace E := (E.onl (x82.noW (now4 now0 now0)) ⟨trivial, trivial, trivial, trivial, trivial, okX (by omega), trivial, trivial, okX (by omega), okX (by omega), trivial, trivial, trivial, trivial, okX (by omega), okW (by omega), trivial⟩ o81).x y81
    clear x82 o81 y81
    refine ⟨E.2.2.2.2, ?_⟩
    simp only [Act.put]
    refine HN (by kernel_rfl) ?_
    change Code.wp _ _ _ _ _
    refine wp_seq ?_
    refine wp_seq ?_
    by_cases hc0 : c = 0
    case pos =>
     have hz := hc.zero hle hc0
     -- region 19
     refine RL ?_
     refine V rfl rfl (run_load_bx AgR rfl rfl (E.1) rfl) <| ?_
     simp only [q2,q3]
     refine EF rfl (Oper.wp_callB fn_rational_Valid rfl (Valid_r _ _ _ _ (c - (Rat.divInt (sgn c.num) ((c.den : Nat) : Int))) _ (E.2.2.1) (E.2.1) (FitQ.mono F76 (by decide))) rfl E ?_)
     clear E
     intro w83 d83 E
     clear d83
     refine kw rfl ?_
     refine M rfl rfl rfl rfl rfl <| V (by kernel_rfl) rfl (run_load_bx AgR rfl rfl (e6 E) rfl) <| ?_
     simp only [q2,q3]
     refine EF rfl (Oper.wp_callN fn_rational_Sign rfl (Sign_q _ _ _ _ c _ (e8 E) (e7 E)) rfl E ?_)
     clear E
     intro w84 d84 E
     clear d84
     refine kw rfl ?_
     refine V (by kernel_rfl) rfl (run_neI (c := false) rfl rfl rfl (by rw [hc0]; rfl)) <| V (v := .bool false) rfl rfl (run_pick (b := true) rfl rfl rfl) <| M rfl rfl rfl rfl rfl <| L0C (by kernel_rfl) rfl <| ?_
     simp only [q2,q3]
     refine L0C (by kernel_rfl) rfl <| L0C (by kernel_rfl) rfl <| L0C (by kernel_rfl) rfl <| V (v := .bool false) rfl rfl (run_pick (b := false) rfl rfl rfl) <| ?_
     simp only [q2,q3]
     refine M rfl rfl rfl rfl rfl <| L0C (by kernel_rfl) rfl <| L0C (by kernel_rfl) rfl <| L0C (by kernel_rfl) rfl <| ?_
     simp only [q2,q3]
     refine L0C (by kernel_rfl) rfl <| V (v := .bool false) rfl rfl (run_pick (b := false) rfl rfl rfl) <| ?_
     simp only [q2,q3]
     refine WN ?_
     change Code.wp _ _ _ _ _
     refine wp_cond_false rfl ?_
     refine wp_skip ?_
     change Code.wp _ _ _ _ _
     refine wp_seq ?_
     -- region 21
     refine wp_schedE E ([0, 3, 1, 2, 4, 5, 6, 7, 8, 9, 10, 11, 12, 13, 14, 15]) (by kernel_rfl) (by kernel_rfl) (by kernel_rfl) (by kernel_rfl) (by intro d v c a w h; cases d <;> exact h) ?_
     replace E := E.drew
     refine SW rfl rfl rfl rfl rfl (fun w hS => run_load_bx AgR rfl rfl (e6 hS) rfl) <| SW rfl rfl rfl rfl rfl (fun w hS => run_load_bx AgR rfl rfl (e10 hS) rfl) <| ?_
     simp only [q2,q3]
     refine S1a (o := ⟨some 107, _, _, _, _, _⟩) rfl rfl rfl rfl (Oper.wp_callN fn_rational_Sign rfl (Sign_q _ _ _ _ c _ (e8 E) (e7 E)) rfl E ?_)
     clear E
     intro w85 d85 E
     clear d85
     refine ⟨E, ?_⟩
     simp only [Act.put,q1,q2,q3]
     refine SW rfl rfl rfl rfl rfl (fun w hS => run_eqI (c := true) rfl rfl rfl (by rw [hc0]; rfl)) <| ?_
     simp only [q2,q3]
     refine S1a (o := ⟨some 110, _, _, _, _, _⟩) rfl rfl rfl rfl (Oper.wp_callN fn_rational_Sign rfl (Sign_q _ _ _ _ x _ (e14 E) (e13 E)) rfl E ?_)
     clear E
     intro w86 d86 E
     clear d86
     refine ⟨E, ?_⟩
     simp only [Act.put,q1,q2,q3]
     refine SW rfl rfl rfl rfl rfl (fun w hS => run_leI (c := true) rfl rfl rfl (sgnQ_le hz.1)) <| SM rfl rfl rfl rfl rfl rfl rfl rfl <| SW rfl rfl rfl (by kernel_rfl) rfl (fun w hS => run_load_bx AgR rfl rfl (e9 hS) rfl) <| ?_
     simp only [q2,q3]
     refine S1a (o := ⟨some 114, _, _, _, _, _⟩) rfl rfl rfl rfl (Oper.wp_callN fn_rational_Sign rfl (Sign_q _ _ _ _ y _ (e12 E) (e11 E)) rfl E ?_)
     clear E
     intro w87 d87 E
     clear d87
     refine ⟨E, ?_⟩
     simp only [Act.put,q1,q2,q3]
     refine SW rfl rfl rfl (by kernel_rfl) rfl (fun w hS => run_geI (c := true) rfl rfl rfl (sgnQ_ge hz.2)) <| SW (v := .bool true) rfl rfl rfl rfl rfl (fun w hS => run_pick (b := true) rfl rfl rfl) <| SW rfl rfl rfl rfl rfl (fun w hS => run_eqB (a := true) (b := true) (c := true) rfl Try.underlying4 rfl rfl rfl) <| SM rfl rfl rfl rfl rfl rfl rfl rfl <| ?_
     simp only [q2,q3]
     refine SM rfl rfl rfl (by kernel_rfl) rfl rfl rfl rfl <| SW (v := .bool true) rfl rfl rfl rfl rfl (fun w hS => run_pick (b := true) rfl rfl rfl) <| SA rfl rfl rfl rfl rfl rfl rfl rfl <| ?_
     simp only [q2,q3]
     refine SN ?_
     change Code.wp _ _ _ _ _
     refine wp_ret ?_
     exact bodyPost_ret (v := .bool true) (by simp [results, Try.results7, asAddr]) rfl ⟨rfl, e16 E⟩
    case neg =>
     by_cases hlo : 0 < x
     case pos =>
      by_cases hnl : x ≤ (c - (Rat.divInt (sgn c.num) ((c.den : Nat) : Int)))
      case pos =>
       -- region 19
       refine RL ?_
       refine V rfl rfl (run_load_bx AgR rfl rfl (E.1) rfl) <| ?_
       simp only [q2,q3]
       refine EF rfl (Oper.wp_callB fn_rational_Valid rfl (Valid_r _ _ _ _ (c - (Rat.divInt (sgn c.num) ((c.den : Nat) : Int))) _ (E.2.2.1) (E.2.1) (FitQ.mono F76 (by decide))) rfl E ?_)
       clear E
       intro w88 d88 E
       clear d88
       refine kw rfl ?_
       refine M rfl rfl rfl rfl rfl <| V (by kernel_rfl) rfl (run_load_bx AgR rfl rfl (e6 E) rfl) <| ?_
       simp only [q2,q3]
       refine EF rfl (Oper.wp_callN fn_rational_Sign rfl (Sign_q _ _ _ _ c _ (e8 E) (e7 E)) rfl E ?_)
       clear E
       intro w89 d89 E
       clear d89
       refine kw rfl ?_
       refine V (by kernel_rfl) rfl (run_neI (c := true) rfl rfl rfl (bne_sgn (num_ne hc0))) <| V (v := .bool true) rfl rfl (run_pick (b := true) rfl rfl rfl) <| M rfl rfl rfl rfl rfl <| V (by kernel_rfl) rfl (run_load_bx AgR rfl rfl (e10 E) rfl) <| ?_
       simp only [q2,q3]
       refine V (by kernel_rfl) rfl (run_load_bx AgR rfl rfl (E.1) rfl) <| ?_
       simp only [q2,q3]
       refine EF rfl (Oper.wp_callN fn_rational_Cmp rfl (Cmp_q _ _ _ _ x _ _ _ _ (c - (Rat.divInt (sgn c.num) ((c.den : Nat) : Int))) _ (e14 E) (e13 E) (E.2.2.1) (E.2.1) (FitQ.mono Fx (by decide)) (FitQ.mono F76 (by decide))) rfl E ?_)
       clear E
       intro w90 d90 E
       clear d90
       refine kw rfl ?_
       refine V (by kernel_rfl) rfl (run_leI (c := true) rfl rfl rfl (cmpQ_le0 hnl)) <| V (v := .bool true) rfl rfl (run_pick (b := true) rfl rfl rfl) <| M rfl rfl rfl rfl rfl <| V (by kernel_rfl) rfl (run_load_bx AgR rfl rfl (E.1) rfl) <| ?_
       simp only [q2,q3]
       refine V (by kernel_rfl) rfl (run_load_bx AgR rfl rfl (e9 E) rfl) <| ?_
       simp only [q2,q3]
       refine EF rfl (Oper.wp_callN fn_rational_Cmp rfl (Cmp_q _ _ _ _ (c - (Rat.divInt (sgn c.num) ((c.den : Nat) : Int))) _ _ _ _ y _ (E.2.2.1) (E.2.1) (e12 E) (e11 E) (FitQ.mono F76 (by decide)) (FitQ.mono Fy (by decide))) rfl E ?_)
       clear E
       intro w91 d91 E
       clear d91
       refine kw rfl ?_
       refine V (by kernel_rfl) rfl (run_leI (c := false) rfl rfl rfl (cmpQ_nle0 (hc.next hc0 hnl))) <| V (v := .bool false) rfl rfl (run_pick (b := true) rfl rfl rfl) <| ?_
       simp only [q2,q3]
       refine WN ?_
       change Code.wp _ _ _ _ _
       refine wp_cond_false rfl ?_
       refine wp_skip ?_
       change Code.wp _ _ _ _ _
       refine wp_seq ?_
       -- region 21
       refine wp_schedE E ([0, 3, 1, 2, 4, 5, 6, 7, 8, 9, 10, 11, 12, 13, 14, 15]) (by kernel_rfl) (by kernel_rfl) (by kernel_rfl) (by kernel_rfl) (by intro d v c a w h; cases d <;> exact h) ?_
       replace E := E.drew
       refine SW rfl rfl rfl rfl rfl (fun w hS => run_load_bx AgR rfl rfl (e6 hS) rfl) <| SW rfl rfl rfl rfl rfl (fun w hS => run_load_bx AgR rfl rfl (e10 hS) rfl) <| ?_
       simp only [q2,q3]
       refine S1a (o := ⟨some 107, _, _, _, _, _⟩) rfl rfl rfl rfl (Oper.wp_callN fn_rational_Sign rfl (Sign_q _ _ _ _ c _ (e8 E) (e7 E)) rfl E ?_)
       clear E
       intro w92 d92 E
       clear d92
       refine ⟨E, ?_⟩
       simp only [Act.put,q1,q2,q3]
       refine SW rfl rfl rfl rfl rfl (fun w hS => run_eqI (c := false) rfl rfl rfl (sgn_ne0 (num_ne hc0))) <| ?_
       simp only [q2,q3]
       refine S1a (o := ⟨some 110, _, _, _, _, _⟩) rfl rfl rfl rfl (Oper.wp_callN fn_rational_Sign rfl (Sign_q _ _ _ _ x _ (e14 E) (e13 E)) rfl E ?_)
       clear E
       intro w93 d93 E
       clear d93
       refine ⟨E, ?_⟩
       simp only [Act.put,q1,q2,q3]
       refine SW rfl rfl rfl rfl rfl (fun w hS => run_leI (c := false) rfl rfl rfl (sgnQ_nle hlo)) <| SM rfl rfl rfl rfl rfl rfl rfl rfl <| ?_
       refine S0 (o := ⟨some 113, _, _, _, _, _⟩) rfl rfl (E) ?_
       simp only [Act.put,q1,q2,q3]
       refine S0 (o := ⟨some 114, _, _, _, _, _⟩) rfl rfl (E) ?_
       simp only [Act.put,q1,q2,q3]
       refine S0 (o := ⟨some 115, _, _, _, _, _⟩) rfl rfl (E) ?_
       simp only [Act.put,q1,q2,q3]
       refine SW (v := .bool false) rfl rfl rfl rfl rfl (fun w hS => run_pick (b := false) rfl rfl rfl) <| SW rfl rfl rfl rfl rfl (fun w hS => run_eqB (a := false) (b := false) (c := true) rfl Try.underlying4 rfl rfl rfl) <| ?_
       simp only [q2,q3]
       refine SM rfl rfl rfl rfl rfl rfl rfl rfl <| SM rfl rfl rfl (by kernel_rfl) rfl rfl rfl rfl <| SW (v := .bool true) rfl rfl rfl rfl rfl (fun w hS => run_pick (b := true) rfl rfl rfl) <| SA rfl rfl rfl rfl rfl rfl rfl rfl <| ?_
       simp only [q2,q3]
       refine SN ?_
       change Code.wp _ _ _ _ _
       refine wp_ret ?_
       exact bodyPost_ret (v := .bool true) (by simp [results, Try.results7, asAddr]) rfl ⟨rfl, e16 E⟩
      case neg =>
       -- region 19
       refine RL ?_
       refine V rfl rfl (run_load_bx AgR rfl rfl (E.1) rfl) <| ?_
       simp only [q2,q3]
       refine EF rfl (Oper.wp_callB fn_rational_Valid rfl (Valid_r _ _ _ _ (c - (Rat.divInt (sgn c.num) ((c.den : Nat) : Int))) _ (E.2.2.1) (E.2.1) (FitQ.mono F76 (by decide))) rfl E ?_)
       clear E
       intro w94 d94 E
       clear d94
       refine kw rfl ?_
       refine M rfl rfl rfl rfl rfl <| V (by kernel_rfl) rfl (run_load_bx AgR rfl rfl (e6 E) rfl) <| ?_
       simp only [q2,q3]
       refine EF rfl (Oper.wp_callN fn_rational_Sign rfl (Sign_q _ _ _ _ c _ (e8 E) (e7 E)) rfl E ?_)
       clear E
       intro w95 d95 E
       clear d95
       refine kw rfl ?_
       refine V (by kernel_rfl) rfl (run_neI (c := true) rfl rfl rfl (bne_sgn (num_ne hc0))) <| V (v := .bool true) rfl rfl (run_pick (b := true) rfl rfl rfl) <| M rfl rfl rfl rfl rfl <| V (by kernel_rfl) rfl (run_load_bx AgR rfl rfl (e10 E) rfl) <| ?_
       simp only [q2,q3]
       refine V (by kernel_rfl) rfl (run_load_bx AgR rfl rfl (E.1) rfl) <| ?_
       simp only [q2,q3]
       refine EF rfl (Oper.wp_callN fn_rational_Cmp rfl (Cmp_q _ _ _ _ x _ _ _ _ (c - (Rat.divInt (sgn c.num) ((c.den : Nat) : Int))) _ (e14 E) (e13 E) (E.2.2.1) (E.2.1) (FitQ.mono Fx (by decide)) (FitQ.mono F76 (by decide))) rfl E ?_)
       clear E
       intro w96 d96 E
       clear d96
       refine kw rfl ?_
       refine V (by kernel_rfl) rfl (run_leI (c := false) rfl rfl rfl (cmpQ_nle0 hnl)) <| V (v := .bool false) rfl rfl (run_pick (b := true) rfl rfl rfl) <| M rfl rfl rfl rfl rfl <| L0C (by kernel_rfl) rfl <| ?_
       simp only [q2,q3]
       refine L0C (by kernel_rfl) rfl <| L0C (by kernel_rfl) rfl <| L0C (by kernel_rfl) rfl <| V (v := .bool false) rfl rfl (run_pick (b := false) rfl rfl rfl) <| ?_
       simp only [q2,q3]
       refine WN ?_
       change Code.wp _ _ _ _ _
       refine wp_cond_false rfl ?_
       refine wp_skip ?_
       change Code.wp _ _ _ _ _
       refine wp_seq ?_
       -- region 21
       refine wp_schedE E ([0, 3, 1, 2, 4, 5, 6, 7, 8, 9, 10, 11, 12, 13, 14, 15]) (by kernel_rfl) (by kernel_rfl) (by kernel_rfl) (by kernel_rfl) (by intro d v c a w h; cases d <;> exact h) ?_
       replace E := E.drew
       refine SW rfl rfl rfl rfl rfl (fun w hS => run_load_bx AgR rfl rfl (e6 hS) rfl) <| SW rfl rfl rfl rfl rfl (fun w hS => run_load_bx AgR rfl rfl (e10 hS) rfl) <| ?_
       simp only [q2,q3]
       refine S1a (o := ⟨some 107, _, _, _, _, _⟩) rfl rfl rfl rfl (Oper.wp_callN fn_rational_Sign rfl (Sign_q _ _ _ _ c _ (e8 E) (e7 E)) rfl E ?_)
       clear E
       intro w97 d97 E
       clear d97
       refine ⟨E, ?_⟩
       simp only [Act.put,q1,q2,q3]
       refine SW rfl rfl rfl rfl rfl (fun w hS => run_eqI (c := false) rfl rfl rfl (sgn_ne0 (num_ne hc0))) <| ?_
       simp only [q2,q3]
       refine S1a (o := ⟨some 110, _, _, _, _, _⟩) rfl rfl rfl rfl (Oper.wp_callN fn_rational_Sign rfl (Sign_q _ _ _ _ x _ (e14 E) (e13 E)) rfl E ?_)
       clear E
       intro w98 d98 E
       clear d98
       refine ⟨E, ?_⟩
       simp only [Act.put,q1,q2,q3]
       refine SW rfl rfl rfl rfl rfl (fun w hS => run_leI (c := false) rfl rfl rfl (sgnQ_nle hlo)) <| SM rfl rfl rfl rfl rfl rfl rfl rfl <| ?_
       refine S0 (o := ⟨some 113, _, _, _, _, _⟩) rfl rfl (E) ?_
       simp only [Act.put,q1,q2,q3]
       refine S0 (o := ⟨some 114, _, _, _, _, _⟩) rfl rfl (E) ?_
       simp only [Act.put,q1,q2,q3]
       refine S0 (o := ⟨some 115, _, _, _, _, _⟩) rfl rfl (E) ?_
       simp only [Act.put,q1,q2,q3]
       refine SW (v := .bool false) rfl rfl rfl rfl rfl (fun w hS => run_pick (b := false) rfl rfl rfl) <| SW rfl rfl rfl rfl rfl (fun w hS => run_eqB (a := false) (b := false) (c := true) rfl Try.underlying4 rfl rfl rfl) <| ?_
       simp only [q2,q3]
       refine SM rfl rfl rfl rfl rfl rfl rfl rfl <| SM rfl rfl rfl (by kernel_rfl) rfl rfl rfl rfl <| SW (v := .bool true) rfl rfl rfl rfl rfl (fun w hS => run_pick (b := true) rfl rfl rfl) <| SA rfl rfl rfl rfl rfl rfl rfl rfl <| ?_
       simp only [q2,q3]
       refine SN ?_
       change Code.wp _ _ _ _ _
       refine wp_ret ?_
       exact bodyPost_ret (v := .bool true) (by simp [results, Try.results7, asAddr]) rfl ⟨rfl, e16 E⟩
     case neg =>
      have hhi : y < 0 := Decidable.by_contra fun g => hc0 (hc.nz hlo g)
      by_cases hnl : x ≤ (c - (Rat.divInt (sgn c.num) ((c.den : Nat) : Int)))
      case pos =>
       -- region 19
       refine RL ?_
       refine V rfl rfl (run_load_bx AgR rfl rfl (E.1) rfl) <| ?_
       simp only [q2,q3]
       refine EF rfl (Oper.wp_callB fn_rational_Valid rfl (Valid_r _ _ _ _ (c - (Rat.divInt (sgn c.num) ((c.den : Nat) : Int))) _ (E.2.2.1) (E.2.1) (FitQ.mono F76 (by decide))) rfl E ?_)
       clear E
       intro w99 d99 E
       clear d99
       refine kw rfl ?_
       refine M rfl rfl rfl rfl rfl <| V (by kernel_rfl) rfl (run_load_bx AgR rfl rfl (e6 E) rfl) <| ?_
       simp only [q2,q3]
       refine EF rfl (Oper.wp_callN fn_rational_Sign rfl (Sign_q _ _ _ _ c _ (e8 E) (e7 E)) rfl E ?_)
       clear E
       intro w100 d100 E
       clear d100
       refine kw rfl ?_
       refine V (by kernel_rfl) rfl (run_neI (c := true) rfl rfl rfl (bne_sgn (num_ne hc0))) <| V (v := .bool true) rfl rfl (run_pick (b := true) rfl rfl rfl) <| M rfl rfl rfl rfl rfl <| V (by kernel_rfl) rfl (run_load_bx AgR rfl rfl (e10 E) rfl) <| ?_
       simp only [q2,q3]
       refine V (by kernel_rfl) rfl (run_load_bx AgR rfl rfl (E.1) rfl) <| ?_
       simp only [q2,q3]
       refine EF rfl (Oper.wp_callN fn_rational_Cmp rfl (Cmp_q _ _ _ _ x _ _ _ _ (c - (Rat.divInt (sgn c.num) ((c.den : Nat) : Int))) _ (e14 E) (e13 E) (E.2.2.1) (E.2.1) (FitQ.mono Fx (by decide)) (FitQ.mono F76 (by decide))) rfl E ?_)
       clear E
       intro w101 d101 E
       clear d101
       refine kw rfl ?_
       refine V (by kernel_rfl) rfl (run_leI (c := true) rfl rfl rfl (cmpQ_le0 hnl)) <| V (v := .bool true) rfl rfl (run_pick (b := true) rfl rfl rfl) <| M rfl rfl rfl rfl rfl <| V (by kernel_rfl) rfl (run_load_bx AgR rfl rfl (E.1) rfl) <| ?_
       simp only [q2,q3]
       refine V (by kernel_rfl) rfl (run_load_bx AgR rfl rfl (e9 E) rfl) <| ?_
       simp only [q2,q3]
       refine EF rfl (Oper.wp_callN fn_rational_Cmp rfl (Cmp_q _ _ _ _ (c - (Rat.divInt (sgn c.num) ((c.den : Nat) : Int))) _ _ _ _ y _ (E.2.2.1) (E.2.1) (e12 E) (e11 E) (FitQ.mono F76 (by decide)) (FitQ.mono Fy (by decide))) rfl E ?_)
       clear E
       intro w102 d102 E
       clear d102
       refine kw rfl ?_
       refine V (by kernel_rfl) rfl (run_leI (c := false) rfl rfl rfl (cmpQ_nle0 (hc.next hc0 hnl))) <| V (v := .bool false) rfl rfl (run_pick (b := true) rfl rfl rfl) <| ?_
       simp only [q2,q3]
       refine WN ?_
       change Code.wp _ _ _ _ _
       refine wp_cond_false rfl ?_
       refine wp_skip ?_
       change Code.wp _ _ _ _ _
       refine wp_seq ?_
       -- region 21
       refine wp_schedE E ([0, 3, 1, 2, 4, 5, 6, 7, 8, 9, 10, 11, 12, 13, 14, 15]) (by kernel_rfl) (by kernel_rfl) (by kernel_rfl) (by kernel_rfl) (by intro d v c a w h; cases d <;> exact h) ?_
       replace E := E.drew
       refine SW rfl rfl rfl rfl rfl (fun w hS => run_load_bx AgR rfl rfl (e6 hS) rfl) <| SW rfl rfl rfl rfl rfl (fun w hS => run_load_bx AgR rfl rfl (e10 hS) rfl) <| ?_
       simp only [q2,q3]
       refine S1a (o := ⟨some 107, _, _, _, _, _⟩) rfl rfl rfl rfl (Oper.wp_callN fn_rational_Sign rfl (Sign_q _ _ _ _ c _ (e8 E) (e7 E)) rfl E ?_)
       clear E
       intro w103 d103 E
       clear d103
       refine ⟨E, ?_⟩
       simp only [Act.put,q1,q2,q3]
       refine SW rfl rfl rfl rfl rfl (fun w hS => run_eqI (c := false) rfl rfl rfl (sgn_ne0 (num_ne hc0))) <| ?_
       simp only [q2,q3]
       refine S1a (o := ⟨some 110, _, _, _, _, _⟩) rfl rfl rfl rfl (Oper.wp_callN fn_rational_Sign rfl (Sign_q _ _ _ _ x _ (e14 E) (e13 E)) rfl E ?_)
       clear E
       intro w104 d104 E
       clear d104
       refine ⟨E, ?_⟩
       simp only [Act.put,q1,q2,q3]
       refine SW rfl rfl rfl rfl rfl (fun w hS => run_leI (c := true) rfl rfl rfl (sgnQ_le hlo)) <| SM rfl rfl rfl rfl rfl rfl rfl rfl <| SW rfl rfl rfl (by kernel_rfl) rfl (fun w hS => run_load_bx AgR rfl rfl (e9 hS) rfl) <| ?_
       simp only [q2,q3]
       refine S1a (o := ⟨some 114, _, _, _, _, _⟩) rfl rfl rfl rfl (Oper.wp_callN fn_rational_Sign rfl (Sign_q _ _ _ _ y _ (e12 E) (e11 E)) rfl E ?_)
       clear E
       intro w105 d105 E
       clear d105
       refine ⟨E, ?_⟩
       simp only [Act.put,q1,q2,q3]
       refine SW rfl rfl rfl (by kernel_rfl) rfl (fun w hS => run_geI (c := false) rfl rfl rfl (sgnQ_nge hhi)) <| SW (v := .bool false) rfl rfl rfl rfl rfl (fun w hS => run_pick (b := true) rfl rfl rfl) <| SW rfl rfl rfl rfl rfl (fun w hS => run_eqB (a := false) (b := false) (c := true) rfl Try.underlying4 rfl rfl rfl) <| SM rfl rfl rfl rfl rfl rfl rfl rfl <| ?_
       simp only [q2,q3]
       refine SM rfl rfl rfl (by kernel_rfl) rfl rfl rfl rfl <| SW (v := .bool true) rfl rfl rfl rfl rfl (fun w hS => run_pick (b := true) rfl rfl rfl) <| SA rfl rfl rfl rfl rfl rfl rfl rfl <| ?_
       simp only [q2,q3]
       refine SN ?_
       change Code.wp _ _ _ _ _
       refine wp_ret ?_
       exact bodyPost_ret (v := .bool true) (by simp [results, Try.results7, asAddr]) rfl ⟨rfl, e16 E⟩
      case neg =>
       -- region 19
       refine RL ?_
       refine V rfl rfl (run_load_bx AgR rfl rfl (E.1) rfl) <| ?_
       simp only [q2,q3]
       refine EF rfl (Oper.wp_callB fn_rational_Valid rfl (Valid_r _ _ _ _ (c - (Rat.divInt (sgn c.num) ((c.den : Nat) : Int))) _ (E.2.2.1) (E.2.1) (FitQ.mono F76 (by decide))) rfl E ?_)
       clear E
       intro w106 d106 E
       clear d106
       refine kw rfl ?_
       refine M rfl rfl rfl rfl rfl <| V (by kernel_rfl) rfl (run_load_bx AgR rfl rfl (e6 E) rfl) <| ?_
       simp only [q2,q3]
       refine EF rfl (Oper.wp_callN fn_rational_Sign rfl (Sign_q _ _ _ _ c _ (e8 E) (e7 E)) rfl E ?_)
       clear E
       intro w107 d107 E
       clear d107
       refine kw rfl ?_
       refine V (by kernel_rfl) rfl (run_neI (c := true) rfl rfl rfl (bne_sgn (num_ne hc0))) <| V (v := .bool true) rfl rfl (run_pick (b := true) rfl rfl rfl) <| M rfl rfl rfl rfl rfl <| V (by kernel_rfl) rfl (run_load_bx AgR rfl rfl (e10 E) rfl) <| ?_
       simp only [q2,q3]
       refine V (by kernel_rfl) rfl (run_load_bx AgR rfl rfl (E.1) rfl) <| ?_
       simp only [q2,q3]
       refine EF rfl (Oper.wp_callN fn_rational_Cmp rfl (Cmp_q _ _ _ _ x _ _ _ _ (c - (Rat.divInt (sgn c.num) ((c.den : Nat) : Int))) _ (e14 E) (e13 E) (E.2.2.1) (E.2.1) (FitQ.mono Fx (by decide)) (FitQ.mono F76 (by decide))) rfl E ?_)
       clear E
       intro w108 d108 E
       clear d108
       refine kw rfl ?_
       refine V (by kernel_rfl) rfl (run_leI (c := false) rfl rfl rfl (cmpQ_nle0 hnl)) <| V (v := .bool false) rfl rfl (run_pick (b := true) rfl rfl rfl) <| M rfl rfl rfl rfl rfl <| L0C (by kernel_rfl) rfl <| ?_
       simp only [q2,q3]
       refine L0C (by kernel_rfl) rfl <| L0C (by kernel_rfl) rfl <| L0C (by kernel_rfl) rfl <| V (v := .bool false) rfl rfl (run_pick (b := false) rfl rfl rfl) <| ?_
       simp only [q2,q3]
       refine WN ?_
       change Code.wp _ _ _ _ _
       refine wp_cond_false rfl ?_
       refine wp_skip ?_
       change Code.wp _ _ _ _ _
       refine wp_seq ?_
       -- region 21
       refine wp_schedE E ([0, 3, 1, 2, 4, 5, 6, 7, 8, 9, 10, 11, 12, 13, 14, 15]) (by kernel_rfl) (by kernel_rfl) (by kernel_rfl) (by kernel_rfl) (by intro d v c a w h; cases d <;> exact h) ?_
       replace E := E.drew
       refine SW rfl rfl rfl rfl rfl (fun w hS => run_load_bx AgR rfl rfl (e6 hS) rfl) <| SW rfl rfl rfl rfl rfl (fun w hS => run_load_bx AgR rfl rfl (e10 hS) rfl) <| ?_
       simp only [q2,q3]
       refine S1a (o := ⟨some 107, _, _, _, _, _⟩) rfl rfl rfl rfl (Oper.wp_callN fn_rational_Sign rfl (Sign_q _ _ _ _ c _ (e8 E) (e7 E)) rfl E ?_)
       clear E
       intro w109 d109 E
       clear d109
       refine ⟨E, ?_⟩
       simp only [Act.put,q1,q2,q3]
       refine SW rfl rfl rfl rfl rfl (fun w hS => run_eqI (c := false) rfl rfl rfl (sgn_ne0 (num_ne hc0))) <| ?_
       simp only [q2,q3]
       refine S1a (o := ⟨some 110, _, _, _, _, _⟩) rfl rfl rfl rfl (Oper.wp_callN fn_rational_Sign rfl (Sign_q _ _ _ _ x _ (e14 E) (e13 E)) rfl E ?_)
       clear E
       intro w110 d110 E
       clear d110
       refine ⟨E, ?_⟩
       simp only [Act.put,q1,q2,q3]
       refine SW rfl rfl rfl rfl rfl (fun w hS => run_leI (c := true) rfl rfl rfl (sgnQ_le hlo)) <| SM rfl rfl rfl rfl rfl rfl rfl rfl <| SW rfl rfl rfl (by kernel_rfl) rfl (fun w hS => run_load_bx AgR rfl rfl (e9 hS) rfl) <| ?_
       simp only [q2,q3]
       refine S1a (o := ⟨some 114, _, _, _, _, _⟩) rfl rfl rfl rfl (Oper.wp_callN fn_rational_Sign rfl (Sign_q _ _ _ _ y _ (e12 E) (e11 E)) rfl E ?_)
       clear E
       intro w111 d111 E
       clear d111
       refine ⟨E, ?_⟩
       simp only [Act.put,q1,q2,q3]
       refine SW rfl rfl rfl (by kernel_rfl) rfl (fun w hS => run_geI (c := false) rfl rfl rfl (sgnQ_nge hhi)) <| SW (v := .bool false) rfl rfl rfl rfl rfl (fun w hS => run_pick (b := true) rfl rfl rfl) <| SW rfl rfl rfl rfl rfl (fun w hS => run_eqB (a := false) (b := false) (c := true) rfl Try.underlying4 rfl rfl rfl) <| SM rfl rfl rfl rfl rfl rfl rfl rfl <| ?_
       simp only [q2,q3]
       refine SM rfl rfl rfl (by kernel_rfl) rfl rfl rfl rfl <| SW (v := .bool true) rfl rfl rfl rfl rfl (fun w hS => run_pick (b := true) rfl rfl rfl) <| SA rfl rfl rfl rfl rfl rfl rfl rfl <| ?_
       simp only [q2,q3]
       refine SN ?_
       change Code.wp _ _ _ _ _
       refine wp_ret ?_
       exact bodyPost_ret (v := .bool true) (by simp [results, Try.results7, asAddr]) rfl ⟨rfl, e16 E⟩
 case neg =>
  have hle : y ≤ x := Rat.le_of_lt (Rat.not_le.1 hxy)
  -- region 5
  refine RL ?_
  refine V rfl rfl (run_load_bx AgR rfl rfl (E.2.1) rfl) <| V rfl rfl (run_load_bx AgR rfl rfl (E.1) rfl) <| ?_
  simp only [q2,q3]
  refine EF rfl (Oper.wp_callN fn_rational_Cmp rfl (Cmp_q _ _ _ _ x _ _ _ _ y _ (e5 E) (e4 E) (e3 E) (E.2.2.1) (FitQ.mono Fx (by decide)) (FitQ.mono Fy (by decide))) rfl E ?_)
  clear E
  intro w112 d112 E
  clear d112
  refine kw rfl ?_
  refine V rfl rfl (run_gtI (c := true) rfl rfl rfl (cmpQ_gt0 hxy)) <| ?_
  simp only [q2,q3]
  refine WN ?_
  change Code.wp _ _ _ _ _
  refine wp_cond_true rfl ?_
  refine wp_seq ?_
  -- region 6
  refine RL ?_
  refine V rfl rfl (run_load_bx AgR rfl rfl (E.2.1) rfl) <| V rfl rfl (run_load_bx AgR rfl rfl (E.1) rfl) <| ?_
  simp only [q2,q3]
  refine EF rfl (Oper.wp_callPE fn_rational_Between rfl (Between_gt _ _ _ _ x _ _ _ _ y _ (e5 E) (e4 E) (e3 E) (E.2.2.1) hxy (FitQ.mono Fx (by decide)) (FitQ.mono Fy (by decide))) rfl E ?_)
  clear E
  intro w113 n113 s113 m113 t113 d113 E
  clear d113
  refine kw rfl ?_
  refine M rfl rfl rfl rfl rfl <| V rfl rfl (run_extract (vs := [.agg #[.bool n113, s113, .bool m113, t113], .int .i64 1]) rfl rfl rfl) <| V rfl rfl (run_extract (vs := [.agg #[.bool n113, s113, .bool m113, t113], .int .i64 1]) rfl rfl rfl) <| ?_
  simp only [q2,q3]
  refine EF rfl (Oper.wp_alloc AgR rfl ?_)
  intro b114 w114 e114 z114 d114 x114
  have l114_0 : b9 < b114 := by rw [e114]; exact Bx.lt (E.2.2.1)
  have l114_1 : b8 < b114 := by rw [e114]; exact Bx.lt (e3 E)
  replace E := E.below d114
  clear e114 z114 d114
  refine kw rfl ?_
  simp only [q2,q3]
  refine EF rfl (Oper.wp_store AgR rfl rfl rfl x114 rfl rfl (one4 (IsI.one (E.2.1)) (IsI.one (E.1))) ?_)
  intro w115 o115 y115
  replace E := (E.onl (x114.noW (now4 now0 now0)) ⟨trivial, trivial, okX (by omega), okX (by omega), trivial, trivial, trivial, trivial, okX (by omega), okW (by omega), trivial⟩ o115).x y115
  clear x114 o115 y115
  refine kn rfl ?_
  refine A rfl rfl rfl rfl rfl <| ?_
  simp only [q2,q3]
  refine WN ?_
  change Code.wp _ _ _ _ _
  refine wp_seq ?_
  refine wp_seq ?_
  -- region 7
  refine RL ?_
  refine V rfl rfl (run_load_bx AgR rfl rfl (E.1) rfl) <| M rfl rfl rfl rfl rfl <| ?_
  simp only [q2,q3]
  refine EF rfl (Oper.wp_callB fn_elaw02_fails rfl (fails_t 1 _ _ _ _ 0 0 _ (E.2.2.1) (E.2.1) rfl rfl) rfl E ?_)
  clear E
  intro w116 d116 E
  clear d116
  refine kw rfl ?_
  refine V (v := .bool false) rfl rfl (run_not (b := true) rfl rfl) <| ?_
  simp only [q2,q3]
  refine WN ?_
  change Code.wp _ _ _ _ _
  refine wp_cond_false rfl ?_
  refine wp_skip ?_
  change Code.wp _ _ _ _ _
  -- region 9
  refine RL ?_
  refine V rfl rfl (run_load_bx AgR rfl rfl (e3 E) rfl) <| V rfl rfl (run_load_bx AgR rfl rfl (e4 E) rfl) <| ?_
  have x118 := e4 E
  replace E := ((((E.2.2.2.2.2).x (e3 E)).i (E.2.2.1)).i (E.2.1)).x (E.1)
  simp only [q2,q3]
  refine EF rfl (Oper.wp_store AgR rfl rfl rfl x118 rfl rfl (one4 (IsI.one (e5 E)) (IsI.one (e4 E))) ?_)
  intro w117 o117 y117
  replace E := (E.onl (x118.noW (now4 (IsI.now (e7 E)) (IsI.now (e6 E)))) ⟨okX (by omega), trivial, trivial, okX (by omega), trivial, trivial, trivial, trivial, okX (by omega), okW (by omega), trivial⟩ o117).x y117
  clear x118 o117 y117
  refine kn rfl ?_
  have x120 := e4 E
  replace E := ((((E.2.2.2.2.2).i (e3 E)).i (E.2.2.1)).x (E.2.1)).x (E.1)
  refine EF rfl (Oper.wp_store AgR rfl rfl rfl x120 rfl rfl (one4 (IsI.one (e7 E)) (IsI.one (e6 E))) ?_)
  intro w119 o119 y119
  replace E := (E.onl (x120.noW (now4 (IsI.now (e5 E)) (IsI.now (e4 E)))) ⟨okX (by omega), okX (by omega), trivial, trivial, trivial, trivial, trivial, trivial, okX (by omega), okW (by omega), trivial⟩ o119).x y119
  clear x120 o119 y119
  refine kn rfl ?_
  refine WN ?_
  change Code.wp _ _ _ _ _
  refine wp_seq ?_
  -- region 10
  refine RL ?_
  refine V rfl rfl (run_load_bx AgR rfl rfl (E.2.1) rfl) <| V rfl rfl (run_load_bx AgR rfl rfl (E.1) rfl) <| ?_
  simp only [q2,q3]
  refine EF rfl (Oper.wp_callBt fn_rational_Between rfl (Between_le _ _ _ _ y _ _ _ _ x _ (e6 E) (e5 E) (e8 E) (e7 E) hle (FitQ.mono Fy (by decide)) (FitQ.mono Fx (by decide))) rfl E ?_)
  clear E
  rintro w121 c n121 s121 m121 t121 hc d121 E
  clear d121
  have Fc : FitQ c 20 := hc.fit hle Fy
  refine kw rfl ?_
  refine M rfl rfl rfl rfl rfl <| V rfl rfl (run_extract (vs := [.agg #[.bool n121, s121, .bool m121, t121], .int .i64 0]) rfl rfl rfl) <| V rfl rfl (run_extract (vs := [.agg #[.bool n121, s121, .bool m121, t121], .int .i64 0]) rfl rfl rfl) <| ?_
  simp only [q2,q3]
  refine EF rfl (Oper.wp_alloc AgR rfl ?_)
  intro b122 w122 e122 z122 d122 x122
  have l122_0 : b114 < b122 := by rw [e122]; exact Bx.lt (e4 E)
  replace E := E.below d122
  clear e122 z122 d122
  refine kw rfl ?_
  simp only [q2,q3]
  refine EF rfl (Oper.wp_store AgR rfl rfl rfl x122 rfl rfl (one4 (IsI.one (E.2.1)) (IsI.one (E.1))) ?_)
  intro w123 o123 y123
  replace E := (E.onl (x122.noW (now4 now0 now0)) ⟨trivial, trivial, okX (by omega), okX (by omega), okX (by omega), trivial, trivial, trivial, trivial, trivial, trivial, okX (by omega), okW (by omega), trivial⟩ o123).x y123
  clear x122 o123 y123
  refine kn rfl ?_
  refine A rfl rfl rfl rfl rfl <| ?_
  simp only [q2,q3]
  refine WN ?_
  change Code.wp _ _ _ _ _
  refine wp_seq ?_
  refine wp_seq ?_
  -- region 11
  refine RL ?_
  refine M rfl rfl rfl rfl rfl <| V rfl rfl (run_neI (c := false) rfl rfl rfl (by decide)) <| M rfl rfl rfl rfl rfl <| V (by kernel_rfl) rfl (run_load_bx AgR rfl rfl (E.1) rfl) <| ?_
  simp only [q2,q3]
  refine EF rfl (Oper.wp_callB fn_rational_Valid rfl (Valid_r _ _ _ _ c _ (E.2.2.1) (E.2.1) (FitQ.mono Fc (by decide))) rfl E ?_)
  clear E
  intro w124 d124 E
  clear d124
  refine kw rfl ?_
  refine V (v := .bool false) (by kernel_rfl) rfl (run_not (b := true) rfl rfl) <| V (v := .bool false) rfl rfl (run_pick (b := false) rfl rfl rfl) <| M rfl rfl rfl rfl rfl <| V (by kernel_rfl) rfl (run_load_bx AgR rfl rfl (e4 E) rfl) <| ?_
  simp only [q2,q3]
  refine V (by kernel_rfl) rfl (run_load_bx AgR rfl rfl (E.1) rfl) <| ?_
  simp only [q2,q3]
  refine EF rfl (Oper.wp_callN fn_rational_Cmp rfl (Cmp_q _ _ _ _ y _ _ _ _ c _ (e9 E) (e8 E) (E.2.2.1) (E.2.1) (FitQ.mono Fy (by decide)) (FitQ.mono Fc (by decide))) rfl E ?_)
  clear E
  intro w125 d125 E
  clear d125
  refine kw rfl ?_
  refine V (by kernel_rfl) rfl (run_gtI (c := false) rfl rfl rfl (cmpQ_ngt0 (hc.lo hle))) <| V (v := .bool false) rfl rfl (run_pick (b := false) rfl rfl rfl) <| M rfl rfl rfl rfl rfl <| V (by kernel_rfl) rfl (run_load_bx AgR rfl rfl (E.1) rfl) <| ?_
  simp only [q2,q3]
  refine V (by kernel_rfl) rfl (run_load_bx AgR rfl rfl (e3 E) rfl) <| ?_
  simp only [q2,q3]
  refine EF rfl (Oper.wp_callN fn_rational_Cmp rfl (Cmp_q _ _ _ _ c _ _ _ _ x _ (E.2.2.1) (E.2.1) (e11 E) (e10 E) (FitQ.mono Fc (by decide)) (FitQ.mono Fx (by decide))) rfl E ?_)
  clear E
  intro w126 d126 E
  clear d126
  refine kw rfl ?_
  refine V (by kernel_rfl) rfl (run_gtI (c := false) rfl rfl rfl (cmpQ_ngt0 (hc.hi hle))) <| V (v := .bool false) rfl rfl (run_pick (b := false) rfl rfl rfl) <| ?_
  simp only [q2,q3]
  refine WN ?_
  change Code.wp _ _ _ _ _
  refine wp_cond_false rfl ?_
  refine wp_skip ?_
  change Code.wp _ _ _ _ _
  refine wp_seq ?_
  refine wp_seq ?_
  -- region 13
  refine RL ?_
  refine AC rfl rfl rfl rfl <| ?_
  simp only [q2,q3]
  refine WN ?_
  change Code.wp _ _ _ _ _
  refine wp_block ?_
  refine wp_loop_ghost (fun mz a w' => ∃ (d : Int) (g2 g62 g63 g64 g65 g66 g67 g68 g69 g70 g71 g72 g73 g74 g75 g76 g77 g78 : Value), a = ⟨#[.agg #[.int .i8 ca0, .int .i8 cb0, .int .u8 ((ck0 : Nat) : Int), .int .i8 ca1, .int .i8 cb1, .int .u8 ((ck1 : Nat) : Int)], .pointer (some ⟨b1, 0, none⟩), g2, .bool true, .pointer (some ⟨b8, 0, none⟩), .pointer (some ⟨b9, 0, none⟩), .pointer (some ⟨b114, 0, none⟩), .int .i64 1, .pointer (some ⟨b122, 0, none⟩), .int .i64 0, .int .i64 d, undef, .bool true, .bool true, .bool false, .pointer (some ⟨b1, 0 + 0 * 3, none⟩), .agg #[.int .i8 ca0, .int .i8 cb0, .int .u8 ((ck0 : Nat) : Int)], .agg #[.bool n4, s4, .bool m4, t4], .pointer (some ⟨b1, 0 + 1 * 3, none⟩), .agg #[.int .i8 ca1, .int .i8 cb1, .int .u8 ((ck1 : Nat) : Int)], .agg #[.bool n6, s6, .bool m6, t6], .agg #[.bool n4, s4, .bool m4, t4], .agg #[.bool n6, s6, .bool m6, t6], .int .i64 (cmpQ x y), .bool true, .tuple #[.agg #[.bool n113, s113, .bool m113, t113], .int .i64 1], .agg #[.bool n4, s4, .bool m4, t4], .agg #[.bool n6, s6, .bool m6, t6], .tuple #[.agg #[.bool n113, s113, .bool m113, t113], .int .i64 1], .agg #[.bool n113, s113, .bool m113, t113], .int .i64 1, .agg #[.bool n113, s113, .bool m113, t113], .int .i64 1, .bool true, .bool false, .agg #[.bool n6, s6, .bool m6, t6], .agg #[.bool n4, s4, .bool m4, t4], .tuple #[.agg #[.bool n121, s121, .bool m121, t121], .int .i64 0], .agg #[.bool n6, s6, .bool m6, t6], .agg #[.bool n4, s4, .bool m4, t4], .tuple #[.agg #[.bool n121, s121, .bool m121, t121], .int .i64 0], .agg #[.bool n121, s121, .bool m121, t121], .int .i64 0, .int .i64 0, .bool false, .bool false, .agg #[.bool n121, s121, .bool m121, t121], .bool true, .bool false, .bool false, .bool false, .agg #[.bool n6, s6, .bool m6, t6], .agg #[.bool n121, s121, .bool m121, t121], .int .i64 (cmpQ y c), .bool false, .bool false, .bool false, .agg #[.bool n121, s121, .bool m121, t121], .agg #[.bool n4, s4, .bool m4, t4], .int .i64 (cmpQ c x), .bool false, .bool false, g62, g63, g64, g65, g66, g67, g68, g69, g70, g71, g72, g73, g74, g75, g76, g77, g78, undef, undef, undef, undef, undef, undef, undef, undef, undef, undef, undef, undef, undef, undef, undef, undef, undef, undef, undef, undef, undef, undef, undef, undef, undef, undef, undef, undef, undef, undef, undef, undef, undef, undef, undef, undef, undef, undef, undef, undef, undef, undef], []⟩ ∧ Env w' [fX b122 (26) ([.bool n121, s121, .bool m121, t121]), fI (.agg #[.bool m121, t121]) ((c.den : Nat) : Int), fI (.agg #[.bool n121, s121]) c.num, fX b9 (26) ([.bool n4, s4, .bool m4, t4]), fX b8 (26) ([.bool n6, s6, .bool m6, t6]), fX b114 (26) ([.bool n113, s113, .bool m113, t113]), fI (.agg #[.bool m113, t113]) 0, fI (.agg #[.bool n113, s113]) 0, fI (.agg #[.bool m6, t6]) ((y.den : Nat) : Int), fI (.agg #[.bool n6, s6]) y.num, fI (.agg #[.bool m4, t4]) ((x.den : Nat) : Int), fI (.agg #[.bool n4, s4]) x.num, fX b1 (46) ([.int .i8 ca0, .int .i8 cb0, .int .u8 ((ck0 : Nat) : Int), .int .i8 ca1, .int .i8 cb1, .int .u8 ((ck1 : Nat) : Int)]), fW w] ∧ mz = (41 - d).toNat ∧ (1 ≤ d ∧ d ≤ 41)) (40) ⟨1, _, _, _, _, _, _, _, _, _, _, _, _, _, _, _, _, _, _, rfl, (Env.x (Env.i (Env.i (Env.x (Env.x (Env.x (Env.i (Env.i (Env.i (Env.i (Env.i (Env.i (Env.x (Env.ww (Env.nil _) (e13 E)) (e12 E)) (e11 E)) (e10 E)) (e9 E)) (e8 E)) (e7 E)) (e6 E)) (e5 E)) (e4 E)) (e3 E)) (E.2.2.1)) (E.2.1)) (E.1)), rfl, (by decide)⟩ ?_
  rintro m127 _ w127 ⟨d, g2, g62, g63, g64, g65, g66, g67, g68, g69, g70, g71, g72, g73, g74, g75, g76, g77, g78, rfl, E, hm127, hI127⟩
  obtain ⟨hI1, hI2⟩ := hI127
  by_cases h40 : 40 < d
  case pos =>
   refine wp_seq ?_
   refine wp_seq ?_
   -- region 14
   refine wp_schedE E ([0, 1, 2, 3, 5, 6, 4, 7, 8, 9]) (by kernel_rfl) (by kernel_rfl) (by kernel_rfl) (by kernel_rfl) (by intro d v c a w h; cases d <;> exact h) ?_
   replace E := E.drew
   refine SM rfl rfl rfl rfl rfl rfl rfl rfl <| SW rfl rfl rfl rfl rfl (fun w hS => run_leI (c := false) rfl rfl rfl (by rw [decide_eq_false_iff_not]; omega)) <| SM rfl rfl rfl rfl rfl rfl rfl rfl <| ?_
   refine S0 (o := ⟨some 65, _, _, _, _, _⟩) rfl rfl (E) ?_
   simp only [Act.put,q1,q2,q3]
   refine S0 (o := ⟨some 67, _, _, _, _, _⟩) rfl rfl (E) ?_
   simp only [Act.put,q1,q2,q3]
   refine S0 (o := ⟨some 68, _, _, _, _, _⟩) rfl rfl (E) ?_
   simp only [Act.put,q1,q2,q3]
   refine S0 (o := ⟨some 66, _, _, _, _, _⟩) rfl rfl (E) ?_
   simp only [Act.put,q1,q2,q3]
   refine S0 (o := ⟨some 69, _, _, _, _, _⟩) rfl rfl (E) ?_
   simp only [Act.put,q1,q2,q3]
   refine S0 (o := ⟨some 70, _, _, _, _, _⟩) rfl rfl (E) ?_
   simp only [Act.put,q1,q2,q3]
   refine SW (v := .bool false) rfl rfl rfl rfl rfl (fun w hS => run_pick (b := false) rfl rfl rfl) <| ?_
   simp only [q2,q3]
   refine SN ?_
   change Code.wp _ _ _ _ _
   refine wp_cond_false rfl ?_
   refine wp_exit ?_
   change Code.wp _ _ _ _ _
   refine wp_seq ?_
   replace E := E.i (eqZ (z' := (((Rat.divInt (sgn c.num) ((c.den : Nat) : Int)).den : Nat) : Int)) (vq_div (sgn_vq c)).2.symm (E.2.1))
   have FX1 : FitQ (Rat.divInt (sgn c.num) ((c.den : Nat) : Int)) 20 := FitQ_low (den_ne c) (Fits_of64 (sgn_lo _) (sgn_hi _) |>.mono (by decide)) Fc.2
   -- region 18
   have hB128_0 : b122 < w127.drew.heap.size := Bx.lt (E.2.1)
   refine wp_schedF E [.op 0, .op 1, .op 4, .op 5, .av 8, .op 2, .op 3, .op 6, .op 7, .op 8] 1 (#[true, true, true, true, true, true, true, true, true, false]) (by kernel_rfl) (by kernel_rfl) (by kernel_rfl) (by kernel_rfl) (by intro d v c a w h; cases d <;> exact h) (by intro d v c a w h; cases d <;> exact h) ?_
   refine FP (v := .agg #[.bool n121, s121, .bool m121, t121]) rfl rfl rfl rfl rfl (fun w hS => run_load_bx AgR rfl rfl (hS.2.1) rfl) <| FP (v := .agg #[.bool n121, s121, .bool m121, t121]) rfl rfl rfl rfl rfl (fun w hS => run_load_bx AgR rfl rfl (hS.2.1) rfl) <| FP (v := .pointer (some ⟨b122, 2, none⟩)) rfl rfl rfl rfl rfl (fun w hS => run_fieldR1 rfl rfl) <| FP (v := .agg #[.bool m121, t121]) rfl rfl rfl rfl rfl (fun w hS => run_loadAt rfl rfl (hS.2.1) rfl rfl) <| FA _ (RunF.alloc AgR rfl rfl rfl) <| ?_
   simp only [q2,q3]
   clear E
   refine FE rfl rfl rfl rfl ?_
   intro w130 E
   refine Oper.wp_callN fn_rational_Sign rfl (Sign_q _ _ _ _ c _ (e3 E) (E.2.2.1)) rfl E ?_
   clear E
   intro w129 d129 E
   refine kF d129 E rfl ?_
   simp only [q2,q3]
   clear E
   refine FE rfl rfl rfl rfl ?_
   intro w132 E
   refine Oper.wp_callI fn_integer_Of rfl ((Of_z (sgn c.num) _ (sgn_lo _) (sgn_hi _)).mono fun _ _ h => RetZ_eq (z' := (Rat.divInt (sgn c.num) ((c.den : Nat) : Int)).num) h (vq_div (sgn_vq c)).1.symm) rfl E ?_
   clear E
   intro w131 n131 s131 d131 E
   refine kF d131 E rfl ?_
   refine FP (v := .agg #[.bool n131, s131, .bool m121, t121]) rfl rfl rfl rfl rfl (fun w hS => run_buildR rfl rfl rfl) <| ?_
   simp only [q2,q3]
   clear E
   refine FE rfl rfl rfl rfl ?_
   intro w135 E
   refine Oper.wp_callP fn_rational_Sub rfl (Sub_q _ _ _ _ c _ _ _ _ (Rat.divInt (sgn c.num) ((c.den : Nat) : Int)) _ (e4 E) (e3 E) (E.1) (E.2.1) (FitQ.mono Fc (by decide)) (FitQ.mono FX1 (by decide))) rfl E ?_
   clear E
   intro w134 n134 s134 m134 t134 d134 E
   refine kF d134 E rfl ?_
   have F133 : FitQ (c - (Rat.divInt (sgn c.num) ((c.den : Nat) : Int))) 41 := FitQ_sub Fc FX1
   simp only [q2,q3]
   refine FF rfl rfl ?_
   intro b136 f136 u136
   have l136_0 : b122 < b136 := by omega
   simp only [q2,q3]
   clear E
   intro w137 E
   refine H1 (i := 9) (by kernel_rfl) ?_
   have x139 := E.1
   replace E := E.2
   refine HE (o := ⟨none, _, _, _, _, _⟩) rfl rfl (Oper.wp_store AgR rfl rfl rfl x139 rfl rfl (one4 (IsI.one (E.2.1)) (IsI.one (E.1))) ?_)
   intro w138 o138 y138
   replace E := (E.onl (x139.noW (now4 now0 now0)) ⟨trivial, trivial, trivial, trivial, okX (by omega), trivial, trivial, okX (by omega), okX (by omega), okX (by omega), trivial, trivial, trivial, trivial, trivial, trivial, okX (by omega), okW (by omega), trivial⟩ o138).x y138
   clear x139 o138 y138
   refine ⟨E.2.2.2.2, ?_⟩
   simp only [Act.put]
   refine HN (by kernel_rfl) ?_
   change Code.wp _ _ _ _ _
   refine wp_seq ?_
   refine wp_seq ?_
   by_cases hc0 : c = 0
   case pos =>
    have hz := hc.zero hle hc0
    -- region 19
    refine RL ?_
    refine V rfl rfl (run_load_bx AgR rfl rfl (E.1) rfl) <| ?_
    simp only [q2,q3]
    refine EF rfl (Oper.wp_callB fn_rational_Valid rfl (Valid_r _ _ _ _ (c - (Rat.divInt (sgn c.num) ((c.den : Nat) : Int))) _ (E.2.2.1) (E.2.1) (FitQ.mono F133 (by decide))) rfl E ?_)
    clear E
    intro w140 d140 E
    clear d140
    refine kw rfl ?_
    refine M rfl rfl rfl rfl rfl <| V (by kernel_rfl) rfl (run_load_bx AgR rfl rfl (e5 E) rfl) <| ?_
    simp only [q2,q3]
    refine EF rfl (Oper.wp_callN fn_rational_Sign rfl (Sign_q _ _ _ _ c _ (e7 E) (e6 E)) rfl E ?_)
    clear E
    intro w141 d141 E
    clear d141
    refine kw rfl ?_
    refine V (by kernel_rfl) rfl (run_neI (c := false) rfl rfl rfl (by rw [hc0]; rfl)) <| V (v := .bool false) rfl rfl (run_pick (b := true) rfl rfl rfl) <| M rfl rfl rfl rfl rfl <| L0C (by kernel_rfl) rfl <| ?_
    simp only [q2,q3]
    refine L0C (by kernel_rfl) rfl <| L0C (by kernel_rfl) rfl <| L0C (by kernel_rfl) rfl <| V (v := .bool false) rfl rfl (run_pick (b := false) rfl rfl rfl) <| ?_
    simp only [q2,q3]
    refine M rfl rfl rfl rfl rfl <| L0C (by kernel_rfl) rfl <| L0C (by kernel_rfl) rfl <| L0C (by kernel_rfl) rfl <| ?_
    simp only [q2,q3]
    refine L0C (by kernel_rfl) rfl <| V (v := .bool false) rfl rfl (run_pick (b := false) rfl rfl rfl) <| ?_
    simp only [q2,q3]
    refine WN ?_
    change Code.wp _ _ _ _ _
    refine wp_cond_false rfl ?_
    refine wp_skip ?_
    change Code.wp _ _ _ _ _
    refine wp_seq ?_
    -- region 21
    refine wp_schedE E ([0, 3, 1, 2, 4, 5, 6, 7, 8, 9, 10, 11, 12, 13, 14, 15]) (by kernel_rfl) (by kernel_rfl) (by kernel_rfl) (by kernel_rfl) (by intro d v c a w h; cases d <;> exact h) ?_
    replace E := E.drew
    refine SW rfl rfl rfl rfl rfl (fun w hS => run_load_bx AgR rfl rfl (e5 hS) rfl) <| SW rfl rfl rfl rfl rfl (fun w hS => run_load_bx AgR rfl rfl (e9 hS) rfl) <| ?_
    simp only [q2,q3]
    refine S1a (o := ⟨some 107, _, _, _, _, _⟩) rfl rfl rfl rfl (Oper.wp_callN fn_rational_Sign rfl (Sign_q _ _ _ _ c _ (e7 E) (e6 E)) rfl E ?_)
    clear E
    intro w142 d142 E
    clear d142
    refine ⟨E, ?_⟩
    simp only [Act.put,q1,q2,q3]
    refine SW rfl rfl rfl rfl rfl (fun w hS => run_eqI (c := true) rfl rfl rfl (by rw [hc0]; rfl)) <| ?_
    simp only [q2,q3]
    refine S1a (o := ⟨some 110, _, _, _, _, _⟩) rfl rfl rfl rfl (Oper.wp_callN fn_rational_Sign rfl (Sign_q _ _ _ _ y _ (e14 E) (e13 E)) rfl E ?_)
    clear E
    intro w143 d143 E
    clear d143
    refine ⟨E, ?_⟩
    simp only [Act.put,q1,q2,q3]
    refine SW rfl rfl rfl rfl rfl (fun w hS => run_leI (c := true) rfl rfl rfl (sgnQ_le hz.1)) <| SM rfl rfl rfl rfl rfl rfl rfl rfl <| SW rfl rfl rfl (by kernel_rfl) rfl (fun w hS => run_load_bx AgR rfl rfl (e8 hS) rfl) <| ?_
    simp only [q2,q3]
    refine S1a (o := ⟨some 114, _, _, _, _, _⟩) rfl rfl rfl rfl (Oper.wp_callN fn_rational_Sign rfl (Sign_q _ _ _ _ x _ (e16 E) (e15 E)) rfl E ?_)
    clear E
    intro w144 d144 E
    clear d144
    refine ⟨E, ?_⟩
    simp only [Act.put,q1,q2,q3]
    refine SW rfl rfl rfl (by kernel_rfl) rfl (fun w hS => run_geI (c := true) rfl rfl rfl (sgnQ_ge hz.2)) <| SW (v := .bool true) rfl rfl rfl rfl rfl (fun w hS => run_pick (b := true) rfl rfl rfl) <| SW rfl rfl rfl rfl rfl (fun w hS => run_eqB (a := true) (b := true) (c := true) rfl Try.underlying4 rfl rfl rfl) <| SM rfl rfl rfl rfl rfl rfl rfl rfl <| ?_
    simp only [q2,q3]
    refine SM rfl rfl rfl (by kernel_rfl) rfl rfl rfl rfl <| SW (v := .bool true) rfl rfl rfl rfl rfl (fun w hS => run_pick (b := true) rfl rfl rfl) <| SA rfl rfl rfl rfl rfl rfl rfl rfl <| ?_
    simp only [q2,q3]
    refine SN ?_
    change Code.wp _ _ _ _ _
    refine wp_ret ?_
    exact bodyPost_ret (v := .bool true) (by simp [results, Try.results7, asAddr]) rfl ⟨rfl, e18 E⟩
   case neg =>
    by_cases hlo : 0 < y
    case pos =>
     by_cases hnl : y ≤ (c - (Rat.divInt (sgn c.num) ((c.den : Nat) : Int)))
     case pos =>
      -- region 19
      refine RL ?_
      refine V rfl rfl (run_load_bx AgR rfl rfl (E.1) rfl) <| ?_
      simp only [q2,q3]
      refine EF rfl (Oper.wp_callB fn_rational_Valid rfl (Valid_r _ _ _ _ (c - (Rat.divInt (sgn c.num) ((c.den : Nat) : Int))) _ (E.2.2.1) (E.2.1) (FitQ.mono F133 (by decide))) rfl E ?_)
      clear E
      intro w145 d145 E
      clear d145
      refine kw rfl ?_
      refine M rfl rfl rfl rfl rfl <| V (by kernel_rfl) rfl (run_load_bx AgR rfl rfl (e5 E) rfl) <| ?_
      simp only [q2,q3]
      refine EF rfl (Oper.wp_callN fn_rational_Sign rfl (Sign_q _ _ _ _ c _ (e7 E) (e6 E)) rfl E ?_)
      clear E
      intro w146 d146 E
      clear d146
      refine kw rfl ?_
      refine V (by kernel_rfl) rfl (run_neI (c := true) rfl rfl rfl (bne_sgn (num_ne hc0))) <| V (v := .bool true) rfl rfl (run_pick (b := true) rfl rfl rfl) <| M rfl rfl rfl rfl rfl <| V (by kernel_rfl) rfl (run_load_bx AgR rfl rfl (e9 E) rfl) <| ?_
      simp only [q2,q3]
      refine V (by kernel_rfl) rfl (run_load_bx AgR rfl rfl (E.1) rfl) <| ?_
      simp only [q2,q3]
      refine EF rfl (Oper.wp_callN fn_rational_Cmp rfl (Cmp_q _ _ _ _ y _ _ _ _ (c - (Rat.divInt (sgn c.num) ((c.den : Nat) : Int))) _ (e14 E) (e13 E) (E.2.2.1) (E.2.1) (FitQ.mono Fy (by decide)) (FitQ.mono F133 (by decide))) rfl E ?_)
      clear E
      intro w147 d147 E
      clear d147
      refine kw rfl ?_
      refine V (by kernel_rfl) rfl (run_leI (c := true) rfl rfl rfl (cmpQ_le0 hnl)) <| V (v := .bool true) rfl rfl (run_pick (b := true) rfl rfl rfl) <| M rfl rfl rfl rfl rfl <| V (by kernel_rfl) rfl (run_load_bx AgR rfl rfl (E.1) rfl) <| ?_
      simp only [q2,q3]
      refine V (by kernel_rfl) rfl (run_load_bx AgR rfl rfl (e8 E) rfl) <| ?_
      simp only [q2,q3]
      refine EF rfl (Oper.wp_callN fn_rational_Cmp rfl (Cmp_q _ _ _ _ (c - (Rat.divInt (sgn c.num) ((c.den : Nat) : Int))) _ _ _ _ x _ (E.2.2.1) (E.2.1) (e16 E) (e15 E) (FitQ.mono F133 (by decide)) (FitQ.mono Fx (by decide))) rfl E ?_)
      clear E
      intro w148 d148 E
      clear d148
      refine kw rfl ?_
      refine V (by kernel_rfl) rfl (run_leI (c := false) rfl rfl rfl (cmpQ_nle0 (hc.next hc0 hnl))) <| V (v := .bool false) rfl rfl (run_pick (b := true) rfl rfl rfl) <| ?_
      simp only [q2,q3]
      refine WN ?_
      change Code.wp _ _ _ _ _
      refine wp_cond_false rfl ?_
      refine wp_skip ?_
      change Code.wp _ _ _ _ _
      refine wp_seq ?_
      -- region 21
      refine wp_schedE E ([0, 3, 1, 2, 4, 5, 6, 7, 8, 9, 10, 11, 12, 13, 14, 15]) (by kernel_rfl) (by kernel_rfl) (by kernel_rfl) (by kernel_rfl) (by intro d v c a w h; cases d <;> exact h) ?_
      replace E := E.drew
      refine SW rfl rfl rfl rfl rfl (fun w hS => run_load_bx AgR rfl rfl (e5 hS) rfl) <| SW rfl rfl rfl rfl rfl (fun w hS => run_load_bx AgR rfl rfl (e9 hS) rfl) <| ?_
      simp only [q2,q3]
      refine S1a (o := ⟨some 107, _, _, _, _, _⟩) rfl rfl rfl rfl (Oper.wp_callN fn_rational_Sign rfl (Sign_q _ _ _ _ c _ (e7 E) (e6 E)) rfl E ?_)
      clear E
      intro w149 d149 E
      clear d149
      refine ⟨E, ?_⟩
      simp only [Act.put,q1,q2,q3]
      refine SW rfl rfl rfl rfl rfl (fun w hS => run_eqI (c := false) rfl rfl rfl (sgn_ne0 (num_ne hc0))) <| ?_
      simp only [q2,q3]
      refine S1a (o := ⟨some 110, _, _, _, _, _⟩) rfl rfl rfl rfl (Oper.wp_callN fn_rational_Sign rfl (Sign_q _ _ _ _ y _ (e14 E) (e13 E)) rfl E ?_)
      clear E
      intro w150 d150 E
      clear d150
      refine ⟨E, ?_⟩
      simp only [Act.put,q1,q2,q3]
      refine SW rfl rfl rfl rfl rfl (fun w hS => run_leI (c := false) rfl rfl rfl (sgnQ_nle hlo)) <| SM rfl rfl rfl rfl rfl rfl rfl rfl <| ?_
      refine S0 (o := ⟨some 113, _, _, _, _, _⟩) rfl rfl (E) ?_
      simp only [Act.put,q1,q2,q3]
      refine S0 (o := ⟨some 114, _, _, _, _, _⟩) rfl rfl (E) ?_
      simp only [Act.put,q1,q2,q3]
      refine S0 (o := ⟨some 115, _, _, _, _, _⟩) rfl rfl (E) ?_
      simp only [Act.put,q1,q2,q3]
      refine SW (v := .bool false) rfl rfl rfl rfl rfl (fun w hS => run_pick (b := false) rfl rfl rfl) <| SW rfl rfl rfl rfl rfl (fun w hS => run_eqB (a := false) (b := false) (c := true) rfl Try.underlying4 rfl rfl rfl) <| ?_
      simp only [q2,q3]
      refine SM rfl rfl rfl rfl rfl rfl rfl rfl <| SM rfl rfl rfl (by kernel_rfl) rfl rfl rfl rfl <| SW (v := .bool true) rfl rfl rfl rfl rfl (fun w hS => run_pick (b := true) rfl rfl rfl) <| SA rfl rfl rfl rfl rfl rfl rfl rfl <| ?_
      simp only [q2,q3]
      refine SN ?_
      change Code.wp _ _ _ _ _
      refine wp_ret ?_
      exact bodyPost_ret (v := .bool true) (by simp [results, Try.results7, asAddr]) rfl ⟨rfl, e18 E⟩
     case neg =>
      -- region 19
      refine RL ?_
      refine V rfl rfl (run_load_bx AgR rfl rfl (E.1) rfl) <| ?_
      simp only [q2,q3]
      refine EF rfl (Oper.wp_callB fn_rational_Valid rfl (Valid_r _ _ _ _ (c - (Rat.divInt (sgn c.num) ((c.den : Nat) : Int))) _ (E.2.2.1) (E.2.1) (FitQ.mono F133 (by decide))) rfl E ?_)
      clear E
      intro w151 d151 E
      clear d151
      refine kw rfl ?_
      refine M rfl rfl rfl rfl rfl <| V (by kernel_rfl) rfl (run_load_bx AgR rfl rfl (e5 E) rfl) <| ?_
      simp only [q2,q3]
      refine EF rfl (Oper.wp_callN fn_rational_Sign rfl (Sign_q _ _ _ _ c _ (e7 E) (e6 E)) rfl E ?_)
      clear E
      intro w152 d152 E
      clear d152
      refine kw rfl ?_
      refine V (by kernel_rfl) rfl (run_neI (c := true) rfl rfl rfl (bne_sgn (num_ne hc0))) <| V (v := .bool true) rfl rfl (run_pick (b := true) rfl rfl rfl) <| M rfl rfl rfl rfl rfl <| V (by kernel_rfl) rfl (run_load_bx AgR rfl rfl (e9 E) rfl) <| ?_
      simp only [q2,q3]
      refine V (by kernel_rfl) rfl (run_load_bx AgR rfl rfl (E.1) rfl) <| ?_
      simp only [q2,q3]
      refine EF rfl (Oper.wp_callN fn_rational_Cmp rfl (Cmp_q _ _ _ _ y _ _ _ _ (c - (Rat.divInt (sgn c.num) ((c.den : Nat) : Int))) _ (e14 E) (e13 E) (E.2.2.1) (E.2.1) (FitQ.mono Fy (by decide)) (FitQ.mono F133 (by decide))) rfl E ?_)
      clear E
      intro w153 d153 E
      clear d153
      refine kw rfl ?_
      refine V (by kernel_rfl) rfl (run_leI (c := false) rfl rfl rfl (cmpQ_nle0 hnl)) <| V (v := .bool false) rfl rfl (run_pick (b := true) rfl rfl rfl) <| M rfl rfl rfl rfl rfl <| L0C (by kernel_rfl) rfl <| ?_
      simp only [q2,q3]
      refine L0C (by kernel_rfl) rfl <| L0C (by kernel_rfl) rfl <| L0C (by kernel_rfl) rfl <| V (v := .bool false) rfl rfl (run_pick (b := false) rfl rfl rfl) <| ?_
      simp only [q2,q3]
      refine WN ?_
      change Code.wp _ _ _ _ _
      refine wp_cond_false rfl ?_
      refine wp_skip ?_
      change Code.wp _ _ _ _ _
      refine wp_seq ?_
      -- region 21
      refine wp_schedE E ([0, 3, 1, 2, 4, 5, 6, 7, 8, 9, 10, 11, 12, 13, 14, 15]) (by kernel_rfl) (by kernel_rfl) (by kernel_rfl) (by kernel_rfl) (by intro d v c a w h; cases d <;> exact h) ?_
      replace E := E.drew
      refine SW rfl rfl rfl rfl rfl (fun w hS => run_load_bx AgR rfl rfl (e5 hS) rfl) <| SW rfl rfl rfl rfl rfl (fun w hS => run_load_bx AgR rfl rfl (e9 hS) rfl) <| ?_
      simp only [q2,q3]
      refine S1a (o := ⟨some 107, _, _, _, _, _⟩) rfl rfl rfl rfl (Oper.wp_callN fn_rational_Sign rfl (Sign_q _ _ _ _ c _ (e7 E) (e6 E)) rfl E ?_)
      clear E
      intro w154 d154 E
      clear d154
      refine ⟨E, ?_⟩
      simp only [Act.put,q1,q2,q3]
      refine SW rfl rfl rfl rfl rfl (fun w hS => run_eqI (c := false) rfl rfl rfl (sgn_ne0 (num_ne hc0))) <| ?_
      simp only [q2,q3]
      refine S1a (o := ⟨some 110, _, _, _, _, _⟩) rfl rfl rfl rfl (Oper.wp_callN fn_rational_Sign rfl (Sign_q _ _ _ _ y _ (e14 E) (e13 E)) rfl E ?_)
      clear E
      intro w155 d155 E
      clear d155
      refine ⟨E, ?_⟩
      simp only [Act.put,q1,q2,q3]
      refine SW rfl rfl rfl rfl rfl (fun w hS => run_leI (c := false) rfl rfl rfl (sgnQ_nle hlo)) <| SM rfl rfl rfl rfl rfl rfl rfl rfl <| ?_
      refine S0 (o := ⟨some 113, _, _, _, _, _⟩) rfl rfl (E) ?_
      simp only [Act.put,q1,q2,q3]
      refine S0 (o := ⟨some 114, _, _, _, _, _⟩) rfl rfl (E) ?_
      simp only [Act.put,q1,q2,q3]
      refine S0 (o := ⟨some 115, _, _, _, _, _⟩) rfl rfl (E) ?_
      simp only [Act.put,q1,q2,q3]
      refine SW (v := .bool false) rfl rfl rfl rfl rfl (fun w hS => run_pick (b := false) rfl rfl rfl) <| SW rfl rfl rfl rfl rfl (fun w hS => run_eqB (a := false) (b := false) (c := true) rfl Try.underlying4 rfl rfl rfl) <| ?_
      simp only [q2,q3]
      refine SM rfl rfl rfl rfl rfl rfl rfl rfl <| SM rfl rfl rfl (by kernel_rfl) rfl rfl rfl rfl <| SW (v := .bool true) rfl rfl rfl rfl rfl (fun w hS => run_pick (b := true) rfl rfl rfl) <| SA rfl rfl rfl rfl rfl rfl rfl rfl <| ?_
      simp only [q2,q3]
      refine SN ?_
      change Code.wp _ _ _ _ _
      refine wp_ret ?_
      exact bodyPost_ret (v := .bool true) (by simp [results, Try.results7, asAddr]) rfl ⟨rfl, e18 E⟩
    case neg =>
     have hhi : x < 0 := Decidable.by_contra fun g => hc0 (hc.nz hlo g)
     by_cases hnl : y ≤ (c - (Rat.divInt (sgn c.num) ((c.den : Nat) : Int)))
     case pos =>
      -- region 19
      refine RL ?_
      refine V rfl rfl (run_load_bx AgR rfl rfl (E.1) rfl) <| ?_
      simp only [q2,q3]
      refine EF rfl (Oper.wp_callB fn_rational_Valid rfl (Valid_r _ _ _ _ (c - (Rat.divInt (sgn c.num) ((c.den : Nat) : Int))) _ (E.2.2.1) (E.2.1) (FitQ.mono F133 (by decide))) rfl E ?_)
      clear E
      intro w156 d156 E
      clear d156
      refine kw rfl ?_
      refine M rfl rfl rfl rfl rfl <| V (by kernel_rfl) rfl (run_load_bx AgR rfl rfl (e5 E) rfl) <| ?_
      simp only [q2,q3]
      refine EF rfl (Oper.wp_callN fn_rational_Sign rfl (Sign_q _ _ _ _ c _ (e7 E) (e6 E)) rfl E ?_)
      clear E
      intro w157 d157 E
      clear d157
      refine kw rfl ?_
      refine V (by kernel_rfl) rfl (run_neI (c := true) rfl rfl rfl (bne_sgn (num_ne hc0))) <| V (v := .bool true) rfl rfl (run_pick (b := true) rfl rfl rfl) <| M rfl rfl rfl rfl rfl <| V (by kernel_rfl) rfl (run_load_bx AgR rfl rfl (e9 E) rfl) <| ?_
      simp only [q2,q3]
      refine V (by kernel_rfl) rfl (run_load_bx AgR rfl rfl (E.1) rfl) <| ?_
      simp only [q2,q3]
      refine EF rfl (Oper.wp_callN fn_rational_Cmp rfl (Cmp_q _ _ _ _ y _ _ _ _ (c - (Rat.divInt (sgn c.num) ((c.den : Nat) : Int))) _ (e14 E) (e13 E) (E.2.2.1) (E.2.1) (FitQ.mono Fy (by decide)) (FitQ.mono F133 (by decide))) rfl E ?_)
      clear E
      intro w158 d158 E
      clear d158
      refine kw rfl ?_
      refine V (by kernel_rfl) rfl (run_leI (c := true) rfl rfl rfl (cmpQ_le0 hnl)) <| V (v := .bool true) rfl rfl (run_pick (b := true) rfl rfl rfl) <| M rfl rfl rfl rfl rfl <| V (by kernel_rfl) rfl (run_load_bx AgR rfl rfl (E.1) rfl) <| ?_
      simp only [q2,q3]
      refine V (by kernel_rfl) rfl (run_load_bx AgR rfl rfl (e8 E) rfl) <| ?_
      simp only [q2,q3]
      refine EF rfl (Oper.wp_callN fn_rational_Cmp rfl (Cmp_q _ _ _ _ (c - (Rat.divInt (sgn c.num) ((c.den : Nat) : Int))) _ _ _ _ x _ (E.2.2.1) (E.2.1) (e16 E) (e15 E) (FitQ.mono F133 (by decide)) (FitQ.mono Fx (by decide))) rfl E ?_)
      clear E
      intro w159 d159 E
      clear d159
      refine kw rfl ?_
      refine V (by kernel_rfl) rfl (run_leI (c := false) rfl rfl rfl (cmpQ_nle0 (hc.next hc0 hnl))) <| V (v := .bool false) rfl rfl (run_pick (b := true) rfl rfl rfl) <| ?_
      simp only [q2,q3]
      refine WN ?_
      change Code.wp _ _ _ _ _
      refine wp_cond_false rfl ?_
      refine wp_skip ?_
      change Code.wp _ _ _ _ _
      refine wp_seq ?_
      -- region 21
      refine wp_schedE E ([0, 3, 1, 2, 4, 5, 6, 7, 8, 9, 10, 11, 12, 13, 14, 15]) (by kernel_rfl) (by kernel_rfl) (by kernel_rfl) (by kernel_rfl) (by intro d v c a w h; cases d <;> exact h) ?_
      replace E := E.drew
      refine SW rfl rfl rfl rfl rfl (fun w hS => run_load_bx AgR rfl rfl (e5 hS) rfl) <| SW rfl rfl rfl rfl rfl (fun w hS => run_load_bx AgR rfl rfl (e9 hS) rfl) <| ?_
      simp only [q2,q3]
      refine S1a (o := ⟨some 107, _, _, _, _, _⟩) rfl rfl rfl rfl (Oper.wp_callN fn_rational_Sign rfl (Sign_q _ _ _ _ c _ (e7 E) (e6 E)) rfl E ?_)
      clear E
      intro w160 d160 E
      clear d160
      refine ⟨E, ?_⟩
      simp only [Act.put,q1,q2,q3]
      refine SW rfl rfl rfl rfl rfl (fun w hS => run_eqI (c := false) rfl rfl rfl (sgn_ne0 (num_ne hc0))) <| ?_
      simp only [q2,q3]
      refine S1a (o := ⟨some 110, _, _, _, _, _⟩) rfl rfl rfl rfl (Oper.wp_callN fn_rational_Sign rfl (Sign_q _ _ _ _ y _ (e14 E) (e13 E)) rfl E ?_)
      clear E
      intro w161 d161 E
      clear d161
      refine ⟨E, ?_⟩
      simp only [Act.put,q1,q2,q3]
      refine SW rfl rfl rfl rfl rfl (fun w hS => run_leI (c := true) rfl rfl rfl (sgnQ_le hlo)) <| SM rfl rfl rfl rfl rfl rfl rfl rfl <| SW rfl rfl rfl (by kernel_rfl) rfl (fun w hS => run_load_bx AgR rfl rfl (e8 hS) rfl) <| ?_
      simp only [q2,q3]
      refine S1a (o := ⟨some 114, _, _, _, _, _⟩) rfl rfl rfl rfl (Oper.wp_callN fn_rational_Sign rfl (Sign_q _ _ _ _ x _ (e16 E) (e15 E)) rfl E ?_)
      clear E
      intro w162 d162 E
      clear d162
      refine ⟨E, ?_⟩
      simp only [Act.put,q1,q2,q3]
      refine SW rfl rfl rfl (by kernel_rfl) rfl (fun w hS => run_geI (c := false) rfl rfl rfl (sgnQ_nge hhi)) <| SW (v := .bool false) rfl rfl rfl rfl rfl (fun w hS => run_pick (b := true) rfl rfl rfl) <| SW rfl rfl rfl rfl rfl (fun w hS => run_eqB (a := false) (b := false) (c := true) rfl Try.underlying4 rfl rfl rfl) <| SM rfl rfl rfl rfl rfl rfl rfl rfl <| ?_
      simp only [q2,q3]
      refine SM rfl rfl rfl (by kernel_rfl) rfl rfl rfl rfl <| SW (v := .bool true) rfl rfl rfl rfl rfl (fun w hS => run_pick (b := true) rfl rfl rfl) <| SA rfl rfl rfl rfl rfl rfl rfl rfl <| ?_
      simp only [q2,q3]
      refine SN ?_
      change Code.wp _ _ _ _ _
      refine wp_ret ?_
      exact bodyPost_ret (v := .bool true) (by simp [results, Try.results7, asAddr]) rfl ⟨rfl, e18 E⟩
     case neg =>
      -- region 19
      refine RL ?_
      refine V rfl rfl (run_load_bx AgR rfl rfl (E.1) rfl) <| ?_
      simp only [q2,q3]
      refine EF rfl (Oper.wp_callB fn_rational_Valid rfl (Valid_r _ _ _ _ (c - (Rat.divInt (sgn c.num) ((c.den : Nat) : Int))) _ (E.2.2.1) (E.2.1) (FitQ.mono F133 (by decide))) rfl E ?_)
      clear E
      intro w163 d163 E
      clear d163
      refine kw rfl ?_
      refine M rfl rfl rfl rfl rfl <| V (by kernel_rfl) rfl (run_load_bx AgR rfl rfl (e5 E) rfl) <| ?_
      simp only [q2,q3]
      refine EF rfl (Oper.wp_callN fn_rational_Sign rfl (Sign_q _ _ _ _ c _ (e7 E) (e6 E)) rfl E ?_)
      clear E
      intro w164 d164 E
      clear d164
      refine kw rfl ?_
      refine V (by kernel_rfl) rfl (run_neI (c := true) rfl rfl rfl (bne_sgn (num_ne hc0))) <| V (v := .bool true) rfl rfl (run_pick (b := true) rfl rfl rfl) <| M rfl rfl rfl rfl rfl <| V (by kernel_rfl) rfl (run_load_bx AgR rfl rfl (e9 E) rfl) <| ?_
      simp only [q2,q3]
      refine V (by kernel_rfl) rfl (run_load_bx AgR rfl rfl (E.1) rfl) <| ?_
      simp only [q2,q3]
      refine EF rfl (Oper.wp_callN fn_rational_Cmp rfl (Cmp_q _ _ _ _ y _ _ _ _ (c - (Rat.divInt (sgn c.num) ((c.den : Nat) : Int))) _ (e14 E) (e13 E) (E.2.2.1) (E.2.1) (FitQ.mono Fy (by decide)) (FitQ.mono F133 (by decide))) rfl E ?_)
      clear E
      intro w165 d165 E
      clear d165
      refine kw rfl ?_
      refine V (by kernel_rfl) rfl (run_leI (c := false) rfl rfl rfl (cmpQ_nle0 hnl)) <| V (v := .bool false) rfl rfl (run_pick (b := true) rfl rfl rfl) <| M rfl rfl rfl rfl rfl <| L0C (by kernel_rfl) rfl <| ?_
      simp only [q2,q3]
      refine L0C (by kernel_rfl) rfl <| L0C (by kernel_rfl) rfl <| L0C (by kernel_rfl) rfl <| V (v := .bool false) rfl rfl (run_pick (b := false) rfl rfl rfl) <| ?_
      simp only [q2,q3]
      refine WN ?_
      change Code.wp _ _ _ _ _
      refine wp_cond_false rfl ?_
      refine wp_skip ?_
      change Code.wp _ _ _ _ _
      refine wp_seq ?_
      -- region 21
      refine wp_schedE E ([0, 3, 1, 2, 4, 5, 6, 7, 8, 9, 10, 11, 12, 13, 14, 15]) (by kernel_rfl) (by kernel_rfl) (by kernel_rfl) (by kernel_rfl) (by intro d v c a w h; cases d <;> exact h) ?_
      replace E := E.drew
      refine SW rfl rfl rfl rfl rfl (fun w hS => run_load_bx AgR rfl rfl (e5 hS) rfl) <| SW rfl rfl rfl rfl rfl (fun w hS => run_load_bx AgR rfl rfl (e9 hS) rfl) <| ?_
      simp only [q2,q3]
      refine S1a (o := ⟨some 107, _, _, _, _, _⟩) rfl rfl rfl rfl (Oper.wp_callN fn_rational_Sign rfl (Sign_q _ _ _ _ c _ (e7 E) (e6 E)) rfl E ?_)
      clear E
      intro w166 d166 E
      clear d166
      refine ⟨E, ?_⟩
      simp only [Act.put,q1,q2,q3]
      refine SW rfl rfl rfl rfl rfl (fun w hS => run_eqI (c := false) rfl rfl rfl (sgn_ne0 (num_ne hc0))) <| ?_
      simp only [q2,q3]
      refine S1a (o := ⟨some 110, _, _, _, _, _⟩) rfl rfl rfl rfl (Oper.wp_callN fn_rational_Sign rfl (Sign_q _ _ _ _ y _ (e14 E) (e13 E)) rfl E ?_)
      clear E
      intro w167 d167 E
      clear d167
      refine ⟨E, ?_⟩
      simp only [Act.put,q1,q2,q3]
      refine SW rfl rfl rfl rfl rfl (fun w hS => run_leI (c := true) rfl rfl rfl (sgnQ_le hlo)) <| SM rfl rfl rfl rfl rfl rfl rfl rfl <| SW rfl rfl rfl (by kernel_rfl) rfl (fun w hS => run_load_bx AgR rfl rfl (e8 hS) rfl) <| ?_
      simp only [q2,q3]
      refine S1a (o := ⟨some 114, _, _, _, _, _⟩) rfl rfl rfl rfl (Oper.wp_callN fn_rational_Sign rfl (Sign_q _ _ _ _ x _ (e16 E) (e15 E)) rfl E ?_)
      clear E
      intro w168 d168 E
      clear d168
      refine ⟨E, ?_⟩
      simp only [Act.put,q1,q2,q3]
      refine SW rfl rfl rfl (by kernel_rfl) rfl (fun w hS => run_geI (c := false) rfl rfl rfl (sgnQ_nge hhi)) <| SW (v := .bool false) rfl rfl rfl rfl rfl (fun w hS => run_pick (b := true) rfl rfl rfl) <| SW rfl rfl rfl rfl rfl (fun w hS => run_eqB (a := false) (b := false) (c := true) rfl Try.underlying4 rfl rfl rfl) <| SM rfl rfl rfl rfl rfl rfl rfl rfl <| ?_
      simp only [q2,q3]
      refine SM rfl rfl rfl (by kernel_rfl) rfl rfl rfl rfl <| SW (v := .bool true) rfl rfl rfl rfl rfl (fun w hS => run_pick (b := true) rfl rfl rfl) <| SA rfl rfl rfl rfl rfl rfl rfl rfl <| ?_
      simp only [q2,q3]
      refine SN ?_
      change Code.wp _ _ _ _ _
      refine wp_ret ?_
      exact bodyPost_ret (v := .bool true) (by simp [results, Try.results7, asAddr]) rfl ⟨rfl, e18 E⟩
  case neg =>
   by_cases hdc : d < ((c.den : Nat) : Int)
   case pos =>
    refine wp_seq ?_
    refine wp_seq ?_
    -- region 14
    refine wp_schedE E ([0, 1, 2, 3, 5, 6, 4, 7, 8, 9]) (by kernel_rfl) (by kernel_rfl) (by kernel_rfl) (by kernel_rfl) (by intro d v c a w h; cases d <;> exact h) ?_
    replace E := E.drew
    refine SM rfl rfl rfl rfl rfl rfl rfl rfl <| SW rfl rfl rfl rfl rfl (fun w hS => run_leI (c := true) rfl rfl rfl (by rw [decide_eq_true_eq]; omega)) <| SM rfl rfl rfl rfl rfl rfl rfl rfl <| SM rfl rfl rfl (by kernel_rfl) rfl rfl rfl rfl <| ?_
    simp only [q2,q3]
    refine SW rfl rfl rfl (by kernel_rfl) rfl (fun w hS => run_fieldR1 rfl rfl) <| SW rfl rfl rfl (by kernel_rfl) rfl (fun w hS => run_loadAt rfl rfl (hS.1) rfl rfl) <| ?_
    simp only [q2,q3]
    refine S1a (o := ⟨some 66, _, _, _, _, _⟩) rfl rfl rfl rfl (Oper.wp_callI fn_integer_Of rfl (Of_z d _ (by omega) (by omega)) rfl E ?_)
    clear E
    intro w170 n170 s170 d170 E
    clear d170
    refine ⟨E.2, ?_⟩
    simp only [Act.put,q1,q2,q3]
    have F169 : Fits d 4 := Fits_of64 (by omega) (by omega)
    refine S1a (o := ⟨some 69, _, _, _, _, _⟩) rfl rfl rfl rfl (Oper.wp_callN fn_integer_Cmp rfl (Cmp_z _ _ d ((c.den : Nat) : Int) _ (E.1) (E.2.2.1)) rfl E ?_)
    clear E
    intro w171 d171 E
    clear d171
    refine ⟨E.2, ?_⟩
    simp only [Act.put,q1,q2,q3]
    refine SW rfl rfl rfl (by kernel_rfl) rfl (fun w hS => run_ltI (c := true) rfl rfl rfl (cmpI_lt0' hdc)) <| SW (v := .bool true) rfl rfl rfl rfl rfl (fun w hS => run_pick (b := true) rfl rfl rfl) <| ?_
    simp only [q2,q3]
    refine SN ?_
    change Code.wp _ _ _ _ _
    refine wp_cond_true rfl ?_
    refine wp_skip ?_
    change Code.wp _ _ _ _ _
    refine wp_seq ?_
    refine wp_block ?_
    refine wp_seq ?_
    -- region 16
    refine RL ?_
    refine V rfl rfl (run_load_bx AgR rfl rfl (e5 E) rfl) <| V rfl rfl (run_load_bx AgR rfl rfl (e4 E) rfl) <| M rfl rfl rfl rfl rfl <| ?_
    simp only [q2,q3]
    refine EF rfl (Oper.wp_callB fn_elaw02_empty rfl (empty_t d _ _ _ _ y _ _ _ _ x _ (e10 E) (e9 E) (e12 E) (e11 E) hI1 (by omega) (hc.empty hI1 hdc) (FitQ.mono Fy (by decide)) (FitQ.mono Fx (by decide))) rfl E ?_)
    clear E
    intro w172 d172 E
    clear d172
    refine kw rfl ?_
    refine V (v := .bool false) rfl rfl (run_not (b := true) rfl rfl) <| ?_
    simp only [q2,q3]
    refine WN ?_
    change Code.wp _ _ _ _ _
    refine wp_cond_false rfl ?_
    refine wp_skip ?_
    change Code.wp _ _ _ _ _
    -- region 15
    refine RL ?_
    refine M rfl rfl rfl rfl rfl <| V (v := .int .i64 (d + 1)) rfl rfl (run_addI rfl rfl rfl (wrap_i (by omega))) <| A rfl rfl rfl rfl rfl <| ?_
    simp only [q2,q3]
    refine WN ?_
    exact ⟨_, (by rw [hm127]; omega), (d + 1), _, _, _, _, _, _, _, _, _, _, _, _, _, _, _, _, _, _, rfl, (Env.x (Env.i (Env.i (Env.x (Env.x (Env.x (Env.i (Env.i (Env.i (Env.i (Env.i (Env.i (Env.x (Env.ww (Env.nil _) (e14 E)) (e13 E)) (e12 E)) (e11 E)) (e10 E)) (e9 E)) (e8 E)) (e7 E)) (e6 E)) (e5 E)) (e4 E)) (e3 E)) (E.2.2.1)) (E.2.1)), rfl, ⟨by omega, by omega⟩⟩
   case neg =>
    refine wp_seq ?_
    refine wp_seq ?_
    -- region 14
    refine wp_schedE E ([0, 1, 2, 3, 5, 6, 4, 7, 8, 9]) (by kernel_rfl) (by kernel_rfl) (by kernel_rfl) (by kernel_rfl) (by intro d v c a w h; cases d <;> exact h) ?_
    replace E := E.drew
    refine SM rfl rfl rfl rfl rfl rfl rfl rfl <| SW rfl rfl rfl rfl rfl (fun w hS => run_leI (c := true) rfl rfl rfl (by rw [decide_eq_true_eq]; omega)) <| SM rfl rfl rfl rfl rfl rfl rfl rfl <| SM rfl rfl rfl (by kernel_rfl) rfl rfl rfl rfl <| ?_
    simp only [q2,q3]
    refine SW rfl rfl rfl (by kernel_rfl) rfl (fun w hS => run_fieldR1 rfl rfl) <| SW rfl rfl rfl (by kernel_rfl) rfl (fun w hS => run_loadAt rfl rfl (hS.1) rfl rfl) <| ?_
    simp only [q2,q3]
    refine S1a (o := ⟨some 66, _, _, _, _, _⟩) rfl rfl rfl rfl (Oper.wp_callI fn_integer_Of rfl (Of_z d _ (by omega) (by omega)) rfl E ?_)
    clear E
    intro w174 n174 s174 d174 E
    clear d174
    refine ⟨E.2, ?_⟩
    simp only [Act.put,q1,q2,q3]
    have F173 : Fits d 4 := Fits_of64 (by omega) (by omega)
    refine S1a (o := ⟨some 69, _, _, _, _, _⟩) rfl rfl rfl rfl (Oper.wp_callN fn_integer_Cmp rfl (Cmp_z _ _ d ((c.den : Nat) : Int) _ (E.1) (E.2.2.1)) rfl E ?_)
    clear E
    intro w175 d175 E
    clear d175
    refine ⟨E.2, ?_⟩
    simp only [Act.put,q1,q2,q3]
    refine SW rfl rfl rfl (by kernel_rfl) rfl (fun w hS => run_ltI (c := false) rfl rfl rfl (cmpI_nlt0' hdc)) <| SW (v := .bool false) rfl rfl rfl rfl rfl (fun w hS => run_pick (b := true) rfl rfl rfl) <| ?_
    simp only [q2,q3]
    refine SN ?_
    change Code.wp _ _ _ _ _
    refine wp_cond_false rfl ?_
    refine wp_exit ?_
    change Code.wp _ _ _ _ _
    refine wp_seq ?_
    replace E := E.i (eqZ (z' := (((Rat.divInt (sgn c.num) ((c.den : Nat) : Int)).den : Nat) : Int)) (vq_div (sgn_vq c)).2.symm (E.2.2.1))
    have FX1 : FitQ (Rat.divInt (sgn c.num) ((c.den : Nat) : Int)) 20 := FitQ_low (den_ne c) (Fits_of64 (sgn_lo _) (sgn_hi _) |>.mono (by decide)) Fc.2
    -- region 18
    have hB176_0 : b122 < w175.heap.size := Bx.lt (E.2.2.1)
    refine wp_schedF E [.op 0, .op 1, .op 4, .op 5, .av 8, .op 2, .op 3, .op 6, .op 7, .op 8] 1 (#[true, true, true, true, true, true, true, true, true, false]) (by kernel_rfl) (by kernel_rfl) (by kernel_rfl) (by kernel_rfl) (by intro d v c a w h; cases d <;> exact h) (by intro d v c a w h; cases d <;> exact h) ?_
    refine FP (v := .agg #[.bool n121, s121, .bool m121, t121]) rfl rfl rfl rfl rfl (fun w hS => run_load_bx AgR rfl rfl (hS.2.2.1) rfl) <| FP (v := .agg #[.bool n121, s121, .bool m121, t121]) rfl rfl rfl rfl rfl (fun w hS => run_load_bx AgR rfl rfl (hS.2.2.1) rfl) <| FP (v := .pointer (some ⟨b122, 2, none⟩)) rfl rfl rfl rfl rfl (fun w hS => run_fieldR1 rfl rfl) <| FP (v := .agg #[.bool m121, t121]) rfl rfl rfl rfl rfl (fun w hS => run_loadAt rfl rfl (hS.2.2.1) rfl rfl) <| FA _ (RunF.alloc AgR rfl rfl rfl) <| ?_
    simp only [q2,q3]
    clear E
    refine FE rfl rfl rfl rfl ?_
    intro w178 E
    refine Oper.wp_callN fn_rational_Sign rfl (Sign_q _ _ _ _ c _ (e4 E) (e3 E)) rfl E ?_
    clear E
    intro w177 d177 E
    refine kF d177 E rfl ?_
    simp only [q2,q3]
    clear E
    refine FE rfl rfl rfl rfl ?_
    intro w180 E
    refine Oper.wp_callI fn_integer_Of rfl ((Of_z (sgn c.num) _ (sgn_lo _) (sgn_hi _)).mono fun _ _ h => RetZ_eq (z' := (Rat.divInt (sgn c.num) ((c.den : Nat) : Int)).num) h (vq_div (sgn_vq c)).1.symm) rfl E ?_
    clear E
    intro w179 n179 s179 d179 E
    refine kF d179 E rfl ?_
    refine FP (v := .agg #[.bool n179, s179, .bool m121, t121]) rfl rfl rfl rfl rfl (fun w hS => run_buildR rfl rfl rfl) <| ?_
    simp only [q2,q3]
    clear E
    refine FE rfl rfl rfl rfl ?_
    intro w183 E
    refine Oper.wp_callP fn_rational_Sub rfl (Sub_q _ _ _ _ c _ _ _ _ (Rat.divInt (sgn c.num) ((c.den : Nat) : Int)) _ (e5 E) (e4 E) (E.1) (E.2.1) (FitQ.mono Fc (by decide)) (FitQ.mono FX1 (by decide))) rfl E ?_
    clear E
    intro w182 n182 s182 m182 t182 d182 E
    refine kF d182 E rfl ?_
    have F181 : FitQ (c - (Rat.divInt (sgn c.num) ((c.den : Nat) : Int))) 41 := FitQ_sub Fc FX1
    simp only [q2,q3]
    refine FF rfl rfl ?_
    intro b184 f184 u184
    have l184_0 : b122 < b184 := by omega
    simp only [q2,q3]
    clear E
    intro w185 E
    refine H1 (i := 9) (by kernel_rfl) ?_
    have x187 := E.1
    replace E := E.2
    refine HE (o := ⟨none, _, _, _, _, _⟩) rfl rfl (Oper.wp_store AgR rfl rfl rfl x187 rfl rfl (one4 (IsI.one (E.2.1)) (IsI.one (E.1))) ?_)
    intro w186 o186 y186
    replace E := (E.onl (x187.noW (now4 now0 now0)) ⟨trivial, trivial, trivial, trivial, trivial, okX (by omega), trivial, trivial, okX (by omega), okX (by omega), okX (by omega), trivial, trivial, trivial, trivial, trivial, trivial, okX (by omega), okW (by omega), trivial⟩ o186).x y186
    clear x187 o186 y186
    refine ⟨E.2.2.2.2, ?_⟩
    simp only [Act.put]
    refine HN (by kernel_rfl) ?_
    change Code.wp _ _ _ _ _
    refine wp_seq ?_
    refine wp_seq ?_
    by_cases hc0 : c = 0
    case pos =>
     have hz := hc.zero hle hc0
     -- region 19
     refine RL ?_
     refine V rfl rfl (run_load_bx AgR rfl rfl (E.1) rfl) <| ?_
     simp only [q2,q3]
     refine EF rfl (Oper.wp_callB fn_rational_Valid rfl (Valid_r _ _ _ _ (c - (Rat.divInt (sgn c.num) ((c.den : Nat) : Int))) _ (E.2.2.1) (E.2.1) (FitQ.mono F181 (by decide))) rfl E ?_)
     clear E
     intro w188 d188 E
     clear d188
     refine kw rfl ?_
     refine M rfl rfl rfl rfl rfl <| V (by kernel_rfl) rfl (run_load_bx AgR rfl rfl (e6 E) rfl) <| ?_
     simp only [q2,q3]
     refine EF rfl (Oper.wp_callN fn_rational_Sign rfl (Sign_q _ _ _ _ c _ (e8 E) (e7 E)) rfl E ?_)
     clear E
     intro w189 d189 E
     clear d189
     refine kw rfl ?_
     refine V (by kernel_rfl) rfl (run_neI (c := false) rfl rfl rfl (by rw [hc0]; rfl)) <| V (v := .bool false) rfl rfl (run_pick (b := true) rfl rfl rfl) <| M rfl rfl rfl rfl rfl <| L0C (by kernel_rfl) rfl <| ?_
     simp only [q2,q3]
     refine L0C (by kernel_rfl) rfl <| L0C (by kernel_rfl) rfl <| L0C (by kernel_rfl) rfl <| V (v := .bool false) rfl rfl (run_pick (b := false) rfl rfl rfl) <| ?_
     simp only [q2,q3]
     refine M rfl rfl rfl rfl rfl <| L0C (by kernel_rfl) rfl <| L0C (by kernel_rfl) rfl <| L0C (by kernel_rfl) rfl <| ?_
     simp only [q2,q3]
     refine L0C (by kernel_rfl) rfl <| V (v := .bool false) rfl rfl (run_pick (b := false) rfl rfl rfl) <| ?_
     simp only [q2,q3]
     refine WN ?_
     change Code.wp _ _ _ _ _
     refine wp_cond_false rfl ?_
     refine wp_skip ?_
     change Code.wp _ _ _ _ _
     refine wp_seq ?_
     -- region 21
     refine wp_schedE E ([0, 3, 1, 2, 4, 5, 6, 7, 8, 9, 10, 11, 12, 13, 14, 15]) (by kernel_rfl) (by kernel_rfl) (by kernel_rfl) (by kernel_rfl) (by intro d v c a w h; cases d <;> exact h) ?_
     replace E := E.drew
     refine SW rfl rfl rfl rfl rfl (fun w hS => run_load_bx AgR rfl rfl (e6 hS) rfl) <| SW rfl rfl rfl rfl rfl (fun w hS => run_load_bx AgR rfl rfl (e10 hS) rfl) <| ?_
     simp only [q2,q3]
     refine S1a (o := ⟨some 107, _, _, _, _, _⟩) rfl rfl rfl rfl (Oper.wp_callN fn_rational_Sign rfl (Sign_q _ _ _ _ c _ (e8 E) (e7 E)) rfl E ?_)
     clear E
     intro w190 d190 E
     clear d190
     refine ⟨E, ?_⟩
     simp only [Act.put,q1,q2,q3]
     refine SW rfl rfl rfl rfl rfl (fun w hS => run_eqI (c := true) rfl rfl rfl (by rw [hc0]; rfl)) <| ?_
     simp only [q2,q3]
     refine S1a (o := ⟨some 110, _, _, _, _, _⟩) rfl rfl rfl rfl (Oper.wp_callN fn_rational_Sign rfl (Sign_q _ _ _ _ y _ (e15 E) (e14 E)) rfl E ?_)
     clear E
     intro w191 d191 E
     clear d191
     refine ⟨E, ?_⟩
     simp only [Act.put,q1,q2,q3]
     refine SW rfl rfl rfl rfl rfl (fun w hS => run_leI (c := true) rfl rfl rfl (sgnQ_le hz.1)) <| SM rfl rfl rfl rfl rfl rfl rfl rfl <| SW rfl rfl rfl (by kernel_rfl) rfl (fun w hS => run_load_bx AgR rfl rfl (e9 hS) rfl) <| ?_
     simp only [q2,q3]
     refine S1a (o := ⟨some 114, _, _, _, _, _⟩) rfl rfl rfl rfl (Oper.wp_callN fn_rational_Sign rfl (Sign_q _ _ _ _ x _ (e17 E) (e16 E)) rfl E ?_)
     clear E
     intro w192 d192 E
     clear d192
     refine ⟨E, ?_⟩
     simp only [Act.put,q1,q2,q3]
     refine SW rfl rfl rfl (by kernel_rfl) rfl (fun w hS => run_geI (c := true) rfl rfl rfl (sgnQ_ge hz.2)) <| SW (v := .bool true) rfl rfl rfl rfl rfl (fun w hS => run_pick (b := true) rfl rfl rfl) <| SW rfl rfl rfl rfl rfl (fun w hS => run_eqB (a := true) (b := true) (c := true) rfl Try.underlying4 rfl rfl rfl) <| SM rfl rfl rfl rfl rfl rfl rfl rfl <| ?_
     simp only [q2,q3]
     refine SM rfl rfl rfl (by kernel_rfl) rfl rfl rfl rfl <| SW (v := .bool true) rfl rfl rfl rfl rfl (fun w hS => run_pick (b := true) rfl rfl rfl) <| SA rfl rfl rfl rfl rfl rfl rfl rfl <| ?_
     simp only [q2,q3]
     refine SN ?_
     change Code.wp _ _ _ _ _
     refine wp_ret ?_
     exact bodyPost_ret (v := .bool true) (by simp [results, Try.results7, asAddr]) rfl ⟨rfl, e19 E⟩
    case neg =>
     by_cases hlo : 0 < y
     case pos =>
      by_cases hnl : y ≤ (c - (Rat.divInt (sgn c.num) ((c.den : Nat) : Int)))
      case pos =>
       -- region 19
       refine RL ?_
       refine V rfl rfl (run_load_bx AgR rfl rfl (E.1) rfl) <| ?_
       simp only [q2,q3]
       refine EF rfl (Oper.wp_callB fn_rational_Valid rfl (Valid_r _ _ _ _ (c - (Rat.divInt (sgn c.num) ((c.den : Nat) : Int))) _ (E.2.2.1) (E.2.1) (FitQ.mono F181 (by decide))) rfl E ?_)
       clear E
       intro w193 d193 E
       clear d193
       refine kw rfl ?_
       refine M rfl rfl rfl rfl rfl <| V (by kernel_rfl) rfl (run_load_bx AgR rfl rfl (e6 E) rfl) <| ?_
       simp only [q2,q3]
       refine EF rfl (Oper.wp_callN fn_rational_Sign rfl (Sign_q _ _ _ _ c _ (e8 E) (e7 E)) rfl E ?_)
       clear E
       intro w194 d194 E
       clear d194
       refine kw rfl ?_
       refine V (by kernel_rfl) rfl (run_neI (c := true) rfl rfl rfl (bne_sgn (num_ne hc0))) <| V (v := .bool true) rfl rfl (run_pick (b := true) rfl rfl rfl) <| M rfl rfl rfl rfl rfl <| V (by kernel_rfl) rfl (run_load_bx AgR rfl rfl (e10 E) rfl) <| ?_
       simp only [q2,q3]
       refine V (by kernel_rfl) rfl (run_load_bx AgR rfl rfl (E.1) rfl) <| ?_
       simp only [q2,q3]
       refine EF rfl (Oper.wp_callN fn_rational_Cmp rfl (Cmp_q _ _ _ _ y _ _ _ _ (c - (Rat.divInt (sgn c.num) ((c.den : Nat) : Int))) _ (e15 E) (e14 E) (E.2.2.1) (E.2.1) (FitQ.mono Fy (by decide)) (FitQ.mono F181 (by decide))) rfl E ?_)
       clear E
       intro w195 d195 E
       clear d195
       refine kw rfl ?_
       refine V (by kernel_rfl) rfl (run_leI (c := true) rfl rfl rfl (cmpQ_le0 hnl)) <| V (v := .bool true) rfl rfl (run_pick (b := true) rfl rfl rfl) <| M rfl rfl rfl rfl rfl <| V (by kernel_rfl) rfl (run_load_bx AgR rfl rfl (E.1) rfl) <| ?_
       simp only [q2,q3]
       refine V (by kernel_rfl) rfl (run_load_bx AgR rfl rfl (e9 E) rfl) <| ?_
       simp only [q2,q3]
       refine EF rfl (Oper.wp_callN fn_rational_Cmp rfl (Cmp_q _ _ _ _ (c - (Rat.divInt (sgn c.num) ((c.den : Nat) : Int))) _ _ _ _ x _ (E.2.2.1) (E.2.1) (e17 E) (e16 E) (FitQ.mono F181 (by decide)) (FitQ.mono Fx (by decide))) rfl E ?_)
       clear E
       intro w196 d196 E
       clear d196
       refine kw rfl ?_
       refine V (by kernel_rfl) rfl (run_leI (c := false) rfl rfl rfl (cmpQ_nle0 (hc.next hc0 hnl))) <| V (v := .bool false) rfl rfl (run_pick (b := true) rfl rfl rfl) <| ?_
       simp only [q2,q3]
       refine WN ?_
       change Code.wp _ _ _ _ _
       refine wp_cond_false rfl ?_
       refine wp_skip ?_
       change Code.wp _ _ _ _ _
       refine wp_seq ?_
       -- region 21
       refine wp_schedE E ([0, 3, 1, 2, 4, 5, 6, 7, 8, 9, 10, 11, 12, 13, 14, 15]) (by kernel_rfl) (by kernel_rfl) (by kernel_rfl) (by kernel_rfl) (by intro d v c a w h; cases d <;> exact h) ?_
       replace E := E.drew
       refine SW rfl rfl rfl rfl rfl (fun w hS => run_load_bx AgR rfl rfl (e6 hS) rfl) <| SW rfl rfl rfl rfl rfl (fun w hS => run_load_bx AgR rfl rfl (e10 hS) rfl) <| ?_
       simp only [q2,q3]
       refine S1a (o := ⟨some 107, _, _, _, _, _⟩) rfl rfl rfl rfl (Oper.wp_callN fn_rational_Sign rfl (Sign_q _ _ _ _ c _ (e8 E) (e7 E)) rfl E ?_)
       clear E
       intro w197 d197 E
       clear d197
       refine ⟨E, ?_⟩
       simp only [Act.put,q1,q2,q3]
       refine SW rfl rfl rfl rfl rfl (fun w hS => run_eqI (c := false) rfl rfl rfl (sgn_ne0 (num_ne hc0))) <| ?_
       simp only [q2,q3]
       refine S1a (o := ⟨some 110, _, _, _, _, _⟩) rfl rfl rfl rfl (Oper.wp_callN fn_rational_Sign rfl (Sign_q _ _ _ _ y _ (e15 E) (e14 E)) rfl E ?_)
       clear E
       intro w198 d198 E
       clear d198
       refine ⟨E, ?_⟩
       simp only [Act.put,q1,q2,q3]
       refine SW rfl rfl rfl rfl rfl (fun w hS => run_leI (c := false) rfl rfl rfl (sgnQ_nle hlo)) <| SM rfl rfl rfl rfl rfl rfl rfl rfl <| ?_
       refine S0 (o := ⟨some 113, _, _, _, _, _⟩) rfl rfl (E) ?_
       simp only [Act.put,q1,q2,q3]
       refine S0 (o := ⟨some 114, _, _, _, _, _⟩) rfl rfl (E) ?_
       simp only [Act.put,q1,q2,q3]
       refine S0 (o := ⟨some 115, _, _, _, _, _⟩) rfl rfl (E) ?_
       simp only [Act.put,q1,q2,q3]
       refine SW (v := .bool false) rfl rfl rfl rfl rfl (fun w hS => run_pick (b := false) rfl rfl rfl) <| SW rfl rfl rfl rfl rfl (fun w hS => run_eqB (a := false) (b := false) (c := true) rfl Try.underlying4 rfl rfl rfl) <| ?_
       simp only [q2,q3]
       refine SM rfl rfl rfl rfl rfl rfl rfl rfl <| SM rfl rfl rfl (by kernel_rfl) rfl rfl rfl rfl <| SW (v := .bool true) rfl rfl rfl rfl rfl (fun w hS => run_pick (b := true) rfl rfl rfl) <| SA rfl rfl rfl rfl rfl rfl rfl rfl <| ?_
       simp only [q2,q3]
       refine SN ?_
       change Code.wp _ _ _ _ _
       refine wp_ret ?_
       exact bodyPost_ret (v := .bool true) (by simp [results, Try.results7, asAddr]) rfl ⟨rfl, e19 E⟩
      case neg =>
       -- region 19
       refine RL ?_
       refine V rfl rfl (run_load_bx AgR rfl rfl (E.1) rfl) <| ?_
       simp only [q2,q3]
       refine EF rfl (Oper.wp_callB fn_rational_Valid rfl (Valid_r _ _ _ _ (c - (Rat.divInt (sgn c.num) ((c.den : Nat) : Int))) _ (E.2.2.1) (E.2.1) (FitQ.mono F181 (by decide))) rfl E ?_)
       clear E
       intro w199 d199 E
       clear d199
       refine kw rfl ?_
       refine M rfl rfl rfl rfl rfl <| V (by kernel_rfl) rfl (run_load_bx AgR rfl rfl (e6 E) rfl) <| ?_
       simp only [q2,q3]
       refine EF rfl (Oper.wp_callN fn_rational_Sign rfl (Sign_q _ _ _ _ c _ (e8 E) (e7 E)) rfl E ?_)
       clear E
       intro w200 d200 E
       clear d200
       refine kw rfl ?_
       refine V (by kernel_rfl) rfl (run_neI (c := true) rfl rfl rfl (bne_sgn (num_ne hc0))) <| V (v := .bool true) rfl rfl (run_pick (b := true) rfl rfl rfl) <| M rfl rfl rfl rfl rfl <| V (by kernel_rfl) rfl (run_load_bx AgR rfl rfl (e10 E) rfl) <| ?_
       simp only [q2,q3]
       refine V (by kernel_rfl) rfl (run_load_bx AgR rfl rfl (E.1) rfl) <| ?_
       simp only [q2,q3]
       refine EF rfl (Oper.wp_callN fn_rational_Cmp rfl (Cmp_q _ _ _ _ y _ _ _ _ (c - (Rat.divInt (sgn c.num) ((c.den : Nat) : Int))) _ (e15 E) (e14 E) (E.2.2.1) (E.2.1) (FitQ.mono Fy (by decide)) (FitQ.mono F181 (by decide))) rfl E ?_)
       clear E
       intro w201 d201 E
       clear d201
       refine kw rfl ?_
       refine V (by kernel_rfl) rfl (run_leI (c := false) rfl rfl rfl (cmpQ_nle0 hnl)) <| V (v := .bool false) rfl rfl (run_pick (b := true) rfl rfl rfl) <| M rfl rfl rfl rfl rfl <| L0C (by kernel_rfl) rfl <| ?_
       simp only [q2,q3]
       refine L0C (by kernel_rfl) rfl <| L0C (by kernel_rfl) rfl <| L0C (by kernel_rfl) rfl <| V (v := .bool false) rfl rfl (run_pick (b := false) rfl rfl rfl) <| ?_
       simp only [q2,q3]
       refine WN ?_
       change Code.wp _ _ _ _ _
       refine wp_cond_false rfl ?_
       refine wp_skip ?_
       change Code.wp _ _ _ _ _
       refine wp_seq ?_
       -- region 21
       refine wp_schedE E ([0, 3, 1, 2, 4, 5, 6, 7, 8, 9, 10, 11, 12, 13, 14, 15]) (by kernel_rfl) (by kernel_rfl) (by kernel_rfl) (by kernel_rfl) (by intro d v c a w h; cases d <;> exact h) ?_
       replace E := E.drew
       refine SW rfl rfl rfl rfl rfl (fun w hS => run_load_bx AgR rfl rfl (e6 hS) rfl) <| SW rfl rfl rfl rfl rfl (fun w hS => run_load_bx AgR rfl rfl (e10 hS) rfl) <| ?_
       simp only [q2,q3]
       refine S1a (o := ⟨some 107, _, _, _, _, _⟩) rfl rfl rfl rfl (Oper.wp_callN fn_rational_Sign rfl (Sign_q _ _ _ _ c _ (e8 E) (e7 E)) rfl E ?_)
       clear E
       intro w202 d202 E
       clear d202
       refine ⟨E, ?_⟩
       simp only [Act.put,q1,q2,q3]
       refine SW rfl rfl rfl rfl rfl (fun w hS => run_eqI (c := false) rfl rfl rfl (sgn_ne0 (num_ne hc0))) <| ?_
       simp only [q2,q3]
       refine S1a (o := ⟨some 110, _, _, _, _, _⟩) rfl rfl rfl rfl (Oper.wp_callN fn_rational_Sign rfl (Sign_q _ _ _ _ y _ (e15 E) (e14 E)) rfl E ?_)
       clear E
       intro w203 d203 E
       clear d203
       refine ⟨E, ?_⟩
       simp only [Act.put,q1,q2,q3]
       refine SW rfl rfl rfl rfl rfl (fun w hS => run_leI (c := false) rfl rfl rfl (sgnQ_nle hlo)) <| SM rfl rfl rfl rfl rfl rfl rfl rfl <| ?_
       refine S0 (o := ⟨some 113, _, _, _, _, _⟩) rfl rfl (E) ?_
       simp only [Act.put,q1,q2,q3]
       refine S0 (o := ⟨some 114, _, _, _, _, _⟩) rfl rfl (E) ?_
       simp only [Act.put,q1,q2,q3]
       refine S0 (o := ⟨some 115, _, _, _, _, _⟩) rfl rfl (E) ?_
       simp only [Act.put,q1,q2,q3]
       refine SW (v := .bool false) rfl rfl rfl rfl rfl (fun w hS => run_pick (b := false) rfl rfl rfl) <| SW rfl rfl rfl rfl rfl (fun w hS => run_eqB (a := false) (b := false) (c := true) rfl Try.underlying4 rfl rfl rfl) <| ?_
       simp only [q2,q3]
       refine SM rfl rfl rfl rfl rfl rfl rfl rfl <| SM rfl rfl rfl (by kernel_rfl) rfl rfl rfl rfl <| SW (v := .bool true) rfl rfl rfl rfl rfl (fun w hS => run_pick (b := true) rfl rfl rfl) <| SA rfl rfl rfl rfl rfl rfl rfl rfl <| ?_
       simp only [q2,q3]
       refine SN ?_
       change Code.wp _ _ _ _ _
       refine wp_ret ?_
       exact bodyPost_ret (v := .bool true) (by simp [results, Try.results7, asAddr]) rfl ⟨rfl, e19 E⟩
     case neg =>
      have hhi : x < 0 := Decidable.by_contra fun g => hc0 (hc.nz hlo g)
      by_cases hnl : y ≤ (c - (Rat.divInt (sgn c.num) ((c.den : Nat) : Int)))
      case pos =>
       -- region 19
       refine RL ?_
       refine V rfl rfl (run_load_bx AgR rfl rfl (E.1) rfl) <| ?_
       simp only [q2,q3]
       refine EF rfl (Oper.wp_callB fn_rational_Valid rfl (Valid_r _ _ _ _ (c - (Rat.divInt (sgn c.num) ((c.den : Nat) : Int))) _ (E.2.2.1) (E.2.1) (FitQ.mono F181 (by decide))) rfl E ?_)
       clear E
       intro w204 d204 E
       clear d204
       refine kw rfl ?_
       refine M rfl rfl rfl rfl rfl <| V (by kernel_rfl) rfl (run_load_bx AgR rfl rfl (e6 E) rfl) <| ?_
       simp only [q2,q3]
       refine EF rfl (Oper.wp_callN fn_rational_Sign rfl (Sign_q _ _ _ _ c _ (e8 E) (e7 E)) rfl E ?_)
       clear E
       intro w205 d205 E
       clear d205
       refine kw rfl ?_
       refine V (by kernel_rfl) rfl (run_neI (c := true) rfl rfl rfl (bne_sgn (num_ne hc0))) <| V (v := .bool true) rfl rfl (run_pick (b := true) rfl rfl rfl) <| M rfl rfl rfl rfl rfl <| V (by kernel_rfl) rfl (run_load_bx AgR rfl rfl (e10 E) rfl) <| ?_
       simp only [q2,q3]
       refine V (by kernel_rfl) rfl (run_load_bx AgR rfl rfl (E.1) rfl) <| ?_
       simp only [q2,q3]
       refine EF rfl (Oper.wp_callN fn_rational_Cmp rfl (Cmp_q _ _ _ _ y _ _ _ _ (c - (Rat.divInt (sgn c.num) ((c.den : Nat) : Int))) _ (e15 E) (e14 E) (E.2.2.1) (E.2.1) (FitQ.mono Fy (by decide)) (FitQ.mono F181 (by decide))) rfl E ?_)
       clear E
       intro w206 d206 E
       clear d206
       refine kw rfl ?_
       refine V (by kernel_rfl) rfl (run_leI (c := true) rfl rfl rfl (cmpQ_le0 hnl)) <| V (v := .bool true) rfl rfl (run_pick (b := true) rfl rfl rfl) <| M rfl rfl rfl rfl rfl <| V (by kernel_rfl) rfl (run_load_bx AgR rfl rfl (E.1) rfl) <| ?_
       simp only [q2,q3]
       refine V (by kernel_rfl) rfl (run_load_bx AgR rfl rfl (e9 E) rfl) <| ?_
       simp only [q2,q3]
       refine EF rfl (Oper.wp_callN fn_rational_Cmp rfl (Cmp_q _ _ _ _ (c - (Rat.divInt (sgn c.num) ((c.den : Nat) : Int))) _ _ _ _ x _ (E.2.2.1) (E.2.1) (e17 E) (e16 E) (FitQ.mono F181 (by decide)) (FitQ.mono Fx (by decide))) rfl E ?_)
       clear E
       intro w207 d207 E
       clear d207
       refine kw rfl ?_
       refine V (by kernel_rfl) rfl (run_leI (c := false) rfl rfl rfl (cmpQ_nle0 (hc.next hc0 hnl))) <| V (v := .bool false) rfl rfl (run_pick (b := true) rfl rfl rfl) <| ?_
       simp only [q2,q3]
       refine WN ?_
       change Code.wp _ _ _ _ _
       refine wp_cond_false rfl ?_
       refine wp_skip ?_
       change Code.wp _ _ _ _ _
       refine wp_seq ?_
       -- region 21
       refine wp_schedE E ([0, 3, 1, 2, 4, 5, 6, 7, 8, 9, 10, 11, 12, 13, 14, 15]) (by kernel_rfl) (by kernel_rfl) (by kernel_rfl) (by kernel_rfl) (by intro d v c a w h; cases d <;> exact h) ?_
       replace E := E.drew
       refine SW rfl rfl rfl rfl rfl (fun w hS => run_load_bx AgR rfl rfl (e6 hS) rfl) <| SW rfl rfl rfl rfl rfl (fun w hS => run_load_bx AgR rfl rfl (e10 hS) rfl) <| ?_
       simp only [q2,q3]
       refine S1a (o := ⟨some 107, _, _, _, _, _⟩) rfl rfl rfl rfl (Oper.wp_callN fn_rational_Sign rfl (Sign_q _ _ _ _ c _ (e8 E) (e7 E)) rfl E ?_)
       clear E
       intro w208 d208 E
       clear d208
       refine ⟨E, ?_⟩
       simp only [Act.put,q1,q2,q3]
       refine SW rfl rfl rfl rfl rfl (fun w hS => run_eqI (c := false) rfl rfl rfl (sgn_ne0 (num_ne hc0))) <| ?_
       simp only [q2,q3]
       refine S1a (o := ⟨some 110, _, _, _, _, _⟩) rfl rfl rfl rfl (Oper.wp_callN fn_rational_Sign rfl (Sign_q _ _ _ _ y _ (e15 E) (e14 E)) rfl E ?_)
       clear E
       intro w209 d209 E
       clear d209
       refine ⟨E, ?_⟩
       simp only [Act.put,q1,q2,q3]
       refine SW rfl rfl rfl rfl rfl (fun w hS => run_leI (c := true) rfl rfl rfl (sgnQ_le hlo)) <| SM rfl rfl rfl rfl rfl rfl rfl rfl <| SW rfl rfl rfl (by kernel_rfl) rfl (fun w hS => run_load_bx AgR rfl rfl (e9 hS) rfl) <| ?_
       simp only [q2,q3]
       refine S1a (o := ⟨some 114, _, _, _, _, _⟩) rfl rfl rfl rfl (Oper.wp_callN fn_rational_Sign rfl (Sign_q _ _ _ _ x _ (e17 E) (e16 E)) rfl E ?_)
       clear E
       intro w210 d210 E
       clear d210
       refine ⟨E, ?_⟩
       simp only [Act.put,q1,q2,q3]
       refine SW rfl rfl rfl (by kernel_rfl) rfl (fun w hS => run_geI (c := false) rfl rfl rfl (sgnQ_nge hhi)) <| SW (v := .bool false) rfl rfl rfl rfl rfl (fun w hS => run_pick (b := true) rfl rfl rfl) <| SW rfl rfl rfl rfl rfl (fun w hS => run_eqB (a := false) (b := false) (c := true) rfl Try.underlying4 rfl rfl rfl) <| SM rfl rfl rfl rfl rfl rfl rfl rfl <| ?_
       simp only [q2,q3]
       refine SM rfl rfl rfl (by kernel_rfl) rfl rfl rfl rfl <| SW (v := .bool true) rfl rfl rfl rfl rfl (fun w hS => run_pick (b := true) rfl rfl rfl) <| SA rfl rfl rfl rfl rfl rfl rfl rfl <| ?_
       simp only [q2,q3]
       refine SN ?_
       change Code.wp _ _ _ _ _
       refine wp_ret ?_
       exact bodyPost_ret (v := .bool true) (by simp [results, Try.results7, asAddr]) rfl ⟨rfl, e19 E⟩
      case neg =>
       -- region 19
       refine RL ?_
       refine V rfl rfl (run_load_bx AgR rfl rfl (E.1) rfl) <| ?_
       simp only [q2,q3]
       refine EF rfl (Oper.wp_callB fn_rational_Valid rfl (Valid_r _ _ _ _ (c - (Rat.divInt (sgn c.num) ((c.den : Nat) : Int))) _ (E.2.2.1) (E.2.1) (FitQ.mono F181 (by decide))) rfl E ?_)
       clear E
       intro w211 d211 E
       clear d211
       refine kw rfl ?_
       refine M rfl rfl rfl rfl rfl <| V (by kernel_rfl) rfl (run_load_bx AgR rfl rfl (e6 E) rfl) <| ?_
       simp only [q2,q3]
       refine EF rfl (Oper.wp_callN fn_rational_Sign rfl (Sign_q _ _ _ _ c _ (e8 E) (e7 E)) rfl E ?_)
       clear E
       intro w212 d212 E
       clear d212
       refine kw rfl ?_
       refine V (by kernel_rfl) rfl (run_neI (c := true) rfl rfl rfl (bne_sgn (num_ne hc0))) <| V (v := .bool true) rfl rfl (run_pick (b := true) rfl rfl rfl) <| M rfl rfl rfl rfl rfl <| V (by kernel_rfl) rfl (run_load_bx AgR rfl rfl (e10 E) rfl) <| ?_
       simp only [q2,q3]
       refine V (by kernel_rfl) rfl (run_load_bx AgR rfl rfl (E.1) rfl) <| ?_
       simp only [q2,q3]
       refine EF rfl (Oper.wp_callN fn_rational_Cmp rfl (Cmp_q _ _ _ _ y _ _ _ _ (c - (Rat.divInt (sgn c.num) ((c.den : Nat) : Int))) _ (e15 E) (e14 E) (E.2.2.1) (E.2.1) (FitQ.mono Fy (by decide)) (FitQ.mono F181 (by decide))) rfl E ?_)
       clear E
       intro w213 d213 E
       clear d213
       refine kw rfl ?_
       refine V (by kernel_rfl) rfl (run_leI (c := false) rfl rfl rfl (cmpQ_nle0 hnl)) <| V (v := .bool false) rfl rfl (run_pick (b := true) rfl rfl rfl) <| M rfl rfl rfl rfl rfl <| L0C (by kernel_rfl) rfl <| ?_
       simp only [q2,q3]
       refine L0C (by kernel_rfl) rfl <| L0C (by kernel_rfl) rfl <| L0C (by kernel_rfl) rfl <| V (v := .bool false) rfl rfl (run_pick (b := false) rfl rfl rfl) <| ?_
       simp only [q2,q3]
       refine WN ?_
       change Code.wp _ _ _ _ _
       refine wp_cond_false rfl ?_
       refine wp_skip ?_
       change Code.wp _ _ _ _ _
       refine wp_seq ?_
       -- region 21
       refine wp_schedE E ([0, 3, 1, 2, 4, 5, 6, 7, 8, 9, 10, 11, 12, 13, 14, 15]) (by kernel_rfl) (by kernel_rfl) (by kernel_rfl) (by kernel_rfl) (by intro d v c a w h; cases d <;> exact h) ?_
       replace E := E.drew
       refine SW rfl rfl rfl rfl rfl (fun w hS => run_load_bx AgR rfl rfl (e6 hS) rfl) <| SW rfl rfl rfl rfl rfl (fun w hS => run_load_bx AgR rfl rfl (e10 hS) rfl) <| ?_
       simp only [q2,q3]
       refine S1a (o := ⟨some 107, _, _, _, _, _⟩) rfl rfl rfl rfl (Oper.wp_callN fn_rational_Sign rfl (Sign_q _ _ _ _ c _ (e8 E) (e7 E)) rfl E ?_)
       clear E
       intro w214 d214 E
       clear d214
       refine ⟨E, ?_⟩
       simp only [Act.put,q1,q2,q3]
       refine SW rfl rfl rfl rfl rfl (fun w hS => run_eqI (c := false) rfl rfl rfl (sgn_ne0 (num_ne hc0))) <| ?_
       simp only [q2,q3]
       refine S1a (o := ⟨some 110, _, _, _, _, _⟩) rfl rfl rfl rfl (Oper.wp_callN fn_rational_Sign rfl (Sign_q _ _ _ _ y _ (e15 E) (e14 E)) rfl E ?_)
       clear E
       intro w215 d215 E
       clear d215
       refine ⟨E, ?_⟩
       simp only [Act.put,q1,q2,q3]
       refine SW rfl rfl rfl rfl rfl (fun w hS => run_leI (c := true) rfl rfl rfl (sgnQ_le hlo)) <| SM rfl rfl rfl rfl rfl rfl rfl rfl <| SW rfl rfl rfl (by kernel_rfl) rfl (fun w hS => run_load_bx AgR rfl rfl (e9 hS) rfl) <| ?_
       simp only [q2,q3]
       refine S1a (o := ⟨some 114, _, _, _, _, _⟩) rfl rfl rfl rfl (Oper.wp_callN fn_rational_Sign rfl (Sign_q _ _ _ _ x _ (e17 E) (e16 E)) rfl E ?_)
       clear E
       intro w216 d216 E
       clear d216
       refine ⟨E, ?_⟩
       simp only [Act.put,q1,q2,q3]
       refine SW rfl rfl rfl (by kernel_rfl) rfl (fun w hS => run_geI (c := false) rfl rfl rfl (sgnQ_nge hhi)) <| SW (v := .bool false) rfl rfl rfl rfl rfl (fun w hS => run_pick (b := true) rfl rfl rfl) <| SW rfl rfl rfl rfl rfl (fun w hS => run_eqB (a := false) (b := false) (c := true) rfl Try.underlying4 rfl rfl rfl) <| SM rfl rfl rfl rfl rfl rfl rfl rfl <| ?_
       simp only [q2,q3]
       refine SM rfl rfl rfl (by kernel_rfl) rfl rfl rfl rfl <| SW (v := .bool true) rfl rfl rfl rfl rfl (fun w hS => run_pick (b := true) rfl rfl rfl) <| SA rfl rfl rfl rfl rfl rfl rfl rfl <| ?_
       simp only [q2,q3]
       refine SN ?_
       change Code.wp _ _ _ _ _
       refine wp_ret ?_
       exact bodyPost_ret (v := .bool true) (by simp [results, Try.results7, asAddr]) rfl ⟨rfl, e19 E⟩
end Go.Proofs.Ytndpjfhhigpbhaa
