/- Package rational: Between. (Printed by g_rat3.py.) -/
import Derived.Test.YtndpjfhhigpbhaaGreatRat1
namespace Go.Proofs.YtndpjfhhigpbhaaGreat
open Go.RowKit W
theorem isAgg_fn (w : World) : (isAgg 34).run Tryz.prog w = .ok false w := by simp [go_sem]
section
variable {P : Program} {o : Oper} {a : Act} {w : World} {K : Act → World → Prop} {Q : Exit → Act → World → Prop} {f : Nat} {args : List Operand} {tys : Array TypeId} {vs caps : List Value} {l : List SF} {R : Ending → World → Prop}
theorem Oper.wp_callC {x : Operand} (hf : Fn P f) (ho : o.op = .call { callee := .value x, args := args.toArray, argTypes := tys }) (hx : a.eval x = .func (.func f) #[] caps.toArray)
    {ar : Array Value} (hc : Calls P f ar w R) (har : ar = (vs ++ caps).toArray) (hv : args.map a.eval = vs) (h : ∀ e w', R e w' → ∃ v, e = .returned v ∧ K (a.put o.dst v) w') : o.wp P a w K Q := by
  subst har hv
  unfold Oper.wp execOp
  simp only [ho, resolve, hx, Deferred.ofValue, Sem.run_bind, Sem.run_pure, Result.andThen_ok, invoke, List.map_toArray]
  simp only [List.append_toArray, hf.run, Oper.upon]
  refine Calls.mono hc fun e w' hR => ?_
  obtain ⟨v, rfl, hK⟩ := h e w' hR
  exact hK
theorem run_func {ρ : Operand → Value} {o : Oper} {w : World} {b : Nat} {x : Operand} (ho : o.op = .makeFunc (.func f) #[] #[x]) (hx : ρ x = .pointer (some ⟨b, 0, none⟩)) : (execOp ρ o).run P w = .ok (.value (.func (.func f) #[] #[.pointer (some ⟨b, 0, none⟩)])) w := by
  unfold execOp; rw [ho]; simp [hx, Instr.makeFunc]
/-- A new variable of a type of functions. -/
theorem Oper.wp_allocF (ho : o.op = .alloc 34)
    (h : ∀ b w', b = w.heap.size → w'.heap.size = w.heap.size + 1 → Below w.heap.size w w' → Bx w' b 34 [.nilFunc] → K (a.put o.dst (.pointer (some ⟨b, 0, none⟩))) w') : o.wp Tryz.prog a w K Q := by
  have hi : ∀ w, (zeroValue 34).run Tryz.prog w = .ok .nilFunc w := fun w => by kernel_rfl
  refine Oper.wp_of_val (v := .pointer (some ⟨w.heap.size, 0, none⟩)) (w' := w.alloc (.cells #[.nilFunc] 34)) ?_ (h _ _ rfl (by simp) ((Below.refl _ _).alloc (Nat.le_refl _) _) (bx_alloc w _ [.nilFunc]))
  unfold execOp; rw [ho]
  simp [Instr.alloc, hi, newVar, newRow, Sem.run_bind, Value.cells, newObj]
  rfl
theorem Oper.wp_storeF {x y : Operand} {b : Nat} {v c : Value} (ho : o.op = .store 34 x y) (hx : a.eval x = .pointer (some ⟨b, 0, none⟩)) (hy : a.eval y = v) (hcell : v.cells = #[v]) (h1 : v.oneCell' = true)
    (hb : Bx w b 34 [c]) (h : ∀ w', Onl b w w' → Bx w' b 34 [v] → K (a.put o.dst undef) w') : o.wp Tryz.prog a w K Q := by
  have hs : ∀ w, (sizeOf 34).run Tryz.prog w = .ok 1 w := fun w => by kernel_rfl
  have hr := run_storeCells_at (P := Tryz.prog) b 0 34 [v] 0 [c].toArray w hb (by simp) (by simpa using h1)
  simp only [Nat.zero_add, List.take_zero, List.nil_append, Nat.add_zero] at hr
  unfold Oper.wp execOp
  simp only [ho, hx, hy, Instr.storeAt, Instr.sureAddr, Sem.run_bind, Sem.run_pure, Result.andThen_ok, storeVar, hcell, hs]
  simp only [List.size_toArray, List.length_cons, List.length_nil, Nat.zero_add, ne_eq, not_true_eq_false, if_false, List.drop_one, List.tail_cons, List.append_nil] at hr ⊢
  simp [hr, Oper.upon]
  exact h _ (onl_setRow _ _ _) (bx_setRow hb _)
end
/-- What a function leaves that returns the simplest number from x to y. -/
def RetSm (w0 : World) (x y : Rat) (e : Ending) (w' : World) : Prop := ∃ c : Rat, IsSimp c x y ∧ RetP w0 c.num ((c.den : Nat) : Int) e w'
def SearchOk (b k : Nat) : Prop := ∀ (na : Bool) (sa : Value) (ma : Bool) (ta : Value) (x : Rat) (nb : Bool) (sb : Value) (mb : Bool) (tb : Value) (y : Rat) (w : World),
  IsI w (.agg #[.bool na, sa]) x.num → IsI w (.agg #[.bool ma, ta]) ((x.den : Nat) : Int) → IsI w (.agg #[.bool nb, sb]) y.num → IsI w (.agg #[.bool mb, tb]) ((y.den : Nat) : Int) →
  Bx w b 34 [.func (.func 54) #[] #[.pointer (some ⟨b, 0, none⟩)]] → 0 < x → x ≤ y → x.den + y.den ≤ k → FitQ x 1000 → FitQ y 1000 →
  Calls Tryz.prog 54 #[.agg #[.bool na, sa, .bool ma, ta], .agg #[.bool nb, sb, .bool mb, tb], .pointer (some ⟨b, 0, none⟩)] w (RetSm w x y)
theorem cmpQ_eq0 {x y : Rat} (h : x = y) : (cmpQ x y == 0) = true := by
  rcases cmpQ_vals x y with ⟨g, _⟩ | ⟨_, e⟩ | ⟨g, _⟩
  · subst h; exact absurd g Rat.lt_irrefl
  · rw [e]; rfl
  · subst h; exact absurd g Rat.lt_irrefl
theorem cmpQ_ne0 {x y : Rat} (h : ¬ x = y) : (cmpQ x y == 0) = false := by
  rcases cmpQ_vals x y with ⟨_, e⟩ | ⟨g, _⟩ | ⟨_, e⟩
  · rw [e]; rfl
  · exact absurd g h
  · rw [e]; rfl
theorem cmpQ_le0 {x y : Rat} (h : x ≤ y) : decide (cmpQ x y ≤ 0) = true := by
  rcases cmpQ_vals x y with ⟨_, e⟩ | ⟨_, e⟩ | ⟨g, _⟩
  · rw [e]; rfl
  · rw [e]; rfl
  · exact absurd h (Rat.not_le.2 g)
theorem cmpQ_nle0 {x y : Rat} (h : ¬ x ≤ y) : decide (cmpQ x y ≤ 0) = false := by
  rcases cmpQ_vals x y with ⟨g, _⟩ | ⟨g, _⟩ | ⟨_, e⟩
  · exact absurd (Rat.le_of_lt g) h
  · subst g; exact absurd Rat.le_refl h
  · rw [e]; rfl
theorem pos_ne {x : Rat} (h : 0 < x) : x ≠ 0 := Rat.ne_of_gt h
theorem simp_fit {c x y : Rat} {k : Nat} (h : IsSimp c x y) (hx : 0 < x) (hxy : x ≤ y) (F : FitQ x k) : FitQ c k := by
  have h1 := h.num x Rat.le_refl hxy
  have h2 := h.den x Rat.le_refl hxy
  have h3 := pos_num.1 (lt_of_lt_le hx h.lo)
  have h4 := pos_num.1 hx
  exact ⟨Fits_le (by omega) F.1, Fits_le (by omega) F.2⟩
theorem step_fit {x y : Rat} {k : Nat} (hx : 0 < x) (hxy : x ≤ y) (h1 : ¬ ((x.floor : Int) : Rat) = x) (h2 : ¬ ((x.floor : Int) : Rat) + 1 ≤ y) (Fx : FitQ x k) (Fy : FitQ y k) :
    FitQ (y - (x.floor : Rat))⁻¹ k ∧ FitQ (x - (x.floor : Rat))⁻¹ k := by
  obtain ⟨_, i1, j1, i2, j2⟩ := step_dens hx hxy h1 h2
  exact ⟨⟨by rw [i1]; exact Fy.2, Fits_le (by omega) Fy.2⟩, ⟨by rw [j1]; exact Fx.2, Fits_le (by omega) Fx.2⟩⟩
set_option maxRecDepth 100000 in
set_option maxHeartbeats 8000000 in
theorem search_step (b k : Nat) (na : Bool) (sa : Value) (ma : Bool) (ta : Value) (x : Rat) (nb : Bool) (sb : Value) (mb : Bool) (tb : Value) (y : Rat)  (w : World)  (hna : IsI w (.agg #[.bool na, sa]) x.num) (hda : IsI w (.agg #[.bool ma, ta]) ((x.den : Nat) : Int)) (hnb : IsI w (.agg #[.bool nb, sb]) y.num) (hdb : IsI w (.agg #[.bool mb, tb]) ((y.den : Nat) : Int)) (hb : Bx w b 34 [.func (.func 54) #[] #[.pointer (some ⟨b, 0, none⟩)]]) (hx : 0 < x) (hxy : x ≤ y) (hk : x.den + y.den ≤ k + 1) (ih : SearchOk b k) (Fx : FitQ x 1000) (Fy : FitQ y 1000) :
    Calls Tryz.prog 54 #[.agg #[.bool na, sa, .bool ma, ta], .agg #[.bool nb, sb, .bool mb, tb], .pointer (some ⟨b, 0, none⟩)] w (RetSm w x y) := by
 have E := Env.start w
 replace E := (E.i hna).i hda
 clear hna hda
 replace E := (E.i hnb).i hdb
 clear hnb hdb
 have lb := Bx.lt hb
 replace E := E.x hb
 clear hb
 go_enter Tryz.func54, Tryz.ntmps54
 refine wp_seq ?_
 -- region 0
 refine RL ?_
 refine EF rfl (Oper.wp_box (cs := [.bool na, sa, .bool ma, ta]) rfl rfl ?_)
 intro b1 w1 e1 z1 d1 x1
 have l1 : w.heap.size ≤ b1 := by rw [e1]; exact (e5 E).size
 replace E := E.below d1
 clear e1 z1 d1
 replace E := E.x x1
 clear x1
 refine kw rfl ?_
 simp only [q2,q3]
 refine EF rfl (Oper.wp_box (cs := [.bool nb, sb, .bool mb, tb]) rfl rfl ?_)
 intro b2 w2 e2 z2 d2 x2
 have l2_0 : b1 < b2 := by rw [e2]; exact Bx.lt (E.1)
 replace E := E.below d2
 clear e2 z2 d2
 replace E := E.x x2
 clear x2
 refine kw rfl ?_
 simp only [q2,q3]
 refine EF rfl (Oper.wp_alloc AgR rfl ?_)
 intro b3 w3 e3 z3 d3 x3
 have l3_0 : b2 < b3 := by rw [e3]; exact Bx.lt (E.1)
 replace E := E.below d3
 clear e3 z3 d3
 refine kw rfl ?_
 simp only [q2,q3]
 refine WN ?_
 change Code.wp _ _ _ _ _
 refine wp_seq ?_
 -- region 1
 refine RL ?_
 refine V rfl rfl (run_load_bx AgR rfl rfl (E.2.1) rfl) <| ?_
 simp only [q2,q3]
 refine EF rfl (Oper.wp_callI fn_rational_Floor rfl (Floor_q _ _ _ _ x _ (e6 E) (e5 E) (FitQ.mono Fx (by decide))) rfl E ?_)
 clear E
 intro w5 n5 s5 d5 E
 replace x3 := x3.below d5
 clear d5
 refine kw rfl ?_
 have F4 : Fits x.floor 1000 := Fits_floorQ Fx
 simp only [q2,q3]
 refine EF rfl (Oper.wp_callP fn_rational_whole rfl (whole_z _ x.floor _ (E.1)) rfl E ?_)
 clear E
 intro w7 n7 s7 m7 t7 d7 E
 replace x3 := x3.below d7
 clear d7
 refine kw rfl ?_
 have F6 : FitQ ((x.floor : Int) : Rat) 1000 := FitQ_int (by decide) F4
 simp only [q2,q3]
 refine EF rfl (Oper.wp_alloc AgR rfl ?_)
 intro b8 w8 e8 z8 d8 x8
 have l8_0 : b3 < b8 := by rw [e8]; exact Bx.lt (x3)
 replace E := E.below d8
 replace x3 := Bx.below x3 d8
 clear e8 z8 d8
 refine kw rfl ?_
 simp only [q2,q3]
 refine EF rfl (Oper.wp_store AgR rfl rfl rfl x8 rfl rfl (one4 (IsI.one (E.2.1)) (IsI.one (E.1))) ?_)
 intro w9 o9 y9
 replace E := (E.onl (x8.noW (now4 now0 now0)) ⟨trivial, trivial, trivial, okX (by omega), okX (by omega), okX (by omega), trivial, trivial, trivial, trivial, okW (by omega), trivial⟩ o9).x y9
 replace x3 := Bx.onl x3 (by omega) o9
 clear x8 o9 y9
 refine kn rfl ?_
 refine WN ?_
 change Code.wp _ _ _ _ _
 refine wp_seq ?_
 refine wp_seq ?_
 by_cases h1 : ((x.floor : Int) : Rat) = x
 case pos =>
  -- region 2
  refine RL ?_
  refine V rfl rfl (run_load_bx AgR rfl rfl (E.1) rfl) <| V rfl rfl (run_load_bx AgR rfl rfl (e5 E) rfl) <| ?_
  simp only [q2,q3]
  refine EF rfl (Oper.wp_callN fn_rational_Cmp rfl (Cmp_q _ _ _ _ ((x.floor : Int) : Rat) _ _ _ _ x _ (E.2.2.1) (E.2.1) (e10 E) (e9 E) (FitQ.mono F6 (by decide)) (FitQ.mono Fx (by decide))) rfl E ?_)
  clear E
  intro w10 d10 E
  replace x3 := x3.below d10
  clear d10
  refine kw rfl ?_
  refine V rfl rfl (run_eqI (c := true) rfl rfl rfl (cmpQ_eq0 h1)) <| ?_
  simp only [q2,q3]
  refine WN ?_
  change Code.wp _ _ _ _ _
  refine wp_cond_true rfl ?_
  refine wp_seq ?_
  -- region 3
  refine RL ?_
  refine V rfl rfl (run_load_bx AgR rfl rfl (E.1) rfl) <| ?_
  simp only [q2,q3]
  refine EF rfl (Oper.wp_store AgR rfl rfl rfl x3 rfl rfl (one4 (IsI.one (E.2.2.1)) (IsI.one (E.2.1))) ?_)
  intro w11 o11 y11
  replace E := (E.onl (x3.noW (now4 now0 now0)) ⟨okX (by omega), trivial, trivial, trivial, okX (by omega), okX (by omega), okX (by omega), trivial, trivial, trivial, trivial, okW (by omega), trivial⟩ o11).x y11
  clear x3 o11 y11
  refine kn rfl ?_
  refine WN ?_
  change Code.wp _ _ _ _ _
  refine wp_ret ?_
  have r12 := res_box AgR (E.1) rfl
  exact bodyPost_ret (v := .agg #[.bool n7, s7, .bool m7, t7]) (by simp [results, Tryz.results54, asAddr, r12]) rfl ⟨_, simp_floor hx hxy h1, _, _, _, _, rfl, e3 E, E.2.2.1, e12 E⟩
 case neg =>
  -- region 2
  refine RL ?_
  refine V rfl rfl (run_load_bx AgR rfl rfl (E.1) rfl) <| V rfl rfl (run_load_bx AgR rfl rfl (e5 E) rfl) <| ?_
  simp only [q2,q3]
  refine EF rfl (Oper.wp_callN fn_rational_Cmp rfl (Cmp_q _ _ _ _ ((x.floor : Int) : Rat) _ _ _ _ x _ (E.2.2.1) (E.2.1) (e10 E) (e9 E) (FitQ.mono F6 (by decide)) (FitQ.mono Fx (by decide))) rfl E ?_)
  clear E
  intro w13 d13 E
  replace x3 := x3.below d13
  clear d13
  refine kw rfl ?_
  refine V rfl rfl (run_eqI (c := false) rfl rfl rfl (cmpQ_ne0 h1)) <| ?_
  simp only [q2,q3]
  refine WN ?_
  change Code.wp _ _ _ _ _
  refine wp_cond_false rfl ?_
  refine wp_skip ?_
  change Code.wp _ _ _ _ _
  refine wp_seq ?_
  refine wp_seq ?_
  -- region 4
  replace E := E.x x3
  clear x3
  have hB14_0 : b8 < w13.heap.size := Bx.lt (E.2.1)
  refine wp_schedF E [.op 0, .av 3, .op 1, .op 2, .op 3] 1 (#[true, true, true, true, false]) (by kernel_rfl) (by kernel_rfl) (by kernel_rfl) (by kernel_rfl) (by intro d v c a w h; cases d <;> exact h) (by intro d v c a w h; cases d <;> exact h) ?_
  refine FP (v := .agg #[.bool n7, s7, .bool m7, t7]) rfl rfl rfl rfl rfl (fun w hS => run_load_bx AgR rfl rfl (hS.2.1) rfl) <| FA _ (RunF.alloc AgR rfl rfl rfl) <| ?_
  simp only [q2,q3]
  clear E
  refine FE rfl rfl rfl rfl ?_
  intro w17 E
  refine Oper.wp_callP fn_rational_Whole rfl (Whole_z 1 _ (by decide) (by decide)) rfl E ?_
  clear E
  intro w16 n16 s16 m16 t16 d16 E
  refine kF d16 E rfl ?_
  have F15 : FitQ ((1 : Int) : Rat) 4 := FitQ_int (k := 4) (by decide) (Fits_of64 (by decide) (by decide))
  simp only [q2,q3]
  clear E
  refine FE rfl rfl rfl rfl ?_
  intro w20 E
  refine Oper.wp_callP fn_rational_Add rfl (Add_q _ _ _ _ ((x.floor : Int) : Rat) _ _ _ _ ((1 : Int) : Rat) _ (e5 E) (e4 E) (E.2.1) (E.1) (FitQ.mono F6 (by decide)) (FitQ.mono F15 (by decide))) rfl E ?_
  clear E
  intro w19 n19 s19 m19 t19 d19 E
  refine kF d19 E rfl ?_
  have F18 : FitQ (((x.floor : Int) : Rat) + ((1 : Int) : Rat)) 1005 := FitQ_add F6 F15
  simp only [q2,q3]
  refine FF rfl rfl ?_
  intro b21 f21 u21
  have l21_0 : b8 < b21 := by omega
  simp only [q2,q3]
  clear E
  intro w22 E
  refine H1 (i := 4) (by kernel_rfl) ?_
  have x24 := E.1
  replace E := E.2
  refine HE (o := ⟨none, _, _, _, _, _⟩) rfl rfl (Oper.wp_store AgR rfl rfl rfl x24 rfl rfl (one4 (IsI.one (E.2.1)) (IsI.one (E.1))) ?_)
  intro w23 o23 y23
  replace E := (E.onl (x24.noW (now4 now0 now0)) ⟨trivial, trivial, trivial, trivial, okX (by omega), okX (by omega), trivial, trivial, trivial, okX (by omega), okX (by omega), okX (by omega), trivial, trivial, trivial, trivial, okW (by omega), trivial⟩ o23).x y23
  clear x24 o23 y23
  refine ⟨E.2.2.2.2.2, ?_⟩
  simp only [Act.put]
  refine HN (by kernel_rfl) ?_
  change Code.wp _ _ _ _ _
  refine wp_seq ?_
  by_cases h2 : ((x.floor : Int) : Rat) + 1 ≤ y
  case pos =>
   -- region 5
   refine RL ?_
   refine V rfl rfl (run_load_bx AgR rfl rfl (E.1) rfl) <| V rfl rfl (run_load_bx AgR rfl rfl (e10 E) rfl) <| ?_
   simp only [q2,q3]
   refine EF rfl (Oper.wp_callN fn_rational_Cmp rfl (Cmp_q _ _ _ _ (((x.floor : Int) : Rat) + ((1 : Int) : Rat)) _ _ _ _ y _ (E.2.2.1) (E.2.1) (e14 E) (e13 E) (FitQ.mono F18 (by decide)) (FitQ.mono Fy (by decide))) rfl E ?_)
   clear E
   intro w25 d25 E
   clear d25
   refine kw rfl ?_
   refine V rfl rfl (run_leI (c := true) rfl rfl rfl (cmpQ_le0 h2)) <| ?_
   simp only [q2,q3]
   refine WN ?_
   change Code.wp _ _ _ _ _
   refine wp_cond_true rfl ?_
   refine wp_seq ?_
   -- region 6
   refine RL ?_
   refine V rfl rfl (run_load_bx AgR rfl rfl (E.1) rfl) <| ?_
   have x27 := e5 E
   replace E := (((((E.2.2.2.2.2.2).i (e4 E)).i (e3 E)).i (E.2.2.1)).i (E.2.1)).x (E.1)
   simp only [q2,q3]
   refine EF rfl (Oper.wp_store AgR rfl rfl rfl x27 rfl rfl (one4 (IsI.one (E.2.2.1)) (IsI.one (E.2.1))) ?_)
   intro w26 o26 y26
   replace E := (E.onl (x27.noW (now4 now0 now0)) ⟨okX (by omega), trivial, trivial, trivial, trivial, okX (by omega), trivial, trivial, trivial, okX (by omega), okX (by omega), okX (by omega), trivial, trivial, trivial, trivial, okW (by omega), trivial⟩ o26).x y26
   clear x27 o26 y26
   refine kn rfl ?_
   refine WN ?_
   change Code.wp _ _ _ _ _
   refine wp_ret ?_
   have r28 := res_box AgR (E.1) rfl
   exact bodyPost_ret (v := .agg #[.bool n19, s19, .bool m19, t19]) (by simp [results, Tryz.results54, asAddr, r28]) rfl ⟨_, simp_next hx h1 h2, _, _, _, _, rfl, e3 E, E.2.2.1, e17 E⟩
  case neg =>
   have g1 := step_facts hx hxy h1 h2
   have g2 := step_pre hx hxy h1 h2
   have g3 := step_dens hx hxy h1 h2
   have g4 := step_fit hx hxy h1 h2 Fx Fy
   -- region 5
   refine RL ?_
   refine V rfl rfl (run_load_bx AgR rfl rfl (E.1) rfl) <| V rfl rfl (run_load_bx AgR rfl rfl (e10 E) rfl) <| ?_
   simp only [q2,q3]
   refine EF rfl (Oper.wp_callN fn_rational_Cmp rfl (Cmp_q _ _ _ _ (((x.floor : Int) : Rat) + ((1 : Int) : Rat)) _ _ _ _ y _ (E.2.2.1) (E.2.1) (e14 E) (e13 E) (FitQ.mono F18 (by decide)) (FitQ.mono Fy (by decide))) rfl E ?_)
   clear E
   intro w29 d29 E
   clear d29
   refine kw rfl ?_
   refine V rfl rfl (run_leI (c := false) rfl rfl rfl (cmpQ_nle0 h2)) <| ?_
   simp only [q2,q3]
   refine WN ?_
   change Code.wp _ _ _ _ _
   refine wp_cond_false rfl ?_
   refine wp_skip ?_
   change Code.wp _ _ _ _ _
   refine wp_seq ?_
   -- region 7
   refine RL ?_
   refine V rfl rfl (run_load_bx AgR rfl rfl (e10 E) rfl) <| V rfl rfl (run_load_bx AgR rfl rfl (e6 E) rfl) <| ?_
   simp only [q2,q3]
   refine EF rfl (Oper.wp_callP fn_rational_Sub rfl (Sub_q _ _ _ _ y _ _ _ _ ((x.floor : Int) : Rat) _ (e14 E) (e13 E) (e8 E) (e7 E) (FitQ.mono Fy (by decide)) (FitQ.mono F6 (by decide))) rfl E ?_)
   clear E
   intro w31 n31 s31 m31 t31 d31 E
   clear d31
   refine kw rfl ?_
   have F30 : FitQ (y - ((x.floor : Int) : Rat)) 2001 := FitQ_sub Fy F6
   simp only [q2,q3]
   refine EF rfl (Oper.wp_callPE fn_rational_Inv rfl (Inv_q _ _ _ _ (y - ((x.floor : Int) : Rat)) _ (E.2.1) (E.1) (pos_ne g1.1) (FitQ.mono F30 (by decide))) rfl E ?_)
   clear E
   intro w33 n33 s33 m33 t33 d33 E
   clear d33
   refine kw rfl ?_
   have F32 : FitQ ((y - ((x.floor : Int) : Rat))⁻¹) 2001 := FitQ_inv (pos_ne g1.1) F30
   refine M rfl rfl rfl rfl rfl <| V rfl rfl (run_extract (vs := [.agg #[.bool n33, s33, .bool m33, t33], .int .i64 0]) rfl rfl rfl) <| V rfl rfl (run_extract (vs := [.agg #[.bool n33, s33, .bool m33, t33], .int .i64 0]) rfl rfl rfl) <| ?_
   simp only [q2,q3]
   refine EF rfl (Oper.wp_alloc AgR rfl ?_)
   intro b34 w34 e34 z34 d34 x34
   have l34_0 : b21 < b34 := by rw [e34]; exact Bx.lt (e4 E)
   replace E := E.below d34
   clear e34 z34 d34
   refine kw rfl ?_
   simp only [q2,q3]
   refine EF rfl (Oper.wp_store AgR rfl rfl rfl x34 rfl rfl (one4 (IsI.one (E.2.1)) (IsI.one (E.1))) ?_)
   intro w35 o35 y35
   replace E := (E.onl (x34.noW (now4 now0 now0)) ⟨trivial, trivial, trivial, trivial, okX (by omega), trivial, trivial, trivial, trivial, okX (by omega), okX (by omega), trivial, trivial, trivial, okX (by omega), okX (by omega), okX (by omega), trivial, trivial, trivial, trivial, okW (by omega), trivial⟩ o35).x y35
   clear x34 o35 y35
   refine kn rfl ?_
   refine A rfl rfl rfl rfl rfl <| ?_
   simp only [q2,q3]
   refine WN ?_
   change Code.wp _ _ _ _ _
   refine wp_seq ?_
   -- region 8
   refine RL ?_
   refine V rfl rfl (run_load_bx AgR rfl rfl (e16 E) rfl) <| V rfl rfl (run_load_bx AgR rfl rfl (e11 E) rfl) <| ?_
   simp only [q2,q3]
   refine EF rfl (Oper.wp_callP fn_rational_Sub rfl (Sub_q _ _ _ _ x _ _ _ _ ((x.floor : Int) : Rat) _ (e21 E) (e20 E) (e13 E) (e12 E) (FitQ.mono Fx (by decide)) (FitQ.mono F6 (by decide))) rfl E ?_)
   clear E
   intro w37 n37 s37 m37 t37 d37 E
   clear d37
   refine kw rfl ?_
   have F36 : FitQ (x - ((x.floor : Int) : Rat)) 2001 := FitQ_sub Fx F6
   simp only [q2,q3]
   refine EF rfl (Oper.wp_callPE fn_rational_Inv rfl (Inv_q _ _ _ _ (x - ((x.floor : Int) : Rat)) _ (E.2.1) (E.1) (pos_ne g1.2.1) (FitQ.mono F36 (by decide))) rfl E ?_)
   clear E
   intro w39 n39 s39 m39 t39 d39 E
   clear d39
   refine kw rfl ?_
   have F38 : FitQ ((x - ((x.floor : Int) : Rat))⁻¹) 2001 := FitQ_inv (pos_ne g1.2.1) F36
   refine M rfl rfl rfl rfl rfl <| V rfl rfl (run_extract (vs := [.agg #[.bool n39, s39, .bool m39, t39], .int .i64 0]) rfl rfl rfl) <| V rfl rfl (run_extract (vs := [.agg #[.bool n39, s39, .bool m39, t39], .int .i64 0]) rfl rfl rfl) <| ?_
   simp only [q2,q3]
   refine EF rfl (Oper.wp_alloc AgR rfl ?_)
   intro b40 w40 e40 z40 d40 x40
   have l40_0 : b34 < b40 := by rw [e40]; exact Bx.lt (e4 E)
   replace E := E.below d40
   clear e40 z40 d40
   refine kw rfl ?_
   simp only [q2,q3]
   refine EF rfl (Oper.wp_store AgR rfl rfl rfl x40 rfl rfl (one4 (IsI.one (E.2.1)) (IsI.one (E.1))) ?_)
   intro w41 o41 y41
   replace E := (E.onl (x40.noW (now4 now0 now0)) ⟨trivial, trivial, trivial, trivial, okX (by omega), trivial, trivial, trivial, trivial, okX (by omega), trivial, trivial, trivial, trivial, okX (by omega), okX (by omega), trivial, trivial, trivial, okX (by omega), okX (by omega), okX (by omega), trivial, trivial, trivial, trivial, okW (by omega), trivial⟩ o41).x y41
   clear x40 o41 y41
   refine kn rfl ?_
   refine A rfl rfl rfl rfl rfl <| ?_
   simp only [q2,q3]
   refine WN ?_
   change Code.wp _ _ _ _ _
   refine wp_seq ?_
   -- region 9
   refine RL ?_
   refine V rfl rfl (run_cell rfl isAgg_fn rfl (e22 E) rfl) <| V rfl rfl (run_load_bx AgR rfl rfl (e5 E) rfl) <| V rfl rfl (run_load_bx AgR rfl rfl (E.1) rfl) <| ?_
   simp only [q2,q3]
   refine EF rfl (Oper.wp_callC (caps := [.pointer (some ⟨b, 0, none⟩)]) (vs := [.agg #[.bool n33, s33, .bool m33, t33], .agg #[.bool n39, s39, .bool m39, t39]]) fn_rational_Between_1 rfl rfl (ih _ _ _ _ ((y - ((x.floor : Int) : Rat))⁻¹) _ _ _ _ ((x - ((x.floor : Int) : Rat))⁻¹) _ (e7 E) (e6 E) (E.2.2.1) (E.2.1) (e22 E) g2.1 g2.2 (by have := g3.1; omega) g4.1 g4.2) rfl rfl ?_)
   rintro _ w42 ⟨c, hc, n42, s42, m42, t42, rfl, p42, q42, d42⟩
   have Fc := simp_fit hc g2.1 g2.2 g4.1
   refine ⟨_, rfl, ?_⟩
   replace E := ((E.below d42).i p42).i q42
   clear d42
   refine kw rfl ?_
   simp only [q2,q3]
   refine EF rfl (Oper.wp_callPE fn_rational_Inv rfl (Inv_q _ _ _ _ c _ (E.2.1) (E.1) (pos_ne (lt_of_lt_le g2.1 hc.lo)) (FitQ.mono Fc (by decide))) rfl E ?_)
   clear E
   intro w44 n44 s44 m44 t44 d44 E
   clear d44
   refine kw rfl ?_
   have F43 : FitQ (c⁻¹) 1000 := FitQ_inv (pos_ne (lt_of_lt_le g2.1 hc.lo)) Fc
   refine M rfl rfl rfl rfl rfl <| V rfl rfl (run_extract (vs := [.agg #[.bool n44, s44, .bool m44, t44], .int .i64 0]) rfl rfl rfl) <| V rfl rfl (run_extract (vs := [.agg #[.bool n44, s44, .bool m44, t44], .int .i64 0]) rfl rfl rfl) <| ?_
   simp only [q2,q3]
   refine EF rfl (Oper.wp_alloc AgR rfl ?_)
   intro b45 w45 e45 z45 d45 x45
   have l45_0 : b40 < b45 := by rw [e45]; exact Bx.lt (e4 E)
   replace E := E.below d45
   clear e45 z45 d45
   refine kw rfl ?_
   simp only [q2,q3]
   refine EF rfl (Oper.wp_store AgR rfl rfl rfl x45 rfl rfl (one4 (IsI.one (E.2.1)) (IsI.one (E.1))) ?_)
   intro w46 o46 y46
   replace E := (E.onl (x45.noW (now4 now0 now0)) ⟨trivial, trivial, trivial, trivial, okX (by omega), trivial, trivial, trivial, trivial, okX (by omega), trivial, trivial, trivial, trivial, okX (by omega), trivial, trivial, trivial, trivial, okX (by omega), okX (by omega), trivial, trivial, trivial, okX (by omega), okX (by omega), okX (by omega), trivial, trivial, trivial, trivial, okW (by omega), trivial⟩ o46).x y46
   clear x45 o46 y46
   refine kn rfl ?_
   refine A rfl rfl rfl rfl rfl <| ?_
   simp only [q2,q3]
   refine WN ?_
   change Code.wp _ _ _ _ _
   refine wp_seq ?_
   -- region 10
   refine RL ?_
   refine V rfl rfl (run_load_bx AgR rfl rfl (e21 E) rfl) <| V rfl rfl (run_load_bx AgR rfl rfl (E.1) rfl) <| ?_
   simp only [q2,q3]
   refine EF rfl (Oper.wp_callP fn_rational_Add rfl (Add_q _ _ _ _ ((x.floor : Int) : Rat) _ _ _ _ (c⁻¹) _ (e23 E) (e22 E) (E.2.2.1) (E.2.1) (FitQ.mono F6 (by decide)) (FitQ.mono F43 (by decide))) rfl E ?_)
   clear E
   intro w48 n48 s48 m48 t48 d48 E
   clear d48
   refine kw rfl ?_
   have F47 : FitQ (((x.floor : Int) : Rat) + (c⁻¹)) 2001 := FitQ_add F6 F43
   have x50 := e22 E
   replace E := ((((((((((((((((((((((E.2.2.2.2.2.2.2.2.2.2.2.2.2.2.2.2.2.2.2.2.2.2.2).i (e21 E)).i (e20 E)).i (e19 E)).i (e18 E)).x (e17 E)).i (e16 E)).i (e15 E)).i (e14 E)).i (e13 E)).x (e12 E)).i (e11 E)).i (e10 E)).i (e9 E)).i (e8 E)).x (e7 E)).i (e6 E)).i (e5 E)).i (e4 E)).i (e3 E)).x (E.2.2.1)).i (E.2.1)).i (E.1)
   simp only [q2,q3]
   refine EF rfl (Oper.wp_store AgR rfl rfl rfl x50 rfl rfl (one4 (IsI.one (E.2.1)) (IsI.one (E.1))) ?_)
   intro w49 o49 y49
   replace E := (E.onl (x50.noW (now4 now0 now0)) ⟨trivial, trivial, okX (by omega), trivial, trivial, trivial, trivial, okX (by omega), trivial, trivial, trivial, trivial, okX (by omega), trivial, trivial, trivial, trivial, okX (by omega), trivial, trivial, trivial, trivial, okX (by omega), trivial, trivial, trivial, okX (by omega), okX (by omega), okX (by omega), trivial, trivial, trivial, trivial, okW (by omega), trivial⟩ o49).x y49
   clear x50 o49 y49
   refine kn rfl ?_
   refine WN ?_
   change Code.wp _ _ _ _ _
   refine wp_ret ?_
   have r51 := res_box AgR (E.1) rfl
   exact bodyPost_ret (v := .agg #[.bool n48, s48, .bool m48, t48]) (by simp [results, Tryz.results54, asAddr, r51]) rfl ⟨_, simp_step hx hxy h1 h2 hc, _, _, _, _, rfl, E.2.2.1, E.2.1, E.2.2.2.2.2.2.2.2.2.2.2.2.2.2.2.2.2.2.2.2.2.2.2.2.2.2.2.2.2.2.2.2.2.2.1⟩
theorem search_ok (b k : Nat) : SearchOk b k := by
  induction k with
  | zero =>
    intro na sa ma ta x nb sb mb tb y w _ _ _ _ _ _ _ hk _ _
    exact absurd hk (Nat.not_le.2 (Nat.lt_of_lt_of_le x.den_pos (Nat.le_add_right _ _)))
  | succ k ih =>
    intro na sa ma ta x nb sb mb tb y w h1 h2 h3 h4 hb hx hxy hk Fx Fy
    exact search_step b k na sa ma ta x nb sb mb tb y w h1 h2 h3 h4 hb hx hxy hk ih Fx Fy
theorem search_q (na : Bool) (sa : Value) (ma : Bool) (ta : Value) (x : Rat) (nb : Bool) (sb : Value) (mb : Bool) (tb : Value) (y : Rat) (b : Nat) (w : World) (hna : IsI w (.agg #[.bool na, sa]) x.num) (hda : IsI w (.agg #[.bool ma, ta]) ((x.den : Nat) : Int)) (hnb : IsI w (.agg #[.bool nb, sb]) y.num) (hdb : IsI w (.agg #[.bool mb, tb]) ((y.den : Nat) : Int))
    (hb : Bx w b 34 [.func (.func 54) #[] #[.pointer (some ⟨b, 0, none⟩)]]) (hx : 0 < x) (hxy : x ≤ y) (Fx : FitQ x 1000) (Fy : FitQ y 1000) :
    Calls Tryz.prog 54 #[.agg #[.bool na, sa, .bool ma, ta], .agg #[.bool nb, sb, .bool mb, tb], .pointer (some ⟨b, 0, none⟩)] w (RetSm w x y) :=
  search_ok b _ na sa ma ta x nb sb mb tb y w hna hda hnb hdb hb hx hxy (Nat.le_refl _) Fx Fy
/-- c is what Between returns for x and y, x not greater. -/
def IsBet (c x y : Rat) : Prop := (0 < x ∧ IsSimp c x y) ∨ (y < 0 ∧ IsSimp (-c) (-y) (-x)) ∨ (¬ 0 < x ∧ ¬ y < 0 ∧ c = ((0 : Int) : Rat))
theorem IsBet.unique {c d x y : Rat} (hxy : x ≤ y) (h : IsBet c x y) (g : IsBet d x y) : c = d := by
  rcases h with ⟨h1, h2⟩ | ⟨h1, h2⟩ | ⟨h1, h2, h3⟩ <;> rcases g with ⟨g1, g2⟩ | ⟨g1, g2⟩ | ⟨g1, g2, g3⟩
  · exact h2.unique g2
  · exact absurd (lt_of_lt_le h1 hxy) (fun k => Rat.lt_irrefl (lt_of_lt_le k (Rat.le_of_lt g1)))
  · exact absurd h1 g1
  · exact absurd (lt_of_lt_le g1 hxy) (fun k => Rat.lt_irrefl (lt_of_lt_le k (Rat.le_of_lt h1)))
  · have := h2.unique g2; rw [← Rat.neg_neg c, this, Rat.neg_neg]
  · exact absurd h1 g2
  · exact absurd g1 h1
  · exact absurd g1 h2
  · rw [h3, g3]
def RetBt (w0 : World) (x y : Rat) (e : Ending) (w' : World) : Prop := ∃ c : Rat, IsBet c x y ∧ RetPE w0 c.num ((c.den : Nat) : Int) 0 e w'
theorem cmpQ_gt0 {x y : Rat} (h : ¬ x ≤ y) : decide (cmpQ x y > 0) = true := by
  rcases cmpQ_vals x y with ⟨g, _⟩ | ⟨g, _⟩ | ⟨_, e⟩
  · exact absurd (Rat.le_of_lt g) h
  · subst g; exact absurd Rat.le_refl h
  · rw [e]; rfl
theorem cmpQ_ngt0 {x y : Rat} (h : x ≤ y) : decide (cmpQ x y > 0) = false := by
  rcases cmpQ_vals x y with ⟨_, e⟩ | ⟨_, e⟩ | ⟨g, _⟩
  · rw [e]; rfl
  · rw [e]; rfl
  · exact absurd h (Rat.not_le.2 g)
theorem neg_num {x : Rat} : x < 0 ↔ x.num < 0 := by rw [Rat.lt_iff]; simp
theorem sgnQ_le {x : Rat} (h : ¬ 0 < x) : decide (sgn x.num ≤ 0) = true := by
  have h' : ¬ 0 < x.num := fun g => h (pos_num.2 g)
  rcases sgn_vals x.num with ⟨_, e⟩ | ⟨_, e⟩ | ⟨g, _⟩
  · rw [e]; rfl
  · rw [e]; rfl
  · omega
theorem sgnQ_nle {x : Rat} (h : 0 < x) : decide (sgn x.num ≤ 0) = false := by rw [sgnQ_pos (pos_num.1 h)]; rfl
theorem sgnQ_ge {x : Rat} (h : ¬ x < 0) : decide (sgn x.num ≥ 0) = true := by
  have h' : ¬ x.num < 0 := fun g => h (neg_num.2 g)
  rcases sgn_vals x.num with ⟨_, e⟩ | ⟨_, e⟩ | ⟨g, e⟩
  · omega
  · rw [e]; rfl
  · rw [e]; rfl
theorem sgnQ_nge {x : Rat} (h : x < 0) : decide (sgn x.num ≥ 0) = false := by rw [sgnQ_neg (neg_num.1 h)]; rfl
theorem sgnQ_lt {x : Rat} (h : x < 0) : decide (sgn x.num < 0) = true := by rw [sgnQ_neg (neg_num.1 h)]; rfl
theorem sgnQ_nlt {x : Rat} (h : ¬ x < 0) : decide (sgn x.num < 0) = false := by
  have h' : ¬ x.num < 0 := fun g => h (neg_num.2 g)
  rcases sgn_vals x.num with ⟨_, e⟩ | ⟨_, e⟩ | ⟨g, e⟩
  · omega
  · rw [e]; rfl
  · rw [e]; rfl
theorem negpos {x : Rat} (h : x < 0) : 0 < -x := by rw [pos_num, negQ_num]; have := neg_num.1 h; omega
theorem nn_now {w : World} {b : Nat} (h : Bx w b 34 [.nilFunc]) : NoW w b := h.noW (by intro c hc n e; subst e; simp at hc)
set_option maxRecDepth 100000 in
set_option maxHeartbeats 8000000 in
theorem Between_gt  (na : Bool) (sa : Value) (ma : Bool) (ta : Value) (x : Rat) (nb : Bool) (sb : Value) (mb : Bool) (tb : Value) (y : Rat)  (w : World)  (hna : IsI w (.agg #[.bool na, sa]) x.num) (hda : IsI w (.agg #[.bool ma, ta]) ((x.den : Nat) : Int)) (hnb : IsI w (.agg #[.bool nb, sb]) y.num) (hdb : IsI w (.agg #[.bool mb, tb]) ((y.den : Nat) : Int)) (hxy : ¬ x ≤ y) (Fx : FitQ x 1000) (Fy : FitQ y 1000) :
    Calls Tryz.prog 21 #[.agg #[.bool na, sa, .bool ma, ta], .agg #[.bool nb, sb, .bool mb, tb]] w (RetPE w 0 0 1) := by
 have E := Env.start w
 replace E := (E.i hna).i hda
 clear hna hda
 replace E := (E.i hnb).i hdb
 clear hnb hdb
 go_enter Tryz.func21, Tryz.ntmps21
 refine wp_seq ?_
 -- region 0
 refine RL ?_
 refine EF rfl (Oper.wp_box (cs := [.bool na, sa, .bool ma, ta]) rfl rfl ?_)
 intro b1 w1 e1 z1 d1 x1
 have l1 : w.heap.size ≤ b1 := by rw [e1]; exact (e4 E).size
 replace E := E.below d1
 clear e1 z1 d1
 replace E := E.x x1
 clear x1
 refine kw rfl ?_
 simp only [q2,q3]
 refine EF rfl (Oper.wp_box (cs := [.bool nb, sb, .bool mb, tb]) rfl rfl ?_)
 intro b2 w2 e2 z2 d2 x2
 have l2_0 : b1 < b2 := by rw [e2]; exact Bx.lt (E.1)
 replace E := E.below d2
 clear e2 z2 d2
 replace E := E.x x2
 clear x2
 refine kw rfl ?_
 simp only [q2,q3]
 refine EF rfl (Oper.wp_alloc AgR rfl ?_)
 intro b3 w3 e3 z3 d3 x3
 have l3_0 : b2 < b3 := by rw [e3]; exact Bx.lt (E.1)
 replace E := E.below d3
 clear e3 z3 d3
 refine kw rfl ?_
 refine AC rfl rfl rfl rfl <| ?_
 simp only [q2,q3]
 refine WN ?_
 change Code.wp _ _ _ _ _
 refine wp_seq ?_
 refine wp_seq ?_
 -- region 1
 refine RL ?_
 refine V rfl rfl (run_load_bx AgR rfl rfl (E.2.1) rfl) <| V rfl rfl (run_load_bx AgR rfl rfl (E.1) rfl) <| ?_
 simp only [q2,q3]
 refine EF rfl (Oper.wp_callN fn_rational_Cmp rfl (Cmp_q _ _ _ _ x _ _ _ _ y _ (e5 E) (e4 E) (e3 E) (E.2.2.1) (FitQ.mono Fx (by decide)) (FitQ.mono Fy (by decide))) rfl E ?_)
 clear E
 intro w4 d4 E
 replace x3 := x3.below d4
 clear d4
 refine kw rfl ?_
 refine V rfl rfl (run_gtI (c := true) rfl rfl rfl (cmpQ_gt0 hxy)) <| ?_
 simp only [q2,q3]
 refine WN ?_
 change Code.wp _ _ _ _ _
 refine wp_cond_true rfl ?_
 refine wp_seq ?_
 -- region 2
 refine RL ?_
 refine V (v := .agg #[.bool false, .slice none 0 0, .bool false, .slice none 0 0]) rfl rfl (run_buildR0 rfl) <| ?_
 simp only [q2,q3]
 refine EF rfl (Oper.wp_store AgR rfl rfl rfl x3 rfl rfl (one4 one0 one0) ?_)
 intro w5 o5 y5
 replace E := (E.onl (x3.noW (now4 now0 now0)) ⟨okX (by omega), okX (by omega), trivial, trivial, trivial, trivial, okW (by omega), trivial⟩ o5).x y5
 clear x3 o5 y5
 refine kn rfl ?_
 refine AC rfl rfl rfl rfl <| ?_
 simp only [q2,q3]
 refine WN ?_
 change Code.wp _ _ _ _ _
 refine wp_ret ?_
 have r6 := res_box AgR (E.1) rfl
 exact bodyPost_ret (v := .tuple #[.agg #[.bool false, .slice none 0 0, .bool false, .slice none 0 0], .int .i64 1]) (by simp [results, Tryz.results21, asAddr, r6]) rfl ⟨_, _, _, _, rfl, eqZ rfl (zero_i _), eqZ rfl (zero_i _), e7 E⟩
set_option maxRecDepth 100000 in
set_option maxHeartbeats 8000000 in
theorem Between_le  (na : Bool) (sa : Value) (ma : Bool) (ta : Value) (x : Rat) (nb : Bool) (sb : Value) (mb : Bool) (tb : Value) (y : Rat)  (w : World)  (hna : IsI w (.agg #[.bool na, sa]) x.num) (hda : IsI w (.agg #[.bool ma, ta]) ((x.den : Nat) : Int)) (hnb : IsI w (.agg #[.bool nb, sb]) y.num) (hdb : IsI w (.agg #[.bool mb, tb]) ((y.den : Nat) : Int)) (hxy : x ≤ y) (Fx : FitQ x 1000) (Fy : FitQ y 1000) :
    Calls Tryz.prog 21 #[.agg #[.bool na, sa, .bool ma, ta], .agg #[.bool nb, sb, .bool mb, tb]] w (RetBt w x y) := by
 have E := Env.start w
 replace E := (E.i hna).i hda
 clear hna hda
 replace E := (E.i hnb).i hdb
 clear hnb hdb
 go_enter Tryz.func21, Tryz.ntmps21
 refine wp_seq ?_
 -- region 0
 refine RL ?_
 refine EF rfl (Oper.wp_box (cs := [.bool na, sa, .bool ma, ta]) rfl rfl ?_)
 intro b1 w1 e1 z1 d1 x1
 have l1 : w.heap.size ≤ b1 := by rw [e1]; exact (e4 E).size
 replace E := E.below d1
 clear e1 z1 d1
 replace E := E.x x1
 clear x1
 refine kw rfl ?_
 simp only [q2,q3]
 refine EF rfl (Oper.wp_box (cs := [.bool nb, sb, .bool mb, tb]) rfl rfl ?_)
 intro b2 w2 e2 z2 d2 x2
 have l2_0 : b1 < b2 := by rw [e2]; exact Bx.lt (E.1)
 replace E := E.below d2
 clear e2 z2 d2
 replace E := E.x x2
 clear x2
 refine kw rfl ?_
 simp only [q2,q3]
 refine EF rfl (Oper.wp_alloc AgR rfl ?_)
 intro b3 w3 e3 z3 d3 x3
 have l3_0 : b2 < b3 := by rw [e3]; exact Bx.lt (E.1)
 replace E := E.below d3
 clear e3 z3 d3
 refine kw rfl ?_
 refine AC rfl rfl rfl rfl <| ?_
 simp only [q2,q3]
 refine WN ?_
 change Code.wp _ _ _ _ _
 refine wp_seq ?_
 refine wp_seq ?_
 -- region 1
 refine RL ?_
 refine V rfl rfl (run_load_bx AgR rfl rfl (E.2.1) rfl) <| V rfl rfl (run_load_bx AgR rfl rfl (E.1) rfl) <| ?_
 simp only [q2,q3]
 refine EF rfl (Oper.wp_callN fn_rational_Cmp rfl (Cmp_q _ _ _ _ x _ _ _ _ y _ (e5 E) (e4 E) (e3 E) (E.2.2.1) (FitQ.mono Fx (by decide)) (FitQ.mono Fy (by decide))) rfl E ?_)
 clear E
 intro w4 d4 E
 replace x3 := x3.below d4
 clear d4
 refine kw rfl ?_
 refine V rfl rfl (run_gtI (c := false) rfl rfl rfl (cmpQ_ngt0 hxy)) <| ?_
 simp only [q2,q3]
 refine WN ?_
 change Code.wp _ _ _ _ _
 refine wp_cond_false rfl ?_
 refine wp_skip ?_
 change Code.wp _ _ _ _ _
 refine wp_seq ?_
 refine wp_seq ?_
 by_cases hx : 0 < x
 case pos =>
  -- region 3
  refine RL ?_
  refine V rfl rfl (run_load_bx AgR rfl rfl (E.2.1) rfl) <| ?_
  simp only [q2,q3]
  refine EF rfl (Oper.wp_callN fn_rational_Sign rfl (Sign_q _ _ _ _ x _ (e5 E) (e4 E)) rfl E ?_)
  clear E
  intro w5 d5 E
  replace x3 := x3.below d5
  clear d5
  refine kw rfl ?_
  refine V rfl rfl (run_leI (c := false) rfl rfl rfl (sgnQ_nle hx)) <| M rfl rfl rfl rfl rfl <| L0C (by kernel_rfl) rfl <| L0C (by kernel_rfl) rfl <| ?_
  simp only [q2,q3]
  refine L0C (by kernel_rfl) rfl <| V (v := .bool false) rfl rfl (run_pick (b := false) rfl rfl rfl) <| ?_
  simp only [q2,q3]
  refine WN ?_
  change Code.wp _ _ _ _ _
  refine wp_cond_false rfl ?_
  refine wp_skip ?_
  change Code.wp _ _ _ _ _
  refine wp_seq ?_
  -- region 5
  refine RL ?_
  refine EF rfl (Oper.wp_allocF rfl ?_)
  intro b6 w6 e6 z6 d6 x6
  have l6_0 : b3 < b6 := by rw [e6]; exact Bx.lt (x3)
  replace E := E.below d6
  replace x3 := Bx.below x3 d6
  clear e6 z6 d6
  refine kw rfl ?_
  simp only [q2,q3]
  refine WN ?_
  change Code.wp _ _ _ _ _
  refine wp_seq ?_
  -- region 6
  refine RL ?_
  refine V (v := .func (.func 54) #[] #[.pointer (some ⟨b6, 0, none⟩)]) rfl rfl (run_func rfl rfl) <| ?_
  simp only [q2,q3]
  refine EF rfl (Oper.wp_storeF rfl rfl rfl rfl rfl x6 ?_)
  intro w7 o7 y7
  replace E := (E.onl (nn_now x6) ⟨okX (by omega), okX (by omega), trivial, trivial, trivial, trivial, okW (by omega), trivial⟩ o7).x y7
  replace x3 := Bx.onl x3 (by omega) o7
  clear x6 o7 y7
  refine kn rfl ?_
  refine WN ?_
  change Code.wp _ _ _ _ _
  refine wp_seq ?_
  refine wp_seq ?_
  -- region 7
  refine RL ?_
  refine V rfl rfl (run_load_bx AgR rfl rfl (E.2.1) rfl) <| ?_
  simp only [q2,q3]
  refine EF rfl (Oper.wp_callN fn_rational_Sign rfl (Sign_q _ _ _ _ y _ (e4 E) (e3 E)) rfl E ?_)
  clear E
  intro w8 d8 E
  replace x3 := x3.below d8
  clear d8
  refine kw rfl ?_
  refine V rfl rfl (run_ltI (c := false) rfl rfl rfl (sgnQ_nlt (fun g => Rat.lt_irrefl (lt_of_lt_le (lt_of_lt_le hx hxy) (Rat.le_of_lt g))))) <| ?_
  simp only [q2,q3]
  refine WN ?_
  change Code.wp _ _ _ _ _
  refine wp_cond_false rfl ?_
  refine wp_skip ?_
  change Code.wp _ _ _ _ _
  refine wp_seq ?_
  -- region 9
  refine RL ?_
  refine V rfl rfl (run_cell rfl isAgg_fn rfl (E.1) rfl) <| V rfl rfl (run_load_bx AgR rfl rfl (E.2.2.1) rfl) <| V rfl rfl (run_load_bx AgR rfl rfl (E.2.1) rfl) <| ?_
  simp only [q2,q3]
  refine EF rfl (Oper.wp_callC (caps := [.pointer (some ⟨b6, 0, none⟩)]) (vs := [.agg #[.bool na, sa, .bool ma, ta], .agg #[.bool nb, sb, .bool mb, tb]]) fn_rational_Between_1 rfl rfl (search_q _ _ _ _ x _ _ _ _ y b6 _ (e6 E) (e5 E) (e4 E) (e3 E) (E.1) hx hxy Fx Fy) rfl rfl ?_)
  rintro _ w9 ⟨c, hc, n9, s9, m9, t9, rfl, p9, q9, d9⟩
  have Fc : FitQ c 1000 := simp_fit hc hx hxy Fx
  refine ⟨_, rfl, ?_⟩
  replace E := ((E.below d9).i p9).i q9
  replace x3 := x3.below d9
  clear d9
  refine kw rfl ?_
  simp only [q2,q3]
  refine EF rfl (Oper.wp_store AgR rfl rfl rfl x3 rfl rfl (one4 (IsI.one (E.2.1)) (IsI.one (E.1))) ?_)
  intro w10 o10 y10
  replace E := (E.onl (x3.noW (now4 now0 now0)) ⟨trivial, trivial, okX (by omega), okX (by omega), okX (by omega), trivial, trivial, trivial, trivial, okW (by omega), trivial⟩ o10).x y10
  clear x3 o10 y10
  refine kn rfl ?_
  refine AC rfl rfl rfl rfl <| ?_
  simp only [q2,q3]
  refine WN ?_
  change Code.wp _ _ _ _ _
  refine wp_ret ?_
  have r11 := res_box AgR (E.1) rfl
  exact bodyPost_ret (v := .tuple #[.agg #[.bool n9, s9, .bool m9, t9], .int .i64 0]) (by simp [results, Tryz.results21, asAddr, r11]) rfl ⟨_, .inl ⟨hx, hc⟩, _, _, _, _, rfl, E.2.2.1, E.2.1, e10 E⟩
 case neg =>
  by_cases hy : y < 0
  case pos =>
   -- region 3
   refine RL ?_
   refine V rfl rfl (run_load_bx AgR rfl rfl (E.2.1) rfl) <| ?_
   simp only [q2,q3]
   refine EF rfl (Oper.wp_callN fn_rational_Sign rfl (Sign_q _ _ _ _ x _ (e5 E) (e4 E)) rfl E ?_)
   clear E
   intro w12 d12 E
   replace x3 := x3.below d12
   clear d12
   refine kw rfl ?_
   refine V rfl rfl (run_leI (c := true) rfl rfl rfl (sgnQ_le hx)) <| M rfl rfl rfl rfl rfl <| V (by kernel_rfl) rfl (run_load_bx AgR rfl rfl (E.1) rfl) <| ?_
   simp only [q2,q3]
   refine EF rfl (Oper.wp_callN fn_rational_Sign rfl (Sign_q _ _ _ _ y _ (e3 E) (E.2.2.1)) rfl E ?_)
   clear E
   intro w13 d13 E
   replace x3 := x3.below d13
   clear d13
   refine kw rfl ?_
   refine V (by kernel_rfl) rfl (run_geI (c := false) rfl rfl rfl (sgnQ_nge hy)) <| V (v := .bool false) rfl rfl (run_pick (b := true) rfl rfl rfl) <| ?_
   simp only [q2,q3]
   refine WN ?_
   change Code.wp _ _ _ _ _
   refine wp_cond_false rfl ?_
   refine wp_skip ?_
   change Code.wp _ _ _ _ _
   refine wp_seq ?_
   -- region 5
   refine RL ?_
   refine EF rfl (Oper.wp_allocF rfl ?_)
   intro b14 w14 e14 z14 d14 x14
   have l14_0 : b3 < b14 := by rw [e14]; exact Bx.lt (x3)
   replace E := E.below d14
   replace x3 := Bx.below x3 d14
   clear e14 z14 d14
   refine kw rfl ?_
   simp only [q2,q3]
   refine WN ?_
   change Code.wp _ _ _ _ _
   refine wp_seq ?_
   -- region 6
   refine RL ?_
   refine V (v := .func (.func 54) #[] #[.pointer (some ⟨b14, 0, none⟩)]) rfl rfl (run_func rfl rfl) <| ?_
   simp only [q2,q3]
   refine EF rfl (Oper.wp_storeF rfl rfl rfl rfl rfl x14 ?_)
   intro w15 o15 y15
   replace E := (E.onl (nn_now x14) ⟨okX (by omega), okX (by omega), trivial, trivial, trivial, trivial, okW (by omega), trivial⟩ o15).x y15
   replace x3 := Bx.onl x3 (by omega) o15
   clear x14 o15 y15
   refine kn rfl ?_
   refine WN ?_
   change Code.wp _ _ _ _ _
   refine wp_seq ?_
   refine wp_seq ?_
   -- region 7
   refine RL ?_
   refine V rfl rfl (run_load_bx AgR rfl rfl (E.2.1) rfl) <| ?_
   simp only [q2,q3]
   refine EF rfl (Oper.wp_callN fn_rational_Sign rfl (Sign_q _ _ _ _ y _ (e4 E) (e3 E)) rfl E ?_)
   clear E
   intro w16 d16 E
   replace x3 := x3.below d16
   clear d16
   refine kw rfl ?_
   refine V rfl rfl (run_ltI (c := true) rfl rfl rfl (sgnQ_lt hy)) <| ?_
   simp only [q2,q3]
   refine WN ?_
   change Code.wp _ _ _ _ _
   refine wp_cond_true rfl ?_
   refine wp_seq ?_
   -- region 8
   refine wp_schedE E ([0, 1, 3, 2, 4, 5, 6, 7, 8]) (by kernel_rfl) (by kernel_rfl) (by kernel_rfl) (by kernel_rfl) (by intro d v c a w h; cases d <;> exact h) ?_
   replace E := E.drew
   replace x3 := Bx.drew x3
   refine SW rfl rfl rfl rfl rfl (fun w hS => run_cell rfl isAgg_fn rfl (hS.1) rfl) <| SW rfl rfl rfl rfl rfl (fun w hS => run_load_bx AgR rfl rfl (hS.2.1) rfl) <| SW rfl rfl rfl rfl rfl (fun w hS => run_load_bx AgR rfl rfl (hS.2.2.1) rfl) <| ?_
   simp only [q2,q3]
   refine S1a (o := ⟨some 27, _, _, _, _, _⟩) rfl rfl rfl rfl (Oper.wp_callP fn_rational_Neg rfl (Neg_q _ _ _ _ y _ (e4 E) (e3 E) (FitQ.mono Fy (by decide))) rfl E ?_)
   clear E
   intro w18 n18 s18 m18 t18 d18 E
   replace x3 := x3.below d18
   clear d18
   refine ⟨E.2.2, ?_⟩
   simp only [Act.put,q1,q2,q3]
   have F17 : FitQ (-y) 1000 := FitQ_neg Fy
   refine S1a (o := ⟨some 29, _, _, _, _, _⟩) rfl rfl rfl rfl (Oper.wp_callP fn_rational_Neg rfl (Neg_q _ _ _ _ x _ (e8 E) (e7 E) (FitQ.mono Fx (by decide))) rfl E ?_)
   clear E
   intro w20 n20 s20 m20 t20 d20 E
   replace x3 := x3.below d20
   clear d20
   refine ⟨E.2.2.2.2, ?_⟩
   simp only [Act.put,q1,q2,q3]
   have F19 : FitQ (-x) 1000 := FitQ_neg Fx
   refine S1a (o := ⟨some 30, _, _, _, _, _⟩) rfl rfl rfl rfl (Oper.wp_callC (caps := [.pointer (some ⟨b14, 0, none⟩)]) (vs := [.agg #[.bool n18, s18, .bool m18, t18], .agg #[.bool n20, s20, .bool m20, t20]]) fn_rational_Between_1 rfl rfl (search_q _ _ _ _ (-y) _ _ _ _ (-x) b14 _ (e3 E) (E.2.2.1) (E.2.1) (E.1) (e4 E) (negpos hy) (Rat.neg_le_neg hxy) (FitQ_neg Fy) (FitQ_neg Fx)) rfl rfl ?_)
   rintro _ w21 ⟨c, hc, n21, s21, m21, t21, rfl, p21, q21, d21⟩
   have Fc : FitQ c 1000 := simp_fit hc (negpos hy) (Rat.neg_le_neg hxy) (FitQ_neg Fy)
   refine ⟨_, rfl, ?_⟩
   replace E := ((E.below d21).i p21).i q21
   replace x3 := x3.below d21
   clear d21
   refine ⟨E.2.2.2.2.2.2, ?_⟩
   simp only [Act.put,q1,q2,q3]
   refine S1a (o := ⟨some 31, _, _, _, _, _⟩) rfl rfl rfl rfl (Oper.wp_callP fn_rational_Neg rfl (Neg_q _ _ _ _ c _ (E.2.1) (E.1) (FitQ.mono Fc (by decide))) rfl E ?_)
   clear E
   intro w23 n23 s23 m23 t23 d23 E
   replace x3 := x3.below d23
   clear d23
   refine ⟨E.2.2.2.2.2.2.2.2, ?_⟩
   simp only [Act.put,q1,q2,q3]
   have F22 : FitQ (-c) 1000 := FitQ_neg Fc
   refine S1a (o := ⟨none, _, _, _, _, _⟩) rfl rfl rfl rfl (Oper.wp_store AgR rfl rfl rfl x3 rfl rfl (one4 (IsI.one (E.2.1)) (IsI.one (E.1))) ?_)
   intro w24 o24 y24
   replace E := (E.onl (x3.noW (now4 now0 now0)) ⟨trivial, trivial, trivial, trivial, trivial, trivial, trivial, trivial, okX (by omega), okX (by omega), okX (by omega), trivial, trivial, trivial, trivial, okW (by omega), trivial⟩ o24).x y24
   clear x3 o24 y24
   refine ⟨E.2.2.2.2.2.2.2.2.2, ?_⟩
   simp only [Act.put]
   refine SAC rfl rfl rfl rfl rfl rfl rfl <| ?_
   simp only [q2,q3]
   refine SN ?_
   change Code.wp _ _ _ _ _
   refine wp_ret ?_
   have r25 := res_box AgR (E.1) rfl
   exact bodyPost_ret (v := .tuple #[.agg #[.bool n23, s23, .bool m23, t23], .int .i64 0]) (by simp [results, Tryz.results21, asAddr, r25]) rfl ⟨_, .inr (.inl ⟨hy, by rw [Rat.neg_neg]; exact hc⟩), _, _, _, _, rfl, E.2.2.1, E.2.1, e16 E⟩
  case neg =>
   -- region 3
   refine RL ?_
   refine V rfl rfl (run_load_bx AgR rfl rfl (E.2.1) rfl) <| ?_
   simp only [q2,q3]
   refine EF rfl (Oper.wp_callN fn_rational_Sign rfl (Sign_q _ _ _ _ x _ (e5 E) (e4 E)) rfl E ?_)
   clear E
   intro w26 d26 E
   replace x3 := x3.below d26
   clear d26
   refine kw rfl ?_
   refine V rfl rfl (run_leI (c := true) rfl rfl rfl (sgnQ_le hx)) <| M rfl rfl rfl rfl rfl <| V (by kernel_rfl) rfl (run_load_bx AgR rfl rfl (E.1) rfl) <| ?_
   simp only [q2,q3]
   refine EF rfl (Oper.wp_callN fn_rational_Sign rfl (Sign_q _ _ _ _ y _ (e3 E) (E.2.2.1)) rfl E ?_)
   clear E
   intro w27 d27 E
   replace x3 := x3.below d27
   clear d27
   refine kw rfl ?_
   refine V (by kernel_rfl) rfl (run_geI (c := true) rfl rfl rfl (sgnQ_ge hy)) <| V (v := .bool true) rfl rfl (run_pick (b := true) rfl rfl rfl) <| ?_
   simp only [q2,q3]
   refine WN ?_
   change Code.wp _ _ _ _ _
   refine wp_cond_true rfl ?_
   refine wp_seq ?_
   -- region 4
   refine RL ?_
   refine EF rfl (Oper.wp_callP fn_rational_Whole rfl (Whole_z 0 _ (by decide) (by decide)) rfl E ?_)
   clear E
   intro w29 n29 s29 m29 t29 d29 E
   replace x3 := x3.below d29
   clear d29
   refine kw rfl ?_
   have F28 : FitQ ((0 : Int) : Rat) 4 := FitQ_int (k := 4) (by decide) (Fits_of64 (by decide) (by decide))
   simp only [q2,q3]
   refine EF rfl (Oper.wp_store AgR rfl rfl rfl x3 rfl rfl (one4 (IsI.one (E.2.1)) (IsI.one (E.1))) ?_)
   intro w30 o30 y30
   replace E := (E.onl (x3.noW (now4 now0 now0)) ⟨trivial, trivial, okX (by omega), okX (by omega), trivial, trivial, trivial, trivial, okW (by omega), trivial⟩ o30).x y30
   clear x3 o30 y30
   refine kn rfl ?_
   refine AC rfl rfl rfl rfl <| ?_
   simp only [q2,q3]
   refine WN ?_
   change Code.wp _ _ _ _ _
   refine wp_ret ?_
   have r31 := res_box AgR (E.1) rfl
   exact bodyPost_ret (v := .tuple #[.agg #[.bool n29, s29, .bool m29, t29], .int .i64 0]) (by simp [results, Tryz.results21, asAddr, r31]) rfl ⟨_, .inr (.inr ⟨hx, hy, rfl⟩), _, _, _, _, rfl, E.2.2.1, E.2.1, e9 E⟩
end Go.Proofs.YtndpjfhhigpbhaaGreat
