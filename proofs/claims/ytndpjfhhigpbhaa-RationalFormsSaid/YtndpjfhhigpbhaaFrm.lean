/- Walk: the law RationalForms. (Printed by a g_ program.) -/
import Derived.Test.YtndpjfhhigpbhaaExQ
import Derived.Test.YtndpjfhhigpbhaaVaw
namespace Go.Proofs.Ytndpjfhhigpbhaa
open Go.RowKit W
def fill (N i : Nat) : List Value := List.replicate i (.int .u8 55) ++ List.replicate (N - i) (.int .u8 0)
theorem fill_len {N i : Nat} (h : i ≤ N) : (fill N i).length = N := by simp [fill]; omega
theorem fill_set {N i : Nat} (h : i < N) : (fill N i).set i (.int .u8 55) = fill N (i + 1) := by
  unfold fill
  rw [List.set_append_right _ _ (by simp), List.length_replicate, Nat.sub_self, show N - i = (N - (i + 1)) + 1 by omega, List.replicate_succ, List.set_cons_zero, List.replicate_succ' (n := i), List.append_assoc]
  rfl
theorem fill_end (N : Nat) : fill N N = List.replicate N (.int .u8 55) := by simp [fill]
def isB (c : Value) : Prop := ∃ n, c = .int .u8 n
theorem isB_now {cs : List Value} (h : ∀ c ∈ cs, isB c) : noWs cs := by
  intro c hc n e
  obtain ⟨m, hm⟩ := h c hc
  rw [hm] at e; cases e
theorem fill_isB (N i : Nat) : ∀ c ∈ fill N i, isB c := by
  intro c hc
  unfold fill at hc
  rcases List.mem_append.1 hc with h | h
  · exact ⟨_, (List.mem_replicate.1 h).2⟩
  · exact ⟨_, (List.mem_replicate.1 h).2⟩
theorem Oper.wp_storeB {o : Oper} {a : Act} {w : World} {K : Act → World → Prop} {Q : Exit → Act → World → Prop} {x y : Operand} {b j : Nat} {v : Int} {cs : List Value} (ho : o.op = .store 5 x y) (hx : a.eval x = .pointer (some ⟨b, j, none⟩)) (hy : a.eval y = .int .u8 v)
    (hb : Bx w b 5 cs) (hj : j < cs.length) (h : ∀ w', Onl b w w' → Bx w' b 5 (cs.set j (.int .u8 v)) → K (a.put o.dst undef) w') : o.wp Try.prog a w K Q := by
  have hs : ∀ w, (sizeOf 5).run Try.prog w = .ok 1 w := fun w => by kernel_rfl
  have hr := run_storeCells_at (P := Try.prog) b j 5 [.int .u8 v] 0 cs.toArray w hb (by simp; omega) (by intro v hv; simp at hv; subst hv; rfl)
  have he : cs.take j ++ [.int .u8 v] ++ cs.drop (j + 1) = cs.set j (.int .u8 v) := by rw [List.set_eq_take_append_cons_drop, if_pos hj]; simp
  simp only [Nat.add_zero, List.length_cons, List.length_nil, Nat.zero_add, he] at hr
  unfold Oper.wp execOp
  simp only [ho, hx, hy, Instr.storeAt, Instr.sureAddr, Sem.run_bind, Sem.run_pure, Result.andThen_ok, storeVar, Value.cells, hs]
  simp [hr, Oper.upon]
  exact h _ (onl_setRow _ _ _) (bx_setRow hb _)
theorem made_u8 (n : Nat) : madeCells #[.int .u8 0] n = (List.replicate n (Value.int .u8 0)).toArray := by
  apply Array.ext
  · simp [madeCells]
  · intro i h1 h2
    simp [madeCells, Nat.mod_one]
theorem Oper.wp_makeB {o : Oper} {a : Act} {w : World} {K : Act → World → Prop} {Q : Exit → Act → World → Prop} {x y : Operand} {n : Nat} (ho : o.op = .makeSlice 32 x y) (hx : a.eval x = .int .i64 ((n : Nat) : Int)) (hy : a.eval y = .int .i64 ((n : Nat) : Int)) (hn : n ≤ 1000000)
    (h : ∀ b w', b = w.heap.size → w'.heap.size = w.heap.size + 1 → Below w.heap.size w w' → Bx w' b 5 (fill n 0) → K (a.put o.dst (.slice (some ⟨b, 0, none⟩) n n)) w') : o.wp Try.prog a w K Q := by
  obtain ⟨i, h1, h2, h3, h4⟩ := info_parts info_u8
  have hm := run_make (P := Try.prog) w 32 5 i (.int .u8 0) Try.underlying32 h1 h2 .i64 .i64 (n : Int) (n : Int) (by omega) (by omega) (by rw [h4]; omega) (by omega)
  rw [h3] at hm
  simp only [Int.toNat_natCast, Nat.mul_one, Value.cells, made_u8] at hm
  have hb : Below w.heap.size w (w.alloc (.cells (List.replicate n (Value.int .u8 0)).toArray 5)) := (Below.refl _ _).alloc (Nat.le_refl _) _
  refine Oper.wp_of_val (v := .slice (some ⟨w.heap.size, 0, none⟩) n n) (w' := w.alloc (.cells (List.replicate n (Value.int .u8 0)).toArray 5)) ?_ (h _ _ rfl (by simp) hb ?_)
  · unfold execOp; rw [ho]; simp [hx, hy, hm]
  · have := bx_alloc w 5 (List.replicate n (Value.int .u8 0))
    have e : fill n 0 = List.replicate n (Value.int .u8 0) := by simp [fill]
    rw [e]; exact this
/-- The bytes of the long text: sevens, and a slash where it is wanted. -/
def sevs (N : Nat) (p : Bool) : List Int := if p then (List.replicate N (55 : Int)).set 1 47 else List.replicate N 55
theorem sevs_len (N : Nat) (p : Bool) : (sevs N p).length = N := by unfold sevs; split <;> simp
theorem sevs_cells (N : Nat) (p : Bool) : (if p then (fill N N).set 1 (.int .u8 47) else fill N N) = (sevs N p).map (fun n => Value.int .u8 n) := by
  unfold sevs; rw [fill_end]
  cases p
  · simp
  · simp [List.map_set]
theorem sevs_at {w : World} {b N : Nat} {p : Bool} (h : Bx w b 5 ((sevs N p).map (fun n => Value.int .u8 n))) : ∀ i, i < N → w.cell? ⟨b, 0 + i, none⟩ = some (.int .u8 ((sevs N p).getD i 0)) := by
  intro i hi
  have hl := sevs_len N p
  rw [Nat.zero_add, h.cell, List.getElem?_map, List.getElem?_eq_getElem (by omega)]
  simp [show i < (sevs N p).length by omega]
theorem sevs_size (N : Nat) (p : Bool) : (strOfNums (sevs N p)).size = N := by rw [strOfNums_size, sevs_len]
theorem Parse_bigQ (s : ByteArray) (w : World) (hs : 4000 < s.size) : Calls Try.prog 12 #[.string s] w (RetPE w 0 0 2) := (Parse_q s w).mono fun _ _ h => by
  rcases h with ⟨_, r⟩ | ⟨h, _, _⟩ | ⟨_, h, _, _⟩
  · exact r
  · omega
  · omega
theorem RParse_is (s : ByteArray) (x : Rat) (w : World) (hs : s.size ≤ 4000) (hx : s = txtQ x) : Calls Try.prog 13 #[.string s] w (RetPE w x.num ((x.den : Nat) : Int) 0) := (RParse_q s w).mono fun _ _ h => h.is hs hx
theorem RParse_no (s : ByteArray) (w : World) (hs : s.size ≤ 4000) (hx : ∀ x, s ≠ txtQ x) : Calls Try.prog 13 #[.string s] w (RetPE w 0 0 3) := (RParse_q s w).mono fun _ _ h => h.no hs hx
theorem rem6 (a : Int) : ∃ r : Nat, r < 6 ∧ (a.tmod 6 + 6).tmod 6 = ((r : Nat) : Int) ∧ -6 < a.tmod 6 ∧ a.tmod 6 < 6 := by
  have h1 := Int.lt_tmod_of_pos a (b := 6) (by decide)
  have h2 := Int.tmod_lt_of_pos a (b := 6) (by decide)
  have h3 : (a.tmod 6 + 6).tmod 6 = (a.tmod 6 + 6) % 6 := Int.tmod_eq_emod_of_nonneg (by omega)
  refine ⟨((a.tmod 6 + 6) % 6).toNat, by omega, by omega, h1, h2⟩
set_option maxRecDepth 100000 in
set_option maxHeartbeats 8000000 in
theorem frm_t (pn : Bool) (ps : Value) (pl : List Nat) (qn : Bool) (qs : Value) (ql : List Nat) (s : ByteArray) (am : Int)  (w : World)  (hps : Sl w ps pl) (hqs : Sl w qs ql) :
    Calls Try.prog 3 #[.agg #[.bool pn, ps, .bool qn, qs], .string s, .int .i64 am] w (RetB w true) := by
 have E := Env.start w
 replace E := (E.s hps).s hqs
 go_enter Try.func3, Try.ntmps3
 refine wp_seq ?_
 -- region 0
 refine RL ?_
 refine EF rfl (Oper.wp_box (cs := [.bool pn, ps, .bool qn, qs]) rfl rfl ?_)
 intro b1 w1 e1 z1 d1 x1
 have l1 : w.heap.size ≤ b1 := by rw [e1]; exact (E.2.2.1).size
 replace E := E.below d1
 clear e1 z1 d1
 replace E := E.x x1
 clear x1
 refine kw rfl ?_
 refine AC rfl rfl rfl rfl <| ?_
 simp only [q2,q3]
 refine WN ?_
 change Code.wp _ _ _ _ _
 refine wp_seq ?_
 -- region 1
 refine RL ?_
 refine EF rfl (Oper.wp_callB fn_elaw02_examples rfl (examples_t _) rfl E ?_)
 clear E
 intro w2 d2 E
 clear d2
 refine kw rfl ?_
 refine A rfl rfl rfl rfl rfl <| ?_
 simp only [q2,q3]
 refine WN ?_
 change Code.wp _ _ _ _ _
 refine wp_seq ?_
 refine wp_seq ?_
 -- region 2
 refine RL ?_
 refine M rfl rfl rfl rfl rfl <| V (v := .bool false) rfl rfl (run_not (b := true) rfl rfl) <| ?_
 simp only [q2,q3]
 refine WN ?_
 change Code.wp _ _ _ _ _
 refine wp_cond_false rfl ?_
 refine wp_skip ?_
 change Code.wp _ _ _ _ _
 refine wp_seq ?_
 refine wp_seq ?_
 by_cases h1 : 20 < pl.length
 case pos =>
  -- region 4
  refine RL ?_
  refine V rfl rfl (run_fieldR0 rfl rfl) <| V rfl rfl (run_fieldIo1 rfl rfl) <| V rfl rfl (run_cell rfl isAgg_words rfl (E.1) rfl) <| ?_
  obtain ⟨ao3, cap3, hs3⟩ := Sl.shp (E.2.2.1)
  refine V (v := .int .i64 (((pl).length : Nat) : Int)) rfl rfl (run_len rfl hs3) <| ?_
  simp only [q2,q3]
  refine V rfl rfl (run_gtI (c := true) rfl rfl rfl (by rw [decide_eq_true_eq]; omega)) <| M rfl rfl rfl rfl rfl <| L0C (by kernel_rfl) rfl <| L0C (by kernel_rfl) rfl <| ?_
  simp only [q2,q3]
  refine L0C (by kernel_rfl) rfl <| L0C (by kernel_rfl) rfl <| L0C (by kernel_rfl) rfl <| V (v := .bool true) rfl rfl (run_pick (b := true) rfl rfl rfl) <| ?_
  simp only [q2,q3]
  refine M rfl rfl rfl rfl rfl <| L0C (by kernel_rfl) rfl <| L0C (by kernel_rfl) rfl <| L0C (by kernel_rfl) rfl <| ?_
  simp only [q2,q3]
  refine V (v := .bool true) rfl rfl (run_pick (b := true) rfl rfl rfl) <| ?_
  simp only [q2,q3]
  refine WN ?_
  change Code.wp _ _ _ _ _
  refine wp_cond_true rfl ?_
  refine wp_seq ?_
  -- region 5
  refine RL ?_
  refine M rfl rfl rfl rfl rfl <| A rfl rfl rfl rfl rfl <| ?_
  simp only [q2,q3]
  refine WN ?_
  change Code.wp _ _ _ _ _
  refine wp_ret ?_
  exact bodyPost_ret (v := .bool true) (by simp [results, Try.results3, asAddr]) rfl ⟨rfl, e3 E⟩
 case neg =>
  by_cases h2 : 20 < ql.length
  case pos =>
   -- region 4
   refine RL ?_
   refine V rfl rfl (run_fieldR0 rfl rfl) <| V rfl rfl (run_fieldIo1 rfl rfl) <| V rfl rfl (run_cell rfl isAgg_words rfl (E.1) rfl) <| ?_
   obtain ⟨ao4, cap4, hs4⟩ := Sl.shp (E.2.2.1)
   refine V (v := .int .i64 (((pl).length : Nat) : Int)) rfl rfl (run_len rfl hs4) <| ?_
   simp only [q2,q3]
   refine V rfl rfl (run_gtI (c := false) rfl rfl rfl (by rw [decide_eq_false_iff_not]; omega)) <| M rfl rfl rfl rfl rfl <| V (by kernel_rfl) rfl (run_fieldR1 rfl rfl) <| V (by kernel_rfl) rfl (run_fieldIo1 rfl rfl) <| ?_
   simp only [q2,q3]
   refine V (by kernel_rfl) rfl (run_cell rfl isAgg_words rfl (E.1) rfl) <| ?_
   obtain ⟨ao5, cap5, hs5⟩ := Sl.shp (E.2.1)
   refine V (v := .int .i64 (((ql).length : Nat) : Int)) (by kernel_rfl) rfl (run_len rfl hs5) <| V (by kernel_rfl) rfl (run_gtI (c := true) rfl rfl rfl (by rw [decide_eq_true_eq]; omega)) <| V (v := .bool true) rfl rfl (run_pick (b := false) rfl rfl rfl) <| ?_
   simp only [q2,q3]
   refine M rfl rfl rfl rfl rfl <| L0C (by kernel_rfl) rfl <| L0C (by kernel_rfl) rfl <| L0C (by kernel_rfl) rfl <| ?_
   simp only [q2,q3]
   refine V (v := .bool true) rfl rfl (run_pick (b := true) rfl rfl rfl) <| ?_
   simp only [q2,q3]
   refine WN ?_
   change Code.wp _ _ _ _ _
   refine wp_cond_true rfl ?_
   refine wp_seq ?_
   -- region 5
   refine RL ?_
   refine M rfl rfl rfl rfl rfl <| A rfl rfl rfl rfl rfl <| ?_
   simp only [q2,q3]
   refine WN ?_
   change Code.wp _ _ _ _ _
   refine wp_ret ?_
   exact bodyPost_ret (v := .bool true) (by simp [results, Try.results3, asAddr]) rfl ⟨rfl, e3 E⟩
  case neg =>
   by_cases h3 : 200 < s.size
   case pos =>
    -- region 4
    refine RL ?_
    refine V rfl rfl (run_fieldR0 rfl rfl) <| V rfl rfl (run_fieldIo1 rfl rfl) <| V rfl rfl (run_cell rfl isAgg_words rfl (E.1) rfl) <| ?_
    obtain ⟨ao6, cap6, hs6⟩ := Sl.shp (E.2.2.1)
    refine V (v := .int .i64 (((pl).length : Nat) : Int)) rfl rfl (run_len rfl hs6) <| ?_
    simp only [q2,q3]
    refine V rfl rfl (run_gtI (c := false) rfl rfl rfl (by rw [decide_eq_false_iff_not]; omega)) <| M rfl rfl rfl rfl rfl <| V (by kernel_rfl) rfl (run_fieldR1 rfl rfl) <| V (by kernel_rfl) rfl (run_fieldIo1 rfl rfl) <| ?_
    simp only [q2,q3]
    refine V (by kernel_rfl) rfl (run_cell rfl isAgg_words rfl (E.1) rfl) <| ?_
    obtain ⟨ao7, cap7, hs7⟩ := Sl.shp (E.2.1)
    refine V (v := .int .i64 (((ql).length : Nat) : Int)) (by kernel_rfl) rfl (run_len rfl hs7) <| V (by kernel_rfl) rfl (run_gtI (c := false) rfl rfl rfl (by rw [decide_eq_false_iff_not]; omega)) <| V (v := .bool false) rfl rfl (run_pick (b := false) rfl rfl rfl) <| ?_
    simp only [q2,q3]
    refine M rfl rfl rfl rfl rfl <| M (by kernel_rfl) rfl rfl rfl rfl <| V (v := .int .i64 ((s.size : Nat) : Int)) (by kernel_rfl) rfl (run_lenS rfl rfl) <| V (by kernel_rfl) rfl (run_gtI (c := true) rfl rfl rfl (by rw [decide_eq_true_eq]; omega)) <| ?_
    simp only [q2,q3]
    refine V (v := .bool true) rfl rfl (run_pick (b := false) rfl rfl rfl) <| ?_
    simp only [q2,q3]
    refine WN ?_
    change Code.wp _ _ _ _ _
    refine wp_cond_true rfl ?_
    refine wp_seq ?_
    -- region 5
    refine RL ?_
    refine M rfl rfl rfl rfl rfl <| A rfl rfl rfl rfl rfl <| ?_
    simp only [q2,q3]
    refine WN ?_
    change Code.wp _ _ _ _ _
    refine wp_ret ?_
    exact bodyPost_ret (v := .bool true) (by simp [results, Try.results3, asAddr]) rfl ⟨rfl, e3 E⟩
   case neg =>
    -- region 4
    refine RL ?_
    refine V rfl rfl (run_fieldR0 rfl rfl) <| V rfl rfl (run_fieldIo1 rfl rfl) <| V rfl rfl (run_cell rfl isAgg_words rfl (E.1) rfl) <| ?_
    obtain ⟨ao9, cap9, hs9⟩ := Sl.shp (E.2.2.1)
    refine V (v := .int .i64 (((pl).length : Nat) : Int)) rfl rfl (run_len rfl hs9) <| ?_
    simp only [q2,q3]
    refine V rfl rfl (run_gtI (c := false) rfl rfl rfl (by rw [decide_eq_false_iff_not]; omega)) <| M rfl rfl rfl rfl rfl <| V (by kernel_rfl) rfl (run_fieldR1 rfl rfl) <| V (by kernel_rfl) rfl (run_fieldIo1 rfl rfl) <| ?_
    simp only [q2,q3]
    refine V (by kernel_rfl) rfl (run_cell rfl isAgg_words rfl (E.1) rfl) <| ?_
    obtain ⟨ao10, cap10, hs10⟩ := Sl.shp (E.2.1)
    refine V (v := .int .i64 (((ql).length : Nat) : Int)) (by kernel_rfl) rfl (run_len rfl hs10) <| V (by kernel_rfl) rfl (run_gtI (c := false) rfl rfl rfl (by rw [decide_eq_false_iff_not]; omega)) <| V (v := .bool false) rfl rfl (run_pick (b := false) rfl rfl rfl) <| ?_
    simp only [q2,q3]
    refine M rfl rfl rfl rfl rfl <| M (by kernel_rfl) rfl rfl rfl rfl <| V (v := .int .i64 ((s.size : Nat) : Int)) (by kernel_rfl) rfl (run_lenS rfl rfl) <| V (by kernel_rfl) rfl (run_gtI (c := false) rfl rfl rfl (by rw [decide_eq_false_iff_not]; omega)) <| ?_
    simp only [q2,q3]
    refine V (v := .bool false) rfl rfl (run_pick (b := false) rfl rfl rfl) <| ?_
    simp only [q2,q3]
    refine WN ?_
    change Code.wp _ _ _ _ _
    refine wp_cond_false rfl ?_
    refine wp_skip ?_
    change Code.wp _ _ _ _ _
    refine wp_seq ?_
    refine wp_seq ?_
    -- region 6
    refine wp_schedE E ([0, 2, 1, 3, 4]) (by kernel_rfl) (by kernel_rfl) (by kernel_rfl) (by kernel_rfl) (by intro d v c a w h; cases d <;> exact h) ?_
    replace E := E.drew
    refine SW rfl rfl rfl rfl rfl (fun w hS => run_load_bx AgR rfl rfl (hS.1) rfl) <| SW rfl rfl rfl rfl rfl (fun w hS => run_load_bx AgR rfl rfl (hS.1) rfl) <| ?_
    simp only [q2,q3]
    refine S1a (o := ⟨some 39, _, _, _, _, _⟩) rfl rfl rfl rfl (Oper.wp_callB fn_rational_Valid rfl (Valid_raw pn ps pl qn qs ql _ (Sl.below hps (e3 E)) (Sl.below hqs (e3 E)) (by omega) (by omega)) rfl E ?_)
    clear E
    intro w12 d12 E
    clear d12
    refine ⟨E, ?_⟩
    simp only [Act.put,q1,q2,q3]
    refine S1a (o := ⟨some 41, _, _, _, _, _⟩) rfl rfl rfl rfl (Oper.wp_callB fn_eref02_Valid rfl (RValid_raw pn ps pl qn qs ql _ (Sl.below hps (e3 E)) (Sl.below hqs (e3 E)) (by omega) (by omega)) rfl E ?_)
    clear E
    intro w13 d13 E
    clear d13
    refine ⟨E, ?_⟩
    simp only [Act.put,q1,q2,q3]
    refine SW rfl rfl rfl rfl rfl (fun w hS => run_neB (a := vraw pn pl qn ql) (b := vraw pn pl qn ql) (c := false) rfl Try.underlying4 rfl rfl (bne_self_eq_false _)) <| ?_
    simp only [q2,q3]
    refine SN ?_
    change Code.wp _ _ _ _ _
    refine wp_cond_false rfl ?_
    refine wp_skip ?_
    change Code.wp _ _ _ _ _
    refine wp_seq ?_
    by_cases hx : ∃ x, s = txtQ x
    case pos =>
     obtain ⟨x0, hx0⟩ := hx
     -- region 8
     refine RL ?_
     refine M rfl rfl rfl rfl rfl <| ?_
     simp only [q2,q3]
     refine EF rfl (Oper.wp_callPE fn_rational_Parse rfl (Parse_is s x0 _ (by omega) hx0) rfl E ?_)
     clear E
     intro w14 n14 s14 m14 t14 d14 E
     clear d14
     refine kw rfl ?_
     refine M rfl rfl rfl rfl rfl <| V rfl rfl (run_extract (vs := [.agg #[.bool n14, s14, .bool m14, t14], .int .i64 0]) rfl rfl rfl) <| V rfl rfl (run_extract (vs := [.agg #[.bool n14, s14, .bool m14, t14], .int .i64 0]) rfl rfl rfl) <| ?_
     simp only [q2,q3]
     refine EF rfl (Oper.wp_alloc AgR rfl ?_)
     intro b15 w15 e15 z15 d15 x15
     have l15_0 : b1 < b15 := by rw [e15]; exact Bx.lt (E.2.2.1)
     replace E := E.below d15
     clear e15 z15 d15
     refine kw rfl ?_
     simp only [q2,q3]
     refine EF rfl (Oper.wp_store AgR rfl rfl rfl x15 rfl rfl (one4 (IsI.one (E.2.1)) (IsI.one (E.1))) ?_)
     intro w16 o16 y16
     replace E := (E.onl (x15.noW (now4 now0 now0)) ⟨trivial, trivial, okX (by omega), trivial, trivial, okW (by omega), trivial⟩ o16).x y16
     clear x15 o16 y16
     refine kn rfl ?_
     refine A rfl rfl rfl rfl rfl <| ?_
     simp only [q2,q3]
     refine WN ?_
     change Code.wp _ _ _ _ _
     refine wp_seq ?_
     -- region 9
     refine RL ?_
     refine M rfl rfl rfl rfl rfl <| ?_
     simp only [q2,q3]
     refine EF rfl (Oper.wp_callPE fn_eref02_Parse rfl (RParse_is s x0 _ (by omega) hx0) rfl E ?_)
     clear E
     intro w17 n17 s17 m17 t17 d17 E
     clear d17
     refine kw rfl ?_
     refine M rfl rfl rfl rfl rfl <| V rfl rfl (run_extract (vs := [.agg #[.bool n17, s17, .bool m17, t17], .int .i64 0]) rfl rfl rfl) <| V rfl rfl (run_extract (vs := [.agg #[.bool n17, s17, .bool m17, t17], .int .i64 0]) rfl rfl rfl) <| ?_
     simp only [q2,q3]
     refine EF rfl (Oper.wp_alloc AgR rfl ?_)
     intro b18 w18 e18 z18 d18 x18
     have l18_0 : b15 < b18 := by rw [e18]; exact Bx.lt (E.2.2.1)
     replace E := E.below d18
     clear e18 z18 d18
     refine kw rfl ?_
     simp only [q2,q3]
     refine EF rfl (Oper.wp_store AgR rfl rfl rfl x18 rfl rfl (one4 (IsI.one (E.2.1)) (IsI.one (E.1))) ?_)
     intro w19 o19 y19
     replace E := (E.onl (x18.noW (now4 now0 now0)) ⟨trivial, trivial, okX (by omega), trivial, trivial, okX (by omega), trivial, trivial, okW (by omega), trivial⟩ o19).x y19
     clear x18 o19 y19
     refine kn rfl ?_
     refine A rfl rfl rfl rfl rfl <| ?_
     simp only [q2,q3]
     refine WN ?_
     change Code.wp _ _ _ _ _
     refine wp_seq ?_
     obtain ⟨r, hr1, hr2, hr3, hr4⟩ := rem6 am
     obtain ⟨N, hN⟩ : ∃ N, 3997 + r = N := ⟨_, rfl⟩
     -- region 10
     refine RL ?_
     refine M rfl rfl rfl rfl rfl <| V (v := .int .i64 (am.tmod 6)) rfl rfl (run_remI rfl rfl rfl (by decide) rfl) <| V (v := .int .i64 (am.tmod 6 + 6)) rfl rfl (run_addI rfl rfl rfl (wrap_i (by omega))) <| V (v := .int .i64 ((r : Nat) : Int)) rfl rfl (run_remI rfl rfl rfl (by decide) hr2) <| ?_
     simp only [q2,q3]
     refine V (v := .int .i64 ((N : Nat) : Int)) rfl rfl (run_addI rfl rfl rfl (by rw [wrap_i (by omega)]; omega)) <| A rfl rfl rfl rfl rfl <| ?_
     simp only [q2,q3]
     refine WN ?_
     change Code.wp _ _ _ _ _
     refine wp_seq ?_
     -- region 11
     refine RL ?_
     refine M rfl rfl rfl rfl rfl <| ?_
     simp only [q2,q3]
     refine EF rfl (Oper.wp_makeB rfl rfl rfl (by omega) ?_)
     intro b20 w20 e20 z20 d20 x20
     have l20_0 : b18 < b20 := by rw [e20]; exact Bx.lt (E.1)
     replace E := E.below d20
     clear e20 z20 d20
     replace E := E.x x20
     clear x20
     refine kw rfl ?_
     refine A rfl rfl rfl rfl rfl <| ?_
     simp only [q2,q3]
     refine WN ?_
     change Code.wp _ _ _ _ _
     refine wp_seq ?_
     refine wp_seq ?_
     -- region 12
     refine RL ?_
     refine AC rfl rfl rfl rfl <| ?_
     simp only [q2,q3]
     refine WN ?_
     change Code.wp _ _ _ _ _
     refine wp_block ?_
     refine wp_loop_ghost (fun mz a w' => ∃ (i : Nat) (g60 g61 g62 g63 g64 g65 g66 g67 : Value), a = ⟨#[.agg #[.bool pn, ps, .bool qn, qs], .string s, .int .i64 am, .pointer (some ⟨b1, 0, none⟩), undef, undef, .bool false, .bool true, .pointer (some ⟨b15, 0, none⟩), .int .i64 0, .pointer (some ⟨b18, 0, none⟩), .int .i64 0, .int .i64 ((N : Nat) : Int), .slice (some ⟨b20, 0, none⟩) N N, .int .i64 ((i : Nat) : Int), undef, undef, .bool true, .bool true, .bool false, .pointer (some ⟨b1, 0, none⟩), .pointer (some ⟨b1, 1, none⟩), ps, .int .i64 (((pl).length : Nat) : Int), .bool false, .bool false, .pointer (some ⟨b1, 2, none⟩), .pointer (some ⟨b1, 3, none⟩), qs, .int .i64 (((ql).length : Nat) : Int), .bool false, .bool false, .bool false, .string s, .int .i64 ((s.size : Nat) : Int), .bool false, .bool false, undef, .agg #[.bool pn, ps, .bool qn, qs], .bool (vraw pn pl qn ql), .agg #[.bool pn, ps, .bool qn, qs], .bool (vraw pn pl qn ql), .bool false, .tuple #[.agg #[.bool n14, s14, .bool m14, t14], .int .i64 0], .string s, .tuple #[.agg #[.bool n14, s14, .bool m14, t14], .int .i64 0], .agg #[.bool n14, s14, .bool m14, t14], .int .i64 0, .tuple #[.agg #[.bool n17, s17, .bool m17, t17], .int .i64 0], .string s, .tuple #[.agg #[.bool n17, s17, .bool m17, t17], .int .i64 0], .agg #[.bool n17, s17, .bool m17, t17], .int .i64 0, .int .i64 am, .int .i64 (am.tmod 6), .int .i64 (am.tmod 6 + 6), .int .i64 ((r : Nat) : Int), .int .i64 ((N : Nat) : Int), .int .i64 ((N : Nat) : Int), .slice (some ⟨b20, 0, none⟩) N N, g60, g61, g62, g63, g64, g65, g66, g67, undef, undef, undef, undef, undef, undef, undef, undef, undef, undef, undef, undef, undef, undef, undef, undef, undef, undef, undef, undef, undef, undef, undef, undef, undef, undef, undef, undef, undef, undef, undef, undef, undef, undef, undef, undef], []⟩ ∧ Env w' [fX b20 (5) (fill N i), fX b18 (26) ([.bool n17, s17, .bool m17, t17]), fI (.agg #[.bool m17, t17]) ((x0.den : Nat) : Int), fI (.agg #[.bool n17, s17]) x0.num, fX b15 (26) ([.bool n14, s14, .bool m14, t14]), fI (.agg #[.bool m14, t14]) ((x0.den : Nat) : Int), fI (.agg #[.bool n14, s14]) x0.num, fX b1 (26) ([.bool pn, ps, .bool qn, qs]), fS qs ql, fS ps pl, fW w] ∧ mz = N - i ∧ i ≤ N) (N) ⟨0, _, _, _, _, _, _, _, _, rfl, (Env.x (Env.x (Env.i (Env.i (Env.x (Env.i (Env.i (Env.x (Env.s (Env.s (Env.ww (Env.nil _) (e10 E)) (e9 E)) (e8 E)) (e7 E)) (e6 E)) (e5 E)) (e4 E)) (e3 E)) (E.2.2.1)) (E.2.1)) (E.1)), rfl, Nat.zero_le _⟩ ?_
     rintro m21 _ w21 ⟨i, g60, g61, g62, g63, g64, g65, g66, g67, rfl, E, hm21, hI21⟩
     by_cases hi : i < N
     case pos =>
      refine wp_seq ?_
      refine wp_seq ?_
      -- region 13
      refine RL ?_
      refine M rfl rfl rfl rfl rfl <| M rfl rfl rfl rfl rfl <| V rfl rfl (run_ltI (c := true) rfl rfl rfl (by rw [decide_eq_true_eq]; omega)) <| ?_
      simp only [q2,q3]
      refine WN ?_
      change Code.wp _ _ _ _ _
      refine wp_cond_true rfl ?_
      refine wp_skip ?_
      change Code.wp _ _ _ _ _
      refine wp_seq ?_
      refine wp_block ?_
      -- region 15
      refine RL ?_
      refine M rfl rfl rfl rfl rfl <| M rfl rfl rfl rfl rfl <| V (v := .pointer (some ⟨b20, 0 + i * 1, none⟩)) rfl rfl (run_idx (j := i) rfl Try.underlying32 (by kernel_rfl) rfl rfl rfl (by omega)) <| ?_
      have x23 := E.1
      replace E := E.2
      simp only [q2,q3]
      refine EF rfl (Oper.wp_storeB (j := 0 + i * 1) rfl rfl rfl x23 (by rw [fill_len (by omega)]; omega) ?_)
      intro w22 o22 y22
      rw [show 0 + i * 1 = i by omega, fill_set hi] at y22
      replace E := (E.onl (x23.noW (isB_now (fill_isB _ _))) ⟨okX (by omega), trivial, trivial, okX (by omega), trivial, trivial, okX (by omega), trivial, trivial, okW (by omega), trivial⟩ o22).x y22
      clear x23 o22 y22
      refine kn rfl ?_
      refine WN ?_
      change Code.wp _ _ _ _ _
      -- region 14
      refine RL ?_
      refine M rfl rfl rfl rfl rfl <| V (v := .int .i64 ((i + 1 : Nat) : Int)) rfl rfl (run_addI rfl rfl rfl (wrap_nat (by omega) (by omega))) <| A rfl rfl rfl rfl rfl <| ?_
      simp only [q2,q3]
      refine WN ?_
      exact ⟨_, (by rw [hm21]; omega), (i + 1), _, _, _, _, _, _, _, _, rfl, (Env.x (Env.x (Env.i (Env.i (Env.x (Env.i (Env.i (Env.x (Env.s (Env.s (Env.ww (Env.nil _) (e10 E)) (e9 E)) (e8 E)) (e7 E)) (e6 E)) (e5 E)) (e4 E)) (e3 E)) (E.2.2.1)) (E.2.1)) (E.1)), rfl, (by omega)⟩
     case neg =>
      have hiN : i = N := by have := hI21; omega
      have xf := E.1
      rw [hiN] at xf
      replace E := (((Env.x (Env.i (Env.i (Env.x (Env.i (Env.i (Env.x (Env.s (Env.s (Env.ww (Env.nil _) (e10 E)) (e9 E)) (e8 E)) (e7 E)) (e6 E)) (e5 E)) (e4 E)) (e3 E)) (E.2.2.1)) (E.2.1)) : Env _ [fX b18 (26) ([.bool n17, s17, .bool m17, t17]), fI (.agg #[.bool m17, t17]) ((x0.den : Nat) : Int), fI (.agg #[.bool n17, s17]) x0.num, fX b15 (26) ([.bool n14, s14, .bool m14, t14]), fI (.agg #[.bool m14, t14]) ((x0.den : Nat) : Int), fI (.agg #[.bool n14, s14]) x0.num, fX b1 (26) ([.bool pn, ps, .bool qn, qs]), fS qs ql, fS ps pl, fW w])).x xf
      refine wp_seq ?_
      refine wp_seq ?_
      -- region 13
      refine RL ?_
      refine M rfl rfl rfl rfl rfl <| M rfl rfl rfl rfl rfl <| V rfl rfl (run_ltI (c := false) rfl rfl rfl (by rw [decide_eq_false_iff_not]; omega)) <| ?_
      simp only [q2,q3]
      refine WN ?_
      change Code.wp _ _ _ _ _
      refine wp_cond_false rfl ?_
      refine wp_exit ?_
      change Code.wp _ _ _ _ _
      refine wp_seq ?_
      refine wp_seq ?_
      by_cases h4 : s.size < 4
      case pos =>
       -- region 16
       refine RL ?_
       refine M rfl rfl rfl rfl rfl <| V (v := .int .i64 ((s.size : Nat) : Int)) rfl rfl (run_lenS rfl rfl) <| V rfl rfl (run_ltI (c := true) rfl rfl rfl (by rw [decide_eq_true_eq]; omega)) <| ?_
       simp only [q2,q3]
       refine WN ?_
       change Code.wp _ _ _ _ _
       refine wp_cond_true rfl ?_
       -- region 17
       refine RL ?_
       refine M rfl rfl rfl rfl rfl <| V (v := .pointer (some ⟨b20, 0 + 1 * 1, none⟩)) rfl rfl (run_idx (j := 1) rfl Try.underlying32 (by kernel_rfl) rfl rfl rfl (by omega)) <| ?_
       have x26 := E.1
       replace E := E.2
       simp only [q2,q3]
       refine EF rfl (Oper.wp_storeB (j := 0 + 1 * 1) rfl rfl rfl x26 (by rw [fill_len (by omega)]; omega) ?_)
       intro w25 o25 y25
       replace E := (E.onl (x26.noW (isB_now (fill_isB _ _))) ⟨okX (by omega), trivial, trivial, okX (by omega), trivial, trivial, okX (by omega), trivial, trivial, okW (by omega), trivial⟩ o25).x y25
       clear x26 o25 y25
       refine kn rfl ?_
       refine WN ?_
       change Code.wp _ _ _ _ _
       refine wp_seq ?_
       have xs := E.1
       have hxs := sevs_at (N := N) (p := true) (by rw [← sevs_cells]; exact xs)
       by_cases hbig : 4000 < N
       case pos =>
        -- region 18
        refine RL ?_
        refine M rfl rfl rfl rfl rfl <| V (v := .string (strOfNums (sevs N true))) rfl rfl (run_str rfl Try.underlying32 Try.underlying5 Try.underlying9 rfl (sevs_len N true) hxs) <| ?_
        simp only [q2,q3]
        refine EF rfl (Oper.wp_callPE fn_rational_Parse rfl (Parse_bigQ _ _ (by rw [sevs_size]; omega)) rfl E ?_)
        clear E
        intro w27 n27 s27 m27 t27 d27 E
        clear d27
        refine kw rfl ?_
        refine M rfl rfl rfl rfl rfl <| V rfl rfl (run_extract (vs := [.agg #[.bool n27, s27, .bool m27, t27], .int .i64 2]) rfl rfl rfl) <| V rfl rfl (run_extract (vs := [.agg #[.bool n27, s27, .bool m27, t27], .int .i64 2]) rfl rfl rfl) <| ?_
        simp only [q2,q3]
        refine EF rfl (Oper.wp_alloc AgR rfl ?_)
        intro b28 w28 e28 z28 d28 x28
        have l28_0 : b20 < b28 := by rw [e28]; exact Bx.lt (E.2.2.1)
        replace E := E.below d28
        clear e28 z28 d28
        refine kw rfl ?_
        simp only [q2,q3]
        refine EF rfl (Oper.wp_store AgR rfl rfl rfl x28 rfl rfl (one4 (IsI.one (E.2.1)) (IsI.one (E.1))) ?_)
        intro w29 o29 y29
        replace E := (E.onl (x28.noW (now4 now0 now0)) ⟨trivial, trivial, okX (by omega), okX (by omega), trivial, trivial, okX (by omega), trivial, trivial, okX (by omega), trivial, trivial, okW (by omega), trivial⟩ o29).x y29
        clear x28 o29 y29
        refine kn rfl ?_
        refine A rfl rfl rfl rfl rfl <| ?_
        simp only [q2,q3]
        refine WN ?_
        change Code.wp _ _ _ _ _
        refine wp_seq ?_
        -- region 19
        refine RL ?_
        refine V rfl rfl (run_load_bx AgR rfl rfl (e7 E) rfl) <| M rfl rfl rfl rfl rfl <| V rfl rfl (run_load_bx AgR rfl rfl (e4 E) rfl) <| M rfl rfl rfl rfl rfl <| ?_
        simp only [q2,q3]
        refine EF rfl (Oper.wp_callB fn_elaw02_alike rfl (alike_t 0 _ _ _ _ x0.num ((x0.den : Nat) : Int) _ _ _ _ x0.num ((x0.den : Nat) : Int) _ (e9 E) (e8 E) (e6 E) (e5 E) rfl rfl) rfl E ?_)
        clear E
        intro w30 d30 E
        clear d30
        refine kw rfl ?_
        refine M rfl rfl rfl rfl rfl <| M (by kernel_rfl) rfl rfl rfl rfl <| V (by kernel_rfl) rfl (run_eqI (c := true) rfl rfl rfl (by decide)) <| M (by kernel_rfl) rfl rfl rfl rfl <| ?_
        simp only [q2,q3]
        refine V (by kernel_rfl) rfl (run_gtI (c := true) rfl rfl rfl (by rw [decide_eq_true_eq]; omega)) <| V (by kernel_rfl) rfl (run_eqB (a := true) (b := true) (c := true) rfl Try.underlying4 rfl rfl rfl) <| V (v := .bool true) rfl rfl (run_pick (b := true) rfl rfl rfl) <| M rfl rfl rfl rfl rfl <| ?_
        simp only [q2,q3]
        refine M (by kernel_rfl) rfl rfl rfl rfl <| V (by kernel_rfl) rfl (run_eqI (c := false) rfl rfl rfl (by decide)) <| M (by kernel_rfl) rfl rfl rfl rfl <| V (by kernel_rfl) rfl (run_load_bx AgR rfl rfl (E.1) rfl) <| ?_
        simp only [q2,q3]
        refine M (by kernel_rfl) rfl rfl rfl rfl <| M (by kernel_rfl) rfl rfl rfl rfl <| ?_
        simp only [q2,q3]
        refine EF rfl (Oper.wp_callB fn_elaw02_fails rfl (fails_t 2 _ _ _ _ 0 0 _ (E.2.2.1) (E.2.1) rfl rfl) rfl E ?_)
        clear E
        intro w31 d31 E
        clear d31
        refine kw rfl ?_
        refine V (v := .bool true) (by kernel_rfl) rfl (run_pick (b := false) rfl rfl rfl) <| V (v := .bool true) rfl rfl (run_pick (b := true) rfl rfl rfl) <| M rfl rfl rfl rfl rfl <| M (by kernel_rfl) rfl rfl rfl rfl <| ?_
        simp only [q2,q3]
        refine V (v := .bool true) rfl rfl (run_pick (b := true) rfl rfl rfl) <| A rfl rfl rfl rfl rfl <| ?_
        simp only [q2,q3]
        refine WN ?_
        change Code.wp _ _ _ _ _
        refine wp_ret ?_
        exact bodyPost_ret (v := .bool true) (by simp [results, Try.results3, asAddr]) rfl ⟨rfl, e13 E⟩
       case neg =>
        by_cases hy : ∃ x, (strOfNums (sevs N true)) = txtQ x
        case pos =>
         obtain ⟨y0, hy0⟩ := hy
         -- region 18
         refine RL ?_
         refine M rfl rfl rfl rfl rfl <| V (v := .string (strOfNums (sevs N true))) rfl rfl (run_str rfl Try.underlying32 Try.underlying5 Try.underlying9 rfl (sevs_len N true) hxs) <| ?_
         simp only [q2,q3]
         refine EF rfl (Oper.wp_callPE fn_rational_Parse rfl (Parse_is _ y0 _ (by rw [sevs_size]; omega) hy0) rfl E ?_)
         clear E
         intro w32 n32 s32 m32 t32 d32 E
         clear d32
         refine kw rfl ?_
         refine M rfl rfl rfl rfl rfl <| V rfl rfl (run_extract (vs := [.agg #[.bool n32, s32, .bool m32, t32], .int .i64 0]) rfl rfl rfl) <| V rfl rfl (run_extract (vs := [.agg #[.bool n32, s32, .bool m32, t32], .int .i64 0]) rfl rfl rfl) <| ?_
         simp only [q2,q3]
         refine EF rfl (Oper.wp_alloc AgR rfl ?_)
         intro b33 w33 e33 z33 d33 x33
         have l33_0 : b20 < b33 := by rw [e33]; exact Bx.lt (E.2.2.1)
         replace E := E.below d33
         clear e33 z33 d33
         refine kw rfl ?_
         simp only [q2,q3]
         refine EF rfl (Oper.wp_store AgR rfl rfl rfl x33 rfl rfl (one4 (IsI.one (E.2.1)) (IsI.one (E.1))) ?_)
         intro w34 o34 y34
         replace E := (E.onl (x33.noW (now4 now0 now0)) ⟨trivial, trivial, okX (by omega), okX (by omega), trivial, trivial, okX (by omega), trivial, trivial, okX (by omega), trivial, trivial, okW (by omega), trivial⟩ o34).x y34
         clear x33 o34 y34
         refine kn rfl ?_
         refine A rfl rfl rfl rfl rfl <| ?_
         simp only [q2,q3]
         refine WN ?_
         change Code.wp _ _ _ _ _
         refine wp_seq ?_
         -- region 19
         refine RL ?_
         refine V rfl rfl (run_load_bx AgR rfl rfl (e7 E) rfl) <| M rfl rfl rfl rfl rfl <| V rfl rfl (run_load_bx AgR rfl rfl (e4 E) rfl) <| M rfl rfl rfl rfl rfl <| ?_
         simp only [q2,q3]
         refine EF rfl (Oper.wp_callB fn_elaw02_alike rfl (alike_t 0 _ _ _ _ x0.num ((x0.den : Nat) : Int) _ _ _ _ x0.num ((x0.den : Nat) : Int) _ (e9 E) (e8 E) (e6 E) (e5 E) rfl rfl) rfl E ?_)
         clear E
         intro w35 d35 E
         clear d35
         refine kw rfl ?_
         refine M rfl rfl rfl rfl rfl <| M (by kernel_rfl) rfl rfl rfl rfl <| V (by kernel_rfl) rfl (run_eqI (c := false) rfl rfl rfl (by decide)) <| M (by kernel_rfl) rfl rfl rfl rfl <| ?_
         simp only [q2,q3]
         refine V (by kernel_rfl) rfl (run_gtI (c := false) rfl rfl rfl (by rw [decide_eq_false_iff_not]; omega)) <| V (by kernel_rfl) rfl (run_eqB (a := false) (b := false) (c := true) rfl Try.underlying4 rfl rfl rfl) <| V (v := .bool true) rfl rfl (run_pick (b := true) rfl rfl rfl) <| M rfl rfl rfl rfl rfl <| ?_
         simp only [q2,q3]
         refine M (by kernel_rfl) rfl rfl rfl rfl <| V (by kernel_rfl) rfl (run_eqI (c := true) rfl rfl rfl (by decide)) <| M (by kernel_rfl) rfl rfl rfl rfl <| L0C (by kernel_rfl) rfl <| ?_
         simp only [q2,q3]
         refine L0C (by kernel_rfl) rfl <| L0C (by kernel_rfl) rfl <| L0C (by kernel_rfl) rfl <| V (v := .bool true) (by kernel_rfl) rfl (run_pick (b := true) rfl rfl rfl) <| ?_
         simp only [q2,q3]
         refine V (v := .bool true) rfl rfl (run_pick (b := true) rfl rfl rfl) <| M rfl rfl rfl rfl rfl <| M (by kernel_rfl) rfl rfl rfl rfl <| V (v := .bool true) rfl rfl (run_pick (b := true) rfl rfl rfl) <| ?_
         simp only [q2,q3]
         refine A rfl rfl rfl rfl rfl <| ?_
         simp only [q2,q3]
         refine WN ?_
         change Code.wp _ _ _ _ _
         refine wp_ret ?_
         exact bodyPost_ret (v := .bool true) (by simp [results, Try.results3, asAddr]) rfl ⟨rfl, e13 E⟩
        case neg =>
         -- region 18
         refine RL ?_
         refine M rfl rfl rfl rfl rfl <| V (v := .string (strOfNums (sevs N true))) rfl rfl (run_str rfl Try.underlying32 Try.underlying5 Try.underlying9 rfl (sevs_len N true) hxs) <| ?_
         simp only [q2,q3]
         refine EF rfl (Oper.wp_callPE fn_rational_Parse rfl (Parse_no _ _ (by rw [sevs_size]; omega) (fun x e => hy ⟨x, e⟩)) rfl E ?_)
         clear E
         intro w36 n36 s36 m36 t36 d36 E
         clear d36
         refine kw rfl ?_
         refine M rfl rfl rfl rfl rfl <| V rfl rfl (run_extract (vs := [.agg #[.bool n36, s36, .bool m36, t36], .int .i64 3]) rfl rfl rfl) <| V rfl rfl (run_extract (vs := [.agg #[.bool n36, s36, .bool m36, t36], .int .i64 3]) rfl rfl rfl) <| ?_
         simp only [q2,q3]
         refine EF rfl (Oper.wp_alloc AgR rfl ?_)
         intro b37 w37 e37 z37 d37 x37
         have l37_0 : b20 < b37 := by rw [e37]; exact Bx.lt (E.2.2.1)
         replace E := E.below d37
         clear e37 z37 d37
         refine kw rfl ?_
         simp only [q2,q3]
         refine EF rfl (Oper.wp_store AgR rfl rfl rfl x37 rfl rfl (one4 (IsI.one (E.2.1)) (IsI.one (E.1))) ?_)
         intro w38 o38 y38
         replace E := (E.onl (x37.noW (now4 now0 now0)) ⟨trivial, trivial, okX (by omega), okX (by omega), trivial, trivial, okX (by omega), trivial, trivial, okX (by omega), trivial, trivial, okW (by omega), trivial⟩ o38).x y38
         clear x37 o38 y38
         refine kn rfl ?_
         refine A rfl rfl rfl rfl rfl <| ?_
         simp only [q2,q3]
         refine WN ?_
         change Code.wp _ _ _ _ _
         refine wp_seq ?_
         -- region 19
         refine RL ?_
         refine V rfl rfl (run_load_bx AgR rfl rfl (e7 E) rfl) <| M rfl rfl rfl rfl rfl <| V rfl rfl (run_load_bx AgR rfl rfl (e4 E) rfl) <| M rfl rfl rfl rfl rfl <| ?_
         simp only [q2,q3]
         refine EF rfl (Oper.wp_callB fn_elaw02_alike rfl (alike_t 0 _ _ _ _ x0.num ((x0.den : Nat) : Int) _ _ _ _ x0.num ((x0.den : Nat) : Int) _ (e9 E) (e8 E) (e6 E) (e5 E) rfl rfl) rfl E ?_)
         clear E
         intro w39 d39 E
         clear d39
         refine kw rfl ?_
         refine M rfl rfl rfl rfl rfl <| M (by kernel_rfl) rfl rfl rfl rfl <| V (by kernel_rfl) rfl (run_eqI (c := false) rfl rfl rfl (by decide)) <| M (by kernel_rfl) rfl rfl rfl rfl <| ?_
         simp only [q2,q3]
         refine V (by kernel_rfl) rfl (run_gtI (c := false) rfl rfl rfl (by rw [decide_eq_false_iff_not]; omega)) <| V (by kernel_rfl) rfl (run_eqB (a := false) (b := false) (c := true) rfl Try.underlying4 rfl rfl rfl) <| V (v := .bool true) rfl rfl (run_pick (b := true) rfl rfl rfl) <| M rfl rfl rfl rfl rfl <| ?_
         simp only [q2,q3]
         refine M (by kernel_rfl) rfl rfl rfl rfl <| V (by kernel_rfl) rfl (run_eqI (c := false) rfl rfl rfl (by decide)) <| M (by kernel_rfl) rfl rfl rfl rfl <| V (by kernel_rfl) rfl (run_load_bx AgR rfl rfl (E.1) rfl) <| ?_
         simp only [q2,q3]
         refine M (by kernel_rfl) rfl rfl rfl rfl <| M (by kernel_rfl) rfl rfl rfl rfl <| ?_
         simp only [q2,q3]
         refine EF rfl (Oper.wp_callB fn_elaw02_fails rfl (fails_t 3 _ _ _ _ 0 0 _ (E.2.2.1) (E.2.1) rfl rfl) rfl E ?_)
         clear E
         intro w40 d40 E
         clear d40
         refine kw rfl ?_
         refine V (v := .bool true) (by kernel_rfl) rfl (run_pick (b := false) rfl rfl rfl) <| V (v := .bool true) rfl rfl (run_pick (b := true) rfl rfl rfl) <| M rfl rfl rfl rfl rfl <| M (by kernel_rfl) rfl rfl rfl rfl <| ?_
         simp only [q2,q3]
         refine V (v := .bool true) rfl rfl (run_pick (b := true) rfl rfl rfl) <| A rfl rfl rfl rfl rfl <| ?_
         simp only [q2,q3]
         refine WN ?_
         change Code.wp _ _ _ _ _
         refine wp_ret ?_
         exact bodyPost_ret (v := .bool true) (by simp [results, Try.results3, asAddr]) rfl ⟨rfl, e13 E⟩
      case neg =>
       -- region 16
       refine RL ?_
       refine M rfl rfl rfl rfl rfl <| V (v := .int .i64 ((s.size : Nat) : Int)) rfl rfl (run_lenS rfl rfl) <| V rfl rfl (run_ltI (c := false) rfl rfl rfl (by rw [decide_eq_false_iff_not]; omega)) <| ?_
       simp only [q2,q3]
       refine WN ?_
       change Code.wp _ _ _ _ _
       refine wp_cond_false rfl ?_
       refine wp_skip ?_
       change Code.wp _ _ _ _ _
       refine wp_seq ?_
       have xs := E.1
       have hxs := sevs_at (N := N) (p := false) (by rw [← sevs_cells]; exact xs)
       by_cases hbig : 4000 < N
       case pos =>
        -- region 18
        refine RL ?_
        refine M rfl rfl rfl rfl rfl <| V (v := .string (strOfNums (sevs N false))) rfl rfl (run_str rfl Try.underlying32 Try.underlying5 Try.underlying9 rfl (sevs_len N false) hxs) <| ?_
        simp only [q2,q3]
        refine EF rfl (Oper.wp_callPE fn_rational_Parse rfl (Parse_bigQ _ _ (by rw [sevs_size]; omega)) rfl E ?_)
        clear E
        intro w42 n42 s42 m42 t42 d42 E
        clear d42
        refine kw rfl ?_
        refine M rfl rfl rfl rfl rfl <| V rfl rfl (run_extract (vs := [.agg #[.bool n42, s42, .bool m42, t42], .int .i64 2]) rfl rfl rfl) <| V rfl rfl (run_extract (vs := [.agg #[.bool n42, s42, .bool m42, t42], .int .i64 2]) rfl rfl rfl) <| ?_
        simp only [q2,q3]
        refine EF rfl (Oper.wp_alloc AgR rfl ?_)
        intro b43 w43 e43 z43 d43 x43
        have l43_0 : b20 < b43 := by rw [e43]; exact Bx.lt (E.2.2.1)
        replace E := E.below d43
        clear e43 z43 d43
        refine kw rfl ?_
        simp only [q2,q3]
        refine EF rfl (Oper.wp_store AgR rfl rfl rfl x43 rfl rfl (one4 (IsI.one (E.2.1)) (IsI.one (E.1))) ?_)
        intro w44 o44 y44
        replace E := (E.onl (x43.noW (now4 now0 now0)) ⟨trivial, trivial, okX (by omega), okX (by omega), trivial, trivial, okX (by omega), trivial, trivial, okX (by omega), trivial, trivial, okW (by omega), trivial⟩ o44).x y44
        clear x43 o44 y44
        refine kn rfl ?_
        refine A rfl rfl rfl rfl rfl <| ?_
        simp only [q2,q3]
        refine WN ?_
        change Code.wp _ _ _ _ _
        refine wp_seq ?_
        -- region 19
        refine RL ?_
        refine V rfl rfl (run_load_bx AgR rfl rfl (e7 E) rfl) <| M rfl rfl rfl rfl rfl <| V rfl rfl (run_load_bx AgR rfl rfl (e4 E) rfl) <| M rfl rfl rfl rfl rfl <| ?_
        simp only [q2,q3]
        refine EF rfl (Oper.wp_callB fn_elaw02_alike rfl (alike_t 0 _ _ _ _ x0.num ((x0.den : Nat) : Int) _ _ _ _ x0.num ((x0.den : Nat) : Int) _ (e9 E) (e8 E) (e6 E) (e5 E) rfl rfl) rfl E ?_)
        clear E
        intro w45 d45 E
        clear d45
        refine kw rfl ?_
        refine M rfl rfl rfl rfl rfl <| M (by kernel_rfl) rfl rfl rfl rfl <| V (by kernel_rfl) rfl (run_eqI (c := true) rfl rfl rfl (by decide)) <| M (by kernel_rfl) rfl rfl rfl rfl <| ?_
        simp only [q2,q3]
        refine V (by kernel_rfl) rfl (run_gtI (c := true) rfl rfl rfl (by rw [decide_eq_true_eq]; omega)) <| V (by kernel_rfl) rfl (run_eqB (a := true) (b := true) (c := true) rfl Try.underlying4 rfl rfl rfl) <| V (v := .bool true) rfl rfl (run_pick (b := true) rfl rfl rfl) <| M rfl rfl rfl rfl rfl <| ?_
        simp only [q2,q3]
        refine M (by kernel_rfl) rfl rfl rfl rfl <| V (by kernel_rfl) rfl (run_eqI (c := false) rfl rfl rfl (by decide)) <| M (by kernel_rfl) rfl rfl rfl rfl <| V (by kernel_rfl) rfl (run_load_bx AgR rfl rfl (E.1) rfl) <| ?_
        simp only [q2,q3]
        refine M (by kernel_rfl) rfl rfl rfl rfl <| M (by kernel_rfl) rfl rfl rfl rfl <| ?_
        simp only [q2,q3]
        refine EF rfl (Oper.wp_callB fn_elaw02_fails rfl (fails_t 2 _ _ _ _ 0 0 _ (E.2.2.1) (E.2.1) rfl rfl) rfl E ?_)
        clear E
        intro w46 d46 E
        clear d46
        refine kw rfl ?_
        refine V (v := .bool true) (by kernel_rfl) rfl (run_pick (b := false) rfl rfl rfl) <| V (v := .bool true) rfl rfl (run_pick (b := true) rfl rfl rfl) <| M rfl rfl rfl rfl rfl <| M (by kernel_rfl) rfl rfl rfl rfl <| ?_
        simp only [q2,q3]
        refine V (v := .bool true) rfl rfl (run_pick (b := true) rfl rfl rfl) <| A rfl rfl rfl rfl rfl <| ?_
        simp only [q2,q3]
        refine WN ?_
        change Code.wp _ _ _ _ _
        refine wp_ret ?_
        exact bodyPost_ret (v := .bool true) (by simp [results, Try.results3, asAddr]) rfl ⟨rfl, e13 E⟩
       case neg =>
        by_cases hy : ∃ x, (strOfNums (sevs N false)) = txtQ x
        case pos =>
         obtain ⟨y0, hy0⟩ := hy
         -- region 18
         refine RL ?_
         refine M rfl rfl rfl rfl rfl <| V (v := .string (strOfNums (sevs N false))) rfl rfl (run_str rfl Try.underlying32 Try.underlying5 Try.underlying9 rfl (sevs_len N false) hxs) <| ?_
         simp only [q2,q3]
         refine EF rfl (Oper.wp_callPE fn_rational_Parse rfl (Parse_is _ y0 _ (by rw [sevs_size]; omega) hy0) rfl E ?_)
         clear E
         intro w47 n47 s47 m47 t47 d47 E
         clear d47
         refine kw rfl ?_
         refine M rfl rfl rfl rfl rfl <| V rfl rfl (run_extract (vs := [.agg #[.bool n47, s47, .bool m47, t47], .int .i64 0]) rfl rfl rfl) <| V rfl rfl (run_extract (vs := [.agg #[.bool n47, s47, .bool m47, t47], .int .i64 0]) rfl rfl rfl) <| ?_
         simp only [q2,q3]
         refine EF rfl (Oper.wp_alloc AgR rfl ?_)
         intro b48 w48 e48 z48 d48 x48
         have l48_0 : b20 < b48 := by rw [e48]; exact Bx.lt (E.2.2.1)
         replace E := E.below d48
         clear e48 z48 d48
         refine kw rfl ?_
         simp only [q2,q3]
         refine EF rfl (Oper.wp_store AgR rfl rfl rfl x48 rfl rfl (one4 (IsI.one (E.2.1)) (IsI.one (E.1))) ?_)
         intro w49 o49 y49
         replace E := (E.onl (x48.noW (now4 now0 now0)) ⟨trivial, trivial, okX (by omega), okX (by omega), trivial, trivial, okX (by omega), trivial, trivial, okX (by omega), trivial, trivial, okW (by omega), trivial⟩ o49).x y49
         clear x48 o49 y49
         refine kn rfl ?_
         refine A rfl rfl rfl rfl rfl <| ?_
         simp only [q2,q3]
         refine WN ?_
         change Code.wp _ _ _ _ _
         refine wp_seq ?_
         -- region 19
         refine RL ?_
         refine V rfl rfl (run_load_bx AgR rfl rfl (e7 E) rfl) <| M rfl rfl rfl rfl rfl <| V rfl rfl (run_load_bx AgR rfl rfl (e4 E) rfl) <| M rfl rfl rfl rfl rfl <| ?_
         simp only [q2,q3]
         refine EF rfl (Oper.wp_callB fn_elaw02_alike rfl (alike_t 0 _ _ _ _ x0.num ((x0.den : Nat) : Int) _ _ _ _ x0.num ((x0.den : Nat) : Int) _ (e9 E) (e8 E) (e6 E) (e5 E) rfl rfl) rfl E ?_)
         clear E
         intro w50 d50 E
         clear d50
         refine kw rfl ?_
         refine M rfl rfl rfl rfl rfl <| M (by kernel_rfl) rfl rfl rfl rfl <| V (by kernel_rfl) rfl (run_eqI (c := false) rfl rfl rfl (by decide)) <| M (by kernel_rfl) rfl rfl rfl rfl <| ?_
         simp only [q2,q3]
         refine V (by kernel_rfl) rfl (run_gtI (c := false) rfl rfl rfl (by rw [decide_eq_false_iff_not]; omega)) <| V (by kernel_rfl) rfl (run_eqB (a := false) (b := false) (c := true) rfl Try.underlying4 rfl rfl rfl) <| V (v := .bool true) rfl rfl (run_pick (b := true) rfl rfl rfl) <| M rfl rfl rfl rfl rfl <| ?_
         simp only [q2,q3]
         refine M (by kernel_rfl) rfl rfl rfl rfl <| V (by kernel_rfl) rfl (run_eqI (c := true) rfl rfl rfl (by decide)) <| M (by kernel_rfl) rfl rfl rfl rfl <| L0C (by kernel_rfl) rfl <| ?_
         simp only [q2,q3]
         refine L0C (by kernel_rfl) rfl <| L0C (by kernel_rfl) rfl <| L0C (by kernel_rfl) rfl <| V (v := .bool true) (by kernel_rfl) rfl (run_pick (b := true) rfl rfl rfl) <| ?_
         simp only [q2,q3]
         refine V (v := .bool true) rfl rfl (run_pick (b := true) rfl rfl rfl) <| M rfl rfl rfl rfl rfl <| M (by kernel_rfl) rfl rfl rfl rfl <| V (v := .bool true) rfl rfl (run_pick (b := true) rfl rfl rfl) <| ?_
         simp only [q2,q3]
         refine A rfl rfl rfl rfl rfl <| ?_
         simp only [q2,q3]
         refine WN ?_
         change Code.wp _ _ _ _ _
         refine wp_ret ?_
         exact bodyPost_ret (v := .bool true) (by simp [results, Try.results3, asAddr]) rfl ⟨rfl, e13 E⟩
        case neg =>
         -- region 18
         refine RL ?_
         refine M rfl rfl rfl rfl rfl <| V (v := .string (strOfNums (sevs N false))) rfl rfl (run_str rfl Try.underlying32 Try.underlying5 Try.underlying9 rfl (sevs_len N false) hxs) <| ?_
         simp only [q2,q3]
         refine EF rfl (Oper.wp_callPE fn_rational_Parse rfl (Parse_no _ _ (by rw [sevs_size]; omega) (fun x e => hy ⟨x, e⟩)) rfl E ?_)
         clear E
         intro w51 n51 s51 m51 t51 d51 E
         clear d51
         refine kw rfl ?_
         refine M rfl rfl rfl rfl rfl <| V rfl rfl (run_extract (vs := [.agg #[.bool n51, s51, .bool m51, t51], .int .i64 3]) rfl rfl rfl) <| V rfl rfl (run_extract (vs := [.agg #[.bool n51, s51, .bool m51, t51], .int .i64 3]) rfl rfl rfl) <| ?_
         simp only [q2,q3]
         refine EF rfl (Oper.wp_alloc AgR rfl ?_)
         intro b52 w52 e52 z52 d52 x52
         have l52_0 : b20 < b52 := by rw [e52]; exact Bx.lt (E.2.2.1)
         replace E := E.below d52
         clear e52 z52 d52
         refine kw rfl ?_
         simp only [q2,q3]
         refine EF rfl (Oper.wp_store AgR rfl rfl rfl x52 rfl rfl (one4 (IsI.one (E.2.1)) (IsI.one (E.1))) ?_)
         intro w53 o53 y53
         replace E := (E.onl (x52.noW (now4 now0 now0)) ⟨trivial, trivial, okX (by omega), okX (by omega), trivial, trivial, okX (by omega), trivial, trivial, okX (by omega), trivial, trivial, okW (by omega), trivial⟩ o53).x y53
         clear x52 o53 y53
         refine kn rfl ?_
         refine A rfl rfl rfl rfl rfl <| ?_
         simp only [q2,q3]
         refine WN ?_
         change Code.wp _ _ _ _ _
         refine wp_seq ?_
         -- region 19
         refine RL ?_
         refine V rfl rfl (run_load_bx AgR rfl rfl (e7 E) rfl) <| M rfl rfl rfl rfl rfl <| V rfl rfl (run_load_bx AgR rfl rfl (e4 E) rfl) <| M rfl rfl rfl rfl rfl <| ?_
         simp only [q2,q3]
         refine EF rfl (Oper.wp_callB fn_elaw02_alike rfl (alike_t 0 _ _ _ _ x0.num ((x0.den : Nat) : Int) _ _ _ _ x0.num ((x0.den : Nat) : Int) _ (e9 E) (e8 E) (e6 E) (e5 E) rfl rfl) rfl E ?_)
         clear E
         intro w54 d54 E
         clear d54
         refine kw rfl ?_
         refine M rfl rfl rfl rfl rfl <| M (by kernel_rfl) rfl rfl rfl rfl <| V (by kernel_rfl) rfl (run_eqI (c := false) rfl rfl rfl (by decide)) <| M (by kernel_rfl) rfl rfl rfl rfl <| ?_
         simp only [q2,q3]
         refine V (by kernel_rfl) rfl (run_gtI (c := false) rfl rfl rfl (by rw [decide_eq_false_iff_not]; omega)) <| V (by kernel_rfl) rfl (run_eqB (a := false) (b := false) (c := true) rfl Try.underlying4 rfl rfl rfl) <| V (v := .bool true) rfl rfl (run_pick (b := true) rfl rfl rfl) <| M rfl rfl rfl rfl rfl <| ?_
         simp only [q2,q3]
         refine M (by kernel_rfl) rfl rfl rfl rfl <| V (by kernel_rfl) rfl (run_eqI (c := false) rfl rfl rfl (by decide)) <| M (by kernel_rfl) rfl rfl rfl rfl <| V (by kernel_rfl) rfl (run_load_bx AgR rfl rfl (E.1) rfl) <| ?_
         simp only [q2,q3]
         refine M (by kernel_rfl) rfl rfl rfl rfl <| M (by kernel_rfl) rfl rfl rfl rfl <| ?_
         simp only [q2,q3]
         refine EF rfl (Oper.wp_callB fn_elaw02_fails rfl (fails_t 3 _ _ _ _ 0 0 _ (E.2.2.1) (E.2.1) rfl rfl) rfl E ?_)
         clear E
         intro w55 d55 E
         clear d55
         refine kw rfl ?_
         refine V (v := .bool true) (by kernel_rfl) rfl (run_pick (b := false) rfl rfl rfl) <| V (v := .bool true) rfl rfl (run_pick (b := true) rfl rfl rfl) <| M rfl rfl rfl rfl rfl <| M (by kernel_rfl) rfl rfl rfl rfl <| ?_
         simp only [q2,q3]
         refine V (v := .bool true) rfl rfl (run_pick (b := true) rfl rfl rfl) <| A rfl rfl rfl rfl rfl <| ?_
         simp only [q2,q3]
         refine WN ?_
         change Code.wp _ _ _ _ _
         refine wp_ret ?_
         exact bodyPost_ret (v := .bool true) (by simp [results, Try.results3, asAddr]) rfl ⟨rfl, e13 E⟩
    case neg =>
     -- region 8
     refine RL ?_
     refine M rfl rfl rfl rfl rfl <| ?_
     simp only [q2,q3]
     refine EF rfl (Oper.wp_callPE fn_rational_Parse rfl (Parse_no s _ (by omega) (fun x e => hx ⟨x, e⟩)) rfl E ?_)
     clear E
     intro w56 n56 s56 m56 t56 d56 E
     clear d56
     refine kw rfl ?_
     refine M rfl rfl rfl rfl rfl <| V rfl rfl (run_extract (vs := [.agg #[.bool n56, s56, .bool m56, t56], .int .i64 3]) rfl rfl rfl) <| V rfl rfl (run_extract (vs := [.agg #[.bool n56, s56, .bool m56, t56], .int .i64 3]) rfl rfl rfl) <| ?_
     simp only [q2,q3]
     refine EF rfl (Oper.wp_alloc AgR rfl ?_)
     intro b57 w57 e57 z57 d57 x57
     have l57_0 : b1 < b57 := by rw [e57]; exact Bx.lt (E.2.2.1)
     replace E := E.below d57
     clear e57 z57 d57
     refine kw rfl ?_
     simp only [q2,q3]
     refine EF rfl (Oper.wp_store AgR rfl rfl rfl x57 rfl rfl (one4 (IsI.one (E.2.1)) (IsI.one (E.1))) ?_)
     intro w58 o58 y58
     replace E := (E.onl (x57.noW (now4 now0 now0)) ⟨trivial, trivial, okX (by omega), trivial, trivial, okW (by omega), trivial⟩ o58).x y58
     clear x57 o58 y58
     refine kn rfl ?_
     refine A rfl rfl rfl rfl rfl <| ?_
     simp only [q2,q3]
     refine WN ?_
     change Code.wp _ _ _ _ _
     refine wp_seq ?_
     -- region 9
     refine RL ?_
     refine M rfl rfl rfl rfl rfl <| ?_
     simp only [q2,q3]
     refine EF rfl (Oper.wp_callPE fn_eref02_Parse rfl (RParse_no s _ (by omega) (fun x e => hx ⟨x, e⟩)) rfl E ?_)
     clear E
     intro w59 n59 s59 m59 t59 d59 E
     clear d59
     refine kw rfl ?_
     refine M rfl rfl rfl rfl rfl <| V rfl rfl (run_extract (vs := [.agg #[.bool n59, s59, .bool m59, t59], .int .i64 3]) rfl rfl rfl) <| V rfl rfl (run_extract (vs := [.agg #[.bool n59, s59, .bool m59, t59], .int .i64 3]) rfl rfl rfl) <| ?_
     simp only [q2,q3]
     refine EF rfl (Oper.wp_alloc AgR rfl ?_)
     intro b60 w60 e60 z60 d60 x60
     have l60_0 : b57 < b60 := by rw [e60]; exact Bx.lt (E.2.2.1)
     replace E := E.below d60
     clear e60 z60 d60
     refine kw rfl ?_
     simp only [q2,q3]
     refine EF rfl (Oper.wp_store AgR rfl rfl rfl x60 rfl rfl (one4 (IsI.one (E.2.1)) (IsI.one (E.1))) ?_)
     intro w61 o61 y61
     replace E := (E.onl (x60.noW (now4 now0 now0)) ⟨trivial, trivial, okX (by omega), trivial, trivial, okX (by omega), trivial, trivial, okW (by omega), trivial⟩ o61).x y61
     clear x60 o61 y61
     refine kn rfl ?_
     refine A rfl rfl rfl rfl rfl <| ?_
     simp only [q2,q3]
     refine WN ?_
     change Code.wp _ _ _ _ _
     refine wp_seq ?_
     obtain ⟨r, hr1, hr2, hr3, hr4⟩ := rem6 am
     obtain ⟨N, hN⟩ : ∃ N, 3997 + r = N := ⟨_, rfl⟩
     -- region 10
     refine RL ?_
     refine M rfl rfl rfl rfl rfl <| V (v := .int .i64 (am.tmod 6)) rfl rfl (run_remI rfl rfl rfl (by decide) rfl) <| V (v := .int .i64 (am.tmod 6 + 6)) rfl rfl (run_addI rfl rfl rfl (wrap_i (by omega))) <| V (v := .int .i64 ((r : Nat) : Int)) rfl rfl (run_remI rfl rfl rfl (by decide) hr2) <| ?_
     simp only [q2,q3]
     refine V (v := .int .i64 ((N : Nat) : Int)) rfl rfl (run_addI rfl rfl rfl (by rw [wrap_i (by omega)]; omega)) <| A rfl rfl rfl rfl rfl <| ?_
     simp only [q2,q3]
     refine WN ?_
     change Code.wp _ _ _ _ _
     refine wp_seq ?_
     -- region 11
     refine RL ?_
     refine M rfl rfl rfl rfl rfl <| ?_
     simp only [q2,q3]
     refine EF rfl (Oper.wp_makeB rfl rfl rfl (by omega) ?_)
     intro b62 w62 e62 z62 d62 x62
     have l62_0 : b60 < b62 := by rw [e62]; exact Bx.lt (E.1)
     replace E := E.below d62
     clear e62 z62 d62
     replace E := E.x x62
     clear x62
     refine kw rfl ?_
     refine A rfl rfl rfl rfl rfl <| ?_
     simp only [q2,q3]
     refine WN ?_
     change Code.wp _ _ _ _ _
     refine wp_seq ?_
     refine wp_seq ?_
     -- region 12
     refine RL ?_
     refine AC rfl rfl rfl rfl <| ?_
     simp only [q2,q3]
     refine WN ?_
     change Code.wp _ _ _ _ _
     refine wp_block ?_
     refine wp_loop_ghost (fun mz a w' => ∃ (i : Nat) (g60 g61 g62 g63 g64 g65 g66 g67 : Value), a = ⟨#[.agg #[.bool pn, ps, .bool qn, qs], .string s, .int .i64 am, .pointer (some ⟨b1, 0, none⟩), undef, undef, .bool false, .bool true, .pointer (some ⟨b57, 0, none⟩), .int .i64 3, .pointer (some ⟨b60, 0, none⟩), .int .i64 3, .int .i64 ((N : Nat) : Int), .slice (some ⟨b62, 0, none⟩) N N, .int .i64 ((i : Nat) : Int), undef, undef, .bool true, .bool true, .bool false, .pointer (some ⟨b1, 0, none⟩), .pointer (some ⟨b1, 1, none⟩), ps, .int .i64 (((pl).length : Nat) : Int), .bool false, .bool false, .pointer (some ⟨b1, 2, none⟩), .pointer (some ⟨b1, 3, none⟩), qs, .int .i64 (((ql).length : Nat) : Int), .bool false, .bool false, .bool false, .string s, .int .i64 ((s.size : Nat) : Int), .bool false, .bool false, undef, .agg #[.bool pn, ps, .bool qn, qs], .bool (vraw pn pl qn ql), .agg #[.bool pn, ps, .bool qn, qs], .bool (vraw pn pl qn ql), .bool false, .tuple #[.agg #[.bool n56, s56, .bool m56, t56], .int .i64 3], .string s, .tuple #[.agg #[.bool n56, s56, .bool m56, t56], .int .i64 3], .agg #[.bool n56, s56, .bool m56, t56], .int .i64 3, .tuple #[.agg #[.bool n59, s59, .bool m59, t59], .int .i64 3], .string s, .tuple #[.agg #[.bool n59, s59, .bool m59, t59], .int .i64 3], .agg #[.bool n59, s59, .bool m59, t59], .int .i64 3, .int .i64 am, .int .i64 (am.tmod 6), .int .i64 (am.tmod 6 + 6), .int .i64 ((r : Nat) : Int), .int .i64 ((N : Nat) : Int), .int .i64 ((N : Nat) : Int), .slice (some ⟨b62, 0, none⟩) N N, g60, g61, g62, g63, g64, g65, g66, g67, undef, undef, undef, undef, undef, undef, undef, undef, undef, undef, undef, undef, undef, undef, undef, undef, undef, undef, undef, undef, undef, undef, undef, undef, undef, undef, undef, undef, undef, undef, undef, undef, undef, undef, undef, undef], []⟩ ∧ Env w' [fX b62 (5) (fill N i), fX b60 (26) ([.bool n59, s59, .bool m59, t59]), fI (.agg #[.bool m59, t59]) 0, fI (.agg #[.bool n59, s59]) 0, fX b57 (26) ([.bool n56, s56, .bool m56, t56]), fI (.agg #[.bool m56, t56]) 0, fI (.agg #[.bool n56, s56]) 0, fX b1 (26) ([.bool pn, ps, .bool qn, qs]), fS qs ql, fS ps pl, fW w] ∧ mz = N - i ∧ i ≤ N) (N) ⟨0, _, _, _, _, _, _, _, _, rfl, (Env.x (Env.x (Env.i (Env.i (Env.x (Env.i (Env.i (Env.x (Env.s (Env.s (Env.ww (Env.nil _) (e10 E)) (e9 E)) (e8 E)) (e7 E)) (e6 E)) (e5 E)) (e4 E)) (e3 E)) (E.2.2.1)) (E.2.1)) (E.1)), rfl, Nat.zero_le _⟩ ?_
     rintro m63 _ w63 ⟨i, g60, g61, g62, g63, g64, g65, g66, g67, rfl, E, hm63, hI63⟩
     by_cases hi : i < N
     case pos =>
      refine wp_seq ?_
      refine wp_seq ?_
      -- region 13
      refine RL ?_
      refine M rfl rfl rfl rfl rfl <| M rfl rfl rfl rfl rfl <| V rfl rfl (run_ltI (c := true) rfl rfl rfl (by rw [decide_eq_true_eq]; omega)) <| ?_
      simp only [q2,q3]
      refine WN ?_
      change Code.wp _ _ _ _ _
      refine wp_cond_true rfl ?_
      refine wp_skip ?_
      change Code.wp _ _ _ _ _
      refine wp_seq ?_
      refine wp_block ?_
      -- region 15
      refine RL ?_
      refine M rfl rfl rfl rfl rfl <| M rfl rfl rfl rfl rfl <| V (v := .pointer (some ⟨b62, 0 + i * 1, none⟩)) rfl rfl (run_idx (j := i) rfl Try.underlying32 (by kernel_rfl) rfl rfl rfl (by omega)) <| ?_
      have x65 := E.1
      replace E := E.2
      simp only [q2,q3]
      refine EF rfl (Oper.wp_storeB (j := 0 + i * 1) rfl rfl rfl x65 (by rw [fill_len (by omega)]; omega) ?_)
      intro w64 o64 y64
      rw [show 0 + i * 1 = i by omega, fill_set hi] at y64
      replace E := (E.onl (x65.noW (isB_now (fill_isB _ _))) ⟨okX (by omega), trivial, trivial, okX (by omega), trivial, trivial, okX (by omega), trivial, trivial, okW (by omega), trivial⟩ o64).x y64
      clear x65 o64 y64
      refine kn rfl ?_
      refine WN ?_
      change Code.wp _ _ _ _ _
      -- region 14
      refine RL ?_
      refine M rfl rfl rfl rfl rfl <| V (v := .int .i64 ((i + 1 : Nat) : Int)) rfl rfl (run_addI rfl rfl rfl (wrap_nat (by omega) (by omega))) <| A rfl rfl rfl rfl rfl <| ?_
      simp only [q2,q3]
      refine WN ?_
      exact ⟨_, (by rw [hm63]; omega), (i + 1), _, _, _, _, _, _, _, _, rfl, (Env.x (Env.x (Env.i (Env.i (Env.x (Env.i (Env.i (Env.x (Env.s (Env.s (Env.ww (Env.nil _) (e10 E)) (e9 E)) (e8 E)) (e7 E)) (e6 E)) (e5 E)) (e4 E)) (e3 E)) (E.2.2.1)) (E.2.1)) (E.1)), rfl, (by omega)⟩
     case neg =>
      have hiN : i = N := by have := hI63; omega
      have xf := E.1
      rw [hiN] at xf
      replace E := (((Env.x (Env.i (Env.i (Env.x (Env.i (Env.i (Env.x (Env.s (Env.s (Env.ww (Env.nil _) (e10 E)) (e9 E)) (e8 E)) (e7 E)) (e6 E)) (e5 E)) (e4 E)) (e3 E)) (E.2.2.1)) (E.2.1)) : Env _ [fX b60 (26) ([.bool n59, s59, .bool m59, t59]), fI (.agg #[.bool m59, t59]) 0, fI (.agg #[.bool n59, s59]) 0, fX b57 (26) ([.bool n56, s56, .bool m56, t56]), fI (.agg #[.bool m56, t56]) 0, fI (.agg #[.bool n56, s56]) 0, fX b1 (26) ([.bool pn, ps, .bool qn, qs]), fS qs ql, fS ps pl, fW w])).x xf
      refine wp_seq ?_
      refine wp_seq ?_
      -- region 13
      refine RL ?_
      refine M rfl rfl rfl rfl rfl <| M rfl rfl rfl rfl rfl <| V rfl rfl (run_ltI (c := false) rfl rfl rfl (by rw [decide_eq_false_iff_not]; omega)) <| ?_
      simp only [q2,q3]
      refine WN ?_
      change Code.wp _ _ _ _ _
      refine wp_cond_false rfl ?_
      refine wp_exit ?_
      change Code.wp _ _ _ _ _
      refine wp_seq ?_
      refine wp_seq ?_
      by_cases h4 : s.size < 4
      case pos =>
       -- region 16
       refine RL ?_
       refine M rfl rfl rfl rfl rfl <| V (v := .int .i64 ((s.size : Nat) : Int)) rfl rfl (run_lenS rfl rfl) <| V rfl rfl (run_ltI (c := true) rfl rfl rfl (by rw [decide_eq_true_eq]; omega)) <| ?_
       simp only [q2,q3]
       refine WN ?_
       change Code.wp _ _ _ _ _
       refine wp_cond_true rfl ?_
       -- region 17
       refine RL ?_
       refine M rfl rfl rfl rfl rfl <| V (v := .pointer (some ⟨b62, 0 + 1 * 1, none⟩)) rfl rfl (run_idx (j := 1) rfl Try.underlying32 (by kernel_rfl) rfl rfl rfl (by omega)) <| ?_
       have x68 := E.1
       replace E := E.2
       simp only [q2,q3]
       refine EF rfl (Oper.wp_storeB (j := 0 + 1 * 1) rfl rfl rfl x68 (by rw [fill_len (by omega)]; omega) ?_)
       intro w67 o67 y67
       replace E := (E.onl (x68.noW (isB_now (fill_isB _ _))) ⟨okX (by omega), trivial, trivial, okX (by omega), trivial, trivial, okX (by omega), trivial, trivial, okW (by omega), trivial⟩ o67).x y67
       clear x68 o67 y67
       refine kn rfl ?_
       refine WN ?_
       change Code.wp _ _ _ _ _
       refine wp_seq ?_
       have xs := E.1
       have hxs := sevs_at (N := N) (p := true) (by rw [← sevs_cells]; exact xs)
       by_cases hbig : 4000 < N
       case pos =>
        -- region 18
        refine RL ?_
        refine M rfl rfl rfl rfl rfl <| V (v := .string (strOfNums (sevs N true))) rfl rfl (run_str rfl Try.underlying32 Try.underlying5 Try.underlying9 rfl (sevs_len N true) hxs) <| ?_
        simp only [q2,q3]
        refine EF rfl (Oper.wp_callPE fn_rational_Parse rfl (Parse_bigQ _ _ (by rw [sevs_size]; omega)) rfl E ?_)
        clear E
        intro w69 n69 s69 m69 t69 d69 E
        clear d69
        refine kw rfl ?_
        refine M rfl rfl rfl rfl rfl <| V rfl rfl (run_extract (vs := [.agg #[.bool n69, s69, .bool m69, t69], .int .i64 2]) rfl rfl rfl) <| V rfl rfl (run_extract (vs := [.agg #[.bool n69, s69, .bool m69, t69], .int .i64 2]) rfl rfl rfl) <| ?_
        simp only [q2,q3]
        refine EF rfl (Oper.wp_alloc AgR rfl ?_)
        intro b70 w70 e70 z70 d70 x70
        have l70_0 : b62 < b70 := by rw [e70]; exact Bx.lt (E.2.2.1)
        replace E := E.below d70
        clear e70 z70 d70
        refine kw rfl ?_
        simp only [q2,q3]
        refine EF rfl (Oper.wp_store AgR rfl rfl rfl x70 rfl rfl (one4 (IsI.one (E.2.1)) (IsI.one (E.1))) ?_)
        intro w71 o71 y71
        replace E := (E.onl (x70.noW (now4 now0 now0)) ⟨trivial, trivial, okX (by omega), okX (by omega), trivial, trivial, okX (by omega), trivial, trivial, okX (by omega), trivial, trivial, okW (by omega), trivial⟩ o71).x y71
        clear x70 o71 y71
        refine kn rfl ?_
        refine A rfl rfl rfl rfl rfl <| ?_
        simp only [q2,q3]
        refine WN ?_
        change Code.wp _ _ _ _ _
        refine wp_seq ?_
        -- region 19
        refine RL ?_
        refine V rfl rfl (run_load_bx AgR rfl rfl (e7 E) rfl) <| M rfl rfl rfl rfl rfl <| V rfl rfl (run_load_bx AgR rfl rfl (e4 E) rfl) <| M rfl rfl rfl rfl rfl <| ?_
        simp only [q2,q3]
        refine EF rfl (Oper.wp_callB fn_elaw02_alike rfl (alike_t 3 _ _ _ _ 0 0 _ _ _ _ 0 0 _ (e9 E) (e8 E) (e6 E) (e5 E) rfl rfl) rfl E ?_)
        clear E
        intro w72 d72 E
        clear d72
        refine kw rfl ?_
        refine M rfl rfl rfl rfl rfl <| M (by kernel_rfl) rfl rfl rfl rfl <| V (by kernel_rfl) rfl (run_eqI (c := true) rfl rfl rfl (by decide)) <| M (by kernel_rfl) rfl rfl rfl rfl <| ?_
        simp only [q2,q3]
        refine V (by kernel_rfl) rfl (run_gtI (c := true) rfl rfl rfl (by rw [decide_eq_true_eq]; omega)) <| V (by kernel_rfl) rfl (run_eqB (a := true) (b := true) (c := true) rfl Try.underlying4 rfl rfl rfl) <| V (v := .bool true) rfl rfl (run_pick (b := true) rfl rfl rfl) <| M rfl rfl rfl rfl rfl <| ?_
        simp only [q2,q3]
        refine M (by kernel_rfl) rfl rfl rfl rfl <| V (by kernel_rfl) rfl (run_eqI (c := false) rfl rfl rfl (by decide)) <| M (by kernel_rfl) rfl rfl rfl rfl <| V (by kernel_rfl) rfl (run_load_bx AgR rfl rfl (E.1) rfl) <| ?_
        simp only [q2,q3]
        refine M (by kernel_rfl) rfl rfl rfl rfl <| M (by kernel_rfl) rfl rfl rfl rfl <| ?_
        simp only [q2,q3]
        refine EF rfl (Oper.wp_callB fn_elaw02_fails rfl (fails_t 2 _ _ _ _ 0 0 _ (E.2.2.1) (E.2.1) rfl rfl) rfl E ?_)
        clear E
        intro w73 d73 E
        clear d73
        refine kw rfl ?_
        refine V (v := .bool true) (by kernel_rfl) rfl (run_pick (b := false) rfl rfl rfl) <| V (v := .bool true) rfl rfl (run_pick (b := true) rfl rfl rfl) <| M rfl rfl rfl rfl rfl <| M (by kernel_rfl) rfl rfl rfl rfl <| ?_
        simp only [q2,q3]
        refine V (v := .bool true) rfl rfl (run_pick (b := true) rfl rfl rfl) <| A rfl rfl rfl rfl rfl <| ?_
        simp only [q2,q3]
        refine WN ?_
        change Code.wp _ _ _ _ _
        refine wp_ret ?_
        exact bodyPost_ret (v := .bool true) (by simp [results, Try.results3, asAddr]) rfl ⟨rfl, e13 E⟩
       case neg =>
        by_cases hy : ∃ x, (strOfNums (sevs N true)) = txtQ x
        case pos =>
         obtain ⟨y0, hy0⟩ := hy
         -- region 18
         refine RL ?_
         refine M rfl rfl rfl rfl rfl <| V (v := .string (strOfNums (sevs N true))) rfl rfl (run_str rfl Try.underlying32 Try.underlying5 Try.underlying9 rfl (sevs_len N true) hxs) <| ?_
         simp only [q2,q3]
         refine EF rfl (Oper.wp_callPE fn_rational_Parse rfl (Parse_is _ y0 _ (by rw [sevs_size]; omega) hy0) rfl E ?_)
         clear E
         intro w74 n74 s74 m74 t74 d74 E
         clear d74
         refine kw rfl ?_
         refine M rfl rfl rfl rfl rfl <| V rfl rfl (run_extract (vs := [.agg #[.bool n74, s74, .bool m74, t74], .int .i64 0]) rfl rfl rfl) <| V rfl rfl (run_extract (vs := [.agg #[.bool n74, s74, .bool m74, t74], .int .i64 0]) rfl rfl rfl) <| ?_
         simp only [q2,q3]
         refine EF rfl (Oper.wp_alloc AgR rfl ?_)
         intro b75 w75 e75 z75 d75 x75
         have l75_0 : b62 < b75 := by rw [e75]; exact Bx.lt (E.2.2.1)
         replace E := E.below d75
         clear e75 z75 d75
         refine kw rfl ?_
         simp only [q2,q3]
         refine EF rfl (Oper.wp_store AgR rfl rfl rfl x75 rfl rfl (one4 (IsI.one (E.2.1)) (IsI.one (E.1))) ?_)
         intro w76 o76 y76
         replace E := (E.onl (x75.noW (now4 now0 now0)) ⟨trivial, trivial, okX (by omega), okX (by omega), trivial, trivial, okX (by omega), trivial, trivial, okX (by omega), trivial, trivial, okW (by omega), trivial⟩ o76).x y76
         clear x75 o76 y76
         refine kn rfl ?_
         refine A rfl rfl rfl rfl rfl <| ?_
         simp only [q2,q3]
         refine WN ?_
         change Code.wp _ _ _ _ _
         refine wp_seq ?_
         -- region 19
         refine RL ?_
         refine V rfl rfl (run_load_bx AgR rfl rfl (e7 E) rfl) <| M rfl rfl rfl rfl rfl <| V rfl rfl (run_load_bx AgR rfl rfl (e4 E) rfl) <| M rfl rfl rfl rfl rfl <| ?_
         simp only [q2,q3]
         refine EF rfl (Oper.wp_callB fn_elaw02_alike rfl (alike_t 3 _ _ _ _ 0 0 _ _ _ _ 0 0 _ (e9 E) (e8 E) (e6 E) (e5 E) rfl rfl) rfl E ?_)
         clear E
         intro w77 d77 E
         clear d77
         refine kw rfl ?_
         refine M rfl rfl rfl rfl rfl <| M (by kernel_rfl) rfl rfl rfl rfl <| V (by kernel_rfl) rfl (run_eqI (c := false) rfl rfl rfl (by decide)) <| M (by kernel_rfl) rfl rfl rfl rfl <| ?_
         simp only [q2,q3]
         refine V (by kernel_rfl) rfl (run_gtI (c := false) rfl rfl rfl (by rw [decide_eq_false_iff_not]; omega)) <| V (by kernel_rfl) rfl (run_eqB (a := false) (b := false) (c := true) rfl Try.underlying4 rfl rfl rfl) <| V (v := .bool true) rfl rfl (run_pick (b := true) rfl rfl rfl) <| M rfl rfl rfl rfl rfl <| ?_
         simp only [q2,q3]
         refine M (by kernel_rfl) rfl rfl rfl rfl <| V (by kernel_rfl) rfl (run_eqI (c := true) rfl rfl rfl (by decide)) <| M (by kernel_rfl) rfl rfl rfl rfl <| L0C (by kernel_rfl) rfl <| ?_
         simp only [q2,q3]
         refine L0C (by kernel_rfl) rfl <| L0C (by kernel_rfl) rfl <| L0C (by kernel_rfl) rfl <| V (v := .bool true) (by kernel_rfl) rfl (run_pick (b := true) rfl rfl rfl) <| ?_
         simp only [q2,q3]
         refine V (v := .bool true) rfl rfl (run_pick (b := true) rfl rfl rfl) <| M rfl rfl rfl rfl rfl <| M (by kernel_rfl) rfl rfl rfl rfl <| V (v := .bool true) rfl rfl (run_pick (b := true) rfl rfl rfl) <| ?_
         simp only [q2,q3]
         refine A rfl rfl rfl rfl rfl <| ?_
         simp only [q2,q3]
         refine WN ?_
         change Code.wp _ _ _ _ _
         refine wp_ret ?_
         exact bodyPost_ret (v := .bool true) (by simp [results, Try.results3, asAddr]) rfl ⟨rfl, e13 E⟩
        case neg =>
         -- region 18
         refine RL ?_
         refine M rfl rfl rfl rfl rfl <| V (v := .string (strOfNums (sevs N true))) rfl rfl (run_str rfl Try.underlying32 Try.underlying5 Try.underlying9 rfl (sevs_len N true) hxs) <| ?_
         simp only [q2,q3]
         refine EF rfl (Oper.wp_callPE fn_rational_Parse rfl (Parse_no _ _ (by rw [sevs_size]; omega) (fun x e => hy ⟨x, e⟩)) rfl E ?_)
         clear E
         intro w78 n78 s78 m78 t78 d78 E
         clear d78
         refine kw rfl ?_
         refine M rfl rfl rfl rfl rfl <| V rfl rfl (run_extract (vs := [.agg #[.bool n78, s78, .bool m78, t78], .int .i64 3]) rfl rfl rfl) <| V rfl rfl (run_extract (vs := [.agg #[.bool n78, s78, .bool m78, t78], .int .i64 3]) rfl rfl rfl) <| ?_
         simp only [q2,q3]
         refine EF rfl (Oper.wp_alloc AgR rfl ?_)
         intro b79 w79 e79 z79 d79 x79
         have l79_0 : b62 < b79 := by rw [e79]; exact Bx.lt (E.2.2.1)
         replace E := E.below d79
         clear e79 z79 d79
         refine kw rfl ?_
         simp only [q2,q3]
         refine EF rfl (Oper.wp_store AgR rfl rfl rfl x79 rfl rfl (one4 (IsI.one (E.2.1)) (IsI.one (E.1))) ?_)
         intro w80 o80 y80
         replace E := (E.onl (x79.noW (now4 now0 now0)) ⟨trivial, trivial, okX (by omega), okX (by omega), trivial, trivial, okX (by omega), trivial, trivial, okX (by omega), trivial, trivial, okW (by omega), trivial⟩ o80).x y80
         clear x79 o80 y80
         refine kn rfl ?_
         refine A rfl rfl rfl rfl rfl <| ?_
         simp only [q2,q3]
         refine WN ?_
         change Code.wp _ _ _ _ _
         refine wp_seq ?_
         -- region 19
         refine RL ?_
         refine V rfl rfl (run_load_bx AgR rfl rfl (e7 E) rfl) <| M rfl rfl rfl rfl rfl <| V rfl rfl (run_load_bx AgR rfl rfl (e4 E) rfl) <| M rfl rfl rfl rfl rfl <| ?_
         simp only [q2,q3]
         refine EF rfl (Oper.wp_callB fn_elaw02_alike rfl (alike_t 3 _ _ _ _ 0 0 _ _ _ _ 0 0 _ (e9 E) (e8 E) (e6 E) (e5 E) rfl rfl) rfl E ?_)
         clear E
         intro w81 d81 E
         clear d81
         refine kw rfl ?_
         refine M rfl rfl rfl rfl rfl <| M (by kernel_rfl) rfl rfl rfl rfl <| V (by kernel_rfl) rfl (run_eqI (c := false) rfl rfl rfl (by decide)) <| M (by kernel_rfl) rfl rfl rfl rfl <| ?_
         simp only [q2,q3]
         refine V (by kernel_rfl) rfl (run_gtI (c := false) rfl rfl rfl (by rw [decide_eq_false_iff_not]; omega)) <| V (by kernel_rfl) rfl (run_eqB (a := false) (b := false) (c := true) rfl Try.underlying4 rfl rfl rfl) <| V (v := .bool true) rfl rfl (run_pick (b := true) rfl rfl rfl) <| M rfl rfl rfl rfl rfl <| ?_
         simp only [q2,q3]
         refine M (by kernel_rfl) rfl rfl rfl rfl <| V (by kernel_rfl) rfl (run_eqI (c := false) rfl rfl rfl (by decide)) <| M (by kernel_rfl) rfl rfl rfl rfl <| V (by kernel_rfl) rfl (run_load_bx AgR rfl rfl (E.1) rfl) <| ?_
         simp only [q2,q3]
         refine M (by kernel_rfl) rfl rfl rfl rfl <| M (by kernel_rfl) rfl rfl rfl rfl <| ?_
         simp only [q2,q3]
         refine EF rfl (Oper.wp_callB fn_elaw02_fails rfl (fails_t 3 _ _ _ _ 0 0 _ (E.2.2.1) (E.2.1) rfl rfl) rfl E ?_)
         clear E
         intro w82 d82 E
         clear d82
         refine kw rfl ?_
         refine V (v := .bool true) (by kernel_rfl) rfl (run_pick (b := false) rfl rfl rfl) <| V (v := .bool true) rfl rfl (run_pick (b := true) rfl rfl rfl) <| M rfl rfl rfl rfl rfl <| M (by kernel_rfl) rfl rfl rfl rfl <| ?_
         simp only [q2,q3]
         refine V (v := .bool true) rfl rfl (run_pick (b := true) rfl rfl rfl) <| A rfl rfl rfl rfl rfl <| ?_
         simp only [q2,q3]
         refine WN ?_
         change Code.wp _ _ _ _ _
         refine wp_ret ?_
         exact bodyPost_ret (v := .bool true) (by simp [results, Try.results3, asAddr]) rfl ⟨rfl, e13 E⟩
      case neg =>
       -- region 16
       refine RL ?_
       refine M rfl rfl rfl rfl rfl <| V (v := .int .i64 ((s.size : Nat) : Int)) rfl rfl (run_lenS rfl rfl) <| V rfl rfl (run_ltI (c := false) rfl rfl rfl (by rw [decide_eq_false_iff_not]; omega)) <| ?_
       simp only [q2,q3]
       refine WN ?_
       change Code.wp _ _ _ _ _
       refine wp_cond_false rfl ?_
       refine wp_skip ?_
       change Code.wp _ _ _ _ _
       refine wp_seq ?_
       have xs := E.1
       have hxs := sevs_at (N := N) (p := false) (by rw [← sevs_cells]; exact xs)
       by_cases hbig : 4000 < N
       case pos =>
        -- region 18
        refine RL ?_
        refine M rfl rfl rfl rfl rfl <| V (v := .string (strOfNums (sevs N false))) rfl rfl (run_str rfl Try.underlying32 Try.underlying5 Try.underlying9 rfl (sevs_len N false) hxs) <| ?_
        simp only [q2,q3]
        refine EF rfl (Oper.wp_callPE fn_rational_Parse rfl (Parse_bigQ _ _ (by rw [sevs_size]; omega)) rfl E ?_)
        clear E
        intro w84 n84 s84 m84 t84 d84 E
        clear d84
        refine kw rfl ?_
        refine M rfl rfl rfl rfl rfl <| V rfl rfl (run_extract (vs := [.agg #[.bool n84, s84, .bool m84, t84], .int .i64 2]) rfl rfl rfl) <| V rfl rfl (run_extract (vs := [.agg #[.bool n84, s84, .bool m84, t84], .int .i64 2]) rfl rfl rfl) <| ?_
        simp only [q2,q3]
        refine EF rfl (Oper.wp_alloc AgR rfl ?_)
        intro b85 w85 e85 z85 d85 x85
        have l85_0 : b62 < b85 := by rw [e85]; exact Bx.lt (E.2.2.1)
        replace E := E.below d85
        clear e85 z85 d85
        refine kw rfl ?_
        simp only [q2,q3]
        refine EF rfl (Oper.wp_store AgR rfl rfl rfl x85 rfl rfl (one4 (IsI.one (E.2.1)) (IsI.one (E.1))) ?_)
        intro w86 o86 y86
        replace E := (E.onl (x85.noW (now4 now0 now0)) ⟨trivial, trivial, okX (by omega), okX (by omega), trivial, trivial, okX (by omega), trivial, trivial, okX (by omega), trivial, trivial, okW (by omega), trivial⟩ o86).x y86
        clear x85 o86 y86
        refine kn rfl ?_
        refine A rfl rfl rfl rfl rfl <| ?_
        simp only [q2,q3]
        refine WN ?_
        change Code.wp _ _ _ _ _
        refine wp_seq ?_
        -- region 19
        refine RL ?_
        refine V rfl rfl (run_load_bx AgR rfl rfl (e7 E) rfl) <| M rfl rfl rfl rfl rfl <| V rfl rfl (run_load_bx AgR rfl rfl (e4 E) rfl) <| M rfl rfl rfl rfl rfl <| ?_
        simp only [q2,q3]
        refine EF rfl (Oper.wp_callB fn_elaw02_alike rfl (alike_t 3 _ _ _ _ 0 0 _ _ _ _ 0 0 _ (e9 E) (e8 E) (e6 E) (e5 E) rfl rfl) rfl E ?_)
        clear E
        intro w87 d87 E
        clear d87
        refine kw rfl ?_
        refine M rfl rfl rfl rfl rfl <| M (by kernel_rfl) rfl rfl rfl rfl <| V (by kernel_rfl) rfl (run_eqI (c := true) rfl rfl rfl (by decide)) <| M (by kernel_rfl) rfl rfl rfl rfl <| ?_
        simp only [q2,q3]
        refine V (by kernel_rfl) rfl (run_gtI (c := true) rfl rfl rfl (by rw [decide_eq_true_eq]; omega)) <| V (by kernel_rfl) rfl (run_eqB (a := true) (b := true) (c := true) rfl Try.underlying4 rfl rfl rfl) <| V (v := .bool true) rfl rfl (run_pick (b := true) rfl rfl rfl) <| M rfl rfl rfl rfl rfl <| ?_
        simp only [q2,q3]
        refine M (by kernel_rfl) rfl rfl rfl rfl <| V (by kernel_rfl) rfl (run_eqI (c := false) rfl rfl rfl (by decide)) <| M (by kernel_rfl) rfl rfl rfl rfl <| V (by kernel_rfl) rfl (run_load_bx AgR rfl rfl (E.1) rfl) <| ?_
        simp only [q2,q3]
        refine M (by kernel_rfl) rfl rfl rfl rfl <| M (by kernel_rfl) rfl rfl rfl rfl <| ?_
        simp only [q2,q3]
        refine EF rfl (Oper.wp_callB fn_elaw02_fails rfl (fails_t 2 _ _ _ _ 0 0 _ (E.2.2.1) (E.2.1) rfl rfl) rfl E ?_)
        clear E
        intro w88 d88 E
        clear d88
        refine kw rfl ?_
        refine V (v := .bool true) (by kernel_rfl) rfl (run_pick (b := false) rfl rfl rfl) <| V (v := .bool true) rfl rfl (run_pick (b := true) rfl rfl rfl) <| M rfl rfl rfl rfl rfl <| M (by kernel_rfl) rfl rfl rfl rfl <| ?_
        simp only [q2,q3]
        refine V (v := .bool true) rfl rfl (run_pick (b := true) rfl rfl rfl) <| A rfl rfl rfl rfl rfl <| ?_
        simp only [q2,q3]
        refine WN ?_
        change Code.wp _ _ _ _ _
        refine wp_ret ?_
        exact bodyPost_ret (v := .bool true) (by simp [results, Try.results3, asAddr]) rfl ⟨rfl, e13 E⟩
       case neg =>
        by_cases hy : ∃ x, (strOfNums (sevs N false)) = txtQ x
        case pos =>
         obtain ⟨y0, hy0⟩ := hy
         -- region 18
         refine RL ?_
         refine M rfl rfl rfl rfl rfl <| V (v := .string (strOfNums (sevs N false))) rfl rfl (run_str rfl Try.underlying32 Try.underlying5 Try.underlying9 rfl (sevs_len N false) hxs) <| ?_
         simp only [q2,q3]
         refine EF rfl (Oper.wp_callPE fn_rational_Parse rfl (Parse_is _ y0 _ (by rw [sevs_size]; omega) hy0) rfl E ?_)
         clear E
         intro w89 n89 s89 m89 t89 d89 E
         clear d89
         refine kw rfl ?_
         refine M rfl rfl rfl rfl rfl <| V rfl rfl (run_extract (vs := [.agg #[.bool n89, s89, .bool m89, t89], .int .i64 0]) rfl rfl rfl) <| V rfl rfl (run_extract (vs := [.agg #[.bool n89, s89, .bool m89, t89], .int .i64 0]) rfl rfl rfl) <| ?_
         simp only [q2,q3]
         refine EF rfl (Oper.wp_alloc AgR rfl ?_)
         intro b90 w90 e90 z90 d90 x90
         have l90_0 : b62 < b90 := by rw [e90]; exact Bx.lt (E.2.2.1)
         replace E := E.below d90
         clear e90 z90 d90
         refine kw rfl ?_
         simp only [q2,q3]
         refine EF rfl (Oper.wp_store AgR rfl rfl rfl x90 rfl rfl (one4 (IsI.one (E.2.1)) (IsI.one (E.1))) ?_)
         intro w91 o91 y91
         replace E := (E.onl (x90.noW (now4 now0 now0)) ⟨trivial, trivial, okX (by omega), okX (by omega), trivial, trivial, okX (by omega), trivial, trivial, okX (by omega), trivial, trivial, okW (by omega), trivial⟩ o91).x y91
         clear x90 o91 y91
         refine kn rfl ?_
         refine A rfl rfl rfl rfl rfl <| ?_
         simp only [q2,q3]
         refine WN ?_
         change Code.wp _ _ _ _ _
         refine wp_seq ?_
         -- region 19
         refine RL ?_
         refine V rfl rfl (run_load_bx AgR rfl rfl (e7 E) rfl) <| M rfl rfl rfl rfl rfl <| V rfl rfl (run_load_bx AgR rfl rfl (e4 E) rfl) <| M rfl rfl rfl rfl rfl <| ?_
         simp only [q2,q3]
         refine EF rfl (Oper.wp_callB fn_elaw02_alike rfl (alike_t 3 _ _ _ _ 0 0 _ _ _ _ 0 0 _ (e9 E) (e8 E) (e6 E) (e5 E) rfl rfl) rfl E ?_)
         clear E
         intro w92 d92 E
         clear d92
         refine kw rfl ?_
         refine M rfl rfl rfl rfl rfl <| M (by kernel_rfl) rfl rfl rfl rfl <| V (by kernel_rfl) rfl (run_eqI (c := false) rfl rfl rfl (by decide)) <| M (by kernel_rfl) rfl rfl rfl rfl <| ?_
         simp only [q2,q3]
         refine V (by kernel_rfl) rfl (run_gtI (c := false) rfl rfl rfl (by rw [decide_eq_false_iff_not]; omega)) <| V (by kernel_rfl) rfl (run_eqB (a := false) (b := false) (c := true) rfl Try.underlying4 rfl rfl rfl) <| V (v := .bool true) rfl rfl (run_pick (b := true) rfl rfl rfl) <| M rfl rfl rfl rfl rfl <| ?_
         simp only [q2,q3]
         refine M (by kernel_rfl) rfl rfl rfl rfl <| V (by kernel_rfl) rfl (run_eqI (c := true) rfl rfl rfl (by decide)) <| M (by kernel_rfl) rfl rfl rfl rfl <| L0C (by kernel_rfl) rfl <| ?_
         simp only [q2,q3]
         refine L0C (by kernel_rfl) rfl <| L0C (by kernel_rfl) rfl <| L0C (by kernel_rfl) rfl <| V (v := .bool true) (by kernel_rfl) rfl (run_pick (b := true) rfl rfl rfl) <| ?_
         simp only [q2,q3]
         refine V (v := .bool true) rfl rfl (run_pick (b := true) rfl rfl rfl) <| M rfl rfl rfl rfl rfl <| M (by kernel_rfl) rfl rfl rfl rfl <| V (v := .bool true) rfl rfl (run_pick (b := true) rfl rfl rfl) <| ?_
         simp only [q2,q3]
         refine A rfl rfl rfl rfl rfl <| ?_
         simp only [q2,q3]
         refine WN ?_
         change Code.wp _ _ _ _ _
         refine wp_ret ?_
         exact bodyPost_ret (v := .bool true) (by simp [results, Try.results3, asAddr]) rfl ⟨rfl, e13 E⟩
        case neg =>
         -- region 18
         refine RL ?_
         refine M rfl rfl rfl rfl rfl <| V (v := .string (strOfNums (sevs N false))) rfl rfl (run_str rfl Try.underlying32 Try.underlying5 Try.underlying9 rfl (sevs_len N false) hxs) <| ?_
         simp only [q2,q3]
         refine EF rfl (Oper.wp_callPE fn_rational_Parse rfl (Parse_no _ _ (by rw [sevs_size]; omega) (fun x e => hy ⟨x, e⟩)) rfl E ?_)
         clear E
         intro w93 n93 s93 m93 t93 d93 E
         clear d93
         refine kw rfl ?_
         refine M rfl rfl rfl rfl rfl <| V rfl rfl (run_extract (vs := [.agg #[.bool n93, s93, .bool m93, t93], .int .i64 3]) rfl rfl rfl) <| V rfl rfl (run_extract (vs := [.agg #[.bool n93, s93, .bool m93, t93], .int .i64 3]) rfl rfl rfl) <| ?_
         simp only [q2,q3]
         refine EF rfl (Oper.wp_alloc AgR rfl ?_)
         intro b94 w94 e94 z94 d94 x94
         have l94_0 : b62 < b94 := by rw [e94]; exact Bx.lt (E.2.2.1)
         replace E := E.below d94
         clear e94 z94 d94
         refine kw rfl ?_
         simp only [q2,q3]
         refine EF rfl (Oper.wp_store AgR rfl rfl rfl x94 rfl rfl (one4 (IsI.one (E.2.1)) (IsI.one (E.1))) ?_)
         intro w95 o95 y95
         replace E := (E.onl (x94.noW (now4 now0 now0)) ⟨trivial, trivial, okX (by omega), okX (by omega), trivial, trivial, okX (by omega), trivial, trivial, okX (by omega), trivial, trivial, okW (by omega), trivial⟩ o95).x y95
         clear x94 o95 y95
         refine kn rfl ?_
         refine A rfl rfl rfl rfl rfl <| ?_
         simp only [q2,q3]
         refine WN ?_
         change Code.wp _ _ _ _ _
         refine wp_seq ?_
         -- region 19
         refine RL ?_
         refine V rfl rfl (run_load_bx AgR rfl rfl (e7 E) rfl) <| M rfl rfl rfl rfl rfl <| V rfl rfl (run_load_bx AgR rfl rfl (e4 E) rfl) <| M rfl rfl rfl rfl rfl <| ?_
         simp only [q2,q3]
         refine EF rfl (Oper.wp_callB fn_elaw02_alike rfl (alike_t 3 _ _ _ _ 0 0 _ _ _ _ 0 0 _ (e9 E) (e8 E) (e6 E) (e5 E) rfl rfl) rfl E ?_)
         clear E
         intro w96 d96 E
         clear d96
         refine kw rfl ?_
         refine M rfl rfl rfl rfl rfl <| M (by kernel_rfl) rfl rfl rfl rfl <| V (by kernel_rfl) rfl (run_eqI (c := false) rfl rfl rfl (by decide)) <| M (by kernel_rfl) rfl rfl rfl rfl <| ?_
         simp only [q2,q3]
         refine V (by kernel_rfl) rfl (run_gtI (c := false) rfl rfl rfl (by rw [decide_eq_false_iff_not]; omega)) <| V (by kernel_rfl) rfl (run_eqB (a := false) (b := false) (c := true) rfl Try.underlying4 rfl rfl rfl) <| V (v := .bool true) rfl rfl (run_pick (b := true) rfl rfl rfl) <| M rfl rfl rfl rfl rfl <| ?_
         simp only [q2,q3]
         refine M (by kernel_rfl) rfl rfl rfl rfl <| V (by kernel_rfl) rfl (run_eqI (c := false) rfl rfl rfl (by decide)) <| M (by kernel_rfl) rfl rfl rfl rfl <| V (by kernel_rfl) rfl (run_load_bx AgR rfl rfl (E.1) rfl) <| ?_
         simp only [q2,q3]
         refine M (by kernel_rfl) rfl rfl rfl rfl <| M (by kernel_rfl) rfl rfl rfl rfl <| ?_
         simp only [q2,q3]
         refine EF rfl (Oper.wp_callB fn_elaw02_fails rfl (fails_t 3 _ _ _ _ 0 0 _ (E.2.2.1) (E.2.1) rfl rfl) rfl E ?_)
         clear E
         intro w97 d97 E
         clear d97
         refine kw rfl ?_
         refine V (v := .bool true) (by kernel_rfl) rfl (run_pick (b := false) rfl rfl rfl) <| V (v := .bool true) rfl rfl (run_pick (b := true) rfl rfl rfl) <| M rfl rfl rfl rfl rfl <| M (by kernel_rfl) rfl rfl rfl rfl <| ?_
         simp only [q2,q3]
         refine V (v := .bool true) rfl rfl (run_pick (b := true) rfl rfl rfl) <| A rfl rfl rfl rfl rfl <| ?_
         simp only [q2,q3]
         refine WN ?_
         change Code.wp _ _ _ _ _
         refine wp_ret ?_
         exact bodyPost_ret (v := .bool true) (by simp [results, Try.results3, asAddr]) rfl ⟨rfl, e13 E⟩
end Go.Proofs.Ytndpjfhhigpbhaa
