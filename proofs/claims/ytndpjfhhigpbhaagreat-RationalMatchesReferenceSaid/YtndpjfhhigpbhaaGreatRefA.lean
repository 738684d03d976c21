/- The reference's functions of integers. (Printed by g_ref.py.) -/
import Derived.Test.YtndpjfhhigpbhaaGreatRefW
import Derived.Test.YtndpjfhhigpbhaaGreatKitC
import Derived.Test.YtndpjfhhigpbhaaGreatRef1
import Derived.Test.YtndpjfhhigpbhaaGreatFns
namespace Go.Proofs.YtndpjfhhigpbhaaGreat
open Go.RowKit W
section
variable {x y : Int} {n m : Bool}
theorem sg_same (hn : n = decide (x < 0)) (hm : m = decide (y < 0)) (h : n = m) : sgnI n (x.natAbs + y.natAbs) = x + y := by
  subst hn; subst hm
  by_cases hx : x < 0 <;> by_cases hy : y < 0 <;> simp [hx, hy] at h <;> simp [sgnI, hx] <;> omega
theorem sg_lt (hn : n = decide (x < 0)) (hm : m = decide (y < 0)) (h : ¬ n = m) (hl : x.natAbs < y.natAbs) : sgnI m (y.natAbs - x.natAbs) = x + y := by
  subst hn; subst hm
  by_cases hx : x < 0 <;> by_cases hy : y < 0 <;> simp [hx, hy] at h <;> simp [sgnI, hy] <;> omega
theorem sg_ge (hn : n = decide (x < 0)) (hm : m = decide (y < 0)) (h : ¬ n = m) (hl : ¬ x.natAbs < y.natAbs) : sgnI n (x.natAbs - y.natAbs) = x + y := by
  subst hn; subst hm
  by_cases hx : x < 0 <;> by_cases hy : y < 0 <;> simp [hx, hy] at h <;> simp [sgnI, hx] <;> omega
theorem sg_mul (hn : n = decide (x < 0)) (hm : m = decide (y < 0)) : sgnI (n != m) (x.natAbs * y.natAbs) = x * y := by
  subst hn; subst hm
  have hc : ((x.natAbs * y.natAbs : Nat) : Int) = (x.natAbs : Int) * (y.natAbs : Int) := by simp
  unfold sgnI
  rw [hc]
  by_cases hx : x < 0 <;> by_cases hy : y < 0
  · rw [decide_eq_true hx, decide_eq_true hy, if_neg (by decide), show (x.natAbs : Int) = -x by omega, show (y.natAbs : Int) = -y by omega]; grind
  · rw [decide_eq_true hx, decide_eq_false hy, if_pos (by decide), show (x.natAbs : Int) = -x by omega, show (y.natAbs : Int) = y by omega]; grind
  · rw [decide_eq_false hx, decide_eq_true hy, if_pos (by decide), show (x.natAbs : Int) = x by omega, show (y.natAbs : Int) = -y by omega]; grind
  · rw [decide_eq_false hx, decide_eq_false hy, if_neg (by decide), show (x.natAbs : Int) = x by omega, show (y.natAbs : Int) = y by omega]
theorem sg_neg (hn : n = decide (x < 0)) : sgnI (!n) x.natAbs = -x := by subst hn; exact sgnI_not x
theorem len1 : (digs 1).length ≤ 1000000000 := by rw [digs_pos 1 (by decide)]; simp [digs_zero]
theorem natp (h : x ≠ 0) : 0 < x.natAbs := by omega
theorem lenp {k : Nat} (h : 0 < k) : decide ((((digs k).length : Nat) : Int) > 0) = true := by
  rw [decide_eq_true_eq]
  rcases Nat.eq_zero_or_pos (digs k).length with e | e
  · have := (digs_nil_iff k).1 (List.eq_nil_of_length_eq_zero e); omega
  · omega
theorem lenz {k : Nat} (h : ¬ 0 < k) : decide ((((digs k).length : Nat) : Int) > 0) = false := by
  obtain rfl : k = 0 := by omega
  rw [digs_zero]; rfl
theorem cmpn_lt {a b : Nat} (h : a < b) : decide (cmpI a b < 0) = true := by rw [cmpI_lt (by omega)]; rfl
theorem cmpn_ge {a b : Nat} (h : ¬ a < b) : decide (cmpI a b < 0) = false := by
  rcases Nat.lt_or_ge b a with e | e
  · rw [cmpI_gt (by omega)]; rfl
  · rw [cmpI_eq (by omega)]; rfl
theorem min1_pos (h : ¬ x < 0) : (if (1 : Int) < (((digs x.natAbs).length : Nat) : Int) then 1 else (((digs x.natAbs).length : Nat) : Int)) = sgn x := by
  rcases sgn_vals x with ⟨a, b⟩ | ⟨a, b⟩ | ⟨a, b⟩
  · exact absurd a h
  · subst a; rw [b, Int.natAbs_zero, digs_zero]; rfl
  · have := len_pos (z := x) (by omega)
    rw [b]; split <;> omega
theorem cmp_ng (h1 : x < 0) (h2 : ¬ y < 0) : cmpI x y = -1 := cmpI_lt (by omega)
theorem cmp_gn (h1 : ¬ x < 0) (h2 : y < 0) : cmpI x y = 1 := cmpI_gt (by omega)
theorem cmp_nn (h1 : x < 0) (h2 : y < 0) : cmpI (y.natAbs : Nat) (x.natAbs : Nat) = cmpI x y := by
  unfold cmpI; repeat' split
  all_goals first | rfl | omega
theorem cmp_pp (h1 : ¬ x < 0) (h2 : ¬ y < 0) : cmpI (x.natAbs : Nat) (y.natAbs : Nat) = cmpI x y := by
  unfold cmpI; repeat' split
  all_goals first | rfl | omega
end
set_option maxRecDepth 100000 in
set_option maxHeartbeats 4000000 in
theorem RSign_z  (va : Value) (x : Int) (w : World) (hva : IsI w va x)  :
    Calls Tryz.prog 59 #[va] w (RetN w (sgn x)) := by
 have E := Env.start w
 obtain ⟨nva, sva, rfl, _, _⟩ := hva.sh
 replace E := E.i hva
 clear hva
 go_enter Tryz.func59, Tryz.ntmps59
 refine wp_seq ?_
 -- region 0
 refine RL ?_
 refine EF rfl (Oper.wp_box rfl rfl ?_)
 intro b1 w1 e1 z1 d1 x1
 have l1 : w.heap.size ≤ b1 := by rw [e1]; exact (E.2.1).size
 replace E := E.below d1
 clear e1 z1 d1
 replace E := E.b x1
 clear x1
 refine kw rfl ?_
 refine AC rfl rfl rfl rfl <| ?_
 simp only [q2,q3]
 refine WN ?_
 change Code.wp _ _ _ _ _
 refine wp_seq ?_
 refine wp_seq ?_
 by_cases hx : x < 0
 case pos =>
  obtain rfl : nva = true := (IsI.sign (E.2.1)).trans (decide_eq_true hx)
  -- region 1
  refine RL ?_
  refine V rfl rfl (run_fieldI0 rfl rfl) <| V rfl rfl (run_cell rfl isAgg_bool rfl (E.1) rfl) <| ?_
  simp only [q2,q3]
  refine WN ?_
  change Code.wp _ _ _ _ _
  refine wp_cond_true rfl ?_
  refine wp_seq ?_
  -- region 2
  refine RL ?_
  refine AC rfl rfl rfl rfl <| ?_
  simp only [q2,q3]
  refine WN ?_
  change Code.wp _ _ _ _ _
  refine wp_ret ?_
  exact bodyPost_ret (v := .int .i64 (-1)) (by simp [results, Tryz.results59, asAddr]) rfl ⟨(ret_i64 (cmpI_lt hx).symm), E.2.2.1⟩
 case neg =>
  obtain rfl : nva = false := (IsI.sign (E.2.1)).trans (decide_eq_false hx)
  -- region 1
  refine RL ?_
  refine V rfl rfl (run_fieldI0 rfl rfl) <| V rfl rfl (run_cell rfl isAgg_bool rfl (E.1) rfl) <| ?_
  simp only [q2,q3]
  refine WN ?_
  change Code.wp _ _ _ _ _
  refine wp_cond_false rfl ?_
  refine wp_skip ?_
  change Code.wp _ _ _ _ _
  refine wp_seq ?_
  -- region 3
  refine RL ?_
  refine V rfl rfl (run_fieldI1 rfl rfl) <| V rfl rfl (run_cell rfl isAgg_words rfl (E.1) rfl) <| ?_
  obtain ⟨ao3, cap3, hs3⟩ := IsI.slice (E.2.1)
  refine V (v := .int .i64 (((digs x.natAbs).length : Nat) : Int)) rfl rfl (run_len rfl hs3) <| V (v := .int .i64 (sgn x)) rfl rfl (run_minI rfl rfl rfl (min1_pos hx)) <| ?_
  simp only [q2,q3]
  refine A rfl rfl rfl rfl rfl <| ?_
  simp only [q2,q3]
  refine WN ?_
  change Code.wp _ _ _ _ _
  refine wp_ret ?_
  exact bodyPost_ret (v := .int .i64 (sgn x)) (by simp [results, Tryz.results59, asAddr]) rfl ⟨rfl, E.2.2.1⟩
set_option maxRecDepth 100000 in
set_option maxHeartbeats 4000000 in
theorem RCmp_z  (va : Value) (x : Int) (vb : Value) (y : Int) (w : World) (hva : IsI w va x) (hvb : IsI w vb y)  :
    Calls Tryz.prog 60 #[va, vb] w (RetN w (cmpI x y)) := by
 have E := Env.start w
 obtain ⟨nva, sva, rfl, _, _⟩ := hva.sh
 replace E := E.i hva
 clear hva
 obtain ⟨nvb, svb, rfl, _, _⟩ := hvb.sh
 replace E := E.i hvb
 clear hvb
 go_enter Tryz.func60, Tryz.ntmps60
 refine wp_seq ?_
 -- region 0
 refine RL ?_
 refine EF rfl (Oper.wp_box rfl rfl ?_)
 intro b1 w1 e1 z1 d1 x1
 have l1 : w.heap.size ≤ b1 := by rw [e1]; exact (E.2.2.1).size
 replace E := E.below d1
 clear e1 z1 d1
 replace E := E.b x1
 clear x1
 refine kw rfl ?_
 simp only [q2,q3]
 refine EF rfl (Oper.wp_box rfl rfl ?_)
 intro b2 w2 e2 z2 d2 x2
 have l2_0 : b1 < b2 := by rw [e2]; exact Bx.lt (E.1)
 replace E := E.below d2
 clear e2 z2 d2
 replace E := E.b x2
 clear x2
 refine kw rfl ?_
 refine AC rfl rfl rfl rfl <| ?_
 simp only [q2,q3]
 refine WN ?_
 change Code.wp _ _ _ _ _
 refine wp_seq ?_
 refine wp_seq ?_
 by_cases hx : x < 0
 case pos =>
  obtain rfl : nva = true := (IsI.sign (e3 E)).trans (decide_eq_true hx)
  by_cases hy : y < 0
  case pos =>
   obtain rfl : nvb = true := (IsI.sign (E.2.2.1)).trans (decide_eq_true hy)
   -- region 1
   refine RL ?_
   refine V rfl rfl (run_fieldI0 rfl rfl) <| V rfl rfl (run_cell rfl isAgg_bool rfl (E.2.1) rfl) <| M rfl rfl rfl rfl rfl <| V (by kernel_rfl) rfl (run_fieldI0 rfl rfl) <| ?_
   simp only [q2,q3]
   refine V (by kernel_rfl) rfl (run_cell rfl isAgg_bool rfl (E.1) rfl) <| V (v := .bool false) (by kernel_rfl) rfl (run_not (b := true) rfl rfl) <| V (v := .bool false) rfl rfl (run_pick (b := true) rfl rfl rfl) <| ?_
   simp only [q2,q3]
   refine WN ?_
   change Code.wp _ _ _ _ _
   refine wp_cond_false rfl ?_
   refine wp_skip ?_
   change Code.wp _ _ _ _ _
   refine wp_seq ?_
   refine wp_seq ?_
   -- region 3
   refine RL ?_
   refine V rfl rfl (run_fieldI0 rfl rfl) <| V rfl rfl (run_cell rfl isAgg_bool rfl (E.2.1) rfl) <| V (v := .bool false) rfl rfl (run_not (b := true) rfl rfl) <| M rfl rfl rfl rfl rfl <| ?_
   simp only [q2,q3]
   refine L0C (by kernel_rfl) rfl <| L0C (by kernel_rfl) rfl <| V (v := .bool false) rfl rfl (run_pick (b := false) rfl rfl rfl) <| ?_
   simp only [q2,q3]
   refine WN ?_
   change Code.wp _ _ _ _ _
   refine wp_cond_false rfl ?_
   refine wp_skip ?_
   change Code.wp _ _ _ _ _
   refine wp_seq ?_
   refine wp_seq ?_
   -- region 5
   refine RL ?_
   refine V rfl rfl (run_fieldI0 rfl rfl) <| V rfl rfl (run_cell rfl isAgg_bool rfl (E.2.1) rfl) <| ?_
   simp only [q2,q3]
   refine WN ?_
   change Code.wp _ _ _ _ _
   refine wp_cond_true rfl ?_
   refine wp_seq ?_
   -- region 6
   refine RL ?_
   refine V rfl rfl (run_fieldI1 rfl rfl) <| V rfl rfl (run_cell rfl isAgg_words rfl (E.1) rfl) <| V rfl rfl (run_fieldI1 rfl rfl) <| V rfl rfl (run_cell rfl isAgg_words rfl (E.2.1) rfl) <| ?_
   simp only [q2,q3]
   refine EF rfl (Oper.wp_callN fn_eref01_compared rfl (rcompared_d _ _ y.natAbs x.natAbs _ (IsI.sl (E.2.2.1)) (IsI.sl (e3 E))) rfl E ?_)
   clear E
   intro w3 d3 E
   clear d3
   refine kw rfl ?_
   refine A rfl rfl rfl rfl rfl <| ?_
   simp only [q2,q3]
   refine WN ?_
   change Code.wp _ _ _ _ _
   refine wp_ret ?_
   exact bodyPost_ret (v := .int .i64 (cmpI (y.natAbs : Nat) (x.natAbs : Nat))) (by simp [results, Tryz.results60, asAddr]) rfl ⟨ret_i64 (cmp_nn hx hy), e4 E⟩
  case neg =>
   obtain rfl : nvb = false := (IsI.sign (E.2.2.1)).trans (decide_eq_false hy)
   -- region 1
   refine RL ?_
   refine V rfl rfl (run_fieldI0 rfl rfl) <| V rfl rfl (run_cell rfl isAgg_bool rfl (E.2.1) rfl) <| M rfl rfl rfl rfl rfl <| V (by kernel_rfl) rfl (run_fieldI0 rfl rfl) <| ?_
   simp only [q2,q3]
   refine V (by kernel_rfl) rfl (run_cell rfl isAgg_bool rfl (E.1) rfl) <| V (v := .bool true) (by kernel_rfl) rfl (run_not (b := false) rfl rfl) <| V (v := .bool true) rfl rfl (run_pick (b := true) rfl rfl rfl) <| ?_
   simp only [q2,q3]
   refine WN ?_
   change Code.wp _ _ _ _ _
   refine wp_cond_true rfl ?_
   refine wp_seq ?_
   -- region 2
   refine RL ?_
   refine AC rfl rfl rfl rfl <| ?_
   simp only [q2,q3]
   refine WN ?_
   change Code.wp _ _ _ _ _
   refine wp_ret ?_
   exact bodyPost_ret (v := .int .i64 (-1)) (by simp [results, Tryz.results60, asAddr]) rfl ⟨ret_i64 (cmp_ng hx hy).symm, e4 E⟩
 case neg =>
  obtain rfl : nva = false := (IsI.sign (e3 E)).trans (decide_eq_false hx)
  by_cases hy : y < 0
  case pos =>
   obtain rfl : nvb = true := (IsI.sign (E.2.2.1)).trans (decide_eq_true hy)
   -- region 1
   refine RL ?_
   refine V rfl rfl (run_fieldI0 rfl rfl) <| V rfl rfl (run_cell rfl isAgg_bool rfl (E.2.1) rfl) <| M rfl rfl rfl rfl rfl <| L0C (by kernel_rfl) rfl <| ?_
   simp only [q2,q3]
   refine L0C (by kernel_rfl) rfl <| L0C (by kernel_rfl) rfl <| V (v := .bool false) rfl rfl (run_pick (b := false) rfl rfl rfl) <| ?_
   simp only [q2,q3]
   refine WN ?_
   change Code.wp _ _ _ _ _
   refine wp_cond_false rfl ?_
   refine wp_skip ?_
   change Code.wp _ _ _ _ _
   refine wp_seq ?_
   refine wp_seq ?_
   -- region 3
   refine RL ?_
   refine V rfl rfl (run_fieldI0 rfl rfl) <| V rfl rfl (run_cell rfl isAgg_bool rfl (E.2.1) rfl) <| V (v := .bool true) rfl rfl (run_not (b := false) rfl rfl) <| M rfl rfl rfl rfl rfl <| ?_
   simp only [q2,q3]
   refine V (by kernel_rfl) rfl (run_fieldI0 rfl rfl) <| V (by kernel_rfl) rfl (run_cell rfl isAgg_bool rfl (E.1) rfl) <| V (v := .bool true) rfl rfl (run_pick (b := true) rfl rfl rfl) <| ?_
   simp only [q2,q3]
   refine WN ?_
   change Code.wp _ _ _ _ _
   refine wp_cond_true rfl ?_
   refine wp_seq ?_
   -- region 4
   refine RL ?_
   refine AC rfl rfl rfl rfl <| ?_
   simp only [q2,q3]
   refine WN ?_
   change Code.wp _ _ _ _ _
   refine wp_ret ?_
   exact bodyPost_ret (v := .int .i64 1) (by simp [results, Tryz.results60, asAddr]) rfl ⟨ret_i64 (cmp_gn hx hy).symm, e4 E⟩
  case neg =>
   obtain rfl : nvb = false := (IsI.sign (E.2.2.1)).trans (decide_eq_false hy)
   -- region 1
   refine RL ?_
   refine V rfl rfl (run_fieldI0 rfl rfl) <| V rfl rfl (run_cell rfl isAgg_bool rfl (E.2.1) rfl) <| M rfl rfl rfl rfl rfl <| L0C (by kernel_rfl) rfl <| ?_
   simp only [q2,q3]
   refine L0C (by kernel_rfl) rfl <| L0C (by kernel_rfl) rfl <| V (v := .bool false) rfl rfl (run_pick (b := false) rfl rfl rfl) <| ?_
   simp only [q2,q3]
   refine WN ?_
   change Code.wp _ _ _ _ _
   refine wp_cond_false rfl ?_
   refine wp_skip ?_
   change Code.wp _ _ _ _ _
   refine wp_seq ?_
   refine wp_seq ?_
   -- region 3
   refine RL ?_
   refine V rfl rfl (run_fieldI0 rfl rfl) <| V rfl rfl (run_cell rfl isAgg_bool rfl (E.2.1) rfl) <| V (v := .bool true) rfl rfl (run_not (b := false) rfl rfl) <| M rfl rfl rfl rfl rfl <| ?_
   simp only [q2,q3]
   refine V (by kernel_rfl) rfl (run_fieldI0 rfl rfl) <| V (by kernel_rfl) rfl (run_cell rfl isAgg_bool rfl (E.1) rfl) <| V (v := .bool false) rfl rfl (run_pick (b := true) rfl rfl rfl) <| ?_
   simp only [q2,q3]
   refine WN ?_
   change Code.wp _ _ _ _ _
   refine wp_cond_false rfl ?_
   refine wp_skip ?_
   change Code.wp _ _ _ _ _
   refine wp_seq ?_
   refine wp_seq ?_
   -- region 5
   refine RL ?_
   refine V rfl rfl (run_fieldI0 rfl rfl) <| V rfl rfl (run_cell rfl isAgg_bool rfl (E.2.1) rfl) <| ?_
   simp only [q2,q3]
   refine WN ?_
   change Code.wp _ _ _ _ _
   refine wp_cond_false rfl ?_
   refine wp_skip ?_
   change Code.wp _ _ _ _ _
   refine wp_seq ?_
   -- region 7
   refine RL ?_
   refine V rfl rfl (run_fieldI1 rfl rfl) <| V rfl rfl (run_cell rfl isAgg_words rfl (E.2.1) rfl) <| V rfl rfl (run_fieldI1 rfl rfl) <| V rfl rfl (run_cell rfl isAgg_words rfl (E.1) rfl) <| ?_
   simp only [q2,q3]
   refine EF rfl (Oper.wp_callN fn_eref01_compared rfl (rcompared_d _ _ x.natAbs y.natAbs _ (IsI.sl (e3 E)) (IsI.sl (E.2.2.1))) rfl E ?_)
   clear E
   intro w4 d4 E
   clear d4
   refine kw rfl ?_
   refine A rfl rfl rfl rfl rfl <| ?_
   simp only [q2,q3]
   refine WN ?_
   change Code.wp _ _ _ _ _
   refine wp_ret ?_
   exact bodyPost_ret (v := .int .i64 (cmpI (x.natAbs : Nat) (y.natAbs : Nat))) (by simp [results, Tryz.results60, asAddr]) rfl ⟨ret_i64 (cmp_pp hx hy), e4 E⟩
set_option maxRecDepth 100000 in
set_option maxHeartbeats 4000000 in
theorem RNeg_z  (va : Value) (x : Int) (w : World) (hva : IsI w va x)  :
    Calls Tryz.prog 50 #[va] w (RetZ w (-x)) := by
 have E := Env.start w
 obtain ⟨nva, sva, rfl, _, _⟩ := hva.sh
 replace E := E.i hva
 clear hva
 go_enter Tryz.func50, Tryz.ntmps50
 refine wp_seq ?_
 -- region 0
 refine RL ?_
 refine EF rfl (Oper.wp_box rfl rfl ?_)
 intro b1 w1 e1 z1 d1 x1
 have l1 : w.heap.size ≤ b1 := by rw [e1]; exact (E.2.1).size
 replace E := E.below d1
 clear e1 z1 d1
 replace E := E.b x1
 clear x1
 refine kw rfl ?_
 simp only [q2,q3]
 refine EF rfl (Oper.wp_alloc AgI rfl ?_)
 intro b2 w2 e2 z2 d2 x2
 have l2_0 : b1 < b2 := by rw [e2]; exact Bx.lt (E.1)
 replace E := E.below d2
 clear e2 z2 d2
 refine kw rfl ?_
 simp only [q2,q3]
 refine WN ?_
 change Code.wp _ _ _ _ _
 refine wp_seq ?_
 -- region 1
 refine RL ?_
 refine V rfl rfl (run_fieldI0 rfl rfl) <| V rfl rfl (run_cell rfl isAgg_bool rfl (E.1) rfl) <| V (v := .bool (!nva)) rfl rfl (run_not (b := nva) rfl rfl) <| V rfl rfl (run_fieldI1 rfl rfl) <| ?_
 simp only [q2,q3]
 refine V rfl rfl (run_cell rfl isAgg_words rfl (E.1) rfl) <| ?_
 simp only [q2,q3]
 refine EF rfl (Oper.wp_callI fn_eref01_made rfl (rmade_d (!nva) _ x.natAbs (-x) _ (IsI.sl (E.2.1)) (sg_neg (IsI.sign (E.2.1)))) rfl E ?_)
 clear E
 intro w3 n3 s3 d3 E
 replace x2 := x2.below d3
 clear d3
 refine kw rfl ?_
 simp only [q2,q3]
 refine EF rfl (Oper.wp_store AgI rfl rfl rfl x2 rfl rfl (IsI.one (E.1)) ?_)
 intro w4 o4 y4
 replace E := (E.onl (x2.noW now0) ⟨trivial, okB (by omega), trivial, okW (by omega), trivial⟩ o4).b y4
 clear x2 o4 y4
 refine kn rfl ?_
 refine WN ?_
 change Code.wp _ _ _ _ _
 refine wp_ret ?_
 have r5 := res_box AgI (E.1) rfl
 exact bodyPost_ret (v := .agg #[.bool n3, s3]) (by simp [results, Tryz.results50, asAddr, r5]) rfl ⟨_, rfl, E.2.1, e4 E⟩
set_option maxRecDepth 100000 in
set_option maxHeartbeats 4000000 in
theorem RAdd_z  (va : Value) (x : Int) (vb : Value) (y : Int) (w : World) (hva : IsI w va x) (hvb : IsI w vb y) (Fx : Fits x 1000000000) (Fy : Fits y 1000000000) :
    Calls Tryz.prog 42 #[va, vb] w (RetZ w (x + y)) := by
 have E := Env.start w
 obtain ⟨nva, sva, rfl, _, _⟩ := hva.sh
 replace E := E.i hva
 clear hva
 obtain ⟨nvb, svb, rfl, _, _⟩ := hvb.sh
 replace E := E.i hvb
 clear hvb
 go_enter Tryz.func42, Tryz.ntmps42
 refine wp_seq ?_
 -- region 0
 refine RL ?_
 refine EF rfl (Oper.wp_box rfl rfl ?_)
 intro b1 w1 e1 z1 d1 x1
 have l1 : w.heap.size ≤ b1 := by rw [e1]; exact (E.2.2.1).size
 replace E := E.below d1
 clear e1 z1 d1
 replace E := E.b x1
 clear x1
 refine kw rfl ?_
 simp only [q2,q3]
 refine EF rfl (Oper.wp_box rfl rfl ?_)
 intro b2 w2 e2 z2 d2 x2
 have l2_0 : b1 < b2 := by rw [e2]; exact Bx.lt (E.1)
 replace E := E.below d2
 clear e2 z2 d2
 replace E := E.b x2
 clear x2
 refine kw rfl ?_
 simp only [q2,q3]
 refine EF rfl (Oper.wp_alloc AgI rfl ?_)
 intro b3 w3 e3 z3 d3 x3
 have l3_0 : b2 < b3 := by rw [e3]; exact Bx.lt (E.1)
 replace E := E.below d3
 clear e3 z3 d3
 refine kw rfl ?_
 simp only [q2,q3]
 refine WN ?_
 change Code.wp _ _ _ _ _
 refine wp_seq ?_
 refine wp_seq ?_
 have hsx := IsI.sign (e3 E)
 have hsy := IsI.sign (E.2.2.1)
 by_cases hs : nva = nvb
 case pos =>
  -- region 1
  refine RL ?_
  refine V rfl rfl (run_fieldI0 rfl rfl) <| V rfl rfl (run_cell rfl isAgg_bool rfl (E.2.1) rfl) <| V rfl rfl (run_fieldI0 rfl rfl) <| V rfl rfl (run_cell rfl isAgg_bool rfl (E.1) rfl) <| ?_
  simp only [q2,q3]
  refine V rfl rfl (run_eqB (a := nva) (b := nvb) (c := true) rfl Tryz.underlying4 rfl rfl (beq_iff_eq.2 hs)) <| ?_
  simp only [q2,q3]
  refine WN ?_
  change Code.wp _ _ _ _ _
  refine wp_cond_true rfl ?_
  refine wp_seq ?_
  -- region 2
  refine wp_schedE E ([0, 1, 2, 3, 4, 5, 6, 7, 8]) (by kernel_rfl) (by kernel_rfl) (by kernel_rfl) (by kernel_rfl) (by intro d v c a w h; cases d <;> exact h) ?_
  replace E := E.drew
  replace x3 := Bx.drew x3
  refine SW rfl rfl rfl rfl rfl (fun w hS => run_fieldI0 rfl rfl) <| SW rfl rfl rfl rfl rfl (fun w hS => run_cell rfl isAgg_bool rfl (hS.2.1) rfl) <| SW rfl rfl rfl rfl rfl (fun w hS => run_fieldI1 rfl rfl) <| SW rfl rfl rfl rfl rfl (fun w hS => run_cell rfl isAgg_words rfl (hS.2.1) rfl) <| ?_
  simp only [q2,q3]
  refine SW rfl rfl rfl rfl rfl (fun w hS => run_fieldI1 rfl rfl) <| SW rfl rfl rfl rfl rfl (fun w hS => run_cell rfl isAgg_words rfl (hS.1) rfl) <| ?_
  simp only [q2,q3]
  refine S1a (o := ⟨some 16, _, _, _, _, _⟩) rfl rfl rfl rfl (Oper.wp_callS fn_eref01_added rfl (radded_d _ _ x.natAbs y.natAbs _ (IsI.sl (e3 E)) (IsI.sl (E.2.2.1)) (Fits.mono Fx (by decide)) (Fits.mono Fy (by decide))) rfl E ?_)
  clear E
  intro w4 v4 d4 E
  replace x3 := x3.below d4
  clear d4
  refine ⟨E.2, ?_⟩
  simp only [Act.put,q1,q2,q3]
  refine S1a (o := ⟨some 17, _, _, _, _, _⟩) rfl rfl rfl rfl (Oper.wp_callI fn_eref01_made rfl (rmade_d nva _ (x.natAbs + y.natAbs) (x + y) _ (E.1) (sg_same hsx hsy hs)) rfl E ?_)
  clear E
  intro w5 n5 s5 d5 E
  replace x3 := x3.below d5
  clear d5
  refine ⟨E.2.2, ?_⟩
  simp only [Act.put,q1,q2,q3]
  refine S1a (o := ⟨none, _, _, _, _, _⟩) rfl rfl rfl rfl (Oper.wp_store AgI rfl rfl rfl x3 rfl rfl (IsI.one (E.1)) ?_)
  intro w6 o6 y6
  replace E := (E.onl (x3.noW now0) ⟨trivial, trivial, okB (by omega), okB (by omega), trivial, trivial, okW (by omega), trivial⟩ o6).b y6
  clear x3 o6 y6
  refine ⟨E.2.2.2, ?_⟩
  simp only [Act.put]
  refine SN ?_
  change Code.wp _ _ _ _ _
  refine wp_ret ?_
  have r7 := res_box AgI (E.1) rfl
  exact bodyPost_ret (v := .agg #[.bool n5, s5]) (by simp [results, Tryz.results42, asAddr, r7]) rfl ⟨_, rfl, E.2.1, e7 E⟩
 case neg =>
  by_cases hl : x.natAbs < y.natAbs
  case pos =>
   -- region 1
   refine RL ?_
   refine V rfl rfl (run_fieldI0 rfl rfl) <| V rfl rfl (run_cell rfl isAgg_bool rfl (E.2.1) rfl) <| V rfl rfl (run_fieldI0 rfl rfl) <| V rfl rfl (run_cell rfl isAgg_bool rfl (E.1) rfl) <| ?_
   simp only [q2,q3]
   refine V rfl rfl (run_eqB (a := nva) (b := nvb) (c := false) rfl Tryz.underlying4 rfl rfl (beq_eq_false_iff_ne.2 hs)) <| ?_
   simp only [q2,q3]
   refine WN ?_
   change Code.wp _ _ _ _ _
   refine wp_cond_false rfl ?_
   refine wp_skip ?_
   change Code.wp _ _ _ _ _
   refine wp_seq ?_
   refine wp_seq ?_
   -- region 3
   refine RL ?_
   refine V rfl rfl (run_fieldI1 rfl rfl) <| V rfl rfl (run_cell rfl isAgg_words rfl (E.2.1) rfl) <| V rfl rfl (run_fieldI1 rfl rfl) <| V rfl rfl (run_cell rfl isAgg_words rfl (E.1) rfl) <| ?_
   simp only [q2,q3]
   refine EF rfl (Oper.wp_callN fn_eref01_compared rfl (rcompared_d _ _ x.natAbs y.natAbs _ (IsI.sl (e3 E)) (IsI.sl (E.2.2.1))) rfl E ?_)
   clear E
   intro w8 d8 E
   replace x3 := x3.below d8
   clear d8
   refine kw rfl ?_
   refine V rfl rfl (run_ltI (c := true) rfl rfl rfl (cmpn_lt hl)) <| ?_
   simp only [q2,q3]
   refine WN ?_
   change Code.wp _ _ _ _ _
   refine wp_cond_true rfl ?_
   refine wp_seq ?_
   -- region 4
   refine wp_schedE E ([0, 1, 2, 3, 4, 5, 6, 7, 8]) (by kernel_rfl) (by kernel_rfl) (by kernel_rfl) (by kernel_rfl) (by intro d v c a w h; cases d <;> exact h) ?_
   replace E := E.drew
   replace x3 := Bx.drew x3
   refine SW rfl rfl rfl rfl rfl (fun w hS => run_fieldI0 rfl rfl) <| SW rfl rfl rfl rfl rfl (fun w hS => run_cell rfl isAgg_bool rfl (hS.1) rfl) <| SW rfl rfl rfl rfl rfl (fun w hS => run_fieldI1 rfl rfl) <| SW rfl rfl rfl rfl rfl (fun w hS => run_cell rfl isAgg_words rfl (hS.1) rfl) <| ?_
   simp only [q2,q3]
   refine SW rfl rfl rfl rfl rfl (fun w hS => run_fieldI1 rfl rfl) <| SW rfl rfl rfl rfl rfl (fun w hS => run_cell rfl isAgg_words rfl (hS.2.1) rfl) <| ?_
   simp only [q2,q3]
   refine S1a (o := ⟨some 30, _, _, _, _, _⟩) rfl rfl rfl rfl (Oper.wp_callS fn_eref01_taken rfl (rtaken_d _ _ y.natAbs x.natAbs _ (IsI.sl (E.2.2.1)) (IsI.sl (e3 E)) (Fits.mono Fy (by decide)) (Nat.le_of_lt hl)) rfl E ?_)
   clear E
   intro w9 v9 d9 E
   replace x3 := x3.below d9
   clear d9
   refine ⟨E.2, ?_⟩
   simp only [Act.put,q1,q2,q3]
   refine S1a (o := ⟨some 31, _, _, _, _, _⟩) rfl rfl rfl rfl (Oper.wp_callI fn_eref01_made rfl (rmade_d nvb _ (y.natAbs - x.natAbs) (x + y) _ (E.1) (sg_lt hsx hsy hs hl)) rfl E ?_)
   clear E
   intro w10 n10 s10 d10 E
   replace x3 := x3.below d10
   clear d10
   refine ⟨E.2.2, ?_⟩
   simp only [Act.put,q1,q2,q3]
   refine S1a (o := ⟨none, _, _, _, _, _⟩) rfl rfl rfl rfl (Oper.wp_store AgI rfl rfl rfl x3 rfl rfl (IsI.one (E.1)) ?_)
   intro w11 o11 y11
   replace E := (E.onl (x3.noW now0) ⟨trivial, trivial, okB (by omega), okB (by omega), trivial, trivial, okW (by omega), trivial⟩ o11).b y11
   clear x3 o11 y11
   refine ⟨E.2.2.2, ?_⟩
   simp only [Act.put]
   refine SN ?_
   change Code.wp _ _ _ _ _
   refine wp_ret ?_
   have r12 := res_box AgI (E.1) rfl
   exact bodyPost_ret (v := .agg #[.bool n10, s10]) (by simp [results, Tryz.results42, asAddr, r12]) rfl ⟨_, rfl, E.2.1, e7 E⟩
  case neg =>
   -- region 1
   refine RL ?_
   refine V rfl rfl (run_fieldI0 rfl rfl) <| V rfl rfl (run_cell rfl isAgg_bool rfl (E.2.1) rfl) <| V rfl rfl (run_fieldI0 rfl rfl) <| V rfl rfl (run_cell rfl isAgg_bool rfl (E.1) rfl) <| ?_
   simp only [q2,q3]
   refine V rfl rfl (run_eqB (a := nva) (b := nvb) (c := false) rfl Tryz.underlying4 rfl rfl (beq_eq_false_iff_ne.2 hs)) <| ?_
   simp only [q2,q3]
   refine WN ?_
   change Code.wp _ _ _ _ _
   refine wp_cond_false rfl ?_
   refine wp_skip ?_
   change Code.wp _ _ _ _ _
   refine wp_seq ?_
   refine wp_seq ?_
   -- region 3
   refine RL ?_
   refine V rfl rfl (run_fieldI1 rfl rfl) <| V rfl rfl (run_cell rfl isAgg_words rfl (E.2.1) rfl) <| V rfl rfl (run_fieldI1 rfl rfl) <| V rfl rfl (run_cell rfl isAgg_words rfl (E.1) rfl) <| ?_
   simp only [q2,q3]
   refine EF rfl (Oper.wp_callN fn_eref01_compared rfl (rcompared_d _ _ x.natAbs y.natAbs _ (IsI.sl (e3 E)) (IsI.sl (E.2.2.1))) rfl E ?_)
   clear E
   intro w13 d13 E
   replace x3 := x3.below d13
   clear d13
   refine kw rfl ?_
   refine V rfl rfl (run_ltI (c := false) rfl rfl rfl (cmpn_ge hl)) <| ?_
   simp only [q2,q3]
   refine WN ?_
   change Code.wp _ _ _ _ _
   refine wp_cond_false rfl ?_
   refine wp_skip ?_
   change Code.wp _ _ _ _ _
   refine wp_seq ?_
   -- region 5
   refine wp_schedE E ([0, 1, 2, 3, 4, 5, 6, 7, 8]) (by kernel_rfl) (by kernel_rfl) (by kernel_rfl) (by kernel_rfl) (by intro d v c a w h; cases d <;> exact h) ?_
   replace E := E.drew
   replace x3 := Bx.drew x3
   refine SW rfl rfl rfl rfl rfl (fun w hS => run_fieldI0 rfl rfl) <| SW rfl rfl rfl rfl rfl (fun w hS => run_cell rfl isAgg_bool rfl (hS.2.1) rfl) <| SW rfl rfl rfl rfl rfl (fun w hS => run_fieldI1 rfl rfl) <| SW rfl rfl rfl rfl rfl (fun w hS => run_cell rfl isAgg_words rfl (hS.2.1) rfl) <| ?_
   simp only [q2,q3]
   refine SW rfl rfl rfl rfl rfl (fun w hS => run_fieldI1 rfl rfl) <| SW rfl rfl rfl rfl rfl (fun w hS => run_cell rfl isAgg_words rfl (hS.1) rfl) <| ?_
   simp only [q2,q3]
   refine S1a (o := ⟨some 38, _, _, _, _, _⟩) rfl rfl rfl rfl (Oper.wp_callS fn_eref01_taken rfl (rtaken_d _ _ x.natAbs y.natAbs _ (IsI.sl (e3 E)) (IsI.sl (E.2.2.1)) (Fits.mono Fx (by decide)) (Nat.le_of_not_lt hl)) rfl E ?_)
   clear E
   intro w14 v14 d14 E
   replace x3 := x3.below d14
   clear d14
   refine ⟨E.2, ?_⟩
   simp only [Act.put,q1,q2,q3]
   refine S1a (o := ⟨some 39, _, _, _, _, _⟩) rfl rfl rfl rfl (Oper.wp_callI fn_eref01_made rfl (rmade_d nva _ (x.natAbs - y.natAbs) (x + y) _ (E.1) (sg_ge hsx hsy hs hl)) rfl E ?_)
   clear E
   intro w15 n15 s15 d15 E
   replace x3 := x3.below d15
   clear d15
   refine ⟨E.2.2, ?_⟩
   simp only [Act.put,q1,q2,q3]
   refine S1a (o := ⟨none, _, _, _, _, _⟩) rfl rfl rfl rfl (Oper.wp_store AgI rfl rfl rfl x3 rfl rfl (IsI.one (E.1)) ?_)
   intro w16 o16 y16
   replace E := (E.onl (x3.noW now0) ⟨trivial, trivial, okB (by omega), okB (by omega), trivial, trivial, okW (by omega), trivial⟩ o16).b y16
   clear x3 o16 y16
   refine ⟨E.2.2.2, ?_⟩
   simp only [Act.put]
   refine SN ?_
   change Code.wp _ _ _ _ _
   refine wp_ret ?_
   have r17 := res_box AgI (E.1) rfl
   exact bodyPost_ret (v := .agg #[.bool n15, s15]) (by simp [results, Tryz.results42, asAddr, r17]) rfl ⟨_, rfl, E.2.1, e7 E⟩
set_option maxRecDepth 100000 in
set_option maxHeartbeats 4000000 in
theorem RMul_z  (va : Value) (x : Int) (vb : Value) (y : Int) (w : World) (hva : IsI w va x) (hvb : IsI w vb y) (Fx : Fits x 1000000000) (Fy : Fits y 1000000000) :
    Calls Tryz.prog 43 #[va, vb] w (RetZ w (x * y)) := by
 have E := Env.start w
 obtain ⟨nva, sva, rfl, _, _⟩ := hva.sh
 replace E := E.i hva
 clear hva
 obtain ⟨nvb, svb, rfl, _, _⟩ := hvb.sh
 replace E := E.i hvb
 clear hvb
 go_enter Tryz.func43, Tryz.ntmps43
 refine wp_seq ?_
 -- region 0
 refine RL ?_
 refine EF rfl (Oper.wp_box rfl rfl ?_)
 intro b1 w1 e1 z1 d1 x1
 have l1 : w.heap.size ≤ b1 := by rw [e1]; exact (E.2.2.1).size
 replace E := E.below d1
 clear e1 z1 d1
 replace E := E.b x1
 clear x1
 refine kw rfl ?_
 simp only [q2,q3]
 refine EF rfl (Oper.wp_box rfl rfl ?_)
 intro b2 w2 e2 z2 d2 x2
 have l2_0 : b1 < b2 := by rw [e2]; exact Bx.lt (E.1)
 replace E := E.below d2
 clear e2 z2 d2
 replace E := E.b x2
 clear x2
 refine kw rfl ?_
 simp only [q2,q3]
 refine EF rfl (Oper.wp_alloc AgI rfl ?_)
 intro b3 w3 e3 z3 d3 x3
 have l3_0 : b2 < b3 := by rw [e3]; exact Bx.lt (E.1)
 replace E := E.below d3
 clear e3 z3 d3
 refine kw rfl ?_
 simp only [q2,q3]
 refine WN ?_
 change Code.wp _ _ _ _ _
 refine wp_seq ?_
 have hsx := IsI.sign (e3 E)
 have hsy := IsI.sign (E.2.2.1)
 -- region 1
 refine wp_schedE E ([0, 1, 2, 3, 4, 5, 6, 7, 8, 9, 10, 11]) (by kernel_rfl) (by kernel_rfl) (by kernel_rfl) (by kernel_rfl) (by intro d v c a w h; cases d <;> exact h) ?_
 replace E := E.drew
 replace x3 := Bx.drew x3
 refine SW rfl rfl rfl rfl rfl (fun w hS => run_fieldI0 rfl rfl) <| SW rfl rfl rfl rfl rfl (fun w hS => run_cell rfl isAgg_bool rfl (hS.2.1) rfl) <| SW rfl rfl rfl rfl rfl (fun w hS => run_fieldI0 rfl rfl) <| SW rfl rfl rfl rfl rfl (fun w hS => run_cell rfl isAgg_bool rfl (hS.1) rfl) <| ?_
 simp only [q2,q3]
 refine SW rfl rfl rfl rfl rfl (fun w hS => run_neB (a := nva) (b := nvb) (c := (nva != nvb)) rfl Tryz.underlying4 rfl rfl (rfl)) <| SW rfl rfl rfl rfl rfl (fun w hS => run_fieldI1 rfl rfl) <| SW rfl rfl rfl rfl rfl (fun w hS => run_cell rfl isAgg_words rfl (hS.2.1) rfl) <| SW rfl rfl rfl rfl rfl (fun w hS => run_fieldI1 rfl rfl) <| ?_
 simp only [q2,q3]
 refine SW rfl rfl rfl rfl rfl (fun w hS => run_cell rfl isAgg_words rfl (hS.1) rfl) <| ?_
 simp only [q2,q3]
 refine S1a (o := ⟨some 14, _, _, _, _, _⟩) rfl rfl rfl rfl (Oper.wp_callS fn_eref01_times rfl (rtimes_d _ _ x.natAbs y.natAbs _ (IsI.sl (e3 E)) (IsI.sl (E.2.2.1)) (Fits.mono Fx (by decide)) (Fits.mono Fy (by decide))) rfl E ?_)
 clear E
 intro w4 v4 d4 E
 replace x3 := x3.below d4
 clear d4
 refine ⟨E.2, ?_⟩
 simp only [Act.put,q1,q2,q3]
 refine S1a (o := ⟨some 15, _, _, _, _, _⟩) rfl rfl rfl rfl (Oper.wp_callI fn_eref01_made rfl (rmade_d (nva != nvb) _ (x.natAbs * y.natAbs) (x * y) _ (E.1) (sg_mul hsx hsy)) rfl E ?_)
 clear E
 intro w5 n5 s5 d5 E
 replace x3 := x3.below d5
 clear d5
 refine ⟨E.2.2, ?_⟩
 simp only [Act.put,q1,q2,q3]
 refine S1a (o := ⟨none, _, _, _, _, _⟩) rfl rfl rfl rfl (Oper.wp_store AgI rfl rfl rfl x3 rfl rfl (IsI.one (E.1)) ?_)
 intro w6 o6 y6
 replace E := (E.onl (x3.noW now0) ⟨trivial, trivial, okB (by omega), okB (by omega), trivial, trivial, okW (by omega), trivial⟩ o6).b y6
 clear x3 o6 y6
 refine ⟨E.2.2.2, ?_⟩
 simp only [Act.put]
 refine SN ?_
 change Code.wp _ _ _ _ _
 refine wp_ret ?_
 have r7 := res_box AgI (E.1) rfl
 exact bodyPost_ret (v := .agg #[.bool n5, s5]) (by simp [results, Tryz.results43, asAddr, r7]) rfl ⟨_, rfl, E.2.1, e7 E⟩
set_option maxRecDepth 100000 in
set_option maxHeartbeats 4000000 in
theorem RDivMod_z  (va : Value) (x : Int) (vb : Value) (y : Int) (w : World) (hva : IsI w va x) (hvb : IsI w vb y) (hy0 : y ≠ 0) (Fx : Fits x 900000000) (Fy : Fits y 900000000) :
    Calls Tryz.prog 58 #[va, vb] w (RetDM w (x / y) (x % y) 0) := by
 have E := Env.start w
 obtain ⟨nva, sva, rfl, _, _⟩ := hva.sh
 replace E := E.i hva
 clear hva
 obtain ⟨nvb, svb, rfl, _, _⟩ := hvb.sh
 replace E := E.i hvb
 clear hvb
 go_enter Tryz.func58, Tryz.ntmps58
 refine wp_seq ?_
 -- region 0
 refine RL ?_
 refine EF rfl (Oper.wp_box rfl rfl ?_)
 intro b1 w1 e1 z1 d1 x1
 have l1 : w.heap.size ≤ b1 := by rw [e1]; exact (E.2.2.1).size
 replace E := E.below d1
 clear e1 z1 d1
 replace E := E.b x1
 clear x1
 refine kw rfl ?_
 simp only [q2,q3]
 refine EF rfl (Oper.wp_box rfl rfl ?_)
 intro b2 w2 e2 z2 d2 x2
 have l2_0 : b1 < b2 := by rw [e2]; exact Bx.lt (E.1)
 replace E := E.below d2
 clear e2 z2 d2
 replace E := E.b x2
 clear x2
 refine kw rfl ?_
 simp only [q2,q3]
 refine EF rfl (Oper.wp_alloc AgI rfl ?_)
 intro b3 w3 e3 z3 d3 x3
 have l3_0 : b2 < b3 := by rw [e3]; exact Bx.lt (E.1)
 replace E := E.below d3
 clear e3 z3 d3
 refine kw rfl ?_
 simp only [q2,q3]
 refine EF rfl (Oper.wp_alloc AgI rfl ?_)
 intro b4 w4 e4 z4 d4 x4
 have l4_0 : b3 < b4 := by rw [e4]; exact Bx.lt (x3)
 replace E := E.below d4
 replace x3 := Bx.below x3 d4
 clear e4 z4 d4
 refine kw rfl ?_
 refine AC rfl rfl rfl rfl <| ?_
 simp only [q2,q3]
 refine WN ?_
 change Code.wp _ _ _ _ _
 refine wp_seq ?_
 refine wp_seq ?_
 have hsy := IsI.sign (E.2.2.1)
 have hsx := IsI.sign (e3 E)
 have hdm := divmod_math hy0 hsx hsy
 by_cases hx : x < 0
 case pos =>
  obtain rfl : nva = true := (IsI.sign (e3 E)).trans (decide_eq_true hx)
  by_cases hr : 0 < x.natAbs % y.natAbs
  case pos =>
   -- region 1
   refine RL ?_
   refine V rfl rfl (run_fieldI1 rfl rfl) <| V rfl rfl (run_cell rfl isAgg_words rfl (E.1) rfl) <| ?_
   obtain ⟨ao6, cap6, hs6⟩ := IsI.slice (E.2.2.1)
   refine V (v := .int .i64 (((digs y.natAbs).length : Nat) : Int)) rfl rfl (run_len rfl hs6) <| V rfl rfl (run_eqI (c := false) rfl rfl rfl (len_ne0 hy0)) <| ?_
   simp only [q2,q3]
   refine WN ?_
   change Code.wp _ _ _ _ _
   refine wp_cond_false rfl ?_
   refine wp_skip ?_
   change Code.wp _ _ _ _ _
   refine wp_seq ?_
   -- region 3
   refine RL ?_
   refine V rfl rfl (run_fieldI1 rfl rfl) <| V rfl rfl (run_cell rfl isAgg_words rfl (E.2.1) rfl) <| V rfl rfl (run_fieldI1 rfl rfl) <| V rfl rfl (run_cell rfl isAgg_words rfl (E.1) rfl) <| ?_
   simp only [q2,q3]
   refine EF rfl (Oper.wp_callDv fn_eref01_divided rfl (rdivided_sl _ _ x.natAbs y.natAbs _ (IsI.sl (e3 E)) (IsI.sl (E.2.2.1)) Fx Fy (natp hy0)) rfl E ?_)
   clear E
   intro w7 v7 u7 d7 E
   replace x3 := x3.below d7
   replace x4 := x4.below d7
   clear d7
   refine kw rfl ?_
   refine M rfl rfl rfl rfl rfl <| V rfl rfl (run_extract (vs := [v7, u7]) rfl rfl rfl) <| V rfl rfl (run_extract (vs := [v7, u7]) rfl rfl rfl) <| A rfl rfl rfl rfl rfl <| ?_
   simp only [q2,q3]
   refine A rfl rfl rfl rfl rfl <| ?_
   simp only [q2,q3]
   refine WN ?_
   change Code.wp _ _ _ _ _
   refine wp_seq ?_
   refine wp_seq ?_
   -- region 4
   refine RL ?_
   refine V rfl rfl (run_fieldI0 rfl rfl) <| V rfl rfl (run_cell rfl isAgg_bool rfl (e3 E) rfl) <| M rfl rfl rfl rfl rfl <| M (by kernel_rfl) rfl rfl rfl rfl <| ?_
   obtain ⟨ao8, cap8, hs8⟩ := Sl.shp (E.1)
   simp only [q2,q3]
   refine V (v := .int .i64 (((digs (x.natAbs % y.natAbs)).length : Nat) : Int)) (by kernel_rfl) rfl (run_len rfl hs8) <| V (by kernel_rfl) rfl (run_gtI (c := true) rfl rfl rfl (lenp hr)) <| V (v := .bool true) rfl rfl (run_pick (b := true) rfl rfl rfl) <| ?_
   simp only [q2,q3]
   refine WN ?_
   change Code.wp _ _ _ _ _
   refine wp_cond_true rfl ?_
   refine wp_seq ?_
   -- region 5
   refine RL ?_
   refine M rfl rfl rfl rfl rfl <| ?_
   simp only [q2,q3]
   refine EF rfl (Oper.wp_oneW (c := 1) rfl rfl (by decide) (by decide) E ?_)
   clear E
   intro w9 v9 d9 E
   replace x3 := x3.below d9
   replace x4 := x4.below d9
   clear d9
   refine kw rfl ?_
   simp only [q2,q3]
   refine EF rfl (Oper.wp_callS fn_eref01_added rfl (radded_d _ _ (x.natAbs / y.natAbs) 1 _ (E.2.2.1) (E.1) (Nat.le_trans (fits_div Fx) (by decide)) len1) rfl E ?_)
   clear E
   intro w10 v10 d10 E
   replace x3 := x3.below d10
   replace x4 := x4.below d10
   clear d10
   refine kw rfl ?_
   refine A rfl rfl rfl rfl rfl <| ?_
   simp only [q2,q3]
   refine WN ?_
   change Code.wp _ _ _ _ _
   -- region 6
   refine RL ?_
   refine V rfl rfl (run_fieldI1 rfl rfl) <| V rfl rfl (run_cell rfl isAgg_words rfl (e4 E) rfl) <| M rfl rfl rfl rfl rfl <| ?_
   simp only [q2,q3]
   refine EF rfl (Oper.wp_callS fn_eref01_taken rfl (rtaken_d _ _ y.natAbs (x.natAbs % y.natAbs) _ (IsI.sl (e6 E)) (E.2.2.1) (Fits.mono (Fy.mono (by decide) : Fits y 1000000000) (by decide)) (Nat.le_of_lt (Nat.mod_lt _ (natp hy0)))) rfl E ?_)
   clear E
   intro w11 v11 d11 E
   replace x3 := x3.below d11
   replace x4 := x4.below d11
   clear d11
   refine kw rfl ?_
   refine A rfl rfl rfl rfl rfl <| ?_
   simp only [q2,q3]
   refine WN ?_
   change Code.wp _ _ _ _ _
   refine wp_seq ?_
   -- region 7
   refine RL ?_
   refine V rfl rfl (run_fieldI0 rfl rfl) <| V rfl rfl (run_cell rfl isAgg_bool rfl (e6 E) rfl) <| V rfl rfl (run_fieldI0 rfl rfl) <| V rfl rfl (run_cell rfl isAgg_bool rfl (e5 E) rfl) <| ?_
   simp only [q2,q3]
   refine V rfl rfl (run_neB (a := true) (b := nvb) (c := (true != nvb)) rfl Tryz.underlying4 rfl rfl (rfl)) <| M rfl rfl rfl rfl rfl <| ?_
   simp only [q2,q3]
   refine EF rfl (Oper.wp_callI fn_eref01_made rfl (rmade_d (true != nvb) _ ((x.natAbs / y.natAbs) + 1) (x / y) _ (E.2.1) ((hdm.1 ⟨rfl, hr⟩).1)) rfl E ?_)
   clear E
   intro w12 n12 s12 d12 E
   replace x3 := x3.below d12
   replace x4 := x4.below d12
   clear d12
   refine kw rfl ?_
   refine M rfl rfl rfl rfl rfl <| ?_
   simp only [q2,q3]
   refine EF rfl (Oper.wp_callI fn_eref01_made rfl (rmade_d false _ (y.natAbs - (x.natAbs % y.natAbs)) (x % y) _ (E.2.1) ((hdm.1 ⟨rfl, hr⟩).2)) rfl E ?_)
   clear E
   intro w13 n13 s13 d13 E
   replace x3 := x3.below d13
   replace x4 := x4.below d13
   clear d13
   refine kw rfl ?_
   simp only [q2,q3]
   refine EF rfl (Oper.wp_store AgI rfl rfl rfl x3 rfl rfl (IsI.one (E.2.1)) ?_)
   intro w14 o14 y14
   replace E := (E.onl (x3.noW now0) ⟨trivial, trivial, trivial, trivial, trivial, trivial, trivial, okB (by omega), okB (by omega), trivial, trivial, okW (by omega), trivial⟩ o14).b y14
   replace x4 := Bx.onl x4 (by omega) o14
   clear x3 o14 y14
   refine kn rfl ?_
   refine EF rfl (Oper.wp_store AgI rfl rfl rfl x4 rfl rfl (IsI.one (E.2.1)) ?_)
   intro w15 o15 y15
   replace E := (E.onl (x4.noW now0) ⟨okB (by omega), trivial, trivial, trivial, trivial, trivial, trivial, trivial, okB (by omega), okB (by omega), trivial, trivial, okW (by omega), trivial⟩ o15).b y15
   clear x4 o15 y15
   refine kn rfl ?_
   refine AC rfl rfl rfl rfl <| ?_
   simp only [q2,q3]
   refine WN ?_
   change Code.wp _ _ _ _ _
   refine wp_ret ?_
   have r16 := res_box AgI (E.2.1) rfl
   have r17 := res_box AgI (E.1) rfl
   exact bodyPost_ret (v := .tuple #[.agg #[.bool n12, s12], .agg #[.bool n13, s13], .int .i64 0]) (by simp [results, Tryz.results58, asAddr, r16, r17]) rfl ⟨_, _, rfl, e3 E, E.2.2.1, e13 E⟩
  case neg =>
   -- region 1
   refine RL ?_
   refine V rfl rfl (run_fieldI1 rfl rfl) <| V rfl rfl (run_cell rfl isAgg_words rfl (E.1) rfl) <| ?_
   obtain ⟨ao19, cap19, hs19⟩ := IsI.slice (E.2.2.1)
   refine V (v := .int .i64 (((digs y.natAbs).length : Nat) : Int)) rfl rfl (run_len rfl hs19) <| V rfl rfl (run_eqI (c := false) rfl rfl rfl (len_ne0 hy0)) <| ?_
   simp only [q2,q3]
   refine WN ?_
   change Code.wp _ _ _ _ _
   refine wp_cond_false rfl ?_
   refine wp_skip ?_
   change Code.wp _ _ _ _ _
   refine wp_seq ?_
   -- region 3
   refine RL ?_
   refine V rfl rfl (run_fieldI1 rfl rfl) <| V rfl rfl (run_cell rfl isAgg_words rfl (E.2.1) rfl) <| V rfl rfl (run_fieldI1 rfl rfl) <| V rfl rfl (run_cell rfl isAgg_words rfl (E.1) rfl) <| ?_
   simp only [q2,q3]
   refine EF rfl (Oper.wp_callDv fn_eref01_divided rfl (rdivided_sl _ _ x.natAbs y.natAbs _ (IsI.sl (e3 E)) (IsI.sl (E.2.2.1)) Fx Fy (natp hy0)) rfl E ?_)
   clear E
   intro w20 v20 u20 d20 E
   replace x3 := x3.below d20
   replace x4 := x4.below d20
   clear d20
   refine kw rfl ?_
   refine M rfl rfl rfl rfl rfl <| V rfl rfl (run_extract (vs := [v20, u20]) rfl rfl rfl) <| V rfl rfl (run_extract (vs := [v20, u20]) rfl rfl rfl) <| A rfl rfl rfl rfl rfl <| ?_
   simp only [q2,q3]
   refine A rfl rfl rfl rfl rfl <| ?_
   simp only [q2,q3]
   refine WN ?_
   change Code.wp _ _ _ _ _
   refine wp_seq ?_
   refine wp_seq ?_
   -- region 4
   refine RL ?_
   refine V rfl rfl (run_fieldI0 rfl rfl) <| V rfl rfl (run_cell rfl isAgg_bool rfl (e3 E) rfl) <| M rfl rfl rfl rfl rfl <| M (by kernel_rfl) rfl rfl rfl rfl <| ?_
   obtain ⟨ao21, cap21, hs21⟩ := Sl.shp (E.1)
   simp only [q2,q3]
   refine V (v := .int .i64 (((digs (x.natAbs % y.natAbs)).length : Nat) : Int)) (by kernel_rfl) rfl (run_len rfl hs21) <| V (by kernel_rfl) rfl (run_gtI (c := false) rfl rfl rfl (lenz hr)) <| V (v := .bool false) rfl rfl (run_pick (b := true) rfl rfl rfl) <| ?_
   simp only [q2,q3]
   refine WN ?_
   change Code.wp _ _ _ _ _
   refine wp_cond_false rfl ?_
   refine wp_skip ?_
   change Code.wp _ _ _ _ _
   refine wp_seq ?_
   -- region 7
   refine RL ?_
   refine V rfl rfl (run_fieldI0 rfl rfl) <| V rfl rfl (run_cell rfl isAgg_bool rfl (e3 E) rfl) <| V rfl rfl (run_fieldI0 rfl rfl) <| V rfl rfl (run_cell rfl isAgg_bool rfl (E.2.2.1) rfl) <| ?_
   simp only [q2,q3]
   refine V rfl rfl (run_neB (a := true) (b := nvb) (c := (true != nvb)) rfl Tryz.underlying4 rfl rfl (rfl)) <| M rfl rfl rfl rfl rfl <| ?_
   simp only [q2,q3]
   refine EF rfl (Oper.wp_callI fn_eref01_made rfl (rmade_d (true != nvb) _ (x.natAbs / y.natAbs) (x / y) _ (E.2.1) ((hdm.2 fun h => hr h.2).1)) rfl E ?_)
   clear E
   intro w22 n22 s22 d22 E
   replace x3 := x3.below d22
   replace x4 := x4.below d22
   clear d22
   refine kw rfl ?_
   refine M rfl rfl rfl rfl rfl <| ?_
   simp only [q2,q3]
   refine EF rfl (Oper.wp_callI fn_eref01_made rfl (rmade_d false _ (x.natAbs % y.natAbs) (x % y) _ (E.2.1) ((hdm.2 fun h => hr h.2).2)) rfl E ?_)
   clear E
   intro w23 n23 s23 d23 E
   replace x3 := x3.below d23
   replace x4 := x4.below d23
   clear d23
   refine kw rfl ?_
   simp only [q2,q3]
   refine EF rfl (Oper.wp_store AgI rfl rfl rfl x3 rfl rfl (IsI.one (E.2.1)) ?_)
   intro w24 o24 y24
   replace E := (E.onl (x3.noW now0) ⟨trivial, trivial, trivial, trivial, okB (by omega), okB (by omega), trivial, trivial, okW (by omega), trivial⟩ o24).b y24
   replace x4 := Bx.onl x4 (by omega) o24
   clear x3 o24 y24
   refine kn rfl ?_
   refine EF rfl (Oper.wp_store AgI rfl rfl rfl x4 rfl rfl (IsI.one (E.2.1)) ?_)
   intro w25 o25 y25
   replace E := (E.onl (x4.noW now0) ⟨okB (by omega), trivial, trivial, trivial, trivial, okB (by omega), okB (by omega), trivial, trivial, okW (by omega), trivial⟩ o25).b y25
   clear x4 o25 y25
   refine kn rfl ?_
   refine AC rfl rfl rfl rfl <| ?_
   simp only [q2,q3]
   refine WN ?_
   change Code.wp _ _ _ _ _
   refine wp_ret ?_
   have r26 := res_box AgI (E.2.1) rfl
   have r27 := res_box AgI (E.1) rfl
   exact bodyPost_ret (v := .tuple #[.agg #[.bool n22, s22], .agg #[.bool n23, s23], .int .i64 0]) (by simp [results, Tryz.results58, asAddr, r26, r27]) rfl ⟨_, _, rfl, e3 E, E.2.2.1, e10 E⟩
 case neg =>
  obtain rfl : nva = false := (IsI.sign (e3 E)).trans (decide_eq_false hx)
  -- region 1
  refine RL ?_
  refine V rfl rfl (run_fieldI1 rfl rfl) <| V rfl rfl (run_cell rfl isAgg_words rfl (E.1) rfl) <| ?_
  obtain ⟨ao29, cap29, hs29⟩ := IsI.slice (E.2.2.1)
  refine V (v := .int .i64 (((digs y.natAbs).length : Nat) : Int)) rfl rfl (run_len rfl hs29) <| V rfl rfl (run_eqI (c := false) rfl rfl rfl (len_ne0 hy0)) <| ?_
  simp only [q2,q3]
  refine WN ?_
  change Code.wp _ _ _ _ _
  refine wp_cond_false rfl ?_
  refine wp_skip ?_
  change Code.wp _ _ _ _ _
  refine wp_seq ?_
  -- region 3
  refine RL ?_
  refine V rfl rfl (run_fieldI1 rfl rfl) <| V rfl rfl (run_cell rfl isAgg_words rfl (E.2.1) rfl) <| V rfl rfl (run_fieldI1 rfl rfl) <| V rfl rfl (run_cell rfl isAgg_words rfl (E.1) rfl) <| ?_
  simp only [q2,q3]
  refine EF rfl (Oper.wp_callDv fn_eref01_divided rfl (rdivided_sl _ _ x.natAbs y.natAbs _ (IsI.sl (e3 E)) (IsI.sl (E.2.2.1)) Fx Fy (natp hy0)) rfl E ?_)
  clear E
  intro w30 v30 u30 d30 E
  replace x3 := x3.below d30
  replace x4 := x4.below d30
  clear d30
  refine kw rfl ?_
  refine M rfl rfl rfl rfl rfl <| V rfl rfl (run_extract (vs := [v30, u30]) rfl rfl rfl) <| V rfl rfl (run_extract (vs := [v30, u30]) rfl rfl rfl) <| A rfl rfl rfl rfl rfl <| ?_
  simp only [q2,q3]
  refine A rfl rfl rfl rfl rfl <| ?_
  simp only [q2,q3]
  refine WN ?_
  change Code.wp _ _ _ _ _
  refine wp_seq ?_
  refine wp_seq ?_
  -- region 4
  refine RL ?_
  refine V rfl rfl (run_fieldI0 rfl rfl) <| V rfl rfl (run_cell rfl isAgg_bool rfl (e3 E) rfl) <| M rfl rfl rfl rfl rfl <| L0C (by kernel_rfl) rfl <| ?_
  simp only [q2,q3]
  refine L0C (by kernel_rfl) rfl <| L0C (by kernel_rfl) rfl <| V (v := .bool false) rfl rfl (run_pick (b := false) rfl rfl rfl) <| ?_
  simp only [q2,q3]
  refine WN ?_
  change Code.wp _ _ _ _ _
  refine wp_cond_false rfl ?_
  refine wp_skip ?_
  change Code.wp _ _ _ _ _
  refine wp_seq ?_
  -- region 7
  refine RL ?_
  refine V rfl rfl (run_fieldI0 rfl rfl) <| V rfl rfl (run_cell rfl isAgg_bool rfl (e3 E) rfl) <| V rfl rfl (run_fieldI0 rfl rfl) <| V rfl rfl (run_cell rfl isAgg_bool rfl (E.2.2.1) rfl) <| ?_
  simp only [q2,q3]
  refine V rfl rfl (run_neB (a := false) (b := nvb) (c := (false != nvb)) rfl Tryz.underlying4 rfl rfl (rfl)) <| M rfl rfl rfl rfl rfl <| ?_
  simp only [q2,q3]
  refine EF rfl (Oper.wp_callI fn_eref01_made rfl (rmade_d (false != nvb) _ (x.natAbs / y.natAbs) (x / y) _ (E.2.1) ((hdm.2 fun h => by cases h.1).1)) rfl E ?_)
  clear E
  intro w31 n31 s31 d31 E
  replace x3 := x3.below d31
  replace x4 := x4.below d31
  clear d31
  refine kw rfl ?_
  refine M rfl rfl rfl rfl rfl <| ?_
  simp only [q2,q3]
  refine EF rfl (Oper.wp_callI fn_eref01_made rfl (rmade_d false _ (x.natAbs % y.natAbs) (x % y) _ (E.2.1) ((hdm.2 fun h => by cases h.1).2)) rfl E ?_)
  clear E
  intro w32 n32 s32 d32 E
  replace x3 := x3.below d32
  replace x4 := x4.below d32
  clear d32
  refine kw rfl ?_
  simp only [q2,q3]
  refine EF rfl (Oper.wp_store AgI rfl rfl rfl x3 rfl rfl (IsI.one (E.2.1)) ?_)
  intro w33 o33 y33
  replace E := (E.onl (x3.noW now0) ⟨trivial, trivial, trivial, trivial, okB (by omega), okB (by omega), trivial, trivial, okW (by omega), trivial⟩ o33).b y33
  replace x4 := Bx.onl x4 (by omega) o33
  clear x3 o33 y33
  refine kn rfl ?_
  refine EF rfl (Oper.wp_store AgI rfl rfl rfl x4 rfl rfl (IsI.one (E.2.1)) ?_)
  intro w34 o34 y34
  replace E := (E.onl (x4.noW now0) ⟨okB (by omega), trivial, trivial, trivial, trivial, okB (by omega), okB (by omega), trivial, trivial, okW (by omega), trivial⟩ o34).b y34
  clear x4 o34 y34
  refine kn rfl ?_
  refine AC rfl rfl rfl rfl <| ?_
  simp only [q2,q3]
  refine WN ?_
  change Code.wp _ _ _ _ _
  refine wp_ret ?_
  have r35 := res_box AgI (E.2.1) rfl
  have r36 := res_box AgI (E.1) rfl
  exact bodyPost_ret (v := .tuple #[.agg #[.bool n31, s31], .agg #[.bool n32, s32], .int .i64 0]) (by simp [results, Tryz.results58, asAddr, r35, r36]) rfl ⟨_, _, rfl, e3 E, E.2.2.1, e10 E⟩
set_option maxRecDepth 100000 in
set_option maxHeartbeats 4000000 in
theorem RGcd_z  (va : Value) (x : Int) (vb : Value) (y : Int) (w : World) (hva : IsI w va x) (hvb : IsI w vb y) (Fx : Fits x 900000000) (Fy : Fits y 900000000) :
    Calls Tryz.prog 77 #[va, vb] w (RetZ w ((Nat.gcd x.natAbs y.natAbs) : Nat)) := by
 have E := Env.start w
 obtain ⟨nva, sva, rfl, _, _⟩ := hva.sh
 replace E := E.i hva
 clear hva
 obtain ⟨nvb, svb, rfl, _, _⟩ := hvb.sh
 replace E := E.i hvb
 clear hvb
 go_enter Tryz.func77, Tryz.ntmps77
 refine wp_seq ?_
 -- region 0
 refine RL ?_
 refine EF rfl (Oper.wp_box rfl rfl ?_)
 intro b1 w1 e1 z1 d1 x1
 have l1 : w.heap.size ≤ b1 := by rw [e1]; exact (E.2.2.1).size
 replace E := E.below d1
 clear e1 z1 d1
 replace E := E.b x1
 clear x1
 refine kw rfl ?_
 simp only [q2,q3]
 refine EF rfl (Oper.wp_box rfl rfl ?_)
 intro b2 w2 e2 z2 d2 x2
 have l2_0 : b1 < b2 := by rw [e2]; exact Bx.lt (E.1)
 replace E := E.below d2
 clear e2 z2 d2
 replace E := E.b x2
 clear x2
 refine kw rfl ?_
 simp only [q2,q3]
 refine EF rfl (Oper.wp_alloc AgI rfl ?_)
 intro b3 w3 e3 z3 d3 x3
 have l3_0 : b2 < b3 := by rw [e3]; exact Bx.lt (E.1)
 replace E := E.below d3
 clear e3 z3 d3
 refine kw rfl ?_
 simp only [q2,q3]
 refine WN ?_
 change Code.wp _ _ _ _ _
 refine wp_seq ?_
 -- region 1
 refine RL ?_
 refine V rfl rfl (run_fieldI1 rfl rfl) <| V rfl rfl (run_cell rfl isAgg_words rfl (E.2.1) rfl) <| V rfl rfl (run_fieldI1 rfl rfl) <| V rfl rfl (run_cell rfl isAgg_words rfl (E.1) rfl) <| ?_
 simp only [q2,q3]
 refine EF rfl (Oper.wp_callS fn_eref01_common rfl (rcommon_sl _ _ x.natAbs y.natAbs _ (IsI.sl (e3 E)) (IsI.sl (E.2.2.1)) Fx Fy) rfl E ?_)
 clear E
 intro w4 v4 d4 E
 replace x3 := x3.below d4
 clear d4
 refine kw rfl ?_
 simp only [q2,q3]
 refine EF rfl (Oper.wp_callI fn_eref01_made rfl (rmade_d false _ (Nat.gcd x.natAbs y.natAbs) ((Nat.gcd x.natAbs y.natAbs) : Nat) _ (E.1) (rfl)) rfl E ?_)
 clear E
 intro w5 n5 s5 d5 E
 replace x3 := x3.below d5
 clear d5
 refine kw rfl ?_
 simp only [q2,q3]
 refine EF rfl (Oper.wp_store AgI rfl rfl rfl x3 rfl rfl (IsI.one (E.1)) ?_)
 intro w6 o6 y6
 replace E := (E.onl (x3.noW now0) ⟨trivial, trivial, okB (by omega), okB (by omega), trivial, trivial, okW (by omega), trivial⟩ o6).b y6
 clear x3 o6 y6
 refine kn rfl ?_
 refine WN ?_
 change Code.wp _ _ _ _ _
 refine wp_ret ?_
 have r7 := res_box AgI (E.1) rfl
 exact bodyPost_ret (v := .agg #[.bool n5, s5]) (by simp [results, Tryz.results77, asAddr, r7]) rfl ⟨_, rfl, E.2.1, e7 E⟩
theorem bitLen_half {t : Nat} (h : 0 < t) (h2 : t < 4294967296) : Lib.bitLen t = Lib.bitLen (t / 2) + 1 := by
  obtain ⟨a1, a2, a3⟩ := Lib.bitLenAux_bounds 64 t (by omega) (by omega)
  unfold Lib.bitLen
  by_cases h1 : t = 1
  · subst h1; rfl
  · obtain ⟨b1, b2, b3⟩ := Lib.bitLenAux_bounds 64 (t / 2) (by omega) (by omega)
    generalize Lib.bitLenAux 64 t = p at *
    generalize Lib.bitLenAux 64 (t / 2) = q at *
    obtain ⟨p, rfl⟩ : ∃ k, p = k + 1 := ⟨p - 1, by omega⟩
    obtain ⟨q, rfl⟩ : ∃ k, q = k + 1 := ⟨q - 1, by omega⟩
    rw [Nat.add_sub_cancel] at a2 b2
    rcases Nat.lt_trichotomy p (q + 1) with e | e | e
    · have := Nat.pow_le_pow_right (n := 2) (by omega) (show p + 1 ≤ q + 1 by omega)
      rw [Nat.pow_succ 2 q] at this
      omega
    · omega
    · have := Nat.pow_le_pow_right (n := 2) (by omega) (show q + 1 + 1 ≤ p by omega)
      rw [Nat.pow_succ 2 (q + 1)] at this
      omega
set_option maxRecDepth 100000 in
set_option maxHeartbeats 1000000 in
theorem RBits_z (va : Value) (x : Int) (w : World) (ha : IsI w va x) (hx : Fits x 1000000000) :
    Calls Tryz.prog 62 #[va] w (RetN w (bitsN x.natAbs)) := by
  obtain ⟨aoa, capa, rfl, sa, ha1, ha2⟩ := ha.parts
  unfold Fits at hx
  have SA := Lib.hid sa
  clear ha sa
  obtain ⟨A, hA⟩ : ∃ A, A = x.natAbs := ⟨_, rfl⟩
  obtain ⟨nx, hnx⟩ : ∃ nx, nx = decide (x < 0) := ⟨_, rfl⟩
  rw [← hnx, ← hA]
  rw [← hA] at SA ha1 hx
  clear hnx hA
  obtain ⟨W, hW, hsz, B0, k0⟩ := boxes10 w nx (.slice aoa (digs A).length capa)
  have c0 := k0.1
  have c1 := k0.2
  have S0 := SA.out.below B0
  obtain ⟨_, _, e0, _, _, h3, _, h4⟩ := S0
  simp only [Value.slice.injEq] at e0
  obtain ⟨rfl, _, rfl⟩ := e0
  have H4 := Lib.hid h4
  clear k0 h4 h3
  by_cases hz : A = 0
  · subst hz
    have hd : (digs 0).length = 0 := by rw [digs_zero]; rfl
    have hb : (((digs 0).length : Int) == 0) = true := by rw [hd]; rfl
    have HB := Lib.hid bitsN_zero
    clear hd
    go_enter Tryz.func62, Tryz.ntmps62
    go_upto_region 1 with fail
    rw [← hW]
    clear hW
    go_wp2
    go_ret
    exact ⟨by rw [HB.out]; rfl, B0⟩
  · have h0 : 0 < (digs A).length := by
      rcases Nat.eq_zero_or_pos (digs A).length with e | e
      · exact absurd ((digs_nil_iff _).1 (List.eq_nil_of_length_eq_zero e)) hz
      · exact e
    obtain ⟨k, hk⟩ : ∃ k, (digs A).length = k + 1 := ⟨(digs A).length - 1, by omega⟩
    have hb : (((digs A).length : Int) == 0) = false := by rw [beq_eq_false_iff_ne]; omega
    obtain ⟨b, off, rfl, hc⟩ := H4.out k (by omega)
    have hg := gd_lt (Wd_digs A) k
    obtain ⟨T, hT⟩ : ∃ T, T = gd (digs A) k := ⟨_, rfl⟩
    rw [← hT] at hc hg
    have hr : bitsN A = 32 * k + Lib.bitLen T := by unfold bitsN; rw [if_neg hz, hk, Nat.add_sub_cancel, hT]
    have HR := Lib.hid hr
    have HK := Lib.hid hk
    have hk1 : ((digs A).length : Int) - 1 = (k : Int) := by omega
    have hk2 : IntKind.i64.wrap (32 * (k : Int)) = 32 * (k : Int) := IntWalk.i64_in _ (by omega)
    have hk9 : k < 1000000000 := by omega
    clear hr hk hz hT
    go_enter Tryz.func62, Tryz.ntmps62
    go_upto_region 1 with fail
    rw [← hW]
    clear hW
    go_wp2
    go_loopw [4, 5] (fun so st wx => ∃ t m : Nat, st = .int .u32 t ∧ so = .int .i64 m ∧ t < 4294967296 ∧ m ≤ 33000000000 ∧ Hid (m + Lib.bitLen t = bitsN A) ∧ W = wx) (fun _ st _ => (intOf st).toNat)
    case atStart => exact ⟨T, 32 * k, rfl, by go_num, hg, by omega, by show _ = _; rw [HR.out], rfl⟩
    case round =>
      obtain ⟨t, m, rfl, rfl, ht, hm, hinv, rfl⟩ := hrel
      by_cases ht0 : t = 0
      · subst ht0
        have HF : Hid (m = bitsN A) := by have := hinv.out; show m = _; simpa [Lib.bitLen, Lib.bitLenAux] using this
        go_wp2
        go_ret
        exact ⟨by rw [HF.out]; rfl, B0⟩
      · have hp : (0 : Int) < (t : Int) := by omega
        have hq : IntKind.u32.wrap ((t : Int).tdiv 2) = ((t / 2 : Nat) : Int) := by rw [Int.tdiv_eq_ediv_of_nonneg (by omega)]; simp only [IntKind.wrap_u32]; omega
        have HS : Hid (m + 1 + Lib.bitLen (t / 2) = bitsN A) := by
          have := hinv.out
          rw [bitLen_half (by omega) ht] at this
          show _ = _
          omega
        have hmb : m + 1 ≤ 33000000000 := by
          have h1 := HS.out
          have h2 := HR.out
          have h3 := bitLen_le32 T hg
          omega
        have ht2 : t / 2 < 4294967296 := by omega
        clear hinv ht0
        go_wp2
        go_roundw
        case rel => exact ⟨t / 2, m + 1, by go_num, by go_num, by omega, hmb, HS, by first | rfl | trivial⟩
        case measure => simp [intOf]; omega
end Go.Proofs.YtndpjfhhigpbhaaGreat
