/- Valid of whatever words, of package rational and of its reference. (Printed by g_forms.py.) -/
import Derived.Test.YtndpjfhhigpbhaaInt
import Derived.Test.YtndpjfhhigpbhaaApi3
import Derived.Test.YtndpjfhhigpbhaaRef1
namespace Go.Proofs.Ytndpjfhhigpbhaa
open Go.RowKit W
theorem valid_isI {w : World} {s : Value} {l : List Nat} {n : Bool} (hs : Sl w s l) (h : validB n l = true) : IsI w (.agg #[.bool n, s]) (sgnI n (val l)) := by
  unfold validB at h
  by_cases h0 : l.length = 0
  · rw [if_pos h0] at h
    obtain rfl : l = [] := List.eq_nil_of_length_eq_zero h0
    have hn : n = false := by cases n <;> simp_all
    subst hn
    exact ⟨s, rfl, by rw [sgnI_abs, val_nil, digs_zero]; exact hs⟩
  · rw [if_neg h0] at h
    have hg : gd l (l.length - 1) ≠ 0 := of_decide_eq_true h
    have ht := trim_at (l := l) (j := l.length - 1) (by omega) hg
    rw [show l.length - 1 + 1 = l.length by omega, List.take_length] at ht
    have hd : digs (val l) = l := by rw [← trimW_eq hs.wd, ht]
    have hv : val l ≠ 0 := fun e => by rw [e, digs_zero] at hd; rw [← hd] at h0; exact h0 rfl
    exact ⟨s, by rw [sgnI_lt _ _ hv], by rw [sgnI_abs, hd]; exact hs⟩
theorem valid_fit {l : List Nat} {n : Bool} {k : Nat} (hw : Wd l) (hl : l.length ≤ k) : Fits (sgnI n (val l)) k := by
  unfold Fits; rw [sgnI_abs, ← trimW_eq hw]; exact Nat.le_trans (trimW_length_le l) hl
/-- Is it a rational number? -/
def vraw (n : Bool) (l : List Nat) (m : Bool) (j : List Nat) : Bool := validB n l && (validB m j && decide (vq (sgnI n (val l)) (sgnI m (val j))))
set_option maxRecDepth 100000 in
set_option maxHeartbeats 4000000 in
theorem Vaw_A (pn : Bool) (ps : Value) (pl : List Nat) (qn : Bool) (qs : Value)  (w : World)  (hps : Sl w ps pl) (hp : validB pn pl = false) :
    Calls Try.prog 10 #[.agg #[.bool pn, ps, .bool qn, qs]] w (RetB w false) := by
 have E := Env.start w
 go_enter Try.func10, Try.ntmps10
 refine wp_seq ?_
 -- region 0
 refine RL ?_
 refine EF rfl (Oper.wp_box (cs := [.bool pn, ps, .bool qn, qs]) rfl rfl ?_)
 intro b1 w1 e1 z1 d1 x1
 have l1 : w.heap.size ≤ b1 := by rw [e1]; exact (E.1).size
 replace E := E.below d1
 clear e1 z1 d1
 replace E := E.x x1
 clear x1
 refine kw rfl ?_
 refine AC rfl rfl rfl rfl <| ?_
 simp only [q2,q3]
 refine WN ?_
 change Code.wp _ _ _ _ _
 refine wp_seq ?_
 refine wp_seq ?_
 -- region 1
 refine RL ?_
 refine V rfl rfl (run_fieldR0 rfl rfl) <| V rfl rfl (run_loadAt rfl rfl (E.1) rfl rfl) <| ?_
 simp only [q2,q3]
 refine EF rfl (Oper.wp_callB fn_integer_Valid rfl (retB_is hp (Valid_any pn ps pl _ (Sl.below hps (E.2.1)))) rfl E ?_)
 clear E
 intro w2 d2 E
 clear d2
 refine kw rfl ?_
 refine V (v := .bool true) rfl rfl (run_not (b := false) rfl rfl) <| M rfl rfl rfl rfl rfl <| L0C (by kernel_rfl) rfl <| L0C (by kernel_rfl) rfl <| ?_
 simp only [q2,q3]
 refine L0C (by kernel_rfl) rfl <| L0C (by kernel_rfl) rfl <| V (v := .bool true) rfl rfl (run_pick (b := true) rfl rfl rfl) <| M rfl rfl rfl rfl rfl <| ?_
 simp only [q2,q3]
 refine L0C (by kernel_rfl) rfl <| L0C (by kernel_rfl) rfl <| L0C (by kernel_rfl) rfl <| L0C (by kernel_rfl) rfl <| ?_
 simp only [q2,q3]
 refine V (v := .bool true) rfl rfl (run_pick (b := true) rfl rfl rfl) <| ?_
 simp only [q2,q3]
 refine WN ?_
 change Code.wp _ _ _ _ _
 refine wp_cond_true rfl ?_
 refine wp_seq ?_
 -- region 2
 refine RL ?_
 refine AC rfl rfl rfl rfl <| ?_
 simp only [q2,q3]
 refine WN ?_
 change Code.wp _ _ _ _ _
 refine wp_ret ?_
 exact bodyPost_ret (v := .bool false) (by simp [results, Try.results10, asAddr]) rfl ⟨rfl, E.2.1⟩
set_option maxRecDepth 100000 in
set_option maxHeartbeats 4000000 in
theorem Vaw_B (pn : Bool) (ps : Value) (pl : List Nat) (qn : Bool) (qs : Value) (ql : List Nat)  (w : World)  (hps : Sl w ps pl) (hqs : Sl w qs ql) (hp : validB pn pl = true) (hq : validB qn ql = false) :
    Calls Try.prog 10 #[.agg #[.bool pn, ps, .bool qn, qs]] w (RetB w false) := by
 have E := Env.start w
 go_enter Try.func10, Try.ntmps10
 refine wp_seq ?_
 -- region 0
 refine RL ?_
 refine EF rfl (Oper.wp_box (cs := [.bool pn, ps, .bool qn, qs]) rfl rfl ?_)
 intro b1 w1 e1 z1 d1 x1
 have l1 : w.heap.size ≤ b1 := by rw [e1]; exact (E.1).size
 replace E := E.below d1
 clear e1 z1 d1
 replace E := E.x x1
 clear x1
 refine kw rfl ?_
 refine AC rfl rfl rfl rfl <| ?_
 simp only [q2,q3]
 refine WN ?_
 change Code.wp _ _ _ _ _
 refine wp_seq ?_
 refine wp_seq ?_
 -- region 1
 refine RL ?_
 refine V rfl rfl (run_fieldR0 rfl rfl) <| V rfl rfl (run_loadAt rfl rfl (E.1) rfl rfl) <| ?_
 simp only [q2,q3]
 refine EF rfl (Oper.wp_callB fn_integer_Valid rfl (retB_is hp (Valid_any pn ps pl _ (Sl.below hps (E.2.1)))) rfl E ?_)
 clear E
 intro w2 d2 E
 clear d2
 refine kw rfl ?_
 refine V (v := .bool false) rfl rfl (run_not (b := true) rfl rfl) <| M rfl rfl rfl rfl rfl <| V (by kernel_rfl) rfl (run_fieldR1 rfl rfl) <| V (by kernel_rfl) rfl (run_loadAt rfl rfl (E.1) rfl rfl) <| ?_
 simp only [q2,q3]
 refine EF rfl (Oper.wp_callB fn_integer_Valid rfl (retB_is hq (Valid_any qn qs ql _ (Sl.below hqs (E.2.1)))) rfl E ?_)
 clear E
 intro w3 d3 E
 clear d3
 refine kw rfl ?_
 refine V (v := .bool true) (by kernel_rfl) rfl (run_not (b := false) rfl rfl) <| V (v := .bool true) rfl rfl (run_pick (b := false) rfl rfl rfl) <| M rfl rfl rfl rfl rfl <| L0C (by kernel_rfl) rfl <| ?_
 simp only [q2,q3]
 refine L0C (by kernel_rfl) rfl <| L0C (by kernel_rfl) rfl <| L0C (by kernel_rfl) rfl <| V (v := .bool true) rfl rfl (run_pick (b := true) rfl rfl rfl) <| ?_
 simp only [q2,q3]
 refine WN ?_
 change Code.wp _ _ _ _ _
 refine wp_cond_true rfl ?_
 refine wp_seq ?_
 -- region 2
 refine RL ?_
 refine AC rfl rfl rfl rfl <| ?_
 simp only [q2,q3]
 refine WN ?_
 change Code.wp _ _ _ _ _
 refine wp_ret ?_
 exact bodyPost_ret (v := .bool false) (by simp [results, Try.results10, asAddr]) rfl ⟨rfl, E.2.1⟩
theorem Valid_raw (pn : Bool) (ps : Value) (pl : List Nat) (qn : Bool) (qs : Value) (ql : List Nat) (w : World) (hps : Sl w ps pl) (hqs : Sl w qs ql) (h1 : pl.length ≤ 20) (h2 : ql.length ≤ 20) :
    Calls Try.prog 10 #[.agg #[.bool pn, ps, .bool qn, qs]] w (RetB w (vraw pn pl qn ql)) := by
  unfold vraw
  cases hp : validB pn pl with
  | false => exact Vaw_A pn ps pl qn qs w hps hp
  | true =>
    cases hq : validB qn ql with
    | false => exact Vaw_B pn ps pl qn qs ql w hps hqs hp hq
    | true =>
      rw [Bool.true_and, Bool.true_and]
      exact Valid_pq pn ps qn qs _ _ w (valid_isI hps hp) (valid_isI hqs hq) ((valid_fit hps.wd h1).mono (by decide)) ((valid_fit hqs.wd h2).mono (by decide))
set_option maxRecDepth 100000 in
set_option maxHeartbeats 4000000 in
theorem RVaw_A (pn : Bool) (ps : Value) (pl : List Nat) (qn : Bool) (qs : Value)  (w : World)  (hps : Sl w ps pl) (hp : validB pn pl = false) :
    Calls Try.prog 11 #[.agg #[.bool pn, ps, .bool qn, qs]] w (RetB w false) := by
 have E := Env.start w
 go_enter Try.func11, Try.ntmps11
 refine wp_seq ?_
 -- region 0
 refine RL ?_
 refine EF rfl (Oper.wp_box (cs := [.bool pn, ps, .bool qn, qs]) rfl rfl ?_)
 intro b1 w1 e1 z1 d1 x1
 have l1 : w.heap.size ≤ b1 := by rw [e1]; exact (E.1).size
 replace E := E.below d1
 clear e1 z1 d1
 replace E := E.x x1
 clear x1
 refine kw rfl ?_
 refine AC rfl rfl rfl rfl <| ?_
 simp only [q2,q3]
 refine WN ?_
 change Code.wp _ _ _ _ _
 refine wp_seq ?_
 refine wp_seq ?_
 -- region 1
 refine RL ?_
 refine V rfl rfl (run_fieldR0 rfl rfl) <| V rfl rfl (run_loadAt rfl rfl (E.1) rfl rfl) <| ?_
 simp only [q2,q3]
 refine EF rfl (Oper.wp_callB fn_eref01_Valid rfl (retB_is hp (RValid_any pn ps pl _ (Sl.below hps (E.2.1)))) rfl E ?_)
 clear E
 intro w2 d2 E
 clear d2
 refine kw rfl ?_
 refine V (v := .bool true) rfl rfl (run_not (b := false) rfl rfl) <| M rfl rfl rfl rfl rfl <| L0C (by kernel_rfl) rfl <| L0C (by kernel_rfl) rfl <| ?_
 simp only [q2,q3]
 refine L0C (by kernel_rfl) rfl <| L0C (by kernel_rfl) rfl <| V (v := .bool true) rfl rfl (run_pick (b := true) rfl rfl rfl) <| M rfl rfl rfl rfl rfl <| ?_
 simp only [q2,q3]
 refine L0C (by kernel_rfl) rfl <| L0C (by kernel_rfl) rfl <| L0C (by kernel_rfl) rfl <| L0C (by kernel_rfl) rfl <| ?_
 simp only [q2,q3]
 refine V (v := .bool true) rfl rfl (run_pick (b := true) rfl rfl rfl) <| ?_
 simp only [q2,q3]
 refine WN ?_
 change Code.wp _ _ _ _ _
 refine wp_cond_true rfl ?_
 refine wp_seq ?_
 -- region 2
 refine RL ?_
 refine AC rfl rfl rfl rfl <| ?_
 simp only [q2,q3]
 refine WN ?_
 change Code.wp _ _ _ _ _
 refine wp_ret ?_
 exact bodyPost_ret (v := .bool false) (by simp [results, Try.results11, asAddr]) rfl ⟨rfl, E.2.1⟩
set_option maxRecDepth 100000 in
set_option maxHeartbeats 4000000 in
theorem RVaw_B (pn : Bool) (ps : Value) (pl : List Nat) (qn : Bool) (qs : Value) (ql : List Nat)  (w : World)  (hps : Sl w ps pl) (hqs : Sl w qs ql) (hp : validB pn pl = true) (hq : validB qn ql = false) :
    Calls Try.prog 11 #[.agg #[.bool pn, ps, .bool qn, qs]] w (RetB w false) := by
 have E := Env.start w
 go_enter Try.func11, Try.ntmps11
 refine wp_seq ?_
 -- region 0
 refine RL ?_
 refine EF rfl (Oper.wp_box (cs := [.bool pn, ps, .bool qn, qs]) rfl rfl ?_)
 intro b1 w1 e1 z1 d1 x1
 have l1 : w.heap.size ≤ b1 := by rw [e1]; exact (E.1).size
 replace E := E.below d1
 clear e1 z1 d1
 replace E := E.x x1
 clear x1
 refine kw rfl ?_
 refine AC rfl rfl rfl rfl <| ?_
 simp only [q2,q3]
 refine WN ?_
 change Code.wp _ _ _ _ _
 refine wp_seq ?_
 refine wp_seq ?_
 -- region 1
 refine RL ?_
 refine V rfl rfl (run_fieldR0 rfl rfl) <| V rfl rfl (run_loadAt rfl rfl (E.1) rfl rfl) <| ?_
 simp only [q2,q3]
 refine EF rfl (Oper.wp_callB fn_eref01_Valid rfl (retB_is hp (RValid_any pn ps pl _ (Sl.below hps (E.2.1)))) rfl E ?_)
 clear E
 intro w2 d2 E
 clear d2
 refine kw rfl ?_
 refine V (v := .bool false) rfl rfl (run_not (b := true) rfl rfl) <| M rfl rfl rfl rfl rfl <| V (by kernel_rfl) rfl (run_fieldR1 rfl rfl) <| V (by kernel_rfl) rfl (run_loadAt rfl rfl (E.1) rfl rfl) <| ?_
 simp only [q2,q3]
 refine EF rfl (Oper.wp_callB fn_eref01_Valid rfl (retB_is hq (RValid_any qn qs ql _ (Sl.below hqs (E.2.1)))) rfl E ?_)
 clear E
 intro w3 d3 E
 clear d3
 refine kw rfl ?_
 refine V (v := .bool true) (by kernel_rfl) rfl (run_not (b := false) rfl rfl) <| V (v := .bool true) rfl rfl (run_pick (b := false) rfl rfl rfl) <| M rfl rfl rfl rfl rfl <| L0C (by kernel_rfl) rfl <| ?_
 simp only [q2,q3]
 refine L0C (by kernel_rfl) rfl <| L0C (by kernel_rfl) rfl <| L0C (by kernel_rfl) rfl <| V (v := .bool true) rfl rfl (run_pick (b := true) rfl rfl rfl) <| ?_
 simp only [q2,q3]
 refine WN ?_
 change Code.wp _ _ _ _ _
 refine wp_cond_true rfl ?_
 refine wp_seq ?_
 -- region 2
 refine RL ?_
 refine AC rfl rfl rfl rfl <| ?_
 simp only [q2,q3]
 refine WN ?_
 change Code.wp _ _ _ _ _
 refine wp_ret ?_
 exact bodyPost_ret (v := .bool false) (by simp [results, Try.results11, asAddr]) rfl ⟨rfl, E.2.1⟩
theorem RValid_raw (pn : Bool) (ps : Value) (pl : List Nat) (qn : Bool) (qs : Value) (ql : List Nat) (w : World) (hps : Sl w ps pl) (hqs : Sl w qs ql) (h1 : pl.length ≤ 20) (h2 : ql.length ≤ 20) :
    Calls Try.prog 11 #[.agg #[.bool pn, ps, .bool qn, qs]] w (RetB w (vraw pn pl qn ql)) := by
  unfold vraw
  cases hp : validB pn pl with
  | false => exact RVaw_A pn ps pl qn qs w hps hp
  | true =>
    cases hq : validB qn ql with
    | false => exact RVaw_B pn ps pl qn qs ql w hps hqs hp hq
    | true =>
      rw [Bool.true_and, Bool.true_and]
      exact RValid_pq pn ps qn qs _ _ w (valid_isI hps hp) (valid_isI hqs hq) ((valid_fit hps.wd h1).mono (by decide)) ((valid_fit hqs.wd h2).mono (by decide))
end Go.Proofs.Ytndpjfhhigpbhaa
