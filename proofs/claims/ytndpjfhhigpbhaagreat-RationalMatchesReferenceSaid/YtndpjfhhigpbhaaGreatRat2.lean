/- Package rational: Valid, Text, Bits, Parse. (Printed by g_rat2.py.) Parse, of package rational and of its reference. (Printed by g_rat4.py.) -/
import Derived.Test.YtndpjfhhigpbhaaGreatSameQ
import Derived.Test.YtndpjfhhigpbhaaGreatTxtQ
import Derived.Test.YtndpjfhhigpbhaaGreatText
import Derived.Test.YtndpjfhhigpbhaaGreatLawB
import Derived.Test.YtndpjfhhigpbhaaGreatShelf
import Derived.Test.YtndpjfhhigpbhaaGreatKitC
import Derived.Test.YtndpjfhhigpbhaaGreatRefT
namespace Go.Proofs.YtndpjfhhigpbhaaGreat
open Go.RowKit W
theorem sgn_le0 {z : Int} (h : z ≤ 0) : decide (sgn z ≤ 0) = true := by
  rcases sgn_vals z with ⟨_, e⟩ | ⟨_, e⟩ | ⟨g, _⟩
  · rw [e]; rfl
  · rw [e]; rfl
  · omega
theorem sgn_nle0 {z : Int} (h : 0 < z) : decide (sgn z ≤ 0) = false := by rw [sgnQ_pos h]; rfl
theorem sgn_lt1 {z : Int} (h : z ≤ 0) : decide (sgn z < 1) = true := by
  rcases sgn_vals z with ⟨_, e⟩ | ⟨_, e⟩ | ⟨g, _⟩
  · rw [e]; rfl
  · rw [e]; rfl
  · omega
theorem sgn_nlt1 {z : Int} (h : 0 < z) : decide (sgn z < 1) = false := by rw [sgnQ_pos h]; rfl
instance (n d : Int) : Decidable (vq n d) := by unfold vq; infer_instance
theorem vq_no {p q : Int} (h : q ≤ 0) : false = decide (vq p q) := by rw [eq_comm, decide_eq_false_iff_not]; intro g; have := g.1; omega
theorem vq_one {p q : Int} (h : q = 1) : true = decide (vq p q) := by subst h; rw [eq_comm, decide_eq_true_eq]; exact vq_whole p
theorem vq_gcd {p q : Int} (h : 0 < q) : decide (((Nat.gcd p.natAbs q.natAbs : Nat) : Int) = 1) = decide (vq p q) := by
  rw [decide_eq_decide]
  exact ⟨fun e => ⟨h, by omega⟩, fun e => by have := e.2; omega⟩
theorem vq_gcd2 {p q : Int} (h : 0 < q) : (cmpI ((Nat.gcd p.natAbs q.natAbs : Nat) : Int) 1 == 0) = decide (vq p q) := by
  rw [← vq_gcd h]
  unfold cmpI
  split
  · rename_i g; rw [decide_eq_false (by omega)]; rfl
  · split
    · rename_i g; rw [decide_eq_true g]; rfl
    · rename_i g; rw [decide_eq_false g]; rfl
set_option maxRecDepth 100000 in
set_option maxHeartbeats 8000000 in
theorem Valid_pq  (na : Bool) (sa : Value) (ma : Bool) (ta : Value) (p q : Int)  (w : World)  (hna : IsI w (.agg #[.bool na, sa]) p) (hda : IsI w (.agg #[.bool ma, ta]) q) (Fp : Fits p 900000000) (Fq : Fits q 900000000) :
    Calls Tryz.prog 70 #[.agg #[.bool na, sa, .bool ma, ta]] w (RetB w (decide (vq p q))) := by
 have E := Env.start w
 replace E := (E.i hna).i hda
 clear hna hda
 go_enter Tryz.func70, Tryz.ntmps70
 refine wp_seq ?_
 -- region 0
 refine RL ?_
 refine EF rfl (Oper.wp_box (cs := [.bool na, sa, .bool ma, ta]) rfl rfl ?_)
 intro b1 w1 e1 z1 d1 x1
 have l1 : w.heap.size ≤ b1 := by rw [e1]; exact (E.2.2.1).size
 replace E := E.below d1
 clear e1 z1 d1
 replace E := E.x x1
 clear x1
 refine kw rfl ?_
 refine AC rfl rfl rfl rfl <| ?_
 simp only [q2,q3]
 refine WN ?_
 change Code.wp _ _ _ _ _
 refine wp_seq ?_
 refine wp_seq ?_
 by_cases h1 : q ≤ 0
 case pos =>
  -- region 1
  refine RL ?_
  refine V rfl rfl (run_fieldR0 rfl rfl) <| V rfl rfl (run_loadAt rfl rfl (E.1) rfl rfl) <| ?_
  simp only [q2,q3]
  refine EF rfl (Oper.wp_callB fn_integer_Valid rfl (Valid_z _ p _ (E.2.2.1)) rfl E ?_)
  clear E
  intro w2 d2 E
  clear d2
  refine kw rfl ?_
  refine V (v := .bool false) rfl rfl (run_not (b := true) rfl rfl) <| M rfl rfl rfl rfl rfl <| V (by kernel_rfl) rfl (run_fieldR1 rfl rfl) <| V (by kernel_rfl) rfl (run_loadAt rfl rfl (E.1) rfl rfl) <| ?_
  simp only [q2,q3]
  refine EF rfl (Oper.wp_callB fn_integer_Valid rfl (Valid_z _ q _ (E.2.1)) rfl E ?_)
  clear E
  intro w3 d3 E
  clear d3
  refine kw rfl ?_
  refine V (v := .bool false) (by kernel_rfl) rfl (run_not (b := true) rfl rfl) <| V (v := .bool false) rfl rfl (run_pick (b := false) rfl rfl rfl) <| M rfl rfl rfl rfl rfl <| V (by kernel_rfl) rfl (run_fieldR1 rfl rfl) <| ?_
  simp only [q2,q3]
  refine V (by kernel_rfl) rfl (run_loadAt rfl rfl (E.1) rfl rfl) <| ?_
  simp only [q2,q3]
  refine EF rfl (Oper.wp_callN fn_integer_Sign rfl (Sign_z _ q _ (E.2.1)) rfl E ?_)
  clear E
  intro w4 d4 E
  clear d4
  refine kw rfl ?_
  refine V (by kernel_rfl) rfl (run_leI (c := true) rfl rfl rfl (sgn_le0 h1)) <| V (v := .bool true) rfl rfl (run_pick (b := false) rfl rfl rfl) <| ?_
  simp only [q2,q3]
  refine WN ?_
  change Code.wp _ _ _ _ _
  refine wp_cond_true rfl ?_
  refine wp_seq ?_
  -- region 2
  refine RL ?_
  refine AC rfl rfl rfl rfl <| ?_
  simp only [q2,q3]
  refine WN ?_
  change Code.wp _ _ _ _ _
  refine wp_ret ?_
  exact bodyPost_ret (v := .bool false) (by simp [results, Tryz.results70, asAddr]) rfl ⟨ret_bool (vq_no h1), e3 E⟩
 case neg =>
  replace h1 : 0 < q := by omega
  -- region 1
  refine RL ?_
  refine V rfl rfl (run_fieldR0 rfl rfl) <| V rfl rfl (run_loadAt rfl rfl (E.1) rfl rfl) <| ?_
  simp only [q2,q3]
  refine EF rfl (Oper.wp_callB fn_integer_Valid rfl (Valid_z _ p _ (E.2.2.1)) rfl E ?_)
  clear E
  intro w5 d5 E
  clear d5
  refine kw rfl ?_
  refine V (v := .bool false) rfl rfl (run_not (b := true) rfl rfl) <| M rfl rfl rfl rfl rfl <| V (by kernel_rfl) rfl (run_fieldR1 rfl rfl) <| V (by kernel_rfl) rfl (run_loadAt rfl rfl (E.1) rfl rfl) <| ?_
  simp only [q2,q3]
  refine EF rfl (Oper.wp_callB fn_integer_Valid rfl (Valid_z _ q _ (E.2.1)) rfl E ?_)
  clear E
  intro w6 d6 E
  clear d6
  refine kw rfl ?_
  refine V (v := .bool false) (by kernel_rfl) rfl (run_not (b := true) rfl rfl) <| V (v := .bool false) rfl rfl (run_pick (b := false) rfl rfl rfl) <| M rfl rfl rfl rfl rfl <| V (by kernel_rfl) rfl (run_fieldR1 rfl rfl) <| ?_
  simp only [q2,q3]
  refine V (by kernel_rfl) rfl (run_loadAt rfl rfl (E.1) rfl rfl) <| ?_
  simp only [q2,q3]
  refine EF rfl (Oper.wp_callN fn_integer_Sign rfl (Sign_z _ q _ (E.2.1)) rfl E ?_)
  clear E
  intro w7 d7 E
  clear d7
  refine kw rfl ?_
  refine V (by kernel_rfl) rfl (run_leI (c := false) rfl rfl rfl (sgn_nle0 h1)) <| V (v := .bool false) rfl rfl (run_pick (b := false) rfl rfl rfl) <| ?_
  simp only [q2,q3]
  refine WN ?_
  change Code.wp _ _ _ _ _
  refine wp_cond_false rfl ?_
  refine wp_skip ?_
  change Code.wp _ _ _ _ _
  refine wp_seq ?_
  by_cases h2 : q = 1
  case pos =>
   -- region 3
   refine RL ?_
   refine V rfl rfl (run_fieldR1 rfl rfl) <| V rfl rfl (run_loadAt rfl rfl (E.1) rfl rfl) <| ?_
   simp only [q2,q3]
   refine EF rfl (Oper.wp_callB fn_rational_isOne rfl (retB_is (decide_eq_true h2) (isOne_z _ q _ (E.2.1))) rfl E ?_)
   clear E
   intro w8 d8 E
   clear d8
   refine kw rfl ?_
   refine M rfl rfl rfl rfl rfl <| L0C (by kernel_rfl) rfl <| L0C (by kernel_rfl) rfl <| L0C (by kernel_rfl) rfl <| ?_
   simp only [q2,q3]
   refine L0C (by kernel_rfl) rfl <| L0C (by kernel_rfl) rfl <| L0C (by kernel_rfl) rfl <| V (v := .bool true) rfl rfl (run_pick (b := true) rfl rfl rfl) <| ?_
   simp only [q2,q3]
   refine A rfl rfl rfl rfl rfl <| ?_
   simp only [q2,q3]
   refine WN ?_
   change Code.wp _ _ _ _ _
   refine wp_ret ?_
   exact bodyPost_ret (v := .bool true) (by simp [results, Tryz.results70, asAddr]) rfl ⟨ret_bool (vq_one h2), e3 E⟩
  case neg =>
   -- region 3
   refine RL ?_
   refine V rfl rfl (run_fieldR1 rfl rfl) <| V rfl rfl (run_loadAt rfl rfl (E.1) rfl rfl) <| ?_
   simp only [q2,q3]
   refine EF rfl (Oper.wp_callB fn_rational_isOne rfl (retB_is (decide_eq_false h2) (isOne_z _ q _ (E.2.1))) rfl E ?_)
   clear E
   intro w9 d9 E
   clear d9
   refine kw rfl ?_
   refine M rfl rfl rfl rfl rfl <| V (by kernel_rfl) rfl (run_fieldR0 rfl rfl) <| V (by kernel_rfl) rfl (run_loadAt rfl rfl (E.1) rfl rfl) <| V (by kernel_rfl) rfl (run_fieldR1 rfl rfl) <| ?_
   simp only [q2,q3]
   refine V (by kernel_rfl) rfl (run_loadAt rfl rfl (E.1) rfl rfl) <| ?_
   simp only [q2,q3]
   refine EF rfl (Oper.wp_callI fn_integer_Gcd rfl (Gcd_z _ _ p q _ (E.2.2.1) (E.2.1) (Fits.mono Fp (by decide)) (Fits.mono Fq (by decide))) rfl E ?_)
   clear E
   intro w11 n11 s11 d11 E
   clear d11
   refine kw rfl ?_
   have F10 : Fits ((Nat.gcd p.natAbs q.natAbs : Nat) : Int) 900000000 := Fits_gcd (by omega) Fq
   simp only [q2,q3]
   refine EF rfl (Oper.wp_callB fn_rational_isOne rfl (isOne_z _ ((Nat.gcd p.natAbs q.natAbs : Nat) : Int) _ (E.1)) rfl E ?_)
   clear E
   intro w12 d12 E
   clear d12
   refine kw rfl ?_
   refine V (v := .bool (decide (((Nat.gcd p.natAbs q.natAbs : Nat) : Int) = 1))) rfl rfl (run_pick (b := false) rfl rfl rfl) <| A rfl rfl rfl rfl rfl <| ?_
   simp only [q2,q3]
   refine WN ?_
   change Code.wp _ _ _ _ _
   refine wp_ret ?_
   exact bodyPost_ret (v := .bool (decide (((Nat.gcd p.natAbs q.natAbs : Nat) : Int) = 1))) (by simp [results, Tryz.results70, asAddr]) rfl ⟨ret_bool (vq_gcd h1), e4 E⟩
theorem txtQ_one {x : Rat} (h : ((x.den : Nat) : Int) = 1) : Ending.returned (.string (txtS x.num)) = .returned (.string (txtQ x)) := by unfold txtQ; rw [if_pos h]
theorem txtQ_two {x : Rat} (h : ¬ ((x.den : Nat) : Int) = 1) : Ending.returned (.string (txtS x.num ++ ⟨#[47]⟩ ++ txtS ((x.den : Nat) : Int))) = .returned (.string (txtQ x)) := by unfold txtQ; rw [if_neg h]
theorem slash1 {z : Int} (h : Fits z 1000000) : (txtS z).size + (⟨#[47]⟩ : ByteArray).size ≤ 9223372036854775807 := by
  have := txtS_le h (by decide); have : (⟨#[47]⟩ : ByteArray).size = 1 := rfl; omega
theorem slash2 {z y : Int} (h : Fits z 1000000) (g : Fits y 1000000) : (txtS z ++ ⟨#[47]⟩).size + (txtS y).size ≤ 9223372036854775807 := by
  have := txtS_le h (by decide); have := txtS_le g (by decide); have : (⟨#[47]⟩ : ByteArray).size = 1 := rfl
  rw [ByteArray.size_append]; omega
set_option maxRecDepth 100000 in
set_option maxHeartbeats 8000000 in
theorem Text_q  (na : Bool) (sa : Value) (ma : Bool) (ta : Value) (x : Rat)  (w : World)  (hna : IsI w (.agg #[.bool na, sa]) x.num) (hda : IsI w (.agg #[.bool ma, ta]) ((x.den : Nat) : Int)) (Fx : FitQ x 1000000) :
    Calls Tryz.prog 33 #[.agg #[.bool na, sa, .bool ma, ta]] w (RetX w (txtQ x)) := by
 have E := Env.start w
 replace E := (E.i hna).i hda
 clear hna hda
 go_enter Tryz.func33, Tryz.ntmps33
 refine wp_seq ?_
 -- region 0
 refine RL ?_
 refine EF rfl (Oper.wp_box (cs := [.bool na, sa, .bool ma, ta]) rfl rfl ?_)
 intro b1 w1 e1 z1 d1 x1
 have l1 : w.heap.size ≤ b1 := by rw [e1]; exact (E.2.2.1).size
 replace E := E.below d1
 clear e1 z1 d1
 replace E := E.x x1
 clear x1
 refine kw rfl ?_
 refine AC rfl rfl rfl rfl <| ?_
 simp only [q2,q3]
 refine WN ?_
 change Code.wp _ _ _ _ _
 refine wp_seq ?_
 refine wp_seq ?_
 by_cases h1 : ((x.den : Nat) : Int) = 1
 case pos =>
  -- region 1
  refine RL ?_
  refine V rfl rfl (run_fieldR1 rfl rfl) <| V rfl rfl (run_loadAt rfl rfl (E.1) rfl rfl) <| ?_
  simp only [q2,q3]
  refine EF rfl (Oper.wp_callB fn_rational_isOne rfl (retB_is (decide_eq_true h1) (isOne_z _ ((x.den : Nat) : Int) _ (E.2.1))) rfl E ?_)
  clear E
  intro w2 d2 E
  clear d2
  refine kw rfl ?_
  simp only [q2,q3]
  refine WN ?_
  change Code.wp _ _ _ _ _
  refine wp_cond_true rfl ?_
  refine wp_seq ?_
  -- region 2
  refine RL ?_
  refine V rfl rfl (run_fieldR0 rfl rfl) <| V rfl rfl (run_loadAt rfl rfl (E.1) rfl rfl) <| ?_
  simp only [q2,q3]
  refine EF rfl (Oper.wp_callT fn_integer_Text rfl (Text_z _ x.num _ (E.2.2.1) (Fits.mono Fx.1 (by decide))) rfl E ?_)
  clear E
  intro w3 d3 E
  clear d3
  refine kw rfl ?_
  refine A rfl rfl rfl rfl rfl <| ?_
  simp only [q2,q3]
  refine WN ?_
  change Code.wp _ _ _ _ _
  refine wp_ret ?_
  exact bodyPost_ret (v := .string (txtS x.num)) (by simp [results, Tryz.results33, asAddr]) rfl ⟨txtQ_one h1, e3 E⟩
 case neg =>
  -- region 1
  refine RL ?_
  refine V rfl rfl (run_fieldR1 rfl rfl) <| V rfl rfl (run_loadAt rfl rfl (E.1) rfl rfl) <| ?_
  simp only [q2,q3]
  refine EF rfl (Oper.wp_callB fn_rational_isOne rfl (retB_is (decide_eq_false h1) (isOne_z _ ((x.den : Nat) : Int) _ (E.2.1))) rfl E ?_)
  clear E
  intro w4 d4 E
  clear d4
  refine kw rfl ?_
  simp only [q2,q3]
  refine WN ?_
  change Code.wp _ _ _ _ _
  refine wp_cond_false rfl ?_
  refine wp_skip ?_
  change Code.wp _ _ _ _ _
  refine wp_seq ?_
  -- region 3
  refine wp_schedE E ([0, 1, 4, 5, 2, 3, 6, 7, 8]) (by kernel_rfl) (by kernel_rfl) (by kernel_rfl) (by kernel_rfl) (by intro d v c a w h; cases d <;> exact h) ?_
  replace E := E.drew
  refine SW rfl rfl rfl rfl rfl (fun w hS => run_fieldR0 rfl rfl) <| SW rfl rfl rfl rfl rfl (fun w hS => run_loadAt rfl rfl (hS.1) rfl rfl) <| SW rfl rfl rfl rfl rfl (fun w hS => run_fieldR1 rfl rfl) <| SW rfl rfl rfl rfl rfl (fun w hS => run_loadAt rfl rfl (hS.1) rfl rfl) <| ?_
  simp only [q2,q3]
  refine S1a (o := ⟨some 11, _, _, _, _, _⟩) rfl rfl rfl rfl (Oper.wp_callT fn_integer_Text rfl (Text_z _ x.num _ (E.2.2.1) (Fits.mono Fx.1 (by decide))) rfl E ?_)
  clear E
  intro w5 d5 E
  clear d5
  refine ⟨E, ?_⟩
  simp only [Act.put,q1,q2,q3]
  refine SW (v := .string (txtS x.num ++ ⟨#[47]⟩)) rfl rfl rfl rfl rfl (fun w hS => run_cat rfl rfl rfl (slash1 Fx.1)) <| ?_
  simp only [q2,q3]
  refine S1a (o := ⟨some 15, _, _, _, _, _⟩) rfl rfl rfl rfl (Oper.wp_callT fn_integer_Text rfl (Text_z _ ((x.den : Nat) : Int) _ (E.2.1) (Fits.mono Fx.2 (by decide))) rfl E ?_)
  clear E
  intro w6 d6 E
  clear d6
  refine ⟨E, ?_⟩
  simp only [Act.put,q1,q2,q3]
  refine SW (v := .string (txtS x.num ++ ⟨#[47]⟩ ++ txtS ((x.den : Nat) : Int))) rfl rfl rfl rfl rfl (fun w hS => run_cat rfl rfl rfl (slash2 Fx.1 Fx.2)) <| SA rfl rfl rfl rfl rfl rfl rfl rfl <| ?_
  simp only [q2,q3]
  refine SN ?_
  change Code.wp _ _ _ _ _
  refine wp_ret ?_
  exact bodyPost_ret (v := .string (txtS x.num ++ ⟨#[47]⟩ ++ txtS ((x.den : Nat) : Int))) (by simp [results, Tryz.results33, asAddr]) rfl ⟨txtQ_two h1, e3 E⟩
theorem cmpI_ne0 {x : Int} (h : ¬ x = 1) : (cmpI x 1 == 0) = false := by
  unfold cmpI; (repeat' split) <;> first | rfl | exact absurd (by assumption) h
set_option maxRecDepth 100000 in
set_option maxHeartbeats 8000000 in
theorem RText_q  (na : Bool) (sa : Value) (ma : Bool) (ta : Value) (x : Rat)  (w : World)  (hna : IsI w (.agg #[.bool na, sa]) x.num) (hda : IsI w (.agg #[.bool ma, ta]) ((x.den : Nat) : Int)) (Fx : FitQ x 1000000) :
    Calls Tryz.prog 34 #[.agg #[.bool na, sa, .bool ma, ta]] w (RetX w (txtQ x)) := by
 have E := Env.start w
 replace E := (E.i hna).i hda
 clear hna hda
 go_enter Tryz.func34, Tryz.ntmps34
 refine wp_seq ?_
 -- region 0
 refine RL ?_
 refine EF rfl (Oper.wp_box (cs := [.bool na, sa, .bool ma, ta]) rfl rfl ?_)
 intro b1 w1 e1 z1 d1 x1
 have l1 : w.heap.size ≤ b1 := by rw [e1]; exact (E.2.2.1).size
 replace E := E.below d1
 clear e1 z1 d1
 replace E := E.x x1
 clear x1
 refine kw rfl ?_
 refine AC rfl rfl rfl rfl <| ?_
 simp only [q2,q3]
 refine WN ?_
 change Code.wp _ _ _ _ _
 refine wp_seq ?_
 refine wp_seq ?_
 by_cases h1 : ((x.den : Nat) : Int) = 1
 case pos =>
  -- region 1
  refine wp_schedE E ([0, 1, 2, 3, 4]) (by kernel_rfl) (by kernel_rfl) (by kernel_rfl) (by kernel_rfl) (by intro d v c a w h; cases d <;> exact h) ?_
  replace E := E.drew
  refine SW rfl rfl rfl rfl rfl (fun w hS => run_fieldR1 rfl rfl) <| SW rfl rfl rfl rfl rfl (fun w hS => run_loadAt rfl rfl (hS.1) rfl rfl) <| ?_
  simp only [q2,q3]
  refine S1a (o := ⟨some 5, _, _, _, _, _⟩) rfl rfl rfl rfl (Oper.wp_callI fn_eref01_Of rfl (ROf_z 1 _ (by decide) (by decide)) rfl E ?_)
  clear E
  intro w2 n2 s2 d2 E
  clear d2
  refine ⟨E.2, ?_⟩
  simp only [Act.put,q1,q2,q3]
  refine S1a (o := ⟨some 6, _, _, _, _, _⟩) rfl rfl rfl rfl (Oper.wp_callN fn_eref01_Cmp rfl (RCmp_z _ ((x.den : Nat) : Int) _ 1 _ (E.2.2.1) (E.1)) rfl E ?_)
  clear E
  intro w3 d3 E
  clear d3
  refine ⟨E.2, ?_⟩
  simp only [Act.put,q1,q2,q3]
  refine SW rfl rfl rfl rfl rfl (fun w hS => run_eqI (c := true) rfl rfl rfl (by rw [cmpI_eq h1]; rfl)) <| ?_
  simp only [q2,q3]
  refine SN ?_
  change Code.wp _ _ _ _ _
  refine wp_cond_true rfl ?_
  refine wp_seq ?_
  -- region 2
  refine RL ?_
  refine V rfl rfl (run_fieldR0 rfl rfl) <| V rfl rfl (run_loadAt rfl rfl (E.2.1) rfl rfl) <| ?_
  simp only [q2,q3]
  refine EF rfl (Oper.wp_callT fn_eref01_Text rfl (RText_z _ x.num _ (e3 E) (Fits.mono Fx.1 (by decide))) rfl E ?_)
  clear E
  intro w4 d4 E
  clear d4
  refine kw rfl ?_
  refine A rfl rfl rfl rfl rfl <| ?_
  simp only [q2,q3]
  refine WN ?_
  change Code.wp _ _ _ _ _
  refine wp_ret ?_
  exact bodyPost_ret (v := .string (txtS x.num)) (by simp [results, Tryz.results34, asAddr]) rfl ⟨txtQ_one h1, e4 E⟩
 case neg =>
  -- region 1
  refine wp_schedE E ([0, 1, 2, 3, 4]) (by kernel_rfl) (by kernel_rfl) (by kernel_rfl) (by kernel_rfl) (by intro d v c a w h; cases d <;> exact h) ?_
  replace E := E.drew
  refine SW rfl rfl rfl rfl rfl (fun w hS => run_fieldR1 rfl rfl) <| SW rfl rfl rfl rfl rfl (fun w hS => run_loadAt rfl rfl (hS.1) rfl rfl) <| ?_
  simp only [q2,q3]
  refine S1a (o := ⟨some 5, _, _, _, _, _⟩) rfl rfl rfl rfl (Oper.wp_callI fn_eref01_Of rfl (ROf_z 1 _ (by decide) (by decide)) rfl E ?_)
  clear E
  intro w5 n5 s5 d5 E
  clear d5
  refine ⟨E.2, ?_⟩
  simp only [Act.put,q1,q2,q3]
  refine S1a (o := ⟨some 6, _, _, _, _, _⟩) rfl rfl rfl rfl (Oper.wp_callN fn_eref01_Cmp rfl (RCmp_z _ ((x.den : Nat) : Int) _ 1 _ (E.2.2.1) (E.1)) rfl E ?_)
  clear E
  intro w6 d6 E
  clear d6
  refine ⟨E.2, ?_⟩
  simp only [Act.put,q1,q2,q3]
  refine SW rfl rfl rfl rfl rfl (fun w hS => run_eqI (c := false) rfl rfl rfl (cmpI_ne0 h1)) <| ?_
  simp only [q2,q3]
  refine SN ?_
  change Code.wp _ _ _ _ _
  refine wp_cond_false rfl ?_
  refine wp_skip ?_
  change Code.wp _ _ _ _ _
  refine wp_seq ?_
  -- region 3
  refine wp_schedE E ([0, 1, 4, 5, 2, 3, 6, 7, 8]) (by kernel_rfl) (by kernel_rfl) (by kernel_rfl) (by kernel_rfl) (by intro d v c a w h; cases d <;> exact h) ?_
  replace E := E.drew
  refine SW rfl rfl rfl rfl rfl (fun w hS => run_fieldR0 rfl rfl) <| SW rfl rfl rfl rfl rfl (fun w hS => run_loadAt rfl rfl (hS.2.1) rfl rfl) <| SW rfl rfl rfl rfl rfl (fun w hS => run_fieldR1 rfl rfl) <| SW rfl rfl rfl rfl rfl (fun w hS => run_loadAt rfl rfl (hS.2.1) rfl rfl) <| ?_
  simp only [q2,q3]
  refine S1a (o := ⟨some 13, _, _, _, _, _⟩) rfl rfl rfl rfl (Oper.wp_callT fn_eref01_Text rfl (RText_z _ x.num _ (e3 E) (Fits.mono Fx.1 (by decide))) rfl E ?_)
  clear E
  intro w7 d7 E
  clear d7
  refine ⟨E, ?_⟩
  simp only [Act.put,q1,q2,q3]
  refine SW (v := .string (txtS x.num ++ ⟨#[47]⟩)) rfl rfl rfl rfl rfl (fun w hS => run_cat rfl rfl rfl (slash1 Fx.1)) <| ?_
  simp only [q2,q3]
  refine S1a (o := ⟨some 17, _, _, _, _, _⟩) rfl rfl rfl rfl (Oper.wp_callT fn_eref01_Text rfl (RText_z _ ((x.den : Nat) : Int) _ (E.2.2.1) (Fits.mono Fx.2 (by decide))) rfl E ?_)
  clear E
  intro w8 d8 E
  clear d8
  refine ⟨E, ?_⟩
  simp only [Act.put,q1,q2,q3]
  refine SW (v := .string (txtS x.num ++ ⟨#[47]⟩ ++ txtS ((x.den : Nat) : Int))) rfl rfl rfl rfl rfl (fun w hS => run_cat rfl rfl rfl (slash2 Fx.1 Fx.2)) <| SA rfl rfl rfl rfl rfl rfl rfl rfl <| ?_
  simp only [q2,q3]
  refine SN ?_
  change Code.wp _ _ _ _ _
  refine wp_ret ?_
  exact bodyPost_ret (v := .string (txtS x.num ++ ⟨#[47]⟩ ++ txtS ((x.den : Nat) : Int))) (by simp [results, Tryz.results34, asAddr]) rfl ⟨txtQ_two h1, e4 E⟩
theorem bits_le {z : Int} {k : Nat} (h : Fits z k) : bitsN z.natAbs ≤ 32 * k := by
  rcases Nat.eq_zero_or_pos z.natAbs with e | e
  · rw [e, bitsN_zero]; omega
  · have := (bitsN_bounds _ e).2.2.2; have : (digs z.natAbs).length ≤ k := h; omega
theorem bits_wrap {x y : Int} (h : Fits x 1000000) (g : Fits y 1000000) : IntKind.i64.wrap (((bitsN x.natAbs : Nat) : Int) + ((bitsN y.natAbs : Nat) : Int)) = ((bitsN x.natAbs : Nat) : Int) + ((bitsN y.natAbs : Nat) : Int) := by
  have := bits_le h; have := bits_le g
  exact wrap_i (by omega)
set_option maxRecDepth 100000 in
set_option maxHeartbeats 8000000 in
theorem Bits_q  (na : Bool) (sa : Value) (ma : Bool) (ta : Value) (x : Rat)  (w : World)  (hna : IsI w (.agg #[.bool na, sa]) x.num) (hda : IsI w (.agg #[.bool ma, ta]) ((x.den : Nat) : Int)) (Fx : FitQ x 1000000) :
    Calls Tryz.prog 31 #[.agg #[.bool na, sa, .bool ma, ta]] w (RetN w (((bitsN x.num.natAbs : Nat) : Int) + ((bitsN ((x.den : Nat) : Int).natAbs : Nat) : Int))) := by
 have E := Env.start w
 replace E := (E.i hna).i hda
 clear hna hda
 go_enter Tryz.func31, Tryz.ntmps31
 refine wp_seq ?_
 -- region 0
 refine RL ?_
 refine EF rfl (Oper.wp_box (cs := [.bool na, sa, .bool ma, ta]) rfl rfl ?_)
 intro b1 w1 e1 z1 d1 x1
 have l1 : w.heap.size ≤ b1 := by rw [e1]; exact (E.2.2.1).size
 replace E := E.below d1
 clear e1 z1 d1
 replace E := E.x x1
 clear x1
 refine kw rfl ?_
 refine AC rfl rfl rfl rfl <| ?_
 simp only [q2,q3]
 refine WN ?_
 change Code.wp _ _ _ _ _
 refine wp_seq ?_
 -- region 1
 refine wp_schedE E ([0, 1, 3, 4, 2, 5, 6, 7]) (by kernel_rfl) (by kernel_rfl) (by kernel_rfl) (by kernel_rfl) (by intro d v c a w h; cases d <;> exact h) ?_
 replace E := E.drew
 refine SW rfl rfl rfl rfl rfl (fun w hS => run_fieldR0 rfl rfl) <| SW rfl rfl rfl rfl rfl (fun w hS => run_loadAt rfl rfl (hS.1) rfl rfl) <| SW rfl rfl rfl rfl rfl (fun w hS => run_fieldR1 rfl rfl) <| SW rfl rfl rfl rfl rfl (fun w hS => run_loadAt rfl rfl (hS.1) rfl rfl) <| ?_
 simp only [q2,q3]
 refine S1a (o := ⟨some 5, _, _, _, _, _⟩) rfl rfl rfl rfl (Oper.wp_callN fn_integer_Bits rfl (Bits_z _ x.num _ (E.2.2.1) (Fits.mono Fx.1 (by decide))) rfl E ?_)
 clear E
 intro w2 d2 E
 clear d2
 refine ⟨E, ?_⟩
 simp only [Act.put,q1,q2,q3]
 refine S1a (o := ⟨some 8, _, _, _, _, _⟩) rfl rfl rfl rfl (Oper.wp_callN fn_integer_Bits rfl (Bits_z _ ((x.den : Nat) : Int) _ (E.2.1) (Fits.mono Fx.2 (by decide))) rfl E ?_)
 clear E
 intro w3 d3 E
 clear d3
 refine ⟨E, ?_⟩
 simp only [Act.put,q1,q2,q3]
 refine SW (v := .int .i64 (((bitsN x.num.natAbs : Nat) : Int) + ((bitsN ((x.den : Nat) : Int).natAbs : Nat) : Int))) rfl rfl rfl rfl rfl (fun w hS => run_addI rfl rfl rfl (bits_wrap Fx.1 Fx.2)) <| SA rfl rfl rfl rfl rfl rfl rfl rfl <| ?_
 simp only [q2,q3]
 refine SN ?_
 change Code.wp _ _ _ _ _
 refine wp_ret ?_
 exact bodyPost_ret (v := .int .i64 (((bitsN x.num.natAbs : Nat) : Int) + ((bitsN ((x.den : Nat) : Int).natAbs : Nat) : Int))) (by simp [results, Tryz.results31, asAddr]) rfl ⟨rfl, e3 E⟩
open Go.RowKit Go.Lib in
set_option maxHeartbeats 2000000 in
set_option maxRecDepth 100000 in
/-- strings.Cut at one byte. -/
theorem Cut_miss (s : ByteArray) (c : UInt8) (w : World) (h : Lib.indexByte s.data.toList c = -1) :
    Calls Tryz.prog 91 #[.string s, .string ⟨#[c]⟩] w fun e w' => e = .returned (.tuple #[.string s, .string ⟨#[]⟩, .bool false]) ∧ ∃ n, w' = w.drewN n := by
  go_enter Tryz.func91, Tryz.ntmps91
  go_wp2_with fail
  refine (Tryz.stringslite_Index_one s c _).mono ?_
  rintro e w' ⟨rfl, rfl⟩
  rw [h]
  go_wp2
  go_ret3
  exact ⟨rfl, 0, rfl⟩
end Go.Proofs.YtndpjfhhigpbhaaGreat
namespace Go.Proofs.YtndpjfhhigpbhaaGreat
open Go.RowKit W
theorem lst {s t : ByteArray} (h : s = t) : s.data.toList = t.data.toList := by rw [h]
theorem cut_sizes {s a b : ByteArray} {c : UInt8} (h : s.data.toList = a.data.toList ++ c :: b.data.toList) : a.size + b.size + 1 = s.size := by
  rw [Lib.size_eq, Lib.size_eq, Lib.size_eq, h, List.length_append, List.length_cons]; omega
theorem cut_ba {s : ByteArray} (h : (47 : UInt8) ∈ s.data.toList) : ∃ A B : ByteArray, s.data.toList = A.data.toList ++ 47 :: B.data.toList ∧ (47 : UInt8) ∉ A.data.toList := by
  obtain ⟨a, b, e1, e2⟩ := cut_hit h
  exact ⟨⟨a.toArray⟩, ⟨b.toArray⟩, by simpa using e1, by simpa using e2⟩
theorem parse_is {l : List UInt8} (h : ¬ parseZ l = none) : ∃ n, parseZ l = some n := by
  cases hp : parseZ l with
  | none => exact absurd hp h
  | some n => exact ⟨n, rfl⟩
set_option maxRecDepth 100000 in
set_option maxHeartbeats 8000000 in
theorem Parse_q (s : ByteArray)  (w : World)   :
    Calls Tryz.prog 38 #[.string s] w (ParQ w (RetPE w) s) := by
 have E := Env.start w
 go_enter Tryz.func38, Tryz.ntmps38
 refine wp_seq ?_
 -- region 0
 refine RL ?_
 refine EF rfl (Oper.wp_alloc AgR rfl ?_)
 intro b1 w1 e1 z1 d1 x1
 have l1 : w.heap.size ≤ b1 := by rw [e1]; exact (E.1).size
 replace E := E.below d1
 clear e1 z1 d1
 refine kw rfl ?_
 refine AC rfl rfl rfl rfl <| ?_
 simp only [q2,q3]
 refine WN ?_
 change Code.wp _ _ _ _ _
 refine wp_seq ?_
 refine wp_seq ?_
 by_cases h4 : 4000 < s.size
 case pos =>
  -- region 1
  refine RL ?_
  refine M rfl rfl rfl rfl rfl <| V (v := .int .i64 ((s.size : Nat) : Int)) rfl rfl (run_lenS rfl rfl) <| V rfl rfl (run_gtI (c := true) rfl rfl rfl (by rw [decide_eq_true_eq]; omega)) <| ?_
  simp only [q2,q3]
  refine WN ?_
  change Code.wp _ _ _ _ _
  refine wp_cond_true rfl ?_
  refine wp_seq ?_
  -- region 2
  refine RL ?_
  refine V (v := .agg #[.bool false, .slice none 0 0, .bool false, .slice none 0 0]) rfl rfl (run_buildR0 rfl) <| ?_
  simp only [q2,q3]
  refine EF rfl (Oper.wp_store AgR rfl rfl rfl x1 rfl rfl (one4 one0 one0) ?_)
  intro w3 o3 y3
  replace E := (E.onl (x1.noW (now4 now0 now0)) ⟨okW (by omega), trivial⟩ o3).x y3
  clear x1 o3 y3
  refine kn rfl ?_
  refine AC rfl rfl rfl rfl <| ?_
  simp only [q2,q3]
  refine WN ?_
  change Code.wp _ _ _ _ _
  refine wp_ret ?_
  have r4 := res_box AgR (E.1) rfl
  exact bodyPost_ret (v := .tuple #[.agg #[.bool false, .slice none 0 0, .bool false, .slice none 0 0], .int .i64 2]) (by simp [results, Tryz.results38, asAddr, r4]) rfl (.big h4 ⟨_, _, _, _, rfl, zero_i _, zero_i _, E.2.1⟩)
 case neg =>
  -- region 1
  refine RL ?_
  refine M rfl rfl rfl rfl rfl <| V (v := .int .i64 ((s.size : Nat) : Int)) rfl rfl (run_lenS rfl rfl) <| V rfl rfl (run_gtI (c := false) rfl rfl rfl (by rw [decide_eq_false_iff_not]; omega)) <| ?_
  simp only [q2,q3]
  refine WN ?_
  change Code.wp _ _ _ _ _
  refine wp_cond_false rfl ?_
  refine wp_skip ?_
  change Code.wp _ _ _ _ _
  refine wp_seq ?_
  by_cases hsl : (47 : UInt8) ∈ s.data.toList
  case pos =>
   obtain ⟨SA, SB, hAB, hA47⟩ := cut_ba hsl
   have hsz := cut_sizes hAB
   by_cases hp : parseZ SA.data.toList = none
   case pos =>
    -- region 3
    refine RL ?_
    refine M rfl rfl rfl rfl rfl <| ?_
    simp only [q2,q3]
    refine EF rfl (Oper.wp_callVq fnc_Cut rfl (Cut_yes s SA SB 47 _ hAB hA47 (by omega)) rfl E ?_)
    clear E
    intro w6 d6 E
    replace x1 := x1.below d6
    clear d6
    refine kw rfl ?_
    refine M rfl rfl rfl rfl rfl <| V rfl rfl (run_extract (vs := [.string SA, .string SB, .bool true]) rfl rfl rfl) <| V rfl rfl (run_extract (vs := [.string SA, .string SB, .bool true]) rfl rfl rfl) <| V rfl rfl (run_extract (vs := [.string SA, .string SB, .bool true]) rfl rfl rfl) <| ?_
    simp only [q2,q3]
    refine A rfl rfl rfl rfl rfl <| A rfl rfl rfl rfl rfl <| A rfl rfl rfl rfl rfl <| ?_
    simp only [q2,q3]
    refine WN ?_
    change Code.wp _ _ _ _ _
    refine wp_seq ?_
    -- region 4
    refine RL ?_
    refine M rfl rfl rfl rfl rfl <| ?_
    simp only [q2,q3]
    refine EF rfl (Oper.wp_callIE fn_integer_Parse rfl (Parse_none SA _ (by omega) hp) rfl E ?_)
    clear E
    intro w7 n7 s7 d7 E
    replace x1 := x1.below d7
    clear d7
    refine kw rfl ?_
    refine M rfl rfl rfl rfl rfl <| V rfl rfl (run_extract (vs := [.agg #[.bool n7, s7], .int .i64 3]) rfl rfl rfl) <| V rfl rfl (run_extract (vs := [.agg #[.bool n7, s7], .int .i64 3]) rfl rfl rfl) <| ?_
    simp only [q2,q3]
    refine EF rfl (Oper.wp_alloc AgI rfl ?_)
    intro b8 w8 e8 z8 d8 x8
    have l8_0 : b1 < b8 := by rw [e8]; exact Bx.lt (x1)
    replace E := E.below d8
    replace x1 := Bx.below x1 d8
    clear e8 z8 d8
    refine kw rfl ?_
    simp only [q2,q3]
    refine EF rfl (Oper.wp_store AgI rfl rfl rfl x8 rfl rfl (IsI.one (E.1)) ?_)
    intro w9 o9 y9
    replace E := (E.onl (x8.noW now0) ⟨trivial, okW (by omega), trivial⟩ o9).b y9
    replace x1 := Bx.onl x1 (by omega) o9
    clear x8 o9 y9
    refine kn rfl ?_
    refine A rfl rfl rfl rfl rfl <| ?_
    simp only [q2,q3]
    refine WN ?_
    change Code.wp _ _ _ _ _
    refine wp_seq ?_
    refine wp_seq ?_
    -- region 5
    refine RL ?_
    refine M rfl rfl rfl rfl rfl <| V rfl rfl (run_neI (c := true) rfl rfl rfl (by decide)) <| ?_
    simp only [q2,q3]
    refine WN ?_
    change Code.wp _ _ _ _ _
    refine wp_cond_true rfl ?_
    refine wp_seq ?_
    -- region 6
    refine RL ?_
    refine V (v := .agg #[.bool false, .slice none 0 0, .bool false, .slice none 0 0]) rfl rfl (run_buildR0 rfl) <| M rfl rfl rfl rfl rfl <| ?_
    simp only [q2,q3]
    refine EF rfl (Oper.wp_store AgR rfl rfl rfl x1 rfl rfl (one4 one0 one0) ?_)
    intro w10 o10 y10
    replace E := (E.onl (x1.noW (now4 now0 now0)) ⟨okB (by omega), trivial, okW (by omega), trivial⟩ o10).x y10
    clear x1 o10 y10
    refine kn rfl ?_
    refine A rfl rfl rfl rfl rfl <| ?_
    simp only [q2,q3]
    refine WN ?_
    change Code.wp _ _ _ _ _
    refine wp_ret ?_
    have r11 := res_box AgR (E.1) rfl
    exact bodyPost_ret (v := .tuple #[.agg #[.bool false, .slice none 0 0, .bool false, .slice none 0 0], .int .i64 3]) (by simp [results, Tryz.results38, asAddr, r11]) rfl (.form (by omega) (fun x e => pq_bad1 (b := SB.data.toList) hA47 hp x (hAB.symm.trans (lst e))) ⟨_, _, _, _, rfl, zero_i _, zero_i _, e3 E⟩)
   case neg =>
    obtain ⟨n, hn⟩ := parse_is hp
    have Fn : Fits n 4000 := parse_fitsQ (by rw [← Lib.size_eq]; omega) hn
    by_cases hq : parseZ SB.data.toList = none
    case pos =>
     -- region 3
     refine RL ?_
     refine M rfl rfl rfl rfl rfl <| ?_
     simp only [q2,q3]
     refine EF rfl (Oper.wp_callVq fnc_Cut rfl (Cut_yes s SA SB 47 _ hAB hA47 (by omega)) rfl E ?_)
     clear E
     intro w12 d12 E
     replace x1 := x1.below d12
     clear d12
     refine kw rfl ?_
     refine M rfl rfl rfl rfl rfl <| V rfl rfl (run_extract (vs := [.string SA, .string SB, .bool true]) rfl rfl rfl) <| V rfl rfl (run_extract (vs := [.string SA, .string SB, .bool true]) rfl rfl rfl) <| V rfl rfl (run_extract (vs := [.string SA, .string SB, .bool true]) rfl rfl rfl) <| ?_
     simp only [q2,q3]
     refine A rfl rfl rfl rfl rfl <| A rfl rfl rfl rfl rfl <| A rfl rfl rfl rfl rfl <| ?_
     simp only [q2,q3]
     refine WN ?_
     change Code.wp _ _ _ _ _
     refine wp_seq ?_
     -- region 4
     refine RL ?_
     refine M rfl rfl rfl rfl rfl <| ?_
     simp only [q2,q3]
     refine EF rfl (Oper.wp_callIE fn_integer_Parse rfl (Parse_some SA n _ (by omega) hn) rfl E ?_)
     clear E
     intro w13 n13 s13 d13 E
     replace x1 := x1.below d13
     clear d13
     refine kw rfl ?_
     refine M rfl rfl rfl rfl rfl <| V rfl rfl (run_extract (vs := [.agg #[.bool n13, s13], .int .i64 0]) rfl rfl rfl) <| V rfl rfl (run_extract (vs := [.agg #[.bool n13, s13], .int .i64 0]) rfl rfl rfl) <| ?_
     simp only [q2,q3]
     refine EF rfl (Oper.wp_alloc AgI rfl ?_)
     intro b14 w14 e14 z14 d14 x14
     have l14_0 : b1 < b14 := by rw [e14]; exact Bx.lt (x1)
     replace E := E.below d14
     replace x1 := Bx.below x1 d14
     clear e14 z14 d14
     refine kw rfl ?_
     simp only [q2,q3]
     refine EF rfl (Oper.wp_store AgI rfl rfl rfl x14 rfl rfl (IsI.one (E.1)) ?_)
     intro w15 o15 y15
     replace E := (E.onl (x14.noW now0) ⟨trivial, okW (by omega), trivial⟩ o15).b y15
     replace x1 := Bx.onl x1 (by omega) o15
     clear x14 o15 y15
     refine kn rfl ?_
     refine A rfl rfl rfl rfl rfl <| ?_
     simp only [q2,q3]
     refine WN ?_
     change Code.wp _ _ _ _ _
     refine wp_seq ?_
     refine wp_seq ?_
     -- region 5
     refine RL ?_
     refine M rfl rfl rfl rfl rfl <| V rfl rfl (run_neI (c := false) rfl rfl rfl (by decide)) <| ?_
     simp only [q2,q3]
     refine WN ?_
     change Code.wp _ _ _ _ _
     refine wp_cond_false rfl ?_
     refine wp_skip ?_
     change Code.wp _ _ _ _ _
     refine wp_seq ?_
     refine wp_seq ?_
     -- region 7
     refine RL ?_
     refine M rfl rfl rfl rfl rfl <| V (v := .bool false) rfl rfl (run_not (b := true) rfl rfl) <| ?_
     simp only [q2,q3]
     refine WN ?_
     change Code.wp _ _ _ _ _
     refine wp_cond_false rfl ?_
     refine wp_skip ?_
     change Code.wp _ _ _ _ _
     refine wp_seq ?_
     -- region 9
     refine RL ?_
     refine M rfl rfl rfl rfl rfl <| ?_
     simp only [q2,q3]
     refine EF rfl (Oper.wp_callIE fn_integer_Parse rfl (Parse_none SB _ (by omega) hq) rfl E ?_)
     clear E
     intro w16 n16 s16 d16 E
     replace x1 := x1.below d16
     clear d16
     refine kw rfl ?_
     refine M rfl rfl rfl rfl rfl <| V rfl rfl (run_extract (vs := [.agg #[.bool n16, s16], .int .i64 3]) rfl rfl rfl) <| V rfl rfl (run_extract (vs := [.agg #[.bool n16, s16], .int .i64 3]) rfl rfl rfl) <| ?_
     simp only [q2,q3]
     refine EF rfl (Oper.wp_alloc AgI rfl ?_)
     intro b17 w17 e17 z17 d17 x17
     have l17_0 : b14 < b17 := by rw [e17]; exact Bx.lt (E.2.1)
     replace E := E.below d17
     replace x1 := Bx.below x1 d17
     clear e17 z17 d17
     refine kw rfl ?_
     simp only [q2,q3]
     refine EF rfl (Oper.wp_store AgI rfl rfl rfl x17 rfl rfl (IsI.one (E.1)) ?_)
     intro w18 o18 y18
     replace E := (E.onl (x17.noW now0) ⟨trivial, okB (by omega), trivial, okW (by omega), trivial⟩ o18).b y18
     replace x1 := Bx.onl x1 (by omega) o18
     clear x17 o18 y18
     refine kn rfl ?_
     refine A rfl rfl rfl rfl rfl <| ?_
     simp only [q2,q3]
     refine WN ?_
     change Code.wp _ _ _ _ _
     refine wp_seq ?_
     refine wp_seq ?_
     -- region 10
     refine RL ?_
     refine M rfl rfl rfl rfl rfl <| V rfl rfl (run_neI (c := true) rfl rfl rfl (by decide)) <| ?_
     simp only [q2,q3]
     refine WN ?_
     change Code.wp _ _ _ _ _
     refine wp_cond_true rfl ?_
     refine wp_seq ?_
     -- region 11
     refine RL ?_
     refine V (v := .agg #[.bool false, .slice none 0 0, .bool false, .slice none 0 0]) rfl rfl (run_buildR0 rfl) <| M rfl rfl rfl rfl rfl <| ?_
     simp only [q2,q3]
     refine EF rfl (Oper.wp_store AgR rfl rfl rfl x1 rfl rfl (one4 one0 one0) ?_)
     intro w19 o19 y19
     replace E := (E.onl (x1.noW (now4 now0 now0)) ⟨okB (by omega), trivial, okB (by omega), trivial, okW (by omega), trivial⟩ o19).x y19
     clear x1 o19 y19
     refine kn rfl ?_
     refine A rfl rfl rfl rfl rfl <| ?_
     simp only [q2,q3]
     refine WN ?_
     change Code.wp _ _ _ _ _
     refine wp_ret ?_
     have r20 := res_box AgR (E.1) rfl
     exact bodyPost_ret (v := .tuple #[.agg #[.bool false, .slice none 0 0, .bool false, .slice none 0 0], .int .i64 3]) (by simp [results, Tryz.results38, asAddr, r20]) rfl (.form (by omega) (fun x e => pq_bad2 hA47 hq x (hAB.symm.trans (lst e))) ⟨_, _, _, _, rfl, zero_i _, zero_i _, e5 E⟩)
    case neg =>
     obtain ⟨d, hd⟩ := parse_is hq
     have Fd : Fits d 4000 := parse_fitsQ (by rw [← Lib.size_eq]; omega) hd
     by_cases hv : ¬ vq n d
     case pos =>
      -- region 3
      refine RL ?_
      refine M rfl rfl rfl rfl rfl <| ?_
      simp only [q2,q3]
      refine EF rfl (Oper.wp_callVq fnc_Cut rfl (Cut_yes s SA SB 47 _ hAB hA47 (by omega)) rfl E ?_)
      clear E
      intro w21 d21 E
      replace x1 := x1.below d21
      clear d21
      refine kw rfl ?_
      refine M rfl rfl rfl rfl rfl <| V rfl rfl (run_extract (vs := [.string SA, .string SB, .bool true]) rfl rfl rfl) <| V rfl rfl (run_extract (vs := [.string SA, .string SB, .bool true]) rfl rfl rfl) <| V rfl rfl (run_extract (vs := [.string SA, .string SB, .bool true]) rfl rfl rfl) <| ?_
      simp only [q2,q3]
      refine A rfl rfl rfl rfl rfl <| A rfl rfl rfl rfl rfl <| A rfl rfl rfl rfl rfl <| ?_
      simp only [q2,q3]
      refine WN ?_
      change Code.wp _ _ _ _ _
      refine wp_seq ?_
      -- region 4
      refine RL ?_
      refine M rfl rfl rfl rfl rfl <| ?_
      simp only [q2,q3]
      refine EF rfl (Oper.wp_callIE fn_integer_Parse rfl (Parse_some SA n _ (by omega) hn) rfl E ?_)
      clear E
      intro w22 n22 s22 d22 E
      replace x1 := x1.below d22
      clear d22
      refine kw rfl ?_
      refine M rfl rfl rfl rfl rfl <| V rfl rfl (run_extract (vs := [.agg #[.bool n22, s22], .int .i64 0]) rfl rfl rfl) <| V rfl rfl (run_extract (vs := [.agg #[.bool n22, s22], .int .i64 0]) rfl rfl rfl) <| ?_
      simp only [q2,q3]
      refine EF rfl (Oper.wp_alloc AgI rfl ?_)
      intro b23 w23 e23 z23 d23 x23
      have l23_0 : b1 < b23 := by rw [e23]; exact Bx.lt (x1)
      replace E := E.below d23
      replace x1 := Bx.below x1 d23
      clear e23 z23 d23
      refine kw rfl ?_
      simp only [q2,q3]
      refine EF rfl (Oper.wp_store AgI rfl rfl rfl x23 rfl rfl (IsI.one (E.1)) ?_)
      intro w24 o24 y24
      replace E := (E.onl (x23.noW now0) ⟨trivial, okW (by omega), trivial⟩ o24).b y24
      replace x1 := Bx.onl x1 (by omega) o24
      clear x23 o24 y24
      refine kn rfl ?_
      refine A rfl rfl rfl rfl rfl <| ?_
      simp only [q2,q3]
      refine WN ?_
      change Code.wp _ _ _ _ _
      refine wp_seq ?_
      refine wp_seq ?_
      -- region 5
      refine RL ?_
      refine M rfl rfl rfl rfl rfl <| V rfl rfl (run_neI (c := false) rfl rfl rfl (by decide)) <| ?_
      simp only [q2,q3]
      refine WN ?_
      change Code.wp _ _ _ _ _
      refine wp_cond_false rfl ?_
      refine wp_skip ?_
      change Code.wp _ _ _ _ _
      refine wp_seq ?_
      refine wp_seq ?_
      -- region 7
      refine RL ?_
      refine M rfl rfl rfl rfl rfl <| V (v := .bool false) rfl rfl (run_not (b := true) rfl rfl) <| ?_
      simp only [q2,q3]
      refine WN ?_
      change Code.wp _ _ _ _ _
      refine wp_cond_false rfl ?_
      refine wp_skip ?_
      change Code.wp _ _ _ _ _
      refine wp_seq ?_
      -- region 9
      refine RL ?_
      refine M rfl rfl rfl rfl rfl <| ?_
      simp only [q2,q3]
      refine EF rfl (Oper.wp_callIE fn_integer_Parse rfl (Parse_some SB d _ (by omega) hd) rfl E ?_)
      clear E
      intro w25 n25 s25 d25 E
      replace x1 := x1.below d25
      clear d25
      refine kw rfl ?_
      refine M rfl rfl rfl rfl rfl <| V rfl rfl (run_extract (vs := [.agg #[.bool n25, s25], .int .i64 0]) rfl rfl rfl) <| V rfl rfl (run_extract (vs := [.agg #[.bool n25, s25], .int .i64 0]) rfl rfl rfl) <| ?_
      simp only [q2,q3]
      refine EF rfl (Oper.wp_alloc AgI rfl ?_)
      intro b26 w26 e26 z26 d26 x26
      have l26_0 : b23 < b26 := by rw [e26]; exact Bx.lt (E.2.1)
      replace E := E.below d26
      replace x1 := Bx.below x1 d26
      clear e26 z26 d26
      refine kw rfl ?_
      simp only [q2,q3]
      refine EF rfl (Oper.wp_store AgI rfl rfl rfl x26 rfl rfl (IsI.one (E.1)) ?_)
      intro w27 o27 y27
      replace E := (E.onl (x26.noW now0) ⟨trivial, okB (by omega), trivial, okW (by omega), trivial⟩ o27).b y27
      replace x1 := Bx.onl x1 (by omega) o27
      clear x26 o27 y27
      refine kn rfl ?_
      refine A rfl rfl rfl rfl rfl <| ?_
      simp only [q2,q3]
      refine WN ?_
      change Code.wp _ _ _ _ _
      refine wp_seq ?_
      refine wp_seq ?_
      -- region 10
      refine RL ?_
      refine M rfl rfl rfl rfl rfl <| V rfl rfl (run_neI (c := false) rfl rfl rfl (by decide)) <| ?_
      simp only [q2,q3]
      refine WN ?_
      change Code.wp _ _ _ _ _
      refine wp_cond_false rfl ?_
      refine wp_skip ?_
      change Code.wp _ _ _ _ _
      refine wp_seq ?_
      -- region 12
      refine RL ?_
      refine V rfl rfl (run_load_bx AgI rfl rfl (E.2.2.1) rfl) <| V rfl rfl (run_load_bx AgI rfl rfl (E.1) rfl) <| V (v := .agg #[.bool n22, s22, .bool n25, s25]) rfl rfl (run_buildR rfl rfl rfl) <| ?_
      simp only [q2,q3]
      refine EF rfl (Oper.wp_alloc AgR rfl ?_)
      intro b28 w28 e28 z28 d28 x28
      have l28_0 : b26 < b28 := by rw [e28]; exact Bx.lt (E.1)
      replace E := E.below d28
      replace x1 := Bx.below x1 d28
      clear e28 z28 d28
      refine kw rfl ?_
      simp only [q2,q3]
      refine EF rfl (Oper.wp_store AgR rfl rfl rfl x28 rfl rfl (one4 (IsI.one (e3 E)) (IsI.one (E.2.1))) ?_)
      intro w29 o29 y29
      replace E := (E.onl (x28.noW (now4 now0 now0)) ⟨okB (by omega), trivial, okB (by omega), trivial, okW (by omega), trivial⟩ o29).x y29
      replace x1 := Bx.onl x1 (by omega) o29
      clear x28 o29 y29
      refine kn rfl ?_
      refine WN ?_
      change Code.wp _ _ _ _ _
      refine wp_seq ?_
      refine wp_seq ?_
      -- region 13
      refine RL ?_
      refine V rfl rfl (run_load_bx AgR rfl rfl (E.1) rfl) <| ?_
      simp only [q2,q3]
      refine EF rfl (Oper.wp_callB fn_rational_Valid rfl (retB_is (decide_eq_false hv) (Valid_pq _ _ _ _ n d _ (e4 E) (E.2.2.1) (Fits.mono Fn (by decide)) (Fits.mono Fd (by decide)))) rfl E ?_)
      clear E
      intro w30 d30 E
      replace x1 := x1.below d30
      clear d30
      refine kw rfl ?_
      refine V (v := .bool true) rfl rfl (run_not (b := false) rfl rfl) <| M rfl rfl rfl rfl rfl <| L0C (by kernel_rfl) rfl <| L0C (by kernel_rfl) rfl <| ?_
      simp only [q2,q3]
      refine V (v := .bool true) rfl rfl (run_pick (b := true) rfl rfl rfl) <| ?_
      simp only [q2,q3]
      refine WN ?_
      change Code.wp _ _ _ _ _
      refine wp_cond_true rfl ?_
      refine wp_seq ?_
      -- region 14
      refine RL ?_
      refine V (v := .agg #[.bool false, .slice none 0 0, .bool false, .slice none 0 0]) rfl rfl (run_buildR0 rfl) <| ?_
      simp only [q2,q3]
      refine EF rfl (Oper.wp_store AgR rfl rfl rfl x1 rfl rfl (one4 one0 one0) ?_)
      intro w31 o31 y31
      replace E := (E.onl (x1.noW (now4 now0 now0)) ⟨okX (by omega), okB (by omega), trivial, okB (by omega), trivial, okW (by omega), trivial⟩ o31).x y31
      clear x1 o31 y31
      refine kn rfl ?_
      refine AC rfl rfl rfl rfl <| ?_
      simp only [q2,q3]
      refine WN ?_
      change Code.wp _ _ _ _ _
      refine wp_ret ?_
      have r32 := res_box AgR (E.1) rfl
      exact bodyPost_ret (v := .tuple #[.agg #[.bool false, .slice none 0 0, .bool false, .slice none 0 0], .int .i64 3]) (by simp [results, Tryz.results38, asAddr, r32]) rfl (.form (by omega) (fun x e => pq_bad3 hA47 hn hd (.inl hv) x (hAB.symm.trans (lst e))) ⟨_, _, _, _, rfl, zero_i _, zero_i _, e6 E⟩)
     case neg =>
      replace hv := Decidable.not_not.1 hv
      by_cases h1 : d = 1
      case pos =>
       -- region 3
       refine RL ?_
       refine M rfl rfl rfl rfl rfl <| ?_
       simp only [q2,q3]
       refine EF rfl (Oper.wp_callVq fnc_Cut rfl (Cut_yes s SA SB 47 _ hAB hA47 (by omega)) rfl E ?_)
       clear E
       intro w33 d33 E
       replace x1 := x1.below d33
       clear d33
       refine kw rfl ?_
       refine M rfl rfl rfl rfl rfl <| V rfl rfl (run_extract (vs := [.string SA, .string SB, .bool true]) rfl rfl rfl) <| V rfl rfl (run_extract (vs := [.string SA, .string SB, .bool true]) rfl rfl rfl) <| V rfl rfl (run_extract (vs := [.string SA, .string SB, .bool true]) rfl rfl rfl) <| ?_
       simp only [q2,q3]
       refine A rfl rfl rfl rfl rfl <| A rfl rfl rfl rfl rfl <| A rfl rfl rfl rfl rfl <| ?_
       simp only [q2,q3]
       refine WN ?_
       change Code.wp _ _ _ _ _
       refine wp_seq ?_
       -- region 4
       refine RL ?_
       refine M rfl rfl rfl rfl rfl <| ?_
       simp only [q2,q3]
       refine EF rfl (Oper.wp_callIE fn_integer_Parse rfl (Parse_some SA n _ (by omega) hn) rfl E ?_)
       clear E
       intro w34 n34 s34 d34 E
       replace x1 := x1.below d34
       clear d34
       refine kw rfl ?_
       refine M rfl rfl rfl rfl rfl <| V rfl rfl (run_extract (vs := [.agg #[.bool n34, s34], .int .i64 0]) rfl rfl rfl) <| V rfl rfl (run_extract (vs := [.agg #[.bool n34, s34], .int .i64 0]) rfl rfl rfl) <| ?_
       simp only [q2,q3]
       refine EF rfl (Oper.wp_alloc AgI rfl ?_)
       intro b35 w35 e35 z35 d35 x35
       have l35_0 : b1 < b35 := by rw [e35]; exact Bx.lt (x1)
       replace E := E.below d35
       replace x1 := Bx.below x1 d35
       clear e35 z35 d35
       refine kw rfl ?_
       simp only [q2,q3]
       refine EF rfl (Oper.wp_store AgI rfl rfl rfl x35 rfl rfl (IsI.one (E.1)) ?_)
       intro w36 o36 y36
       replace E := (E.onl (x35.noW now0) ⟨trivial, okW (by omega), trivial⟩ o36).b y36
       replace x1 := Bx.onl x1 (by omega) o36
       clear x35 o36 y36
       refine kn rfl ?_
       refine A rfl rfl rfl rfl rfl <| ?_
       simp only [q2,q3]
       refine WN ?_
       change Code.wp _ _ _ _ _
       refine wp_seq ?_
       refine wp_seq ?_
       -- region 5
       refine RL ?_
       refine M rfl rfl rfl rfl rfl <| V rfl rfl (run_neI (c := false) rfl rfl rfl (by decide)) <| ?_
       simp only [q2,q3]
       refine WN ?_
       change Code.wp _ _ _ _ _
       refine wp_cond_false rfl ?_
       refine wp_skip ?_
       change Code.wp _ _ _ _ _
       refine wp_seq ?_
       refine wp_seq ?_
       -- region 7
       refine RL ?_
       refine M rfl rfl rfl rfl rfl <| V (v := .bool false) rfl rfl (run_not (b := true) rfl rfl) <| ?_
       simp only [q2,q3]
       refine WN ?_
       change Code.wp _ _ _ _ _
       refine wp_cond_false rfl ?_
       refine wp_skip ?_
       change Code.wp _ _ _ _ _
       refine wp_seq ?_
       -- region 9
       refine RL ?_
       refine M rfl rfl rfl rfl rfl <| ?_
       simp only [q2,q3]
       refine EF rfl (Oper.wp_callIE fn_integer_Parse rfl (Parse_some SB d _ (by omega) hd) rfl E ?_)
       clear E
       intro w37 n37 s37 d37 E
       replace x1 := x1.below d37
       clear d37
       refine kw rfl ?_
       refine M rfl rfl rfl rfl rfl <| V rfl rfl (run_extract (vs := [.agg #[.bool n37, s37], .int .i64 0]) rfl rfl rfl) <| V rfl rfl (run_extract (vs := [.agg #[.bool n37, s37], .int .i64 0]) rfl rfl rfl) <| ?_
       simp only [q2,q3]
       refine EF rfl (Oper.wp_alloc AgI rfl ?_)
       intro b38 w38 e38 z38 d38 x38
       have l38_0 : b35 < b38 := by rw [e38]; exact Bx.lt (E.2.1)
       replace E := E.below d38
       replace x1 := Bx.below x1 d38
       clear e38 z38 d38
       refine kw rfl ?_
       simp only [q2,q3]
       refine EF rfl (Oper.wp_store AgI rfl rfl rfl x38 rfl rfl (IsI.one (E.1)) ?_)
       intro w39 o39 y39
       replace E := (E.onl (x38.noW now0) ⟨trivial, okB (by omega), trivial, okW (by omega), trivial⟩ o39).b y39
       replace x1 := Bx.onl x1 (by omega) o39
       clear x38 o39 y39
       refine kn rfl ?_
       refine A rfl rfl rfl rfl rfl <| ?_
       simp only [q2,q3]
       refine WN ?_
       change Code.wp _ _ _ _ _
       refine wp_seq ?_
       refine wp_seq ?_
       -- region 10
       refine RL ?_
       refine M rfl rfl rfl rfl rfl <| V rfl rfl (run_neI (c := false) rfl rfl rfl (by decide)) <| ?_
       simp only [q2,q3]
       refine WN ?_
       change Code.wp _ _ _ _ _
       refine wp_cond_false rfl ?_
       refine wp_skip ?_
       change Code.wp _ _ _ _ _
       refine wp_seq ?_
       -- region 12
       refine RL ?_
       refine V rfl rfl (run_load_bx AgI rfl rfl (E.2.2.1) rfl) <| V rfl rfl (run_load_bx AgI rfl rfl (E.1) rfl) <| V (v := .agg #[.bool n34, s34, .bool n37, s37]) rfl rfl (run_buildR rfl rfl rfl) <| ?_
       simp only [q2,q3]
       refine EF rfl (Oper.wp_alloc AgR rfl ?_)
       intro b40 w40 e40 z40 d40 x40
       have l40_0 : b38 < b40 := by rw [e40]; exact Bx.lt (E.1)
       replace E := E.below d40
       replace x1 := Bx.below x1 d40
       clear e40 z40 d40
       refine kw rfl ?_
       simp only [q2,q3]
       refine EF rfl (Oper.wp_store AgR rfl rfl rfl x40 rfl rfl (one4 (IsI.one (e3 E)) (IsI.one (E.2.1))) ?_)
       intro w41 o41 y41
       replace E := (E.onl (x40.noW (now4 now0 now0)) ⟨okB (by omega), trivial, okB (by omega), trivial, okW (by omega), trivial⟩ o41).x y41
       replace x1 := Bx.onl x1 (by omega) o41
       clear x40 o41 y41
       refine kn rfl ?_
       refine WN ?_
       change Code.wp _ _ _ _ _
       refine wp_seq ?_
       refine wp_seq ?_
       -- region 13
       refine RL ?_
       refine V rfl rfl (run_load_bx AgR rfl rfl (E.1) rfl) <| ?_
       simp only [q2,q3]
       refine EF rfl (Oper.wp_callB fn_rational_Valid rfl (retB_is (decide_eq_true hv) (Valid_pq _ _ _ _ n d _ (e4 E) (E.2.2.1) (Fits.mono Fn (by decide)) (Fits.mono Fd (by decide)))) rfl E ?_)
       clear E
       intro w42 d42 E
       replace x1 := x1.below d42
       clear d42
       refine kw rfl ?_
       refine V (v := .bool false) rfl rfl (run_not (b := true) rfl rfl) <| M rfl rfl rfl rfl rfl <| V (by kernel_rfl) rfl (run_load_bx AgI rfl rfl (E.2.1) rfl) <| ?_
       simp only [q2,q3]
       refine EF rfl (Oper.wp_callB fn_rational_isOne rfl (retB_is (decide_eq_true h1) (isOne_z _ d _ (E.2.2.1))) rfl E ?_)
       clear E
       intro w43 d43 E
       replace x1 := x1.below d43
       clear d43
       refine kw rfl ?_
       refine V (v := .bool true) rfl rfl (run_pick (b := false) rfl rfl rfl) <| ?_
       simp only [q2,q3]
       refine WN ?_
       change Code.wp _ _ _ _ _
       refine wp_cond_true rfl ?_
       refine wp_seq ?_
       -- region 14
       refine RL ?_
       refine V (v := .agg #[.bool false, .slice none 0 0, .bool false, .slice none 0 0]) rfl rfl (run_buildR0 rfl) <| ?_
       simp only [q2,q3]
       refine EF rfl (Oper.wp_store AgR rfl rfl rfl x1 rfl rfl (one4 one0 one0) ?_)
       intro w44 o44 y44
       replace E := (E.onl (x1.noW (now4 now0 now0)) ⟨okX (by omega), okB (by omega), trivial, okB (by omega), trivial, okW (by omega), trivial⟩ o44).x y44
       clear x1 o44 y44
       refine kn rfl ?_
       refine AC rfl rfl rfl rfl <| ?_
       simp only [q2,q3]
       refine WN ?_
       change Code.wp _ _ _ _ _
       refine wp_ret ?_
       have r45 := res_box AgR (E.1) rfl
       exact bodyPost_ret (v := .tuple #[.agg #[.bool false, .slice none 0 0, .bool false, .slice none 0 0], .int .i64 3]) (by simp [results, Tryz.results38, asAddr, r45]) rfl (.form (by omega) (fun x e => pq_bad3 hA47 hn hd (.inr h1) x (hAB.symm.trans (lst e))) ⟨_, _, _, _, rfl, zero_i _, zero_i _, e6 E⟩)
      case neg =>
       -- region 3
       refine RL ?_
       refine M rfl rfl rfl rfl rfl <| ?_
       simp only [q2,q3]
       refine EF rfl (Oper.wp_callVq fnc_Cut rfl (Cut_yes s SA SB 47 _ hAB hA47 (by omega)) rfl E ?_)
       clear E
       intro w46 d46 E
       replace x1 := x1.below d46
       clear d46
       refine kw rfl ?_
       refine M rfl rfl rfl rfl rfl <| V rfl rfl (run_extract (vs := [.string SA, .string SB, .bool true]) rfl rfl rfl) <| V rfl rfl (run_extract (vs := [.string SA, .string SB, .bool true]) rfl rfl rfl) <| V rfl rfl (run_extract (vs := [.string SA, .string SB, .bool true]) rfl rfl rfl) <| ?_
       simp only [q2,q3]
       refine A rfl rfl rfl rfl rfl <| A rfl rfl rfl rfl rfl <| A rfl rfl rfl rfl rfl <| ?_
       simp only [q2,q3]
       refine WN ?_
       change Code.wp _ _ _ _ _
       refine wp_seq ?_
       -- region 4
       refine RL ?_
       refine M rfl rfl rfl rfl rfl <| ?_
       simp only [q2,q3]
       refine EF rfl (Oper.wp_callIE fn_integer_Parse rfl (Parse_some SA n _ (by omega) hn) rfl E ?_)
       clear E
       intro w47 n47 s47 d47 E
       replace x1 := x1.below d47
       clear d47
       refine kw rfl ?_
       refine M rfl rfl rfl rfl rfl <| V rfl rfl (run_extract (vs := [.agg #[.bool n47, s47], .int .i64 0]) rfl rfl rfl) <| V rfl rfl (run_extract (vs := [.agg #[.bool n47, s47], .int .i64 0]) rfl rfl rfl) <| ?_
       simp only [q2,q3]
       refine EF rfl (Oper.wp_alloc AgI rfl ?_)
       intro b48 w48 e48 z48 d48 x48
       have l48_0 : b1 < b48 := by rw [e48]; exact Bx.lt (x1)
       replace E := E.below d48
       replace x1 := Bx.below x1 d48
       clear e48 z48 d48
       refine kw rfl ?_
       simp only [q2,q3]
       refine EF rfl (Oper.wp_store AgI rfl rfl rfl x48 rfl rfl (IsI.one (E.1)) ?_)
       intro w49 o49 y49
       replace E := (E.onl (x48.noW now0) ⟨trivial, okW (by omega), trivial⟩ o49).b y49
       replace x1 := Bx.onl x1 (by omega) o49
       clear x48 o49 y49
       refine kn rfl ?_
       refine A rfl rfl rfl rfl rfl <| ?_
       simp only [q2,q3]
       refine WN ?_
       change Code.wp _ _ _ _ _
       refine wp_seq ?_
       refine wp_seq ?_
       -- region 5
       refine RL ?_
       refine M rfl rfl rfl rfl rfl <| V rfl rfl (run_neI (c := false) rfl rfl rfl (by decide)) <| ?_
       simp only [q2,q3]
       refine WN ?_
       change Code.wp _ _ _ _ _
       refine wp_cond_false rfl ?_
       refine wp_skip ?_
       change Code.wp _ _ _ _ _
       refine wp_seq ?_
       refine wp_seq ?_
       -- region 7
       refine RL ?_
       refine M rfl rfl rfl rfl rfl <| V (v := .bool false) rfl rfl (run_not (b := true) rfl rfl) <| ?_
       simp only [q2,q3]
       refine WN ?_
       change Code.wp _ _ _ _ _
       refine wp_cond_false rfl ?_
       refine wp_skip ?_
       change Code.wp _ _ _ _ _
       refine wp_seq ?_
       -- region 9
       refine RL ?_
       refine M rfl rfl rfl rfl rfl <| ?_
       simp only [q2,q3]
       refine EF rfl (Oper.wp_callIE fn_integer_Parse rfl (Parse_some SB d _ (by omega) hd) rfl E ?_)
       clear E
       intro w50 n50 s50 d50 E
       replace x1 := x1.below d50
       clear d50
       refine kw rfl ?_
       refine M rfl rfl rfl rfl rfl <| V rfl rfl (run_extract (vs := [.agg #[.bool n50, s50], .int .i64 0]) rfl rfl rfl) <| V rfl rfl (run_extract (vs := [.agg #[.bool n50, s50], .int .i64 0]) rfl rfl rfl) <| ?_
       simp only [q2,q3]
       refine EF rfl (Oper.wp_alloc AgI rfl ?_)
       intro b51 w51 e51 z51 d51 x51
       have l51_0 : b48 < b51 := by rw [e51]; exact Bx.lt (E.2.1)
       replace E := E.below d51
       replace x1 := Bx.below x1 d51
       clear e51 z51 d51
       refine kw rfl ?_
       simp only [q2,q3]
       refine EF rfl (Oper.wp_store AgI rfl rfl rfl x51 rfl rfl (IsI.one (E.1)) ?_)
       intro w52 o52 y52
       replace E := (E.onl (x51.noW now0) ⟨trivial, okB (by omega), trivial, okW (by omega), trivial⟩ o52).b y52
       replace x1 := Bx.onl x1 (by omega) o52
       clear x51 o52 y52
       refine kn rfl ?_
       refine A rfl rfl rfl rfl rfl <| ?_
       simp only [q2,q3]
       refine WN ?_
       change Code.wp _ _ _ _ _
       refine wp_seq ?_
       refine wp_seq ?_
       -- region 10
       refine RL ?_
       refine M rfl rfl rfl rfl rfl <| V rfl rfl (run_neI (c := false) rfl rfl rfl (by decide)) <| ?_
       simp only [q2,q3]
       refine WN ?_
       change Code.wp _ _ _ _ _
       refine wp_cond_false rfl ?_
       refine wp_skip ?_
       change Code.wp _ _ _ _ _
       refine wp_seq ?_
       -- region 12
       refine RL ?_
       refine V rfl rfl (run_load_bx AgI rfl rfl (E.2.2.1) rfl) <| V rfl rfl (run_load_bx AgI rfl rfl (E.1) rfl) <| V (v := .agg #[.bool n47, s47, .bool n50, s50]) rfl rfl (run_buildR rfl rfl rfl) <| ?_
       simp only [q2,q3]
       refine EF rfl (Oper.wp_alloc AgR rfl ?_)
       intro b53 w53 e53 z53 d53 x53
       have l53_0 : b51 < b53 := by rw [e53]; exact Bx.lt (E.1)
       replace E := E.below d53
       replace x1 := Bx.below x1 d53
       clear e53 z53 d53
       refine kw rfl ?_
       simp only [q2,q3]
       refine EF rfl (Oper.wp_store AgR rfl rfl rfl x53 rfl rfl (one4 (IsI.one (e3 E)) (IsI.one (E.2.1))) ?_)
       intro w54 o54 y54
       replace E := (E.onl (x53.noW (now4 now0 now0)) ⟨okB (by omega), trivial, okB (by omega), trivial, okW (by omega), trivial⟩ o54).x y54
       replace x1 := Bx.onl x1 (by omega) o54
       clear x53 o54 y54
       refine kn rfl ?_
       refine WN ?_
       change Code.wp _ _ _ _ _
       refine wp_seq ?_
       refine wp_seq ?_
       -- region 13
       refine RL ?_
       refine V rfl rfl (run_load_bx AgR rfl rfl (E.1) rfl) <| ?_
       simp only [q2,q3]
       refine EF rfl (Oper.wp_callB fn_rational_Valid rfl (retB_is (decide_eq_true hv) (Valid_pq _ _ _ _ n d _ (e4 E) (E.2.2.1) (Fits.mono Fn (by decide)) (Fits.mono Fd (by decide)))) rfl E ?_)
       clear E
       intro w55 d55 E
       replace x1 := x1.below d55
       clear d55
       refine kw rfl ?_
       refine V (v := .bool false) rfl rfl (run_not (b := true) rfl rfl) <| M rfl rfl rfl rfl rfl <| V (by kernel_rfl) rfl (run_load_bx AgI rfl rfl (E.2.1) rfl) <| ?_
       simp only [q2,q3]
       refine EF rfl (Oper.wp_callB fn_rational_isOne rfl (retB_is (decide_eq_false h1) (isOne_z _ d _ (E.2.2.1))) rfl E ?_)
       clear E
       intro w56 d56 E
       replace x1 := x1.below d56
       clear d56
       refine kw rfl ?_
       refine V (v := .bool false) rfl rfl (run_pick (b := false) rfl rfl rfl) <| ?_
       simp only [q2,q3]
       refine WN ?_
       change Code.wp _ _ _ _ _
       refine wp_cond_false rfl ?_
       refine wp_skip ?_
       change Code.wp _ _ _ _ _
       refine wp_seq ?_
       -- region 15
       refine RL ?_
       refine V rfl rfl (run_load_bx AgR rfl rfl (E.1) rfl) <| ?_
       simp only [q2,q3]
       refine EF rfl (Oper.wp_store AgR rfl rfl rfl x1 rfl rfl (one4 (IsI.one (e4 E)) (IsI.one (E.2.2.1))) ?_)
       intro w57 o57 y57
       replace E := (E.onl (x1.noW (now4 now0 now0)) ⟨okX (by omega), okB (by omega), trivial, okB (by omega), trivial, okW (by omega), trivial⟩ o57).x y57
       clear x1 o57 y57
       refine kn rfl ?_
       refine AC rfl rfl rfl rfl <| ?_
       simp only [q2,q3]
       refine WN ?_
       change Code.wp _ _ _ _ _
       refine wp_ret ?_
       have r58 := res_box AgR (E.1) rfl
       exact bodyPost_ret (v := .tuple #[.agg #[.bool n47, s47, .bool n50, s50], .int .i64 0]) (by simp [results, Tryz.results38, asAddr, r58]) rfl (.ok (Rat.divInt n d) (by omega) (ba_ext (hAB.trans (pq_ok hn hd hv h1))) ⟨_, _, _, _, rfl, eqZ (vq_div hv).1.symm (e5 E), eqZ (vq_div hv).2.symm (e3 E), e6 E⟩)
  case neg =>
   by_cases hp : parseZ s.data.toList = none
   case pos =>
    -- region 3
    refine RL ?_
    refine M rfl rfl rfl rfl rfl <| ?_
    simp only [q2,q3]
    refine EF rfl (Oper.wp_callVq fnc_Cut rfl (Cut_no s 47 _ hsl) rfl E ?_)
    clear E
    intro w59 d59 E
    replace x1 := x1.below d59
    clear d59
    refine kw rfl ?_
    refine M rfl rfl rfl rfl rfl <| V rfl rfl (run_extract (vs := [.string s, .string ByteArray.empty, .bool false]) rfl rfl rfl) <| V rfl rfl (run_extract (vs := [.string s, .string ByteArray.empty, .bool false]) rfl rfl rfl) <| V rfl rfl (run_extract (vs := [.string s, .string ByteArray.empty, .bool false]) rfl rfl rfl) <| ?_
    simp only [q2,q3]
    refine A rfl rfl rfl rfl rfl <| A rfl rfl rfl rfl rfl <| A rfl rfl rfl rfl rfl <| ?_
    simp only [q2,q3]
    refine WN ?_
    change Code.wp _ _ _ _ _
    refine wp_seq ?_
    -- region 4
    refine RL ?_
    refine M rfl rfl rfl rfl rfl <| ?_
    simp only [q2,q3]
    refine EF rfl (Oper.wp_callIE fn_integer_Parse rfl (Parse_none s _ (by omega) hp) rfl E ?_)
    clear E
    intro w60 n60 s60 d60 E
    replace x1 := x1.below d60
    clear d60
    refine kw rfl ?_
    refine M rfl rfl rfl rfl rfl <| V rfl rfl (run_extract (vs := [.agg #[.bool n60, s60], .int .i64 3]) rfl rfl rfl) <| V rfl rfl (run_extract (vs := [.agg #[.bool n60, s60], .int .i64 3]) rfl rfl rfl) <| ?_
    simp only [q2,q3]
    refine EF rfl (Oper.wp_alloc AgI rfl ?_)
    intro b61 w61 e61 z61 d61 x61
    have l61_0 : b1 < b61 := by rw [e61]; exact Bx.lt (x1)
    replace E := E.below d61
    replace x1 := Bx.below x1 d61
    clear e61 z61 d61
    refine kw rfl ?_
    simp only [q2,q3]
    refine EF rfl (Oper.wp_store AgI rfl rfl rfl x61 rfl rfl (IsI.one (E.1)) ?_)
    intro w62 o62 y62
    replace E := (E.onl (x61.noW now0) ⟨trivial, okW (by omega), trivial⟩ o62).b y62
    replace x1 := Bx.onl x1 (by omega) o62
    clear x61 o62 y62
    refine kn rfl ?_
    refine A rfl rfl rfl rfl rfl <| ?_
    simp only [q2,q3]
    refine WN ?_
    change Code.wp _ _ _ _ _
    refine wp_seq ?_
    refine wp_seq ?_
    -- region 5
    refine RL ?_
    refine M rfl rfl rfl rfl rfl <| V rfl rfl (run_neI (c := true) rfl rfl rfl (by decide)) <| ?_
    simp only [q2,q3]
    refine WN ?_
    change Code.wp _ _ _ _ _
    refine wp_cond_true rfl ?_
    refine wp_seq ?_
    -- region 6
    refine RL ?_
    refine V (v := .agg #[.bool false, .slice none 0 0, .bool false, .slice none 0 0]) rfl rfl (run_buildR0 rfl) <| M rfl rfl rfl rfl rfl <| ?_
    simp only [q2,q3]
    refine EF rfl (Oper.wp_store AgR rfl rfl rfl x1 rfl rfl (one4 one0 one0) ?_)
    intro w63 o63 y63
    replace E := (E.onl (x1.noW (now4 now0 now0)) ⟨okB (by omega), trivial, okW (by omega), trivial⟩ o63).x y63
    clear x1 o63 y63
    refine kn rfl ?_
    refine A rfl rfl rfl rfl rfl <| ?_
    simp only [q2,q3]
    refine WN ?_
    change Code.wp _ _ _ _ _
    refine wp_ret ?_
    have r64 := res_box AgR (E.1) rfl
    exact bodyPost_ret (v := .tuple #[.agg #[.bool false, .slice none 0 0, .bool false, .slice none 0 0], .int .i64 3]) (by simp [results, Tryz.results38, asAddr, r64]) rfl (.form (by omega) (fun x e => pq_none hsl hp x (lst e)) ⟨_, _, _, _, rfl, zero_i _, zero_i _, e3 E⟩)
   case neg =>
    obtain ⟨n, hn⟩ := parse_is hp
    have Fn : Fits n 4000 := parse_fitsQ (by rw [← Lib.size_eq]; omega) hn
    -- region 3
    refine RL ?_
    refine M rfl rfl rfl rfl rfl <| ?_
    simp only [q2,q3]
    refine EF rfl (Oper.wp_callVq fnc_Cut rfl (Cut_no s 47 _ hsl) rfl E ?_)
    clear E
    intro w65 d65 E
    replace x1 := x1.below d65
    clear d65
    refine kw rfl ?_
    refine M rfl rfl rfl rfl rfl <| V rfl rfl (run_extract (vs := [.string s, .string ByteArray.empty, .bool false]) rfl rfl rfl) <| V rfl rfl (run_extract (vs := [.string s, .string ByteArray.empty, .bool false]) rfl rfl rfl) <| V rfl rfl (run_extract (vs := [.string s, .string ByteArray.empty, .bool false]) rfl rfl rfl) <| ?_
    simp only [q2,q3]
    refine A rfl rfl rfl rfl rfl <| A rfl rfl rfl rfl rfl <| A rfl rfl rfl rfl rfl <| ?_
    simp only [q2,q3]
    refine WN ?_
    change Code.wp _ _ _ _ _
    refine wp_seq ?_
    -- region 4
    refine RL ?_
    refine M rfl rfl rfl rfl rfl <| ?_
    simp only [q2,q3]
    refine EF rfl (Oper.wp_callIE fn_integer_Parse rfl (Parse_some s n _ (by omega) hn) rfl E ?_)
    clear E
    intro w66 n66 s66 d66 E
    replace x1 := x1.below d66
    clear d66
    refine kw rfl ?_
    refine M rfl rfl rfl rfl rfl <| V rfl rfl (run_extract (vs := [.agg #[.bool n66, s66], .int .i64 0]) rfl rfl rfl) <| V rfl rfl (run_extract (vs := [.agg #[.bool n66, s66], .int .i64 0]) rfl rfl rfl) <| ?_
    simp only [q2,q3]
    refine EF rfl (Oper.wp_alloc AgI rfl ?_)
    intro b67 w67 e67 z67 d67 x67
    have l67_0 : b1 < b67 := by rw [e67]; exact Bx.lt (x1)
    replace E := E.below d67
    replace x1 := Bx.below x1 d67
    clear e67 z67 d67
    refine kw rfl ?_
    simp only [q2,q3]
    refine EF rfl (Oper.wp_store AgI rfl rfl rfl x67 rfl rfl (IsI.one (E.1)) ?_)
    intro w68 o68 y68
    replace E := (E.onl (x67.noW now0) ⟨trivial, okW (by omega), trivial⟩ o68).b y68
    replace x1 := Bx.onl x1 (by omega) o68
    clear x67 o68 y68
    refine kn rfl ?_
    refine A rfl rfl rfl rfl rfl <| ?_
    simp only [q2,q3]
    refine WN ?_
    change Code.wp _ _ _ _ _
    refine wp_seq ?_
    refine wp_seq ?_
    -- region 5
    refine RL ?_
    refine M rfl rfl rfl rfl rfl <| V rfl rfl (run_neI (c := false) rfl rfl rfl (by decide)) <| ?_
    simp only [q2,q3]
    refine WN ?_
    change Code.wp _ _ _ _ _
    refine wp_cond_false rfl ?_
    refine wp_skip ?_
    change Code.wp _ _ _ _ _
    refine wp_seq ?_
    refine wp_seq ?_
    -- region 7
    refine RL ?_
    refine M rfl rfl rfl rfl rfl <| V (v := .bool true) rfl rfl (run_not (b := false) rfl rfl) <| ?_
    simp only [q2,q3]
    refine WN ?_
    change Code.wp _ _ _ _ _
    refine wp_cond_true rfl ?_
    refine wp_seq ?_
    -- region 8
    refine RL ?_
    refine V rfl rfl (run_load_bx AgI rfl rfl (E.1) rfl) <| ?_
    simp only [q2,q3]
    refine EF rfl (Oper.wp_callP fn_rational_whole rfl (whole_z _ n _ (E.2.1)) rfl E ?_)
    clear E
    intro w70 n70 s70 m70 t70 d70 E
    replace x1 := x1.below d70
    clear d70
    refine kw rfl ?_
    have F69 : FitQ ((n : Int) : Rat) 4000 := FitQ_int (by decide) Fn
    simp only [q2,q3]
    refine EF rfl (Oper.wp_store AgR rfl rfl rfl x1 rfl rfl (one4 (IsI.one (E.2.1)) (IsI.one (E.1))) ?_)
    intro w71 o71 y71
    replace E := (E.onl (x1.noW (now4 now0 now0)) ⟨trivial, trivial, okB (by omega), trivial, okW (by omega), trivial⟩ o71).x y71
    clear x1 o71 y71
    refine kn rfl ?_
    refine AC rfl rfl rfl rfl <| ?_
    simp only [q2,q3]
    refine WN ?_
    change Code.wp _ _ _ _ _
    refine wp_ret ?_
    have r72 := res_box AgR (E.1) rfl
    exact bodyPost_ret (v := .tuple #[.agg #[.bool n70, s70, .bool m70, t70], .int .i64 0]) (by simp [results, Tryz.results38, asAddr, r72]) rfl (.ok _ (by omega) (ba_ext (pq_whole hn)) ⟨_, _, _, _, rfl, E.2.2.1, E.2.1, e5 E⟩)
theorem bne_l' {a b : List UInt8} (h : a = b) : (a != b) = false := by rw [h]; simp
end Go.Proofs.YtndpjfhhigpbhaaGreat
