/- Walk: the law IntegerCanonical. (Printed by g_canon.py.) -/
import Derived.Test.YtjgmfdenicbniaaLawC
namespace Go.Proofs.Ytjgmfdenicbniaa
open Go.RowKit W
theorem eqI {w : World} {v : Value} {z z' : Int} (h : z = z') (f : IsI w v z) : IsI w v z' := h ▸ f
theorem abs_i {w : World} {n : Bool} {s : Value} {z : Int} (h : IsI w (.agg #[.bool n, s]) z) : IsI w (.agg #[.bool false, s]) (z.natAbs : Int) :=
  ⟨s, by rw [decide_eq_false (by omega)], by rw [Int.natAbs_natCast]; exact h.sl⟩
theorem run_buildIm {ρ : Operand → Value} {o : Oper} {w : World} {x : Operand} {v : Value} {ao : Option Addr} {n c : Nat} (ho : o.op = .build 24 #[(1, x)]) (hx : ρ x = v) (hv : v = .slice ao n c) : (execOp ρ o).run Try.prog w = .ok (.value (.agg #[.bool false, v])) w := by
  subst hv
  unfold execOp; rw [ho]
  have hi : (zeroValue 24).run Try.prog w = .ok (.agg #[.bool false, .slice none 0 0]) w := by kernel_rfl
  simp [go_sem, hi, hx]
theorem bne_f' {m n : Int} (h : m = n) : (m != n) = false := by subst h; simp
theorem run_maxI {ρ : Operand → Value} {o : Oper} {w : World} {x y : Operand} {k : IntKind} {m n c : Int} {tys : Array TypeId} (ho : o.op = .call { callee := .builtin .max, args := #[x, y], argTypes := tys }) (hx : ρ x = .int k m) (hy : ρ y = .int k n) (hc : (if m < n then n else m) = c) :
    (execOp ρ o).run Try.prog w = .ok (.value (.int k c)) w := by
  subst hc; unfold execOp; rw [ho]; simp [hx, hy, go_sem]; rw [Int.max_def]; split <;> split <;> omega
theorem run_neB {ρ : Operand → Value} {o : Oper} {w : World} {P : Program} {t t' : TypeId} {x y : Operand} {a b c : Bool} (ho : o.op = .binOp .neq t x y t') (hT : P.underlying t = some .bool) (hx : ρ x = .bool a) (hy : ρ y = .bool b) (hc : (a != b) = c) : (execOp ρ o).run P w = .ok (.value (.bool c)) w := by
  unfold execOp; rw [ho]; subst hc; simp [hx, hy, go_sem, run_neq_bool _ _ _ _ hT]; cases a <;> cases b <;> rfl
theorem run_eqB {ρ : Operand → Value} {o : Oper} {w : World} {P : Program} {t t' : TypeId} {x y : Operand} {a b c : Bool} (ho : o.op = .binOp .eql t x y t') (hT : P.underlying t = some .bool) (hx : ρ x = .bool a) (hy : ρ y = .bool b) (hc : (a == b) = c) : (execOp ρ o).run P w = .ok (.value (.bool c)) w := by
  unfold execOp; rw [ho]; subst hc; simp [hx, hy, go_sem, run_eql_bool _ _ _ _ hT]
theorem wrap_i64_nat {a : Nat} {X : Int} (hX : X = (a : Int)) (h : a < 9223372036854775808) : IntKind.i64.wrap X = (a : Int) := by subst hX; simp only [IntKind.wrap_i64]; omega
theorem Valid_is (n : Bool) (s : Value) (l : List Nat) (w : World) (h : Sl w s l) {c : Bool} (hc : validB n l = c) : Calls Try.prog 15 #[.agg #[.bool n, s]] w (RetB w c) := hc ▸ Valid_any n s l w h
theorem valid_0 (n : Bool) {l : List Nat} (h : l.length = 0) : validB n l = !n := by unfold validB; rw [if_pos h]
theorem valid_z (n : Bool) {l : List Nat} (h : ¬ l.length = 0) (hl : gd l (l.length - 1) = 0) : validB n l = false := by unfold validB; rw [if_neg h, hl]; rfl
theorem valid_nz (n : Bool) {l : List Nat} (h : ¬ l.length = 0) (hl : ¬ gd l (l.length - 1) = 0) : validB n l = true := by unfold validB; rw [if_neg h]; exact decide_eq_true hl
theorem canI {w : World} {n : Bool} {s : Value} {l : List Nat} (h : Sl w s l) (hv : validB n l = true) : IsI w (.agg #[.bool n, s]) (sgnI n (val l)) ∧ digs (sgnI n (val l)).natAbs = l := by
  have hd : digs (val l) = l := by
    refine digs_of_val h.wd ?_
    rcases List.eq_nil_or_concat l with e | ⟨a, x, e⟩
    · exact .inl e
    · refine .inr ?_
      subst e
      unfold validB at hv
      rw [if_neg (by simp)] at hv
      simp [gd] at hv
      simpa using hv
  rw [sgnI_abs]
  refine ⟨⟨s, ?_, by rw [sgnI_abs, hd]; exact h⟩, hd⟩
  by_cases e : val l = 0
  · have hl : l = [] := by rw [e, digs_zero] at hd; exact hd.symm
    subst hl
    have hn : n = false := by simpa [validB] using hv
    subst hn; rfl
  · rw [sgnI_lt n _ e]
theorem ne_len {l : List Nat} {za b : Int} (hd : digs za.natAbs = l) (h : ¬ l.length = (digs b.natAbs).length) : za ≠ b := by intro e; subst e; exact h (by rw [hd])
theorem ne_word {l : List Nat} {za b : Int} {i : Nat} (hd : digs za.natAbs = l) (h : ¬ gd l i = gd (digs b.natAbs) i) : za ≠ b := by intro e; subst e; exact h (by rw [hd])
theorem ne_sign {w : World} {n m : Bool} {s t : Value} {za b : Int} (ha : IsI w (.agg #[.bool n, s]) za) (hb : IsI w (.agg #[.bool m, t]) b) (h : ¬ n = m) : za ≠ b := by
  intro e; subst e; exact h (ha.sign.trans hb.sign.symm)
theorem eqSl {w : World} {v : Value} {l m : List Nat} (h : l = m) (f : Sl w v l) : Sl w v m := h ▸ f
theorem Sl.cell {w : World} {v : Value} {l : List Nat} {b off n c i : Nat} (h : Sl w v l) (hv : v = .slice (some ⟨b, off, none⟩) n c) (hi : i < l.length) : w.cell? ⟨b, off + i * 1, none⟩ = some (.int .u32 ((gd l i : Nat) : Int)) := by
  obtain ⟨b', off', c', hv', hc⟩ := Sl.at h hi
  rw [hv] at hv'
  injection hv' with h1 _ _
  injection h1 with h1
  injection h1 with h1 h2 _
  subst h1; subst h2; exact hc
theorem take_step {l m : List Nat} {i : Nat} (h : l.take i = m.take i) (hl : i < l.length) (hm : i < m.length) (hw : gd l i = gd m i) : l.take (i + 1) = m.take (i + 1) := by
  rw [gd_eq l i hl, gd_eq m i hm] at hw
  rw [List.take_add_one, List.take_add_one, h, List.getElem?_eq_getElem hl, List.getElem?_eq_getElem hm, hw]
theorem same_end {w : World} {n m : Bool} {s t : Value} {l : List Nat} {za b : Int} {i : Nat} (hd : digs za.natAbs = l) (ha : IsI w (.agg #[.bool n, s]) za) (hb : IsI w (.agg #[.bool m, t]) b)
    (h : n = m ∧ l.length = (digs b.natAbs).length ∧ l.take i = (digs b.natAbs).take i) (hi : i ≤ l.length) (hn : ¬ i < l.length) : za = b := by
  obtain ⟨h1, h2, h3⟩ := h
  rw [List.take_of_length_le (by omega), List.take_of_length_le (by omega)] at h3
  have h4 : za.natAbs = b.natAbs := by rw [← val_digs za.natAbs, hd, h3, val_digs]
  have h5 : decide (za < 0) = decide (b < 0) := ha.sign.symm.trans (h1.trans hb.sign)
  have h6 : za < 0 ↔ b < 0 := by simpa using h5
  omega
theorem cmpI_ne {x y : Int} (h : x ≠ y) : cmpI x y ≠ 0 := by
  rcases Int.lt_or_gt_of_ne h with e | e
  · rw [cmpI_lt e]; decide
  · rw [cmpI_gt e]; decide
set_option maxRecDepth 100000 in
set_option maxHeartbeats 8000000 in
theorem can_t (nA : Bool) (sA : Value) (lA : List Nat) (nb : Bool) (sb : Value) (lb : List Nat)  (w : World)  (hsA : Sl w sA lA) (hsb : Sl w sb lb) :
    Calls Try.prog 3 #[.agg #[.bool nA, sA], .agg #[.bool nb, sb]] w (RetB w true) := by
 have E := Env.start w
 obtain ⟨b, hb⟩ : ∃ z, mkI nb lb 40 = z := ⟨_, rfl⟩
 have Fb : Fits b 40 := by rw [← hb]; exact mkI_fits hsb.wd
 go_enter Try.func3, Try.ntmps3
 refine wp_seq ?_
 -- region 0
 refine wp_region_lit ?_
 refine L1 rfl (Oper.wp_box (cs := [.bool nA, sA]) rfl rfl ?_)
 intro b1 w1 e1 z1 d1 x1
 have l1 : w.heap.size ≤ b1 := by rw [e1]; exact (E.1).size
 replace E := E.below d1
 clear e1 z1 d1
 replace E := E.x x1
 clear x1
 simp only [Act.put,q1,q2,q3]
 refine L1 rfl (Oper.wp_box (cs := [.bool nb, sb]) rfl rfl ?_)
 intro b2 w2 e2 z2 d2 x2
 have l2_0 : b1 < b2 := by rw [e2]; exact Bx.lt (E.1)
 replace E := E.below d2
 clear e2 z2 d2
 replace E := E.x x2
 clear x2
 simp only [Act.put,q1,q2,q3]
 refine LV (v := .bool false) rfl (run_assign rfl rfl) ?_
 simp only [Act.put,q1,q2,q3]
 refine wpList_nil ?_
 change Code.wp _ _ _ _ _
 refine wp_seq ?_
 -- region 1
 refine wp_region_lit ?_
 refine L1 rfl (Oper.wp_callB fn_elaw01_sanity rfl (sanity_t _) rfl E ?_)
 clear E
 intro w3 d3 E
 clear d3
 simp only [Act.put,q1,q2,q3]
 refine LV (v := .bool true) rfl (run_assign rfl rfl) ?_
 simp only [Act.put,q1,q2,q3]
 refine wpList_nil ?_
 change Code.wp _ _ _ _ _
 refine wp_seq ?_
 refine wp_seq ?_
 -- region 2
 refine wp_region_lit ?_
 refine LV (v := .bool true) rfl (run_move rfl rfl) ?_
 simp only [Act.put,q1,q2,q3]
 refine LV (v := .bool false) rfl (run_not (b := true) rfl rfl) ?_
 simp only [Act.put,q1,q2,q3]
 refine wpList_nil ?_
 change Code.wp _ _ _ _ _
 refine wp_cond_false rfl ?_
 refine wp_skip ?_
 change Code.wp _ _ _ _ _
 refine wp_seq ?_
 obtain ⟨aoA, capA, hvA⟩ := Sl.shape hsA
 -- region 4
 refine wp_region_lit ?_
 refine LV (v := .pointer (some ⟨b1, 1, none⟩)) rfl (run_fieldI1 rfl rfl) ?_
 simp only [Act.put,q1,q2,q3]
 refine LV (v := sA) rfl (run_cell rfl isAgg_words rfl (E.2.1) rfl) ?_
 simp only [Act.put,q1,q2,q3]
 refine LV (v := .int .i64 ((lA.length : Nat) : Int)) rfl (run_len rfl hvA) ?_
 simp only [Act.put,q1,q2,q3]
 refine LV (v := .int .i64 ((lA.length : Nat) : Int)) rfl (run_assign rfl rfl) ?_
 simp only [Act.put,q1,q2,q3]
 refine wpList_nil ?_
 change Code.wp _ _ _ _ _
 refine wp_seq ?_
 refine wp_seq ?_
 by_cases h40 : 40 < lA.length
 case pos =>
  -- region 5
  refine wp_region_lit ?_
  refine LV (v := .int .i64 ((lA.length : Nat) : Int)) rfl (run_move rfl rfl) ?_
  simp only [Act.put,q1,q2,q3]
  refine LV (v := .bool true) rfl (run_gtI (c := true) rfl rfl rfl (by rw [decide_eq_true_eq]; omega)) ?_
  simp only [Act.put,q1,q2,q3]
  refine wpList_nil ?_
  change Code.wp _ _ _ _ _
  refine wp_cond_true rfl ?_
  refine wp_seq ?_
  -- region 6
  refine wp_region_lit ?_
  refine LV (v := .bool true) rfl (run_move rfl rfl) ?_
  simp only [Act.put,q1,q2,q3]
  refine LV (v := .bool true) rfl (run_assign rfl rfl) ?_
  simp only [Act.put,q1,q2,q3]
  refine wpList_nil ?_
  change Code.wp _ _ _ _ _
  refine wp_ret ?_
  exact bodyPost_ret (v := .bool true) (by simp [results, Try.results3, asAddr]) rfl ⟨rfl, E.2.2.1⟩
 case neg =>
  -- region 5
  refine wp_region_lit ?_
  refine LV (v := .int .i64 ((lA.length : Nat) : Int)) rfl (run_move rfl rfl) ?_
  simp only [Act.put,q1,q2,q3]
  refine LV (v := .bool false) rfl (run_gtI (c := false) rfl rfl rfl (by rw [decide_eq_false_iff_not]; omega)) ?_
  simp only [Act.put,q1,q2,q3]
  refine wpList_nil ?_
  change Code.wp _ _ _ _ _
  refine wp_cond_false rfl ?_
  refine wp_skip ?_
  change Code.wp _ _ _ _ _
  refine wp_seq ?_
  by_cases hl0 : lA.length = 0
  case pos =>
   by_cases hnA : nA = true
   case pos =>
    subst hnA
    -- region 7
    refine wp_region_lit ?_
    refine LV (v := .int .i64 ((lA.length : Nat) : Int)) rfl (run_move rfl rfl) ?_
    simp only [Act.put,q1,q2,q3]
    refine LV (v := .bool true) rfl (run_eqI (c := true) rfl rfl rfl (by rw [beq_iff_eq]; omega)) ?_
    simp only [Act.put,q1,q2,q3]
    refine LV (v := .bool true) rfl (run_move rfl rfl) ?_
    simp only [Act.put,q1,q2,q3]
    refine LV (v := .pointer (some ⟨b1, 0, none⟩)) rfl (run_fieldI0 rfl rfl) ?_
    simp only [Act.put,q1,q2,q3]
    refine LV (v := .bool true) rfl (run_cell rfl isAgg_bool rfl (E.2.1) rfl) ?_
    simp only [Act.put,q1,q2,q3]
    refine LV (v := .bool false) rfl (run_not (b := true) rfl rfl) ?_
    simp only [Act.put,q1,q2,q3]
    refine LV (v := .bool false) rfl (run_pick (b := true) rfl rfl rfl) ?_
    simp only [Act.put,q1,q2,q3]
    refine LV (v := .bool false) rfl (run_move rfl rfl) ?_
    simp only [Act.put,q1,q2,q3]
    refine LV (v := .int .i64 ((lA.length : Nat) : Int)) rfl (run_move rfl rfl) ?_
    simp only [Act.put,q1,q2,q3]
    refine LV (v := .bool false) rfl (run_gtI (c := false) rfl rfl rfl (by rw [decide_eq_false_iff_not]; omega)) ?_
    simp only [Act.put,q1,q2,q3]
    refine LV (v := .bool false) rfl (run_move rfl rfl) ?_
    simp only [Act.put,q1,q2,q3]
    have hzz := 1
    clear hzz
    refine L0 ?_ ?_
    · kernel_rfl
    simp only [Act.put,q1,q2,q3]
    have hzz := 1
    clear hzz
    refine L0 ?_ ?_
    · kernel_rfl
    simp only [Act.put,q1,q2,q3]
    have hzz := 1
    clear hzz
    refine L0 ?_ ?_
    · kernel_rfl
    simp only [Act.put,q1,q2,q3]
    have hzz := 1
    clear hzz
    refine L0 ?_ ?_
    · kernel_rfl
    simp only [Act.put,q1,q2,q3]
    have hzz := 1
    clear hzz
    refine L0 ?_ ?_
    · kernel_rfl
    simp only [Act.put,q1,q2,q3]
    have hzz := 1
    clear hzz
    refine L0 ?_ ?_
    · kernel_rfl
    simp only [Act.put,q1,q2,q3]
    have hzz := 1
    clear hzz
    refine L0 ?_ ?_
    · kernel_rfl
    simp only [Act.put,q1,q2,q3]
    have hzz := 1
    clear hzz
    refine L0 ?_ ?_
    · kernel_rfl
    simp only [Act.put,q1,q2,q3]
    refine LV (v := .bool false) rfl (run_pick (b := false) rfl rfl rfl) ?_
    simp only [Act.put,q1,q2,q3]
    refine LV (v := .bool false) rfl (run_pick (b := false) rfl rfl rfl) ?_
    simp only [Act.put,q1,q2,q3]
    refine LV (v := .bool false) rfl (run_assign rfl rfl) ?_
    simp only [Act.put,q1,q2,q3]
    refine wpList_nil ?_
    change Code.wp _ _ _ _ _
    refine wp_seq ?_
    -- region 8
    refine wp_region_lit ?_
    refine LV (v := .agg #[.bool nb, sb]) rfl (run_load_bx AgRaw rfl rfl (E.1) rfl) ?_
    simp only [Act.put,q1,q2,q3]
    refine L1 rfl (Oper.wp_callI fn_eref01_Made rfl (Made_is nb sb lb 40 _ (Sl.below hsb (E.2.2.1)) (by decide) hb) rfl E ?_)
    clear E
    intro w4 n4 s4 d4 E
    clear d4
    simp only [Act.put,q1,q2,q3]
    refine L1 rfl (Oper.wp_alloc AgI rfl ?_)
    intro b5 w5 e5 z5 d5 x5
    have l5_0 : b2 < b5 := by rw [e5]; exact Bx.lt (E.2.1)
    replace E := E.below d5
    clear e5 z5 d5
    simp only [Act.put,q1,q2,q3]
    refine L1 rfl (Oper.wp_store AgI rfl rfl rfl x5 rfl rfl (IsI.one (E.1)) ?_)
    intro w6 o6 y6
    replace E := (E.onl (x5.noW now0) ⟨trivial, okX (by omega), okX (by omega), okW (by omega), trivial⟩ o6).b y6
    clear x5 o6 y6
    simp only [Act.put]
    refine wpList_nil ?_
    change Code.wp _ _ _ _ _
    refine wp_seq ?_
    refine wp_seq ?_
    -- region 9
    refine wp_region_lit ?_
    refine LV (v := .agg #[.bool true, sA]) rfl (run_load_bx AgI rfl rfl (E.2.2.2.1) rfl) ?_
    simp only [Act.put,q1,q2,q3]
    refine L1 rfl (Oper.wp_callB fn_integer_Valid rfl (Valid_is _ _ lA _ (Sl.below hsA (E.2.2.2.2.1)) (valid_0 true hl0)) rfl E ?_)
    clear E
    intro w7 d7 E
    clear d7
    simp only [Act.put,q1,q2,q3]
    refine LV (v := .bool false) rfl (run_move rfl rfl) ?_
    simp only [Act.put,q1,q2,q3]
    refine LV (v := .bool false) rfl (run_neB (a := false) (b := false) rfl Try.underlying4 rfl rfl (rfl)) ?_
    simp only [Act.put,q1,q2,q3]
    refine LV (v := .bool false) rfl (run_move rfl rfl) ?_
    simp only [Act.put,q1,q2,q3]
    refine LV (v := .agg #[.bool n4, s4]) rfl (run_load_bx AgI rfl rfl (E.1) rfl) ?_
    simp only [Act.put,q1,q2,q3]
    refine L1 rfl (Oper.wp_callB fn_integer_Valid rfl (Valid_z _ b _ (E.2.1)) rfl E ?_)
    clear E
    intro w8 d8 E
    clear d8
    simp only [Act.put,q1,q2,q3]
    refine LV (v := .bool false) rfl (run_not (b := true) rfl rfl) ?_
    simp only [Act.put,q1,q2,q3]
    refine LV (v := .bool false) rfl (run_pick (b := false) rfl rfl rfl) ?_
    simp only [Act.put,q1,q2,q3]
    refine wpList_nil ?_
    change Code.wp _ _ _ _ _
    refine wp_cond_false rfl ?_
    refine wp_skip ?_
    change Code.wp _ _ _ _ _
    refine wp_seq ?_
    refine wp_seq ?_
    -- region 11
    refine wp_region_lit ?_
    refine LV (v := .bool false) rfl (run_move rfl rfl) ?_
    simp only [Act.put,q1,q2,q3]
    refine LV (v := .bool true) rfl (run_not (b := false) rfl rfl) ?_
    simp only [Act.put,q1,q2,q3]
    refine wpList_nil ?_
    change Code.wp _ _ _ _ _
    refine wp_cond_true rfl ?_
    refine wp_seq ?_
    -- region 12
    refine wp_region_lit ?_
    refine LV (v := .bool true) rfl (run_move rfl rfl) ?_
    simp only [Act.put,q1,q2,q3]
    refine LV (v := .bool true) rfl (run_assign rfl rfl) ?_
    simp only [Act.put,q1,q2,q3]
    refine wpList_nil ?_
    change Code.wp _ _ _ _ _
    refine wp_ret ?_
    exact bodyPost_ret (v := .bool true) (by simp [results, Try.results3, asAddr]) rfl ⟨rfl, E.2.2.2.2.1⟩
   case neg =>
    obtain rfl : nA = false := by simpa using hnA
    -- region 7
    refine wp_region_lit ?_
    refine LV (v := .int .i64 ((lA.length : Nat) : Int)) rfl (run_move rfl rfl) ?_
    simp only [Act.put,q1,q2,q3]
    refine LV (v := .bool true) rfl (run_eqI (c := true) rfl rfl rfl (by rw [beq_iff_eq]; omega)) ?_
    simp only [Act.put,q1,q2,q3]
    refine LV (v := .bool true) rfl (run_move rfl rfl) ?_
    simp only [Act.put,q1,q2,q3]
    refine LV (v := .pointer (some ⟨b1, 0, none⟩)) rfl (run_fieldI0 rfl rfl) ?_
    simp only [Act.put,q1,q2,q3]
    refine LV (v := .bool false) rfl (run_cell rfl isAgg_bool rfl (E.2.1) rfl) ?_
    simp only [Act.put,q1,q2,q3]
    refine LV (v := .bool true) rfl (run_not (b := false) rfl rfl) ?_
    simp only [Act.put,q1,q2,q3]
    refine LV (v := .bool true) rfl (run_pick (b := true) rfl rfl rfl) ?_
    simp only [Act.put,q1,q2,q3]
    refine LV (v := .bool true) rfl (run_move rfl rfl) ?_
    simp only [Act.put,q1,q2,q3]
    have hzz := 1
    clear hzz
    refine L0 ?_ ?_
    · kernel_rfl
    simp only [Act.put,q1,q2,q3]
    have hzz := 1
    clear hzz
    refine L0 ?_ ?_
    · kernel_rfl
    simp only [Act.put,q1,q2,q3]
    have hzz := 1
    clear hzz
    refine L0 ?_ ?_
    · kernel_rfl
    simp only [Act.put,q1,q2,q3]
    have hzz := 1
    clear hzz
    refine L0 ?_ ?_
    · kernel_rfl
    simp only [Act.put,q1,q2,q3]
    have hzz := 1
    clear hzz
    refine L0 ?_ ?_
    · kernel_rfl
    simp only [Act.put,q1,q2,q3]
    have hzz := 1
    clear hzz
    refine L0 ?_ ?_
    · kernel_rfl
    simp only [Act.put,q1,q2,q3]
    have hzz := 1
    clear hzz
    refine L0 ?_ ?_
    · kernel_rfl
    simp only [Act.put,q1,q2,q3]
    have hzz := 1
    clear hzz
    refine L0 ?_ ?_
    · kernel_rfl
    simp only [Act.put,q1,q2,q3]
    have hzz := 1
    clear hzz
    refine L0 ?_ ?_
    · kernel_rfl
    simp only [Act.put,q1,q2,q3]
    have hzz := 1
    clear hzz
    refine L0 ?_ ?_
    · kernel_rfl
    simp only [Act.put,q1,q2,q3]
    have hzz := 1
    clear hzz
    refine L0 ?_ ?_
    · kernel_rfl
    simp only [Act.put,q1,q2,q3]
    have hzz := 1
    clear hzz
    refine L0 ?_ ?_
    · kernel_rfl
    simp only [Act.put,q1,q2,q3]
    refine LV (v := .bool true) rfl (run_pick (b := true) rfl rfl rfl) ?_
    simp only [Act.put,q1,q2,q3]
    refine LV (v := .bool true) rfl (run_assign rfl rfl) ?_
    simp only [Act.put,q1,q2,q3]
    refine wpList_nil ?_
    change Code.wp _ _ _ _ _
    refine wp_seq ?_
    -- region 8
    refine wp_region_lit ?_
    refine LV (v := .agg #[.bool nb, sb]) rfl (run_load_bx AgRaw rfl rfl (E.1) rfl) ?_
    simp only [Act.put,q1,q2,q3]
    refine L1 rfl (Oper.wp_callI fn_eref01_Made rfl (Made_is nb sb lb 40 _ (Sl.below hsb (E.2.2.1)) (by decide) hb) rfl E ?_)
    clear E
    intro w9 n9 s9 d9 E
    clear d9
    simp only [Act.put,q1,q2,q3]
    refine L1 rfl (Oper.wp_alloc AgI rfl ?_)
    intro b10 w10 e10 z10 d10 x10
    have l10_0 : b2 < b10 := by rw [e10]; exact Bx.lt (E.2.1)
    replace E := E.below d10
    clear e10 z10 d10
    simp only [Act.put,q1,q2,q3]
    refine L1 rfl (Oper.wp_store AgI rfl rfl rfl x10 rfl rfl (IsI.one (E.1)) ?_)
    intro w11 o11 y11
    replace E := (E.onl (x10.noW now0) ⟨trivial, okX (by omega), okX (by omega), okW (by omega), trivial⟩ o11).b y11
    clear x10 o11 y11
    simp only [Act.put]
    refine wpList_nil ?_
    change Code.wp _ _ _ _ _
    refine wp_seq ?_
    refine wp_seq ?_
    -- region 9
    refine wp_region_lit ?_
    refine LV (v := .agg #[.bool false, sA]) rfl (run_load_bx AgI rfl rfl (E.2.2.2.1) rfl) ?_
    simp only [Act.put,q1,q2,q3]
    refine L1 rfl (Oper.wp_callB fn_integer_Valid rfl (Valid_is _ _ lA _ (Sl.below hsA (E.2.2.2.2.1)) (valid_0 false hl0)) rfl E ?_)
    clear E
    intro w12 d12 E
    clear d12
    simp only [Act.put,q1,q2,q3]
    refine LV (v := .bool true) rfl (run_move rfl rfl) ?_
    simp only [Act.put,q1,q2,q3]
    refine LV (v := .bool false) rfl (run_neB (a := true) (b := true) rfl Try.underlying4 rfl rfl (rfl)) ?_
    simp only [Act.put,q1,q2,q3]
    refine LV (v := .bool false) rfl (run_move rfl rfl) ?_
    simp only [Act.put,q1,q2,q3]
    refine LV (v := .agg #[.bool n9, s9]) rfl (run_load_bx AgI rfl rfl (E.1) rfl) ?_
    simp only [Act.put,q1,q2,q3]
    refine L1 rfl (Oper.wp_callB fn_integer_Valid rfl (Valid_z _ b _ (E.2.1)) rfl E ?_)
    clear E
    intro w13 d13 E
    clear d13
    simp only [Act.put,q1,q2,q3]
    refine LV (v := .bool false) rfl (run_not (b := true) rfl rfl) ?_
    simp only [Act.put,q1,q2,q3]
    refine LV (v := .bool false) rfl (run_pick (b := false) rfl rfl rfl) ?_
    simp only [Act.put,q1,q2,q3]
    refine wpList_nil ?_
    change Code.wp _ _ _ _ _
    refine wp_cond_false rfl ?_
    refine wp_skip ?_
    change Code.wp _ _ _ _ _
    refine wp_seq ?_
    refine wp_seq ?_
    -- region 11
    refine wp_region_lit ?_
    refine LV (v := .bool true) rfl (run_move rfl rfl) ?_
    simp only [Act.put,q1,q2,q3]
    refine LV (v := .bool false) rfl (run_not (b := true) rfl rfl) ?_
    simp only [Act.put,q1,q2,q3]
    refine wpList_nil ?_
    change Code.wp _ _ _ _ _
    refine wp_cond_false rfl ?_
    refine wp_skip ?_
    change Code.wp _ _ _ _ _
    refine wp_seq ?_
    obtain ⟨hIA, hdA⟩ := canI (Sl.below hsA (E.2.2.2.2.1)) (valid_0 false hl0)
    obtain ⟨za, hza⟩ : ∃ z, sgnI false (val lA) = z := ⟨_, rfl⟩
    rw [hza] at hIA hdA
    replace E := E.i hIA
    by_cases h1 : false = n9
    case pos =>
     by_cases h2 : lA.length = (digs b.natAbs).length
     case pos =>
      -- region 13
      refine wp_region_lit ?_
      refine LV (v := .pointer (some ⟨b1, 0, none⟩)) rfl (run_fieldI0 rfl rfl) ?_
      simp only [Act.put,q1,q2,q3]
      refine LV (v := .bool false) rfl (run_cell rfl isAgg_bool rfl (E.2.2.2.2.1) rfl) ?_
      simp only [Act.put,q1,q2,q3]
      refine LV (v := .pointer (some ⟨b10, 0, none⟩)) rfl (run_fieldI0 rfl rfl) ?_
      simp only [Act.put,q1,q2,q3]
      refine LV (v := .bool n9) rfl (run_cell rfl isAgg_bool rfl (E.2.1) rfl) ?_
      simp only [Act.put,q1,q2,q3]
      refine LV (v := .bool true) rfl (run_eqB (a := false) (b := n9) rfl Try.underlying4 rfl rfl (beq_iff_eq.2 h1)) ?_
      simp only [Act.put,q1,q2,q3]
      refine LV (v := .bool true) rfl (run_move rfl rfl) ?_
      simp only [Act.put,q1,q2,q3]
      refine LV (v := .int .i64 ((lA.length : Nat) : Int)) rfl (run_move rfl rfl) ?_
      simp only [Act.put,q1,q2,q3]
      refine LV (v := .pointer (some ⟨b10, 1, none⟩)) rfl (run_fieldI1 rfl rfl) ?_
      simp only [Act.put,q1,q2,q3]
      refine LV (v := s9) rfl (run_cell rfl isAgg_words rfl (E.2.1) rfl) ?_
      simp only [Act.put,q1,q2,q3]
      obtain ⟨ao14, cap14, hs14⟩ := IsI.slice (E.2.2.1)
      refine LV (v := .int .i64 (((digs b.natAbs).length : Nat) : Int)) rfl (run_len rfl hs14) ?_
      simp only [Act.put,q1,q2,q3]
      refine LV (v := .bool true) rfl (run_eqI (c := true) rfl rfl rfl (by rw [beq_iff_eq]; omega)) ?_
      simp only [Act.put,q1,q2,q3]
      refine LV (v := .bool true) rfl (run_pick (b := true) rfl rfl rfl) ?_
      simp only [Act.put,q1,q2,q3]
      refine LV (v := .bool true) rfl (run_assign rfl rfl) ?_
      simp only [Act.put,q1,q2,q3]
      refine wpList_nil ?_
      change Code.wp _ _ _ _ _
      refine wp_seq ?_
      refine wp_seq ?_
      -- region 14
      refine wp_region_lit ?_
      refine LV (v := .int .i64 0) rfl (run_assign rfl rfl) ?_
      simp only [Act.put,q1,q2,q3]
      refine wpList_nil ?_
      change Code.wp _ _ _ _ _
      refine wp_block ?_
      refine wp_loop_ghost (fun mz a w' => ∃ (i : Nat) (sm : Bool) (g67 g68 g69 g70 g71 g72 g73 g74 g75 g76 g77 g78 g79 g80 g81 g82 g83 g84 g85 : Value), a = ⟨#[.agg #[.bool false, sA], .agg #[.bool nb, sb], .pointer (some ⟨b1, 0, none⟩), .pointer (some ⟨b2, 0, none⟩), .bool false, .bool true, .int .i64 ((lA.length : Nat) : Int), .bool true, .pointer (some ⟨b10, 0, none⟩), .bool sm, .int .i64 ((i : Nat) : Int), .bool true, .bool true, .bool false, .pointer (some ⟨b1, 1, none⟩), sA, .int .i64 ((lA.length : Nat) : Int), .int .i64 ((lA.length : Nat) : Int), .bool false, undef, .int .i64 ((lA.length : Nat) : Int), .bool true, .bool true, .pointer (some ⟨b1, 0, none⟩), .bool false, .bool true, .bool true, .bool true, undef, undef, undef, undef, undef, undef, undef, undef, undef, undef, undef, undef, .bool true, .agg #[.bool nb, sb], .agg #[.bool n9, s9], .agg #[.bool false, sA], .bool true, .bool true, .bool false, .bool false, .agg #[.bool n9, s9], .bool true, .bool false, .bool false, .bool true, .bool false, undef, .pointer (some ⟨b1, 0, none⟩), .bool false, .pointer (some ⟨b10, 0, none⟩), .bool n9, .bool true, .bool true, .int .i64 ((lA.length : Nat) : Int), .pointer (some ⟨b10, 1, none⟩), s9, .int .i64 (((digs b.natAbs).length : Nat) : Int), .bool true, .bool true, g67, g68, g69, g70, g71, g72, g73, g74, g75, g76, g77, g78, g79, g80, g81, g82, g83, g84, g85, undef, undef, undef, undef, undef, undef, undef, undef, undef, undef, undef, undef, undef, undef, undef], []⟩ ∧ Env w' [fI (.agg #[.bool false, sA]) za, fB b10 n9 s9, fI (.agg #[.bool n9, s9]) b, fX b2 (25) ([.bool nb, sb]), fX b1 (24) ([.bool false, sA]), fW w] ∧ mz = lA.length - i ∧ (i ≤ lA.length ∧ (sm = true → false = n9 ∧ lA.length = (digs b.natAbs).length ∧ lA.take i = (digs b.natAbs).take i) ∧ (sm = false → za ≠ b))) (lA.length) ⟨0, true, _, _, _, _, _, _, _, _, _, _, _, _, _, _, _, _, _, _, _, rfl, (Env.i (Env.b (Env.i (Env.x (Env.x (Env.ww (Env.nil _) (E.2.2.2.2.2.1)) (E.2.2.2.2.1)) (E.2.2.2.1)) (E.2.2.1)) (E.2.1)) (E.1)), rfl, ⟨Nat.zero_le _, fun _ => ⟨h1, h2, rfl⟩, fun h => by cases h⟩⟩ ?_
      rintro m15 _ w15 ⟨i, sm, g67, g68, g69, g70, g71, g72, g73, g74, g75, g76, g77, g78, g79, g80, g81, g82, g83, g84, g85, rfl, E, hm15, hI15⟩
      obtain ⟨hI1, hI2, hI3⟩ := hI15
      by_cases hil : i < lA.length
      case pos =>
       by_cases hsm : sm = true
       case pos =>
        obtain ⟨hs1, hs2, hs3⟩ := hI2 hsm
        obtain ⟨gA, oA, cA, hvA3, _⟩ := Sl.at (i := i) (Sl.below hsA (E.2.2.2.2.2.1)) hil
        obtain ⟨gB, oB, cB, hvB3, _⟩ := Sl.at (i := i) (IsI.sl (E.2.2.1)) (by omega)
        by_cases hw : gd lA i = gd (digs b.natAbs) i
        case pos =>
         refine wp_seq ?_
         refine wp_seq ?_
         -- region 15
         refine wp_region_lit ?_
         refine LV (v := .int .i64 ((i : Nat) : Int)) rfl (run_move rfl rfl) ?_
         simp only [Act.put,q1,q2,q3]
         refine LV (v := .int .i64 ((lA.length : Nat) : Int)) rfl (run_move rfl rfl) ?_
         simp only [Act.put,q1,q2,q3]
         refine LV (v := .bool true) rfl (run_ltI (c := true) rfl rfl rfl (by rw [decide_eq_true_eq]; omega)) ?_
         simp only [Act.put,q1,q2,q3]
         refine LV (v := .bool true) rfl (run_move rfl rfl) ?_
         simp only [Act.put,q1,q2,q3]
         refine LV (v := .bool sm) rfl (run_move rfl rfl) ?_
         simp only [Act.put,q1,q2,q3]
         refine LV (v := .bool sm) rfl (run_pick (b := true) rfl rfl rfl) ?_
         simp only [Act.put,q1,q2,q3]
         refine wpList_nil ?_
         change Code.wp _ _ _ _ _
         refine wp_cond_true (congrArg Value.bool hsm) ?_
         refine wp_skip ?_
         change Code.wp _ _ _ _ _
         refine wp_seq ?_
         refine wp_block ?_
         -- region 17
         refine wp_schedE E ([0, 1, 2, 3, 4, 5, 6, 7, 8, 9, 10, 11]) (by kernel_rfl) (by kernel_rfl) (by kernel_rfl) (by kernel_rfl) (by intro d v c a w h; cases d <;> exact h) ?_
         replace E := E.drew
         refine SP (o := ⟨some 75, _, _, _, _, _⟩) (v := .pointer (some ⟨b1, 1, none⟩)) rfl rfl rfl rfl (fun w hS => run_fieldI1 rfl rfl) ?_
         simp only [Act.put,q1,q2,q3]
         refine SP (o := ⟨some 76, _, _, _, _, _⟩) (v := sA) rfl rfl rfl rfl (fun w hS => run_cell rfl isAgg_words rfl (hS.2.2.2.2.1) rfl) ?_
         simp only [Act.put,q1,q2,q3]
         refine SP (o := ⟨some 77, _, _, _, _, _⟩) (v := .int .i64 ((i : Nat) : Int)) rfl rfl rfl rfl (fun w hS => run_move rfl rfl) ?_
         simp only [Act.put,q1,q2,q3]
         refine SP (o := ⟨some 78, _, _, _, _, _⟩) (v := .pointer (some ⟨gA, oA + i * 1, none⟩)) rfl rfl rfl rfl (fun w hS => run_idx (j := i) rfl Try.underlying22 (by kernel_rfl) hvA3 rfl rfl hil) ?_
         simp only [Act.put,q1,q2,q3]
         refine SP (o := ⟨some 79, _, _, _, _, _⟩) (v := .int .u32 ((gd lA i : Nat) : Int)) rfl rfl rfl rfl (fun w hS => run_loadC rfl isAgg_u32 rfl (Sl.cell (eqSl hdA (IsI.sl (hS.1))) hvA3 hil)) ?_
         simp only [Act.put,q1,q2,q3]
         refine SP (o := ⟨some 80, _, _, _, _, _⟩) (v := .pointer (some ⟨b10, 1, none⟩)) rfl rfl rfl rfl (fun w hS => run_fieldI1 rfl rfl) ?_
         simp only [Act.put,q1,q2,q3]
         refine SP (o := ⟨some 81, _, _, _, _, _⟩) (v := s9) rfl rfl rfl rfl (fun w hS => run_cell rfl isAgg_words rfl (hS.2.1) rfl) ?_
         simp only [Act.put,q1,q2,q3]
         refine SP (o := ⟨some 82, _, _, _, _, _⟩) (v := .int .i64 ((i : Nat) : Int)) rfl rfl rfl rfl (fun w hS => run_move rfl rfl) ?_
         simp only [Act.put,q1,q2,q3]
         refine SP (o := ⟨some 83, _, _, _, _, _⟩) (v := .pointer (some ⟨gB, oB + i * 1, none⟩)) rfl rfl rfl rfl (fun w hS => run_idx (j := i) rfl Try.underlying22 (by kernel_rfl) hvB3 rfl rfl (by omega)) ?_
         simp only [Act.put,q1,q2,q3]
         refine SP (o := ⟨some 84, _, _, _, _, _⟩) (v := .int .u32 ((gd (digs b.natAbs) i : Nat) : Int)) rfl rfl rfl rfl (fun w hS => run_loadC rfl isAgg_u32 rfl (Sl.cell (IsI.sl (hS.2.2.1)) hvB3 (by omega))) ?_
         simp only [Act.put,q1,q2,q3]
         refine SP (o := ⟨some 85, _, _, _, _, _⟩) (v := .bool true) rfl rfl rfl rfl (fun w hS => run_eqI (c := true) rfl rfl rfl (by rw [beq_iff_eq, hw])) ?_
         simp only [Act.put,q1,q2,q3]
         refine SP (o := ⟨some 9, _, _, _, _, _⟩) (v := .bool true) rfl rfl rfl rfl (fun w hS => run_assign rfl rfl) ?_
         simp only [Act.put,q1,q2,q3]
         refine SN ?_
         change Code.wp _ _ _ _ _
         -- region 16
         refine wp_region_lit ?_
         refine LV (v := .int .i64 ((i : Nat) : Int)) rfl (run_move rfl rfl) ?_
         simp only [Act.put,q1,q2,q3]
         refine LV (v := .int .i64 ((i + 1 : Nat) : Int)) rfl (run_addI rfl rfl rfl (wrap_i64_nat (by omega) (by omega))) ?_
         simp only [Act.put,q1,q2,q3]
         refine LV (v := .int .i64 ((i + 1 : Nat) : Int)) rfl (run_assign rfl rfl) ?_
         simp only [Act.put,q1,q2,q3]
         refine wpList_nil ?_
         exact ⟨_, (by omega), i + 1, true, _, _, _, _, _, _, _, _, _, _, _, _, _, _, _, _, _, _, _, rfl, (Env.i (Env.b (Env.i (Env.x (Env.x (Env.ww (Env.nil _) (E.2.2.2.2.2.1)) (E.2.2.2.2.1)) (E.2.2.2.1)) (E.2.2.1)) (E.2.1)) (E.1)), rfl, ⟨by omega, fun _ => ⟨hs1, hs2, take_step hs3 hil (by omega) hw⟩, fun h => by cases h⟩⟩
        case neg =>
         refine wp_seq ?_
         refine wp_seq ?_
         -- region 15
         refine wp_region_lit ?_
         refine LV (v := .int .i64 ((i : Nat) : Int)) rfl (run_move rfl rfl) ?_
         simp only [Act.put,q1,q2,q3]
         refine LV (v := .int .i64 ((lA.length : Nat) : Int)) rfl (run_move rfl rfl) ?_
         simp only [Act.put,q1,q2,q3]
         refine LV (v := .bool true) rfl (run_ltI (c := true) rfl rfl rfl (by rw [decide_eq_true_eq]; omega)) ?_
         simp only [Act.put,q1,q2,q3]
         refine LV (v := .bool true) rfl (run_move rfl rfl) ?_
         simp only [Act.put,q1,q2,q3]
         refine LV (v := .bool sm) rfl (run_move rfl rfl) ?_
         simp only [Act.put,q1,q2,q3]
         refine LV (v := .bool sm) rfl (run_pick (b := true) rfl rfl rfl) ?_
         simp only [Act.put,q1,q2,q3]
         refine wpList_nil ?_
         change Code.wp _ _ _ _ _
         refine wp_cond_true (congrArg Value.bool hsm) ?_
         refine wp_skip ?_
         change Code.wp _ _ _ _ _
         refine wp_seq ?_
         refine wp_block ?_
         -- region 17
         refine wp_schedE E ([0, 1, 2, 3, 4, 5, 6, 7, 8, 9, 10, 11]) (by kernel_rfl) (by kernel_rfl) (by kernel_rfl) (by kernel_rfl) (by intro d v c a w h; cases d <;> exact h) ?_
         replace E := E.drew
         refine SP (o := ⟨some 75, _, _, _, _, _⟩) (v := .pointer (some ⟨b1, 1, none⟩)) rfl rfl rfl rfl (fun w hS => run_fieldI1 rfl rfl) ?_
         simp only [Act.put,q1,q2,q3]
         refine SP (o := ⟨some 76, _, _, _, _, _⟩) (v := sA) rfl rfl rfl rfl (fun w hS => run_cell rfl isAgg_words rfl (hS.2.2.2.2.1) rfl) ?_
         simp only [Act.put,q1,q2,q3]
         refine SP (o := ⟨some 77, _, _, _, _, _⟩) (v := .int .i64 ((i : Nat) : Int)) rfl rfl rfl rfl (fun w hS => run_move rfl rfl) ?_
         simp only [Act.put,q1,q2,q3]
         refine SP (o := ⟨some 78, _, _, _, _, _⟩) (v := .pointer (some ⟨gA, oA + i * 1, none⟩)) rfl rfl rfl rfl (fun w hS => run_idx (j := i) rfl Try.underlying22 (by kernel_rfl) hvA3 rfl rfl hil) ?_
         simp only [Act.put,q1,q2,q3]
         refine SP (o := ⟨some 79, _, _, _, _, _⟩) (v := .int .u32 ((gd lA i : Nat) : Int)) rfl rfl rfl rfl (fun w hS => run_loadC rfl isAgg_u32 rfl (Sl.cell (eqSl hdA (IsI.sl (hS.1))) hvA3 hil)) ?_
         simp only [Act.put,q1,q2,q3]
         refine SP (o := ⟨some 80, _, _, _, _, _⟩) (v := .pointer (some ⟨b10, 1, none⟩)) rfl rfl rfl rfl (fun w hS => run_fieldI1 rfl rfl) ?_
         simp only [Act.put,q1,q2,q3]
         refine SP (o := ⟨some 81, _, _, _, _, _⟩) (v := s9) rfl rfl rfl rfl (fun w hS => run_cell rfl isAgg_words rfl (hS.2.1) rfl) ?_
         simp only [Act.put,q1,q2,q3]
         refine SP (o := ⟨some 82, _, _, _, _, _⟩) (v := .int .i64 ((i : Nat) : Int)) rfl rfl rfl rfl (fun w hS => run_move rfl rfl) ?_
         simp only [Act.put,q1,q2,q3]
         refine SP (o := ⟨some 83, _, _, _, _, _⟩) (v := .pointer (some ⟨gB, oB + i * 1, none⟩)) rfl rfl rfl rfl (fun w hS => run_idx (j := i) rfl Try.underlying22 (by kernel_rfl) hvB3 rfl rfl (by omega)) ?_
         simp only [Act.put,q1,q2,q3]
         refine SP (o := ⟨some 84, _, _, _, _, _⟩) (v := .int .u32 ((gd (digs b.natAbs) i : Nat) : Int)) rfl rfl rfl rfl (fun w hS => run_loadC rfl isAgg_u32 rfl (Sl.cell (IsI.sl (hS.2.2.1)) hvB3 (by omega))) ?_
         simp only [Act.put,q1,q2,q3]
         refine SP (o := ⟨some 85, _, _, _, _, _⟩) (v := .bool false) rfl rfl rfl rfl (fun w hS => run_eqI (c := false) rfl rfl rfl (by rw [beq_eq_false_iff_ne]; omega)) ?_
         simp only [Act.put,q1,q2,q3]
         refine SP (o := ⟨some 9, _, _, _, _, _⟩) (v := .bool false) rfl rfl rfl rfl (fun w hS => run_assign rfl rfl) ?_
         simp only [Act.put,q1,q2,q3]
         refine SN ?_
         change Code.wp _ _ _ _ _
         -- region 16
         refine wp_region_lit ?_
         refine LV (v := .int .i64 ((i : Nat) : Int)) rfl (run_move rfl rfl) ?_
         simp only [Act.put,q1,q2,q3]
         refine LV (v := .int .i64 ((i + 1 : Nat) : Int)) rfl (run_addI rfl rfl rfl (wrap_i64_nat (by omega) (by omega))) ?_
         simp only [Act.put,q1,q2,q3]
         refine LV (v := .int .i64 ((i + 1 : Nat) : Int)) rfl (run_assign rfl rfl) ?_
         simp only [Act.put,q1,q2,q3]
         refine wpList_nil ?_
         exact ⟨_, (by omega), i + 1, false, _, _, _, _, _, _, _, _, _, _, _, _, _, _, _, _, _, _, _, rfl, (Env.i (Env.b (Env.i (Env.x (Env.x (Env.ww (Env.nil _) (E.2.2.2.2.2.1)) (E.2.2.2.2.1)) (E.2.2.2.1)) (E.2.2.1)) (E.2.1)) (E.1)), rfl, ⟨by omega, (fun h => by cases h), fun _ => ne_word hdA hw⟩⟩
       case neg =>
        refine wp_seq ?_
        refine wp_seq ?_
        -- region 15
        refine wp_region_lit ?_
        refine LV (v := .int .i64 ((i : Nat) : Int)) rfl (run_move rfl rfl) ?_
        simp only [Act.put,q1,q2,q3]
        refine LV (v := .int .i64 ((lA.length : Nat) : Int)) rfl (run_move rfl rfl) ?_
        simp only [Act.put,q1,q2,q3]
        refine LV (v := .bool true) rfl (run_ltI (c := true) rfl rfl rfl (by rw [decide_eq_true_eq]; omega)) ?_
        simp only [Act.put,q1,q2,q3]
        refine LV (v := .bool true) rfl (run_move rfl rfl) ?_
        simp only [Act.put,q1,q2,q3]
        refine LV (v := .bool sm) rfl (run_move rfl rfl) ?_
        simp only [Act.put,q1,q2,q3]
        refine LV (v := .bool sm) rfl (run_pick (b := true) rfl rfl rfl) ?_
        simp only [Act.put,q1,q2,q3]
        refine wpList_nil ?_
        change Code.wp _ _ _ _ _
        refine wp_cond_false (congrArg Value.bool (by simpa using hsm)) ?_
        refine wp_exit ?_
        change Code.wp _ _ _ _ _
        refine wp_seq ?_
        -- region 18
        refine wp_region_lit ?_
        refine LV (v := .bool true) rfl (run_move rfl rfl) ?_
        simp only [Act.put,q1,q2,q3]
        refine LV (v := .bool true) rfl (run_move rfl rfl) ?_
        simp only [Act.put,q1,q2,q3]
        refine LV (v := .agg #[.bool false, sA]) rfl (run_load_bx AgI rfl rfl (E.2.2.2.2.1) rfl) ?_
        simp only [Act.put,q1,q2,q3]
        refine LV (v := .agg #[.bool n9, s9]) rfl (run_load_bx AgI rfl rfl (E.2.1) rfl) ?_
        simp only [Act.put,q1,q2,q3]
        refine L1 rfl (Oper.wp_callN fn_integer_Cmp rfl (Cmp_z _ _ za b _ (E.1) (E.2.2.1)) rfl E ?_)
        clear E
        intro w16 d16 E
        clear d16
        simp only [Act.put,q1,q2,q3]
        refine LV (v := .bool false) rfl (run_eqI (c := false) rfl rfl rfl (beq_eq_false_iff_ne.2 (cmpI_ne (hI3 (by simpa using hsm))))) ?_
        simp only [Act.put,q1,q2,q3]
        refine LV (v := .bool sm) rfl (run_move rfl rfl) ?_
        simp only [Act.put,q1,q2,q3]
        refine LV (v := .bool true) rfl (run_eqB (a := false) (b := sm) rfl Try.underlying4 rfl rfl (by rw [Bool.eq_false_iff.2 hsm]; rfl)) ?_
        simp only [Act.put,q1,q2,q3]
        refine LV (v := .bool true) rfl (run_pick (b := true) rfl rfl rfl) ?_
        simp only [Act.put,q1,q2,q3]
        refine LV (v := .bool true) rfl (run_move rfl rfl) ?_
        simp only [Act.put,q1,q2,q3]
        refine LV (v := .agg #[.bool false, sA]) rfl (run_load_bx AgI rfl rfl (E.2.2.2.2.1) rfl) ?_
        simp only [Act.put,q1,q2,q3]
        refine LV (v := .agg #[.bool false, sA]) rfl (run_load_bx AgI rfl rfl (E.2.2.2.2.1) rfl) ?_
        simp only [Act.put,q1,q2,q3]
        refine L1 rfl (Oper.wp_callN fn_integer_Cmp rfl (Cmp_z _ _ za za _ (E.1) (E.1)) rfl E ?_)
        clear E
        intro w17 d17 E
        clear d17
        simp only [Act.put,q1,q2,q3]
        refine LV (v := .bool true) rfl (run_eqI (c := true) rfl rfl rfl (beq_iff_eq.2 (cmpI_eq rfl))) ?_
        simp only [Act.put,q1,q2,q3]
        refine LV (v := .bool true) rfl (run_pick (b := true) rfl rfl rfl) ?_
        simp only [Act.put,q1,q2,q3]
        refine LV (v := .bool true) rfl (run_assign rfl rfl) ?_
        simp only [Act.put,q1,q2,q3]
        refine wpList_nil ?_
        change Code.wp _ _ _ _ _
        refine wp_ret ?_
        exact bodyPost_ret (v := .bool true) (by simp [results, Try.results3, asAddr]) rfl ⟨rfl, E.2.2.2.2.2.1⟩
      case neg =>
       by_cases hsm : sm = true
       case pos =>
        have hEq : za = b := same_end hdA (E.1) (E.2.2.1) (hI2 hsm) hI1 hil
        refine wp_seq ?_
        refine wp_seq ?_
        -- region 15
        refine wp_region_lit ?_
        refine LV (v := .int .i64 ((i : Nat) : Int)) rfl (run_move rfl rfl) ?_
        simp only [Act.put,q1,q2,q3]
        refine LV (v := .int .i64 ((lA.length : Nat) : Int)) rfl (run_move rfl rfl) ?_
        simp only [Act.put,q1,q2,q3]
        refine LV (v := .bool false) rfl (run_ltI (c := false) rfl rfl rfl (by rw [decide_eq_false_iff_not]; omega)) ?_
        simp only [Act.put,q1,q2,q3]
        refine LV (v := .bool false) rfl (run_move rfl rfl) ?_
        simp only [Act.put,q1,q2,q3]
        have hzz := 1
        clear hzz
        refine L0 ?_ ?_
        · kernel_rfl
        simp only [Act.put,q1,q2,q3]
        refine LV (v := .bool false) rfl (run_pick (b := false) rfl rfl rfl) ?_
        simp only [Act.put,q1,q2,q3]
        refine wpList_nil ?_
        change Code.wp _ _ _ _ _
        refine wp_cond_false rfl ?_
        refine wp_exit ?_
        change Code.wp _ _ _ _ _
        refine wp_seq ?_
        -- region 18
        refine wp_region_lit ?_
        refine LV (v := .bool true) rfl (run_move rfl rfl) ?_
        simp only [Act.put,q1,q2,q3]
        refine LV (v := .bool true) rfl (run_move rfl rfl) ?_
        simp only [Act.put,q1,q2,q3]
        refine LV (v := .agg #[.bool false, sA]) rfl (run_load_bx AgI rfl rfl (E.2.2.2.2.1) rfl) ?_
        simp only [Act.put,q1,q2,q3]
        refine LV (v := .agg #[.bool n9, s9]) rfl (run_load_bx AgI rfl rfl (E.2.1) rfl) ?_
        simp only [Act.put,q1,q2,q3]
        refine L1 rfl (Oper.wp_callN fn_integer_Cmp rfl (Cmp_z _ _ za b _ (E.1) (E.2.2.1)) rfl E ?_)
        clear E
        intro w18 d18 E
        clear d18
        simp only [Act.put,q1,q2,q3]
        refine LV (v := .bool true) rfl (run_eqI (c := true) rfl rfl rfl (beq_iff_eq.2 (cmpI_eq hEq))) ?_
        simp only [Act.put,q1,q2,q3]
        refine LV (v := .bool sm) rfl (run_move rfl rfl) ?_
        simp only [Act.put,q1,q2,q3]
        refine LV (v := .bool true) rfl (run_eqB (a := true) (b := sm) rfl Try.underlying4 rfl rfl (by rw [hsm]; rfl)) ?_
        simp only [Act.put,q1,q2,q3]
        refine LV (v := .bool true) rfl (run_pick (b := true) rfl rfl rfl) ?_
        simp only [Act.put,q1,q2,q3]
        refine LV (v := .bool true) rfl (run_move rfl rfl) ?_
        simp only [Act.put,q1,q2,q3]
        refine LV (v := .agg #[.bool false, sA]) rfl (run_load_bx AgI rfl rfl (E.2.2.2.2.1) rfl) ?_
        simp only [Act.put,q1,q2,q3]
        refine LV (v := .agg #[.bool false, sA]) rfl (run_load_bx AgI rfl rfl (E.2.2.2.2.1) rfl) ?_
        simp only [Act.put,q1,q2,q3]
        refine L1 rfl (Oper.wp_callN fn_integer_Cmp rfl (Cmp_z _ _ za za _ (E.1) (E.1)) rfl E ?_)
        clear E
        intro w19 d19 E
        clear d19
        simp only [Act.put,q1,q2,q3]
        refine LV (v := .bool true) rfl (run_eqI (c := true) rfl rfl rfl (beq_iff_eq.2 (cmpI_eq rfl))) ?_
        simp only [Act.put,q1,q2,q3]
        refine LV (v := .bool true) rfl (run_pick (b := true) rfl rfl rfl) ?_
        simp only [Act.put,q1,q2,q3]
        refine LV (v := .bool true) rfl (run_assign rfl rfl) ?_
        simp only [Act.put,q1,q2,q3]
        refine wpList_nil ?_
        change Code.wp _ _ _ _ _
        refine wp_ret ?_
        exact bodyPost_ret (v := .bool true) (by simp [results, Try.results3, asAddr]) rfl ⟨rfl, E.2.2.2.2.2.1⟩
       case neg =>
        refine wp_seq ?_
        refine wp_seq ?_
        -- region 15
        refine wp_region_lit ?_
        refine LV (v := .int .i64 ((i : Nat) : Int)) rfl (run_move rfl rfl) ?_
        simp only [Act.put,q1,q2,q3]
        refine LV (v := .int .i64 ((lA.length : Nat) : Int)) rfl (run_move rfl rfl) ?_
        simp only [Act.put,q1,q2,q3]
        refine LV (v := .bool false) rfl (run_ltI (c := false) rfl rfl rfl (by rw [decide_eq_false_iff_not]; omega)) ?_
        simp only [Act.put,q1,q2,q3]
        refine LV (v := .bool false) rfl (run_move rfl rfl) ?_
        simp only [Act.put,q1,q2,q3]
        have hzz := 1
        clear hzz
        refine L0 ?_ ?_
        · kernel_rfl
        simp only [Act.put,q1,q2,q3]
        refine LV (v := .bool false) rfl (run_pick (b := false) rfl rfl rfl) ?_
        simp only [Act.put,q1,q2,q3]
        refine wpList_nil ?_
        change Code.wp _ _ _ _ _
        refine wp_cond_false rfl ?_
        refine wp_exit ?_
        change Code.wp _ _ _ _ _
        refine wp_seq ?_
        -- region 18
        refine wp_region_lit ?_
        refine LV (v := .bool true) rfl (run_move rfl rfl) ?_
        simp only [Act.put,q1,q2,q3]
        refine LV (v := .bool true) rfl (run_move rfl rfl) ?_
        simp only [Act.put,q1,q2,q3]
        refine LV (v := .agg #[.bool false, sA]) rfl (run_load_bx AgI rfl rfl (E.2.2.2.2.1) rfl) ?_
        simp only [Act.put,q1,q2,q3]
        refine LV (v := .agg #[.bool n9, s9]) rfl (run_load_bx AgI rfl rfl (E.2.1) rfl) ?_
        simp only [Act.put,q1,q2,q3]
        refine L1 rfl (Oper.wp_callN fn_integer_Cmp rfl (Cmp_z _ _ za b _ (E.1) (E.2.2.1)) rfl E ?_)
        clear E
        intro w20 d20 E
        clear d20
        simp only [Act.put,q1,q2,q3]
        refine LV (v := .bool false) rfl (run_eqI (c := false) rfl rfl rfl (beq_eq_false_iff_ne.2 (cmpI_ne (hI3 (by simpa using hsm))))) ?_
        simp only [Act.put,q1,q2,q3]
        refine LV (v := .bool sm) rfl (run_move rfl rfl) ?_
        simp only [Act.put,q1,q2,q3]
        refine LV (v := .bool true) rfl (run_eqB (a := false) (b := sm) rfl Try.underlying4 rfl rfl (by rw [Bool.eq_false_iff.2 hsm]; rfl)) ?_
        simp only [Act.put,q1,q2,q3]
        refine LV (v := .bool true) rfl (run_pick (b := true) rfl rfl rfl) ?_
        simp only [Act.put,q1,q2,q3]
        refine LV (v := .bool true) rfl (run_move rfl rfl) ?_
        simp only [Act.put,q1,q2,q3]
        refine LV (v := .agg #[.bool false, sA]) rfl (run_load_bx AgI rfl rfl (E.2.2.2.2.1) rfl) ?_
        simp only [Act.put,q1,q2,q3]
        refine LV (v := .agg #[.bool false, sA]) rfl (run_load_bx AgI rfl rfl (E.2.2.2.2.1) rfl) ?_
        simp only [Act.put,q1,q2,q3]
        refine L1 rfl (Oper.wp_callN fn_integer_Cmp rfl (Cmp_z _ _ za za _ (E.1) (E.1)) rfl E ?_)
        clear E
        intro w21 d21 E
        clear d21
        simp only [Act.put,q1,q2,q3]
        refine LV (v := .bool true) rfl (run_eqI (c := true) rfl rfl rfl (beq_iff_eq.2 (cmpI_eq rfl))) ?_
        simp only [Act.put,q1,q2,q3]
        refine LV (v := .bool true) rfl (run_pick (b := true) rfl rfl rfl) ?_
        simp only [Act.put,q1,q2,q3]
        refine LV (v := .bool true) rfl (run_assign rfl rfl) ?_
        simp only [Act.put,q1,q2,q3]
        refine wpList_nil ?_
        change Code.wp _ _ _ _ _
        refine wp_ret ?_
        exact bodyPost_ret (v := .bool true) (by simp [results, Try.results3, asAddr]) rfl ⟨rfl, E.2.2.2.2.2.1⟩
     case neg =>
      -- region 13
      refine wp_region_lit ?_
      refine LV (v := .pointer (some ⟨b1, 0, none⟩)) rfl (run_fieldI0 rfl rfl) ?_
      simp only [Act.put,q1,q2,q3]
      refine LV (v := .bool false) rfl (run_cell rfl isAgg_bool rfl (E.2.2.2.2.1) rfl) ?_
      simp only [Act.put,q1,q2,q3]
      refine LV (v := .pointer (some ⟨b10, 0, none⟩)) rfl (run_fieldI0 rfl rfl) ?_
      simp only [Act.put,q1,q2,q3]
      refine LV (v := .bool n9) rfl (run_cell rfl isAgg_bool rfl (E.2.1) rfl) ?_
      simp only [Act.put,q1,q2,q3]
      refine LV (v := .bool true) rfl (run_eqB (a := false) (b := n9) rfl Try.underlying4 rfl rfl (beq_iff_eq.2 h1)) ?_
      simp only [Act.put,q1,q2,q3]
      refine LV (v := .bool true) rfl (run_move rfl rfl) ?_
      simp only [Act.put,q1,q2,q3]
      refine LV (v := .int .i64 ((lA.length : Nat) : Int)) rfl (run_move rfl rfl) ?_
      simp only [Act.put,q1,q2,q3]
      refine LV (v := .pointer (some ⟨b10, 1, none⟩)) rfl (run_fieldI1 rfl rfl) ?_
      simp only [Act.put,q1,q2,q3]
      refine LV (v := s9) rfl (run_cell rfl isAgg_words rfl (E.2.1) rfl) ?_
      simp only [Act.put,q1,q2,q3]
      obtain ⟨ao22, cap22, hs22⟩ := IsI.slice (E.2.2.1)
      refine LV (v := .int .i64 (((digs b.natAbs).length : Nat) : Int)) rfl (run_len rfl hs22) ?_
      simp only [Act.put,q1,q2,q3]
      refine LV (v := .bool false) rfl (run_eqI (c := false) rfl rfl rfl (by rw [beq_eq_false_iff_ne]; omega)) ?_
      simp only [Act.put,q1,q2,q3]
      refine LV (v := .bool false) rfl (run_pick (b := true) rfl rfl rfl) ?_
      simp only [Act.put,q1,q2,q3]
      refine LV (v := .bool false) rfl (run_assign rfl rfl) ?_
      simp only [Act.put,q1,q2,q3]
      refine wpList_nil ?_
      change Code.wp _ _ _ _ _
      refine wp_seq ?_
      refine wp_seq ?_
      -- region 14
      refine wp_region_lit ?_
      refine LV (v := .int .i64 0) rfl (run_assign rfl rfl) ?_
      simp only [Act.put,q1,q2,q3]
      refine wpList_nil ?_
      change Code.wp _ _ _ _ _
      refine wp_block ?_
      refine wp_loop_ghost (fun mz a w' => ∃ (i : Nat) (sm : Bool) (g67 g68 g69 g70 g71 g72 g73 g74 g75 g76 g77 g78 g79 g80 g81 g82 g83 g84 g85 : Value), a = ⟨#[.agg #[.bool false, sA], .agg #[.bool nb, sb], .pointer (some ⟨b1, 0, none⟩), .pointer (some ⟨b2, 0, none⟩), .bool false, .bool true, .int .i64 ((lA.length : Nat) : Int), .bool true, .pointer (some ⟨b10, 0, none⟩), .bool sm, .int .i64 ((i : Nat) : Int), .bool true, .bool true, .bool false, .pointer (some ⟨b1, 1, none⟩), sA, .int .i64 ((lA.length : Nat) : Int), .int .i64 ((lA.length : Nat) : Int), .bool false, undef, .int .i64 ((lA.length : Nat) : Int), .bool true, .bool true, .pointer (some ⟨b1, 0, none⟩), .bool false, .bool true, .bool true, .bool true, undef, undef, undef, undef, undef, undef, undef, undef, undef, undef, undef, undef, .bool true, .agg #[.bool nb, sb], .agg #[.bool n9, s9], .agg #[.bool false, sA], .bool true, .bool true, .bool false, .bool false, .agg #[.bool n9, s9], .bool true, .bool false, .bool false, .bool true, .bool false, undef, .pointer (some ⟨b1, 0, none⟩), .bool false, .pointer (some ⟨b10, 0, none⟩), .bool n9, .bool true, .bool true, .int .i64 ((lA.length : Nat) : Int), .pointer (some ⟨b10, 1, none⟩), s9, .int .i64 (((digs b.natAbs).length : Nat) : Int), .bool false, .bool false, g67, g68, g69, g70, g71, g72, g73, g74, g75, g76, g77, g78, g79, g80, g81, g82, g83, g84, g85, undef, undef, undef, undef, undef, undef, undef, undef, undef, undef, undef, undef, undef, undef, undef], []⟩ ∧ Env w' [fI (.agg #[.bool false, sA]) za, fB b10 n9 s9, fI (.agg #[.bool n9, s9]) b, fX b2 (25) ([.bool nb, sb]), fX b1 (24) ([.bool false, sA]), fW w] ∧ mz = lA.length - i ∧ (i ≤ lA.length ∧ (sm = true → false = n9 ∧ lA.length = (digs b.natAbs).length ∧ lA.take i = (digs b.natAbs).take i) ∧ (sm = false → za ≠ b))) (lA.length) ⟨0, false, _, _, _, _, _, _, _, _, _, _, _, _, _, _, _, _, _, _, _, rfl, (Env.i (Env.b (Env.i (Env.x (Env.x (Env.ww (Env.nil _) (E.2.2.2.2.2.1)) (E.2.2.2.2.1)) (E.2.2.2.1)) (E.2.2.1)) (E.2.1)) (E.1)), rfl, ⟨Nat.zero_le _, (fun h => by cases h), fun _ => ne_len hdA h2⟩⟩ ?_
      rintro m23 _ w23 ⟨i, sm, g67, g68, g69, g70, g71, g72, g73, g74, g75, g76, g77, g78, g79, g80, g81, g82, g83, g84, g85, rfl, E, hm23, hI23⟩
      obtain ⟨hI1, hI2, hI3⟩ := hI23
      by_cases hil : i < lA.length
      case pos =>
       by_cases hsm : sm = true
       case pos =>
        obtain ⟨hs1, hs2, hs3⟩ := hI2 hsm
        obtain ⟨gA, oA, cA, hvA3, _⟩ := Sl.at (i := i) (Sl.below hsA (E.2.2.2.2.2.1)) hil
        obtain ⟨gB, oB, cB, hvB3, _⟩ := Sl.at (i := i) (IsI.sl (E.2.2.1)) (by omega)
        by_cases hw : gd lA i = gd (digs b.natAbs) i
        case pos =>
         refine wp_seq ?_
         refine wp_seq ?_
         -- region 15
         refine wp_region_lit ?_
         refine LV (v := .int .i64 ((i : Nat) : Int)) rfl (run_move rfl rfl) ?_
         simp only [Act.put,q1,q2,q3]
         refine LV (v := .int .i64 ((lA.length : Nat) : Int)) rfl (run_move rfl rfl) ?_
         simp only [Act.put,q1,q2,q3]
         refine LV (v := .bool true) rfl (run_ltI (c := true) rfl rfl rfl (by rw [decide_eq_true_eq]; omega)) ?_
         simp only [Act.put,q1,q2,q3]
         refine LV (v := .bool true) rfl (run_move rfl rfl) ?_
         simp only [Act.put,q1,q2,q3]
         refine LV (v := .bool sm) rfl (run_move rfl rfl) ?_
         simp only [Act.put,q1,q2,q3]
         refine LV (v := .bool sm) rfl (run_pick (b := true) rfl rfl rfl) ?_
         simp only [Act.put,q1,q2,q3]
         refine wpList_nil ?_
         change Code.wp _ _ _ _ _
         refine wp_cond_true (congrArg Value.bool hsm) ?_
         refine wp_skip ?_
         change Code.wp _ _ _ _ _
         refine wp_seq ?_
         refine wp_block ?_
         -- region 17
         refine wp_schedE E ([0, 1, 2, 3, 4, 5, 6, 7, 8, 9, 10, 11]) (by kernel_rfl) (by kernel_rfl) (by kernel_rfl) (by kernel_rfl) (by intro d v c a w h; cases d <;> exact h) ?_
         replace E := E.drew
         refine SP (o := ⟨some 75, _, _, _, _, _⟩) (v := .pointer (some ⟨b1, 1, none⟩)) rfl rfl rfl rfl (fun w hS => run_fieldI1 rfl rfl) ?_
         simp only [Act.put,q1,q2,q3]
         refine SP (o := ⟨some 76, _, _, _, _, _⟩) (v := sA) rfl rfl rfl rfl (fun w hS => run_cell rfl isAgg_words rfl (hS.2.2.2.2.1) rfl) ?_
         simp only [Act.put,q1,q2,q3]
         refine SP (o := ⟨some 77, _, _, _, _, _⟩) (v := .int .i64 ((i : Nat) : Int)) rfl rfl rfl rfl (fun w hS => run_move rfl rfl) ?_
         simp only [Act.put,q1,q2,q3]
         refine SP (o := ⟨some 78, _, _, _, _, _⟩) (v := .pointer (some ⟨gA, oA + i * 1, none⟩)) rfl rfl rfl rfl (fun w hS => run_idx (j := i) rfl Try.underlying22 (by kernel_rfl) hvA3 rfl rfl hil) ?_
         simp only [Act.put,q1,q2,q3]
         refine SP (o := ⟨some 79, _, _, _, _, _⟩) (v := .int .u32 ((gd lA i : Nat) : Int)) rfl rfl rfl rfl (fun w hS => run_loadC rfl isAgg_u32 rfl (Sl.cell (eqSl hdA (IsI.sl (hS.1))) hvA3 hil)) ?_
         simp only [Act.put,q1,q2,q3]
         refine SP (o := ⟨some 80, _, _, _, _, _⟩) (v := .pointer (some ⟨b10, 1, none⟩)) rfl rfl rfl rfl (fun w hS => run_fieldI1 rfl rfl) ?_
         simp only [Act.put,q1,q2,q3]
         refine SP (o := ⟨some 81, _, _, _, _, _⟩) (v := s9) rfl rfl rfl rfl (fun w hS => run_cell rfl isAgg_words rfl (hS.2.1) rfl) ?_
         simp only [Act.put,q1,q2,q3]
         refine SP (o := ⟨some 82, _, _, _, _, _⟩) (v := .int .i64 ((i : Nat) : Int)) rfl rfl rfl rfl (fun w hS => run_move rfl rfl) ?_
         simp only [Act.put,q1,q2,q3]
         refine SP (o := ⟨some 83, _, _, _, _, _⟩) (v := .pointer (some ⟨gB, oB + i * 1, none⟩)) rfl rfl rfl rfl (fun w hS => run_idx (j := i) rfl Try.underlying22 (by kernel_rfl) hvB3 rfl rfl (by omega)) ?_
         simp only [Act.put,q1,q2,q3]
         refine SP (o := ⟨some 84, _, _, _, _, _⟩) (v := .int .u32 ((gd (digs b.natAbs) i : Nat) : Int)) rfl rfl rfl rfl (fun w hS => run_loadC rfl isAgg_u32 rfl (Sl.cell (IsI.sl (hS.2.2.1)) hvB3 (by omega))) ?_
         simp only [Act.put,q1,q2,q3]
         refine SP (o := ⟨some 85, _, _, _, _, _⟩) (v := .bool true) rfl rfl rfl rfl (fun w hS => run_eqI (c := true) rfl rfl rfl (by rw [beq_iff_eq, hw])) ?_
         simp only [Act.put,q1,q2,q3]
         refine SP (o := ⟨some 9, _, _, _, _, _⟩) (v := .bool true) rfl rfl rfl rfl (fun w hS => run_assign rfl rfl) ?_
         simp only [Act.put,q1,q2,q3]
         refine SN ?_
         change Code.wp _ _ _ _ _
         -- region 16
         refine wp_region_lit ?_
         refine LV (v := .int .i64 ((i : Nat) : Int)) rfl (run_move rfl rfl) ?_
         simp only [Act.put,q1,q2,q3]
         refine LV (v := .int .i64 ((i + 1 : Nat) : Int)) rfl (run_addI rfl rfl rfl (wrap_i64_nat (by omega) (by omega))) ?_
         simp only [Act.put,q1,q2,q3]
         refine LV (v := .int .i64 ((i + 1 : Nat) : Int)) rfl (run_assign rfl rfl) ?_
         simp only [Act.put,q1,q2,q3]
         refine wpList_nil ?_
         exact ⟨_, (by omega), i + 1, true, _, _, _, _, _, _, _, _, _, _, _, _, _, _, _, _, _, _, _, rfl, (Env.i (Env.b (Env.i (Env.x (Env.x (Env.ww (Env.nil _) (E.2.2.2.2.2.1)) (E.2.2.2.2.1)) (E.2.2.2.1)) (E.2.2.1)) (E.2.1)) (E.1)), rfl, ⟨by omega, fun _ => ⟨hs1, hs2, take_step hs3 hil (by omega) hw⟩, fun h => by cases h⟩⟩
        case neg =>
         refine wp_seq ?_
         refine wp_seq ?_
         -- region 15
         refine wp_region_lit ?_
         refine LV (v := .int .i64 ((i : Nat) : Int)) rfl (run_move rfl rfl) ?_
         simp only [Act.put,q1,q2,q3]
         refine LV (v := .int .i64 ((lA.length : Nat) : Int)) rfl (run_move rfl rfl) ?_
         simp only [Act.put,q1,q2,q3]
         refine LV (v := .bool true) rfl (run_ltI (c := true) rfl rfl rfl (by rw [decide_eq_true_eq]; omega)) ?_
         simp only [Act.put,q1,q2,q3]
         refine LV (v := .bool true) rfl (run_move rfl rfl) ?_
         simp only [Act.put,q1,q2,q3]
         refine LV (v := .bool sm) rfl (run_move rfl rfl) ?_
         simp only [Act.put,q1,q2,q3]
         refine LV (v := .bool sm) rfl (run_pick (b := true) rfl rfl rfl) ?_
         simp only [Act.put,q1,q2,q3]
         refine wpList_nil ?_
         change Code.wp _ _ _ _ _
         refine wp_cond_true (congrArg Value.bool hsm) ?_
         refine wp_skip ?_
         change Code.wp _ _ _ _ _
         refine wp_seq ?_
         refine wp_block ?_
         -- region 17
         refine wp_schedE E ([0, 1, 2, 3, 4, 5, 6, 7, 8, 9, 10, 11]) (by kernel_rfl) (by kernel_rfl) (by kernel_rfl) (by kernel_rfl) (by intro d v c a w h; cases d <;> exact h) ?_
         replace E := E.drew
         refine SP (o := ⟨some 75, _, _, _, _, _⟩) (v := .pointer (some ⟨b1, 1, none⟩)) rfl rfl rfl rfl (fun w hS => run_fieldI1 rfl rfl) ?_
         simp only [Act.put,q1,q2,q3]
         refine SP (o := ⟨some 76, _, _, _, _, _⟩) (v := sA) rfl rfl rfl rfl (fun w hS => run_cell rfl isAgg_words rfl (hS.2.2.2.2.1) rfl) ?_
         simp only [Act.put,q1,q2,q3]
         refine SP (o := ⟨some 77, _, _, _, _, _⟩) (v := .int .i64 ((i : Nat) : Int)) rfl rfl rfl rfl (fun w hS => run_move rfl rfl) ?_
         simp only [Act.put,q1,q2,q3]
         refine SP (o := ⟨some 78, _, _, _, _, _⟩) (v := .pointer (some ⟨gA, oA + i * 1, none⟩)) rfl rfl rfl rfl (fun w hS => run_idx (j := i) rfl Try.underlying22 (by kernel_rfl) hvA3 rfl rfl hil) ?_
         simp only [Act.put,q1,q2,q3]
         refine SP (o := ⟨some 79, _, _, _, _, _⟩) (v := .int .u32 ((gd lA i : Nat) : Int)) rfl rfl rfl rfl (fun w hS => run_loadC rfl isAgg_u32 rfl (Sl.cell (eqSl hdA (IsI.sl (hS.1))) hvA3 hil)) ?_
         simp only [Act.put,q1,q2,q3]
         refine SP (o := ⟨some 80, _, _, _, _, _⟩) (v := .pointer (some ⟨b10, 1, none⟩)) rfl rfl rfl rfl (fun w hS => run_fieldI1 rfl rfl) ?_
         simp only [Act.put,q1,q2,q3]
         refine SP (o := ⟨some 81, _, _, _, _, _⟩) (v := s9) rfl rfl rfl rfl (fun w hS => run_cell rfl isAgg_words rfl (hS.2.1) rfl) ?_
         simp only [Act.put,q1,q2,q3]
         refine SP (o := ⟨some 82, _, _, _, _, _⟩) (v := .int .i64 ((i : Nat) : Int)) rfl rfl rfl rfl (fun w hS => run_move rfl rfl) ?_
         simp only [Act.put,q1,q2,q3]
         refine SP (o := ⟨some 83, _, _, _, _, _⟩) (v := .pointer (some ⟨gB, oB + i * 1, none⟩)) rfl rfl rfl rfl (fun w hS => run_idx (j := i) rfl Try.underlying22 (by kernel_rfl) hvB3 rfl rfl (by omega)) ?_
         simp only [Act.put,q1,q2,q3]
         refine SP (o := ⟨some 84, _, _, _, _, _⟩) (v := .int .u32 ((gd (digs b.natAbs) i : Nat) : Int)) rfl rfl rfl rfl (fun w hS => run_loadC rfl isAgg_u32 rfl (Sl.cell (IsI.sl (hS.2.2.1)) hvB3 (by omega))) ?_
         simp only [Act.put,q1,q2,q3]
         refine SP (o := ⟨some 85, _, _, _, _, _⟩) (v := .bool false) rfl rfl rfl rfl (fun w hS => run_eqI (c := false) rfl rfl rfl (by rw [beq_eq_false_iff_ne]; omega)) ?_
         simp only [Act.put,q1,q2,q3]
         refine SP (o := ⟨some 9, _, _, _, _, _⟩) (v := .bool false) rfl rfl rfl rfl (fun w hS => run_assign rfl rfl) ?_
         simp only [Act.put,q1,q2,q3]
         refine SN ?_
         change Code.wp _ _ _ _ _
         -- region 16
         refine wp_region_lit ?_
         refine LV (v := .int .i64 ((i : Nat) : Int)) rfl (run_move rfl rfl) ?_
         simp only [Act.put,q1,q2,q3]
         refine LV (v := .int .i64 ((i + 1 : Nat) : Int)) rfl (run_addI rfl rfl rfl (wrap_i64_nat (by omega) (by omega))) ?_
         simp only [Act.put,q1,q2,q3]
         refine LV (v := .int .i64 ((i + 1 : Nat) : Int)) rfl (run_assign rfl rfl) ?_
         simp only [Act.put,q1,q2,q3]
         refine wpList_nil ?_
         exact ⟨_, (by omega), i + 1, false, _, _, _, _, _, _, _, _, _, _, _, _, _, _, _, _, _, _, _, rfl, (Env.i (Env.b (Env.i (Env.x (Env.x (Env.ww (Env.nil _) (E.2.2.2.2.2.1)) (E.2.2.2.2.1)) (E.2.2.2.1)) (E.2.2.1)) (E.2.1)) (E.1)), rfl, ⟨by omega, (fun h => by cases h), fun _ => ne_word hdA hw⟩⟩
       case neg =>
        refine wp_seq ?_
        refine wp_seq ?_
        -- region 15
        refine wp_region_lit ?_
        refine LV (v := .int .i64 ((i : Nat) : Int)) rfl (run_move rfl rfl) ?_
        simp only [Act.put,q1,q2,q3]
        refine LV (v := .int .i64 ((lA.length : Nat) : Int)) rfl (run_move rfl rfl) ?_
        simp only [Act.put,q1,q2,q3]
        refine LV (v := .bool true) rfl (run_ltI (c := true) rfl rfl rfl (by rw [decide_eq_true_eq]; omega)) ?_
        simp only [Act.put,q1,q2,q3]
        refine LV (v := .bool true) rfl (run_move rfl rfl) ?_
        simp only [Act.put,q1,q2,q3]
        refine LV (v := .bool sm) rfl (run_move rfl rfl) ?_
        simp only [Act.put,q1,q2,q3]
        refine LV (v := .bool sm) rfl (run_pick (b := true) rfl rfl rfl) ?_
        simp only [Act.put,q1,q2,q3]
        refine wpList_nil ?_
        change Code.wp _ _ _ _ _
        refine wp_cond_false (congrArg Value.bool (by simpa using hsm)) ?_
        refine wp_exit ?_
        change Code.wp _ _ _ _ _
        refine wp_seq ?_
        -- region 18
        refine wp_region_lit ?_
        refine LV (v := .bool true) rfl (run_move rfl rfl) ?_
        simp only [Act.put,q1,q2,q3]
        refine LV (v := .bool true) rfl (run_move rfl rfl) ?_
        simp only [Act.put,q1,q2,q3]
        refine LV (v := .agg #[.bool false, sA]) rfl (run_load_bx AgI rfl rfl (E.2.2.2.2.1) rfl) ?_
        simp only [Act.put,q1,q2,q3]
        refine LV (v := .agg #[.bool n9, s9]) rfl (run_load_bx AgI rfl rfl (E.2.1) rfl) ?_
        simp only [Act.put,q1,q2,q3]
        refine L1 rfl (Oper.wp_callN fn_integer_Cmp rfl (Cmp_z _ _ za b _ (E.1) (E.2.2.1)) rfl E ?_)
        clear E
        intro w24 d24 E
        clear d24
        simp only [Act.put,q1,q2,q3]
        refine LV (v := .bool false) rfl (run_eqI (c := false) rfl rfl rfl (beq_eq_false_iff_ne.2 (cmpI_ne (hI3 (by simpa using hsm))))) ?_
        simp only [Act.put,q1,q2,q3]
        refine LV (v := .bool sm) rfl (run_move rfl rfl) ?_
        simp only [Act.put,q1,q2,q3]
        refine LV (v := .bool true) rfl (run_eqB (a := false) (b := sm) rfl Try.underlying4 rfl rfl (by rw [Bool.eq_false_iff.2 hsm]; rfl)) ?_
        simp only [Act.put,q1,q2,q3]
        refine LV (v := .bool true) rfl (run_pick (b := true) rfl rfl rfl) ?_
        simp only [Act.put,q1,q2,q3]
        refine LV (v := .bool true) rfl (run_move rfl rfl) ?_
        simp only [Act.put,q1,q2,q3]
        refine LV (v := .agg #[.bool false, sA]) rfl (run_load_bx AgI rfl rfl (E.2.2.2.2.1) rfl) ?_
        simp only [Act.put,q1,q2,q3]
        refine LV (v := .agg #[.bool false, sA]) rfl (run_load_bx AgI rfl rfl (E.2.2.2.2.1) rfl) ?_
        simp only [Act.put,q1,q2,q3]
        refine L1 rfl (Oper.wp_callN fn_integer_Cmp rfl (Cmp_z _ _ za za _ (E.1) (E.1)) rfl E ?_)
        clear E
        intro w25 d25 E
        clear d25
        simp only [Act.put,q1,q2,q3]
        refine LV (v := .bool true) rfl (run_eqI (c := true) rfl rfl rfl (beq_iff_eq.2 (cmpI_eq rfl))) ?_
        simp only [Act.put,q1,q2,q3]
        refine LV (v := .bool true) rfl (run_pick (b := true) rfl rfl rfl) ?_
        simp only [Act.put,q1,q2,q3]
        refine LV (v := .bool true) rfl (run_assign rfl rfl) ?_
        simp only [Act.put,q1,q2,q3]
        refine wpList_nil ?_
        change Code.wp _ _ _ _ _
        refine wp_ret ?_
        exact bodyPost_ret (v := .bool true) (by simp [results, Try.results3, asAddr]) rfl ⟨rfl, E.2.2.2.2.2.1⟩
      case neg =>
       by_cases hsm : sm = true
       case pos =>
        have hEq : za = b := same_end hdA (E.1) (E.2.2.1) (hI2 hsm) hI1 hil
        refine wp_seq ?_
        refine wp_seq ?_
        -- region 15
        refine wp_region_lit ?_
        refine LV (v := .int .i64 ((i : Nat) : Int)) rfl (run_move rfl rfl) ?_
        simp only [Act.put,q1,q2,q3]
        refine LV (v := .int .i64 ((lA.length : Nat) : Int)) rfl (run_move rfl rfl) ?_
        simp only [Act.put,q1,q2,q3]
        refine LV (v := .bool false) rfl (run_ltI (c := false) rfl rfl rfl (by rw [decide_eq_false_iff_not]; omega)) ?_
        simp only [Act.put,q1,q2,q3]
        refine LV (v := .bool false) rfl (run_move rfl rfl) ?_
        simp only [Act.put,q1,q2,q3]
        have hzz := 1
        clear hzz
        refine L0 ?_ ?_
        · kernel_rfl
        simp only [Act.put,q1,q2,q3]
        refine LV (v := .bool false) rfl (run_pick (b := false) rfl rfl rfl) ?_
        simp only [Act.put,q1,q2,q3]
        refine wpList_nil ?_
        change Code.wp _ _ _ _ _
        refine wp_cond_false rfl ?_
        refine wp_exit ?_
        change Code.wp _ _ _ _ _
        refine wp_seq ?_
        -- region 18
        refine wp_region_lit ?_
        refine LV (v := .bool true) rfl (run_move rfl rfl) ?_
        simp only [Act.put,q1,q2,q3]
        refine LV (v := .bool true) rfl (run_move rfl rfl) ?_
        simp only [Act.put,q1,q2,q3]
        refine LV (v := .agg #[.bool false, sA]) rfl (run_load_bx AgI rfl rfl (E.2.2.2.2.1) rfl) ?_
        simp only [Act.put,q1,q2,q3]
        refine LV (v := .agg #[.bool n9, s9]) rfl (run_load_bx AgI rfl rfl (E.2.1) rfl) ?_
        simp only [Act.put,q1,q2,q3]
        refine L1 rfl (Oper.wp_callN fn_integer_Cmp rfl (Cmp_z _ _ za b _ (E.1) (E.2.2.1)) rfl E ?_)
        clear E
        intro w26 d26 E
        clear d26
        simp only [Act.put,q1,q2,q3]
        refine LV (v := .bool true) rfl (run_eqI (c := true) rfl rfl rfl (beq_iff_eq.2 (cmpI_eq hEq))) ?_
        simp only [Act.put,q1,q2,q3]
        refine LV (v := .bool sm) rfl (run_move rfl rfl) ?_
        simp only [Act.put,q1,q2,q3]
        refine LV (v := .bool true) rfl (run_eqB (a := true) (b := sm) rfl Try.underlying4 rfl rfl (by rw [hsm]; rfl)) ?_
        simp only [Act.put,q1,q2,q3]
        refine LV (v := .bool true) rfl (run_pick (b := true) rfl rfl rfl) ?_
        simp only [Act.put,q1,q2,q3]
        refine LV (v := .bool true) rfl (run_move rfl rfl) ?_
        simp only [Act.put,q1,q2,q3]
        refine LV (v := .agg #[.bool false, sA]) rfl (run_load_bx AgI rfl rfl (E.2.2.2.2.1) rfl) ?_
        simp only [Act.put,q1,q2,q3]
        refine LV (v := .agg #[.bool false, sA]) rfl (run_load_bx AgI rfl rfl (E.2.2.2.2.1) rfl) ?_
        simp only [Act.put,q1,q2,q3]
        refine L1 rfl (Oper.wp_callN fn_integer_Cmp rfl (Cmp_z _ _ za za _ (E.1) (E.1)) rfl E ?_)
        clear E
        intro w27 d27 E
        clear d27
        simp only [Act.put,q1,q2,q3]
        refine LV (v := .bool true) rfl (run_eqI (c := true) rfl rfl rfl (beq_iff_eq.2 (cmpI_eq rfl))) ?_
        simp only [Act.put,q1,q2,q3]
        refine LV (v := .bool true) rfl (run_pick (b := true) rfl rfl rfl) ?_
        simp only [Act.put,q1,q2,q3]
        refine LV (v := .bool true) rfl (run_assign rfl rfl) ?_
        simp only [Act.put,q1,q2,q3]
        refine wpList_nil ?_
        change Code.wp _ _ _ _ _
        refine wp_ret ?_
        exact bodyPost_ret (v := .bool true) (by simp [results, Try.results3, asAddr]) rfl ⟨rfl, E.2.2.2.2.2.1⟩
       case neg =>
        refine wp_seq ?_
        refine wp_seq ?_
        -- region 15
        refine wp_region_lit ?_
        refine LV (v := .int .i64 ((i : Nat) : Int)) rfl (run_move rfl rfl) ?_
        simp only [Act.put,q1,q2,q3]
        refine LV (v := .int .i64 ((lA.length : Nat) : Int)) rfl (run_move rfl rfl) ?_
        simp only [Act.put,q1,q2,q3]
        refine LV (v := .bool false) rfl (run_ltI (c := false) rfl rfl rfl (by rw [decide_eq_false_iff_not]; omega)) ?_
        simp only [Act.put,q1,q2,q3]
        refine LV (v := .bool false) rfl (run_move rfl rfl) ?_
        simp only [Act.put,q1,q2,q3]
        have hzz := 1
        clear hzz
        refine L0 ?_ ?_
        · kernel_rfl
        simp only [Act.put,q1,q2,q3]
        refine LV (v := .bool false) rfl (run_pick (b := false) rfl rfl rfl) ?_
        simp only [Act.put,q1,q2,q3]
        refine wpList_nil ?_
        change Code.wp _ _ _ _ _
        refine wp_cond_false rfl ?_
        refine wp_exit ?_
        change Code.wp _ _ _ _ _
        refine wp_seq ?_
        -- region 18
        refine wp_region_lit ?_
        refine LV (v := .bool true) rfl (run_move rfl rfl) ?_
        simp only [Act.put,q1,q2,q3]
        refine LV (v := .bool true) rfl (run_move rfl rfl) ?_
        simp only [Act.put,q1,q2,q3]
        refine LV (v := .agg #[.bool false, sA]) rfl (run_load_bx AgI rfl rfl (E.2.2.2.2.1) rfl) ?_
        simp only [Act.put,q1,q2,q3]
        refine LV (v := .agg #[.bool n9, s9]) rfl (run_load_bx AgI rfl rfl (E.2.1) rfl) ?_
        simp only [Act.put,q1,q2,q3]
        refine L1 rfl (Oper.wp_callN fn_integer_Cmp rfl (Cmp_z _ _ za b _ (E.1) (E.2.2.1)) rfl E ?_)
        clear E
        intro w28 d28 E
        clear d28
        simp only [Act.put,q1,q2,q3]
        refine LV (v := .bool false) rfl (run_eqI (c := false) rfl rfl rfl (beq_eq_false_iff_ne.2 (cmpI_ne (hI3 (by simpa using hsm))))) ?_
        simp only [Act.put,q1,q2,q3]
        refine LV (v := .bool sm) rfl (run_move rfl rfl) ?_
        simp only [Act.put,q1,q2,q3]
        refine LV (v := .bool true) rfl (run_eqB (a := false) (b := sm) rfl Try.underlying4 rfl rfl (by rw [Bool.eq_false_iff.2 hsm]; rfl)) ?_
        simp only [Act.put,q1,q2,q3]
        refine LV (v := .bool true) rfl (run_pick (b := true) rfl rfl rfl) ?_
        simp only [Act.put,q1,q2,q3]
        refine LV (v := .bool true) rfl (run_move rfl rfl) ?_
        simp only [Act.put,q1,q2,q3]
        refine LV (v := .agg #[.bool false, sA]) rfl (run_load_bx AgI rfl rfl (E.2.2.2.2.1) rfl) ?_
        simp only [Act.put,q1,q2,q3]
        refine LV (v := .agg #[.bool false, sA]) rfl (run_load_bx AgI rfl rfl (E.2.2.2.2.1) rfl) ?_
        simp only [Act.put,q1,q2,q3]
        refine L1 rfl (Oper.wp_callN fn_integer_Cmp rfl (Cmp_z _ _ za za _ (E.1) (E.1)) rfl E ?_)
        clear E
        intro w29 d29 E
        clear d29
        simp only [Act.put,q1,q2,q3]
        refine LV (v := .bool true) rfl (run_eqI (c := true) rfl rfl rfl (beq_iff_eq.2 (cmpI_eq rfl))) ?_
        simp only [Act.put,q1,q2,q3]
        refine LV (v := .bool true) rfl (run_pick (b := true) rfl rfl rfl) ?_
        simp only [Act.put,q1,q2,q3]
        refine LV (v := .bool true) rfl (run_assign rfl rfl) ?_
        simp only [Act.put,q1,q2,q3]
        refine wpList_nil ?_
        change Code.wp _ _ _ _ _
        refine wp_ret ?_
        exact bodyPost_ret (v := .bool true) (by simp [results, Try.results3, asAddr]) rfl ⟨rfl, E.2.2.2.2.2.1⟩
    case neg =>
     have hne0 := ne_sign (E.1) (E.2.2.1) h1
     -- region 13
     refine wp_region_lit ?_
     refine LV (v := .pointer (some ⟨b1, 0, none⟩)) rfl (run_fieldI0 rfl rfl) ?_
     simp only [Act.put,q1,q2,q3]
     refine LV (v := .bool false) rfl (run_cell rfl isAgg_bool rfl (E.2.2.2.2.1) rfl) ?_
     simp only [Act.put,q1,q2,q3]
     refine LV (v := .pointer (some ⟨b10, 0, none⟩)) rfl (run_fieldI0 rfl rfl) ?_
     simp only [Act.put,q1,q2,q3]
     refine LV (v := .bool n9) rfl (run_cell rfl isAgg_bool rfl (E.2.1) rfl) ?_
     simp only [Act.put,q1,q2,q3]
     refine LV (v := .bool false) rfl (run_eqB (a := false) (b := n9) rfl Try.underlying4 rfl rfl (beq_eq_false_iff_ne.2 h1)) ?_
     simp only [Act.put,q1,q2,q3]
     refine LV (v := .bool false) rfl (run_move rfl rfl) ?_
     simp only [Act.put,q1,q2,q3]
     have hzz := 1
     clear hzz
     refine L0 ?_ ?_
     · kernel_rfl
     simp only [Act.put,q1,q2,q3]
     have hzz := 1
     clear hzz
     refine L0 ?_ ?_
     · kernel_rfl
     simp only [Act.put,q1,q2,q3]
     have hzz := 1
     clear hzz
     refine L0 ?_ ?_
     · kernel_rfl
     simp only [Act.put,q1,q2,q3]
     have hzz := 1
     clear hzz
     refine L0 ?_ ?_
     · kernel_rfl
     simp only [Act.put,q1,q2,q3]
     have hzz := 1
     clear hzz
     refine L0 ?_ ?_
     · kernel_rfl
     simp only [Act.put,q1,q2,q3]
     refine LV (v := .bool false) rfl (run_pick (b := false) rfl rfl rfl) ?_
     simp only [Act.put,q1,q2,q3]
     refine LV (v := .bool false) rfl (run_assign rfl rfl) ?_
     simp only [Act.put,q1,q2,q3]
     refine wpList_nil ?_
     change Code.wp _ _ _ _ _
     refine wp_seq ?_
     refine wp_seq ?_
     -- region 14
     refine wp_region_lit ?_
     refine LV (v := .int .i64 0) rfl (run_assign rfl rfl) ?_
     simp only [Act.put,q1,q2,q3]
     refine wpList_nil ?_
     change Code.wp _ _ _ _ _
     refine wp_block ?_
     refine wp_loop_ghost (fun mz a w' => ∃ (i : Nat) (sm : Bool) (g67 g68 g69 g70 g71 g72 g73 g74 g75 g76 g77 g78 g79 g80 g81 g82 g83 g84 g85 : Value), a = ⟨#[.agg #[.bool false, sA], .agg #[.bool nb, sb], .pointer (some ⟨b1, 0, none⟩), .pointer (some ⟨b2, 0, none⟩), .bool false, .bool true, .int .i64 ((lA.length : Nat) : Int), .bool true, .pointer (some ⟨b10, 0, none⟩), .bool sm, .int .i64 ((i : Nat) : Int), .bool true, .bool true, .bool false, .pointer (some ⟨b1, 1, none⟩), sA, .int .i64 ((lA.length : Nat) : Int), .int .i64 ((lA.length : Nat) : Int), .bool false, undef, .int .i64 ((lA.length : Nat) : Int), .bool true, .bool true, .pointer (some ⟨b1, 0, none⟩), .bool false, .bool true, .bool true, .bool true, undef, undef, undef, undef, undef, undef, undef, undef, undef, undef, undef, undef, .bool true, .agg #[.bool nb, sb], .agg #[.bool n9, s9], .agg #[.bool false, sA], .bool true, .bool true, .bool false, .bool false, .agg #[.bool n9, s9], .bool true, .bool false, .bool false, .bool true, .bool false, undef, .pointer (some ⟨b1, 0, none⟩), .bool false, .pointer (some ⟨b10, 0, none⟩), .bool n9, .bool false, .bool false, undef, undef, undef, undef, undef, .bool false, g67, g68, g69, g70, g71, g72, g73, g74, g75, g76, g77, g78, g79, g80, g81, g82, g83, g84, g85, undef, undef, undef, undef, undef, undef, undef, undef, undef, undef, undef, undef, undef, undef, undef], []⟩ ∧ Env w' [fI (.agg #[.bool false, sA]) za, fB b10 n9 s9, fI (.agg #[.bool n9, s9]) b, fX b2 (25) ([.bool nb, sb]), fX b1 (24) ([.bool false, sA]), fW w] ∧ mz = lA.length - i ∧ (i ≤ lA.length ∧ (sm = true → false = n9 ∧ lA.length = (digs b.natAbs).length ∧ lA.take i = (digs b.natAbs).take i) ∧ (sm = false → za ≠ b))) (lA.length) ⟨0, false, _, _, _, _, _, _, _, _, _, _, _, _, _, _, _, _, _, _, _, rfl, (Env.i (Env.b (Env.i (Env.x (Env.x (Env.ww (Env.nil _) (E.2.2.2.2.2.1)) (E.2.2.2.2.1)) (E.2.2.2.1)) (E.2.2.1)) (E.2.1)) (E.1)), rfl, ⟨Nat.zero_le _, (fun h => by cases h), fun _ => hne0⟩⟩ ?_
     rintro m30 _ w30 ⟨i, sm, g67, g68, g69, g70, g71, g72, g73, g74, g75, g76, g77, g78, g79, g80, g81, g82, g83, g84, g85, rfl, E, hm30, hI30⟩
     obtain ⟨hI1, hI2, hI3⟩ := hI30
     by_cases hil : i < lA.length
     case pos =>
      by_cases hsm : sm = true
      case pos =>
       obtain ⟨hs1, hs2, hs3⟩ := hI2 hsm
       obtain ⟨gA, oA, cA, hvA3, _⟩ := Sl.at (i := i) (Sl.below hsA (E.2.2.2.2.2.1)) hil
       obtain ⟨gB, oB, cB, hvB3, _⟩ := Sl.at (i := i) (IsI.sl (E.2.2.1)) (by omega)
       by_cases hw : gd lA i = gd (digs b.natAbs) i
       case pos =>
        refine wp_seq ?_
        refine wp_seq ?_
        -- region 15
        refine wp_region_lit ?_
        refine LV (v := .int .i64 ((i : Nat) : Int)) rfl (run_move rfl rfl) ?_
        simp only [Act.put,q1,q2,q3]
        refine LV (v := .int .i64 ((lA.length : Nat) : Int)) rfl (run_move rfl rfl) ?_
        simp only [Act.put,q1,q2,q3]
        refine LV (v := .bool true) rfl (run_ltI (c := true) rfl rfl rfl (by rw [decide_eq_true_eq]; omega)) ?_
        simp only [Act.put,q1,q2,q3]
        refine LV (v := .bool true) rfl (run_move rfl rfl) ?_
        simp only [Act.put,q1,q2,q3]
        refine LV (v := .bool sm) rfl (run_move rfl rfl) ?_
        simp only [Act.put,q1,q2,q3]
        refine LV (v := .bool sm) rfl (run_pick (b := true) rfl rfl rfl) ?_
        simp only [Act.put,q1,q2,q3]
        refine wpList_nil ?_
        change Code.wp _ _ _ _ _
        refine wp_cond_true (congrArg Value.bool hsm) ?_
        refine wp_skip ?_
        change Code.wp _ _ _ _ _
        refine wp_seq ?_
        refine wp_block ?_
        -- region 17
        refine wp_schedE E ([0, 1, 2, 3, 4, 5, 6, 7, 8, 9, 10, 11]) (by kernel_rfl) (by kernel_rfl) (by kernel_rfl) (by kernel_rfl) (by intro d v c a w h; cases d <;> exact h) ?_
        replace E := E.drew
        refine SP (o := ⟨some 75, _, _, _, _, _⟩) (v := .pointer (some ⟨b1, 1, none⟩)) rfl rfl rfl rfl (fun w hS => run_fieldI1 rfl rfl) ?_
        simp only [Act.put,q1,q2,q3]
        refine SP (o := ⟨some 76, _, _, _, _, _⟩) (v := sA) rfl rfl rfl rfl (fun w hS => run_cell rfl isAgg_words rfl (hS.2.2.2.2.1) rfl) ?_
        simp only [Act.put,q1,q2,q3]
        refine SP (o := ⟨some 77, _, _, _, _, _⟩) (v := .int .i64 ((i : Nat) : Int)) rfl rfl rfl rfl (fun w hS => run_move rfl rfl) ?_
        simp only [Act.put,q1,q2,q3]
        refine SP (o := ⟨some 78, _, _, _, _, _⟩) (v := .pointer (some ⟨gA, oA + i * 1, none⟩)) rfl rfl rfl rfl (fun w hS => run_idx (j := i) rfl Try.underlying22 (by kernel_rfl) hvA3 rfl rfl hil) ?_
        simp only [Act.put,q1,q2,q3]
        refine SP (o := ⟨some 79, _, _, _, _, _⟩) (v := .int .u32 ((gd lA i : Nat) : Int)) rfl rfl rfl rfl (fun w hS => run_loadC rfl isAgg_u32 rfl (Sl.cell (eqSl hdA (IsI.sl (hS.1))) hvA3 hil)) ?_
        simp only [Act.put,q1,q2,q3]
        refine SP (o := ⟨some 80, _, _, _, _, _⟩) (v := .pointer (some ⟨b10, 1, none⟩)) rfl rfl rfl rfl (fun w hS => run_fieldI1 rfl rfl) ?_
        simp only [Act.put,q1,q2,q3]
        refine SP (o := ⟨some 81, _, _, _, _, _⟩) (v := s9) rfl rfl rfl rfl (fun w hS => run_cell rfl isAgg_words rfl (hS.2.1) rfl) ?_
        simp only [Act.put,q1,q2,q3]
        refine SP (o := ⟨some 82, _, _, _, _, _⟩) (v := .int .i64 ((i : Nat) : Int)) rfl rfl rfl rfl (fun w hS => run_move rfl rfl) ?_
        simp only [Act.put,q1,q2,q3]
        refine SP (o := ⟨some 83, _, _, _, _, _⟩) (v := .pointer (some ⟨gB, oB + i * 1, none⟩)) rfl rfl rfl rfl (fun w hS => run_idx (j := i) rfl Try.underlying22 (by kernel_rfl) hvB3 rfl rfl (by omega)) ?_
        simp only [Act.put,q1,q2,q3]
        refine SP (o := ⟨some 84, _, _, _, _, _⟩) (v := .int .u32 ((gd (digs b.natAbs) i : Nat) : Int)) rfl rfl rfl rfl (fun w hS => run_loadC rfl isAgg_u32 rfl (Sl.cell (IsI.sl (hS.2.2.1)) hvB3 (by omega))) ?_
        simp only [Act.put,q1,q2,q3]
        refine SP (o := ⟨some 85, _, _, _, _, _⟩) (v := .bool true) rfl rfl rfl rfl (fun w hS => run_eqI (c := true) rfl rfl rfl (by rw [beq_iff_eq, hw])) ?_
        simp only [Act.put,q1,q2,q3]
        refine SP (o := ⟨some 9, _, _, _, _, _⟩) (v := .bool true) rfl rfl rfl rfl (fun w hS => run_assign rfl rfl) ?_
        simp only [Act.put,q1,q2,q3]
        refine SN ?_
        change Code.wp _ _ _ _ _
        -- region 16
        refine wp_region_lit ?_
        refine LV (v := .int .i64 ((i : Nat) : Int)) rfl (run_move rfl rfl) ?_
        simp only [Act.put,q1,q2,q3]
        refine LV (v := .int .i64 ((i + 1 : Nat) : Int)) rfl (run_addI rfl rfl rfl (wrap_i64_nat (by omega) (by omega))) ?_
        simp only [Act.put,q1,q2,q3]
        refine LV (v := .int .i64 ((i + 1 : Nat) : Int)) rfl (run_assign rfl rfl) ?_
        simp only [Act.put,q1,q2,q3]
        refine wpList_nil ?_
        exact ⟨_, (by omega), i + 1, true, _, _, _, _, _, _, _, _, _, _, _, _, _, _, _, _, _, _, _, rfl, (Env.i (Env.b (Env.i (Env.x (Env.x (Env.ww (Env.nil _) (E.2.2.2.2.2.1)) (E.2.2.2.2.1)) (E.2.2.2.1)) (E.2.2.1)) (E.2.1)) (E.1)), rfl, ⟨by omega, fun _ => ⟨hs1, hs2, take_step hs3 hil (by omega) hw⟩, fun h => by cases h⟩⟩
       case neg =>
        refine wp_seq ?_
        refine wp_seq ?_
        -- region 15
        refine wp_region_lit ?_
        refine LV (v := .int .i64 ((i : Nat) : Int)) rfl (run_move rfl rfl) ?_
        simp only [Act.put,q1,q2,q3]
        refine LV (v := .int .i64 ((lA.length : Nat) : Int)) rfl (run_move rfl rfl) ?_
        simp only [Act.put,q1,q2,q3]
        refine LV (v := .bool true) rfl (run_ltI (c := true) rfl rfl rfl (by rw [decide_eq_true_eq]; omega)) ?_
        simp only [Act.put,q1,q2,q3]
        refine LV (v := .bool true) rfl (run_move rfl rfl) ?_
        simp only [Act.put,q1,q2,q3]
        refine LV (v := .bool sm) rfl (run_move rfl rfl) ?_
        simp only [Act.put,q1,q2,q3]
        refine LV (v := .bool sm) rfl (run_pick (b := true) rfl rfl rfl) ?_
        simp only [Act.put,q1,q2,q3]
        refine wpList_nil ?_
        change Code.wp _ _ _ _ _
        refine wp_cond_true (congrArg Value.bool hsm) ?_
        refine wp_skip ?_
        change Code.wp _ _ _ _ _
        refine wp_seq ?_
        refine wp_block ?_
        -- region 17
        refine wp_schedE E ([0, 1, 2, 3, 4, 5, 6, 7, 8, 9, 10, 11]) (by kernel_rfl) (by kernel_rfl) (by kernel_rfl) (by kernel_rfl) (by intro d v c a w h; cases d <;> exact h) ?_
        replace E := E.drew
        refine SP (o := ⟨some 75, _, _, _, _, _⟩) (v := .pointer (some ⟨b1, 1, none⟩)) rfl rfl rfl rfl (fun w hS => run_fieldI1 rfl rfl) ?_
        simp only [Act.put,q1,q2,q3]
        refine SP (o := ⟨some 76, _, _, _, _, _⟩) (v := sA) rfl rfl rfl rfl (fun w hS => run_cell rfl isAgg_words rfl (hS.2.2.2.2.1) rfl) ?_
        simp only [Act.put,q1,q2,q3]
        refine SP (o := ⟨some 77, _, _, _, _, _⟩) (v := .int .i64 ((i : Nat) : Int)) rfl rfl rfl rfl (fun w hS => run_move rfl rfl) ?_
        simp only [Act.put,q1,q2,q3]
        refine SP (o := ⟨some 78, _, _, _, _, _⟩) (v := .pointer (some ⟨gA, oA + i * 1, none⟩)) rfl rfl rfl rfl (fun w hS => run_idx (j := i) rfl Try.underlying22 (by kernel_rfl) hvA3 rfl rfl hil) ?_
        simp only [Act.put,q1,q2,q3]
        refine SP (o := ⟨some 79, _, _, _, _, _⟩) (v := .int .u32 ((gd lA i : Nat) : Int)) rfl rfl rfl rfl (fun w hS => run_loadC rfl isAgg_u32 rfl (Sl.cell (eqSl hdA (IsI.sl (hS.1))) hvA3 hil)) ?_
        simp only [Act.put,q1,q2,q3]
        refine SP (o := ⟨some 80, _, _, _, _, _⟩) (v := .pointer (some ⟨b10, 1, none⟩)) rfl rfl rfl rfl (fun w hS => run_fieldI1 rfl rfl) ?_
        simp only [Act.put,q1,q2,q3]
        refine SP (o := ⟨some 81, _, _, _, _, _⟩) (v := s9) rfl rfl rfl rfl (fun w hS => run_cell rfl isAgg_words rfl (hS.2.1) rfl) ?_
        simp only [Act.put,q1,q2,q3]
        refine SP (o := ⟨some 82, _, _, _, _, _⟩) (v := .int .i64 ((i : Nat) : Int)) rfl rfl rfl rfl (fun w hS => run_move rfl rfl) ?_
        simp only [Act.put,q1,q2,q3]
        refine SP (o := ⟨some 83, _, _, _, _, _⟩) (v := .pointer (some ⟨gB, oB + i * 1, none⟩)) rfl rfl rfl rfl (fun w hS => run_idx (j := i) rfl Try.underlying22 (by kernel_rfl) hvB3 rfl rfl (by omega)) ?_
        simp only [Act.put,q1,q2,q3]
        refine SP (o := ⟨some 84, _, _, _, _, _⟩) (v := .int .u32 ((gd (digs b.natAbs) i : Nat) : Int)) rfl rfl rfl rfl (fun w hS => run_loadC rfl isAgg_u32 rfl (Sl.cell (IsI.sl (hS.2.2.1)) hvB3 (by omega))) ?_
        simp only [Act.put,q1,q2,q3]
        refine SP (o := ⟨some 85, _, _, _, _, _⟩) (v := .bool false) rfl rfl rfl rfl (fun w hS => run_eqI (c := false) rfl rfl rfl (by rw [beq_eq_false_iff_ne]; omega)) ?_
        simp only [Act.put,q1,q2,q3]
        refine SP (o := ⟨some 9, _, _, _, _, _⟩) (v := .bool false) rfl rfl rfl rfl (fun w hS => run_assign rfl rfl) ?_
        simp only [Act.put,q1,q2,q3]
        refine SN ?_
        change Code.wp _ _ _ _ _
        -- region 16
        refine wp_region_lit ?_
        refine LV (v := .int .i64 ((i : Nat) : Int)) rfl (run_move rfl rfl) ?_
        simp only [Act.put,q1,q2,q3]
        refine LV (v := .int .i64 ((i + 1 : Nat) : Int)) rfl (run_addI rfl rfl rfl (wrap_i64_nat (by omega) (by omega))) ?_
        simp only [Act.put,q1,q2,q3]
        refine LV (v := .int .i64 ((i + 1 : Nat) : Int)) rfl (run_assign rfl rfl) ?_
        simp only [Act.put,q1,q2,q3]
        refine wpList_nil ?_
        exact ⟨_, (by omega), i + 1, false, _, _, _, _, _, _, _, _, _, _, _, _, _, _, _, _, _, _, _, rfl, (Env.i (Env.b (Env.i (Env.x (Env.x (Env.ww (Env.nil _) (E.2.2.2.2.2.1)) (E.2.2.2.2.1)) (E.2.2.2.1)) (E.2.2.1)) (E.2.1)) (E.1)), rfl, ⟨by omega, (fun h => by cases h), fun _ => ne_word hdA hw⟩⟩
      case neg =>
       refine wp_seq ?_
       refine wp_seq ?_
       -- region 15
       refine wp_region_lit ?_
       refine LV (v := .int .i64 ((i : Nat) : Int)) rfl (run_move rfl rfl) ?_
       simp only [Act.put,q1,q2,q3]
       refine LV (v := .int .i64 ((lA.length : Nat) : Int)) rfl (run_move rfl rfl) ?_
       simp only [Act.put,q1,q2,q3]
       refine LV (v := .bool true) rfl (run_ltI (c := true) rfl rfl rfl (by rw [decide_eq_true_eq]; omega)) ?_
       simp only [Act.put,q1,q2,q3]
       refine LV (v := .bool true) rfl (run_move rfl rfl) ?_
       simp only [Act.put,q1,q2,q3]
       refine LV (v := .bool sm) rfl (run_move rfl rfl) ?_
       simp only [Act.put,q1,q2,q3]
       refine LV (v := .bool sm) rfl (run_pick (b := true) rfl rfl rfl) ?_
       simp only [Act.put,q1,q2,q3]
       refine wpList_nil ?_
       change Code.wp _ _ _ _ _
       refine wp_cond_false (congrArg Value.bool (by simpa using hsm)) ?_
       refine wp_exit ?_
       change Code.wp _ _ _ _ _
       refine wp_seq ?_
       -- region 18
       refine wp_region_lit ?_
       refine LV (v := .bool true) rfl (run_move rfl rfl) ?_
       simp only [Act.put,q1,q2,q3]
       refine LV (v := .bool true) rfl (run_move rfl rfl) ?_
       simp only [Act.put,q1,q2,q3]
       refine LV (v := .agg #[.bool false, sA]) rfl (run_load_bx AgI rfl rfl (E.2.2.2.2.1) rfl) ?_
       simp only [Act.put,q1,q2,q3]
       refine LV (v := .agg #[.bool n9, s9]) rfl (run_load_bx AgI rfl rfl (E.2.1) rfl) ?_
       simp only [Act.put,q1,q2,q3]
       refine L1 rfl (Oper.wp_callN fn_integer_Cmp rfl (Cmp_z _ _ za b _ (E.1) (E.2.2.1)) rfl E ?_)
       clear E
       intro w31 d31 E
       clear d31
       simp only [Act.put,q1,q2,q3]
       refine LV (v := .bool false) rfl (run_eqI (c := false) rfl rfl rfl (beq_eq_false_iff_ne.2 (cmpI_ne (hI3 (by simpa using hsm))))) ?_
       simp only [Act.put,q1,q2,q3]
       refine LV (v := .bool sm) rfl (run_move rfl rfl) ?_
       simp only [Act.put,q1,q2,q3]
       refine LV (v := .bool true) rfl (run_eqB (a := false) (b := sm) rfl Try.underlying4 rfl rfl (by rw [Bool.eq_false_iff.2 hsm]; rfl)) ?_
       simp only [Act.put,q1,q2,q3]
       refine LV (v := .bool true) rfl (run_pick (b := true) rfl rfl rfl) ?_
       simp only [Act.put,q1,q2,q3]
       refine LV (v := .bool true) rfl (run_move rfl rfl) ?_
       simp only [Act.put,q1,q2,q3]
       refine LV (v := .agg #[.bool false, sA]) rfl (run_load_bx AgI rfl rfl (E.2.2.2.2.1) rfl) ?_
       simp only [Act.put,q1,q2,q3]
       refine LV (v := .agg #[.bool false, sA]) rfl (run_load_bx AgI rfl rfl (E.2.2.2.2.1) rfl) ?_
       simp only [Act.put,q1,q2,q3]
       refine L1 rfl (Oper.wp_callN fn_integer_Cmp rfl (Cmp_z _ _ za za _ (E.1) (E.1)) rfl E ?_)
       clear E
       intro w32 d32 E
       clear d32
       simp only [Act.put,q1,q2,q3]
       refine LV (v := .bool true) rfl (run_eqI (c := true) rfl rfl rfl (beq_iff_eq.2 (cmpI_eq rfl))) ?_
       simp only [Act.put,q1,q2,q3]
       refine LV (v := .bool true) rfl (run_pick (b := true) rfl rfl rfl) ?_
       simp only [Act.put,q1,q2,q3]
       refine LV (v := .bool true) rfl (run_assign rfl rfl) ?_
       simp only [Act.put,q1,q2,q3]
       refine wpList_nil ?_
       change Code.wp _ _ _ _ _
       refine wp_ret ?_
       exact bodyPost_ret (v := .bool true) (by simp [results, Try.results3, asAddr]) rfl ⟨rfl, E.2.2.2.2.2.1⟩
     case neg =>
      by_cases hsm : sm = true
      case pos =>
       have hEq : za = b := same_end hdA (E.1) (E.2.2.1) (hI2 hsm) hI1 hil
       refine wp_seq ?_
       refine wp_seq ?_
       -- region 15
       refine wp_region_lit ?_
       refine LV (v := .int .i64 ((i : Nat) : Int)) rfl (run_move rfl rfl) ?_
       simp only [Act.put,q1,q2,q3]
       refine LV (v := .int .i64 ((lA.length : Nat) : Int)) rfl (run_move rfl rfl) ?_
       simp only [Act.put,q1,q2,q3]
       refine LV (v := .bool false) rfl (run_ltI (c := false) rfl rfl rfl (by rw [decide_eq_false_iff_not]; omega)) ?_
       simp only [Act.put,q1,q2,q3]
       refine LV (v := .bool false) rfl (run_move rfl rfl) ?_
       simp only [Act.put,q1,q2,q3]
       have hzz := 1
       clear hzz
       refine L0 ?_ ?_
       · kernel_rfl
       simp only [Act.put,q1,q2,q3]
       refine LV (v := .bool false) rfl (run_pick (b := false) rfl rfl rfl) ?_
       simp only [Act.put,q1,q2,q3]
       refine wpList_nil ?_
       change Code.wp _ _ _ _ _
       refine wp_cond_false rfl ?_
       refine wp_exit ?_
       change Code.wp _ _ _ _ _
       refine wp_seq ?_
       -- region 18
       refine wp_region_lit ?_
       refine LV (v := .bool true) rfl (run_move rfl rfl) ?_
       simp only [Act.put,q1,q2,q3]
       refine LV (v := .bool true) rfl (run_move rfl rfl) ?_
       simp only [Act.put,q1,q2,q3]
       refine LV (v := .agg #[.bool false, sA]) rfl (run_load_bx AgI rfl rfl (E.2.2.2.2.1) rfl) ?_
       simp only [Act.put,q1,q2,q3]
       refine LV (v := .agg #[.bool n9, s9]) rfl (run_load_bx AgI rfl rfl (E.2.1) rfl) ?_
       simp only [Act.put,q1,q2,q3]
       refine L1 rfl (Oper.wp_callN fn_integer_Cmp rfl (Cmp_z _ _ za b _ (E.1) (E.2.2.1)) rfl E ?_)
       clear E
       intro w33 d33 E
       clear d33
       simp only [Act.put,q1,q2,q3]
       refine LV (v := .bool true) rfl (run_eqI (c := true) rfl rfl rfl (beq_iff_eq.2 (cmpI_eq hEq))) ?_
       simp only [Act.put,q1,q2,q3]
       refine LV (v := .bool sm) rfl (run_move rfl rfl) ?_
       simp only [Act.put,q1,q2,q3]
       refine LV (v := .bool true) rfl (run_eqB (a := true) (b := sm) rfl Try.underlying4 rfl rfl (by rw [hsm]; rfl)) ?_
       simp only [Act.put,q1,q2,q3]
       refine LV (v := .bool true) rfl (run_pick (b := true) rfl rfl rfl) ?_
       simp only [Act.put,q1,q2,q3]
       refine LV (v := .bool true) rfl (run_move rfl rfl) ?_
       simp only [Act.put,q1,q2,q3]
       refine LV (v := .agg #[.bool false, sA]) rfl (run_load_bx AgI rfl rfl (E.2.2.2.2.1) rfl) ?_
       simp only [Act.put,q1,q2,q3]
       refine LV (v := .agg #[.bool false, sA]) rfl (run_load_bx AgI rfl rfl (E.2.2.2.2.1) rfl) ?_
       simp only [Act.put,q1,q2,q3]
       refine L1 rfl (Oper.wp_callN fn_integer_Cmp rfl (Cmp_z _ _ za za _ (E.1) (E.1)) rfl E ?_)
       clear E
       intro w34 d34 E
       clear d34
       simp only [Act.put,q1,q2,q3]
       refine LV (v := .bool true) rfl (run_eqI (c := true) rfl rfl rfl (beq_iff_eq.2 (cmpI_eq rfl))) ?_
       simp only [Act.put,q1,q2,q3]
       refine LV (v := .bool true) rfl (run_pick (b := true) rfl rfl rfl) ?_
       simp only [Act.put,q1,q2,q3]
       refine LV (v := .bool true) rfl (run_assign rfl rfl) ?_
       simp only [Act.put,q1,q2,q3]
       refine wpList_nil ?_
       change Code.wp _ _ _ _ _
       refine wp_ret ?_
       exact bodyPost_ret (v := .bool true) (by simp [results, Try.results3, asAddr]) rfl ⟨rfl, E.2.2.2.2.2.1⟩
      case neg =>
       refine wp_seq ?_
       refine wp_seq ?_
       -- region 15
       refine wp_region_lit ?_
       refine LV (v := .int .i64 ((i : Nat) : Int)) rfl (run_move rfl rfl) ?_
       simp only [Act.put,q1,q2,q3]
       refine LV (v := .int .i64 ((lA.length : Nat) : Int)) rfl (run_move rfl rfl) ?_
       simp only [Act.put,q1,q2,q3]
       refine LV (v := .bool false) rfl (run_ltI (c := false) rfl rfl rfl (by rw [decide_eq_false_iff_not]; omega)) ?_
       simp only [Act.put,q1,q2,q3]
       refine LV (v := .bool false) rfl (run_move rfl rfl) ?_
       simp only [Act.put,q1,q2,q3]
       have hzz := 1
       clear hzz
       refine L0 ?_ ?_
       · kernel_rfl
       simp only [Act.put,q1,q2,q3]
       refine LV (v := .bool false) rfl (run_pick (b := false) rfl rfl rfl) ?_
       simp only [Act.put,q1,q2,q3]
       refine wpList_nil ?_
       change Code.wp _ _ _ _ _
       refine wp_cond_false rfl ?_
       refine wp_exit ?_
       change Code.wp _ _ _ _ _
       refine wp_seq ?_
       -- region 18
       refine wp_region_lit ?_
       refine LV (v := .bool true) rfl (run_move rfl rfl) ?_
       simp only [Act.put,q1,q2,q3]
       refine LV (v := .bool true) rfl (run_move rfl rfl) ?_
       simp only [Act.put,q1,q2,q3]
       refine LV (v := .agg #[.bool false, sA]) rfl (run_load_bx AgI rfl rfl (E.2.2.2.2.1) rfl) ?_
       simp only [Act.put,q1,q2,q3]
       refine LV (v := .agg #[.bool n9, s9]) rfl (run_load_bx AgI rfl rfl (E.2.1) rfl) ?_
       simp only [Act.put,q1,q2,q3]
       refine L1 rfl (Oper.wp_callN fn_integer_Cmp rfl (Cmp_z _ _ za b _ (E.1) (E.2.2.1)) rfl E ?_)
       clear E
       intro w35 d35 E
       clear d35
       simp only [Act.put,q1,q2,q3]
       refine LV (v := .bool false) rfl (run_eqI (c := false) rfl rfl rfl (beq_eq_false_iff_ne.2 (cmpI_ne (hI3 (by simpa using hsm))))) ?_
       simp only [Act.put,q1,q2,q3]
       refine LV (v := .bool sm) rfl (run_move rfl rfl) ?_
       simp only [Act.put,q1,q2,q3]
       refine LV (v := .bool true) rfl (run_eqB (a := false) (b := sm) rfl Try.underlying4 rfl rfl (by rw [Bool.eq_false_iff.2 hsm]; rfl)) ?_
       simp only [Act.put,q1,q2,q3]
       refine LV (v := .bool true) rfl (run_pick (b := true) rfl rfl rfl) ?_
       simp only [Act.put,q1,q2,q3]
       refine LV (v := .bool true) rfl (run_move rfl rfl) ?_
       simp only [Act.put,q1,q2,q3]
       refine LV (v := .agg #[.bool false, sA]) rfl (run_load_bx AgI rfl rfl (E.2.2.2.2.1) rfl) ?_
       simp only [Act.put,q1,q2,q3]
       refine LV (v := .agg #[.bool false, sA]) rfl (run_load_bx AgI rfl rfl (E.2.2.2.2.1) rfl) ?_
       simp only [Act.put,q1,q2,q3]
       refine L1 rfl (Oper.wp_callN fn_integer_Cmp rfl (Cmp_z _ _ za za _ (E.1) (E.1)) rfl E ?_)
       clear E
       intro w36 d36 E
       clear d36
       simp only [Act.put,q1,q2,q3]
       refine LV (v := .bool true) rfl (run_eqI (c := true) rfl rfl rfl (beq_iff_eq.2 (cmpI_eq rfl))) ?_
       simp only [Act.put,q1,q2,q3]
       refine LV (v := .bool true) rfl (run_pick (b := true) rfl rfl rfl) ?_
       simp only [Act.put,q1,q2,q3]
       refine LV (v := .bool true) rfl (run_assign rfl rfl) ?_
       simp only [Act.put,q1,q2,q3]
       refine wpList_nil ?_
       change Code.wp _ _ _ _ _
       refine wp_ret ?_
       exact bodyPost_ret (v := .bool true) (by simp [results, Try.results3, asAddr]) rfl ⟨rfl, E.2.2.2.2.2.1⟩
  case neg =>
   obtain ⟨gA, oA, cA, hvA2, hcA⟩ := Sl.at (i := lA.length - 1) (Sl.below hsA (E.2.2.1)) (by omega)
   by_cases hlw : gd lA (lA.length - 1) = 0
   case pos =>
    -- region 7
    refine wp_region_lit ?_
    refine LV (v := .int .i64 ((lA.length : Nat) : Int)) rfl (run_move rfl rfl) ?_
    simp only [Act.put,q1,q2,q3]
    refine LV (v := .bool false) rfl (run_eqI (c := false) rfl rfl rfl (by rw [beq_eq_false_iff_ne]; omega)) ?_
    simp only [Act.put,q1,q2,q3]
    refine LV (v := .bool false) rfl (run_move rfl rfl) ?_
    simp only [Act.put,q1,q2,q3]
    have hzz := 1
    clear hzz
    refine L0 ?_ ?_
    · kernel_rfl
    simp only [Act.put,q1,q2,q3]
    have hzz := 1
    clear hzz
    refine L0 ?_ ?_
    · kernel_rfl
    simp only [Act.put,q1,q2,q3]
    have hzz := 1
    clear hzz
    refine L0 ?_ ?_
    · kernel_rfl
    simp only [Act.put,q1,q2,q3]
    refine LV (v := .bool false) rfl (run_pick (b := false) rfl rfl rfl) ?_
    simp only [Act.put,q1,q2,q3]
    refine LV (v := .bool false) rfl (run_move rfl rfl) ?_
    simp only [Act.put,q1,q2,q3]
    refine LV (v := .int .i64 ((lA.length : Nat) : Int)) rfl (run_move rfl rfl) ?_
    simp only [Act.put,q1,q2,q3]
    refine LV (v := .bool true) rfl (run_gtI (c := true) rfl rfl rfl (by rw [decide_eq_true_eq]; omega)) ?_
    simp only [Act.put,q1,q2,q3]
    refine LV (v := .bool true) rfl (run_move rfl rfl) ?_
    simp only [Act.put,q1,q2,q3]
    refine LV (v := .pointer (some ⟨b1, 1, none⟩)) rfl (run_fieldI1 rfl rfl) ?_
    simp only [Act.put,q1,q2,q3]
    refine LV (v := sA) rfl (run_cell rfl isAgg_words rfl (E.2.1) rfl) ?_
    simp only [Act.put,q1,q2,q3]
    refine LV (v := .int .i64 ((lA.length : Nat) : Int)) rfl (run_move rfl rfl) ?_
    simp only [Act.put,q1,q2,q3]
    refine LV (v := .int .i64 ((lA.length - 1 : Nat) : Int)) rfl (run_subI rfl rfl rfl (wrap_i64_nat (by omega) (by omega))) ?_
    simp only [Act.put,q1,q2,q3]
    refine LV (v := .int .i64 ((lA.length - 1 : Nat) : Int)) rfl (run_maxI rfl rfl rfl (by split <;> omega)) ?_
    simp only [Act.put,q1,q2,q3]
    refine LV (v := .pointer (some ⟨gA, oA + (lA.length - 1) * 1, none⟩)) rfl (run_idx (j := lA.length - 1) rfl Try.underlying22 (by kernel_rfl) hvA2 rfl rfl (by omega)) ?_
    simp only [Act.put,q1,q2,q3]
    refine LV (v := .int .u32 ((gd lA (lA.length - 1) : Nat) : Int)) rfl (run_loadC rfl isAgg_u32 rfl hcA) ?_
    simp only [Act.put,q1,q2,q3]
    refine LV (v := .bool false) rfl (run_neI (c := false) rfl rfl rfl (bne_f' (by rw [hlw]; rfl))) ?_
    simp only [Act.put,q1,q2,q3]
    refine LV (v := .bool false) rfl (run_pick (b := true) rfl rfl rfl) ?_
    simp only [Act.put,q1,q2,q3]
    refine LV (v := .bool false) rfl (run_pick (b := false) rfl rfl rfl) ?_
    simp only [Act.put,q1,q2,q3]
    refine LV (v := .bool false) rfl (run_assign rfl rfl) ?_
    simp only [Act.put,q1,q2,q3]
    refine wpList_nil ?_
    change Code.wp _ _ _ _ _
    refine wp_seq ?_
    -- region 8
    refine wp_region_lit ?_
    refine LV (v := .agg #[.bool nb, sb]) rfl (run_load_bx AgRaw rfl rfl (E.1) rfl) ?_
    simp only [Act.put,q1,q2,q3]
    refine L1 rfl (Oper.wp_callI fn_eref01_Made rfl (Made_is nb sb lb 40 _ (Sl.below hsb (E.2.2.1)) (by decide) hb) rfl E ?_)
    clear E
    intro w37 n37 s37 d37 E
    clear d37
    simp only [Act.put,q1,q2,q3]
    refine L1 rfl (Oper.wp_alloc AgI rfl ?_)
    intro b38 w38 e38 z38 d38 x38
    have l38_0 : b2 < b38 := by rw [e38]; exact Bx.lt (E.2.1)
    replace E := E.below d38
    clear e38 z38 d38
    simp only [Act.put,q1,q2,q3]
    refine L1 rfl (Oper.wp_store AgI rfl rfl rfl x38 rfl rfl (IsI.one (E.1)) ?_)
    intro w39 o39 y39
    replace E := (E.onl (x38.noW now0) ⟨trivial, okX (by omega), okX (by omega), okW (by omega), trivial⟩ o39).b y39
    clear x38 o39 y39
    simp only [Act.put]
    refine wpList_nil ?_
    change Code.wp _ _ _ _ _
    refine wp_seq ?_
    refine wp_seq ?_
    -- region 9
    refine wp_region_lit ?_
    refine LV (v := .agg #[.bool nA, sA]) rfl (run_load_bx AgI rfl rfl (E.2.2.2.1) rfl) ?_
    simp only [Act.put,q1,q2,q3]
    refine L1 rfl (Oper.wp_callB fn_integer_Valid rfl (Valid_is _ _ lA _ (Sl.below hsA (E.2.2.2.2.1)) (valid_z nA hl0 hlw)) rfl E ?_)
    clear E
    intro w40 d40 E
    clear d40
    simp only [Act.put,q1,q2,q3]
    refine LV (v := .bool false) rfl (run_move rfl rfl) ?_
    simp only [Act.put,q1,q2,q3]
    refine LV (v := .bool false) rfl (run_neB (a := false) (b := false) rfl Try.underlying4 rfl rfl (rfl)) ?_
    simp only [Act.put,q1,q2,q3]
    refine LV (v := .bool false) rfl (run_move rfl rfl) ?_
    simp only [Act.put,q1,q2,q3]
    refine LV (v := .agg #[.bool n37, s37]) rfl (run_load_bx AgI rfl rfl (E.1) rfl) ?_
    simp only [Act.put,q1,q2,q3]
    refine L1 rfl (Oper.wp_callB fn_integer_Valid rfl (Valid_z _ b _ (E.2.1)) rfl E ?_)
    clear E
    intro w41 d41 E
    clear d41
    simp only [Act.put,q1,q2,q3]
    refine LV (v := .bool false) rfl (run_not (b := true) rfl rfl) ?_
    simp only [Act.put,q1,q2,q3]
    refine LV (v := .bool false) rfl (run_pick (b := false) rfl rfl rfl) ?_
    simp only [Act.put,q1,q2,q3]
    refine wpList_nil ?_
    change Code.wp _ _ _ _ _
    refine wp_cond_false rfl ?_
    refine wp_skip ?_
    change Code.wp _ _ _ _ _
    refine wp_seq ?_
    refine wp_seq ?_
    -- region 11
    refine wp_region_lit ?_
    refine LV (v := .bool false) rfl (run_move rfl rfl) ?_
    simp only [Act.put,q1,q2,q3]
    refine LV (v := .bool true) rfl (run_not (b := false) rfl rfl) ?_
    simp only [Act.put,q1,q2,q3]
    refine wpList_nil ?_
    change Code.wp _ _ _ _ _
    refine wp_cond_true rfl ?_
    refine wp_seq ?_
    -- region 12
    refine wp_region_lit ?_
    refine LV (v := .bool true) rfl (run_move rfl rfl) ?_
    simp only [Act.put,q1,q2,q3]
    refine LV (v := .bool true) rfl (run_assign rfl rfl) ?_
    simp only [Act.put,q1,q2,q3]
    refine wpList_nil ?_
    change Code.wp _ _ _ _ _
    refine wp_ret ?_
    exact bodyPost_ret (v := .bool true) (by simp [results, Try.results3, asAddr]) rfl ⟨rfl, E.2.2.2.2.1⟩
   case neg =>
    -- region 7
    refine wp_region_lit ?_
    refine LV (v := .int .i64 ((lA.length : Nat) : Int)) rfl (run_move rfl rfl) ?_
    simp only [Act.put,q1,q2,q3]
    refine LV (v := .bool false) rfl (run_eqI (c := false) rfl rfl rfl (by rw [beq_eq_false_iff_ne]; omega)) ?_
    simp only [Act.put,q1,q2,q3]
    refine LV (v := .bool false) rfl (run_move rfl rfl) ?_
    simp only [Act.put,q1,q2,q3]
    have hzz := 1
    clear hzz
    refine L0 ?_ ?_
    · kernel_rfl
    simp only [Act.put,q1,q2,q3]
    have hzz := 1
    clear hzz
    refine L0 ?_ ?_
    · kernel_rfl
    simp only [Act.put,q1,q2,q3]
    have hzz := 1
    clear hzz
    refine L0 ?_ ?_
    · kernel_rfl
    simp only [Act.put,q1,q2,q3]
    refine LV (v := .bool false) rfl (run_pick (b := false) rfl rfl rfl) ?_
    simp only [Act.put,q1,q2,q3]
    refine LV (v := .bool false) rfl (run_move rfl rfl) ?_
    simp only [Act.put,q1,q2,q3]
    refine LV (v := .int .i64 ((lA.length : Nat) : Int)) rfl (run_move rfl rfl) ?_
    simp only [Act.put,q1,q2,q3]
    refine LV (v := .bool true) rfl (run_gtI (c := true) rfl rfl rfl (by rw [decide_eq_true_eq]; omega)) ?_
    simp only [Act.put,q1,q2,q3]
    refine LV (v := .bool true) rfl (run_move rfl rfl) ?_
    simp only [Act.put,q1,q2,q3]
    refine LV (v := .pointer (some ⟨b1, 1, none⟩)) rfl (run_fieldI1 rfl rfl) ?_
    simp only [Act.put,q1,q2,q3]
    refine LV (v := sA) rfl (run_cell rfl isAgg_words rfl (E.2.1) rfl) ?_
    simp only [Act.put,q1,q2,q3]
    refine LV (v := .int .i64 ((lA.length : Nat) : Int)) rfl (run_move rfl rfl) ?_
    simp only [Act.put,q1,q2,q3]
    refine LV (v := .int .i64 ((lA.length - 1 : Nat) : Int)) rfl (run_subI rfl rfl rfl (wrap_i64_nat (by omega) (by omega))) ?_
    simp only [Act.put,q1,q2,q3]
    refine LV (v := .int .i64 ((lA.length - 1 : Nat) : Int)) rfl (run_maxI rfl rfl rfl (by split <;> omega)) ?_
    simp only [Act.put,q1,q2,q3]
    refine LV (v := .pointer (some ⟨gA, oA + (lA.length - 1) * 1, none⟩)) rfl (run_idx (j := lA.length - 1) rfl Try.underlying22 (by kernel_rfl) hvA2 rfl rfl (by omega)) ?_
    simp only [Act.put,q1,q2,q3]
    refine LV (v := .int .u32 ((gd lA (lA.length - 1) : Nat) : Int)) rfl (run_loadC rfl isAgg_u32 rfl hcA) ?_
    simp only [Act.put,q1,q2,q3]
    refine LV (v := .bool true) rfl (run_neI (c := true) rfl rfl rfl (by rw [bne_iff_ne]; omega)) ?_
    simp only [Act.put,q1,q2,q3]
    refine LV (v := .bool true) rfl (run_pick (b := true) rfl rfl rfl) ?_
    simp only [Act.put,q1,q2,q3]
    refine LV (v := .bool true) rfl (run_pick (b := false) rfl rfl rfl) ?_
    simp only [Act.put,q1,q2,q3]
    refine LV (v := .bool true) rfl (run_assign rfl rfl) ?_
    simp only [Act.put,q1,q2,q3]
    refine wpList_nil ?_
    change Code.wp _ _ _ _ _
    refine wp_seq ?_
    -- region 8
    refine wp_region_lit ?_
    refine LV (v := .agg #[.bool nb, sb]) rfl (run_load_bx AgRaw rfl rfl (E.1) rfl) ?_
    simp only [Act.put,q1,q2,q3]
    refine L1 rfl (Oper.wp_callI fn_eref01_Made rfl (Made_is nb sb lb 40 _ (Sl.below hsb (E.2.2.1)) (by decide) hb) rfl E ?_)
    clear E
    intro w42 n42 s42 d42 E
    clear d42
    simp only [Act.put,q1,q2,q3]
    refine L1 rfl (Oper.wp_alloc AgI rfl ?_)
    intro b43 w43 e43 z43 d43 x43
    have l43_0 : b2 < b43 := by rw [e43]; exact Bx.lt (E.2.1)
    replace E := E.below d43
    clear e43 z43 d43
    simp only [Act.put,q1,q2,q3]
    refine L1 rfl (Oper.wp_store AgI rfl rfl rfl x43 rfl rfl (IsI.one (E.1)) ?_)
    intro w44 o44 y44
    replace E := (E.onl (x43.noW now0) ⟨trivial, okX (by omega), okX (by omega), okW (by omega), trivial⟩ o44).b y44
    clear x43 o44 y44
    simp only [Act.put]
    refine wpList_nil ?_
    change Code.wp _ _ _ _ _
    refine wp_seq ?_
    refine wp_seq ?_
    -- region 9
    refine wp_region_lit ?_
    refine LV (v := .agg #[.bool nA, sA]) rfl (run_load_bx AgI rfl rfl (E.2.2.2.1) rfl) ?_
    simp only [Act.put,q1,q2,q3]
    refine L1 rfl (Oper.wp_callB fn_integer_Valid rfl (Valid_is _ _ lA _ (Sl.below hsA (E.2.2.2.2.1)) (valid_nz nA hl0 hlw)) rfl E ?_)
    clear E
    intro w45 d45 E
    clear d45
    simp only [Act.put,q1,q2,q3]
    refine LV (v := .bool true) rfl (run_move rfl rfl) ?_
    simp only [Act.put,q1,q2,q3]
    refine LV (v := .bool false) rfl (run_neB (a := true) (b := true) rfl Try.underlying4 rfl rfl (rfl)) ?_
    simp only [Act.put,q1,q2,q3]
    refine LV (v := .bool false) rfl (run_move rfl rfl) ?_
    simp only [Act.put,q1,q2,q3]
    refine LV (v := .agg #[.bool n42, s42]) rfl (run_load_bx AgI rfl rfl (E.1) rfl) ?_
    simp only [Act.put,q1,q2,q3]
    refine L1 rfl (Oper.wp_callB fn_integer_Valid rfl (Valid_z _ b _ (E.2.1)) rfl E ?_)
    clear E
    intro w46 d46 E
    clear d46
    simp only [Act.put,q1,q2,q3]
    refine LV (v := .bool false) rfl (run_not (b := true) rfl rfl) ?_
    simp only [Act.put,q1,q2,q3]
    refine LV (v := .bool false) rfl (run_pick (b := false) rfl rfl rfl) ?_
    simp only [Act.put,q1,q2,q3]
    refine wpList_nil ?_
    change Code.wp _ _ _ _ _
    refine wp_cond_false rfl ?_
    refine wp_skip ?_
    change Code.wp _ _ _ _ _
    refine wp_seq ?_
    refine wp_seq ?_
    -- region 11
    refine wp_region_lit ?_
    refine LV (v := .bool true) rfl (run_move rfl rfl) ?_
    simp only [Act.put,q1,q2,q3]
    refine LV (v := .bool false) rfl (run_not (b := true) rfl rfl) ?_
    simp only [Act.put,q1,q2,q3]
    refine wpList_nil ?_
    change Code.wp _ _ _ _ _
    refine wp_cond_false rfl ?_
    refine wp_skip ?_
    change Code.wp _ _ _ _ _
    refine wp_seq ?_
    obtain ⟨hIA, hdA⟩ := canI (Sl.below hsA (E.2.2.2.2.1)) (valid_nz nA hl0 hlw)
    obtain ⟨za, hza⟩ : ∃ z, sgnI nA (val lA) = z := ⟨_, rfl⟩
    rw [hza] at hIA hdA
    replace E := E.i hIA
    by_cases h1 : nA = n42
    case pos =>
     by_cases h2 : lA.length = (digs b.natAbs).length
     case pos =>
      -- region 13
      refine wp_region_lit ?_
      refine LV (v := .pointer (some ⟨b1, 0, none⟩)) rfl (run_fieldI0 rfl rfl) ?_
      simp only [Act.put,q1,q2,q3]
      refine LV (v := .bool nA) rfl (run_cell rfl isAgg_bool rfl (E.2.2.2.2.1) rfl) ?_
      simp only [Act.put,q1,q2,q3]
      refine LV (v := .pointer (some ⟨b43, 0, none⟩)) rfl (run_fieldI0 rfl rfl) ?_
      simp only [Act.put,q1,q2,q3]
      refine LV (v := .bool n42) rfl (run_cell rfl isAgg_bool rfl (E.2.1) rfl) ?_
      simp only [Act.put,q1,q2,q3]
      refine LV (v := .bool true) rfl (run_eqB (a := nA) (b := n42) rfl Try.underlying4 rfl rfl (beq_iff_eq.2 h1)) ?_
      simp only [Act.put,q1,q2,q3]
      refine LV (v := .bool true) rfl (run_move rfl rfl) ?_
      simp only [Act.put,q1,q2,q3]
      refine LV (v := .int .i64 ((lA.length : Nat) : Int)) rfl (run_move rfl rfl) ?_
      simp only [Act.put,q1,q2,q3]
      refine LV (v := .pointer (some ⟨b43, 1, none⟩)) rfl (run_fieldI1 rfl rfl) ?_
      simp only [Act.put,q1,q2,q3]
      refine LV (v := s42) rfl (run_cell rfl isAgg_words rfl (E.2.1) rfl) ?_
      simp only [Act.put,q1,q2,q3]
      obtain ⟨ao47, cap47, hs47⟩ := IsI.slice (E.2.2.1)
      refine LV (v := .int .i64 (((digs b.natAbs).length : Nat) : Int)) rfl (run_len rfl hs47) ?_
      simp only [Act.put,q1,q2,q3]
      refine LV (v := .bool true) rfl (run_eqI (c := true) rfl rfl rfl (by rw [beq_iff_eq]; omega)) ?_
      simp only [Act.put,q1,q2,q3]
      refine LV (v := .bool true) rfl (run_pick (b := true) rfl rfl rfl) ?_
      simp only [Act.put,q1,q2,q3]
      refine LV (v := .bool true) rfl (run_assign rfl rfl) ?_
      simp only [Act.put,q1,q2,q3]
      refine wpList_nil ?_
      change Code.wp _ _ _ _ _
      refine wp_seq ?_
      refine wp_seq ?_
      -- region 14
      refine wp_region_lit ?_
      refine LV (v := .int .i64 0) rfl (run_assign rfl rfl) ?_
      simp only [Act.put,q1,q2,q3]
      refine wpList_nil ?_
      change Code.wp _ _ _ _ _
      refine wp_block ?_
      refine wp_loop_ghost (fun mz a w' => ∃ (i : Nat) (sm : Bool) (g67 g68 g69 g70 g71 g72 g73 g74 g75 g76 g77 g78 g79 g80 g81 g82 g83 g84 g85 : Value), a = ⟨#[.agg #[.bool nA, sA], .agg #[.bool nb, sb], .pointer (some ⟨b1, 0, none⟩), .pointer (some ⟨b2, 0, none⟩), .bool false, .bool true, .int .i64 ((lA.length : Nat) : Int), .bool true, .pointer (some ⟨b43, 0, none⟩), .bool sm, .int .i64 ((i : Nat) : Int), .bool true, .bool true, .bool false, .pointer (some ⟨b1, 1, none⟩), sA, .int .i64 ((lA.length : Nat) : Int), .int .i64 ((lA.length : Nat) : Int), .bool false, undef, .int .i64 ((lA.length : Nat) : Int), .bool false, .bool false, undef, undef, undef, .bool false, .bool false, .int .i64 ((lA.length : Nat) : Int), .bool true, .bool true, .pointer (some ⟨b1, 1, none⟩), sA, .int .i64 ((lA.length : Nat) : Int), .int .i64 ((lA.length - 1 : Nat) : Int), .int .i64 ((lA.length - 1 : Nat) : Int), .pointer (some ⟨gA, oA + (lA.length - 1) * 1, none⟩), .int .u32 ((gd lA (lA.length - 1) : Nat) : Int), .bool true, .bool true, .bool true, .agg #[.bool nb, sb], .agg #[.bool n42, s42], .agg #[.bool nA, sA], .bool true, .bool true, .bool false, .bool false, .agg #[.bool n42, s42], .bool true, .bool false, .bool false, .bool true, .bool false, undef, .pointer (some ⟨b1, 0, none⟩), .bool nA, .pointer (some ⟨b43, 0, none⟩), .bool n42, .bool true, .bool true, .int .i64 ((lA.length : Nat) : Int), .pointer (some ⟨b43, 1, none⟩), s42, .int .i64 (((digs b.natAbs).length : Nat) : Int), .bool true, .bool true, g67, g68, g69, g70, g71, g72, g73, g74, g75, g76, g77, g78, g79, g80, g81, g82, g83, g84, g85, undef, undef, undef, undef, undef, undef, undef, undef, undef, undef, undef, undef, undef, undef, undef], []⟩ ∧ Env w' [fI (.agg #[.bool nA, sA]) za, fB b43 n42 s42, fI (.agg #[.bool n42, s42]) b, fX b2 (25) ([.bool nb, sb]), fX b1 (24) ([.bool nA, sA]), fW w] ∧ mz = lA.length - i ∧ (i ≤ lA.length ∧ (sm = true → nA = n42 ∧ lA.length = (digs b.natAbs).length ∧ lA.take i = (digs b.natAbs).take i) ∧ (sm = false → za ≠ b))) (lA.length) ⟨0, true, _, _, _, _, _, _, _, _, _, _, _, _, _, _, _, _, _, _, _, rfl, (Env.i (Env.b (Env.i (Env.x (Env.x (Env.ww (Env.nil _) (E.2.2.2.2.2.1)) (E.2.2.2.2.1)) (E.2.2.2.1)) (E.2.2.1)) (E.2.1)) (E.1)), rfl, ⟨Nat.zero_le _, fun _ => ⟨h1, h2, rfl⟩, fun h => by cases h⟩⟩ ?_
      rintro m48 _ w48 ⟨i, sm, g67, g68, g69, g70, g71, g72, g73, g74, g75, g76, g77, g78, g79, g80, g81, g82, g83, g84, g85, rfl, E, hm48, hI48⟩
      obtain ⟨hI1, hI2, hI3⟩ := hI48
      by_cases hil : i < lA.length
      case pos =>
       by_cases hsm : sm = true
       case pos =>
        obtain ⟨hs1, hs2, hs3⟩ := hI2 hsm
        obtain ⟨gA, oA, cA, hvA3, _⟩ := Sl.at (i := i) (Sl.below hsA (E.2.2.2.2.2.1)) hil
        obtain ⟨gB, oB, cB, hvB3, _⟩ := Sl.at (i := i) (IsI.sl (E.2.2.1)) (by omega)
        by_cases hw : gd lA i = gd (digs b.natAbs) i
        case pos =>
         refine wp_seq ?_
         refine wp_seq ?_
         -- region 15
         refine wp_region_lit ?_
         refine LV (v := .int .i64 ((i : Nat) : Int)) rfl (run_move rfl rfl) ?_
         simp only [Act.put,q1,q2,q3]
         refine LV (v := .int .i64 ((lA.length : Nat) : Int)) rfl (run_move rfl rfl) ?_
         simp only [Act.put,q1,q2,q3]
         refine LV (v := .bool true) rfl (run_ltI (c := true) rfl rfl rfl (by rw [decide_eq_true_eq]; omega)) ?_
         simp only [Act.put,q1,q2,q3]
         refine LV (v := .bool true) rfl (run_move rfl rfl) ?_
         simp only [Act.put,q1,q2,q3]
         refine LV (v := .bool sm) rfl (run_move rfl rfl) ?_
         simp only [Act.put,q1,q2,q3]
         refine LV (v := .bool sm) rfl (run_pick (b := true) rfl rfl rfl) ?_
         simp only [Act.put,q1,q2,q3]
         refine wpList_nil ?_
         change Code.wp _ _ _ _ _
         refine wp_cond_true (congrArg Value.bool hsm) ?_
         refine wp_skip ?_
         change Code.wp _ _ _ _ _
         refine wp_seq ?_
         refine wp_block ?_
         -- region 17
         refine wp_schedE E ([0, 1, 2, 3, 4, 5, 6, 7, 8, 9, 10, 11]) (by kernel_rfl) (by kernel_rfl) (by kernel_rfl) (by kernel_rfl) (by intro d v c a w h; cases d <;> exact h) ?_
         replace E := E.drew
         refine SP (o := ⟨some 75, _, _, _, _, _⟩) (v := .pointer (some ⟨b1, 1, none⟩)) rfl rfl rfl rfl (fun w hS => run_fieldI1 rfl rfl) ?_
         simp only [Act.put,q1,q2,q3]
         refine SP (o := ⟨some 76, _, _, _, _, _⟩) (v := sA) rfl rfl rfl rfl (fun w hS => run_cell rfl isAgg_words rfl (hS.2.2.2.2.1) rfl) ?_
         simp only [Act.put,q1,q2,q3]
         refine SP (o := ⟨some 77, _, _, _, _, _⟩) (v := .int .i64 ((i : Nat) : Int)) rfl rfl rfl rfl (fun w hS => run_move rfl rfl) ?_
         simp only [Act.put,q1,q2,q3]
         refine SP (o := ⟨some 78, _, _, _, _, _⟩) (v := .pointer (some ⟨gA, oA + i * 1, none⟩)) rfl rfl rfl rfl (fun w hS => run_idx (j := i) rfl Try.underlying22 (by kernel_rfl) hvA3 rfl rfl hil) ?_
         simp only [Act.put,q1,q2,q3]
         refine SP (o := ⟨some 79, _, _, _, _, _⟩) (v := .int .u32 ((gd lA i : Nat) : Int)) rfl rfl rfl rfl (fun w hS => run_loadC rfl isAgg_u32 rfl (Sl.cell (eqSl hdA (IsI.sl (hS.1))) hvA3 hil)) ?_
         simp only [Act.put,q1,q2,q3]
         refine SP (o := ⟨some 80, _, _, _, _, _⟩) (v := .pointer (some ⟨b43, 1, none⟩)) rfl rfl rfl rfl (fun w hS => run_fieldI1 rfl rfl) ?_
         simp only [Act.put,q1,q2,q3]
         refine SP (o := ⟨some 81, _, _, _, _, _⟩) (v := s42) rfl rfl rfl rfl (fun w hS => run_cell rfl isAgg_words rfl (hS.2.1) rfl) ?_
         simp only [Act.put,q1,q2,q3]
         refine SP (o := ⟨some 82, _, _, _, _, _⟩) (v := .int .i64 ((i : Nat) : Int)) rfl rfl rfl rfl (fun w hS => run_move rfl rfl) ?_
         simp only [Act.put,q1,q2,q3]
         refine SP (o := ⟨some 83, _, _, _, _, _⟩) (v := .pointer (some ⟨gB, oB + i * 1, none⟩)) rfl rfl rfl rfl (fun w hS => run_idx (j := i) rfl Try.underlying22 (by kernel_rfl) hvB3 rfl rfl (by omega)) ?_
         simp only [Act.put,q1,q2,q3]
         refine SP (o := ⟨some 84, _, _, _, _, _⟩) (v := .int .u32 ((gd (digs b.natAbs) i : Nat) : Int)) rfl rfl rfl rfl (fun w hS => run_loadC rfl isAgg_u32 rfl (Sl.cell (IsI.sl (hS.2.2.1)) hvB3 (by omega))) ?_
         simp only [Act.put,q1,q2,q3]
         refine SP (o := ⟨some 85, _, _, _, _, _⟩) (v := .bool true) rfl rfl rfl rfl (fun w hS => run_eqI (c := true) rfl rfl rfl (by rw [beq_iff_eq, hw])) ?_
         simp only [Act.put,q1,q2,q3]
         refine SP (o := ⟨some 9, _, _, _, _, _⟩) (v := .bool true) rfl rfl rfl rfl (fun w hS => run_assign rfl rfl) ?_
         simp only [Act.put,q1,q2,q3]
         refine SN ?_
         change Code.wp _ _ _ _ _
         -- region 16
         refine wp_region_lit ?_
         refine LV (v := .int .i64 ((i : Nat) : Int)) rfl (run_move rfl rfl) ?_
         simp only [Act.put,q1,q2,q3]
         refine LV (v := .int .i64 ((i + 1 : Nat) : Int)) rfl (run_addI rfl rfl rfl (wrap_i64_nat (by omega) (by omega))) ?_
         simp only [Act.put,q1,q2,q3]
         refine LV (v := .int .i64 ((i + 1 : Nat) : Int)) rfl (run_assign rfl rfl) ?_
         simp only [Act.put,q1,q2,q3]
         refine wpList_nil ?_
         exact ⟨_, (by omega), i + 1, true, _, _, _, _, _, _, _, _, _, _, _, _, _, _, _, _, _, _, _, rfl, (Env.i (Env.b (Env.i (Env.x (Env.x (Env.ww (Env.nil _) (E.2.2.2.2.2.1)) (E.2.2.2.2.1)) (E.2.2.2.1)) (E.2.2.1)) (E.2.1)) (E.1)), rfl, ⟨by omega, fun _ => ⟨hs1, hs2, take_step hs3 hil (by omega) hw⟩, fun h => by cases h⟩⟩
        case neg =>
         refine wp_seq ?_
         refine wp_seq ?_
         -- region 15
         refine wp_region_lit ?_
         refine LV (v := .int .i64 ((i : Nat) : Int)) rfl (run_move rfl rfl) ?_
         simp only [Act.put,q1,q2,q3]
         refine LV (v := .int .i64 ((lA.length : Nat) : Int)) rfl (run_move rfl rfl) ?_
         simp only [Act.put,q1,q2,q3]
         refine LV (v := .bool true) rfl (run_ltI (c := true) rfl rfl rfl (by rw [decide_eq_true_eq]; omega)) ?_
         simp only [Act.put,q1,q2,q3]
         refine LV (v := .bool true) rfl (run_move rfl rfl) ?_
         simp only [Act.put,q1,q2,q3]
         refine LV (v := .bool sm) rfl (run_move rfl rfl) ?_
         simp only [Act.put,q1,q2,q3]
         refine LV (v := .bool sm) rfl (run_pick (b := true) rfl rfl rfl) ?_
         simp only [Act.put,q1,q2,q3]
         refine wpList_nil ?_
         change Code.wp _ _ _ _ _
         refine wp_cond_true (congrArg Value.bool hsm) ?_
         refine wp_skip ?_
         change Code.wp _ _ _ _ _
         refine wp_seq ?_
         refine wp_block ?_
         -- region 17
         refine wp_schedE E ([0, 1, 2, 3, 4, 5, 6, 7, 8, 9, 10, 11]) (by kernel_rfl) (by kernel_rfl) (by kernel_rfl) (by kernel_rfl) (by intro d v c a w h; cases d <;> exact h) ?_
         replace E := E.drew
         refine SP (o := ⟨some 75, _, _, _, _, _⟩) (v := .pointer (some ⟨b1, 1, none⟩)) rfl rfl rfl rfl (fun w hS => run_fieldI1 rfl rfl) ?_
         simp only [Act.put,q1,q2,q3]
         refine SP (o := ⟨some 76, _, _, _, _, _⟩) (v := sA) rfl rfl rfl rfl (fun w hS => run_cell rfl isAgg_words rfl (hS.2.2.2.2.1) rfl) ?_
         simp only [Act.put,q1,q2,q3]
         refine SP (o := ⟨some 77, _, _, _, _, _⟩) (v := .int .i64 ((i : Nat) : Int)) rfl rfl rfl rfl (fun w hS => run_move rfl rfl) ?_
         simp only [Act.put,q1,q2,q3]
         refine SP (o := ⟨some 78, _, _, _, _, _⟩) (v := .pointer (some ⟨gA, oA + i * 1, none⟩)) rfl rfl rfl rfl (fun w hS => run_idx (j := i) rfl Try.underlying22 (by kernel_rfl) hvA3 rfl rfl hil) ?_
         simp only [Act.put,q1,q2,q3]
         refine SP (o := ⟨some 79, _, _, _, _, _⟩) (v := .int .u32 ((gd lA i : Nat) : Int)) rfl rfl rfl rfl (fun w hS => run_loadC rfl isAgg_u32 rfl (Sl.cell (eqSl hdA (IsI.sl (hS.1))) hvA3 hil)) ?_
         simp only [Act.put,q1,q2,q3]
         refine SP (o := ⟨some 80, _, _, _, _, _⟩) (v := .pointer (some ⟨b43, 1, none⟩)) rfl rfl rfl rfl (fun w hS => run_fieldI1 rfl rfl) ?_
         simp only [Act.put,q1,q2,q3]
         refine SP (o := ⟨some 81, _, _, _, _, _⟩) (v := s42) rfl rfl rfl rfl (fun w hS => run_cell rfl isAgg_words rfl (hS.2.1) rfl) ?_
         simp only [Act.put,q1,q2,q3]
         refine SP (o := ⟨some 82, _, _, _, _, _⟩) (v := .int .i64 ((i : Nat) : Int)) rfl rfl rfl rfl (fun w hS => run_move rfl rfl) ?_
         simp only [Act.put,q1,q2,q3]
         refine SP (o := ⟨some 83, _, _, _, _, _⟩) (v := .pointer (some ⟨gB, oB + i * 1, none⟩)) rfl rfl rfl rfl (fun w hS => run_idx (j := i) rfl Try.underlying22 (by kernel_rfl) hvB3 rfl rfl (by omega)) ?_
         simp only [Act.put,q1,q2,q3]
         refine SP (o := ⟨some 84, _, _, _, _, _⟩) (v := .int .u32 ((gd (digs b.natAbs) i : Nat) : Int)) rfl rfl rfl rfl (fun w hS => run_loadC rfl isAgg_u32 rfl (Sl.cell (IsI.sl (hS.2.2.1)) hvB3 (by omega))) ?_
         simp only [Act.put,q1,q2,q3]
         refine SP (o := ⟨some 85, _, _, _, _, _⟩) (v := .bool false) rfl rfl rfl rfl (fun w hS => run_eqI (c := false) rfl rfl rfl (by rw [beq_eq_false_iff_ne]; omega)) ?_
         simp only [Act.put,q1,q2,q3]
         refine SP (o := ⟨some 9, _, _, _, _, _⟩) (v := .bool false) rfl rfl rfl rfl (fun w hS => run_assign rfl rfl) ?_
         simp only [Act.put,q1,q2,q3]
         refine SN ?_
         change Code.wp _ _ _ _ _
         -- region 16
         refine wp_region_lit ?_
         refine LV (v := .int .i64 ((i : Nat) : Int)) rfl (run_move rfl rfl) ?_
         simp only [Act.put,q1,q2,q3]
         refine LV (v := .int .i64 ((i + 1 : Nat) : Int)) rfl (run_addI rfl rfl rfl (wrap_i64_nat (by omega) (by omega))) ?_
         simp only [Act.put,q1,q2,q3]
         refine LV (v := .int .i64 ((i + 1 : Nat) : Int)) rfl (run_assign rfl rfl) ?_
         simp only [Act.put,q1,q2,q3]
         refine wpList_nil ?_
         exact ⟨_, (by omega), i + 1, false, _, _, _, _, _, _, _, _, _, _, _, _, _, _, _, _, _, _, _, rfl, (Env.i (Env.b (Env.i (Env.x (Env.x (Env.ww (Env.nil _) (E.2.2.2.2.2.1)) (E.2.2.2.2.1)) (E.2.2.2.1)) (E.2.2.1)) (E.2.1)) (E.1)), rfl, ⟨by omega, (fun h => by cases h), fun _ => ne_word hdA hw⟩⟩
       case neg =>
        refine wp_seq ?_
        refine wp_seq ?_
        -- region 15
        refine wp_region_lit ?_
        refine LV (v := .int .i64 ((i : Nat) : Int)) rfl (run_move rfl rfl) ?_
        simp only [Act.put,q1,q2,q3]
        refine LV (v := .int .i64 ((lA.length : Nat) : Int)) rfl (run_move rfl rfl) ?_
        simp only [Act.put,q1,q2,q3]
        refine LV (v := .bool true) rfl (run_ltI (c := true) rfl rfl rfl (by rw [decide_eq_true_eq]; omega)) ?_
        simp only [Act.put,q1,q2,q3]
        refine LV (v := .bool true) rfl (run_move rfl rfl) ?_
        simp only [Act.put,q1,q2,q3]
        refine LV (v := .bool sm) rfl (run_move rfl rfl) ?_
        simp only [Act.put,q1,q2,q3]
        refine LV (v := .bool sm) rfl (run_pick (b := true) rfl rfl rfl) ?_
        simp only [Act.put,q1,q2,q3]
        refine wpList_nil ?_
        change Code.wp _ _ _ _ _
        refine wp_cond_false (congrArg Value.bool (by simpa using hsm)) ?_
        refine wp_exit ?_
        change Code.wp _ _ _ _ _
        refine wp_seq ?_
        -- region 18
        refine wp_region_lit ?_
        refine LV (v := .bool true) rfl (run_move rfl rfl) ?_
        simp only [Act.put,q1,q2,q3]
        refine LV (v := .bool true) rfl (run_move rfl rfl) ?_
        simp only [Act.put,q1,q2,q3]
        refine LV (v := .agg #[.bool nA, sA]) rfl (run_load_bx AgI rfl rfl (E.2.2.2.2.1) rfl) ?_
        simp only [Act.put,q1,q2,q3]
        refine LV (v := .agg #[.bool n42, s42]) rfl (run_load_bx AgI rfl rfl (E.2.1) rfl) ?_
        simp only [Act.put,q1,q2,q3]
        refine L1 rfl (Oper.wp_callN fn_integer_Cmp rfl (Cmp_z _ _ za b _ (E.1) (E.2.2.1)) rfl E ?_)
        clear E
        intro w49 d49 E
        clear d49
        simp only [Act.put,q1,q2,q3]
        refine LV (v := .bool false) rfl (run_eqI (c := false) rfl rfl rfl (beq_eq_false_iff_ne.2 (cmpI_ne (hI3 (by simpa using hsm))))) ?_
        simp only [Act.put,q1,q2,q3]
        refine LV (v := .bool sm) rfl (run_move rfl rfl) ?_
        simp only [Act.put,q1,q2,q3]
        refine LV (v := .bool true) rfl (run_eqB (a := false) (b := sm) rfl Try.underlying4 rfl rfl (by rw [Bool.eq_false_iff.2 hsm]; rfl)) ?_
        simp only [Act.put,q1,q2,q3]
        refine LV (v := .bool true) rfl (run_pick (b := true) rfl rfl rfl) ?_
        simp only [Act.put,q1,q2,q3]
        refine LV (v := .bool true) rfl (run_move rfl rfl) ?_
        simp only [Act.put,q1,q2,q3]
        refine LV (v := .agg #[.bool nA, sA]) rfl (run_load_bx AgI rfl rfl (E.2.2.2.2.1) rfl) ?_
        simp only [Act.put,q1,q2,q3]
        refine LV (v := .agg #[.bool nA, sA]) rfl (run_load_bx AgI rfl rfl (E.2.2.2.2.1) rfl) ?_
        simp only [Act.put,q1,q2,q3]
        refine L1 rfl (Oper.wp_callN fn_integer_Cmp rfl (Cmp_z _ _ za za _ (E.1) (E.1)) rfl E ?_)
        clear E
        intro w50 d50 E
        clear d50
        simp only [Act.put,q1,q2,q3]
        refine LV (v := .bool true) rfl (run_eqI (c := true) rfl rfl rfl (beq_iff_eq.2 (cmpI_eq rfl))) ?_
        simp only [Act.put,q1,q2,q3]
        refine LV (v := .bool true) rfl (run_pick (b := true) rfl rfl rfl) ?_
        simp only [Act.put,q1,q2,q3]
        refine LV (v := .bool true) rfl (run_assign rfl rfl) ?_
        simp only [Act.put,q1,q2,q3]
        refine wpList_nil ?_
        change Code.wp _ _ _ _ _
        refine wp_ret ?_
        exact bodyPost_ret (v := .bool true) (by simp [results, Try.results3, asAddr]) rfl ⟨rfl, E.2.2.2.2.2.1⟩
      case neg =>
       by_cases hsm : sm = true
       case pos =>
        have hEq : za = b := same_end hdA (E.1) (E.2.2.1) (hI2 hsm) hI1 hil
        refine wp_seq ?_
        refine wp_seq ?_
        -- region 15
        refine wp_region_lit ?_
        refine LV (v := .int .i64 ((i : Nat) : Int)) rfl (run_move rfl rfl) ?_
        simp only [Act.put,q1,q2,q3]
        refine LV (v := .int .i64 ((lA.length : Nat) : Int)) rfl (run_move rfl rfl) ?_
        simp only [Act.put,q1,q2,q3]
        refine LV (v := .bool false) rfl (run_ltI (c := false) rfl rfl rfl (by rw [decide_eq_false_iff_not]; omega)) ?_
        simp only [Act.put,q1,q2,q3]
        refine LV (v := .bool false) rfl (run_move rfl rfl) ?_
        simp only [Act.put,q1,q2,q3]
        have hzz := 1
        clear hzz
        refine L0 ?_ ?_
        · kernel_rfl
        simp only [Act.put,q1,q2,q3]
        refine LV (v := .bool false) rfl (run_pick (b := false) rfl rfl rfl) ?_
        simp only [Act.put,q1,q2,q3]
        refine wpList_nil ?_
        change Code.wp _ _ _ _ _
        refine wp_cond_false rfl ?_
        refine wp_exit ?_
        change Code.wp _ _ _ _ _
        refine wp_seq ?_
        -- region 18
        refine wp_region_lit ?_
        refine LV (v := .bool true) rfl (run_move rfl rfl) ?_
        simp only [Act.put,q1,q2,q3]
        refine LV (v := .bool true) rfl (run_move rfl rfl) ?_
        simp only [Act.put,q1,q2,q3]
        refine LV (v := .agg #[.bool nA, sA]) rfl (run_load_bx AgI rfl rfl (E.2.2.2.2.1) rfl) ?_
        simp only [Act.put,q1,q2,q3]
        refine LV (v := .agg #[.bool n42, s42]) rfl (run_load_bx AgI rfl rfl (E.2.1) rfl) ?_
        simp only [Act.put,q1,q2,q3]
        refine L1 rfl (Oper.wp_callN fn_integer_Cmp rfl (Cmp_z _ _ za b _ (E.1) (E.2.2.1)) rfl E ?_)
        clear E
        intro w51 d51 E
        clear d51
        simp only [Act.put,q1,q2,q3]
        refine LV (v := .bool true) rfl (run_eqI (c := true) rfl rfl rfl (beq_iff_eq.2 (cmpI_eq hEq))) ?_
        simp only [Act.put,q1,q2,q3]
        refine LV (v := .bool sm) rfl (run_move rfl rfl) ?_
        simp only [Act.put,q1,q2,q3]
        refine LV (v := .bool true) rfl (run_eqB (a := true) (b := sm) rfl Try.underlying4 rfl rfl (by rw [hsm]; rfl)) ?_
        simp only [Act.put,q1,q2,q3]
        refine LV (v := .bool true) rfl (run_pick (b := true) rfl rfl rfl) ?_
        simp only [Act.put,q1,q2,q3]
        refine LV (v := .bool true) rfl (run_move rfl rfl) ?_
        simp only [Act.put,q1,q2,q3]
        refine LV (v := .agg #[.bool nA, sA]) rfl (run_load_bx AgI rfl rfl (E.2.2.2.2.1) rfl) ?_
        simp only [Act.put,q1,q2,q3]
        refine LV (v := .agg #[.bool nA, sA]) rfl (run_load_bx AgI rfl rfl (E.2.2.2.2.1) rfl) ?_
        simp only [Act.put,q1,q2,q3]
        refine L1 rfl (Oper.wp_callN fn_integer_Cmp rfl (Cmp_z _ _ za za _ (E.1) (E.1)) rfl E ?_)
        clear E
        intro w52 d52 E
        clear d52
        simp only [Act.put,q1,q2,q3]
        refine LV (v := .bool true) rfl (run_eqI (c := true) rfl rfl rfl (beq_iff_eq.2 (cmpI_eq rfl))) ?_
        simp only [Act.put,q1,q2,q3]
        refine LV (v := .bool true) rfl (run_pick (b := true) rfl rfl rfl) ?_
        simp only [Act.put,q1,q2,q3]
        refine LV (v := .bool true) rfl (run_assign rfl rfl) ?_
        simp only [Act.put,q1,q2,q3]
        refine wpList_nil ?_
        change Code.wp _ _ _ _ _
        refine wp_ret ?_
        exact bodyPost_ret (v := .bool true) (by simp [results, Try.results3, asAddr]) rfl ⟨rfl, E.2.2.2.2.2.1⟩
       case neg =>
        refine wp_seq ?_
        refine wp_seq ?_
        -- region 15
        refine wp_region_lit ?_
        refine LV (v := .int .i64 ((i : Nat) : Int)) rfl (run_move rfl rfl) ?_
        simp only [Act.put,q1,q2,q3]
        refine LV (v := .int .i64 ((lA.length : Nat) : Int)) rfl (run_move rfl rfl) ?_
        simp only [Act.put,q1,q2,q3]
        refine LV (v := .bool false) rfl (run_ltI (c := false) rfl rfl rfl (by rw [decide_eq_false_iff_not]; omega)) ?_
        simp only [Act.put,q1,q2,q3]
        refine LV (v := .bool false) rfl (run_move rfl rfl) ?_
        simp only [Act.put,q1,q2,q3]
        have hzz := 1
        clear hzz
        refine L0 ?_ ?_
        · kernel_rfl
        simp only [Act.put,q1,q2,q3]
        refine LV (v := .bool false) rfl (run_pick (b := false) rfl rfl rfl) ?_
        simp only [Act.put,q1,q2,q3]
        refine wpList_nil ?_
        change Code.wp _ _ _ _ _
        refine wp_cond_false rfl ?_
        refine wp_exit ?_
        change Code.wp _ _ _ _ _
        refine wp_seq ?_
        -- region 18
        refine wp_region_lit ?_
        refine LV (v := .bool true) rfl (run_move rfl rfl) ?_
        simp only [Act.put,q1,q2,q3]
        refine LV (v := .bool true) rfl (run_move rfl rfl) ?_
        simp only [Act.put,q1,q2,q3]
        refine LV (v := .agg #[.bool nA, sA]) rfl (run_load_bx AgI rfl rfl (E.2.2.2.2.1) rfl) ?_
        simp only [Act.put,q1,q2,q3]
        refine LV (v := .agg #[.bool n42, s42]) rfl (run_load_bx AgI rfl rfl (E.2.1) rfl) ?_
        simp only [Act.put,q1,q2,q3]
        refine L1 rfl (Oper.wp_callN fn_integer_Cmp rfl (Cmp_z _ _ za b _ (E.1) (E.2.2.1)) rfl E ?_)
        clear E
        intro w53 d53 E
        clear d53
        simp only [Act.put,q1,q2,q3]
        refine LV (v := .bool false) rfl (run_eqI (c := false) rfl rfl rfl (beq_eq_false_iff_ne.2 (cmpI_ne (hI3 (by simpa using hsm))))) ?_
        simp only [Act.put,q1,q2,q3]
        refine LV (v := .bool sm) rfl (run_move rfl rfl) ?_
        simp only [Act.put,q1,q2,q3]
        refine LV (v := .bool true) rfl (run_eqB (a := false) (b := sm) rfl Try.underlying4 rfl rfl (by rw [Bool.eq_false_iff.2 hsm]; rfl)) ?_
        simp only [Act.put,q1,q2,q3]
        refine LV (v := .bool true) rfl (run_pick (b := true) rfl rfl rfl) ?_
        simp only [Act.put,q1,q2,q3]
        refine LV (v := .bool true) rfl (run_move rfl rfl) ?_
        simp only [Act.put,q1,q2,q3]
        refine LV (v := .agg #[.bool nA, sA]) rfl (run_load_bx AgI rfl rfl (E.2.2.2.2.1) rfl) ?_
        simp only [Act.put,q1,q2,q3]
        refine LV (v := .agg #[.bool nA, sA]) rfl (run_load_bx AgI rfl rfl (E.2.2.2.2.1) rfl) ?_
        simp only [Act.put,q1,q2,q3]
        refine L1 rfl (Oper.wp_callN fn_integer_Cmp rfl (Cmp_z _ _ za za _ (E.1) (E.1)) rfl E ?_)
        clear E
        intro w54 d54 E
        clear d54
        simp only [Act.put,q1,q2,q3]
        refine LV (v := .bool true) rfl (run_eqI (c := true) rfl rfl rfl (beq_iff_eq.2 (cmpI_eq rfl))) ?_
        simp only [Act.put,q1,q2,q3]
        refine LV (v := .bool true) rfl (run_pick (b := true) rfl rfl rfl) ?_
        simp only [Act.put,q1,q2,q3]
        refine LV (v := .bool true) rfl (run_assign rfl rfl) ?_
        simp only [Act.put,q1,q2,q3]
        refine wpList_nil ?_
        change Code.wp _ _ _ _ _
        refine wp_ret ?_
        exact bodyPost_ret (v := .bool true) (by simp [results, Try.results3, asAddr]) rfl ⟨rfl, E.2.2.2.2.2.1⟩
     case neg =>
      -- region 13
      refine wp_region_lit ?_
      refine LV (v := .pointer (some ⟨b1, 0, none⟩)) rfl (run_fieldI0 rfl rfl) ?_
      simp only [Act.put,q1,q2,q3]
      refine LV (v := .bool nA) rfl (run_cell rfl isAgg_bool rfl (E.2.2.2.2.1) rfl) ?_
      simp only [Act.put,q1,q2,q3]
      refine LV (v := .pointer (some ⟨b43, 0, none⟩)) rfl (run_fieldI0 rfl rfl) ?_
      simp only [Act.put,q1,q2,q3]
      refine LV (v := .bool n42) rfl (run_cell rfl isAgg_bool rfl (E.2.1) rfl) ?_
      simp only [Act.put,q1,q2,q3]
      refine LV (v := .bool true) rfl (run_eqB (a := nA) (b := n42) rfl Try.underlying4 rfl rfl (beq_iff_eq.2 h1)) ?_
      simp only [Act.put,q1,q2,q3]
      refine LV (v := .bool true) rfl (run_move rfl rfl) ?_
      simp only [Act.put,q1,q2,q3]
      refine LV (v := .int .i64 ((lA.length : Nat) : Int)) rfl (run_move rfl rfl) ?_
      simp only [Act.put,q1,q2,q3]
      refine LV (v := .pointer (some ⟨b43, 1, none⟩)) rfl (run_fieldI1 rfl rfl) ?_
      simp only [Act.put,q1,q2,q3]
      refine LV (v := s42) rfl (run_cell rfl isAgg_words rfl (E.2.1) rfl) ?_
      simp only [Act.put,q1,q2,q3]
      obtain ⟨ao55, cap55, hs55⟩ := IsI.slice (E.2.2.1)
      refine LV (v := .int .i64 (((digs b.natAbs).length : Nat) : Int)) rfl (run_len rfl hs55) ?_
      simp only [Act.put,q1,q2,q3]
      refine LV (v := .bool false) rfl (run_eqI (c := false) rfl rfl rfl (by rw [beq_eq_false_iff_ne]; omega)) ?_
      simp only [Act.put,q1,q2,q3]
      refine LV (v := .bool false) rfl (run_pick (b := true) rfl rfl rfl) ?_
      simp only [Act.put,q1,q2,q3]
      refine LV (v := .bool false) rfl (run_assign rfl rfl) ?_
      simp only [Act.put,q1,q2,q3]
      refine wpList_nil ?_
      change Code.wp _ _ _ _ _
      refine wp_seq ?_
      refine wp_seq ?_
      -- region 14
      refine wp_region_lit ?_
      refine LV (v := .int .i64 0) rfl (run_assign rfl rfl) ?_
      simp only [Act.put,q1,q2,q3]
      refine wpList_nil ?_
      change Code.wp _ _ _ _ _
      refine wp_block ?_
      refine wp_loop_ghost (fun mz a w' => ∃ (i : Nat) (sm : Bool) (g67 g68 g69 g70 g71 g72 g73 g74 g75 g76 g77 g78 g79 g80 g81 g82 g83 g84 g85 : Value), a = ⟨#[.agg #[.bool nA, sA], .agg #[.bool nb, sb], .pointer (some ⟨b1, 0, none⟩), .pointer (some ⟨b2, 0, none⟩), .bool false, .bool true, .int .i64 ((lA.length : Nat) : Int), .bool true, .pointer (some ⟨b43, 0, none⟩), .bool sm, .int .i64 ((i : Nat) : Int), .bool true, .bool true, .bool false, .pointer (some ⟨b1, 1, none⟩), sA, .int .i64 ((lA.length : Nat) : Int), .int .i64 ((lA.length : Nat) : Int), .bool false, undef, .int .i64 ((lA.length : Nat) : Int), .bool false, .bool false, undef, undef, undef, .bool false, .bool false, .int .i64 ((lA.length : Nat) : Int), .bool true, .bool true, .pointer (some ⟨b1, 1, none⟩), sA, .int .i64 ((lA.length : Nat) : Int), .int .i64 ((lA.length - 1 : Nat) : Int), .int .i64 ((lA.length - 1 : Nat) : Int), .pointer (some ⟨gA, oA + (lA.length - 1) * 1, none⟩), .int .u32 ((gd lA (lA.length - 1) : Nat) : Int), .bool true, .bool true, .bool true, .agg #[.bool nb, sb], .agg #[.bool n42, s42], .agg #[.bool nA, sA], .bool true, .bool true, .bool false, .bool false, .agg #[.bool n42, s42], .bool true, .bool false, .bool false, .bool true, .bool false, undef, .pointer (some ⟨b1, 0, none⟩), .bool nA, .pointer (some ⟨b43, 0, none⟩), .bool n42, .bool true, .bool true, .int .i64 ((lA.length : Nat) : Int), .pointer (some ⟨b43, 1, none⟩), s42, .int .i64 (((digs b.natAbs).length : Nat) : Int), .bool false, .bool false, g67, g68, g69, g70, g71, g72, g73, g74, g75, g76, g77, g78, g79, g80, g81, g82, g83, g84, g85, undef, undef, undef, undef, undef, undef, undef, undef, undef, undef, undef, undef, undef, undef, undef], []⟩ ∧ Env w' [fI (.agg #[.bool nA, sA]) za, fB b43 n42 s42, fI (.agg #[.bool n42, s42]) b, fX b2 (25) ([.bool nb, sb]), fX b1 (24) ([.bool nA, sA]), fW w] ∧ mz = lA.length - i ∧ (i ≤ lA.length ∧ (sm = true → nA = n42 ∧ lA.length = (digs b.natAbs).length ∧ lA.take i = (digs b.natAbs).take i) ∧ (sm = false → za ≠ b))) (lA.length) ⟨0, false, _, _, _, _, _, _, _, _, _, _, _, _, _, _, _, _, _, _, _, rfl, (Env.i (Env.b (Env.i (Env.x (Env.x (Env.ww (Env.nil _) (E.2.2.2.2.2.1)) (E.2.2.2.2.1)) (E.2.2.2.1)) (E.2.2.1)) (E.2.1)) (E.1)), rfl, ⟨Nat.zero_le _, (fun h => by cases h), fun _ => ne_len hdA h2⟩⟩ ?_
      rintro m56 _ w56 ⟨i, sm, g67, g68, g69, g70, g71, g72, g73, g74, g75, g76, g77, g78, g79, g80, g81, g82, g83, g84, g85, rfl, E, hm56, hI56⟩
      obtain ⟨hI1, hI2, hI3⟩ := hI56
      by_cases hil : i < lA.length
      case pos =>
       by_cases hsm : sm = true
       case pos =>
        obtain ⟨hs1, hs2, hs3⟩ := hI2 hsm
        obtain ⟨gA, oA, cA, hvA3, _⟩ := Sl.at (i := i) (Sl.below hsA (E.2.2.2.2.2.1)) hil
        obtain ⟨gB, oB, cB, hvB3, _⟩ := Sl.at (i := i) (IsI.sl (E.2.2.1)) (by omega)
        by_cases hw : gd lA i = gd (digs b.natAbs) i
        case pos =>
         refine wp_seq ?_
         refine wp_seq ?_
         -- region 15
         refine wp_region_lit ?_
         refine LV (v := .int .i64 ((i : Nat) : Int)) rfl (run_move rfl rfl) ?_
         simp only [Act.put,q1,q2,q3]
         refine LV (v := .int .i64 ((lA.length : Nat) : Int)) rfl (run_move rfl rfl) ?_
         simp only [Act.put,q1,q2,q3]
         refine LV (v := .bool true) rfl (run_ltI (c := true) rfl rfl rfl (by rw [decide_eq_true_eq]; omega)) ?_
         simp only [Act.put,q1,q2,q3]
         refine LV (v := .bool true) rfl (run_move rfl rfl) ?_
         simp only [Act.put,q1,q2,q3]
         refine LV (v := .bool sm) rfl (run_move rfl rfl) ?_
         simp only [Act.put,q1,q2,q3]
         refine LV (v := .bool sm) rfl (run_pick (b := true) rfl rfl rfl) ?_
         simp only [Act.put,q1,q2,q3]
         refine wpList_nil ?_
         change Code.wp _ _ _ _ _
         refine wp_cond_true (congrArg Value.bool hsm) ?_
         refine wp_skip ?_
         change Code.wp _ _ _ _ _
         refine wp_seq ?_
         refine wp_block ?_
         -- region 17
         refine wp_schedE E ([0, 1, 2, 3, 4, 5, 6, 7, 8, 9, 10, 11]) (by kernel_rfl) (by kernel_rfl) (by kernel_rfl) (by kernel_rfl) (by intro d v c a w h; cases d <;> exact h) ?_
         replace E := E.drew
         refine SP (o := ⟨some 75, _, _, _, _, _⟩) (v := .pointer (some ⟨b1, 1, none⟩)) rfl rfl rfl rfl (fun w hS => run_fieldI1 rfl rfl) ?_
         simp only [Act.put,q1,q2,q3]
         refine SP (o := ⟨some 76, _, _, _, _, _⟩) (v := sA) rfl rfl rfl rfl (fun w hS => run_cell rfl isAgg_words rfl (hS.2.2.2.2.1) rfl) ?_
         simp only [Act.put,q1,q2,q3]
         refine SP (o := ⟨some 77, _, _, _, _, _⟩) (v := .int .i64 ((i : Nat) : Int)) rfl rfl rfl rfl (fun w hS => run_move rfl rfl) ?_
         simp only [Act.put,q1,q2,q3]
         refine SP (o := ⟨some 78, _, _, _, _, _⟩) (v := .pointer (some ⟨gA, oA + i * 1, none⟩)) rfl rfl rfl rfl (fun w hS => run_idx (j := i) rfl Try.underlying22 (by kernel_rfl) hvA3 rfl rfl hil) ?_
         simp only [Act.put,q1,q2,q3]
         refine SP (o := ⟨some 79, _, _, _, _, _⟩) (v := .int .u32 ((gd lA i : Nat) : Int)) rfl rfl rfl rfl (fun w hS => run_loadC rfl isAgg_u32 rfl (Sl.cell (eqSl hdA (IsI.sl (hS.1))) hvA3 hil)) ?_
         simp only [Act.put,q1,q2,q3]
         refine SP (o := ⟨some 80, _, _, _, _, _⟩) (v := .pointer (some ⟨b43, 1, none⟩)) rfl rfl rfl rfl (fun w hS => run_fieldI1 rfl rfl) ?_
         simp only [Act.put,q1,q2,q3]
         refine SP (o := ⟨some 81, _, _, _, _, _⟩) (v := s42) rfl rfl rfl rfl (fun w hS => run_cell rfl isAgg_words rfl (hS.2.1) rfl) ?_
         simp only [Act.put,q1,q2,q3]
         refine SP (o := ⟨some 82, _, _, _, _, _⟩) (v := .int .i64 ((i : Nat) : Int)) rfl rfl rfl rfl (fun w hS => run_move rfl rfl) ?_
         simp only [Act.put,q1,q2,q3]
         refine SP (o := ⟨some 83, _, _, _, _, _⟩) (v := .pointer (some ⟨gB, oB + i * 1, none⟩)) rfl rfl rfl rfl (fun w hS => run_idx (j := i) rfl Try.underlying22 (by kernel_rfl) hvB3 rfl rfl (by omega)) ?_
         simp only [Act.put,q1,q2,q3]
         refine SP (o := ⟨some 84, _, _, _, _, _⟩) (v := .int .u32 ((gd (digs b.natAbs) i : Nat) : Int)) rfl rfl rfl rfl (fun w hS => run_loadC rfl isAgg_u32 rfl (Sl.cell (IsI.sl (hS.2.2.1)) hvB3 (by omega))) ?_
         simp only [Act.put,q1,q2,q3]
         refine SP (o := ⟨some 85, _, _, _, _, _⟩) (v := .bool true) rfl rfl rfl rfl (fun w hS => run_eqI (c := true) rfl rfl rfl (by rw [beq_iff_eq, hw])) ?_
         simp only [Act.put,q1,q2,q3]
         refine SP (o := ⟨some 9, _, _, _, _, _⟩) (v := .bool true) rfl rfl rfl rfl (fun w hS => run_assign rfl rfl) ?_
         simp only [Act.put,q1,q2,q3]
         refine SN ?_
         change Code.wp _ _ _ _ _
         -- region 16
         refine wp_region_lit ?_
         refine LV (v := .int .i64 ((i : Nat) : Int)) rfl (run_move rfl rfl) ?_
         simp only [Act.put,q1,q2,q3]
         refine LV (v := .int .i64 ((i + 1 : Nat) : Int)) rfl (run_addI rfl rfl rfl (wrap_i64_nat (by omega) (by omega))) ?_
         simp only [Act.put,q1,q2,q3]
         refine LV (v := .int .i64 ((i + 1 : Nat) : Int)) rfl (run_assign rfl rfl) ?_
         simp only [Act.put,q1,q2,q3]
         refine wpList_nil ?_
         exact ⟨_, (by omega), i + 1, true, _, _, _, _, _, _, _, _, _, _, _, _, _, _, _, _, _, _, _, rfl, (Env.i (Env.b (Env.i (Env.x (Env.x (Env.ww (Env.nil _) (E.2.2.2.2.2.1)) (E.2.2.2.2.1)) (E.2.2.2.1)) (E.2.2.1)) (E.2.1)) (E.1)), rfl, ⟨by omega, fun _ => ⟨hs1, hs2, take_step hs3 hil (by omega) hw⟩, fun h => by cases h⟩⟩
        case neg =>
         refine wp_seq ?_
         refine wp_seq ?_
         -- region 15
         refine wp_region_lit ?_
         refine LV (v := .int .i64 ((i : Nat) : Int)) rfl (run_move rfl rfl) ?_
         simp only [Act.put,q1,q2,q3]
         refine LV (v := .int .i64 ((lA.length : Nat) : Int)) rfl (run_move rfl rfl) ?_
         simp only [Act.put,q1,q2,q3]
         refine LV (v := .bool true) rfl (run_ltI (c := true) rfl rfl rfl (by rw [decide_eq_true_eq]; omega)) ?_
         simp only [Act.put,q1,q2,q3]
         refine LV (v := .bool true) rfl (run_move rfl rfl) ?_
         simp only [Act.put,q1,q2,q3]
         refine LV (v := .bool sm) rfl (run_move rfl rfl) ?_
         simp only [Act.put,q1,q2,q3]
         refine LV (v := .bool sm) rfl (run_pick (b := true) rfl rfl rfl) ?_
         simp only [Act.put,q1,q2,q3]
         refine wpList_nil ?_
         change Code.wp _ _ _ _ _
         refine wp_cond_true (congrArg Value.bool hsm) ?_
         refine wp_skip ?_
         change Code.wp _ _ _ _ _
         refine wp_seq ?_
         refine wp_block ?_
         -- region 17
         refine wp_schedE E ([0, 1, 2, 3, 4, 5, 6, 7, 8, 9, 10, 11]) (by kernel_rfl) (by kernel_rfl) (by kernel_rfl) (by kernel_rfl) (by intro d v c a w h; cases d <;> exact h) ?_
         replace E := E.drew
         refine SP (o := ⟨some 75, _, _, _, _, _⟩) (v := .pointer (some ⟨b1, 1, none⟩)) rfl rfl rfl rfl (fun w hS => run_fieldI1 rfl rfl) ?_
         simp only [Act.put,q1,q2,q3]
         refine SP (o := ⟨some 76, _, _, _, _, _⟩) (v := sA) rfl rfl rfl rfl (fun w hS => run_cell rfl isAgg_words rfl (hS.2.2.2.2.1) rfl) ?_
         simp only [Act.put,q1,q2,q3]
         refine SP (o := ⟨some 77, _, _, _, _, _⟩) (v := .int .i64 ((i : Nat) : Int)) rfl rfl rfl rfl (fun w hS => run_move rfl rfl) ?_
         simp only [Act.put,q1,q2,q3]
         refine SP (o := ⟨some 78, _, _, _, _, _⟩) (v := .pointer (some ⟨gA, oA + i * 1, none⟩)) rfl rfl rfl rfl (fun w hS => run_idx (j := i) rfl Try.underlying22 (by kernel_rfl) hvA3 rfl rfl hil) ?_
         simp only [Act.put,q1,q2,q3]
         refine SP (o := ⟨some 79, _, _, _, _, _⟩) (v := .int .u32 ((gd lA i : Nat) : Int)) rfl rfl rfl rfl (fun w hS => run_loadC rfl isAgg_u32 rfl (Sl.cell (eqSl hdA (IsI.sl (hS.1))) hvA3 hil)) ?_
         simp only [Act.put,q1,q2,q3]
         refine SP (o := ⟨some 80, _, _, _, _, _⟩) (v := .pointer (some ⟨b43, 1, none⟩)) rfl rfl rfl rfl (fun w hS => run_fieldI1 rfl rfl) ?_
         simp only [Act.put,q1,q2,q3]
         refine SP (o := ⟨some 81, _, _, _, _, _⟩) (v := s42) rfl rfl rfl rfl (fun w hS => run_cell rfl isAgg_words rfl (hS.2.1) rfl) ?_
         simp only [Act.put,q1,q2,q3]
         refine SP (o := ⟨some 82, _, _, _, _, _⟩) (v := .int .i64 ((i : Nat) : Int)) rfl rfl rfl rfl (fun w hS => run_move rfl rfl) ?_
         simp only [Act.put,q1,q2,q3]
         refine SP (o := ⟨some 83, _, _, _, _, _⟩) (v := .pointer (some ⟨gB, oB + i * 1, none⟩)) rfl rfl rfl rfl (fun w hS => run_idx (j := i) rfl Try.underlying22 (by kernel_rfl) hvB3 rfl rfl (by omega)) ?_
         simp only [Act.put,q1,q2,q3]
         refine SP (o := ⟨some 84, _, _, _, _, _⟩) (v := .int .u32 ((gd (digs b.natAbs) i : Nat) : Int)) rfl rfl rfl rfl (fun w hS => run_loadC rfl isAgg_u32 rfl (Sl.cell (IsI.sl (hS.2.2.1)) hvB3 (by omega))) ?_
         simp only [Act.put,q1,q2,q3]
         refine SP (o := ⟨some 85, _, _, _, _, _⟩) (v := .bool false) rfl rfl rfl rfl (fun w hS => run_eqI (c := false) rfl rfl rfl (by rw [beq_eq_false_iff_ne]; omega)) ?_
         simp only [Act.put,q1,q2,q3]
         refine SP (o := ⟨some 9, _, _, _, _, _⟩) (v := .bool false) rfl rfl rfl rfl (fun w hS => run_assign rfl rfl) ?_
         simp only [Act.put,q1,q2,q3]
         refine SN ?_
         change Code.wp _ _ _ _ _
         -- region 16
         refine wp_region_lit ?_
         refine LV (v := .int .i64 ((i : Nat) : Int)) rfl (run_move rfl rfl) ?_
         simp only [Act.put,q1,q2,q3]
         refine LV (v := .int .i64 ((i + 1 : Nat) : Int)) rfl (run_addI rfl rfl rfl (wrap_i64_nat (by omega) (by omega))) ?_
         simp only [Act.put,q1,q2,q3]
         refine LV (v := .int .i64 ((i + 1 : Nat) : Int)) rfl (run_assign rfl rfl) ?_
         simp only [Act.put,q1,q2,q3]
         refine wpList_nil ?_
         exact ⟨_, (by omega), i + 1, false, _, _, _, _, _, _, _, _, _, _, _, _, _, _, _, _, _, _, _, rfl, (Env.i (Env.b (Env.i (Env.x (Env.x (Env.ww (Env.nil _) (E.2.2.2.2.2.1)) (E.2.2.2.2.1)) (E.2.2.2.1)) (E.2.2.1)) (E.2.1)) (E.1)), rfl, ⟨by omega, (fun h => by cases h), fun _ => ne_word hdA hw⟩⟩
       case neg =>
        refine wp_seq ?_
        refine wp_seq ?_
        -- region 15
        refine wp_region_lit ?_
        refine LV (v := .int .i64 ((i : Nat) : Int)) rfl (run_move rfl rfl) ?_
        simp only [Act.put,q1,q2,q3]
        refine LV (v := .int .i64 ((lA.length : Nat) : Int)) rfl (run_move rfl rfl) ?_
        simp only [Act.put,q1,q2,q3]
        refine LV (v := .bool true) rfl (run_ltI (c := true) rfl rfl rfl (by rw [decide_eq_true_eq]; omega)) ?_
        simp only [Act.put,q1,q2,q3]
        refine LV (v := .bool true) rfl (run_move rfl rfl) ?_
        simp only [Act.put,q1,q2,q3]
        refine LV (v := .bool sm) rfl (run_move rfl rfl) ?_
        simp only [Act.put,q1,q2,q3]
        refine LV (v := .bool sm) rfl (run_pick (b := true) rfl rfl rfl) ?_
        simp only [Act.put,q1,q2,q3]
        refine wpList_nil ?_
        change Code.wp _ _ _ _ _
        refine wp_cond_false (congrArg Value.bool (by simpa using hsm)) ?_
        refine wp_exit ?_
        change Code.wp _ _ _ _ _
        refine wp_seq ?_
        -- region 18
        refine wp_region_lit ?_
        refine LV (v := .bool true) rfl (run_move rfl rfl) ?_
        simp only [Act.put,q1,q2,q3]
        refine LV (v := .bool true) rfl (run_move rfl rfl) ?_
        simp only [Act.put,q1,q2,q3]
        refine LV (v := .agg #[.bool nA, sA]) rfl (run_load_bx AgI rfl rfl (E.2.2.2.2.1) rfl) ?_
        simp only [Act.put,q1,q2,q3]
        refine LV (v := .agg #[.bool n42, s42]) rfl (run_load_bx AgI rfl rfl (E.2.1) rfl) ?_
        simp only [Act.put,q1,q2,q3]
        refine L1 rfl (Oper.wp_callN fn_integer_Cmp rfl (Cmp_z _ _ za b _ (E.1) (E.2.2.1)) rfl E ?_)
        clear E
        intro w57 d57 E
        clear d57
        simp only [Act.put,q1,q2,q3]
        refine LV (v := .bool false) rfl (run_eqI (c := false) rfl rfl rfl (beq_eq_false_iff_ne.2 (cmpI_ne (hI3 (by simpa using hsm))))) ?_
        simp only [Act.put,q1,q2,q3]
        refine LV (v := .bool sm) rfl (run_move rfl rfl) ?_
        simp only [Act.put,q1,q2,q3]
        refine LV (v := .bool true) rfl (run_eqB (a := false) (b := sm) rfl Try.underlying4 rfl rfl (by rw [Bool.eq_false_iff.2 hsm]; rfl)) ?_
        simp only [Act.put,q1,q2,q3]
        refine LV (v := .bool true) rfl (run_pick (b := true) rfl rfl rfl) ?_
        simp only [Act.put,q1,q2,q3]
        refine LV (v := .bool true) rfl (run_move rfl rfl) ?_
        simp only [Act.put,q1,q2,q3]
        refine LV (v := .agg #[.bool nA, sA]) rfl (run_load_bx AgI rfl rfl (E.2.2.2.2.1) rfl) ?_
        simp only [Act.put,q1,q2,q3]
        refine LV (v := .agg #[.bool nA, sA]) rfl (run_load_bx AgI rfl rfl (E.2.2.2.2.1) rfl) ?_
        simp only [Act.put,q1,q2,q3]
        refine L1 rfl (Oper.wp_callN fn_integer_Cmp rfl (Cmp_z _ _ za za _ (E.1) (E.1)) rfl E ?_)
        clear E
        intro w58 d58 E
        clear d58
        simp only [Act.put,q1,q2,q3]
        refine LV (v := .bool true) rfl (run_eqI (c := true) rfl rfl rfl (beq_iff_eq.2 (cmpI_eq rfl))) ?_
        simp only [Act.put,q1,q2,q3]
        refine LV (v := .bool true) rfl (run_pick (b := true) rfl rfl rfl) ?_
        simp only [Act.put,q1,q2,q3]
        refine LV (v := .bool true) rfl (run_assign rfl rfl) ?_
        simp only [Act.put,q1,q2,q3]
        refine wpList_nil ?_
        change Code.wp _ _ _ _ _
        refine wp_ret ?_
        exact bodyPost_ret (v := .bool true) (by simp [results, Try.results3, asAddr]) rfl ⟨rfl, E.2.2.2.2.2.1⟩
      case neg =>
       by_cases hsm : sm = true
       case pos =>
        have hEq : za = b := same_end hdA (E.1) (E.2.2.1) (hI2 hsm) hI1 hil
        refine wp_seq ?_
        refine wp_seq ?_
        -- region 15
        refine wp_region_lit ?_
        refine LV (v := .int .i64 ((i : Nat) : Int)) rfl (run_move rfl rfl) ?_
        simp only [Act.put,q1,q2,q3]
        refine LV (v := .int .i64 ((lA.length : Nat) : Int)) rfl (run_move rfl rfl) ?_
        simp only [Act.put,q1,q2,q3]
        refine LV (v := .bool false) rfl (run_ltI (c := false) rfl rfl rfl (by rw [decide_eq_false_iff_not]; omega)) ?_
        simp only [Act.put,q1,q2,q3]
        refine LV (v := .bool false) rfl (run_move rfl rfl) ?_
        simp only [Act.put,q1,q2,q3]
        have hzz := 1
        clear hzz
        refine L0 ?_ ?_
        · kernel_rfl
        simp only [Act.put,q1,q2,q3]
        refine LV (v := .bool false) rfl (run_pick (b := false) rfl rfl rfl) ?_
        simp only [Act.put,q1,q2,q3]
        refine wpList_nil ?_
        change Code.wp _ _ _ _ _
        refine wp_cond_false rfl ?_
        refine wp_exit ?_
        change Code.wp _ _ _ _ _
        refine wp_seq ?_
        -- region 18
        refine wp_region_lit ?_
        refine LV (v := .bool true) rfl (run_move rfl rfl) ?_
        simp only [Act.put,q1,q2,q3]
        refine LV (v := .bool true) rfl (run_move rfl rfl) ?_
        simp only [Act.put,q1,q2,q3]
        refine LV (v := .agg #[.bool nA, sA]) rfl (run_load_bx AgI rfl rfl (E.2.2.2.2.1) rfl) ?_
        simp only [Act.put,q1,q2,q3]
        refine LV (v := .agg #[.bool n42, s42]) rfl (run_load_bx AgI rfl rfl (E.2.1) rfl) ?_
        simp only [Act.put,q1,q2,q3]
        refine L1 rfl (Oper.wp_callN fn_integer_Cmp rfl (Cmp_z _ _ za b _ (E.1) (E.2.2.1)) rfl E ?_)
        clear E
        intro w59 d59 E
        clear d59
        simp only [Act.put,q1,q2,q3]
        refine LV (v := .bool true) rfl (run_eqI (c := true) rfl rfl rfl (beq_iff_eq.2 (cmpI_eq hEq))) ?_
        simp only [Act.put,q1,q2,q3]
        refine LV (v := .bool sm) rfl (run_move rfl rfl) ?_
        simp only [Act.put,q1,q2,q3]
        refine LV (v := .bool true) rfl (run_eqB (a := true) (b := sm) rfl Try.underlying4 rfl rfl (by rw [hsm]; rfl)) ?_
        simp only [Act.put,q1,q2,q3]
        refine LV (v := .bool true) rfl (run_pick (b := true) rfl rfl rfl) ?_
        simp only [Act.put,q1,q2,q3]
        refine LV (v := .bool true) rfl (run_move rfl rfl) ?_
        simp only [Act.put,q1,q2,q3]
        refine LV (v := .agg #[.bool nA, sA]) rfl (run_load_bx AgI rfl rfl (E.2.2.2.2.1) rfl) ?_
        simp only [Act.put,q1,q2,q3]
        refine LV (v := .agg #[.bool nA, sA]) rfl (run_load_bx AgI rfl rfl (E.2.2.2.2.1) rfl) ?_
        simp only [Act.put,q1,q2,q3]
        refine L1 rfl (Oper.wp_callN fn_integer_Cmp rfl (Cmp_z _ _ za za _ (E.1) (E.1)) rfl E ?_)
        clear E
        intro w60 d60 E
        clear d60
        simp only [Act.put,q1,q2,q3]
        refine LV (v := .bool true) rfl (run_eqI (c := true) rfl rfl rfl (beq_iff_eq.2 (cmpI_eq rfl))) ?_
        simp only [Act.put,q1,q2,q3]
        refine LV (v := .bool true) rfl (run_pick (b := true) rfl rfl rfl) ?_
        simp only [Act.put,q1,q2,q3]
        refine LV (v := .bool true) rfl (run_assign rfl rfl) ?_
        simp only [Act.put,q1,q2,q3]
        refine wpList_nil ?_
        change Code.wp _ _ _ _ _
        refine wp_ret ?_
        exact bodyPost_ret (v := .bool true) (by simp [results, Try.results3, asAddr]) rfl ⟨rfl, E.2.2.2.2.2.1⟩
       case neg =>
        refine wp_seq ?_
        refine wp_seq ?_
        -- region 15
        refine wp_region_lit ?_
        refine LV (v := .int .i64 ((i : Nat) : Int)) rfl (run_move rfl rfl) ?_
        simp only [Act.put,q1,q2,q3]
        refine LV (v := .int .i64 ((lA.length : Nat) : Int)) rfl (run_move rfl rfl) ?_
        simp only [Act.put,q1,q2,q3]
        refine LV (v := .bool false) rfl (run_ltI (c := false) rfl rfl rfl (by rw [decide_eq_false_iff_not]; omega)) ?_
        simp only [Act.put,q1,q2,q3]
        refine LV (v := .bool false) rfl (run_move rfl rfl) ?_
        simp only [Act.put,q1,q2,q3]
        have hzz := 1
        clear hzz
        refine L0 ?_ ?_
        · kernel_rfl
        simp only [Act.put,q1,q2,q3]
        refine LV (v := .bool false) rfl (run_pick (b := false) rfl rfl rfl) ?_
        simp only [Act.put,q1,q2,q3]
        refine wpList_nil ?_
        change Code.wp _ _ _ _ _
        refine wp_cond_false rfl ?_
        refine wp_exit ?_
        change Code.wp _ _ _ _ _
        refine wp_seq ?_
        -- region 18
        refine wp_region_lit ?_
        refine LV (v := .bool true) rfl (run_move rfl rfl) ?_
        simp only [Act.put,q1,q2,q3]
        refine LV (v := .bool true) rfl (run_move rfl rfl) ?_
        simp only [Act.put,q1,q2,q3]
        refine LV (v := .agg #[.bool nA, sA]) rfl (run_load_bx AgI rfl rfl (E.2.2.2.2.1) rfl) ?_
        simp only [Act.put,q1,q2,q3]
        refine LV (v := .agg #[.bool n42, s42]) rfl (run_load_bx AgI rfl rfl (E.2.1) rfl) ?_
        simp only [Act.put,q1,q2,q3]
        refine L1 rfl (Oper.wp_callN fn_integer_Cmp rfl (Cmp_z _ _ za b _ (E.1) (E.2.2.1)) rfl E ?_)
        clear E
        intro w61 d61 E
        clear d61
        simp only [Act.put,q1,q2,q3]
        refine LV (v := .bool false) rfl (run_eqI (c := false) rfl rfl rfl (beq_eq_false_iff_ne.2 (cmpI_ne (hI3 (by simpa using hsm))))) ?_
        simp only [Act.put,q1,q2,q3]
        refine LV (v := .bool sm) rfl (run_move rfl rfl) ?_
        simp only [Act.put,q1,q2,q3]
        refine LV (v := .bool true) rfl (run_eqB (a := false) (b := sm) rfl Try.underlying4 rfl rfl (by rw [Bool.eq_false_iff.2 hsm]; rfl)) ?_
        simp only [Act.put,q1,q2,q3]
        refine LV (v := .bool true) rfl (run_pick (b := true) rfl rfl rfl) ?_
        simp only [Act.put,q1,q2,q3]
        refine LV (v := .bool true) rfl (run_move rfl rfl) ?_
        simp only [Act.put,q1,q2,q3]
        refine LV (v := .agg #[.bool nA, sA]) rfl (run_load_bx AgI rfl rfl (E.2.2.2.2.1) rfl) ?_
        simp only [Act.put,q1,q2,q3]
        refine LV (v := .agg #[.bool nA, sA]) rfl (run_load_bx AgI rfl rfl (E.2.2.2.2.1) rfl) ?_
        simp only [Act.put,q1,q2,q3]
        refine L1 rfl (Oper.wp_callN fn_integer_Cmp rfl (Cmp_z _ _ za za _ (E.1) (E.1)) rfl E ?_)
        clear E
        intro w62 d62 E
        clear d62
        simp only [Act.put,q1,q2,q3]
        refine LV (v := .bool true) rfl (run_eqI (c := true) rfl rfl rfl (beq_iff_eq.2 (cmpI_eq rfl))) ?_
        simp only [Act.put,q1,q2,q3]
        refine LV (v := .bool true) rfl (run_pick (b := true) rfl rfl rfl) ?_
        simp only [Act.put,q1,q2,q3]
        refine LV (v := .bool true) rfl (run_assign rfl rfl) ?_
        simp only [Act.put,q1,q2,q3]
        refine wpList_nil ?_
        change Code.wp _ _ _ _ _
        refine wp_ret ?_
        exact bodyPost_ret (v := .bool true) (by simp [results, Try.results3, asAddr]) rfl ⟨rfl, E.2.2.2.2.2.1⟩
    case neg =>
     have hne0 := ne_sign (E.1) (E.2.2.1) h1
     -- region 13
     refine wp_region_lit ?_
     refine LV (v := .pointer (some ⟨b1, 0, none⟩)) rfl (run_fieldI0 rfl rfl) ?_
     simp only [Act.put,q1,q2,q3]
     refine LV (v := .bool nA) rfl (run_cell rfl isAgg_bool rfl (E.2.2.2.2.1) rfl) ?_
     simp only [Act.put,q1,q2,q3]
     refine LV (v := .pointer (some ⟨b43, 0, none⟩)) rfl (run_fieldI0 rfl rfl) ?_
     simp only [Act.put,q1,q2,q3]
     refine LV (v := .bool n42) rfl (run_cell rfl isAgg_bool rfl (E.2.1) rfl) ?_
     simp only [Act.put,q1,q2,q3]
     refine LV (v := .bool false) rfl (run_eqB (a := nA) (b := n42) rfl Try.underlying4 rfl rfl (beq_eq_false_iff_ne.2 h1)) ?_
     simp only [Act.put,q1,q2,q3]
     refine LV (v := .bool false) rfl (run_move rfl rfl) ?_
     simp only [Act.put,q1,q2,q3]
     have hzz := 1
     clear hzz
     refine L0 ?_ ?_
     · kernel_rfl
     simp only [Act.put,q1,q2,q3]
     have hzz := 1
     clear hzz
     refine L0 ?_ ?_
     · kernel_rfl
     simp only [Act.put,q1,q2,q3]
     have hzz := 1
     clear hzz
     refine L0 ?_ ?_
     · kernel_rfl
     simp only [Act.put,q1,q2,q3]
     have hzz := 1
     clear hzz
     refine L0 ?_ ?_
     · kernel_rfl
     simp only [Act.put,q1,q2,q3]
     have hzz := 1
     clear hzz
     refine L0 ?_ ?_
     · kernel_rfl
     simp only [Act.put,q1,q2,q3]
     refine LV (v := .bool false) rfl (run_pick (b := false) rfl rfl rfl) ?_
     simp only [Act.put,q1,q2,q3]
     refine LV (v := .bool false) rfl (run_assign rfl rfl) ?_
     simp only [Act.put,q1,q2,q3]
     refine wpList_nil ?_
     change Code.wp _ _ _ _ _
     refine wp_seq ?_
     refine wp_seq ?_
     -- region 14
     refine wp_region_lit ?_
     refine LV (v := .int .i64 0) rfl (run_assign rfl rfl) ?_
     simp only [Act.put,q1,q2,q3]
     refine wpList_nil ?_
     change Code.wp _ _ _ _ _
     refine wp_block ?_
     refine wp_loop_ghost (fun mz a w' => ∃ (i : Nat) (sm : Bool) (g67 g68 g69 g70 g71 g72 g73 g74 g75 g76 g77 g78 g79 g80 g81 g82 g83 g84 g85 : Value), a = ⟨#[.agg #[.bool nA, sA], .agg #[.bool nb, sb], .pointer (some ⟨b1, 0, none⟩), .pointer (some ⟨b2, 0, none⟩), .bool false, .bool true, .int .i64 ((lA.length : Nat) : Int), .bool true, .pointer (some ⟨b43, 0, none⟩), .bool sm, .int .i64 ((i : Nat) : Int), .bool true, .bool true, .bool false, .pointer (some ⟨b1, 1, none⟩), sA, .int .i64 ((lA.length : Nat) : Int), .int .i64 ((lA.length : Nat) : Int), .bool false, undef, .int .i64 ((lA.length : Nat) : Int), .bool false, .bool false, undef, undef, undef, .bool false, .bool false, .int .i64 ((lA.length : Nat) : Int), .bool true, .bool true, .pointer (some ⟨b1, 1, none⟩), sA, .int .i64 ((lA.length : Nat) : Int), .int .i64 ((lA.length - 1 : Nat) : Int), .int .i64 ((lA.length - 1 : Nat) : Int), .pointer (some ⟨gA, oA + (lA.length - 1) * 1, none⟩), .int .u32 ((gd lA (lA.length - 1) : Nat) : Int), .bool true, .bool true, .bool true, .agg #[.bool nb, sb], .agg #[.bool n42, s42], .agg #[.bool nA, sA], .bool true, .bool true, .bool false, .bool false, .agg #[.bool n42, s42], .bool true, .bool false, .bool false, .bool true, .bool false, undef, .pointer (some ⟨b1, 0, none⟩), .bool nA, .pointer (some ⟨b43, 0, none⟩), .bool n42, .bool false, .bool false, undef, undef, undef, undef, undef, .bool false, g67, g68, g69, g70, g71, g72, g73, g74, g75, g76, g77, g78, g79, g80, g81, g82, g83, g84, g85, undef, undef, undef, undef, undef, undef, undef, undef, undef, undef, undef, undef, undef, undef, undef], []⟩ ∧ Env w' [fI (.agg #[.bool nA, sA]) za, fB b43 n42 s42, fI (.agg #[.bool n42, s42]) b, fX b2 (25) ([.bool nb, sb]), fX b1 (24) ([.bool nA, sA]), fW w] ∧ mz = lA.length - i ∧ (i ≤ lA.length ∧ (sm = true → nA = n42 ∧ lA.length = (digs b.natAbs).length ∧ lA.take i = (digs b.natAbs).take i) ∧ (sm = false → za ≠ b))) (lA.length) ⟨0, false, _, _, _, _, _, _, _, _, _, _, _, _, _, _, _, _, _, _, _, rfl, (Env.i (Env.b (Env.i (Env.x (Env.x (Env.ww (Env.nil _) (E.2.2.2.2.2.1)) (E.2.2.2.2.1)) (E.2.2.2.1)) (E.2.2.1)) (E.2.1)) (E.1)), rfl, ⟨Nat.zero_le _, (fun h => by cases h), fun _ => hne0⟩⟩ ?_
     rintro m63 _ w63 ⟨i, sm, g67, g68, g69, g70, g71, g72, g73, g74, g75, g76, g77, g78, g79, g80, g81, g82, g83, g84, g85, rfl, E, hm63, hI63⟩
     obtain ⟨hI1, hI2, hI3⟩ := hI63
     by_cases hil : i < lA.length
     case pos =>
      by_cases hsm : sm = true
      case pos =>
       obtain ⟨hs1, hs2, hs3⟩ := hI2 hsm
       obtain ⟨gA, oA, cA, hvA3, _⟩ := Sl.at (i := i) (Sl.below hsA (E.2.2.2.2.2.1)) hil
       obtain ⟨gB, oB, cB, hvB3, _⟩ := Sl.at (i := i) (IsI.sl (E.2.2.1)) (by omega)
       by_cases hw : gd lA i = gd (digs b.natAbs) i
       case pos =>
        refine wp_seq ?_
        refine wp_seq ?_
        -- region 15
        refine wp_region_lit ?_
        refine LV (v := .int .i64 ((i : Nat) : Int)) rfl (run_move rfl rfl) ?_
        simp only [Act.put,q1,q2,q3]
        refine LV (v := .int .i64 ((lA.length : Nat) : Int)) rfl (run_move rfl rfl) ?_
        simp only [Act.put,q1,q2,q3]
        refine LV (v := .bool true) rfl (run_ltI (c := true) rfl rfl rfl (by rw [decide_eq_true_eq]; omega)) ?_
        simp only [Act.put,q1,q2,q3]
        refine LV (v := .bool true) rfl (run_move rfl rfl) ?_
        simp only [Act.put,q1,q2,q3]
        refine LV (v := .bool sm) rfl (run_move rfl rfl) ?_
        simp only [Act.put,q1,q2,q3]
        refine LV (v := .bool sm) rfl (run_pick (b := true) rfl rfl rfl) ?_
        simp only [Act.put,q1,q2,q3]
        refine wpList_nil ?_
        change Code.wp _ _ _ _ _
        refine wp_cond_true (congrArg Value.bool hsm) ?_
        refine wp_skip ?_
        change Code.wp _ _ _ _ _
        refine wp_seq ?_
        refine wp_block ?_
        -- region 17
        refine wp_schedE E ([0, 1, 2, 3, 4, 5, 6, 7, 8, 9, 10, 11]) (by kernel_rfl) (by kernel_rfl) (by kernel_rfl) (by kernel_rfl) (by intro d v c a w h; cases d <;> exact h) ?_
        replace E := E.drew
        refine SP (o := ⟨some 75, _, _, _, _, _⟩) (v := .pointer (some ⟨b1, 1, none⟩)) rfl rfl rfl rfl (fun w hS => run_fieldI1 rfl rfl) ?_
        simp only [Act.put,q1,q2,q3]
        refine SP (o := ⟨some 76, _, _, _, _, _⟩) (v := sA) rfl rfl rfl rfl (fun w hS => run_cell rfl isAgg_words rfl (hS.2.2.2.2.1) rfl) ?_
        simp only [Act.put,q1,q2,q3]
        refine SP (o := ⟨some 77, _, _, _, _, _⟩) (v := .int .i64 ((i : Nat) : Int)) rfl rfl rfl rfl (fun w hS => run_move rfl rfl) ?_
        simp only [Act.put,q1,q2,q3]
        refine SP (o := ⟨some 78, _, _, _, _, _⟩) (v := .pointer (some ⟨gA, oA + i * 1, none⟩)) rfl rfl rfl rfl (fun w hS => run_idx (j := i) rfl Try.underlying22 (by kernel_rfl) hvA3 rfl rfl hil) ?_
        simp only [Act.put,q1,q2,q3]
        refine SP (o := ⟨some 79, _, _, _, _, _⟩) (v := .int .u32 ((gd lA i : Nat) : Int)) rfl rfl rfl rfl (fun w hS => run_loadC rfl isAgg_u32 rfl (Sl.cell (eqSl hdA (IsI.sl (hS.1))) hvA3 hil)) ?_
        simp only [Act.put,q1,q2,q3]
        refine SP (o := ⟨some 80, _, _, _, _, _⟩) (v := .pointer (some ⟨b43, 1, none⟩)) rfl rfl rfl rfl (fun w hS => run_fieldI1 rfl rfl) ?_
        simp only [Act.put,q1,q2,q3]
        refine SP (o := ⟨some 81, _, _, _, _, _⟩) (v := s42) rfl rfl rfl rfl (fun w hS => run_cell rfl isAgg_words rfl (hS.2.1) rfl) ?_
        simp only [Act.put,q1,q2,q3]
        refine SP (o := ⟨some 82, _, _, _, _, _⟩) (v := .int .i64 ((i : Nat) : Int)) rfl rfl rfl rfl (fun w hS => run_move rfl rfl) ?_
        simp only [Act.put,q1,q2,q3]
        refine SP (o := ⟨some 83, _, _, _, _, _⟩) (v := .pointer (some ⟨gB, oB + i * 1, none⟩)) rfl rfl rfl rfl (fun w hS => run_idx (j := i) rfl Try.underlying22 (by kernel_rfl) hvB3 rfl rfl (by omega)) ?_
        simp only [Act.put,q1,q2,q3]
        refine SP (o := ⟨some 84, _, _, _, _, _⟩) (v := .int .u32 ((gd (digs b.natAbs) i : Nat) : Int)) rfl rfl rfl rfl (fun w hS => run_loadC rfl isAgg_u32 rfl (Sl.cell (IsI.sl (hS.2.2.1)) hvB3 (by omega))) ?_
        simp only [Act.put,q1,q2,q3]
        refine SP (o := ⟨some 85, _, _, _, _, _⟩) (v := .bool true) rfl rfl rfl rfl (fun w hS => run_eqI (c := true) rfl rfl rfl (by rw [beq_iff_eq, hw])) ?_
        simp only [Act.put,q1,q2,q3]
        refine SP (o := ⟨some 9, _, _, _, _, _⟩) (v := .bool true) rfl rfl rfl rfl (fun w hS => run_assign rfl rfl) ?_
        simp only [Act.put,q1,q2,q3]
        refine SN ?_
        change Code.wp _ _ _ _ _
        -- region 16
        refine wp_region_lit ?_
        refine LV (v := .int .i64 ((i : Nat) : Int)) rfl (run_move rfl rfl) ?_
        simp only [Act.put,q1,q2,q3]
        refine LV (v := .int .i64 ((i + 1 : Nat) : Int)) rfl (run_addI rfl rfl rfl (wrap_i64_nat (by omega) (by omega))) ?_
        simp only [Act.put,q1,q2,q3]
        refine LV (v := .int .i64 ((i + 1 : Nat) : Int)) rfl (run_assign rfl rfl) ?_
        simp only [Act.put,q1,q2,q3]
        refine wpList_nil ?_
        exact ⟨_, (by omega), i + 1, true, _, _, _, _, _, _, _, _, _, _, _, _, _, _, _, _, _, _, _, rfl, (Env.i (Env.b (Env.i (Env.x (Env.x (Env.ww (Env.nil _) (E.2.2.2.2.2.1)) (E.2.2.2.2.1)) (E.2.2.2.1)) (E.2.2.1)) (E.2.1)) (E.1)), rfl, ⟨by omega, fun _ => ⟨hs1, hs2, take_step hs3 hil (by omega) hw⟩, fun h => by cases h⟩⟩
       case neg =>
        refine wp_seq ?_
        refine wp_seq ?_
        -- region 15
        refine wp_region_lit ?_
        refine LV (v := .int .i64 ((i : Nat) : Int)) rfl (run_move rfl rfl) ?_
        simp only [Act.put,q1,q2,q3]
        refine LV (v := .int .i64 ((lA.length : Nat) : Int)) rfl (run_move rfl rfl) ?_
        simp only [Act.put,q1,q2,q3]
        refine LV (v := .bool true) rfl (run_ltI (c := true) rfl rfl rfl (by rw [decide_eq_true_eq]; omega)) ?_
        simp only [Act.put,q1,q2,q3]
        refine LV (v := .bool true) rfl (run_move rfl rfl) ?_
        simp only [Act.put,q1,q2,q3]
        refine LV (v := .bool sm) rfl (run_move rfl rfl) ?_
        simp only [Act.put,q1,q2,q3]
        refine LV (v := .bool sm) rfl (run_pick (b := true) rfl rfl rfl) ?_
        simp only [Act.put,q1,q2,q3]
        refine wpList_nil ?_
        change Code.wp _ _ _ _ _
        refine wp_cond_true (congrArg Value.bool hsm) ?_
        refine wp_skip ?_
        change Code.wp _ _ _ _ _
        refine wp_seq ?_
        refine wp_block ?_
        -- region 17
        refine wp_schedE E ([0, 1, 2, 3, 4, 5, 6, 7, 8, 9, 10, 11]) (by kernel_rfl) (by kernel_rfl) (by kernel_rfl) (by kernel_rfl) (by intro d v c a w h; cases d <;> exact h) ?_
        replace E := E.drew
        refine SP (o := ⟨some 75, _, _, _, _, _⟩) (v := .pointer (some ⟨b1, 1, none⟩)) rfl rfl rfl rfl (fun w hS => run_fieldI1 rfl rfl) ?_
        simp only [Act.put,q1,q2,q3]
        refine SP (o := ⟨some 76, _, _, _, _, _⟩) (v := sA) rfl rfl rfl rfl (fun w hS => run_cell rfl isAgg_words rfl (hS.2.2.2.2.1) rfl) ?_
        simp only [Act.put,q1,q2,q3]
        refine SP (o := ⟨some 77, _, _, _, _, _⟩) (v := .int .i64 ((i : Nat) : Int)) rfl rfl rfl rfl (fun w hS => run_move rfl rfl) ?_
        simp only [Act.put,q1,q2,q3]
        refine SP (o := ⟨some 78, _, _, _, _, _⟩) (v := .pointer (some ⟨gA, oA + i * 1, none⟩)) rfl rfl rfl rfl (fun w hS => run_idx (j := i) rfl Try.underlying22 (by kernel_rfl) hvA3 rfl rfl hil) ?_
        simp only [Act.put,q1,q2,q3]
        refine SP (o := ⟨some 79, _, _, _, _, _⟩) (v := .int .u32 ((gd lA i : Nat) : Int)) rfl rfl rfl rfl (fun w hS => run_loadC rfl isAgg_u32 rfl (Sl.cell (eqSl hdA (IsI.sl (hS.1))) hvA3 hil)) ?_
        simp only [Act.put,q1,q2,q3]
        refine SP (o := ⟨some 80, _, _, _, _, _⟩) (v := .pointer (some ⟨b43, 1, none⟩)) rfl rfl rfl rfl (fun w hS => run_fieldI1 rfl rfl) ?_
        simp only [Act.put,q1,q2,q3]
        refine SP (o := ⟨some 81, _, _, _, _, _⟩) (v := s42) rfl rfl rfl rfl (fun w hS => run_cell rfl isAgg_words rfl (hS.2.1) rfl) ?_
        simp only [Act.put,q1,q2,q3]
        refine SP (o := ⟨some 82, _, _, _, _, _⟩) (v := .int .i64 ((i : Nat) : Int)) rfl rfl rfl rfl (fun w hS => run_move rfl rfl) ?_
        simp only [Act.put,q1,q2,q3]
        refine SP (o := ⟨some 83, _, _, _, _, _⟩) (v := .pointer (some ⟨gB, oB + i * 1, none⟩)) rfl rfl rfl rfl (fun w hS => run_idx (j := i) rfl Try.underlying22 (by kernel_rfl) hvB3 rfl rfl (by omega)) ?_
        simp only [Act.put,q1,q2,q3]
        refine SP (o := ⟨some 84, _, _, _, _, _⟩) (v := .int .u32 ((gd (digs b.natAbs) i : Nat) : Int)) rfl rfl rfl rfl (fun w hS => run_loadC rfl isAgg_u32 rfl (Sl.cell (IsI.sl (hS.2.2.1)) hvB3 (by omega))) ?_
        simp only [Act.put,q1,q2,q3]
        refine SP (o := ⟨some 85, _, _, _, _, _⟩) (v := .bool false) rfl rfl rfl rfl (fun w hS => run_eqI (c := false) rfl rfl rfl (by rw [beq_eq_false_iff_ne]; omega)) ?_
        simp only [Act.put,q1,q2,q3]
        refine SP (o := ⟨some 9, _, _, _, _, _⟩) (v := .bool false) rfl rfl rfl rfl (fun w hS => run_assign rfl rfl) ?_
        simp only [Act.put,q1,q2,q3]
        refine SN ?_
        change Code.wp _ _ _ _ _
        -- region 16
        refine wp_region_lit ?_
        refine LV (v := .int .i64 ((i : Nat) : Int)) rfl (run_move rfl rfl) ?_
        simp only [Act.put,q1,q2,q3]
        refine LV (v := .int .i64 ((i + 1 : Nat) : Int)) rfl (run_addI rfl rfl rfl (wrap_i64_nat (by omega) (by omega))) ?_
        simp only [Act.put,q1,q2,q3]
        refine LV (v := .int .i64 ((i + 1 : Nat) : Int)) rfl (run_assign rfl rfl) ?_
        simp only [Act.put,q1,q2,q3]
        refine wpList_nil ?_
        exact ⟨_, (by omega), i + 1, false, _, _, _, _, _, _, _, _, _, _, _, _, _, _, _, _, _, _, _, rfl, (Env.i (Env.b (Env.i (Env.x (Env.x (Env.ww (Env.nil _) (E.2.2.2.2.2.1)) (E.2.2.2.2.1)) (E.2.2.2.1)) (E.2.2.1)) (E.2.1)) (E.1)), rfl, ⟨by omega, (fun h => by cases h), fun _ => ne_word hdA hw⟩⟩
      case neg =>
       refine wp_seq ?_
       refine wp_seq ?_
       -- region 15
       refine wp_region_lit ?_
       refine LV (v := .int .i64 ((i : Nat) : Int)) rfl (run_move rfl rfl) ?_
       simp only [Act.put,q1,q2,q3]
       refine LV (v := .int .i64 ((lA.length : Nat) : Int)) rfl (run_move rfl rfl) ?_
       simp only [Act.put,q1,q2,q3]
       refine LV (v := .bool true) rfl (run_ltI (c := true) rfl rfl rfl (by rw [decide_eq_true_eq]; omega)) ?_
       simp only [Act.put,q1,q2,q3]
       refine LV (v := .bool true) rfl (run_move rfl rfl) ?_
       simp only [Act.put,q1,q2,q3]
       refine LV (v := .bool sm) rfl (run_move rfl rfl) ?_
       simp only [Act.put,q1,q2,q3]
       refine LV (v := .bool sm) rfl (run_pick (b := true) rfl rfl rfl) ?_
       simp only [Act.put,q1,q2,q3]
       refine wpList_nil ?_
       change Code.wp _ _ _ _ _
       refine wp_cond_false (congrArg Value.bool (by simpa using hsm)) ?_
       refine wp_exit ?_
       change Code.wp _ _ _ _ _
       refine wp_seq ?_
       -- region 18
       refine wp_region_lit ?_
       refine LV (v := .bool true) rfl (run_move rfl rfl) ?_
       simp only [Act.put,q1,q2,q3]
       refine LV (v := .bool true) rfl (run_move rfl rfl) ?_
       simp only [Act.put,q1,q2,q3]
       refine LV (v := .agg #[.bool nA, sA]) rfl (run_load_bx AgI rfl rfl (E.2.2.2.2.1) rfl) ?_
       simp only [Act.put,q1,q2,q3]
       refine LV (v := .agg #[.bool n42, s42]) rfl (run_load_bx AgI rfl rfl (E.2.1) rfl) ?_
       simp only [Act.put,q1,q2,q3]
       refine L1 rfl (Oper.wp_callN fn_integer_Cmp rfl (Cmp_z _ _ za b _ (E.1) (E.2.2.1)) rfl E ?_)
       clear E
       intro w64 d64 E
       clear d64
       simp only [Act.put,q1,q2,q3]
       refine LV (v := .bool false) rfl (run_eqI (c := false) rfl rfl rfl (beq_eq_false_iff_ne.2 (cmpI_ne (hI3 (by simpa using hsm))))) ?_
       simp only [Act.put,q1,q2,q3]
       refine LV (v := .bool sm) rfl (run_move rfl rfl) ?_
       simp only [Act.put,q1,q2,q3]
       refine LV (v := .bool true) rfl (run_eqB (a := false) (b := sm) rfl Try.underlying4 rfl rfl (by rw [Bool.eq_false_iff.2 hsm]; rfl)) ?_
       simp only [Act.put,q1,q2,q3]
       refine LV (v := .bool true) rfl (run_pick (b := true) rfl rfl rfl) ?_
       simp only [Act.put,q1,q2,q3]
       refine LV (v := .bool true) rfl (run_move rfl rfl) ?_
       simp only [Act.put,q1,q2,q3]
       refine LV (v := .agg #[.bool nA, sA]) rfl (run_load_bx AgI rfl rfl (E.2.2.2.2.1) rfl) ?_
       simp only [Act.put,q1,q2,q3]
       refine LV (v := .agg #[.bool nA, sA]) rfl (run_load_bx AgI rfl rfl (E.2.2.2.2.1) rfl) ?_
       simp only [Act.put,q1,q2,q3]
       refine L1 rfl (Oper.wp_callN fn_integer_Cmp rfl (Cmp_z _ _ za za _ (E.1) (E.1)) rfl E ?_)
       clear E
       intro w65 d65 E
       clear d65
       simp only [Act.put,q1,q2,q3]
       refine LV (v := .bool true) rfl (run_eqI (c := true) rfl rfl rfl (beq_iff_eq.2 (cmpI_eq rfl))) ?_
       simp only [Act.put,q1,q2,q3]
       refine LV (v := .bool true) rfl (run_pick (b := true) rfl rfl rfl) ?_
       simp only [Act.put,q1,q2,q3]
       refine LV (v := .bool true) rfl (run_assign rfl rfl) ?_
       simp only [Act.put,q1,q2,q3]
       refine wpList_nil ?_
       change Code.wp _ _ _ _ _
       refine wp_ret ?_
       exact bodyPost_ret (v := .bool true) (by simp [results, Try.results3, asAddr]) rfl ⟨rfl, E.2.2.2.2.2.1⟩
     case neg =>
      by_cases hsm : sm = true
      case pos =>
       have hEq : za = b := same_end hdA (E.1) (E.2.2.1) (hI2 hsm) hI1 hil
       refine wp_seq ?_
       refine wp_seq ?_
       -- region 15
       refine wp_region_lit ?_
       refine LV (v := .int .i64 ((i : Nat) : Int)) rfl (run_move rfl rfl) ?_
       simp only [Act.put,q1,q2,q3]
       refine LV (v := .int .i64 ((lA.length : Nat) : Int)) rfl (run_move rfl rfl) ?_
       simp only [Act.put,q1,q2,q3]
       refine LV (v := .bool false) rfl (run_ltI (c := false) rfl rfl rfl (by rw [decide_eq_false_iff_not]; omega)) ?_
       simp only [Act.put,q1,q2,q3]
       refine LV (v := .bool false) rfl (run_move rfl rfl) ?_
       simp only [Act.put,q1,q2,q3]
       have hzz := 1
       clear hzz
       refine L0 ?_ ?_
       · kernel_rfl
       simp only [Act.put,q1,q2,q3]
       refine LV (v := .bool false) rfl (run_pick (b := false) rfl rfl rfl) ?_
       simp only [Act.put,q1,q2,q3]
       refine wpList_nil ?_
       change Code.wp _ _ _ _ _
       refine wp_cond_false rfl ?_
       refine wp_exit ?_
       change Code.wp _ _ _ _ _
       refine wp_seq ?_
       -- region 18
       refine wp_region_lit ?_
       refine LV (v := .bool true) rfl (run_move rfl rfl) ?_
       simp only [Act.put,q1,q2,q3]
       refine LV (v := .bool true) rfl (run_move rfl rfl) ?_
       simp only [Act.put,q1,q2,q3]
       refine LV (v := .agg #[.bool nA, sA]) rfl (run_load_bx AgI rfl rfl (E.2.2.2.2.1) rfl) ?_
       simp only [Act.put,q1,q2,q3]
       refine LV (v := .agg #[.bool n42, s42]) rfl (run_load_bx AgI rfl rfl (E.2.1) rfl) ?_
       simp only [Act.put,q1,q2,q3]
       refine L1 rfl (Oper.wp_callN fn_integer_Cmp rfl (Cmp_z _ _ za b _ (E.1) (E.2.2.1)) rfl E ?_)
       clear E
       intro w66 d66 E
       clear d66
       simp only [Act.put,q1,q2,q3]
       refine LV (v := .bool true) rfl (run_eqI (c := true) rfl rfl rfl (beq_iff_eq.2 (cmpI_eq hEq))) ?_
       simp only [Act.put,q1,q2,q3]
       refine LV (v := .bool sm) rfl (run_move rfl rfl) ?_
       simp only [Act.put,q1,q2,q3]
       refine LV (v := .bool true) rfl (run_eqB (a := true) (b := sm) rfl Try.underlying4 rfl rfl (by rw [hsm]; rfl)) ?_
       simp only [Act.put,q1,q2,q3]
       refine LV (v := .bool true) rfl (run_pick (b := true) rfl rfl rfl) ?_
       simp only [Act.put,q1,q2,q3]
       refine LV (v := .bool true) rfl (run_move rfl rfl) ?_
       simp only [Act.put,q1,q2,q3]
       refine LV (v := .agg #[.bool nA, sA]) rfl (run_load_bx AgI rfl rfl (E.2.2.2.2.1) rfl) ?_
       simp only [Act.put,q1,q2,q3]
       refine LV (v := .agg #[.bool nA, sA]) rfl (run_load_bx AgI rfl rfl (E.2.2.2.2.1) rfl) ?_
       simp only [Act.put,q1,q2,q3]
       refine L1 rfl (Oper.wp_callN fn_integer_Cmp rfl (Cmp_z _ _ za za _ (E.1) (E.1)) rfl E ?_)
       clear E
       intro w67 d67 E
       clear d67
       simp only [Act.put,q1,q2,q3]
       refine LV (v := .bool true) rfl (run_eqI (c := true) rfl rfl rfl (beq_iff_eq.2 (cmpI_eq rfl))) ?_
       simp only [Act.put,q1,q2,q3]
       refine LV (v := .bool true) rfl (run_pick (b := true) rfl rfl rfl) ?_
       simp only [Act.put,q1,q2,q3]
       refine LV (v := .bool true) rfl (run_assign rfl rfl) ?_
       simp only [Act.put,q1,q2,q3]
       refine wpList_nil ?_
       change Code.wp _ _ _ _ _
       refine wp_ret ?_
       exact bodyPost_ret (v := .bool true) (by simp [results, Try.results3, asAddr]) rfl ⟨rfl, E.2.2.2.2.2.1⟩
      case neg =>
       refine wp_seq ?_
       refine wp_seq ?_
       -- region 15
       refine wp_region_lit ?_
       refine LV (v := .int .i64 ((i : Nat) : Int)) rfl (run_move rfl rfl) ?_
       simp only [Act.put,q1,q2,q3]
       refine LV (v := .int .i64 ((lA.length : Nat) : Int)) rfl (run_move rfl rfl) ?_
       simp only [Act.put,q1,q2,q3]
       refine LV (v := .bool false) rfl (run_ltI (c := false) rfl rfl rfl (by rw [decide_eq_false_iff_not]; omega)) ?_
       simp only [Act.put,q1,q2,q3]
       refine LV (v := .bool false) rfl (run_move rfl rfl) ?_
       simp only [Act.put,q1,q2,q3]
       have hzz := 1
       clear hzz
       refine L0 ?_ ?_
       · kernel_rfl
       simp only [Act.put,q1,q2,q3]
       refine LV (v := .bool false) rfl (run_pick (b := false) rfl rfl rfl) ?_
       simp only [Act.put,q1,q2,q3]
       refine wpList_nil ?_
       change Code.wp _ _ _ _ _
       refine wp_cond_false rfl ?_
       refine wp_exit ?_
       change Code.wp _ _ _ _ _
       refine wp_seq ?_
       -- region 18
       refine wp_region_lit ?_
       refine LV (v := .bool true) rfl (run_move rfl rfl) ?_
       simp only [Act.put,q1,q2,q3]
       refine LV (v := .bool true) rfl (run_move rfl rfl) ?_
       simp only [Act.put,q1,q2,q3]
       refine LV (v := .agg #[.bool nA, sA]) rfl (run_load_bx AgI rfl rfl (E.2.2.2.2.1) rfl) ?_
       simp only [Act.put,q1,q2,q3]
       refine LV (v := .agg #[.bool n42, s42]) rfl (run_load_bx AgI rfl rfl (E.2.1) rfl) ?_
       simp only [Act.put,q1,q2,q3]
       refine L1 rfl (Oper.wp_callN fn_integer_Cmp rfl (Cmp_z _ _ za b _ (E.1) (E.2.2.1)) rfl E ?_)
       clear E
       intro w68 d68 E
       clear d68
       simp only [Act.put,q1,q2,q3]
       refine LV (v := .bool false) rfl (run_eqI (c := false) rfl rfl rfl (beq_eq_false_iff_ne.2 (cmpI_ne (hI3 (by simpa using hsm))))) ?_
       simp only [Act.put,q1,q2,q3]
       refine LV (v := .bool sm) rfl (run_move rfl rfl) ?_
       simp only [Act.put,q1,q2,q3]
       refine LV (v := .bool true) rfl (run_eqB (a := false) (b := sm) rfl Try.underlying4 rfl rfl (by rw [Bool.eq_false_iff.2 hsm]; rfl)) ?_
       simp only [Act.put,q1,q2,q3]
       refine LV (v := .bool true) rfl (run_pick (b := true) rfl rfl rfl) ?_
       simp only [Act.put,q1,q2,q3]
       refine LV (v := .bool true) rfl (run_move rfl rfl) ?_
       simp only [Act.put,q1,q2,q3]
       refine LV (v := .agg #[.bool nA, sA]) rfl (run_load_bx AgI rfl rfl (E.2.2.2.2.1) rfl) ?_
       simp only [Act.put,q1,q2,q3]
       refine LV (v := .agg #[.bool nA, sA]) rfl (run_load_bx AgI rfl rfl (E.2.2.2.2.1) rfl) ?_
       simp only [Act.put,q1,q2,q3]
       refine L1 rfl (Oper.wp_callN fn_integer_Cmp rfl (Cmp_z _ _ za za _ (E.1) (E.1)) rfl E ?_)
       clear E
       intro w69 d69 E
       clear d69
       simp only [Act.put,q1,q2,q3]
       refine LV (v := .bool true) rfl (run_eqI (c := true) rfl rfl rfl (beq_iff_eq.2 (cmpI_eq rfl))) ?_
       simp only [Act.put,q1,q2,q3]
       refine LV (v := .bool true) rfl (run_pick (b := true) rfl rfl rfl) ?_
       simp only [Act.put,q1,q2,q3]
       refine LV (v := .bool true) rfl (run_assign rfl rfl) ?_
       simp only [Act.put,q1,q2,q3]
       refine wpList_nil ?_
       change Code.wp _ _ _ _ _
       refine wp_ret ?_
       exact bodyPost_ret (v := .bool true) (by simp [results, Try.results3, asAddr]) rfl ⟨rfl, E.2.2.2.2.2.1⟩
end Go.Proofs.Ytjgmfdenicbniaa
