/- Walk: integer.decimal. (Printed by g_parse.py.) -/
import Derived.Test.YtndpjfhhigpbhaaGreatParM
import Derived.Test.YtndpjfhhigpbhaaGreatFns
namespace Go.Proofs.YtndpjfhhigpbhaaGreat
open Go.RowKit W
theorem run_eqS {ρ : Operand → Value} {o : Oper} {w : World} {P : Program} {t t' : TypeId} {x y : Operand} {a b : ByteArray} {c : Bool} (ho : o.op = .binOp .eql t x y t') (hx : ρ x = .string a) (hy : ρ y = .string b) (hc : (a.data.toList == b.data.toList) = c) : (execOp ρ o).run P w = .ok (.value (.bool c)) w := by
  unfold execOp; rw [ho]
  simp only [hx, hy, eqGuard_at_string, binOp, Op.stringOp, Sem.run_bind, Sem.run_pure, Result.andThen_ok, ByteArray.toList_eq, hc]
theorem str_empty {s : ByteArray} (h : s.size = 0) : s = ⟨#[]⟩ := by
  apply ByteArray.ext
  exact Array.eq_empty_of_size_eq_zero h
theorem str_isempty {s : ByteArray} (h : s.size = 0) : (s.data.toList == (⟨#[]⟩ : ByteArray).data.toList) = true := by
  rw [beq_iff_eq, str_empty h]
theorem str_nonempty {s : ByteArray} (h : ¬ s.size = 0) : (s.data.toList == (⟨#[]⟩ : ByteArray).data.toList) = false := by
  rw [beq_eq_false_iff_ne]; intro e; apply h; rw [← str_len, e]; rfl
theorem dig_more {l : List UInt8} {i : Nat} {b : UInt8} (h : ∀ j b, j < i → l[j]? = some b → 48 ≤ b.toNat ∧ b.toNat ≤ 57) (hb : l[i]? = some b) (h1 : 48 ≤ b.toNat) (h2 : b.toNat ≤ 57) :
    ∀ j b, j < i + 1 → l[j]? = some b → 48 ≤ b.toNat ∧ b.toNat ≤ 57 := by
  intro j c hj hc
  by_cases e : j = i
  · subst e; rw [hb] at hc; cases hc; exact ⟨h1, h2⟩
  · exact h j c (by omega) hc
set_option maxRecDepth 100000 in
set_option maxHeartbeats 4000000 in
theorem decimal_s (s : ByteArray)  (w : World)  (hs9 : s.size ≤ 1000000) :
    Calls Tryz.prog 92 #[.string s] w (RetB w (okDec s.data.toList)) := by
 have E := Env.start w
 go_enter Tryz.func92, Tryz.ntmps92
 refine wp_seq ?_
 -- region 0
 refine wp_region_lit ?_
 refine LV (v := .bool false) rfl (run_assign rfl rfl) ?_
 simp only [Act.put,q1,q2,q3]
 refine wpList_nil ?_
 change Code.wp _ _ _ _ _
 refine wp_seq ?_
 refine wp_seq ?_
 by_cases hs : s.size = 0
 case pos =>
  -- region 1
  refine wp_region_lit ?_
  refine LV (v := .string s) rfl (run_move rfl rfl) ?_
  simp only [Act.put,q1,q2,q3]
  refine LV (v := .bool true) rfl (run_eqS rfl rfl rfl (str_isempty hs)) ?_
  simp only [Act.put,q1,q2,q3]
  refine LV (v := .bool true) rfl (run_move rfl rfl) ?_
  simp only [Act.put,q1,q2,q3]
  refine L0 rfl ?_
  simp only [Act.put,q1,q2,q3]
  refine L0 rfl ?_
  simp only [Act.put,q1,q2,q3]
  refine L0 rfl ?_
  simp only [Act.put,q1,q2,q3]
  refine L0 rfl ?_
  simp only [Act.put,q1,q2,q3]
  refine L0 rfl ?_
  simp only [Act.put,q1,q2,q3]
  refine L0 rfl ?_
  simp only [Act.put,q1,q2,q3]
  refine L0 rfl ?_
  simp only [Act.put,q1,q2,q3]
  refine L0 rfl ?_
  simp only [Act.put,q1,q2,q3]
  refine LV (v := .bool true) rfl (run_pick (b := true) rfl rfl rfl) ?_
  simp only [Act.put,q1,q2,q3]
  refine wpList_nil ?_
  change Code.wp _ _ _ _ _
  refine wp_cond_true rfl ?_
  refine wp_seq ?_
  -- region 2
  refine wp_region_lit ?_
  refine LV (v := .bool false) rfl (run_assign rfl rfl) ?_
  simp only [Act.put,q1,q2,q3]
  refine wpList_nil ?_
  change Code.wp _ _ _ _ _
  refine wp_ret ?_
  exact bodyPost_ret (v := .bool false) (by simp [results, Tryz.results92, asAddr]) rfl ⟨by rw [okDec_empty (by rw [str_len]; exact hs)], E.1⟩
 case neg =>
  obtain ⟨c, hc, hc2⟩ := str_get (i := 0) (s := s) (by omega)
  by_cases h48 : c.toNat = 48
  case pos =>
   by_cases h1 : 1 < s.size
   case pos =>
    -- region 1
    refine wp_region_lit ?_
    refine LV (v := .string s) rfl (run_move rfl rfl) ?_
    simp only [Act.put,q1,q2,q3]
    refine LV (v := .bool false) rfl (run_eqS rfl rfl rfl (str_nonempty hs)) ?_
    simp only [Act.put,q1,q2,q3]
    refine LV (v := .bool false) rfl (run_move rfl rfl) ?_
    simp only [Act.put,q1,q2,q3]
    refine LV (v := .string s) rfl (run_move rfl rfl) ?_
    simp only [Act.put,q1,q2,q3]
    refine LV (v := .int .u8 ((c.toNat : Nat) : Int)) rfl (run_ixS (j := 0) rfl Tryz.underlying9 rfl rfl rfl hc) ?_
    simp only [Act.put,q1,q2,q3]
    refine LV (v := .bool true) rfl (run_eqI (c := true) rfl rfl rfl (by rw [h48]; rfl)) ?_
    simp only [Act.put,q1,q2,q3]
    refine LV (v := .bool true) rfl (run_move rfl rfl) ?_
    simp only [Act.put,q1,q2,q3]
    refine LV (v := .string s) rfl (run_move rfl rfl) ?_
    simp only [Act.put,q1,q2,q3]
    refine LV (v := .int .i64 ((s.size : Nat) : Int)) rfl (run_lenS rfl rfl) ?_
    simp only [Act.put,q1,q2,q3]
    refine LV (v := .bool true) rfl (run_gtI (c := true) rfl rfl rfl (by rw [decide_eq_true_eq]; omega)) ?_
    simp only [Act.put,q1,q2,q3]
    refine LV (v := .bool true) rfl (run_pick (b := true) rfl rfl rfl) ?_
    simp only [Act.put,q1,q2,q3]
    refine LV (v := .bool true) rfl (run_pick (b := false) rfl rfl rfl) ?_
    simp only [Act.put,q1,q2,q3]
    refine wpList_nil ?_
    change Code.wp _ _ _ _ _
    refine wp_cond_true rfl ?_
    refine wp_seq ?_
    -- region 2
    refine wp_region_lit ?_
    refine LV (v := .bool false) rfl (run_assign rfl rfl) ?_
    simp only [Act.put,q1,q2,q3]
    refine wpList_nil ?_
    change Code.wp _ _ _ _ _
    refine wp_ret ?_
    exact bodyPost_ret (v := .bool false) (by simp [results, Tryz.results92, asAddr]) rfl ⟨by rw [okDec_zero hc2 h48 (by rw [str_len]; exact h1)], E.1⟩
   case neg =>
    -- region 1
    refine wp_region_lit ?_
    refine LV (v := .string s) rfl (run_move rfl rfl) ?_
    simp only [Act.put,q1,q2,q3]
    refine LV (v := .bool false) rfl (run_eqS rfl rfl rfl (str_nonempty hs)) ?_
    simp only [Act.put,q1,q2,q3]
    refine LV (v := .bool false) rfl (run_move rfl rfl) ?_
    simp only [Act.put,q1,q2,q3]
    refine LV (v := .string s) rfl (run_move rfl rfl) ?_
    simp only [Act.put,q1,q2,q3]
    refine LV (v := .int .u8 ((c.toNat : Nat) : Int)) rfl (run_ixS (j := 0) rfl Tryz.underlying9 rfl rfl rfl hc) ?_
    simp only [Act.put,q1,q2,q3]
    refine LV (v := .bool true) rfl (run_eqI (c := true) rfl rfl rfl (by rw [h48]; rfl)) ?_
    simp only [Act.put,q1,q2,q3]
    refine LV (v := .bool true) rfl (run_move rfl rfl) ?_
    simp only [Act.put,q1,q2,q3]
    refine LV (v := .string s) rfl (run_move rfl rfl) ?_
    simp only [Act.put,q1,q2,q3]
    refine LV (v := .int .i64 ((s.size : Nat) : Int)) rfl (run_lenS rfl rfl) ?_
    simp only [Act.put,q1,q2,q3]
    refine LV (v := .bool false) rfl (run_gtI (c := false) rfl rfl rfl (by rw [decide_eq_false_iff_not]; omega)) ?_
    simp only [Act.put,q1,q2,q3]
    refine LV (v := .bool false) rfl (run_pick (b := true) rfl rfl rfl) ?_
    simp only [Act.put,q1,q2,q3]
    refine LV (v := .bool false) rfl (run_pick (b := false) rfl rfl rfl) ?_
    simp only [Act.put,q1,q2,q3]
    refine wpList_nil ?_
    change Code.wp _ _ _ _ _
    refine wp_cond_false rfl ?_
    refine wp_skip ?_
    change Code.wp _ _ _ _ _
    refine wp_seq ?_
    refine wp_seq ?_
    -- region 3
    refine wp_region_lit ?_
    refine LV (v := .string s) rfl (run_move rfl rfl) ?_
    simp only [Act.put,q1,q2,q3]
    refine LV (v := .int .i64 ((s.size : Nat) : Int)) rfl (run_lenS rfl rfl) ?_
    simp only [Act.put,q1,q2,q3]
    refine LV (v := .int .i64 0) rfl (run_move rfl rfl) ?_
    simp only [Act.put,q1,q2,q3]
    refine wpList_nil ?_
    change Code.wp _ _ _ _ _
    refine wp_block ?_
    refine wp_loop_ghost (fun mz a w' => ∃ (i : Nat) (g2 g3 g19 g20 g21 g22 g23 g24 g25 g26 g27 g28 g29 g30 g31 : Value), a = ⟨#[.string s, undef, g2, g3, .string s, .bool false, .bool false, .string s, .int .u8 ((c.toNat : Nat) : Int), .bool true, .bool true, .string s, .int .i64 ((s.size : Nat) : Int), .bool false, .bool false, .bool false, .string s, .int .i64 ((s.size : Nat) : Int), .int .i64 ((i : Nat) : Int), g19, g20, g21, g22, g23, g24, g25, g26, g27, g28, g29, g30, g31], []⟩ ∧ Env w' [fW w] ∧ mz = s.size - i ∧ i ≤ s.size ∧ ∀ j b, j < i → s.data.toList[j]? = some b → 48 ≤ b.toNat ∧ b.toNat ≤ 57) (s.size) ⟨0, _, _, _, _, _, _, _, _, _, _, _, _, _, _, _, rfl, (Env.ww (Env.nil _) (E.1)), rfl, ⟨Nat.zero_le _, fun j b hj => absurd hj (Nat.not_lt_zero _)⟩⟩ ?_
    rintro m1 _ w1 ⟨i, g2, g3, g19, g20, g21, g22, g23, g24, g25, g26, g27, g28, g29, g30, g31, rfl, E, hm1, hI1⟩
    by_cases hi : i = s.size
    case pos =>
     refine wp_seq ?_
     -- region 4
     refine wp_region_lit ?_
     refine LV (v := .bool false) rfl (run_ltI (c := false) rfl rfl rfl (by rw [hi, decide_eq_false_iff_not]; omega)) ?_
     simp only [Act.put,q1,q2,q3]
     refine wpList_nil ?_
     change Code.wp _ _ _ _ _
     refine wp_seq ?_
     refine wp_cond_false rfl ?_
     refine wp_exit ?_
     change Code.wp _ _ _ _ _
     refine wp_seq ?_
     -- region 9
     refine wp_region_lit ?_
     refine LV (v := .bool true) rfl (run_assign rfl rfl) ?_
     simp only [Act.put,q1,q2,q3]
     refine wpList_nil ?_
     change Code.wp _ _ _ _ _
     refine wp_ret ?_
     exact bodyPost_ret (v := .bool true) (by simp [results, Tryz.results92, asAddr]) rfl ⟨by rw [okDec_good (by rw [str_len]; omega) (fun b hb h => by rw [str_len]; exact h1) (fun j b hj hb => hI1.2 j b (by rw [str_len] at hj; omega) hb)], E.1⟩
    case neg =>
     have hi9 : i < s.size := by have := hI1.1; omega
     obtain ⟨b, hb, hb2⟩ := str_get hi9
     by_cases hb48 : b.toNat < 48
     case pos =>
      refine wp_seq ?_
      -- region 4
      refine wp_region_lit ?_
      refine LV (v := .bool true) rfl (run_ltI (c := true) rfl rfl rfl (by rw [decide_eq_true_eq]; have := hI1.1; omega)) ?_
      simp only [Act.put,q1,q2,q3]
      refine wpList_nil ?_
      change Code.wp _ _ _ _ _
      refine wp_seq ?_
      refine wp_cond_true rfl ?_
      refine wp_skip ?_
      change Code.wp _ _ _ _ _
      refine wp_seq ?_
      refine wp_block ?_
      refine wp_seq ?_
      -- region 5
      refine wp_region_lit ?_
      refine LV (v := .int .i64 ((i : Nat) : Int)) rfl (run_move rfl rfl) ?_
      simp only [Act.put,q1,q2,q3]
      refine LV (v := .int .i64 ((i : Nat) : Int)) rfl (run_assign rfl rfl) ?_
      simp only [Act.put,q1,q2,q3]
      refine wpList_nil ?_
      change Code.wp _ _ _ _ _
      refine wp_seq ?_
      -- region 6
      refine wp_region_lit ?_
      refine LV (v := .string s) rfl (run_move rfl rfl) ?_
      simp only [Act.put,q1,q2,q3]
      refine LV (v := .int .i64 ((i : Nat) : Int)) rfl (run_move rfl rfl) ?_
      simp only [Act.put,q1,q2,q3]
      refine LV (v := .int .u8 ((b.toNat : Nat) : Int)) rfl (run_ixS (j := i) rfl Tryz.underlying9 rfl rfl rfl hb) ?_
      simp only [Act.put,q1,q2,q3]
      refine LV (v := .bool true) rfl (run_ltI (c := true) rfl rfl rfl (by rw [decide_eq_true_eq]; omega)) ?_
      simp only [Act.put,q1,q2,q3]
      refine LV (v := .bool true) rfl (run_move rfl rfl) ?_
      simp only [Act.put,q1,q2,q3]
      refine L0 rfl ?_
      simp only [Act.put,q1,q2,q3]
      refine L0 rfl ?_
      simp only [Act.put,q1,q2,q3]
      refine L0 rfl ?_
      simp only [Act.put,q1,q2,q3]
      refine L0 rfl ?_
      simp only [Act.put,q1,q2,q3]
      refine LV (v := .bool true) rfl (run_pick (b := true) rfl rfl rfl) ?_
      simp only [Act.put,q1,q2,q3]
      refine wpList_nil ?_
      change Code.wp _ _ _ _ _
      refine wp_cond_true rfl ?_
      refine wp_seq ?_
      -- region 7
      refine wp_region_lit ?_
      refine LV (v := .bool false) rfl (run_assign rfl rfl) ?_
      simp only [Act.put,q1,q2,q3]
      refine wpList_nil ?_
      change Code.wp _ _ _ _ _
      refine wp_ret ?_
      exact bodyPost_ret (v := .bool false) (by simp [results, Tryz.results92, asAddr]) rfl ⟨by rw [okDec_bad hb2 (by omega)], E.1⟩
     case neg =>
      by_cases h57 : 57 < b.toNat
      case pos =>
       refine wp_seq ?_
       -- region 4
       refine wp_region_lit ?_
       refine LV (v := .bool true) rfl (run_ltI (c := true) rfl rfl rfl (by rw [decide_eq_true_eq]; have := hI1.1; omega)) ?_
       simp only [Act.put,q1,q2,q3]
       refine wpList_nil ?_
       change Code.wp _ _ _ _ _
       refine wp_seq ?_
       refine wp_cond_true rfl ?_
       refine wp_skip ?_
       change Code.wp _ _ _ _ _
       refine wp_seq ?_
       refine wp_block ?_
       refine wp_seq ?_
       -- region 5
       refine wp_region_lit ?_
       refine LV (v := .int .i64 ((i : Nat) : Int)) rfl (run_move rfl rfl) ?_
       simp only [Act.put,q1,q2,q3]
       refine LV (v := .int .i64 ((i : Nat) : Int)) rfl (run_assign rfl rfl) ?_
       simp only [Act.put,q1,q2,q3]
       refine wpList_nil ?_
       change Code.wp _ _ _ _ _
       refine wp_seq ?_
       -- region 6
       refine wp_region_lit ?_
       refine LV (v := .string s) rfl (run_move rfl rfl) ?_
       simp only [Act.put,q1,q2,q3]
       refine LV (v := .int .i64 ((i : Nat) : Int)) rfl (run_move rfl rfl) ?_
       simp only [Act.put,q1,q2,q3]
       refine LV (v := .int .u8 ((b.toNat : Nat) : Int)) rfl (run_ixS (j := i) rfl Tryz.underlying9 rfl rfl rfl hb) ?_
       simp only [Act.put,q1,q2,q3]
       refine LV (v := .bool false) rfl (run_ltI (c := false) rfl rfl rfl (by rw [decide_eq_false_iff_not]; omega)) ?_
       simp only [Act.put,q1,q2,q3]
       refine LV (v := .bool false) rfl (run_move rfl rfl) ?_
       simp only [Act.put,q1,q2,q3]
       refine LV (v := .string s) rfl (run_move rfl rfl) ?_
       simp only [Act.put,q1,q2,q3]
       refine LV (v := .int .i64 ((i : Nat) : Int)) rfl (run_move rfl rfl) ?_
       simp only [Act.put,q1,q2,q3]
       refine LV (v := .int .u8 ((b.toNat : Nat) : Int)) rfl (run_ixS (j := i) rfl Tryz.underlying9 rfl rfl rfl hb) ?_
       simp only [Act.put,q1,q2,q3]
       refine LV (v := .bool true) rfl (run_gtI (c := true) rfl rfl rfl (by rw [decide_eq_true_eq]; omega)) ?_
       simp only [Act.put,q1,q2,q3]
       refine LV (v := .bool true) rfl (run_pick (b := false) rfl rfl rfl) ?_
       simp only [Act.put,q1,q2,q3]
       refine wpList_nil ?_
       change Code.wp _ _ _ _ _
       refine wp_cond_true rfl ?_
       refine wp_seq ?_
       -- region 7
       refine wp_region_lit ?_
       refine LV (v := .bool false) rfl (run_assign rfl rfl) ?_
       simp only [Act.put,q1,q2,q3]
       refine wpList_nil ?_
       change Code.wp _ _ _ _ _
       refine wp_ret ?_
       exact bodyPost_ret (v := .bool false) (by simp [results, Tryz.results92, asAddr]) rfl ⟨by rw [okDec_bad hb2 (by omega)], E.1⟩
      case neg =>
       refine wp_seq ?_
       -- region 4
       refine wp_region_lit ?_
       refine LV (v := .bool true) rfl (run_ltI (c := true) rfl rfl rfl (by rw [decide_eq_true_eq]; have := hI1.1; omega)) ?_
       simp only [Act.put,q1,q2,q3]
       refine wpList_nil ?_
       change Code.wp _ _ _ _ _
       refine wp_seq ?_
       refine wp_cond_true rfl ?_
       refine wp_skip ?_
       change Code.wp _ _ _ _ _
       refine wp_seq ?_
       refine wp_block ?_
       refine wp_seq ?_
       -- region 5
       refine wp_region_lit ?_
       refine LV (v := .int .i64 ((i : Nat) : Int)) rfl (run_move rfl rfl) ?_
       simp only [Act.put,q1,q2,q3]
       refine LV (v := .int .i64 ((i : Nat) : Int)) rfl (run_assign rfl rfl) ?_
       simp only [Act.put,q1,q2,q3]
       refine wpList_nil ?_
       change Code.wp _ _ _ _ _
       refine wp_seq ?_
       -- region 6
       refine wp_region_lit ?_
       refine LV (v := .string s) rfl (run_move rfl rfl) ?_
       simp only [Act.put,q1,q2,q3]
       refine LV (v := .int .i64 ((i : Nat) : Int)) rfl (run_move rfl rfl) ?_
       simp only [Act.put,q1,q2,q3]
       refine LV (v := .int .u8 ((b.toNat : Nat) : Int)) rfl (run_ixS (j := i) rfl Tryz.underlying9 rfl rfl rfl hb) ?_
       simp only [Act.put,q1,q2,q3]
       refine LV (v := .bool false) rfl (run_ltI (c := false) rfl rfl rfl (by rw [decide_eq_false_iff_not]; omega)) ?_
       simp only [Act.put,q1,q2,q3]
       refine LV (v := .bool false) rfl (run_move rfl rfl) ?_
       simp only [Act.put,q1,q2,q3]
       refine LV (v := .string s) rfl (run_move rfl rfl) ?_
       simp only [Act.put,q1,q2,q3]
       refine LV (v := .int .i64 ((i : Nat) : Int)) rfl (run_move rfl rfl) ?_
       simp only [Act.put,q1,q2,q3]
       refine LV (v := .int .u8 ((b.toNat : Nat) : Int)) rfl (run_ixS (j := i) rfl Tryz.underlying9 rfl rfl rfl hb) ?_
       simp only [Act.put,q1,q2,q3]
       refine LV (v := .bool false) rfl (run_gtI (c := false) rfl rfl rfl (by rw [decide_eq_false_iff_not]; omega)) ?_
       simp only [Act.put,q1,q2,q3]
       refine LV (v := .bool false) rfl (run_pick (b := false) rfl rfl rfl) ?_
       simp only [Act.put,q1,q2,q3]
       refine wpList_nil ?_
       change Code.wp _ _ _ _ _
       refine wp_cond_false rfl ?_
       refine wp_skip ?_
       change Code.wp _ _ _ _ _
       -- region 8
       refine wp_region_lit ?_
       refine LV (v := .int .i64 ((i + 1 : Nat) : Int)) rfl (run_addI rfl rfl rfl (by rw [IntWalk.i64_in _ (by omega)]; omega)) ?_
       simp only [Act.put,q1,q2,q3]
       refine LV (v := .int .i64 ((i + 1 : Nat) : Int)) rfl (run_move rfl rfl) ?_
       simp only [Act.put,q1,q2,q3]
       refine wpList_nil ?_
       exact ⟨_, (by omega), i + 1, _, _, _, _, _, _, _, _, _, _, _, _, _, _, _, rfl, (Env.ww (Env.nil _) (E.1)), rfl, ⟨by omega, dig_more hI1.2 hb2 (by omega) (by omega)⟩⟩
  case neg =>
   -- region 1
   refine wp_region_lit ?_
   refine LV (v := .string s) rfl (run_move rfl rfl) ?_
   simp only [Act.put,q1,q2,q3]
   refine LV (v := .bool false) rfl (run_eqS rfl rfl rfl (str_nonempty hs)) ?_
   simp only [Act.put,q1,q2,q3]
   refine LV (v := .bool false) rfl (run_move rfl rfl) ?_
   simp only [Act.put,q1,q2,q3]
   refine LV (v := .string s) rfl (run_move rfl rfl) ?_
   simp only [Act.put,q1,q2,q3]
   refine LV (v := .int .u8 ((c.toNat : Nat) : Int)) rfl (run_ixS (j := 0) rfl Tryz.underlying9 rfl rfl rfl hc) ?_
   simp only [Act.put,q1,q2,q3]
   refine LV (v := .bool false) rfl (run_eqI (c := false) rfl rfl rfl (by rw [beq_eq_false_iff_ne]; omega)) ?_
   simp only [Act.put,q1,q2,q3]
   refine LV (v := .bool false) rfl (run_move rfl rfl) ?_
   simp only [Act.put,q1,q2,q3]
   refine L0 rfl ?_
   simp only [Act.put,q1,q2,q3]
   refine L0 rfl ?_
   simp only [Act.put,q1,q2,q3]
   refine L0 rfl ?_
   simp only [Act.put,q1,q2,q3]
   refine LV (v := .bool false) rfl (run_pick (b := false) rfl rfl rfl) ?_
   simp only [Act.put,q1,q2,q3]
   refine LV (v := .bool false) rfl (run_pick (b := false) rfl rfl rfl) ?_
   simp only [Act.put,q1,q2,q3]
   refine wpList_nil ?_
   change Code.wp _ _ _ _ _
   refine wp_cond_false rfl ?_
   refine wp_skip ?_
   change Code.wp _ _ _ _ _
   refine wp_seq ?_
   refine wp_seq ?_
   -- region 3
   refine wp_region_lit ?_
   refine LV (v := .string s) rfl (run_move rfl rfl) ?_
   simp only [Act.put,q1,q2,q3]
   refine LV (v := .int .i64 ((s.size : Nat) : Int)) rfl (run_lenS rfl rfl) ?_
   simp only [Act.put,q1,q2,q3]
   refine LV (v := .int .i64 0) rfl (run_move rfl rfl) ?_
   simp only [Act.put,q1,q2,q3]
   refine wpList_nil ?_
   change Code.wp _ _ _ _ _
   refine wp_block ?_
   refine wp_loop_ghost (fun mz a w' => ∃ (i : Nat) (g2 g3 g19 g20 g21 g22 g23 g24 g25 g26 g27 g28 g29 g30 g31 : Value), a = ⟨#[.string s, undef, g2, g3, .string s, .bool false, .bool false, .string s, .int .u8 ((c.toNat : Nat) : Int), .bool false, .bool false, undef, undef, undef, .bool false, .bool false, .string s, .int .i64 ((s.size : Nat) : Int), .int .i64 ((i : Nat) : Int), g19, g20, g21, g22, g23, g24, g25, g26, g27, g28, g29, g30, g31], []⟩ ∧ Env w' [fW w] ∧ mz = s.size - i ∧ i ≤ s.size ∧ ∀ j b, j < i → s.data.toList[j]? = some b → 48 ≤ b.toNat ∧ b.toNat ≤ 57) (s.size) ⟨0, _, _, _, _, _, _, _, _, _, _, _, _, _, _, _, rfl, (Env.ww (Env.nil _) (E.1)), rfl, ⟨Nat.zero_le _, fun j b hj => absurd hj (Nat.not_lt_zero _)⟩⟩ ?_
   rintro m2 _ w2 ⟨i, g2, g3, g19, g20, g21, g22, g23, g24, g25, g26, g27, g28, g29, g30, g31, rfl, E, hm2, hI2⟩
   by_cases hi : i = s.size
   case pos =>
    refine wp_seq ?_
    -- region 4
    refine wp_region_lit ?_
    refine LV (v := .bool false) rfl (run_ltI (c := false) rfl rfl rfl (by rw [hi, decide_eq_false_iff_not]; omega)) ?_
    simp only [Act.put,q1,q2,q3]
    refine wpList_nil ?_
    change Code.wp _ _ _ _ _
    refine wp_seq ?_
    refine wp_cond_false rfl ?_
    refine wp_exit ?_
    change Code.wp _ _ _ _ _
    refine wp_seq ?_
    -- region 9
    refine wp_region_lit ?_
    refine LV (v := .bool true) rfl (run_assign rfl rfl) ?_
    simp only [Act.put,q1,q2,q3]
    refine wpList_nil ?_
    change Code.wp _ _ _ _ _
    refine wp_ret ?_
    exact bodyPost_ret (v := .bool true) (by simp [results, Tryz.results92, asAddr]) rfl ⟨by rw [okDec_good (by rw [str_len]; omega) (fun b hb h => absurd (by rw [hc2] at hb; cases hb; exact h) h48) (fun j b hj hb => hI2.2 j b (by rw [str_len] at hj; omega) hb)], E.1⟩
   case neg =>
    have hi9 : i < s.size := by have := hI2.1; omega
    obtain ⟨b, hb, hb2⟩ := str_get hi9
    by_cases hb48 : b.toNat < 48
    case pos =>
     refine wp_seq ?_
     -- region 4
     refine wp_region_lit ?_
     refine LV (v := .bool true) rfl (run_ltI (c := true) rfl rfl rfl (by rw [decide_eq_true_eq]; have := hI2.1; omega)) ?_
     simp only [Act.put,q1,q2,q3]
     refine wpList_nil ?_
     change Code.wp _ _ _ _ _
     refine wp_seq ?_
     refine wp_cond_true rfl ?_
     refine wp_skip ?_
     change Code.wp _ _ _ _ _
     refine wp_seq ?_
     refine wp_block ?_
     refine wp_seq ?_
     -- region 5
     refine wp_region_lit ?_
     refine LV (v := .int .i64 ((i : Nat) : Int)) rfl (run_move rfl rfl) ?_
     simp only [Act.put,q1,q2,q3]
     refine LV (v := .int .i64 ((i : Nat) : Int)) rfl (run_assign rfl rfl) ?_
     simp only [Act.put,q1,q2,q3]
     refine wpList_nil ?_
     change Code.wp _ _ _ _ _
     refine wp_seq ?_
     -- region 6
     refine wp_region_lit ?_
     refine LV (v := .string s) rfl (run_move rfl rfl) ?_
     simp only [Act.put,q1,q2,q3]
     refine LV (v := .int .i64 ((i : Nat) : Int)) rfl (run_move rfl rfl) ?_
     simp only [Act.put,q1,q2,q3]
     refine LV (v := .int .u8 ((b.toNat : Nat) : Int)) rfl (run_ixS (j := i) rfl Tryz.underlying9 rfl rfl rfl hb) ?_
     simp only [Act.put,q1,q2,q3]
     refine LV (v := .bool true) rfl (run_ltI (c := true) rfl rfl rfl (by rw [decide_eq_true_eq]; omega)) ?_
     simp only [Act.put,q1,q2,q3]
     refine LV (v := .bool true) rfl (run_move rfl rfl) ?_
     simp only [Act.put,q1,q2,q3]
     refine L0 rfl ?_
     simp only [Act.put,q1,q2,q3]
     refine L0 rfl ?_
     simp only [Act.put,q1,q2,q3]
     refine L0 rfl ?_
     simp only [Act.put,q1,q2,q3]
     refine L0 rfl ?_
     simp only [Act.put,q1,q2,q3]
     refine LV (v := .bool true) rfl (run_pick (b := true) rfl rfl rfl) ?_
     simp only [Act.put,q1,q2,q3]
     refine wpList_nil ?_
     change Code.wp _ _ _ _ _
     refine wp_cond_true rfl ?_
     refine wp_seq ?_
     -- region 7
     refine wp_region_lit ?_
     refine LV (v := .bool false) rfl (run_assign rfl rfl) ?_
     simp only [Act.put,q1,q2,q3]
     refine wpList_nil ?_
     change Code.wp _ _ _ _ _
     refine wp_ret ?_
     exact bodyPost_ret (v := .bool false) (by simp [results, Tryz.results92, asAddr]) rfl ⟨by rw [okDec_bad hb2 (by omega)], E.1⟩
    case neg =>
     by_cases h57 : 57 < b.toNat
     case pos =>
      refine wp_seq ?_
      -- region 4
      refine wp_region_lit ?_
      refine LV (v := .bool true) rfl (run_ltI (c := true) rfl rfl rfl (by rw [decide_eq_true_eq]; have := hI2.1; omega)) ?_
      simp only [Act.put,q1,q2,q3]
      refine wpList_nil ?_
      change Code.wp _ _ _ _ _
      refine wp_seq ?_
      refine wp_cond_true rfl ?_
      refine wp_skip ?_
      change Code.wp _ _ _ _ _
      refine wp_seq ?_
      refine wp_block ?_
      refine wp_seq ?_
      -- region 5
      refine wp_region_lit ?_
      refine LV (v := .int .i64 ((i : Nat) : Int)) rfl (run_move rfl rfl) ?_
      simp only [Act.put,q1,q2,q3]
      refine LV (v := .int .i64 ((i : Nat) : Int)) rfl (run_assign rfl rfl) ?_
      simp only [Act.put,q1,q2,q3]
      refine wpList_nil ?_
      change Code.wp _ _ _ _ _
      refine wp_seq ?_
      -- region 6
      refine wp_region_lit ?_
      refine LV (v := .string s) rfl (run_move rfl rfl) ?_
      simp only [Act.put,q1,q2,q3]
      refine LV (v := .int .i64 ((i : Nat) : Int)) rfl (run_move rfl rfl) ?_
      simp only [Act.put,q1,q2,q3]
      refine LV (v := .int .u8 ((b.toNat : Nat) : Int)) rfl (run_ixS (j := i) rfl Tryz.underlying9 rfl rfl rfl hb) ?_
      simp only [Act.put,q1,q2,q3]
      refine LV (v := .bool false) rfl (run_ltI (c := false) rfl rfl rfl (by rw [decide_eq_false_iff_not]; omega)) ?_
      simp only [Act.put,q1,q2,q3]
      refine LV (v := .bool false) rfl (run_move rfl rfl) ?_
      simp only [Act.put,q1,q2,q3]
      refine LV (v := .string s) rfl (run_move rfl rfl) ?_
      simp only [Act.put,q1,q2,q3]
      refine LV (v := .int .i64 ((i : Nat) : Int)) rfl (run_move rfl rfl) ?_
      simp only [Act.put,q1,q2,q3]
      refine LV (v := .int .u8 ((b.toNat : Nat) : Int)) rfl (run_ixS (j := i) rfl Tryz.underlying9 rfl rfl rfl hb) ?_
      simp only [Act.put,q1,q2,q3]
      refine LV (v := .bool true) rfl (run_gtI (c := true) rfl rfl rfl (by rw [decide_eq_true_eq]; omega)) ?_
      simp only [Act.put,q1,q2,q3]
      refine LV (v := .bool true) rfl (run_pick (b := false) rfl rfl rfl) ?_
      simp only [Act.put,q1,q2,q3]
      refine wpList_nil ?_
      change Code.wp _ _ _ _ _
      refine wp_cond_true rfl ?_
      refine wp_seq ?_
      -- region 7
      refine wp_region_lit ?_
      refine LV (v := .bool false) rfl (run_assign rfl rfl) ?_
      simp only [Act.put,q1,q2,q3]
      refine wpList_nil ?_
      change Code.wp _ _ _ _ _
      refine wp_ret ?_
      exact bodyPost_ret (v := .bool false) (by simp [results, Tryz.results92, asAddr]) rfl ⟨by rw [okDec_bad hb2 (by omega)], E.1⟩
     case neg =>
      refine wp_seq ?_
      -- region 4
      refine wp_region_lit ?_
      refine LV (v := .bool true) rfl (run_ltI (c := true) rfl rfl rfl (by rw [decide_eq_true_eq]; have := hI2.1; omega)) ?_
      simp only [Act.put,q1,q2,q3]
      refine wpList_nil ?_
      change Code.wp _ _ _ _ _
      refine wp_seq ?_
      refine wp_cond_true rfl ?_
      refine wp_skip ?_
      change Code.wp _ _ _ _ _
      refine wp_seq ?_
      refine wp_block ?_
      refine wp_seq ?_
      -- region 5
      refine wp_region_lit ?_
      refine LV (v := .int .i64 ((i : Nat) : Int)) rfl (run_move rfl rfl) ?_
      simp only [Act.put,q1,q2,q3]
      refine LV (v := .int .i64 ((i : Nat) : Int)) rfl (run_assign rfl rfl) ?_
      simp only [Act.put,q1,q2,q3]
      refine wpList_nil ?_
      change Code.wp _ _ _ _ _
      refine wp_seq ?_
      -- region 6
      refine wp_region_lit ?_
      refine LV (v := .string s) rfl (run_move rfl rfl) ?_
      simp only [Act.put,q1,q2,q3]
      refine LV (v := .int .i64 ((i : Nat) : Int)) rfl (run_move rfl rfl) ?_
      simp only [Act.put,q1,q2,q3]
      refine LV (v := .int .u8 ((b.toNat : Nat) : Int)) rfl (run_ixS (j := i) rfl Tryz.underlying9 rfl rfl rfl hb) ?_
      simp only [Act.put,q1,q2,q3]
      refine LV (v := .bool false) rfl (run_ltI (c := false) rfl rfl rfl (by rw [decide_eq_false_iff_not]; omega)) ?_
      simp only [Act.put,q1,q2,q3]
      refine LV (v := .bool false) rfl (run_move rfl rfl) ?_
      simp only [Act.put,q1,q2,q3]
      refine LV (v := .string s) rfl (run_move rfl rfl) ?_
      simp only [Act.put,q1,q2,q3]
      refine LV (v := .int .i64 ((i : Nat) : Int)) rfl (run_move rfl rfl) ?_
      simp only [Act.put,q1,q2,q3]
      refine LV (v := .int .u8 ((b.toNat : Nat) : Int)) rfl (run_ixS (j := i) rfl Tryz.underlying9 rfl rfl rfl hb) ?_
      simp only [Act.put,q1,q2,q3]
      refine LV (v := .bool false) rfl (run_gtI (c := false) rfl rfl rfl (by rw [decide_eq_false_iff_not]; omega)) ?_
      simp only [Act.put,q1,q2,q3]
      refine LV (v := .bool false) rfl (run_pick (b := false) rfl rfl rfl) ?_
      simp only [Act.put,q1,q2,q3]
      refine wpList_nil ?_
      change Code.wp _ _ _ _ _
      refine wp_cond_false rfl ?_
      refine wp_skip ?_
      change Code.wp _ _ _ _ _
      -- region 8
      refine wp_region_lit ?_
      refine LV (v := .int .i64 ((i + 1 : Nat) : Int)) rfl (run_addI rfl rfl rfl (by rw [IntWalk.i64_in _ (by omega)]; omega)) ?_
      simp only [Act.put,q1,q2,q3]
      refine LV (v := .int .i64 ((i + 1 : Nat) : Int)) rfl (run_move rfl rfl) ?_
      simp only [Act.put,q1,q2,q3]
      refine wpList_nil ?_
      exact ⟨_, (by omega), i + 1, _, _, _, _, _, _, _, _, _, _, _, _, _, _, _, rfl, (Env.ww (Env.nil _) (E.1)), rfl, ⟨by omega, dig_more hI2.2 hb2 (by omega) (by omega)⟩⟩
end Go.Proofs.YtndpjfhhigpbhaaGreat
