/- Walk: integer.Text. (Printed by g_text.py.) -/
import Derived.Test.YtndpjfhhigpbhaaGreatTxtL
import Derived.Test.YtndpjfhhigpbhaaGreatFns
namespace Go.Proofs.YtndpjfhhigpbhaaGreat
open Go.RowKit W
set_option maxRecDepth 100000 in
set_option maxHeartbeats 8000000 in
theorem Text_z  (va : Value) (x : Int) (w : World) (hva : IsI w va x) (Fx : Fits x 1000000) :
    Calls Tryz.prog 64 #[va] w (RetT w x) := by
 have E := Env.start w
 obtain ⟨nva, sva, rfl, _, _⟩ := hva.sh
 replace E := E.i hva
 clear hva
 have hsg := IsI.sign (E.1)
 go_enter Tryz.func64, Tryz.ntmps64
 refine wp_seq ?_
 -- region 0
 refine wp_region_lit ?_
 refine L1 rfl (Oper.wp_box rfl rfl ?_)
 intro b1 w1 e1 z1 d1 x1
 have l1 : w.heap.size ≤ b1 := by rw [e1]; exact (E.2.1).size
 replace E := E.below d1
 clear e1 z1 d1
 replace E := E.b x1
 clear x1
 simp only [Act.put,q1,q2,q3]
 refine LV (v := .string ⟨#[]⟩) rfl (run_assign rfl rfl) ?_
 simp only [Act.put,q1,q2,q3]
 refine wpList_nil ?_
 change Code.wp _ _ _ _ _
 refine wp_seq ?_
 -- region 1
 refine wp_region_lit ?_
 refine LV (v := .slice none 0 0) rfl (run_assign rfl rfl) ?_
 simp only [Act.put,q1,q2,q3]
 refine wpList_nil ?_
 change Code.wp _ _ _ _ _
 refine wp_seq ?_
 -- region 2
 refine wp_region_lit ?_
 refine LV (v := .pointer (some ⟨b1, 1, none⟩)) rfl (run_fieldI1 rfl rfl) ?_
 simp only [Act.put,q1,q2,q3]
 refine LV (v := sva) rfl (run_cell rfl isAgg_words rfl (E.1) rfl) ?_
 simp only [Act.put,q1,q2,q3]
 refine L1 rfl (Oper.wp_callS fn_integer_trim rfl (trim_digs _ _ _ (IsI.sl (E.2.1))) rfl E ?_)
 clear E
 intro w2 v2 d2 E
 clear d2
 simp only [Act.put,q1,q2,q3]
 refine L1 rfl (Oper.wp_callS fn_integer_clone rfl (clone_sl _ (digs x.natAbs) _ (E.1) (Nat.le_trans (Fx : Fits x 1000000) (by decide))) rfl E ?_)
 clear E
 intro w3 v3 d3 E
 clear d3
 simp only [Act.put,q1,q2,q3]
 refine LV (v := v3) rfl (run_assign rfl rfl) ?_
 simp only [Act.put,q1,q2,q3]
 refine wpList_nil ?_
 change Code.wp _ _ _ _ _
 refine wp_seq ?_
 refine wp_block ?_
 replace E := E.g (RowG_nil _ (b1 + 1) 84 9 isU8)
 refine wp_loop_ghost (fun mz a w' => ∃ (m : Nat) (L : List Nat) (vc : Value) (vr : Value) (g5 g6 g7 g14 g15 g16 g17 g18 g19 g20 g21 g22 g23 g24 g25 g26 g27 g28 g29 g30 g31 g32 g33 g34 g35 g36 g37 g38 : Value), a = ⟨#[.agg #[.bool nva, sva], .pointer (some ⟨b1, 0, none⟩), .string ⟨#[]⟩, vc, vr, g5, g6, g7, undef, undef, .pointer (some ⟨b1, 1, none⟩), sva, v2, v3, g14, g15, g16, g17, g18, g19, g20, g21, g22, g23, g24, g25, g26, g27, g28, g29, g30, g31, g32, g33, g34, g35, g36, g37, g38, undef, undef, undef, undef, undef, undef, undef, undef, undef, undef, undef, undef, undef, undef, undef, undef, undef, undef, undef, undef, undef, undef, undef, undef, undef, undef, undef, undef, undef, undef, undef, undef], []⟩ ∧ Env w' [fG (b1 + 1) (84) 9 isU8 vc L.length (dcs (L.flatMap (pad 9))), fS vr (digs m), fB b1 nva sva, fI (.agg #[.bool nva, sva]) x, fW w] ∧ mz = m ∧ x.natAbs = valC L + 1000000000 ^ L.length * m ∧ (∀ c ∈ L, c < 1000000000) ∧ m ≤ x.natAbs ∧ (L ≠ [] → x.natAbs ≠ 0) ∧ L.length ≤ 2000001) (x.natAbs) ⟨x.natAbs, [], .slice none 0 0, v3, _, _, _, _, _, _, _, _, _, _, _, _, _, _, _, _, _, _, _, _, _, _, _, _, _, _, _, _, rfl, (Env.g (Env.s (Env.b (Env.i (Env.ww (Env.nil _) (E.2.2.2.2.2.1)) (E.2.2.2.2.1)) (E.2.2.2.1)) (E.2.1)) (E.1)), rfl, ⟨by simp [valC], by simp, Nat.le_refl _, fun h => absurd rfl h, by simp⟩⟩ ?_
 rintro m4 _ w4 ⟨m, L, vc, vr, g5, g6, g7, g14, g15, g16, g17, g18, g19, g20, g21, g22, g23, g24, g25, g26, g27, g28, g29, g30, g31, g32, g33, g34, g35, g36, g37, g38, rfl, E, hm4, hI4⟩
 by_cases hz : m = 0
 case pos =>
  refine wp_seq ?_
  refine wp_seq ?_
  -- region 3
  refine wp_region_lit ?_
  refine LV (v := vr) rfl (run_move rfl rfl) ?_
  simp only [Act.put,q1,q2,q3]
  obtain ⟨ao5, cap5, hs5⟩ := Sl.shape (E.2.1)
  refine LV (v := .int .i64 (((digs m).length : Nat) : Int)) rfl (run_len rfl hs5) ?_
  simp only [Act.put,q1,q2,q3]
  refine LV (v := .bool false) rfl (run_gtI (c := false) rfl rfl rfl ((by rw [hz, digs_zero]; rfl))) ?_
  simp only [Act.put,q1,q2,q3]
  refine wpList_nil ?_
  change Code.wp _ _ _ _ _
  refine wp_cond_false rfl ?_
  refine wp_exit ?_
  change Code.wp _ _ _ _ _
  refine wp_seq ?_
  refine wp_seq ?_
  rw [hz, Nat.mul_zero, Nat.add_zero] at hI4
  by_cases hL : L = []
  case pos =>
   have hx0 : x = 0 := by have h1 := hI4.1; rw [hL, valC] at h1; omega
   -- region 14
   refine wp_region_lit ?_
   refine LV (v := vc) rfl (run_move rfl rfl) ?_
   simp only [Act.put,q1,q2,q3]
   obtain ⟨ao6, cap6, hs6⟩ := RowG.shape (E.1)
   refine LV (v := .int .i64 ((L.length : Nat) : Int)) rfl (run_len9 rfl hs6) ?_
   simp only [Act.put,q1,q2,q3]
   refine LV (v := .bool true) rfl (run_eqI (c := true) rfl rfl rfl (by rw [hL]; rfl)) ?_
   simp only [Act.put,q1,q2,q3]
   refine wpList_nil ?_
   change Code.wp _ _ _ _ _
   refine wp_cond_true rfl ?_
   refine wp_seq ?_
   -- region 15
   refine wp_region_lit ?_
   refine LV (v := .string ⟨#[48]⟩) rfl (run_assign rfl rfl) ?_
   simp only [Act.put,q1,q2,q3]
   refine wpList_nil ?_
   change Code.wp _ _ _ _ _
   refine wp_ret ?_
   exact bodyPost_ret (v := .string ⟨#[48]⟩) (by simp [results, Tryz.results64, asAddr]) rfl ⟨by rw [hx0, txt_zero], E.2.2.2.2.1⟩
  case neg =>
   have hL0 := List.length_pos_iff.2 hL
   have hLb := hI4.2.2.2.2
   -- region 14
   refine wp_region_lit ?_
   refine LV (v := vc) rfl (run_move rfl rfl) ?_
   simp only [Act.put,q1,q2,q3]
   obtain ⟨ao7, cap7, hs7⟩ := RowG.shape (E.1)
   refine LV (v := .int .i64 ((L.length : Nat) : Int)) rfl (run_len9 rfl hs7) ?_
   simp only [Act.put,q1,q2,q3]
   refine LV (v := .bool false) rfl (run_eqI (c := false) rfl rfl rfl (by rw [beq_eq_false_iff_ne]; have := List.length_pos_iff.2 hL; omega)) ?_
   simp only [Act.put,q1,q2,q3]
   refine wpList_nil ?_
   change Code.wp _ _ _ _ _
   refine wp_cond_false rfl ?_
   refine wp_skip ?_
   change Code.wp _ _ _ _ _
   refine wp_seq ?_
   obtain ⟨gc, capc, rfl, hcc1, hcc2⟩ := RowG.pos (E.1) (by omega)
   have hgc := (RowG.blk (g := gc) (E.1) rfl).2
   have hb1c := Bx.lt (E.2.2.1)
   -- region 16
   refine wp_region_lit ?_
   refine LV (v := .slice none 0 0) rfl (run_assign rfl rfl) ?_
   simp only [Act.put,q1,q2,q3]
   refine wpList_nil ?_
   change Code.wp _ _ _ _ _
   refine wp_seq ?_
   refine wp_seq ?_
   -- region 17
   refine wp_region_lit ?_
   refine LV (v := .slice (some ⟨gc, 0, none⟩) L.length capc) rfl (run_move rfl rfl) ?_
   simp only [Act.put,q1,q2,q3]
   refine LV (v := .int .i64 ((L.length : Nat) : Int)) rfl (run_len9 rfl rfl) ?_
   simp only [Act.put,q1,q2,q3]
   refine LV (v := .int .i64 0) rfl (run_move rfl rfl) ?_
   simp only [Act.put,q1,q2,q3]
   refine wpList_nil ?_
   change Code.wp _ _ _ _ _
   refine wp_block ?_
   replace E := (E.n (Nat.le_refl _)).g (RowG_nil _ w4.heap.size 5 1 isU8)
   refine wp_loop_ghost (fun mz a w' => ∃ (i : Nat) (vt : Value) (g9 g45 g46 g47 g48 g49 g50 g51 g52 g53 g54 g55 g56 g57 : Value), a = ⟨#[.agg #[.bool nva, sva], .pointer (some ⟨b1, 0, none⟩), .string ⟨#[]⟩, .slice (some ⟨gc, 0, none⟩) L.length capc, vr, g5, g6, g7, vt, g9, .pointer (some ⟨b1, 1, none⟩), sva, v2, v3, vr, .int .i64 (((digs m).length : Nat) : Int), .bool false, g17, g18, g19, g20, g21, g22, g23, g24, g25, g26, g27, g28, g29, g30, g31, g32, g33, g34, g35, g36, g37, g38, .slice (some ⟨gc, 0, none⟩) L.length capc, .int .i64 ((L.length : Nat) : Int), .bool false, .slice (some ⟨gc, 0, none⟩) L.length capc, .int .i64 ((L.length : Nat) : Int), .int .i64 ((i : Nat) : Int), g45, g46, g47, g48, g49, g50, g51, g52, g53, g54, g55, g56, g57, undef, undef, undef, undef, undef, undef, undef, undef, undef, undef, undef, undef, undef], []⟩ ∧ Env w' [fG w4.heap.size (5) 1 isU8 vt (9 * i) (dcs ((L.reverse.take i).flatMap (pad 9))), fN w4.heap.size, fG (b1 + 1) (84) 9 isU8 (.slice (some ⟨gc, 0, none⟩) L.length capc) L.length (dcs (L.flatMap (pad 9))), fB b1 nva sva, fI (.agg #[.bool nva, sva]) x, fW w] ∧ mz = L.length - i ∧ i ≤ L.length) (L.length) ⟨0, .slice none 0 0, _, _, _, _, _, _, _, _, _, _, _, _, _, _, rfl, (Env.g (Env.n (Env.g (Env.b (Env.i (Env.ww (Env.nil _) (E.2.2.2.2.2.2.1)) (E.2.2.2.2.2.1)) (E.2.2.2.2.1)) (E.2.2.1)) (E.2.1)) (E.1)), rfl, Nat.zero_le _⟩ ?_
   rintro m8 _ w8 ⟨i, vt, g9, g45, g46, g47, g48, g49, g50, g51, g52, g53, g54, g55, g56, g57, rfl, E, hm8, hI8⟩
   by_cases hi : i = L.length
   case pos =>
    refine wp_seq ?_
    -- region 18
    refine wp_region_lit ?_
    refine LV (v := .bool false) rfl (run_ltI (c := false) rfl rfl rfl (by rw [hi, decide_eq_false_iff_not]; omega)) ?_
    simp only [Act.put,q1,q2,q3]
    refine wpList_nil ?_
    change Code.wp _ _ _ _ _
    refine wp_seq ?_
    refine wp_cond_false rfl ?_
    refine wp_exit ?_
    change Code.wp _ _ _ _ _
    refine wp_seq ?_
    refine wp_block ?_
    rw [hi, ← List.length_reverse, List.take_length, List.length_reverse] at E
    obtain ⟨D, hD⟩ : ∃ D, D = L.reverse.flatMap (pad 9) := ⟨_, rfl⟩
    rw [← hD] at E
    have hDl : D.length = 9 * L.length := by rw [hD, flat_length, List.length_reverse]
    have hDg : Dg D := by rw [hD]; exact flat_Dg _
    have hDv : val10 D = x.natAbs := by rw [hD, val10_flat L hI4.2.1]; exact hI4.1.symm
    obtain ⟨gt, capt, rfl, hct1, hct2⟩ := RowG.pos (E.1) (by omega)
    have hn0 : 0 < val10 D := by rw [hDv]; exact Nat.pos_of_ne_zero (hI4.2.2.2.1 hL)
    have hDd : strip D = dec x.natAbs := by rw [strip_dec hDg hn0, hDv]
    have hDs : strip D ≠ [] := by rw [hDd]; exact dec_ne _
    refine wp_loop_ghost (fun mz a w' => ∃ (p : Nat) (g58 g59 g60 g61 g62 g63 : Value), a = ⟨#[.agg #[.bool nva, sva], .pointer (some ⟨b1, 0, none⟩), .string ⟨#[]⟩, .slice (some ⟨gc, 0, none⟩) L.length capc, vr, g5, g6, g7, .slice (some ⟨gt, p, none⟩) (9 * L.length - p) (capt - p), g9, .pointer (some ⟨b1, 1, none⟩), sva, v2, v3, vr, .int .i64 (((digs m).length : Nat) : Int), .bool false, g17, g18, g19, g20, g21, g22, g23, g24, g25, g26, g27, g28, g29, g30, g31, g32, g33, g34, g35, g36, g37, g38, .slice (some ⟨gc, 0, none⟩) L.length capc, .int .i64 ((L.length : Nat) : Int), .bool false, .slice (some ⟨gc, 0, none⟩) L.length capc, .int .i64 ((L.length : Nat) : Int), .int .i64 ((i : Nat) : Int), .bool false, g46, g47, g48, g49, g50, g51, g52, g53, g54, g55, g56, g57, g58, g59, g60, g61, g62, g63, undef, undef, undef, undef, undef, undef, undef], []⟩ ∧ Env w' [fG w4.heap.size (5) 1 isU8 (.slice (some ⟨gt, 0, none⟩) (9 * L.length) capt) (9 * L.length) (dcs D), fN w4.heap.size, fG (b1 + 1) (84) 9 isU8 (.slice (some ⟨gc, 0, none⟩) L.length capc) L.length (dcs (L.flatMap (pad 9))), fB b1 nva sva, fI (.agg #[.bool nva, sva]) x, fW w] ∧ mz = 9 * L.length - p ∧ p < 9 * L.length ∧ strip (D.drop p) = strip D) (9 * L.length) ⟨0, _, _, _, _, _, _, rfl, (Env.g (Env.n (Env.g (Env.b (Env.i (Env.ww (Env.nil _) (E.2.2.2.2.2.1)) (E.2.2.2.2.1)) (E.2.2.2.1)) (E.2.2.1)) (E.2.1)) (E.1)), rfl, ⟨by omega, rfl⟩⟩ ?_
    rintro m9 _ w9 ⟨p, g58, g59, g60, g61, g62, g63, rfl, E, hm9, hI9⟩
    have hpD : p < D.length := by rw [hDl]; exact hI9.1
    by_cases hp : gd D p = 0
    case pos =>
     have hp1 := strip_more hpD hp hI9.2 hDs
     rw [hDl] at hp1
     refine wp_seq ?_
     refine wp_seq ?_
     -- region 22
     refine wp_region_lit ?_
     refine LV (v := .slice (some ⟨gt, p, none⟩) (9 * L.length - p) (capt - p)) rfl (run_move rfl rfl) ?_
     simp only [Act.put,q1,q2,q3]
     refine LV (v := .pointer (some ⟨gt, p + 0 * 1, none⟩)) rfl (run_idx rfl Tryz.underlying85 (by kernel_rfl) rfl rfl rfl (by omega)) ?_
     simp only [Act.put,q1,q2,q3]
     have hcp : _ = _ := RowG.cell (E.1) (dcs_get D p hpD)
     refine LV (v := .int .u8 ((48 + gd D p : Nat) : Int)) rfl (run_loadC rfl isAgg_u8 rfl hcp) ?_
     simp only [Act.put,q1,q2,q3]
     refine LV (v := .bool true) rfl (run_eqI (c := true) rfl rfl rfl (by rw [hp, beq_iff_eq]; rfl)) ?_
     simp only [Act.put,q1,q2,q3]
     refine wpList_nil ?_
     change Code.wp _ _ _ _ _
     refine wp_cond_true rfl ?_
     refine wp_skip ?_
     change Code.wp _ _ _ _ _
     refine wp_block ?_
     -- region 23
     refine wp_region_lit ?_
     refine LV (v := .slice (some ⟨gt, p, none⟩) (9 * L.length - p) (capt - p)) rfl (run_move rfl rfl) ?_
     simp only [Act.put,q1,q2,q3]
     refine LV (v := .slice (some ⟨gt, p + 1, none⟩) (9 * L.length - p - 1) (capt - p - 1)) rfl (run_tail8 rfl rfl rfl (by omega) (by omega) (by omega)) ?_
     simp only [Act.put,q1,q2,q3]
     refine LV (v := .slice (some ⟨gt, p + 1, none⟩) (9 * L.length - p - 1) (capt - p - 1)) rfl (run_assign rfl rfl) ?_
     simp only [Act.put,q1,q2,q3]
     refine wpList_nil ?_
     exact ⟨_, (by omega), p + 1, _, _, _, _, _, _, rfl, (Env.g (Env.n (Env.g (Env.b (Env.i (Env.ww (Env.nil _) (E.2.2.2.2.2.1)) (E.2.2.2.2.1)) (E.2.2.2.1)) (E.2.2.1)) (E.2.1)) (E.1)), rfl, ⟨hp1, strip_step hpD hp hI9.2⟩⟩
    case neg =>
     have hdone := strip_done hpD hp hI9.2
     rw [hDd] at hdone
     refine wp_seq ?_
     refine wp_seq ?_
     -- region 22
     refine wp_region_lit ?_
     refine LV (v := .slice (some ⟨gt, p, none⟩) (9 * L.length - p) (capt - p)) rfl (run_move rfl rfl) ?_
     simp only [Act.put,q1,q2,q3]
     refine LV (v := .pointer (some ⟨gt, p + 0 * 1, none⟩)) rfl (run_idx rfl Tryz.underlying85 (by kernel_rfl) rfl rfl rfl (by omega)) ?_
     simp only [Act.put,q1,q2,q3]
     have hcp : _ = _ := RowG.cell (E.1) (dcs_get D p hpD)
     refine LV (v := .int .u8 ((48 + gd D p : Nat) : Int)) rfl (run_loadC rfl isAgg_u8 rfl hcp) ?_
     simp only [Act.put,q1,q2,q3]
     refine LV (v := .bool false) rfl (run_eqI (c := false) rfl rfl rfl (by rw [beq_eq_false_iff_ne]; omega)) ?_
     simp only [Act.put,q1,q2,q3]
     refine wpList_nil ?_
     change Code.wp _ _ _ _ _
     refine wp_cond_false rfl ?_
     refine wp_exit ?_
     change Code.wp _ _ _ _ _
     refine wp_seq ?_
     refine wp_seq ?_
     by_cases hx : x < 0
     case pos =>
      -- region 24
      refine wp_region_lit ?_
      refine LV (v := .pointer (some ⟨b1, 0, none⟩)) rfl (run_fieldI0 rfl rfl) ?_
      simp only [Act.put,q1,q2,q3]
      refine LV (v := .bool nva) rfl (run_cell rfl isAgg_bool rfl (E.2.2.2.1) rfl) ?_
      simp only [Act.put,q1,q2,q3]
      refine wpList_nil ?_
      change Code.wp _ _ _ _ _
      refine wp_cond_true (congrArg Value.bool (by rw [hsg]; simp [hx])) ?_
      refine wp_seq ?_
      -- region 25
      refine wp_region_lit ?_
      refine LV (v := .slice (some ⟨gt, p, none⟩) (9 * L.length - p) (capt - p)) rfl (run_move rfl rfl) ?_
      simp only [Act.put,q1,q2,q3]
      have hcs : ∀ q, q < 9 * L.length - p → _ = _ := fun q hq => RowG.cell (E.1) (dcs_get D (p + q) (by omega))
      refine LV (v := .string (strOfNums ((D.drop p).map fun d => ((48 + d : Nat) : Int)))) rfl (run_str rfl Tryz.underlying85 Tryz.underlying5 Tryz.underlying9 rfl (by rw [List.length_map, List.length_drop, hDl]) (fun q hq => by rw [hcs q hq, dig_get D p q (by omega)])) ?_
      simp only [Act.put,q1,q2,q3]
      refine LV (v := .string ((⟨#[45]⟩ : ByteArray) ++ strOfNums ((D.drop p).map fun d => ((48 + d : Nat) : Int)))) rfl (run_cat rfl rfl rfl (by rw [strOfNums_size, List.length_map, List.length_drop]; show 1 + _ ≤ _; omega)) ?_
      simp only [Act.put,q1,q2,q3]
      refine LV (v := .string ((⟨#[45]⟩ : ByteArray) ++ strOfNums ((D.drop p).map fun d => ((48 + d : Nat) : Int)))) rfl (run_assign rfl rfl) ?_
      simp only [Act.put,q1,q2,q3]
      refine wpList_nil ?_
      change Code.wp _ _ _ _ _
      refine wp_ret ?_
      exact bodyPost_ret (v := .string ((⟨#[45]⟩ : ByteArray) ++ strOfNums ((D.drop p).map fun d => ((48 + d : Nat) : Int)))) (by simp [results, Tryz.results64, asAddr]) rfl ⟨congrArg (fun s => Ending.returned (.string s)) (txt_neg hx hdone), E.2.2.2.2.2.1⟩
     case neg =>
      -- region 24
      refine wp_region_lit ?_
      refine LV (v := .pointer (some ⟨b1, 0, none⟩)) rfl (run_fieldI0 rfl rfl) ?_
      simp only [Act.put,q1,q2,q3]
      refine LV (v := .bool nva) rfl (run_cell rfl isAgg_bool rfl (E.2.2.2.1) rfl) ?_
      simp only [Act.put,q1,q2,q3]
      refine wpList_nil ?_
      change Code.wp _ _ _ _ _
      refine wp_cond_false (congrArg Value.bool (by rw [hsg]; simp [hx])) ?_
      refine wp_skip ?_
      change Code.wp _ _ _ _ _
      refine wp_seq ?_
      -- region 26
      refine wp_region_lit ?_
      refine LV (v := .slice (some ⟨gt, p, none⟩) (9 * L.length - p) (capt - p)) rfl (run_move rfl rfl) ?_
      simp only [Act.put,q1,q2,q3]
      have hcs : ∀ q, q < 9 * L.length - p → _ = _ := fun q hq => RowG.cell (E.1) (dcs_get D (p + q) (by omega))
      refine LV (v := .string (strOfNums ((D.drop p).map fun d => ((48 + d : Nat) : Int)))) rfl (run_str rfl Tryz.underlying85 Tryz.underlying5 Tryz.underlying9 rfl (by rw [List.length_map, List.length_drop, hDl]) (fun q hq => by rw [hcs q hq, dig_get D p q (by omega)])) ?_
      simp only [Act.put,q1,q2,q3]
      refine LV (v := .string (strOfNums ((D.drop p).map fun d => ((48 + d : Nat) : Int)))) rfl (run_assign rfl rfl) ?_
      simp only [Act.put,q1,q2,q3]
      refine wpList_nil ?_
      change Code.wp _ _ _ _ _
      refine wp_ret ?_
      exact bodyPost_ret (v := .string (strOfNums ((D.drop p).map fun d => ((48 + d : Nat) : Int)))) (by simp [results, Tryz.results64, asAddr]) rfl ⟨congrArg (fun s => Ending.returned (.string s)) (txt_pos hx hdone), E.2.2.2.2.2.1⟩
   case neg =>
    have hi9 : i < L.length := by omega
    refine wp_seq ?_
    -- region 18
    refine wp_region_lit ?_
    refine LV (v := .bool true) rfl (run_ltI (c := true) rfl rfl rfl (by rw [decide_eq_true_eq]; omega)) ?_
    simp only [Act.put,q1,q2,q3]
    refine wpList_nil ?_
    change Code.wp _ _ _ _ _
    refine wp_seq ?_
    refine wp_cond_true rfl ?_
    refine wp_skip ?_
    change Code.wp _ _ _ _ _
    refine wp_seq ?_
    refine wp_block ?_
    refine wp_seq ?_
    -- region 19
    refine wp_region_lit ?_
    refine LV (v := .int .i64 ((i : Nat) : Int)) rfl (run_move rfl rfl) ?_
    simp only [Act.put,q1,q2,q3]
    refine LV (v := .int .i64 ((i : Nat) : Int)) rfl (run_assign rfl rfl) ?_
    simp only [Act.put,q1,q2,q3]
    refine wpList_nil ?_
    change Code.wp _ _ _ _ _
    -- region 20
    refine wp_region_lit ?_
    refine LV (v := vt) rfl (run_move rfl rfl) ?_
    simp only [Act.put,q1,q2,q3]
    refine LV (v := .slice (some ⟨gc, 0, none⟩) L.length capc) rfl (run_move rfl rfl) ?_
    simp only [Act.put,q1,q2,q3]
    refine LV (v := .slice (some ⟨gc, 0, none⟩) L.length capc) rfl (run_move rfl rfl) ?_
    simp only [Act.put,q1,q2,q3]
    refine LV (v := .int .i64 ((L.length : Nat) : Int)) rfl (run_len9 rfl rfl) ?_
    simp only [Act.put,q1,q2,q3]
    refine LV (v := .int .i64 ((L.length - 1 : Nat) : Int)) rfl (run_subI rfl rfl rfl (by rw [IntWalk.i64_in _ (by omega)]; omega)) ?_
    simp only [Act.put,q1,q2,q3]
    refine LV (v := .int .i64 ((i : Nat) : Int)) rfl (run_move rfl rfl) ?_
    simp only [Act.put,q1,q2,q3]
    refine LV (v := .int .i64 ((L.length - 1 - i : Nat) : Int)) rfl (run_subI rfl rfl rfl (by rw [IntWalk.i64_in _ (by omega)]; omega)) ?_
    simp only [Act.put,q1,q2,q3]
    refine LV (v := .pointer (some ⟨gc, 0 + (L.length - 1 - i) * 9, none⟩)) rfl (run_idx rfl Tryz.underlying81 (by kernel_rfl) rfl rfl rfl (by omega)) ?_
    simp only [Act.put,q1,q2,q3]
    refine LV (v := .slice (some ⟨gc, 0 + (L.length - 1 - i) * 9, none⟩) 9 9) rfl (run_sliceA9 rfl rfl) ?_
    simp only [Act.put,q1,q2,q3]
    obtain ⟨i1, hi1, hz1, hs1, hb1⟩ := info_parts info_u8
    refine L1 rfl (Oper.wp_appendG _ _ _ rfl w4.heap.size 5 i1 _ 1 1 Tryz.underlying85 hi1 hz1 hs1 hb1 rfl (by decide) isU8 isU8_zero isU8_no vt (9 * i) (dcs ((L.reverse.take i).flatMap (pad 9))) rfl (E.1) (l := [fN w4.heap.size, fG (b1 + 1) (84) 9 isU8 (.slice (some ⟨gc, 0, none⟩) L.length capc) L.length (dcs (L.flatMap (pad 9))), fB b1 nva sva, fI (.agg #[.bool nva, sva]) x, fW w]) (Env.n (Env.g (Env.b (Env.i (Env.ww (Env.nil _) (E.2.2.2.2.2.1)) (E.2.2.2.2.1)) (E.2.2.2.1)) (E.2.2.1)) (E.2.1)) (fun g hg hb => ⟨trivial, okG (fun h => by simp only [Value.ownBlock, Option.some.injEq] at h; omega), okB (by omega), trivial, okW (by omega), trivial⟩) ⟨gc, 0 + (L.length - 1 - i) * 9, none⟩ 9 9 (dcs (pad 9 (gd L (L.length - 1 - i)))) rfl (by rw [dcs_length, pad_length]) (fun j u hu => by have hj9 : j < 9 := (by have := (List.getElem?_eq_some_iff.1 hu).1; rwa [dcs_length, pad_length] at this); rw [Addr.add_lit]; exact RowG.cell (E.2.2.1) (by rw [flat_get L _ j (by omega) hj9]; exact hu)) (dcs_one _) (isU8_dcs _) (by unfold maxLen; omega) (by omega) (E.2.1) ?_)
    clear E
    intro v10 w10 E
    simp only [Act.put,q1,q2,q3]
    refine LV (v := v10) rfl (run_assign rfl rfl) ?_
    simp only [Act.put,q1,q2,q3]
    refine wpList_nil ?_
    change Code.wp _ _ _ _ _
    -- region 21
    refine wp_region_lit ?_
    refine LV (v := .int .i64 ((i + 1 : Nat) : Int)) rfl (run_addI rfl rfl rfl (by rw [IntWalk.i64_in _ (by omega)]; omega)) ?_
    simp only [Act.put,q1,q2,q3]
    refine LV (v := .int .i64 ((i + 1 : Nat) : Int)) rfl (run_move rfl rfl) ?_
    simp only [Act.put,q1,q2,q3]
    refine wpList_nil ?_
    have hO := E.1
    rw [← dcs_append, ← flat_snoc, ← pad_drop_get L i hi9, show 9 * i + 9 = 9 * (i + 1) from by omega] at hO
    replace E := E.g hO
    exact ⟨_, (by omega), i + 1, v10, _, _, _, _, _, _, _, _, _, _, _, _, _, _, rfl, (Env.g (Env.n (Env.g (Env.b (Env.i (Env.ww (Env.nil _) (E.2.2.2.2.2.2.1)) (E.2.2.2.2.2.1)) (E.2.2.2.2.1)) (E.2.2.2.1)) (E.2.2.1)) (E.1)), rfl, (by omega)⟩
 case neg =>
  have hk := chunk_bound hI4.1 hz (Fits.lt Fx)
  have hc0 : m % 1000000000 < 1000000000 := Nat.mod_lt _ (by decide)
  have hfm : (digs m).length ≤ 1000000000 := Nat.le_trans (digs_length_mono hI4.2.2.1) (Nat.le_trans (Fx : Fits x 1000000) (by decide))
  refine wp_seq ?_
  refine wp_seq ?_
  -- region 3
  refine wp_region_lit ?_
  refine LV (v := vr) rfl (run_move rfl rfl) ?_
  simp only [Act.put,q1,q2,q3]
  obtain ⟨ao11, cap11, hs11⟩ := Sl.shape (E.2.1)
  refine LV (v := .int .i64 (((digs m).length : Nat) : Int)) rfl (run_len rfl hs11) ?_
  simp only [Act.put,q1,q2,q3]
  refine LV (v := .bool true) rfl (run_gtI (c := true) rfl rfl rfl ((by rw [decide_eq_true_eq]; have := len_posN hz; omega))) ?_
  simp only [Act.put,q1,q2,q3]
  refine wpList_nil ?_
  change Code.wp _ _ _ _ _
  refine wp_cond_true rfl ?_
  refine wp_skip ?_
  change Code.wp _ _ _ _ _
  refine wp_block ?_
  refine wp_seq ?_
  -- region 4
  refine wp_region_lit ?_
  refine LV (v := .int .u64 0) rfl (run_assign rfl rfl) ?_
  simp only [Act.put,q1,q2,q3]
  refine wpList_nil ?_
  change Code.wp _ _ _ _ _
  refine wp_seq ?_
  -- region 5
  refine wp_region_lit ?_
  refine LV (v := vr) rfl (run_move rfl rfl) ?_
  simp only [Act.put,q1,q2,q3]
  refine L1 rfl (Oper.wp_callDs fn_integer_divideSmall rfl (divSmall_m _ m 1000000000 _ (E.2.1) hfm (by decide) (by decide)) rfl E ?_)
  clear E
  intro w12 v12 d12 E
  clear d12
  simp only [Act.put,q1,q2,q3]
  refine LV (v := .tuple #[v12, .int .u64 ((m % 1000000000 : Nat) : Int)]) rfl (run_move rfl rfl) ?_
  simp only [Act.put,q1,q2,q3]
  refine LV (v := v12) rfl (run_extract (vs := [v12, .int .u64 ((m % 1000000000 : Nat) : Int)]) rfl rfl rfl) ?_
  simp only [Act.put,q1,q2,q3]
  refine LV (v := .int .u64 ((m % 1000000000 : Nat) : Int)) rfl (run_extract (vs := [v12, .int .u64 ((m % 1000000000 : Nat) : Int)]) rfl rfl rfl) ?_
  simp only [Act.put,q1,q2,q3]
  refine LV (v := v12) rfl (run_assign rfl rfl) ?_
  simp only [Act.put,q1,q2,q3]
  refine LV (v := .int .u64 ((m % 1000000000 : Nat) : Int)) rfl (run_assign rfl rfl) ?_
  simp only [Act.put,q1,q2,q3]
  refine wpList_nil ?_
  change Code.wp _ _ _ _ _
  refine wp_seq ?_
  -- region 6
  refine wp_region_lit ?_
  have lc : ∀ gg, vc.ownBlock = some gg → gg < _ := fun gg hg => (RowG.blk (E.2.1) hg).2
  refine L1 rfl (Oper.wp_alloc Ag9 rfl ?_)
  intro b13 w13 e13 z13 d13 x13
  have l13 : b1 < b13 := by rw [e13]; exact Bx.lt (E.2.2.2.1)
  rw [← e13] at lc
  replace E := (E.below d13).x x13
  clear e13 z13 d13 x13
  simp only [Act.put,q1,q2,q3]
  refine wpList_nil ?_
  change Code.wp _ _ _ _ _
  refine wp_seq ?_
  refine wp_seq ?_
  -- region 7
  refine wp_region_lit ?_
  refine LV (v := .int .i64 0) rfl (run_move rfl rfl) ?_
  simp only [Act.put,q1,q2,q3]
  refine wpList_nil ?_
  change Code.wp _ _ _ _ _
  refine wp_block ?_
  have hx0 := E.1
  rw [cl_zero (m % 1000000000)] at hx0
  replace E := E.x hx0
  refine wp_loop_ghost (fun mz a w' => ∃ (j : Nat) (cu : Nat) (g7 g23 g24 g25 g26 g27 g28 g29 g30 g31 g32 g33 g34 : Value), a = ⟨#[.agg #[.bool nva, sva], .pointer (some ⟨b1, 0, none⟩), .string ⟨#[]⟩, vc, v12, .int .u64 ((cu : Nat) : Int), .pointer (some ⟨b13, 0, none⟩), g7, undef, undef, .pointer (some ⟨b1, 1, none⟩), sva, v2, v3, vr, .int .i64 (((digs m).length : Nat) : Int), .bool true, .tuple #[v12, .int .u64 ((m % 1000000000 : Nat) : Int)], vr, .tuple #[v12, .int .u64 ((m % 1000000000 : Nat) : Int)], v12, .int .u64 ((m % 1000000000 : Nat) : Int), .int .i64 ((j : Nat) : Int), g23, g24, g25, g26, g27, g28, g29, g30, g31, g32, g33, g34, g35, g36, g37, g38, undef, undef, undef, undef, undef, undef, undef, undef, undef, undef, undef, undef, undef, undef, undef, undef, undef, undef, undef, undef, undef, undef, undef, undef, undef, undef, undef, undef, undef, undef, undef, undef], []⟩ ∧ Env w' [fX b13 (84) (cl j (m % 1000000000)), fS v12 (digs (m / 1000000000)), fG (b1 + 1) (84) 9 isU8 vc L.length (dcs (L.flatMap (pad 9))), fS vr (digs m), fB b1 nva sva, fI (.agg #[.bool nva, sva]) x, fW w] ∧ mz = 9 - j ∧ j ≤ 9 ∧ cu = m % 1000000000 / 10 ^ j) (9) ⟨0, m % 1000000000, _, _, _, _, _, _, _, _, _, _, _, _, _, rfl, (Env.x (Env.s (Env.g (Env.s (Env.b (Env.i (Env.ww (Env.nil _) (E.2.2.2.2.2.2.2.1)) (E.2.2.2.2.2.2.1)) (E.2.2.2.2.2.1)) (E.2.2.2.2.1)) (E.2.2.2.1)) (E.2.2.1)) (E.1)), rfl, ⟨by decide, by simp⟩⟩ ?_
  rintro m14 _ w14 ⟨j, cu, g7, g23, g24, g25, g26, g27, g28, g29, g30, g31, g32, g33, g34, rfl, E, hm14, hI14⟩
  by_cases hj : j = 9
  case pos =>
   refine wp_seq ?_
   -- region 8
   refine wp_region_lit ?_
   refine LV (v := .bool false) rfl (run_ltI (c := false) rfl rfl rfl (by rw [hj]; rfl)) ?_
   simp only [Act.put,q1,q2,q3]
   refine wpList_nil ?_
   change Code.wp _ _ _ _ _
   refine wp_seq ?_
   refine wp_cond_false rfl ?_
   refine wp_exit ?_
   change Code.wp _ _ _ _ _
   -- region 13
   refine wp_region_lit ?_
   refine LV (v := vc) rfl (run_move rfl rfl) ?_
   simp only [Act.put,q1,q2,q3]
   subst hj
   have hx9 := E.1
   rw [cl_nine] at hx9
   refine LV (v := .agg (dcs (pad 9 (m % 1000000000))).toArray) rfl (run_load_bx Ag9 rfl rfl hx9 (by rw [dcs_length, pad_length])) ?_
   simp only [Act.put,q1,q2,q3]
   refine L1 rfl (Oper.wp_lit1 Tryz.underlying81 Ag9 (by rw [dcs_length, pad_length]) (by decide) (by decide) rfl rfl ?_)
   intro b15 w15 e15 z15 d15 x15
   replace E := (E.below d15).x x15
   clear e15 z15 d15 x15
   simp only [Act.put,q1,q2,q3]
   obtain ⟨i9, hi9, hz9, hs9, hb9⟩ := info_parts info_arr9
   have hbs := Bx.lt (E.2.2.2.2.2.1)
   refine L1 rfl (Oper.wp_appendG _ _ _ rfl (b1 + 1) 84 i9 _ 9 9 Tryz.underlying81 hi9 hz9 hs9 hb9 rfl (by decide) isU8 isU8_rep isU8_no vc L.length (dcs (L.flatMap (pad 9))) rfl (E.2.2.2.1) (l := [fS v12 (digs (m / 1000000000)), fS vr (digs m), fB b1 nva sva, fI (.agg #[.bool nva, sva]) x, fW w]) (Env.s (Env.s (Env.b (Env.i (Env.ww (Env.nil _) (E.2.2.2.2.2.2.2.1)) (E.2.2.2.2.2.2.1)) (E.2.2.2.2.2.1)) (E.2.2.2.2.1)) (E.2.2.1)) (fun g hg hb => ⟨trivial, trivial, okB (by omega), trivial, okW (by omega), trivial⟩) ⟨b15, 0, none⟩ 1 1 (dcs (pad 9 (m % 1000000000))) rfl (by rw [dcs_length, pad_length]) (fun j u hu => by rw [Addr.add_lit, Nat.zero_add, Bx.cell (E.1)]; exact hu) (dcs_one _) (isU8_dcs _) (by unfold maxLen; omega) (by omega) (by omega) ?_)
   clear E
   intro v16 w16 E
   simp only [Act.put,q1,q2,q3]
   refine LV (v := v16) rfl (run_assign rfl rfl) ?_
   simp only [Act.put,q1,q2,q3]
   refine wpList_nil ?_
   have hO := E.1
   rw [← dcs_append, ← flat_snoc] at hO
   replace E := E.g (n := (L ++ [m % 1000000000]).length) (by rw [List.length_append, List.length_singleton]; exact hO)
   exact ⟨_, (by rw [hm4]; omega), m / 1000000000, L ++ [m % 1000000000], v16, v12, _, _, _, _, _, _, _, _, _, _, _, _, _, _, _, _, _, _, _, _, _, _, _, _, _, _, _, _, rfl, (Env.g (Env.s (Env.b (Env.i (Env.ww (Env.nil _) (E.2.2.2.2.2.2.1)) (E.2.2.2.2.2.1)) (E.2.2.2.2.1)) (E.2.2.1)) (E.1)), rfl, ⟨chunk_step hI4.1, chunk_all hI4.2.1 m, Nat.le_trans (Nat.div_le_self _ _) hI4.2.2.1, fun _ => (by have := hI4.2.2.1; omega), by rw [List.length_append, List.length_singleton]; omega⟩⟩
  case neg =>
   have hj9 : j < 9 := by have := hI14.1; omega
   have hcu := hI14.2
   have hcl : cu < 1000000000 := by rw [hcu]; exact Nat.lt_of_le_of_lt (Nat.div_le_self _ _) hc0
   refine wp_seq ?_
   -- region 8
   refine wp_region_lit ?_
   refine LV (v := .bool true) rfl (run_ltI (c := true) rfl rfl rfl (by rw [decide_eq_true_eq]; omega)) ?_
   simp only [Act.put,q1,q2,q3]
   refine wpList_nil ?_
   change Code.wp _ _ _ _ _
   refine wp_seq ?_
   refine wp_cond_true rfl ?_
   refine wp_skip ?_
   change Code.wp _ _ _ _ _
   refine wp_seq ?_
   refine wp_block ?_
   refine wp_seq ?_
   -- region 9
   refine wp_region_lit ?_
   refine LV (v := .int .i64 ((j : Nat) : Int)) rfl (run_move rfl rfl) ?_
   simp only [Act.put,q1,q2,q3]
   refine LV (v := .int .i64 ((j : Nat) : Int)) rfl (run_assign rfl rfl) ?_
   simp only [Act.put,q1,q2,q3]
   refine wpList_nil ?_
   change Code.wp _ _ _ _ _
   refine wp_seq ?_
   -- region 10
   refine wp_region_lit ?_
   refine LV (v := .int .i64 ((j : Nat) : Int)) rfl (run_move rfl rfl) ?_
   simp only [Act.put,q1,q2,q3]
   refine LV (v := .int .i64 ((8 - j : Nat) : Int)) rfl (run_subI rfl rfl rfl (by rw [IntWalk.i64_in _ (by omega)]; omega)) ?_
   simp only [Act.put,q1,q2,q3]
   refine LV (v := .int .u64 ((cu : Nat) : Int)) rfl (run_move rfl rfl) ?_
   simp only [Act.put,q1,q2,q3]
   refine LV (v := .int .u64 ((cu % 10 : Nat) : Int)) rfl (run_remI rfl rfl rfl (by decide) (tmod_nat _ 10)) ?_
   simp only [Act.put,q1,q2,q3]
   refine LV (v := .int .u64 ((48 + cu % 10 : Nat) : Int)) rfl (run_addI rfl rfl rfl (wrap_u64_nat (by omega) (by omega))) ?_
   simp only [Act.put,q1,q2,q3]
   refine LV (v := .int .u8 ((48 + cu % 10 : Nat) : Int)) rfl (run_convI rfl rfl (by rw [Tryz.underlying66]; rfl) Tryz.underlying5 (wrap_u8_nat (by omega) (by omega))) ?_
   simp only [Act.put,q1,q2,q3]
   refine LV (v := .pointer (some ⟨b13, 0 + (8 - j) * 1, none⟩)) rfl (run_idxA rfl Tryz.underlying84 (by kernel_rfl) rfl rfl rfl (by omega)) ?_
   simp only [Act.put,q1,q2,q3]
   have x17 := E.1
   replace E := (Env.s (Env.g (Env.s (Env.b (Env.i (Env.ww (Env.nil _) (E.2.2.2.2.2.2.1)) (E.2.2.2.2.2.1)) (E.2.2.2.2.1)) (E.2.2.2.1)) (E.2.2.1)) (E.2.1))
   refine L1 rfl (Oper.wp_storeC (v := .int .u8 ((48 + cu % 10 : Nat) : Int)) rfl (by kernel_rfl) rfl rfl rfl x17 (by rw [cl_length _ (by omega)]; omega) ?_)
   intro w17 o17 y17
   rw [cl_set hj9 (by rw [hcu])] at y17
   replace E := (E.onl (x17.noW (cl_now _ _)) ⟨trivial, okG (fun h => absurd (lc _ h) (Nat.lt_irrefl _)), trivial, okB (by omega), trivial, okW (by omega), trivial⟩ o17).x y17
   clear x17 o17 y17
   simp only [Act.put]
   refine wpList_nil ?_
   change Code.wp _ _ _ _ _
   -- region 11
   refine wp_region_lit ?_
   refine LV (v := .int .u64 ((cu : Nat) : Int)) rfl (run_move rfl rfl) ?_
   simp only [Act.put,q1,q2,q3]
   refine LV (v := .int .u64 ((cu / 10 : Nat) : Int)) rfl (run_quoI rfl rfl rfl (by decide) (quo_ten (by omega))) ?_
   simp only [Act.put,q1,q2,q3]
   refine LV (v := .int .u64 ((cu / 10 : Nat) : Int)) rfl (run_assign rfl rfl) ?_
   simp only [Act.put,q1,q2,q3]
   refine wpList_nil ?_
   change Code.wp _ _ _ _ _
   -- region 12
   refine wp_region_lit ?_
   refine LV (v := .int .i64 ((j + 1 : Nat) : Int)) rfl (run_addI rfl rfl rfl (by rw [IntWalk.i64_in _ (by omega)]; omega)) ?_
   simp only [Act.put,q1,q2,q3]
   refine LV (v := .int .i64 ((j + 1 : Nat) : Int)) rfl (run_move rfl rfl) ?_
   simp only [Act.put,q1,q2,q3]
   refine wpList_nil ?_
   exact ⟨_, (by omega), j + 1, cu / 10, _, _, _, _, _, _, _, _, _, _, _, _, _, rfl, (Env.x (Env.s (Env.g (Env.s (Env.b (Env.i (Env.ww (Env.nil _) (E.2.2.2.2.2.2.1)) (E.2.2.2.2.2.1)) (E.2.2.2.2.1)) (E.2.2.2.1)) (E.2.2.1)) (E.2.1)) (E.1)), rfl, ⟨by omega, by rw [hcu, Nat.pow_succ, ← Nat.div_div_eq_div_mul]⟩⟩
end Go.Proofs.YtndpjfhhigpbhaaGreat
