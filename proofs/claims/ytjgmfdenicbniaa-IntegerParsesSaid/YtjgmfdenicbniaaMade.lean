/- Walk: the reference's Made. (Printed by g_made.py.) -/
import Derived.Test.YtjgmfdenicbniaaMadeL
namespace Go.Proofs.Ytjgmfdenicbniaa
open Go.RowKit W
set_option maxRecDepth 100000 in
set_option maxHeartbeats 4000000 in
theorem Made_r (n : Bool) (sx : Value) (l : List Nat) (k : Nat)  (w : World)  (hsl : Sl w sx l) (hk9 : k ≤ 1000) :
    Calls Try.prog 14 #[.agg #[.bool n, sx], .int .i64 ((k : Nat) : Int)] w (RetZ w (mkI n l k)) := by
 have E := Env.start w
 obtain ⟨aox, capx, hsx⟩ := Sl.shape hsl
 go_enter Try.func14, Try.ntmps14
 refine wp_seq ?_
 -- region 0
 refine wp_region_lit ?_
 refine L1 rfl (Oper.wp_box (cs := [.bool n, sx]) rfl rfl ?_)
 intro b0 w0 e0 z0 d0 x0
 have l0 : w.heap.size ≤ b0 := by rw [e0]; exact (E.1).size
 replace E := (E.below d0).x x0
 clear e0 z0 d0 x0
 simp only [Act.put,q1,q2,q3]
 refine L1 rfl (Oper.wp_alloc AgI rfl ?_)
 intro b1 w1 e1 z1 d1 x1
 have l1_0 : b0 < b1 := by rw [e1]; exact Bx.lt (E.1)
 replace E := E.below d1
 clear e1 z1 d1
 simp only [Act.put,q1,q2,q3]
 refine wpList_nil ?_
 change Code.wp _ _ _ _ _
 refine wp_seq ?_
 -- region 1
 refine wp_region_lit ?_
 refine L1 rfl (Oper.wp_lit0 rfl ?_)
 have hb1 := Bx.lt x1
 intro b5 w5 e5 z5 d5 x5
 have l5 : b1 + 1 ≤ b5 := by rw [e5]; exact hb1
 replace E := (E.below d5).g (x5 (b1 + 1) l5)
 replace x1 := x1.below d5
 clear e5 z5 d5 x5 hb1
 simp only [Act.put,q1,q2,q3]
 refine LV (v := .slice (some ⟨b5, 0, none⟩) 0 0) rfl (run_assign rfl rfl) ?_
 simp only [Act.put,q1,q2,q3]
 refine wpList_nil ?_
 change Code.wp _ _ _ _ _
 refine wp_seq ?_
 refine wp_seq ?_
 -- region 2
 refine wp_region_lit ?_
 refine LV (v := .int .i64 0) rfl (run_assign rfl rfl) ?_
 simp only [Act.put,q1,q2,q3]
 refine wpList_nil ?_
 change Code.wp _ _ _ _ _
 refine wp_block ?_
 replace E := E.b x1
 clear x1
 refine wp_loop_ghost (fun mz a w' => ∃ (i : Nat) (vr : Value) (g8 g9 g10 g11 g12 g13 g14 g15 g16 g17 g18 g19 g20 g21 g22 g23 g24 g25 g26 g27 : Value), a = ⟨#[.agg #[.bool n, sx], .int .i64 ((k : Nat) : Int), .pointer (some ⟨b0, 0, none⟩), undef, .pointer (some ⟨b1, 0, none⟩), vr, .int .i64 ((i : Nat) : Int), .slice (some ⟨b5, 0, none⟩) 0 0, g8, g9, g10, g11, g12, g13, g14, g15, g16, g17, g18, g19, g20, g21, g22, g23, g24, g25, g26, g27, undef, undef, undef, undef], []⟩ ∧ Env w' [fG (b1 + 1) 27 1 (fun _ => True) vr i (wcs (l.take i)), fB b1 false (.slice none 0 0), fX b0 (25) ([.bool n, sx]), fW w] ∧ mz = l.length - i ∧ i ≤ l.length ∧ i ≤ k) (l.length) ⟨0, .slice (some ⟨b5, 0, none⟩) 0 0, _, _, _, _, _, _, _, _, _, _, _, _, _, _, _, _, _, _, _, _, rfl, (Env.g (Env.b (Env.x (Env.ww (Env.nil _) (E.2.2.2.1)) (E.2.2.1)) (E.1)) (E.2.1)), rfl, ⟨Nat.zero_le _, Nat.zero_le _⟩⟩ ?_
 rintro m2 _ w2 ⟨i, vr, g8, g9, g10, g11, g12, g13, g14, g15, g16, g17, g18, g19, g20, g21, g22, g23, g24, g25, g26, g27, rfl, E, hm2, hI2⟩
 by_cases hl2 : i = l.length
 case pos =>
  refine wp_seq ?_
  refine wp_seq ?_
  -- region 3
  refine wp_region_lit ?_
  refine LV (v := .int .i64 ((i : Nat) : Int)) rfl (run_move rfl rfl) ?_
  simp only [Act.put,q1,q2,q3]
  refine LV (v := .pointer (some ⟨b0, 1, none⟩)) rfl (run_fieldRaw1 rfl rfl) ?_
  simp only [Act.put,q1,q2,q3]
  refine LV (v := sx) rfl (run_cell rfl isAgg_words rfl (E.2.2.1) rfl) ?_
  simp only [Act.put,q1,q2,q3]
  refine LV (v := .int .i64 ((l.length : Nat) : Int)) rfl (run_len rfl hsx) ?_
  simp only [Act.put,q1,q2,q3]
  refine LV (v := .bool false) rfl (run_ltI (c := false) rfl rfl rfl (by rw [decide_eq_false_iff_not]; omega)) ?_
  simp only [Act.put,q1,q2,q3]
  refine LV (v := .bool false) rfl (run_move rfl rfl) ?_
  simp only [Act.put,q1,q2,q3]
  refine L0 rfl ?_
  simp only [Act.put,q1,q2,q3]
  refine L0 rfl ?_
  simp only [Act.put,q1,q2,q3]
  refine L0 rfl ?_
  simp only [Act.put,q1,q2,q3]
  refine LV (v := .bool false) rfl (run_pick (b := false) rfl rfl rfl) ?_
  simp only [Act.put,q1,q2,q3]
  refine wpList_nil ?_
  change Code.wp _ _ _ _ _
  refine wp_cond_false rfl ?_
  refine wp_exit ?_
  change Code.wp _ _ _ _ _
  refine wp_seq ?_
  -- region 6
  refine wp_region_lit ?_
  refine LV (v := .pointer (some ⟨b0, 0, none⟩)) rfl (run_fieldRaw0 rfl rfl) ?_
  simp only [Act.put,q1,q2,q3]
  refine LV (v := .bool n) rfl (run_cell rfl isAgg_bool rfl (E.2.2.1) rfl) ?_
  simp only [Act.put,q1,q2,q3]
  refine LV (v := vr) rfl (run_move rfl rfl) ?_
  simp only [Act.put,q1,q2,q3]
  have hsi := RowG.sl (E.1) (Wd_take hsl.wd i)
  have hzz : sgnI n (val (l.take i)) = mkI n l k := by unfold mkI; congr 2; rw [List.take_eq_take_iff]; have := hI2; omega
  refine L1 rfl (Oper.wp_callI fn_eref01_made rfl (made_sl n _ (l.take i) _ _ hsi hzz) rfl E ?_)
  clear E hsi
  intro w4 n4 s4 d4 E
  clear d4
  simp only [Act.put,q1,q2,q3]
  have x6 := E.2.2.1
  replace E := ((E.2.2.2).g (E.2.1)).i (E.1)
  refine L1 rfl (Oper.wp_store AgI rfl rfl rfl x6 rfl rfl (IsI.one (E.1)) ?_)
  intro w5 o5 y5
  replace E := (E.onl (x6.noW now0) ⟨trivial, okG (fun h => absurd (RowG.blk (E.2.1) h).1 (by omega)), okX (by omega), okW (by omega), trivial⟩ o5).b y5
  clear x6 o5 y5
  simp only [Act.put]
  refine wpList_nil ?_
  change Code.wp _ _ _ _ _
  refine wp_ret ?_
  have r7 := res_box AgI (E.1) rfl
  exact bodyPost_ret (v := .agg #[.bool n4, s4]) (by simp [results, Try.results14, asAddr, r7]) rfl ⟨_, rfl, E.2.1, E.2.2.2.2.1⟩
 case neg =>
  by_cases hk2 : i = k
  case pos =>
   refine wp_seq ?_
   refine wp_seq ?_
   -- region 3
   refine wp_region_lit ?_
   refine LV (v := .int .i64 ((i : Nat) : Int)) rfl (run_move rfl rfl) ?_
   simp only [Act.put,q1,q2,q3]
   refine LV (v := .pointer (some ⟨b0, 1, none⟩)) rfl (run_fieldRaw1 rfl rfl) ?_
   simp only [Act.put,q1,q2,q3]
   refine LV (v := sx) rfl (run_cell rfl isAgg_words rfl (E.2.2.1) rfl) ?_
   simp only [Act.put,q1,q2,q3]
   refine LV (v := .int .i64 ((l.length : Nat) : Int)) rfl (run_len rfl hsx) ?_
   simp only [Act.put,q1,q2,q3]
   refine LV (v := .bool true) rfl (run_ltI (c := true) rfl rfl rfl (by rw [decide_eq_true_eq]; have := hI2.1; omega)) ?_
   simp only [Act.put,q1,q2,q3]
   refine LV (v := .bool true) rfl (run_move rfl rfl) ?_
   simp only [Act.put,q1,q2,q3]
   refine LV (v := .int .i64 ((i : Nat) : Int)) rfl (run_move rfl rfl) ?_
   simp only [Act.put,q1,q2,q3]
   refine LV (v := .int .i64 ((k : Nat) : Int)) rfl (run_move rfl rfl) ?_
   simp only [Act.put,q1,q2,q3]
   refine LV (v := .bool false) rfl (run_ltI (c := false) rfl rfl rfl (by rw [decide_eq_false_iff_not]; omega)) ?_
   simp only [Act.put,q1,q2,q3]
   refine LV (v := .bool false) rfl (run_pick (b := true) rfl rfl rfl) ?_
   simp only [Act.put,q1,q2,q3]
   refine wpList_nil ?_
   change Code.wp _ _ _ _ _
   refine wp_cond_false rfl ?_
   refine wp_exit ?_
   change Code.wp _ _ _ _ _
   refine wp_seq ?_
   -- region 6
   refine wp_region_lit ?_
   refine LV (v := .pointer (some ⟨b0, 0, none⟩)) rfl (run_fieldRaw0 rfl rfl) ?_
   simp only [Act.put,q1,q2,q3]
   refine LV (v := .bool n) rfl (run_cell rfl isAgg_bool rfl (E.2.2.1) rfl) ?_
   simp only [Act.put,q1,q2,q3]
   refine LV (v := vr) rfl (run_move rfl rfl) ?_
   simp only [Act.put,q1,q2,q3]
   have hsi := RowG.sl (E.1) (Wd_take hsl.wd i)
   have hzz : sgnI n (val (l.take i)) = mkI n l k := by unfold mkI; congr 2; rw [List.take_eq_take_iff]; have := hI2; omega
   refine L1 rfl (Oper.wp_callI fn_eref01_made rfl (made_sl n _ (l.take i) _ _ hsi hzz) rfl E ?_)
   clear E hsi
   intro w9 n9 s9 d9 E
   clear d9
   simp only [Act.put,q1,q2,q3]
   have x11 := E.2.2.1
   replace E := ((E.2.2.2).g (E.2.1)).i (E.1)
   refine L1 rfl (Oper.wp_store AgI rfl rfl rfl x11 rfl rfl (IsI.one (E.1)) ?_)
   intro w10 o10 y10
   replace E := (E.onl (x11.noW now0) ⟨trivial, okG (fun h => absurd (RowG.blk (E.2.1) h).1 (by omega)), okX (by omega), okW (by omega), trivial⟩ o10).b y10
   clear x11 o10 y10
   simp only [Act.put]
   refine wpList_nil ?_
   change Code.wp _ _ _ _ _
   refine wp_ret ?_
   have r12 := res_box AgI (E.1) rfl
   exact bodyPost_ret (v := .agg #[.bool n9, s9]) (by simp [results, Try.results14, asAddr, r12]) rfl ⟨_, rfl, E.2.1, E.2.2.2.2.1⟩
  case neg =>
   have hi9 : i < l.length := by have := hI2.1; omega
   have hi8 : i < k := by have := hI2.2; omega
   refine wp_seq ?_
   refine wp_seq ?_
   -- region 3
   refine wp_region_lit ?_
   refine LV (v := .int .i64 ((i : Nat) : Int)) rfl (run_move rfl rfl) ?_
   simp only [Act.put,q1,q2,q3]
   refine LV (v := .pointer (some ⟨b0, 1, none⟩)) rfl (run_fieldRaw1 rfl rfl) ?_
   simp only [Act.put,q1,q2,q3]
   refine LV (v := sx) rfl (run_cell rfl isAgg_words rfl (E.2.2.1) rfl) ?_
   simp only [Act.put,q1,q2,q3]
   refine LV (v := .int .i64 ((l.length : Nat) : Int)) rfl (run_len rfl hsx) ?_
   simp only [Act.put,q1,q2,q3]
   refine LV (v := .bool true) rfl (run_ltI (c := true) rfl rfl rfl (by rw [decide_eq_true_eq]; have := hI2.1; omega)) ?_
   simp only [Act.put,q1,q2,q3]
   refine LV (v := .bool true) rfl (run_move rfl rfl) ?_
   simp only [Act.put,q1,q2,q3]
   refine LV (v := .int .i64 ((i : Nat) : Int)) rfl (run_move rfl rfl) ?_
   simp only [Act.put,q1,q2,q3]
   refine LV (v := .int .i64 ((k : Nat) : Int)) rfl (run_move rfl rfl) ?_
   simp only [Act.put,q1,q2,q3]
   refine LV (v := .bool true) rfl (run_ltI (c := true) rfl rfl rfl (by rw [decide_eq_true_eq]; have := hI2.2; omega)) ?_
   simp only [Act.put,q1,q2,q3]
   refine LV (v := .bool true) rfl (run_pick (b := true) rfl rfl rfl) ?_
   simp only [Act.put,q1,q2,q3]
   refine wpList_nil ?_
   change Code.wp _ _ _ _ _
   refine wp_cond_true rfl ?_
   refine wp_skip ?_
   change Code.wp _ _ _ _ _
   refine wp_seq ?_
   refine wp_block ?_
   -- region 5
   refine wp_region_lit ?_
   refine LV (v := vr) rfl (run_move rfl rfl) ?_
   simp only [Act.put,q1,q2,q3]
   refine LV (v := .pointer (some ⟨b0, 1, none⟩)) rfl (run_fieldRaw1 rfl rfl) ?_
   simp only [Act.put,q1,q2,q3]
   refine LV (v := sx) rfl (run_cell rfl isAgg_words rfl (E.2.2.1) rfl) ?_
   simp only [Act.put,q1,q2,q3]
   refine LV (v := .int .i64 ((i : Nat) : Int)) rfl (run_move rfl rfl) ?_
   simp only [Act.put,q1,q2,q3]
   obtain ⟨gb, go, cp, hsx2, hcl⟩ := Sl.at (Sl.below hsl (E.2.2.2.1)) hi9
   refine LV (v := .pointer (some ⟨gb, go + i * 1, none⟩)) rfl (run_idx rfl Try.underlying22 (by kernel_rfl) hsx2 rfl rfl hi9) ?_
   simp only [Act.put,q1,q2,q3]
   refine LV (v := .int .u32 ((gd l i : Nat) : Int)) rfl (run_loadC rfl isAgg_u32 rfl hcl) ?_
   simp only [Act.put,q1,q2,q3]
   refine L1 rfl (Oper.wp_litw rfl rfl ?_)
   intro b6 w6 e6 z6 d6 x6
   replace E := (E.below d6).x x6
   clear e6 z6 d6 x6
   simp only [Act.put,q1,q2,q3]
   have hb1 := Bx.lt (E.2.2.1)
   refine L1 rfl (Oper.wp_appendW _ _ rfl (b1 + 1) (l := [fB b1 false (.slice none 0 0), fX b0 (25) ([.bool n, sx]), fW w]) vr i (wcs (l.take i)) rfl (E.2.1) (Env.b (Env.x (Env.ww (Env.nil _) (E.2.2.2.2.1)) (E.2.2.2.1)) (E.2.2.1)) ⟨plB, plX, plW, trivial⟩ (fun g hg hb => ⟨okB (by omega), okX (by omega), okW (by omega), trivial⟩) ⟨b6, 0, none⟩ 1 1 [.int .u32 ((gd l i : Nat) : Int)] rfl rfl (fun j u hu => by rw [Addr.add_lit, Nat.zero_add, Bx.cell (E.1)]; exact hu) (fun u hu => by simp at hu; subst hu; rfl) (by unfold maxLen; omega) (by omega) hb1 ?_)
   clear E
   intro v14 w14 hR14 E
   replace E := E.g hR14
   clear hR14 hb1
   simp only [Act.put,q1,q2,q3]
   refine LV (v := v14) rfl (run_assign rfl rfl) ?_
   simp only [Act.put,q1,q2,q3]
   refine wpList_nil ?_
   change Code.wp _ _ _ _ _
   -- region 4
   refine wp_region_lit ?_
   refine LV (v := .int .i64 ((i : Nat) : Int)) rfl (run_move rfl rfl) ?_
   simp only [Act.put,q1,q2,q3]
   refine LV (v := .int .i64 ((i + 1 : Nat) : Int)) rfl (run_addI rfl rfl rfl (by rw [IntWalk.i64_in _ (by omega)]; omega)) ?_
   simp only [Act.put,q1,q2,q3]
   refine LV (v := .int .i64 ((i + 1 : Nat) : Int)) rfl (run_assign rfl rfl) ?_
   simp only [Act.put,q1,q2,q3]
   refine wpList_nil ?_
   have hO := E.1
   rw [show wcs (l.take i) ++ [.int .u32 ((gd l i : Nat) : Int)] = wcs (l.take (i + 1)) by rw [take_snoc_gd l i hi9, wcs_append]; rfl] at hO
   replace E := E.g hO
   exact ⟨_, (by omega), i + 1, v14, _, _, _, _, _, _, _, _, _, _, _, _, _, _, _, _, _, _, _, _, rfl, (Env.g (Env.b (Env.x (Env.ww (Env.nil _) (E.2.2.2.2.1)) (E.2.2.2.1)) (E.2.2.1)) (E.1)), rfl, ⟨by omega, by omega⟩⟩
end Go.Proofs.Ytjgmfdenicbniaa
