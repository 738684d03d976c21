/- The reference's Ints: any words become a valid integer of at most 12 words. (Printed by g_ints.py.) -/
import Derived.Test.YtndpjfhhigpbhaaOrdQ
import Derived.Test.YtndpjfhhigpbhaaMadeL
import Derived.Laws.AppendOwnNone
namespace Go.Proofs.Ytndpjfhhigpbhaa
open Go.RowKit W
theorem Sl_empty (w : World) (b : Nat) : Sl w (.slice (some ⟨b, 0, none⟩) 0 0) [] :=
  ⟨_, 0, rfl, Nat.le_refl _, by unfold maxLen; omega, Wd_nil, (fun h => by cases h), fun i hi => absurd hi (by simp)⟩
theorem run_append_nil {ρ : Operand → Value} {o : Oper} {w : World} {s x : Operand} {v : Value} {b c : Nat} (ho : o.op = .call { callee := .builtin .append, args := #[s, x], argTypes := #[22, 22] }) (hs : ρ s = .slice (some ⟨b, 0, none⟩) 0 0) (hx : ρ x = .slice none 0 c) (hv : v = .slice (some ⟨b, 0, none⟩) 0 0 := by rfl) :
    (execOp ρ o).run Try.prog w = .ok (.value v) w := by
  subst hv
  unfold execOp; rw [ho]
  simp [resolve, invoke, builtin, hs, hx, go_sem]
theorem run_buildI2 {ρ : Operand → Value} {o : Oper} {w : World} {x y : Operand} {n : Bool} {v : Value} {ao : Option Addr} {m c : Nat} (ho : o.op = .build 24 #[(0, x), (1, y)]) (hx : ρ x = .bool n) (hy : ρ y = v) (hv : v = .slice ao m c) : (execOp ρ o).run Try.prog w = .ok (.value (.agg #[.bool n, v])) w := by
  subst hv
  unfold execOp; rw [ho]
  have hi : (zeroValue 24).run Try.prog w = .ok (.agg #[.bool false, .slice none 0 0]) w := by kernel_rfl
  simp [go_sem, hi, hx, hy]
/-- What a function leaves that returns some integer of at most 12 words. -/
def RetIs (w0 : World) (e : Ending) (w' : World) : Prop := ∃ z, Fits z 12 ∧ RetZ w0 z e w'
theorem run_sliceWh {ρ : Operand → Value} {o : Oper} {w : World} {x y : Operand} {ao : Option Addr} {n c k : Nat} {J : Int} {kk : IntKind} (ho : o.op = .slice 22 x none (some y) none) (hx : ρ x = .slice ao n c) (hy : ρ y = .int kk J) (hJ : J = (k : Int)) (hk : k ≤ c) :
    (execOp ρ o).run Try.prog w = .ok (.value (.slice ao k c)) w := by
  subst hJ
  unfold execOp; rw [ho]
  have h1 : ¬ ((k : Int) < 0) := by omega
  simp [hx, hy, Instr.sliceAt, Instr.slice, run_underlying Try.underlying22, Instr.sliceBounds, Instr.sliceBound, asIntOf, hk, go_sem]
theorem Sl_news {w : World} {ad : Addr} {n cap : Nat} {l : List Nat} (h : Sl w (.slice (some ad) n cap) l) (k : Nat) : ∀ j u, (wcs (l.take k))[j]? = some u → w.cell? (ad.add j) = some u := by
  obtain ⟨ao, cap', e, h1, h2, h3, hn, h4⟩ := h
  simp only [Value.slice.injEq] at e
  obtain ⟨rfl, _, rfl⟩ := e
  intro j u hj
  have hjl : j < (l.take k).length := by have := (List.getElem?_eq_some_iff.1 hj).1; simpa [wcs] using this
  rw [List.length_take] at hjl
  obtain ⟨b, off, he, hc⟩ := h4 j (by omega)
  cases he
  rw [Addr.add_lit, hc, gd_eq l j (by omega)]
  simp [wcs, show j < k by omega, show j < l.length by omega] at hj
  rw [← hj]
theorem wcs_one (l : List Nat) : ∀ u ∈ wcs l, u.oneCell' = true := by
  intro u hu
  obtain ⟨x, _, rfl⟩ := List.mem_map.1 hu
  rfl
theorem wcs_len (l : List Nat) (k : Nat) (h : k ≤ l.length) : (wcs (l.take k)).length = k * 1 := by simp [wcs, h]
theorem RowG_sl {w : World} {base : Nat} {v : Value} {l : List Nat} {n : Nat} (h : RowG w base 70 1 (fun _ => True) v n (wcs l)) (hn : n = l.length) (hw : Wd l) : Sl w v l := by
  subst hn
  rcases h with ⟨hl, h | ⟨g, cap, cur, rfl, hg, hb, hnc, hcm, hs, ht, _⟩⟩
  · obtain ⟨rfl, h0⟩ := h
    obtain rfl : l = [] := List.eq_nil_of_length_eq_zero h0
    exact Sl_nil w
  · refine ⟨_, _, rfl, hnc, hcm, hw, (fun h => by cases h), fun i hi => ⟨g, 0, rfl, ?_⟩⟩
    rw [cell_of_row w g _ cur _ _ hb, Nat.zero_add]
    have h1 : (cur.toList.take (l.length * 1))[i]? = (wcs l)[i]? := by rw [ht]
    rw [List.getElem?_take, if_pos (by omega)] at h1
    rw [← Array.getElem?_toList, h1]
    simp [wcs, hi, gd_eq l i hi]
theorem ints_is {w : World} {v : Value} {l : List Nat} {k : Nat} {n b : Bool} (hk : k ≤ l.length) (hk12 : k ≤ 12) (hc : trimW (l.take k) = l.take k) (hw : Wd l) (hs : Sl w v (l.take k)) (hb : b = (n && decide (0 < k))) :
    ∃ z, Fits z 12 ∧ IsI w (.agg #[.bool b, v]) z := by
  have hd : digs (val (l.take k)) = l.take k := by rw [← trimW_eq (Wd_take hw k), hc]
  refine ⟨sgnI b (val (l.take k)), ?_, ?_⟩
  · unfold Fits; rw [sgnI_abs, hd, List.length_take]; omega
  · refine ⟨v, ?_, by rw [sgnI_abs, hd]; exact hs⟩
    by_cases h0 : val (l.take k) = 0
    · have h1 : l.take k = [] := by rw [← hd, h0, digs_zero]
      have h2 : k = 0 := by
        have := congrArg List.length h1
        rw [List.length_take, List.length_nil] at this; omega
      subst h2
      subst hb
      rw [h0]; cases n <;> rfl
    · rw [sgnI_lt _ _ h0]
theorem trim_canon {l : List Nat} {M k : Nat} (h : trimW (l.take k) = trimW (l.take M)) (h0 : k = 0) : trimW (l.take k) = l.take k := by subst h0; rfl
theorem trim_at {l : List Nat} {j : Nat} (hj : j < l.length) (h : gd l j ≠ 0) : trimW (l.take (j + 1)) = l.take (j + 1) := by
  rw [List.take_succ_eq_append_getElem hj]
  exact trimW_last _ _ (by rw [← gd_eq l j hj]; exact h)
set_option maxRecDepth 100000 in
set_option maxHeartbeats 8000000 in
theorem Ints_tn   (w : World)   :
    Calls Try.prog 16 #[.agg #[.bool true, .slice none 0 0]] w (RetIs w) := by
 have E := Env.start w
 go_enter Try.func16, Try.ntmps16
 refine wp_seq ?_
 -- region 0
 refine RL ?_
 refine EF rfl (Oper.wp_box (cs := [.bool true, .slice none 0 0]) rfl rfl ?_)
 intro b1 w1 e1 z1 d1 x1
 have l1 : w.heap.size ≤ b1 := by rw [e1]; exact (E.1).size
 replace E := E.below d1
 clear e1 z1 d1
 replace E := E.x x1
 clear x1
 refine kw rfl ?_
 simp only [q2,q3]
 refine EF rfl (Oper.wp_alloc AgI rfl ?_)
 intro b2 w2 e2 z2 d2 x2
 have l2_0 : b1 < b2 := by rw [e2]; exact Bx.lt (E.1)
 replace E := E.below d2
 clear e2 z2 d2
 refine kw rfl ?_
 simp only [q2,q3]
 refine WN ?_
 change Code.wp _ _ _ _ _
 refine wp_seq ?_
 -- region 1
 refine RL ?_
 refine V rfl rfl (run_fieldI1 rfl rfl) <| V rfl rfl (run_cell rfl isAgg_words rfl (E.1) rfl) <| V (v := .int .i64 ((0 : Nat) : Int)) rfl rfl (run_len rfl rfl) <| V (v := .int .i64 ((0 : Nat) : Int)) rfl rfl (run_minI rfl rfl rfl rfl) <| ?_
 simp only [q2,q3]
 refine A rfl rfl rfl rfl rfl <| ?_
 simp only [q2,q3]
 refine WN ?_
 change Code.wp _ _ _ _ _
 refine wp_seq ?_
 refine wp_block ?_
 replace E := E.b x2
 clear x2
 refine wp_loop_ghost (fun mz a w' => ∃ (k : Nat) (g8 g9 g10 g11 g12 g13 g14 g15 g16 g17 g18 g19 g20 : Value), a = ⟨#[.agg #[.bool true, .slice none 0 0], .pointer (some ⟨b1, 0, none⟩), .pointer (some ⟨b2, 0, none⟩), .int .i64 ((0 : Nat) : Int), .pointer (some ⟨b1, 1, none⟩), .slice none 0 0, .int .i64 ((0 : Nat) : Int), .int .i64 ((0 : Nat) : Int), g8, g9, g10, g11, g12, g13, g14, g15, g16, g17, g18, g19, g20, undef, undef, undef, undef, undef, undef, undef, undef, undef, undef, undef, undef, undef], []⟩ ∧ Env w' [fB b2 false (.slice none 0 0), fX b1 (24) ([.bool true, .slice none 0 0]), fW w] ∧ mz = k ∧ k = 0) (0) ⟨0, _, _, _, _, _, _, _, _, _, _, _, _, _, rfl, (Env.b (Env.x (Env.ww (Env.nil _) (E.2.2.1)) (E.2.1)) (E.1)), rfl, rfl⟩ ?_
 rintro m3 _ w3 ⟨k, g8, g9, g10, g11, g12, g13, g14, g15, g16, g17, g18, g19, g20, rfl, E, hm3, hI3⟩
 refine wp_seq ?_
 refine wp_seq ?_
 -- region 2
 refine RL ?_
 refine M rfl rfl rfl rfl rfl <| V rfl rfl (run_gtI (c := false) rfl rfl rfl (rfl)) <| M rfl rfl rfl rfl rfl <| L0C (by kernel_rfl) rfl <| ?_
 simp only [q2,q3]
 refine L0C (by kernel_rfl) rfl <| L0C (by kernel_rfl) rfl <| L0C (by kernel_rfl) rfl <| L0C (by kernel_rfl) rfl <| ?_
 simp only [q2,q3]
 refine L0C (by kernel_rfl) rfl <| L0C (by kernel_rfl) rfl <| V (v := .bool false) rfl rfl (run_pick (b := false) rfl rfl rfl) <| ?_
 simp only [q2,q3]
 refine WN ?_
 change Code.wp _ _ _ _ _
 refine wp_cond_false rfl ?_
 refine wp_exit ?_
 change Code.wp _ _ _ _ _
 refine wp_seq ?_
 replace E := (Env.b (Env.x (Env.ww (Env.nil _) (E.2.2.1)) (E.2.1)) (E.1))
 -- region 4
 have x4 := E.1
 replace E := E.2
 refine wp_schedE E ([0, 1, 2, 3, 4, 5, 7, 8, 9, 10, 6, 11, 12, 13]) (by kernel_rfl) (by kernel_rfl) (by kernel_rfl) (by kernel_rfl) (by intro d v c a w h; cases d <;> exact h) ?_
 replace E := E.drew
 replace x4 := Bx.drew x4
 refine SW rfl rfl rfl rfl rfl (fun w hS => run_fieldI0 rfl rfl) <| SW rfl rfl rfl rfl rfl (fun w hS => run_cell rfl isAgg_bool rfl (hS.1) rfl) <| SM rfl rfl rfl rfl rfl rfl rfl rfl <| SM rfl rfl rfl (by kernel_rfl) rfl rfl rfl rfl <| ?_
 simp only [q2,q3]
 refine SW rfl rfl rfl (by kernel_rfl) rfl (fun w hS => run_gtI (c := false) rfl rfl rfl (rfl)) <| SW (v := .bool false) rfl rfl rfl rfl rfl (fun w hS => run_pick (b := true) rfl rfl rfl) <| SW rfl rfl rfl rfl rfl (fun w hS => run_fieldI1 rfl rfl) <| SW rfl rfl rfl rfl rfl (fun w hS => run_cell rfl isAgg_words rfl (hS.1) rfl) <| ?_
 simp only [q2,q3]
 refine SM rfl rfl rfl rfl rfl rfl rfl rfl <| SW (v := .slice none 0 0) rfl rfl rfl rfl rfl (fun w hS => run_sliceWh (k := 0) rfl rfl rfl rfl (by omega)) <| ?_
 simp only [q2,q3]
 refine S1a (o := ⟨some 27, _, _, _, _, _⟩) rfl rfl rfl rfl (Oper.wp_lit0 rfl ?_)
 intro b5 w5 e5 z5 d5 x5
 replace E := E.below d5
 have lz5 := Bx.lt x4
 replace x4 := x4.below d5
 clear d5
 refine ⟨E, ?_⟩
 simp only [Act.put,q1,q2,q3]
 refine S1a (o := ⟨some 32, _, _, _, _, _⟩) rfl rfl rfl rfl (Oper.wp_of_val (run_append_nil rfl rfl rfl) ?_)
 refine ⟨E, ?_⟩
 have hS6 := Sl_empty w5 b5
 simp only [Act.put,q1,q2,q3]
 obtain ⟨z, Fz, hz7⟩ := ints_is (l := []) (k := 0) (n := true) (b := false) (by simp) (by omega) rfl Wd_nil hS6 (by first | rfl | (simp; omega))
 replace E := E.i hz7
 refine SW (v := .agg #[.bool false, .slice (some ⟨b5, 0, none⟩) 0 0]) rfl rfl rfl rfl rfl (fun w hS => run_buildI2 rfl rfl rfl rfl) <| ?_
 simp only [q2,q3]
 refine S1a (o := ⟨none, _, _, _, _, _⟩) rfl rfl rfl rfl (Oper.wp_store AgI rfl rfl rfl x4 rfl rfl (IsI.one (E.1)) ?_)
 intro w8 o8 y8
 replace E := (E.onl (x4.noW now0) ⟨trivial, okX (by omega), okW (by omega), trivial⟩ o8).b y8
 clear x4 o8 y8
 refine ⟨E.2.2, ?_⟩
 simp only [Act.put]
 refine SN ?_
 change Code.wp _ _ _ _ _
 refine wp_ret ?_
 have r9 := res_box AgI (E.1) rfl
 exact bodyPost_ret (v := .agg #[.bool false, .slice (some ⟨b5, 0, none⟩) 0 0]) (by simp [results, Try.results16, asAddr, r9]) rfl ⟨z, Fz, _, rfl, E.2.1, e3 E⟩
set_option maxRecDepth 100000 in
set_option maxHeartbeats 8000000 in
theorem Ints_ts (l : List Nat) (ad : Addr) (cap : Nat)  (w : World)  (hsl : Sl w (.slice (some ad) l.length cap) l) :
    Calls Try.prog 16 #[.agg #[.bool true, (.slice (some ad) l.length cap)]] w (RetIs w) := by
 have E := Env.start w
 replace E := E.s hsl
 have hcap : l.length ≤ cap := by obtain ⟨_, _, e, h, _⟩ := hsl; simp only [Value.slice.injEq] at e; obtain ⟨_, _, rfl⟩ := e; exact h
 have hml : min l.length 12 ≤ 12 := Nat.min_le_right _ _
 have hml2 : min l.length 12 ≤ l.length := Nat.min_le_left _ _
 go_enter Try.func16, Try.ntmps16
 refine wp_seq ?_
 -- region 0
 refine RL ?_
 refine EF rfl (Oper.wp_box (cs := [.bool true, (.slice (some ad) l.length cap)]) rfl rfl ?_)
 intro b1 w1 e1 z1 d1 x1
 have l1 : w.heap.size ≤ b1 := by rw [e1]; exact (E.2.1).size
 replace E := E.below d1
 clear e1 z1 d1
 replace E := E.x x1
 clear x1
 refine kw rfl ?_
 simp only [q2,q3]
 refine EF rfl (Oper.wp_alloc AgI rfl ?_)
 intro b2 w2 e2 z2 d2 x2
 have l2_0 : b1 < b2 := by rw [e2]; exact Bx.lt (E.1)
 replace E := E.below d2
 clear e2 z2 d2
 refine kw rfl ?_
 simp only [q2,q3]
 refine WN ?_
 change Code.wp _ _ _ _ _
 refine wp_seq ?_
 -- region 1
 refine RL ?_
 refine V rfl rfl (run_fieldI1 rfl rfl) <| V rfl rfl (run_cell rfl isAgg_words rfl (E.1) rfl) <| V (v := .int .i64 ((l.length : Nat) : Int)) rfl rfl (run_len rfl rfl) <| V (v := .int .i64 ((min l.length 12 : Nat) : Int)) rfl rfl (run_minI rfl rfl rfl (by split <;> omega)) <| ?_
 simp only [q2,q3]
 refine A rfl rfl rfl rfl rfl <| ?_
 simp only [q2,q3]
 refine WN ?_
 change Code.wp _ _ _ _ _
 refine wp_seq ?_
 refine wp_block ?_
 replace E := E.b x2
 clear x2
 refine wp_loop_ghost (fun mz a w' => ∃ (k : Nat) (g8 g9 g10 g11 g12 g13 g14 g15 g16 g17 g18 g19 g20 : Value), a = ⟨#[.agg #[.bool true, (.slice (some ad) l.length cap)], .pointer (some ⟨b1, 0, none⟩), .pointer (some ⟨b2, 0, none⟩), .int .i64 ((k : Nat) : Int), .pointer (some ⟨b1, 1, none⟩), (.slice (some ad) l.length cap), .int .i64 ((l.length : Nat) : Int), .int .i64 ((min l.length 12 : Nat) : Int), g8, g9, g10, g11, g12, g13, g14, g15, g16, g17, g18, g19, g20, undef, undef, undef, undef, undef, undef, undef, undef, undef, undef, undef, undef, undef], []⟩ ∧ Env w' [fB b2 false (.slice none 0 0), fX b1 (24) ([.bool true, (.slice (some ad) l.length cap)]), fS (.slice (some ad) l.length cap) l, fW w] ∧ mz = k ∧ (k ≤ min l.length 12 ∧ trimW (l.take k) = trimW (l.take (min l.length 12)))) (min l.length 12) ⟨(min l.length 12), _, _, _, _, _, _, _, _, _, _, _, _, _, rfl, (Env.b (Env.x (Env.s (Env.ww (Env.nil _) (e3 E)) (E.2.2.1)) (E.2.1)) (E.1)), rfl, ⟨Nat.le_refl _, rfl⟩⟩ ?_
 rintro m3 _ w3 ⟨k, g8, g9, g10, g11, g12, g13, g14, g15, g16, g17, g18, g19, g20, rfl, E, hm3, hI3⟩
 obtain ⟨hI1, hI2⟩ := hI3
 by_cases hk0 : k = 0
 case pos =>
  have hC := trim_canon hI2 hk0
  refine wp_seq ?_
  refine wp_seq ?_
  -- region 2
  refine RL ?_
  refine M rfl rfl rfl rfl rfl <| V rfl rfl (run_gtI (c := false) rfl rfl rfl (by rw [decide_eq_false_iff_not]; omega)) <| M rfl rfl rfl rfl rfl <| L0C (by kernel_rfl) rfl <| ?_
  simp only [q2,q3]
  refine L0C (by kernel_rfl) rfl <| L0C (by kernel_rfl) rfl <| L0C (by kernel_rfl) rfl <| L0C (by kernel_rfl) rfl <| ?_
  simp only [q2,q3]
  refine L0C (by kernel_rfl) rfl <| L0C (by kernel_rfl) rfl <| V (v := .bool false) rfl rfl (run_pick (b := false) rfl rfl rfl) <| ?_
  simp only [q2,q3]
  refine WN ?_
  change Code.wp _ _ _ _ _
  refine wp_cond_false rfl ?_
  refine wp_exit ?_
  change Code.wp _ _ _ _ _
  refine wp_seq ?_
  replace E := (Env.b (Env.x (Env.ww (Env.nil _) (e3 E)) (E.2.1)) (E.1))
  -- region 4
  have x4 := E.1
  replace E := E.2
  refine wp_schedE E ([0, 1, 2, 3, 4, 5, 7, 8, 9, 10, 6, 11, 12, 13]) (by kernel_rfl) (by kernel_rfl) (by kernel_rfl) (by kernel_rfl) (by intro d v c a w h; cases d <;> exact h) ?_
  replace E := E.drew
  replace x4 := Bx.drew x4
  refine SW rfl rfl rfl rfl rfl (fun w hS => run_fieldI0 rfl rfl) <| SW rfl rfl rfl rfl rfl (fun w hS => run_cell rfl isAgg_bool rfl (hS.1) rfl) <| SM rfl rfl rfl rfl rfl rfl rfl rfl <| SM rfl rfl rfl (by kernel_rfl) rfl rfl rfl rfl <| ?_
  simp only [q2,q3]
  refine SW rfl rfl rfl (by kernel_rfl) rfl (fun w hS => run_gtI (c := false) rfl rfl rfl (by rw [decide_eq_false_iff_not]; omega)) <| SW (v := .bool false) rfl rfl rfl rfl rfl (fun w hS => run_pick (b := true) rfl rfl rfl) <| SW rfl rfl rfl rfl rfl (fun w hS => run_fieldI1 rfl rfl) <| SW rfl rfl rfl rfl rfl (fun w hS => run_cell rfl isAgg_words rfl (hS.1) rfl) <| ?_
  simp only [q2,q3]
  refine SM rfl rfl rfl rfl rfl rfl rfl rfl <| SW (v := .slice (some ad) k cap) rfl rfl rfl rfl rfl (fun w hS => run_sliceWh (k := k) rfl rfl rfl rfl (by omega)) <| ?_
  simp only [q2,q3]
  refine S1a (o := ⟨some 27, _, _, _, _, _⟩) rfl rfl rfl rfl (Oper.wp_lit0 rfl ?_)
  intro b5 w5 e5 z5 d5 x5
  replace E := E.below d5
  have lz5 := Bx.lt x4
  replace x4 := x4.below d5
  clear d5
  refine ⟨E, ?_⟩
  simp only [Act.put,q1,q2,q3]
  have hn6 := Sl_news (hsl.below (E.2.1)) k
  refine S1a (o := ⟨some 32, _, _, _, _, _⟩) rfl rfl rfl rfl (Oper.wp_appendW _ _ rfl (b2 + 1) (l := [fB b2 false (.slice none 0 0), fX b1 (24) ([.bool true, (.slice (some ad) l.length cap)]), fW w]) _ 0 [] rfl (x5 (b2 + 1) (by omega)) (E.b x4) ⟨plB, plX, plW, trivial⟩ (fun g hg hb => ⟨okB (by omega), okX (by omega), okW (by omega), trivial⟩) ad k cap (wcs (l.take k)) rfl (wcs_len l k (by omega)) hn6 (wcs_one _) (by unfold maxLen; omega) (by omega) (by omega) ?_)
  clear E x4
  intro v6 w6 hR6 E
  replace hR6 := RowG_sl (l := l.take k) (by rwa [List.nil_append] at hR6) (by rw [List.length_take]; omega) (Wd_take hsl.wd k)
  have hS6 := hR6
  obtain ⟨av6, cv6, hv6⟩ := Sl.shp hR6
  have x4 := e0 E
  replace E := E.2
  refine ⟨E, ?_⟩
  simp only [Act.put,q1,q2,q3]
  obtain ⟨z, Fz, hz7⟩ := ints_is (l := l) (k := k) (n := true) (b := false) (by omega) (by omega) hC hsl.wd hS6 (by first | rfl | (simp; omega))
  replace E := E.i hz7
  refine SW (v := .agg #[.bool false, v6]) rfl rfl rfl rfl rfl (fun w hS => run_buildI2 rfl rfl rfl hv6) <| ?_
  simp only [q2,q3]
  refine S1a (o := ⟨none, _, _, _, _, _⟩) rfl rfl rfl rfl (Oper.wp_store AgI rfl rfl rfl x4 rfl rfl (IsI.one (E.1)) ?_)
  intro w8 o8 y8
  replace E := (E.onl (x4.noW now0) ⟨trivial, okX (by omega), okW (by omega), trivial⟩ o8).b y8
  clear x4 o8 y8
  refine ⟨E.2.2, ?_⟩
  simp only [Act.put]
  refine SN ?_
  change Code.wp _ _ _ _ _
  refine wp_ret ?_
  have r9 := res_box AgI (E.1) rfl
  exact bodyPost_ret (v := .agg #[.bool false, v6]) (by simp [results, Try.results16, asAddr, r9]) rfl ⟨z, Fz, _, rfl, E.2.1, e3 E⟩
 case neg =>
  obtain ⟨j, hj⟩ : ∃ j, k = j + 1 := ⟨k - 1, by omega⟩
  have hsl1 := E.2.2.1
  obtain ⟨_, _, hse, _, _, _, _, hcell⟩ := hsl1
  simp only [Value.slice.injEq] at hse
  obtain ⟨rfl, _, rfl⟩ := hse
  obtain ⟨bb, off, hao, hcj⟩ := hcell j (by omega)
  obtain rfl := Option.some.inj hao
  have hcj1 : w3.cell? ⟨bb, off + j * 1, none⟩ = some (.int .u32 ((gd l j : Nat) : Int)) := by rw [Nat.mul_one]; exact hcj
  by_cases hg : gd l j = 0
  case pos =>
   have hst := trim_step l j (by omega) hg
   rw [hj, hst] at hI2
   refine wp_seq ?_
   refine wp_seq ?_
   -- region 2
   refine RL ?_
   refine M rfl rfl rfl rfl rfl <| V rfl rfl (run_gtI (c := true) rfl rfl rfl (by rw [decide_eq_true_eq]; omega)) <| M rfl rfl rfl rfl rfl <| V (by kernel_rfl) rfl (run_fieldI1 rfl rfl) <| ?_
   simp only [q2,q3]
   refine V (by kernel_rfl) rfl (run_cell rfl isAgg_words rfl (E.2.1) rfl) <| M (by kernel_rfl) rfl rfl rfl rfl <| V (v := .int .i64 ((j : Nat) : Int)) (by kernel_rfl) rfl (run_subI rfl rfl rfl (wrap_nat (by omega) (by omega))) <| V (v := .pointer (some ⟨bb, off + j * 1, none⟩)) (by kernel_rfl) rfl (run_idx (j := j) rfl Try.underlying22 (by kernel_rfl) rfl rfl rfl (by omega)) <| ?_
   simp only [q2,q3]
   refine V (by kernel_rfl) rfl (run_loadC rfl isAgg_u32 rfl hcj1) <| V (by kernel_rfl) rfl (run_eqI (c := true) rfl rfl rfl (by rw [hg]; rfl)) <| V (v := .bool true) rfl rfl (run_pick (b := true) rfl rfl rfl) <| ?_
   simp only [q2,q3]
   refine WN ?_
   change Code.wp _ _ _ _ _
   refine wp_cond_true rfl ?_
   refine wp_skip ?_
   change Code.wp _ _ _ _ _
   refine wp_block ?_
   -- region 3
   refine RL ?_
   refine M rfl rfl rfl rfl rfl <| V (v := .int .i64 ((j : Nat) : Int)) rfl rfl (run_subI rfl rfl rfl (wrap_nat (by omega) (by omega))) <| A rfl rfl rfl rfl rfl <| ?_
   simp only [q2,q3]
   refine WN ?_
   exact ⟨_, (by rw [hm3]; omega), j, _, _, _, _, _, _, _, _, _, _, _, _, _, rfl, (Env.b (Env.x (Env.s (Env.ww (Env.nil _) (e3 E)) (E.2.2.1)) (E.2.1)) (E.1)), rfl, ⟨by omega, hI2⟩⟩
  case neg =>
   have hC := trim_at (l := l) (j := j) (by omega) hg
   rw [← hj] at hC
   refine wp_seq ?_
   refine wp_seq ?_
   -- region 2
   refine RL ?_
   refine M rfl rfl rfl rfl rfl <| V rfl rfl (run_gtI (c := true) rfl rfl rfl (by rw [decide_eq_true_eq]; omega)) <| M rfl rfl rfl rfl rfl <| V (by kernel_rfl) rfl (run_fieldI1 rfl rfl) <| ?_
   simp only [q2,q3]
   refine V (by kernel_rfl) rfl (run_cell rfl isAgg_words rfl (E.2.1) rfl) <| M (by kernel_rfl) rfl rfl rfl rfl <| V (v := .int .i64 ((j : Nat) : Int)) (by kernel_rfl) rfl (run_subI rfl rfl rfl (wrap_nat (by omega) (by omega))) <| V (v := .pointer (some ⟨bb, off + j * 1, none⟩)) (by kernel_rfl) rfl (run_idx (j := j) rfl Try.underlying22 (by kernel_rfl) rfl rfl rfl (by omega)) <| ?_
   simp only [q2,q3]
   refine V (by kernel_rfl) rfl (run_loadC rfl isAgg_u32 rfl hcj1) <| V (by kernel_rfl) rfl (run_eqI (c := false) rfl rfl rfl (by rw [beq_eq_false_iff_ne]; omega)) <| V (v := .bool false) rfl rfl (run_pick (b := true) rfl rfl rfl) <| ?_
   simp only [q2,q3]
   refine WN ?_
   change Code.wp _ _ _ _ _
   refine wp_cond_false rfl ?_
   refine wp_exit ?_
   change Code.wp _ _ _ _ _
   refine wp_seq ?_
   replace E := (Env.b (Env.x (Env.ww (Env.nil _) (e3 E)) (E.2.1)) (E.1))
   -- region 4
   have x10 := E.1
   replace E := E.2
   refine wp_schedE E ([0, 1, 2, 3, 4, 5, 7, 8, 9, 10, 6, 11, 12, 13]) (by kernel_rfl) (by kernel_rfl) (by kernel_rfl) (by kernel_rfl) (by intro d v c a w h; cases d <;> exact h) ?_
   replace E := E.drew
   replace x10 := Bx.drew x10
   refine SW rfl rfl rfl rfl rfl (fun w hS => run_fieldI0 rfl rfl) <| SW rfl rfl rfl rfl rfl (fun w hS => run_cell rfl isAgg_bool rfl (hS.1) rfl) <| SM rfl rfl rfl rfl rfl rfl rfl rfl <| SM rfl rfl rfl (by kernel_rfl) rfl rfl rfl rfl <| ?_
   simp only [q2,q3]
   refine SW rfl rfl rfl (by kernel_rfl) rfl (fun w hS => run_gtI (c := true) rfl rfl rfl (by rw [decide_eq_true_eq]; omega)) <| SW (v := .bool true) rfl rfl rfl rfl rfl (fun w hS => run_pick (b := true) rfl rfl rfl) <| SW rfl rfl rfl rfl rfl (fun w hS => run_fieldI1 rfl rfl) <| SW rfl rfl rfl rfl rfl (fun w hS => run_cell rfl isAgg_words rfl (hS.1) rfl) <| ?_
   simp only [q2,q3]
   refine SM rfl rfl rfl rfl rfl rfl rfl rfl <| SW (v := .slice (some ⟨bb, off, none⟩) k cap) rfl rfl rfl rfl rfl (fun w hS => run_sliceWh (k := k) rfl rfl rfl rfl (by omega)) <| ?_
   simp only [q2,q3]
   refine S1a (o := ⟨some 27, _, _, _, _, _⟩) rfl rfl rfl rfl (Oper.wp_lit0 rfl ?_)
   intro b11 w11 e11 z11 d11 x11
   replace E := E.below d11
   have lz11 := Bx.lt x10
   replace x10 := x10.below d11
   clear d11
   refine ⟨E, ?_⟩
   simp only [Act.put,q1,q2,q3]
   have hn12 := Sl_news (hsl.below (E.2.1)) k
   refine S1a (o := ⟨some 32, _, _, _, _, _⟩) rfl rfl rfl rfl (Oper.wp_appendW _ _ rfl (b2 + 1) (l := [fB b2 false (.slice none 0 0), fX b1 (24) ([.bool true, (.slice (some ⟨bb, off, none⟩) l.length cap)]), fW w]) _ 0 [] rfl (x11 (b2 + 1) (by omega)) (E.b x10) ⟨plB, plX, plW, trivial⟩ (fun g hg hb => ⟨okB (by omega), okX (by omega), okW (by omega), trivial⟩) ⟨bb, off, none⟩ k cap (wcs (l.take k)) rfl (wcs_len l k (by omega)) hn12 (wcs_one _) (by unfold maxLen; omega) (by omega) (by omega) ?_)
   clear E x10
   intro v12 w12 hR12 E
   replace hR12 := RowG_sl (l := l.take k) (by rwa [List.nil_append] at hR12) (by rw [List.length_take]; omega) (Wd_take hsl.wd k)
   have hS12 := hR12
   obtain ⟨av12, cv12, hv12⟩ := Sl.shp hR12
   have x10 := e0 E
   replace E := E.2
   refine ⟨E, ?_⟩
   simp only [Act.put,q1,q2,q3]
   obtain ⟨z, Fz, hz13⟩ := ints_is (l := l) (k := k) (n := true) (b := true) (by omega) (by omega) hC hsl.wd hS12 (by first | rfl | (simp; omega))
   replace E := E.i hz13
   refine SW (v := .agg #[.bool true, v12]) rfl rfl rfl rfl rfl (fun w hS => run_buildI2 rfl rfl rfl hv12) <| ?_
   simp only [q2,q3]
   refine S1a (o := ⟨none, _, _, _, _, _⟩) rfl rfl rfl rfl (Oper.wp_store AgI rfl rfl rfl x10 rfl rfl (IsI.one (E.1)) ?_)
   intro w14 o14 y14
   replace E := (E.onl (x10.noW now0) ⟨trivial, okX (by omega), okW (by omega), trivial⟩ o14).b y14
   clear x10 o14 y14
   refine ⟨E.2.2, ?_⟩
   simp only [Act.put]
   refine SN ?_
   change Code.wp _ _ _ _ _
   refine wp_ret ?_
   have r15 := res_box AgI (E.1) rfl
   exact bodyPost_ret (v := .agg #[.bool true, v12]) (by simp [results, Try.results16, asAddr, r15]) rfl ⟨z, Fz, _, rfl, E.2.1, e3 E⟩
set_option maxRecDepth 100000 in
set_option maxHeartbeats 8000000 in
theorem Ints_fn   (w : World)   :
    Calls Try.prog 16 #[.agg #[.bool false, .slice none 0 0]] w (RetIs w) := by
 have E := Env.start w
 go_enter Try.func16, Try.ntmps16
 refine wp_seq ?_
 -- region 0
 refine RL ?_
 refine EF rfl (Oper.wp_box (cs := [.bool false, .slice none 0 0]) rfl rfl ?_)
 intro b1 w1 e1 z1 d1 x1
 have l1 : w.heap.size ≤ b1 := by rw [e1]; exact (E.1).size
 replace E := E.below d1
 clear e1 z1 d1
 replace E := E.x x1
 clear x1
 refine kw rfl ?_
 simp only [q2,q3]
 refine EF rfl (Oper.wp_alloc AgI rfl ?_)
 intro b2 w2 e2 z2 d2 x2
 have l2_0 : b1 < b2 := by rw [e2]; exact Bx.lt (E.1)
 replace E := E.below d2
 clear e2 z2 d2
 refine kw rfl ?_
 simp only [q2,q3]
 refine WN ?_
 change Code.wp _ _ _ _ _
 refine wp_seq ?_
 -- region 1
 refine RL ?_
 refine V rfl rfl (run_fieldI1 rfl rfl) <| V rfl rfl (run_cell rfl isAgg_words rfl (E.1) rfl) <| V (v := .int .i64 ((0 : Nat) : Int)) rfl rfl (run_len rfl rfl) <| V (v := .int .i64 ((0 : Nat) : Int)) rfl rfl (run_minI rfl rfl rfl rfl) <| ?_
 simp only [q2,q3]
 refine A rfl rfl rfl rfl rfl <| ?_
 simp only [q2,q3]
 refine WN ?_
 change Code.wp _ _ _ _ _
 refine wp_seq ?_
 refine wp_block ?_
 replace E := E.b x2
 clear x2
 refine wp_loop_ghost (fun mz a w' => ∃ (k : Nat) (g8 g9 g10 g11 g12 g13 g14 g15 g16 g17 g18 g19 g20 : Value), a = ⟨#[.agg #[.bool false, .slice none 0 0], .pointer (some ⟨b1, 0, none⟩), .pointer (some ⟨b2, 0, none⟩), .int .i64 ((0 : Nat) : Int), .pointer (some ⟨b1, 1, none⟩), .slice none 0 0, .int .i64 ((0 : Nat) : Int), .int .i64 ((0 : Nat) : Int), g8, g9, g10, g11, g12, g13, g14, g15, g16, g17, g18, g19, g20, undef, undef, undef, undef, undef, undef, undef, undef, undef, undef, undef, undef, undef], []⟩ ∧ Env w' [fB b2 false (.slice none 0 0), fX b1 (24) ([.bool false, .slice none 0 0]), fW w] ∧ mz = k ∧ k = 0) (0) ⟨0, _, _, _, _, _, _, _, _, _, _, _, _, _, rfl, (Env.b (Env.x (Env.ww (Env.nil _) (E.2.2.1)) (E.2.1)) (E.1)), rfl, rfl⟩ ?_
 rintro m3 _ w3 ⟨k, g8, g9, g10, g11, g12, g13, g14, g15, g16, g17, g18, g19, g20, rfl, E, hm3, hI3⟩
 refine wp_seq ?_
 refine wp_seq ?_
 -- region 2
 refine RL ?_
 refine M rfl rfl rfl rfl rfl <| V rfl rfl (run_gtI (c := false) rfl rfl rfl (rfl)) <| M rfl rfl rfl rfl rfl <| L0C (by kernel_rfl) rfl <| ?_
 simp only [q2,q3]
 refine L0C (by kernel_rfl) rfl <| L0C (by kernel_rfl) rfl <| L0C (by kernel_rfl) rfl <| L0C (by kernel_rfl) rfl <| ?_
 simp only [q2,q3]
 refine L0C (by kernel_rfl) rfl <| L0C (by kernel_rfl) rfl <| V (v := .bool false) rfl rfl (run_pick (b := false) rfl rfl rfl) <| ?_
 simp only [q2,q3]
 refine WN ?_
 change Code.wp _ _ _ _ _
 refine wp_cond_false rfl ?_
 refine wp_exit ?_
 change Code.wp _ _ _ _ _
 refine wp_seq ?_
 replace E := (Env.b (Env.x (Env.ww (Env.nil _) (E.2.2.1)) (E.2.1)) (E.1))
 -- region 4
 have x4 := E.1
 replace E := E.2
 refine wp_schedE E ([0, 1, 2, 3, 4, 5, 7, 8, 9, 10, 6, 11, 12, 13]) (by kernel_rfl) (by kernel_rfl) (by kernel_rfl) (by kernel_rfl) (by intro d v c a w h; cases d <;> exact h) ?_
 replace E := E.drew
 replace x4 := Bx.drew x4
 refine SW rfl rfl rfl rfl rfl (fun w hS => run_fieldI0 rfl rfl) <| SW rfl rfl rfl rfl rfl (fun w hS => run_cell rfl isAgg_bool rfl (hS.1) rfl) <| SM rfl rfl rfl rfl rfl rfl rfl rfl <| ?_
 refine S0 (o := ⟨some 24, _, _, _, _, _⟩) rfl rfl (E) ?_
 simp only [Act.put,q1,q2,q3]
 refine S0 (o := ⟨some 25, _, _, _, _, _⟩) rfl rfl (E) ?_
 simp only [Act.put,q1,q2,q3]
 refine SW (v := .bool false) rfl rfl rfl rfl rfl (fun w hS => run_pick (b := false) rfl rfl rfl) <| ?_
 simp only [q2,q3]
 refine SW rfl rfl rfl rfl rfl (fun w hS => run_fieldI1 rfl rfl) <| SW rfl rfl rfl rfl rfl (fun w hS => run_cell rfl isAgg_words rfl (hS.1) rfl) <| SM rfl rfl rfl rfl rfl rfl rfl rfl <| SW (v := .slice none 0 0) rfl rfl rfl rfl rfl (fun w hS => run_sliceWh (k := 0) rfl rfl rfl rfl (by omega)) <| ?_
 simp only [q2,q3]
 refine S1a (o := ⟨some 27, _, _, _, _, _⟩) rfl rfl rfl rfl (Oper.wp_lit0 rfl ?_)
 intro b5 w5 e5 z5 d5 x5
 replace E := E.below d5
 have lz5 := Bx.lt x4
 replace x4 := x4.below d5
 clear d5
 refine ⟨E, ?_⟩
 simp only [Act.put,q1,q2,q3]
 refine S1a (o := ⟨some 32, _, _, _, _, _⟩) rfl rfl rfl rfl (Oper.wp_of_val (run_append_nil rfl rfl rfl) ?_)
 refine ⟨E, ?_⟩
 have hS6 := Sl_empty w5 b5
 simp only [Act.put,q1,q2,q3]
 obtain ⟨z, Fz, hz7⟩ := ints_is (l := []) (k := 0) (n := false) (b := false) (by simp) (by omega) rfl Wd_nil hS6 (by first | rfl | (simp; omega))
 replace E := E.i hz7
 refine SW (v := .agg #[.bool false, .slice (some ⟨b5, 0, none⟩) 0 0]) rfl rfl rfl rfl rfl (fun w hS => run_buildI2 rfl rfl rfl rfl) <| ?_
 simp only [q2,q3]
 refine S1a (o := ⟨none, _, _, _, _, _⟩) rfl rfl rfl rfl (Oper.wp_store AgI rfl rfl rfl x4 rfl rfl (IsI.one (E.1)) ?_)
 intro w8 o8 y8
 replace E := (E.onl (x4.noW now0) ⟨trivial, okX (by omega), okW (by omega), trivial⟩ o8).b y8
 clear x4 o8 y8
 refine ⟨E.2.2, ?_⟩
 simp only [Act.put]
 refine SN ?_
 change Code.wp _ _ _ _ _
 refine wp_ret ?_
 have r9 := res_box AgI (E.1) rfl
 exact bodyPost_ret (v := .agg #[.bool false, .slice (some ⟨b5, 0, none⟩) 0 0]) (by simp [results, Try.results16, asAddr, r9]) rfl ⟨z, Fz, _, rfl, E.2.1, e3 E⟩
set_option maxRecDepth 100000 in
set_option maxHeartbeats 8000000 in
theorem Ints_fs (l : List Nat) (ad : Addr) (cap : Nat)  (w : World)  (hsl : Sl w (.slice (some ad) l.length cap) l) :
    Calls Try.prog 16 #[.agg #[.bool false, (.slice (some ad) l.length cap)]] w (RetIs w) := by
 have E := Env.start w
 replace E := E.s hsl
 have hcap : l.length ≤ cap := by obtain ⟨_, _, e, h, _⟩ := hsl; simp only [Value.slice.injEq] at e; obtain ⟨_, _, rfl⟩ := e; exact h
 have hml : min l.length 12 ≤ 12 := Nat.min_le_right _ _
 have hml2 : min l.length 12 ≤ l.length := Nat.min_le_left _ _
 go_enter Try.func16, Try.ntmps16
 refine wp_seq ?_
 -- region 0
 refine RL ?_
 refine EF rfl (Oper.wp_box (cs := [.bool false, (.slice (some ad) l.length cap)]) rfl rfl ?_)
 intro b1 w1 e1 z1 d1 x1
 have l1 : w.heap.size ≤ b1 := by rw [e1]; exact (E.2.1).size
 replace E := E.below d1
 clear e1 z1 d1
 replace E := E.x x1
 clear x1
 refine kw rfl ?_
 simp only [q2,q3]
 refine EF rfl (Oper.wp_alloc AgI rfl ?_)
 intro b2 w2 e2 z2 d2 x2
 have l2_0 : b1 < b2 := by rw [e2]; exact Bx.lt (E.1)
 replace E := E.below d2
 clear e2 z2 d2
 refine kw rfl ?_
 simp only [q2,q3]
 refine WN ?_
 change Code.wp _ _ _ _ _
 refine wp_seq ?_
 -- region 1
 refine RL ?_
 refine V rfl rfl (run_fieldI1 rfl rfl) <| V rfl rfl (run_cell rfl isAgg_words rfl (E.1) rfl) <| V (v := .int .i64 ((l.length : Nat) : Int)) rfl rfl (run_len rfl rfl) <| V (v := .int .i64 ((min l.length 12 : Nat) : Int)) rfl rfl (run_minI rfl rfl rfl (by split <;> omega)) <| ?_
 simp only [q2,q3]
 refine A rfl rfl rfl rfl rfl <| ?_
 simp only [q2,q3]
 refine WN ?_
 change Code.wp _ _ _ _ _
 refine wp_seq ?_
 refine wp_block ?_
 replace E := E.b x2
 clear x2
 refine wp_loop_ghost (fun mz a w' => ∃ (k : Nat) (g8 g9 g10 g11 g12 g13 g14 g15 g16 g17 g18 g19 g20 : Value), a = ⟨#[.agg #[.bool false, (.slice (some ad) l.length cap)], .pointer (some ⟨b1, 0, none⟩), .pointer (some ⟨b2, 0, none⟩), .int .i64 ((k : Nat) : Int), .pointer (some ⟨b1, 1, none⟩), (.slice (some ad) l.length cap), .int .i64 ((l.length : Nat) : Int), .int .i64 ((min l.length 12 : Nat) : Int), g8, g9, g10, g11, g12, g13, g14, g15, g16, g17, g18, g19, g20, undef, undef, undef, undef, undef, undef, undef, undef, undef, undef, undef, undef, undef], []⟩ ∧ Env w' [fB b2 false (.slice none 0 0), fX b1 (24) ([.bool false, (.slice (some ad) l.length cap)]), fS (.slice (some ad) l.length cap) l, fW w] ∧ mz = k ∧ (k ≤ min l.length 12 ∧ trimW (l.take k) = trimW (l.take (min l.length 12)))) (min l.length 12) ⟨(min l.length 12), _, _, _, _, _, _, _, _, _, _, _, _, _, rfl, (Env.b (Env.x (Env.s (Env.ww (Env.nil _) (e3 E)) (E.2.2.1)) (E.2.1)) (E.1)), rfl, ⟨Nat.le_refl _, rfl⟩⟩ ?_
 rintro m3 _ w3 ⟨k, g8, g9, g10, g11, g12, g13, g14, g15, g16, g17, g18, g19, g20, rfl, E, hm3, hI3⟩
 obtain ⟨hI1, hI2⟩ := hI3
 by_cases hk0 : k = 0
 case pos =>
  have hC := trim_canon hI2 hk0
  refine wp_seq ?_
  refine wp_seq ?_
  -- region 2
  refine RL ?_
  refine M rfl rfl rfl rfl rfl <| V rfl rfl (run_gtI (c := false) rfl rfl rfl (by rw [decide_eq_false_iff_not]; omega)) <| M rfl rfl rfl rfl rfl <| L0C (by kernel_rfl) rfl <| ?_
  simp only [q2,q3]
  refine L0C (by kernel_rfl) rfl <| L0C (by kernel_rfl) rfl <| L0C (by kernel_rfl) rfl <| L0C (by kernel_rfl) rfl <| ?_
  simp only [q2,q3]
  refine L0C (by kernel_rfl) rfl <| L0C (by kernel_rfl) rfl <| V (v := .bool false) rfl rfl (run_pick (b := false) rfl rfl rfl) <| ?_
  simp only [q2,q3]
  refine WN ?_
  change Code.wp _ _ _ _ _
  refine wp_cond_false rfl ?_
  refine wp_exit ?_
  change Code.wp _ _ _ _ _
  refine wp_seq ?_
  replace E := (Env.b (Env.x (Env.ww (Env.nil _) (e3 E)) (E.2.1)) (E.1))
  -- region 4
  have x4 := E.1
  replace E := E.2
  refine wp_schedE E ([0, 1, 2, 3, 4, 5, 7, 8, 9, 10, 6, 11, 12, 13]) (by kernel_rfl) (by kernel_rfl) (by kernel_rfl) (by kernel_rfl) (by intro d v c a w h; cases d <;> exact h) ?_
  replace E := E.drew
  replace x4 := Bx.drew x4
  refine SW rfl rfl rfl rfl rfl (fun w hS => run_fieldI0 rfl rfl) <| SW rfl rfl rfl rfl rfl (fun w hS => run_cell rfl isAgg_bool rfl (hS.1) rfl) <| SM rfl rfl rfl rfl rfl rfl rfl rfl <| ?_
  refine S0 (o := ⟨some 24, _, _, _, _, _⟩) rfl rfl (E) ?_
  simp only [Act.put,q1,q2,q3]
  refine S0 (o := ⟨some 25, _, _, _, _, _⟩) rfl rfl (E) ?_
  simp only [Act.put,q1,q2,q3]
  refine SW (v := .bool false) rfl rfl rfl rfl rfl (fun w hS => run_pick (b := false) rfl rfl rfl) <| ?_
  simp only [q2,q3]
  refine SW rfl rfl rfl rfl rfl (fun w hS => run_fieldI1 rfl rfl) <| SW rfl rfl rfl rfl rfl (fun w hS => run_cell rfl isAgg_words rfl (hS.1) rfl) <| SM rfl rfl rfl rfl rfl rfl rfl rfl <| SW (v := .slice (some ad) k cap) rfl rfl rfl rfl rfl (fun w hS => run_sliceWh (k := k) rfl rfl rfl rfl (by omega)) <| ?_
  simp only [q2,q3]
  refine S1a (o := ⟨some 27, _, _, _, _, _⟩) rfl rfl rfl rfl (Oper.wp_lit0 rfl ?_)
  intro b5 w5 e5 z5 d5 x5
  replace E := E.below d5
  have lz5 := Bx.lt x4
  replace x4 := x4.below d5
  clear d5
  refine ⟨E, ?_⟩
  simp only [Act.put,q1,q2,q3]
  have hn6 := Sl_news (hsl.below (E.2.1)) k
  refine S1a (o := ⟨some 32, _, _, _, _, _⟩) rfl rfl rfl rfl (Oper.wp_appendW _ _ rfl (b2 + 1) (l := [fB b2 false (.slice none 0 0), fX b1 (24) ([.bool false, (.slice (some ad) l.length cap)]), fW w]) _ 0 [] rfl (x5 (b2 + 1) (by omega)) (E.b x4) ⟨plB, plX, plW, trivial⟩ (fun g hg hb => ⟨okB (by omega), okX (by omega), okW (by omega), trivial⟩) ad k cap (wcs (l.take k)) rfl (wcs_len l k (by omega)) hn6 (wcs_one _) (by unfold maxLen; omega) (by omega) (by omega) ?_)
  clear E x4
  intro v6 w6 hR6 E
  replace hR6 := RowG_sl (l := l.take k) (by rwa [List.nil_append] at hR6) (by rw [List.length_take]; omega) (Wd_take hsl.wd k)
  have hS6 := hR6
  obtain ⟨av6, cv6, hv6⟩ := Sl.shp hR6
  have x4 := e0 E
  replace E := E.2
  refine ⟨E, ?_⟩
  simp only [Act.put,q1,q2,q3]
  obtain ⟨z, Fz, hz7⟩ := ints_is (l := l) (k := k) (n := false) (b := false) (by omega) (by omega) hC hsl.wd hS6 (by first | rfl | (simp; omega))
  replace E := E.i hz7
  refine SW (v := .agg #[.bool false, v6]) rfl rfl rfl rfl rfl (fun w hS => run_buildI2 rfl rfl rfl hv6) <| ?_
  simp only [q2,q3]
  refine S1a (o := ⟨none, _, _, _, _, _⟩) rfl rfl rfl rfl (Oper.wp_store AgI rfl rfl rfl x4 rfl rfl (IsI.one (E.1)) ?_)
  intro w8 o8 y8
  replace E := (E.onl (x4.noW now0) ⟨trivial, okX (by omega), okW (by omega), trivial⟩ o8).b y8
  clear x4 o8 y8
  refine ⟨E.2.2, ?_⟩
  simp only [Act.put]
  refine SN ?_
  change Code.wp _ _ _ _ _
  refine wp_ret ?_
  have r9 := res_box AgI (E.1) rfl
  exact bodyPost_ret (v := .agg #[.bool false, v6]) (by simp [results, Try.results16, asAddr, r9]) rfl ⟨z, Fz, _, rfl, E.2.1, e3 E⟩
 case neg =>
  obtain ⟨j, hj⟩ : ∃ j, k = j + 1 := ⟨k - 1, by omega⟩
  have hsl1 := E.2.2.1
  obtain ⟨_, _, hse, _, _, _, _, hcell⟩ := hsl1
  simp only [Value.slice.injEq] at hse
  obtain ⟨rfl, _, rfl⟩ := hse
  obtain ⟨bb, off, hao, hcj⟩ := hcell j (by omega)
  obtain rfl := Option.some.inj hao
  have hcj1 : w3.cell? ⟨bb, off + j * 1, none⟩ = some (.int .u32 ((gd l j : Nat) : Int)) := by rw [Nat.mul_one]; exact hcj
  by_cases hg : gd l j = 0
  case pos =>
   have hst := trim_step l j (by omega) hg
   rw [hj, hst] at hI2
   refine wp_seq ?_
   refine wp_seq ?_
   -- region 2
   refine RL ?_
   refine M rfl rfl rfl rfl rfl <| V rfl rfl (run_gtI (c := true) rfl rfl rfl (by rw [decide_eq_true_eq]; omega)) <| M rfl rfl rfl rfl rfl <| V (by kernel_rfl) rfl (run_fieldI1 rfl rfl) <| ?_
   simp only [q2,q3]
   refine V (by kernel_rfl) rfl (run_cell rfl isAgg_words rfl (E.2.1) rfl) <| M (by kernel_rfl) rfl rfl rfl rfl <| V (v := .int .i64 ((j : Nat) : Int)) (by kernel_rfl) rfl (run_subI rfl rfl rfl (wrap_nat (by omega) (by omega))) <| V (v := .pointer (some ⟨bb, off + j * 1, none⟩)) (by kernel_rfl) rfl (run_idx (j := j) rfl Try.underlying22 (by kernel_rfl) rfl rfl rfl (by omega)) <| ?_
   simp only [q2,q3]
   refine V (by kernel_rfl) rfl (run_loadC rfl isAgg_u32 rfl hcj1) <| V (by kernel_rfl) rfl (run_eqI (c := true) rfl rfl rfl (by rw [hg]; rfl)) <| V (v := .bool true) rfl rfl (run_pick (b := true) rfl rfl rfl) <| ?_
   simp only [q2,q3]
   refine WN ?_
   change Code.wp _ _ _ _ _
   refine wp_cond_true rfl ?_
   refine wp_skip ?_
   change Code.wp _ _ _ _ _
   refine wp_block ?_
   -- region 3
   refine RL ?_
   refine M rfl rfl rfl rfl rfl <| V (v := .int .i64 ((j : Nat) : Int)) rfl rfl (run_subI rfl rfl rfl (wrap_nat (by omega) (by omega))) <| A rfl rfl rfl rfl rfl <| ?_
   simp only [q2,q3]
   refine WN ?_
   exact ⟨_, (by rw [hm3]; omega), j, _, _, _, _, _, _, _, _, _, _, _, _, _, rfl, (Env.b (Env.x (Env.s (Env.ww (Env.nil _) (e3 E)) (E.2.2.1)) (E.2.1)) (E.1)), rfl, ⟨by omega, hI2⟩⟩
  case neg =>
   have hC := trim_at (l := l) (j := j) (by omega) hg
   rw [← hj] at hC
   refine wp_seq ?_
   refine wp_seq ?_
   -- region 2
   refine RL ?_
   refine M rfl rfl rfl rfl rfl <| V rfl rfl (run_gtI (c := true) rfl rfl rfl (by rw [decide_eq_true_eq]; omega)) <| M rfl rfl rfl rfl rfl <| V (by kernel_rfl) rfl (run_fieldI1 rfl rfl) <| ?_
   simp only [q2,q3]
   refine V (by kernel_rfl) rfl (run_cell rfl isAgg_words rfl (E.2.1) rfl) <| M (by kernel_rfl) rfl rfl rfl rfl <| V (v := .int .i64 ((j : Nat) : Int)) (by kernel_rfl) rfl (run_subI rfl rfl rfl (wrap_nat (by omega) (by omega))) <| V (v := .pointer (some ⟨bb, off + j * 1, none⟩)) (by kernel_rfl) rfl (run_idx (j := j) rfl Try.underlying22 (by kernel_rfl) rfl rfl rfl (by omega)) <| ?_
   simp only [q2,q3]
   refine V (by kernel_rfl) rfl (run_loadC rfl isAgg_u32 rfl hcj1) <| V (by kernel_rfl) rfl (run_eqI (c := false) rfl rfl rfl (by rw [beq_eq_false_iff_ne]; omega)) <| V (v := .bool false) rfl rfl (run_pick (b := true) rfl rfl rfl) <| ?_
   simp only [q2,q3]
   refine WN ?_
   change Code.wp _ _ _ _ _
   refine wp_cond_false rfl ?_
   refine wp_exit ?_
   change Code.wp _ _ _ _ _
   refine wp_seq ?_
   replace E := (Env.b (Env.x (Env.ww (Env.nil _) (e3 E)) (E.2.1)) (E.1))
   -- region 4
   have x10 := E.1
   replace E := E.2
   refine wp_schedE E ([0, 1, 2, 3, 4, 5, 7, 8, 9, 10, 6, 11, 12, 13]) (by kernel_rfl) (by kernel_rfl) (by kernel_rfl) (by kernel_rfl) (by intro d v c a w h; cases d <;> exact h) ?_
   replace E := E.drew
   replace x10 := Bx.drew x10
   refine SW rfl rfl rfl rfl rfl (fun w hS => run_fieldI0 rfl rfl) <| SW rfl rfl rfl rfl rfl (fun w hS => run_cell rfl isAgg_bool rfl (hS.1) rfl) <| SM rfl rfl rfl rfl rfl rfl rfl rfl <| ?_
   refine S0 (o := ⟨some 24, _, _, _, _, _⟩) rfl rfl (E) ?_
   simp only [Act.put,q1,q2,q3]
   refine S0 (o := ⟨some 25, _, _, _, _, _⟩) rfl rfl (E) ?_
   simp only [Act.put,q1,q2,q3]
   refine SW (v := .bool false) rfl rfl rfl rfl rfl (fun w hS => run_pick (b := false) rfl rfl rfl) <| ?_
   simp only [q2,q3]
   refine SW rfl rfl rfl rfl rfl (fun w hS => run_fieldI1 rfl rfl) <| SW rfl rfl rfl rfl rfl (fun w hS => run_cell rfl isAgg_words rfl (hS.1) rfl) <| SM rfl rfl rfl rfl rfl rfl rfl rfl <| SW (v := .slice (some ⟨bb, off, none⟩) k cap) rfl rfl rfl rfl rfl (fun w hS => run_sliceWh (k := k) rfl rfl rfl rfl (by omega)) <| ?_
   simp only [q2,q3]
   refine S1a (o := ⟨some 27, _, _, _, _, _⟩) rfl rfl rfl rfl (Oper.wp_lit0 rfl ?_)
   intro b11 w11 e11 z11 d11 x11
   replace E := E.below d11
   have lz11 := Bx.lt x10
   replace x10 := x10.below d11
   clear d11
   refine ⟨E, ?_⟩
   simp only [Act.put,q1,q2,q3]
   have hn12 := Sl_news (hsl.below (E.2.1)) k
   refine S1a (o := ⟨some 32, _, _, _, _, _⟩) rfl rfl rfl rfl (Oper.wp_appendW _ _ rfl (b2 + 1) (l := [fB b2 false (.slice none 0 0), fX b1 (24) ([.bool false, (.slice (some ⟨bb, off, none⟩) l.length cap)]), fW w]) _ 0 [] rfl (x11 (b2 + 1) (by omega)) (E.b x10) ⟨plB, plX, plW, trivial⟩ (fun g hg hb => ⟨okB (by omega), okX (by omega), okW (by omega), trivial⟩) ⟨bb, off, none⟩ k cap (wcs (l.take k)) rfl (wcs_len l k (by omega)) hn12 (wcs_one _) (by unfold maxLen; omega) (by omega) (by omega) ?_)
   clear E x10
   intro v12 w12 hR12 E
   replace hR12 := RowG_sl (l := l.take k) (by rwa [List.nil_append] at hR12) (by rw [List.length_take]; omega) (Wd_take hsl.wd k)
   have hS12 := hR12
   obtain ⟨av12, cv12, hv12⟩ := Sl.shp hR12
   have x10 := e0 E
   replace E := E.2
   refine ⟨E, ?_⟩
   simp only [Act.put,q1,q2,q3]
   obtain ⟨z, Fz, hz13⟩ := ints_is (l := l) (k := k) (n := false) (b := false) (by omega) (by omega) hC hsl.wd hS12 (by first | rfl | (simp; omega))
   replace E := E.i hz13
   refine SW (v := .agg #[.bool false, v12]) rfl rfl rfl rfl rfl (fun w hS => run_buildI2 rfl rfl rfl hv12) <| ?_
   simp only [q2,q3]
   refine S1a (o := ⟨none, _, _, _, _, _⟩) rfl rfl rfl rfl (Oper.wp_store AgI rfl rfl rfl x10 rfl rfl (IsI.one (E.1)) ?_)
   intro w14 o14 y14
   replace E := (E.onl (x10.noW now0) ⟨trivial, okX (by omega), okW (by omega), trivial⟩ o14).b y14
   clear x10 o14 y14
   refine ⟨E.2.2, ?_⟩
   simp only [Act.put]
   refine SN ?_
   change Code.wp _ _ _ _ _
   refine wp_ret ?_
   have r15 := res_box AgI (E.1) rfl
   exact bodyPost_ret (v := .agg #[.bool false, v12]) (by simp [results, Try.results16, asAddr, r15]) rfl ⟨z, Fz, _, rfl, E.2.1, e3 E⟩
theorem Ints_q (n : Bool) (s : Value) (l : List Nat) (w : World) (h : Sl w s l) : Calls Try.prog 16 #[.agg #[.bool n, s]] w (RetIs w) := by
  have h0 := h
  obtain ⟨ao, cap, rfl, h1, h2, h3, hn, h4⟩ := h
  cases ao with
  | none =>
    obtain rfl := hn rfl
    obtain rfl : l = [] := List.eq_nil_of_length_eq_zero (by omega)
    cases n
    · exact Ints_fn w
    · exact Ints_tn w
  | some ad =>
    cases n
    · exact Ints_fs l ad cap w h0
    · exact Ints_ts l ad cap w h0
end Go.Proofs.Ytndpjfhhigpbhaa
