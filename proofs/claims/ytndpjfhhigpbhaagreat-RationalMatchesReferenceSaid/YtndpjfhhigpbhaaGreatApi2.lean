/- The functions of package integer: sums, products, division. -/
import Derived.Test.YtndpjfhhigpbhaaGreatApi
import Derived.Test.YtndpjfhhigpbhaaGreatDivide
namespace Go.Proofs.YtndpjfhhigpbhaaGreat
open Go.RowKit W
/-- A box of an integer at block b. -/
def Box (W : World) (b : Nat) (n : Bool) (s : Value) : Prop := W.cell? ⟨b, 0, none⟩ = some (.bool n) ∧ W.cell? ⟨b, 1, none⟩ = some s
/-- A box that may be written. -/
def RBox (W : World) (b : Nat) : Prop := (∃ n ao len cap, Box W b n (.slice ao len cap)) ∧ W.frozen? ⟨b, 0, none⟩ = false ∧ W.frozen? ⟨b, 1, none⟩ = false
theorem Box.keep {W w1 : World} {b : Nat} {n : Bool} {s : Value} (h : Box W b n s) (hb : Below W.heap.size W w1) : Box w1 b n s := ⟨cell_below h.1 hb, cell_below h.2 hb⟩
theorem RBox.keep {W w1 : World} {b : Nat} (h : RBox W b) (hb : Below W.heap.size W w1) : RBox w1 b := by
  obtain ⟨⟨n, ao, len, cap, h1⟩, h2, h3⟩ := h
  have hlt := block_lt h1.1
  exact ⟨⟨n, ao, len, cap, h1.keep hb⟩, (hb.frozen (p := ⟨b, 0, none⟩) hlt).trans h2, (hb.frozen (p := ⟨b, 1, none⟩) hlt).trans h3⟩
theorem Sl.store {w : World} {v : Value} {l : List Nat} {r : Nat} (h : Sl w v l) (hr : RBox w r) (n' : Bool) (s' : Value) : Sl ((w.setCell ⟨r, 0, none⟩ (.bool n')).setCell ⟨r, 1, none⟩ s') v l := by
  obtain ⟨⟨n, ao0, len, cap0, h0, h1⟩, _⟩ := hr
  obtain ⟨ao, cap, rfl, g1, g2, g3, gn, g4⟩ := h
  refine ⟨ao, cap, rfl, g1, g2, g3, gn, fun i hi => ?_⟩
  obtain ⟨b, off, e1, e2⟩ := g4 i hi
  refine ⟨b, off, e1, ?_⟩
  have n0 : (⟨b, off + i, none⟩ : Addr) ≠ ⟨r, 0, none⟩ := fun e => by rw [e, h0] at e2; cases e2
  have n1 : (⟨b, off + i, none⟩ : Addr) ≠ ⟨r, 1, none⟩ := fun e => by rw [e, h1] at e2; cases e2
  rw [World.cell?_setCell_other _ _ _ _ n1.symm, World.cell?_setCell_other _ _ _ _ n0.symm]
  exact e2
theorem store_keep {w : World} {r b o : Nat} {v : Value} {n' : Bool} {s' : Value} (h : w.cell? ⟨b, o, none⟩ = some v) (hne : b ≠ r) : ((w.setCell ⟨r, 0, none⟩ (.bool n')).setCell ⟨r, 1, none⟩ s').cell? ⟨b, o, none⟩ = some v := by
  have n0 : (⟨r, 0, none⟩ : Addr) ≠ ⟨b, o, none⟩ := fun e => hne (congrArg Addr.block e).symm
  have n1 : (⟨r, 1, none⟩ : Addr) ≠ ⟨b, o, none⟩ := fun e => hne (congrArg Addr.block e).symm
  rw [World.cell?_setCell_other _ _ _ _ n1, World.cell?_setCell_other _ _ _ _ n0]
  exact h
theorem IsI.store {w : World} {v : Value} {z : Int} {r : Nat} (h : IsI w v z) (hr : RBox w r) (n' : Bool) (s' : Value) : IsI ((w.setCell ⟨r, 0, none⟩ (.bool n')).setCell ⟨r, 1, none⟩ s') v z := by
  obtain ⟨s, rfl, hs⟩ := h
  exact ⟨s, rfl, hs.store hr n' s'⟩
/-- The result is stored into its box. -/
theorem ret_box {w0 w2 : World} {r : Nat} {n : Bool} {s : Value} {z : Int} (hz : IsI w2 (.agg #[.bool n, s]) z) (hr : RBox w2 r) (hB : Below w0.heap.size w0 w2) (hle : w0.heap.size ≤ r) :
    RetZ w0 z (.returned (.agg #[.bool n, s])) ((w2.setCell ⟨r, 0, none⟩ (.bool n)).setCell ⟨r, 1, none⟩ s) :=
  ⟨_, rfl, hz.store hr _ _, (hB.setCell (p := ⟨r, 0, none⟩) hle _).setCell (p := ⟨r, 1, none⟩) hle _⟩
theorem sgnI_not (x : Int) : sgnI (!decide (x < 0)) x.natAbs = -x := by
  by_cases h : x < 0
  · rw [decide_eq_true h]; simp [sgnI]; omega
  · rw [decide_eq_false h]; simp [sgnI]; omega
theorem signed_z (neg : Bool) (v : Value) (l : List Nat) (z : Int) (w : World) (h : Sl w v l) (hz : sgnI neg (val l) = z) :
    Calls Tryz.prog 66 #[.bool neg, v] w (RetZ w z) := by
  subst hz; exact signed_sl neg v l w h
/-- One integer in a box, and a box for the result. -/
theorem boxes11 (w : World) (n1 : Bool) (s1 : Value) : ∃ W, W = ((w.alloc (.cells #[.bool n1, s1] 29)).alloc (.cells #[.bool false, .slice none 0 0] 29)) ∧ W.heap.size = w.heap.size + 2 ∧ Below w.heap.size w W ∧
    Box W w.heap.size n1 s1 ∧ RBox W (w.heap.size + 1) := by
  refine ⟨_, rfl, by simp, ((Below.refl _ _).alloc (Nat.le_refl _) _).alloc (by simp) _, ⟨?_, ?_⟩, ⟨⟨false, none, 0, 0, ?_, ?_⟩, ?_, ?_⟩⟩ <;> (try simp [go_sem]) <;> rfl
theorem boxes21 (w : World) (n1 n2 : Bool) (s1 s2 : Value) : ∃ W, W = (((w.alloc (.cells #[.bool n1, s1] 29)).alloc (.cells #[.bool n2, s2] 29)).alloc (.cells #[.bool false, .slice none 0 0] 29)) ∧ W.heap.size = w.heap.size + 3 ∧ Below w.heap.size w W ∧
    Box W w.heap.size n1 s1 ∧ Box W (w.heap.size + 1) n2 s2 ∧ RBox W (w.heap.size + 1 + 1) := by
  refine ⟨_, rfl, by simp, (((Below.refl _ _).alloc (Nat.le_refl _) _).alloc (by simp) _).alloc (by simp; omega) _, ⟨?_, ?_⟩, ⟨?_, ?_⟩, ⟨⟨false, none, 0, 0, ?_, ?_⟩, ?_, ?_⟩⟩ <;> (try simp [go_sem]) <;> rfl
set_option maxHeartbeats 2000000 in
theorem Neg_z (va : Value) (x : Int) (w : World) (ha : IsI w va x) (hx : Fits x 1000000000) :
    Calls Tryz.prog 49 #[va] w (RetZ w (-x)) := by
  obtain ⟨aoa, capa, rfl, sa, ha1, ha2⟩ := ha.parts
  have SA := Lib.hid sa
  have HF := Lib.hid hx
  clear ha sa hx
  obtain ⟨z, hz⟩ : ∃ z : Int, z = -x := ⟨_, rfl⟩
  rw [← hz]
  have HZ := Lib.hid hz
  clear hz
  obtain ⟨W, hW, hsz, B0, k0, k1⟩ := boxes11 w (decide (x < 0)) (.slice aoa (digs x.natAbs).length capa)
  have c0 := k0.1
  have c1 := k0.2
  have K1 := Lib.hid k1
  clear k1
  go_enter Tryz.func49, Tryz.ntmps49
  go_upto_region 1 with fail
  rw [← hW]
  clear hW
  go_region_held3 (fun w' => w'.cell? ⟨w.heap.size, 0, none⟩ = some (.bool (decide (x < 0))) ∧ w'.cell? ⟨w.heap.size, 1, none⟩ = some (.slice aoa (digs x.natAbs).length capa))
    (first | exact ⟨c0, c1⟩ | exact ⟨d0, d1⟩ | exact ⟨f0, f1⟩ | go_keep)
    (first
      | (go_at_call 83; refine (clone_sl _ (digs x.natAbs) _ ?_ ?_).mono ?_; exact SA.out.below B0.drew; exact Nat.le_trans HF.out (by omega); rintro e w1 ⟨v1, rfl, hv1, hb1'⟩; have d0 := cell_below (w := W.drew) c0 hb1'; have d1 := cell_below (w := W.drew) c1 hb1')
      | (go_at_call 66; refine (signed_z _ _ (digs x.natAbs) z _ hv1 (by rw [val_digs, sgnI_not, HZ.out])).mono ?_; rintro e w2 ⟨v2, rfl, hz, hb2'⟩; have f0 := cell_below d0 hb2'; have f1 := cell_below d1 hb2'; obtain ⟨ao2, cap2, rfl, sl2, _, _⟩ := hz.parts; have hrb := (K1.out.keep (bel_undrew hb1')).keep hb2'; have HRB := Lib.hid hrb; obtain ⟨⟨n0, ao0, len0, cap0, g0, g1⟩, g2, g3⟩ := hrb))
  have B2 : Below w.heap.size w w2 := (B0.trans ((bel_undrew hb1').mono B0.size)).trans (hb2'.mono (Nat.le_trans B0.size hb1'.size))
  go_wp2_with fail
  refine bodyPost_ret (v := .agg #[.bool (decide (z < 0)), .slice ao2 (digs z.natAbs).length cap2]) ?_ rfl (ret_box hz HRB.out B2 (by omega))
  simp [results, Tryz.results49, go_sem, g0, g1]
theorem sgnI_same {x y : Int} {nx ny : Bool} (hx : sgnI nx x.natAbs = x) (hy : sgnI ny y.natAbs = y) (h : nx = ny) : sgnI nx (x.natAbs + y.natAbs) = x + y := by
  subst h; cases nx <;> simp [sgnI] at * <;> omega
theorem sgnI_diff {x y : Int} {nx ny : Bool} (hx : sgnI nx x.natAbs = x) (hy : sgnI ny y.natAbs = y) (h : ¬ nx = ny) (hle : y.natAbs ≤ x.natAbs) : sgnI nx (x.natAbs - y.natAbs) = x + y := by
  cases nx <;> cases ny <;> simp [sgnI] at * <;> omega
theorem sgnI_diff2 {x y : Int} {nx ny : Bool} (hx : sgnI nx x.natAbs = x) (hy : sgnI ny y.natAbs = y) (h : ¬ nx = ny) (hle : ¬ y.natAbs ≤ x.natAbs) : sgnI ny (y.natAbs - x.natAbs) = x + y := by
  rw [sgnI_diff hy hx (fun e => h e.symm) (by omega)]; exact Int.add_comm y x
theorem sgnI_mul {x y : Int} {nx ny : Bool} (hx : sgnI nx x.natAbs = x) (hy : sgnI ny y.natAbs = y) : sgnI (!(nx == ny)) (x.natAbs * y.natAbs) = x * y := by
  have e : x * y = sgnI nx x.natAbs * sgnI ny y.natAbs := by rw [hx, hy]
  rw [e]
  cases nx <;> cases ny <;> simp only [sgnI] <;> simp [Int.neg_mul, Int.mul_neg]
theorem sgnI_dec (z : Int) : sgnI (decide (z < 0)) z.natAbs = z := by
  by_cases h : z < 0
  · rw [decide_eq_true h]; simp [sgnI]; omega
  · rw [decide_eq_false h]; simp [sgnI]; omega
/-- A struct that stands for an integer: like IsI, but that 0 may bear either sign. -/
def IsJ (w : World) (v : Value) (z : Int) : Prop := ∃ n s, v = .agg #[.bool n, s] ∧ sgnI n z.natAbs = z ∧ Sl w s (digs z.natAbs)
theorem IsI.j {w : World} {v : Value} {z : Int} (h : IsI w v z) : IsJ w v z := by
  obtain ⟨s, rfl, hs⟩ := h
  exact ⟨_, s, rfl, sgnI_dec z, hs⟩
theorem IsJ.below {w w' : World} {v : Value} {z : Int} (h : IsJ w v z) (hb : Below w.heap.size w w') : IsJ w' v z := by
  obtain ⟨n, s, rfl, h1, hs⟩ := h
  exact ⟨n, s, rfl, h1, hs.below hb⟩
theorem IsJ.parts {w : World} {v : Value} {z : Int} (h : IsJ w v z) : ∃ (n : Bool) (ao : Option Addr) (cap : Nat), v = .agg #[.bool n, .slice ao (digs z.natAbs).length cap] ∧ sgnI n z.natAbs = z ∧ Sl w (.slice ao (digs z.natAbs).length cap) (digs z.natAbs) ∧ (digs z.natAbs).length ≤ cap ∧ cap ≤ 9223372036854775807 := by
  obtain ⟨n, s, rfl, hz, hs⟩ := h
  obtain ⟨ao, cap, rfl, h1, h2, h3, hn, h4⟩ := hs
  exact ⟨n, ao, cap, rfl, hz, ⟨ao, cap, rfl, h1, h2, h3, hn, h4⟩, h1, by unfold maxLen at h2; omega⟩
theorem cell_drew {W w1 : World} {b o : Nat} {v : Value} (h : W.cell? ⟨b, o, none⟩ = some v) (hb : Below W.drew.heap.size W.drew w1) : w1.cell? ⟨b, o, none⟩ = some v := cell_below (w := W.drew) h hb
theorem cell_drewN {W w1 : World} {b o q : Nat} {v : Value} (h : W.cell? ⟨b, o, none⟩ = some v) (hb : Below (W.drewN q).heap.size (W.drewN q) w1) : w1.cell? ⟨b, o, none⟩ = some v := cell_below (w := W.drewN q) h hb
theorem abs_len {x y : Int} (h : y.natAbs ≤ x.natAbs) : (digs y.natAbs).length ≤ (digs x.natAbs).length := digs_length_mono h
set_option maxHeartbeats 4000000 in
theorem Add_j (va vb : Value) (x y : Int) (w : World) (ha : IsJ w va x) (hb : IsJ w vb y) (hx : Fits x 1000000000) (hy : Fits y 1000000000) :
    Calls Tryz.prog 46 #[va, vb] w (RetZ w (x + y)) := by
  obtain ⟨nx, aoa, capa, rfl, hnx, sa, ha1, ha2⟩ := ha.parts
  obtain ⟨ny, aob, capb, rfl, hny, sb, hb1, hb2⟩ := hb.parts
  have SA := Lib.hid sa
  have SB := Lib.hid sb
  have HFX := Lib.hid hx
  have HFY := Lib.hid hy
  clear ha sa hx hb sb hy
  obtain ⟨z, hz⟩ : ∃ z : Int, z = x + y := ⟨_, rfl⟩
  rw [← hz]
  have HZ := Lib.hid hz
  clear hz
  have HNX := Lib.hid hnx
  have HNY := Lib.hid hny
  clear hnx hny
  obtain ⟨W, hW, hsz, B0, k0, k1, k2⟩ := boxes21 w nx ny (.slice aoa (digs x.natAbs).length capa) (.slice aob (digs y.natAbs).length capb)
  have c0 := k0.1
  have c1 := k0.2
  have c2 := k1.1
  have c3 := k1.2
  have K1 := Lib.hid k2
  clear k0 k1 k2
  by_cases hsame : nx = ny
  · have hs1 : (nx == ny) = true := by rw [hsame]; exact beq_self_eq_true ny
    have hzz : sgnI nx (x.natAbs + y.natAbs) = z := by
      rw [HZ.out]; exact sgnI_same HNX.out HNY.out hsame
    have HZZ := Lib.hid hzz
    clear hsame hzz
    go_enter Tryz.func46, Tryz.ntmps46
    go_upto_region 1 with fail
    rw [← hW]
    clear hW
    go_upto_region 2 with fail
    go_region_held3 (fun w' => w'.cell? ⟨w.heap.size, 0, none⟩ = some (.bool nx) ∧ w'.cell? ⟨w.heap.size, 1, none⟩ = some (.slice aoa (digs x.natAbs).length capa) ∧ w'.cell? ⟨w.heap.size + 1, 0, none⟩ = some (.bool ny) ∧ w'.cell? ⟨w.heap.size + 1, 1, none⟩ = some (.slice aob (digs y.natAbs).length capb))
      (first | exact ⟨c0, c1, c2, c3⟩ | exact ⟨d0, d1, d2, d3⟩ | exact ⟨f0, f1, f2, f3⟩ | exact ⟨store_keep f0 (by omega), store_keep f1 (by omega), store_keep f2 (by omega), store_keep f3 (by omega)⟩)
      (first
        | (go_at_call 79; refine (sum_sl _ _ (digs x.natAbs) (digs y.natAbs) _ ?_ ?_ ?_ ?_).mono ?_; exact SA.out.below B0.drew; exact SB.out.below B0.drew; exact HFX.out; exact HFY.out; rintro e w1 ⟨v1, rfl, hv1, hb1'⟩; have d0 := cell_drew c0 hb1'; have d1 := cell_drew c1 hb1'; have d2 := cell_drew c2 hb1'; have d3 := cell_drew c3 hb1')
        | (go_at_call 66; refine (signed_z _ _ _ z _ hv1 (by rw [val_digs, val_digs, val_digs, HZZ.out])).mono ?_; rintro e w2 ⟨v2, rfl, hz, hb2'⟩; have f0 := cell_below d0 hb2'; have f1 := cell_below d1 hb2'; have f2 := cell_below d2 hb2'; have f3 := cell_below d3 hb2'; obtain ⟨ao2, cap2, rfl, sl2, _, _⟩ := hz.parts; have hrb := (K1.out.keep (bel_undrew hb1')).keep hb2'; have HRB := Lib.hid hrb; obtain ⟨⟨n0, ao0, len0, cap0, g0, g1⟩, g2, g3⟩ := hrb))
    have B2 : Below w.heap.size w w2 := (B0.trans ((bel_undrew hb1').mono B0.size)).trans (hb2'.mono (Nat.le_trans B0.size hb1'.size))
    go_wp2_with fail
    refine bodyPost_ret (v := .agg #[.bool (decide (z < 0)), .slice ao2 (digs z.natAbs).length cap2]) ?_ rfl (ret_box hz HRB.out B2 (by omega))
    simp [results, Tryz.results46, go_sem, g0, g1]
  · have hs1 : (nx == ny) = false := by rw [beq_eq_false_iff_ne]; exact hsame
    have SA' := Lib.hid (SA.out.below B0)
    have SB' := Lib.hid (SB.out.below B0)
    by_cases hle : y.natAbs ≤ x.natAbs
    · have hzz : sgnI nx (x.natAbs - y.natAbs) = z := by
        rw [HZ.out]; exact sgnI_diff HNX.out HNY.out hsame hle
      have HZZ := Lib.hid hzz
      have hc0 : decide (0 ≤ cmpI (x.natAbs : Int) (y.natAbs : Int)) = true := by
        rcases Nat.lt_or_ge y.natAbs x.natAbs with h | h
        · rw [cmpI_gt (by omega)]; rfl
        · rw [cmpI_eq (by omega)]; rfl
      have HC0 := Lib.hid hc0
      have HLE := Lib.hid hle
      clear hsame hzz hc0 hle
      go_enter Tryz.func46, Tryz.ntmps46
      go_upto_region 1 with fail
      rw [← hW]
      clear hW
      go_wp2_with fail
      refine (compare_any _ _ x.natAbs y.natAbs _ SA'.out SB'.out).mono ?_
      rintro e w' ⟨rfl, q, rfl⟩
      obtain ⟨c, hc⟩ : ∃ c, c = cmpI (x.natAbs : Int) (y.natAbs : Int) := ⟨_, rfl⟩
      have hc0 := HC0.out
      rw [← hc] at hc0 ⊢
      clear hc
      go_upto_region 4 with fail
      go_region_held3 (fun w' => w'.cell? ⟨w.heap.size, 0, none⟩ = some (.bool nx) ∧ w'.cell? ⟨w.heap.size, 1, none⟩ = some (.slice aoa (digs x.natAbs).length capa) ∧ w'.cell? ⟨w.heap.size + 1, 0, none⟩ = some (.bool ny) ∧ w'.cell? ⟨w.heap.size + 1, 1, none⟩ = some (.slice aob (digs y.natAbs).length capb))
        (first | exact ⟨c0, c1, c2, c3⟩ | exact ⟨d0, d1, d2, d3⟩ | exact ⟨f0, f1, f2, f3⟩ | exact ⟨store_keep f0 (by omega), store_keep f1 (by omega), store_keep f2 (by omega), store_keep f3 (by omega)⟩)
        (first
          | (go_at_call 80; refine (difference_sl _ _ (digs x.natAbs) (digs y.natAbs) _ ?_ ?_ ?_ ?_ ?_).mono ?_; exact SA'.out.drewN _; exact SB'.out.drewN _; exact HFX.out; exact abs_len HLE.out; exact (by rw [val_digs, val_digs]; exact HLE.out); rintro e w1 ⟨v1, rfl, hv1, hb1'⟩; have d0 := cell_drewN c0 hb1'; have d1 := cell_drewN c1 hb1'; have d2 := cell_drewN c2 hb1'; have d3 := cell_drewN c3 hb1')
          | (go_at_call 66; refine (signed_z _ _ _ z _ hv1 (by rw [val_digs, val_digs, val_digs, HZZ.out])).mono ?_; rintro e w2 ⟨v2, rfl, hz, hb2'⟩; have f0 := cell_below d0 hb2'; have f1 := cell_below d1 hb2'; have f2 := cell_below d2 hb2'; have f3 := cell_below d3 hb2'; obtain ⟨ao2, cap2, rfl, sl2, _, _⟩ := hz.parts; have hrb := (K1.out.keep (bel_undrewN hb1')).keep hb2'; have HRB := Lib.hid hrb; obtain ⟨⟨n0, ao0, len0, cap0, g0, g1⟩, g2, g3⟩ := hrb))
      have B2 : Below w.heap.size w w2 := (B0.trans ((bel_undrewN hb1').mono B0.size)).trans (hb2'.mono (Nat.le_trans B0.size hb1'.size))
      go_wp2_with fail
      refine bodyPost_ret (v := .agg #[.bool (decide (z < 0)), .slice ao2 (digs z.natAbs).length cap2]) ?_ rfl (ret_box hz HRB.out B2 (by omega))
      simp [results, Tryz.results46, go_sem, g0, g1]
    · have hzz : sgnI ny (y.natAbs - x.natAbs) = z := by
        rw [HZ.out]; exact sgnI_diff2 HNX.out HNY.out hsame hle
      have HZZ := Lib.hid hzz
      have hc0 : decide (0 ≤ cmpI (x.natAbs : Int) (y.natAbs : Int)) = false := by rw [cmpI_lt (by omega)]; rfl
      have HC0 := Lib.hid hc0
      have HLE : Hid (x.natAbs ≤ y.natAbs) := Lib.hid (by omega)
      clear hsame hzz hc0 hle
      go_enter Tryz.func46, Tryz.ntmps46
      go_upto_region 1 with fail
      rw [← hW]
      clear hW
      go_wp2_with fail
      refine (compare_any _ _ x.natAbs y.natAbs _ SA'.out SB'.out).mono ?_
      rintro e w' ⟨rfl, q, rfl⟩
      obtain ⟨c, hc⟩ : ∃ c, c = cmpI (x.natAbs : Int) (y.natAbs : Int) := ⟨_, rfl⟩
      have hc0 := HC0.out
      rw [← hc] at hc0 ⊢
      clear hc
      go_upto_region 5 with fail
      go_region_held3 (fun w' => w'.cell? ⟨w.heap.size, 0, none⟩ = some (.bool nx) ∧ w'.cell? ⟨w.heap.size, 1, none⟩ = some (.slice aoa (digs x.natAbs).length capa) ∧ w'.cell? ⟨w.heap.size + 1, 0, none⟩ = some (.bool ny) ∧ w'.cell? ⟨w.heap.size + 1, 1, none⟩ = some (.slice aob (digs y.natAbs).length capb))
        (first | exact ⟨c0, c1, c2, c3⟩ | exact ⟨d0, d1, d2, d3⟩ | exact ⟨f0, f1, f2, f3⟩ | exact ⟨store_keep f0 (by omega), store_keep f1 (by omega), store_keep f2 (by omega), store_keep f3 (by omega)⟩)
        (first
          | (go_at_call 80; refine (difference_sl _ _ (digs y.natAbs) (digs x.natAbs) _ ?_ ?_ ?_ ?_ ?_).mono ?_; exact SB'.out.drewN _; exact SA'.out.drewN _; exact HFY.out; exact abs_len HLE.out; exact (by rw [val_digs, val_digs]; exact HLE.out); rintro e w1 ⟨v1, rfl, hv1, hb1'⟩; have d0 := cell_drewN c0 hb1'; have d1 := cell_drewN c1 hb1'; have d2 := cell_drewN c2 hb1'; have d3 := cell_drewN c3 hb1')
          | (go_at_call 66; refine (signed_z _ _ _ z _ hv1 (by rw [val_digs, val_digs, val_digs, HZZ.out])).mono ?_; rintro e w2 ⟨v2, rfl, hz, hb2'⟩; have f0 := cell_below d0 hb2'; have f1 := cell_below d1 hb2'; have f2 := cell_below d2 hb2'; have f3 := cell_below d3 hb2'; obtain ⟨ao2, cap2, rfl, sl2, _, _⟩ := hz.parts; have hrb := (K1.out.keep (bel_undrewN hb1')).keep hb2'; have HRB := Lib.hid hrb; obtain ⟨⟨n0, ao0, len0, cap0, g0, g1⟩, g2, g3⟩ := hrb))
      have B2 : Below w.heap.size w w2 := (B0.trans ((bel_undrewN hb1').mono B0.size)).trans (hb2'.mono (Nat.le_trans B0.size hb1'.size))
      go_wp2_with fail
      refine bodyPost_ret (v := .agg #[.bool (decide (z < 0)), .slice ao2 (digs z.natAbs).length cap2]) ?_ rfl (ret_box hz HRB.out B2 (by omega))
      simp [results, Tryz.results46, go_sem, g0, g1]
set_option maxHeartbeats 4000000 in
theorem Mul_j (va vb : Value) (x y : Int) (w : World) (ha : IsJ w va x) (hb : IsJ w vb y) (hx : Fits x 1000000000) (hy : Fits y 1000000000) :
    Calls Tryz.prog 81 #[va, vb] w (RetZ w (x * y)) := by
  obtain ⟨nx, aoa, capa, rfl, hnx, sa, ha1, ha2⟩ := ha.parts
  obtain ⟨ny, aob, capb, rfl, hny, sb, hb1, hb2⟩ := hb.parts
  have SA := Lib.hid sa
  have SB := Lib.hid sb
  have HFX := Lib.hid hx
  have HFY := Lib.hid hy
  clear ha sa hx hb sb hy
  obtain ⟨z, hz⟩ : ∃ z : Int, z = x * y := ⟨_, rfl⟩
  rw [← hz]
  have HZ := Lib.hid hz
  clear hz
  have HNX := Lib.hid hnx
  have HNY := Lib.hid hny
  clear hnx hny
  obtain ⟨W, hW, hsz, B0, k0, k1, k2⟩ := boxes21 w nx ny (.slice aoa (digs x.natAbs).length capa) (.slice aob (digs y.natAbs).length capb)
  have c0 := k0.1
  have c1 := k0.2
  have c2 := k1.1
  have c3 := k1.2
  have K1 := Lib.hid k2
  clear k0 k1 k2
  have hzz : sgnI (!(nx == ny)) (x.natAbs * y.natAbs) = z := by
    rw [HZ.out]; exact sgnI_mul HNX.out HNY.out
  have HZZ := Lib.hid hzz
  clear hzz
  go_enter Tryz.func81, Tryz.ntmps81
  go_upto_region 1 with fail
  rw [← hW]
  clear hW
  go_region_held3 (fun w' => w'.cell? ⟨w.heap.size, 0, none⟩ = some (.bool nx) ∧ w'.cell? ⟨w.heap.size, 1, none⟩ = some (.slice aoa (digs x.natAbs).length capa) ∧ w'.cell? ⟨w.heap.size + 1, 0, none⟩ = some (.bool ny) ∧ w'.cell? ⟨w.heap.size + 1, 1, none⟩ = some (.slice aob (digs y.natAbs).length capb))
    (first | exact ⟨c0, c1, c2, c3⟩ | exact ⟨d0, d1, d2, d3⟩ | exact ⟨f0, f1, f2, f3⟩ | exact ⟨store_keep f0 (by omega), store_keep f1 (by omega), store_keep f2 (by omega), store_keep f3 (by omega)⟩)
    (first
      | (go_at_call 98; refine (product_sl _ _ (digs x.natAbs) (digs y.natAbs) _ ?_ ?_ ?_ ?_).mono ?_; exact SA.out.below B0.drew; exact SB.out.below B0.drew; exact HFX.out; exact HFY.out; rintro e w1 ⟨v1, rfl, hv1, hb1'⟩; have d0 := cell_drew c0 hb1'; have d1 := cell_drew c1 hb1'; have d2 := cell_drew c2 hb1'; have d3 := cell_drew c3 hb1')
      | (go_at_call 66; refine (signed_z _ _ _ z _ hv1 (by rw [val_digs, val_digs, val_digs, HZZ.out])).mono ?_; rintro e w2 ⟨v2, rfl, hz, hb2'⟩; have f0 := cell_below d0 hb2'; have f1 := cell_below d1 hb2'; have f2 := cell_below d2 hb2'; have f3 := cell_below d3 hb2'; obtain ⟨ao2, cap2, rfl, sl2, _, _⟩ := hz.parts; have hrb := (K1.out.keep (bel_undrew hb1')).keep hb2'; have HRB := Lib.hid hrb; obtain ⟨⟨n0, ao0, len0, cap0, g0, g1⟩, g2, g3⟩ := hrb))
  have B2 : Below w.heap.size w w2 := (B0.trans ((bel_undrew hb1').mono B0.size)).trans (hb2'.mono (Nat.le_trans B0.size hb1'.size))
  go_wp2_with fail
  refine bodyPost_ret (v := .agg #[.bool (decide (z < 0)), .slice ao2 (digs z.natAbs).length cap2]) ?_ rfl (ret_box hz HRB.out B2 (by omega))
  simp [results, Tryz.results81, go_sem, g0, g1]
theorem Add_z (va vb : Value) (x y : Int) (w : World) (ha : IsI w va x) (hb : IsI w vb y) (hx : Fits x 1000000000) (hy : Fits y 1000000000) :
    Calls Tryz.prog 46 #[va, vb] w (RetZ w (x + y)) := Add_j va vb x y w ha.j hb.j hx hy
theorem Mul_z (va vb : Value) (x y : Int) (w : World) (ha : IsI w va x) (hb : IsI w vb y) (hx : Fits x 1000000000) (hy : Fits y 1000000000) :
    Calls Tryz.prog 81 #[va, vb] w (RetZ w (x * y)) := Mul_j va vb x y w ha.j hb.j hx hy
end Go.Proofs.YtndpjfhhigpbhaaGreat
