/- DivMod: the Euclidean quotient and remainder. -/
import Derived.Test.YtndpjfhhigpbhaaGreatApi4
namespace Go.Proofs.YtndpjfhhigpbhaaGreat
open Go.RowKit W
theorem boxes22 (w : World) (n1 n2 : Bool) (s1 s2 : Value) : ∃ W, W = ((((w.alloc (.cells #[.bool n1, s1] 29)).alloc (.cells #[.bool n2, s2] 29)).alloc (.cells #[.bool false, .slice none 0 0] 29)).alloc (.cells #[.bool false, .slice none 0 0] 29)) ∧ W.heap.size = w.heap.size + 4 ∧ Below w.heap.size w W ∧
    Box W w.heap.size n1 s1 ∧ Box W (w.heap.size + 1) n2 s2 ∧ RBox W (w.heap.size + 1 + 1) ∧ RBox W (w.heap.size + 1 + 1 + 1) := by
  refine ⟨_, rfl, by simp, ((((Below.refl _ _).alloc (Nat.le_refl _) _).alloc (by simp) _).alloc (by simp; omega) _).alloc (by simp; omega) _, ⟨?_, ?_⟩, ⟨?_, ?_⟩, ⟨⟨false, none, 0, 0, ?_, ?_⟩, ?_, ?_⟩, ⟨⟨false, none, 0, 0, ?_, ?_⟩, ?_, ?_⟩⟩ <;> (try simp [go_sem]) <;> rfl
theorem RBox.other {w : World} {r r' : Nat} (h : RBox w r) (hne : r ≠ r') (n' : Bool) (s' : Value) : RBox ((w.setCell ⟨r', 0, none⟩ (.bool n')).setCell ⟨r', 1, none⟩ s') r := by
  obtain ⟨⟨n, ao, len, cap, h0, h1⟩, h2, h3⟩ := h
  exact ⟨⟨n, ao, len, cap, store_keep h0 hne, store_keep h1 hne⟩, by simp [h2], by simp [h3]⟩
/-- What DivMod leaves. -/
def RetDM (w0 : World) (q r c : Int) (e : Ending) (w' : World) : Prop := ∃ v u, e = .returned (.tuple #[v, u, .int .i64 c]) ∧ IsI w' v q ∧ IsI w' u r ∧ Below w0.heap.size w0 w'
theorem RetDM.eq {w : World} {q r c q' r' c' : Int} {e : Ending} {w' : World} (h : RetDM w q r c e w') (h1 : q = q') (h2 : r = r') (h3 : c = c') : RetDM w q' r' c' e w' := by subst h1 h2 h3; exact h
theorem ret_boxDM {w0 w2 : World} {r4 r5 : Nat} {n m : Bool} {s t : Value} {q r c : Int} (hq : IsI w2 (.agg #[.bool n, s]) q) (hr : IsI w2 (.agg #[.bool m, t]) r) (h4 : RBox w2 r4) (h5 : RBox w2 r5) (hne : r5 ≠ r4) (hB : Below w0.heap.size w0 w2) (hle4 : w0.heap.size ≤ r4) (hle5 : w0.heap.size ≤ r5) :
    RetDM w0 q r c (.returned (.tuple #[.agg #[.bool n, s], .agg #[.bool m, t], .int .i64 c])) ((((w2.setCell ⟨r4, 0, none⟩ (.bool n)).setCell ⟨r4, 1, none⟩ s).setCell ⟨r5, 0, none⟩ (.bool m)).setCell ⟨r5, 1, none⟩ t) :=
  ⟨_, _, rfl, (hq.store h4 _ _).store (h5.other hne _ _) _ _, (hr.store h4 _ _).store (h5.other hne _ _) _ _,
    (((hB.setCell (p := ⟨r4, 0, none⟩) hle4 _).setCell (p := ⟨r4, 1, none⟩) hle4 _).setCell (p := ⟨r5, 0, none⟩) hle5 _).setCell (p := ⟨r5, 1, none⟩) hle5 _⟩
theorem fits_div {x y : Int} {n : Nat} (h : Fits x n) : (digs (x.natAbs / y.natAbs)).length ≤ n := Nat.le_trans (digs_length_mono (Nat.div_le_self _ _)) h
set_option maxRecDepth 100000 in
set_option maxHeartbeats 4000000 in
theorem DivMod_z (va vb : Value) (x y : Int) (w : World) (ha : IsI w va x) (hb : IsI w vb y) (hy0 : y ≠ 0) (hx : Fits x 900000000) (hy : Fits y 900000000) :
    Calls Tryz.prog 56 #[va, vb] w (RetDM w (x / y) (x % y) 0) := by
  obtain ⟨aoa, capa, rfl, sa, ha1, ha2⟩ := ha.parts
  obtain ⟨aob, capb, rfl, sb, hb1, hb2⟩ := hb.parts
  have SA := Lib.hid sa
  have SB := Lib.hid sb
  have HFX := Lib.hid hx
  have HFY := Lib.hid hy
  clear ha sa hx hb sb hy
  obtain ⟨nx, hnx⟩ : ∃ nx, nx = decide (x < 0) := ⟨_, rfl⟩
  obtain ⟨ny, hny⟩ : ∃ ny, ny = decide (y < 0) := ⟨_, rfl⟩
  rw [← hnx, ← hny]
  have hmath := divmod_math hy0 hnx hny
  obtain ⟨zq, hzq⟩ : ∃ z : Int, z = x / y := ⟨_, rfl⟩
  obtain ⟨zr, hzr⟩ : ∃ z : Int, z = x % y := ⟨_, rfl⟩
  rw [← hzq, ← hzr] at hmath
  have HZQ := Lib.hid hzq
  have HZR := Lib.hid hzr
  have hyl : (digs y.natAbs).length ≠ 0 := fun e => hy0 ((abs_zero_iff y).1 (by omega))
  have hl : (((digs y.natAbs).length : Int) == 0) = false := by rw [beq_eq_false_iff_ne]; omega
  have hyp : 0 < y.natAbs := by omega
  have HQL := Lib.hid (fits_div (y := y) HFX.out)
  have HRL : Hid (x.natAbs % y.natAbs < y.natAbs) := Lib.hid (Nat.mod_lt _ hyp)
  obtain ⟨q0, hq0⟩ : ∃ q, q = x.natAbs / y.natAbs := ⟨_, rfl⟩
  obtain ⟨r0, hr0⟩ : ∃ r, r = x.natAbs % y.natAbs := ⟨_, rfl⟩
  rw [← hq0, ← hr0] at hmath
  rw [← hq0] at HQL
  rw [← hr0] at HRL
  have HQ0 := Lib.hid hq0
  have HR0 := Lib.hid hr0
  clear hzq hzr hyl hq0 hr0 hnx hny
  obtain ⟨W, hW, hsz, B0, k0, k1, k2, k3⟩ := boxes22 w nx ny (.slice aoa (digs x.natAbs).length capa) (.slice aob (digs y.natAbs).length capb)
  have c0 := k0.1
  have c1 := k0.2
  have c2 := k1.1
  have c3 := k1.2
  have K4 := Lib.hid k2
  have K5 := Lib.hid k3
  have SAW := Lib.hid (SA.out.below B0)
  have SBW := Lib.hid (SB.out.below B0)
  clear k0 k1 k2 k3
  by_cases hcase : nx = true ∧ 0 < r0
  · have HM := Lib.hid (hmath.1 hcase)
    obtain ⟨rfl, hr0p⟩ := hcase
    have hdl : (digs r0).length ≠ 0 := fun e => by have := (digs_nil_iff r0).1 (List.eq_nil_of_length_eq_zero e); omega
    have hdl2 : (0 : Int) < ((digs r0).length : Int) := by omega
    have hdl3 : decide ((0 : Int) < ((digs r0).length : Int)) = true := by simpa using hdl2
    clear hmath hdl
    go_enter Tryz.func56, Tryz.ntmps56
    go_upto_region 1 with fail
    rw [← hW]
    clear hW
    go_wp2_with fail
    refine (trim_sl _ (digs y.natAbs) _ SBW.out).mono ?_
    rintro e w' ⟨rfl, vt, rfl, ht⟩
    have ht := ht _ SBW.out
    rw [val_digs] at ht
    obtain ⟨aot, capt, rfl, _, _, _, _, _⟩ := ht
    go_wp2_with fail
    refine (divide_sl _ _ (digs x.natAbs) (digs y.natAbs) _ SAW.out SBW.out (by have := HFX.out; unfold Fits at this; omega) (by have := HFY.out; unfold Fits at this; omega) (by rw [val_digs]; exact hyp)).mono ?_
    rw [val_digs, val_digs, ← HQ0.out, ← HR0.out]
    rintro e w3 ⟨v3, u3, rfl, hv3, hu3, hb3⟩
    have U3 := Lib.hid hu3
    obtain ⟨aou, capu, rfl, _, _, _, _, _⟩ := hu3
    have d0 := cell_below c0 hb3
    have d1 := cell_below c1 hb3
    have d2 := cell_below c2 hb3
    have d3 := cell_below c3 hb3
    have W3 : Below w.heap.size w w3 := B0.trans (hb3.mono B0.size)
    go_wp2_with fail
    refine (sum_sl _ _ (digs q0) [1] _ (hv3.below ((Below.refl _ _).alloc (Nat.le_refl _) _)) (Sl_lit1 w3 1 1 rfl (by omega)) (by have := HQL.out; omega) (by simp)).mono ?_
    rw [val_digs, show val [1] = 1 from rfl]
    rintro e w4 ⟨v4, rfl, hv4, hb4⟩
    have hb4' : Below w3.heap.size w3 w4 := ((Below.refl _ _).alloc (Nat.le_refl _) _).trans (hb4.mono (by simp))
    have hb34 : Below W.heap.size W w4 := hb3.trans (hb4'.mono hb3.size)
    have p0 := cell_below d0 hb4'
    have p1 := cell_below d1 hb4'
    have p2 := cell_below d2 hb4'
    have p3 := cell_below d3 hb4'
    have W4 : Below w.heap.size w w4 := W3.trans (hb4'.mono W3.size)
    go_wp2_with fail
    refine (difference_sl _ _ (digs y.natAbs) (digs r0) _ (SBW.out.below hb34) (U3.out.below hb4') (by have := HFY.out; unfold Fits at this; omega) (digs_length_mono (by have := HRL.out; omega)) (by rw [val_digs, val_digs]; have := HRL.out; omega)).mono ?_
    rw [val_digs, val_digs]
    rintro e w5 ⟨v5, rfl, hv5, hb5⟩
    have hb345 : Below W.heap.size W w5 := hb34.trans (hb5.mono hb34.size)
    have m0 := cell_below p0 hb5
    have m1 := cell_below p1 hb5
    have m2 := cell_below p2 hb5
    have m3 := cell_below p3 hb5
    have W5 : Below w.heap.size w w5 := W4.trans (hb5.mono W4.size)
    have Q5 := hv4.below hb5
    go_wp2_with fail
    refine (signed_z _ _ _ zq _ Q5 (by rw [val_digs]; simpa using HM.out.1)).mono ?_
    rintro e w7 ⟨v7, rfl, hzq, hb7⟩
    obtain ⟨ao7, cap7, rfl, sl7, _, _⟩ := hzq.parts
    go_wp2_with fail
    refine (signed_z _ _ _ zr _ (hv5.below hb7) (by rw [val_digs, sgnI_false, HM.out.2])).mono ?_
    rintro e w8 ⟨v8, rfl, hzr, hb8⟩
    obtain ⟨ao8, cap8, rfl, sl8, _, _⟩ := hzr.parts
    have hzq' := hzq.below hb8
    have r4 := ((K4.out.keep hb345).keep hb7).keep hb8
    have r5 := ((K5.out.keep hb345).keep hb7).keep hb8
    have HR4 := Lib.hid r4
    have HR5 := Lib.hid r5
    obtain ⟨⟨n4, ao4, len4, cap4, g0, g1⟩, g2, g3⟩ := r4
    obtain ⟨⟨n5, ao5, len5, cap5, f0, f1⟩, f2, f3⟩ := r5
    have B8 : Below w.heap.size w w8 := ((W5).trans (hb7.mono (W5).size)).trans (hb8.mono (Nat.le_trans (W5).size hb7.size))
    clear hzq
    go_wp2_with fail
    refine bodyPost_ret (v := .tuple #[.agg #[.bool (decide (zq < 0)), .slice ao7 (digs zq.natAbs).length cap7], .agg #[.bool (decide (zr < 0)), .slice ao8 (digs zr.natAbs).length cap8], .int .i64 0]) ?_ rfl
      ((ret_boxDM hzq' hzr HR4.out HR5.out (by omega) B8 (by omega) (by omega)).eq HZQ.out HZR.out rfl)
    simp [results, Tryz.results56, go_sem, g0, g1, f0, f1]
  · have HM := Lib.hid (hmath.2 hcase)
    have hcs : nx = false ∨ (nx = true ∧ r0 = 0) := by
      cases nx
      · exact .inl rfl
      · right; refine ⟨rfl, ?_⟩
        rcases Nat.eq_zero_or_pos r0 with h | h
        · exact h
        · exact absurd ⟨rfl, h⟩ hcase
    clear hmath hcase
    rcases hcs with rfl | ⟨rfl, hr00⟩
    · have htriv : True := trivial
      go_enter Tryz.func56, Tryz.ntmps56
      go_upto_region 1 with fail
      rw [← hW]
      clear hW
      go_wp2_with fail
      refine (trim_sl _ (digs y.natAbs) _ SBW.out).mono ?_
      rintro e w' ⟨rfl, vt, rfl, ht⟩
      have ht := ht _ SBW.out
      rw [val_digs] at ht
      obtain ⟨aot, capt, rfl, _, _, _, _, _⟩ := ht
      go_wp2_with fail
      refine (divide_sl _ _ (digs x.natAbs) (digs y.natAbs) _ SAW.out SBW.out (by have := HFX.out; unfold Fits at this; omega) (by have := HFY.out; unfold Fits at this; omega) (by rw [val_digs]; exact hyp)).mono ?_
      rw [val_digs, val_digs, ← HQ0.out, ← HR0.out]
      rintro e w3 ⟨v3, u3, rfl, hv3, hu3, hb3⟩
      have U3 := Lib.hid hu3
      obtain ⟨aou, capu, rfl, _, _, _, _, _⟩ := hu3
      have d0 := cell_below c0 hb3
      have d1 := cell_below c1 hb3
      have d2 := cell_below c2 hb3
      have d3 := cell_below c3 hb3
      have W3 : Below w.heap.size w w3 := B0.trans (hb3.mono B0.size)
      go_wp2_with fail
      refine (signed_z _ _ _ zq _ hv3 (by rw [val_digs]; simpa using HM.out.1)).mono ?_
      rintro e w7 ⟨v7, rfl, hzq, hb7⟩
      obtain ⟨ao7, cap7, rfl, sl7, _, _⟩ := hzq.parts
      go_wp2_with fail
      refine (signed_z _ _ _ zr _ (U3.out.below hb7) (by rw [val_digs, sgnI_false, HM.out.2])).mono ?_
      rintro e w8 ⟨v8, rfl, hzr, hb8⟩
      obtain ⟨ao8, cap8, rfl, sl8, _, _⟩ := hzr.parts
      have hzq' := hzq.below hb8
      have r4 := ((K4.out.keep hb3).keep hb7).keep hb8
      have r5 := ((K5.out.keep hb3).keep hb7).keep hb8
      have HR4 := Lib.hid r4
      have HR5 := Lib.hid r5
      obtain ⟨⟨n4, ao4, len4, cap4, g0, g1⟩, g2, g3⟩ := r4
      obtain ⟨⟨n5, ao5, len5, cap5, f0, f1⟩, f2, f3⟩ := r5
      have B8 : Below w.heap.size w w8 := ((W3).trans (hb7.mono (W3).size)).trans (hb8.mono (Nat.le_trans (W3).size hb7.size))
      clear hzq
      go_wp2_with fail
      refine bodyPost_ret (v := .tuple #[.agg #[.bool (decide (zq < 0)), .slice ao7 (digs zq.natAbs).length cap7], .agg #[.bool (decide (zr < 0)), .slice ao8 (digs zr.natAbs).length cap8], .int .i64 0]) ?_ rfl
        ((ret_boxDM hzq' hzr HR4.out HR5.out (by omega) B8 (by omega) (by omega)).eq HZQ.out HZR.out rfl)
      simp [results, Tryz.results56, go_sem, g0, g1, f0, f1]
    · have hdl3 : decide ((0 : Int) < ((digs r0).length : Int)) = false := by rw [hr00, digs_zero]; rfl
      have hdl4 : decide (0 < (digs r0).length) = false := by rw [hr00, digs_zero]; rfl
      have HR00 := Lib.hid hr00
      clear hr00
      go_enter Tryz.func56, Tryz.ntmps56
      go_upto_region 1 with fail
      rw [← hW]
      clear hW
      go_wp2_with fail
      refine (trim_sl _ (digs y.natAbs) _ SBW.out).mono ?_
      rintro e w' ⟨rfl, vt, rfl, ht⟩
      have ht := ht _ SBW.out
      rw [val_digs] at ht
      obtain ⟨aot, capt, rfl, _, _, _, _, _⟩ := ht
      go_wp2_with fail
      refine (divide_sl _ _ (digs x.natAbs) (digs y.natAbs) _ SAW.out SBW.out (by have := HFX.out; unfold Fits at this; omega) (by have := HFY.out; unfold Fits at this; omega) (by rw [val_digs]; exact hyp)).mono ?_
      rw [val_digs, val_digs, ← HQ0.out, ← HR0.out]
      rintro e w3 ⟨v3, u3, rfl, hv3, hu3, hb3⟩
      have U3 := Lib.hid hu3
      obtain ⟨aou, capu, rfl, _, _, _, _, _⟩ := hu3
      have d0 := cell_below c0 hb3
      have d1 := cell_below c1 hb3
      have d2 := cell_below c2 hb3
      have d3 := cell_below c3 hb3
      have W3 : Below w.heap.size w w3 := B0.trans (hb3.mono B0.size)
      go_wp2_with fail
      refine (signed_z _ _ _ zq _ hv3 (by rw [val_digs]; simpa using HM.out.1)).mono ?_
      rintro e w7 ⟨v7, rfl, hzq, hb7⟩
      obtain ⟨ao7, cap7, rfl, sl7, _, _⟩ := hzq.parts
      go_wp2_with fail
      refine (signed_z _ _ _ zr _ (U3.out.below hb7) (by rw [val_digs, sgnI_false, HM.out.2])).mono ?_
      rintro e w8 ⟨v8, rfl, hzr, hb8⟩
      obtain ⟨ao8, cap8, rfl, sl8, _, _⟩ := hzr.parts
      have hzq' := hzq.below hb8
      have r4 := ((K4.out.keep hb3).keep hb7).keep hb8
      have r5 := ((K5.out.keep hb3).keep hb7).keep hb8
      have HR4 := Lib.hid r4
      have HR5 := Lib.hid r5
      obtain ⟨⟨n4, ao4, len4, cap4, g0, g1⟩, g2, g3⟩ := r4
      obtain ⟨⟨n5, ao5, len5, cap5, f0, f1⟩, f2, f3⟩ := r5
      have B8 : Below w.heap.size w w8 := ((W3).trans (hb7.mono (W3).size)).trans (hb8.mono (Nat.le_trans (W3).size hb7.size))
      clear hzq
      go_wp2_with fail
      refine bodyPost_ret (v := .tuple #[.agg #[.bool (decide (zq < 0)), .slice ao7 (digs zq.natAbs).length cap7], .agg #[.bool (decide (zr < 0)), .slice ao8 (digs zr.natAbs).length cap8], .int .i64 0]) ?_ rfl
        ((ret_boxDM hzq' hzr HR4.out HR5.out (by omega) B8 (by omega) (by omega)).eq HZQ.out HZR.out rfl)
      simp [results, Tryz.results56, go_sem, g0, g1, f0, f1]
end Go.Proofs.YtndpjfhhigpbhaaGreat
