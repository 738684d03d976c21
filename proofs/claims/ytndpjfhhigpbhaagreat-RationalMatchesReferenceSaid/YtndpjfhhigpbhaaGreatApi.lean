/- The functions of package integer: signs, comparison, sums, products. -/
import Derived.Test.YtndpjfhhigpbhaaGreatSum
import Derived.Test.YtndpjfhhigpbhaaGreatCmp
import Derived.Test.YtndpjfhhigpbhaaGreatDiff
import Derived.Test.YtndpjfhhigpbhaaGreatProd
import Derived.Test.YtndpjfhhigpbhaaGreatSmall
import Derived.Deep.RegionHeld3
import Derived.Deep.DeepCutAuto
import Derived.Deep.CutBlock
namespace Go.Proofs.YtndpjfhhigpbhaaGreat
open Go.RowKit W
/-- What a function leaves that returns an int. -/
def RetN (w0 : World) (x : Int) (e : Ending) (w' : World) : Prop := e = .returned (.int .i64 x) ∧ Below w0.heap.size w0 w'
/-- What a function leaves that returns a bool. -/
def RetB (w0 : World) (x : Bool) (e : Ending) (w' : World) : Prop := e = .returned (.bool x) ∧ Below w0.heap.size w0 w'
/-- The sign: -1, 0 or 1. -/
def sgn (z : Int) : Int := cmpI z 0
/-- The words of an integer are not too many. -/
def Fits (z : Int) (n : Nat) : Prop := (digs z.natAbs).length ≤ n
theorem abs_zero_iff (z : Int) : ((digs z.natAbs).length : Int) = 0 ↔ z = 0 := by
  constructor
  · intro h
    have h1 := (digs_nil_iff z.natAbs).1 (List.eq_nil_of_length_eq_zero (by omega))
    omega
  · intro h
    subst h
    rw [Int.natAbs_zero, digs_zero]; rfl
set_option maxHeartbeats 1000000 in
theorem Sign_z (v : Value) (z : Int) (w : World) (h : IsI w v z) :
    Calls Tryz.prog 52 #[v] w (RetN w (sgn z)) := by
  obtain ⟨s, rfl, hs⟩ := h
  obtain ⟨ao, cap, rfl, h1, h2, h3, hn, h4⟩ := hs
  clear h4 hn h3
  have hz0 := abs_zero_iff z
  rcases Int.lt_trichotomy z 0 with hz | hz | hz
  · have hb : (((digs z.natAbs).length : Int) == 0) = false := by rw [beq_eq_false_iff_ne]; intro h; have := hz0.1 h; omega
    rw [show decide (z < 0) = true by simpa using hz, show sgn z = -1 from cmpI_lt hz]
    clear hz0
    go_enter Tryz.func52, Tryz.ntmps52
    go_wp2_with fail
    go_ret
    exact ⟨rfl, (Below.refl _ _).alloc (Nat.le_refl _) _⟩
  · have hb : (((digs z.natAbs).length : Int) == 0) = true := by rw [beq_iff_eq]; exact hz0.2 hz
    rw [show sgn z = 0 from cmpI_eq hz]
    clear hz0 hz
    go_enter Tryz.func52, Tryz.ntmps52
    go_wp2_with fail
    go_ret
    exact ⟨rfl, (Below.refl _ _).alloc (Nat.le_refl _) _⟩
  · have hb : (((digs z.natAbs).length : Int) == 0) = false := by rw [beq_eq_false_iff_ne]; intro h; have := hz0.1 h; omega
    rw [show decide (z < 0) = false by simp; omega, show sgn z = 1 from cmpI_gt hz]
    clear hz0
    go_enter Tryz.func52, Tryz.ntmps52
    go_wp2_with fail
    go_ret
    exact ⟨rfl, (Below.refl _ _).alloc (Nat.le_refl _) _⟩
/-- An integer value, written out: its sign and its slice. -/
theorem IsI.parts {w : World} {v : Value} {z : Int} (h : IsI w v z) : ∃ (ao : Option Addr) (cap : Nat), v = .agg #[.bool (decide (z < 0)), .slice ao (digs z.natAbs).length cap] ∧ Sl w (.slice ao (digs z.natAbs).length cap) (digs z.natAbs) ∧ (digs z.natAbs).length ≤ cap ∧ cap ≤ 9223372036854775807 := by
  obtain ⟨s, rfl, hs⟩ := h
  obtain ⟨ao, cap, rfl, h1, h2, h3, hn, h4⟩ := hs
  exact ⟨ao, cap, rfl, ⟨ao, cap, rfl, h1, h2, h3, hn, h4⟩, h1, by unfold maxLen at h2; omega⟩
theorem sgn_vals (z : Int) : (z < 0 ∧ sgn z = -1) ∨ (z = 0 ∧ sgn z = 0) ∨ (0 < z ∧ sgn z = 1) := by
  rcases Int.lt_trichotomy z 0 with hz | hz | hz
  · exact .inl ⟨hz, cmpI_lt hz⟩
  · exact .inr (.inl ⟨hz, cmpI_eq hz⟩)
  · exact .inr (.inr ⟨hz, cmpI_gt hz⟩)
/-- The world behind the entry of a function that takes two integers: each lies in a box of its own. -/
theorem boxes2 (w : World) (n1 n2 : Bool) (s1 s2 : Value) : ∃ W, W = ((w.alloc (.cells #[.bool n1, s1] 29)).alloc (.cells #[.bool n2, s2] 29)) ∧ W.heap.size = w.heap.size + 2 ∧ Below w.heap.size w W ∧
    W.cell? ⟨w.heap.size, 0, none⟩ = some (.bool n1) ∧ W.cell? ⟨w.heap.size, 1, none⟩ = some s1 ∧ W.cell? ⟨w.heap.size + 1, 0, none⟩ = some (.bool n2) ∧ W.cell? ⟨w.heap.size + 1, 1, none⟩ = some s2 := by
  refine ⟨_, rfl, by simp, ((Below.refl _ _).alloc (Nat.le_refl _) _).alloc (by simp) _, ?_, ?_, ?_, ?_⟩ <;> simp [go_sem]
theorem cmp_of_sgn_lt {x y : Int} (h : sgn x < sgn y) : cmpI x y = -1 := by
  rcases sgn_vals x with ⟨h1, h2⟩ | ⟨h1, h2⟩ | ⟨h1, h2⟩ <;> rcases sgn_vals y with ⟨h3, h4⟩ | ⟨h3, h4⟩ | ⟨h3, h4⟩ <;> first | (exfalso; omega) | exact cmpI_lt (by omega)
theorem cmp_of_sgn_gt {x y : Int} (h : sgn y < sgn x) : cmpI x y = 1 := by
  rcases sgn_vals x with ⟨h1, h2⟩ | ⟨h1, h2⟩ | ⟨h1, h2⟩ <;> rcases sgn_vals y with ⟨h3, h4⟩ | ⟨h3, h4⟩ | ⟨h3, h4⟩ <;> first | (exfalso; omega) | exact cmpI_gt (by omega)
theorem cmpI_congr {x y x' y' : Int} (h1 : x < y ↔ x' < y') (h2 : x = y ↔ x' = y') : cmpI x y = cmpI x' y' := by
  unfold cmpI
  by_cases a : x < y
  · rw [if_pos a, if_pos (h1.1 a)]
  · rw [if_neg a, if_neg (fun h => a (h1.2 h))]
    by_cases b : x = y
    · rw [if_pos b, if_pos (h2.1 b)]
    · rw [if_neg b, if_neg (fun h => b (h2.2 h))]
theorem cmp_neg {x y : Int} (h : sgn x = sgn y) (hn : sgn x < 0) : cmpI (y.natAbs : Int) (x.natAbs : Int) = cmpI x y := by
  rcases sgn_vals x with ⟨h1, h2⟩ | ⟨h1, h2⟩ | ⟨h1, h2⟩ <;> rcases sgn_vals y with ⟨h3, h4⟩ | ⟨h3, h4⟩ | ⟨h3, h4⟩ <;> first | (exfalso; omega) | exact cmpI_congr (by omega) (by omega)
theorem cmp_pos {x y : Int} (h : sgn x = sgn y) (hn : ¬ sgn x < 0) : cmpI (x.natAbs : Int) (y.natAbs : Int) = cmpI x y := by
  rcases sgn_vals x with ⟨h1, h2⟩ | ⟨h1, h2⟩ | ⟨h1, h2⟩ <;> rcases sgn_vals y with ⟨h3, h4⟩ | ⟨h3, h4⟩ | ⟨h3, h4⟩ <;> first | (exfalso; omega) | exact cmpI_congr (by omega) (by omega)
set_option maxHeartbeats 2000000 in
theorem Cmp_z (va vb : Value) (x y : Int) (w : World) (ha : IsI w va x) (hb : IsI w vb y) :
    Calls Tryz.prog 25 #[va, vb] w (RetN w (cmpI x y)) := by
  obtain ⟨aoa, capa, rfl, sa, ha1, ha2⟩ := ha.parts
  obtain ⟨aob, capb, rfl, sb, hb1, hb2⟩ := hb.parts
  have HA := Lib.hid ha
  have HB := Lib.hid hb
  have SA := Lib.hid sa
  have SB := Lib.hid sb
  clear ha hb sa sb
  obtain ⟨W, hW, hsz, B0, c0, c1, c2, c3⟩ := boxes2 w (decide (x < 0)) (decide (y < 0)) (.slice aoa (digs x.natAbs).length capa) (.slice aob (digs y.natAbs).length capb)
  have HWS := Lib.hid hsz
  go_enter Tryz.func25, Tryz.ntmps25
  go_upto_region 1 with fail
  rw [← hW]
  clear hW hsz
  go_region_held3 (fun w' => w'.cell? ⟨w.heap.size, 0, none⟩ = some (.bool (decide (x < 0))) ∧ w'.cell? ⟨w.heap.size, 1, none⟩ = some (.slice aoa (digs x.natAbs).length capa) ∧ w'.cell? ⟨w.heap.size + 1, 0, none⟩ = some (.bool (decide (y < 0))) ∧ w'.cell? ⟨w.heap.size + 1, 1, none⟩ = some (.slice aob (digs y.natAbs).length capb))
    (first | exact ⟨c0, c1, c2, c3⟩ | exact ⟨d0, d1, d2, d3⟩ | exact ⟨f0, f1, f2, f3⟩)
    (first
      | (go_at_call_of 52 (Value.slice aoa (digs x.natAbs).length capa); refine (Sign_z _ x _ ?_).mono ?_; exact HA.out.below B0.drew; rintro e w1 ⟨rfl, hb1'⟩; have d0 := cell_below (w := W.drew) c0 hb1'; have d1 := cell_below (w := W.drew) c1 hb1'; have d2 := cell_below (w := W.drew) c2 hb1'; have d3 := cell_below (w := W.drew) c3 hb1')
      | (go_at_call_of 52 (Value.slice aob (digs y.natAbs).length capb); refine (Sign_z _ y _ ?_).mono ?_; exact HB.out.below (B0.drew.trans (hb1'.mono B0.size)); rintro e w2 ⟨rfl, hb2'⟩; have f0 := cell_below d0 hb2'; have f1 := cell_below d1 hb2'; have f2 := cell_below d2 hb2'; have f3 := cell_below d3 hb2'))
  have B2 : Below w.heap.size w w2 := (B0.drew.trans (hb1'.mono B0.size)).trans (hb2'.mono (by have := hb1'.size; have := B0.size; simp at *; omega))
  have SA2 := Lib.hid (SA.out.below B2)
  have SB2 := Lib.hid (SB.out.below B2)
  clear c0 c1 c2 c3 d0 d1 d2 d3 hb1' hb2' B0
  by_cases hst : sgn x = sgn y
  · have h1 : (sgn x != sgn y) = false := by rw [bne_eq_false_iff_eq]; exact hst
    by_cases hneg : sgn x < 0
    · have HC := Lib.hid (cmp_neg hst hneg)
      clear hst
      go_wp2_with fail
      refine (compare_any _ _ y.natAbs x.natAbs _ SB2.out SA2.out).mono ?_
      rintro e w3 ⟨rfl, q, rfl⟩
      rw [HC.out]
      go_wp2_with fail
      go_ret
      exact ⟨rfl, bel_drewN B2 _⟩
    · have HC := Lib.hid (cmp_pos hst hneg)
      clear hst
      go_wp2_with fail
      refine (compare_any _ _ x.natAbs y.natAbs _ SA2.out SB2.out).mono ?_
      rintro e w3 ⟨rfl, q, rfl⟩
      rw [HC.out]
      go_wp2_with fail
      go_ret
      exact ⟨rfl, bel_drewN B2 _⟩
  · have h1 : (sgn x != sgn y) = true := by rw [bne_iff_ne]; exact hst
    by_cases hlt : sgn x < sgn y
    · have HC := Lib.hid (cmp_of_sgn_lt hlt)
      clear hst
      go_wp2_with fail
      go_ret
      exact ⟨by rw [HC.out]; rfl, B2⟩
    · have HC := Lib.hid (cmp_of_sgn_gt (show sgn y < sgn x by omega))
      clear hst
      go_wp2_with fail
      go_ret
      exact ⟨by rw [HC.out]; rfl, B2⟩
end Go.Proofs.YtndpjfhhigpbhaaGreat
