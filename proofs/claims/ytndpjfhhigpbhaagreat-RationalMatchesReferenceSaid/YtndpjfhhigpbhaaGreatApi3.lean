/- The functions of package integer: conversions, bits, powers, roots, division. -/
import Derived.Test.YtndpjfhhigpbhaaGreatApi2
import Derived.Test.YtndpjfhhigpbhaaGreatUp
import Derived.Test.YtndpjfhhigpbhaaGreatUp
import Derived.Test.YtndpjfhhigpbhaaGreatSum
import Derived.Test.YtndpjfhhigpbhaaGreatDivide
import Derived.Deep.LoopGhost
namespace Go.Proofs.YtndpjfhhigpbhaaGreat
open Go.RowKit W
/-- A box for the result. -/
theorem boxes01 (w : World) : ∃ W, W = w.alloc (.cells #[.bool false, .slice none 0 0] 29) ∧ W.heap.size = w.heap.size + 1 ∧ Below w.heap.size w W ∧ RBox W w.heap.size := by
  refine ⟨_, rfl, by simp, (Below.refl _ _).alloc (Nat.le_refl _) _, ⟨⟨false, none, 0, 0, ?_, ?_⟩, ?_, ?_⟩⟩ <;> (try simp [go_sem]) <;> rfl
/-- A box of one integer. -/
theorem boxes10 (w : World) (n1 : Bool) (s1 : Value) : ∃ W, W = w.alloc (.cells #[.bool n1, s1] 29) ∧ W.heap.size = w.heap.size + 1 ∧ Below w.heap.size w W ∧ Box W w.heap.size n1 s1 := by
  refine ⟨_, rfl, by simp, (Below.refl _ _).alloc (Nat.le_refl _) _, ⟨?_, ?_⟩⟩ <;> (try simp [go_sem]) <;> rfl
theorem RetZ.eq {w : World} {z n : Int} {e : Ending} {w' : World} (h : RetZ w z e w') (hz : z = n) : RetZ w n e w' := by subst hz; exact h
set_option maxHeartbeats 1000000 in
theorem Of_z (n : Int) (w : World) (h1 : -9223372036854775808 ≤ n) (h2 : n ≤ 9223372036854775807) :
    Calls Tryz.prog 36 #[.int .i64 n] w (RetZ w n) := by
  obtain ⟨W, hW, hsz, B0, k1⟩ := boxes01 w
  have K1 := Lib.hid k1
  clear k1
  by_cases hn : n < 0
  · obtain ⟨k, hk⟩ : ∃ k : Nat, n = -(k : Int) := ⟨n.natAbs, by omega⟩
    have hc : IntKind.u64.wrap (-IntKind.u64.wrap n) = (k : Int) := by simp only [IntKind.wrap_u64]; omega
    have hz : sgnI true k = n := by simp [sgnI]; omega
    have HZ := Lib.hid hz
    have hk2 : k < 18446744073709551616 := by omega
    clear hk hz
    go_enter Tryz.func36, Tryz.ntmps36
    go_upto_region 1 with fail
    rw [← hW]
    clear hW
    go_wp2_with fail
    refine (words_sl k _ hk2).mono ?_
    rintro e w1 ⟨v1, rfl, hv1, hb1⟩
    go_wp2_with fail
    obtain ⟨z, hzk⟩ : ∃ z : Int, z = n := ⟨_, rfl⟩
    rw [← hzk] at HZ ⊢
    have HZK := Lib.hid hzk
    clear hzk hn hc h1 h2
    refine (signed_z _ _ _ z _ hv1 (by rw [val_digs]; exact HZ.out)).mono ?_
    rintro e w2 ⟨v2, rfl, hz, hb2⟩
    obtain ⟨ao2, cap2, rfl, sl2, _, _⟩ := hz.parts
    have hrb := (K1.out.keep hb1).keep hb2
    have HRB := Lib.hid hrb
    obtain ⟨⟨n0, ao0, len0, cap0, g0, g1⟩, g2, g3⟩ := hrb
    have B2 : Below w.heap.size w w2 := (B0.trans (hb1.mono B0.size)).trans (hb2.mono (Nat.le_trans B0.size hb1.size))
    go_wp2_with fail
    refine bodyPost_ret (v := .agg #[.bool (decide (z < 0)), .slice ao2 (digs z.natAbs).length cap2]) ?_ rfl ((ret_box hz HRB.out B2 (by omega)).eq HZK.out)
    simp [results, Tryz.results36, go_sem, g0, g1]
  · obtain ⟨k, rfl⟩ : ∃ k : Nat, n = (k : Int) := ⟨n.natAbs, by omega⟩
    have hz : sgnI false k = (k : Int) := rfl
    have HZ := Lib.hid hz
    have hd : decide ((k : Int) < 0) = false := by simp
    go_enter Tryz.func36, Tryz.ntmps36
    go_upto_region 1 with fail
    rw [← hW]
    clear hW
    go_wp2_with fail
    refine (words_sl k _ (by omega)).mono ?_
    rintro e w1 ⟨v1, rfl, hv1, hb1⟩
    go_wp2_with fail
    obtain ⟨z, hzk⟩ : ∃ z : Int, z = (k : Int) := ⟨_, rfl⟩
    rw [← hzk]
    refine (signed_z _ _ _ z _ hv1 (by rw [val_digs, hzk]; rfl)).mono ?_
    have HZK := Lib.hid hzk
    clear hzk hz hd
    rintro e w2 ⟨v2, rfl, hz, hb2⟩
    obtain ⟨ao2, cap2, rfl, sl2, _, _⟩ := hz.parts
    have hrb := (K1.out.keep hb1).keep hb2
    have HRB := Lib.hid hrb
    obtain ⟨⟨n0, ao0, len0, cap0, g0, g1⟩, g2, g3⟩ := hrb
    have B2 : Below w.heap.size w w2 := (B0.trans (hb1.mono B0.size)).trans (hb2.mono (Nat.le_trans B0.size hb1.size))
    go_wp2_with fail
    refine bodyPost_ret (v := .agg #[.bool (decide (z < 0)), .slice ao2 (digs z.natAbs).length cap2]) ?_ rfl ((ret_box hz HRB.out B2 (by omega)).eq HZK.out)
    simp [results, Tryz.results36, go_sem, g0, g1]
set_option maxHeartbeats 1000000 in
theorem Bits_z (va : Value) (x : Int) (w : World) (ha : IsI w va x) (hx : Fits x 1000000000) :
    Calls Tryz.prog 61 #[va] w (RetN w (bitsN x.natAbs)) := by
  obtain ⟨aoa, capa, rfl, sa, ha1, ha2⟩ := ha.parts
  have SA := Lib.hid sa
  have HF := Lib.hid hx
  clear ha sa hx
  obtain ⟨W, hW, hsz, B0, k0⟩ := boxes10 w (decide (x < 0)) (.slice aoa (digs x.natAbs).length capa)
  have c0 := k0.1
  have c1 := k0.2
  clear k0
  go_enter Tryz.func61, Tryz.ntmps61
  go_upto_region 1 with fail
  rw [← hW]
  clear hW
  go_wp2_with fail
  refine (width_sl _ x.natAbs _ (SA.out.below B0) HF.out).mono ?_
  rintro e w' ⟨rfl, rfl⟩
  go_wp2_with fail
  go_ret
  exact ⟨rfl, B0⟩
/-- Is the last word not 0 (and where there is none: no sign)? -/
def validB (n : Bool) (l : List Nat) : Bool := if l.length = 0 then !n else decide (gd l (l.length - 1) ≠ 0)
set_option maxHeartbeats 1000000 in
theorem Valid_any (n : Bool) (s : Value) (l : List Nat) (w : World) (ha : Sl w s l) :
    Calls Tryz.prog 94 #[.agg #[.bool n, s]] w (RetB w (validB n l)) := by
  obtain ⟨ao, cap, rfl, h1, h2, h3, hn, h4⟩ := ha
  have H4 := Lib.hid h4
  clear h4 hn h3
  unfold maxLen at h2
  obtain ⟨W, hW, hsz, B0, k0⟩ := boxes10 w n (.slice ao l.length cap)
  have c0 := k0.1
  have c1 := k0.2
  clear k0
  by_cases hl : l.length = 0
  · have hr : validB n l = !n := by unfold validB; rw [if_pos hl]
    rw [hr]
    have hb : ((l.length : Int) == 0) = true := by rw [hl]; rfl
    clear hr hl
    go_enter Tryz.func94, Tryz.ntmps94
    go_upto_region 1 with fail
    rw [← hW]
    clear hW
    go_wp2_with fail
    go_ret
    exact ⟨rfl, B0⟩
  · obtain ⟨k, hk⟩ : ∃ k, l.length = k + 1 := ⟨l.length - 1, by omega⟩
    have hb : ((l.length : Int) == 0) = false := by rw [beq_eq_false_iff_ne]; omega
    obtain ⟨b, off, rfl, hc⟩ := H4.out k (by omega)
    have hc := cell_below hc B0
    have hk1 : (l.length : Int) - 1 = (k : Int) := by omega
    by_cases hg : gd l k = 0
    · have hr : validB n l = false := by unfold validB; rw [if_neg hl, hk, Nat.add_sub_cancel, hg]; rfl
      rw [hr]
      rw [hg] at hc
      clear hr hl hk hg
      go_enter Tryz.func94, Tryz.ntmps94
      go_upto_region 1 with fail
      rw [← hW]
      clear hW
      go_wp2_with fail
      go_ret
      exact ⟨rfl, B0⟩
    · have hr : validB n l = true := by unfold validB; rw [if_neg hl, hk, Nat.add_sub_cancel]; exact decide_eq_true hg
      rw [hr]
      have hg2 : (((gd l k : Nat) : Int) != 0) = true := by rw [bne_iff_ne]; omega
      clear hr hl hk hg
      go_enter Tryz.func94, Tryz.ntmps94
      go_upto_region 1 with fail
      rw [← hW]
      clear hW
      go_wp2_with fail
      go_ret
      exact ⟨rfl, B0⟩
theorem Valid_z (va : Value) (x : Int) (w : World) (ha : IsI w va x) :
    Calls Tryz.prog 94 #[va] w (RetB w true) := by
  obtain ⟨s, rfl, hs⟩ := ha
  have := Valid_any (decide (x < 0)) s _ w hs
  have e : validB (decide (x < 0)) (digs x.natAbs) = true := by
    unfold validB
    by_cases h : (digs x.natAbs).length = 0
    · rw [if_pos h]
      have := (abs_zero_iff x).1 (by omega)
      subst this; rfl
    · rw [if_neg h]
      have hx : 0 < x.natAbs := by
        rcases Nat.eq_zero_or_pos x.natAbs with e | e
        · rw [e, digs_zero] at h; exact absurd rfl h
        · exact e
      obtain ⟨l, y, e1, e2, _⟩ := digs_last x.natAbs hx
      rw [e1, List.length_append, List.length_singleton, Nat.add_sub_cancel, gd_append_right _ _ _ (Nat.le_refl _), Nat.sub_self]
      exact decide_eq_true (by show y ≠ 0; omega)
  rwa [e] at this
end Go.Proofs.YtndpjfhhigpbhaaGreat
