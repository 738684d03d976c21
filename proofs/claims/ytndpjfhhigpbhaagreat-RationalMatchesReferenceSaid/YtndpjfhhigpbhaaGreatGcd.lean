/- Gcd: the greatest common divisor. -/
import Derived.Test.YtndpjfhhigpbhaaGreatDivMod
namespace Go.Proofs.YtndpjfhhigpbhaaGreat
open Go.RowKit W
/-- What holds of the two numbers of Euclid's steps. -/
def GcdIs (X Y G : Nat) : Prop := Nat.gcd X Y = G
theorem GcdIs.step {X Y G : Nat} (h : GcdIs X Y G) : GcdIs Y (X % Y) G := by
  unfold GcdIs at *
  rw [← h, Nat.gcd_comm X Y, Nat.gcd_rec Y X, Nat.gcd_comm]
theorem GcdIs.done {X G : Nat} (h : GcdIs X 0 G) : X = G := by unfold GcdIs at h; rwa [Nat.gcd_zero_right] at h
set_option maxRecDepth 100000 in
set_option maxHeartbeats 4000000 in
theorem Gcd_z (va vb : Value) (x y : Int) (w : World) (ha : IsI w va x) (hb : IsI w vb y) (hx : Fits x 900000000) (hy : Fits y 900000000) :
    Calls Tryz.prog 82 #[va, vb] w (RetZ w (Nat.gcd x.natAbs y.natAbs : Nat)) := by
  obtain ⟨aoa, capa, rfl, sa, ha1, ha2⟩ := ha.parts
  obtain ⟨aob, capb, rfl, sb, hb1, hb2⟩ := hb.parts
  have SA := Lib.hid sa
  have SB := Lib.hid sb
  have HFX := Lib.hid hx
  have HFY := Lib.hid hy
  clear ha sa hx hb sb hy
  obtain ⟨nx, hnx⟩ : ∃ nx, nx = decide (x < 0) := ⟨_, rfl⟩
  obtain ⟨ny, hny⟩ : ∃ ny, ny = decide (y < 0) := ⟨_, rfl⟩
  rw [← hnx, ← hny]
  clear hnx hny
  obtain ⟨A, hA⟩ : ∃ A, A = x.natAbs := ⟨_, rfl⟩
  obtain ⟨Bn, hB⟩ : ∃ B, B = y.natAbs := ⟨_, rfl⟩
  unfold Fits at HFX HFY
  rw [← hA] at SA HFX ha1 ⊢
  rw [← hB] at SB HFY hb1 ⊢
  clear hA hB
  obtain ⟨G, hG⟩ : ∃ G, G = Nat.gcd A Bn := ⟨_, rfl⟩
  rw [← hG]
  obtain ⟨zG, hzG⟩ : ∃ z : Int, z = (G : Int) := ⟨_, rfl⟩
  rw [← hzG]
  have HZG := Lib.hid hzG
  have HG : GcdIs A Bn G := hG.symm
  clear hG hzG
  obtain ⟨W, hW, hsz, B0, k0, k1, k2⟩ := boxes21 w nx ny (.slice aoa (digs A).length capa) (.slice aob (digs Bn).length capb)
  have c1 := k0.2
  have c3 := k1.2
  have K4 := Lib.hid k2
  have SAW := Lib.hid (SA.out.below B0)
  have SBW := Lib.hid (SB.out.below B0)
  clear k0 k1 k2
  go_enter Tryz.func82, Tryz.ntmps82
  go_upto_region 1 with fail
  rw [← hW]
  clear hW
  go_region_held3 (fun w' => w'.cell? ⟨w.heap.size, 1, none⟩ = some (.slice aoa (digs A).length capa) ∧ w'.cell? ⟨w.heap.size + 1, 1, none⟩ = some (.slice aob (digs Bn).length capb))
    (first | exact ⟨c1, c3⟩ | exact ⟨d1, d3⟩ | exact ⟨f1, f3⟩)
    (first
      | (go_at_call_of 85 (Value.slice aoa (digs A).length capa); refine (trim_sl _ (digs A) _ ?_).mono ?_; exact SAW.out; rintro e w' ⟨rfl, vt1, rfl, ht1⟩)
      | (go_at_call_of 85 (Value.slice aob (digs Bn).length capb); refine (trim_sl _ (digs Bn) _ ?_).mono ?_; exact SBW.out.below (bel_undrew hb1'); rintro e w' ⟨rfl, vt2, rfl, ht2⟩)
      | (go_at_call_of 83 vt1; refine (clone_sl _ (digs (val (digs A))) _ ?_ ?_).mono ?_; exact ht1 _ SAW.out; (rw [val_digs]; have := HFX.out; omega); rintro e w1 ⟨v1, rfl, hv1, hb1'⟩; have d1 := cell_drew c1 hb1'; have d3 := cell_drew c3 hb1')
      | (go_at_call_of 83 vt2; refine (clone_sl _ (digs (val (digs Bn))) _ ?_ ?_).mono ?_; exact ht2 _ (SBW.out.below (bel_undrew hb1')); (rw [val_digs]; have := HFY.out; omega); rintro e w2 ⟨v2, rfl, hv2, hb2'⟩; have f1 := cell_below d1 hb2'; have f3 := cell_below d3 hb2'))
  rw [val_digs] at hv1 hv2
  have HV1 := hv1.below hb2'
  have BW2 : Below W.heap.size W w2 := (bel_undrew hb1').trans (hb2'.mono hb1'.size)
  clear c1 c3 d1 d3 f1 f3 ht1 ht2 hv1 hb1' hb2'
  go_wp2_with fail
  go_loopg [5, 6] Bn (fun Y vx vy wr => ∃ X, Sl wr vx (digs X) ∧ Sl wr vy (digs Y) ∧ GcdIs X Y G ∧ (digs X).length ≤ 900000000 ∧ (digs Y).length ≤ 900000000 ∧ Below W.heap.size W wr)
  case atStart => exact ⟨A, HV1, hv2, HG, HFX.out, HFY.out, BW2⟩
  case round =>
    clear HV1 hv2 HG BW2
    obtain ⟨Y, rfl⟩ : ∃ Y, Y = gk := ⟨_, rfl⟩
    obtain ⟨X, hX, hY, hG, hlX, hlY, hbel⟩ := hrel
    have HXS := Lib.hid hX
    have HYS := Lib.hid hY
    obtain ⟨aox, capx, rfl, x1, x2, _, _, _⟩ := hX
    obtain ⟨aoy, capy, rfl, y1, y2, _, _, _⟩ := hY
    unfold maxLen at x2 y2
    by_cases hY0 : Y = 0
    · subst hY0
      have hGx := hG.done
      have hd : decide ((0 : Int) < ((digs 0).length : Int)) = false := by rw [digs_zero]; rfl
      have hd' : decide (0 < (digs 0).length) = false := by rw [digs_zero]; rfl
      have HGX := Lib.hid hGx
      clear hGx hG
      go_wp2_with fail
      refine (signed_z _ _ (digs X) zG _ HXS.out (by rw [val_digs, sgnI_false, HZG.out, HGX.out])).mono ?_
      rintro e w7 ⟨v7, rfl, hz7, hb7⟩
      obtain ⟨ao7, cap7, rfl, sl7, _, _⟩ := hz7.parts
      have r4 := (K4.out.keep hbel).keep hb7
      have HR4 := Lib.hid r4
      obtain ⟨⟨n4, ao4, len4, cap4, g0, g1⟩, g2, g3⟩ := r4
      have B7 : Below w.heap.size w w7 := (B0.trans ((hbel).mono B0.size)).trans (hb7.mono (Nat.le_trans B0.size (hbel).size))
      go_wp2_with fail
      refine bodyPost_ret (v := .agg #[.bool (decide (zG < 0)), .slice ao7 (digs zG.natAbs).length cap7]) ?_ rfl (ret_box hz7 HR4.out B7 (by omega))
      simp [results, Tryz.results82, go_sem, g0, g1]
    · have hYl : (digs Y).length ≠ 0 := fun e => hY0 ((digs_nil_iff _).1 (List.eq_nil_of_length_eq_zero e))
      have hd : decide ((0 : Int) < ((digs Y).length : Int)) = true := by simp; omega
      have hd' : decide (0 < (digs Y).length) = true := by simp; omega
      by_cases hsm : (digs X).length ≤ 2 ∧ (digs Y).length ≤ 2
      · have e1 : decide (((digs X).length : Int) ≤ 2) = true := by simp; omega
        have e2 : decide (((digs Y).length : Int) ≤ 2) = true := by simp; omega
        have e1' : decide ((digs X).length ≤ 2) = true := by simp; omega
        have e2' : decide ((digs Y).length ≤ 2) = true := by simp; omega
        have hX64 : X < 18446744073709551616 := by
          have h1 := val_lt (Wd_digs X)
          rw [val_digs] at h1
          have h2 := Nat.pow_le_pow_right (n := 4294967296) (by omega) hsm.1
          omega
        have hY64 : Y < 18446744073709551616 := by
          have h1 := val_lt (Wd_digs Y)
          rw [val_digs] at h1
          have h2 := Nat.pow_le_pow_right (n := 4294967296) (by omega) hsm.2
          omega
        have HL1 := Lib.hid hsm.1
        have HL2 := Lib.hid hsm.2
        clear hsm hYl
        go_wp2_with fail
        refine (value_sl _ (digs X) _ HXS.out HL1.out).mono ?_
        rw [val_digs]
        rintro e w' ⟨rfl, rfl⟩
        go_wp2_with fail
        refine (value_sl _ (digs Y) _ HYS.out HL2.out).mono ?_
        rw [val_digs]
        rintro e w' ⟨rfl, rfl⟩
        go_wp2_with fail
        clear e1 e2 e1' e2' hd hd'
        obtain ⟨wo, rfl⟩ : ∃ wo : World, wo = wr := ⟨_, rfl⟩
        go_loopw [7, 8] (fun sm sn wx => ∃ m n : Nat, sm = .int .u64 m ∧ sn = .int .u64 n ∧ m < 18446744073709551616 ∧ n < 18446744073709551616 ∧ GcdIs m n G ∧ ∃ d, wx = wo.drewN d) (fun _ sn _ => (intOf sn).toNat)
        case atStart => exact ⟨X, Y, rfl, rfl, hX64, hY64, hG, 0, rfl⟩
        case round =>
          obtain ⟨m, n, rfl, rfl, hm, hn, hg, d, rfl⟩ := hrel
          by_cases hn0 : n = 0
          · subst hn0
            have HGX := Lib.hid hg.done
            have hf : decide ((0 : Int) < ((0 : Nat) : Int)) = false := rfl
            clear hg hG
            go_wp2_with fail
            refine (words_sl m _ hm).mono ?_
            rintro e w6 ⟨v6, rfl, hv6, hb6⟩
            have hbel6 := hbel.trans ((bel_undrewN hb6).mono hbel.size)
            go_wp2_with fail
            refine (signed_z _ _ (digs m) zG _ hv6 (by rw [val_digs, sgnI_false, HZG.out, HGX.out])).mono ?_
            rintro e w7 ⟨v7, rfl, hz7, hb7⟩
            obtain ⟨ao7, cap7, rfl, sl7, _, _⟩ := hz7.parts
            have r4 := (K4.out.keep hbel6).keep hb7
            have HR4 := Lib.hid r4
            obtain ⟨⟨n4, ao4, len4, cap4, g0, g1⟩, g2, g3⟩ := r4
            have B7 : Below w.heap.size w w7 := (B0.trans ((hbel6).mono B0.size)).trans (hb7.mono (Nat.le_trans B0.size (hbel6).size))
            go_wp2_with fail
            refine bodyPost_ret (v := .agg #[.bool (decide (zG < 0)), .slice ao7 (digs zG.natAbs).length cap7]) ?_ rfl (ret_box hz7 HR4.out B7 (by omega))
            simp [results, Tryz.results82, go_sem, g0, g1]
          · have hf : decide ((0 : Int) < (n : Int)) = true := by simp; omega
            have hrem : (m : Int).tmod (n : Int) = ((m % n : Nat) : Int) := by rw [IntWalk.rem_in _ _ (by omega)]; simp
            have hrem' : (m : Int) % (n : Int) = ((m % n : Nat) : Int) := by simp
            have hne : ¬ (n : Int) = 0 := by omega
            have hg2 := hg.step
            have hlt := Nat.mod_lt m (show 0 < n by omega)
            obtain ⟨r, hr⟩ : ∃ r, r = m % n := ⟨_, rfl⟩
            rw [← hr] at hrem hrem' hg2 hlt
            clear hr hg hn0
            go_wp2_with fail
            go_quiet (fail)
            clear hrem hrem' hf
            go_wp2_with fail
            go_roundw
            case rel => exact ⟨n, r, rfl, rfl, hn, by omega, hg2, (by first | exact ⟨_, rfl⟩ | exact ⟨_, by simp only [World.drewN_drewN]; rfl⟩)⟩
            case measure => simp [intOf]; omega
      · have hdec : (decide (((digs X).length : Int) ≤ 2) = false) ∨ (decide (((digs X).length : Int) ≤ 2) = true ∧ decide (((digs Y).length : Int) ≤ 2) = false) := by
          by_cases h : (digs X).length ≤ 2
          · right; exact ⟨by simp; omega, by simp; omega⟩
          · left; simp; omega
        have hYp : 0 < Y := by omega
        have hst := hG.step
        have hlt := Nat.mod_lt X hYp
        have hlr : (digs (X % Y)).length ≤ 900000000 := Nat.le_trans (digs_length_mono (Nat.le_of_lt hlt)) hlY
        clear hsm hYl
        rcases hdec with e1 | ⟨e1, e2⟩
        all_goals
          go_wp2_with fail
          refine (divide_sl _ _ (digs X) (digs Y) _ HXS.out HYS.out (by omega) (by omega) (by rw [val_digs]; exact hYp)).mono ?_
          rw [val_digs, val_digs]
          rintro e w3 ⟨v3, u3, rfl, hv3, hu3, hb3⟩
          have HY3 := HYS.out.below hb3
          have hbel3 := hbel.trans (hb3.mono hbel.size)
          go_wp2_with fail
          go_roundg (X % Y)
          case measure => exact hlt
          case rel => exact ⟨Y, HY3, hu3, hst, hlY, hlr, hbel3⟩
end Go.Proofs.YtndpjfhhigpbhaaGreat
