/- The reference for integers, first part: trim, words, made, Of, Same, Valid, Sign. The reference for integers, second part: Of, Valid, Sign, Made. Gcd: the greatest common divisor. Plain arithmetic of Bezout's numbers. What Bezout leaves. -/
import Derived.Test.YtmppigbbkjepiaaGreatDoorBoxI
set_option maxHeartbeats 1000000
namespace Go.Proofs.YtmppigbbkjepiaaGreatDoor
open Go.Proofs.Tryz
open Go.RowKit W
theorem Ce (ao : Option Addr) (cap : Nat) (l : List Nat) (w : World) (hlc : l.length ≤ cap) (hcm : cap ≤ maxLen)
    (hc : ∀ i, i < l.length → ∃ b off, ao = some ⟨b, off, none⟩ ∧ w.cell? ⟨b, off + i, none⟩ = some (.int .u32 ↑(gd l i))) :
    Calls prog 149 #[.slice ao l.length cap] w fun e w' => e = .returned (.slice ao (FK l).length cap) ∧ w = w' := by
  have HC := Lib.hid hc
  clear hc
  unfold maxLen at hcm
  go_enter func149, ntmps149
  go_wp2
  go_loop [3] (fun n => ∃ k : Nat, k ≤ l.length ∧ Hid (FK (l.take k) = FK l) ∧ n = .int .i64 k) (fun n => (intOf n).toNat)
  case atStart => exact ⟨l.length, Nat.le_refl _, by rw [List.take_length]; rfl, rfl⟩
  case round =>
    obtain ⟨k, hk, ht, rfl⟩ := hrel
    by_cases hk0 : k = 0
    · subst hk0
      go_wp2
      go_ret
      have : FK l = [] := by rw [← ht.out]; rfl
      exact ⟨by rw [this]; rfl, rfl⟩
    · obtain ⟨j, rfl⟩ : ∃ j, k = j + 1 := ⟨k - 1, by omega⟩
      clear hk0
      obtain ⟨b, off, rfl, hc⟩ := HC.out j Z
      by_cases hz : gd l j = 0
      · rw [hz] at hc
        have HT : Hid (FK (l.take j) = FK l) := by rw [← ht.out, lK l j Z hz]; rfl
        clear hz ht
        go_wp2
        go_round
        case rel => exact ⟨j, by omega, HT, by go_num⟩
        case measure => simp [intOf]
      · have HT : (FK l).length = j + 1 := by rw [← ht.out]; exact lJ l j Z hz
        have hz' : (((gd l j : Nat) : Int) == 0) = false := by simpa using hz
        go_wp2
        go_ret
        exact ⟨rfl, rfl⟩
theorem OV (v : Value) (l : List Nat) (w : World) (h : Sl w v l) :
    Calls prog 149 #[v] w fun e w' => w = w' ∧ ∃ v', e = .returned v' ∧ ∀ w2, Sl w2 v l → Sl w2 v' (CB (val l)) := by
  obtain ⟨u, k, rfl, H, q, p, z, G⟩ := h
  refine (Ce u k l w H q G).mono fun e w' ⟨he, hw⟩ => ⟨hw, _, he, ?_⟩
  rintro w2 ⟨L, t, J, Q, P, N, kn, y⟩
  cases J
  rw [← TA p]
  have B := IS l
  have f := hH l
  refine ⟨u, k, O, by omega, q, by rw [f]; exact NW p _, z, fun i C => ?_⟩
  obtain ⟨b, o, F, D⟩ := y i Z
  refine ⟨b, o, F, ?_⟩
  rw [f, aY _ _ _ C]; exact D
theorem QA (m : Nat) (w : World) (h : m < 18446744073709551616) :
    Calls prog 106 #[.int .u64 m] w (wU w (CB m)) := by
  go_enter func106, ntmps106
  have l := lG m h
  have k := Lib.hid l
  clear l
  go_wp2_with fail
  refine (OV _ _ _ (gN w _ _ (m % 4294967296) (m / 4294967296) Z Z k.out.1)).mono ?_
  rintro e p ⟨rfl, o, rfl, f⟩
  have f := f _ (gN w ((m : Int) % 4294967296) ((m : Int) / 4294967296) (m % 4294967296) (m / 4294967296) Z Z k.out.1)
  rw [k.out.2] at f
  go_wp2
  go_ret
  exact ⟨o, rfl, f, (Below.refl _ _).alloc (Nat.le_refl _) _⟩
theorem oK (neg : Bool) (v : Value) (l : List Nat) (z : Int) (w : World) (h : Sl w v l) (hz : GR neg (val l) = z) :
    Calls prog 105 #[.bool neg, v] w (RetZ w z) := by
  subst hz
  have H := Lib.hid h
  clear h
  go_enter func105, ntmps105
  go_wp2_with fail
  refine (OV _ l _ (H.out.below ((Below.refl _ _).alloc (Nat.le_refl _) _))).mono ?_
  rintro e B ⟨rfl, C, rfl, k⟩
  obtain ⟨o, f, rfl, G, F, D, u, y⟩ := k w H.out
  have t := Lib.hid k
  clear k y u
  by_cases hz : val l = 0
  · have q : (CB (val l)).length = 0 := by rw [hz, DU]; rfl
    have p := Lib.hid hz
    clear hz q
    cases neg
    all_goals
      go_wp2
      refine AP (v := .agg #[.bool false, .slice o (CB (val l)).length f]) (by first | (simp [results, results105, go_sem]; done) | (simp [results, results105, go_sem]; exact (ET _).2 p.out)) O ⟨_, O, ⟨.slice o (CB (val l)).length f, ?_, ?_⟩, (Below.refl _ _).alloc (Nat.le_refl _) _⟩
      · rw [p.out, cD]; rfl
      · rw [aB]
        exact t.out _ (H.out.below ((Below.refl _ _).alloc (Nat.le_refl _) _))
  · have q : (CB (val l)).length ≠ 0 := fun e => hz ((ET _).1 (List.eq_nil_of_length_eq_zero e))
    have p := Lib.hid hz
    clear hz q
    cases neg
    · go_wp2
      refine AP (v := .agg #[.bool false, .slice o (CB (val l)).length f]) (by simp [results, results105, go_sem]) O ⟨_, O, ⟨.slice o (CB (val l)).length f, ?_, ?_⟩, (Below.refl _ _).alloc (Nat.le_refl _) _⟩
      · rw [nP _ _ p.out]
      · rw [aB]
        exact t.out _ (H.out.below ((Below.refl _ _).alloc (Nat.le_refl _) _))
    · go_wp2
      refine AP (v := .agg #[.bool true, .slice o (CB (val l)).length f]) (by simp [results, results105, go_sem]; exact Nat.pos_of_ne_zero fun e => p.out ((ET _).1 (List.eq_nil_of_length_eq_zero e))) O ⟨_, O, ⟨.slice o (CB (val l)).length f, ?_, ?_⟩, (Below.refl _ _).alloc (Nat.le_refl _) _⟩
      · rw [nP _ _ p.out]
      · rw [aB]
        exact t.out _ (H.out.below ((Below.refl _ _).alloc (Nat.le_refl _) _))
end Go.Proofs.YtmppigbbkjepiaaGreatDoor
namespace Go.Proofs.YtmppigbbkjepiaaGreatDoor
open Go.Proofs.Tryz
open Go.RowKit W
theorem YK (n : Int) (w : World) (h1 : -9223372036854775808 ≤ n) (h2 : n ≤ 9223372036854775807) :
    Calls prog 58 #[.int .i64 n] w (RetZ w n) := by
  obtain ⟨W, G, a0, C, S⟩ := Ad w
  have U := Lib.hid S
  clear S
  by_cases hn : n < 0
  · obtain ⟨k, T⟩ : ∃ k : Nat, -(n + 1) = (k : Int) := ⟨(-(n + 1)).natAbs, by omega⟩
    have l : GR true (k + 1) = n := by simp [GR]; omega
    have Q := Lib.hid l
    have a1 : k < 9223372036854775808 := by omega
    have HK := Lib.hid T
    clear l T
    go_enter func58, ntmps58
    go_upto_region 1 with fail
    rw [← G]
    clear G
    go_wp2_with fail
    rw [show -(n + 1) + 1 = ((k + 1 : Nat) : Int) by have := HK.out; omega]
    refine (QA (k + 1) _ Z).mono ?_
    rintro e X ⟨v1, rfl, t, h⟩
    go_wp2_with fail
    obtain ⟨z, f⟩ : ∃ z : Int, z = n := ⟨_, rfl⟩
    rw [← f] at Q ⊢
    have y := Lib.hid f
    clear f hn h1 h2
    refine (oK _ _ _ z _ t (by rw [CK]; exact Q.out)).mono ?_
    rintro e H ⟨Y, rfl, l, p⟩
    obtain ⟨u, q, rfl, J, _, _⟩ := l.parts
    have o := (U.out.keep h).keep p
    have B := Lib.hid o
    obtain ⟨⟨n0, P, D, F, N, L⟩, g2, g3⟩ := o
    have R : Below w.heap.size w H := (C.trans (h.mono C.size)).trans (p.mono (Nat.le_trans C.size h.size))
    go_wp2_with fail
    refine AP (v := .agg #[.bool (decide (z < 0)), .slice u (CB z.natAbs).length q]) ?_ O ((RN l B.out R Z).eq y.out)
    simp [results, results58, go_sem, N, L]
  · obtain ⟨k, rfl⟩ : ∃ k : Nat, n = (k : Int) := ⟨n.natAbs, by omega⟩
    have l : GR false k = (k : Int) := rfl
    have Q := Lib.hid l
    go_enter func58, ntmps58
    go_upto_region 1 with fail
    rw [← G]
    clear G
    go_wp2_with fail
    refine (QA k _ Z).mono ?_
    rintro e X ⟨v1, rfl, t, h⟩
    go_wp2_with fail
    obtain ⟨z, f⟩ : ∃ z : Int, z = (k : Int) := ⟨_, rfl⟩
    rw [← f]
    refine (oK _ _ _ z _ t (by rw [CK, f]; rfl)).mono ?_
    have y := Lib.hid f
    clear f l
    rintro e H ⟨Y, rfl, l, p⟩
    obtain ⟨u, q, rfl, J, _, _⟩ := l.parts
    have o := (U.out.keep h).keep p
    have B := Lib.hid o
    obtain ⟨⟨n0, P, D, F, N, L⟩, g2, g3⟩ := o
    have R : Below w.heap.size w H := (C.trans (h.mono C.size)).trans (p.mono (Nat.le_trans C.size h.size))
    go_wp2_with fail
    refine AP (v := .agg #[.bool (decide (z < 0)), .slice u (CB z.natAbs).length q]) ?_ O ((RN l B.out R Z).eq y.out)
    simp [results, results58, go_sem, N, L]
theorem wV (n : Bool) (s : Value) (l : List Nat) (w : World) (ha : Sl w s l) :
    Calls prog 150 #[.agg #[.bool n, s]] w (JO w (KI n l)) := by
  obtain ⟨L, v, rfl, P, J, H, C, y⟩ := ha
  have N := Lib.hid y
  clear y C H
  unfold maxLen at J
  obtain ⟨W, h, B, q, t⟩ := gL w n (.slice L l.length v)
  have R := t.1
  have Q := t.2
  clear t
  by_cases f : l.length = 0
  · have e : KI n l = !n := by unfold KI; rw [if_pos f]
    rw [e]
    have G : ((l.length : Int) == 0) = true := by rw [f]; rfl
    clear e f
    go_enter func150, ntmps150
    go_upto_region 1 with fail
    rw [← h]
    clear h
    go_wp2_with fail
    go_ret
    exact ⟨rfl, q⟩
  · obtain ⟨k, p⟩ : ∃ k, l.length = k + 1 := ⟨l.length - 1, by omega⟩
    have G : ((l.length : Int) == 0) = false := by rw [beq_eq_false_iff_ne]; omega
    obtain ⟨b, z, rfl, u⟩ := N.out k Z
    have u := CV u q
    have D : (l.length : Int) - 1 = (k : Int) := by omega
    by_cases o : gd l k = 0
    · have e : KI n l = false := by unfold KI; rw [if_neg f, p, Nat.add_sub_cancel, o]; rfl
      rw [e]
      rw [o] at u
      clear e f p o
      go_enter func150, ntmps150
      go_upto_region 1 with fail
      rw [← h]
      clear h
      go_wp2_with fail
      go_ret
      exact ⟨rfl, q⟩
    · have e : KI n l = true := by unfold KI; rw [if_neg f, p, Nat.add_sub_cancel]; exact decide_eq_true o
      rw [e]
      have F : (((gd l k : Nat) : Int) != 0) = true := by rw [bne_iff_ne]; omega
      clear e f p o
      go_enter func150, ntmps150
      go_upto_region 1 with fail
      rw [← h]
      clear h
      go_wp2_with fail
      go_ret
      exact ⟨rfl, q⟩
theorem uC (x : Int) : KI (decide (x < 0)) (CB x.natAbs) = true := by
  unfold KI
  by_cases h : (CB x.natAbs).length = 0
  · rw [if_pos h]
    have := (UH x).1 Z
    subst this; rfl
  · rw [if_neg h]
    have f : 0 < x.natAbs := by
      rcases Nat.eq_zero_or_pos x.natAbs with e | e
      · rw [e, DU] at h; exact absurd rfl h
      · exact e
    obtain ⟨l, y, k, o, _⟩ := XR x.natAbs f
    rw [k, List.length_append, List.length_singleton, Nat.add_sub_cancel, MG _ _ _ (Nat.le_refl _), Nat.sub_self]
    exact decide_eq_true (by show y ≠ 0; omega)
theorem bO (va : Value) (x : Int) (w : World) (ha : IsI w va x) :
    Calls prog 150 #[va] w (JO w true) := by
  obtain ⟨s, rfl, e⟩ := ha
  have := wV (decide (x < 0)) s _ w e
  rwa [uC] at this
end Go.Proofs.YtmppigbbkjepiaaGreatDoor
namespace Go.Proofs.YtmppigbbkjepiaaGreatDoor
open Go.Proofs.Tryz
open Go.RowKit W
def GcdIs (X Y G : Nat) : Prop := Nat.gcd X Y = G
theorem GcdIs.step {X Y G : Nat} (h : GcdIs X Y G) : GcdIs Y (X % Y) G := by
  unfold GcdIs at *
  rw [← h, Nat.gcd_comm X Y, Nat.gcd_rec Y X, Nat.gcd_comm]
theorem GcdIs.done {X G : Nat} (h : GcdIs X 0 G) : X = G := by unfold GcdIs at h; rwa [Nat.gcd_zero_right] at h
set_option maxRecDepth 100000 in
set_option maxHeartbeats 4000000 in
theorem Gcd_z (va vb : Value) (x y : Int) (w : World) (ha : IsI w va x) (hb : IsI w vb y) (hx : Fits x 900000000) (hy : Fits y 900000000) :
    Calls prog 129 #[va, vb] w (RetZ w (Nat.gcd x.natAbs y.natAbs : Nat)) := by
  obtain ⟨aoa, capa, rfl, sa, ha1, ha2⟩ := ha.parts
  obtain ⟨aob, capb, rfl, sb, hb1, hb2⟩ := hb.parts
  have SA := Lib.hid sa
  have SB := Lib.hid sb
  have HFX := Lib.hid hx
  have HFY := Lib.hid hy
  clear ha sa hx hb sb hy
  obtain ⟨nx, hnx⟩ : ∃ nx, nx = decide (x < 0) := ⟨_, rfl⟩
  obtain ⟨ny, hny⟩ : ∃ ny, ny = decide (y < 0) := ⟨_, rfl⟩
  rw [← hnx, ← hny]
  clear hnx hny
  obtain ⟨A, hA⟩ : ∃ A, A = x.natAbs := ⟨_, rfl⟩
  obtain ⟨Bn, hB⟩ : ∃ B, B = y.natAbs := ⟨_, rfl⟩
  unfold Fits at HFX HFY
  rw [← hA] at SA HFX ha1 ⊢
  rw [← hB] at SB HFY hb1 ⊢
  clear hA hB
  obtain ⟨G, hG⟩ : ∃ G, G = Nat.gcd A Bn := ⟨_, rfl⟩
  rw [← hG]
  obtain ⟨zG, hzG⟩ : ∃ z : Int, z = (G : Int) := ⟨_, rfl⟩
  rw [← hzG]
  have HZG := Lib.hid hzG
  have HG : GcdIs A Bn G := hG.symm
  clear hG hzG
  obtain ⟨W, hW, hsz, B0, k0, k1, k2⟩ := Ac w nx ny (.slice aoa (CB A).length capa) (.slice aob (CB Bn).length capb)
  have c1 := k0.2
  have c3 := k1.2
  have K4 := Lib.hid k2
  have SAW := Lib.hid (SA.out.below B0)
  have SBW := Lib.hid (SB.out.below B0)
  clear k0 k1 k2
  go_enter func129, ntmps129
  go_upto_region 1 with fail
  rw [← hW]
  clear hW
  go_region_held3 (fun w' => w'.cell? ⟨w.heap.size, 1, none⟩ = some (.slice aoa (CB A).length capa) ∧ w'.cell? ⟨w.heap.size + 1, 1, none⟩ = some (.slice aob (CB Bn).length capb))
    (first | exact ⟨c1, c3⟩ | exact ⟨d1, d3⟩ | exact ⟨f1, f3⟩)
    (first
      | (go_at_call_of 161 (Value.slice aoa (CB A).length capa); refine (MC _ (CB A) _ ?_).mono ?_; exact SAW.out; rintro e w' ⟨rfl, vt1, rfl, ht1⟩)
      | (go_at_call_of 161 (Value.slice aob (CB Bn).length capb); refine (MC _ (CB Bn) _ ?_).mono ?_; exact SBW.out.below (MX hb1'); rintro e w' ⟨rfl, vt2, rfl, ht2⟩)
      | (go_at_call_of 139 vt1; refine (WP _ (CB (val (CB A))) _ ?_ ?_).mono ?_; exact ht1 _ SAW.out; (rw [CK]; have := HFX.out; omega); rintro e w1 ⟨v1, rfl, hv1, hb1'⟩; have d1 := QD c1 hb1'; have d3 := QD c3 hb1')
      | (go_at_call_of 139 vt2; refine (WP _ (CB (val (CB Bn))) _ ?_ ?_).mono ?_; exact ht2 _ (SBW.out.below (MX hb1')); (rw [CK]; have := HFY.out; omega); rintro e w2 ⟨v2, rfl, hv2, hb2'⟩; have f1 := CV d1 hb2'; have f3 := CV d3 hb2'))
  rw [CK] at hv1 hv2
  have HV1 := hv1.below hb2'
  have BW2 : Below W.heap.size W w2 := (MX hb1').trans (hb2'.mono hb1'.size)
  clear c1 c3 d1 d3 f1 f3 ht1 ht2 hv1 hb1' hb2'
  go_wp2_with fail
  go_loopg [5, 6] Bn (fun Y vx vy wr => ∃ X, Sl wr vx (CB X) ∧ Sl wr vy (CB Y) ∧ GcdIs X Y G ∧ (CB X).length ≤ 900000000 ∧ (CB Y).length ≤ 900000000 ∧ Below W.heap.size W wr)
  case atStart => exact ⟨A, HV1, hv2, HG, HFX.out, HFY.out, BW2⟩
  case round =>
    clear HV1 hv2 HG BW2
    obtain ⟨Y, rfl⟩ : ∃ Y, Y = gk := ⟨_, rfl⟩
    obtain ⟨X, hX, hY, hG, hlX, hlY, hbel⟩ := hrel
    have HXS := Lib.hid hX
    have HYS := Lib.hid hY
    obtain ⟨aox, capx, rfl, x1, x2, _, _, _⟩ := hX
    obtain ⟨aoy, capy, rfl, y1, y2, _, _, _⟩ := hY
    unfold maxLen at x2 y2
    by_cases hY0 : Y = 0
    · subst hY0
      have hGx := hG.done
      have hd : decide ((0 : Int) < ((CB 0).length : Int)) = false := by rw [DU]; rfl
      have hd' : decide (0 < (CB 0).length) = false := by rw [DU]; rfl
      have HGX := Lib.hid hGx
      clear hGx hG
      go_wp2_with fail
      refine (OT _ _ (CB X) zG _ HXS.out (by rw [CK, iC, HZG.out, HGX.out])).mono ?_
      rintro e w7 ⟨v7, rfl, hz7, hb7⟩
      obtain ⟨ao7, cap7, rfl, sl7, _, _⟩ := hz7.parts
      have r4 := (K4.out.keep hbel).keep hb7
      have HR4 := Lib.hid r4
      obtain ⟨⟨n4, ao4, len4, cap4, g0, g1⟩, g2, g3⟩ := r4
      have B7 : Below w.heap.size w w7 := (B0.trans ((hbel).mono B0.size)).trans (hb7.mono (Nat.le_trans B0.size (hbel).size))
      go_wp2_with fail
      refine AP (v := .agg #[.bool (decide (zG < 0)), .slice ao7 (CB zG.natAbs).length cap7]) ?_ O (RN hz7 HR4.out B7 Z)
      simp [results, results129, go_sem, g0, g1]
    · have hYl : (CB Y).length ≠ 0 := fun e => hY0 ((ET _).1 (List.eq_nil_of_length_eq_zero e))
      have hd : decide ((0 : Int) < ((CB Y).length : Int)) = true := by simp; omega
      have hd' : decide (0 < (CB Y).length) = true := by simp; omega
      by_cases hsm : (CB X).length ≤ 2 ∧ (CB Y).length ≤ 2
      · have e1 : decide (((CB X).length : Int) ≤ 2) = true := by simp; omega
        have e2 : decide (((CB Y).length : Int) ≤ 2) = true := by simp; omega
        have e1' : decide ((CB X).length ≤ 2) = true := by simp; omega
        have e2' : decide ((CB Y).length ≤ 2) = true := by simp; omega
        have hX64 : X < 18446744073709551616 := by
          have h1 := GA (FQ X)
          rw [CK] at h1
          have h2 := Nat.pow_le_pow_right (n := 4294967296) Z hsm.1
          omega
        have hY64 : Y < 18446744073709551616 := by
          have h1 := GA (FQ Y)
          rw [CK] at h1
          have h2 := Nat.pow_le_pow_right (n := 4294967296) Z hsm.2
          omega
        have HL1 := Lib.hid hsm.1
        have HL2 := Lib.hid hsm.2
        clear hsm hYl
        go_wp2_with fail
        refine (SZ _ (CB X) _ HXS.out HL1.out).mono ?_
        rw [CK]
        rintro e w' ⟨rfl, rfl⟩
        go_wp2_with fail
        refine (SZ _ (CB Y) _ HYS.out HL2.out).mono ?_
        rw [CK]
        rintro e w' ⟨rfl, rfl⟩
        go_wp2_with fail
        clear e1 e2 e1' e2' hd hd'
        obtain ⟨wo, rfl⟩ : ∃ wo : World, wo = wr := ⟨_, rfl⟩
        go_loopw [7, 8] (fun sm sn wx => ∃ m n : Nat, sm = .int .u64 m ∧ sn = .int .u64 n ∧ m < 18446744073709551616 ∧ n < 18446744073709551616 ∧ GcdIs m n G ∧ ∃ d, wx = wo.drewN d) (fun _ sn _ => (intOf sn).toNat)
        case atStart => exact ⟨X, Y, rfl, rfl, hX64, hY64, hG, 0, rfl⟩
        case round =>
          obtain ⟨m, n, rfl, rfl, hm, hn, hg, d, rfl⟩ := hrel
          by_cases hn0 : n = 0
          · subst hn0
            have HGX := Lib.hid hg.done
            have hf : decide ((0 : Int) < ((0 : Nat) : Int)) = false := rfl
            clear hg hG
            go_wp2_with fail
            refine (ZR m _ hm).mono ?_
            rintro e w6 ⟨v6, rfl, hv6, hb6⟩
            have hbel6 := hbel.trans ((JA hb6).mono hbel.size)
            go_wp2_with fail
            refine (OT _ _ (CB m) zG _ hv6 (by rw [CK, iC, HZG.out, HGX.out])).mono ?_
            rintro e w7 ⟨v7, rfl, hz7, hb7⟩
            obtain ⟨ao7, cap7, rfl, sl7, _, _⟩ := hz7.parts
            have r4 := (K4.out.keep hbel6).keep hb7
            have HR4 := Lib.hid r4
            obtain ⟨⟨n4, ao4, len4, cap4, g0, g1⟩, g2, g3⟩ := r4
            have B7 : Below w.heap.size w w7 := (B0.trans ((hbel6).mono B0.size)).trans (hb7.mono (Nat.le_trans B0.size (hbel6).size))
            go_wp2_with fail
            refine AP (v := .agg #[.bool (decide (zG < 0)), .slice ao7 (CB zG.natAbs).length cap7]) ?_ O (RN hz7 HR4.out B7 Z)
            simp [results, results129, go_sem, g0, g1]
          · have hf : decide ((0 : Int) < (n : Int)) = true := by simp; omega
            have hrem : (m : Int).tmod (n : Int) = ((m % n : Nat) : Int) := by rw [IntWalk.rem_in _ _ Z]; simp
            have hrem' : (m : Int) % (n : Int) = ((m % n : Nat) : Int) := by simp
            have hne : ¬ (n : Int) = 0 := by omega
            have hg2 := hg.step
            have hlt := Nat.mod_lt m (show 0 < n by omega)
            obtain ⟨r, hr⟩ : ∃ r, r = m % n := ⟨_, rfl⟩
            rw [← hr] at hrem hrem' hg2 hlt
            clear hr hg hn0
            go_wp2_with fail
            go_quiet (fail)
            clear hrem hrem' hf
            go_wp2_with fail
            go_roundw
            case rel => exact ⟨n, r, rfl, rfl, hn, by omega, hg2, (by first | exact ⟨_, rfl⟩ | exact ⟨_, by simp only [World.drewN_drewN]; rfl⟩)⟩
            case measure => simp [intOf]; omega
      · have hdec : (decide (((CB X).length : Int) ≤ 2) = false) ∨ (decide (((CB X).length : Int) ≤ 2) = true ∧ decide (((CB Y).length : Int) ≤ 2) = false) := by
          by_cases h : (CB X).length ≤ 2
          · right; exact ⟨by simp; omega, by simp; omega⟩
          · left; simp; omega
        have hYp : 0 < Y := by omega
        have hst := hG.step
        have hlt := Nat.mod_lt X hYp
        have hlr : (CB (X % Y)).length ≤ 900000000 := Nat.le_trans (FO (Nat.le_of_lt hlt)) hlY
        clear hsm hYl
        rcases hdec with e1 | ⟨e1, e2⟩
        all_goals
          go_wp2_with fail
          refine (Cz _ _ (CB X) (CB Y) _ HXS.out HYS.out Z Z (by rw [CK]; exact hYp)).mono ?_
          rw [CK, CK]
          rintro e w3 ⟨v3, u3, rfl, hv3, hu3, hb3⟩
          have HY3 := HYS.out.below hb3
          have hbel3 := hbel.trans (hb3.mono hbel.size)
          go_wp2_with fail
          go_roundg (X % Y)
          case measure => exact hlt
          case rel => exact ⟨Y, HY3, hu3, hst, hlY, hlr, hbel3⟩
end Go.Proofs.YtmppigbbkjepiaaGreatDoor
namespace Go.Proofs.YtmppigbbkjepiaaGreatDoor
structure BzInv (a b r nx u st : Int) : Prop where
  c1 : ∃ k : Int, r = u * a + k * b
  c2 : ∃ k : Int, nx = st * a + k * b
  g : Int.gcd r nx = Int.gcd a b
  hu : u.natAbs ≤ 3 * b.natAbs + 1
  hs : st.natAbs ≤ 3 * b.natAbs + 1
  hr : r.natAbs ≤ a.natAbs + b.natAbs
  hn : nx.natAbs ≤ a.natAbs + b.natAbs
  ph : (r = a ∧ nx = b ∧ u = 1 ∧ st = 0) ∨ (r = b ∧ u = 0 ∧ st = 1 ∧ 0 ≤ nx ∧ nx < b.natAbs) ∨
    (0 < r ∧ 0 ≤ nx ∧ nx < r ∧ r < b.natAbs ∧ st.natAbs * r.natAbs + u.natAbs * nx.natAbs ≤ 3 * b.natAbs)
end Go.Proofs.YtmppigbbkjepiaaGreatDoor
namespace Go.Proofs.YtmppigbbkjepiaaGreatDoor
open Go.RowKit W
theorem gP {z y : Int} {n : Nat} (h : z.natAbs ≤ y.natAbs) (hy : Fits y n) : Fits z n := LU (Nat.lt_of_le_of_lt h hy.lt)
theorem Fits_div {x y : Int} {n : Nat} (h : Fits x n) : Fits (x / y) n := by
  refine gP ?_ h
  exact Int.natAbs_ediv_le_natAbs _ _
end Go.Proofs.YtmppigbbkjepiaaGreatDoor
