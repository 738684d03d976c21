/- Helping facts of Gcd; no other conditions. Helping facts of BezM; no other conditions. Helping facts of BezD; no other conditions. Helping facts of TxtL; no other conditions. -/
import Derived.Test.YtmppigbbkjepiaaGreatDoorKitA
namespace Go.Proofs.YtmppigbbkjepiaaGreatDoor
open Go.Proofs.Tryz
open Go.RowKit W
def GcdIs (X Y G : Nat) : Prop := Nat.gcd X Y = G
theorem GcdIs.step {X Y G : Nat} (h : GcdIs X Y G) : GcdIs Y (X % Y) G := by
  unfold GcdIs at *
  rw [← h, Nat.gcd_comm X Y, Nat.gcd_rec Y X, Nat.gcd_comm]
theorem GcdIs.done {X G : Nat} (h : GcdIs X 0 G) : X = G := by unfold GcdIs at h; rwa [Nat.gcd_zero_right] at h
set_option maxRecDepth 100000 in
set_option maxHeartbeats 4000000 in
theorem Gcd_z (va vb : Value) (x y : Int) (w : World) (ha : IsI w va x) (hb : IsI w vb y) (hx : Fits x 900000000) (hy : Fits y 900000000) :
    Calls prog 129 #[va, vb] w (RetZ w (Nat.gcd x.natAbs y.natAbs : Nat)) := by
  obtain ⟨aoa, capa, rfl, sa, ha1, ha2⟩ := ha.parts
  obtain ⟨aob, capb, rfl, sb, hb1, hb2⟩ := hb.parts
  have SA := Lib.hid sa
  have SB := Lib.hid sb
  have HFX := Lib.hid hx
  have HFY := Lib.hid hy
  clear ha sa hx hb sb hy
  obtain ⟨nx, hnx⟩ : ∃ nx, nx = decide (x < 0) := ⟨_, rfl⟩
  obtain ⟨ny, hny⟩ : ∃ ny, ny = decide (y < 0) := ⟨_, rfl⟩
  rw [← hnx, ← hny]
  clear hnx hny
  obtain ⟨A, hA⟩ : ∃ A, A = x.natAbs := ⟨_, rfl⟩
  obtain ⟨Bn, hB⟩ : ∃ B, B = y.natAbs := ⟨_, rfl⟩
  unfold Fits at HFX HFY
  rw [← hA] at SA HFX ha1 ⊢
  rw [← hB] at SB HFY hb1 ⊢
  clear hA hB
  obtain ⟨G, hG⟩ : ∃ G, G = Nat.gcd A Bn := ⟨_, rfl⟩
  rw [← hG]
  obtain ⟨zG, hzG⟩ : ∃ z : Int, z = (G : Int) := ⟨_, rfl⟩
  rw [← hzG]
  have HZG := Lib.hid hzG
  have HG : GcdIs A Bn G := hG.symm
  clear hG hzG
  obtain ⟨W, hW, hsz, B0, k0, k1, k2⟩ := Dj w nx ny (.slice aoa (CC A).length capa) (.slice aob (CC Bn).length capb)
  have c1 := k0.2
  have c3 := k1.2
  have K4 := Lib.hid k2
  have SAW := Lib.hid (SA.out.below B0)
  have SBW := Lib.hid (SB.out.below B0)
  clear k0 k1 k2
  go_enter func129, ntmps129
  go_upto_region 1 with fail
  rw [← hW]
  clear hW
  go_region_held3 (fun w' => w'.cell? ⟨w.heap.size, 1, none⟩ = some (.slice aoa (CC A).length capa) ∧ w'.cell? ⟨w.heap.size + 1, 1, none⟩ = some (.slice aob (CC Bn).length capb))
    (first | exact ⟨c1, c3⟩ | exact ⟨d1, d3⟩ | exact ⟨f1, f3⟩)
    (first
      | (go_at_call_of 161 (Value.slice aoa (CC A).length capa); refine (NC _ (CC A) _ ?_).mono ?_; exact SAW.out; rintro e w' ⟨rfl, vt1, rfl, ht1⟩)
      | (go_at_call_of 161 (Value.slice aob (CC Bn).length capb); refine (NC _ (CC Bn) _ ?_).mono ?_; exact SBW.out.below (NO hb1'); rintro e w' ⟨rfl, vt2, rfl, ht2⟩)
      | (go_at_call_of 139 vt1; refine (XU _ (CC (val (CC A))) _ ?_ ?_).mono ?_; exact ht1 _ SAW.out; (rw [CN]; have := HFX.out; omega); rintro e w1 ⟨v1, rfl, hv1, hb1'⟩; have d1 := RB c1 hb1'; have d3 := RB c3 hb1')
      | (go_at_call_of 139 vt2; refine (XU _ (CC (val (CC Bn))) _ ?_ ?_).mono ?_; exact ht2 _ (SBW.out.below (NO hb1')); (rw [CN]; have := HFY.out; omega); rintro e w2 ⟨v2, rfl, hv2, hb2'⟩; have f1 := CX d1 hb2'; have f3 := CX d3 hb2'))
  rw [CN] at hv1 hv2
  have HV1 := hv1.below hb2'
  have BW2 : Below W.heap.size W w2 := (NO hb1').trans (hb2'.mono hb1'.size)
  clear c1 c3 d1 d3 f1 f3 ht1 ht2 hv1 hb1' hb2'
  go_wp2_with fail
  go_loopg [5, 6] Bn (fun Y vx vy wr => ∃ X, Sl wr vx (CC X) ∧ Sl wr vy (CC Y) ∧ GcdIs X Y G ∧ (CC X).length ≤ 900000000 ∧ (CC Y).length ≤ 900000000 ∧ Below W.heap.size W wr)
  case atStart => exact ⟨A, HV1, hv2, HG, HFX.out, HFY.out, BW2⟩
  case round =>
    clear HV1 hv2 HG BW2
    obtain ⟨Y, rfl⟩ : ∃ Y, Y = gk := ⟨_, rfl⟩
    obtain ⟨X, hX, hY, hG, hlX, hlY, hbel⟩ := hrel
    have HXS := Lib.hid hX
    have HYS := Lib.hid hY
    obtain ⟨aox, capx, rfl, x1, x2, _, _, _⟩ := hX
    obtain ⟨aoy, capy, rfl, y1, y2, _, _, _⟩ := hY
    unfold maxLen at x2 y2
    by_cases hY0 : Y = 0
    · subst hY0
      have hGx := hG.done
      have hd : decide ((0 : Int) < ((CC 0).length : Int)) = false := by rw [DW]; rfl
      have hd' : decide (0 < (CC 0).length) = false := by rw [DW]; rfl
      have HGX := Lib.hid hGx
      clear hGx hG
      go_wp2_with fail
      refine (PV _ _ (CC X) zG _ HXS.out (by rw [CN, jO, HZG.out, HGX.out])).mono ?_
      rintro e w7 ⟨v7, rfl, hz7, hb7⟩
      obtain ⟨ao7, cap7, rfl, sl7, _, _⟩ := hz7.parts
      have r4 := (K4.out.keep hbel).keep hb7
      have HR4 := Lib.hid r4
      obtain ⟨⟨n4, ao4, len4, cap4, g0, g1⟩, g2, g3⟩ := r4
      have B7 : Below w.heap.size w w7 := (B0.trans ((hbel).mono B0.size)).trans (hb7.mono (Nat.le_trans B0.size (hbel).size))
      go_wp2_with fail
      refine AQ (v := .agg #[.bool (decide (zG < 0)), .slice ao7 (CC zG.natAbs).length cap7]) ?_ O (SY hz7 HR4.out B7 AA)
      simp [results, results129, go_sem, g0, g1]
    · have hYl : (CC Y).length ≠ 0 := fun e => hY0 ((FH _).1 (List.eq_nil_of_length_eq_zero e))
      have hd : decide ((0 : Int) < ((CC Y).length : Int)) = true := by simp; omega
      have hd' : decide (0 < (CC Y).length) = true := by simp; omega
      by_cases hsm : (CC X).length ≤ 2 ∧ (CC Y).length ≤ 2
      · have e1 : decide (((CC X).length : Int) ≤ 2) = true := by simp; omega
        have e2 : decide (((CC Y).length : Int) ≤ 2) = true := by simp; omega
        have e1' : decide ((CC X).length ≤ 2) = true := by simp; omega
        have e2' : decide ((CC Y).length ≤ 2) = true := by simp; omega
        have hX64 : X < 18446744073709551616 := by
          have h1 := GI (FO X)
          rw [CN] at h1
          have h2 := Nat.pow_le_pow_right (n := 4294967296) AA hsm.1
          omega
        have hY64 : Y < 18446744073709551616 := by
          have h1 := GI (FO Y)
          rw [CN] at h1
          have h2 := Nat.pow_le_pow_right (n := 4294967296) AA hsm.2
          omega
        have HL1 := Lib.hid hsm.1
        have HL2 := Lib.hid hsm.2
        clear hsm hYl
        go_wp2_with fail
        refine (TY _ (CC X) _ HXS.out HL1.out).mono ?_
        rw [CN]
        rintro e w' ⟨rfl, rfl⟩
        go_wp2_with fail
        refine (TY _ (CC Y) _ HYS.out HL2.out).mono ?_
        rw [CN]
        rintro e w' ⟨rfl, rfl⟩
        go_wp2_with fail
        clear e1 e2 e1' e2' hd hd'
        obtain ⟨wo, rfl⟩ : ∃ wo : World, wo = wr := ⟨_, rfl⟩
        go_loopw [7, 8] (fun sm sn wx => ∃ m n : Nat, sm = .int .u64 m ∧ sn = .int .u64 n ∧ m < 18446744073709551616 ∧ n < 18446744073709551616 ∧ GcdIs m n G ∧ ∃ d, wx = wo.drewN d) (fun _ sn _ => (intOf sn).toNat)
        case atStart => exact ⟨X, Y, rfl, rfl, hX64, hY64, hG, 0, rfl⟩
        case round =>
          obtain ⟨m, n, rfl, rfl, hm, hn, hg, d, rfl⟩ := hrel
          by_cases hn0 : n = 0
          · subst hn0
            have HGX := Lib.hid hg.done
            have hf : decide ((0 : Int) < ((0 : Nat) : Int)) = false := rfl
            clear hg hG
            go_wp2_with fail
            refine (aY m _ hm).mono ?_
            rintro e w6 ⟨v6, rfl, hv6, hb6⟩
            have hbel6 := hbel.trans ((JI hb6).mono hbel.size)
            go_wp2_with fail
            refine (PV _ _ (CC m) zG _ hv6 (by rw [CN, jO, HZG.out, HGX.out])).mono ?_
            rintro e w7 ⟨v7, rfl, hz7, hb7⟩
            obtain ⟨ao7, cap7, rfl, sl7, _, _⟩ := hz7.parts
            have r4 := (K4.out.keep hbel6).keep hb7
            have HR4 := Lib.hid r4
            obtain ⟨⟨n4, ao4, len4, cap4, g0, g1⟩, g2, g3⟩ := r4
            have B7 : Below w.heap.size w w7 := (B0.trans ((hbel6).mono B0.size)).trans (hb7.mono (Nat.le_trans B0.size (hbel6).size))
            go_wp2_with fail
            refine AQ (v := .agg #[.bool (decide (zG < 0)), .slice ao7 (CC zG.natAbs).length cap7]) ?_ O (SY hz7 HR4.out B7 AA)
            simp [results, results129, go_sem, g0, g1]
          · have hf : decide ((0 : Int) < (n : Int)) = true := by simp; omega
            have hrem : (m : Int).tmod (n : Int) = ((m % n : Nat) : Int) := by rw [IntWalk.rem_in _ _ AA]; simp
            have hrem' : (m : Int) % (n : Int) = ((m % n : Nat) : Int) := by simp
            have hne : ¬ (n : Int) = 0 := by omega
            have hg2 := hg.step
            have hlt := Nat.mod_lt m (show 0 < n by omega)
            obtain ⟨r, hr⟩ : ∃ r, r = m % n := ⟨_, rfl⟩
            rw [← hr] at hrem hrem' hg2 hlt
            clear hr hg hn0
            go_wp2_with fail
            go_quiet (fail)
            clear hrem hrem' hf
            go_wp2_with fail
            go_roundw
            case rel => exact ⟨n, r, rfl, rfl, hn, by omega, hg2, (by first | exact ⟨_, rfl⟩ | exact ⟨_, by simp only [World.drewN_drewN]; rfl⟩)⟩
            case measure => simp [intOf]; omega
      · have hdec : (decide (((CC X).length : Int) ≤ 2) = false) ∨ (decide (((CC X).length : Int) ≤ 2) = true ∧ decide (((CC Y).length : Int) ≤ 2) = false) := by
          by_cases h : (CC X).length ≤ 2
          · right; exact ⟨by simp; omega, by simp; omega⟩
          · left; simp; omega
        have hYp : 0 < Y := by omega
        have hst := hG.step
        have hlt := Nat.mod_lt X hYp
        have hlr : (CC (X % Y)).length ≤ 900000000 := Nat.le_trans (FX (Nat.le_of_lt hlt)) hlY
        clear hsm hYl
        rcases hdec with e1 | ⟨e1, e2⟩
        all_goals
          go_wp2_with fail
          refine (Hl _ _ (CC X) (CC Y) _ HXS.out HYS.out AA AA (by rw [CN]; exact hYp)).mono ?_
          rw [CN, CN]
          rintro e w3 ⟨v3, u3, rfl, hv3, hu3, hb3⟩
          have HY3 := HYS.out.below hb3
          have hbel3 := hbel.trans (hb3.mono hbel.size)
          go_wp2_with fail
          go_roundg (X % Y)
          case measure => exact hlt
          case rel => exact ⟨Y, HY3, hu3, hst, hlY, hlr, hbel3⟩
end Go.Proofs.YtmppigbbkjepiaaGreatDoor
namespace Go.Proofs.YtmppigbbkjepiaaGreatDoor
structure BzInv (a b r nx u st : Int) : Prop where
  c1 : ∃ k : Int, r = u * a + k * b
  c2 : ∃ k : Int, nx = st * a + k * b
  g : Int.gcd r nx = Int.gcd a b
  hu : u.natAbs ≤ 3 * b.natAbs + 1
  hs : st.natAbs ≤ 3 * b.natAbs + 1
  hr : r.natAbs ≤ a.natAbs + b.natAbs
  hn : nx.natAbs ≤ a.natAbs + b.natAbs
  ph : (r = a ∧ nx = b ∧ u = 1 ∧ st = 0) ∨ (r = b ∧ u = 0 ∧ st = 1 ∧ 0 ≤ nx ∧ nx < b.natAbs) ∨
    (0 < r ∧ 0 ≤ nx ∧ nx < r ∧ r < b.natAbs ∧ st.natAbs * r.natAbs + u.natAbs * nx.natAbs ≤ 3 * b.natAbs)
theorem BzInv.start (a b : Int) : BzInv a b a b 1 0 :=
  ⟨⟨0, by simp⟩, ⟨1, by simp⟩, rfl, by simp, by simp, by omega, by omega, .inl ⟨rfl, rfl, rfl, rfl⟩⟩
theorem Mr (r nx : Int) : Int.gcd nx (r % nx) = Int.gcd r nx := by
  rw [Int.emod_def, Int.gcd_comm r nx]
  exact Int.gcd_sub_mul_left_right ..
theorem BzInv.step {a b r nx u st : Int} (h : BzInv a b r nx u st) (hnx : nx ≠ 0) : BzInv a b nx (r % nx) st (u - r / nx * st) := by
  obtain ⟨⟨J, e1⟩, ⟨p, e2⟩, g, U, t, X, z, G⟩ := h
  have Q := Int.mul_ediv_add_emod r nx
  have l := Int.emod_nonneg r hnx
  have P := Int.emod_lt r hnx
  have B : Int.gcd nx (r % nx) = Int.gcd a b := by rw [Mr]; exact g
  have C : ∃ k : Int, r % nx = (u - r / nx * st) * a + k * b := by
    refine ⟨J - r / nx * p, ?_⟩
    generalize r / nx = q at *
    generalize r % nx = m at *
    grind
  have f : (r % nx).natAbs ≤ a.natAbs + b.natAbs := by omega
  generalize hq : r / nx = q at *
  generalize hmm : r % nx = m at *
  rcases G with ⟨rfl, rfl, rfl, rfl⟩ | ⟨rfl, rfl, rfl, I, o⟩ | ⟨I, o, T, S, H⟩
  · refine ⟨⟨p, e2⟩, C, B, t, by simp, z, f, .inr (.inl ⟨rfl, rfl, by simp, l, by omega⟩)⟩
  · have N : q.natAbs * nx.natAbs ≤ r.natAbs + m.natAbs := by
      rw [← Int.natAbs_mul, Int.mul_comm q nx]; omega
    have e : 1 ≤ nx.natAbs := by omega
    have L : q.natAbs ≤ q.natAbs * nx.natAbs := Nat.le_mul_of_pos_right _ e
    have e3 : ((0 : Int) - q * 1).natAbs = q.natAbs := by omega
    refine ⟨⟨p, e2⟩, C, B, t, by rw [e3]; omega, z, f, .inr (.inr ⟨by omega, l, by omega, o, ?_⟩)⟩
    rw [e3]; simp only [Int.natAbs_one, Nat.one_mul]; omega
  · have y : 0 ≤ q := by rw [← hq]; exact Int.ediv_nonneg AA o
    have F : (u - q * st).natAbs ≤ u.natAbs + q.natAbs * st.natAbs := by
      have := Int.natAbs_sub_le u (q * st)
      rwa [Int.natAbs_mul] at this
    have e : 1 ≤ nx.natAbs := by omega
    have v : r.natAbs = nx.natAbs * q.natAbs + m.natAbs := by
      rw [← Int.natAbs_mul]
      have : 0 ≤ nx * q := Int.mul_nonneg o y
      omega
    have R : (u - q * st).natAbs * nx.natAbs + st.natAbs * m.natAbs ≤ 3 * b.natAbs := by
      refine Nat.le_trans ?_ H
      have := Nat.mul_le_mul_right nx.natAbs F
      rw [v]
      rw [Nat.add_mul] at this
      rw [Nat.mul_add]
      have e4 : q.natAbs * st.natAbs * nx.natAbs = st.natAbs * (nx.natAbs * q.natAbs) := by grind
      omega
    have D : (u - q * st).natAbs ≤ 3 * b.natAbs + 1 := by
      have : (u - q * st).natAbs ≤ (u - q * st).natAbs * nx.natAbs := Nat.le_mul_of_pos_right _ e
      omega
    exact ⟨⟨p, e2⟩, C, B, t, D, z, f, .inr (.inr ⟨by omega, l, by omega, by omega, R⟩)⟩
end Go.Proofs.YtmppigbbkjepiaaGreatDoor
namespace Go.Proofs.YtmppigbbkjepiaaGreatDoor
open Go.RowKit W
theorem iZ {z y : Int} {n : Nat} (h : z.natAbs ≤ y.natAbs) (hy : Fits y n) : Fits z n := MO (Nat.lt_of_le_of_lt h hy.lt)
theorem Fits_div {x y : Int} {n : Nat} (h : Fits x n) : Fits (x / y) n := by
  refine iZ ?_ h
  exact Int.natAbs_ediv_le_natAbs _ _
end Go.Proofs.YtmppigbbkjepiaaGreatDoor
namespace Go.Proofs.YtmppigbbkjepiaaGreatDoor
open Go.Proofs.Tryz
open Go.RowKit W
def dW (l : List Nat) : List Value := l.map fun d => Value.int .u8 ((48 + d : Nat) : Int)
def cl (j c : Nat) : List Value := List.replicate (9 - j) (Value.int .u8 0) ++ dW (VG j c)
theorem KN (l : List Nat) : (dW l).length = l.length := by simp [dW]
theorem aO (a b : List Nat) : dW (a ++ b) = dW a ++ dW b := by simp [dW]
theorem Db (l : List Nat) : ∀ v ∈ dW l, v.oneCell' = true := by
  intro v e
  obtain ⟨d, _, rfl⟩ := List.mem_map.1 e
  rfl
theorem iV (l : List Nat) (i : Nat) (h : i < l.length) : (dW l)[i]? = some (.int .u8 ↑(48 + gd l i)) := by
  rw [dW, List.getElem?_map, List.getElem?_eq_getElem h, RR l i h]; rfl
theorem nZ : ∀ (k c : Nat), VG (k + 1) c = (c / 10 ^ k % 10) :: VG k c
  | 0, c => by simp [VG]
  | k + 1, c => by
    rw [VG, nZ k (c / 10), List.cons_append, Nat.div_div_eq_div_mul, Nat.pow_succ, Nat.mul_comm 10]
    rfl
theorem Hy {j : Nat} (c : Nat) (h : j ≤ 9) : (cl j c).length = 9 := by
  rw [cl, List.length_append, List.length_replicate, KN, GZ]; omega
theorem Wx {j c : Nat} {X : Int} (h : j < 9) (hX : X = ((48 + c / 10 ^ j % 10 : Nat) : Int)) : (cl j c).set (0 + (8 - j) * 1) (.int .u8 X) = cl (j + 1) c := by
  subst hX
  obtain ⟨k, e⟩ : ∃ k, 9 - j = k + 1 := ⟨8 - j, by omega⟩
  rw [cl, cl, nZ, e, show 0 + (8 - j) * 1 = k from by omega, show 9 - (j + 1) = k from by omega, List.replicate_succ', List.append_assoc]
  rw [List.set_append_right _ _ AH]
  simp [dW]
theorem Ss (c : Nat) : cl 9 c = dW (VG 9 c) := by simp [cl]
theorem Wy (j c : Nat) : SJ (cl j c) := by
  intro v f k e
  subst e
  rw [cl, List.mem_append] at f
  rcases f with f | f
  · have := (List.mem_replicate.1 f).2; simp at this
  · obtain ⟨d, _, h⟩ := List.mem_map.1 f; simp at h
theorem Ag9 : Ag prog 217 9 (List.replicate 9 (.int .u8 0)) := ⟨⟨_, underlying217, rfl⟩, by kernel_rfl, rfl⟩
theorem Sr (c : Nat) : List.replicate 9 (Value.int .u8 0) = cl 0 c := by simp [cl, dW, VG]
theorem Sl.shape {w : World} {v : Value} {l : List Nat} (h : Sl w v l) : ∃ ao cap, v = .slice ao l.length cap := by
  obtain ⟨ao, cap, rfl, _⟩ := h
  exact ⟨_, _, rfl⟩
theorem Et (v : Value) (m : Nat) (w : World) (h : Sl w v (CC m)) :
    Calls prog 161 #[v] w (Ae w (CC m)) := by
  refine (NC v _ w h).mono ?_
  rintro e l ⟨rfl, f, rfl, k⟩
  have := k _ h
  rw [CN] at this
  exact ⟨f, rfl, this, Below.refl _ _⟩
theorem zP (v : Value) (m d : Nat) (w : World) (h : Sl w v (CC m)) (hf : (CC m).length ≤ 1000000000) (hd : 0 < d) (hd2 : d < 4294967296) :
    Calls prog 189 #[v, .int .u64 d] w (Dz w (m / d) (m % d)) := by
  have := XR v (CC m) d w h hf hd hd2
  rwa [CN] at this
theorem vK {L : List Nat} {m n F : Nat} (h : n = bB L + 1000000000 ^ L.length * m) (hm : m ≠ 0) (hF : n < 4294967296 ^ F) : L.length ≤ 2 * F := by
  have l : 1000000000 ^ L.length ≤ n := by
    have : 1000000000 ^ L.length * 1 ≤ 1000000000 ^ L.length * m := Nat.mul_le_mul_left _ AA
    omega
  rcases Nat.lt_or_ge (2 * F) L.length with e | e
  · exfalso
    have f : 1000000000 ^ (2 * F) ≤ 1000000000 ^ L.length := Nat.pow_le_pow_right AA AA
    rw [Nat.pow_mul] at f
    have k : 4294967296 ^ F ≤ (1000000000 ^ 2) ^ F := Nat.pow_le_pow_left AE F
    omega
  · exact e
theorem zW {L : List Nat} {m n : Nat} (h : n = bB L + 1000000000 ^ L.length * m) : n = bB (L ++ [m % 1000000000]) + 1000000000 ^ (L ++ [m % 1000000000]).length * (m / 1000000000) := by
  rw [Em, List.length_append, List.length_singleton, Nat.pow_succ, h]
  have := Nat.div_add_mod m 1000000000
  generalize m / 1000000000 = q at *
  generalize m % 1000000000 = r at *
  subst this
  grind
theorem Hz {L : List Nat} (h : ∀ c ∈ L, c < 1000000000) (m : Nat) : ∀ c ∈ L ++ [m % 1000000000], c < 1000000000 := by
  intro c f
  rcases List.mem_append.1 f with e | e
  · exact h c e
  · simp at e; subst e; exact Nat.mod_lt _ AE
def RetT (w0 : World) (z : Int) (e : Ending) (w' : World) : Prop := e = .returned (.string (PB z)) ∧ Below w0.heap.size w0 w'
theorem TV {P : Program} {o : Oper} {a : Act} {w : World} {K : Act → World → Prop} {Q : Exit → Act → World → Prop} {f : Nat} {args : List Operand} {tys : Array TypeId} {vs : List Value} {l : List SF} {z : Int}
    (hf : Fn P f) (ho : o.op = .call { callee := .value (.func f), args := args.toArray, argTypes := tys }) (hc : Calls P f vs.toArray w (RetT w z)) (hv : args.map a.eval = vs) (E : Env w l)
    (h : ∀ w', Below w.heap.size w w' → Env w' l → K (a.put o.dst (.string (PB z))) w') : o.wp P a w K Q := by
  refine DB hf ho hc hv ?_
  rintro e w' ⟨rfl, k⟩
  exact ⟨_, rfl, h w' k (E.below k)⟩
theorem lZ {P : Program} {o : Oper} {a : Act} {w : World} {K : Act → World → Prop} {Q : Exit → Act → World → Prop} {f : Nat} {args : List Operand} {tys : Array TypeId} {vs : List Value} {l : List SF} {q r : Nat}
    (hf : Fn P f) (ho : o.op = .call { callee := .value (.func f), args := args.toArray, argTypes := tys }) (hc : Calls P f vs.toArray w (Dz w q r)) (hv : args.map a.eval = vs) (E : Env w l)
    (h : ∀ w' v, Below w.heap.size w w' → Env w' (fS v (CC q) :: l) → K (a.put o.dst (.tuple #[v, .int .u64 r])) w') : o.wp P a w K Q := by
  refine DB hf ho hc hv ?_
  rintro e w' ⟨v, rfl, p, k⟩
  exact ⟨_, rfl, h w' v k ⟨p, E.below k⟩⟩
theorem Hc : (prog.info? 217).map (fun i => (i.zero, i.size, i.bytes)) = some (some (.agg (List.replicate 9 (.int .u8 0)).toArray), 9, 9) := by kernel_rfl
theorem Rp : (prog.info? 5).map (fun i => (i.zero, i.size, i.bytes)) = some (some (.int .u8 0), 1, 1) := by kernel_rfl
theorem Ml : ∀ u ∈ (Value.agg (List.replicate 9 (.int .u8 0)).toArray).cells.toList, aG u := by
  intro u e
  simp only [Value.cells, List.toList_toArray] at e
  exact ⟨0, (List.mem_replicate.1 e).2⟩
theorem Gz : ∀ u ∈ (Value.int .u8 0).cells.toList, aG u := by
  intro u e
  simp [Value.cells] at e
  exact ⟨0, e⟩
theorem uH (l : List Nat) : ∀ u ∈ dW l, aG u := by
  intro v e
  obtain ⟨d, _, rfl⟩ := List.mem_map.1 e
  exact ⟨_, rfl⟩
theorem bN {ρ : Operand → Value} {o : Oper} {w : World} {x : Operand} {ao : Option Addr} {n c : Nat} (ho : o.op = .call { callee := .builtin .len, args := #[x], argTypes := #[216] }) (hx : ρ x = .slice ao n c) : (execOp ρ o).run prog w = .ok (.value (.int .i64 n)) w := by
  unfold execOp; rw [ho]; simp [hx, go_sem]
theorem tD {ρ : Operand → Value} {o : Oper} {w : World} {x : Operand} {b off : Nat} (ho : o.op = .slice 217 x none none none) (hx : ρ x = .pointer (some ⟨b, off, none⟩)) : (execOp ρ o).run prog w = .ok (.value (.slice (some ⟨b, off, none⟩) 9 9)) w := by
  unfold execOp; rw [ho]; simp [hx, Instr.sliceAt, Instr.sureAddr, run_underlying underlying217, Instr.sliceBounds, go_sem]
theorem Fo {ρ : Operand → Value} {o : Oper} {w : World} {x : Operand} {g p n c : Nat} (ho : o.op = .slice 42 x (some (.const (.int .i64 1))) none none) (hr : ρ (.const (.int .i64 1)) = .int .i64 1) (hx : ρ x = .slice (some ⟨g, p, none⟩) n c) (h1 : 1 ≤ n) (_h2 : n ≤ c) (h3 : 1 < c) :
    (execOp ρ o).run prog w = .ok (.value (.slice (some ⟨g, p + 1, none⟩) (n - 1) (c - 1))) w := by
  unfold execOp; rw [ho]
  simp [hx, hr, Instr.sliceAt, Instr.slice, run_underlying underlying42, Instr.sliceBounds, Instr.sliceBound, asIntOf, go_sem, show ¬ c = 1 by omega]
  intro h; omega
theorem JS (a b : Nat) : ((a : Nat) : Int).tmod ((b : Nat) : Int) = ((a % b : Nat) : Int) := by
  rw [Int.tmod_eq_emod_of_nonneg AA]; omega
theorem FD {a : Nat} {X : Int} (hX : X = (a : Int)) (h : a < 18446744073709551616) : IntKind.u64.wrap X = (a : Int) := by subst hX; simp only [IntKind.wrap_u64]; omega
theorem PT {a : Nat} {X : Int} (hX : X = (a : Int)) (h : a < 256) : IntKind.u8.wrap X = (a : Int) := by subst hX; simp only [IntKind.wrap_u8]; omega
theorem Qj {b : Nat} (h : b < 18446744073709551616) : IntKind.u64.wrap (((b : Nat) : Int).tdiv 10) = ((b / 10 : Nat) : Int) := by
  rw [Int.tdiv_eq_ediv_of_nonneg AA]
  simp only [IntKind.wrap_u64]
  omega
theorem Md {m : Nat} (h : m ≠ 0) : 0 < (CC m).length := by
  rcases Nat.eq_zero_or_pos (CC m).length with e | e
  · exact absurd ((FH m).1 (List.eq_nil_of_length_eq_zero e)) h
  · exact e
def fN (n : Nat) : SF := ⟨fun w => n ≤ w.heap.size, fun _ => True, fun h hb => Nat.le_trans h hb.size, fun h _ _ hb => by rw [hb.size]; exact h⟩
theorem Env.n {w : World} {l : List SF} {n : Nat} (E : Env w l) (h : n ≤ w.heap.size) : Env w (fN n :: l) := ⟨h, E⟩
theorem uM (w : World) : (isAgg 5).run prog w = .ok false w := by
  simp [go_sem]
theorem Cx (D : List Nat) (p q : Nat) (h : p + q < D.length) : ((D.drop p).map fun d => ((48 + d : Nat) : Int)).getD q 0 = ((48 + gd D (p + q) : Nat) : Int) := by
  rw [List.getD_eq_getElem?_getD, List.getElem?_map, List.getElem?_drop, List.getElem?_eq_getElem h, RR D _ h]; rfl
theorem sM : PB 0 = ⟨#[48]⟩ := by
  unfold PB txt
  rw [Int.natAbs_zero, ON 0 AA]
  rfl
theorem vL (l : List Nat) (_h : Dg l) : (strOfNums (l.map fun d => ((48 + d : Nat) : Int))).data.toList = aQ l := by
  rw [strOfNums_data, List.map_map, aQ]
  apply List.map_congr_left
  intro d e
  show UInt8.ofNat (((48 + d : Nat) : Int).toNat) = _
  rw [Int.toNat_natCast]
theorem Ph {x : Int} {l : List Nat} (h : ¬ x < 0) (hl : l = WM x.natAbs) : strOfNums (l.map fun d => ((48 + d : Nat) : Int)) = PB x := by
  subst hl
  apply ByteArray.ext
  apply Array.ext'
  rw [vL _ (OO _)]
  simp [PB, txt, h]
theorem Pi {x : Int} {l : List Nat} (h : x < 0) (hl : l = WM x.natAbs) : (⟨#[45]⟩ : ByteArray) ++ strOfNums (l.map fun d => ((48 + d : Nat) : Int)) = PB x := by
  subst hl
  apply ByteArray.ext
  apply Array.ext'
  rw [ByteArray.data_append, Array.toList_append, vL _ (OO _)]
  simp [PB, txt, h]
theorem wX {l : List Nat} (h : l.head? ≠ some 0) : LF l = l := by
  cases l with
  | nil => rfl
  | cons d l => cases d with
    | zero => simp at h
    | succ d => rfl
theorem jM {T : List Nat} {p : Nat} (hp : p < T.length) (h : gd T p = 0) (hs : LF (T.drop p) = LF T) : LF (T.drop (p + 1)) = LF T := by
  rw [← hs, List.drop_eq_getElem_cons hp]
  have : T[p] = 0 := by rw [← RR T p hp]; exact h
  rw [this, LF]
theorem wZ {T : List Nat} {p : Nat} (hp : p < T.length) (h : gd T p ≠ 0) (hs : LF (T.drop p) = LF T) : T.drop p = LF T := by
  rw [← hs]
  refine (wX ?_).symm
  rw [List.drop_eq_getElem_cons hp]
  simp only [List.head?_cons, ne_eq, Option.some.injEq]
  rw [← RR T p hp]; exact h
theorem wW {T : List Nat} {p : Nat} (hp : p < T.length) (h : gd T p = 0) (hs : LF (T.drop p) = LF T) (hT : LF T ≠ []) : p + 1 < T.length := by
  rcases Nat.lt_or_ge (p + 1) T.length with e | e
  · exact e
  · exfalso
    have := jM hp h hs
    rw [List.drop_of_length_le e] at this
    exact hT this.symm
theorem qF (L : List Nat) (i : Nat) (h : i < L.length) : L.reverse.take (i + 1) = L.reverse.take i ++ [gd L (L.length - 1 - i)] := by
  rw [List.take_succ_eq_append_getElem (by simpa using h), List.getElem_reverse, RR L (L.length - 1 - i) AA]
theorem Mt (L : List Nat) (c j : Nat) (hc : c < L.length) (hj : j < 9) : (dW (L.flatMap (VG 9)))[0 + c * 9 + j]? = (dW (VG 9 (gd L c)))[j]? := by
  induction L generalizing c with
  | nil => simp at hc
  | cons x L ih =>
    rw [List.flatMap_cons, aO]
    cases c with
    | zero =>
      rw [List.getElem?_append_left (by rw [KN, GZ]; omega)]
      simp [gd]
    | succ c =>
      rw [List.getElem?_append_right (by rw [KN, GZ]; omega), KN, GZ]
      have e : gd (x :: L) (c + 1) = gd L c := by unfold gd; simp
      rw [e, ← ih c (by simpa using hc), show 0 + (c + 1) * 9 + j - 9 = 0 + c * 9 + j from by omega]
end Go.Proofs.YtmppigbbkjepiaaGreatDoor
