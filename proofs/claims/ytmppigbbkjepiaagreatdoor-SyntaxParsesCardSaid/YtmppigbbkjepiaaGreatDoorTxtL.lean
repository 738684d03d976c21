/- Helping facts of Gcd; no other conditions. Helping facts of BezM; no other conditions. Helping facts of BezD; no other conditions. Helping facts of TxtM; no other conditions. Helping facts of TxtL; no other conditions. -/
import Derived.Test.YtmppigbbkjepiaaGreatDoorKitA
namespace Go.Proofs.YtmppigbbkjepiaaGreatDoor
open Go.Proofs.Tryz
open Go.RowKit W
variable {G X n : Nat} {a b r u y : Int} {p : Prop}
theorem YaG (h : p := by rw [Nat.pow_succ] at h; exact Nat.div_lt_of_lt_mul (by rw [Nat.mul_comm]; exact h)) : p := h
theorem ZkX (h : p := by
 go_wp2_with fail
 refine AQ (v := .agg #[.bool (decide (zG < 0)), .slice ao7 (CD zG.natAbs).length cap7]) ?_ O (VR hz7 HR4.out B7 AA)
 simp [results, results129, go_sem, g0, g1]
 ) : p := h
def GcdIs (X Y G : Nat) : Prop := Nat.gcd X Y = G
theorem GcdIs.step {Y : Nat} (h : GcdIs X Y G) : GcdIs Y (X % Y) G := by
 unfold GcdIs at *
 rw [<- h, Nat.gcd_comm X Y, Nat.gcd_rec Y X, Nat.gcd_comm]
theorem GcdIs.done (h : GcdIs X 0 G) : X = G := by unfold GcdIs at h; rwa [Nat.gcd_zero_right] at h
set_option maxRecDepth 100000 in
set_option maxHeartbeats 4000000 in
theorem Gcd_z (va vb : Value) (x y : Int) (w : World) (ha : IsI w va x) (hb : IsI w vb y) (hx : Fits x 900000000) (hy : Fits y 900000000) :
 Calls prog 129 #[va, vb] w (RetZ w (Nat.gcd x.natAbs y.natAbs : Nat)) := by
 obtain ⟨aoa, capa, rfl, sa, ha1, ha2⟩ := ha.parts
 obtain ⟨aob, capb, rfl, sb, hb1, hb2⟩ := hb.parts
 have SA := Lib.hid sa
 have SB := Lib.hid sb
 have HFX := Lib.hid hx
 have HFY := Lib.hid hy
 clear ha sa hx hb sb hy
 obtain ⟨nx, hnx⟩ : ∃ nx, nx = decide (x < 0) := ⟨_, rfl⟩
 obtain ⟨ny, hny⟩ : ∃ ny, ny = decide (y < 0) := ⟨_, rfl⟩
 rw [<- hnx, <- hny]
 clear hnx hny
 obtain ⟨A, hA⟩ : ∃ A, A = x.natAbs := ⟨_, rfl⟩
 obtain ⟨Bn, hB⟩ : ∃ B, B = y.natAbs := ⟨_, rfl⟩
 unfold Fits at HFX HFY
 rw [<- hA] at SA HFX ha1 ⊢
 rw [<- hB] at SB HFY hb1 ⊢
 clear hA hB
 obtain ⟨G, hG⟩ : ∃ G, G = Nat.gcd A Bn := ⟨_, rfl⟩
 rw [<- hG]
 obtain ⟨zG, hzG⟩ : ∃ z : Int, z = (G : Int) := ⟨_, rfl⟩
 rw [<- hzG]
 have HZG := Lib.hid hzG
 have HG : GcdIs A Bn G := hG.symm
 clear hG hzG
 obtain ⟨W, hW, hsz, B0, k0, k1, k2⟩ := Hi w nx ny (.slice aoa (CD A).length capa) (.slice aob (CD Bn).length capb)
 have c1 := k0.2
 have c3 := k1.2
 have K4 := Lib.hid k2
 have SAW := Lib.hid (SA.out.below B0)
 have SBW := Lib.hid (SB.out.below B0)
 clear k0 k1 k2
 go_enter func129, ntmps129
 go_upto_region 1 with fail
 rw [<- hW]
 clear hW
 go_region_held3 (fun w' => w'.cell? ⟨w.heap.size, 1, none⟩ = some (.slice aoa (CD A).length capa) /\ w'.cell? ⟨w.heap.size + 1, 1, none⟩ = some (.slice aob (CD Bn).length capb))
  (first | exact ⟨c1, c3⟩ | exact ⟨d1, d3⟩ | exact ⟨f1, f3⟩)
  (first
    | (go_at_call_of 161 (Value.slice aoa (CD A).length capa); refine (OO _ (CD A) _ ?_).mono ?_; exact SAW.out; rintro e w' ⟨rfl, vt1, rfl, ht1⟩)
    | (go_at_call_of 161 (Value.slice aob (CD Bn).length capb); refine (OO _ (CD Bn) _ ?_).mono ?_; exact SBW.out.below (PA hb1'); rintro e w' ⟨rfl, vt2, rfl, ht2⟩)
    | (go_at_call_of 139 vt1; refine (aV _ (CD (val (CD A))) _ ?_ ?_).mono ?_; exact ht1 _ SAW.out; (rw [CO]; have := HFX.out; omega); rintro e w1 ⟨v1, rfl, hv1, hb1'⟩; have d1 := UB c1 hb1'; have d3 := UB c3 hb1')
    | (go_at_call_of 139 vt2; refine (aV _ (CD (val (CD Bn))) _ ?_ ?_).mono ?_; exact ht2 _ (SBW.out.below (PA hb1')); (rw [CO]; have := HFY.out; omega); rintro e w2 ⟨v2, rfl, hv2, hb2'⟩; have f1 := DB d1 hb2'; have f3 := DB d3 hb2'))
 rw [CO] at hv1 hv2
 have HV1 := hv1.below hb2'
 have BW2 : Below W.heap.size W w2 := (PA hb1').trans (hb2'.mono hb1'.size)
 clear c1 c3 d1 d3 f1 f3 ht1 ht2 hv1 hb1' hb2'
 go_wp2_with fail
 go_loopg [5, 6] Bn (fun Y vx vy wr => ∃ X, Sl wr vx (CD X) /\ Sl wr vy (CD Y) /\ GcdIs X Y G /\ (CD X).length <= 900000000 /\ (CD Y).length <= 900000000 /\ Below W.heap.size W wr)
 case atStart => exact ⟨A, HV1, hv2, HG, HFX.out, HFY.out, BW2⟩
 case round =>
  clear HV1 hv2 HG BW2
  obtain ⟨Y, rfl⟩ : ∃ Y, Y = gk := ⟨_, rfl⟩
  obtain ⟨X, hX, hY, hG, hlX, hlY, hbel⟩ := hrel
  have HXS := Lib.hid hX
  have HYS := Lib.hid hY
  obtain ⟨aox, capx, rfl, x1, x2, _, _, _⟩ := hX
  obtain ⟨aoy, capy, rfl, y1, y2, _, _, _⟩ := hY
  unfold maxLen at x2 y2
  by_cases hY0 : Y = 0
  . subst hY0
    have hGx := hG.done
    have hd : decide ((0 : Int) < ((CD 0).length : Int)) = false := by rw [EG]; rfl
    have hd' : decide (0 < (CD 0).length) = false := by rw [EG]; rfl
    have HGX := Lib.hid hGx
    clear hGx hG
    go_wp2_with fail
    refine (RV _ _ (CD X) zG _ HXS.out (by rw [CO, nF, HZG.out, HGX.out])).mono ?_
    rintro e w7 ⟨v7, rfl, hz7, hb7⟩
    obtain ⟨ao7, cap7, rfl, sl7, _, _⟩ := hz7.parts
    have r4 := (K4.out.keep hbel).keep hb7
    have HR4 := Lib.hid r4
    obtain ⟨⟨n4, ao4, len4, cap4, g0, g1⟩, g2, g3⟩ := r4
    have B7 : Below w.heap.size w w7 := (B0.trans ((hbel).mono B0.size)).trans (hb7.mono (Nat.le_trans B0.size (hbel).size))
    exact ZkX
  have hYl : (CD Y).length ≠ 0 := fun e => hY0 ((FY _).1 (List.eq_nil_of_length_eq_zero e))
  have hd : decide ((0 : Int) < ((CD Y).length : Int)) = true := by simp; omega
  have hd' : decide (0 < (CD Y).length) = true := by simp; omega
  by_cases hsm : (CD X).length <= 2 /\ (CD Y).length <= 2
  . have e1 : decide (((CD X).length : Int) <= 2) = true := by simp; omega
    have e2 : decide (((CD Y).length : Int) <= 2) = true := by simp; omega
    have e1' : decide ((CD X).length <= 2) = true := by simp; omega
    have e2' : decide ((CD Y).length <= 2) = true := by simp; omega
    have hX64 : X < 18446744073709551616 := by
     have h1 := GV (GF X)
     rw [CO] at h1
     have h2 := Nat.pow_le_pow_right (n := 4294967296) AA hsm.1
     omega
    have hY64 : Y < 18446744073709551616 := by
     have h1 := GV (GF Y)
     rw [CO] at h1
     have h2 := Nat.pow_le_pow_right (n := 4294967296) AA hsm.2
     omega
    have HL1 := Lib.hid hsm.1
    have HL2 := Lib.hid hsm.2
    clear hsm hYl
    go_wp2_with fail
    refine (XG _ (CD X) _ HXS.out HL1.out).mono ?_
    rw [CO]
    rintro e w' ⟨rfl, rfl⟩
    go_wp2_with fail
    refine (XG _ (CD Y) _ HYS.out HL2.out).mono ?_
    rw [CO]
    rintro e w' ⟨rfl, rfl⟩
    go_wp2_with fail
    clear e1 e2 e1' e2' hd hd'
    obtain ⟨wo, rfl⟩ : ∃ wo : World, wo = wr := ⟨_, rfl⟩
    go_loopw [7, 8] (fun sm sn wx => ∃ m n : Nat, sm = .int .u64 m /\ sn = .int .u64 n /\ m < 18446744073709551616 /\ n < 18446744073709551616 /\ GcdIs m n G /\ ∃ d, wx = wo.drewN d) (fun _ sn _ => (intOf sn).toNat)
    case atStart => exact ⟨X, Y, rfl, rfl, hX64, hY64, hG, 0, rfl⟩
    case round =>
     obtain ⟨m, n, rfl, rfl, hm, hn, hg, d, rfl⟩ := hrel
     by_cases hn0 : n = 0
     . subst hn0
       have HGX := Lib.hid hg.done
       have hf : decide ((0 : Int) < ((0 : Nat) : Int)) = false := rfl
       clear hg hG
       go_wp2_with fail
       refine (eP m _ hm).mono ?_
       rintro e w6 ⟨v6, rfl, hv6, hb6⟩
       have hbel6 := hbel.trans ((KU hb6).mono hbel.size)
       go_wp2_with fail
       refine (RV _ _ (CD m) zG _ hv6 (by rw [CO, nF, HZG.out, HGX.out])).mono ?_
       rintro e w7 ⟨v7, rfl, hz7, hb7⟩
       obtain ⟨ao7, cap7, rfl, sl7, _, _⟩ := hz7.parts
       have r4 := (K4.out.keep hbel6).keep hb7
       have HR4 := Lib.hid r4
       obtain ⟨⟨n4, ao4, len4, cap4, g0, g1⟩, g2, g3⟩ := r4
       have B7 : Below w.heap.size w w7 := (B0.trans ((hbel6).mono B0.size)).trans (hb7.mono (Nat.le_trans B0.size (hbel6).size))
       exact ZkX
     have hf : decide ((0 : Int) < (n : Int)) = true := by simp; omega
     have hrem : (m : Int).tmod (n : Int) = ((m % n : Nat) : Int) := by rw [IntWalk.rem_in _ _ AA]; simp
     have hrem' : (m : Int) % (n : Int) = ((m % n : Nat) : Int) := by simp
     have hne : ¬ (n : Int) = 0 := by omega
     have hg2 := hg.step
     have hlt := Nat.mod_lt m (show 0 < n by omega)
     obtain ⟨r, hr⟩ : ∃ r, r = m % n := ⟨_, rfl⟩
     rw [<- hr] at hrem hrem' hg2 hlt
     clear hr hg hn0
     go_wp2_with fail
     go_quiet (fail)
     clear hrem hrem' hf
     go_wp2_with fail
     go_roundw
     case rel => exact ⟨n, r, rfl, rfl, hn, by omega, hg2, (by first | exact ⟨_, rfl⟩ | exact ⟨_, by simp only [World.drewN_drewN]; rfl⟩)⟩
     case measure => simp [intOf]; omega
  have hdec : (decide (((CD X).length : Int) <= 2) = false) ∨ (decide (((CD X).length : Int) <= 2) = true /\ decide (((CD Y).length : Int) <= 2) = false) := by
   by_cases h : (CD X).length <= 2
   . right; exact ⟨by simp; omega, by simp; omega⟩
   left; simp; omega
  have hYp : 0 < Y := by omega
  have hst := hG.step
  have hlt := Nat.mod_lt X hYp
  have hlr : (CD (X % Y)).length <= 900000000 := Nat.le_trans (FZ (Nat.le_of_lt hlt)) hlY
  clear hsm hYl
  rcases hdec with e1 | ⟨e1, e2⟩
  all_goals
   go_wp2_with fail
   refine (Kt _ _ (CD X) (CD Y) _ HXS.out HYS.out AA AA (by rw [CO]; exact hYp)).mono ?_
   rw [CO, CO]
   rintro e w3 ⟨v3, u3, rfl, hv3, hu3, hb3⟩
   have HY3 := HYS.out.below hb3
   have hbel3 := hbel.trans (hb3.mono hbel.size)
   go_wp2_with fail
   go_roundg (X % Y)
   case measure => exact hlt
   case rel => exact ⟨Y, HY3, hu3, hst, hlY, hlr, hbel3⟩
structure BzInv (a b r nx u st : Int) : Prop where
 c1 : ∃ k : Int, r = u * a + k * b
 c2 : ∃ k : Int, nx = st * a + k * b
 g : Int.gcd r nx = Int.gcd a b
 hu : u.natAbs <= 3 * b.natAbs + 1
 hs : st.natAbs <= 3 * b.natAbs + 1
 hr : r.natAbs <= a.natAbs + b.natAbs
 hn : nx.natAbs <= a.natAbs + b.natAbs
 ph : (r = a /\ nx = b /\ u = 1 /\ st = 0) ∨ (r = b /\ u = 0 /\ st = 1 /\ 0 <= nx /\ nx < b.natAbs) ∨
  (0 < r /\ 0 <= nx /\ nx < r /\ r < b.natAbs /\ st.natAbs * r.natAbs + u.natAbs * nx.natAbs <= 3 * b.natAbs)
theorem BzInv.start (a b : Int) : BzInv a b a b 1 0 :=
 ⟨⟨0, by simp⟩, ⟨1, by simp⟩, rfl, by simp, by simp, by omega, by omega, .inl ⟨rfl, rfl, rfl, rfl⟩⟩
theorem Qk (r nx : Int) : Int.gcd nx (r % nx) = Int.gcd r nx := by
 rw [Int.emod_def, Int.gcd_comm r nx]
 exact Int.gcd_sub_mul_left_right ..
theorem BzInv.step {nx st : Int} (h : BzInv a b r nx u st) (hnx : nx ≠ 0) : BzInv a b nx (r % nx) st (u - r / nx * st) := by
 obtain ⟨⟨J, e1⟩, ⟨p, e2⟩, g, U, t, X, B, G⟩ := h
 have Q := Int.mul_ediv_add_emod r nx
 have l := Int.emod_nonneg r hnx
 have P := Int.emod_lt r hnx
 have hg : Int.gcd nx (r % nx) = Int.gcd a b := by rw [Qk]; exact g
 have C : ∃ k : Int, r % nx = (u - r / nx * st) * a + k * b := by
  refine ⟨J - r / nx * p, ?_⟩
  generalize r / nx = q at *
  generalize r % nx = m at *
  grind
 have f : (r % nx).natAbs <= a.natAbs + b.natAbs := by omega
 generalize hq : r / nx = q at *
 generalize hmm : r % nx = m at *
 rcases G with ⟨rfl, rfl, rfl, rfl⟩ | ⟨rfl, rfl, rfl, I, o⟩ | ⟨I, o, T, S, H⟩
 . refine ⟨⟨p, e2⟩, C, hg, t, by simp, B, f, .inr (.inl ⟨rfl, rfl, by simp, l, by omega⟩)⟩
 . have N : q.natAbs * nx.natAbs <= r.natAbs + m.natAbs := by
    rw [<- Int.natAbs_mul, Int.mul_comm q nx]; omega
   have e : 1 <= nx.natAbs := by omega
   have L : q.natAbs <= q.natAbs * nx.natAbs := Nat.le_mul_of_pos_right _ e
   have e3 : ((0 : Int) - q * 1).natAbs = q.natAbs := by omega
   refine ⟨⟨p, e2⟩, C, hg, t, by rw [e3]; omega, B, f, .inr (.inr ⟨by omega, l, by omega, o, ?_⟩)⟩
   rw [e3]; simp only [Int.natAbs_one, Nat.one_mul]; omega
 have y : 0 <= q := by rw [<- hq]; exact Int.ediv_nonneg AA o
 have F : (u - q * st).natAbs <= u.natAbs + q.natAbs * st.natAbs := by
  have := Int.natAbs_sub_le u (q * st)
  rwa [Int.natAbs_mul] at this
 have e : 1 <= nx.natAbs := by omega
 have v : r.natAbs = nx.natAbs * q.natAbs + m.natAbs := by
  rw [<- Int.natAbs_mul]
  have : 0 <= nx * q := Int.mul_nonneg o y
  omega
 have R : (u - q * st).natAbs * nx.natAbs + st.natAbs * m.natAbs <= 3 * b.natAbs := by
  refine Nat.le_trans ?_ H
  have := Nat.mul_le_mul_right nx.natAbs F
  rw [v]
  rw [Nat.add_mul] at this
  rw [Nat.mul_add]
  have e4 : q.natAbs * st.natAbs * nx.natAbs = st.natAbs * (nx.natAbs * q.natAbs) := by grind
  omega
 have D : (u - q * st).natAbs <= 3 * b.natAbs + 1 := by
  have : (u - q * st).natAbs <= (u - q * st).natAbs * nx.natAbs := Nat.le_mul_of_pos_right _ e
  omega
 exact ⟨⟨p, e2⟩, C, hg, t, D, B, f, .inr (.inr ⟨by omega, l, by omega, by omega, R⟩)⟩
structure BezIs (x y : Int) (g u v : Int) : Prop where
 isg : g = (Int.gcd x y : Nat)
 zero : y = 0 -> u = (if x < 0 then -1 else if x = 0 then 0 else 1) /\ v = 0
 low : y ≠ 0 -> 0 <= u /\ u < (y.natAbs : Int) / g
 sum : u * x + v * y = g
theorem BzInv.done {u' per : Int} (h : ∃ st, BzInv a b r 0 u st) (hb : b ≠ 0) (hu' : u' = if r < 0 then -u else u) (hper : per = (b.natAbs : Int) / (r.natAbs : Int)) :
 per ≠ 0 /\ r.natAbs ≠ 0 /\ BezIs a b (r.natAbs : Int) (u' % per) (((r.natAbs : Int) - u' % per * a) / b) := by
 obtain ⟨st, ⟨H, e1⟩, _, g, _⟩ := h
 have hg : r.natAbs = Int.gcd a b := by rw [<- g]; simp [Int.gcd]
 have o : (r.natAbs : Int) ∣ b := by rw [hg]; exact Int.gcd_dvd_right ..
 have y : (r.natAbs : Int) ∣ a := by rw [hg]; exact Int.gcd_dvd_left ..
 have q : r.natAbs ≠ 0 := by
  intro e; rw [e] at o
  exact hb (Int.zero_dvd.1 o)
 obtain ⟨R, D⟩ := o
 obtain ⟨I, F⟩ := y
 generalize hG : r.natAbs = G at *
 have P : (0 : Int) < (G : Int) := by omega
 have v : per * G = b.natAbs := by
  rw [hper]
  refine Int.ediv_mul_cancel ?_
  have : (G : Int) ∣ b := ⟨R, D⟩
  exact Int.dvd_natAbs.2 this
 have l : 0 < per := by
  rcases Int.lt_or_le 0 per with h | h
  . exact h
  exfalso
  have : per * G <= 0 := Int.mul_nonpos_of_nonpos_of_nonneg h AA
  omega
 refine ⟨by omega, q, ?_⟩
 have N : ∃ k : Int, (G : Int) = u' * a + k * b := by
  by_cases f : r < 0
  . rw [if_pos f] at hu'
    exact ⟨-H, by rw [hu', show (G : Int) = -r by omega, e1]; grind⟩
  rw [if_neg f] at hu'
  exact ⟨H, by rw [hu', show (G : Int) = r by omega, e1]⟩
 obtain ⟨k, L⟩ := N
 have B := Int.mul_ediv_add_emod u' per
 have C : ∃ s : Int, per * G = s * b := by
  rcases Int.lt_or_le b 0 with h | h
  . exact ⟨-1, by omega⟩
  exact ⟨1, by omega⟩
 obtain ⟨s, J⟩ := C
 have p : b ∣ ((G : Int) - u' % per * a) := by
  refine ⟨k + u' / per * I * s, ?_⟩
  generalize u' / per = t at *
  generalize u' % per = m at *
  have Q : u' = per * t + m := B.symm
  have S : per * a = s * b * I := by rw [F, <- Int.mul_assoc, J]
  rw [L, Q]
  grind
 refine ⟨by rw [hg], fun h => absurd h hb, fun _ => ⟨Int.emod_nonneg _ AA, ?_⟩, ?_⟩
 . rw [<- hper]; exact Int.emod_lt_of_pos _ l
 rw [Int.ediv_mul_cancel p]; omega
theorem mR {z : Int} (h : z.natAbs <= y.natAbs) (hy : Fits y n) : Fits z n := NB (Nat.lt_of_le_of_lt h hy.lt)
theorem Fits_div {x : Int} (h : Fits x n) : Fits (x / y) n := by
 refine mR ?_ h
 exact Int.natAbs_ediv_le_natAbs _ _
end Go.Proofs.YtmppigbbkjepiaaGreatDoor
namespace Go.Proofs.YtmppigbbkjepiaaGreatDoor.W
def YR : Nat -> Nat -> List Nat
 | 0, _ => []
 | k + 1, c => YR k (c / 10) ++ [c % 10]
def CX (l : List Nat) : Nat := l.foldl (fun a d => 10 * a + d) 0
def Dg (l : List Nat) : Prop := ∀ d ∈ l, d < 10
def YF (n : Nat) : List Nat := if n < 10 then [n] else YF (n / 10) ++ [n % 10]
termination_by n
decreasing_by omega
theorem Dg_append {a b : List Nat} : Dg (a ++ b) ↔ Dg a /\ Dg b := by
 simp only [Dg, List.mem_append]
 exact ⟨fun h => ⟨fun x e => h x (.inl e), fun x e => h x (.inr e)⟩, fun h x e => e.elim (h.1 x) (h.2 x)⟩
theorem Dg_cons {a : Nat} {b : List Nat} : Dg (a :: b) ↔ a < 10 /\ Dg b := by simp [Dg]
theorem NS : CX [] = 0 := rfl
theorem YG (l : List Nat) (d : Nat) : CX (l ++ [d]) = 10 * CX l + d := by simp [CX]
theorem Vq (l : List Nat) : ∀ a : Nat, l.foldl (fun a d => 10 * a + d) a = a * 10 ^ l.length + CX l := by
 induction l with
 | nil => intro a; simp [CX]
 | cons d l ih =>
   intro a
   have h := ih (10 * a + d)
   have f := ih (10 * 0 + d)
   have e : CX (d :: l) = l.foldl (fun a d => 10 * a + d) (10 * 0 + d) := rfl
   rw [List.foldl_cons, h, e, f, List.length_cons, Nat.pow_succ]
   grind
theorem YH (a b : List Nat) : CX (a ++ b) = CX a * 10 ^ b.length + CX b := by
 show (a ++ b).foldl _ 0 = _
 rw [List.foldl_append, Vq b]; rfl
theorem mX (d : Nat) (l : List Nat) : CX (d :: l) = d * 10 ^ l.length + CX l := by
 have := YH [d] l
 simpa [CX] using this
theorem IX : ∀ (k c : Nat), (YR k c).length = k
 | 0, _ => rfl
 | k + 1, c => by rw [YR, List.length_append, IX k]; rfl
theorem Pd : ∀ (k c : Nat), Dg (YR k c)
 | 0, _ => fun _ h => by cases h
 | k + 1, c => by
   rw [YR, Dg_append, Dg_cons]
   exact ⟨Pd k _, by omega, fun _ h => by cases h⟩
theorem rA : ∀ (k c : Nat), c < 10 ^ k -> CX (YR k c) = c
 | 0, c, h => by rw [Nat.pow_zero] at h; obtain rfl : c = 0 := by omega
                 rfl
 | k + 1, c, h => by
   rw [YR, YG, rA k (c / 10) YaG]
   omega
theorem eS {l : List Nat} (h : Dg l) : CX l < 10 ^ l.length := by
 induction l with
 | nil => simp [CX]
 | cons d l ih =>
   have e := Dg_cons.1 h
   have f := ih e.2
   rw [mX, List.length_cons, Nat.pow_succ]
   have : d * 10 ^ l.length <= 9 * 10 ^ l.length := Nat.mul_le_mul_right _ AA
   omega
theorem QC (n : Nat) (h : n < 10) : YF n = [n] := by rw [YF, if_pos h]
theorem WX (n : Nat) (h : 10 <= n) : YF n = YF (n / 10) ++ [n % 10] := by rw [YF, if_neg AA]
theorem RE (n : Nat) : Dg (YF n) := by
 induction n using Nat.strongRecOn with
 | ind n ih =>
   rcases Nat.lt_or_ge n 10 with h | h
   . rw [QC n h, Dg_cons]; exact ⟨h, fun _ h => by cases h⟩
   rw [WX n h, Dg_append, Dg_cons]
   exact ⟨ih _ AA, by omega, fun _ h => by cases h⟩
theorem TW (n : Nat) : CX (YF n) = n := by
 induction n using Nat.strongRecOn with
 | ind n ih =>
   rcases Nat.lt_or_ge n 10 with h | h
   . rw [QC n h]; simp [CX]
   rw [WX n h, YG, ih _ AA]; omega
theorem Dp (n : Nat) : YF n ≠ [] := by
 rcases Nat.lt_or_ge n 10 with h | h
 . rw [QC n h]; simp
 rw [WX n h]; simp
def Cn (l : List Nat) : Prop := l ≠ [] /\ (l.head? = some 0 -> l.length = 1)
theorem Re (n : Nat) (h : 0 < n) : (YF n).head? ≠ some 0 := by
 induction n using Nat.strongRecOn with
 | ind n ih =>
   rcases Nat.lt_or_ge n 10 with e | e
   . rw [QC n e]; simp; omega
   rw [WX n e]
   have := ih (n / 10) AA AA
   have k := Dp (n / 10)
   cases f : YF (n / 10) with
   | nil => exact absurd f k
   | cons a l => rw [f] at this; simpa using this
theorem B5 (n : Nat) : Cn (YF n) := by
 refine ⟨Dp n, fun h => ?_⟩
 rcases Nat.eq_zero_or_pos n with e | e
 . subst e; rw [QC 0 AA]; rfl
 exact absurd h (Re n e)
theorem Bq {l : List Nat} (h : l ≠ []) : ∃ a d, l = a ++ [d] := by
 rcases l.eq_nil_or_concat with e | ⟨a, d, e⟩
 . exact absurd e h
 exact ⟨a, d, by rw [e, List.concat_eq_append]⟩
theorem Dn : ∀ (k : Nat) (l : List Nat), l.length = k -> Dg l -> Cn l -> l = YF (CX l)
 | 0, l, hk, _, hc => absurd (List.eq_nil_of_length_eq_zero hk) hc.1
 | k + 1, l, hk, hd, hc => by
   obtain ⟨a, d, rfl⟩ := Bq hc.1
   have h1 := Dg_append.1 hd
   have hd1 : d < 10 := (Dg_cons.1 h1.2).1
   rw [YG]
   by_cases ha : a = []
   . subst ha
     rw [NS, QC _ AA]
     simp
   have hca : Cn a := by
    refine ⟨ha, fun h => ?_⟩
    have := hc.2 (by cases a with | nil => exact absurd rfl ha | cons x a => simpa using h)
    rw [List.length_append, List.length_singleton] at this
    have : a.length = 0 := by omega
    exact absurd (List.eq_nil_of_length_eq_zero this) ha
   have f := Dn k a (by simpa using hk) h1.1 hca
   have o : 0 < CX a := by
    rcases Nat.eq_zero_or_pos (CX a) with e | e
    . exfalso
      rw [e, QC 0 AA] at f
      subst f
      have := hc.2 AH
      simp at this
    exact e
   rw [WX _ AA, show (10 * CX a + d) / 10 = CX a from by omega, show (10 * CX a + d) % 10 = d from by omega, <- f]
theorem Hb {m n : Nat} (h : YF m = YF n) : m = n := by
 have := congrArg CX h
 rwa [TW, TW] at this
def MT : List Nat -> List Nat
 | [] => []
 | 0 :: l => MT l
 | d :: l => d :: l
theorem Ir (l : List Nat) : CX (MT l) = CX l := by
 induction l with
 | nil => rfl
 | cons d l ih =>
   cases d with
   | zero => rw [MT, ih, mX]; omega
   | succ d => rfl
theorem Mo {l : List Nat} (h : Dg l) : Dg (MT l) := by
 induction l with
 | nil => exact h
 | cons d l ih =>
   cases d with
   | zero => exact ih (Dg_cons.1 h).2
   | succ d => exact h
theorem Bo (l : List Nat) : (MT l).head? ≠ some 0 := by
 induction l with
 | nil => simp [MT]
 | cons d l ih =>
   cases d with
   | zero => exact ih
   | succ d => simp [MT]
theorem It {l : List Nat} (h : Dg l) (hp : 0 < CX l) : MT l = YF (CX l) := by
 have f := Ir l
 rw [<- f]
 refine Dn _ _ O (Mo h) ⟨fun e => ?_, fun e => absurd e (Bo l)⟩
 rw [e] at f
 rw [<- f] at hp
 exact absurd hp (by simp [CX])
theorem qM {n k : Nat} (hk : 0 < k) (h : n < 10 ^ k) : (YF n).length <= k := by
 induction k generalizing n with
 | zero => omega
 | succ k ih =>
   rcases Nat.lt_or_ge n 10 with l | l
   . rw [QC n l]; simp
   rw [WX n l, List.length_append, List.length_singleton]
   have f : 0 < k := by
    rcases Nat.eq_zero_or_pos k with e | e
    . subst e; simp at h; omega
    exact e
   have := ih f (n := n / 10) YaG
   omega
def eR : List Nat -> Nat
 | [] => 0
 | c :: l => c + 1000000000 * eR l
theorem Ig (l : List Nat) (c : Nat) : eR (l ++ [c]) = eR l + 1000000000 ^ l.length * c := by
 induction l with
 | nil => simp [eR]
 | cons x l ih => rw [List.cons_append, eR, eR, ih, List.length_cons, Nat.pow_succ]; grind
theorem yQ (l : List Nat) : (l.flatMap (YR 9)).length = 9 * l.length := by
 induction l with
 | nil => rfl
 | cons c l ih => rw [List.flatMap_cons, List.length_append, ih, IX, List.length_cons]; omega
theorem Vr (l : List Nat) : Dg (l.flatMap (YR 9)) := by
 induction l with
 | nil => exact fun _ h => by cases h
 | cons c l ih => rw [List.flatMap_cons, Dg_append]; exact ⟨Pd _ _, ih⟩
theorem jF (l : List Nat) (c : Nat) : (l ++ [c]).flatMap (YR 9) = l.flatMap (YR 9) ++ YR 9 c := by simp
theorem Be (l : List Nat) (h : ∀ c ∈ l, c < 1000000000) : CX (l.reverse.flatMap (YR 9)) = eR l := by
 induction l with
 | nil => rfl
 | cons c l ih =>
   rw [List.reverse_cons, jF, YH, ih (fun x e => h x (by simp [e])), IX, rA 9 c (h c AH), eR]
   omega
def ZQ (l : List Nat) : List UInt8 := l.map fun d => UInt8.ofNat (48 + d)
def txt (z : Int) : List UInt8 := (if z < 0 then [45] else []) ++ ZQ (YF z.natAbs)
def NT (z : Int) : ByteArray := ⟨(txt z).toArray⟩
theorem Hg {a b : List Nat} (ha : Dg a) (hb : Dg b) (h : ZQ a = ZQ b) : a = b := by
 induction a generalizing b with
 | nil => cases b with | nil => rfl | cons _ _ => simp [ZQ] at h
 | cons x a ih =>
   cases b with
   | nil => simp [ZQ] at h
   | cons y b =>
     have k := Dg_cons.1 ha
     have f := Dg_cons.1 hb
     simp only [ZQ, List.map_cons, List.cons.injEq] at h
     have e := congrArg UInt8.toNat h.1
     rw [UInt8.toNat_ofNat', UInt8.toNat_ofNat'] at e
     obtain rfl : x = y := by omega
     rw [ih k.2 f.2 h.2]
theorem pJ {l : List Nat} (h : Dg l) : (ZQ l).head? ≠ some 45 := by
 cases l with
 | nil => simp [ZQ]
 | cons d l =>
   have := (Dg_cons.1 h).1
   simp only [ZQ, List.map_cons, List.head?_cons, Option.some.injEq, ne_eq]
   intro e
   have e := congrArg UInt8.toNat e
   rw [UInt8.toNat_ofNat'] at e
   have : (48 + d) % 2 ^ 8 = 48 + d := Nat.mod_eq_of_lt AA
   rw [this] at e
   have : (45 : UInt8).toNat = 45 := rfl
   omega
theorem eV {x y : Int} (h : txt x = txt y) : x = y := by
 unfold txt at h
 have l := pJ (RE x.natAbs)
 have k := pJ (RE y.natAbs)
 by_cases f : x < 0 <;> by_cases e : y < 0
 . rw [if_pos f, if_pos e] at h
   have := Hb (Hg (RE _) (RE _) (by simpa using h))
   omega
 . rw [if_pos f, if_neg e] at h
   exfalso; apply k; simp only [List.nil_append] at h; rw [<- h]; rfl
 . rw [if_neg f, if_pos e] at h
   exfalso; apply l; simp only [List.nil_append] at h; rw [h]; rfl
 rw [if_neg f, if_neg e] at h
 have := Hb (Hg (RE _) (RE _) (by simpa using h))
 omega
end Go.Proofs.YtmppigbbkjepiaaGreatDoor.W
namespace Go.Proofs.YtmppigbbkjepiaaGreatDoor
open Go.Proofs.Tryz
open Go.RowKit W
variable {K : Act -> World -> Prop} {L T l : List Nat} {P : Program} {Q : Exit -> Act -> World -> Prop} {X : Int} {a : Act} {args : List Operand} {b c j m p : Nat} {o : Oper} {tys : Array TypeId} {vs : List Value} {w : World} {x : Operand} {ρ : Operand -> Value}
def iS (l : List Nat) : List Value := l.map fun d => Value.int .u8 ((48 + d : Nat) : Int)
def cl (j c : Nat) : List Value := List.replicate (9 - j) (Value.int .u8 0) ++ iS (YR j c)
theorem LZ (l : List Nat) : (iS l).length = l.length := by simp [iS]
theorem dY (a b : List Nat) : iS (a ++ b) = iS a ++ iS b := by simp [iS]
theorem Hc (l : List Nat) : ∀ v ∈ iS l, v.oneCell' = true := by
 intro v e
 obtain ⟨d, _, rfl⟩ := List.mem_map.1 e
 rfl
theorem mH (l : List Nat) (i : Nat) (h : i < l.length) : (iS l)[i]? = some (.int .u8 ↑(48 + gd l i)) := by
 rw [iS, List.getElem?_map, List.getElem?_eq_getElem h, UU l i h]; rfl
theorem rW : ∀ (k c : Nat), YR (k + 1) c = (c / 10 ^ k % 10) :: YR k c
 | 0, c => by simp [YR]
 | k + 1, c => by
   rw [YR, rW k (c / 10), List.cons_append, Nat.div_div_eq_div_mul, Nat.pow_succ, Nat.mul_comm 10]
   rfl
theorem Lb (c : Nat) (h : j <= 9) : (cl j c).length = 9 := by
 rw [cl, List.length_append, List.length_replicate, LZ, IX]; omega
theorem C6 (h : j < 9) (hX : X = ((48 + c / 10 ^ j % 10 : Nat) : Int)) : (cl j c).set (0 + (8 - j) * 1) (.int .u8 X) = cl (j + 1) c := by
 subst hX
 obtain ⟨k, e⟩ : ∃ k, 9 - j = k + 1 := ⟨8 - j, by omega⟩
 rw [cl, cl, rW, e, show 0 + (8 - j) * 1 = k from by omega, show 9 - (j + 1) = k from by omega, List.replicate_succ', List.append_assoc]
 rw [List.set_append_right _ _ AH]
 simp [iS]
theorem Wo (c : Nat) : cl 9 c = iS (YR 9 c) := by simp [cl]
theorem C7 (j c : Nat) : UP (cl j c) := by
 intro v f k e
 subst e
 rw [cl, List.mem_append] at f
 rcases f with f | f
 . have := (List.mem_replicate.1 f).2; simp at this
 obtain ⟨d, _, h⟩ := List.mem_map.1 f; simp at h
theorem Ag9 : Ag prog 217 9 (List.replicate 9 (.int .u8 0)) := ⟨⟨_, underlying217, rfl⟩, by kernel_rfl, rfl⟩
theorem Wn (c : Nat) : List.replicate 9 (Value.int .u8 0) = cl 0 c := by simp [cl, iS, YR]
theorem Sl.shape {v : Value} (h : Sl w v l) : ∃ ao cap, v = .slice ao l.length cap := by
 obtain ⟨ao, cap, rfl, _⟩ := h
 exact ⟨_, _, rfl⟩
theorem Ij (v : Value) (m : Nat) (w : World) (h : Sl w v (CD m)) :
 Calls prog 161 #[v] w (Dv w (CD m)) := by
 refine (OO v _ w h).mono ?_
 rintro e l ⟨rfl, f, rfl, k⟩
 have := k _ h
 rw [CO] at this
 exact ⟨f, rfl, this, Below.refl _ _⟩
theorem Dl (v : Value) (m d : Nat) (w : World) (h : Sl w v (CD m)) (hf : (CD m).length <= 1000000000) (hd : 0 < d) (hd2 : d < 4294967296) :
 Calls prog 189 #[v, .int .u64 d] w (Aj w (m / d) (m % d)) := by
 have := aR v (CD m) d w h hf hd hd2
 rwa [CO] at this
theorem Aa {n F : Nat} (h : n = eR L + 1000000000 ^ L.length * m) (hm : m ≠ 0) (hF : n < 4294967296 ^ F) : L.length <= 2 * F := by
 have l : 1000000000 ^ L.length <= n := by
  have : 1000000000 ^ L.length * 1 <= 1000000000 ^ L.length * m := Nat.mul_le_mul_left _ AA
  omega
 rcases Nat.lt_or_ge (2 * F) L.length with e | e
 . exfalso
   have f : 1000000000 ^ (2 * F) <= 1000000000 ^ L.length := Nat.pow_le_pow_right AA AA
   rw [Nat.pow_mul] at f
   have k : 4294967296 ^ F <= (1000000000 ^ 2) ^ F := Nat.pow_le_pow_left AE F
   omega
 exact e
theorem Dq {n : Nat} (h : n = eR L + 1000000000 ^ L.length * m) : n = eR (L ++ [m % 1000000000]) + 1000000000 ^ (L ++ [m % 1000000000]).length * (m / 1000000000) := by
 rw [Ig, List.length_append, List.length_singleton, Nat.pow_succ, h]
 have := Nat.div_add_mod m 1000000000
 generalize m / 1000000000 = q at *
 generalize m % 1000000000 = r at *
 subst this
 grind
theorem Lc {L : List Nat} (h : ∀ c ∈ L, c < 1000000000) (m : Nat) : ∀ c ∈ L ++ [m % 1000000000], c < 1000000000 := by
 intro c f
 rcases List.mem_append.1 f with e | e
 . exact h c e
 simp at e; subst e; exact Nat.mod_lt _ AE
def E3 (w0 : World) (z : Int) (e : Ending) (w' : World) : Prop := e = .returned (.string (NT z)) /\ Below w0.heap.size w0 w'
theorem KZ {f : Nat} {l : List SF} {z : Int}
 (hf : Fn P f) (ho : o.op = .call { callee := .value (.func f), args := args.toArray, argTypes := tys }) (hc : Calls P f vs.toArray w (E3 w z)) (hv : args.map a.eval = vs) (E : Env w l)
 (h : ∀ w', Below w.heap.size w w' -> Env w' l -> K (a.put o.dst (.string (NT z))) w') : o.wp P a w K Q := by
 refine CZ hf ho hc hv ?_
 rintro e w' ⟨rfl, k⟩
 exact ⟨_, rfl, h w' k (E.below k)⟩
theorem bE {f : Nat} {l : List SF} {q r : Nat}
 (hf : Fn P f) (ho : o.op = .call { callee := .value (.func f), args := args.toArray, argTypes := tys }) (hc : Calls P f vs.toArray w (Aj w q r)) (hv : args.map a.eval = vs) (E : Env w l)
 (h : ∀ w' v, Below w.heap.size w w' -> Env w' (fS v (CD q) :: l) -> K (a.put o.dst (.tuple #[v, .int .u64 r])) w') : o.wp P a w K Q := by
 refine CZ hf ho hc hv ?_
 rintro e w' ⟨v, rfl, p, k⟩
 exact ⟨_, rfl, h w' v k ⟨p, E.below k⟩⟩
theorem Ke : (prog.info? 217).map (fun i => (i.zero, i.size, i.bytes)) = some (some (.agg (List.replicate 9 (.int .u8 0)).toArray), 9, 9) := by kernel_rfl
theorem Vl : (prog.info? 5).map (fun i => (i.zero, i.size, i.bytes)) = some (some (.int .u8 0), 1, 1) := by kernel_rfl
theorem Qc : ∀ u ∈ (Value.agg (List.replicate 9 (.int .u8 0)).toArray).cells.toList, dO u := by
 intro u e
 simp only [Value.cells, List.toList_toArray] at e
 exact ⟨0, (List.mem_replicate.1 e).2⟩
theorem Kc : ∀ u ∈ (Value.int .u8 0).cells.toList, dO u := by
 intro u e
 simp [Value.cells] at e
 exact ⟨0, e⟩
theorem yF (l : List Nat) : ∀ u ∈ iS l, dO u := by
 intro v e
 obtain ⟨d, _, rfl⟩ := List.mem_map.1 e
 exact ⟨_, rfl⟩
theorem fJ {ao : Option Addr} {n : Nat} (ho : o.op = .call { callee := .builtin .len, args := #[x], argTypes := #[216] }) (hx : ρ x = .slice ao n c) : (execOp ρ o).run prog w = .ok (.value (.int .i64 n)) w := by
 unfold execOp; rw [ho]; simp [hx, go_sem]
theorem wV {off : Nat} (ho : o.op = .slice 217 x none none none) (hx : ρ x = .pointer (some ⟨b, off, none⟩)) : (execOp ρ o).run prog w = .ok (.value (.slice (some ⟨b, off, none⟩) 9 9)) w := by
 unfold execOp; rw [ho]; simp [hx, Instr.sliceAt, Instr.sureAddr, run_underlying underlying217, Instr.sliceBounds, go_sem]
theorem Je {g n : Nat} (ho : o.op = .slice 42 x (some (.const (.int .i64 1))) none none) (hr : ρ (.const (.int .i64 1)) = .int .i64 1) (hx : ρ x = .slice (some ⟨g, p, none⟩) n c) (h1 : 1 <= n) (_h2 : n <= c) (h3 : 1 < c) :
 (execOp ρ o).run prog w = .ok (.value (.slice (some ⟨g, p + 1, none⟩) (n - 1) (c - 1))) w := by
 unfold execOp; rw [ho]
 simp [hx, hr, Instr.sliceAt, Instr.slice, run_underlying underlying42, Instr.sliceBounds, Instr.sliceBound, asIntOf, go_sem, show ¬ c = 1 by omega]
 intro h; omega
theorem XI (a b : Nat) : ((a : Nat) : Int).tmod ((b : Nat) : Int) = ((a % b : Nat) : Int) := by
 rw [Int.tmod_eq_emod_of_nonneg AA]; omega
theorem EJ {a : Nat} (hX : X = (a : Int)) (h : a < 18446744073709551616) : IntKind.u64.wrap X = (a : Int) := by subst hX; simp only [IntKind.wrap_u64]; omega
theorem IN {a : Nat} (hX : X = (a : Int)) (h : a < 256) : IntKind.u8.wrap X = (a : Int) := by subst hX; simp only [IntKind.wrap_u8]; omega
theorem Ud (h : b < 18446744073709551616) : IntKind.u64.wrap (((b : Nat) : Int).tdiv 10) = ((b / 10 : Nat) : Int) := by
 rw [Int.tdiv_eq_ediv_of_nonneg AA]
 simp only [IntKind.wrap_u64]
 omega
theorem Pv (h : m ≠ 0) : 0 < (CD m).length := by
 rcases Nat.eq_zero_or_pos (CD m).length with e | e
 . exact absurd ((FY m).1 (List.eq_nil_of_length_eq_zero e)) h
 exact e
def fN (n : Nat) : SF := ⟨fun w => n <= w.heap.size, fun _ => True, fun h hb => Nat.le_trans h hb.size, fun h _ _ hb => by rw [hb.size]; exact h⟩
theorem Env.n {l : List SF} {n : Nat} (E : Env w l) (h : n <= w.heap.size) : Env w (fN n :: l) := ⟨h, E⟩
theorem yL (w : World) : (isAgg 5).run prog w = .ok false w := by
 simp [go_sem]
theorem Gy (D : List Nat) (p q : Nat) (h : p + q < D.length) : ((D.drop p).map fun d => ((48 + d : Nat) : Int)).getD q 0 = ((48 + gd D (p + q) : Nat) : Int) := by
 rw [List.getD_eq_getElem?_getD, List.getElem?_map, List.getElem?_drop, List.getElem?_eq_getElem h, UU D _ h]; rfl
theorem txt_zero : NT 0 = ⟨#[48]⟩ := by
 unfold NT txt
 rw [Int.natAbs_zero, QC 0 AA]
 rfl
theorem pI (l : List Nat) (_h : Dg l) : (strOfNums (l.map fun d => ((48 + d : Nat) : Int))).data.toList = ZQ l := by
 rw [strOfNums_data, List.map_map, ZQ]
 apply List.map_congr_left
 intro d e
 show UInt8.ofNat (((48 + d : Nat) : Int).toNat) = _
 rw [Int.toNat_natCast]
theorem Tc {x : Int} (h : ¬ x < 0) (hl : l = YF x.natAbs) : strOfNums (l.map fun d => ((48 + d : Nat) : Int)) = NT x := by
 subst hl
 apply ByteArray.ext
 apply Array.ext'
 rw [pI _ (RE _)]
 simp [NT, txt, h]
theorem Td {x : Int} (h : x < 0) (hl : l = YF x.natAbs) : (⟨#[45]⟩ : ByteArray) ++ strOfNums (l.map fun d => ((48 + d : Nat) : Int)) = NT x := by
 subst hl
 apply ByteArray.ext
 apply Array.ext'
 rw [ByteArray.data_append, Array.toList_append, pI _ (RE _)]
 simp [NT, txt, h]
theorem Bm (h : l.head? ≠ some 0) : MT l = l := by
 cases l with
 | nil => rfl
 | cons d l => cases d with
   | zero => simp at h
   | succ d => rfl
theorem nD (hp : p < T.length) (h : gd T p = 0) (hs : MT (T.drop p) = MT T) : MT (T.drop (p + 1)) = MT T := by
 rw [<- hs, List.drop_eq_getElem_cons hp]
 have : T[p] = 0 := by rw [<- UU T p hp]; exact h
 rw [this, MT]
theorem Bp (hp : p < T.length) (h : gd T p ≠ 0) (hs : MT (T.drop p) = MT T) : T.drop p = MT T := by
 rw [<- hs]
 refine (Bm ?_).symm
 rw [List.drop_eq_getElem_cons hp]
 simp only [List.head?_cons, ne_eq, Option.some.injEq]
 rw [<- UU T p hp]; exact h
theorem Bl (hp : p < T.length) (h : gd T p = 0) (hs : MT (T.drop p) = MT T) (hT : MT T ≠ []) : p + 1 < T.length := by
 rcases Nat.lt_or_ge (p + 1) T.length with e | e
 . exact e
 exfalso
 have := nD hp h hs
 rw [List.drop_of_length_le e] at this
 exact hT this.symm
theorem uB (L : List Nat) (i : Nat) (h : i < L.length) : L.reverse.take (i + 1) = L.reverse.take i ++ [gd L (L.length - 1 - i)] := by
 rw [List.take_succ_eq_append_getElem (by simpa using h), List.getElem_reverse, UU L (L.length - 1 - i) AA]
theorem Ql (L : List Nat) (c j : Nat) (hc : c < L.length) (hj : j < 9) : (iS (L.flatMap (YR 9)))[0 + c * 9 + j]? = (iS (YR 9 (gd L c)))[j]? := by
 induction L generalizing c with
 | nil => simp at hc
 | cons x L ih =>
   rw [List.flatMap_cons, dY]
   cases c with
   | zero =>
     rw [List.getElem?_append_left (by rw [LZ, IX]; omega)]
     simp [gd]
   | succ c =>
     rw [List.getElem?_append_right (by rw [LZ, IX]; omega), LZ, IX]
     have e : gd (x :: L) (c + 1) = gd L c := by unfold gd; simp
     rw [e, <- ih c (by simpa using hc), show 0 + (c + 1) * 9 + j - 9 = 0 + c * 9 + j from by omega]
end Go.Proofs.YtmppigbbkjepiaaGreatDoor
