/- Helping facts of DivMod; no other conditions. Helping facts of Fns; no other conditions. Helping facts of Gcd; no other conditions. Helping facts of BoxI; no other conditions. -/
import Derived.Test.YtmppigbbkjepiaaGreatDoorApi4
import Derived.Test.YtmppigbbkjepiaaGreatDoorKit
namespace Go.Proofs.YtmppigbbkjepiaaGreatDoor
open Go.RowKit W
variable {A B p : Prop} {G T X r r' : Nat} {L : List Nat} {P : Program} {Q : Exit -> Act -> World -> Prop} {a : Act} {ao : Option Addr} {c n : Bool} {cs : List Value} {k : IntKind} {m q z : Int} {o : Oper} {ops : Array Oper} {rest : List Oper} {t t' : TypeId} {v : Value} {w w0 : World} {x y : Operand} {α : Type}
theorem ZWc (h : p := by
 go_wp2_with fail
 refine AQ (v := .agg #[.bool (decide (zG < 0)), .slice ao7 (CC zG.natAbs).length cap7]) ?_ O (TZ hz7 HR4.out B7 AA)
 simp [results, results129, go_sem, g0, g1]
 ) : p := h
theorem ZM6 (h : p := by
 refine DG hf ho hc hv ?_
 rintro e w' ⟨rfl, k⟩
 exact ⟨_, rfl, h w' k (E.below k)⟩
 ) : p := h
theorem Zii (h : p := by
 refine DG hf ho hc hv ?_
 rintro e w' ⟨v, rfl, k, p⟩
 obtain ⟨n, s, rfl, _⟩ := k.sh
 exact ⟨_, rfl, h w' n s p ⟨k, E.below p⟩⟩
 ) : p := h
theorem RBox.other (h : RBox w r) (hne : r ≠ r') (n' : Bool) (s' : Value) : RBox ((w.setCell ⟨r', 0, none⟩ (.bool n')).setCell ⟨r', 1, none⟩ s') r := by
 obtain ⟨⟨n, p, len, e, o, l⟩, k, f⟩ := h
 exact ⟨⟨n, p, len, e, MF o hne, MF l hne⟩, by simp [k], by simp [f]⟩
def RetDM (w0 : World) (q r c : Int) (e : Ending) (w' : World) : Prop := ∃ v u, e = .returned (.tuple #[v, u, .int .i64 c]) /\ IsI w' v q /\ IsI w' u r /\ Below w0.heap.size w0 w'
theorem RetDM.eq {r c q' r' c' : Int} {e : Ending} {w' : World} (h : RetDM w q r c e w') (h1 : q = q') (h2 : r = r') (h3 : c = c') : RetDM w q' r' c' e w' := by subst h1 h2 h3; exact h
theorem Pp {x y : Int} {n : Nat} (h : Fits x n) : (CC (x.natAbs / y.natAbs)).length <= n := Nat.le_trans (FS (Nat.div_le_self _ _)) h
open Go.Proofs.Tryz
theorem MZ : Fn prog 126 := ⟨_, func126, by kernel_rfl, rfl⟩
theorem nR : Fn prog 165 := ⟨_, func165, by kernel_rfl, rfl⟩
theorem nP : Fn prog 194 := ⟨_, func194, by kernel_rfl, rfl⟩
theorem OA : Fn prog 150 := ⟨_, func150, by kernel_rfl, rfl⟩
theorem nO : Fn prog 91 := ⟨_, func91, by kernel_rfl, rfl⟩
theorem RF : Fn prog 127 := ⟨_, func127, by kernel_rfl, rfl⟩
theorem RE : Fn prog 169 := ⟨_, func169, by kernel_rfl, rfl⟩
theorem DK : Fn prog 137 := ⟨_, func137, by kernel_rfl, rfl⟩
theorem UP : Fn prog 136 := ⟨_, func136, by kernel_rfl, rfl⟩
theorem NA : Fn prog 147 := ⟨_, func147, by kernel_rfl, rfl⟩
theorem iE : Fn prog 160 := ⟨_, func160, by kernel_rfl, rfl⟩
theorem nQ : Fn prog 129 := ⟨_, func129, by kernel_rfl, rfl⟩
theorem aZ : Fn prog 123 := ⟨_, func123, by kernel_rfl, rfl⟩
theorem QK : Fn prog 151 := ⟨_, func151, by kernel_rfl, rfl⟩
theorem UQ : Fn prog 76 := ⟨_, func76, by kernel_rfl, rfl⟩
theorem EH : Fn prog 77 := ⟨_, func77, by kernel_rfl, rfl⟩
theorem MQ : Fn prog 103 := ⟨_, func103, by kernel_rfl, rfl⟩
theorem EZ : Fn prog 105 := ⟨_, func105, by kernel_rfl, rfl⟩
theorem UG : Fn prog 138 := ⟨_, func138, by kernel_rfl, rfl⟩
theorem iB : Fn prog 139 := ⟨_, func139, by kernel_rfl, rfl⟩
theorem FQ : Fn prog 58 := ⟨_, func58, by kernel_rfl, rfl⟩
theorem jX : Fn prog 161 := ⟨_, func161, by kernel_rfl, rfl⟩
theorem WM : Fn prog 189 := ⟨_, func189, by kernel_rfl, rfl⟩
theorem GX : Fn prog 173 := ⟨_, func173, by kernel_rfl, rfl⟩
theorem LX : Fn prog 174 := ⟨_, func174, by kernel_rfl, rfl⟩
theorem XF : Fn prog 119 := ⟨_, func119, by kernel_rfl, rfl⟩
theorem jZ : Fn prog 122 := ⟨_, func122, by kernel_rfl, rfl⟩
theorem PH : Fn prog 187 := ⟨_, func187, by kernel_rfl, rfl⟩
theorem RH : Fn prog 121 := ⟨_, func121, by kernel_rfl, rfl⟩
theorem iD : Fn prog 159 := ⟨_, func159, by kernel_rfl, rfl⟩
theorem aY : Fn prog 112 := ⟨_, func112, by kernel_rfl, rfl⟩
theorem PI : Fn prog 110 := ⟨_, func110, by kernel_rfl, rfl⟩
theorem KV : Fn prog 120 := ⟨_, func120, by kernel_rfl, rfl⟩
theorem eW : Fn prog 155 := ⟨_, func155, by kernel_rfl, rfl⟩
theorem LW : Fn prog 80 := ⟨_, func80, by kernel_rfl, rfl⟩
theorem jY : Fn prog 108 := ⟨_, func108, by kernel_rfl, rfl⟩
theorem UF : Fn prog 89 := ⟨_, func89, by kernel_rfl, rfl⟩
theorem nW : Fn prog 30 := ⟨_, func30, by kernel_rfl, rfl⟩
theorem VG : Fn prog 132 := ⟨_, func132, by kernel_rfl, rfl⟩
theorem nV : Fn prog 92 := ⟨_, func92, by kernel_rfl, rfl⟩
theorem WZ : Fn prog 130 := ⟨_, func130, by kernel_rfl, rfl⟩
theorem EB : Fn prog 81 := ⟨_, func81, by kernel_rfl, rfl⟩
theorem NX : Fn prog 44 := ⟨_, func44, by kernel_rfl, rfl⟩
theorem PD : Fn prog 88 := ⟨_, func88, by kernel_rfl, rfl⟩
theorem DT : Fn prog 128 := ⟨_, func128, by kernel_rfl, rfl⟩
theorem UE : Fn prog 135 := ⟨_, func135, by kernel_rfl, rfl⟩
theorem PG : Fn prog 153 := ⟨_, func153, by kernel_rfl, rfl⟩
theorem GE : Fn prog 78 := ⟨_, func78, by kernel_rfl, rfl⟩
theorem TN : Fn prog 140 := ⟨_, func140, by kernel_rfl, rfl⟩
theorem RK : Fn prog 166 := ⟨_, func166, by kernel_rfl, rfl⟩
theorem NZ : Fn prog 124 := ⟨_, func124, by kernel_rfl, rfl⟩
theorem aX : Fn prog 60 := ⟨_, func60, by kernel_rfl, rfl⟩
theorem pL : Fn prog 57 := ⟨_, func57, by kernel_rfl, rfl⟩
theorem pK : Fn prog 69 := ⟨_, func69, by kernel_rfl, rfl⟩
theorem EN : Fn prog 22 := ⟨_, func22, by kernel_rfl, rfl⟩
theorem EQ : Fn prog 55 := ⟨_, func55, by kernel_rfl, rfl⟩
theorem QJ : Fn prog 154 := ⟨_, func154, by kernel_rfl, rfl⟩
def GcdIs (X Y G : Nat) : Prop := Nat.gcd X Y = G
theorem GcdIs.step {Y : Nat} (h : GcdIs X Y G) : GcdIs Y (X % Y) G := by
 unfold GcdIs at *
 rw [<- h, Nat.gcd_comm X Y, Nat.gcd_rec Y X, Nat.gcd_comm]
theorem GcdIs.done (h : GcdIs X 0 G) : X = G := by unfold GcdIs at h; rwa [Nat.gcd_zero_right] at h
set_option maxRecDepth 100000 in
set_option maxHeartbeats 4000000 in
theorem Gcd_z (va vb : Value) (x y : Int) (w : World) (ha : IsI w va x) (hb : IsI w vb y) (hx : Fits x 900000000) (hy : Fits y 900000000) :
 Calls prog 129 #[va, vb] w (RetZ w (Nat.gcd x.natAbs y.natAbs : Nat)) := by
 obtain ⟨aoa, capa, rfl, sa, ha1, ha2⟩ := ha.parts
 obtain ⟨aob, capb, rfl, sb, hb1, hb2⟩ := hb.parts
 have SA := Lib.hid sa
 have SB := Lib.hid sb
 have HFX := Lib.hid hx
 have HFY := Lib.hid hy
 clear ha sa hx hb sb hy
 obtain ⟨nx, hnx⟩ : ∃ nx, nx = decide (x < 0) := ⟨_, rfl⟩
 obtain ⟨ny, hny⟩ : ∃ ny, ny = decide (y < 0) := ⟨_, rfl⟩
 rw [<- hnx, <- hny]
 clear hnx hny
 obtain ⟨A, hA⟩ : ∃ A, A = x.natAbs := ⟨_, rfl⟩
 obtain ⟨Bn, hB⟩ : ∃ B, B = y.natAbs := ⟨_, rfl⟩
 unfold Fits at HFX HFY
 rw [<- hA] at SA HFX ha1 ⊢
 rw [<- hB] at SB HFY hb1 ⊢
 clear hA hB
 obtain ⟨G, hG⟩ : ∃ G, G = Nat.gcd A Bn := ⟨_, rfl⟩
 rw [<- hG]
 obtain ⟨zG, hzG⟩ : ∃ z : Int, z = (G : Int) := ⟨_, rfl⟩
 rw [<- hzG]
 have HZG := Lib.hid hzG
 have HG : GcdIs A Bn G := hG.symm
 clear hG hzG
 obtain ⟨W, hW, hsz, B0, k0, k1, k2⟩ := Gb w nx ny (.slice aoa (CC A).length capa) (.slice aob (CC Bn).length capb)
 have c1 := k0.2
 have c3 := k1.2
 have K4 := Lib.hid k2
 have SAW := Lib.hid (SA.out.below B0)
 have SBW := Lib.hid (SB.out.below B0)
 clear k0 k1 k2
 go_enter func129, ntmps129
 go_upto_region 1 with fail
 rw [<- hW]
 clear hW
 go_region_held3 (fun w' => w'.cell? ⟨w.heap.size, 1, none⟩ = some (.slice aoa (CC A).length capa) /\ w'.cell? ⟨w.heap.size + 1, 1, none⟩ = some (.slice aob (CC Bn).length capb))
  (first | exact ⟨c1, c3⟩ | exact ⟨d1, d3⟩ | exact ⟨f1, f3⟩)
  (first
    | (go_at_call_of 161 (Value.slice aoa (CC A).length capa); refine (NR _ (CC A) _ ?_).mono ?_; exact SAW.out; rintro e w' ⟨rfl, vt1, rfl, ht1⟩)
    | (go_at_call_of 161 (Value.slice aob (CC Bn).length capb); refine (NR _ (CC Bn) _ ?_).mono ?_; exact SBW.out.below (OF hb1'); rintro e w' ⟨rfl, vt2, rfl, ht2⟩)
    | (go_at_call_of 139 vt1; refine (ZE _ (CC (val (CC A))) _ ?_ ?_).mono ?_; exact ht1 _ SAW.out; (rw [CO]; have := HFX.out; omega); rintro e w1 ⟨v1, rfl, hv1, hb1'⟩; have d1 := SE c1 hb1'; have d3 := SE c3 hb1')
    | (go_at_call_of 139 vt2; refine (ZE _ (CC (val (CC Bn))) _ ?_ ?_).mono ?_; exact ht2 _ (SBW.out.below (OF hb1')); (rw [CO]; have := HFY.out; omega); rintro e w2 ⟨v2, rfl, hv2, hb2'⟩; have f1 := DB d1 hb2'; have f3 := DB d3 hb2'))
 rw [CO] at hv1 hv2
 have HV1 := hv1.below hb2'
 have BW2 : Below W.heap.size W w2 := (OF hb1').trans (hb2'.mono hb1'.size)
 clear c1 c3 d1 d3 f1 f3 ht1 ht2 hv1 hb1' hb2'
 go_wp2_with fail
 go_loopg [5, 6] Bn (fun Y vx vy wr => ∃ X, Sl wr vx (CC X) /\ Sl wr vy (CC Y) /\ GcdIs X Y G /\ (CC X).length <= 900000000 /\ (CC Y).length <= 900000000 /\ Below W.heap.size W wr)
 case atStart => exact ⟨A, HV1, hv2, HG, HFX.out, HFY.out, BW2⟩
 case round =>
  clear HV1 hv2 HG BW2
  obtain ⟨Y, rfl⟩ : ∃ Y, Y = gk := ⟨_, rfl⟩
  obtain ⟨X, hX, hY, hG, hlX, hlY, hbel⟩ := hrel
  have HXS := Lib.hid hX
  have HYS := Lib.hid hY
  obtain ⟨aox, capx, rfl, x1, x2, _, _, _⟩ := hX
  obtain ⟨aoy, capy, rfl, y1, y2, _, _, _⟩ := hY
  unfold maxLen at x2 y2
  by_cases hY0 : Y = 0
  . subst hY0
    have hGx := hG.done
    have hd : decide ((0 : Int) < ((CC 0).length : Int)) = false := by rw [DX]; rfl
    have hd' : decide (0 < (CC 0).length) = false := by rw [DX]; rfl
    have HGX := Lib.hid hGx
    clear hGx hG
    go_wp2_with fail
    refine (QP _ _ (CC X) zG _ HXS.out (by rw [CO, mC, HZG.out, HGX.out])).mono ?_
    rintro e w7 ⟨v7, rfl, hz7, hb7⟩
    obtain ⟨ao7, cap7, rfl, sl7, _, _⟩ := hz7.parts
    have r4 := (K4.out.keep hbel).keep hb7
    have HR4 := Lib.hid r4
    obtain ⟨⟨n4, ao4, len4, cap4, g0, g1⟩, g2, g3⟩ := r4
    have B7 : Below w.heap.size w w7 := (B0.trans ((hbel).mono B0.size)).trans (hb7.mono (Nat.le_trans B0.size (hbel).size))
    exact ZWc
  have hYl : (CC Y).length ≠ 0 := fun e => hY0 ((FR _).1 (List.eq_nil_of_length_eq_zero e))
  have hd : decide ((0 : Int) < ((CC Y).length : Int)) = true := by simp; omega
  have hd' : decide (0 < (CC Y).length) = true := by simp; omega
  by_cases hsm : (CC X).length <= 2 /\ (CC Y).length <= 2
  . have e1 : decide (((CC X).length : Int) <= 2) = true := by simp; omega
    have e2 : decide (((CC Y).length : Int) <= 2) = true := by simp; omega
    have e1' : decide ((CC X).length <= 2) = true := by simp; omega
    have e2' : decide ((CC Y).length <= 2) = true := by simp; omega
    have hX64 : X < 18446744073709551616 := by
     have h1 := GT (GB X)
     rw [CO] at h1
     have h2 := Nat.pow_le_pow_right (n := 4294967296) AA hsm.1
     omega
    have hY64 : Y < 18446744073709551616 := by
     have h1 := GT (GB Y)
     rw [CO] at h1
     have h2 := Nat.pow_le_pow_right (n := 4294967296) AA hsm.2
     omega
    have HL1 := Lib.hid hsm.1
    have HL2 := Lib.hid hsm.2
    clear hsm hYl
    go_wp2_with fail
    refine (UY _ (CC X) _ HXS.out HL1.out).mono ?_
    rw [CO]
    rintro e w' ⟨rfl, rfl⟩
    go_wp2_with fail
    refine (UY _ (CC Y) _ HYS.out HL2.out).mono ?_
    rw [CO]
    rintro e w' ⟨rfl, rfl⟩
    go_wp2_with fail
    clear e1 e2 e1' e2' hd hd'
    obtain ⟨wo, rfl⟩ : ∃ wo : World, wo = wr := ⟨_, rfl⟩
    go_loopw [7, 8] (fun sm sn wx => ∃ m n : Nat, sm = .int .u64 m /\ sn = .int .u64 n /\ m < 18446744073709551616 /\ n < 18446744073709551616 /\ GcdIs m n G /\ ∃ d, wx = wo.drewN d) (fun _ sn _ => (intOf sn).toNat)
    case atStart => exact ⟨X, Y, rfl, rfl, hX64, hY64, hG, 0, rfl⟩
    case round =>
     obtain ⟨m, n, rfl, rfl, hm, hn, hg, d, rfl⟩ := hrel
     by_cases hn0 : n = 0
     . subst hn0
       have HGX := Lib.hid hg.done
       have hf : decide ((0 : Int) < ((0 : Nat) : Int)) = false := rfl
       clear hg hG
       go_wp2_with fail
       refine (cP m _ hm).mono ?_
       rintro e w6 ⟨v6, rfl, hv6, hb6⟩
       have hbel6 := hbel.trans ((JW hb6).mono hbel.size)
       go_wp2_with fail
       refine (QP _ _ (CC m) zG _ hv6 (by rw [CO, mC, HZG.out, HGX.out])).mono ?_
       rintro e w7 ⟨v7, rfl, hz7, hb7⟩
       obtain ⟨ao7, cap7, rfl, sl7, _, _⟩ := hz7.parts
       have r4 := (K4.out.keep hbel6).keep hb7
       have HR4 := Lib.hid r4
       obtain ⟨⟨n4, ao4, len4, cap4, g0, g1⟩, g2, g3⟩ := r4
       have B7 : Below w.heap.size w w7 := (B0.trans ((hbel6).mono B0.size)).trans (hb7.mono (Nat.le_trans B0.size (hbel6).size))
       exact ZWc
     have hf : decide ((0 : Int) < (n : Int)) = true := by simp; omega
     have hrem : (m : Int).tmod (n : Int) = ((m % n : Nat) : Int) := by rw [IntWalk.rem_in _ _ AA]; simp
     have hrem' : (m : Int) % (n : Int) = ((m % n : Nat) : Int) := by simp
     have hne : ¬ (n : Int) = 0 := by omega
     have hg2 := hg.step
     have hlt := Nat.mod_lt m (show 0 < n by omega)
     obtain ⟨r, hr⟩ : ∃ r, r = m % n := ⟨_, rfl⟩
     rw [<- hr] at hrem hrem' hg2 hlt
     clear hr hg hn0
     go_wp2_with fail
     go_quiet (fail)
     clear hrem hrem' hf
     go_wp2_with fail
     go_roundw
     case rel => exact ⟨n, r, rfl, rfl, hn, by omega, hg2, (by first | exact ⟨_, rfl⟩ | exact ⟨_, by simp only [World.drewN_drewN]; rfl⟩)⟩
     case measure => simp [intOf]; omega
  have hdec : (decide (((CC X).length : Int) <= 2) = false) ∨ (decide (((CC X).length : Int) <= 2) = true /\ decide (((CC Y).length : Int) <= 2) = false) := by
   by_cases h : (CC X).length <= 2
   . right; exact ⟨by simp; omega, by simp; omega⟩
   left; simp; omega
  have hYp : 0 < Y := by omega
  have hst := hG.step
  have hlt := Nat.mod_lt X hYp
  have hlr : (CC (X % Y)).length <= 900000000 := Nat.le_trans (FS (Nat.le_of_lt hlt)) hlY
  clear hsm hYl
  rcases hdec with e1 | ⟨e1, e2⟩
  all_goals
   go_wp2_with fail
   refine (Jq _ _ (CC X) (CC Y) _ HXS.out HYS.out AA AA (by rw [CO]; exact hYp)).mono ?_
   rw [CO, CO]
   rintro e w3 ⟨v3, u3, rfl, hv3, hu3, hb3⟩
   have HY3 := HYS.out.below hb3
   have hbel3 := hbel.trans (hb3.mono hbel.size)
   go_wp2_with fail
   go_roundg (X % Y)
   case measure => exact hlt
   case rel => exact ⟨Y, HY3, hu3, hst, hlY, hlr, hbel3⟩
def BoxI (w : World) (r : Nat) (z : Int) : Prop := RBox w r /\ ∃ n s, Box w r n s /\ IsI w (.agg #[.bool n, s]) z
theorem BoxI.cells (h : BoxI w r z) : ∃ (ao : Option Addr) (cap : Nat), w.cell? ⟨r, 0, none⟩ = some (.bool (decide (z < 0))) /\ w.cell? ⟨r, 1, none⟩ = some (.slice ao (CC z.natAbs).length cap) /\
 IsI w (.agg #[.bool (decide (z < 0)), .slice ao (CC z.natAbs).length cap]) z /\ w.frozen? ⟨r, 0, none⟩ = false /\ w.frozen? ⟨r, 1, none⟩ = false := by
 obtain ⟨k, n, s, l, f⟩ := h
 obtain ⟨ao, cap, e, _⟩ := f.parts
 simp only [Value.agg.injEq, Array.mk.injEq, List.cons.injEq, Value.bool.injEq, and_true] at e
 obtain ⟨rfl, rfl⟩ := e
 exact ⟨ao, cap, l.1, l.2, f, k.2.1, k.2.2⟩
theorem BoxI.lt (h : BoxI w r z) : r < w.heap.size := by
 obtain ⟨k, f, e, _⟩ := h.cells
 exact fP e
theorem BoxI.keep {w1 : World} (h : BoxI w r z) (hb : Below w.heap.size w w1) : BoxI w1 r z := by
 obtain ⟨k, n, s, e, f⟩ := h
 exact ⟨k.keep hb, n, s, e.keep hb, f.below hb⟩
theorem BoxI.drewN (h : BoxI w r z) (q : Nat) : BoxI (w.drewN q) r z := h
theorem BoxI.other (h : BoxI w r z) (h' : RBox w r') (hne : r ≠ r') (n' : Bool) (s' : Value) : BoxI ((w.setCell ⟨r', 0, none⟩ (.bool n')).setCell ⟨r', 1, none⟩ s') r z := by
 obtain ⟨k, n, s, e, f⟩ := h
 exact ⟨k.other hne n' s', n, s, ⟨MF e.1 hne, MF e.2 hne⟩, f.store h' n' s'⟩
theorem BoxI.put {len cap : Nat} (hr : RBox w r) (hz : IsI w (.agg #[.bool n, .slice ao len cap]) z) :
 BoxI ((w.setCell ⟨r, 0, none⟩ (.bool n)).setCell ⟨r, 1, none⟩ (.slice ao len cap)) r z := by
 have e := hz.store hr n (.slice ao len cap)
 obtain ⟨⟨t, q, f, h, p, o⟩, l, k⟩ := hr
 have e0 : ((w.setCell ⟨r, 0, none⟩ (.bool n)).setCell ⟨r, 1, none⟩ (.slice ao len cap)).cell? ⟨r, 0, none⟩ = some (.bool n) := by
  simp [go_sem, p]
 have e1 : ((w.setCell ⟨r, 0, none⟩ (.bool n)).setCell ⟨r, 1, none⟩ (.slice ao len cap)).cell? ⟨r, 1, none⟩ = some (.slice ao len cap) := by
  simp [go_sem, o]
 exact ⟨⟨⟨n, ao, len, cap, e0, e1⟩, by simp [l], by simp [k]⟩, n, _, ⟨e0, e1⟩, e⟩
theorem q1 {l : List α} {i : Nat} {a : α} : l.toArray.setIfInBounds i a = (l.set i a).toArray := by simp
theorem q2 {x a : α} {l : List α} : (x :: l).set 0 a = a :: l := rfl
theorem q3 {x a : α} {l : List α} {n : Nat} : (x :: l).set (n + 1) a = x :: l.set n a := rfl
theorem GD : Ag prog 62 2 [.bool false, .slice none 0 0] := ⟨⟨_, underlying62, rfl⟩, by kernel_rfl, rfl⟩
theorem svI (z : Int) : SV (fun w v => IsI w v z) where
 below := fun h hb => h.below hb
 onl := fun h hn hb => by
  obtain ⟨s, rfl, hs⟩ := h
  exact ⟨s, rfl, hs.onl hn hb⟩
def fI (v : Value) (z : Int) : SF := fV (fun w v => IsI w v z) (svI z) v
def fB (b : Nat) (n : Bool) (s : Value) : SF := fX b 62 [.bool n, s]
theorem IsI.sh (h : IsI w v z) : ∃ n s, v = .agg #[.bool n, s] /\ s.oneCell' = true /\ (∀ k, s ≠ .int .u32 k) := by
 obtain ⟨s, rfl, e⟩ := h
 obtain ⟨l, f, rfl, _⟩ := e
 exact ⟨_, _, rfl, rfl, fun k h => by cases h⟩
theorem GF {s : Value} (h : IsI w (.agg #[.bool n, s]) z) : n = decide (z < 0) := by
 obtain ⟨t, e, _⟩ := h
 simp only [Value.agg.injEq, Array.mk.injEq, List.cons.injEq, Value.bool.injEq, and_true] at e
 exact e.1
theorem IsI.sl {s : Value} (h : IsI w (.agg #[.bool n, s]) z) : Sl w s (CC z.natAbs) := by
 obtain ⟨t, e, f⟩ := h
 simp only [Value.agg.injEq, Array.mk.injEq, List.cons.injEq, Value.bool.injEq, and_true] at e
 rw [e.2]; exact f
theorem IsI.slice {s : Value} (h : IsI w (.agg #[.bool n, s]) z) : ∃ ao cap, s = .slice ao (CC z.natAbs).length cap := by
 obtain ⟨ao, cap, rfl, _⟩ := h.sl
 exact ⟨ao, cap, rfl⟩
theorem one2 {n : Bool} {s : Value} (h : s.oneCell' = true) : ∀ v ∈ [.bool n, s], v.oneCell' = true := by
 intro v e
 simp only [List.mem_cons, List.not_mem_nil, or_false] at e
 rcases e with rfl | rfl
 . rfl
 exact h
theorem IsI.one {n : Bool} {s : Value} (h : IsI w (.agg #[.bool n, s]) z) : ∀ v ∈ [.bool n, s], v.oneCell' = true := by
 obtain ⟨f, e, rfl⟩ := h.slice
 exact one2 rfl
theorem IsI.now {s : Value} (h : IsI w (.agg #[.bool n, s]) z) : TU [.bool n, s] := by
 obtain ⟨o, l, rfl⟩ := h.slice
 intro c f k e
 subst e
 simp at f
theorem FV : TU [.bool false, .slice none 0 0] := by
 intro c f k e
 subst e
 simp at f
section
variable {w : World} {l : List SF}
theorem Env.i (E : Env w l) (h : IsI w v z) : Env w (fI v z :: l) := ⟨h, E⟩
theorem Env.b {b : Nat} {s : Value} (E : Env w l) (h : Bx w b 62 [.bool n, s]) : Env w (fB b n s :: l) := ⟨h, E⟩
theorem Env.ww (E : Env w l) (h : Below w0.heap.size w0 w) : Env w (fW w0 :: l) := ⟨h, E⟩
theorem svS (l : List Nat) : SV (fun w v => Sl w v l) where
 below := fun h hb => h.below hb
 onl := fun h hn hb => h.onl hn hb
def fS (v : Value) (l : List Nat) : SF := fV (fun w v => Sl w v l) (svS l) v
theorem Env.s (E : Env w l) (h : Sl w v L) : Env w (fS v L :: l) := ⟨h, E⟩
theorem Env.nil (w : World) : Env w [] := trivial
theorem Env.get {f : SF} (E : Env w (f :: l)) : f.p w := E.1
end
section
variable {ρ : Operand -> Value} {o : Oper} {w : World} {P : Program}
theorem EV (ho : o.op = .move x) (hx : ρ x = v) : (execOp ρ o).run P w = .ok (.value v) w := by
 unfold execOp; rw [ho]; simp [hx]
theorem IF (ho : o.op = .assign x) (hx : ρ x = v) : (execOp ρ o).run P w = .ok (.value v) w := by
 unfold execOp; rw [ho]; simp [hx]
theorem dE {b : Bool} (ho : o.op = .unOp .not t x) (hx : ρ x = .bool b) : (execOp ρ o).run P w = .ok (.value (.bool !b)) w := by
 unfold execOp; rw [ho]; simp [hx, Op.unary]
theorem Mi {c : Operand} {b : Bool} (ho : o.op = .pick c x y) (hc : ρ c = .bool b) (hx : (if b then ρ x else ρ y) = v) : (execOp ρ o).run P w = .ok (.value v) w := by
 unfold execOp; rw [ho]; simp [hc, asBool, hx]
theorem JR {t : Operand} {k : Nat} {vs : List Value} (ho : o.op = .extract t k) (hx : ρ t = .tuple vs.toArray) (hk : vs[k]? = some v) : (execOp ρ o).run P w = .ok (.value v) w := by
 unfold execOp; rw [ho]; simp [hx, Instr.extract, hk]
theorem wA {b : Nat} (ho : o.op = .fieldAddr 62 x 0) (hx : ρ x = .pointer (some ⟨b, 0, none⟩)) : (execOp ρ o).run prog w = .ok (.value (.pointer (some ⟨b, 0, none⟩))) w := by
 unfold execOp; rw [ho]
 simp [hx, go_sem]
theorem vZ {b : Nat} (ho : o.op = .fieldAddr 62 x 1) (hx : ρ x = .pointer (some ⟨b, 0, none⟩)) : (execOp ρ o).run prog w = .ok (.value (.pointer (some ⟨b, 1, none⟩))) w := by
 unfold execOp; rw [ho]
 simp [hx, go_sem]
theorem CP {b i TB : Nat} (ho : o.op = .load T x) (hT : ∀ w, (isAgg T).run P w = .ok false w) (hx : ρ x = .pointer (some ⟨b, i, none⟩)) (hb : Bx w b TB cs) (hi : cs[i]? = some v) :
 (execOp ρ o).run P w = .ok (.value v) w := by
 unfold execOp; rw [ho]
 have e := (hb.cell i).trans hi
 simp [hx, Instr.loadAt, Instr.sureAddr, loadVar, hT, e]
theorem xF (w : World) : (isAgg 60).run prog w = .ok false w := by
 simp [go_sem]
theorem bW (w : World) : (isAgg 4).run prog w = .ok false w := by
 simp [go_sem]
theorem NS {n c : Nat} (ho : o.op = .call { callee := .builtin .len, args := #[x], argTypes := #[60] }) (hx : ρ x = .slice ao n c) : (execOp ρ o).run prog w = .ok (.value (.int .i64 n)) w := by
 unfold execOp; rw [ho]; simp [hx, go_sem]
theorem EU {n : Int} (ho : o.op = .binOp .eql t x y t') (hx : ρ x = .int k m) (hy : ρ y = .int k n) (hc : (m == n) = c) : (execOp ρ o).run P w = .ok (.value (.bool c)) w := by
 unfold execOp; rw [ho]; simp only [hx, hy, eqGuard_at_int, binOp_eql, hc]; rfl
theorem VW {n : Int} (ho : o.op = .binOp .neq t x y t') (hx : ρ x = .int k m) (hy : ρ y = .int k n) (hc : (m != n) = c) : (execOp ρ o).run P w = .ok (.value (.bool c)) w := by
 unfold execOp; rw [ho]; simp only [hx, hy, eqGuard_at_int, binOp_neq, hc]; rfl
theorem JH {n : Int} (ho : o.op = .binOp .lss t x y t') (hx : ρ x = .int k m) (hy : ρ y = .int k n) (hc : decide (m < n) = c) : (execOp ρ o).run P w = .ok (.value (.bool c)) w := by
 unfold execOp; rw [ho]; simp only [hx, hy, eqGuard_at_int, binOp_lss, hc]; rfl
theorem OW {n : Int} (ho : o.op = .binOp .leq t x y t') (hx : ρ x = .int k m) (hy : ρ y = .int k n) (hc : decide (m <= n) = c) : (execOp ρ o).run P w = .ok (.value (.bool c)) w := by
 unfold execOp; rw [ho]; simp only [hx, hy, eqGuard_at_int, binOp_leq, hc]; rfl
theorem RS {n : Int} (ho : o.op = .binOp .gtr t x y t') (hx : ρ x = .int k m) (hy : ρ y = .int k n) (hc : decide (m > n) = c) : (execOp ρ o).run P w = .ok (.value (.bool c)) w := by
 unfold execOp; rw [ho]; simp only [hx, hy, eqGuard_at_int, binOp_gtr, hc]; rfl
theorem sP {n : Int} (ho : o.op = .binOp .geq t x y t') (hx : ρ x = .int k m) (hy : ρ y = .int k n) (hc : decide (m >= n) = c) : (execOp ρ o).run P w = .ok (.value (.bool c)) w := by
 unfold execOp; rw [ho]; simp only [hx, hy, eqGuard_at_int, binOp_geq, hc]; rfl
theorem wH (ho : o.op = .build 62 #[]) : (execOp ρ o).run prog w = .ok (.value (.agg #[.bool false, .slice none 0 0])) w := by
 unfold execOp; rw [ho]
 have e : (zeroValue 62).run prog w = .ok (.agg #[.bool false, .slice none 0 0]) w := by kernel_rfl
 simp [go_sem, e]
theorem DA {b n : Nat} {zs : List Value} (hA : Ag P T n zs) (hb : Bx w b T cs) (hn : cs.length = n) : (loadVar T ⟨b, 0, none⟩).run P w = .ok (.agg cs.toArray) w := by
 obtain ⟨d, e, f⟩ := hA.u
 exact run_loadVar_row w b T T cs.toArray (0, 0) d hb e (by cases d <;> simp_all) (by rw [hA.size]; simp [hn])
end
theorem okB {b b' : Nat} {s : Value} (h : b ≠ b') : (fB b' n s).ok b := h
theorem IK {b : Nat} (h : w0.heap.size <= b) : (fW w0).ok b := h
theorem Env.start (w : World) : Env w [fW w] := ⟨Below.refl _ _, BX⟩
theorem Fits.mono {m n : Nat} (h : Fits z m) (hmn : m <= n) : Fits z n := Nat.le_trans h hmn
theorem Fits.lt {m : Nat} (h : Fits z m) : z.natAbs < 4294967296 ^ m := by
 have e := GT (GB z.natAbs)
 rw [CO] at e
 exact Nat.lt_of_lt_of_le e (Nat.pow_le_pow_right AA h)
theorem NF {m : Nat} (h : z.natAbs < 4294967296 ^ m) : Fits z m := JB h
theorem D4 {m : Nat} (h : Fits z m) : Fits (-z) m := by unfold Fits at *; rwa [Int.natAbs_neg]
theorem gN {x y : Int} {m n k : Nat} (hx : Fits x m) (hy : Fits y n) (hm : m <= k) (hn : n <= k) : Fits (x + y) (k + 1) := by
 refine NF ?_
 have h := (hx.mono hm).lt
 have f := (hy.mono hn).lt
 have e := Int.natAbs_add_le x y
 rw [Nat.pow_succ]
 omega
theorem GU {x y : Int} {m n : Nat} (hx : Fits x m) (hy : Fits y n) : Fits (x * y) (m + n) := by
 refine NF ?_
 rw [Int.natAbs_mul, Nat.pow_add]
 exact Nat.mul_lt_mul'' hx.lt hy.lt
theorem Ug (h : z = 0) : ((((CC z.natAbs).length : Nat) : Int) == 0) = true := by subst h; rw [Int.natAbs_zero, DX]; rfl
theorem Ex (h : z ≠ 0) : 0 < (CC z.natAbs).length := by
 rcases Nat.eq_zero_or_pos (CC z.natAbs).length with e | e
 . have := (FR z.natAbs).1 (List.eq_nil_of_length_eq_zero e); omega
 exact e
theorem lB (h : z ≠ 0) : ((((CC z.natAbs).length : Nat) : Int) == 0) = false := by
 have := Ex h
 rw [beq_eq_false_iff_ne]; omega
section
variable {P : Program} {o : Oper} {a : Act} {w : World} {K : Act -> World -> Prop} {Q : Exit -> Act -> World -> Prop} {f : Nat} {args : List Operand} {tys : Array TypeId} {vs : List Value} {l : List SF}
theorem CH (hf : Fn P f) (ho : o.op = .call { callee := .value (.func f), args := args.toArray, argTypes := tys }) (hc : Calls P f vs.toArray w (RetZ w z)) (hv : args.map a.eval = vs) (E : Env w l)
 (h : ∀ w' n s, Below w.heap.size w w' -> Env w' (fI (.agg #[.bool n, s]) z :: l) -> K (a.put o.dst (.agg #[.bool n, s])) w') : o.wp P a w K Q := by
 exact Zii
theorem CA {b : Bool} (hf : Fn P f) (ho : o.op = .call { callee := .value (.func f), args := args.toArray, argTypes := tys }) (hc : Calls P f vs.toArray w (LI w b)) (hv : args.map a.eval = vs) (E : Env w l)
 (h : ∀ w', Below w.heap.size w w' -> Env w' l -> K (a.put o.dst (.bool b)) w') : o.wp P a w K Q := by
 exact ZM6
theorem CE {x : Int} (hf : Fn P f) (ho : o.op = .call { callee := .value (.func f), args := args.toArray, argTypes := tys }) (hc : Calls P f vs.toArray w (XR w x)) (hv : args.map a.eval = vs) (E : Env w l)
 (h : ∀ w', Below w.heap.size w w' -> Env w' l -> K (a.put o.dst (.int .i64 x)) w') : o.wp P a w K Q := by
 exact ZM6
theorem FC (hf : Fn P f) (ho : o.op = .call { callee := .value (.func f), args := args.toArray, argTypes := tys }) (hc : Calls P f vs.toArray w (Db w L)) (hv : args.map a.eval = vs) (E : Env w l)
 (h : ∀ w' v, Below w.heap.size w w' -> Env w' (fS v L :: l) -> K (a.put o.dst v) w') : o.wp P a w K Q := by
 refine DG hf ho hc hv ?_
 rintro e w' ⟨v, rfl, p, k⟩
 exact ⟨_, rfl, h w' v k ⟨p, E.below k⟩⟩
theorem DV {c : Int} (hf : Fn P f) (ho : o.op = .call { callee := .value (.func f), args := args.toArray, argTypes := tys }) (hc : Calls P f vs.toArray w (RetZE w z c)) (hv : args.map a.eval = vs) (E : Env w l)
 (h : ∀ w' n s, Below w.heap.size w w' -> Env w' (fI (.agg #[.bool n, s]) z :: l) -> K (a.put o.dst (.tuple #[.agg #[.bool n, s], .int .i64 c])) w') : o.wp P a w K Q := by
 exact Zii
theorem kG {r c : Int} (hf : Fn P f) (ho : o.op = .call { callee := .value (.func f), args := args.toArray, argTypes := tys }) (hc : Calls P f vs.toArray w (RetDM w q r c)) (hv : args.map a.eval = vs) (E : Env w l)
 (h : ∀ w' n s m t, Below w.heap.size w w' -> Env w' (fI (.agg #[.bool m, t]) r :: fI (.agg #[.bool n, s]) q :: l) -> K (a.put o.dst (.tuple #[.agg #[.bool n, s], .agg #[.bool m, t], .int .i64 c])) w') : o.wp P a w K Q := by
 refine DG hf ho hc hv ?_
 rintro e w' ⟨v, u, rfl, k, p, y⟩
 obtain ⟨n, s, rfl, _⟩ := k.sh
 obtain ⟨m, t, rfl, _⟩ := p.sh
 exact ⟨_, rfl, h w' n s m t y ⟨p, k, E.below y⟩⟩
theorem PT {x : Int} {b : Bool} (hf : Fn P f) (ho : o.op = .call { callee := .value (.func f), args := args.toArray, argTypes := tys }) (hc : Calls P f vs.toArray w (RetS w x b)) (hv : args.map a.eval = vs) (E : Env w l)
 (h : ∀ w', Below w.heap.size w w' -> Env w' l -> K (a.put o.dst (.tuple #[.int .i64 x, .bool b])) w') : o.wp P a w K Q := by
 exact ZM6
end
theorem XL (a : Act) (d : Option Tmp) (v : Value) : (a.put d v).defers = a.defers := by cases d <;> rfl
theorem AL (h : A) (e : B = A := by first | (simp only [q2,q3]; exact O) | exact O) : B := e.mpr h
theorem AM (h : A) (e : B = A := by simp only [Act.put,q1,q2,q3]; exact O) : B := e.mpr h
def BK (l : Array Value) : Operand -> Option Value
 | .tmp t => l.toList[t]?
 | .const v => some v
 | _ => none
theorem BL (h : BK a.tmps x = some v) : a.eval x = v := by
 cases x <;> simp_all [BK, Act.eval]
theorem BU (hg : Region.wanted o (yielded ops a.tmps) = true) (g : o.op = .move x /\ BK a.tmps x = some v) (h : wpList P ops Q rest (a.put o.dst v) w) : wpList P ops Q (o :: rest) a w := LV hg (EV g.1 (BL g.2)) h
theorem BV (hg : Region.wanted o (yielded ops a.tmps) = true) (g : o.op = .assign x /\ BK a.tmps x = some v) (h : wpList P ops Q rest (a.put o.dst v) w) : wpList P ops Q (o :: rest) a w := LV hg (IF g.1 (BL g.2)) h
end Go.Proofs.YtmppigbbkjepiaaGreatDoor
