/- The reference of rationals: same. (Printed by g_ref02.py out of XRef1.) The reference of rationals, up to Made. (Printed by g_ref02.py.) -/
import Derived.Test.YtndpjfhhigpbhaaGreatRatL
import Derived.Test.YtndpjfhhigpbhaaGreatApi2
import Derived.Test.YtndpjfhhigpbhaaGreatApi4
import Derived.Test.YtndpjfhhigpbhaaGreatRatL
import Derived.Test.YtndpjfhhigpbhaaGreatFns
import Derived.Test.YtndpjfhhigpbhaaGreatRat1
import Derived.Test.YtndpjfhhigpbhaaGreatRefA
namespace Go.Proofs.YtndpjfhhigpbhaaGreat
open Go.RowKit W
theorem same_decQ {x y : Int} (h1 : decide (x < 0) = decide (y < 0)) (h2 : x.natAbs = y.natAbs) : decide (x = y) = true := by
  rw [decide_eq_decide] at h1
  rw [decide_eq_true_eq]; omega
theorem notsame_lenQ {x y : Int} (h : (digs x.natAbs).length ≠ (digs y.natAbs).length) : decide (x = y) = false := by
  rw [decide_eq_false_iff_not]; rintro rfl; exact h rfl
theorem notsame_atQ {x y : Int} (i : Nat) (h : gd (digs x.natAbs) i ≠ gd (digs y.natAbs) i) : decide (x = y) = false := by
  rw [decide_eq_false_iff_not]; rintro rfl; exact h rfl
theorem notsame_sgnQ {x y : Int} (h : decide (x < 0) ≠ decide (y < 0)) : decide (x = y) = false := by
  rw [decide_eq_false_iff_not]; rintro rfl; exact h rfl
/-- The words below number k are the same. -/
def SameToQ (a b : List Nat) (k : Nat) : Prop := ∀ i, i < k → gd a i = gd b i
set_option maxHeartbeats 2000000 in
theorem same_q (va vb : Value) (x y : Int) (w : World) (ha : IsI w va x) (hb : IsI w vb y) :
    Calls Tryz.prog 45 #[va, vb] w (RetB w (decide (x = y))) := by
  obtain ⟨aoa, capa, rfl, sa, ha1, ha2⟩ := ha.parts
  obtain ⟨aob, capb, rfl, sb, hb1, hb2⟩ := hb.parts
  obtain ⟨la, hla⟩ : ∃ l, l = digs x.natAbs := ⟨_, rfl⟩
  obtain ⟨lb, hlb⟩ : ∃ l, l = digs y.natAbs := ⟨_, rfl⟩
  obtain ⟨nx, hnx⟩ : ∃ n, n = decide (x < 0) := ⟨_, rfl⟩
  obtain ⟨ny, hny⟩ : ∃ n, n = decide (y < 0) := ⟨_, rfl⟩
  obtain ⟨R, hR⟩ : ∃ n, n = decide (x = y) := ⟨_, rfl⟩
  rw [← hla] at sa ha1
  rw [← hlb] at sb hb1
  rw [← hla, ← hlb, ← hnx, ← hny, ← hR]
  obtain ⟨_, _, e1, _, _, _, _, sa4⟩ := sa
  obtain ⟨_, _, e2, _, _, _, _, sb4⟩ := sb
  simp only [Value.slice.injEq] at e1 e2
  obtain ⟨rfl, _, rfl⟩ := e1
  obtain ⟨rfl, _, rfl⟩ := e2
  have HSA := Lib.hid sa4
  have HSB := Lib.hid sb4
  have HLA := Lib.hid hla
  have HLB := Lib.hid hlb
  have HNX := Lib.hid hnx
  have HNY := Lib.hid hny
  have HR := Lib.hid hR
  clear ha hb hla hlb hnx hny hR sa4 sb4
  obtain ⟨W, hW, hsz, B0, c0, c1, c2, c3⟩ := boxes2 w nx ny (.slice aoa la.length capa) (.slice aob lb.length capb)
  by_cases hs : nx = ny
  · subst hs
    have hs0 : (nx != nx) = false := by simp
    by_cases hl : la.length = lb.length
    · have hl0 : ((la.length : Int) != (lb.length : Int)) = false := by rw [bne_eq_false_iff_eq]; omega
      have HL := Lib.hid hl
      clear hl
      go_enter Tryz.func45, Tryz.ntmps45
      go_upto_region 1 with fail
      rw [← hW]
      clear hW hsz
      go_wp2
      go_loopw [5] (fun i wr => ∃ k : Nat, k ≤ la.length ∧ i = .int .i64 k ∧ Hid (SameToQ la lb k) ∧ ∃ q, wr = W.drewN q) (fun i _ => (la.length : Int).toNat - (intOf i).toNat)
      case atStart => exact ⟨0, by omega, rfl, fun i hi => absurd hi (by omega), 0, rfl⟩
      case round =>
        obtain ⟨k, hk, rfl, hst, q, rfl⟩ := hrel
        by_cases hlt : k < la.length
        · obtain ⟨b, off, rfl, hc⟩ := HSA.out k hlt
          obtain ⟨b2, off2, rfl, hc2⟩ := HSB.out k (by have := HL.out; omega)
          have hc := cell_below hc B0
          have hc2 := cell_below hc2 B0
          have hlt2 : (k : Int) < (lb.length : Int) := by have := HL.out; omega
          have hk0 : (0 : Int) ≤ (k : Int) := by omega
          have hlt1 : (k : Int) < (la.length : Int) := by omega
          by_cases hx : gd la k = gd lb k
          · have h1 : (((gd la k : Nat) : Int) != ((gd lb k : Nat) : Int)) = false := by rw [bne_eq_false_iff_eq]; omega
            have HST : Hid (SameToQ la lb (k + 1)) := by
              intro i hi
              by_cases e : i = k
              · subst e; exact hx
              · exact hst.out i (by omega)
            clear hx hst
            go_wp2
            go_quiet (fail)
            go_wp2
            go_roundw
            case rel => exact ⟨k + 1, by omega, by go_num, HST, (by first | exact ⟨_, rfl⟩ | exact ⟨_, by simp only [World.drewN_drewN]; rfl⟩)⟩
            case measure => simp [intOf]; omega
          · have h1 : (((gd la k : Nat) : Int) != ((gd lb k : Nat) : Int)) = true := by rw [bne_iff_ne]; omega
            have HRF : Hid (R = false) := by
              show R = false
              rw [HR.out]; exact notsame_atQ k (by rw [← HLA.out, ← HLB.out]; exact hx)
            clear hx hst
            go_wp2
            go_quiet (fail)
            go_wp2
            go_ret
            exact ⟨by rw [HRF.out]; rfl, bel_drewN (bel_drewN B0 _) _⟩
        · have HRT : Hid (R = true) := by
            show R = true
            rw [HR.out]
            refine same_decQ (by rw [← HNX.out, ← HNY.out]) (digs_inj ?_)
            rw [← HLA.out, ← HLB.out]
            exact ext_gd HL.out fun i hi => hst.out i (by omega)
          clear hst
          go_wp2
          go_ret
          exact ⟨by rw [HRT.out]; rfl, bel_drewN B0 _⟩
    · have hl0 : ((la.length : Int) != (lb.length : Int)) = true := by rw [bne_iff_ne]; omega
      have HRF : Hid (R = false) := by
        show R = false
        rw [HR.out]; exact notsame_lenQ (by rw [← HLA.out, ← HLB.out]; exact hl)
      clear hl
      go_enter Tryz.func45, Tryz.ntmps45
      go_upto_region 1 with fail
      rw [← hW]
      clear hW hsz
      go_wp2
      go_ret
      exact ⟨by rw [HRF.out]; rfl, B0⟩
  · have HRF : Hid (R = false) := by
      show R = false
      rw [HR.out]; exact notsame_sgnQ (by rw [← HNX.out, ← HNY.out]; exact hs)
    have hs0 : (nx != ny) = true := by rw [bne_iff_ne]; exact hs
    clear hs0
    cases nx <;> cases ny <;> (first | exact absurd rfl hs | skip)
    all_goals
      clear hs
      go_enter Tryz.func45, Tryz.ntmps45
      go_upto_region 1 with fail
      rw [← hW]
      clear hW hsz
      go_wp2
      go_ret
      exact ⟨by rw [HRF.out]; rfl, B0⟩
end Go.Proofs.YtndpjfhhigpbhaaGreat
namespace Go.Proofs.YtndpjfhhigpbhaaGreat
open Go.RowKit W
theorem run_fieldW (f : Nat) (hf : f < 3) {ρ : Operand → Value} {o : Oper} {w : World} {x : Operand} {b : Nat} (ho : o.op = .fieldAddr 24 x f) (hx : ρ x = .pointer (some ⟨b, 0, none⟩)) : (execOp ρ o).run Tryz.prog w = .ok (.value (.pointer (some ⟨b, f, none⟩))) w := by
  have : f = 0 ∨ f = 1 ∨ f = 2 := by omega
  rcases this with rfl | rfl | rfl <;> (unfold execOp; rw [ho]; simp [hx, go_sem])
theorem isAgg_i8 (w : World) : (isAgg 22).run Tryz.prog w = .ok false w := by simp [go_sem]
theorem isAgg_u8q (w : World) : (isAgg 5).run Tryz.prog w = .ok false w := by simp [go_sem]
theorem retB_is {f : Nat} {args : Array Value} {w : World} {a b : Bool} (h : a = b) (hc : Calls Tryz.prog f args w (RetB w a)) : Calls Tryz.prog f args w (RetB w b) := h ▸ hc
theorem same_and {p q p' q' : Int} (h : p = p') : decide (q = q') = decide (p = p' ∧ q = q') := by simp [h]
theorem same_nand {p q p' q' : Int} (h : ¬ p = p') : false = decide (p = p' ∧ q = q') := by simp [h]
theorem tmod8 (k : Nat) : ((k : Nat) : Int).tmod 8 = ((k % 8 : Nat) : Int) := (Int.ofNat_tmod k 8).symm
set_option maxRecDepth 100000 in
set_option maxHeartbeats 8000000 in
theorem Same_q  (na : Bool) (sa : Value) (ma : Bool) (ta : Value) (p q : Int) (nb : Bool) (sb : Value) (mb : Bool) (tb : Value) (p' q' : Int)  (w : World)  (hna : IsI w (.agg #[.bool na, sa]) p) (hda : IsI w (.agg #[.bool ma, ta]) q) (hnb : IsI w (.agg #[.bool nb, sb]) (p')) (hdb : IsI w (.agg #[.bool mb, tb]) (q')) :
    Calls Tryz.prog 6 #[.agg #[.bool na, sa, .bool ma, ta], .agg #[.bool nb, sb, .bool mb, tb]] w (RetB w (decide (p = p' ∧ q = q'))) := by
 have E := Env.start w
 replace E := (E.i hna).i hda
 clear hna hda
 replace E := (E.i hnb).i hdb
 clear hnb hdb
 go_enter Tryz.func6, Tryz.ntmps6
 refine wp_seq ?_
 -- region 0
 refine RL ?_
 refine EF rfl (Oper.wp_box (cs := [.bool na, sa, .bool ma, ta]) rfl rfl ?_)
 intro b1 w1 e1 z1 d1 x1
 have l1 : w.heap.size ≤ b1 := by rw [e1]; exact (e4 E).size
 replace E := E.below d1
 clear e1 z1 d1
 replace E := E.x x1
 clear x1
 refine kw rfl ?_
 simp only [q2,q3]
 refine EF rfl (Oper.wp_box (cs := [.bool nb, sb, .bool mb, tb]) rfl rfl ?_)
 intro b2 w2 e2 z2 d2 x2
 have l2_0 : b1 < b2 := by rw [e2]; exact Bx.lt (E.1)
 replace E := E.below d2
 clear e2 z2 d2
 replace E := E.x x2
 clear x2
 refine kw rfl ?_
 refine AC rfl rfl rfl rfl <| ?_
 simp only [q2,q3]
 refine WN ?_
 change Code.wp _ _ _ _ _
 refine wp_seq ?_
 by_cases h1 : p = p'
 case pos =>
  -- region 1
  refine RL ?_
  refine V rfl rfl (run_fieldR0 rfl rfl) <| V rfl rfl (run_loadAt rfl rfl (E.2.1) rfl rfl) <| V rfl rfl (run_fieldR0 rfl rfl) <| V rfl rfl (run_loadAt rfl rfl (E.1) rfl rfl) <| ?_
  simp only [q2,q3]
  refine EF rfl (Oper.wp_callB fn_eref02_same rfl (retB_is (decide_eq_true h1) (same_q _ _ p (p') _ (e5 E) (e3 E))) rfl E ?_)
  clear E
  intro w3 d3 E
  clear d3
  refine kw rfl ?_
  refine M rfl rfl rfl rfl rfl <| V (by kernel_rfl) rfl (run_fieldR1 rfl rfl) <| V (by kernel_rfl) rfl (run_loadAt rfl rfl (E.2.1) rfl rfl) <| V (by kernel_rfl) rfl (run_fieldR1 rfl rfl) <| ?_
  simp only [q2,q3]
  refine V (by kernel_rfl) rfl (run_loadAt rfl rfl (E.1) rfl rfl) <| ?_
  simp only [q2,q3]
  refine EF rfl (Oper.wp_callB fn_eref02_same rfl (same_q _ _ q (q') _ (e4 E) (E.2.2.1)) rfl E ?_)
  clear E
  intro w4 d4 E
  clear d4
  refine kw rfl ?_
  refine V (v := .bool (decide (q = q'))) rfl rfl (run_pick (b := true) rfl rfl rfl) <| A rfl rfl rfl rfl rfl <| ?_
  simp only [q2,q3]
  refine WN ?_
  change Code.wp _ _ _ _ _
  refine wp_ret ?_
  exact bodyPost_ret (v := .bool (decide (q = q'))) (by simp [results, Tryz.results6, asAddr]) rfl ⟨ret_bool (same_and h1), e6 E⟩
 case neg =>
  -- region 1
  refine RL ?_
  refine V rfl rfl (run_fieldR0 rfl rfl) <| V rfl rfl (run_loadAt rfl rfl (E.2.1) rfl rfl) <| V rfl rfl (run_fieldR0 rfl rfl) <| V rfl rfl (run_loadAt rfl rfl (E.1) rfl rfl) <| ?_
  simp only [q2,q3]
  refine EF rfl (Oper.wp_callB fn_eref02_same rfl (retB_is (decide_eq_false h1) (same_q _ _ p (p') _ (e5 E) (e3 E))) rfl E ?_)
  clear E
  intro w5 d5 E
  clear d5
  refine kw rfl ?_
  refine M rfl rfl rfl rfl rfl <| L0C (by kernel_rfl) rfl <| L0C (by kernel_rfl) rfl <| L0C (by kernel_rfl) rfl <| ?_
  simp only [q2,q3]
  refine L0C (by kernel_rfl) rfl <| L0C (by kernel_rfl) rfl <| V (v := .bool false) rfl rfl (run_pick (b := false) rfl rfl rfl) <| A rfl rfl rfl rfl rfl <| ?_
  simp only [q2,q3]
  refine WN ?_
  change Code.wp _ _ _ _ _
  refine wp_ret ?_
  exact bodyPost_ret (v := .bool false) (by simp [results, Tryz.results6, asAddr]) rfl ⟨ret_bool (same_nand h1), e6 E⟩
set_option maxRecDepth 100000 in
set_option maxHeartbeats 8000000 in
theorem exact_z  (va : Value) (n : Int) (vb : Value) (d : Int) (w : World) (hva : IsI w va n) (hvb : IsI w vb d) (hd : d ≠ 0) (Fn : Fits n 900000000) (Fd : Fits d 900000000) :
    Calls Tryz.prog 78 #[va, vb] w (RetZ w (n / d)) := by
 have E := Env.start w
 obtain ⟨nva, sva, rfl, _, _⟩ := hva.sh
 replace E := E.i hva
 clear hva
 obtain ⟨nvb, svb, rfl, _, _⟩ := hvb.sh
 replace E := E.i hvb
 clear hvb
 go_enter Tryz.func78, Tryz.ntmps78
 refine wp_seq ?_
 -- region 0
 refine RL ?_
 refine EF rfl (Oper.wp_box rfl rfl ?_)
 intro b1 w1 e1 z1 d1 x1
 have l1 : w.heap.size ≤ b1 := by rw [e1]; exact (E.2.2.1).size
 replace E := E.below d1
 clear e1 z1 d1
 replace E := E.b x1
 clear x1
 refine kw rfl ?_
 simp only [q2,q3]
 refine EF rfl (Oper.wp_box rfl rfl ?_)
 intro b2 w2 e2 z2 d2 x2
 have l2_0 : b1 < b2 := by rw [e2]; exact Bx.lt (E.1)
 replace E := E.below d2
 clear e2 z2 d2
 replace E := E.b x2
 clear x2
 refine kw rfl ?_
 simp only [q2,q3]
 refine EF rfl (Oper.wp_alloc AgI rfl ?_)
 intro b3 w3 e3 z3 d3 x3
 have l3_0 : b2 < b3 := by rw [e3]; exact Bx.lt (E.1)
 replace E := E.below d3
 clear e3 z3 d3
 refine kw rfl ?_
 simp only [q2,q3]
 refine WN ?_
 change Code.wp _ _ _ _ _
 refine wp_seq ?_
 -- region 1
 refine RL ?_
 refine V rfl rfl (run_load_bx AgI rfl rfl (E.2.1) rfl) <| V rfl rfl (run_load_bx AgI rfl rfl (E.1) rfl) <| ?_
 simp only [q2,q3]
 refine EF rfl (Oper.wp_callIIE fn_eref01_DivMod rfl (RDivMod_z _ n _ d _ (e3 E) (E.2.2.1) (hd) (Fits.mono Fn (by decide)) (Fits.mono Fd (by decide))) rfl E ?_)
 clear E
 intro w5 n5 s5 m5 t5 d5 E
 replace x3 := x3.below d5
 clear d5
 refine kw rfl ?_
 have F4 : Fits (n / d) 900000000 := Fits_div (y := d) Fn
 refine M rfl rfl rfl rfl rfl <| V rfl rfl (run_extract (vs := [.agg #[.bool n5, s5], .agg #[.bool m5, t5], .int .i64 0]) rfl rfl rfl) <| V rfl rfl (run_extract (vs := [.agg #[.bool n5, s5], .agg #[.bool m5, t5], .int .i64 0]) rfl rfl rfl) <| V rfl rfl (run_extract (vs := [.agg #[.bool n5, s5], .agg #[.bool m5, t5], .int .i64 0]) rfl rfl rfl) <| ?_
 simp only [q2,q3]
 refine EF rfl (Oper.wp_alloc AgI rfl ?_)
 intro b6 w6 e6 z6 d6 x6
 have l6_0 : b3 < b6 := by rw [e6]; exact Bx.lt (x3)
 replace E := E.below d6
 replace x3 := Bx.below x3 d6
 clear e6 z6 d6
 refine kw rfl ?_
 simp only [q2,q3]
 refine EF rfl (Oper.wp_alloc AgI rfl ?_)
 intro b7 w7 e7 z7 d7 x7
 have l7_0 : b6 < b7 := by rw [e7]; exact Bx.lt (x6)
 replace E := E.below d7
 replace x3 := Bx.below x3 d7
 replace x6 := Bx.below x6 d7
 clear e7 z7 d7
 refine kw rfl ?_
 simp only [q2,q3]
 refine EF rfl (Oper.wp_store AgI rfl rfl rfl x6 rfl rfl (IsI.one (E.2.1)) ?_)
 intro w8 o8 y8
 replace E := (E.onl (x6.noW now0) ⟨trivial, trivial, okB (by omega), okB (by omega), trivial, trivial, okW (by omega), trivial⟩ o8).b y8
 replace x3 := Bx.onl x3 (by omega) o8
 replace x7 := Bx.onl x7 (by omega) o8
 clear x6 o8 y8
 refine kn rfl ?_
 refine EF rfl (Oper.wp_store AgI rfl rfl rfl x7 rfl rfl (IsI.one (E.2.1)) ?_)
 intro w9 o9 y9
 replace E := (E.onl (x7.noW now0) ⟨okB (by omega), trivial, trivial, okB (by omega), okB (by omega), trivial, trivial, okW (by omega), trivial⟩ o9).b y9
 replace x3 := Bx.onl x3 (by omega) o9
 clear x7 o9 y9
 refine kn rfl ?_
 refine A rfl rfl rfl rfl rfl <| ?_
 simp only [q2,q3]
 refine WN ?_
 change Code.wp _ _ _ _ _
 refine wp_seq ?_
 -- region 2
 refine RL ?_
 refine V rfl rfl (run_load_bx AgI rfl rfl (E.2.1) rfl) <| ?_
 simp only [q2,q3]
 refine EF rfl (Oper.wp_store AgI rfl rfl rfl x3 rfl rfl (IsI.one (e3 E)) ?_)
 intro w10 o10 y10
 replace E := (E.onl (x3.noW now0) ⟨okB (by omega), okB (by omega), trivial, trivial, okB (by omega), okB (by omega), trivial, trivial, okW (by omega), trivial⟩ o10).b y10
 clear x3 o10 y10
 refine kn rfl ?_
 refine WN ?_
 change Code.wp _ _ _ _ _
 refine wp_ret ?_
 have r11 := res_box AgI (E.1) rfl
 exact bodyPost_ret (v := .agg #[.bool n5, s5]) (by simp [results, Tryz.results78, asAddr, r11]) rfl ⟨_, rfl, e4 E, e9 E⟩
set_option maxRecDepth 100000 in
set_option maxHeartbeats 8000000 in
theorem Rlowest_z  (va : Value) (n : Int) (vb : Value) (d : Int) (w : World) (hva : IsI w va n) (hvb : IsI w vb d) (hd : d ≠ 0) (Fn : Fits n 900000000) (Fd : Fits d 900000000) :
    Calls Tryz.prog 44 #[va, vb] w (RetP w (Rat.divInt n d).num (((Rat.divInt n d).den : Nat) : Int)) := by
 have E := Env.start w
 obtain ⟨nva, sva, rfl, _, _⟩ := hva.sh
 replace E := E.i hva
 clear hva
 obtain ⟨nvb, svb, rfl, _, _⟩ := hvb.sh
 replace E := E.i hvb
 clear hvb
 go_enter Tryz.func44, Tryz.ntmps44
 refine wp_seq ?_
 -- region 0
 refine RL ?_
 refine EF rfl (Oper.wp_box rfl rfl ?_)
 intro b1 w1 e1 z1 d1 x1
 have l1 : w.heap.size ≤ b1 := by rw [e1]; exact (E.2.2.1).size
 replace E := E.below d1
 clear e1 z1 d1
 replace E := E.b x1
 clear x1
 refine kw rfl ?_
 simp only [q2,q3]
 refine EF rfl (Oper.wp_box rfl rfl ?_)
 intro b2 w2 e2 z2 d2 x2
 have l2_0 : b1 < b2 := by rw [e2]; exact Bx.lt (E.1)
 replace E := E.below d2
 clear e2 z2 d2
 replace E := E.b x2
 clear x2
 refine kw rfl ?_
 simp only [q2,q3]
 refine EF rfl (Oper.wp_alloc AgR rfl ?_)
 intro b3 w3 e3 z3 d3 x3
 have l3_0 : b2 < b3 := by rw [e3]; exact Bx.lt (E.1)
 replace E := E.below d3
 clear e3 z3 d3
 refine kw rfl ?_
 simp only [q2,q3]
 refine WN ?_
 change Code.wp _ _ _ _ _
 refine wp_seq ?_
 -- region 1
 refine RL ?_
 refine V rfl rfl (run_load_bx AgI rfl rfl (E.2.1) rfl) <| V rfl rfl (run_load_bx AgI rfl rfl (E.1) rfl) <| ?_
 simp only [q2,q3]
 refine EF rfl (Oper.wp_callI fn_eref01_Gcd rfl (RGcd_z _ n _ d _ (e3 E) (E.2.2.1) (Fits.mono Fn (by decide)) (Fits.mono Fd (by decide))) rfl E ?_)
 clear E
 intro w5 n5 s5 d5 E
 replace x3 := x3.below d5
 clear d5
 refine kw rfl ?_
 have F4 : Fits ((Nat.gcd n.natAbs d.natAbs : Nat) : Int) 900000000 := Fits_gcd hd Fd
 simp only [q2,q3]
 refine EF rfl (Oper.wp_alloc AgI rfl ?_)
 intro b6 w6 e6 z6 d6 x6
 have l6_0 : b3 < b6 := by rw [e6]; exact Bx.lt (x3)
 replace E := E.below d6
 replace x3 := Bx.below x3 d6
 clear e6 z6 d6
 refine kw rfl ?_
 simp only [q2,q3]
 refine EF rfl (Oper.wp_store AgI rfl rfl rfl x6 rfl rfl (IsI.one (E.1)) ?_)
 intro w7 o7 y7
 replace E := (E.onl (x6.noW now0) ⟨trivial, okB (by omega), okB (by omega), trivial, trivial, okW (by omega), trivial⟩ o7).b y7
 replace x3 := Bx.onl x3 (by omega) o7
 clear x6 o7 y7
 refine kn rfl ?_
 refine WN ?_
 change Code.wp _ _ _ _ _
 refine wp_seq ?_
 refine wp_seq ?_
 by_cases h1 : d < 0
 case pos =>
  -- region 2
  refine RL ?_
  refine V rfl rfl (run_load_bx AgI rfl rfl (E.2.2.1) rfl) <| ?_
  simp only [q2,q3]
  refine EF rfl (Oper.wp_callN fn_eref01_Sign rfl (RSign_z _ d _ (e4 E)) rfl E ?_)
  clear E
  intro w8 d8 E
  replace x3 := x3.below d8
  clear d8
  refine kw rfl ?_
  refine V rfl rfl (run_ltI (c := true) rfl rfl rfl (sgn_lt0 h1)) <| ?_
  simp only [q2,q3]
  refine WN ?_
  change Code.wp _ _ _ _ _
  refine wp_cond_true rfl ?_
  -- region 3
  refine RL ?_
  refine V rfl rfl (run_load_bx AgI rfl rfl (E.1) rfl) <| ?_
  simp only [q2,q3]
  refine EF rfl (Oper.wp_callI fn_eref01_Neg rfl (RNeg_z _ ((Nat.gcd n.natAbs d.natAbs : Nat) : Int) _ (E.2.1)) rfl E ?_)
  clear E
  intro w10 n10 s10 d10 E
  replace x3 := x3.below d10
  clear d10
  refine kw rfl ?_
  have F9 : Fits (-((Nat.gcd n.natAbs d.natAbs : Nat) : Int)) 900000000 := Fits_neg F4
  have x12 := E.2.1
  replace E := (E.2.2).i (E.1)
  simp only [q2,q3]
  refine EF rfl (Oper.wp_store AgI rfl rfl rfl x12 rfl rfl (IsI.one (E.1)) ?_)
  intro w11 o11 y11
  replace E := (E.onl (x12.noW (IsI.now (E.2.1))) ⟨trivial, trivial, okB (by omega), okB (by omega), trivial, trivial, okW (by omega), trivial⟩ o11).b y11
  replace x3 := Bx.onl x3 (by omega) o11
  clear x12 o11 y11
  refine kn rfl ?_
  refine WN ?_
  change Code.wp _ _ _ _ _
  refine wp_seq ?_
  -- region 4
  refine wp_schedE E ([0, 1, 3, 4, 2, 5, 6, 7]) (by kernel_rfl) (by kernel_rfl) (by kernel_rfl) (by kernel_rfl) (by intro d v c a w h; cases d <;> exact h) ?_
  replace E := E.drew
  replace x3 := Bx.drew x3
  refine SW rfl rfl rfl rfl rfl (fun w hS => run_load_bx AgI rfl rfl (e4 hS) rfl) <| SW rfl rfl rfl rfl rfl (fun w hS => run_load_bx AgI rfl rfl (hS.1) rfl) <| SW rfl rfl rfl rfl rfl (fun w hS => run_load_bx AgI rfl rfl (e3 hS) rfl) <| SW rfl rfl rfl rfl rfl (fun w hS => run_load_bx AgI rfl rfl (hS.1) rfl) <| ?_
  simp only [q2,q3]
  refine S1a (o := ⟨some 16, _, _, _, _, _⟩) rfl rfl rfl rfl (Oper.wp_callI fn_eref02_exact rfl (exact_z _ n _ (-((Nat.gcd n.natAbs d.natAbs : Nat) : Int)) _ (e6 E) (E.2.1) (Int.neg_ne_zero.2 (low_gpos (n := n) hd)) (Fits.mono Fn (by decide)) (Fits.mono F9 (by decide))) rfl E ?_)
  clear E
  intro w13 n13 s13 d13 E
  replace x3 := x3.below d13
  clear d13
  refine ⟨E.2, ?_⟩
  simp only [Act.put,q1,q2,q3]
  refine S1a (o := ⟨some 19, _, _, _, _, _⟩) rfl rfl rfl rfl (Oper.wp_callI fn_eref02_exact rfl (exact_z _ d _ (-((Nat.gcd n.natAbs d.natAbs : Nat) : Int)) _ (e6 E) (E.2.2.1) (Int.neg_ne_zero.2 (low_gpos (n := n) hd)) (Fits.mono Fd (by decide)) (Fits.mono F9 (by decide))) rfl E ?_)
  clear E
  intro w14 n14 s14 d14 E
  replace x3 := x3.below d14
  clear d14
  refine ⟨E.2.2, ?_⟩
  simp only [Act.put,q1,q2,q3]
  refine SW (v := .agg #[.bool n13, s13, .bool n14, s14]) rfl rfl rfl rfl rfl (fun w hS => run_buildR rfl rfl rfl) <| ?_
  simp only [q2,q3]
  refine S1a (o := ⟨none, _, _, _, _, _⟩) rfl rfl rfl rfl (Oper.wp_store AgR rfl rfl rfl x3 rfl rfl (one4 (IsI.one (E.2.1)) (IsI.one (E.1))) ?_)
  intro w15 o15 y15
  replace E := (E.onl (x3.noW (now4 now0 now0)) ⟨trivial, trivial, okB (by omega), trivial, trivial, okB (by omega), okB (by omega), trivial, trivial, okW (by omega), trivial⟩ o15).x y15
  clear x3 o15 y15
  refine ⟨E.2.2.2, ?_⟩
  simp only [Act.put]
  refine SN ?_
  change Code.wp _ _ _ _ _
  refine wp_ret ?_
  have r16 := res_box AgR (E.1) rfl
  exact bodyPost_ret (v := .agg #[.bool n13, s13, .bool n14, s14]) (by simp [results, Tryz.results44, asAddr, r16]) rfl ⟨_, _, _, _, rfl, eqZ ((low_neg_num h1).symm) (E.2.2.1), eqZ ((low_neg_den h1).symm) (E.2.1), e10 E⟩
 case neg =>
  replace h1 : 0 < d := by omega
  -- region 2
  refine RL ?_
  refine V rfl rfl (run_load_bx AgI rfl rfl (E.2.2.1) rfl) <| ?_
  simp only [q2,q3]
  refine EF rfl (Oper.wp_callN fn_eref01_Sign rfl (RSign_z _ d _ (e4 E)) rfl E ?_)
  clear E
  intro w17 d17 E
  replace x3 := x3.below d17
  clear d17
  refine kw rfl ?_
  refine V rfl rfl (run_ltI (c := false) rfl rfl rfl (sgn_nlt0 h1)) <| ?_
  simp only [q2,q3]
  refine WN ?_
  change Code.wp _ _ _ _ _
  refine wp_cond_false rfl ?_
  refine wp_skip ?_
  change Code.wp _ _ _ _ _
  refine wp_seq ?_
  -- region 4
  refine wp_schedE E ([0, 1, 3, 4, 2, 5, 6, 7]) (by kernel_rfl) (by kernel_rfl) (by kernel_rfl) (by kernel_rfl) (by intro d v c a w h; cases d <;> exact h) ?_
  replace E := E.drew
  replace x3 := Bx.drew x3
  refine SW rfl rfl rfl rfl rfl (fun w hS => run_load_bx AgI rfl rfl (e3 hS) rfl) <| SW rfl rfl rfl rfl rfl (fun w hS => run_load_bx AgI rfl rfl (hS.1) rfl) <| SW rfl rfl rfl rfl rfl (fun w hS => run_load_bx AgI rfl rfl (hS.2.2.1) rfl) <| SW rfl rfl rfl rfl rfl (fun w hS => run_load_bx AgI rfl rfl (hS.1) rfl) <| ?_
  simp only [q2,q3]
  refine S1a (o := ⟨some 16, _, _, _, _, _⟩) rfl rfl rfl rfl (Oper.wp_callI fn_eref02_exact rfl (exact_z _ n _ ((Nat.gcd n.natAbs d.natAbs : Nat) : Int) _ (e5 E) (E.2.1) (low_gpos (n := n) hd) (Fits.mono Fn (by decide)) (Fits.mono F4 (by decide))) rfl E ?_)
  clear E
  intro w18 n18 s18 d18 E
  replace x3 := x3.below d18
  clear d18
  refine ⟨E.2, ?_⟩
  simp only [Act.put,q1,q2,q3]
  refine S1a (o := ⟨some 19, _, _, _, _, _⟩) rfl rfl rfl rfl (Oper.wp_callI fn_eref02_exact rfl (exact_z _ d _ ((Nat.gcd n.natAbs d.natAbs : Nat) : Int) _ (e5 E) (E.2.2.1) (low_gpos (n := n) hd) (Fits.mono Fd (by decide)) (Fits.mono F4 (by decide))) rfl E ?_)
  clear E
  intro w19 n19 s19 d19 E
  replace x3 := x3.below d19
  clear d19
  refine ⟨E.2.2, ?_⟩
  simp only [Act.put,q1,q2,q3]
  refine SW (v := .agg #[.bool n18, s18, .bool n19, s19]) rfl rfl rfl rfl rfl (fun w hS => run_buildR rfl rfl rfl) <| ?_
  simp only [q2,q3]
  refine S1a (o := ⟨none, _, _, _, _, _⟩) rfl rfl rfl rfl (Oper.wp_store AgR rfl rfl rfl x3 rfl rfl (one4 (IsI.one (E.2.1)) (IsI.one (E.1))) ?_)
  intro w20 o20 y20
  replace E := (E.onl (x3.noW (now4 now0 now0)) ⟨trivial, trivial, okB (by omega), trivial, okB (by omega), okB (by omega), trivial, trivial, okW (by omega), trivial⟩ o20).x y20
  clear x3 o20 y20
  refine ⟨E.2.2.2, ?_⟩
  simp only [Act.put]
  refine SN ?_
  change Code.wp _ _ _ _ _
  refine wp_ret ?_
  have r21 := res_box AgR (E.1) rfl
  exact bodyPost_ret (v := .agg #[.bool n18, s18, .bool n19, s19]) (by simp [results, Tryz.results44, asAddr, r21]) rfl ⟨_, _, _, _, rfl, eqZ ((low_num h1).symm) (E.2.2.1), eqZ ((low_den h1).symm) (E.2.1), e9 E⟩
/-- The number that the reference's Made makes. -/
def madeD (b : Int) : Int := if b = 0 then 1 else b
def madeQ (a b : Int) (k : Nat) : Rat :=
  if k % 8 = 7 then Rat.divInt (a * (4611686018427387904 + (k : Int)) * (4611686018427387904 + (k : Int)) + (k : Int)) (madeD b)
  else if k % 8 = 6 then Rat.divInt a (madeD b * (4611686018427387904 + (k : Int)) * (4611686018427387904 + (k : Int)))
  else Rat.divInt a (madeD b)
theorem madeD_ne (b : Int) : madeD b ≠ 0 := by unfold madeD; split; decide; assumption
theorem madeQ_fit {a b : Int} {k : Nat} (ha1 : -128 ≤ a) (ha2 : a ≤ 127) (hb1 : -128 ≤ b) (hb2 : b ≤ 127) (hk : k < 256) : FitQ (madeQ a b k) 20 := by
  have Fa : Fits a 4 := Fits_of64 (by omega) (by omega)
  have Fd : Fits (madeD b) 4 := by unfold madeD; split; exact Fits_lt (by decide); exact Fits_of64 (by omega) (by omega)
  have Fb : Fits (4611686018427387904 + (k : Int)) 4 := Fits_of64 (by omega) (by omega)
  have Fk : Fits (k : Int) 4 := Fits_of64 (by omega) (by omega)
  unfold madeQ
  split
  · exact FitQ_low (madeD_ne b) ((Fits_add (Fits_mul (Fits_mul Fa Fb) Fb) Fk (k := 12) (by decide) (by decide)).mono (by decide)) (Fd.mono (by decide))
  · split
    · exact FitQ_low (Int.mul_ne_zero (Int.mul_ne_zero (madeD_ne b) (by omega)) (by omega)) (Fa.mono (by decide)) ((Fits_mul (Fits_mul Fd Fb) Fb).mono (by decide))
    · exact FitQ_low (madeD_ne b) (Fa.mono (by decide)) (Fd.mono (by decide))
set_option maxRecDepth 100000 in
set_option maxHeartbeats 8000000 in
theorem Made_q (a b : Int) (k : Nat)  (w : World)  (ha1 : -128 ≤ a) (ha2 : a ≤ 127) (hb1 : -128 ≤ b) (hb2 : b ≤ 127) (hk : k < 256) :
    Calls Tryz.prog 5 #[.agg #[.int .i8 a, .int .i8 b, .int .u8 ((k : Nat) : Int)]] w (RetP w (madeQ a b k).num (((madeQ a b k).den : Nat) : Int)) := by
 have E := Env.start w
 go_enter Tryz.func5, Tryz.ntmps5
 refine wp_seq ?_
 -- region 0
 refine RL ?_
 refine EF rfl (Oper.wp_box (cs := [.int .i8 a, .int .i8 b, .int .u8 ((k : Nat) : Int)]) rfl rfl ?_)
 intro b1 w1 e1 z1 d1 x1
 have l1 : w.heap.size ≤ b1 := by rw [e1]; exact (E.1).size
 replace E := E.below d1
 clear e1 z1 d1
 replace E := E.x x1
 clear x1
 refine kw rfl ?_
 simp only [q2,q3]
 refine EF rfl (Oper.wp_alloc AgR rfl ?_)
 intro b2 w2 e2 z2 d2 x2
 have l2_0 : b1 < b2 := by rw [e2]; exact Bx.lt (E.1)
 replace E := E.below d2
 clear e2 z2 d2
 refine kw rfl ?_
 simp only [q2,q3]
 refine WN ?_
 change Code.wp _ _ _ _ _
 refine wp_seq ?_
 -- region 1
 replace E := E.x x2
 clear x2
 have hB3_0 : b2 < w2.heap.size := Bx.lt (E.1)
 refine wp_schedF E [.op 0, .op 1, .op 2, .op 4, .op 5, .op 6, .av 8, .av 9, .op 3, .op 7, .op 8, .op 9] 2 (#[true, true, true, true, true, true, true, true, true, true, false, false]) (by kernel_rfl) (by kernel_rfl) (by kernel_rfl) (by kernel_rfl) (by intro d v c a w h; cases d <;> exact h) (by intro d v c a w h; cases d <;> exact h) ?_
 refine FP (v := .pointer (some ⟨b1, 0, none⟩)) rfl rfl rfl rfl rfl (fun w hS => run_fieldW 0 (by decide) rfl rfl) <| FP (v := .int .i8 a) rfl rfl rfl rfl rfl (fun w hS => run_cell rfl isAgg_i8 rfl (hS.2.1) rfl) <| FP (v := .int .i64 a) rfl rfl rfl rfl rfl (fun w hS => run_convI rfl rfl (by rw [Tryz.underlying22]; rfl) Tryz.underlying2 (wrap_i (by omega))) <| FP (v := .pointer (some ⟨b1, 1, none⟩)) rfl rfl rfl rfl rfl (fun w hS => run_fieldW 1 (by decide) rfl rfl) <| ?_
 simp only [q2,q3]
 refine FP (v := .int .i8 b) rfl rfl rfl rfl rfl (fun w hS => run_cell rfl isAgg_i8 rfl (hS.2.1) rfl) <| FP (v := .int .i64 b) rfl rfl rfl rfl rfl (fun w hS => run_convI rfl rfl (by rw [Tryz.underlying22]; rfl) Tryz.underlying2 (wrap_i (by omega))) <| FA _ (RunF.alloc AgI rfl rfl rfl) <| FA _ (RunF.alloc AgI rfl rfl rfl) <| ?_
 simp only [q2,q3]
 clear E
 refine FE rfl rfl rfl rfl ?_
 intro w6 E
 refine Oper.wp_callI fn_eref01_Of rfl (ROf_z a _ (by omega) (by omega)) rfl E ?_
 clear E
 intro w5 n5 s5 d5 E
 refine kF d5 E rfl ?_
 have F4 : Fits a 4 := Fits_of64 (by omega) (by omega)
 simp only [q2,q3]
 clear E
 refine FE rfl rfl rfl rfl ?_
 intro w9 E
 refine Oper.wp_callI fn_eref01_Of rfl (ROf_z b _ (by omega) (by omega)) rfl E ?_
 clear E
 intro w8 n8 s8 d8 E
 refine kF d8 E rfl ?_
 have F7 : Fits b 4 := Fits_of64 (by omega) (by omega)
 simp only [q2,q3]
 refine FF rfl rfl ?_
 intro b10 f10 u10
 have l10_0 : b2 < b10 := by omega
 simp only [q2,q3]
 refine FF rfl rfl ?_
 intro b11 f11 u11
 have l11_0 : b2 < b11 := by omega
 have v11_0 : b11 ≠ b10 := by rintro rfl; exact u11 (by simp)
 simp only [q2,q3]
 clear E
 intro w12 E
 refine H1 (i := 10) (by kernel_rfl) ?_
 have x14 := E.2.1
 replace E := (E.2.2).b (E.1)
 refine HE (o := ⟨none, _, _, _, _, _⟩) rfl rfl (Oper.wp_store AgI rfl rfl rfl x14 rfl rfl (IsI.one (E.2.2.1)) ?_)
 intro w13 o13 y13
 replace E := (E.onl (x14.noW now0) ⟨okB (by omega), trivial, trivial, okX (by omega), okX (by omega), okW (by omega), trivial⟩ o13).b y13
 clear x14 o13 y13
 refine ⟨E.2.2.2.2, ?_⟩
 simp only [Act.put]
 refine H1 (i := 11) (by kernel_rfl) ?_
 have x16 := E.2.1
 replace E := (E.2.2).b (E.1)
 refine HE (o := ⟨none, _, _, _, _, _⟩) rfl rfl (Oper.wp_store AgI rfl rfl rfl x16 rfl rfl (IsI.one (E.2.1)) ?_)
 intro w15 o15 y15
 replace E := (E.onl (x16.noW now0) ⟨okB (by omega), trivial, trivial, okX (by omega), okX (by omega), okW (by omega), trivial⟩ o15).b y15
 clear x16 o15 y15
 refine ⟨E.2.2.2.2, ?_⟩
 simp only [Act.put]
 refine HN (by kernel_rfl) ?_
 change Code.wp _ _ _ _ _
 refine wp_seq ?_
 refine wp_seq ?_
 by_cases h0 : b = 0
 case pos =>
  have hD : madeD b = 1 := if_pos h0
  -- region 2
  refine RL ?_
  refine V rfl rfl (run_fieldW 1 (by decide) rfl rfl) <| V rfl rfl (run_cell rfl isAgg_i8 rfl (e5 E) rfl) <| V rfl rfl (run_eqI (c := true) rfl rfl rfl (by rw [h0]; rfl)) <| ?_
  simp only [q2,q3]
  refine WN ?_
  change Code.wp _ _ _ _ _
  refine wp_cond_true rfl ?_
  -- region 3
  refine RL ?_
  refine EF rfl (Oper.wp_callI fn_eref01_Of rfl (ROf_z 1 _ (by decide) (by decide)) rfl E ?_)
  clear E
  intro w17 n17 s17 d17 E
  clear d17
  refine kw rfl ?_
  have x19 := E.2.1
  replace E := (E.2.2).i (E.1)
  simp only [q2,q3]
  refine EF rfl (Oper.wp_store AgI rfl rfl rfl x19 rfl rfl (IsI.one (E.1)) ?_)
  intro w18 o18 y18
  replace E := (E.onl (x19.noW (IsI.now (E.2.2.1))) ⟨trivial, okB (by omega), trivial, trivial, okX (by omega), okX (by omega), okW (by omega), trivial⟩ o18).b y18
  clear x19 o18 y18
  refine kn rfl ?_
  refine WN ?_
  change Code.wp _ _ _ _ _
  refine wp_seq ?_
  -- region 4
  refine RL ?_
  refine V rfl rfl (run_fieldW 2 (by decide) rfl rfl) <| V rfl rfl (run_cell rfl isAgg_u8q rfl (e6 E) rfl) <| V (v := .int .i64 ((k : Nat) : Int)) rfl rfl (run_convI rfl rfl (by rw [Tryz.underlying5]; rfl) Tryz.underlying2 (wrap_i (by omega))) <| V (v := .int .i64 (4611686018427387904 + ((k : Nat) : Int))) rfl rfl (run_addI rfl rfl rfl (wrap_i (by omega))) <| ?_
  simp only [q2,q3]
  refine EF rfl (Oper.wp_callI fn_eref01_Of rfl (ROf_z (4611686018427387904 + ((k : Nat) : Int)) _ (by omega) (by omega)) rfl E ?_)
  clear E
  intro w21 n21 s21 d21 E
  clear d21
  refine kw rfl ?_
  have F20 : Fits (4611686018427387904 + ((k : Nat) : Int)) 4 := Fits_of64 (by omega) (by omega)
  simp only [q2,q3]
  refine EF rfl (Oper.wp_alloc AgI rfl ?_)
  intro b22 w22 e22 z22 d22 x22
  have l22_0 : b11 < b22 := by rw [e22]; exact Bx.lt (E.2.1)
  have l22_1 : b10 < b22 := by rw [e22]; exact Bx.lt (e3 E)
  replace E := E.below d22
  clear e22 z22 d22
  refine kw rfl ?_
  simp only [q2,q3]
  refine EF rfl (Oper.wp_store AgI rfl rfl rfl x22 rfl rfl (IsI.one (E.1)) ?_)
  intro w23 o23 y23
  replace E := (E.onl (x22.noW now0) ⟨trivial, okB (by omega), trivial, okB (by omega), trivial, trivial, okX (by omega), okX (by omega), okW (by omega), trivial⟩ o23).b y23
  clear x22 o23 y23
  refine kn rfl ?_
  refine WN ?_
  change Code.wp _ _ _ _ _
  refine wp_seq ?_
  refine wp_seq ?_
  by_cases h7 : k % 8 = 7
  case pos =>
   -- region 5
   refine RL ?_
   refine V rfl rfl (run_fieldW 2 (by decide) rfl rfl) <| V rfl rfl (run_cell rfl isAgg_u8q rfl (e8 E) rfl) <| V (v := .int .u8 ((k % 8 : Nat) : Int)) rfl rfl (run_remI rfl rfl rfl (by decide) (tmod8 k)) <| V rfl rfl (run_eqI (c := true) rfl rfl rfl (by rw [h7]; rfl)) <| ?_
   simp only [q2,q3]
   refine WN ?_
   change Code.wp _ _ _ _ _
   refine wp_cond_true rfl ?_
   -- region 6
   refine wp_schedB (l2 := [fB b22 n21 s21, fI (.agg #[.bool n21, s21]) (4611686018427387904 + ((k : Nat) : Int)), fB b11 n17 s17, fI (.agg #[.bool n17, s17]) 1, fI (.agg #[.bool n8, s8]) b, fI (.agg #[.bool n5, s5]) a, fX b2 (31) ([.bool false, .slice none 0 0, .bool false, .slice none 0 0]), fX b1 (24) ([.int .i8 a, .int .i8 b, .int .u8 ((k : Nat) : Int)]), fW w]) E (fun w E => (Env.b (Env.i (Env.b (Env.i (Env.i (Env.i (Env.x (Env.x (Env.ww (Env.nil _) (e9 E)) (e8 E)) (e7 E)) (e6 E)) (e5 E)) (e3 E)) (E.2.2.1)) (E.2.1)) (E.1))) ([10]) ([0, 1, 3, 5, 6, 7, 2, 4, 8, 9, 10]) (by kernel_rfl) (by kernel_rfl) (by kernel_rfl) (by kernel_rfl) (by intro d v c a w h; cases d <;> exact h) ?_
   replace E := E.drew
   refine SP (o := ⟨some 27, _, _, _, _, _⟩) (v := .agg #[.bool n5, s5]) rfl rfl rfl rfl (fun w hS => run_load_bx AgI rfl rfl (e4 hS) rfl) ?_
   simp only [Act.put,q1,q2,q3]
   refine SP (o := ⟨some 28, _, _, _, _, _⟩) (v := .agg #[.bool n21, s21]) rfl rfl rfl rfl (fun w hS => run_load_bx AgI rfl rfl (hS.1) rfl) ?_
   simp only [Act.put,q1,q2,q3]
   refine SP (o := ⟨some 30, _, _, _, _, _⟩) (v := .agg #[.bool n21, s21]) rfl rfl rfl rfl (fun w hS => run_load_bx AgI rfl rfl (hS.1) rfl) ?_
   simp only [Act.put,q1,q2,q3]
   refine SP (o := ⟨some 32, _, _, _, _, _⟩) (v := .pointer (some ⟨b1, 2, none⟩)) rfl rfl rfl rfl (fun w hS => run_fieldW 2 (by decide) rfl rfl) ?_
   simp only [Act.put,q1,q2,q3]
   refine SP (o := ⟨some 33, _, _, _, _, _⟩) (v := .int .u8 ((k : Nat) : Int)) rfl rfl rfl rfl (fun w hS => run_cell rfl isAgg_u8q rfl (e8 hS) rfl) ?_
   simp only [Act.put,q1,q2,q3]
   refine SP (o := ⟨some 34, _, _, _, _, _⟩) (v := .int .i64 ((k : Nat) : Int)) rfl rfl rfl rfl (fun w hS => run_convI rfl rfl (by rw [Tryz.underlying5]; rfl) Tryz.underlying2 (wrap_i (by omega))) ?_
   simp only [Act.put,q1,q2,q3]
   refine S1a (o := ⟨some 29, _, _, _, _, _⟩) rfl rfl rfl rfl (Oper.wp_callI fn_eref01_Mul rfl (RMul_z _ a _ (4611686018427387904 + ((k : Nat) : Int)) _ (e6 E) (E.2.1) (Fits.mono F4 (by decide)) (Fits.mono F20 (by decide))) rfl E ?_)
   clear E
   intro w25 n25 s25 d25 E
   clear d25
   refine ⟨E.2, ?_⟩
   simp only [Act.put,q1,q2,q3]
   have F24 : Fits (a * (4611686018427387904 + ((k : Nat) : Int))) 8 := Fits_mul F4 F20
   refine S1a (o := ⟨some 31, _, _, _, _, _⟩) rfl rfl rfl rfl (Oper.wp_callI fn_eref01_Mul rfl (RMul_z _ (a * (4611686018427387904 + ((k : Nat) : Int))) _ (4611686018427387904 + ((k : Nat) : Int)) _ (E.1) (E.2.2.1) (Fits.mono F24 (by decide)) (Fits.mono F20 (by decide))) rfl E ?_)
   clear E
   intro w27 n27 s27 d27 E
   clear d27
   refine ⟨E.2.2, ?_⟩
   simp only [Act.put,q1,q2,q3]
   have F26 : Fits ((a * (4611686018427387904 + ((k : Nat) : Int))) * (4611686018427387904 + ((k : Nat) : Int))) 12 := Fits_mul F24 F20
   refine S1a (o := ⟨some 35, _, _, _, _, _⟩) rfl rfl rfl rfl (Oper.wp_callI fn_eref01_Of rfl (ROf_z ((k : Nat) : Int) _ (by omega) (by omega)) rfl E ?_)
   clear E
   intro w29 n29 s29 d29 E
   clear d29
   refine ⟨E.2.2.2, ?_⟩
   simp only [Act.put,q1,q2,q3]
   have F28 : Fits ((k : Nat) : Int) 4 := Fits_of64 (by omega) (by omega)
   refine S1a (o := ⟨some 36, _, _, _, _, _⟩) rfl rfl rfl rfl (Oper.wp_callI fn_eref01_Add rfl (RAdd_z _ ((a * (4611686018427387904 + ((k : Nat) : Int))) * (4611686018427387904 + ((k : Nat) : Int))) _ ((k : Nat) : Int) _ (E.2.1) (E.1) (Fits.mono F26 (by decide)) (Fits.mono F28 (by decide))) rfl E ?_)
   clear E
   intro w31 n31 s31 d31 E
   clear d31
   refine ⟨E.2.2.2.2, ?_⟩
   simp only [Act.put,q1,q2,q3]
   have F30 : Fits (((a * (4611686018427387904 + ((k : Nat) : Int))) * (4611686018427387904 + ((k : Nat) : Int))) + ((k : Nat) : Int)) 13 := Fits_add F26 F28 (k := 12) (by decide) (by decide)
   have x32 := e8 E
   replace E := (Env.i (Env.i (Env.i (Env.i (Env.b (Env.i (Env.b (Env.i (Env.i (Env.i (Env.x (Env.x (Env.ww (Env.nil _) (e13 E)) (e12 E)) (e11 E)) (e10 E)) (e9 E)) (e7 E)) (e6 E)) (e5 E)) (e4 E)) (e3 E)) (E.2.2.1)) (E.2.1)) (E.1))
   refine S1b (o := ⟨none, _, _, _, _, _⟩) rfl rfl rfl rfl (Oper.wp_store AgI rfl rfl rfl x32 rfl rfl (IsI.one (E.1)) ?_)
   intro w33 o33 y33
   replace E := (E.onl (x32.noW (IsI.now (e9 E))) ⟨trivial, trivial, trivial, trivial, okB (by omega), trivial, okB (by omega), trivial, trivial, trivial, okX (by omega), okX (by omega), okW (by omega), trivial⟩ o33).b y33
   clear x32 o33 y33
   refine ⟨E.2.2.2.2.2, ?_⟩
   simp only [Act.put]
   refine SN ?_
   change Code.wp _ _ _ _ _
   refine wp_seq ?_
   refine wp_seq ?_
   -- region 7
   refine RL ?_
   refine V rfl rfl (run_fieldW 2 (by decide) rfl rfl) <| V rfl rfl (run_cell rfl isAgg_u8q rfl (e12 E) rfl) <| V (v := .int .u8 ((k % 8 : Nat) : Int)) rfl rfl (run_remI rfl rfl rfl (by decide) (tmod8 k)) <| V rfl rfl (run_eqI (c := false) rfl rfl rfl (by rw [h7]; rfl)) <| ?_
   simp only [q2,q3]
   refine WN ?_
   change Code.wp _ _ _ _ _
   refine wp_cond_false rfl ?_
   refine wp_skip ?_
   change Code.wp _ _ _ _ _
   refine wp_seq ?_
   -- region 9
   refine RL ?_
   refine V rfl rfl (run_load_bx AgI rfl rfl (E.1) rfl) <| V rfl rfl (run_load_bx AgI rfl rfl (e7 E) rfl) <| ?_
   simp only [q2,q3]
   refine EF rfl (Oper.wp_callP fn_eref02_lowest rfl (Rlowest_z _ (((a * (4611686018427387904 + ((k : Nat) : Int))) * (4611686018427387904 + ((k : Nat) : Int))) + ((k : Nat) : Int)) _ 1 _ (E.2.1) (e8 E) (by omega) (Fits.mono F30 (by decide)) (Fits.mono (Fits_lt (m := 4) (by decide) : Fits 1 4) (by decide))) rfl E ?_)
   clear E
   intro w35 n35 s35 m35 t35 d35 E
   clear d35
   refine kw rfl ?_
   have F34 : FitQ (Rat.divInt (((a * (4611686018427387904 + ((k : Nat) : Int))) * (4611686018427387904 + ((k : Nat) : Int))) + ((k : Nat) : Int)) 1) 13 := FitQ_low (k := 13) (by omega) (Fits.mono F30 (by decide)) (Fits.mono (Fits_lt (m := 4) (by decide) : Fits 1 4) (by decide))
   have x37 := e13 E
   replace E := (((((((((((((E.2.2.2.2.2.2.2.2.2.2.2.2.2.2).i (e12 E)).i (e11 E)).i (e10 E)).b (e9 E)).i (e8 E)).b (e7 E)).i (e6 E)).i (e5 E)).i (e4 E)).i (e3 E)).b (E.2.2.1)).i (E.2.1)).i (E.1)
   simp only [q2,q3]
   refine EF rfl (Oper.wp_store AgR rfl rfl rfl x37 rfl rfl (one4 (IsI.one (E.2.1)) (IsI.one (E.1))) ?_)
   intro w36 o36 y36
   replace E := (E.onl (x37.noW (now4 now0 now0)) ⟨trivial, trivial, okB (by omega), trivial, trivial, trivial, trivial, okB (by omega), trivial, okB (by omega), trivial, trivial, trivial, okX (by omega), okW (by omega), trivial⟩ o36).x y36
   clear x37 o36 y36
   refine kn rfl ?_
   refine WN ?_
   change Code.wp _ _ _ _ _
   refine wp_ret ?_
   have r38 := res_box AgR (E.1) rfl
   exact bodyPost_ret (v := .agg #[.bool n35, s35, .bool m35, t35]) (by simp [results, Tryz.results5, asAddr, r38]) rfl ⟨_, _, _, _, rfl, eqZ (congrArg Rat.num (by unfold madeQ; rw [hD, if_pos h7] : (Rat.divInt (((a * (4611686018427387904 + ((k : Nat) : Int))) * (4611686018427387904 + ((k : Nat) : Int))) + ((k : Nat) : Int)) 1) = madeQ a b k)) (E.2.2.1), eqZ (congrArg (fun z => ((Rat.den z : Nat) : Int)) (by unfold madeQ; rw [hD, if_pos h7] : (Rat.divInt (((a * (4611686018427387904 + ((k : Nat) : Int))) * (4611686018427387904 + ((k : Nat) : Int))) + ((k : Nat) : Int)) 1) = madeQ a b k)) (E.2.1), e15 E⟩
  case neg =>
   by_cases h6 : k % 8 = 6
   case pos =>
    -- region 5
    refine RL ?_
    refine V rfl rfl (run_fieldW 2 (by decide) rfl rfl) <| V rfl rfl (run_cell rfl isAgg_u8q rfl (e8 E) rfl) <| V (v := .int .u8 ((k % 8 : Nat) : Int)) rfl rfl (run_remI rfl rfl rfl (by decide) (tmod8 k)) <| V rfl rfl (run_eqI (c := false) rfl rfl rfl (by rw [beq_eq_false_iff_ne]; omega)) <| ?_
    simp only [q2,q3]
    refine WN ?_
    change Code.wp _ _ _ _ _
    refine wp_cond_false rfl ?_
    refine wp_skip ?_
    change Code.wp _ _ _ _ _
    refine wp_seq ?_
    refine wp_seq ?_
    -- region 7
    refine RL ?_
    refine V rfl rfl (run_fieldW 2 (by decide) rfl rfl) <| V rfl rfl (run_cell rfl isAgg_u8q rfl (e8 E) rfl) <| V (v := .int .u8 ((k % 8 : Nat) : Int)) rfl rfl (run_remI rfl rfl rfl (by decide) (tmod8 k)) <| V rfl rfl (run_eqI (c := true) rfl rfl rfl (by rw [h6]; rfl)) <| ?_
    simp only [q2,q3]
    refine WN ?_
    change Code.wp _ _ _ _ _
    refine wp_cond_true rfl ?_
    -- region 8
    refine wp_schedB (l2 := [fB b22 n21 s21, fI (.agg #[.bool n21, s21]) (4611686018427387904 + ((k : Nat) : Int)), fI (.agg #[.bool n17, s17]) 1, fB b10 n5 s5, fI (.agg #[.bool n8, s8]) b, fI (.agg #[.bool n5, s5]) a, fX b2 (31) ([.bool false, .slice none 0 0, .bool false, .slice none 0 0]), fX b1 (24) ([.int .i8 a, .int .i8 b, .int .u8 ((k : Nat) : Int)]), fW w]) E (fun w E => (Env.b (Env.i (Env.i (Env.b (Env.i (Env.i (Env.x (Env.x (Env.ww (Env.nil _) (e9 E)) (e8 E)) (e7 E)) (e6 E)) (e5 E)) (e4 E)) (e3 E)) (E.2.1)) (E.1))) ([5]) ([0, 1, 3, 2, 4, 5]) (by kernel_rfl) (by kernel_rfl) (by kernel_rfl) (by kernel_rfl) (by intro d v c a w h; cases d <;> exact h) ?_
    replace E := E.drew
    refine SP (o := ⟨some 41, _, _, _, _, _⟩) (v := .agg #[.bool n17, s17]) rfl rfl rfl rfl (fun w hS => run_load_bx AgI rfl rfl (hS.2.2.1) rfl) ?_
    simp only [Act.put,q1,q2,q3]
    refine SP (o := ⟨some 42, _, _, _, _, _⟩) (v := .agg #[.bool n21, s21]) rfl rfl rfl rfl (fun w hS => run_load_bx AgI rfl rfl (hS.1) rfl) ?_
    simp only [Act.put,q1,q2,q3]
    refine SP (o := ⟨some 44, _, _, _, _, _⟩) (v := .agg #[.bool n21, s21]) rfl rfl rfl rfl (fun w hS => run_load_bx AgI rfl rfl (hS.1) rfl) ?_
    simp only [Act.put,q1,q2,q3]
    refine S1a (o := ⟨some 43, _, _, _, _, _⟩) rfl rfl rfl rfl (Oper.wp_callI fn_eref01_Mul rfl (RMul_z _ 1 _ (4611686018427387904 + ((k : Nat) : Int)) _ (e3 E) (E.2.1) (Fits.mono (Fits_lt (m := 4) (by decide) : Fits 1 4) (by decide)) (Fits.mono F20 (by decide))) rfl E ?_)
    clear E
    intro w40 n40 s40 d40 E
    clear d40
    refine ⟨E.2, ?_⟩
    simp only [Act.put,q1,q2,q3]
    have F39 : Fits (1 * (4611686018427387904 + ((k : Nat) : Int))) 8 := Fits_mul (Fits_lt (m := 4) (by decide) : Fits 1 4) F20
    refine S1a (o := ⟨some 45, _, _, _, _, _⟩) rfl rfl rfl rfl (Oper.wp_callI fn_eref01_Mul rfl (RMul_z _ (1 * (4611686018427387904 + ((k : Nat) : Int))) _ (4611686018427387904 + ((k : Nat) : Int)) _ (E.1) (E.2.2.1) (Fits.mono F39 (by decide)) (Fits.mono F20 (by decide))) rfl E ?_)
    clear E
    intro w42 n42 s42 d42 E
    clear d42
    refine ⟨E.2.2, ?_⟩
    simp only [Act.put,q1,q2,q3]
    have F41 : Fits ((1 * (4611686018427387904 + ((k : Nat) : Int))) * (4611686018427387904 + ((k : Nat) : Int))) 12 := Fits_mul F39 F20
    have x43 := e4 E
    replace E := (Env.i (Env.i (Env.b (Env.i (Env.i (Env.b (Env.i (Env.i (Env.x (Env.x (Env.ww (Env.nil _) (e11 E)) (e10 E)) (e9 E)) (e8 E)) (e7 E)) (e6 E)) (e5 E)) (e3 E)) (E.2.2.1)) (E.2.1)) (E.1))
    refine S1b (o := ⟨none, _, _, _, _, _⟩) rfl rfl rfl rfl (Oper.wp_store AgI rfl rfl rfl x43 rfl rfl (IsI.one (E.1)) ?_)
    intro w44 o44 y44
    replace E := (E.onl (x43.noW (IsI.now (e4 E))) ⟨trivial, trivial, okB (by omega), trivial, trivial, okB (by omega), trivial, trivial, okX (by omega), okX (by omega), okW (by omega), trivial⟩ o44).b y44
    clear x43 o44 y44
    refine ⟨E.2.2.2, ?_⟩
    simp only [Act.put]
    refine SN ?_
    change Code.wp _ _ _ _ _
    refine wp_seq ?_
    -- region 9
    refine RL ?_
    refine V rfl rfl (run_load_bx AgI rfl rfl (e6 E) rfl) <| V rfl rfl (run_load_bx AgI rfl rfl (E.1) rfl) <| ?_
    simp only [q2,q3]
    refine EF rfl (Oper.wp_callP fn_eref02_lowest rfl (Rlowest_z _ a _ ((1 * (4611686018427387904 + ((k : Nat) : Int))) * (4611686018427387904 + ((k : Nat) : Int))) _ (e8 E) (E.2.1) (Int.mul_ne_zero (Int.mul_ne_zero (by decide) (by omega)) (by omega)) (Fits.mono F4 (by decide)) (Fits.mono F41 (by decide))) rfl E ?_)
    clear E
    intro w46 n46 s46 m46 t46 d46 E
    clear d46
    refine kw rfl ?_
    have F45 : FitQ (Rat.divInt a ((1 * (4611686018427387904 + ((k : Nat) : Int))) * (4611686018427387904 + ((k : Nat) : Int)))) 12 := FitQ_low (k := 12) (Int.mul_ne_zero (Int.mul_ne_zero (by decide) (by omega)) (by omega)) (Fits.mono F4 (by decide)) (Fits.mono F41 (by decide))
    have x48 := e11 E
    replace E := (((((((((((E.2.2.2.2.2.2.2.2.2.2.2.2).i (e10 E)).i (e9 E)).b (e8 E)).i (e7 E)).i (e6 E)).b (e5 E)).i (e4 E)).i (e3 E)).b (E.2.2.1)).i (E.2.1)).i (E.1)
    simp only [q2,q3]
    refine EF rfl (Oper.wp_store AgR rfl rfl rfl x48 rfl rfl (one4 (IsI.one (E.2.1)) (IsI.one (E.1))) ?_)
    intro w47 o47 y47
    replace E := (E.onl (x48.noW (now4 now0 now0)) ⟨trivial, trivial, okB (by omega), trivial, trivial, okB (by omega), trivial, trivial, okB (by omega), trivial, trivial, okX (by omega), okW (by omega), trivial⟩ o47).x y47
    clear x48 o47 y47
    refine kn rfl ?_
    refine WN ?_
    change Code.wp _ _ _ _ _
    refine wp_ret ?_
    have r49 := res_box AgR (E.1) rfl
    exact bodyPost_ret (v := .agg #[.bool n46, s46, .bool m46, t46]) (by simp [results, Tryz.results5, asAddr, r49]) rfl ⟨_, _, _, _, rfl, eqZ (congrArg Rat.num (by unfold madeQ; rw [hD, if_neg h7, if_pos h6] : (Rat.divInt a ((1 * (4611686018427387904 + ((k : Nat) : Int))) * (4611686018427387904 + ((k : Nat) : Int)))) = madeQ a b k)) (E.2.2.1), eqZ (congrArg (fun z => ((Rat.den z : Nat) : Int)) (by unfold madeQ; rw [hD, if_neg h7, if_pos h6] : (Rat.divInt a ((1 * (4611686018427387904 + ((k : Nat) : Int))) * (4611686018427387904 + ((k : Nat) : Int)))) = madeQ a b k)) (E.2.1), e13 E⟩
   case neg =>
    -- region 5
    refine RL ?_
    refine V rfl rfl (run_fieldW 2 (by decide) rfl rfl) <| V rfl rfl (run_cell rfl isAgg_u8q rfl (e8 E) rfl) <| V (v := .int .u8 ((k % 8 : Nat) : Int)) rfl rfl (run_remI rfl rfl rfl (by decide) (tmod8 k)) <| V rfl rfl (run_eqI (c := false) rfl rfl rfl (by rw [beq_eq_false_iff_ne]; omega)) <| ?_
    simp only [q2,q3]
    refine WN ?_
    change Code.wp _ _ _ _ _
    refine wp_cond_false rfl ?_
    refine wp_skip ?_
    change Code.wp _ _ _ _ _
    refine wp_seq ?_
    refine wp_seq ?_
    -- region 7
    refine RL ?_
    refine V rfl rfl (run_fieldW 2 (by decide) rfl rfl) <| V rfl rfl (run_cell rfl isAgg_u8q rfl (e8 E) rfl) <| V (v := .int .u8 ((k % 8 : Nat) : Int)) rfl rfl (run_remI rfl rfl rfl (by decide) (tmod8 k)) <| V rfl rfl (run_eqI (c := false) rfl rfl rfl (by rw [beq_eq_false_iff_ne]; omega)) <| ?_
    simp only [q2,q3]
    refine WN ?_
    change Code.wp _ _ _ _ _
    refine wp_cond_false rfl ?_
    refine wp_skip ?_
    change Code.wp _ _ _ _ _
    refine wp_seq ?_
    -- region 9
    refine RL ?_
    refine V rfl rfl (run_load_bx AgI rfl rfl (e4 E) rfl) <| V rfl rfl (run_load_bx AgI rfl rfl (E.2.2.1) rfl) <| ?_
    simp only [q2,q3]
    refine EF rfl (Oper.wp_callP fn_eref02_lowest rfl (Rlowest_z _ a _ 1 _ (e6 E) (e3 E) (by omega) (Fits.mono F4 (by decide)) (Fits.mono (Fits_lt (m := 4) (by decide) : Fits 1 4) (by decide))) rfl E ?_)
    clear E
    intro w51 n51 s51 m51 t51 d51 E
    clear d51
    refine kw rfl ?_
    have F50 : FitQ (Rat.divInt a 1) 4 := FitQ_low (k := 4) (by omega) (Fits.mono F4 (by decide)) (Fits.mono (Fits_lt (m := 4) (by decide) : Fits 1 4) (by decide))
    have x53 := e9 E
    replace E := (((((((((E.2.2.2.2.2.2.2.2.2.2).i (e8 E)).i (e7 E)).b (e6 E)).i (e5 E)).b (e4 E)).i (e3 E)).b (E.2.2.1)).i (E.2.1)).i (E.1)
    simp only [q2,q3]
    refine EF rfl (Oper.wp_store AgR rfl rfl rfl x53 rfl rfl (one4 (IsI.one (E.2.1)) (IsI.one (E.1))) ?_)
    intro w52 o52 y52
    replace E := (E.onl (x53.noW (now4 now0 now0)) ⟨trivial, trivial, okB (by omega), trivial, okB (by omega), trivial, okB (by omega), trivial, trivial, okX (by omega), okW (by omega), trivial⟩ o52).x y52
    clear x53 o52 y52
    refine kn rfl ?_
    refine WN ?_
    change Code.wp _ _ _ _ _
    refine wp_ret ?_
    have r54 := res_box AgR (E.1) rfl
    exact bodyPost_ret (v := .agg #[.bool n51, s51, .bool m51, t51]) (by simp [results, Tryz.results5, asAddr, r54]) rfl ⟨_, _, _, _, rfl, eqZ (congrArg Rat.num (by unfold madeQ; rw [hD, if_neg h7, if_neg h6] : (Rat.divInt a 1) = madeQ a b k)) (E.2.2.1), eqZ (congrArg (fun z => ((Rat.den z : Nat) : Int)) (by unfold madeQ; rw [hD, if_neg h7, if_neg h6] : (Rat.divInt a 1) = madeQ a b k)) (E.2.1), e11 E⟩
 case neg =>
  have hD : madeD b = b := if_neg h0
  -- region 2
  refine RL ?_
  refine V rfl rfl (run_fieldW 1 (by decide) rfl rfl) <| V rfl rfl (run_cell rfl isAgg_i8 rfl (e5 E) rfl) <| V rfl rfl (run_eqI (c := false) rfl rfl rfl (beq_eq_false_iff_ne.2 h0)) <| ?_
  simp only [q2,q3]
  refine WN ?_
  change Code.wp _ _ _ _ _
  refine wp_cond_false rfl ?_
  refine wp_skip ?_
  change Code.wp _ _ _ _ _
  refine wp_seq ?_
  -- region 4
  refine RL ?_
  refine V rfl rfl (run_fieldW 2 (by decide) rfl rfl) <| V rfl rfl (run_cell rfl isAgg_u8q rfl (e5 E) rfl) <| V (v := .int .i64 ((k : Nat) : Int)) rfl rfl (run_convI rfl rfl (by rw [Tryz.underlying5]; rfl) Tryz.underlying2 (wrap_i (by omega))) <| V (v := .int .i64 (4611686018427387904 + ((k : Nat) : Int))) rfl rfl (run_addI rfl rfl rfl (wrap_i (by omega))) <| ?_
  simp only [q2,q3]
  refine EF rfl (Oper.wp_callI fn_eref01_Of rfl (ROf_z (4611686018427387904 + ((k : Nat) : Int)) _ (by omega) (by omega)) rfl E ?_)
  clear E
  intro w56 n56 s56 d56 E
  clear d56
  refine kw rfl ?_
  have F55 : Fits (4611686018427387904 + ((k : Nat) : Int)) 4 := Fits_of64 (by omega) (by omega)
  simp only [q2,q3]
  refine EF rfl (Oper.wp_alloc AgI rfl ?_)
  intro b57 w57 e57 z57 d57 x57
  have l57_0 : b11 < b57 := by rw [e57]; exact Bx.lt (E.2.1)
  have l57_1 : b10 < b57 := by rw [e57]; exact Bx.lt (E.2.2.1)
  replace E := E.below d57
  clear e57 z57 d57
  refine kw rfl ?_
  simp only [q2,q3]
  refine EF rfl (Oper.wp_store AgI rfl rfl rfl x57 rfl rfl (IsI.one (E.1)) ?_)
  intro w58 o58 y58
  replace E := (E.onl (x57.noW now0) ⟨trivial, okB (by omega), okB (by omega), trivial, trivial, okX (by omega), okX (by omega), okW (by omega), trivial⟩ o58).b y58
  clear x57 o58 y58
  refine kn rfl ?_
  refine WN ?_
  change Code.wp _ _ _ _ _
  refine wp_seq ?_
  refine wp_seq ?_
  by_cases h7 : k % 8 = 7
  case pos =>
   -- region 5
   refine RL ?_
   refine V rfl rfl (run_fieldW 2 (by decide) rfl rfl) <| V rfl rfl (run_cell rfl isAgg_u8q rfl (e7 E) rfl) <| V (v := .int .u8 ((k % 8 : Nat) : Int)) rfl rfl (run_remI rfl rfl rfl (by decide) (tmod8 k)) <| V rfl rfl (run_eqI (c := true) rfl rfl rfl (by rw [h7]; rfl)) <| ?_
   simp only [q2,q3]
   refine WN ?_
   change Code.wp _ _ _ _ _
   refine wp_cond_true rfl ?_
   -- region 6
   refine wp_schedB (l2 := [fB b57 n56 s56, fI (.agg #[.bool n56, s56]) (4611686018427387904 + ((k : Nat) : Int)), fB b11 n8 s8, fI (.agg #[.bool n8, s8]) b, fI (.agg #[.bool n5, s5]) a, fX b2 (31) ([.bool false, .slice none 0 0, .bool false, .slice none 0 0]), fX b1 (24) ([.int .i8 a, .int .i8 b, .int .u8 ((k : Nat) : Int)]), fW w]) E (fun w E => (Env.b (Env.i (Env.b (Env.i (Env.i (Env.x (Env.x (Env.ww (Env.nil _) (e8 E)) (e7 E)) (e6 E)) (e5 E)) (e4 E)) (E.2.2.1)) (E.2.1)) (E.1))) ([10]) ([0, 1, 3, 5, 6, 7, 2, 4, 8, 9, 10]) (by kernel_rfl) (by kernel_rfl) (by kernel_rfl) (by kernel_rfl) (by intro d v c a w h; cases d <;> exact h) ?_
   replace E := E.drew
   refine SP (o := ⟨some 27, _, _, _, _, _⟩) (v := .agg #[.bool n5, s5]) rfl rfl rfl rfl (fun w hS => run_load_bx AgI rfl rfl (e3 hS) rfl) ?_
   simp only [Act.put,q1,q2,q3]
   refine SP (o := ⟨some 28, _, _, _, _, _⟩) (v := .agg #[.bool n56, s56]) rfl rfl rfl rfl (fun w hS => run_load_bx AgI rfl rfl (hS.1) rfl) ?_
   simp only [Act.put,q1,q2,q3]
   refine SP (o := ⟨some 30, _, _, _, _, _⟩) (v := .agg #[.bool n56, s56]) rfl rfl rfl rfl (fun w hS => run_load_bx AgI rfl rfl (hS.1) rfl) ?_
   simp only [Act.put,q1,q2,q3]
   refine SP (o := ⟨some 32, _, _, _, _, _⟩) (v := .pointer (some ⟨b1, 2, none⟩)) rfl rfl rfl rfl (fun w hS => run_fieldW 2 (by decide) rfl rfl) ?_
   simp only [Act.put,q1,q2,q3]
   refine SP (o := ⟨some 33, _, _, _, _, _⟩) (v := .int .u8 ((k : Nat) : Int)) rfl rfl rfl rfl (fun w hS => run_cell rfl isAgg_u8q rfl (e7 hS) rfl) ?_
   simp only [Act.put,q1,q2,q3]
   refine SP (o := ⟨some 34, _, _, _, _, _⟩) (v := .int .i64 ((k : Nat) : Int)) rfl rfl rfl rfl (fun w hS => run_convI rfl rfl (by rw [Tryz.underlying5]; rfl) Tryz.underlying2 (wrap_i (by omega))) ?_
   simp only [Act.put,q1,q2,q3]
   refine S1a (o := ⟨some 29, _, _, _, _, _⟩) rfl rfl rfl rfl (Oper.wp_callI fn_eref01_Mul rfl (RMul_z _ a _ (4611686018427387904 + ((k : Nat) : Int)) _ (e5 E) (E.2.1) (Fits.mono F4 (by decide)) (Fits.mono F55 (by decide))) rfl E ?_)
   clear E
   intro w60 n60 s60 d60 E
   clear d60
   refine ⟨E.2, ?_⟩
   simp only [Act.put,q1,q2,q3]
   have F59 : Fits (a * (4611686018427387904 + ((k : Nat) : Int))) 8 := Fits_mul F4 F55
   refine S1a (o := ⟨some 31, _, _, _, _, _⟩) rfl rfl rfl rfl (Oper.wp_callI fn_eref01_Mul rfl (RMul_z _ (a * (4611686018427387904 + ((k : Nat) : Int))) _ (4611686018427387904 + ((k : Nat) : Int)) _ (E.1) (E.2.2.1) (Fits.mono F59 (by decide)) (Fits.mono F55 (by decide))) rfl E ?_)
   clear E
   intro w62 n62 s62 d62 E
   clear d62
   refine ⟨E.2.2, ?_⟩
   simp only [Act.put,q1,q2,q3]
   have F61 : Fits ((a * (4611686018427387904 + ((k : Nat) : Int))) * (4611686018427387904 + ((k : Nat) : Int))) 12 := Fits_mul F59 F55
   refine S1a (o := ⟨some 35, _, _, _, _, _⟩) rfl rfl rfl rfl (Oper.wp_callI fn_eref01_Of rfl (ROf_z ((k : Nat) : Int) _ (by omega) (by omega)) rfl E ?_)
   clear E
   intro w64 n64 s64 d64 E
   clear d64
   refine ⟨E.2.2.2, ?_⟩
   simp only [Act.put,q1,q2,q3]
   have F63 : Fits ((k : Nat) : Int) 4 := Fits_of64 (by omega) (by omega)
   refine S1a (o := ⟨some 36, _, _, _, _, _⟩) rfl rfl rfl rfl (Oper.wp_callI fn_eref01_Add rfl (RAdd_z _ ((a * (4611686018427387904 + ((k : Nat) : Int))) * (4611686018427387904 + ((k : Nat) : Int))) _ ((k : Nat) : Int) _ (E.2.1) (E.1) (Fits.mono F61 (by decide)) (Fits.mono F63 (by decide))) rfl E ?_)
   clear E
   intro w66 n66 s66 d66 E
   clear d66
   refine ⟨E.2.2.2.2, ?_⟩
   simp only [Act.put,q1,q2,q3]
   have F65 : Fits (((a * (4611686018427387904 + ((k : Nat) : Int))) * (4611686018427387904 + ((k : Nat) : Int))) + ((k : Nat) : Int)) 13 := Fits_add F61 F63 (k := 12) (by decide) (by decide)
   have x67 := e7 E
   replace E := (Env.i (Env.i (Env.i (Env.i (Env.b (Env.i (Env.b (Env.i (Env.i (Env.x (Env.x (Env.ww (Env.nil _) (e12 E)) (e11 E)) (e10 E)) (e9 E)) (e8 E)) (e6 E)) (e5 E)) (e4 E)) (e3 E)) (E.2.2.1)) (E.2.1)) (E.1))
   refine S1b (o := ⟨none, _, _, _, _, _⟩) rfl rfl rfl rfl (Oper.wp_store AgI rfl rfl rfl x67 rfl rfl (IsI.one (E.1)) ?_)
   intro w68 o68 y68
   replace E := (E.onl (x67.noW (IsI.now (e8 E))) ⟨trivial, trivial, trivial, trivial, okB (by omega), trivial, okB (by omega), trivial, trivial, okX (by omega), okX (by omega), okW (by omega), trivial⟩ o68).b y68
   clear x67 o68 y68
   refine ⟨E.2.2.2.2.2, ?_⟩
   simp only [Act.put]
   refine SN ?_
   change Code.wp _ _ _ _ _
   refine wp_seq ?_
   refine wp_seq ?_
   -- region 7
   refine RL ?_
   refine V rfl rfl (run_fieldW 2 (by decide) rfl rfl) <| V rfl rfl (run_cell rfl isAgg_u8q rfl (e11 E) rfl) <| V (v := .int .u8 ((k % 8 : Nat) : Int)) rfl rfl (run_remI rfl rfl rfl (by decide) (tmod8 k)) <| V rfl rfl (run_eqI (c := false) rfl rfl rfl (by rw [h7]; rfl)) <| ?_
   simp only [q2,q3]
   refine WN ?_
   change Code.wp _ _ _ _ _
   refine wp_cond_false rfl ?_
   refine wp_skip ?_
   change Code.wp _ _ _ _ _
   refine wp_seq ?_
   -- region 9
   refine RL ?_
   refine V rfl rfl (run_load_bx AgI rfl rfl (E.1) rfl) <| V rfl rfl (run_load_bx AgI rfl rfl (e7 E) rfl) <| ?_
   simp only [q2,q3]
   refine EF rfl (Oper.wp_callP fn_eref02_lowest rfl (Rlowest_z _ (((a * (4611686018427387904 + ((k : Nat) : Int))) * (4611686018427387904 + ((k : Nat) : Int))) + ((k : Nat) : Int)) _ b _ (E.2.1) (e8 E) h0 (Fits.mono F65 (by decide)) (Fits.mono F7 (by decide))) rfl E ?_)
   clear E
   intro w70 n70 s70 m70 t70 d70 E
   clear d70
   refine kw rfl ?_
   have F69 : FitQ (Rat.divInt (((a * (4611686018427387904 + ((k : Nat) : Int))) * (4611686018427387904 + ((k : Nat) : Int))) + ((k : Nat) : Int)) b) 13 := FitQ_low (k := 13) h0 (Fits.mono F65 (by decide)) (Fits.mono F7 (by decide))
   have x72 := e12 E
   replace E := ((((((((((((E.2.2.2.2.2.2.2.2.2.2.2.2.2).i (e11 E)).i (e10 E)).b (e9 E)).i (e8 E)).b (e7 E)).i (e6 E)).i (e5 E)).i (e4 E)).i (e3 E)).b (E.2.2.1)).i (E.2.1)).i (E.1)
   simp only [q2,q3]
   refine EF rfl (Oper.wp_store AgR rfl rfl rfl x72 rfl rfl (one4 (IsI.one (E.2.1)) (IsI.one (E.1))) ?_)
   intro w71 o71 y71
   replace E := (E.onl (x72.noW (now4 now0 now0)) ⟨trivial, trivial, okB (by omega), trivial, trivial, trivial, trivial, okB (by omega), trivial, okB (by omega), trivial, trivial, okX (by omega), okW (by omega), trivial⟩ o71).x y71
   clear x72 o71 y71
   refine kn rfl ?_
   refine WN ?_
   change Code.wp _ _ _ _ _
   refine wp_ret ?_
   have r73 := res_box AgR (E.1) rfl
   exact bodyPost_ret (v := .agg #[.bool n70, s70, .bool m70, t70]) (by simp [results, Tryz.results5, asAddr, r73]) rfl ⟨_, _, _, _, rfl, eqZ (congrArg Rat.num (by unfold madeQ; rw [hD, if_pos h7] : (Rat.divInt (((a * (4611686018427387904 + ((k : Nat) : Int))) * (4611686018427387904 + ((k : Nat) : Int))) + ((k : Nat) : Int)) b) = madeQ a b k)) (E.2.2.1), eqZ (congrArg (fun z => ((Rat.den z : Nat) : Int)) (by unfold madeQ; rw [hD, if_pos h7] : (Rat.divInt (((a * (4611686018427387904 + ((k : Nat) : Int))) * (4611686018427387904 + ((k : Nat) : Int))) + ((k : Nat) : Int)) b) = madeQ a b k)) (E.2.1), e14 E⟩
  case neg =>
   by_cases h6 : k % 8 = 6
   case pos =>
    -- region 5
    refine RL ?_
    refine V rfl rfl (run_fieldW 2 (by decide) rfl rfl) <| V rfl rfl (run_cell rfl isAgg_u8q rfl (e7 E) rfl) <| V (v := .int .u8 ((k % 8 : Nat) : Int)) rfl rfl (run_remI rfl rfl rfl (by decide) (tmod8 k)) <| V rfl rfl (run_eqI (c := false) rfl rfl rfl (by rw [beq_eq_false_iff_ne]; omega)) <| ?_
    simp only [q2,q3]
    refine WN ?_
    change Code.wp _ _ _ _ _
    refine wp_cond_false rfl ?_
    refine wp_skip ?_
    change Code.wp _ _ _ _ _
    refine wp_seq ?_
    refine wp_seq ?_
    -- region 7
    refine RL ?_
    refine V rfl rfl (run_fieldW 2 (by decide) rfl rfl) <| V rfl rfl (run_cell rfl isAgg_u8q rfl (e7 E) rfl) <| V (v := .int .u8 ((k % 8 : Nat) : Int)) rfl rfl (run_remI rfl rfl rfl (by decide) (tmod8 k)) <| V rfl rfl (run_eqI (c := true) rfl rfl rfl (by rw [h6]; rfl)) <| ?_
    simp only [q2,q3]
    refine WN ?_
    change Code.wp _ _ _ _ _
    refine wp_cond_true rfl ?_
    -- region 8
    refine wp_schedB (l2 := [fB b57 n56 s56, fI (.agg #[.bool n56, s56]) (4611686018427387904 + ((k : Nat) : Int)), fB b10 n5 s5, fI (.agg #[.bool n8, s8]) b, fI (.agg #[.bool n5, s5]) a, fX b2 (31) ([.bool false, .slice none 0 0, .bool false, .slice none 0 0]), fX b1 (24) ([.int .i8 a, .int .i8 b, .int .u8 ((k : Nat) : Int)]), fW w]) E (fun w E => (Env.b (Env.i (Env.b (Env.i (Env.i (Env.x (Env.x (Env.ww (Env.nil _) (e8 E)) (e7 E)) (e6 E)) (e5 E)) (e4 E)) (e3 E)) (E.2.1)) (E.1))) ([5]) ([0, 1, 3, 2, 4, 5]) (by kernel_rfl) (by kernel_rfl) (by kernel_rfl) (by kernel_rfl) (by intro d v c a w h; cases d <;> exact h) ?_
    replace E := E.drew
    refine SP (o := ⟨some 41, _, _, _, _, _⟩) (v := .agg #[.bool n8, s8]) rfl rfl rfl rfl (fun w hS => run_load_bx AgI rfl rfl (hS.2.2.1) rfl) ?_
    simp only [Act.put,q1,q2,q3]
    refine SP (o := ⟨some 42, _, _, _, _, _⟩) (v := .agg #[.bool n56, s56]) rfl rfl rfl rfl (fun w hS => run_load_bx AgI rfl rfl (hS.1) rfl) ?_
    simp only [Act.put,q1,q2,q3]
    refine SP (o := ⟨some 44, _, _, _, _, _⟩) (v := .agg #[.bool n56, s56]) rfl rfl rfl rfl (fun w hS => run_load_bx AgI rfl rfl (hS.1) rfl) ?_
    simp only [Act.put,q1,q2,q3]
    refine S1a (o := ⟨some 43, _, _, _, _, _⟩) rfl rfl rfl rfl (Oper.wp_callI fn_eref01_Mul rfl (RMul_z _ b _ (4611686018427387904 + ((k : Nat) : Int)) _ (e4 E) (E.2.1) (Fits.mono F7 (by decide)) (Fits.mono F55 (by decide))) rfl E ?_)
    clear E
    intro w75 n75 s75 d75 E
    clear d75
    refine ⟨E.2, ?_⟩
    simp only [Act.put,q1,q2,q3]
    have F74 : Fits (b * (4611686018427387904 + ((k : Nat) : Int))) 8 := Fits_mul F7 F55
    refine S1a (o := ⟨some 45, _, _, _, _, _⟩) rfl rfl rfl rfl (Oper.wp_callI fn_eref01_Mul rfl (RMul_z _ (b * (4611686018427387904 + ((k : Nat) : Int))) _ (4611686018427387904 + ((k : Nat) : Int)) _ (E.1) (E.2.2.1) (Fits.mono F74 (by decide)) (Fits.mono F55 (by decide))) rfl E ?_)
    clear E
    intro w77 n77 s77 d77 E
    clear d77
    refine ⟨E.2.2, ?_⟩
    simp only [Act.put,q1,q2,q3]
    have F76 : Fits ((b * (4611686018427387904 + ((k : Nat) : Int))) * (4611686018427387904 + ((k : Nat) : Int))) 12 := Fits_mul F74 F55
    have x78 := e4 E
    replace E := (Env.i (Env.i (Env.b (Env.i (Env.b (Env.i (Env.i (Env.x (Env.x (Env.ww (Env.nil _) (e10 E)) (e9 E)) (e8 E)) (e7 E)) (e6 E)) (e5 E)) (e3 E)) (E.2.2.1)) (E.2.1)) (E.1))
    refine S1b (o := ⟨none, _, _, _, _, _⟩) rfl rfl rfl rfl (Oper.wp_store AgI rfl rfl rfl x78 rfl rfl (IsI.one (E.1)) ?_)
    intro w79 o79 y79
    replace E := (E.onl (x78.noW (IsI.now (e5 E))) ⟨trivial, trivial, okB (by omega), trivial, okB (by omega), trivial, trivial, okX (by omega), okX (by omega), okW (by omega), trivial⟩ o79).b y79
    clear x78 o79 y79
    refine ⟨E.2.2.2, ?_⟩
    simp only [Act.put]
    refine SN ?_
    change Code.wp _ _ _ _ _
    refine wp_seq ?_
    -- region 9
    refine RL ?_
    refine V rfl rfl (run_load_bx AgI rfl rfl (e5 E) rfl) <| V rfl rfl (run_load_bx AgI rfl rfl (E.1) rfl) <| ?_
    simp only [q2,q3]
    refine EF rfl (Oper.wp_callP fn_eref02_lowest rfl (Rlowest_z _ a _ ((b * (4611686018427387904 + ((k : Nat) : Int))) * (4611686018427387904 + ((k : Nat) : Int))) _ (e7 E) (E.2.1) (Int.mul_ne_zero (Int.mul_ne_zero h0 (by omega)) (by omega)) (Fits.mono F4 (by decide)) (Fits.mono F76 (by decide))) rfl E ?_)
    clear E
    intro w81 n81 s81 m81 t81 d81 E
    clear d81
    refine kw rfl ?_
    have F80 : FitQ (Rat.divInt a ((b * (4611686018427387904 + ((k : Nat) : Int))) * (4611686018427387904 + ((k : Nat) : Int)))) 12 := FitQ_low (k := 12) (Int.mul_ne_zero (Int.mul_ne_zero h0 (by omega)) (by omega)) (Fits.mono F4 (by decide)) (Fits.mono F76 (by decide))
    have x83 := e10 E
    replace E := ((((((((((E.2.2.2.2.2.2.2.2.2.2.2).i (e9 E)).i (e8 E)).b (e7 E)).i (e6 E)).b (e5 E)).i (e4 E)).i (e3 E)).b (E.2.2.1)).i (E.2.1)).i (E.1)
    simp only [q2,q3]
    refine EF rfl (Oper.wp_store AgR rfl rfl rfl x83 rfl rfl (one4 (IsI.one (E.2.1)) (IsI.one (E.1))) ?_)
    intro w82 o82 y82
    replace E := (E.onl (x83.noW (now4 now0 now0)) ⟨trivial, trivial, okB (by omega), trivial, trivial, okB (by omega), trivial, okB (by omega), trivial, trivial, okX (by omega), okW (by omega), trivial⟩ o82).x y82
    clear x83 o82 y82
    refine kn rfl ?_
    refine WN ?_
    change Code.wp _ _ _ _ _
    refine wp_ret ?_
    have r84 := res_box AgR (E.1) rfl
    exact bodyPost_ret (v := .agg #[.bool n81, s81, .bool m81, t81]) (by simp [results, Tryz.results5, asAddr, r84]) rfl ⟨_, _, _, _, rfl, eqZ (congrArg Rat.num (by unfold madeQ; rw [hD, if_neg h7, if_pos h6] : (Rat.divInt a ((b * (4611686018427387904 + ((k : Nat) : Int))) * (4611686018427387904 + ((k : Nat) : Int)))) = madeQ a b k)) (E.2.2.1), eqZ (congrArg (fun z => ((Rat.den z : Nat) : Int)) (by unfold madeQ; rw [hD, if_neg h7, if_pos h6] : (Rat.divInt a ((b * (4611686018427387904 + ((k : Nat) : Int))) * (4611686018427387904 + ((k : Nat) : Int)))) = madeQ a b k)) (E.2.1), e12 E⟩
   case neg =>
    -- region 5
    refine RL ?_
    refine V rfl rfl (run_fieldW 2 (by decide) rfl rfl) <| V rfl rfl (run_cell rfl isAgg_u8q rfl (e7 E) rfl) <| V (v := .int .u8 ((k % 8 : Nat) : Int)) rfl rfl (run_remI rfl rfl rfl (by decide) (tmod8 k)) <| V rfl rfl (run_eqI (c := false) rfl rfl rfl (by rw [beq_eq_false_iff_ne]; omega)) <| ?_
    simp only [q2,q3]
    refine WN ?_
    change Code.wp _ _ _ _ _
    refine wp_cond_false rfl ?_
    refine wp_skip ?_
    change Code.wp _ _ _ _ _
    refine wp_seq ?_
    refine wp_seq ?_
    -- region 7
    refine RL ?_
    refine V rfl rfl (run_fieldW 2 (by decide) rfl rfl) <| V rfl rfl (run_cell rfl isAgg_u8q rfl (e7 E) rfl) <| V (v := .int .u8 ((k % 8 : Nat) : Int)) rfl rfl (run_remI rfl rfl rfl (by decide) (tmod8 k)) <| V rfl rfl (run_eqI (c := false) rfl rfl rfl (by rw [beq_eq_false_iff_ne]; omega)) <| ?_
    simp only [q2,q3]
    refine WN ?_
    change Code.wp _ _ _ _ _
    refine wp_cond_false rfl ?_
    refine wp_skip ?_
    change Code.wp _ _ _ _ _
    refine wp_seq ?_
    -- region 9
    refine RL ?_
    refine V rfl rfl (run_load_bx AgI rfl rfl (e3 E) rfl) <| V rfl rfl (run_load_bx AgI rfl rfl (E.2.2.1) rfl) <| ?_
    simp only [q2,q3]
    refine EF rfl (Oper.wp_callP fn_eref02_lowest rfl (Rlowest_z _ a _ b _ (e5 E) (e4 E) h0 (Fits.mono F4 (by decide)) (Fits.mono F7 (by decide))) rfl E ?_)
    clear E
    intro w86 n86 s86 m86 t86 d86 E
    clear d86
    refine kw rfl ?_
    have F85 : FitQ (Rat.divInt a b) 4 := FitQ_low (k := 4) h0 (Fits.mono F4 (by decide)) (Fits.mono F7 (by decide))
    have x88 := e8 E
    replace E := ((((((((E.2.2.2.2.2.2.2.2.2).i (e7 E)).i (e6 E)).b (e5 E)).b (e4 E)).i (e3 E)).b (E.2.2.1)).i (E.2.1)).i (E.1)
    simp only [q2,q3]
    refine EF rfl (Oper.wp_store AgR rfl rfl rfl x88 rfl rfl (one4 (IsI.one (E.2.1)) (IsI.one (E.1))) ?_)
    intro w87 o87 y87
    replace E := (E.onl (x88.noW (now4 now0 now0)) ⟨trivial, trivial, okB (by omega), trivial, okB (by omega), okB (by omega), trivial, trivial, okX (by omega), okW (by omega), trivial⟩ o87).x y87
    clear x88 o87 y87
    refine kn rfl ?_
    refine WN ?_
    change Code.wp _ _ _ _ _
    refine wp_ret ?_
    have r89 := res_box AgR (E.1) rfl
    exact bodyPost_ret (v := .agg #[.bool n86, s86, .bool m86, t86]) (by simp [results, Tryz.results5, asAddr, r89]) rfl ⟨_, _, _, _, rfl, eqZ (congrArg Rat.num (by unfold madeQ; rw [hD, if_neg h7, if_neg h6] : (Rat.divInt a b) = madeQ a b k)) (E.2.2.1), eqZ (congrArg (fun z => ((Rat.den z : Nat) : Int)) (by unfold madeQ; rw [hD, if_neg h7, if_neg h6] : (Rat.divInt a b) = madeQ a b k)) (E.2.1), e10 E⟩
end Go.Proofs.YtndpjfhhigpbhaaGreat
