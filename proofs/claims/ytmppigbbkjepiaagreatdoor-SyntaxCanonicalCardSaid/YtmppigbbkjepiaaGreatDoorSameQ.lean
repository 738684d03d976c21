/- The reference of rationals: same. (Printed by g_ref02.py out of XRef1.) The reference of rationals, up to Made. (Printed by g_ref02.py.) -/
import Derived.Test.YtmppigbbkjepiaaGreatDoorRat1
import Derived.Test.YtmppigbbkjepiaaGreatDoorRefA
set_option maxHeartbeats 8000000
set_option maxRecDepth 100000
namespace Go.Proofs.YtmppigbbkjepiaaGreatDoor
open Go.Proofs.Tryz
open Go.RowKit W
theorem Cc {x y : Int} (h1 : decide (x < 0) = decide (y < 0)) (h2 : x.natAbs = y.natAbs) : decide (x = y) = true := by
  rw [decide_eq_decide] at h1
  rw [decide_eq_true_eq]; omega
theorem oG {x y : Int} (h : (CB x.natAbs).length ≠ (CB y.natAbs).length) : decide (x = y) = false := by
  rw [decide_eq_false_iff_not]; rintro rfl; exact h rfl
theorem rP {x y : Int} (i : Nat) (h : gd (CB x.natAbs) i ≠ gd (CB y.natAbs) i) : decide (x = y) = false := by
  rw [decide_eq_false_iff_not]; rintro rfl; exact h rfl
theorem oF {x y : Int} (h : decide (x < 0) ≠ decide (y < 0)) : decide (x = y) = false := by
  rw [decide_eq_false_iff_not]; rintro rfl; exact h rfl
def Ap (a b : List Nat) (k : Nat) : Prop := ∀ i, i < k → gd a i = gd b i
theorem uT (va vb : Value) (x y : Int) (w : World) (ha : IsI w va x) (hb : IsI w vb y) :
    Calls prog 140 #[va, vb] w (JO w (decide (x = y))) := by
  obtain ⟨aoa, capa, rfl, sa, ha1, ha2⟩ := ha.parts
  obtain ⟨aob, capb, rfl, sb, hb1, hb2⟩ := hb.parts
  obtain ⟨la, hla⟩ : ∃ l, l = CB x.natAbs := ⟨_, rfl⟩
  obtain ⟨lb, hlb⟩ : ∃ l, l = CB y.natAbs := ⟨_, rfl⟩
  obtain ⟨nx, hnx⟩ : ∃ n, n = decide (x < 0) := ⟨_, rfl⟩
  obtain ⟨ny, hny⟩ : ∃ n, n = decide (y < 0) := ⟨_, rfl⟩
  obtain ⟨R, hR⟩ : ∃ n, n = decide (x = y) := ⟨_, rfl⟩
  rw [← hla] at sa ha1
  rw [← hlb] at sb hb1
  rw [← hla, ← hlb, ← hnx, ← hny, ← hR]
  obtain ⟨_, _, e1, _, _, _, _, sa4⟩ := sa
  obtain ⟨_, _, e2, _, _, _, _, sb4⟩ := sb
  simp only [Value.slice.injEq] at e1 e2
  obtain ⟨rfl, _, rfl⟩ := e1
  obtain ⟨rfl, _, rfl⟩ := e2
  have HSA := Lib.hid sa4
  have HSB := Lib.hid sb4
  have HLA := Lib.hid hla
  have HLB := Lib.hid hlb
  have HNX := Lib.hid hnx
  have HNY := Lib.hid hny
  have HR := Lib.hid hR
  clear ha hb hla hlb hnx hny hR sa4 sb4
  obtain ⟨W, hW, hsz, B0, c0, c1, c2, c3⟩ := Iz w nx ny (.slice aoa la.length capa) (.slice aob lb.length capb)
  by_cases hs : nx = ny
  · subst hs
    have hs0 : (nx != nx) = false := by simp
    by_cases hl : la.length = lb.length
    · have hl0 : ((la.length : Int) != (lb.length : Int)) = false := by rw [bne_eq_false_iff_eq]; omega
      have HL := Lib.hid hl
      clear hl
      go_enter func140, ntmps140
      go_upto_region 1 with fail
      rw [← hW]
      clear hW hsz
      go_wp2
      go_loopw [5] (fun i wr => ∃ k : Nat, k ≤ la.length ∧ i = .int .i64 k ∧ Hid (Ap la lb k) ∧ ∃ q, wr = W.drewN q) (fun i _ => (la.length : Int).toNat - (intOf i).toNat)
      case atStart => exact ⟨0, by omega, rfl, fun i hi => absurd hi Z, 0, rfl⟩
      case round =>
        obtain ⟨k, hk, rfl, hst, q, rfl⟩ := hrel
        by_cases hlt : k < la.length
        · obtain ⟨b, off, rfl, hc⟩ := HSA.out k hlt
          obtain ⟨b2, off2, rfl, hc2⟩ := HSB.out k (by have := HL.out; omega)
          have hc := CV hc B0
          have hc2 := CV hc2 B0
          have hlt2 : (k : Int) < (lb.length : Int) := by have := HL.out; omega
          have hk0 : (0 : Int) ≤ (k : Int) := by omega
          have hlt1 : (k : Int) < (la.length : Int) := by omega
          by_cases hx : gd la k = gd lb k
          · have h1 : (((gd la k : Nat) : Int) != ((gd lb k : Nat) : Int)) = false := by rw [bne_eq_false_iff_eq]; omega
            have HST : Hid (Ap la lb (k + 1)) := by
              intro i hi
              by_cases e : i = k
              · subst e; exact hx
              · exact hst.out i Z
            clear hx hst
            go_wp2
            go_quiet (fail)
            go_wp2
            go_roundw
            case rel => exact ⟨k + 1, by omega, by go_num, HST, (by first | exact ⟨_, rfl⟩ | exact ⟨_, by simp only [World.drewN_drewN]; rfl⟩)⟩
            case measure => simp [intOf]; omega
          · have h1 : (((gd la k : Nat) : Int) != ((gd lb k : Nat) : Int)) = true := by rw [bne_iff_ne]; omega
            have HRF : Hid (R = false) := by
              show R = false
              rw [HR.out]; exact rP k (by rw [← HLA.out, ← HLB.out]; exact hx)
            clear hx hst
            go_wp2
            go_quiet (fail)
            go_wp2
            go_ret
            exact ⟨by rw [HRF.out]; rfl, IB (IB B0 _) _⟩
        · have HRT : Hid (R = true) := by
            show R = true
            rw [HR.out]
            refine Cc (by rw [← HNX.out, ← HNY.out]) (sT ?_)
            rw [← HLA.out, ← HLB.out]
            exact oX HL.out fun i hi => hst.out i Z
          clear hst
          go_wp2
          go_ret
          exact ⟨by rw [HRT.out]; rfl, IB B0 _⟩
    · have hl0 : ((la.length : Int) != (lb.length : Int)) = true := by rw [bne_iff_ne]; omega
      have HRF : Hid (R = false) := by
        show R = false
        rw [HR.out]; exact oG (by rw [← HLA.out, ← HLB.out]; exact hl)
      clear hl
      go_enter func140, ntmps140
      go_upto_region 1 with fail
      rw [← hW]
      clear hW hsz
      go_wp2
      go_ret
      exact ⟨by rw [HRF.out]; rfl, B0⟩
  · have HRF : Hid (R = false) := by
      show R = false
      rw [HR.out]; exact oF (by rw [← HNX.out, ← HNY.out]; exact hs)
    have hs0 : (nx != ny) = true := by rw [bne_iff_ne]; exact hs
    clear hs0
    cases nx <;> cases ny <;> (first | exact absurd rfl hs | skip)
    all_goals
      clear hs
      go_enter func140, ntmps140
      go_upto_region 1 with fail
      rw [← hW]
      clear hW hsz
      go_wp2
      go_ret
      exact ⟨by rw [HRF.out]; rfl, B0⟩
end Go.Proofs.YtmppigbbkjepiaaGreatDoor
namespace Go.Proofs.YtmppigbbkjepiaaGreatDoor
open Go.Proofs.Tryz
open Go.RowKit W
theorem DZ (f : Nat) (hf : f < 3) {ρ : Operand → Value} {o : Oper} {w : World} {x : Operand} {b : Nat} (ho : o.op = .fieldAddr 79 x f) (hx : ρ x = .pointer (some ⟨b, 0, none⟩)) : (execOp ρ o).run prog w = .ok (.value (.pointer (some ⟨b, f, none⟩))) w := by
  have : f = 0 ∨ f = 1 ∨ f = 2 := by omega
  rcases this with rfl | rfl | rfl <;> (unfold execOp; rw [ho]; simp [hx, go_sem])
theorem aW (w : World) : (isAgg 77).run prog w = .ok false w := by simp [go_sem]
theorem FV (w : World) : (isAgg 5).run prog w = .ok false w := by simp [go_sem]
theorem CQ {f : Nat} {args : Array Value} {w : World} {a b : Bool} (h : a = b) (hc : Calls prog f args w (JO w a)) : Calls prog f args w (JO w b) := h ▸ hc
theorem Fl {p q p' q' : Int} (h : p = p') : decide (q = q') = decide (p = p' ∧ q = q') := by simp [h]
theorem Cb {p q p' q' : Int} (h : ¬ p = p') : false = decide (p = p' ∧ q = q') := by simp [h]
theorem UL (k : Nat) : ((k : Nat) : Int).tmod 8 = ((k % 8 : Nat) : Int) := (Int.ofNat_tmod k 8).symm
theorem Rz (na : Bool) (sa : Value) (ma : Bool) (ta : Value) (p q : Int) (nb : Bool) (sb : Value) (mb : Bool) (tb : Value) (p' q' : Int) (w : World) (hna : IsI w (.agg #[.bool na, sa]) p) (hda : IsI w (.agg #[.bool ma, ta]) q) (hnb : IsI w (.agg #[.bool nb, sb]) (p')) (hdb : IsI w (.agg #[.bool mb, tb]) (q')) :
    Calls prog 92 #[.agg #[.bool na, sa, .bool ma, ta], .agg #[.bool nb, sb, .bool mb, tb]] w (JO w (decide (p = p' ∧ q = q'))) := by
 have E := Env.start w
 replace E := (E.i hna).i hda
 clear hna hda
 replace E := (E.i hnb).i hdb
 clear hnb hdb
 go_enter func92, ntmps92
 refine zG ?_
 refine EF O (CI (cs := [.bool na, sa, .bool ma, ta]) O O ?_)
 intro G D v t l h
 replace E := (E.below l).x h
 clear v t l h
 refine zG ?_
 refine EF O (CI (cs := [.bool nb, sb, .bool mb, tb]) O O ?_)
 intro F C u o k f
 replace E := (E.below k).x f
 clear u o k f
 by_cases e : p = p'
 case neg =>
  refine zG ?_
  refine V O O (DV O O) ?_
  refine V O O (CO O O E.2.1 O O) ?_
  refine V O O (DV O O) ?_
  refine V O O (CO O O E.1 O O) ?_
  refine zG ?_
  refine EF O (BY QV O (CQ (decide_eq_false e) (uT _ _ p (p') _ (e5 E) (e3 E))) O E ?_)
  clear E
  intro y _ E
  refine zG ?_
  exact ⟨QL (Cb e), e6 E⟩
 refine zG ?_
 refine V O O (DV O O) ?_
 refine V O O (CO O O E.2.1 O O) ?_
 refine V O O (DV O O) ?_
 refine V O O (CO O O E.1 O O) ?_
 refine zG ?_
 refine EF O (BY QV O (CQ (decide_eq_true e) (uT _ _ p (p') _ (e5 E) (e3 E))) O E ?_)
 clear E
 intro B _ E
 refine zG ?_
 refine V I O (DK O O) ?_
 refine V I O (CO O O E.2.1 O O) ?_
 refine V I O (DK O O) ?_
 refine zG ?_
 refine V I O (CO O O E.1 O O) ?_
 refine zG ?_
 refine EF O (BY QV O (uT _ _ q (q') _ (e4 E) E.2.2.1) O E ?_)
 clear E
 intro z _ E
 refine zG ?_
 exact ⟨QL (Fl e), e6 E⟩
theorem gI (va : Value) (n : Int) (vb : Value) (d : Int) (w : World) (hva : IsI w va n) (hvb : IsI w vb d) (hd : d ≠ 0) (Fn : Fits n 900000000) (Fd : Fits d 900000000) :
    Calls prog 124 #[va, vb] w (RetZ w (n / d)) := by
 have E := Env.start w
 obtain ⟨a4, a2, rfl, _, _⟩ := hva.sh
 replace E := E.i hva
 clear hva
 obtain ⟨a3, a1, rfl, _, _⟩ := hvb.sh
 replace E := E.i hvb
 clear hvb
 go_enter func124, ntmps124
 refine zG ?_
 refine EF O (CI O O ?_)
 intro X w1 L z1 R C
 have l1 : w.heap.size ≤ X := by rw [L]; exact E.2.2.1.size
 replace E := E.below R
 clear L z1 R
 replace E := E.b C
 clear C
 refine zG ?_
 refine EF O (CI O O ?_)
 intro U w2 J z2 Q B
 have H : X < U := by rw [J]; exact Bx.lt E.1
 replace E := E.below Q
 clear J z2 Q
 replace E := E.b B
 clear B
 refine zG ?_
 refine EF O (CA FM O ?_)
 intro T w3 e3 z3 P e
 have G : U < T := by rw [e3]; exact Bx.lt E.1
 replace E := E.below P
 clear e3 z3 P
 refine zG ?_
 refine EF O (fK cQ O (Ea _ n _ d _ (e3 E) E.2.2.1 (hd) (Fits.mono Fn AD) (Fits.mono Fd AD)) O E ?_)
 clear E
 intro w5 n5 s5 m5 t5 N E
 replace e := e.below N
 clear N
 refine zG ?_
 refine EF O (CA FM O ?_)
 intro S w6 e6 z6 u f
 have F : T < S := by rw [e6]; exact Bx.lt (e)
 replace E := E.below u
 replace e := Bx.below e u
 clear e6 z6 u
 refine zG ?_
 refine EF O (CA FM O ?_)
 intro b7 w7 e7 Y p k
 have D : S < b7 := by rw [e7]; exact Bx.lt (f)
 replace E := E.below p
 replace e := Bx.below e p
 replace f := Bx.below f p
 clear e7 Y p
 refine zG ?_
 refine EF O (BX FM O O O f O O (IsI.one E.2.1) ?_)
 intro w8 o z
 replace E := (E.onl (f.noW CW) zK o).b z
 replace e := Bx.onl e Z o
 replace k := Bx.onl k Z o
 clear f o z
 refine zG ?_
 refine EF O (BX FM O O O k O O (IsI.one E.2.1) ?_)
 intro w9 t y
 replace E := (E.onl (k.noW CW) zK t).b y
 replace e := Bx.onl e Z t
 clear k t y
 refine zG ?_
 refine EF O (BX FM O O O e O O (IsI.one (e3 E)) ?_)
 intro a0 l h
 replace E := (E.onl (e.noW CW) zK l).b h
 clear e l h
 have q := CY FM E.1 rfl
 refine zG ?_
 exact AP (v := .agg #[.bool n5, s5]) (by simp [results, results124, asAddr, q]) O ⟨_, O, e4 E, e9 E⟩
theorem NE (va : Value) (n : Int) (vb : Value) (d : Int) (w : World) (hva : IsI w va n) (hvb : IsI w vb d) (hd : d ≠ 0) (Fn : Fits n 900000000) (Fd : Fits d 900000000) :
    Calls prog 78 #[va, vb] w (pK w (Rat.divInt n d).num (((Rat.divInt n d).den : Nat) : Int)) := by
 have E := Env.start w
 obtain ⟨ag, ad, rfl, _, _⟩ := hva.sh
 replace E := E.i hva
 clear hva
 obtain ⟨af, ac, rfl, _, _⟩ := hvb.sh
 replace E := E.i hvb
 clear hvb
 go_enter func78, ntmps78
 refine zG ?_
 refine EF O (CI O O ?_)
 intro b1 w1 e1 z1 d1 x1
 have l1 : w.heap.size ≤ b1 := by rw [e1]; exact E.2.2.1.size
 replace E := E.below d1
 clear e1 z1 d1
 replace E := E.b x1
 clear x1
 refine zG ?_
 refine EF O (CI O O ?_)
 intro b2 w2 e2 z2 d2 x2
 have a2 : b1 < b2 := by rw [e2]; exact Bx.lt E.1
 replace E := E.below d2
 clear e2 z2 d2
 replace E := E.b x2
 clear x2
 refine zG ?_
 refine EF O (CA GI O ?_)
 intro b3 w3 e3 z3 d3 e
 have a1 : b2 < b3 := by rw [e3]; exact Bx.lt E.1
 replace E := E.below d3
 clear e3 z3 d3
 refine zG ?_
 refine EF O (CG YI O (Jn _ n _ d _ (e3 E) E.2.2.1 (Fits.mono Fn AD) (Fits.mono Fd AD)) O E ?_)
 clear E
 intro w5 n5 s5 d5 E
 replace e := e.below d5
 clear d5
 have F4 : Fits ((Nat.gcd n.natAbs d.natAbs : Nat) : Int) 900000000 := Js hd Fd
 refine zG ?_
 refine EF O (CA FM O ?_)
 intro b6 w6 e6 z6 Y S
 have a0 : b3 < b6 := by rw [e6]; exact Bx.lt (e)
 replace E := E.below Y
 replace e := Bx.below e Y
 clear e6 z6 Y
 refine zG ?_
 refine EF O (BX FM O O O S O O (IsI.one E.1) ?_)
 intro w7 X y7
 replace E := (E.onl (S.noW CW) zK X).b y7
 replace e := Bx.onl e Z X
 clear S X y7
 by_cases k : d < 0
 case neg =>
  replace k : 0 < d := by omega
  refine zG ?_
  refine EF O (CH LF O (bP _ d _ (e4 E)) O E ?_)
  clear E
  intro a6 N E
  replace e := e.below N
  clear N
  refine zG ?_
  refine V O O (MD (c := false) O O O (Ff k)) ?_
  refine zG ?_
  refine sE E [0,1,3,4,2,5,6,7] ?_
  replace E := E.drew
  replace e := Bx.drew e
  refine zG ?_
  refine JF (o := ⟨some 16, _, _, _, _, _⟩) O O O O (CG MM O (gI _ n _ ((Nat.gcd n.natAbs d.natAbs : Nat) : Int) _ (e5 E) E.2.1 (aU (n := n) hd) (Fits.mono Fn AD) (Fits.mono F4 AD)) O E ?_)
  clear E
  intro a5 F u L E
  replace e := e.below L
  clear L
  refine ⟨E.2, ?_⟩
  refine zG ?_
  refine JF (o := ⟨some 19, _, _, _, _, _⟩) O O O O (CG MM O (gI _ d _ ((Nat.gcd n.natAbs d.natAbs : Nat) : Int) _ (e5 E) E.2.2.1 (aU (n := n) hd) (Fits.mono Fd AD) (Fits.mono F4 AD)) O E ?_)
  clear E
  intro a4 D t J E
  replace e := e.below J
  clear J
  refine ⟨E.2.2, ?_⟩
  refine zG ?_
  refine SW (v := .agg #[.bool F, u, .bool D, t]) O O O O O (fun w hS => KY O O O) ?_
  refine zG ?_
  refine JF (o := ⟨none, _, _, _, _, _⟩) O O O O (BX GI O O O e O O (LM (IsI.one E.2.1) (IsI.one E.1)) ?_)
  intro a3 B l
  replace E := (E.onl (e.noW (NL CW CW)) zK B).x l
  clear e B l
  refine ⟨E.2.2.2, ?_⟩
  have T := CY GI E.1 rfl
  refine zG ?_
  exact AP (v := .agg #[.bool F, u, .bool D, t]) (by simp [results, results78, asAddr, T]) O ⟨_, _, _, _, O, VD ((gE k).symm) E.2.2.1, VD ((gF k).symm) E.2.1, e9 E⟩
 refine zG ?_
 refine EF O (CH LF O (bP _ d _ (e4 E)) O E ?_)
 clear E
 intro w8 d8 E
 replace e := e.below d8
 clear d8
 refine zG ?_
 refine V O O (MD (c := true) O O O (xU k)) ?_
 refine zG ?_
 refine EF O (CG kV O (Sd _ ((Nat.gcd n.natAbs d.natAbs : Nat) : Int) _ E.2.1) O E ?_)
 clear E
 intro ab ah ae R E
 replace e := e.below R
 clear R
 have F9 : Fits (-((Nat.gcd n.natAbs d.natAbs : Nat) : Int)) 900000000 := tS F4
 have f := E.2.1
 refine zG ?_
 replace E := So E
 refine zG ?_
 refine EF O (BX FM O O O f O O (IsI.one E.1) ?_)
 intro aa h q
 replace E := (E.onl (f.noW (IsI.now E.2.1)) zK h).b q
 replace e := Bx.onl e Z h
 clear f h q
 refine zG ?_
 refine sE E [0,1,3,4,2,5,6,7] ?_
 replace E := E.drew
 replace e := Bx.drew e
 refine zG ?_
 refine JF (o := ⟨some 16, _, _, _, _, _⟩) O O O O (CG MM O (gI _ n _ (-((Nat.gcd n.natAbs d.natAbs : Nat) : Int)) _ (e6 E) E.2.1 (Int.neg_ne_zero.2 (aU (n := n) hd)) (Fits.mono Fn AD) (Fits.mono F9 AD)) O E ?_)
 clear E
 intro a9 H z Q E
 replace e := e.below Q
 clear Q
 refine ⟨E.2, ?_⟩
 refine zG ?_
 refine JF (o := ⟨some 19, _, _, _, _, _⟩) O O O O (CG MM O (gI _ d _ (-((Nat.gcd n.natAbs d.natAbs : Nat) : Int)) _ (e6 E) E.2.2.1 (Int.neg_ne_zero.2 (aU (n := n) hd)) (Fits.mono Fd AD) (Fits.mono F9 AD)) O E ?_)
 clear E
 intro a8 G y P E
 replace e := e.below P
 clear P
 refine ⟨E.2.2, ?_⟩
 refine zG ?_
 refine SW (v := .agg #[.bool H, z, .bool G, y]) O O O O O (fun w hS => KY O O O) ?_
 refine zG ?_
 refine JF (o := ⟨none, _, _, _, _, _⟩) O O O O (BX GI O O O e O O (LM (IsI.one E.2.1) (IsI.one E.1)) ?_)
 intro a7 C p
 replace E := (E.onl (e.noW (NL CW CW)) zK C).x p
 clear e C p
 refine ⟨E.2.2.2, ?_⟩
 have U := CY GI E.1 rfl
 refine zG ?_
 exact AP (v := .agg #[.bool H, z, .bool G, y]) (by simp [results, results78, asAddr, U]) O ⟨_, _, _, _, O, VD ((dP k).symm) E.2.2.1, VD ((dQ k).symm) E.2.1, PP E⟩
def rX (b : Int) : Int := if b = 0 then 1 else b
def IM (a b : Int) (k : Nat) : Rat :=
  if k % 8 = 7 then Rat.divInt (a * (4611686018427387904 + (k : Int)) * (4611686018427387904 + (k : Int)) + (k : Int)) (rX b)
  else if k % 8 = 6 then Rat.divInt a (rX b * (4611686018427387904 + (k : Int)) * (4611686018427387904 + (k : Int)))
  else Rat.divInt a (rX b)
theorem Sj (a b : Int) (k : Nat) (w : World) (ha1 : -128 ≤ a) (ha2 : a ≤ 127) (hb1 : -128 ≤ b) (hb2 : b ≤ 127) (hk : k < 256) :
    Calls prog 30 #[.agg #[.int .i8 a, .int .i8 b, .int .u8 ↑k]] w (pK w (IM a b k).num (((IM a b k).den : Nat) : Int)) := by
 have E := Env.start w
 go_enter func30, ntmps30
 refine zG ?_
 refine EF O (CI (cs := [.int .i8 a, .int .i8 b, .int .u8 ↑k]) O O ?_)
 intro D w1 e1 z1 d1 x1
 have l1 : w.heap.size ≤ D := by rw [e1]; exact E.1.size
 replace E := (E.below d1).x x1
 clear e1 z1 d1 x1
 refine zG ?_
 refine EF O (CA GI O ?_)
 intro Q w2 e2 z2 d2 x2
 have cy : D < Q := by rw [e2]; exact Bx.lt E.1
 replace E := (E.below d2).x x2
 clear e2 z2 d2 x2
 have ct : Q < w2.heap.size := Bx.lt E.1
 refine zG ?_
 refine SX E [.op 0, .op 1, .op 2, .op 4, .op 5, .op 6, .av 8, .av 9, .op 3, .op 7, .op 8, .op 9] 2 (#[true, true, true, true, true, true, true, true, true, true, false, false]) I I I I AE AE ?_
 refine FP (v := .pointer (some ⟨D, 0, none⟩)) O O O O O (fun w e => DZ 0 AD O O) ?_
 refine FP (v := .int .i8 a) O O O O O (fun w e => CR O aW O (e.2.1) O) ?_
 refine FP (v := .int .i64 a) O O O O O (fun w e => ES O O (by rw [underlying77]; rfl) underlying2 (JC Z)) ?_
 refine FP (v := .pointer (some ⟨D, 1, none⟩)) O O O O O (fun w e => DZ 1 AD O O) ?_
 refine zG ?_
 refine FP (v := .int .i8 b) O O O O O (fun w e => CR O aW O (e.2.1) O) ?_
 refine FP (v := .int .i64 b) O O O O O (fun w e => ES O O (by rw [underlying77]; rfl) underlying2 (JC Z)) ?_
 refine FA _ (RunF.alloc FM O O O) ?_
 refine FA _ (RunF.alloc FM O O O) ?_
 clear E
 refine zG ?_
 refine FE O O O O ?_
 intro w6 E
 refine CG GH O (YK a _ Z Z) O E ?_
 clear E
 intro w5 P N d5 E
 refine kF d5 E O ?_
 have R : Fits a 4 := EY Z Z
 clear E
 refine zG ?_
 refine FE O O O O ?_
 intro w9 E
 refine CG GH O (YK b _ Z Z) O E ?_
 clear E
 intro w8 n8 s8 d8 E
 refine kF d8 E O ?_
 have F7 : Fits b 4 := EY Z Z
 refine zG ?_
 refine FF O O ?_
 intro C f8 eh
 have cr : Q < C := by omega
 refine zG ?_
 refine FF O O ?_
 intro B f7 bo
 have cq : Q < B := by omega
 have bn : B ≠ C := by rintro rfl; exact bo AG
 clear E
 refine zG ?_
 intro eg E
 refine H1 (i := 10) I ?_
 have a9 := E.2.1
 replace E := So E
 refine HE (o := ⟨none, _, _, _, _, _⟩) O O (BX FM O O O a9 O O (IsI.one E.2.2.1) ?_)
 intro ef b9 ap
 replace E := (E.onl (a9.noW CW) zK b9).b ap
 clear a9 b9 ap
 refine ⟨E.2.2.2.2, ?_⟩
 refine zG ?_
 refine H1 (i := 11) I ?_
 have a8 := E.2.1
 replace E := So E
 refine HE (o := ⟨none, _, _, _, _, _⟩) O O (BX FM O O O a8 O O (IsI.one E.2.1) ?_)
 intro ee b8 ao
 replace E := (E.onl (a8.noW CW) zK b8).b ao
 clear a8 b8 ao
 refine ⟨E.2.2.2.2, ?_⟩
 refine zG ?_
 refine HN I ?_
 by_cases h0 : b = 0
 case neg =>
  have u : rX b = b := if_neg h0
  refine zG ?_
  refine V O O (DZ 1 AD O O) ?_
  refine V O O (CR O aW O (e5 E) O) ?_
  refine V O O (GQ (c := false) O O O (beq_eq_false_iff_ne.2 h0)) ?_
  refine zG ?_
  refine V O O (DZ 2 AD O O) ?_
  refine V O O (CR O FV O (e5 E) O) ?_
  refine V (v := .int .i64 ↑k) O O (ES O O (by rw [underlying5]; rfl) underlying2 (JC Z)) ?_
  refine V (v := .int .i64 (4611686018427387904 + ((k : Nat) : Int))) O O (JJ O O O (JC Z)) ?_
  refine zG ?_
  refine EF O (CG GH O (YK (4611686018427387904 + ((k : Nat) : Int)) _ Z Z) O E ?_)
  clear E
  intro dk l f _ E
  have q : Fits (4611686018427387904 + ((k : Nat) : Int)) 4 := EY Z Z
  refine zG ?_
  refine EF O (CA FM O ?_)
  intro J dj aa bl ba a0
  have cn : B < J := by rw [aa]; exact Bx.lt E.2.1
  have cm : C < J := by rw [aa]; exact Bx.lt E.2.2.1
  replace E := E.below ba
  clear aa bl ba
  refine zG ?_
  refine EF O (BX FM O O O a0 O O (IsI.one E.1) ?_)
  intro di ay ag
  replace E := (E.onl (a0.noW CW) zK ay).b ag
  clear a0 ay ag
  by_cases y : k % 8 = 7
  case pos =>
   refine zG ?_
   refine V O O (DZ 2 AD O O) ?_
   refine V O O (CR O FV O (e7 E) O) ?_
   refine V (v := .int .u8 ↑(k % 8)) O O (FB O O O AD (UL k)) ?_
   refine zG ?_
   refine SY (l2 := [fB J l f, fI (.agg #[.bool l, f]) (4611686018427387904 + ((k : Nat) : Int)), fB B n8 s8, fI (.agg #[.bool n8, s8]) b, fI (.agg #[.bool P, N]) a, fX Q (64) ([.bool false, .slice none 0 0, .bool false, .slice none 0 0]), fX D (79) ([.int .i8 a, .int .i8 b, .int .u8 ↑k]), fW w]) E (fun w E => zE) ([10]) ([0, 1, 3, 5, 6, 7, 2, 4, 8, 9, 10]) I I I I AE ?_
   replace E := E.drew
   refine SP (o := ⟨some 27, _, _, _, _, _⟩) (v := .agg #[.bool P, N]) O O O O (fun w e => CT FM O O (e3 e) O) ?_
   refine zG ?_
   refine SP (o := ⟨some 28, _, _, _, _, _⟩) (v := .agg #[.bool l, f]) O O O O (fun w e => CT FM O O (e.1) O) ?_
   refine zG ?_
   refine SP (o := ⟨some 30, _, _, _, _, _⟩) (v := .agg #[.bool l, f]) O O O O (fun w e => CT FM O O (e.1) O) ?_
   refine zG ?_
   refine SP (o := ⟨some 32, _, _, _, _, _⟩) (v := .pointer (some ⟨D, 2, none⟩)) O O O O (fun w e => DZ 2 AD O O) ?_
   refine zG ?_
   refine SP (o := ⟨some 33, _, _, _, _, _⟩) (v := .int .u8 ↑k) O O O O (fun w e => CR O FV O (e7 e) O) ?_
   refine zG ?_
   refine SP (o := ⟨some 34, _, _, _, _, _⟩) (v := .int .i64 ↑k) O O O O (fun w e => ES O O (by rw [underlying5]; rfl) underlying2 (JC Z)) ?_
   refine zG ?_
   refine JF (o := ⟨some 29, _, _, _, _, _⟩) O O O O (CG EE O (OL _ a _ (4611686018427387904 + ((k : Nat) : Int)) _ (e5 E) E.2.1 (Fits.mono R AD) (Fits.mono q AD)) O E ?_)
   clear E
   intro dh f0 en _ E
   refine ⟨E.2, ?_⟩
   have bg : Fits (a * (4611686018427387904 + ((k : Nat) : Int))) 8 := FZ R q
   refine zG ?_
   refine JF (o := ⟨some 31, _, _, _, _, _⟩) O O O O (CG EE O (OL _ (a * (4611686018427387904 + ((k : Nat) : Int))) _ (4611686018427387904 + ((k : Nat) : Int)) _ E.1 E.2.2.1 (Fits.mono bg AD) (Fits.mono q AD)) O E ?_)
   clear E
   intro dg ez em _ E
   refine ⟨E.2.2, ?_⟩
   have bf : Fits ((a * (4611686018427387904 + ((k : Nat) : Int))) * (4611686018427387904 + ((k : Nat) : Int))) 12 := FZ bg q
   refine zG ?_
   refine JF (o := ⟨some 35, _, _, _, _, _⟩) O O O O (CG GH O (YK ((k : Nat) : Int) _ Z Z) O E ?_)
   clear E
   intro de ey el _ E
   refine ⟨E.2.2.2, ?_⟩
   have bd : Fits ((k : Nat) : Int) 4 := EY Z Z
   refine zG ?_
   refine JF (o := ⟨some 36, _, _, _, _, _⟩) O O O O (CG SJ O (wX _ ((a * (4611686018427387904 + ((k : Nat) : Int))) * (4611686018427387904 + ((k : Nat) : Int))) _ ((k : Nat) : Int) _ E.2.1 E.1 (Fits.mono bf AD) (Fits.mono bd AD)) O E ?_)
   clear E
   intro dd ex ek _ E
   refine ⟨E.2.2.2.2, ?_⟩
   have cv : Fits (((a * (4611686018427387904 + ((k : Nat) : Int))) * (4611686018427387904 + ((k : Nat) : Int))) + ((k : Nat) : Int)) 13 := bY bf bd (k := 12) AD AD
   have Y := e7 E
   refine zG ?_
   replace E := (Env.i (Env.i (Env.i (Env.i (Env.b (Env.i (Env.b (Env.i (Env.i (Env.x (Env.x (Env.ww (Env.nil _) (XX E)) (RG E)) (PP E)) (e9 E)) (e8 E)) (e6 E)) (e5 E)) (e4 E)) (e3 E)) E.2.2.1) E.2.1) E.1)
   refine S1b (o := ⟨none, _, _, _, _, _⟩) O O O O (BX FM O O O Y O O (IsI.one E.1) ?_)
   intro dc ax af
   replace E := (E.onl (Y.noW (IsI.now (e8 E))) zK ax).b af
   clear Y ax af
   refine ⟨E.2.2.2.2.2, ?_⟩
   refine zG ?_
   refine V O O (DZ 2 AD O O) ?_
   refine V O O (CR O FV O (RG E) O) ?_
   refine V (v := .int .u8 ↑(k % 8)) O O (FB O O O AD (UL k)) ?_
   refine zG ?_
   refine EF O (CZ FN O (NE _ (((a * (4611686018427387904 + ((k : Nat) : Int))) * (4611686018427387904 + ((k : Nat) : Int))) + ((k : Nat) : Int)) _ b _ E.2.1 (e8 E) h0 (Fits.mono cv AD) (Fits.mono F7 AD)) O E ?_)
   clear E
   intro db cb bz ch br _ E
   have X := XX E
   refine zG ?_
   replace E := Sn (Sn Sq) E
   refine zG ?_
   refine EF O (BX GI O O O X O O (LM (IsI.one E.2.1) (IsI.one E.1)) ?_)
   intro da aw ae
   replace E := (E.onl (X.noW (NL CW CW)) zK aw).x ae
   clear X aw ae
   have c5 := CY GI E.1 rfl
   refine zG ?_
   exact AP (v := .agg #[.bool cb, bz, .bool ch, br]) (by simp [results, results30, asAddr, c5]) O ⟨_, _, _, _, O, VD (congrArg Rat.num (by unfold IM; rw [u, if_pos y] : (Rat.divInt (((a * (4611686018427387904 + ((k : Nat) : Int))) * (4611686018427387904 + ((k : Nat) : Int))) + ((k : Nat) : Int)) b) = IM a b k)) E.2.2.1, VD (congrArg (fun z => ((Rat.den z : Nat) : Int)) (by unfold IM; rw [u, if_pos y] : (Rat.divInt (((a * (4611686018427387904 + ((k : Nat) : Int))) * (4611686018427387904 + ((k : Nat) : Int))) + ((k : Nat) : Int)) b) = IM a b k)) E.2.1, kX E⟩
  by_cases H : k % 8 = 6
  case neg =>
   refine zG ?_
   refine V O O (DZ 2 AD O O) ?_
   refine V O O (CR O FV O (e7 E) O) ?_
   refine V (v := .int .u8 ↑(k % 8)) O O (FB O O O AD (UL k)) ?_
   refine zG ?_
   refine V O O (DZ 2 AD O O) ?_
   refine V O O (CR O FV O (e7 E) O) ?_
   refine V (v := .int .u8 ↑(k % 8)) O O (FB O O O AD (UL k)) ?_
   refine zG ?_
   refine EF O (CZ FN O (NE _ a _ b _ (e5 E) (e4 E) h0 (Fits.mono R AD) (Fits.mono F7 AD)) O E ?_)
   clear E
   intro d0 c9 bw cf bp _ E
   have S := e8 E
   refine zG ?_
   replace E := dl8 E
   refine zG ?_
   refine EF O (BX GI O O O S O O (LM (IsI.one E.2.1) (IsI.one E.1)) ?_)
   intro cz aq ab
   replace E := (E.onl (S.noW (NL CW CW)) zK aq).x ab
   clear S aq ab
   have c3 := CY GI E.1 rfl
   refine zG ?_
   exact AP (v := .agg #[.bool c9, bw, .bool cf, bp]) (by simp [results, results30, asAddr, c3]) O ⟨_, _, _, _, O, VD (congrArg Rat.num (by unfold IM; rw [u, if_neg y, if_neg H] : (Rat.divInt a b) = IM a b k)) E.2.2.1, VD (congrArg (fun z => ((Rat.den z : Nat) : Int)) (by unfold IM; rw [u, if_neg y, if_neg H] : (Rat.divInt a b) = IM a b k)) E.2.1, PP E⟩
  refine zG ?_
  refine V O O (DZ 2 AD O O) ?_
  refine V O O (CR O FV O (e7 E) O) ?_
  refine V (v := .int .u8 ↑(k % 8)) O O (FB O O O AD (UL k)) ?_
  refine zG ?_
  refine V O O (DZ 2 AD O O) ?_
  refine V O O (CR O FV O (e7 E) O) ?_
  refine V (v := .int .u8 ↑(k % 8)) O O (FB O O O AD (UL k)) ?_
  refine zG ?_
  refine SY (l2 := [fB J l f, fI (.agg #[.bool l, f]) (4611686018427387904 + ((k : Nat) : Int)), fB C P N, fI (.agg #[.bool n8, s8]) b, fI (.agg #[.bool P, N]) a, fX Q (64) ([.bool false, .slice none 0 0, .bool false, .slice none 0 0]), fX D (79) ([.int .i8 a, .int .i8 b, .int .u8 ↑k]), fW w]) E (fun w E => zE) ([5]) ([0, 1, 3, 2, 4, 5]) I I I I AE ?_
  replace E := E.drew
  refine SP (o := ⟨some 41, _, _, _, _, _⟩) (v := .agg #[.bool n8, s8]) O O O O (fun w e => CT FM O O (e.2.2.1) O) ?_
  refine zG ?_
  refine SP (o := ⟨some 42, _, _, _, _, _⟩) (v := .agg #[.bool l, f]) O O O O (fun w e => CT FM O O (e.1) O) ?_
  refine zG ?_
  refine SP (o := ⟨some 44, _, _, _, _, _⟩) (v := .agg #[.bool l, f]) O O O O (fun w e => CT FM O O (e.1) O) ?_
  refine zG ?_
  refine JF (o := ⟨some 43, _, _, _, _, _⟩) O O O O (CG EE O (OL _ b _ (4611686018427387904 + ((k : Nat) : Int)) _ (e4 E) E.2.1 (Fits.mono F7 AD) (Fits.mono q AD)) O E ?_)
  clear E
  intro d9 ew ej _ E
  refine ⟨E.2, ?_⟩
  have bc : Fits (b * (4611686018427387904 + ((k : Nat) : Int))) 8 := FZ F7 q
  refine zG ?_
  refine JF (o := ⟨some 45, _, _, _, _, _⟩) O O O O (CG EE O (OL _ (b * (4611686018427387904 + ((k : Nat) : Int))) _ (4611686018427387904 + ((k : Nat) : Int)) _ E.1 E.2.2.1 (Fits.mono bc AD) (Fits.mono q AD)) O E ?_)
  clear E
  intro d7 ev ei _ E
  refine ⟨E.2.2, ?_⟩
  have cu : Fits ((b * (4611686018427387904 + ((k : Nat) : Int))) * (4611686018427387904 + ((k : Nat) : Int))) 12 := FZ bc q
  have U := e4 E
  refine zG ?_
  replace E := (Env.i (Env.i (Env.b (Env.i (Env.b (Env.i (Env.i (Env.x (Env.x (Env.ww (Env.nil _) (PP E)) (e9 E)) (e8 E)) (e7 E)) (e6 E)) (e5 E)) (e3 E)) E.2.2.1) E.2.1) E.1)
  refine S1b (o := ⟨none, _, _, _, _, _⟩) O O O O (BX FM O O O U O O (IsI.one E.1) ?_)
  intro d6 au ad
  replace E := (E.onl (U.noW (IsI.now (e5 E))) zK au).b ad
  clear U au ad
  refine ⟨E.2.2.2, ?_⟩
  refine zG ?_
  refine EF O (CZ FN O (NE _ a _ ((b * (4611686018427387904 + ((k : Nat) : Int))) * (4611686018427387904 + ((k : Nat) : Int))) _ (e7 E) E.2.1 (Int.mul_ne_zero (Int.mul_ne_zero h0 Z) Z) (Fits.mono R AD) (Fits.mono cu AD)) O E ?_)
  clear E
  intro d4 ca bx cg bq _ E
  have T := PP E
  refine zG ?_
  replace E := Sn (Sn Sp) E
  refine zG ?_
  refine EF O (BX GI O O O T O O (LM (IsI.one E.2.1) (IsI.one E.1)) ?_)
  intro d3 ar ac
  replace E := (E.onl (T.noW (NL CW CW)) zK ar).x ac
  clear T ar ac
  have c4 := CY GI E.1 rfl
  refine zG ?_
  exact AP (v := .agg #[.bool ca, bx, .bool cg, bq]) (by simp [results, results30, asAddr, c4]) O ⟨_, _, _, _, O, VD (congrArg Rat.num (by unfold IM; rw [u, if_neg y, if_pos H] : (Rat.divInt a ((b * (4611686018427387904 + ((k : Nat) : Int))) * (4611686018427387904 + ((k : Nat) : Int)))) = IM a b k)) E.2.2.1, VD (congrArg (fun z => ((Rat.den z : Nat) : Int)) (by unfold IM; rw [u, if_neg y, if_pos H] : (Rat.divInt a ((b * (4611686018427387904 + ((k : Nat) : Int))) * (4611686018427387904 + ((k : Nat) : Int)))) = IM a b k)) E.2.1, XX E⟩
 have u : rX b = 1 := if_pos h0
 refine zG ?_
 refine V O O (DZ 1 AD O O) ?_
 refine V O O (CR O aW O (e5 E) O) ?_
 refine zG ?_
 refine EF O (CG GH O (YK 1 _ AD AD) O E ?_)
 clear E
 intro ed G F _ E
 have a7 := E.2.1
 refine zG ?_
 replace E := So E
 refine zG ?_
 refine EF O (BX FM O O O a7 O O (IsI.one E.1) ?_)
 intro ec b7 an
 replace E := (E.onl (a7.noW (IsI.now E.2.2.1)) zK b7).b an
 clear a7 b7 an
 refine zG ?_
 refine V O O (DZ 2 AD O O) ?_
 refine V O O (CR O FV O (e6 E) O) ?_
 refine V (v := .int .i64 ↑k) O O (ES O O (by rw [underlying5]; rfl) underlying2 (JC Z)) ?_
 refine V (v := .int .i64 (4611686018427387904 + ((k : Nat) : Int))) O O (JJ O O O (JC Z)) ?_
 refine zG ?_
 refine EF O (CG GH O (YK (4611686018427387904 + ((k : Nat) : Int)) _ Z Z) O E ?_)
 clear E
 intro eb p h _ E
 have t : Fits (4611686018427387904 + ((k : Nat) : Int)) 4 := EY Z Z
 refine zG ?_
 refine EF O (CA FM O ?_)
 intro L ea Rc bm bb a6
 have cp : B < L := by rw [Rc]; exact Bx.lt E.2.1
 have co : C < L := by rw [Rc]; exact Bx.lt (e3 E)
 replace E := E.below bb
 clear Rc bm bb
 refine zG ?_
 refine EF O (BX FM O O O a6 O O (IsI.one E.1) ?_)
 intro e0 b6 am
 replace E := (E.onl (a6.noW CW) zK b6).b am
 clear a6 b6 am
 by_cases y : k % 8 = 7
 case pos =>
  refine zG ?_
  refine V O O (DZ 2 AD O O) ?_
  refine V O O (CR O FV O (e8 E) O) ?_
  refine V (v := .int .u8 ↑(k % 8)) O O (FB O O O AD (UL k)) ?_
  refine zG ?_
  refine SY (l2 := [fB L p h, fI (.agg #[.bool p, h]) (4611686018427387904 + ((k : Nat) : Int)), fB B G F, fI (.agg #[.bool G, F]) 1, fI (.agg #[.bool n8, s8]) b, fI (.agg #[.bool P, N]) a, fX Q (64) ([.bool false, .slice none 0 0, .bool false, .slice none 0 0]), fX D (79) ([.int .i8 a, .int .i8 b, .int .u8 ↑k]), fW w]) E (fun w E => zE) ([10]) ([0, 1, 3, 5, 6, 7, 2, 4, 8, 9, 10]) I I I I AE ?_
  replace E := E.drew
  refine SP (o := ⟨some 27, _, _, _, _, _⟩) (v := .agg #[.bool P, N]) O O O O (fun w e => CT FM O O (e4 e) O) ?_
  refine zG ?_
  refine SP (o := ⟨some 28, _, _, _, _, _⟩) (v := .agg #[.bool p, h]) O O O O (fun w e => CT FM O O (e.1) O) ?_
  refine zG ?_
  refine SP (o := ⟨some 30, _, _, _, _, _⟩) (v := .agg #[.bool p, h]) O O O O (fun w e => CT FM O O (e.1) O) ?_
  refine zG ?_
  refine SP (o := ⟨some 32, _, _, _, _, _⟩) (v := .pointer (some ⟨D, 2, none⟩)) O O O O (fun w e => DZ 2 AD O O) ?_
  refine zG ?_
  refine SP (o := ⟨some 33, _, _, _, _, _⟩) (v := .int .u8 ↑k) O O O O (fun w e => CR O FV O (e8 e) O) ?_
  refine zG ?_
  refine SP (o := ⟨some 34, _, _, _, _, _⟩) (v := .int .i64 ↑k) O O O O (fun w e => ES O O (by rw [underlying5]; rfl) underlying2 (JC Z)) ?_
  refine zG ?_
  refine JF (o := ⟨some 29, _, _, _, _, _⟩) O O O O (CG EE O (OL _ a _ (4611686018427387904 + ((k : Nat) : Int)) _ (e6 E) E.2.1 (Fits.mono R AD) (Fits.mono t AD)) O E ?_)
  clear E
  intro dz f6 eu _ E
  refine ⟨E.2, ?_⟩
  have bk : Fits (a * (4611686018427387904 + ((k : Nat) : Int))) 8 := FZ R t
  refine zG ?_
  refine JF (o := ⟨some 31, _, _, _, _, _⟩) O O O O (CG EE O (OL _ (a * (4611686018427387904 + ((k : Nat) : Int))) _ (4611686018427387904 + ((k : Nat) : Int)) _ E.1 E.2.2.1 (Fits.mono bk AD) (Fits.mono t AD)) O E ?_)
  clear E
  intro dy f5 et _ E
  refine ⟨E.2.2, ?_⟩
  have bj : Fits ((a * (4611686018427387904 + ((k : Nat) : Int))) * (4611686018427387904 + ((k : Nat) : Int))) 12 := FZ bk t
  refine zG ?_
  refine JF (o := ⟨some 35, _, _, _, _, _⟩) O O O O (CG GH O (YK ((k : Nat) : Int) _ Z Z) O E ?_)
  clear E
  intro dx f4 es _ E
  refine ⟨E.2.2.2, ?_⟩
  have bi : Fits ((k : Nat) : Int) 4 := EY Z Z
  refine zG ?_
  refine JF (o := ⟨some 36, _, _, _, _, _⟩) O O O O (CG SJ O (wX _ ((a * (4611686018427387904 + ((k : Nat) : Int))) * (4611686018427387904 + ((k : Nat) : Int))) _ ((k : Nat) : Int) _ E.2.1 E.1 (Fits.mono bj AD) (Fits.mono bi AD)) O E ?_)
  clear E
  intro dw f3 er _ E
  refine ⟨E.2.2.2.2, ?_⟩
  have cx : Fits (((a * (4611686018427387904 + ((k : Nat) : Int))) * (4611686018427387904 + ((k : Nat) : Int))) + ((k : Nat) : Int)) 13 := bY bj bi (k := 12) AD AD
  have a5 := e8 E
  refine zG ?_
  replace E := (Env.i (Env.i (Env.i (Env.i (Env.b (Env.i (Env.b (Env.i (Env.i (Env.i (Env.x (Env.x (Env.ww (Env.nil _) (VE E)) (XX E)) (RG E)) (PP E)) (e9 E)) (e7 E)) (e6 E)) (e5 E)) (e4 E)) (e3 E)) E.2.2.1) E.2.1) E.1)
  refine S1b (o := ⟨none, _, _, _, _, _⟩) O O O O (BX FM O O O a5 O O (IsI.one E.1) ?_)
  intro dv b5 al
  replace E := (E.onl (a5.noW (IsI.now (e9 E))) zK b5).b al
  clear a5 b5 al
  refine ⟨E.2.2.2.2.2, ?_⟩
  refine zG ?_
  refine V O O (DZ 2 AD O O) ?_
  refine V O O (CR O FV O (XX E) O) ?_
  refine V (v := .int .u8 ↑(k % 8)) O O (FB O O O AD (UL k)) ?_
  refine zG ?_
  refine EF O (CZ FN O (NE _ (((a * (4611686018427387904 + ((k : Nat) : Int))) * (4611686018427387904 + ((k : Nat) : Int))) + ((k : Nat) : Int)) _ 1 _ E.2.1 (e8 E) Z (Fits.mono cx AD) (Fits.mono (LU (m := 4) AD : Fits 1 4) AD)) O E ?_)
  clear E
  intro du ce c2 ck bv _ E
  have a4 := VE E
  refine zG ?_
  replace E := Sn (Sn Su) E
  refine zG ?_
  refine EF O (BX GI O O O a4 O O (LM (IsI.one E.2.1) (IsI.one E.1)) ?_)
  intro dt b4 ak
  replace E := (E.onl (a4.noW (NL CW CW)) zK b4).x ak
  clear a4 b4 ak
  have c8 := CY GI E.1 rfl
  refine zG ?_
  exact AP (v := .agg #[.bool ce, c2, .bool ck, bv]) (by simp [results, results30, asAddr, c8]) O ⟨_, _, _, _, O, VD (congrArg Rat.num (by unfold IM; rw [u, if_pos y] : (Rat.divInt (((a * (4611686018427387904 + ((k : Nat) : Int))) * (4611686018427387904 + ((k : Nat) : Int))) + ((k : Nat) : Int)) 1) = IM a b k)) E.2.2.1, VD (congrArg (fun z => ((Rat.den z : Nat) : Int)) (by unfold IM; rw [u, if_pos y] : (Rat.divInt (((a * (4611686018427387904 + ((k : Nat) : Int))) * (4611686018427387904 + ((k : Nat) : Int))) + ((k : Nat) : Int)) 1) = IM a b k)) E.2.1, e15 E⟩
 by_cases H : k % 8 = 6
 case neg =>
  refine zG ?_
  refine V O O (DZ 2 AD O O) ?_
  refine V O O (CR O FV O (e8 E) O) ?_
  refine V (v := .int .u8 ↑(k % 8)) O O (FB O O O AD (UL k)) ?_
  refine zG ?_
  refine V O O (DZ 2 AD O O) ?_
  refine V O O (CR O FV O (e8 E) O) ?_
  refine V (v := .int .u8 ↑(k % 8)) O O (FB O O O AD (UL k)) ?_
  refine zG ?_
  refine EF O (CZ FN O (NE _ a _ 1 _ (e6 E) (e3 E) Z (Fits.mono R AD) (Fits.mono (LU (m := 4) AD : Fits 1 4) AD)) O E ?_)
  clear E
  intro dm cc c0 ci bt _ E
  have a1 := e9 E
  refine zG ?_
  replace E := dl9 E
  refine zG ?_
  refine EF O (BX GI O O O a1 O O (LM (IsI.one E.2.1) (IsI.one E.1)) ?_)
  intro dl az ah
  replace E := (E.onl (a1.noW (NL CW CW)) zK az).x ah
  clear a1 az ah
  have c6 := CY GI E.1 rfl
  refine zG ?_
  exact AP (v := .agg #[.bool cc, c0, .bool ci, bt]) (by simp [results, results30, asAddr, c6]) O ⟨_, _, _, _, O, VD (congrArg Rat.num (by unfold IM; rw [u, if_neg y, if_neg H] : (Rat.divInt a 1) = IM a b k)) E.2.2.1, VD (congrArg (fun z => ((Rat.den z : Nat) : Int)) (by unfold IM; rw [u, if_neg y, if_neg H] : (Rat.divInt a 1) = IM a b k)) E.2.1, RG E⟩
 refine zG ?_
 refine V O O (DZ 2 AD O O) ?_
 refine V O O (CR O FV O (e8 E) O) ?_
 refine V (v := .int .u8 ↑(k % 8)) O O (FB O O O AD (UL k)) ?_
 refine zG ?_
 refine V O O (DZ 2 AD O O) ?_
 refine V O O (CR O FV O (e8 E) O) ?_
 refine V (v := .int .u8 ↑(k % 8)) O O (FB O O O AD (UL k)) ?_
 refine zG ?_
 refine SY (l2 := [fB L p h, fI (.agg #[.bool p, h]) (4611686018427387904 + ((k : Nat) : Int)), fI (.agg #[.bool G, F]) 1, fB C P N, fI (.agg #[.bool n8, s8]) b, fI (.agg #[.bool P, N]) a, fX Q (64) ([.bool false, .slice none 0 0, .bool false, .slice none 0 0]), fX D (79) ([.int .i8 a, .int .i8 b, .int .u8 ↑k]), fW w]) E (fun w E => zE) ([5]) ([0, 1, 3, 2, 4, 5]) I I I I AE ?_
 replace E := E.drew
 refine SP (o := ⟨some 41, _, _, _, _, _⟩) (v := .agg #[.bool G, F]) O O O O (fun w e => CT FM O O (e.2.2.1) O) ?_
 refine zG ?_
 refine SP (o := ⟨some 42, _, _, _, _, _⟩) (v := .agg #[.bool p, h]) O O O O (fun w e => CT FM O O (e.1) O) ?_
 refine zG ?_
 refine SP (o := ⟨some 44, _, _, _, _, _⟩) (v := .agg #[.bool p, h]) O O O O (fun w e => CT FM O O (e.1) O) ?_
 refine zG ?_
 refine JF (o := ⟨some 43, _, _, _, _, _⟩) O O O O (CG EE O (OL _ 1 _ (4611686018427387904 + ((k : Nat) : Int)) _ (e3 E) E.2.1 (Fits.mono (LU (m := 4) AD : Fits 1 4) AD) (Fits.mono t AD)) O E ?_)
 clear E
 intro ds f2 ep _ E
 refine ⟨E.2, ?_⟩
 have bh : Fits (1 * (4611686018427387904 + ((k : Nat) : Int))) 8 := FZ (LU (m := 4) AD : Fits 1 4) t
 refine zG ?_
 refine JF (o := ⟨some 45, _, _, _, _, _⟩) O O O O (CG EE O (OL _ (1 * (4611686018427387904 + ((k : Nat) : Int))) _ (4611686018427387904 + ((k : Nat) : Int)) _ E.1 E.2.2.1 (Fits.mono bh AD) (Fits.mono t AD)) O E ?_)
 clear E
 intro dr f1 eo _ E
 refine ⟨E.2.2, ?_⟩
 have cw : Fits ((1 * (4611686018427387904 + ((k : Nat) : Int))) * (4611686018427387904 + ((k : Nat) : Int))) 12 := FZ bh t
 have a3 := e4 E
 refine zG ?_
 replace E := (Env.i (Env.i (Env.b (Env.i (Env.i (Env.b (Env.i (Env.i (Env.x (Env.x (Env.ww (Env.nil _) (RG E)) (PP E)) (e9 E)) (e8 E)) (e7 E)) (e6 E)) (e5 E)) (e3 E)) E.2.2.1) E.2.1) E.1)
 refine S1b (o := ⟨none, _, _, _, _, _⟩) O O O O (BX FM O O O a3 O O (IsI.one E.1) ?_)
 intro dq b3 aj
 replace E := (E.onl (a3.noW (IsI.now (e4 E))) zK b3).b aj
 clear a3 b3 aj
 refine ⟨E.2.2.2, ?_⟩
 refine zG ?_
 refine EF O (CZ FN O (NE _ a _ ((1 * (4611686018427387904 + ((k : Nat) : Int))) * (4611686018427387904 + ((k : Nat) : Int))) _ (e8 E) E.2.1 (Int.mul_ne_zero (Int.mul_ne_zero AD Z) Z) (Fits.mono R AD) (Fits.mono cw AD)) O E ?_)
 clear E
 intro dp cd c1 cj bu _ E
 have a2 := RG E
 refine zG ?_
 replace E := Sn (Sn So) E
 refine zG ?_
 refine EF O (BX GI O O O a2 O O (LM (IsI.one E.2.1) (IsI.one E.1)) ?_)
 intro dn b0 ai
 replace E := (E.onl (a2.noW (NL CW CW)) zK b0).x ai
 clear a2 b0 ai
 have c7 := CY GI E.1 rfl
 refine zG ?_
 exact AP (v := .agg #[.bool cd, c1, .bool cj, bu]) (by simp [results, results30, asAddr, c7]) O ⟨_, _, _, _, O, VD (congrArg Rat.num (by unfold IM; rw [u, if_neg y, if_pos H] : (Rat.divInt a ((1 * (4611686018427387904 + ((k : Nat) : Int))) * (4611686018427387904 + ((k : Nat) : Int)))) = IM a b k)) E.2.2.1, VD (congrArg (fun z => ((Rat.den z : Nat) : Int)) (by unfold IM; rw [u, if_neg y, if_pos H] : (Rat.divInt a ((1 * (4611686018427387904 + ((k : Nat) : Int))) * (4611686018427387904 + ((k : Nat) : Int)))) = IM a b k)) E.2.1, VE E⟩
end Go.Proofs.YtmppigbbkjepiaaGreatDoor
