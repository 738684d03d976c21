/- Helping facts of SameQ; no other conditions. -/
import Derived.Test.YtmppigbbkjepiaaGreatDoorRat1
import Derived.Test.YtmppigbbkjepiaaGreatDoorRefA
set_option maxHeartbeats 8000000
set_option maxRecDepth 100000
namespace Go.Proofs.YtmppigbbkjepiaaGreatDoor
open Go.Proofs.Tryz
open Go.RowKit W
theorem Fm {x y : Int} (h1 : decide (x < 0) = decide (y < 0)) (h2 : x.natAbs = y.natAbs) : decide (x = y) = true := by
  rw [decide_eq_decide] at h1
  rw [decide_eq_true_eq]; omega
theorem qK {x y : Int} (h : (CC x.natAbs).length ≠ (CC y.natAbs).length) : decide (x = y) = false := by
  rw [decide_eq_false_iff_not]; rintro rfl; exact h rfl
theorem tY {x y : Int} (i : Nat) (h : gd (CC x.natAbs) i ≠ gd (CC y.natAbs) i) : decide (x = y) = false := by
  rw [decide_eq_false_iff_not]; rintro rfl; exact h rfl
theorem qJ {x y : Int} (h : decide (x < 0) ≠ decide (y < 0)) : decide (x = y) = false := by
  rw [decide_eq_false_iff_not]; rintro rfl; exact h rfl
def Dy (a b : List Nat) (k : Nat) : Prop := ∀ i, i < k → gd a i = gd b i
theorem xG (va vb : Value) (x y : Int) (w : World) (ha : IsI w va x) (hb : IsI w vb y) :
    Calls prog 140 #[va, vb] w (NP w (decide (x = y))) := by
  obtain ⟨aoa, capa, rfl, sa, ha1, ha2⟩ := ha.parts
  obtain ⟨aob, capb, rfl, sb, hb1, hb2⟩ := hb.parts
  obtain ⟨la, hla⟩ : ∃ l, l = CC x.natAbs := ⟨_, rfl⟩
  obtain ⟨lb, hlb⟩ : ∃ l, l = CC y.natAbs := ⟨_, rfl⟩
  obtain ⟨nx, hnx⟩ : ∃ n, n = decide (x < 0) := ⟨_, rfl⟩
  obtain ⟨ny, hny⟩ : ∃ n, n = decide (y < 0) := ⟨_, rfl⟩
  obtain ⟨R, hR⟩ : ∃ n, n = decide (x = y) := ⟨_, rfl⟩
  rw [← hla] at sa ha1
  rw [← hlb] at sb hb1
  rw [← hla, ← hlb, ← hnx, ← hny, ← hR]
  obtain ⟨_, _, e1, _, _, _, _, sa4⟩ := sa
  obtain ⟨_, _, e2, _, _, _, _, sb4⟩ := sb
  simp only [Value.slice.injEq] at e1 e2
  obtain ⟨rfl, _, rfl⟩ := e1
  obtain ⟨rfl, _, rfl⟩ := e2
  have HSA := Lib.hid sa4
  have HSB := Lib.hid sb4
  have HLA := Lib.hid hla
  have HLB := Lib.hid hlb
  have HNX := Lib.hid hnx
  have HNY := Lib.hid hny
  have HR := Lib.hid hR
  clear ha hb hla hlb hnx hny hR sa4 sb4
  obtain ⟨W, hW, hsz, B0, c0, c1, c2, c3⟩ := Oc w nx ny (.slice aoa la.length capa) (.slice aob lb.length capb)
  by_cases hs : nx = ny
  · subst hs
    have hs0 : (nx != nx) = false := by simp
    by_cases hl : la.length = lb.length
    · have hl0 : ((la.length : Int) != (lb.length : Int)) = false := by rw [bne_eq_false_iff_eq]; omega
      have HL := Lib.hid hl
      clear hl
      go_enter func140, ntmps140
      go_upto_region 1 with fail
      rw [← hW]
      clear hW hsz
      go_wp2
      go_loopw [5] (fun i wr => ∃ k : Nat, k ≤ la.length ∧ i = .int .i64 k ∧ Hid (Dy la lb k) ∧ ∃ q, wr = W.drewN q) (fun i _ => (la.length : Int).toNat - (intOf i).toNat)
      case atStart => exact ⟨0, by omega, rfl, fun i hi => absurd hi AA, 0, rfl⟩
      case round =>
        obtain ⟨k, hk, rfl, hst, q, rfl⟩ := hrel
        by_cases hlt : k < la.length
        · obtain ⟨b, off, rfl, hc⟩ := HSA.out k hlt
          obtain ⟨b2, off2, rfl, hc2⟩ := HSB.out k (by have := HL.out; omega)
          have hc := CX hc B0
          have hc2 := CX hc2 B0
          have hlt2 : (k : Int) < (lb.length : Int) := by have := HL.out; omega
          have hk0 : (0 : Int) ≤ (k : Int) := by omega
          have hlt1 : (k : Int) < (la.length : Int) := by omega
          by_cases hx : gd la k = gd lb k
          · have h1 : (((gd la k : Nat) : Int) != ((gd lb k : Nat) : Int)) = false := by rw [bne_eq_false_iff_eq]; omega
            have HST : Hid (Dy la lb (k + 1)) := by
              intro i hi
              by_cases e : i = k
              · subst e; exact hx
              · exact hst.out i AA
            clear hx hst
            go_wp2
            go_quiet (fail)
            go_wp2
            go_roundw
            case rel => exact ⟨k + 1, by omega, by go_num, HST, (by first | exact ⟨_, rfl⟩ | exact ⟨_, by simp only [World.drewN_drewN]; rfl⟩)⟩
            case measure => simp [intOf]; omega
          · have h1 : (((gd la k : Nat) : Int) != ((gd lb k : Nat) : Int)) = true := by rw [bne_iff_ne]; omega
            have HRF : Hid (R = false) := by
              show R = false
              rw [HR.out]; exact tY k (by rw [← HLA.out, ← HLB.out]; exact hx)
            clear hx hst
            go_wp2
            go_quiet (fail)
            go_wp2
            go_ret
            exact ⟨by rw [HRF.out]; rfl, IG (IG B0 _) _⟩
        · have HRT : Hid (R = true) := by
            show R = true
            rw [HR.out]
            refine Fm (by rw [← HNX.out, ← HNY.out]) (vB ?_)
            rw [← HLA.out, ← HLB.out]
            exact rF HL.out fun i hi => hst.out i AA
          clear hst
          go_wp2
          go_ret
          exact ⟨by rw [HRT.out]; rfl, IG B0 _⟩
    · have hl0 : ((la.length : Int) != (lb.length : Int)) = true := by rw [bne_iff_ne]; omega
      have HRF : Hid (R = false) := by
        show R = false
        rw [HR.out]; exact qK (by rw [← HLA.out, ← HLB.out]; exact hl)
      clear hl
      go_enter func140, ntmps140
      go_upto_region 1 with fail
      rw [← hW]
      clear hW hsz
      go_wp2
      go_ret
      exact ⟨by rw [HRF.out]; rfl, B0⟩
  · have HRF : Hid (R = false) := by
      show R = false
      rw [HR.out]; exact qJ (by rw [← HNX.out, ← HNY.out]; exact hs)
    have hs0 : (nx != ny) = true := by rw [bne_iff_ne]; exact hs
    clear hs0
    cases nx <;> cases ny <;> (first | exact absurd rfl hs | skip)
    all_goals
      clear hs
      go_enter func140, ntmps140
      go_upto_region 1 with fail
      rw [← hW]
      clear hW hsz
      go_wp2
      go_ret
      exact ⟨by rw [HRF.out]; rfl, B0⟩
end Go.Proofs.YtmppigbbkjepiaaGreatDoor
namespace Go.Proofs.YtmppigbbkjepiaaGreatDoor
open Go.Proofs.Tryz
open Go.RowKit W
theorem EE (f : Nat) (hf : f < 3) {ρ : Operand → Value} {o : Oper} {w : World} {x : Operand} {b : Nat} (ho : o.op = .fieldAddr 79 x f) (hx : ρ x = .pointer (some ⟨b, 0, none⟩)) : (execOp ρ o).run prog w = .ok (.value (.pointer (some ⟨b, f, none⟩))) w := by
  have : f = 0 ∨ f = 1 ∨ f = 2 := by omega
  rcases this with rfl | rfl | rfl <;> (unfold execOp; rw [ho]; simp [hx, go_sem])
theorem cP (w : World) : (isAgg 77).run prog w = .ok false w := by simp [go_sem]
theorem GG (w : World) : (isAgg 5).run prog w = .ok false w := by simp [go_sem]
theorem CU {f : Nat} {args : Array Value} {w : World} {a b : Bool} (h : a = b) (hc : Calls prog f args w (NP w a)) : Calls prog f args w (NP w b) := h ▸ hc
theorem Kb {p q p' q' : Int} (h : p = p') : decide (q = q') = decide (p = p' ∧ q = q') := by simp [h]
theorem Fl {p q p' q' : Int} (h : ¬ p = p') : false = decide (p = p' ∧ q = q') := by simp [h]
theorem VS (k : Nat) : ((k : Nat) : Int).tmod 8 = ((k % 8 : Nat) : Int) := (Int.ofNat_tmod k 8).symm
theorem Xi (na : Bool) (sa : Value) (ma : Bool) (ta : Value) (p q : Int) (nb : Bool) (sb : Value) (mb : Bool) (tb : Value) (p' q' : Int) (w : World) (hna : IsI w (.agg #[.bool na, sa]) p) (hda : IsI w (.agg #[.bool ma, ta]) q) (hnb : IsI w (.agg #[.bool nb, sb]) (p')) (hdb : IsI w (.agg #[.bool mb, tb]) (q')) :
    Calls prog 92 #[.agg #[.bool na, sa, .bool ma, ta], .agg #[.bool nb, sb, .bool mb, tb]] w (NP w (decide (p = p' ∧ q = q'))) := by
 have E := Env.start w
 replace E := (E.i hna).i hda
 replace E := (E.i hnb).i hdb
 go_enter func92, ntmps92
 refine zG ?_
 refine EF O (CI (cs := [.bool na, sa, .bool ma, ta]) O O ?_)
 intro H B e1 t l h
 replace E := E.below l
 clear e1
 replace E := E.x h
 refine zG ?_
 refine EF O (CI (cs := [.bool nb, sb, .bool mb, tb]) O O ?_)
 intro G z e2 o k f
 replace E := E.below k
 clear e2
 replace E := E.x f
 by_cases e : p = p'
 case neg =>
  refine zG ?_
  refine V O O (EC O O) ?_
  refine V O O (CS O O E.2.1 O O) ?_
  refine V O O (EC O O) ?_
  refine V O O (CS O O E.1 O O) ?_
  refine zG ?_
  refine EF O (CA RU O (CU (decide_eq_false e) (xG _ _ p (p') _ (e5 E) (e3 E))) O E ?_)
  intro u C E
  refine zG ?_
  exact ⟨XC (Fl e), e6 E⟩
 refine zG ?_
 refine V O O (EC O O) ?_
 refine V O O (CS O O E.2.1 O O) ?_
 refine V O O (EC O O) ?_
 refine V O O (CS O O E.1 O O) ?_
 refine zG ?_
 refine EF O (CA RU O (CU (decide_eq_true e) (xG _ _ p (p') _ (e5 E) (e3 E))) O E ?_)
 intro y F E
 refine zG ?_
 refine V Z O (DU O O) ?_
 refine V Z O (CS O O E.2.1 O O) ?_
 refine V Z O (DU O O) ?_
 refine zG ?_
 refine V Z O (CS O O E.1 O O) ?_
 refine zG ?_
 refine EF O (CA RU O (xG _ _ q (q') _ (e4 E) E.2.2.1) O E ?_)
 intro v D E
 refine zG ?_
 exact ⟨XC (Kb e), e6 E⟩
theorem iT (va : Value) (n : Int) (vb : Value) (d : Int) (w : World) (hva : IsI w va n) (hvb : IsI w vb d) (hd : d ≠ 0) (Fn : Fits n 900000000) (Fd : Fits d 900000000) :
    Calls prog 124 #[va, vb] w (RetZ w (n / d)) := by
 have E := Env.start w
 obtain ⟨U, R, rfl, _, _⟩ := hva.sh
 replace E := E.i hva
 obtain ⟨T, Q, rfl, _, _⟩ := hvb.sh
 replace E := E.i hvb
 go_enter func124, ntmps124
 refine zG ?_
 refine EF O (CI O O ?_)
 intro H w1 e1 z1 d1 N
 have l1 : w.heap.size ≤ H := by rw [e1]; exact E.2.2.1.size
 replace E := E.below d1
 clear e1
 replace E := E.b N
 refine zG ?_
 refine EF O (CI O O ?_)
 intro G w2 e2 z2 d2 L
 have B : H < G := by rw [e2]; exact Bx.lt E.1
 replace E := E.below d2
 clear e2
 replace E := E.b L
 refine zG ?_
 refine EF O (CB FU O ?_)
 intro F w3 e3 z3 d3 e
 have z : G < F := by rw [e3]; exact Bx.lt E.1
 replace E := E.below d3
 clear e3
 refine zG ?_
 refine EF O (iF eS O (Im _ n _ d _ (e3 E) E.2.2.1 (hd) (Fits.mono Fn AE) (Fits.mono Fd AE)) O E ?_)
 intro w5 X S m5 t5 Y E
 replace e := e.below Y
 refine zG ?_
 refine EF O (CB FU O ?_)
 intro D w6 e6 z6 C f
 have y : F < D := by rw [e6]; exact Bx.lt (e)
 replace E := E.below C
 replace e := Bx.below e C
 clear e6
 refine zG ?_
 refine EF O (CB FU O ?_)
 intro b7 w7 e7 z7 q h
 have u : D < b7 := by rw [e7]; exact Bx.lt (f)
 replace E := E.below q
 replace e := Bx.below e q
 replace f := Bx.below f q
 clear e7
 refine zG ?_
 refine EF O (BY FU O O O f O O (IsI.one E.2.1) ?_)
 intro w8 o J
 replace E := oB E f o J
 replace e := Bx.onl e AA o
 replace h := Bx.onl h AA o
 refine zG ?_
 refine EF O (BY FU O O O h O O (IsI.one E.2.1) ?_)
 intro w9 t I
 replace E := oB E h t I
 replace e := Bx.onl e AA t
 refine zG ?_
 refine EF O (BY FU O O O e O O (IsI.one (e3 E)) ?_)
 intro P p k
 replace E := oB E e p k
 have l := CY FU E.1 rfl
 refine zG ?_
 exact AQ (v := .agg #[.bool X, S]) (by simp [results, results124, asAddr, l]) O ⟨_, O, e4 E, e9 E⟩
theorem NV (va : Value) (n : Int) (vb : Value) (d : Int) (w : World) (hva : IsI w va n) (hvb : IsI w vb d) (hd : d ≠ 0) (Fn : Fits n 900000000) (Fd : Fits d 900000000) :
    Calls prog 78 #[va, vb] w (RetP w (Rat.divInt n d).num (((Rat.divInt n d).den : Nat) : Int)) := by
 have E := Env.start w
 obtain ⟨ag, ad, rfl, _, _⟩ := hva.sh
 replace E := E.i hva
 obtain ⟨af, ac, rfl, _, _⟩ := hvb.sh
 replace E := E.i hvb
 go_enter func78, ntmps78
 refine zG ?_
 refine EF O (CI O O ?_)
 intro b1 w1 e1 z1 d1 x1
 have l1 : w.heap.size ≤ b1 := by rw [e1]; exact E.2.2.1.size
 replace E := E.below d1
 clear e1
 replace E := E.b x1
 refine zG ?_
 refine EF O (CI O O ?_)
 intro b2 w2 e2 z2 d2 x2
 have a1 : b1 < b2 := by rw [e2]; exact Bx.lt E.1
 replace E := E.below d2
 clear e2
 replace E := E.b x2
 refine zG ?_
 refine EF O (CB GV O ?_)
 intro b3 w3 e3 z3 d3 e
 have a0 : b2 < b3 := by rw [e3]; exact Bx.lt E.1
 replace E := E.below d3
 clear e3
 refine zG ?_
 refine EF O (CH mQ O (Xo _ n _ d _ (e3 E) E.2.2.1 (Fits.mono Fn AE) (Fits.mono Fd AE)) O E ?_)
 intro w5 n5 s5 d5 E
 replace e := e.below d5
 have T : Fits ((Nat.gcd n.natAbs d.natAbs : Nat) : Int) 900000000 := Oy hd Fd
 refine zG ?_
 refine EF O (CB FU O ?_)
 intro b6 w6 e6 z6 d6 U
 have Y : b3 < b6 := by rw [e6]; exact Bx.lt (e)
 replace E := E.below d6
 replace e := Bx.below e d6
 clear e6
 refine zG ?_
 refine EF O (BY FU O O O U O O (IsI.one E.1) ?_)
 intro w7 X y7
 replace E := oB E U X y7
 replace e := Bx.onl e AA X
 by_cases f : d < 0
 case neg =>
  replace f : 0 < d := by omega
  refine zG ?_
  refine EF O (CK RW O (rW _ d _ (e4 E)) O E ?_)
  intro a6 P E
  replace e := e.below P
  refine zG ?_
  refine V O O (PN (c := false) O O O (Jt f)) ?_
  refine zG ?_
  refine sE E [0,1,3,4,2,5,6,7] ?_
  replace E := E.drew
  replace e := Bx.drew e
  refine zG ?_
  refine JM (o := ⟨some 16, _, _, _, _, _⟩) O O O O (CH NI O (iT _ n _ ((Nat.gcd n.natAbs d.natAbs : Nat) : Int) _ (e5 E) E.2.1 (cH (n := n) hd) (Fits.mono Fn AE) (Fits.mono T AE)) O E ?_)
  intro a4 y l N E
  replace e := e.below N
  refine ⟨E.2, ?_⟩
  refine zG ?_
  refine JM (o := ⟨some 19, _, _, _, _, _⟩) O O O O (CH NI O (iT _ d _ ((Nat.gcd n.natAbs d.natAbs : Nat) : Int) _ (e5 E) E.2.2.1 (cH (n := n) hd) (Fits.mono Fd AE) (Fits.mono T AE)) O E ?_)
  intro a3 u k L E
  replace e := e.below L
  refine ⟨E.2.2, ?_⟩
  refine zG ?_
  refine SW (v := .agg #[.bool y, l, .bool u, k]) O O O O O (fun w hS => LT O O O) ?_
  refine zG ?_
  refine JM (o := ⟨none, _, _, _, _, _⟩) O O O O (BY GV O O O e O O (MH (IsI.one E.2.1) (IsI.one E.1)) ?_)
  intro a2 I C
  replace E := (E.onl (e.noW (PY FM FM)) zK I).x C
  refine ⟨E.2.2.2, ?_⟩
  have G := CY GV E.1 rfl
  refine zG ?_
  exact AQ (v := .agg #[.bool y, l, .bool u, k]) (by simp [results, results78, asAddr, G]) O ⟨_, _, _, _, O, WH ((iQ f).symm) E.2.2.1, WH ((iR f).symm) E.2.1, e9 E⟩
 refine zG ?_
 refine EF O (CK RW O (rW _ d _ (e4 E)) O E ?_)
 intro w8 d8 E
 replace e := e.below d8
 refine zG ?_
 refine V O O (PN (c := true) O O O (Be f)) ?_
 refine zG ?_
 refine EF O (CH mP O (Xm _ ((Nat.gcd n.natAbs d.natAbs : Nat) : Int) _ E.2.1) O E ?_)
 intro ab ah ae S E
 replace e := e.below S
 have F9 : Fits (-((Nat.gcd n.natAbs d.natAbs : Nat) : Int)) 900000000 := wF T
 have h := E.2.1
 refine zG ?_
 replace E := XQ E
 refine zG ?_
 refine EF O (BY FU O O O h O O (IsI.one E.1) ?_)
 intro aa t F
 replace E := oB E h t F
 replace e := Bx.onl e AA t
 refine zG ?_
 refine sE E [0,1,3,4,2,5,6,7] ?_
 replace E := E.drew
 replace e := Bx.drew e
 refine zG ?_
 refine JM (o := ⟨some 16, _, _, _, _, _⟩) O O O O (CH NI O (iT _ n _ (-((Nat.gcd n.natAbs d.natAbs : Nat) : Int)) _ (e6 E) E.2.1 (Int.neg_ne_zero.2 (cH (n := n) hd)) (Fits.mono Fn AE) (Fits.mono F9 AE)) O E ?_)
 intro a9 B q R E
 replace e := e.below R
 refine ⟨E.2, ?_⟩
 refine zG ?_
 refine JM (o := ⟨some 19, _, _, _, _, _⟩) O O O O (CH NI O (iT _ d _ (-((Nat.gcd n.natAbs d.natAbs : Nat) : Int)) _ (e6 E) E.2.2.1 (Int.neg_ne_zero.2 (cH (n := n) hd)) (Fits.mono Fd AE) (Fits.mono F9 AE)) O E ?_)
 intro a8 z p Q E
 replace e := e.below Q
 refine ⟨E.2.2, ?_⟩
 refine zG ?_
 refine SW (v := .agg #[.bool B, q, .bool z, p]) O O O O O (fun w hS => LT O O O) ?_
 refine zG ?_
 refine JM (o := ⟨none, _, _, _, _, _⟩) O O O O (BY GV O O O e O O (MH (IsI.one E.2.1) (IsI.one E.1)) ?_)
 intro a7 J D
 replace E := (E.onl (e.noW (PY FM FM)) zK J).x D
 refine ⟨E.2.2.2, ?_⟩
 have H := CY GV E.1 rfl
 refine zG ?_
 exact AQ (v := .agg #[.bool B, q, .bool z, p]) (by simp [results, results78, asAddr, H]) O ⟨_, _, _, _, O, WH ((gH f).symm) E.2.2.1, WH ((gI f).symm) E.2.1, QM E⟩
def uE (b : Int) : Int := if b = 0 then 1 else b
def IU (a b : Int) (k : Nat) : Rat :=
  if k % 8 = 7 then Rat.divInt (a * (4611686018427387904 + (k : Int)) * (4611686018427387904 + (k : Int)) + (k : Int)) (uE b)
  else if k % 8 = 6 then Rat.divInt a (uE b * (4611686018427387904 + (k : Int)) * (4611686018427387904 + (k : Int)))
  else Rat.divInt a (uE b)
theorem Xs (a b : Int) (k : Nat) (w : World) (ha1 : -128 ≤ a) (ha2 : a ≤ 127) (hb1 : -128 ≤ b) (hb2 : b ≤ 127) (hk : k < 256) :
    Calls prog 30 #[.agg #[.int .i8 a, .int .i8 b, .int .u8 ↑k]] w (RetP w (IU a b k).num (((IU a b k).den : Nat) : Int)) := by
 have E := Env.start w
 go_enter func30, ntmps30
 refine zG ?_
 refine EF O (CI (cs := [.int .i8 a, .int .i8 b, .int .u8 ↑k]) O O ?_)
 intro C w1 e1 z1 d1 x1
 have l1 : w.heap.size ≤ C := by rw [e1]; exact E.1.size
 replace E := E.below d1
 clear e1
 replace E := E.x x1
 refine zG ?_
 refine EF O (CB GV O ?_)
 intro N w2 e2 z2 d2 x2
 have cz : C < N := by rw [e2]; exact Bx.lt E.1
 replace E := E.below d2
 clear e2
 replace E := E.x x2
 have cr : N < w2.heap.size := Bx.lt E.1
 refine zG ?_
 refine PA E [.op 0, .op 1, .op 2, .op 4, .op 5, .op 6, .av 8, .av 9, .op 3, .op 7, .op 8, .op 9] 2 (#[true, true, true, true, true, true, true, true, true, true, false, false]) Z Z Z Z AF AF ?_
 refine FP (v := .pointer (some ⟨C, 0, none⟩)) O O O O O (fun w e => EE 0 AE O O) ?_
 refine FP (v := .int .i8 a) O O O O O (fun w e => CP O cP O (e.2.1) O) ?_
 refine FP (v := .int .i64 a) O O O O O (fun w e => EO O O (by rw [underlying77]; rfl) underlying2 (JK AA)) ?_
 refine FP (v := .pointer (some ⟨C, 1, none⟩)) O O O O O (fun w e => EE 1 AE O O) ?_
 refine zG ?_
 refine FP (v := .int .i8 b) O O O O O (fun w e => CP O cP O (e.2.1) O) ?_
 refine FP (v := .int .i64 b) O O O O O (fun w e => EO O O (by rw [underlying77]; rfl) underlying2 (JK AA)) ?_
 refine FA _ (RunF.alloc FU O O O) ?_
 refine FA _ (RunF.alloc FU O O O) ?_
 refine zG ?_
 refine FE O O O O ?_
 intro w6 E
 refine CH IC O (dN a _ AA AA) O E ?_
 intro w5 L J d5 E
 refine kF d5 E O ?_
 have P : Fits a 4 := EV AA AA
 refine zG ?_
 refine FE O O O O ?_
 intro w9 E
 refine CH IC O (dN b _ AA AA) O E ?_
 intro w8 S R d8 E
 refine kF d8 E O ?_
 have F7 : Fits b 4 := EV AA AA
 refine zG ?_
 refine FF O O ?_
 intro b10 fc el
 have cq : N < b10 := by omega
 refine zG ?_
 refine FF O O ?_
 intro B fb b6
 have cp : N < B := by omega
 have b5 : B ≠ b10 := by rintro rfl; exact b6 AH
 refine zG ?_
 intro ek E
 refine H1 (i := 10) Z ?_
 have ac := E.2.1
 replace E := XQ E
 refine HE (o := ⟨none, _, _, _, _, _⟩) O O (BY FU O O O ac O O (IsI.one E.2.2.1) ?_)
 intro ej c7 b4
 replace E := oB E ac c7 b4
 refine ⟨E.2.2.2.2, ?_⟩
 refine zG ?_
 refine H1 (i := 11) Z ?_
 have ab := E.2.1
 replace E := XQ E
 refine HE (o := ⟨none, _, _, _, _, _⟩) O O (BY FU O O O ab O O (IsI.one E.2.1) ?_)
 intro ei c6 b3
 replace E := oB E ab c6 b3
 refine ⟨E.2.2.2.2, ?_⟩
 refine zG ?_
 refine HN Z ?_
 by_cases T : b = 0
 case neg =>
  have u : uE b = b := if_neg T
  refine zG ?_
  refine V O O (EE 1 AE O O) ?_
  refine V O O (CP O cP O (e5 E) O) ?_
  refine V O O (EW (c := false) O O O (beq_eq_false_iff_ne.2 T)) ?_
  refine zG ?_
  refine V O O (EE 2 AE O O) ?_
  refine V O O (CP O GG O (e5 E) O) ?_
  refine V (v := .int .i64 ↑k) O O (EO O O (by rw [underlying5]; rfl) underlying2 (JK AA)) ?_
  refine V (v := .int .i64 (4611686018427387904 + ((k : Nat) : Int))) O O (JD O O O (JK AA)) ?_
  refine zG ?_
  refine EF O (CH IC O (dN (4611686018427387904 + ((k : Nat) : Int)) _ AA AA) O E ?_)
  intro dn l f fm E
  have q : Fits (4611686018427387904 + ((k : Nat) : Int)) 4 := EV AA AA
  refine zG ?_
  refine EF O (CB FU O ?_)
  intro H dm Q d0 ct a2
  have cm : B < H := by rw [Q]; exact Bx.lt E.2.1
  have ck : b10 < H := by rw [Q]; exact Bx.lt E.2.2.1
  replace E := E.below ct
  clear Q
  refine zG ?_
  refine EF O (BY FU O O O a2 O O (IsI.one E.1) ?_)
  intro dl bw aq
  replace E := oB E a2 bw aq
  by_cases y : k % 8 = 7
  case pos =>
   refine zG ?_
   refine V O O (EE 2 AE O O) ?_
   refine V O O (CP O GG O (e7 E) O) ?_
   refine V (v := .int .u8 ↑(k % 8)) O O (DZ O O O AE (VS k)) ?_
   refine zG ?_
   refine TW (l2 := [fB H l f, fI (.agg #[.bool l, f]) (4611686018427387904 + ((k : Nat) : Int)), fB B S R, fI (.agg #[.bool S, R]) b, fI (.agg #[.bool L, J]) a, fX N (64) ([.bool false, .slice none 0 0, .bool false, .slice none 0 0]), fX C (79) ([.int .i8 a, .int .i8 b, .int .u8 ↑k]), fW w]) E (fun w E => zE) ([10]) ([0, 1, 3, 5, 6, 7, 2, 4, 8, 9, 10]) Z Z Z Z AF ?_
   replace E := E.drew
   refine SP (o := ⟨some 27, _, _, _, _, _⟩) (v := .agg #[.bool L, J]) O O O O (fun w e => CT FU O O (e3 e) O) ?_
   refine zG ?_
   refine SP (o := ⟨some 28, _, _, _, _, _⟩) (v := .agg #[.bool l, f]) O O O O (fun w e => CT FU O O (e.1) O) ?_
   refine zG ?_
   refine SP (o := ⟨some 30, _, _, _, _, _⟩) (v := .agg #[.bool l, f]) O O O O (fun w e => CT FU O O (e.1) O) ?_
   refine zG ?_
   refine SP (o := ⟨some 32, _, _, _, _, _⟩) (v := .pointer (some ⟨C, 2, none⟩)) O O O O (fun w e => EE 2 AE O O) ?_
   refine zG ?_
   refine SP (o := ⟨some 33, _, _, _, _, _⟩) (v := .int .u8 ↑k) O O O O (fun w e => CP O GG O (e7 e) O) ?_
   refine zG ?_
   refine SP (o := ⟨some 34, _, _, _, _, _⟩) (v := .int .i64 ↑k) O O O O (fun w e => EO O O (by rw [underlying5]; rfl) underlying2 (JK AA)) ?_
   refine zG ?_
   refine JM (o := ⟨some 29, _, _, _, _, _⟩) O O O O (CH EP O (PJ _ a _ (4611686018427387904 + ((k : Nat) : Int)) _ (e5 E) E.2.1 (Fits.mono P AE) (Fits.mono q AE)) O E ?_)
   intro dk f4 es fl E
   refine ⟨E.2, ?_⟩
   have ag : Fits (a * (4611686018427387904 + ((k : Nat) : Int))) 8 := GK P q
   refine zG ?_
   refine JM (o := ⟨some 31, _, _, _, _, _⟩) O O O O (CH EP O (PJ _ (a * (4611686018427387904 + ((k : Nat) : Int))) _ (4611686018427387904 + ((k : Nat) : Int)) _ E.1 E.2.2.1 (Fits.mono ag AE) (Fits.mono q AE)) O E ?_)
   intro dj f3 er fk E
   refine ⟨E.2.2, ?_⟩
   have af : Fits ((a * (4611686018427387904 + ((k : Nat) : Int))) * (4611686018427387904 + ((k : Nat) : Int))) 12 := GK ag q
   refine zG ?_
   refine JM (o := ⟨some 35, _, _, _, _, _⟩) O O O O (CH IC O (dN ((k : Nat) : Int) _ AA AA) O E ?_)
   intro di f2 ep fj E
   refine ⟨E.2.2.2, ?_⟩
   have ae : Fits ((k : Nat) : Int) 4 := EV AA AA
   refine zG ?_
   refine JM (o := ⟨some 36, _, _, _, _, _⟩) O O O O (CH TQ O (Af _ ((a * (4611686018427387904 + ((k : Nat) : Int))) * (4611686018427387904 + ((k : Nat) : Int))) _ ((k : Nat) : Int) _ E.2.1 E.1 (Fits.mono af AE) (Fits.mono ae AE)) O E ?_)
   intro dh f1 eo fi E
   refine ⟨E.2.2.2.2, ?_⟩
   have cw : Fits (((a * (4611686018427387904 + ((k : Nat) : Int))) * (4611686018427387904 + ((k : Nat) : Int))) + ((k : Nat) : Int)) 13 := dT af ae (k := 12) AE AE
   have a1 := e7 E
   refine zG ?_
   replace E := (Env.i (Env.i (Env.i (Env.i (Env.b (Env.i (Env.b (Env.i (Env.i (Env.x (Env.x (Env.ww (Env.nil _) (QP E)) (QQ E)) (QM E)) (e9 E)) (e8 E)) (e6 E)) (e5 E)) (e4 E)) (e3 E)) E.2.2.1) E.2.1) E.1)
   refine S1b (o := ⟨none, _, _, _, _, _⟩) O O O O (BY FU O O O a1 O O (IsI.one E.1) ?_)
   intro dg bv ap
   replace E := oB E a1 bv ap
   refine ⟨E.2.2.2.2.2, ?_⟩
   refine zG ?_
   refine V O O (EE 2 AE O O) ?_
   refine V O O (CP O GG O (QQ E) O) ?_
   refine V (v := .int .u8 ↑(k % 8)) O O (DZ O O O AE (VS k)) ?_
   refine zG ?_
   refine EF O (CV FW O (NV _ (((a * (4611686018427387904 + ((k : Nat) : Int))) * (4611686018427387904 + ((k : Nat) : Int))) + ((k : Nat) : Int)) _ b _ E.2.1 (e8 E) T (Fits.mono cw AE) (Fits.mono F7 AE)) O E ?_)
   intro de ca bg cg b9 fh E
   have a0 := QP E
   refine zG ?_
   replace E := NZ (NZ mC) E
   refine zG ?_
   refine EF O (BY GV O O O a0 O O (MH (IsI.one E.2.1) (IsI.one E.1)) ?_)
   intro dd bu ao
   replace E := (E.onl (a0.noW (PY FM FM)) zK bu).x ao
   have bm := CY GV E.1 rfl
   refine zG ?_
   exact AQ (v := .agg #[.bool ca, bg, .bool cg, b9]) (by simp [results, results30, asAddr, bm]) O ⟨_, _, _, _, O, WH (congrArg Rat.num (by unfold IU; rw [u, if_pos y] : (Rat.divInt (((a * (4611686018427387904 + ((k : Nat) : Int))) * (4611686018427387904 + ((k : Nat) : Int))) + ((k : Nat) : Int)) b) = IU a b k)) E.2.2.1, WH (congrArg (fun z => ((Rat.den z : Nat) : Int)) (by unfold IU; rw [u, if_pos y] : (Rat.divInt (((a * (4611686018427387904 + ((k : Nat) : Int))) * (4611686018427387904 + ((k : Nat) : Int))) + ((k : Nat) : Int)) b) = IU a b k)) E.2.1, iU E⟩
  by_cases G : k % 8 = 6
  case neg =>
   refine zG ?_
   refine V O O (EE 2 AE O O) ?_
   refine V O O (CP O GG O (e7 E) O) ?_
   refine V (v := .int .u8 ↑(k % 8)) O O (DZ O O O AE (VS k)) ?_
   refine zG ?_
   refine V O O (EE 2 AE O O) ?_
   refine V O O (CP O GG O (e7 E) O) ?_
   refine V (v := .int .u8 ↑(k % 8)) O O (DZ O O O AE (VS k)) ?_
   refine zG ?_
   refine EF O (CV FW O (NV _ a _ b _ (e5 E) (e4 E) T (Fits.mono P AE) (Fits.mono F7 AE)) O E ?_)
   intro d6 c8 bd ce b7 fd E
   have U := e8 E
   refine zG ?_
   replace E := dl8 E
   refine zG ?_
   refine EF O (BY GV O O O U O O (MH (IsI.one E.2.1) (IsI.one E.1)) ?_)
   intro d4 bq al
   replace E := (E.onl (U.noW (PY FM FM)) zK bq).x al
   have bk := CY GV E.1 rfl
   refine zG ?_
   exact AQ (v := .agg #[.bool c8, bd, .bool ce, b7]) (by simp [results, results30, asAddr, bk]) O ⟨_, _, _, _, O, WH (congrArg Rat.num (by unfold IU; rw [u, if_neg y, if_neg G] : (Rat.divInt a b) = IU a b k)) E.2.2.1, WH (congrArg (fun z => ((Rat.den z : Nat) : Int)) (by unfold IU; rw [u, if_neg y, if_neg G] : (Rat.divInt a b) = IU a b k)) E.2.1, QM E⟩
  refine zG ?_
  refine V O O (EE 2 AE O O) ?_
  refine V O O (CP O GG O (e7 E) O) ?_
  refine V (v := .int .u8 ↑(k % 8)) O O (DZ O O O AE (VS k)) ?_
  refine zG ?_
  refine V O O (EE 2 AE O O) ?_
  refine V O O (CP O GG O (e7 E) O) ?_
  refine V (v := .int .u8 ↑(k % 8)) O O (DZ O O O AE (VS k)) ?_
  refine zG ?_
  refine TW (l2 := [fB H l f, fI (.agg #[.bool l, f]) (4611686018427387904 + ((k : Nat) : Int)), fB b10 L J, fI (.agg #[.bool S, R]) b, fI (.agg #[.bool L, J]) a, fX N (64) ([.bool false, .slice none 0 0, .bool false, .slice none 0 0]), fX C (79) ([.int .i8 a, .int .i8 b, .int .u8 ↑k]), fW w]) E (fun w E => zE) ([5]) ([0, 1, 3, 2, 4, 5]) Z Z Z Z AF ?_
  replace E := E.drew
  refine SP (o := ⟨some 41, _, _, _, _, _⟩) (v := .agg #[.bool S, R]) O O O O (fun w e => CT FU O O (e.2.2.1) O) ?_
  refine zG ?_
  refine SP (o := ⟨some 42, _, _, _, _, _⟩) (v := .agg #[.bool l, f]) O O O O (fun w e => CT FU O O (e.1) O) ?_
  refine zG ?_
  refine SP (o := ⟨some 44, _, _, _, _, _⟩) (v := .agg #[.bool l, f]) O O O O (fun w e => CT FU O O (e.1) O) ?_
  refine zG ?_
  refine JM (o := ⟨some 43, _, _, _, _, _⟩) O O O O (CH EP O (PJ _ b _ (4611686018427387904 + ((k : Nat) : Int)) _ (e4 E) E.2.1 (Fits.mono F7 AE) (Fits.mono q AE)) O E ?_)
  intro dc f0 en fg E
  refine ⟨E.2, ?_⟩
  have ad : Fits (b * (4611686018427387904 + ((k : Nat) : Int))) 8 := GK F7 q
  refine zG ?_
  refine JM (o := ⟨some 45, _, _, _, _, _⟩) O O O O (CH EP O (PJ _ (b * (4611686018427387904 + ((k : Nat) : Int))) _ (4611686018427387904 + ((k : Nat) : Int)) _ E.1 E.2.2.1 (Fits.mono ad AE) (Fits.mono q AE)) O E ?_)
  intro db ez em ff E
  refine ⟨E.2.2, ?_⟩
  have cv : Fits ((b * (4611686018427387904 + ((k : Nat) : Int))) * (4611686018427387904 + ((k : Nat) : Int))) 12 := GK ad q
  have Y := e4 E
  refine zG ?_
  replace E := (Env.i (Env.i (Env.b (Env.i (Env.b (Env.i (Env.i (Env.x (Env.x (Env.ww (Env.nil _) (QM E)) (e9 E)) (e8 E)) (e7 E)) (e6 E)) (e5 E)) (e3 E)) E.2.2.1) E.2.1) E.1)
  refine S1b (o := ⟨none, _, _, _, _, _⟩) O O O O (BY FU O O O Y O O (IsI.one E.1) ?_)
  intro da bt an
  replace E := oB E Y bt an
  refine ⟨E.2.2.2, ?_⟩
  refine zG ?_
  refine EF O (CV FW O (NV _ a _ ((b * (4611686018427387904 + ((k : Nat) : Int))) * (4611686018427387904 + ((k : Nat) : Int))) _ (e7 E) E.2.1 (Int.mul_ne_zero (Int.mul_ne_zero T AA) AA) (Fits.mono P AE) (Fits.mono cv AE)) O E ?_)
  intro d9 c9 bf cf b8 fe E
  have X := QM E
  refine zG ?_
  replace E := NZ (NZ WJ) E
  refine zG ?_
  refine EF O (BY GV O O O X O O (MH (IsI.one E.2.1) (IsI.one E.1)) ?_)
  intro d7 br am
  replace E := (E.onl (X.noW (PY FM FM)) zK br).x am
  have bl := CY GV E.1 rfl
  refine zG ?_
  exact AQ (v := .agg #[.bool c9, bf, .bool cf, b8]) (by simp [results, results30, asAddr, bl]) O ⟨_, _, _, _, O, WH (congrArg Rat.num (by unfold IU; rw [u, if_neg y, if_pos G] : (Rat.divInt a ((b * (4611686018427387904 + ((k : Nat) : Int))) * (4611686018427387904 + ((k : Nat) : Int)))) = IU a b k)) E.2.2.1, WH (congrArg (fun z => ((Rat.den z : Nat) : Int)) (by unfold IU; rw [u, if_neg y, if_pos G] : (Rat.divInt a ((b * (4611686018427387904 + ((k : Nat) : Int))) * (4611686018427387904 + ((k : Nat) : Int)))) = IU a b k)) E.2.1, QP E⟩
 have u : uE b = 1 := if_pos T
 refine zG ?_
 refine V O O (EE 1 AE O O) ?_
 refine V O O (CP O cP O (e5 E) O) ?_
 refine zG ?_
 refine EF O (CH IC O (dN 1 _ AE AE) O E ?_)
 intro eh F D fx E
 have aa := E.2.1
 refine zG ?_
 replace E := XQ E
 refine zG ?_
 refine EF O (BY FU O O O aa O O (IsI.one E.1) ?_)
 intro eg c5 b0
 replace E := oB E aa c5 b0
 refine zG ?_
 refine V O O (EE 2 AE O O) ?_
 refine V O O (CP O GG O (e6 E) O) ?_
 refine V (v := .int .i64 ↑k) O O (EO O O (by rw [underlying5]; rfl) underlying2 (JK AA)) ?_
 refine V (v := .int .i64 (4611686018427387904 + ((k : Nat) : Int))) O O (JD O O O (JK AA)) ?_
 refine zG ?_
 refine EF O (CH IC O (dN (4611686018427387904 + ((k : Nat) : Int)) _ AA AA) O E ?_)
 intro ef p h fw E
 have t : Fits (4611686018427387904 + ((k : Nat) : Int)) 4 := EV AA AA
 refine zG ?_
 refine EF O (CB FU O ?_)
 intro I ee Xv d3 cu a9
 have co : B < I := by rw [Xv]; exact Bx.lt E.2.1
 have cn : b10 < I := by rw [Xv]; exact Bx.lt (e3 E)
 replace E := E.below cu
 clear Xv
 refine zG ?_
 refine EF O (BY FU O O O a9 O O (IsI.one E.1) ?_)
 intro ed c4 az
 replace E := oB E a9 c4 az
 by_cases y : k % 8 = 7
 case pos =>
  refine zG ?_
  refine V O O (EE 2 AE O O) ?_
  refine V O O (CP O GG O (e8 E) O) ?_
  refine V (v := .int .u8 ↑(k % 8)) O O (DZ O O O AE (VS k)) ?_
  refine zG ?_
  refine TW (l2 := [fB I p h, fI (.agg #[.bool p, h]) (4611686018427387904 + ((k : Nat) : Int)), fB B F D, fI (.agg #[.bool F, D]) 1, fI (.agg #[.bool S, R]) b, fI (.agg #[.bool L, J]) a, fX N (64) ([.bool false, .slice none 0 0, .bool false, .slice none 0 0]), fX C (79) ([.int .i8 a, .int .i8 b, .int .u8 ↑k]), fW w]) E (fun w E => zE) ([10]) ([0, 1, 3, 5, 6, 7, 2, 4, 8, 9, 10]) Z Z Z Z AF ?_
  replace E := E.drew
  refine SP (o := ⟨some 27, _, _, _, _, _⟩) (v := .agg #[.bool L, J]) O O O O (fun w e => CT FU O O (e4 e) O) ?_
  refine zG ?_
  refine SP (o := ⟨some 28, _, _, _, _, _⟩) (v := .agg #[.bool p, h]) O O O O (fun w e => CT FU O O (e.1) O) ?_
  refine zG ?_
  refine SP (o := ⟨some 30, _, _, _, _, _⟩) (v := .agg #[.bool p, h]) O O O O (fun w e => CT FU O O (e.1) O) ?_
  refine zG ?_
  refine SP (o := ⟨some 32, _, _, _, _, _⟩) (v := .pointer (some ⟨C, 2, none⟩)) O O O O (fun w e => EE 2 AE O O) ?_
  refine zG ?_
  refine SP (o := ⟨some 33, _, _, _, _, _⟩) (v := .int .u8 ↑k) O O O O (fun w e => CP O GG O (e8 e) O) ?_
  refine zG ?_
  refine SP (o := ⟨some 34, _, _, _, _, _⟩) (v := .int .i64 ↑k) O O O O (fun w e => EO O O (by rw [underlying5]; rfl) underlying2 (JK AA)) ?_
  refine zG ?_
  refine JM (o := ⟨some 29, _, _, _, _, _⟩) O O O O (CH EP O (PJ _ a _ (4611686018427387904 + ((k : Nat) : Int)) _ (e6 E) E.2.1 (Fits.mono P AE) (Fits.mono t AE)) O E ?_)
  intro ec fa ey fv E
  refine ⟨E.2, ?_⟩
  have ak : Fits (a * (4611686018427387904 + ((k : Nat) : Int))) 8 := GK P t
  refine zG ?_
  refine JM (o := ⟨some 31, _, _, _, _, _⟩) O O O O (CH EP O (PJ _ (a * (4611686018427387904 + ((k : Nat) : Int))) _ (4611686018427387904 + ((k : Nat) : Int)) _ E.1 E.2.2.1 (Fits.mono ak AE) (Fits.mono t AE)) O E ?_)
  intro eb f9 ex fu E
  refine ⟨E.2.2, ?_⟩
  have aj : Fits ((a * (4611686018427387904 + ((k : Nat) : Int))) * (4611686018427387904 + ((k : Nat) : Int))) 12 := GK ak t
  refine zG ?_
  refine JM (o := ⟨some 35, _, _, _, _, _⟩) O O O O (CH IC O (dN ((k : Nat) : Int) _ AA AA) O E ?_)
  intro ea f8 ew ft E
  refine ⟨E.2.2.2, ?_⟩
  have ai : Fits ((k : Nat) : Int) 4 := EV AA AA
  refine zG ?_
  refine JM (o := ⟨some 36, _, _, _, _, _⟩) O O O O (CH TQ O (Af _ ((a * (4611686018427387904 + ((k : Nat) : Int))) * (4611686018427387904 + ((k : Nat) : Int))) _ ((k : Nat) : Int) _ E.2.1 E.1 (Fits.mono aj AE) (Fits.mono ai AE)) O E ?_)
  intro dz f7 ev fs E
  refine ⟨E.2.2.2.2, ?_⟩
  have cy : Fits (((a * (4611686018427387904 + ((k : Nat) : Int))) * (4611686018427387904 + ((k : Nat) : Int))) + ((k : Nat) : Int)) 13 := dT aj ai (k := 12) AE AE
  have a8 := e8 E
  refine zG ?_
  replace E := (Env.i (Env.i (Env.i (Env.i (Env.b (Env.i (Env.b (Env.i (Env.i (Env.i (Env.x (Env.x (Env.ww (Env.nil _) (TI E)) (QP E)) (QQ E)) (QM E)) (e9 E)) (e7 E)) (e6 E)) (e5 E)) (e4 E)) (e3 E)) E.2.2.1) E.2.1) E.1)
  refine S1b (o := ⟨none, _, _, _, _, _⟩) O O O O (BY FU O O O a8 O O (IsI.one E.1) ?_)
  intro dy c3 ay
  replace E := oB E a8 c3 ay
  refine ⟨E.2.2.2.2.2, ?_⟩
  refine zG ?_
  refine V O O (EE 2 AE O O) ?_
  refine V O O (CP O GG O (QP E) O) ?_
  refine V (v := .int .u8 ↑(k % 8)) O O (DZ O O O AE (VS k)) ?_
  refine zG ?_
  refine EF O (CV FW O (NV _ (((a * (4611686018427387904 + ((k : Nat) : Int))) * (4611686018427387904 + ((k : Nat) : Int))) + ((k : Nat) : Int)) _ 1 _ E.2.1 (e8 E) AA (Fits.mono cy AE) (Fits.mono (MO (m := 4) AE : Fits 1 4) AE)) O E ?_)
  intro dx cd bj cj bc fr E
  have a7 := TI E
  refine zG ?_
  replace E := NZ (NZ Iz) E
  refine zG ?_
  refine EF O (BY GV O O O a7 O O (MH (IsI.one E.2.1) (IsI.one E.1)) ?_)
  intro dw c2 ax
  replace E := (E.onl (a7.noW (PY FM FM)) zK c2).x ax
  have bp := CY GV E.1 rfl
  refine zG ?_
  exact AQ (v := .agg #[.bool cd, bj, .bool cj, bc]) (by simp [results, results30, asAddr, bp]) O ⟨_, _, _, _, O, WH (congrArg Rat.num (by unfold IU; rw [u, if_pos y] : (Rat.divInt (((a * (4611686018427387904 + ((k : Nat) : Int))) * (4611686018427387904 + ((k : Nat) : Int))) + ((k : Nat) : Int)) 1) = IU a b k)) E.2.2.1, WH (congrArg (fun z => ((Rat.den z : Nat) : Int)) (by unfold IU; rw [u, if_pos y] : (Rat.divInt (((a * (4611686018427387904 + ((k : Nat) : Int))) * (4611686018427387904 + ((k : Nat) : Int))) + ((k : Nat) : Int)) 1) = IU a b k)) E.2.1, Iy E⟩
 by_cases G : k % 8 = 6
 case neg =>
  refine zG ?_
  refine V O O (EE 2 AE O O) ?_
  refine V O O (CP O GG O (e8 E) O) ?_
  refine V (v := .int .u8 ↑(k % 8)) O O (DZ O O O AE (VS k)) ?_
  refine zG ?_
  refine V O O (EE 2 AE O O) ?_
  refine V O O (CP O GG O (e8 E) O) ?_
  refine V (v := .int .u8 ↑(k % 8)) O O (DZ O O O AE (VS k)) ?_
  refine zG ?_
  refine EF O (CV FW O (NV _ a _ 1 _ (e6 E) (e3 E) AA (Fits.mono P AE) (Fits.mono (MO (m := 4) AE : Fits 1 4) AE)) O E ?_)
  intro dq cb bh ch ba fn E
  have a3 := e9 E
  refine zG ?_
  replace E := dl9 E
  refine zG ?_
  refine EF O (BY GV O O O a3 O O (MH (IsI.one E.2.1) (IsI.one E.1)) ?_)
  intro dp bx ar
  replace E := (E.onl (a3.noW (PY FM FM)) zK bx).x ar
  have bn := CY GV E.1 rfl
  refine zG ?_
  exact AQ (v := .agg #[.bool cb, bh, .bool ch, ba]) (by simp [results, results30, asAddr, bn]) O ⟨_, _, _, _, O, WH (congrArg Rat.num (by unfold IU; rw [u, if_neg y, if_neg G] : (Rat.divInt a 1) = IU a b k)) E.2.2.1, WH (congrArg (fun z => ((Rat.den z : Nat) : Int)) (by unfold IU; rw [u, if_neg y, if_neg G] : (Rat.divInt a 1) = IU a b k)) E.2.1, QQ E⟩
 refine zG ?_
 refine V O O (EE 2 AE O O) ?_
 refine V O O (CP O GG O (e8 E) O) ?_
 refine V (v := .int .u8 ↑(k % 8)) O O (DZ O O O AE (VS k)) ?_
 refine zG ?_
 refine V O O (EE 2 AE O O) ?_
 refine V O O (CP O GG O (e8 E) O) ?_
 refine V (v := .int .u8 ↑(k % 8)) O O (DZ O O O AE (VS k)) ?_
 refine zG ?_
 refine TW (l2 := [fB I p h, fI (.agg #[.bool p, h]) (4611686018427387904 + ((k : Nat) : Int)), fI (.agg #[.bool F, D]) 1, fB b10 L J, fI (.agg #[.bool S, R]) b, fI (.agg #[.bool L, J]) a, fX N (64) ([.bool false, .slice none 0 0, .bool false, .slice none 0 0]), fX C (79) ([.int .i8 a, .int .i8 b, .int .u8 ↑k]), fW w]) E (fun w E => zE) ([5]) ([0, 1, 3, 2, 4, 5]) Z Z Z Z AF ?_
 replace E := E.drew
 refine SP (o := ⟨some 41, _, _, _, _, _⟩) (v := .agg #[.bool F, D]) O O O O (fun w e => CT FU O O (e.2.2.1) O) ?_
 refine zG ?_
 refine SP (o := ⟨some 42, _, _, _, _, _⟩) (v := .agg #[.bool p, h]) O O O O (fun w e => CT FU O O (e.1) O) ?_
 refine zG ?_
 refine SP (o := ⟨some 44, _, _, _, _, _⟩) (v := .agg #[.bool p, h]) O O O O (fun w e => CT FU O O (e.1) O) ?_
 refine zG ?_
 refine JM (o := ⟨some 43, _, _, _, _, _⟩) O O O O (CH EP O (PJ _ 1 _ (4611686018427387904 + ((k : Nat) : Int)) _ (e3 E) E.2.1 (Fits.mono (MO (m := 4) AE : Fits 1 4) AE) (Fits.mono t AE)) O E ?_)
 intro dv f6 eu fq E
 refine ⟨E.2, ?_⟩
 have ah : Fits (1 * (4611686018427387904 + ((k : Nat) : Int))) 8 := GK (MO (m := 4) AE : Fits 1 4) t
 refine zG ?_
 refine JM (o := ⟨some 45, _, _, _, _, _⟩) O O O O (CH EP O (PJ _ (1 * (4611686018427387904 + ((k : Nat) : Int))) _ (4611686018427387904 + ((k : Nat) : Int)) _ E.1 E.2.2.1 (Fits.mono ah AE) (Fits.mono t AE)) O E ?_)
 intro du f5 et fp E
 refine ⟨E.2.2, ?_⟩
 have cx : Fits ((1 * (4611686018427387904 + ((k : Nat) : Int))) * (4611686018427387904 + ((k : Nat) : Int))) 12 := GK ah t
 have a6 := e4 E
 refine zG ?_
 replace E := (Env.i (Env.i (Env.b (Env.i (Env.i (Env.b (Env.i (Env.i (Env.x (Env.x (Env.ww (Env.nil _) (QQ E)) (QM E)) (e9 E)) (e8 E)) (e7 E)) (e6 E)) (e5 E)) (e3 E)) E.2.2.1) E.2.1) E.1)
 refine S1b (o := ⟨none, _, _, _, _, _⟩) O O O O (BY FU O O O a6 O O (IsI.one E.1) ?_)
 intro dt c1 aw
 replace E := oB E a6 c1 aw
 refine ⟨E.2.2.2, ?_⟩
 refine zG ?_
 refine EF O (CV FW O (NV _ a _ ((1 * (4611686018427387904 + ((k : Nat) : Int))) * (4611686018427387904 + ((k : Nat) : Int))) _ (e8 E) E.2.1 (Int.mul_ne_zero (Int.mul_ne_zero AE AA) AA) (Fits.mono P AE) (Fits.mono cx AE)) O E ?_)
 intro ds cc bi ci bb fo E
 have a4 := QQ E
 refine zG ?_
 replace E := NZ (NZ XQ) E
 refine zG ?_
 refine EF O (BY GV O O O a4 O O (MH (IsI.one E.2.1) (IsI.one E.1)) ?_)
 intro dr c0 au
 replace E := (E.onl (a4.noW (PY FM FM)) zK c0).x au
 have bo := CY GV E.1 rfl
 refine zG ?_
 exact AQ (v := .agg #[.bool cc, bi, .bool ci, bb]) (by simp [results, results30, asAddr, bo]) O ⟨_, _, _, _, O, WH (congrArg Rat.num (by unfold IU; rw [u, if_neg y, if_pos G] : (Rat.divInt a ((1 * (4611686018427387904 + ((k : Nat) : Int))) * (4611686018427387904 + ((k : Nat) : Int)))) = IU a b k)) E.2.2.1, WH (congrArg (fun z => ((Rat.den z : Nat) : Int)) (by unfold IU; rw [u, if_neg y, if_pos G] : (Rat.divInt a ((1 * (4611686018427387904 + ((k : Nat) : Int))) * (4611686018427387904 + ((k : Nat) : Int)))) = IU a b k)) E.2.1, TI E⟩
end Go.Proofs.YtmppigbbkjepiaaGreatDoor
