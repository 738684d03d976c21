/- Helping facts of SameQ; no other conditions. -/
import Derived.Test.YtmppigbbkjepiaaGreatDoorRat1
set_option maxHeartbeats 8000000
set_option maxRecDepth 100000
namespace Go.Proofs.YtmppigbbkjepiaaGreatDoor
open Go.Proofs.Tryz
open Go.RowKit W
variable {p : Prop} {p' q q' x y : Int} {w : World}
theorem YBb (h : p := by simp [results, results78, asAddr, r1]) : p := h
theorem YhD (h : p := by rw [underlying5]; rfl) : p := h
theorem Yr9 (h : p := by simp [results, results30, asAddr, r1]) : p := h
theorem Znx (h : p := by
 go_enter func140, ntmps140
 go_upto_region 1 with fail
 rw [<- hW]
 clear hW hsz
 go_wp2
 go_ret
 exact ⟨by rw [HRF.out]; rfl, B0⟩
 ) : p := h
theorem ZwI (h : p := by
 rw [decide_eq_false_iff_not]; rintro rfl; exact h rfl
 ) : p := h
theorem Jd (h1 : decide (x < 0) = decide (y < 0)) (h2 : x.natAbs = y.natAbs) : decide (x = y) = true := by
 rw [decide_eq_decide] at h1
 rw [decide_eq_true_eq]; omega
theorem uF (h : (CD x.natAbs).length ≠ (CD y.natAbs).length) : decide (x = y) = false := by
 exact ZwI
theorem xV (i : Nat) (h : gd (CD x.natAbs) i ≠ gd (CD y.natAbs) i) : decide (x = y) = false := by
 exact ZwI
theorem uE (h : decide (x < 0) ≠ decide (y < 0)) : decide (x = y) = false := by
 exact ZwI
def Hu (a b : List Nat) (k : Nat) : Prop := ∀ i, i < k -> gd a i = gd b i
theorem Bu (va vb : Value) (x y : Int) (w : World) (ha : IsI w va x) (hb : IsI w vb y) :
 Calls prog 140 #[va, vb] w (LN w (decide (x = y))) := by
 obtain ⟨aoa, capa, rfl, sa, ha1, ha2⟩ := ha.parts
 obtain ⟨aob, capb, rfl, sb, hb1, hb2⟩ := hb.parts
 obtain ⟨la, hla⟩ : ∃ l, l = CD x.natAbs := ⟨_, rfl⟩
 obtain ⟨lb, hlb⟩ : ∃ l, l = CD y.natAbs := ⟨_, rfl⟩
 obtain ⟨nx, hnx⟩ : ∃ n, n = decide (x < 0) := ⟨_, rfl⟩
 obtain ⟨ny, hny⟩ : ∃ n, n = decide (y < 0) := ⟨_, rfl⟩
 obtain ⟨R, hR⟩ : ∃ n, n = decide (x = y) := ⟨_, rfl⟩
 rw [<- hla] at sa ha1
 rw [<- hlb] at sb hb1
 rw [<- hla, <- hlb, <- hnx, <- hny, <- hR]
 obtain ⟨_, _, e1, _, _, _, _, sa4⟩ := sa
 obtain ⟨_, _, e2, _, _, _, _, sb4⟩ := sb
 simp only [Value.slice.injEq] at e1 e2
 obtain ⟨rfl, _, rfl⟩ := e1
 obtain ⟨rfl, _, rfl⟩ := e2
 have HSA := Lib.hid sa4
 have HSB := Lib.hid sb4
 have HLA := Lib.hid hla
 have HLB := Lib.hid hlb
 have HNX := Lib.hid hnx
 have HNY := Lib.hid hny
 have HR := Lib.hid hR
 clear ha hb hla hlb hnx hny hR sa4 sb4
 obtain ⟨W, hW, hsz, B0, c0, c1, c2, c3⟩ := Rq w nx ny (.slice aoa la.length capa) (.slice aob lb.length capb)
 by_cases hs : nx = ny
 . subst hs
   have hs0 : (nx != nx) = false := by simp
   by_cases hl : la.length = lb.length
   . have hl0 : ((la.length : Int) != (lb.length : Int)) = false := by rw [bne_eq_false_iff_eq]; omega
     have HL := Lib.hid hl
     clear hl
     go_enter func140, ntmps140
     go_upto_region 1 with fail
     rw [<- hW]
     clear hW hsz
     go_wp2
     go_loopw [5] (fun i wr => ∃ k : Nat, k <= la.length /\ i = .int .i64 k /\ Hid (Hu la lb k) /\ ∃ q, wr = W.drewN q) (fun i _ => (la.length : Int).toNat - (intOf i).toNat)
     case atStart => exact ⟨0, by omega, rfl, fun i hi => absurd hi AA, 0, rfl⟩
     case round =>
      obtain ⟨k, hk, rfl, hst, q, rfl⟩ := hrel
      by_cases hlt : k < la.length
      . obtain ⟨b, off, rfl, hc⟩ := HSA.out k hlt
        obtain ⟨b2, off2, rfl, hc2⟩ := HSB.out k (by have := HL.out; omega)
        have hc := DB hc B0
        have hc2 := DB hc2 B0
        have hlt2 : (k : Int) < (lb.length : Int) := by have := HL.out; omega
        have hk0 : (0 : Int) <= (k : Int) := by omega
        have hlt1 : (k : Int) < (la.length : Int) := by omega
        by_cases hx : gd la k = gd lb k
        . have h1 : (((gd la k : Nat) : Int) != ((gd lb k : Nat) : Int)) = false := by rw [bne_eq_false_iff_eq]; omega
          have HST : Hid (Hu la lb (k + 1)) := by
           intro i hi
           by_cases e : i = k
           . subst e; exact hx
           exact hst.out i AA
          clear hx hst
          go_wp2
          go_quiet (fail)
          go_wp2
          go_roundw
          case rel => exact ⟨k + 1, by omega, by go_num, HST, (by first | exact ⟨_, rfl⟩ | exact ⟨_, by simp only [World.drewN_drewN]; rfl⟩)⟩
          case measure => simp [intOf]; omega
        have h1 : (((gd la k : Nat) : Int) != ((gd lb k : Nat) : Int)) = true := by rw [bne_iff_ne]; omega
        have HRF : Hid (R = false) := by
         show R = false
         rw [HR.out]; exact xV k (by rw [<- HLA.out, <- HLB.out]; exact hx)
        clear hx hst
        go_wp2
        go_quiet (fail)
        go_wp2
        go_ret
        exact ⟨by rw [HRF.out]; rfl, JJ (JJ B0 _) _⟩
      have HRT : Hid (R = true) := by
       show R = true
       rw [HR.out]
       refine Jd (by rw [<- HNX.out, <- HNY.out]) (zJ ?_)
       rw [<- HLA.out, <- HLB.out]
       exact uZ HL.out fun i hi => hst.out i AA
      clear hst
      go_wp2
      go_ret
      exact ⟨by rw [HRT.out]; rfl, JJ B0 _⟩
   have hl0 : ((la.length : Int) != (lb.length : Int)) = true := by rw [bne_iff_ne]; omega
   have HRF : Hid (R = false) := by
    show R = false
    rw [HR.out]; exact uF (by rw [<- HLA.out, <- HLB.out]; exact hl)
   clear hl
   exact Znx
 have HRF : Hid (R = false) := by
  show R = false
  rw [HR.out]; exact uE (by rw [<- HNX.out, <- HNY.out]; exact hs)
 have hs0 : (nx != ny) = true := by rw [bne_iff_ne]; exact hs
 clear hs0
 cases nx <;> cases ny <;> (first | exact absurd rfl hs | skip)
 all_goals
  clear hs
  exact Znx
theorem EX (f : Nat) (hf : f < 3) {ρ : Operand -> Value} {o : Oper} {x : Operand} {b : Nat} (ho : o.op = .fieldAddr 79 x f) (hx : ρ x = .pointer (some ⟨b, 0, none⟩)) : (execOp ρ o).run prog w = .ok (.value (.pointer (some ⟨b, f, none⟩))) w := by
 have : f = 0 ∨ f = 1 ∨ f = 2 := by omega
 rcases this with rfl | rfl | rfl <;> (unfold execOp; rw [ho]; simp [hx, go_sem])
theorem gK (w : World) : (isAgg 77).run prog w = .ok false w := by simp [go_sem]
theorem HI (w : World) : (isAgg 5).run prog w = .ok false w := by simp [go_sem]
theorem CT {f : Nat} {args : Array Value} {a b : Bool} (h : a = b) (hc : Calls prog f args w (LN w a)) : Calls prog f args w (LN w b) := h ▸ hc
theorem Ni {p : Int} (h : p = p') : decide (q = q') = decide (p = p' /\ q = q') := by simp [h]
theorem Jc {p : Int} (h : ¬ p = p') : false = decide (p = p' /\ q = q') := by simp [h]
theorem ZD (k : Nat) : ((k : Nat) : Int).tmod 8 = ((k % 8 : Nat) : Int) := (Int.ofNat_tmod k 8).symm
theorem D8 (na : Bool) (sa : Value) (ma : Bool) (ta : Value) (p q : Int) (nb : Bool) (sb : Value) (mb : Bool) (tb : Value) (p' q' : Int) (w : World) (hna : IsI w (.agg #[.bool na, sa]) p) (hda : IsI w (.agg #[.bool ma, ta]) q) (hnb : IsI w (.agg #[.bool nb, sb]) (p')) (hdb : IsI w (.agg #[.bool mb, tb]) (q')) :
 Calls prog 92 #[.agg #[.bool na, sa, .bool ma, ta], .agg #[.bool nb, sb, .bool mb, tb]] w (LN w (decide (p = p' /\ q = q'))) := by
 have E := Env.start w
 replace E := (E.i hna).i hda
 replace E := (E.i hnb).i hdb
 go_enter func92, ntmps92
 refine zG ?_
 refine EF O (CM (cs := [.bool na, sa, .bool ma, ta]) O O ?_)
 intro I C e1 t l h
 replace E := E.below l
 clear e1
 replace E := E.x h
 refine zG ?_
 refine EF O (CM (cs := [.bool nb, sb, .bool mb, tb]) O O ?_)
 intro H B e2 o k f
 replace E := E.below k
 clear e2
 replace E := E.x f
 by_cases e : p = p'
 case neg =>
  refine zG ?_
  refine V O O (DU O O) ?_
  refine V O O (CN O O E.2.1 O O) ?_
  refine V O O (DU O O) ?_
  refine V O O (CN O O E.1 O O) ?_
  refine zG ?_
  refine EF O (CA VA O (CT (decide_eq_false e) (Bu _ _ p (p') _ (e5 E) (e3 E))) O E ?_)
  intro u D E
  refine zG ?_
  exact ⟨UL (Jc e), e6 E⟩
 refine zG ?_
 refine V O O (DU O O) ?_
 refine V O O (CN O O E.2.1 O O) ?_
 refine V O O (DU O O) ?_
 refine V O O (CN O O E.1 O O) ?_
 refine zG ?_
 refine EF O (CA VA O (CT (decide_eq_true e) (Bu _ _ p (p') _ (e5 E) (e3 E))) O E ?_)
 intro y G E
 refine zG ?_
 refine V Z O (DD O O) ?_
 refine V Z O (CN O O E.2.1 O O) ?_
 refine V Z O (DD O O) ?_
 refine zG ?_
 refine V Z O (CN O O E.1 O O) ?_
 refine zG ?_
 refine EF O (CA VA O (Bu _ _ q (q') _ (e4 E) E.2.2.1) O E ?_)
 intro v F E
 refine zG ?_
 exact ⟨UL (Ni e), e6 E⟩
theorem mF (va : Value) (n : Int) (vb : Value) (d : Int) (w : World) (hva : IsI w va n) (hvb : IsI w vb d) (hd : d ≠ 0) (Fn : Fits n 900000000) (Fd : Fits d 900000000) :
 Calls prog 124 #[va, vb] w (RetZ w (n / d)) := by
 have E := Env.start w
 obtain ⟨X, S, rfl, _, _⟩ := hva.sh
 replace E := E.i hva
 obtain ⟨U, R, rfl, _, _⟩ := hvb.sh
 replace E := E.i hvb
 go_enter func124, ntmps124
 refine zG ?_
 refine EF O (CM O O ?_)
 intro I w1 e1 z1 d1 P
 have l1 : w.heap.size <= I := by rw [e1]; exact E.2.2.1.size
 replace E := E.below d1
 clear e1
 replace E := E.b P
 refine zG ?_
 refine EF O (CM O O ?_)
 intro H w2 e2 z2 d2 N
 have C : I < H := by rw [e2]; exact Bx.lt E.1
 replace E := E.below d2
 clear e2
 replace E := E.b N
 refine zG ?_
 refine EF O (BZ EC O ?_)
 intro G w3 e3 z3 d3 e
 have B : H < G := by rw [e3]; exact Bx.lt E.1
 replace E := E.below d3
 clear e3
 refine zG ?_
 refine EF O (lG jE O (Ll _ n _ d _ (e3 E) E.2.2.1 (hd) (Fits.mono Fn AE) (Fits.mono Fd AE)) O E ?_)
 intro w5 Y T m5 t5 d5 E
 replace e := e.below d5
 refine zG ?_
 refine EF O (BZ EC O ?_)
 intro F w6 e6 z6 D f
 have y : G < F := by rw [e6]; exact Bx.lt (e)
 replace E := E.below D
 replace e := Bx.below e D
 clear e6
 refine zG ?_
 refine EF O (BZ EC O ?_)
 intro b7 w7 e7 z7 q h
 have u : F < b7 := by rw [e7]; exact Bx.lt (f)
 replace E := E.below q
 replace e := Bx.below e q
 replace f := Bx.below f q
 clear e7
 refine zG ?_
 refine EF O (BY EC O O O f O O (IsI.one E.2.1) ?_)
 intro w8 o L
 replace E := oB E f o L
 replace e := Bx.onl e AA o
 replace h := Bx.onl h AA o
 refine zG ?_
 refine EF O (BY EC O O O h O O (IsI.one E.2.1) ?_)
 intro w9 t J
 replace E := oB E h t J
 replace e := Bx.onl e AA t
 refine zG ?_
 refine EF O (BY EC O O O e O O (IsI.one (e3 E)) ?_)
 intro Q p k
 replace E := oB E e p k
 have r1 := CL EC E.1 rfl
 refine zG ?_
 exact AQ (v := .agg #[.bool Y, T]) (by simp [results, results124, asAddr, r1]) O ⟨_, O, e4 E, e9 E⟩
theorem PK (va : Value) (n : Int) (vb : Value) (d : Int) (w : World) (hva : IsI w va n) (hvb : IsI w vb d) (hd : d ≠ 0) (Fn : Fits n 900000000) (Fd : Fits d 900000000) :
 Calls prog 78 #[va, vb] w (RetP w (Rat.divInt n d).num (((Rat.divInt n d).den : Nat) : Int)) := by
 have E := Env.start w
 obtain ⟨ag, ad, rfl, _, _⟩ := hva.sh
 replace E := E.i hva
 obtain ⟨af, ac, rfl, _, _⟩ := hvb.sh
 replace E := E.i hvb
 go_enter func78, ntmps78
 refine zG ?_
 refine EF O (CM O O ?_)
 intro b1 w1 e1 z1 d1 x1
 have l1 : w.heap.size <= b1 := by rw [e1]; exact E.2.2.1.size
 replace E := E.below d1
 clear e1
 replace E := E.b x1
 refine zG ?_
 refine EF O (CM O O ?_)
 intro b2 w2 e2 z2 d2 x2
 have a2 : b1 < b2 := by rw [e2]; exact Bx.lt E.1
 replace E := E.below d2
 clear e2
 replace E := E.b x2
 refine zG ?_
 refine EF O (BZ EY O ?_)
 intro b3 w3 e3 z3 d3 e
 have a1 : b2 < b3 := by rw [e3]; exact Bx.lt E.1
 replace E := E.below d3
 clear e3
 refine zG ?_
 refine EF O (CH cT O (Sj _ n _ d _ (e3 E) E.2.2.1 (Fits.mono Fn AE) (Fits.mono Fd AE)) O E ?_)
 intro w5 n5 s5 d5 E
 replace e := e.below d5
 have U : Fits ((Nat.gcd n.natAbs d.natAbs : Nat) : Int) 900000000 := Sq hd Fd
 refine zG ?_
 refine EF O (BZ EC O ?_)
 intro b6 w6 e6 z6 d6 X
 have a0 : b3 < b6 := by rw [e6]; exact Bx.lt (e)
 replace E := E.below d6
 replace e := Bx.below e d6
 clear e6
 refine zG ?_
 refine EF O (BY EC O O O X O O (IsI.one E.1) ?_)
 intro w7 Y y7
 replace E := oB E X Y y7
 replace e := Bx.onl e AA Y
 by_cases f : d < 0
 case neg =>
  replace f : 0 < d := by omega
  refine zG ?_
  refine EF O (CB NP O (iF _ d _ (e4 E)) O E ?_)
  intro a6 Q E
  replace e := e.below Q
  refine zG ?_
  refine V O O (HY (c := false) O O O (Na f)) ?_
  refine zG ?_
  refine sE E [0,1,3,4,2,5,6,7] ?_
  replace E := E.drew
  replace e := Bx.drew e
  refine zG ?_
  refine GG (o := ⟨some 16, _, _, _, _, _⟩) O O O O (CH OT O (mF _ n _ ((Nat.gcd n.natAbs d.natAbs : Nat) : Int) _ (e5 E) E.2.1 (gH (n := n) hd) (Fits.mono Fn AE) (Fits.mono U AE)) O E ?_)
  intro a5 y l P E
  replace e := e.below P
  refine ⟨E.2, ?_⟩
  refine zG ?_
  refine GG (o := ⟨some 19, _, _, _, _, _⟩) O O O O (CH OT O (mF _ d _ ((Nat.gcd n.natAbs d.natAbs : Nat) : Int) _ (e5 E) E.2.2.1 (gH (n := n) hd) (Fits.mono Fd AE) (Fits.mono U AE)) O E ?_)
  intro a4 u k N E
  replace e := e.below N
  refine ⟨E.2.2, ?_⟩
  refine zG ?_
  refine SW (v := .agg #[.bool y, l, .bool u, k]) O O O O O (fun w hS => IE O O O) ?_
  refine zG ?_
  refine GG (o := ⟨none, _, _, _, _, _⟩) O O O O (BY EY O O O e O O (IF (IsI.one E.2.1) (IsI.one E.1)) ?_)
  intro a3 J D
  replace E := (E.onl (e.noW (LM EZ EZ)) zK J).x D
  refine ⟨E.2.2.2, ?_⟩
  have r1 := CL EY E.1 rfl
  refine zG ?_
  exact AQ (v := .agg #[.bool y, l, .bool u, k]) YBb O ⟨_, _, _, _, O, VM ((lZ f).symm) E.2.2.1, VM ((mA f).symm) E.2.1, e9 E⟩
 refine zG ?_
 refine EF O (CB NP O (iF _ d _ (e4 E)) O E ?_)
 intro w8 d8 E
 replace e := e.below d8
 refine zG ?_
 refine V O O (HY (c := true) O O O (Ew f)) ?_
 refine zG ?_
 refine EF O (CH cS O (Si _ ((Nat.gcd n.natAbs d.natAbs : Nat) : Int) _ E.2.1) O E ?_)
 intro ab ah ae T E
 replace e := e.below T
 have F9 : Fits (-((Nat.gcd n.natAbs d.natAbs : Nat) : Int)) 900000000 := Ax U
 have h := E.2.1
 refine zG ?_
 replace E := QP E
 refine zG ?_
 refine EF O (BY EC O O O h O O (IsI.one E.1) ?_)
 intro aa t G
 replace E := oB E h t G
 replace e := Bx.onl e AA t
 refine zG ?_
 refine sE E [0,1,3,4,2,5,6,7] ?_
 replace E := E.drew
 replace e := Bx.drew e
 refine zG ?_
 refine GG (o := ⟨some 16, _, _, _, _, _⟩) O O O O (CH OT O (mF _ n _ (-((Nat.gcd n.natAbs d.natAbs : Nat) : Int)) _ (e6 E) E.2.1 (Int.neg_ne_zero.2 (gH (n := n) hd)) (Fits.mono Fn AE) (Fits.mono F9 AE)) O E ?_)
 intro a9 C q S E
 replace e := e.below S
 refine ⟨E.2, ?_⟩
 refine zG ?_
 refine GG (o := ⟨some 19, _, _, _, _, _⟩) O O O O (CH OT O (mF _ d _ (-((Nat.gcd n.natAbs d.natAbs : Nat) : Int)) _ (e6 E) E.2.2.1 (Int.neg_ne_zero.2 (gH (n := n) hd)) (Fits.mono Fd AE) (Fits.mono F9 AE)) O E ?_)
 intro a8 B p R E
 replace e := e.below R
 refine ⟨E.2.2, ?_⟩
 refine zG ?_
 refine SW (v := .agg #[.bool C, q, .bool B, p]) O O O O O (fun w hS => IE O O O) ?_
 refine zG ?_
 refine GG (o := ⟨none, _, _, _, _, _⟩) O O O O (BY EY O O O e O O (IF (IsI.one E.2.1) (IsI.one E.1)) ?_)
 intro a7 L F
 replace E := (E.onl (e.noW (LM EZ EZ)) zK L).x F
 refine ⟨E.2.2.2, ?_⟩
 have r1 := CL EY E.1 rfl
 refine zG ?_
 exact AQ (v := .agg #[.bool C, q, .bool B, p]) YBb O ⟨_, _, _, _, O, VM ((jZ f).symm) E.2.2.1, VM ((kA f).symm) E.2.1, RD E⟩
def yD (b : Int) : Int := if b = 0 then 1 else b
def JZ (a b : Int) (k : Nat) : Rat :=
 if k % 8 = 7 then Rat.divInt (a * (4611686018427387904 + (k : Int)) * (4611686018427387904 + (k : Int)) + (k : Int)) (yD b)
 else if k % 8 = 6 then Rat.divInt a (yD b * (4611686018427387904 + (k : Int)) * (4611686018427387904 + (k : Int)))
 else Rat.divInt a (yD b)
theorem E9 (a b : Int) (k : Nat) (w : World) (ha1 : -128 <= a) (ha2 : a <= 127) (hb1 : -128 <= b) (hb2 : b <= 127) (hk : k < 256) :
 Calls prog 30 #[.agg #[.int .i8 a, .int .i8 b, .int .u8 ↑k]] w (RetP w (JZ a b k).num (((JZ a b k).den : Nat) : Int)) := by
 have E := Env.start w
 go_enter func30, ntmps30
 refine zG ?_
 refine EF O (CM (cs := [.int .i8 a, .int .i8 b, .int .u8 ↑k]) O O ?_)
 intro D w1 e1 z1 d1 x1
 have l1 : w.heap.size <= D := by rw [e1]; exact E.1.size
 replace E := E.below d1
 clear e1
 replace E := E.x x1
 refine zG ?_
 refine EF O (BZ EY O ?_)
 intro P w2 e2 z2 d2 x2
 have d0 : D < P := by rw [e2]; exact Bx.lt E.1
 replace E := E.below d2
 clear e2
 replace E := E.x x2
 have ct : P < w2.heap.size := Bx.lt E.1
 refine zG ?_
 refine QT E [.op 0, .op 1, .op 2, .op 4, .op 5, .op 6, .av 8, .av 9, .op 3, .op 7, .op 8, .op 9] 2 (#[true, true, true, true, true, true, true, true, true, true, false, false]) Z Z Z Z AF AF ?_
 refine FP (v := .pointer (some ⟨D, 0, none⟩)) O O O O O (fun w e => EX 0 AE O O) ?_
 refine FP (v := .int .i8 a) O O O O O (fun w e => CR O gK O (e.2.1) O) ?_
 refine FP (v := .int .i64 a) O O O O O (fun w e => FI O O (by rw [underlying77]; rfl) underlying2 (MO AA)) ?_
 refine FP (v := .pointer (some ⟨D, 1, none⟩)) O O O O O (fun w e => EX 1 AE O O) ?_
 refine zG ?_
 refine FP (v := .int .i8 b) O O O O O (fun w e => CR O gK O (e.2.1) O) ?_
 refine FP (v := .int .i64 b) O O O O O (fun w e => FI O O (by rw [underlying77]; rfl) underlying2 (MO AA)) ?_
 refine FA _ (RunF.alloc EC O O O) ?_
 refine FA _ (RunF.alloc EC O O O) ?_
 refine zG ?_
 refine FE O O O O ?_
 intro w6 E
 refine CH ED O (OM a _ AA AA) O E ?_
 intro w5 N L d5 E
 refine kF d5 E O ?_
 have Q : Fits a 4 := EU AA AA
 refine zG ?_
 refine FE O O O O ?_
 intro w9 E
 refine CH ED O (OM b _ AA AA) O E ?_
 intro w8 T S d8 E
 refine kF d8 E O ?_
 have F7 : Fits b 4 := EU AA AA
 refine zG ?_
 refine FF O O ?_
 intro C fd em
 have cr : P < C := by omega
 refine zG ?_
 refine FF O O ?_
 intro B fc b6
 have cq : P < B := by omega
 have b5 : B ≠ C := by rintro rfl; exact b6 AH
 refine zG ?_
 intro el E
 refine H1 (i := 10) Z ?_
 have ac := E.2.1
 replace E := QP E
 refine HE (o := ⟨none, _, _, _, _, _⟩) O O (BY EC O O O ac O O (IsI.one E.2.2.1) ?_)
 intro ek c8 b4
 replace E := oB E ac c8 b4
 refine ⟨E.2.2.2.2, ?_⟩
 refine zG ?_
 refine H1 (i := 11) Z ?_
 have ab := E.2.1
 replace E := QP E
 refine HE (o := ⟨none, _, _, _, _, _⟩) O O (BY EC O O O ab O O (IsI.one E.2.1) ?_)
 intro ej c7 b3
 replace E := oB E ab c7 b3
 refine ⟨E.2.2.2.2, ?_⟩
 refine zG ?_
 refine HN Z ?_
 by_cases U : b = 0
 case neg =>
  have u : yD b = b := if_neg U
  refine zG ?_
  refine V O O (EX 1 AE O O) ?_
  refine V O O (CR O gK O (e5 E) O) ?_
  refine V O O (EK (c := false) O O O (beq_eq_false_iff_ne.2 U)) ?_
  refine zG ?_
  refine V O O (EX 2 AE O O) ?_
  refine V O O (CR O HI O (e5 E) O) ?_
  refine V (v := .int .i64 ↑k) O O (FI O O YhD underlying2 (MO AA)) ?_
  refine V (v := .int .i64 (4611686018427387904 + ((k : Nat) : Int))) O O (KM O O O (MO AA)) ?_
  refine zG ?_
  refine EF O (CH ED O (OM (4611686018427387904 + ((k : Nat) : Int)) _ AA AA) O E ?_)
  intro dp l f fn E
  have q : Fits (4611686018427387904 + ((k : Nat) : Int)) 4 := EU AA AA
  refine zG ?_
  refine EF O (BZ EC O ?_)
  intro I dn R d3 cu a3
  have cn : B < I := by rw [R]; exact Bx.lt E.2.1
  have cm : C < I := by rw [R]; exact Bx.lt E.2.2.1
  replace E := E.below cu
  clear R
  refine zG ?_
  refine EF O (BY EC O O O a3 O O (IsI.one E.1) ?_)
  intro dm bx aq
  replace E := oB E a3 bx aq
  by_cases y : k % 8 = 7
  case pos =>
   refine zG ?_
   refine V O O (EX 2 AE O O) ?_
   refine V O O (CR O HI O (e7 E) O) ?_
   refine V (v := .int .u8 ↑(k % 8)) O O (FD O O O AE (ZD k)) ?_
   refine zG ?_
   refine XE (l2 := [fB I l f, fI (.agg #[.bool l, f]) (4611686018427387904 + ((k : Nat) : Int)), fB B T S, fI (.agg #[.bool T, S]) b, fI (.agg #[.bool N, L]) a, fX P (64) ([.bool false, .slice none 0 0, .bool false, .slice none 0 0]), fX D (79) ([.int .i8 a, .int .i8 b, .int .u8 ↑k]), fW w]) E (fun w E => zE) ([10]) ([0, 1, 3, 5, 6, 7, 2, 4, 8, 9, 10]) Z Z Z Z AF ?_
   replace E := E.drew
   refine SP (o := ⟨some 27, _, _, _, _, _⟩) (v := .agg #[.bool N, L]) O O O O (fun w e => CU EC O O (e3 e) O) ?_
   refine zG ?_
   refine SP (o := ⟨some 28, _, _, _, _, _⟩) (v := .agg #[.bool l, f]) O O O O (fun w e => CU EC O O (e.1) O) ?_
   refine zG ?_
   refine SP (o := ⟨some 30, _, _, _, _, _⟩) (v := .agg #[.bool l, f]) O O O O (fun w e => CU EC O O (e.1) O) ?_
   refine zG ?_
   refine SP (o := ⟨some 32, _, _, _, _, _⟩) (v := .pointer (some ⟨D, 2, none⟩)) O O O O (fun w e => EX 2 AE O O) ?_
   refine zG ?_
   refine SP (o := ⟨some 33, _, _, _, _, _⟩) (v := .int .u8 ↑k) O O O O (fun w e => CR O HI O (e7 e) O) ?_
   refine zG ?_
   refine SP (o := ⟨some 34, _, _, _, _, _⟩) (v := .int .i64 ↑k) O O O O (fun w e => FI O O YhD underlying2 (MO AA)) ?_
   refine zG ?_
   refine GG (o := ⟨some 29, _, _, _, _, _⟩) O O O O (CH ET O (PD _ a _ (4611686018427387904 + ((k : Nat) : Int)) _ (e5 E) E.2.1 (Fits.mono Q AE) (Fits.mono q AE)) O E ?_)
   intro dl f5 et fm E
   refine ⟨E.2, ?_⟩
   have ag : Fits (a * (4611686018427387904 + ((k : Nat) : Int))) 8 := IB Q q
   refine zG ?_
   refine GG (o := ⟨some 31, _, _, _, _, _⟩) O O O O (CH ET O (PD _ (a * (4611686018427387904 + ((k : Nat) : Int))) _ (4611686018427387904 + ((k : Nat) : Int)) _ E.1 E.2.2.1 (Fits.mono ag AE) (Fits.mono q AE)) O E ?_)
   intro dk f4 es fl E
   refine ⟨E.2.2, ?_⟩
   have af : Fits ((a * (4611686018427387904 + ((k : Nat) : Int))) * (4611686018427387904 + ((k : Nat) : Int))) 12 := IB ag q
   refine zG ?_
   refine GG (o := ⟨some 35, _, _, _, _, _⟩) O O O O (CH ED O (OM ((k : Nat) : Int) _ AA AA) O E ?_)
   intro dj f3 er fk E
   refine ⟨E.2.2.2, ?_⟩
   have ae : Fits ((k : Nat) : Int) 4 := EU AA AA
   refine zG ?_
   refine GG (o := ⟨some 36, _, _, _, _, _⟩) O O O O (CH WT O (Ea _ ((a * (4611686018427387904 + ((k : Nat) : Int))) * (4611686018427387904 + ((k : Nat) : Int))) _ ((k : Nat) : Int) _ E.2.1 E.1 (Fits.mono af AE) (Fits.mono ae AE)) O E ?_)
   intro di f2 ep fj E
   refine ⟨E.2.2.2.2, ?_⟩
   have cx : Fits (((a * (4611686018427387904 + ((k : Nat) : Int))) * (4611686018427387904 + ((k : Nat) : Int))) + ((k : Nat) : Int)) 13 := iO af ae (k := 12) AE AE
   have a2 := e7 E
   refine zG ?_
   replace E := (Env.i (Env.i (Env.i (Env.i (Env.b (Env.i (Env.b (Env.i (Env.i (Env.x (Env.x (Env.ww (Env.nil _) (WE E)) (RC E)) (RD E)) (e9 E)) (e8 E)) (e6 E)) (e5 E)) (e4 E)) (e3 E)) E.2.2.1) E.2.1) E.1)
   refine S1b (o := ⟨none, _, _, _, _, _⟩) O O O O (BY EC O O O a2 O O (IsI.one E.1) ?_)
   intro dh bw ap
   replace E := oB E a2 bw ap
   refine ⟨E.2.2.2.2.2, ?_⟩
   refine zG ?_
   refine V O O (EX 2 AE O O) ?_
   refine V O O (CR O HI O (RC E) O) ?_
   refine V (v := .int .u8 ↑(k % 8)) O O (FD O O O AE (ZD k)) ?_
   refine zG ?_
   refine EF O (CV GS O (PK _ (((a * (4611686018427387904 + ((k : Nat) : Int))) * (4611686018427387904 + ((k : Nat) : Int))) + ((k : Nat) : Int)) _ b _ E.2.1 (e8 E) U (Fits.mono cx AE) (Fits.mono F7 AE)) O E ?_)
   intro dg cb bh ch b9 fi E
   have a1 := WE E
   refine zG ?_
   replace E := NQ (NQ VC) E
   refine zG ?_
   refine EF O (BY EY O O O a1 O O (IF (IsI.one E.2.1) (IsI.one E.1)) ?_)
   intro de bv ao
   replace E := (E.onl (a1.noW (LM EZ EZ)) zK bv).x ao
   have r1 := CL EY E.1 rfl
   refine zG ?_
   exact AQ (v := .agg #[.bool cb, bh, .bool ch, b9]) Yr9 O ⟨_, _, _, _, O, VM (congrArg Rat.num (by unfold JZ; rw [u, if_pos y] : (Rat.divInt (((a * (4611686018427387904 + ((k : Nat) : Int))) * (4611686018427387904 + ((k : Nat) : Int))) + ((k : Nat) : Int)) b) = JZ a b k)) E.2.2.1, VM (congrArg (fun z => ((Rat.den z : Nat) : Int)) (by unfold JZ; rw [u, if_pos y] : (Rat.divInt (((a * (4611686018427387904 + ((k : Nat) : Int))) * (4611686018427387904 + ((k : Nat) : Int))) + ((k : Nat) : Int)) b) = JZ a b k)) E.2.1, lB E⟩
  by_cases H : k % 8 = 6
  case neg =>
   refine zG ?_
   refine V O O (EX 2 AE O O) ?_
   refine V O O (CR O HI O (e7 E) O) ?_
   refine V (v := .int .u8 ↑(k % 8)) O O (FD O O O AE (ZD k)) ?_
   refine zG ?_
   refine V O O (EX 2 AE O O) ?_
   refine V O O (CR O HI O (e7 E) O) ?_
   refine V (v := .int .u8 ↑(k % 8)) O O (FD O O O AE (ZD k)) ?_
   refine zG ?_
   refine EF O (CV GS O (PK _ a _ b _ (e5 E) (e4 E) U (Fits.mono Q AE) (Fits.mono F7 AE)) O E ?_)
   intro d7 c9 bf cf b7 fe E
   have X := e8 E
   refine zG ?_
   replace E := dl8 E
   refine zG ?_
   refine EF O (BY EY O O O X O O (IF (IsI.one E.2.1) (IsI.one E.1)) ?_)
   intro d6 br al
   replace E := (E.onl (X.noW (LM EZ EZ)) zK br).x al
   have r1 := CL EY E.1 rfl
   refine zG ?_
   exact AQ (v := .agg #[.bool c9, bf, .bool cf, b7]) Yr9 O ⟨_, _, _, _, O, VM (congrArg Rat.num (by unfold JZ; rw [u, if_neg y, if_neg H] : (Rat.divInt a b) = JZ a b k)) E.2.2.1, VM (congrArg (fun z => ((Rat.den z : Nat) : Int)) (by unfold JZ; rw [u, if_neg y, if_neg H] : (Rat.divInt a b) = JZ a b k)) E.2.1, RD E⟩
  refine zG ?_
  refine V O O (EX 2 AE O O) ?_
  refine V O O (CR O HI O (e7 E) O) ?_
  refine V (v := .int .u8 ↑(k % 8)) O O (FD O O O AE (ZD k)) ?_
  refine zG ?_
  refine V O O (EX 2 AE O O) ?_
  refine V O O (CR O HI O (e7 E) O) ?_
  refine V (v := .int .u8 ↑(k % 8)) O O (FD O O O AE (ZD k)) ?_
  refine zG ?_
  refine XE (l2 := [fB I l f, fI (.agg #[.bool l, f]) (4611686018427387904 + ((k : Nat) : Int)), fB C N L, fI (.agg #[.bool T, S]) b, fI (.agg #[.bool N, L]) a, fX P (64) ([.bool false, .slice none 0 0, .bool false, .slice none 0 0]), fX D (79) ([.int .i8 a, .int .i8 b, .int .u8 ↑k]), fW w]) E (fun w E => zE) ([5]) ([0, 1, 3, 2, 4, 5]) Z Z Z Z AF ?_
  replace E := E.drew
  refine SP (o := ⟨some 41, _, _, _, _, _⟩) (v := .agg #[.bool T, S]) O O O O (fun w e => CU EC O O (e.2.2.1) O) ?_
  refine zG ?_
  refine SP (o := ⟨some 42, _, _, _, _, _⟩) (v := .agg #[.bool l, f]) O O O O (fun w e => CU EC O O (e.1) O) ?_
  refine zG ?_
  refine SP (o := ⟨some 44, _, _, _, _, _⟩) (v := .agg #[.bool l, f]) O O O O (fun w e => CU EC O O (e.1) O) ?_
  refine zG ?_
  refine GG (o := ⟨some 43, _, _, _, _, _⟩) O O O O (CH ET O (PD _ b _ (4611686018427387904 + ((k : Nat) : Int)) _ (e4 E) E.2.1 (Fits.mono F7 AE) (Fits.mono q AE)) O E ?_)
  intro dd f1 eo fh E
  refine ⟨E.2, ?_⟩
  have ad : Fits (b * (4611686018427387904 + ((k : Nat) : Int))) 8 := IB F7 q
  refine zG ?_
  refine GG (o := ⟨some 45, _, _, _, _, _⟩) O O O O (CH ET O (PD _ (b * (4611686018427387904 + ((k : Nat) : Int))) _ (4611686018427387904 + ((k : Nat) : Int)) _ E.1 E.2.2.1 (Fits.mono ad AE) (Fits.mono q AE)) O E ?_)
  intro dc f0 en fg E
  refine ⟨E.2.2, ?_⟩
  have cw : Fits ((b * (4611686018427387904 + ((k : Nat) : Int))) * (4611686018427387904 + ((k : Nat) : Int))) 12 := IB ad q
  have a0 := e4 E
  refine zG ?_
  replace E := (Env.i (Env.i (Env.b (Env.i (Env.b (Env.i (Env.i (Env.x (Env.x (Env.ww (Env.nil _) (RD E)) (e9 E)) (e8 E)) (e7 E)) (e6 E)) (e5 E)) (e3 E)) E.2.2.1) E.2.1) E.1)
  refine S1b (o := ⟨none, _, _, _, _, _⟩) O O O O (BY EC O O O a0 O O (IsI.one E.1) ?_)
  intro db bu an
  replace E := oB E a0 bu an
  refine ⟨E.2.2.2, ?_⟩
  refine zG ?_
  refine EF O (CV GS O (PK _ a _ ((b * (4611686018427387904 + ((k : Nat) : Int))) * (4611686018427387904 + ((k : Nat) : Int))) _ (e7 E) E.2.1 (Int.mul_ne_zero (Int.mul_ne_zero U AA) AA) (Fits.mono Q AE) (Fits.mono cw AE)) O E ?_)
  intro da ca bg cg b8 ff E
  have Y := RD E
  refine zG ?_
  replace E := NQ (NQ YE) E
  refine zG ?_
  refine EF O (BY EY O O O Y O O (IF (IsI.one E.2.1) (IsI.one E.1)) ?_)
  intro d9 bt am
  replace E := (E.onl (Y.noW (LM EZ EZ)) zK bt).x am
  have r1 := CL EY E.1 rfl
  refine zG ?_
  exact AQ (v := .agg #[.bool ca, bg, .bool cg, b8]) Yr9 O ⟨_, _, _, _, O, VM (congrArg Rat.num (by unfold JZ; rw [u, if_neg y, if_pos H] : (Rat.divInt a ((b * (4611686018427387904 + ((k : Nat) : Int))) * (4611686018427387904 + ((k : Nat) : Int)))) = JZ a b k)) E.2.2.1, VM (congrArg (fun z => ((Rat.den z : Nat) : Int)) (by unfold JZ; rw [u, if_neg y, if_pos H] : (Rat.divInt a ((b * (4611686018427387904 + ((k : Nat) : Int))) * (4611686018427387904 + ((k : Nat) : Int)))) = JZ a b k)) E.2.1, WE E⟩
 have u : yD b = 1 := if_pos U
 refine zG ?_
 refine V O O (EX 1 AE O O) ?_
 refine V O O (CR O gK O (e5 E) O) ?_
 refine zG ?_
 refine EF O (CH ED O (OM 1 _ AE AE) O E ?_)
 intro ei G F fy E
 have aa := E.2.1
 refine zG ?_
 replace E := QP E
 refine zG ?_
 refine EF O (BY EC O O O aa O O (IsI.one E.1) ?_)
 intro eh c6 b0
 replace E := oB E aa c6 b0
 refine zG ?_
 refine V O O (EX 2 AE O O) ?_
 refine V O O (CR O HI O (e6 E) O) ?_
 refine V (v := .int .i64 ↑k) O O (FI O O YhD underlying2 (MO AA)) ?_
 refine V (v := .int .i64 (4611686018427387904 + ((k : Nat) : Int))) O O (KM O O O (MO AA)) ?_
 refine zG ?_
 refine EF O (CH ED O (OM (4611686018427387904 + ((k : Nat) : Int)) _ AA AA) O E ?_)
 intro eg p h fx E
 have t : Fits (4611686018427387904 + ((k : Nat) : Int)) 4 := EU AA AA
 refine zG ?_
 refine EF O (BZ EC O ?_)
 intro J ef A8 d4 cv a9
 have cp : B < J := by rw [A8]; exact Bx.lt E.2.1
 have co : C < J := by rw [A8]; exact Bx.lt (e3 E)
 replace E := E.below cv
 clear A8
 refine zG ?_
 refine EF O (BY EC O O O a9 O O (IsI.one E.1) ?_)
 intro ee c5 az
 replace E := oB E a9 c5 az
 by_cases y : k % 8 = 7
 case pos =>
  refine zG ?_
  refine V O O (EX 2 AE O O) ?_
  refine V O O (CR O HI O (e8 E) O) ?_
  refine V (v := .int .u8 ↑(k % 8)) O O (FD O O O AE (ZD k)) ?_
  refine zG ?_
  refine XE (l2 := [fB J p h, fI (.agg #[.bool p, h]) (4611686018427387904 + ((k : Nat) : Int)), fB B G F, fI (.agg #[.bool G, F]) 1, fI (.agg #[.bool T, S]) b, fI (.agg #[.bool N, L]) a, fX P (64) ([.bool false, .slice none 0 0, .bool false, .slice none 0 0]), fX D (79) ([.int .i8 a, .int .i8 b, .int .u8 ↑k]), fW w]) E (fun w E => zE) ([10]) ([0, 1, 3, 5, 6, 7, 2, 4, 8, 9, 10]) Z Z Z Z AF ?_
  replace E := E.drew
  refine SP (o := ⟨some 27, _, _, _, _, _⟩) (v := .agg #[.bool N, L]) O O O O (fun w e => CU EC O O (e4 e) O) ?_
  refine zG ?_
  refine SP (o := ⟨some 28, _, _, _, _, _⟩) (v := .agg #[.bool p, h]) O O O O (fun w e => CU EC O O (e.1) O) ?_
  refine zG ?_
  refine SP (o := ⟨some 30, _, _, _, _, _⟩) (v := .agg #[.bool p, h]) O O O O (fun w e => CU EC O O (e.1) O) ?_
  refine zG ?_
  refine SP (o := ⟨some 32, _, _, _, _, _⟩) (v := .pointer (some ⟨D, 2, none⟩)) O O O O (fun w e => EX 2 AE O O) ?_
  refine zG ?_
  refine SP (o := ⟨some 33, _, _, _, _, _⟩) (v := .int .u8 ↑k) O O O O (fun w e => CR O HI O (e8 e) O) ?_
  refine zG ?_
  refine SP (o := ⟨some 34, _, _, _, _, _⟩) (v := .int .i64 ↑k) O O O O (fun w e => FI O O YhD underlying2 (MO AA)) ?_
  refine zG ?_
  refine GG (o := ⟨some 29, _, _, _, _, _⟩) O O O O (CH ET O (PD _ a _ (4611686018427387904 + ((k : Nat) : Int)) _ (e6 E) E.2.1 (Fits.mono Q AE) (Fits.mono t AE)) O E ?_)
  intro ed fb ez fw E
  refine ⟨E.2, ?_⟩
  have ak : Fits (a * (4611686018427387904 + ((k : Nat) : Int))) 8 := IB Q t
  refine zG ?_
  refine GG (o := ⟨some 31, _, _, _, _, _⟩) O O O O (CH ET O (PD _ (a * (4611686018427387904 + ((k : Nat) : Int))) _ (4611686018427387904 + ((k : Nat) : Int)) _ E.1 E.2.2.1 (Fits.mono ak AE) (Fits.mono t AE)) O E ?_)
  intro ec fa ey fv E
  refine ⟨E.2.2, ?_⟩
  have aj : Fits ((a * (4611686018427387904 + ((k : Nat) : Int))) * (4611686018427387904 + ((k : Nat) : Int))) 12 := IB ak t
  refine zG ?_
  refine GG (o := ⟨some 35, _, _, _, _, _⟩) O O O O (CH ED O (OM ((k : Nat) : Int) _ AA AA) O E ?_)
  intro eb f9 ex fu E
  refine ⟨E.2.2.2, ?_⟩
  have ai : Fits ((k : Nat) : Int) 4 := EU AA AA
  refine zG ?_
  refine GG (o := ⟨some 36, _, _, _, _, _⟩) O O O O (CH WT O (Ea _ ((a * (4611686018427387904 + ((k : Nat) : Int))) * (4611686018427387904 + ((k : Nat) : Int))) _ ((k : Nat) : Int) _ E.2.1 E.1 (Fits.mono aj AE) (Fits.mono ai AE)) O E ?_)
  intro ea f8 ew ft E
  refine ⟨E.2.2.2.2, ?_⟩
  have cz : Fits (((a * (4611686018427387904 + ((k : Nat) : Int))) * (4611686018427387904 + ((k : Nat) : Int))) + ((k : Nat) : Int)) 13 := iO aj ai (k := 12) AE AE
  have a8 := e8 E
  refine zG ?_
  replace E := (Env.i (Env.i (Env.i (Env.i (Env.b (Env.i (Env.b (Env.i (Env.i (Env.i (Env.x (Env.x (Env.ww (Env.nil _) (XX E)) (WE E)) (RC E)) (RD E)) (e9 E)) (e7 E)) (e6 E)) (e5 E)) (e4 E)) (e3 E)) E.2.2.1) E.2.1) E.1)
  refine S1b (o := ⟨none, _, _, _, _, _⟩) O O O O (BY EC O O O a8 O O (IsI.one E.1) ?_)
  intro dz c4 ay
  replace E := oB E a8 c4 ay
  refine ⟨E.2.2.2.2.2, ?_⟩
  refine zG ?_
  refine V O O (EX 2 AE O O) ?_
  refine V O O (CR O HI O (WE E) O) ?_
  refine V (v := .int .u8 ↑(k % 8)) O O (FD O O O AE (ZD k)) ?_
  refine zG ?_
  refine EF O (CV GS O (PK _ (((a * (4611686018427387904 + ((k : Nat) : Int))) * (4611686018427387904 + ((k : Nat) : Int))) + ((k : Nat) : Int)) _ 1 _ E.2.1 (e8 E) AA (Fits.mono cz AE) (Fits.mono (NB (m := 4) AE : Fits 1 4) AE)) O E ?_)
  intro dy ce bk ck bc fs E
  have a7 := XX E
  refine zG ?_
  replace E := NQ (NQ qC) E
  refine zG ?_
  refine EF O (BY EY O O O a7 O O (IF (IsI.one E.2.1) (IsI.one E.1)) ?_)
  intro dx c3 ax
  replace E := (E.onl (a7.noW (LM EZ EZ)) zK c3).x ax
  have r1 := CL EY E.1 rfl
  refine zG ?_
  exact AQ (v := .agg #[.bool ce, bk, .bool ck, bc]) Yr9 O ⟨_, _, _, _, O, VM (congrArg Rat.num (by unfold JZ; rw [u, if_pos y] : (Rat.divInt (((a * (4611686018427387904 + ((k : Nat) : Int))) * (4611686018427387904 + ((k : Nat) : Int))) + ((k : Nat) : Int)) 1) = JZ a b k)) E.2.2.1, VM (congrArg (fun z => ((Rat.den z : Nat) : Int)) (by unfold JZ; rw [u, if_pos y] : (Rat.divInt (((a * (4611686018427387904 + ((k : Nat) : Int))) * (4611686018427387904 + ((k : Nat) : Int))) + ((k : Nat) : Int)) 1) = JZ a b k)) E.2.1, Kq E⟩
 by_cases H : k % 8 = 6
 case neg =>
  refine zG ?_
  refine V O O (EX 2 AE O O) ?_
  refine V O O (CR O HI O (e8 E) O) ?_
  refine V (v := .int .u8 ↑(k % 8)) O O (FD O O O AE (ZD k)) ?_
  refine zG ?_
  refine V O O (EX 2 AE O O) ?_
  refine V O O (CR O HI O (e8 E) O) ?_
  refine V (v := .int .u8 ↑(k % 8)) O O (FD O O O AE (ZD k)) ?_
  refine zG ?_
  refine EF O (CV GS O (PK _ a _ 1 _ (e6 E) (e3 E) AA (Fits.mono Q AE) (Fits.mono (NB (m := 4) AE : Fits 1 4) AE)) O E ?_)
  intro dr cc bi ci ba fo E
  have a4 := e9 E
  refine zG ?_
  replace E := Wb E
  refine zG ?_
  refine EF O (BY EY O O O a4 O O (IF (IsI.one E.2.1) (IsI.one E.1)) ?_)
  intro dq c0 ar
  replace E := (E.onl (a4.noW (LM EZ EZ)) zK c0).x ar
  have r1 := CL EY E.1 rfl
  refine zG ?_
  exact AQ (v := .agg #[.bool cc, bi, .bool ci, ba]) Yr9 O ⟨_, _, _, _, O, VM (congrArg Rat.num (by unfold JZ; rw [u, if_neg y, if_neg H] : (Rat.divInt a 1) = JZ a b k)) E.2.2.1, VM (congrArg (fun z => ((Rat.den z : Nat) : Int)) (by unfold JZ; rw [u, if_neg y, if_neg H] : (Rat.divInt a 1) = JZ a b k)) E.2.1, RC E⟩
 refine zG ?_
 refine V O O (EX 2 AE O O) ?_
 refine V O O (CR O HI O (e8 E) O) ?_
 refine V (v := .int .u8 ↑(k % 8)) O O (FD O O O AE (ZD k)) ?_
 refine zG ?_
 refine V O O (EX 2 AE O O) ?_
 refine V O O (CR O HI O (e8 E) O) ?_
 refine V (v := .int .u8 ↑(k % 8)) O O (FD O O O AE (ZD k)) ?_
 refine zG ?_
 refine XE (l2 := [fB J p h, fI (.agg #[.bool p, h]) (4611686018427387904 + ((k : Nat) : Int)), fI (.agg #[.bool G, F]) 1, fB C N L, fI (.agg #[.bool T, S]) b, fI (.agg #[.bool N, L]) a, fX P (64) ([.bool false, .slice none 0 0, .bool false, .slice none 0 0]), fX D (79) ([.int .i8 a, .int .i8 b, .int .u8 ↑k]), fW w]) E (fun w E => zE) ([5]) ([0, 1, 3, 2, 4, 5]) Z Z Z Z AF ?_
 replace E := E.drew
 refine SP (o := ⟨some 41, _, _, _, _, _⟩) (v := .agg #[.bool G, F]) O O O O (fun w e => CU EC O O (e.2.2.1) O) ?_
 refine zG ?_
 refine SP (o := ⟨some 42, _, _, _, _, _⟩) (v := .agg #[.bool p, h]) O O O O (fun w e => CU EC O O (e.1) O) ?_
 refine zG ?_
 refine SP (o := ⟨some 44, _, _, _, _, _⟩) (v := .agg #[.bool p, h]) O O O O (fun w e => CU EC O O (e.1) O) ?_
 refine zG ?_
 refine GG (o := ⟨some 43, _, _, _, _, _⟩) O O O O (CH ET O (PD _ 1 _ (4611686018427387904 + ((k : Nat) : Int)) _ (e3 E) E.2.1 (Fits.mono (NB (m := 4) AE : Fits 1 4) AE) (Fits.mono t AE)) O E ?_)
 intro dw f7 ev fr E
 refine ⟨E.2, ?_⟩
 have ah : Fits (1 * (4611686018427387904 + ((k : Nat) : Int))) 8 := IB (NB (m := 4) AE : Fits 1 4) t
 refine zG ?_
 refine GG (o := ⟨some 45, _, _, _, _, _⟩) O O O O (CH ET O (PD _ (1 * (4611686018427387904 + ((k : Nat) : Int))) _ (4611686018427387904 + ((k : Nat) : Int)) _ E.1 E.2.2.1 (Fits.mono ah AE) (Fits.mono t AE)) O E ?_)
 intro dv f6 eu fq E
 refine ⟨E.2.2, ?_⟩
 have cy : Fits ((1 * (4611686018427387904 + ((k : Nat) : Int))) * (4611686018427387904 + ((k : Nat) : Int))) 12 := IB ah t
 have a6 := e4 E
 refine zG ?_
 replace E := (Env.i (Env.i (Env.b (Env.i (Env.i (Env.b (Env.i (Env.i (Env.x (Env.x (Env.ww (Env.nil _) (RC E)) (RD E)) (e9 E)) (e8 E)) (e7 E)) (e6 E)) (e5 E)) (e3 E)) E.2.2.1) E.2.1) E.1)
 refine S1b (o := ⟨none, _, _, _, _, _⟩) O O O O (BY EC O O O a6 O O (IsI.one E.1) ?_)
 intro du c2 aw
 replace E := oB E a6 c2 aw
 refine ⟨E.2.2.2, ?_⟩
 refine zG ?_
 refine EF O (CV GS O (PK _ a _ ((1 * (4611686018427387904 + ((k : Nat) : Int))) * (4611686018427387904 + ((k : Nat) : Int))) _ (e8 E) E.2.1 (Int.mul_ne_zero (Int.mul_ne_zero AE AA) AA) (Fits.mono Q AE) (Fits.mono cy AE)) O E ?_)
 intro dt cd bj cj bb fp E
 have a5 := RC E
 refine zG ?_
 replace E := NQ (NQ QP) E
 refine zG ?_
 refine EF O (BY EY O O O a5 O O (IF (IsI.one E.2.1) (IsI.one E.1)) ?_)
 intro ds c1 au
 replace E := (E.onl (a5.noW (LM EZ EZ)) zK c1).x au
 have r1 := CL EY E.1 rfl
 refine zG ?_
 exact AQ (v := .agg #[.bool cd, bj, .bool cj, bb]) Yr9 O ⟨_, _, _, _, O, VM (congrArg Rat.num (by unfold JZ; rw [u, if_neg y, if_pos H] : (Rat.divInt a ((1 * (4611686018427387904 + ((k : Nat) : Int))) * (4611686018427387904 + ((k : Nat) : Int)))) = JZ a b k)) E.2.2.1, VM (congrArg (fun z => ((Rat.den z : Nat) : Int)) (by unfold JZ; rw [u, if_neg y, if_pos H] : (Rat.divInt a ((1 * (4611686018427387904 + ((k : Nat) : Int))) * (4611686018427387904 + ((k : Nat) : Int)))) = JZ a b k)) E.2.1, XX E⟩
end Go.Proofs.YtmppigbbkjepiaaGreatDoor
