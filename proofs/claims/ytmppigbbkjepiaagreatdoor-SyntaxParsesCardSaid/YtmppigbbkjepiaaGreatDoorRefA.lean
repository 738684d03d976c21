/- Helping facts of RefA; no other conditions. -/
import Derived.Test.YtmppigbbkjepiaaGreatDoorDecim
import Derived.Test.YtmppigbbkjepiaaGreatDoorRefW
set_option maxHeartbeats 4000000
set_option maxRecDepth 100000
namespace Go.Proofs.YtmppigbbkjepiaaGreatDoor
open Go.Proofs.Tryz
open Go.RowKit W
variable {a b k : Nat} {c m n x : Int} {p : Prop}
theorem YB7 (h : p := by simp [results, results160, asAddr, r1, r2]) : p := h
theorem Z33 (h : p := by
 intro w5 n5 s5 d5 E
 replace e := e.below d5
 refine ⟨E.2.2, ?_⟩
 refine zG ?_
 refine GG (o := ⟨none, _, _, _, _, _⟩) O O O O (BY EC O O O e O O (IsI.one E.1) ?_)
 intro w6 o6 X
 replace E := oB E e o6 X
 refine ⟨E.2.2.2, ?_⟩
 have r1 := CL EC E.1 rfl
 refine zG ?_
 exact AQ (v := .agg #[.bool n5, s5]) (by simp [results, results76, asAddr, r1]) O ⟨_, O, E.2.1, e7 E⟩
 ) : p := h
theorem Z8k (h : p := by
 subst hn; subst hm
 by_cases e : x < 0 <;> by_cases f : y < 0 <;> simp [e, f] at h <;> simp [IV, e] <;> omega
 ) : p := h
section
variable {x y : Int} {n m : Bool}
theorem Tp (hn : n = decide (x < 0)) (hm : m = decide (y < 0)) (h : n = m) : IV n (x.natAbs + y.natAbs) = x + y := by
 exact Z8k
theorem sg_lt (hn : n = decide (x < 0)) (hm : m = decide (y < 0)) (h : ¬ n = m) (hl : x.natAbs < y.natAbs) : IV m (y.natAbs - x.natAbs) = x + y := by
 subst hn; subst hm
 by_cases f : x < 0 <;> by_cases e : y < 0 <;> simp [f, e] at h <;> simp [IV, e] <;> omega
theorem sg_ge (hn : n = decide (x < 0)) (hm : m = decide (y < 0)) (h : ¬ n = m) (hl : ¬ x.natAbs < y.natAbs) : IV n (x.natAbs - y.natAbs) = x + y := by
 exact Z8k
theorem Ys (hn : n = decide (x < 0)) (hm : m = decide (y < 0)) : IV (n != m) (x.natAbs * y.natAbs) = x * y := by
 subst hn; subst hm
 have h : ((x.natAbs * y.natAbs : Nat) : Int) = (x.natAbs : Int) * (y.natAbs : Int) := by simp
 unfold IV
 rw [h]
 by_cases f : x < 0 <;> by_cases e : y < 0
 . rw [decide_eq_true f, decide_eq_true e, if_neg AE, show (x.natAbs : Int) = -x by omega, show (y.natAbs : Int) = -y by omega]; grind
 . rw [decide_eq_true f, decide_eq_false e, if_pos AE, show (x.natAbs : Int) = -x by omega, show (y.natAbs : Int) = y by omega]; grind
 . rw [decide_eq_false f, decide_eq_true e, if_pos AE, show (x.natAbs : Int) = x by omega, show (y.natAbs : Int) = -y by omega]; grind
 rw [decide_eq_false f, decide_eq_false e, if_neg AE, show (x.natAbs : Int) = x by omega, show (y.natAbs : Int) = y by omega]
theorem Yr (hn : n = decide (x < 0)) : IV (!n) x.natAbs = -x := by subst hn; exact wS x
theorem len1 : (CD 1).length <= 1000000000 := by rw [VD 1 AE]; simp [EG]
theorem Pn (h : x ≠ 0) : 0 < x.natAbs := by omega
theorem lenp (h : 0 < k) : decide ((((CD k).length : Nat) : Int) > 0) = true := by
 rw [decide_eq_true_eq]
 rcases Nat.eq_zero_or_pos (CD k).length with e | e
 . have := (FY k).1 (List.eq_nil_of_length_eq_zero e); omega
 omega
theorem lenz (h : ¬ 0 < k) : decide ((((CD k).length : Nat) : Int) > 0) = false := by
 obtain rfl : k = 0 := by omega
 rw [EG]; rfl
theorem Wj (h : a < b) : decide (JR a b < 0) = true := by rw [OW AA]; rfl
theorem Wk (h : ¬ a < b) : decide (JR a b < 0) = false := by
 rcases Nat.lt_or_ge b a with e | e
 . rw [QD AA]; rfl
 rw [WF AA]; rfl
theorem Pq (h : ¬ x < 0) : (if (1 : Int) < (((CD x.natAbs).length : Nat) : Int) then 1 else (((CD x.natAbs).length : Nat) : Int)) = OY x := by
 rcases MC x with ⟨a, b⟩ | ⟨a, b⟩ | ⟨a, b⟩
 . exact absurd a h
 . subst a; rw [b, Int.natAbs_zero, EG]; rfl
 have := Gf (z := x) AA
 rw [b]; split <;> omega
theorem C4 (h1 : x < 0) (h2 : ¬ y < 0) : JR x y = -1 := OW AA
theorem C5 (h1 : ¬ x < 0) (h2 : y < 0) : JR x y = 1 := QD AA
theorem C3 (h1 : x < 0) (h2 : y < 0) : JR (y.natAbs : Nat) (x.natAbs : Nat) = JR x y := by
 unfold JR; repeat' split
 all_goals first | rfl | omega
theorem C2 (h1 : ¬ x < 0) (h2 : ¬ y < 0) : JR (x.natAbs : Nat) (y.natAbs : Nat) = JR x y := by
 unfold JR; repeat' split
 all_goals first | rfl | omega
end
theorem iF (va : Value) (x : Int) (w : World) (hva : IsI w va x) :
 Calls prog 103 #[va] w (VI w (OY x)) := by
 have E := Env.start w
 obtain ⟨e, o, rfl, _, _⟩ := hva.sh
 replace E := E.i hva
 go_enter func103, ntmps103
 refine zG ?_
 refine EF O (CM O O ?_)
 intro y u e1 t p l
 replace E := E.below p
 clear e1
 replace E := E.b l
 by_cases f : x < 0
 . obtain rfl : e = true := (GD E.2.1).trans (decide_eq_true f)
   refine zG ?_
   exact ⟨(FW (OW f).symm), E.2.2.1⟩
 obtain rfl : e = false := (GD E.2.1).trans (decide_eq_false f)
 obtain ⟨q, k, h⟩ := IsI.slice E.2.1
 refine zG ?_
 refine V (v := .int .i64 ↑((CD x.natAbs).length)) O O (KL O h) ?_
 refine V (v := .int .i64 (OY x)) O O (wW O O O (Pq f)) ?_
 refine zG ?_
 exact ⟨rfl, E.2.2.1⟩
theorem vR (va : Value) (x : Int) (vb : Value) (y : Int) (w : World) (hva : IsI w va x) (hvb : IsI w vb y) :
 Calls prog 151 #[va, vb] w (VI w (JR x y)) := by
 have E := Env.start w
 obtain ⟨k, q, rfl, _, _⟩ := hva.sh
 replace E := E.i hva
 obtain ⟨e, p, rfl, _, _⟩ := hvb.sh
 replace E := E.i hvb
 go_enter func151, ntmps151
 refine zG ?_
 refine EF O (CM O O ?_)
 intro L G e1 B u o
 replace E := E.below u
 clear e1
 replace E := E.b o
 refine zG ?_
 refine EF O (CM O O ?_)
 intro J F e2 v t l
 replace E := E.below t
 clear e2
 replace E := E.b l
 by_cases h : x < 0
 case pos =>
  obtain rfl : k = true := (GD (e3 E)).trans (decide_eq_true h)
  by_cases f : y < 0
  case neg =>
   obtain rfl : e = false := (GD E.2.2.1).trans (decide_eq_false f)
   refine zG ?_
   exact ⟨FW (C4 h f).symm, e4 E⟩
  obtain rfl : e = true := (GD E.2.2.1).trans (decide_eq_true f)
  refine zG ?_
  refine EF O (CB LY O (VU _ _ y.natAbs x.natAbs _ (IsI.sl E.2.2.1) (IsI.sl (e3 E))) O E ?_)
  intro D I E
  refine zG ?_
  exact ⟨FW (C3 h f), e4 E⟩
 obtain rfl : k = false := (GD (e3 E)).trans (decide_eq_false h)
 by_cases f : y < 0
 . obtain rfl : e = true := (GD E.2.2.1).trans (decide_eq_true f)
   refine zG ?_
   exact ⟨FW (C5 h f).symm, e4 E⟩
 obtain rfl : e = false := (GD E.2.2.1).trans (decide_eq_false f)
 refine zG ?_
 refine EF O (CB LY O (VU _ _ x.natAbs y.natAbs _ (IsI.sl (e3 E)) (IsI.sl E.2.2.1)) O E ?_)
 intro C H E
 refine zG ?_
 exact ⟨FW (C2 h f), e4 E⟩
theorem Si (va : Value) (x : Int) (w : World) (hva : IsI w va x) :
 Calls prog 112 #[va] w (RetZ w (-x)) := by
 have E := Env.start w
 obtain ⟨e, p, rfl, _, _⟩ := hva.sh
 replace E := E.i hva
 go_enter func112, ntmps112
 refine zG ?_
 refine EF O (CM O O ?_)
 intro k N e1 H D o
 have P : w.heap.size <= k := by rw [e1]; exact E.2.1.size
 replace E := E.below D
 clear e1
 replace E := E.b o
 refine zG ?_
 refine EF O (BZ EC O ?_)
 intro F L e2 G C f
 have h : k < F := by rw [e2]; exact Bx.lt E.1
 replace E := E.below C
 clear e2
 refine zG ?_
 refine V (v := .bool (!e)) O O (YM (b := e) O O) ?_
 refine zG ?_
 refine EF O (CH EI O (KN (!e) _ x.natAbs (-x) _ (IsI.sl E.2.1) (Yr (GD E.2.1))) O E ?_)
 intro J y q B E
 replace f := f.below B
 refine zG ?_
 refine EF O (BY EC O O O f O O (IsI.one E.1) ?_)
 intro I u l
 replace E := oB E f u l
 have r1 := CL EC E.1 rfl
 refine zG ?_
 exact AQ (v := .agg #[.bool y, q]) (by simp [results, results112, asAddr, r1]) O ⟨_, O, E.2.1, e4 E⟩
theorem Ea (va : Value) (x : Int) (vb : Value) (y : Int) (w : World) (hva : IsI w va x) (hvb : IsI w vb y) (Fx : Fits x 1000000000) (Fy : Fits y 1000000000) :
 Calls prog 76 #[va, vb] w (RetZ w (x + y)) := by
 have E := Env.start w
 obtain ⟨f, a8, rfl, _, _⟩ := hva.sh
 replace E := E.i hva
 obtain ⟨h, a7, rfl, _, _⟩ := hvb.sh
 replace E := E.i hvb
 go_enter func76, ntmps76
 refine zG ?_
 refine EF O (CM O O ?_)
 intro U w1 e1 z1 d1 x1
 have l1 : w.heap.size <= U := by rw [e1]; exact E.2.2.1.size
 replace E := E.below d1
 clear e1
 replace E := E.b x1
 refine zG ?_
 refine EF O (CM O O ?_)
 intro T w2 e2 z2 d2 Y
 have S : U < T := by rw [e2]; exact Bx.lt E.1
 replace E := E.below d2
 clear e2
 replace E := E.b Y
 refine zG ?_
 refine EF O (BZ EC O ?_)
 intro b3 w3 e3 z3 d3 e
 have R : T < b3 := by rw [e3]; exact Bx.lt E.1
 replace E := E.below d3
 clear e3
 have l := GD (e3 E)
 have k := GD E.2.2.1
 by_cases p : f = h
 case pos =>
  refine zG ?_
  refine V O O (fL (a := f) (b := h) (c := true) O underlying4 O O (beq_iff_eq.2 p)) ?_
  refine zG ?_
  refine sE E [0,1,2,3,4,5,6,7,8] ?_
  replace E := E.drew
  replace e := Bx.drew e
  refine zG ?_
  refine GG (o := ⟨some 16, _, _, _, _, _⟩) O O O O (DA IZ O (UN _ _ x.natAbs y.natAbs _ (IsI.sl (e3 E)) (IsI.sl E.2.2.1) (Fits.mono Fx AE) (Fits.mono Fy AE)) O E ?_)
  intro w4 v4 d4 E
  replace e := e.below d4
  refine ⟨E.2, ?_⟩
  refine zG ?_
  refine GG (o := ⟨some 17, _, _, _, _, _⟩) O O O O (CH EI O (KN f _ (x.natAbs + y.natAbs) (x + y) _ E.1 (Tp l k p)) O E ?_)
  exact Z33
 by_cases q : x.natAbs < y.natAbs
 case pos =>
  refine zG ?_
  refine V O O (fL (a := f) (b := h) (c := false) O underlying4 O O (beq_eq_false_iff_ne.2 p)) ?_
  refine zG ?_
  refine EF O (CB LY O (VU _ _ x.natAbs y.natAbs _ (IsI.sl (e3 E)) (IsI.sl E.2.2.1)) O E ?_)
  intro w8 d8 E
  replace e := e.below d8
  refine zG ?_
  refine V O O (HY (c := true) O O O (Wj q)) ?_
  refine zG ?_
  refine sE E [0,1,2,3,4,5,6,7,8] ?_
  replace E := E.drew
  replace e := Bx.drew e
  refine zG ?_
  refine GG (o := ⟨some 30, _, _, _, _, _⟩) O O O O (DA TG O (nN _ _ y.natAbs x.natAbs _ (IsI.sl E.2.2.1) (IsI.sl (e3 E)) (Fits.mono Fy AE) (Nat.le_of_lt q)) O E ?_)
  intro w9 v9 d9 E
  replace e := e.below d9
  refine ⟨E.2, ?_⟩
  refine zG ?_
  refine GG (o := ⟨some 31, _, _, _, _, _⟩) O O O O (CH EI O (KN h _ (y.natAbs - x.natAbs) (x + y) _ E.1 (sg_lt l k p q)) O E ?_)
  exact Z33
 refine zG ?_
 refine V O O (fL (a := f) (b := h) (c := false) O underlying4 O O (beq_eq_false_iff_ne.2 p)) ?_
 refine zG ?_
 refine EF O (CB LY O (VU _ _ x.natAbs y.natAbs _ (IsI.sl (e3 E)) (IsI.sl E.2.2.1)) O E ?_)
 intro a3 P E
 replace e := e.below P
 refine zG ?_
 refine V O O (HY (c := false) O O O (Wk q)) ?_
 refine zG ?_
 refine sE E [0,1,2,3,4,5,6,7,8] ?_
 replace E := E.drew
 replace e := Bx.drew e
 refine zG ?_
 refine GG (o := ⟨some 38, _, _, _, _, _⟩) O O O O (DA TG O (nN _ _ x.natAbs y.natAbs _ (IsI.sl (e3 E)) (IsI.sl E.2.2.1) (Fits.mono Fx AE) (Nat.le_of_not_lt q)) O E ?_)
 intro a2 a6 N E
 replace e := e.below N
 refine ⟨E.2, ?_⟩
 refine zG ?_
 refine GG (o := ⟨some 39, _, _, _, _, _⟩) O O O O (CH EI O (KN f _ (x.natAbs - y.natAbs) (x + y) _ E.1 (sg_ge l k p q)) O E ?_)
 exact Z33
theorem PD (va : Value) (x : Int) (vb : Value) (y : Int) (w : World) (hva : IsI w va x) (hvb : IsI w vb y) (Fx : Fits x 1000000000) (Fy : Fits y 1000000000) :
 Calls prog 77 #[va, vb] w (RetZ w (x * y)) := by
 have E := Env.start w
 obtain ⟨h, G, rfl, _, _⟩ := hva.sh
 replace E := E.i hva
 obtain ⟨f, F, rfl, _, _⟩ := hvb.sh
 replace E := E.i hvb
 go_enter func77, ntmps77
 refine zG ?_
 refine EF O (CM O O ?_)
 intro u w1 e1 Y S D
 have l1 : w.heap.size <= u := by rw [e1]; exact E.2.2.1.size
 replace E := E.below S
 clear e1
 replace E := E.b D
 refine zG ?_
 refine EF O (CM O O ?_)
 intro t w2 e2 X R C
 have q : u < t := by rw [e2]; exact Bx.lt E.1
 replace E := E.below R
 clear e2
 replace E := E.b C
 refine zG ?_
 refine EF O (BZ EC O ?_)
 intro T w3 e3 U Q e
 have p : t < T := by rw [e3]; exact Bx.lt E.1
 replace E := E.below Q
 clear e3
 have l := GD (e3 E)
 have k := GD E.2.2.1
 refine zG ?_
 refine sE E [0,1,2,3,4,5,6,7,8,9,10,11] ?_
 replace E := E.drew
 replace e := Bx.drew e
 refine zG ?_
 refine SW O O O O O (fun w hS => lO (a := h) (b := f) (c := (h != f)) O underlying4 O O (O)) ?_
 refine zG ?_
 refine GG (o := ⟨some 14, _, _, _, _, _⟩) O O O O (DA KH O (XM _ _ x.natAbs y.natAbs _ (IsI.sl (e3 E)) (IsI.sl E.2.2.1) (Fits.mono Fx AE) (Fits.mono Fy AE)) O E ?_)
 intro w4 v4 P E
 replace e := e.below P
 refine ⟨E.2, ?_⟩
 refine zG ?_
 refine GG (o := ⟨some 15, _, _, _, _, _⟩) O O O O (CH EI O (KN (h != f) _ (x.natAbs * y.natAbs) (x * y) _ E.1 (Ys l k)) O E ?_)
 intro w5 L H N E
 replace e := e.below N
 refine ⟨E.2.2, ?_⟩
 refine zG ?_
 refine GG (o := ⟨none, _, _, _, _, _⟩) O O O O (BY EC O O O e O O (IsI.one E.1) ?_)
 intro w6 J B
 replace E := oB E e J B
 refine ⟨E.2.2.2, ?_⟩
 have r1 := CL EC E.1 rfl
 refine zG ?_
 exact AQ (v := .agg #[.bool L, H]) (by simp [results, results77, asAddr, r1]) O ⟨_, O, E.2.1, e7 E⟩
theorem Ll (va : Value) (x : Int) (vb : Value) (y : Int) (w : World) (hva : IsI w va x) (hvb : IsI w vb y) (hy0 : y ≠ 0) (Fx : Fits x 900000000) (Fy : Fits y 900000000) :
 Calls prog 160 #[va, vb] w (RetDM w (x / y) (x % y) 0) := by
 have E := Env.start w
 obtain ⟨u, bx, rfl, _, _⟩ := hva.sh
 replace E := E.i hva
 obtain ⟨k, bw, rfl, _, _⟩ := hvb.sh
 replace E := E.i hvb
 go_enter func160, ntmps160
 refine zG ?_
 refine EF O (CM O O ?_)
 intro b1 w1 e1 z1 d1 x1
 have l1 : w.heap.size <= b1 := by rw [e1]; exact E.2.2.1.size
 replace E := E.below d1
 clear e1
 replace E := E.b x1
 refine zG ?_
 refine EF O (CM O O ?_)
 intro b2 w2 e2 z2 d2 x2
 have ax : b1 < b2 := by rw [e2]; exact Bx.lt E.1
 replace E := E.below d2
 clear e2
 replace E := E.b x2
 refine zG ?_
 refine EF O (BZ EC O ?_)
 intro b3 w3 e3 z3 d3 f
 have aw : b2 < b3 := by rw [e3]; exact Bx.lt E.1
 replace E := E.below d3
 clear e3
 refine zG ?_
 refine EF O (BZ EC O ?_)
 intro b4 w4 e4 z4 d4 e
 have av : b3 < b4 := by rw [e4]; exact Bx.lt (f)
 replace E := E.below d4
 replace f := Bx.below f d4
 clear e4
 have am := GD E.2.2.1
 have an := GD (e3 E)
 have l := zH hy0 an am
 by_cases hx : x < 0
 case neg =>
  obtain rfl : u = false := (GD (e3 E)).trans (decide_eq_false hx)
  obtain ⟨b0, aq, B⟩ := IsI.slice E.2.2.1
  refine zG ?_
  refine V (v := .int .i64 ↑((CD y.natAbs).length)) O O (KL O B) ?_
  refine V O O (EK (c := false) O O O (mC hy0)) ?_
  refine zG ?_
  refine EF O (VJ PZ O (VS _ _ x.natAbs y.natAbs _ (IsI.sl (e3 E)) (IsI.sl E.2.2.1) Fx Fy (Pn hy0)) O E ?_)
  intro bb bp bu H E
  replace f := f.below H
  replace e := e.below H
  refine zG ?_
  refine V O O (lO (a := false) (b := k) (c := (false != k)) O underlying4 O O (O)) ?_
  refine zG ?_
  refine EF O (CH EI O (KN (false != k) _ (x.natAbs / y.natAbs) (x / y) _ E.2.1 ((l.2 fun h => by cases h.1).1)) O E ?_)
  intro ba ah a2 G E
  replace f := f.below G
  replace e := e.below G
  refine zG ?_
  refine EF O (CH EI O (KN false _ (x.natAbs % y.natAbs) (x % y) _ E.2.1 ((l.2 fun h => by cases h.1).2)) O E ?_)
  intro b9 ag a1 F E
  replace f := f.below F
  replace e := e.below F
  refine zG ?_
  refine EF O (BY EC O O O f O O (IsI.one E.2.1) ?_)
  intro b8 p T
  replace E := oB E f p T
  replace e := Bx.onl e AA p
  refine zG ?_
  refine EF O (BY EC O O O e O O (IsI.one E.2.1) ?_)
  intro b7 ad S
  replace E := oB E e ad S
  have r1 := CL EC E.2.1 rfl
  have r2 := CL EC E.1 rfl
  refine zG ?_
  exact AQ (v := .tuple #[.agg #[.bool ah, a2], .agg #[.bool ag, a1], .int .i64 0]) YB7 O ⟨_, _, O, e3 E, E.2.2.1, RD E⟩
 obtain rfl : u = true := (GD (e3 E)).trans (decide_eq_true hx)
 by_cases o : 0 < x.natAbs % y.natAbs
 case neg =>
  obtain ⟨b6, au, D⟩ := IsI.slice E.2.2.1
  refine zG ?_
  refine V (v := .int .i64 ↑((CD y.natAbs).length)) O O (KL O D) ?_
  refine V O O (EK (c := false) O O O (mC hy0)) ?_
  refine zG ?_
  refine EF O (VJ PZ O (VS _ _ x.natAbs y.natAbs _ (IsI.sl (e3 E)) (IsI.sl E.2.2.1) Fx Fy (Pn hy0)) O E ?_)
  intro bi bq bv L E
  replace f := f.below L
  replace e := e.below L
  obtain ⟨b5, ar, C⟩ := Sl.shp E.1
  refine zG ?_
  refine V (v := .int .i64 ↑((CD (x.natAbs % y.natAbs)).length)) Z O (KL O C) ?_
  refine V Z O (EP (c := false) O O O (lenz o)) ?_
  refine zG ?_
  refine V O O (lO (a := true) (b := k) (c := (true != k)) O underlying4 O O (O)) ?_
  refine zG ?_
  refine EF O (CH EI O (KN (true != k) _ (x.natAbs / y.natAbs) (x / y) _ E.2.1 ((l.2 fun h => o h.2).1)) O E ?_)
  intro bh aj a4 J E
  replace f := f.below J
  replace e := e.below J
  refine zG ?_
  refine EF O (CH EI O (KN false _ (x.natAbs % y.natAbs) (x % y) _ E.2.1 ((l.2 fun h => o h.2).2)) O E ?_)
  intro bg ai a3 I E
  replace f := f.below I
  replace e := e.below I
  refine zG ?_
  refine EF O (BY EC O O O f O O (IsI.one E.2.1) ?_)
  intro bf q X
  replace E := oB E f q X
  replace e := Bx.onl e AA q
  refine zG ?_
  refine EF O (BY EC O O O e O O (IsI.one E.2.1) ?_)
  intro bc ae U
  replace E := oB E e ae U
  have r1 := CL EC E.2.1 rfl
  have r2 := CL EC E.1 rfl
  refine zG ?_
  exact AQ (v := .tuple #[.agg #[.bool aj, a4], .agg #[.bool ai, a3], .int .i64 0]) YB7 O ⟨_, _, O, e3 E, E.2.2.1, RD E⟩
 obtain ⟨c1, az, ap⟩ := IsI.slice E.2.2.1
 refine zG ?_
 refine V (v := .int .i64 ↑((CD y.natAbs).length)) O O (KL O ap) ?_
 refine V O O (EK (c := false) O O O (mC hy0)) ?_
 refine zG ?_
 refine EF O (VJ PZ O (VS _ _ x.natAbs y.natAbs _ (IsI.sl (e3 E)) (IsI.sl E.2.2.1) Fx Fy (Pn hy0)) O E ?_)
 intro w7 v7 u7 d7 E
 replace f := f.below d7
 replace e := e.below d7
 obtain ⟨c0, ay, ao⟩ := Sl.shp E.1
 refine zG ?_
 refine V (v := .int .i64 ↑((CD (x.natAbs % y.natAbs)).length)) Z O (KL O ao) ?_
 refine V Z O (EP (c := true) O O O (lenp o)) ?_
 refine zG ?_
 refine EF O (OF (c := 1) O O AE AE E ?_)
 intro w9 v9 d9 E
 replace f := f.below d9
 replace e := e.below d9
 refine zG ?_
 refine EF O (DA IZ O (UN _ _ (x.natAbs / y.natAbs) 1 _ E.2.2.1 E.1 (Nat.le_trans (Qn Fx) AE) len1) O E ?_)
 intro bo bt R E
 replace f := f.below R
 replace e := e.below R
 refine zG ?_
 refine EF O (DA TG O (nN _ _ y.natAbs (x.natAbs % y.natAbs) _ (IsI.sl (e6 E)) E.2.2.1 (Fits.mono (Fy.mono AE : Fits y 1000000000) AE) (Nat.le_of_lt (Nat.mod_lt _ (Pn hy0)))) O E ?_)
 intro bn br Q E
 replace f := f.below Q
 replace e := e.below Q
 refine zG ?_
 refine V O O (lO (a := true) (b := k) (c := (true != k)) O underlying4 O O (O)) ?_
 refine zG ?_
 refine EF O (CH EI O (KN (true != k) _ ((x.natAbs / y.natAbs) + 1) (x / y) _ E.2.1 ((l.1 ⟨O, o⟩).1)) O E ?_)
 intro bm al a6 P E
 replace f := f.below P
 replace e := e.below P
 refine zG ?_
 refine EF O (CH EI O (KN false _ (y.natAbs - (x.natAbs % y.natAbs)) (x % y) _ E.2.1 ((l.1 ⟨O, o⟩).2)) O E ?_)
 intro bl ak a5 N E
 replace f := f.below N
 replace e := e.below N
 refine zG ?_
 refine EF O (BY EC O O O f O O (IsI.one E.2.1) ?_)
 intro bk t a0
 replace E := oB E f t a0
 replace e := Bx.onl e AA t
 refine zG ?_
 refine EF O (BY EC O O O e O O (IsI.one E.2.1) ?_)
 intro bj af Y
 replace E := oB E e af Y
 have r1 := CL EC E.2.1 rfl
 have r2 := CL EC E.1 rfl
 refine zG ?_
 exact AQ (v := .tuple #[.agg #[.bool al, a6], .agg #[.bool ak, a5], .int .i64 0]) YB7 O ⟨_, _, O, e3 E, E.2.2.1, XX E⟩
theorem Sj (va : Value) (x : Int) (vb : Value) (y : Int) (w : World) (hva : IsI w va x) (hvb : IsI w vb y) (Fx : Fits x 900000000) (Fy : Fits y 900000000) :
 Calls prog 123 #[va, vb] w (RetZ w ((Nat.gcd x.natAbs y.natAbs) : Nat)) := by
 have E := Env.start w
 obtain ⟨G, u, rfl, _, _⟩ := hva.sh
 replace E := E.i hva
 obtain ⟨F, t, rfl, _, _⟩ := hvb.sh
 replace E := E.i hvb
 go_enter func123, ntmps123
 refine zG ?_
 refine EF O (CM O O ?_)
 intro l w1 e1 T P q
 have l1 : w.heap.size <= l := by rw [e1]; exact E.2.2.1.size
 replace E := E.below P
 clear e1
 replace E := E.b q
 refine zG ?_
 refine EF O (CM O O ?_)
 intro k w2 e2 S N p
 have h : l < k := by rw [e2]; exact Bx.lt E.1
 replace E := E.below N
 clear e2
 replace E := E.b p
 refine zG ?_
 refine EF O (BZ EC O ?_)
 intro Q w3 e3 R L e
 have f : k < Q := by rw [e3]; exact Bx.lt E.1
 replace E := E.below L
 clear e3
 refine zG ?_
 refine EF O (DA jD O (Ce _ _ x.natAbs y.natAbs _ (IsI.sl (e3 E)) (IsI.sl E.2.2.1) Fx Fy) O E ?_)
 intro Y v4 J E
 replace e := e.below J
 refine zG ?_
 refine EF O (CH EI O (KN false _ (Nat.gcd x.natAbs y.natAbs) ((Nat.gcd x.natAbs y.natAbs) : Nat) _ E.1 (O)) O E ?_)
 intro X H B I E
 replace e := e.below I
 refine zG ?_
 refine EF O (BY EC O O O e O O (IsI.one E.1) ?_)
 intro U D o
 replace E := oB E e D o
 have r1 := CL EC E.1 rfl
 refine zG ?_
 exact AQ (v := .agg #[.bool H, B]) (by simp [results, results123, asAddr, r1]) O ⟨_, O, E.2.1, e7 E⟩
theorem Oa {b : Bool} {w w' : World} (h : LX n = b /\ UF n = m) (hb : Below w.heap.size w w') : RetS w (UF n) (LX n) (.returned (.tuple #[.int .i64 m, .bool b])) w' := RetS.eq ⟨rfl, hb⟩ h.2.symm h.1.symm
theorem Tk (h : ¬ x < 0) (h2 : x.natAbs < 9223372036854775808) : IntKind.i64.wrap ((x.natAbs : Nat) : Int) = x := by simp only [IntKind.wrap_i64]; omega
theorem Yp (h : x < 0) (h2 : x.natAbs <= 9223372036854775808) : IntKind.u64.wrap (((x.natAbs : Nat) : Int) - 1) = -x - 1 := by simp only [IntKind.wrap_u64]; omega
theorem sm_c2 (h : x < 0) (h2 : x.natAbs <= 9223372036854775808) : IntKind.i64.wrap (-x - 1) = -x - 1 := by simp only [IntKind.wrap_i64]; omega
theorem Yq (h : x < 0) (h2 : x.natAbs <= 9223372036854775808) : IntKind.i64.wrap (-(-x - 1)) = x + 1 := by simp only [IntKind.wrap_i64]; omega
theorem Tj (h : x < 0) (h2 : x.natAbs <= 9223372036854775808) : IntKind.i64.wrap (x + 1 - 1) = x := by simp only [IntKind.wrap_i64]; omega
section
variable {ρ : Operand -> Value} {o : Oper} {w : World} {P : Program}
theorem nJ {x : Operand} (ho : o.op = .convert 161 2 x) (hx : ρ x = .int .u64 m) (hc : IntKind.i64.wrap m = c) : (execOp ρ o).run prog w = .ok (.value (.int .i64 c)) w := by
 subst hc; unfold execOp; rw [ho]; simp [hx, go_sem]
theorem Jf {x : Operand} (ho : o.op = .unOp .neg 2 x) (hx : ρ x = .int .i64 m) (hc : IntKind.i64.wrap (-m) = c) : (execOp ρ o).run prog w = .ok (.value (.int .i64 c)) w := by
 subst hc; unfold execOp; rw [ho]; simp [hx, go_sem]
theorem wU {t t' : TypeId} {k : IntKind} {x y : Operand} (ho : o.op = .binOp .sub t x y t') (hx : ρ x = .int k m) (hy : ρ y = .int k n) (hc : k.wrap (m - n) = c) : (execOp ρ o).run prog w = .ok (.value (.int k c)) w := by
 subst hc; unfold execOp; rw [ho]; simp [hx, hy, go_sem]
end
theorem Al (va : Value) (x : Int) (w : World) (hva : IsI w va x) :
 Calls prog 114 #[va] w (RetS w (UF x) (LX x)) := by
 have E := Env.start w
 obtain ⟨h, J, rfl, _, _⟩ := hva.sh
 replace E := E.i hva
 go_enter func114, ntmps114
 refine zG ?_
 refine EF O (CM O O ?_)
 intro b1 w1 e1 U Q G
 replace E := E.below Q
 clear e1
 replace E := E.b G
 by_cases L : 2 < (CD x.natAbs).length
 . obtain ⟨T, C, q⟩ := IsI.slice E.2.1
   refine zG ?_
   refine V (v := .int .i64 ↑((CD x.natAbs).length)) O O (KL O q) ?_
   refine zG ?_
   exact (Oa (rM L) E.2.2.1)
 by_cases e : x < 0
 case neg =>
  obtain rfl : h = false := (GD E.2.1).trans (decide_eq_false e)
  by_cases f : x.natAbs < 9223372036854775808
  case neg =>
   obtain ⟨D, t, k⟩ := IsI.slice E.2.1
   refine zG ?_
   refine V (v := .int .i64 ↑((CD x.natAbs).length)) O O (KL O k) ?_
   refine zG ?_
   refine EF O (RS OB O (QW _ x.natAbs _ (IsI.sl E.2.1) (AA)) O E ?_)
   intro H N E
   refine zG ?_
   exact (Oa (RU (.inr AA)) E.2.2.1)
  obtain ⟨F, u, l⟩ := IsI.slice E.2.1
  refine zG ?_
  refine V (v := .int .i64 ↑((CD x.natAbs).length)) O O (KL O l) ?_
  refine zG ?_
  refine EF O (RS OB O (QW _ x.natAbs _ (IsI.sl E.2.1) (AA)) O E ?_)
  intro I P E
  refine zG ?_
  refine V (v := .int .i64 x) O O (nJ O O (Tk e f)) ?_
  refine zG ?_
  exact (Oa (PE AA AA) E.2.2.1)
 obtain rfl : h = true := (GD E.2.1).trans (decide_eq_true e)
 by_cases f : x.natAbs <= 9223372036854775808
 case neg =>
  obtain ⟨R, y, o⟩ := IsI.slice E.2.1
  refine zG ?_
  refine V (v := .int .i64 ↑((CD x.natAbs).length)) O O (KL O o) ?_
  refine zG ?_
  refine EF O (RS OB O (QW _ x.natAbs _ (IsI.sl E.2.1) (AA)) O E ?_)
  intro X d9 E
  refine zG ?_
  exact (Oa (RU (.inl AA)) E.2.2.1)
 obtain ⟨S, B, p⟩ := IsI.slice E.2.1
 refine zG ?_
 refine V (v := .int .i64 ↑((CD x.natAbs).length)) O O (KL O p) ?_
 refine zG ?_
 refine EF O (RS OB O (QW _ x.natAbs _ (IsI.sl E.2.1) (AA)) O E ?_)
 intro Y d6 E
 refine zG ?_
 refine V (v := .int .u64 (-x - 1)) O O (wU O O O (Yp e f)) ?_
 refine V (v := .int .i64 (-x - 1)) O O (nJ O O (sm_c2 e f)) ?_
 refine V (v := .int .i64 (x + 1)) O O (Jf O O (Yq e f)) ?_
 refine zG ?_
 refine V (v := .int .i64 x) O O (wU O O O (Tj e f)) ?_
 refine zG ?_
 exact (Oa (PE AA AA) E.2.2.1)
end Go.Proofs.YtmppigbbkjepiaaGreatDoor
