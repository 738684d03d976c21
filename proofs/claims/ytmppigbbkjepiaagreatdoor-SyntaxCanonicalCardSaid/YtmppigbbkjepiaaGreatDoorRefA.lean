/- The reference's functions of integers. (Printed by g_ref.py.) -/
import Derived.Test.YtmppigbbkjepiaaGreatDoorDecim
import Derived.Test.YtmppigbbkjepiaaGreatDoorRefW
set_option maxHeartbeats 4000000
set_option maxRecDepth 100000
namespace Go.Proofs.YtmppigbbkjepiaaGreatDoor
open Go.Proofs.Tryz
open Go.RowKit W
section
variable {x y : Int} {n m : Bool}
theorem Ko (hn : n = decide (x < 0)) (hm : m = decide (y < 0)) (h : n = m) : GR n (x.natAbs + y.natAbs) = x + y := by
  subst hn; subst hm
  by_cases e : x < 0 <;> by_cases f : y < 0 <;> simp [e, f] at h <;> simp [GR, e] <;> omega
theorem sg_lt (hn : n = decide (x < 0)) (hm : m = decide (y < 0)) (h : ¬ n = m) (hl : x.natAbs < y.natAbs) : GR m (y.natAbs - x.natAbs) = x + y := by
  subst hn; subst hm
  by_cases f : x < 0 <;> by_cases e : y < 0 <;> simp [f, e] at h <;> simp [GR, e] <;> omega
theorem sg_ge (hn : n = decide (x < 0)) (hm : m = decide (y < 0)) (h : ¬ n = m) (hl : ¬ x.natAbs < y.natAbs) : GR n (x.natAbs - y.natAbs) = x + y := by
  subst hn; subst hm
  by_cases e : x < 0 <;> by_cases f : y < 0 <;> simp [e, f] at h <;> simp [GR, e] <;> omega
theorem Pk (hn : n = decide (x < 0)) (hm : m = decide (y < 0)) : GR (n != m) (x.natAbs * y.natAbs) = x * y := by
  subst hn; subst hm
  have h : ((x.natAbs * y.natAbs : Nat) : Int) = (x.natAbs : Int) * (y.natAbs : Int) := by simp
  unfold GR
  rw [h]
  by_cases f : x < 0 <;> by_cases e : y < 0
  · rw [decide_eq_true f, decide_eq_true e, if_neg AD, show (x.natAbs : Int) = -x by omega, show (y.natAbs : Int) = -y by omega]; grind
  · rw [decide_eq_true f, decide_eq_false e, if_pos AD, show (x.natAbs : Int) = -x by omega, show (y.natAbs : Int) = y by omega]; grind
  · rw [decide_eq_false f, decide_eq_true e, if_pos AD, show (x.natAbs : Int) = x by omega, show (y.natAbs : Int) = -y by omega]; grind
  · rw [decide_eq_false f, decide_eq_false e, if_neg AD, show (x.natAbs : Int) = x by omega, show (y.natAbs : Int) = y by omega]
theorem Pj (hn : n = decide (x < 0)) : GR (!n) x.natAbs = -x := by subst hn; exact qL x
theorem len1 : (CB 1).length ≤ 1000000000 := by rw [QW 1 AD]; simp [DU]
theorem Ls (h : x ≠ 0) : 0 < x.natAbs := by omega
theorem lenp {k : Nat} (h : 0 < k) : decide ((((CB k).length : Nat) : Int) > 0) = true := by
  rw [decide_eq_true_eq]
  rcases Nat.eq_zero_or_pos (CB k).length with e | e
  · have := (ET k).1 (List.eq_nil_of_length_eq_zero e); omega
  · omega
theorem lenz {k : Nat} (h : ¬ 0 < k) : decide ((((CB k).length : Nat) : Int) > 0) = false := by
  obtain rfl : k = 0 := by omega
  rw [DU]; rfl
theorem Na {a b : Nat} (h : a < b) : decide (IR a b < 0) = true := by rw [MP Z]; rfl
theorem Nb {a b : Nat} (h : ¬ a < b) : decide (IR a b < 0) = false := by
  rcases Nat.lt_or_ge b a with e | e
  · rw [NT Z]; rfl
  · rw [UF Z]; rfl
theorem Hh (h : ¬ x < 0) : (if (1 : Int) < (((CB x.natAbs).length : Nat) : Int) then 1 else (((CB x.natAbs).length : Nat) : Int)) = NA x := by
  rcases JH x with ⟨a, b⟩ | ⟨a, b⟩ | ⟨a, b⟩
  · exact absurd a h
  · subst a; rw [b, Int.natAbs_zero, DU]; rfl
  · have := yY (z := x) Z
    rw [b]; split <;> omega
theorem Rk (h1 : x < 0) (h2 : ¬ y < 0) : IR x y = -1 := MP Z
theorem Rl (h1 : ¬ x < 0) (h2 : y < 0) : IR x y = 1 := NT Z
theorem Rj (h1 : x < 0) (h2 : y < 0) : IR (y.natAbs : Nat) (x.natAbs : Nat) = IR x y := by
  unfold IR; repeat' split
  all_goals first | rfl | omega
theorem Ri (h1 : ¬ x < 0) (h2 : ¬ y < 0) : IR (x.natAbs : Nat) (y.natAbs : Nat) = IR x y := by
  unfold IR; repeat' split
  all_goals first | rfl | omega
end
theorem bP (va : Value) (x : Int) (w : World) (hva : IsI w va x) :
    Calls prog 103 #[va] w (XY w (NA x)) := by
 have E := Env.start w
 obtain ⟨e, q, rfl, _, _⟩ := hva.sh
 replace E := E.i hva
 clear hva
 go_enter func103, ntmps103
 refine zG ?_
 refine EF O (CI O O ?_)
 intro z y t p l k
 replace E := E.below l
 clear t p l
 replace E := E.b k
 clear k
 by_cases f : x < 0
 case pos =>
  obtain rfl : e = true := (FY E.2.1).trans (decide_eq_true f)
  refine zG ?_
  exact ⟨(FD (MP f).symm), E.2.2.1⟩
 obtain rfl : e = false := (FY E.2.1).trans (decide_eq_false f)
 obtain ⟨u, o, h⟩ := IsI.slice E.2.1
 refine zG ?_
 refine V (v := .int .i64 ↑((CB x.natAbs).length)) O O (RM O h) ?_
 refine V (v := .int .i64 (NA x)) O O (Fw O O O (Hh f)) ?_
 refine zG ?_
 exact ⟨rfl, E.2.2.1⟩
theorem Sf (va : Value) (x : Int) (vb : Value) (y : Int) (w : World) (hva : IsI w va x) (hvb : IsI w vb y) :
    Calls prog 151 #[va, vb] w (XY w (IR x y)) := by
 have E := Env.start w
 obtain ⟨k, z, rfl, _, _⟩ := hva.sh
 replace E := E.i hva
 clear hva
 obtain ⟨e, v, rfl, _, _⟩ := hvb.sh
 replace E := E.i hvb
 clear hvb
 go_enter func151, ntmps151
 refine zG ?_
 refine EF O (CI O O ?_)
 intro L H C u q o
 replace E := E.below q
 clear C u q
 replace E := E.b o
 clear o
 refine zG ?_
 refine EF O (CI O O ?_)
 intro J G B t p l
 replace E := E.below p
 clear B t p
 replace E := E.b l
 clear l
 by_cases h : x < 0
 case pos =>
  obtain rfl : k = true := (FY (e3 E)).trans (decide_eq_true h)
  by_cases f : y < 0
  case neg =>
   obtain rfl : e = false := (FY E.2.2.1).trans (decide_eq_false f)
   refine zG ?_
   exact ⟨FD (Rk h f).symm, e4 E⟩
  obtain rfl : e = true := (FY E.2.2.1).trans (decide_eq_true f)
  refine zG ?_
  refine EF O (CH JT O (RR _ _ y.natAbs x.natAbs _ (IsI.sl E.2.2.1) (IsI.sl (e3 E))) O E ?_)
  clear E
  intro F _ E
  refine zG ?_
  exact ⟨FD (Rj h f), e4 E⟩
 obtain rfl : k = false := (FY (e3 E)).trans (decide_eq_false h)
 by_cases f : y < 0
 case pos =>
  obtain rfl : e = true := (FY E.2.2.1).trans (decide_eq_true f)
  refine zG ?_
  exact ⟨FD (Rl h f).symm, e4 E⟩
 obtain rfl : e = false := (FY E.2.2.1).trans (decide_eq_false f)
 refine zG ?_
 refine EF O (CH JT O (RR _ _ x.natAbs y.natAbs _ (IsI.sl (e3 E)) (IsI.sl E.2.2.1)) O E ?_)
 clear E
 intro D _ E
 refine zG ?_
 exact ⟨FD (Ri h f), e4 E⟩
theorem Sd (va : Value) (x : Int) (w : World) (hva : IsI w va x) :
    Calls prog 112 #[va] w (RetZ w (-x)) := by
 have E := Env.start w
 obtain ⟨e, D, rfl, _, _⟩ := hva.sh
 replace E := E.i hva
 clear hva
 go_enter func112, ntmps112
 refine zG ?_
 refine EF O (CI O O ?_)
 intro z Q q C y k
 have R : w.heap.size ≤ z := by rw [q]; exact E.2.1.size
 replace E := E.below y
 clear q C y
 replace E := E.b k
 clear k
 refine zG ?_
 refine EF O (CA FM O ?_)
 intro J P p B u f
 have o : z < J := by rw [p]; exact Bx.lt E.1
 replace E := E.below u
 clear p B u
 refine zG ?_
 refine V (v := .bool (!e)) O O (TR (b := e) O O) ?_
 refine zG ?_
 refine EF O (CG ED O (ME (!e) _ x.natAbs (-x) _ (IsI.sl E.2.1) (Pj (FY E.2.1))) O E ?_)
 clear E
 intro N H F t E
 replace f := f.below t
 clear t
 refine zG ?_
 refine EF O (BX FM O O O f O O (IsI.one E.1) ?_)
 intro L l h
 replace E := (E.onl (f.noW CW) zK l).b h
 clear f l h
 have G := CY FM E.1 rfl
 refine zG ?_
 exact AP (v := .agg #[.bool H, F]) (by simp [results, results112, asAddr, G]) O ⟨_, O, E.2.1, e4 E⟩
theorem wX (va : Value) (x : Int) (vb : Value) (y : Int) (w : World) (hva : IsI w va x) (hvb : IsI w vb y) (Fx : Fits x 1000000000) (Fy : Fits y 1000000000) :
    Calls prog 76 #[va, vb] w (RetZ w (x + y)) := by
 have E := Env.start w
 obtain ⟨f, a8, rfl, _, _⟩ := hva.sh
 replace E := E.i hva
 clear hva
 obtain ⟨h, a7, rfl, _, _⟩ := hvb.sh
 replace E := E.i hvb
 clear hvb
 go_enter func76, ntmps76
 refine zG ?_
 refine EF O (CI O O ?_)
 intro b1 w1 e1 z1 d1 T
 have l1 : w.heap.size ≤ b1 := by rw [e1]; exact E.2.2.1.size
 replace E := E.below d1
 clear e1 z1 d1
 replace E := E.b T
 clear T
 refine zG ?_
 refine EF O (CI O O ?_)
 intro b2 w2 e2 z2 d2 S
 have Y : b1 < b2 := by rw [e2]; exact Bx.lt E.1
 replace E := E.below d2
 clear e2 z2 d2
 replace E := E.b S
 clear S
 refine zG ?_
 refine EF O (CA FM O ?_)
 intro b3 w3 e3 z3 d3 e
 have X : b2 < b3 := by rw [e3]; exact Bx.lt E.1
 replace E := E.below d3
 clear e3 z3 d3
 have l := FY (e3 E)
 have k := FY E.2.2.1
 by_cases p : f = h
 case pos =>
  refine zG ?_
  refine V O O (nT (a := f) (b := h) (c := true) O underlying4 O O (beq_iff_eq.2 p)) ?_
  refine zG ?_
  refine sE E [0,1,2,3,4,5,6,7,8] ?_
  replace E := E.drew
  replace e := Bx.drew e
  refine zG ?_
  refine JF (o := ⟨some 16, _, _, _, _, _⟩) O O O O (EH UU O (rI _ _ x.natAbs y.natAbs _ (IsI.sl (e3 E)) (IsI.sl E.2.2.1) (Fits.mono Fx AD) (Fits.mono Fy AD)) O E ?_)
  clear E
  intro w4 v4 d4 E
  replace e := e.below d4
  clear d4
  refine ⟨E.2, ?_⟩
  refine zG ?_
  refine JF (o := ⟨some 17, _, _, _, _, _⟩) O O O O (CG ED O (ME f _ (x.natAbs + y.natAbs) (x + y) _ E.1 (Ko l k p)) O E ?_)
  clear E
  intro w5 n5 s5 d5 E
  replace e := e.below d5
  clear d5
  refine ⟨E.2.2, ?_⟩
  refine zG ?_
  refine JF (o := ⟨none, _, _, _, _, _⟩) O O O O (BX FM O O O e O O (IsI.one E.1) ?_)
  intro w6 U R
  replace E := (E.onl (e.noW CW) zK U).b R
  clear e U R
  refine ⟨E.2.2.2, ?_⟩
  have r7 := CY FM E.1 rfl
  refine zG ?_
  exact AP (v := .agg #[.bool n5, s5]) (by simp [results, results76, asAddr, r7]) O ⟨_, O, E.2.1, e7 E⟩
 by_cases q : x.natAbs < y.natAbs
 case pos =>
  refine zG ?_
  refine V O O (nT (a := f) (b := h) (c := false) O underlying4 O O (beq_eq_false_iff_ne.2 p)) ?_
  refine zG ?_
  refine EF O (CH JT O (RR _ _ x.natAbs y.natAbs _ (IsI.sl (e3 E)) (IsI.sl E.2.2.1)) O E ?_)
  clear E
  intro w8 d8 E
  replace e := e.below d8
  clear d8
  refine zG ?_
  refine V O O (MD (c := true) O O O (Na q)) ?_
  refine zG ?_
  refine sE E [0,1,2,3,4,5,6,7,8] ?_
  replace E := E.drew
  replace e := Bx.drew e
  refine zG ?_
  refine JF (o := ⟨some 30, _, _, _, _, _⟩) O O O O (EH PO O (iG _ _ y.natAbs x.natAbs _ (IsI.sl E.2.2.1) (IsI.sl (e3 E)) (Fits.mono Fy AD) (Nat.le_of_lt q)) O E ?_)
  clear E
  intro w9 v9 d9 E
  replace e := e.below d9
  clear d9
  refine ⟨E.2, ?_⟩
  refine zG ?_
  refine JF (o := ⟨some 31, _, _, _, _, _⟩) O O O O (CG ED O (ME h _ (y.natAbs - x.natAbs) (x + y) _ E.1 (sg_lt l k p q)) O E ?_)
  clear E
  intro a5 Q J G E
  replace e := e.below G
  clear G
  refine ⟨E.2.2, ?_⟩
  refine zG ?_
  refine JF (o := ⟨none, _, _, _, _, _⟩) O O O O (BX FM O O O e O O (IsI.one E.1) ?_)
  intro a4 B u
  replace E := (E.onl (e.noW CW) zK B).b u
  clear e B u
  refine ⟨E.2.2.2, ?_⟩
  have N := CY FM E.1 rfl
  refine zG ?_
  exact AP (v := .agg #[.bool Q, J]) (by simp [results, results76, asAddr, N]) O ⟨_, O, E.2.1, e7 E⟩
 refine zG ?_
 refine V O O (nT (a := f) (b := h) (c := false) O underlying4 O O (beq_eq_false_iff_ne.2 p)) ?_
 refine zG ?_
 refine EF O (CH JT O (RR _ _ x.natAbs y.natAbs _ (IsI.sl (e3 E)) (IsI.sl E.2.2.1)) O E ?_)
 clear E
 intro a3 F E
 replace e := e.below F
 clear F
 refine zG ?_
 refine V O O (MD (c := false) O O O (Nb q)) ?_
 refine zG ?_
 refine sE E [0,1,2,3,4,5,6,7,8] ?_
 replace E := E.drew
 replace e := Bx.drew e
 refine zG ?_
 refine JF (o := ⟨some 38, _, _, _, _, _⟩) O O O O (EH PO O (iG _ _ x.natAbs y.natAbs _ (IsI.sl (e3 E)) (IsI.sl E.2.2.1) (Fits.mono Fx AD) (Nat.le_of_not_lt q)) O E ?_)
 clear E
 intro a2 a6 D E
 replace e := e.below D
 clear D
 refine ⟨E.2, ?_⟩
 refine zG ?_
 refine JF (o := ⟨some 39, _, _, _, _, _⟩) O O O O (CG ED O (ME f _ (x.natAbs - y.natAbs) (x + y) _ E.1 (sg_ge l k p q)) O E ?_)
 clear E
 intro a1 P H C E
 replace e := e.below C
 clear C
 refine ⟨E.2.2, ?_⟩
 refine zG ?_
 refine JF (o := ⟨none, _, _, _, _, _⟩) O O O O (BX FM O O O e O O (IsI.one E.1) ?_)
 intro a0 z t
 replace E := (E.onl (e.noW CW) zK z).b t
 clear e z t
 refine ⟨E.2.2.2, ?_⟩
 have L := CY FM E.1 rfl
 refine zG ?_
 exact AP (v := .agg #[.bool P, H]) (by simp [results, results76, asAddr, L]) O ⟨_, O, E.2.1, e7 E⟩
theorem OL (va : Value) (x : Int) (vb : Value) (y : Int) (w : World) (hva : IsI w va x) (hvb : IsI w vb y) (Fx : Fits x 1000000000) (Fy : Fits y 1000000000) :
    Calls prog 77 #[va, vb] w (RetZ w (x * y)) := by
 have E := Env.start w
 obtain ⟨h, U, rfl, _, _⟩ := hva.sh
 replace E := E.i hva
 clear hva
 obtain ⟨f, T, rfl, _, _⟩ := hvb.sh
 replace E := E.i hvb
 clear hvb
 go_enter func77, ntmps77
 refine zG ?_
 refine EF O (CI O O ?_)
 intro P w1 D S L t
 have l1 : w.heap.size ≤ P := by rw [D]; exact E.2.2.1.size
 replace E := E.below L
 clear D S L
 replace E := E.b t
 clear t
 refine zG ?_
 refine EF O (CI O O ?_)
 intro N w2 C R J q
 have B : P < N := by rw [C]; exact Bx.lt E.1
 replace E := E.below J
 clear C R J
 replace E := E.b q
 clear q
 refine zG ?_
 refine EF O (CA FM O ?_)
 intro b3 w3 e3 Q H e
 have z : N < b3 := by rw [e3]; exact Bx.lt E.1
 replace E := E.below H
 clear e3 Q H
 have l := FY (e3 E)
 have k := FY E.2.2.1
 refine zG ?_
 refine sE E [0,1,2,3,4,5,6,7,8,9,10,11] ?_
 replace E := E.drew
 replace e := Bx.drew e
 refine zG ?_
 refine SW O O O O O (fun w hS => fO (a := h) (b := f) (c := (h != f)) O underlying4 O O (O)) ?_
 refine zG ?_
 refine JF (o := ⟨some 14, _, _, _, _, _⟩) O O O O (EH eW O (Gd _ _ x.natAbs y.natAbs _ (IsI.sl (e3 E)) (IsI.sl E.2.2.1) (Fits.mono Fx AD) (Fits.mono Fy AD)) O E ?_)
 clear E
 intro w4 v4 G E
 replace e := e.below G
 clear G
 refine ⟨E.2, ?_⟩
 refine zG ?_
 refine JF (o := ⟨some 15, _, _, _, _, _⟩) O O O O (CG ED O (ME (h != f) _ (x.natAbs * y.natAbs) (x * y) _ E.1 (Pk l k)) O E ?_)
 clear E
 intro w5 n5 X F E
 replace e := e.below F
 clear F
 refine ⟨E.2.2, ?_⟩
 refine zG ?_
 refine JF (o := ⟨none, _, _, _, _, _⟩) O O O O (BX FM O O O e O O (IsI.one E.1) ?_)
 intro w6 u p
 replace E := (E.onl (e.noW CW) zK u).b p
 clear e u p
 refine ⟨E.2.2.2, ?_⟩
 have Y := CY FM E.1 rfl
 refine zG ?_
 exact AP (v := .agg #[.bool n5, X]) (by simp [results, results77, asAddr, Y]) O ⟨_, O, E.2.1, e7 E⟩
theorem Ea (va : Value) (x : Int) (vb : Value) (y : Int) (w : World) (hva : IsI w va x) (hvb : IsI w vb y) (hy0 : y ≠ 0) (Fx : Fits x 900000000) (Fy : Fits y 900000000) :
    Calls prog 160 #[va, vb] w (Ox w (x / y) (x % y) 0) := by
 have E := Env.start w
 obtain ⟨a0, bw, rfl, _, _⟩ := hva.sh
 replace E := E.i hva
 clear hva
 obtain ⟨k, bv, rfl, _, _⟩ := hvb.sh
 replace E := E.i hvb
 clear hvb
 go_enter func160, ntmps160
 refine zG ?_
 refine EF O (CI O O ?_)
 intro b1 w1 e1 z1 d1 x1
 have l1 : w.heap.size ≤ b1 := by rw [e1]; exact E.2.2.1.size
 replace E := E.below d1
 clear e1 z1 d1
 replace E := E.b x1
 clear x1
 refine zG ?_
 refine EF O (CI O O ?_)
 intro b2 w2 e2 z2 d2 x2
 have ax : b1 < b2 := by rw [e2]; exact Bx.lt E.1
 replace E := E.below d2
 clear e2 z2 d2
 replace E := E.b x2
 clear x2
 refine zG ?_
 refine EF O (CA FM O ?_)
 intro b3 w3 e3 z3 d3 f
 have aw : b2 < b3 := by rw [e3]; exact Bx.lt E.1
 replace E := E.below d3
 clear e3 z3 d3
 refine zG ?_
 refine EF O (CA FM O ?_)
 intro b4 w4 e4 z4 d4 e
 have av : b3 < b4 := by rw [e4]; exact Bx.lt (f)
 replace E := E.below d4
 replace f := Bx.below f d4
 clear e4 z4 d4
 have am := FY E.2.2.1
 have an := FY (e3 E)
 have l := sS hy0 an am
 by_cases hx : x < 0
 case neg =>
  obtain rfl : a0 = false := (FY (e3 E)).trans (decide_eq_false hx)
  obtain ⟨b0, aq, a1⟩ := IsI.slice E.2.2.1
  refine zG ?_
  refine V (v := .int .i64 ↑((CB y.natAbs).length)) O O (RM O a1) ?_
  refine V O O (GQ (c := false) O O O (oR hy0)) ?_
  refine zG ?_
  refine EF O (RB NR O (RP _ _ x.natAbs y.natAbs _ (IsI.sl (e3 E)) (IsI.sl E.2.2.1) Fx Fy (Ls hy0)) O E ?_)
  clear E
  intro bb bo bt z E
  replace f := f.below z
  replace e := e.below z
  clear z
  refine zG ?_
  refine V O O (fO (a := false) (b := k) (c := (false != k)) O underlying4 O O (O)) ?_
  refine zG ?_
  refine EF O (CG ED O (ME (false != k) _ (x.natAbs / y.natAbs) (x / y) _ E.2.1 ((l.2 fun h => by cases h.1).1)) O E ?_)
  clear E
  intro ba ah a5 u E
  replace f := f.below u
  replace e := e.below u
  clear u
  refine zG ?_
  refine EF O (CG ED O (ME false _ (x.natAbs % y.natAbs) (x % y) _ E.2.1 ((l.2 fun h => by cases h.1).2)) O E ?_)
  clear E
  intro b9 ag a4 t E
  replace f := f.below t
  replace e := e.below t
  clear t
  refine zG ?_
  refine EF O (BX FM O O O f O O (IsI.one E.2.1) ?_)
  intro b8 o P
  replace E := (E.onl (f.noW CW) zK o).b P
  replace e := Bx.onl e Z o
  clear f o P
  refine zG ?_
  refine EF O (BX FM O O O e O O (IsI.one E.2.1) ?_)
  intro b7 U N
  replace E := (E.onl (e.noW CW) zK U).b N
  clear e U N
  have ab := CY FM E.2.1 rfl
  have aa := CY FM E.1 rfl
  refine zG ?_
  exact AP (v := .tuple #[.agg #[.bool ah, a5], .agg #[.bool ag, a4], .int .i64 0]) (by simp [results, results160, asAddr, ab, aa]) O ⟨_, _, O, e3 E, E.2.2.1, PP E⟩
 obtain rfl : a0 = true := (FY (e3 E)).trans (decide_eq_true hx)
 by_cases L : 0 < x.natAbs % y.natAbs
 case neg =>
  obtain ⟨b6, au, a3⟩ := IsI.slice E.2.2.1
  refine zG ?_
  refine V (v := .int .i64 ↑((CB y.natAbs).length)) O O (RM O a3) ?_
  refine V O O (GQ (c := false) O O O (oR hy0)) ?_
  refine zG ?_
  refine EF O (RB NR O (RP _ _ x.natAbs y.natAbs _ (IsI.sl (e3 E)) (IsI.sl E.2.2.1) Fx Fy (Ls hy0)) O E ?_)
  clear E
  intro bh bp bu D E
  replace f := f.below D
  replace e := e.below D
  clear D
  obtain ⟨b5, ar, a2⟩ := Sl.shp E.1
  refine zG ?_
  refine V (v := .int .i64 ↑((CB (x.natAbs % y.natAbs)).length)) I O (RM O a2) ?_
  refine V I O (TV (c := false) O O O (lenz L)) ?_
  refine zG ?_
  refine V O O (fO (a := true) (b := k) (c := (true != k)) O underlying4 O O (O)) ?_
  refine zG ?_
  refine EF O (CG ED O (ME (true != k) _ (x.natAbs / y.natAbs) (x / y) _ E.2.1 ((l.2 fun h => L h.2).1)) O E ?_)
  clear E
  intro bg aj a7 C E
  replace f := f.below C
  replace e := e.below C
  clear C
  refine zG ?_
  refine EF O (CG ED O (ME false _ (x.natAbs % y.natAbs) (x % y) _ E.2.1 ((l.2 fun h => L h.2).2)) O E ?_)
  clear E
  intro bf ai a6 B E
  replace f := f.below B
  replace e := e.below B
  clear B
  refine zG ?_
  refine EF O (BX FM O O O f O O (IsI.one E.2.1) ?_)
  intro bd p R
  replace E := (E.onl (f.noW CW) zK p).b R
  replace e := Bx.onl e Z p
  clear f p R
  refine zG ?_
  refine EF O (BX FM O O O e O O (IsI.one E.2.1) ?_)
  intro bc X Q
  replace E := (E.onl (e.noW CW) zK X).b Q
  clear e X Q
  have ad := CY FM E.2.1 rfl
  have ac := CY FM E.1 rfl
  refine zG ?_
  exact AP (v := .tuple #[.agg #[.bool aj, a7], .agg #[.bool ai, a6], .int .i64 0]) (by simp [results, results160, asAddr, ad, ac]) O ⟨_, _, O, e3 E, E.2.2.1, PP E⟩
 obtain ⟨bz, az, ap⟩ := IsI.slice E.2.2.1
 refine zG ?_
 refine V (v := .int .i64 ↑((CB y.natAbs).length)) O O (RM O ap) ?_
 refine V O O (GQ (c := false) O O O (oR hy0)) ?_
 refine zG ?_
 refine EF O (RB NR O (RP _ _ x.natAbs y.natAbs _ (IsI.sl (e3 E)) (IsI.sl E.2.2.1) Fx Fy (Ls hy0)) O E ?_)
 clear E
 intro w7 v7 u7 d7 E
 replace f := f.below d7
 replace e := e.below d7
 clear d7
 obtain ⟨bx, ay, ao⟩ := Sl.shp E.1
 refine zG ?_
 refine V (v := .int .i64 ↑((CB (x.natAbs % y.natAbs)).length)) I O (RM O ao) ?_
 refine V I O (TV (c := true) O O O (lenp L)) ?_
 refine zG ?_
 refine EF O (pO (c := 1) O O AD AD E ?_)
 clear E
 intro w9 v9 d9 E
 replace f := f.below d9
 replace e := e.below d9
 clear d9
 refine zG ?_
 refine EF O (EH UU O (rI _ _ (x.natAbs / y.natAbs) 1 _ E.2.2.1 E.1 (Nat.le_trans (Hy Fx) AD) len1) O E ?_)
 clear E
 intro bn br J E
 replace f := f.below J
 replace e := e.below J
 clear J
 refine zG ?_
 refine EF O (EH PO O (iG _ _ y.natAbs (x.natAbs % y.natAbs) _ (IsI.sl (e6 E)) E.2.2.1 (Fits.mono (Fy.mono AD : Fits y 1000000000) AD) (Nat.le_of_lt (Nat.mod_lt _ (Ls hy0)))) O E ?_)
 clear E
 intro bm bq H E
 replace f := f.below H
 replace e := e.below H
 clear H
 refine zG ?_
 refine V O O (fO (a := true) (b := k) (c := (true != k)) O underlying4 O O (O)) ?_
 refine zG ?_
 refine EF O (CG ED O (ME (true != k) _ ((x.natAbs / y.natAbs) + 1) (x / y) _ E.2.1 ((l.1 ⟨O, L⟩).1)) O E ?_)
 clear E
 intro bl al a9 G E
 replace f := f.below G
 replace e := e.below G
 clear G
 refine zG ?_
 refine EF O (CG ED O (ME false _ (y.natAbs - (x.natAbs % y.natAbs)) (x % y) _ E.2.1 ((l.1 ⟨O, L⟩).2)) O E ?_)
 clear E
 intro bk ak a8 F E
 replace f := f.below F
 replace e := e.below F
 clear F
 refine zG ?_
 refine EF O (BX FM O O O f O O (IsI.one E.2.1) ?_)
 intro bj q T
 replace E := (E.onl (f.noW CW) zK q).b T
 replace e := Bx.onl e Z q
 clear f q T
 refine zG ?_
 refine EF O (BX FM O O O e O O (IsI.one E.2.1) ?_)
 intro bi Y S
 replace E := (E.onl (e.noW CW) zK Y).b S
 clear e Y S
 have af := CY FM E.2.1 rfl
 have ae := CY FM E.1 rfl
 refine zG ?_
 exact AP (v := .tuple #[.agg #[.bool al, a9], .agg #[.bool ak, a8], .int .i64 0]) (by simp [results, results160, asAddr, af, ae]) O ⟨_, _, O, e3 E, E.2.2.1, VE E⟩
theorem Jn (va : Value) (x : Int) (vb : Value) (y : Int) (w : World) (hva : IsI w va x) (hvb : IsI w vb y) (Fx : Fits x 900000000) (Fy : Fits y 900000000) :
    Calls prog 123 #[va, vb] w (RetZ w ((Nat.gcd x.natAbs y.natAbs) : Nat)) := by
 have E := Env.start w
 obtain ⟨T, P, rfl, _, _⟩ := hva.sh
 replace E := E.i hva
 clear hva
 obtain ⟨S, N, rfl, _, _⟩ := hvb.sh
 replace E := E.i hvb
 clear hvb
 go_enter func123, ntmps123
 refine zG ?_
 refine EF O (CI O O ?_)
 intro G w1 t L D k
 have l1 : w.heap.size ≤ G := by rw [t]; exact E.2.2.1.size
 replace E := E.below D
 clear t L D
 replace E := E.b k
 clear k
 refine zG ?_
 refine EF O (CI O O ?_)
 intro F w2 q J C h
 have p : G < F := by rw [q]; exact Bx.lt E.1
 replace E := E.below C
 clear q J C
 replace E := E.b h
 clear h
 refine zG ?_
 refine EF O (CA FM O ?_)
 intro X w3 e3 H B e
 have o : F < X := by rw [e3]; exact Bx.lt E.1
 replace E := E.below B
 clear e3 H B
 refine zG ?_
 refine EF O (EH cP O (vA _ _ x.natAbs y.natAbs _ (IsI.sl (e3 E)) (IsI.sl E.2.2.1) Fx Fy) O E ?_)
 clear E
 intro w4 v4 z E
 replace e := e.below z
 clear z
 refine zG ?_
 refine EF O (CG ED O (ME false _ (Nat.gcd x.natAbs y.natAbs) ((Nat.gcd x.natAbs y.natAbs) : Nat) _ E.1 (O)) O E ?_)
 clear E
 intro w5 U Q u E
 replace e := e.below u
 clear u
 refine zG ?_
 refine EF O (BX FM O O O e O O (IsI.one E.1) ?_)
 intro Y l f
 replace E := (E.onl (e.noW CW) zK l).b f
 clear e l f
 have R := CY FM E.1 rfl
 refine zG ?_
 exact AP (v := .agg #[.bool U, Q]) (by simp [results, results123, asAddr, R]) O ⟨_, O, E.2.1, e7 E⟩
end Go.Proofs.YtmppigbbkjepiaaGreatDoor
