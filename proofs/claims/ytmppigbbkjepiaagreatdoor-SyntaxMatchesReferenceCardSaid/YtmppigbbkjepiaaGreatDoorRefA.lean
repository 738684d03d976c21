/- Helping facts of RefA; no other conditions. -/
import Derived.Test.YtmppigbbkjepiaaGreatDoorDecim
import Derived.Test.YtmppigbbkjepiaaGreatDoorRefW
set_option maxHeartbeats 4000000
set_option maxRecDepth 100000
namespace Go.Proofs.YtmppigbbkjepiaaGreatDoor
open Go.Proofs.Tryz
open Go.RowKit W
variable {a b k : Nat} {p : Prop}
theorem YB7 (h : p := by simp [results, results160, asAddr, r1, r2]) : p := h
theorem Z32 (h : p := by
 intro w5 n5 s5 d5 E
 replace e := e.below d5
 refine ⟨E.2.2, ?_⟩
 refine zG ?_
 refine GZ (o := ⟨none, _, _, _, _, _⟩) O O O O (BY GD O O O e O O (IsI.one E.1) ?_)
 intro w6 o6 U
 replace E := oB E e o6 U
 refine ⟨E.2.2.2, ?_⟩
 have r1 := DA GD E.1 rfl
 refine zG ?_
 exact AQ (v := .agg #[.bool n5, s5]) (by simp [results, results76, asAddr, r1]) O ⟨_, O, E.2.1, e7 E⟩
 ) : p := h
theorem ZYb (h : p := by
 subst hn; subst hm
 by_cases e : x < 0 <;> by_cases f : y < 0 <;> simp [e, f] at h <;> simp [IE, e] <;> omega
 ) : p := h
section
variable {x y : Int} {n m : Bool}
theorem Sp (hn : n = decide (x < 0)) (hm : m = decide (y < 0)) (h : n = m) : IE n (x.natAbs + y.natAbs) = x + y := by
 exact ZYb
theorem sg_lt (hn : n = decide (x < 0)) (hm : m = decide (y < 0)) (h : ¬ n = m) (hl : x.natAbs < y.natAbs) : IE m (y.natAbs - x.natAbs) = x + y := by
 subst hn; subst hm
 by_cases f : x < 0 <;> by_cases e : y < 0 <;> simp [f, e] at h <;> simp [IE, e] <;> omega
theorem sg_ge (hn : n = decide (x < 0)) (hm : m = decide (y < 0)) (h : ¬ n = m) (hl : ¬ x.natAbs < y.natAbs) : IE n (x.natAbs - y.natAbs) = x + y := by
 exact ZYb
theorem Yb (hn : n = decide (x < 0)) (hm : m = decide (y < 0)) : IE (n != m) (x.natAbs * y.natAbs) = x * y := by
 subst hn; subst hm
 have h : ((x.natAbs * y.natAbs : Nat) : Int) = (x.natAbs : Int) * (y.natAbs : Int) := by simp
 unfold IE
 rw [h]
 by_cases f : x < 0 <;> by_cases e : y < 0
 . rw [decide_eq_true f, decide_eq_true e, if_neg AE, show (x.natAbs : Int) = -x by omega, show (y.natAbs : Int) = -y by omega]; grind
 . rw [decide_eq_true f, decide_eq_false e, if_pos AE, show (x.natAbs : Int) = -x by omega, show (y.natAbs : Int) = y by omega]; grind
 . rw [decide_eq_false f, decide_eq_true e, if_pos AE, show (x.natAbs : Int) = x by omega, show (y.natAbs : Int) = -y by omega]; grind
 rw [decide_eq_false f, decide_eq_false e, if_neg AE, show (x.natAbs : Int) = x by omega, show (y.natAbs : Int) = y by omega]
theorem Ya (hn : n = decide (x < 0)) : IE (!n) x.natAbs = -x := by subst hn; exact vT x
theorem len1 : (CC 1).length <= 1000000000 := by rw [TO 1 AE]; simp [DX]
theorem Ny (h : x ≠ 0) : 0 < x.natAbs := by omega
theorem lenp (h : 0 < k) : decide ((((CC k).length : Nat) : Int) > 0) = true := by
 rw [decide_eq_true_eq]
 rcases Nat.eq_zero_or_pos (CC k).length with e | e
 . have := (FR k).1 (List.eq_nil_of_length_eq_zero e); omega
 omega
theorem lenz (h : ¬ 0 < k) : decide ((((CC k).length : Nat) : Int) > 0) = false := by
 obtain rfl : k = 0 := by omega
 rw [DX]; rfl
theorem Vq (h : a < b) : decide (JC a b < 0) = true := by rw [OB AA]; rfl
theorem Vr (h : ¬ a < b) : decide (JC a b < 0) = false := by
 rcases Nat.lt_or_ge b a with e | e
 . rw [PM AA]; rfl
 rw [UI AA]; rfl
theorem Oi (h : ¬ x < 0) : (if (1 : Int) < (((CC x.natAbs).length : Nat) : Int) then 1 else (((CC x.natAbs).length : Nat) : Int)) = OP x := by
 rcases LC x with ⟨a, b⟩ | ⟨a, b⟩ | ⟨a, b⟩
 . exact absurd a h
 . subst a; rw [b, Int.natAbs_zero, DX]; rfl
 have := Ex (z := x) AA
 rw [b]; split <;> omega
theorem A3 (h1 : x < 0) (h2 : ¬ y < 0) : JC x y = -1 := OB AA
theorem A4 (h1 : ¬ x < 0) (h2 : y < 0) : JC x y = 1 := PM AA
theorem A2 (h1 : x < 0) (h2 : y < 0) : JC (y.natAbs : Nat) (x.natAbs : Nat) = JC x y := by
 unfold JC; repeat' split
 all_goals first | rfl | omega
theorem A1 (h1 : ¬ x < 0) (h2 : ¬ y < 0) : JC (x.natAbs : Nat) (y.natAbs : Nat) = JC x y := by
 unfold JC; repeat' split
 all_goals first | rfl | omega
end
theorem gD (va : Value) (x : Int) (w : World) (hva : IsI w va x) :
 Calls prog 103 #[va] w (XR w (OP x)) := by
 have E := Env.start w
 obtain ⟨e, o, rfl, _, _⟩ := hva.sh
 replace E := E.i hva
 go_enter func103, ntmps103
 refine zG ?_
 refine EF O (CI O O ?_)
 intro y u e1 t p l
 replace E := E.below p
 clear e1
 replace E := E.b l
 by_cases f : x < 0
 . obtain rfl : e = true := (GF E.2.1).trans (decide_eq_true f)
   refine zG ?_
   exact ⟨(FO (OB f).symm), E.2.2.1⟩
 obtain rfl : e = false := (GF E.2.1).trans (decide_eq_false f)
 obtain ⟨q, k, h⟩ := IsI.slice E.2.1
 refine zG ?_
 refine V (v := .int .i64 ↑((CC x.natAbs).length)) O O (NS O h) ?_
 refine V (v := .int .i64 (OP x)) O O (vW O O O (Oi f)) ?_
 refine zG ?_
 exact ⟨rfl, E.2.2.1⟩
theorem uQ (va : Value) (x : Int) (vb : Value) (y : Int) (w : World) (hva : IsI w va x) (hvb : IsI w vb y) :
 Calls prog 151 #[va, vb] w (XR w (JC x y)) := by
 have E := Env.start w
 obtain ⟨k, q, rfl, _, _⟩ := hva.sh
 replace E := E.i hva
 obtain ⟨e, p, rfl, _, _⟩ := hvb.sh
 replace E := E.i hvb
 go_enter func151, ntmps151
 refine zG ?_
 refine EF O (CI O O ?_)
 intro J F e1 z u o
 replace E := E.below u
 clear e1
 replace E := E.b o
 refine zG ?_
 refine EF O (CI O O ?_)
 intro I D e2 v t l
 replace E := E.below t
 clear e2
 replace E := E.b l
 by_cases h : x < 0
 case pos =>
  obtain rfl : k = true := (GF (e3 E)).trans (decide_eq_true h)
  by_cases f : y < 0
  case neg =>
   obtain rfl : e = false := (GF E.2.2.1).trans (decide_eq_false f)
   refine zG ?_
   exact ⟨FO (A3 h f).symm, e4 E⟩
  obtain rfl : e = true := (GF E.2.2.1).trans (decide_eq_true f)
  refine zG ?_
  refine EF O (CE KV O (UB _ _ y.natAbs x.natAbs _ (IsI.sl E.2.2.1) (IsI.sl (e3 E))) O E ?_)
  intro C H E
  refine zG ?_
  exact ⟨FO (A2 h f), e4 E⟩
 obtain rfl : k = false := (GF (e3 E)).trans (decide_eq_false h)
 by_cases f : y < 0
 . obtain rfl : e = true := (GF E.2.2.1).trans (decide_eq_true f)
   refine zG ?_
   exact ⟨FO (A4 h f).symm, e4 E⟩
 obtain rfl : e = false := (GF E.2.2.1).trans (decide_eq_false f)
 refine zG ?_
 refine EF O (CE KV O (UB _ _ x.natAbs y.natAbs _ (IsI.sl (e3 E)) (IsI.sl E.2.2.1)) O E ?_)
 intro B G E
 refine zG ?_
 exact ⟨FO (A1 h f), e4 E⟩
theorem Rg (va : Value) (x : Int) (w : World) (hva : IsI w va x) :
 Calls prog 112 #[va] w (RetZ w (-x)) := by
 have E := Env.start w
 obtain ⟨e, p, rfl, _, _⟩ := hva.sh
 replace E := E.i hva
 go_enter func112, ntmps112
 refine zG ?_
 refine EF O (CI O O ?_)
 intro k L e1 G C o
 have N : w.heap.size <= k := by rw [e1]; exact E.2.1.size
 replace E := E.below C
 clear e1
 replace E := E.b o
 refine zG ?_
 refine EF O (CB GD O ?_)
 intro D J e2 F B f
 have h : k < D := by rw [e2]; exact Bx.lt E.1
 replace E := E.below B
 clear e2
 refine zG ?_
 refine V (v := .bool (!e)) O O (dE (b := e) O O) ?_
 refine zG ?_
 refine EF O (CH EZ O (NT (!e) _ x.natAbs (-x) _ (IsI.sl E.2.1) (Ya (GF E.2.1))) O E ?_)
 intro I y q z E
 replace f := f.below z
 refine zG ?_
 refine EF O (BY GD O O O f O O (IsI.one E.1) ?_)
 intro H u l
 replace E := oB E f u l
 have r1 := DA GD E.1 rfl
 refine zG ?_
 exact AQ (v := .agg #[.bool y, q]) (by simp [results, results112, asAddr, r1]) O ⟨_, O, E.2.1, e4 E⟩
theorem De (va : Value) (x : Int) (vb : Value) (y : Int) (w : World) (hva : IsI w va x) (hvb : IsI w vb y) (Fx : Fits x 1000000000) (Fy : Fits y 1000000000) :
 Calls prog 76 #[va, vb] w (RetZ w (x + y)) := by
 have E := Env.start w
 obtain ⟨f, a9, rfl, _, _⟩ := hva.sh
 replace E := E.i hva
 obtain ⟨h, a8, rfl, _, _⟩ := hvb.sh
 replace E := E.i hvb
 go_enter func76, ntmps76
 refine zG ?_
 refine EF O (CI O O ?_)
 intro T w1 e1 z1 d1 Y
 have l1 : w.heap.size <= T := by rw [e1]; exact E.2.2.1.size
 replace E := E.below d1
 clear e1
 replace E := E.b Y
 refine zG ?_
 refine EF O (CI O O ?_)
 intro S w2 e2 z2 d2 X
 have R : T < S := by rw [e2]; exact Bx.lt E.1
 replace E := E.below d2
 clear e2
 replace E := E.b X
 refine zG ?_
 refine EF O (CB GD O ?_)
 intro b3 w3 e3 z3 d3 e
 have Q : S < b3 := by rw [e3]; exact Bx.lt E.1
 replace E := E.below d3
 clear e3
 have l := GF (e3 E)
 have k := GF E.2.2.1
 by_cases p : f = h
 case pos =>
  refine zG ?_
  refine V O O (sQ (a := f) (b := h) (c := true) O underlying4 O O (beq_iff_eq.2 p)) ?_
  refine zG ?_
  refine sE E [0,1,2,3,4,5,6,7,8] ?_
  replace E := E.drew
  replace e := Bx.drew e
  refine zG ?_
  refine GZ (o := ⟨some 16, _, _, _, _, _⟩) O O O O (FC XF O (wO _ _ x.natAbs y.natAbs _ (IsI.sl (e3 E)) (IsI.sl E.2.2.1) (Fits.mono Fx AE) (Fits.mono Fy AE)) O E ?_)
  intro w4 v4 d4 E
  replace e := e.below d4
  refine ⟨E.2, ?_⟩
  refine zG ?_
  refine GZ (o := ⟨some 17, _, _, _, _, _⟩) O O O O (CH EZ O (NT f _ (x.natAbs + y.natAbs) (x + y) _ E.1 (Sp l k p)) O E ?_)
  exact Z32
 by_cases q : x.natAbs < y.natAbs
 case pos =>
  refine zG ?_
  refine V O O (sQ (a := f) (b := h) (c := false) O underlying4 O O (beq_eq_false_iff_ne.2 p)) ?_
  refine zG ?_
  refine EF O (CE KV O (UB _ _ x.natAbs y.natAbs _ (IsI.sl (e3 E)) (IsI.sl E.2.2.1)) O E ?_)
  intro w8 d8 E
  replace e := e.below d8
  refine zG ?_
  refine V O O (JH (c := true) O O O (Vq q)) ?_
  refine zG ?_
  refine sE E [0,1,2,3,4,5,6,7,8] ?_
  replace E := E.drew
  replace e := Bx.drew e
  refine zG ?_
  refine GZ (o := ⟨some 30, _, _, _, _, _⟩) O O O O (FC RH O (mG _ _ y.natAbs x.natAbs _ (IsI.sl E.2.2.1) (IsI.sl (e3 E)) (Fits.mono Fy AE) (Nat.le_of_lt q)) O E ?_)
  intro w9 v9 d9 E
  replace e := e.below d9
  refine ⟨E.2, ?_⟩
  refine zG ?_
  refine GZ (o := ⟨some 31, _, _, _, _, _⟩) O O O O (CH EZ O (NT h _ (y.natAbs - x.natAbs) (x + y) _ E.1 (sg_lt l k p q)) O E ?_)
  exact Z32
 refine zG ?_
 refine V O O (sQ (a := f) (b := h) (c := false) O underlying4 O O (beq_eq_false_iff_ne.2 p)) ?_
 refine zG ?_
 refine EF O (CE KV O (UB _ _ x.natAbs y.natAbs _ (IsI.sl (e3 E)) (IsI.sl E.2.2.1)) O E ?_)
 intro a3 N E
 replace e := e.below N
 refine zG ?_
 refine V O O (JH (c := false) O O O (Vr q)) ?_
 refine zG ?_
 refine sE E [0,1,2,3,4,5,6,7,8] ?_
 replace E := E.drew
 replace e := Bx.drew e
 refine zG ?_
 refine GZ (o := ⟨some 38, _, _, _, _, _⟩) O O O O (FC RH O (mG _ _ x.natAbs y.natAbs _ (IsI.sl (e3 E)) (IsI.sl E.2.2.1) (Fits.mono Fx AE) (Nat.le_of_not_lt q)) O E ?_)
 intro a2 a7 L E
 replace e := e.below L
 refine ⟨E.2, ?_⟩
 refine zG ?_
 refine GZ (o := ⟨some 39, _, _, _, _, _⟩) O O O O (CH EZ O (NT f _ (x.natAbs - y.natAbs) (x + y) _ E.1 (sg_ge l k p q)) O E ?_)
 exact Z32
theorem OG (va : Value) (x : Int) (vb : Value) (y : Int) (w : World) (hva : IsI w va x) (hvb : IsI w vb y) (Fx : Fits x 1000000000) (Fy : Fits y 1000000000) :
 Calls prog 77 #[va, vb] w (RetZ w (x * y)) := by
 have E := Env.start w
 obtain ⟨h, F, rfl, _, _⟩ := hva.sh
 replace E := E.i hva
 obtain ⟨f, D, rfl, _, _⟩ := hvb.sh
 replace E := E.i hvb
 go_enter func77, ntmps77
 refine zG ?_
 refine EF O (CI O O ?_)
 intro u w1 e1 X R C
 have l1 : w.heap.size <= u := by rw [e1]; exact E.2.2.1.size
 replace E := E.below R
 clear e1
 replace E := E.b C
 refine zG ?_
 refine EF O (CI O O ?_)
 intro t w2 e2 U Q B
 have q : u < t := by rw [e2]; exact Bx.lt E.1
 replace E := E.below Q
 clear e2
 replace E := E.b B
 refine zG ?_
 refine EF O (CB GD O ?_)
 intro S w3 e3 T P e
 have p : t < S := by rw [e3]; exact Bx.lt E.1
 replace E := E.below P
 clear e3
 have l := GF (e3 E)
 have k := GF E.2.2.1
 refine zG ?_
 refine sE E [0,1,2,3,4,5,6,7,8,9,10,11] ?_
 replace E := E.drew
 replace e := Bx.drew e
 refine zG ?_
 refine SW O O O O O (fun w hS => kL (a := h) (b := f) (c := (h != f)) O underlying4 O O (O)) ?_
 refine zG ?_
 refine GZ (o := ⟨some 14, _, _, _, _, _⟩) O O O O (FC jZ O (Mt _ _ x.natAbs y.natAbs _ (IsI.sl (e3 E)) (IsI.sl E.2.2.1) (Fits.mono Fx AE) (Fits.mono Fy AE)) O E ?_)
 intro w4 v4 N E
 replace e := e.below N
 refine ⟨E.2, ?_⟩
 refine zG ?_
 refine GZ (o := ⟨some 15, _, _, _, _, _⟩) O O O O (CH EZ O (NT (h != f) _ (x.natAbs * y.natAbs) (x * y) _ E.1 (Yb l k)) O E ?_)
 intro w5 J G L E
 replace e := e.below L
 refine ⟨E.2.2, ?_⟩
 refine zG ?_
 refine GZ (o := ⟨none, _, _, _, _, _⟩) O O O O (BY GD O O O e O O (IsI.one E.1) ?_)
 intro Y I z
 replace E := oB E e I z
 refine ⟨E.2.2.2, ?_⟩
 have r1 := DA GD E.1 rfl
 refine zG ?_
 exact AQ (v := .agg #[.bool J, G]) (by simp [results, results77, asAddr, r1]) O ⟨_, O, E.2.1, e7 E⟩
theorem Kl (va : Value) (x : Int) (vb : Value) (y : Int) (w : World) (hva : IsI w va x) (hvb : IsI w vb y) (hy0 : y ≠ 0) (Fx : Fits x 900000000) (Fy : Fits y 900000000) :
 Calls prog 160 #[va, vb] w (RetDM w (x / y) (x % y) 0) := by
 have E := Env.start w
 obtain ⟨u, bw, rfl, _, _⟩ := hva.sh
 replace E := E.i hva
 obtain ⟨k, bv, rfl, _, _⟩ := hvb.sh
 replace E := E.i hvb
 go_enter func160, ntmps160
 refine zG ?_
 refine EF O (CI O O ?_)
 intro b1 w1 e1 z1 d1 x1
 have l1 : w.heap.size <= b1 := by rw [e1]; exact E.2.2.1.size
 replace E := E.below d1
 clear e1
 replace E := E.b x1
 refine zG ?_
 refine EF O (CI O O ?_)
 intro b2 w2 e2 z2 d2 x2
 have ax : b1 < b2 := by rw [e2]; exact Bx.lt E.1
 replace E := E.below d2
 clear e2
 replace E := E.b x2
 refine zG ?_
 refine EF O (CB GD O ?_)
 intro b3 w3 e3 z3 d3 f
 have aw : b2 < b3 := by rw [e3]; exact Bx.lt E.1
 replace E := E.below d3
 clear e3
 refine zG ?_
 refine EF O (CB GD O ?_)
 intro b4 w4 e4 z4 d4 e
 have av : b3 < b4 := by rw [e4]; exact Bx.lt (f)
 replace E := E.below d4
 replace f := Bx.below f d4
 clear e4
 have am := GF E.2.2.1
 have an := GF (e3 E)
 have l := xZ hy0 an am
 by_cases hx : x < 0
 case neg =>
  obtain rfl : u = false := (GF (e3 E)).trans (decide_eq_false hx)
  obtain ⟨b0, aq, z⟩ := IsI.slice E.2.2.1
  refine zG ?_
  refine V (v := .int .i64 ↑((CC y.natAbs).length)) O O (NS O z) ?_
  refine V O O (EU (c := false) O O O (lB hy0)) ?_
  refine zG ?_
  refine EF O (TT PH O (UA _ _ x.natAbs y.natAbs _ (IsI.sl (e3 E)) (IsI.sl E.2.2.1) Fx Fy (Ny hy0)) O E ?_)
  intro bb bo bt G E
  replace f := f.below G
  replace e := e.below G
  refine zG ?_
  refine V O O (kL (a := false) (b := k) (c := (false != k)) O underlying4 O O (O)) ?_
  refine zG ?_
  refine EF O (CH EZ O (NT (false != k) _ (x.natAbs / y.natAbs) (x / y) _ E.2.1 ((l.2 fun h => by cases h.1).1)) O E ?_)
  intro ba ah a1 F E
  replace f := f.below F
  replace e := e.below F
  refine zG ?_
  refine EF O (CH EZ O (NT false _ (x.natAbs % y.natAbs) (x % y) _ E.2.1 ((l.2 fun h => by cases h.1).2)) O E ?_)
  intro b9 ag a0 D E
  replace f := f.below D
  replace e := e.below D
  refine zG ?_
  refine EF O (BY GD O O O f O O (IsI.one E.2.1) ?_)
  intro b8 p S
  replace E := oB E f p S
  replace e := Bx.onl e AA p
  refine zG ?_
  refine EF O (BY GD O O O e O O (IsI.one E.2.1) ?_)
  intro b7 ad R
  replace E := oB E e ad R
  have r1 := DA GD E.2.1 rfl
  have r2 := DA GD E.1 rfl
  refine zG ?_
  exact AQ (v := .tuple #[.agg #[.bool ah, a1], .agg #[.bool ag, a0], .int .i64 0]) YB7 O ⟨_, _, O, e3 E, E.2.2.1, RA E⟩
 obtain rfl : u = true := (GF (e3 E)).trans (decide_eq_true hx)
 by_cases o : 0 < x.natAbs % y.natAbs
 case neg =>
  obtain ⟨b6, au, C⟩ := IsI.slice E.2.2.1
  refine zG ?_
  refine V (v := .int .i64 ↑((CC y.natAbs).length)) O O (NS O C) ?_
  refine V O O (EU (c := false) O O O (lB hy0)) ?_
  refine zG ?_
  refine EF O (TT PH O (UA _ _ x.natAbs y.natAbs _ (IsI.sl (e3 E)) (IsI.sl E.2.2.1) Fx Fy (Ny hy0)) O E ?_)
  intro bh bp bu J E
  replace f := f.below J
  replace e := e.below J
  obtain ⟨b5, ar, B⟩ := Sl.shp E.1
  refine zG ?_
  refine V (v := .int .i64 ↑((CC (x.natAbs % y.natAbs)).length)) Z O (NS O B) ?_
  refine V Z O (RS (c := false) O O O (lenz o)) ?_
  refine zG ?_
  refine V O O (kL (a := true) (b := k) (c := (true != k)) O underlying4 O O (O)) ?_
  refine zG ?_
  refine EF O (CH EZ O (NT (true != k) _ (x.natAbs / y.natAbs) (x / y) _ E.2.1 ((l.2 fun h => o h.2).1)) O E ?_)
  intro bg aj a3 I E
  replace f := f.below I
  replace e := e.below I
  refine zG ?_
  refine EF O (CH EZ O (NT false _ (x.natAbs % y.natAbs) (x % y) _ E.2.1 ((l.2 fun h => o h.2).2)) O E ?_)
  intro bf ai a2 H E
  replace f := f.below H
  replace e := e.below H
  refine zG ?_
  refine EF O (BY GD O O O f O O (IsI.one E.2.1) ?_)
  intro bd q U
  replace E := oB E f q U
  replace e := Bx.onl e AA q
  refine zG ?_
  refine EF O (BY GD O O O e O O (IsI.one E.2.1) ?_)
  intro bc ae T
  replace E := oB E e ae T
  have r1 := DA GD E.2.1 rfl
  have r2 := DA GD E.1 rfl
  refine zG ?_
  exact AQ (v := .tuple #[.agg #[.bool aj, a3], .agg #[.bool ai, a2], .int .i64 0]) YB7 O ⟨_, _, O, e3 E, E.2.2.1, RA E⟩
 obtain ⟨c0, az, ap⟩ := IsI.slice E.2.2.1
 refine zG ?_
 refine V (v := .int .i64 ↑((CC y.natAbs).length)) O O (NS O ap) ?_
 refine V O O (EU (c := false) O O O (lB hy0)) ?_
 refine zG ?_
 refine EF O (TT PH O (UA _ _ x.natAbs y.natAbs _ (IsI.sl (e3 E)) (IsI.sl E.2.2.1) Fx Fy (Ny hy0)) O E ?_)
 intro w7 v7 u7 d7 E
 replace f := f.below d7
 replace e := e.below d7
 obtain ⟨bx, ay, ao⟩ := Sl.shp E.1
 refine zG ?_
 refine V (v := .int .i64 ↑((CC (x.natAbs % y.natAbs)).length)) Z O (NS O ao) ?_
 refine V Z O (RS (c := true) O O O (lenp o)) ?_
 refine zG ?_
 refine EF O (uU (c := 1) O O AE AE E ?_)
 intro w9 v9 d9 E
 replace f := f.below d9
 replace e := e.below d9
 refine zG ?_
 refine EF O (FC XF O (wO _ _ (x.natAbs / y.natAbs) 1 _ E.2.2.1 E.1 (Nat.le_trans (Pp Fx) AE) len1) O E ?_)
 intro bn br Q E
 replace f := f.below Q
 replace e := e.below Q
 refine zG ?_
 refine EF O (FC RH O (mG _ _ y.natAbs (x.natAbs % y.natAbs) _ (IsI.sl (e6 E)) E.2.2.1 (Fits.mono (Fy.mono AE : Fits y 1000000000) AE) (Nat.le_of_lt (Nat.mod_lt _ (Ny hy0)))) O E ?_)
 intro bm bq P E
 replace f := f.below P
 replace e := e.below P
 refine zG ?_
 refine V O O (kL (a := true) (b := k) (c := (true != k)) O underlying4 O O (O)) ?_
 refine zG ?_
 refine EF O (CH EZ O (NT (true != k) _ ((x.natAbs / y.natAbs) + 1) (x / y) _ E.2.1 ((l.1 ⟨O, o⟩).1)) O E ?_)
 intro bl al a6 N E
 replace f := f.below N
 replace e := e.below N
 refine zG ?_
 refine EF O (CH EZ O (NT false _ (y.natAbs - (x.natAbs % y.natAbs)) (x % y) _ E.2.1 ((l.1 ⟨O, o⟩).2)) O E ?_)
 intro bk ak a4 L E
 replace f := f.below L
 replace e := e.below L
 refine zG ?_
 refine EF O (BY GD O O O f O O (IsI.one E.2.1) ?_)
 intro bj t Y
 replace E := oB E f t Y
 replace e := Bx.onl e AA t
 refine zG ?_
 refine EF O (BY GD O O O e O O (IsI.one E.2.1) ?_)
 intro bi af X
 replace E := oB E e af X
 have r1 := DA GD E.2.1 rfl
 have r2 := DA GD E.1 rfl
 refine zG ?_
 exact AQ (v := .tuple #[.agg #[.bool al, a6], .agg #[.bool ak, a4], .int .i64 0]) YB7 O ⟨_, _, O, e3 E, E.2.2.1, WP E⟩
theorem Ri (va : Value) (x : Int) (vb : Value) (y : Int) (w : World) (hva : IsI w va x) (hvb : IsI w vb y) (Fx : Fits x 900000000) (Fy : Fits y 900000000) :
 Calls prog 123 #[va, vb] w (RetZ w ((Nat.gcd x.natAbs y.natAbs) : Nat)) := by
 have E := Env.start w
 obtain ⟨F, u, rfl, _, _⟩ := hva.sh
 replace E := E.i hva
 obtain ⟨D, t, rfl, _, _⟩ := hvb.sh
 replace E := E.i hvb
 go_enter func123, ntmps123
 refine zG ?_
 refine EF O (CI O O ?_)
 intro l w1 e1 S N q
 have l1 : w.heap.size <= l := by rw [e1]; exact E.2.2.1.size
 replace E := E.below N
 clear e1
 replace E := E.b q
 refine zG ?_
 refine EF O (CI O O ?_)
 intro k w2 e2 R L p
 have h : l < k := by rw [e2]; exact Bx.lt E.1
 replace E := E.below L
 clear e2
 replace E := E.b p
 refine zG ?_
 refine EF O (CB GD O ?_)
 intro P Y e3 Q J e
 have f : k < P := by rw [e3]; exact Bx.lt E.1
 replace E := E.below J
 clear e3
 refine zG ?_
 refine EF O (FC iD O (Bf _ _ x.natAbs y.natAbs _ (IsI.sl (e3 E)) (IsI.sl E.2.2.1) Fx Fy) O E ?_)
 intro X v4 I E
 replace e := e.below I
 refine zG ?_
 refine EF O (CH EZ O (NT false _ (Nat.gcd x.natAbs y.natAbs) ((Nat.gcd x.natAbs y.natAbs) : Nat) _ E.1 (O)) O E ?_)
 intro U G z H E
 replace e := e.below H
 refine zG ?_
 refine EF O (BY GD O O O e O O (IsI.one E.1) ?_)
 intro T C o
 replace E := oB E e C o
 have r1 := DA GD E.1 rfl
 refine zG ?_
 exact AQ (v := .agg #[.bool G, z]) (by simp [results, results123, asAddr, r1]) O ⟨_, O, E.2.1, e7 E⟩
end Go.Proofs.YtmppigbbkjepiaaGreatDoor
