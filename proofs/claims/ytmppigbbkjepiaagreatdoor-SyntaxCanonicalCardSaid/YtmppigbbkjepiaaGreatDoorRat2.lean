/- Package rational: Valid, Text, Bits, Parse. (Printed by g_rat2.py.) Parse, of package rational and of its reference. (Printed by g_rat4.py.) -/
import Derived.Test.YtmppigbbkjepiaaGreatDoorSameQ
import Derived.Test.YtmppigbbkjepiaaGreatDoorTxtQ
import Derived.Test.YtmppigbbkjepiaaGreatDoorShelf
set_option maxHeartbeats 8000000
set_option maxRecDepth 100000
namespace Go.Proofs.YtmppigbbkjepiaaGreatDoor
open Go.Proofs.Tryz
open Go.RowKit W
theorem xV {z : Int} (h : z ≤ 0) : decide (NA z ≤ 0) = true := by
  rcases JH z with ⟨_, e⟩ | ⟨_, e⟩ | ⟨g, _⟩
  · rw [e]; rfl
  · rw [e]; rfl
  · omega
theorem qK {z : Int} (h : 0 < z) : decide (NA z ≤ 0) = false := by rw [QH h]; rfl
theorem Kn {z : Int} (h : z ≤ 0) : decide (NA z < 1) = true := by
  rcases JH z with ⟨_, e⟩ | ⟨_, e⟩ | ⟨g, _⟩
  · rw [e]; rfl
  · rw [e]; rfl
  · omega
theorem Fe {z : Int} (h : 0 < z) : decide (NA z < 1) = false := by rw [QH h]; rfl
instance vqDec (n d : Int) : Decidable (vq n d) := by unfold vq; infer_instance
theorem Ob {p q : Int} (h : q ≤ 0) : false = decide (vq p q) := by rw [eq_comm, decide_eq_false_iff_not]; intro g; have := g.1; omega
theorem Pe {p q : Int} (h : q = 1) : true = decide (vq p q) := by subst h; rw [eq_comm, decide_eq_true_eq]; exact pZ p
theorem Ei {p q : Int} (h : 0 < q) : decide (((Nat.gcd p.natAbs q.natAbs : Nat) : Int) = 1) = decide (vq p q) := by
  rw [decide_eq_decide]
  exact ⟨fun e => ⟨h, by omega⟩, fun e => by have := e.2; omega⟩
theorem Kd {p q : Int} (h : 0 < q) : (IR ((Nat.gcd p.natAbs q.natAbs : Nat) : Int) 1 == 0) = decide (vq p q) := by
  rw [← Ei h]
  unfold IR
  split
  · rename_i g; rw [decide_eq_false Z]; rfl
  · split
    · rename_i g; rw [decide_eq_true g]; rfl
    · rename_i g; rw [decide_eq_false g]; rfl
theorem bK (na : Bool) (sa : Value) (ma : Bool) (ta : Value) (p q : Int) (w : World) (hna : IsI w (.agg #[.bool na, sa]) p) (hda : IsI w (.agg #[.bool ma, ta]) q) (Fp : Fits p 900000000) (Fq : Fits q 900000000) :
    Calls prog 80 #[.agg #[.bool na, sa, .bool ma, ta]] w (JO w (decide (vq p q))) := by
 have E := Env.start w
 replace E := (E.i hna).i hda
 clear hna hda
 go_enter func80, ntmps80
 refine zG ?_
 refine EF O (CI (cs := [.bool na, sa, .bool ma, ta]) O O ?_)
 intro N L y l k h
 replace E := (E.below k).x h
 clear y l k h
 by_cases e : q ≤ 0
 case pos =>
  refine zG ?_
  refine V O O (DV O O) ?_
  refine V O O (CO O O E.1 O O) ?_
  refine zG ?_
  refine EF O (BY LO O (gM _ p _ E.2.2.1) O E ?_)
  clear E
  intro J _ E
  refine zG ?_
  refine V I O (DK O O) ?_
  refine V I O (CO O O E.1 O O) ?_
  refine zG ?_
  refine EF O (BY LO O (gM _ q _ E.2.1) O E ?_)
  clear E
  intro H _ E
  refine zG ?_
  refine V I O (DK O O) ?_
  refine zG ?_
  refine V I O (CO O O E.1 O O) ?_
  refine zG ?_
  refine EF O (CH PL O (kB _ q _ E.2.1) O E ?_)
  clear E
  intro G _ E
  refine zG ?_
  refine V I O (NJ (c := true) O O O (xV e)) ?_
  refine zG ?_
  exact ⟨QL (Ob e), e3 E⟩
 replace e : 0 < q := by omega
 refine zG ?_
 refine V O O (DV O O) ?_
 refine V O O (CO O O E.1 O O) ?_
 refine zG ?_
 refine EF O (BY LO O (gM _ p _ E.2.2.1) O E ?_)
 clear E
 intro F _ E
 refine zG ?_
 refine V I O (DK O O) ?_
 refine V I O (CO O O E.1 O O) ?_
 refine zG ?_
 refine EF O (BY LO O (gM _ q _ E.2.1) O E ?_)
 clear E
 intro D _ E
 refine zG ?_
 refine V I O (DK O O) ?_
 refine zG ?_
 refine V I O (CO O O E.1 O O) ?_
 refine zG ?_
 refine EF O (CH PL O (kB _ q _ E.2.1) O E ?_)
 clear E
 intro C _ E
 refine zG ?_
 refine V I O (NJ (c := false) O O O (qK e)) ?_
 by_cases f : q = 1
 case pos =>
  refine zG ?_
  refine V O O (DK O O) ?_
  refine V O O (CO O O E.1 O O) ?_
  refine zG ?_
  refine EF O (BY DL O (CQ (decide_eq_true f) (KN _ q _ E.2.1)) O E ?_)
  clear E
  intro B _ E
  refine zG ?_
  exact ⟨QL (Pe f), e3 E⟩
 refine zG ?_
 refine V O O (DK O O) ?_
 refine V O O (CO O O E.1 O O) ?_
 refine zG ?_
 refine EF O (BY DL O (CQ (decide_eq_false f) (KN _ q _ E.2.1)) O E ?_)
 clear E
 intro z _ E
 refine zG ?_
 refine V I O (DV O O) ?_
 refine V I O (CO O O E.1 O O) ?_
 refine V I O (DK O O) ?_
 refine zG ?_
 refine V I O (CO O O E.1 O O) ?_
 refine zG ?_
 refine EF O (CG jI O (Gcd_z _ _ p q _ E.2.2.1 E.2.1 (Fits.mono Fp AD) (Fits.mono Fq AD)) O E ?_)
 clear E
 intro t v u _ E
 refine zG ?_
 refine EF O (BY DL O (KN _ ((Nat.gcd p.natAbs q.natAbs : Nat) : Int) _ E.1) O E ?_)
 clear E
 intro o _ E
 refine zG ?_
 exact ⟨QL (Ei e), e4 E⟩
theorem Dz (na : Bool) (sa : Value) (ma : Bool) (ta : Value) (p q : Int) (w : World) (hna : IsI w (.agg #[.bool na, sa]) p) (hda : IsI w (.agg #[.bool ma, ta]) q) (Fp : Fits p 900000000) (Fq : Fits q 900000000) :
    Calls prog 108 #[.agg #[.bool na, sa, .bool ma, ta]] w (JO w (decide (vq p q))) := by
 have E := Env.start w
 replace E := (E.i hna).i hda
 clear hna hda
 go_enter func108, ntmps108
 refine zG ?_
 refine EF O (CI (cs := [.bool na, sa, .bool ma, ta]) O O ?_)
 intro N H v k h f
 replace E := (E.below h).x f
 clear v k h f
 by_cases e : q ≤ 0
 case pos =>
  refine zG ?_
  refine V O O (DV O O) ?_
  refine V O O (CO O O E.1 O O) ?_
  refine zG ?_
  refine EF O (BY MO O (bO _ p _ E.2.2.1) O E ?_)
  clear E
  intro G _ E
  refine zG ?_
  refine V I O (DK O O) ?_
  refine V I O (CO O O E.1 O O) ?_
  refine zG ?_
  refine EF O (BY MO O (bO _ q _ E.2.1) O E ?_)
  clear E
  intro F _ E
  refine zG ?_
  refine V I O (DK O O) ?_
  refine zG ?_
  refine V I O (CO O O E.1 O O) ?_
  refine zG ?_
  refine EF O (CH LF O (bP _ q _ E.2.1) O E ?_)
  clear E
  intro D _ E
  refine zG ?_
  refine V I O (MD (c := true) O O O (Kn e)) ?_
  refine zG ?_
  exact ⟨QL (Ob e), e3 E⟩
 replace e : 0 < q := by omega
 refine zG ?_
 refine V O O (DV O O) ?_
 refine V O O (CO O O E.1 O O) ?_
 refine zG ?_
 refine EF O (BY MO O (bO _ p _ E.2.2.1) O E ?_)
 clear E
 intro C _ E
 refine zG ?_
 refine V I O (DK O O) ?_
 refine V I O (CO O O E.1 O O) ?_
 refine zG ?_
 refine EF O (BY MO O (bO _ q _ E.2.1) O E ?_)
 clear E
 intro B _ E
 refine zG ?_
 refine V I O (DK O O) ?_
 refine zG ?_
 refine V I O (CO O O E.1 O O) ?_
 refine zG ?_
 refine EF O (CH LF O (bP _ q _ E.2.1) O E ?_)
 clear E
 intro z _ E
 refine zG ?_
 refine V I O (MD (c := false) O O O (Fe e)) ?_
 refine zG ?_
 refine V O O (DV O O) ?_
 refine V O O (CO O O E.1 O O) ?_
 refine V O O (DK O O) ?_
 refine V O O (CO O O E.1 O O) ?_
 refine zG ?_
 refine EF O (CG YI O (Jn _ p _ q _ E.2.2.1 E.2.1 (Fits.mono Fp AD) (Fits.mono Fq AD)) O E ?_)
 clear E
 intro y L J _ E
 refine zG ?_
 refine EF O (CG GH O (YK 1 _ AD AD) O E ?_)
 clear E
 intro o u t _ E
 refine zG ?_
 refine EF O (CH kW O (Sf _ ((Nat.gcd p.natAbs q.natAbs : Nat) : Int) _ 1 _ E.2.1 E.1) O E ?_)
 clear E
 intro l _ E
 refine zG ?_
 refine V O O (GQ (c := (IR ((Nat.gcd p.natAbs q.natAbs : Nat) : Int) 1 == 0)) O O O O) ?_
 refine zG ?_
 exact ⟨QL (Kd e), e5 E⟩
theorem Em {x : Rat} (h : ((x.den : Nat) : Int) = 1) : Ending.returned (.string (OS x.num)) = .returned (.string (NI x)) := by unfold NI; rw [if_pos h]
theorem Ek {x : Rat} (h : ¬ ((x.den : Nat) : Int) = 1) : Ending.returned (.string (OS x.num ++ ⟨#[47]⟩ ++ OS ((x.den : Nat) : Int))) = .returned (.string (NI x)) := by unfold NI; rw [if_neg h]
theorem Pi {z : Int} (h : Fits z 1000000) : (OS z).size + (⟨#[47]⟩ : ByteArray).size ≤ 9223372036854775807 := by
  have := ZW h AD; have : (⟨#[47]⟩ : ByteArray).size = 1 := rfl; omega
theorem Ph {z y : Int} (h : Fits z 1000000) (g : Fits y 1000000) : (OS z ++ ⟨#[47]⟩).size + (OS y).size ≤ 9223372036854775807 := by
  have := ZW h AD; have := ZW g AD; have : (⟨#[47]⟩ : ByteArray).size = 1 := rfl
  rw [ByteArray.size_append]; omega
theorem Ry (na : Bool) (sa : Value) (ma : Bool) (ta : Value) (x : Rat) (w : World) (hna : IsI w (.agg #[.bool na, sa]) x.num) (hda : IsI w (.agg #[.bool ma, ta]) ((x.den : Nat) : Int)) (Fx : FitQ x 1000000) :
    Calls prog 132 #[.agg #[.bool na, sa, .bool ma, ta]] w (RetX w (NI x)) := by
 have E := Env.start w
 replace E := (E.i hna).i hda
 clear hna hda
 go_enter func132, ntmps132
 refine zG ?_
 refine EF O (CI (cs := [.bool na, sa, .bool ma, ta]) O O ?_)
 intro C B p l k h
 replace E := (E.below k).x h
 clear p l k h
 by_cases f : ((x.den : Nat) : Int) = 1
 case pos =>
  refine zG ?_
  refine V O O (DK O O) ?_
  refine V O O (CO O O E.1 O O) ?_
  refine zG ?_
  refine EF O (BY DL O (CQ (decide_eq_true f) (KN _ ((x.den : Nat) : Int) _ E.2.1)) O E ?_)
  clear E
  intro z _ E
  refine zG ?_
  refine V O O (DV O O) ?_
  refine V O O (CO O O E.1 O O) ?_
  refine zG ?_
  refine EF O (SS PK O (wS _ x.num _ E.2.2.1 (Fits.mono Fx.1 AD)) O E ?_)
  clear E
  intro y _ E
  refine zG ?_
  exact ⟨Em f, e3 E⟩
 refine zG ?_
 refine V O O (DK O O) ?_
 refine V O O (CO O O E.1 O O) ?_
 refine zG ?_
 refine EF O (BY DL O (CQ (decide_eq_false f) (KN _ ((x.den : Nat) : Int) _ E.2.1)) O E ?_)
 clear E
 intro u _ E
 refine zG ?_
 refine sE E [0,1,4,5,2,3,6,7,8] ?_
 replace E := E.drew
 refine SW O O O O O (fun w e => DV O O) ?_
 refine SW O O O O O (fun w e => CO O O (e.1) O O) ?_
 refine SW O O O O O (fun w e => DK O O) ?_
 refine SW O O O O O (fun w e => CO O O (e.1) O O) ?_
 refine zG ?_
 refine JF (o := ⟨some 11, _, _, _, _, _⟩) O O O O (SS PK O (wS _ x.num _ E.2.2.1 (Fits.mono Fx.1 AD)) O E ?_)
 clear E
 intro t _ E
 refine ⟨E, ?_⟩
 refine zG ?_
 refine SW (v := .string (OS x.num ++ ⟨#[47]⟩)) O O O O O (fun w e => fQ O O O (Pi Fx.1)) ?_
 refine zG ?_
 refine JF (o := ⟨some 15, _, _, _, _, _⟩) O O O O (SS PK O (wS _ ((x.den : Nat) : Int) _ E.2.1 (Fits.mono Fx.2 AD)) O E ?_)
 clear E
 intro q _ E
 refine ⟨E, ?_⟩
 refine zG ?_
 refine SW (v := .string (OS x.num ++ ⟨#[47]⟩ ++ OS ((x.den : Nat) : Int))) O O O O O (fun w e => fQ O O O (Ph Fx.1 Fx.2)) ?_
 refine zG ?_
 exact ⟨Ek f, e3 E⟩
end Go.Proofs.YtmppigbbkjepiaaGreatDoor
namespace Go.Proofs.YtmppigbbkjepiaaGreatDoor
open Go.Proofs.Tryz
open Go.RowKit W
theorem lst {s t : ByteArray} (h : s = t) : s.data.toList = t.data.toList := by rw [h]
theorem Dd {s a b : ByteArray} {c : UInt8} (h : s.data.toList = a.data.toList ++ c :: b.data.toList) : a.size + b.size + 1 = s.size := by
  rw [Lib.size_eq, Lib.size_eq, Lib.size_eq, h, List.length_append, List.length_cons]; omega
theorem Rh {s : ByteArray} (h : (47 : UInt8) ∈ s.data.toList) : ∃ A B : ByteArray, s.data.toList = A.data.toList ++ 47 :: B.data.toList ∧ (47 : UInt8) ∉ A.data.toList := by
  obtain ⟨a, b, f, e⟩ := My h
  exact ⟨⟨a.toArray⟩, ⟨b.toArray⟩, by simpa using f, by simpa using e⟩
theorem iR {l : List UInt8} (h : ¬ DQ l = none) : ∃ n, DQ l = some n := by
  cases e : DQ l with
  | none => exact absurd e h
  | some n => exact ⟨n, rfl⟩
theorem Ql {l : List UInt8} {n : Int} (ha : DQ l = some n) : l = (NI (Rat.divInt n 1)).data.toList := by
  obtain ⟨f, e⟩ := nG (pZ n)
  rw [LK, f, e, if_pos rfl, KZ ha]
theorem Av (s : ByteArray) (w : World) :
    Calls prog 89 #[.string s] w (ParQ w (Aq w) s) := by
 have E := Env.start w
 go_enter func89, ntmps89
 refine zG ?_
 refine EF O (CA GI O ?_)
 intro t w1 e1 z1 d1 f
 have l1 : w.heap.size ≤ t := by rw [e1]; exact E.1.size
 replace E := E.below d1
 clear e1 z1 d1
 by_cases h4 : 4000 < s.size
 case pos =>
  refine zG ?_
  refine V (v := .agg #[.bool false, .slice none 0 0, .bool false, .slice none 0 0]) O O (NB O) ?_
  refine zG ?_
  refine EF O (BX GI O O O f O O (LM NG NG) ?_)
  intro w3 o3 y3
  replace E := (E.onl (f.noW (NL CW CW)) zK o3).x y3
  clear f o3 y3
  have r4 := CY GI E.1 rfl
  refine zG ?_
  exact AP (v := .tuple #[.agg #[.bool false, .slice none 0 0, .bool false, .slice none 0 0], .int .i64 2]) (by simp [results, results89, asAddr, r4]) O (.big h4 ⟨_, _, _, _, O, KS _, KS _, E.2.1⟩)
 by_cases q : (47 : UInt8) ∈ s.data.toList
 case neg =>
  by_cases hp : DQ s.data.toList = none
  case pos =>
   refine zG ?_
   refine EF O (IJ UC O (Jz s 47 _ q) O E ?_)
   clear E
   intro et bw E
   replace f := f.below bw
   clear bw
   refine zG ?_
   refine EF O (DP DH O (UJ s _ Z hp) O E ?_)
   clear E
   intro es g7 g3 bv E
   replace f := f.below bv
   clear bv
   refine zG ?_
   refine EF O (CA FM O ?_)
   intro ec er bk co a7 y
   have dr : t < ec := by rw [bk]; exact Bx.lt (f)
   replace E := E.below a7
   replace f := Bx.below f a7
   clear bk co a7
   refine zG ?_
   refine EF O (BX FM O O O y O O (IsI.one E.1) ?_)
   intro ep R am
   replace E := (E.onl (y.noW CW) zK R).b am
   replace f := Bx.onl f Z R
   clear y R am
   refine zG ?_
   refine V (v := .agg #[.bool false, .slice none 0 0, .bool false, .slice none 0 0]) O O (NB O) ?_
   refine zG ?_
   refine EF O (BX GI O O O f O O (LM NG NG) ?_)
   intro eo ba al
   replace E := (E.onl (f.noW (NL CW CW)) zK ba).x al
   clear f ba al
   have dc := CY GI E.1 rfl
   refine zG ?_
   exact AP (v := .tuple #[.agg #[.bool false, .slice none 0 0, .bool false, .slice none 0 0], .int .i64 3]) (by simp [results, results89, asAddr, dc]) O (.form Z (fun x e => yF q hp x (lst e)) ⟨_, _, _, _, O, KS _, KS _, e3 E⟩)
  obtain ⟨n, l⟩ := iR hp
  have Fn : Fits n 4000 := NC (by rw [← Lib.size_eq]; omega) l
  refine zG ?_
  refine EF O (IJ UC O (Jz s 47 _ q) O E ?_)
  clear E
  intro en bu E
  replace f := f.below bu
  clear bu
  refine zG ?_
  refine EF O (DP DH O (JV s n _ Z l) O E ?_)
  clear E
  intro em g6 g2 bt E
  replace f := f.below bt
  clear bt
  refine zG ?_
  refine EF O (CA FM O ?_)
  intro eb el bj cn a6 u
  have dq : t < eb := by rw [bj]; exact Bx.lt (f)
  replace E := E.below a6
  replace f := Bx.below f a6
  clear bj cn a6
  refine zG ?_
  refine EF O (BX FM O O O u O O (IsI.one E.1) ?_)
  intro ek Q ak
  replace E := (E.onl (u.noW CW) zK Q).b ak
  replace f := Bx.onl f Z Q
  clear u Q ak
  refine zG ?_
  refine EF O (CZ RT O (xH _ n _ E.2.1) O E ?_)
  clear E
  intro ej dj d3 dp d2 br E
  replace f := f.below br
  clear br
  refine zG ?_
  refine EF O (BX GI O O O f O O (LM (IsI.one E.2.1) (IsI.one E.1)) ?_)
  intro ei b9 aj
  replace E := (E.onl (f.noW (NL CW CW)) zK b9).x aj
  clear f b9 aj
  have db := CY GI E.1 rfl
  refine zG ?_
  exact AP (v := .tuple #[.agg #[.bool dj, d3, .bool dp, d2], .int .i64 0]) (by simp [results, results89, asAddr, db]) O (.ok _ Z (cW (Gs l)) ⟨_, _, _, _, O, E.2.2.1, E.2.1, e5 E⟩)
 obtain ⟨SA, o, k, h⟩ := Rh q
 have ga := Dd k
 by_cases hp : DQ SA.data.toList = none
 case pos =>
  refine zG ?_
  refine EF O (IJ UC O (bZ s SA o 47 _ k h Z) O E ?_)
  clear E
  intro w6 d6 E
  replace f := f.below d6
  clear d6
  refine zG ?_
  refine EF O (DP DH O (UJ SA _ Z hp) O E ?_)
  clear E
  intro w7 n7 s7 d7 E
  replace f := f.below d7
  clear d7
  refine zG ?_
  refine EF O (CA FM O ?_)
  intro b8 w8 e8 z8 d8 x8
  have eh : t < b8 := by rw [e8]; exact Bx.lt (f)
  replace E := E.below d8
  replace f := Bx.below f d8
  clear e8 z8 d8
  refine zG ?_
  refine EF O (BX FM O O O x8 O O (IsI.one E.1) ?_)
  intro w9 o9 y9
  replace E := (E.onl (x8.noW CW) zK o9).b y9
  replace f := Bx.onl f Z o9
  clear x8 o9 y9
  refine zG ?_
  refine V (v := .agg #[.bool false, .slice none 0 0, .bool false, .slice none 0 0]) O O (NB O) ?_
  refine zG ?_
  refine EF O (BX GI O O O f O O (LM NG NG) ?_)
  intro g1 bg b5
  replace E := (E.onl (f.noW (NL CW CW)) zK bg).x b5
  clear f bg b5
  have di := CY GI E.1 rfl
  refine zG ?_
  exact AP (v := .tuple #[.agg #[.bool false, .slice none 0 0, .bool false, .slice none 0 0], .int .i64 3]) (by simp [results, results89, asAddr, di]) O (.form Z (fun x e => yI (b := o.data.toList) h hp x (k.symm.trans (lst e))) ⟨_, _, _, _, O, KS _, KS _, e3 E⟩)
 obtain ⟨n, l⟩ := iR hp
 have Fn : Fits n 4000 := NC (by rw [← Lib.size_eq]; omega) l
 by_cases hq : DQ o.data.toList = none
 case pos =>
  refine zG ?_
  refine EF O (IJ UC O (bZ s SA o 47 _ k h Z) O E ?_)
  clear E
  intro g0 ce E
  replace f := f.below ce
  clear ce
  refine zG ?_
  refine EF O (DP DH O (JV SA n _ Z l) O E ?_)
  clear E
  intro fz g9 g5 cd E
  replace f := f.below cd
  clear cd
  refine zG ?_
  refine EF O (CA FM O ?_)
  intro cm fy kX d0 ai P
  have ea : t < cm := by rw [kX]; exact Bx.lt (f)
  replace E := E.below ai
  replace f := Bx.below f ai
  clear kX d0 ai
  refine zG ?_
  refine EF O (BX FM O O O P O O (IsI.one E.1) ?_)
  intro fx a5 b4
  replace E := (E.onl (P.noW CW) zK a5).b b4
  replace f := Bx.onl f Z a5
  clear P a5 b4
  refine zG ?_
  refine EF O (DP DH O (UJ o _ Z hq) O E ?_)
  clear E
  intro fw g8 g4 cc E
  replace f := f.below cc
  clear cc
  refine zG ?_
  refine EF O (CA FM O ?_)
  intro eg fv e17 cz ah N
  have e2 : cm < eg := by rw [e17]; exact Bx.lt E.2.1
  replace E := E.below ah
  replace f := Bx.below f ah
  clear e17 cz ah
  refine zG ?_
  refine EF O (BX FM O O O N O O (IsI.one E.1) ?_)
  intro fu a4 b3
  replace E := (E.onl (N.noW CW) zK a4).b b3
  replace f := Bx.onl f Z a4
  clear N a4 b3
  refine zG ?_
  refine V (v := .agg #[.bool false, .slice none 0 0, .bool false, .slice none 0 0]) O O (NB O) ?_
  refine zG ?_
  refine EF O (BX GI O O O f O O (LM NG NG) ?_)
  intro ft bf b2
  replace E := (E.onl (f.noW (NL CW CW)) zK bf).x b2
  clear f bf b2
  have dh := CY GI E.1 rfl
  refine zG ?_
  exact AP (v := .tuple #[.agg #[.bool false, .slice none 0 0, .bool false, .slice none 0 0], .int .i64 3]) (by simp [results, results89, asAddr, dh]) O (.form Z (fun x e => yH h hq x (k.symm.trans (lst e))) ⟨_, _, _, _, O, KS _, KS _, e5 E⟩)
 obtain ⟨d, hd⟩ := iR hq
 have Fd : Fits d 4000 := NC (by rw [← Lib.size_eq]; omega) hd
 by_cases p : ¬ vq n d
 case pos =>
  refine zG ?_
  refine EF O (IJ UC O (bZ s SA o 47 _ k h Z) O E ?_)
  clear E
  intro fs cb E
  replace f := f.below cb
  clear cb
  refine zG ?_
  refine EF O (DP DH O (JV SA n _ Z l) O E ?_)
  clear E
  intro fr dn da ca E
  replace f := f.below ca
  clear ca
  refine zG ?_
  refine EF O (CA FM O ?_)
  intro ck fq Mt cy ag L
  have e0 : t < ck := by rw [Mt]; exact Bx.lt (f)
  replace E := E.below ag
  replace f := Bx.below f ag
  clear Mt cy ag
  refine zG ?_
  refine EF O (BX FM O O O L O O (IsI.one E.1) ?_)
  intro fp a3 b0
  replace E := (E.onl (L.noW CW) zK a3).b b0
  replace f := Bx.onl f Z a3
  clear L a3 b0
  refine zG ?_
  refine EF O (DP DH O (JV o d _ Z hd) O E ?_)
  clear E
  intro fo dm d9 c9 E
  replace f := f.below c9
  clear c9
  refine zG ?_
  refine EF O (CA FM O ?_)
  intro cj fn e26 cx af J
  have dz : ck < cj := by rw [e26]; exact Bx.lt E.2.1
  replace E := E.below af
  replace f := Bx.below f af
  clear e26 cx af
  refine zG ?_
  refine EF O (BX FM O O O J O O (IsI.one E.1) ?_)
  intro fm a2 az
  replace E := (E.onl (J.noW CW) zK a2).b az
  replace f := Bx.onl f Z a2
  clear J a2 az
  refine zG ?_
  refine V (v := .agg #[.bool dn, da, .bool dm, d9]) O O (KY O O O) ?_
  refine zG ?_
  refine EF O (CA GI O ?_)
  intro ef fl e28 cw ae H
  have dy : cj < ef := by rw [e28]; exact Bx.lt E.1
  replace E := E.below ae
  replace f := Bx.below f ae
  clear e28 cw ae
  refine zG ?_
  refine EF O (BX GI O O O H O O (LM (IsI.one (e3 E)) (IsI.one E.2.1)) ?_)
  intro fk a1 ay
  replace E := (E.onl (H.noW (NL CW CW)) zK a1).x ay
  replace f := Bx.onl f Z a1
  clear H a1 ay
  refine zG ?_
  refine V O O (CT GI O O E.1 O) ?_
  refine zG ?_
  refine EF O (BY KO O (CQ (decide_eq_false p) (bK _ _ _ _ n d _ (e4 E) E.2.2.1 (Fits.mono Fn AD) (Fits.mono Fd AD))) O E ?_)
  clear E
  intro fj c8 E
  replace f := f.below c8
  clear c8
  refine zG ?_
  refine V (v := .agg #[.bool false, .slice none 0 0, .bool false, .slice none 0 0]) O O (NB O) ?_
  refine zG ?_
  refine EF O (BX GI O O O f O O (LM NG NG) ?_)
  intro fi bd ax
  replace E := (E.onl (f.noW (NL CW CW)) zK bd).x ax
  clear f bd ax
  have dg := CY GI E.1 rfl
  refine zG ?_
  exact AP (v := .tuple #[.agg #[.bool false, .slice none 0 0, .bool false, .slice none 0 0], .int .i64 3]) (by simp [results, results89, asAddr, dg]) O (.form Z (fun x e => nZ h l hd (.inl p) x (k.symm.trans (lst e))) ⟨_, _, _, _, O, KS _, KS _, e6 E⟩)
 replace p := Decidable.not_not.1 p
 by_cases h1 : d = 1
 case neg =>
  refine zG ?_
  refine EF O (IJ UC O (bZ s SA o 47 _ k h Z) O E ?_)
  clear E
  intro f5 c2 E
  replace f := f.below c2
  clear c2
  refine zG ?_
  refine EF O (DP DH O (JV SA n _ Z l) O E ?_)
  clear E
  intro f4 bi b7 c1 E
  replace f := f.below c1
  clear c1
  refine zG ?_
  refine EF O (CA FM O ?_)
  intro cg f3 bn cr aa C
  have du : t < cg := by rw [bn]; exact Bx.lt (f)
  replace E := E.below aa
  replace f := Bx.below f aa
  clear bn cr aa
  refine zG ?_
  refine EF O (BX FM O O O C O O (IsI.one E.1) ?_)
  intro f2 U aq
  replace E := (E.onl (C.noW CW) zK U).b aq
  replace f := Bx.onl f Z U
  clear C U aq
  refine zG ?_
  refine EF O (DP DH O (JV o d _ Z hd) O E ?_)
  clear E
  intro f1 bh b6 c0 E
  replace f := f.below c0
  clear c0
  refine zG ?_
  refine EF O (CA FM O ?_)
  intro cf f0 bm cq a9 B
  have dt : cg < cf := by rw [bm]; exact Bx.lt E.2.1
  replace E := E.below a9
  replace f := Bx.below f a9
  clear bm cq a9
  refine zG ?_
  refine EF O (BX FM O O O B O O (IsI.one E.1) ?_)
  intro ez T ap
  replace E := (E.onl (B.noW CW) zK T).b ap
  replace f := Bx.onl f Z T
  clear B T ap
  refine zG ?_
  refine V (v := .agg #[.bool bi, b7, .bool bh, b6]) O O (KY O O O) ?_
  refine zG ?_
  refine EF O (CA GI O ?_)
  intro ed ey bl cp a8 z
  have ds : cf < ed := by rw [bl]; exact Bx.lt E.1
  replace E := E.below a8
  replace f := Bx.below f a8
  clear bl cp a8
  refine zG ?_
  refine EF O (BX GI O O O z O O (LM (IsI.one (e3 E)) (IsI.one E.2.1)) ?_)
  intro ex S ao
  replace E := (E.onl (z.noW (NL CW CW)) zK S).x ao
  replace f := Bx.onl f Z S
  clear z S ao
  refine zG ?_
  refine V O O (CT GI O O E.1 O) ?_
  refine zG ?_
  refine EF O (BY KO O (CQ (decide_eq_true p) (bK _ _ _ _ n d _ (e4 E) E.2.2.1 (Fits.mono Fn AD) (Fits.mono Fd AD))) O E ?_)
  clear E
  intro ew bz E
  replace f := f.below bz
  clear bz
  refine zG ?_
  refine EF O (BY DL O (CQ (decide_eq_false h1) (KN _ d _ E.2.2.1)) O E ?_)
  clear E
  intro ev bx E
  replace f := f.below bx
  clear bx
  refine zG ?_
  refine V O O (CT GI O O E.1 O) ?_
  refine zG ?_
  refine EF O (BX GI O O O f O O (LM (IsI.one (e4 E)) (IsI.one E.2.2.1)) ?_)
  intro eu bb an
  replace E := (E.onl (f.noW (NL CW CW)) zK bb).x an
  clear f bb an
  have dd := CY GI E.1 rfl
  refine zG ?_
  exact AP (v := .tuple #[.agg #[.bool bi, b7, .bool bh, b6], .int .i64 0]) (by simp [results, results89, asAddr, dd]) O (.ok (Rat.divInt n d) Z (cW (k.trans (Oe l hd p h1))) ⟨_, _, _, _, O, VD (nG p).1.symm (e5 E), VD (nG p).2.symm (e3 E), e6 E⟩)
 refine zG ?_
 refine EF O (IJ UC O (bZ s SA o 47 _ k h Z) O E ?_)
 clear E
 intro fh c7 E
 replace f := f.below c7
 clear c7
 refine zG ?_
 refine EF O (DP DH O (JV SA n _ Z l) O E ?_)
 clear E
 intro fg dl d5 c6 E
 replace f := f.below c6
 clear c6
 refine zG ?_
 refine EF O (CA FM O ?_)
 intro ci ff bq cv ad G
 have dx : t < ci := by rw [bq]; exact Bx.lt (f)
 replace E := E.below ad
 replace f := Bx.below f ad
 clear bq cv ad
 refine zG ?_
 refine EF O (BX FM O O O G O O (IsI.one E.1) ?_)
 intro fe a0 aw
 replace E := (E.onl (G.noW CW) zK a0).b aw
 replace f := Bx.onl f Z a0
 clear G a0 aw
 refine zG ?_
 refine EF O (DP DH O (JV o d _ Z hd) O E ?_)
 clear E
 intro fd dk d4 c5 E
 replace f := f.below c5
 clear c5
 refine zG ?_
 refine EF O (CA FM O ?_)
 intro ch fc bp cu ac F
 have dw : ci < ch := by rw [bp]; exact Bx.lt E.2.1
 replace E := E.below ac
 replace f := Bx.below f ac
 clear bp cu ac
 refine zG ?_
 refine EF O (BX FM O O O F O O (IsI.one E.1) ?_)
 intro fb Y av
 replace E := (E.onl (F.noW CW) zK Y).b av
 replace f := Bx.onl f Z Y
 clear F Y av
 refine zG ?_
 refine V (v := .agg #[.bool dl, d5, .bool dk, d4]) O O (KY O O O) ?_
 refine zG ?_
 refine EF O (CA GI O ?_)
 intro ee fa bo ct ab D
 have dv : ch < ee := by rw [bo]; exact Bx.lt E.1
 replace E := E.below ab
 replace f := Bx.below f ab
 clear bo ct ab
 refine zG ?_
 refine EF O (BX GI O O O D O O (LM (IsI.one (e3 E)) (IsI.one E.2.1)) ?_)
 intro f9 X au
 replace E := (E.onl (D.noW (NL CW CW)) zK X).x au
 replace f := Bx.onl f Z X
 clear D X au
 refine zG ?_
 refine V O O (CT GI O O E.1 O) ?_
 refine zG ?_
 refine EF O (BY KO O (CQ (decide_eq_true p) (bK _ _ _ _ n d _ (e4 E) E.2.2.1 (Fits.mono Fn AD) (Fits.mono Fd AD))) O E ?_)
 clear E
 intro f8 c4 E
 replace f := f.below c4
 clear c4
 refine zG ?_
 refine EF O (BY DL O (CQ (decide_eq_true h1) (KN _ d _ E.2.2.1)) O E ?_)
 clear E
 intro f7 c3 E
 replace f := f.below c3
 clear c3
 refine zG ?_
 refine V (v := .agg #[.bool false, .slice none 0 0, .bool false, .slice none 0 0]) O O (NB O) ?_
 refine zG ?_
 refine EF O (BX GI O O O f O O (LM NG NG) ?_)
 intro f6 bc ar
 replace E := (E.onl (f.noW (NL CW CW)) zK bc).x ar
 clear f bc ar
 have de := CY GI E.1 rfl
 refine zG ?_
 exact AP (v := .tuple #[.agg #[.bool false, .slice none 0 0, .bool false, .slice none 0 0], .int .i64 3]) (by simp [results, results89, asAddr, de]) O (.form Z (fun x e => nZ h l hd (.inr h1) x (k.symm.trans (lst e))) ⟨_, _, _, _, O, KS _, KS _, e6 E⟩)
end Go.Proofs.YtmppigbbkjepiaaGreatDoor
