/- Helping facts of Rat2; no other conditions. Helping facts of SynL; no other conditions. -/
import Derived.Test.YtmppigbbkjepiaaGreatDoorSameQ
import Derived.Test.YtmppigbbkjepiaaGreatDoorTxtQ
import Derived.Test.YtmppigbbkjepiaaGreatDoorShelf
import Derived.Lib.Join
set_option maxHeartbeats 8000000
set_option maxRecDepth 100000
namespace Go.Proofs.YtmppigbbkjepiaaGreatDoor
open Go.Proofs.Tryz
open Go.RowKit W
theorem Bf {z : Int} (h : z ≤ 0) : decide (OB z ≤ 0) = true := by
  rcases LS z with ⟨_, e⟩ | ⟨_, e⟩ | ⟨g, _⟩
  · rw [e]; rfl
  · rw [e]; rfl
  · omega
theorem tA {z : Int} (h : 0 < z) : decide (OB z ≤ 0) = false := by rw [UA h]; rfl
instance vqDec (n d : Int) : Decidable (vq n d) := by unfold vq; infer_instance
theorem vq_no {p q : Int} (h : q ≤ 0) : false = decide (vq p q) := by rw [eq_comm, decide_eq_false_iff_not]; intro g; have := g.1; omega
theorem Uu {p q : Int} (h : q = 1) : true = decide (vq p q) := by subst h; rw [eq_comm, decide_eq_true_eq]; exact sL p
theorem Uv {p q : Int} (h : 0 < q) : decide (((Nat.gcd p.natAbs q.natAbs : Nat) : Int) = 1) = decide (vq p q) := by
  rw [decide_eq_decide]
  exact ⟨fun e => ⟨h, by omega⟩, fun e => by have := e.2; omega⟩
theorem dJ (na : Bool) (sa : Value) (ma : Bool) (ta : Value) (p q : Int) (w : World) (hna : IsI w (.agg #[.bool na, sa]) p) (hda : IsI w (.agg #[.bool ma, ta]) q) (Fp : Fits p 900000000) (Fq : Fits q 900000000) :
    Calls prog 80 #[.agg #[.bool na, sa, .bool ma, ta]] w (NP w (decide (vq p q))) := by
 have E := Env.start w
 replace E := (E.i hna).i hda
 go_enter func80, ntmps80
 refine zG ?_
 refine EF O (CI (cs := [.bool na, sa, .bool ma, ta]) O O ?_)
 intro Y L e1 z y h
 replace E := E.below y
 clear e1
 replace E := E.x h
 by_cases e : q ≤ 0
 case pos =>
  refine zG ?_
  refine V O O (EC O O) ?_
  refine V O O (CS O O E.1 O O) ?_
  refine zG ?_
  refine EF O (CA MJ O (iW _ p _ E.2.2.1) O E ?_)
  intro J X E
  refine zG ?_
  refine V Z O (DU O O) ?_
  refine V Z O (CS O O E.1 O O) ?_
  refine zG ?_
  refine EF O (CA MJ O (iW _ q _ E.2.1) O E ?_)
  intro I U E
  refine zG ?_
  refine V Z O (DU O O) ?_
  refine zG ?_
  refine V Z O (CS O O E.1 O O) ?_
  refine zG ?_
  refine EF O (CK QJ O (lV _ q _ E.2.1) O E ?_)
  intro H T E
  refine zG ?_
  refine V Z O (PO (c := true) O O O (Bf e)) ?_
  refine zG ?_
  exact ⟨XC (vq_no e), e3 E⟩
 replace e : 0 < q := by omega
 refine zG ?_
 refine V O O (EC O O) ?_
 refine V O O (CS O O E.1 O O) ?_
 refine zG ?_
 refine EF O (CA MJ O (iW _ p _ E.2.2.1) O E ?_)
 intro G S E
 refine zG ?_
 refine V Z O (DU O O) ?_
 refine V Z O (CS O O E.1 O O) ?_
 refine zG ?_
 refine EF O (CA MJ O (iW _ q _ E.2.1) O E ?_)
 intro F R E
 refine zG ?_
 refine V Z O (DU O O) ?_
 refine zG ?_
 refine V Z O (CS O O E.1 O O) ?_
 refine zG ?_
 refine EF O (CK QJ O (lV _ q _ E.2.1) O E ?_)
 intro D Q E
 refine zG ?_
 refine V Z O (PO (c := false) O O O (tA e)) ?_
 by_cases f : q = 1
 case pos =>
  refine zG ?_
  refine V O O (DU O O) ?_
  refine V O O (CS O O E.1 O O) ?_
  refine zG ?_
  refine EF O (CA DM O (CU (decide_eq_true f) (LG _ q _ E.2.1)) O E ?_)
  intro C P E
  refine zG ?_
  exact ⟨XC (Uu f), e3 E⟩
 refine zG ?_
 refine V O O (DU O O) ?_
 refine V O O (CS O O E.1 O O) ?_
 refine zG ?_
 refine EF O (CA DM O (CU (decide_eq_false f) (LG _ q _ E.2.1)) O E ?_)
 intro B N E
 refine zG ?_
 refine V Z O (EC O O) ?_
 refine V Z O (CS O O E.1 O O) ?_
 refine V Z O (DU O O) ?_
 refine zG ?_
 refine V Z O (CS O O E.1 O O) ?_
 refine zG ?_
 refine EF O (CH lE O (Gcd_z _ _ p q _ E.2.2.1 E.2.1 (Fits.mono Fp AE) (Fits.mono Fq AE)) O E ?_)
 intro l t o v E
 refine zG ?_
 refine EF O (CA DM O (LG _ ((Nat.gcd p.natAbs q.natAbs : Nat) : Int) _ E.1) O E ?_)
 intro k u E
 refine zG ?_
 exact ⟨XC (Uv e), e4 E⟩
theorem Jg {x : Rat} (h : ((x.den : Nat) : Int) = 1) : Ending.returned (.string (PB x.num)) = .returned (.string (JZ x)) := by unfold JZ; rw [if_pos h]
theorem Jf {x : Rat} (h : ¬ ((x.den : Nat) : Int) = 1) : Ending.returned (.string (PB x.num ++ ⟨#[47]⟩ ++ PB ((x.den : Nat) : Int))) = .returned (.string (JZ x)) := by unfold JZ; rw [if_neg h]
theorem Uz {z : Int} (h : Fits z 1000000) : (PB z).size + (⟨#[47]⟩ : ByteArray).size ≤ 9223372036854775807 := by
  have := bD h AE; have : (⟨#[47]⟩ : ByteArray).size = 1 := rfl; omega
theorem Uy {z y : Int} (h : Fits z 1000000) (g : Fits y 1000000) : (PB z ++ ⟨#[47]⟩).size + (PB y).size ≤ 9223372036854775807 := by
  have := bD h AE; have := bD g AE; have : (⟨#[47]⟩ : ByteArray).size = 1 := rfl
  rw [ByteArray.size_append]; omega
theorem Xh (na : Bool) (sa : Value) (ma : Bool) (ta : Value) (x : Rat) (w : World) (hna : IsI w (.agg #[.bool na, sa]) x.num) (hda : IsI w (.agg #[.bool ma, ta]) ((x.den : Nat) : Int)) (Fx : FitQ x 1000000) :
    Calls prog 132 #[.agg #[.bool na, sa, .bool ma, ta]] w (RetX w (JZ x)) := by
 have E := Env.start w
 replace E := (E.i hna).i hda
 go_enter func132, ntmps132
 refine zG ?_
 refine EF O (CI (cs := [.bool na, sa, .bool ma, ta]) O O ?_)
 intro H z e1 l k h
 replace E := E.below k
 clear e1
 replace E := E.x h
 by_cases f : ((x.den : Nat) : Int) = 1
 case pos =>
  refine zG ?_
  refine V O O (DU O O) ?_
  refine V O O (CS O O E.1 O O) ?_
  refine zG ?_
  refine EF O (CA DM O (CU (decide_eq_true f) (LG _ ((x.den : Nat) : Int) _ E.2.1)) O E ?_)
  intro y G E
  refine zG ?_
  refine V O O (EC O O) ?_
  refine V O O (CS O O E.1 O O) ?_
  refine zG ?_
  refine EF O (TV QI O (Ac _ x.num _ E.2.2.1 (Fits.mono Fx.1 AE)) O E ?_)
  intro u F E
  refine zG ?_
  exact ⟨Jg f, e3 E⟩
 refine zG ?_
 refine V O O (DU O O) ?_
 refine V O O (CS O O E.1 O O) ?_
 refine zG ?_
 refine EF O (CA DM O (CU (decide_eq_false f) (LG _ ((x.den : Nat) : Int) _ E.2.1)) O E ?_)
 intro t D E
 refine zG ?_
 refine sE E [0,1,4,5,2,3,6,7,8] ?_
 replace E := E.drew
 refine SW O O O O O (fun w e => EC O O) ?_
 refine SW O O O O O (fun w e => CS O O (e.1) O O) ?_
 refine SW O O O O O (fun w e => DU O O) ?_
 refine SW O O O O O (fun w e => CS O O (e.1) O O) ?_
 refine zG ?_
 refine JM (o := ⟨some 11, _, _, _, _, _⟩) O O O O (TV QI O (Ac _ x.num _ E.2.2.1 (Fits.mono Fx.1 AE)) O E ?_)
 intro q C E
 refine ⟨E, ?_⟩
 refine zG ?_
 refine SW (v := .string (PB x.num ++ ⟨#[47]⟩)) O O O O O (fun w e => iI O O O (Uz Fx.1)) ?_
 refine zG ?_
 refine JM (o := ⟨some 15, _, _, _, _, _⟩) O O O O (TV QI O (Ac _ ((x.den : Nat) : Int) _ E.2.1 (Fits.mono Fx.2 AE)) O E ?_)
 intro p B E
 refine ⟨E, ?_⟩
 refine zG ?_
 refine SW (v := .string (PB x.num ++ ⟨#[47]⟩ ++ PB ((x.den : Nat) : Int))) O O O O O (fun w e => iI O O O (Uy Fx.1 Fx.2)) ?_
 refine zG ?_
 exact ⟨Jf f, e3 E⟩
end Go.Proofs.YtmppigbbkjepiaaGreatDoor
namespace Go.Proofs.YtmppigbbkjepiaaGreatDoor
open Go.Proofs.Tryz
open Go.RowKit W
theorem lst {s t : ByteArray} (h : s = t) : s.data.toList = t.data.toList := by rw [h]
theorem Hq {s a b : ByteArray} {c : UInt8} (h : s.data.toList = a.data.toList ++ c :: b.data.toList) : a.size + b.size + 1 = s.size := by
  rw [Lib.size_eq, Lib.size_eq, Lib.size_eq, h, List.length_append, List.length_cons]; omega
theorem Wv {s : ByteArray} (h : (47 : UInt8) ∈ s.data.toList) : ∃ A B : ByteArray, s.data.toList = A.data.toList ++ 47 :: B.data.toList ∧ (47 : UInt8) ∉ A.data.toList := by
  obtain ⟨a, b, e1, e2⟩ := Sm h
  exact ⟨⟨a.toArray⟩, ⟨b.toArray⟩, by simpa using e1, by simpa using e2⟩
theorem kG {l : List UInt8} (h : ¬ DP l = none) : ∃ n, DP l = some n := by
  cases e : DP l with
  | none => exact absurd e h
  | some n => exact ⟨n, rfl⟩
theorem Wa {l : List UInt8} {n : Int} (ha : DP l = some n) : l = (JZ (Rat.divInt n 1)).data.toList := by
  obtain ⟨e1, e2⟩ := pJ (sL n)
  rw [IF, e1, e2, if_pos rfl, LU ha]
theorem Ea (s : ByteArray) (w : World) :
    Calls prog 89 #[.string s] w (ParQ w (RetPE w) s) := by
 have E := Env.start w
 go_enter func89, ntmps89
 refine zG ?_
 refine EF O (CB GV O ?_)
 intro t w1 e1 z1 d1 f
 have l1 : w.heap.size ≤ t := by rw [e1]; exact E.1.size
 replace E := E.below d1
 clear e1
 by_cases h4 : 4000 < s.size
 case pos =>
  refine zG ?_
  refine V (v := .agg #[.bool false, .slice none 0 0, .bool false, .slice none 0 0]) O O (NR O) ?_
  refine zG ?_
  refine EF O (BY GV O O O f O O (MH NX NX) ?_)
  intro w3 o3 y3
  replace E := (E.onl (f.noW (PY FM FM)) zK o3).x y3
  have r4 := CY GV E.1 rfl
  refine zG ?_
  exact AQ (v := .tuple #[.agg #[.bool false, .slice none 0 0, .bool false, .slice none 0 0], .int .i64 2]) (by simp [results, results89, asAddr, r4]) O (.big h4 ⟨_, _, _, _, O, LL _, LL _, E.2.1⟩)
 by_cases q : (47 : UInt8) ∈ s.data.toList
 case neg =>
  by_cases u : DP s.data.toList = none
  case pos =>
   refine zG ?_
   refine EF O (IP VK O (Pd s 47 _ q) O E ?_)
   intro ey d9 E
   replace f := f.below d9
   refine zG ?_
   refine EF O (DO DH O (VQ s _ AA u) O E ?_)
   intro ex gc g8 d5 E
   replace f := f.below d5
   refine zG ?_
   refine EF O (CB FU O ?_)
   intro du ew ad eb al B
   have co : t < du := by rw [ad]; exact Bx.lt (f)
   replace E := E.below al
   replace f := Bx.below f al
   clear ad
   refine zG ?_
   refine EF O (BY FU O O O B O O (IsI.one E.1) ?_)
   intro ev U bb
   replace E := oB E B U bb
   replace f := Bx.onl f AA U
   refine zG ?_
   refine V (v := .agg #[.bool false, .slice none 0 0, .bool false, .slice none 0 0]) O O (NR O) ?_
   refine zG ?_
   refine EF O (BY GV O O O f O O (MH NX NX) ?_)
   intro eu ca ba
   replace E := (E.onl (f.noW (PY FM FM)) zK ca).x ba
   have c3 := CY GV E.1 rfl
   refine zG ?_
   exact AQ (v := .tuple #[.agg #[.bool false, .slice none 0 0, .bool false, .slice none 0 0], .int .i64 3]) (by simp [results, results89, asAddr, c3]) O (.form AA (fun x e => Br q u x (lst e)) ⟨_, _, _, _, O, LL _, LL _, e3 E⟩)
  obtain ⟨n, l⟩ := kG u
  have Fn : Fits n 4000 := NS (by rw [← Lib.size_eq]; omega) l
  refine zG ?_
  refine EF O (IP VK O (Pd s 47 _ q) O E ?_)
  intro et d4 E
  replace f := f.below d4
  refine zG ?_
  refine EF O (DO DH O (KO s n _ AA l) O E ?_)
  intro es gb g7 d3 E
  replace f := f.below d3
  refine zG ?_
  refine EF O (CB FU O ?_)
  intro dt er ac ea ak z
  have cn : t < dt := by rw [ac]; exact Bx.lt (f)
  replace E := E.below ak
  replace f := Bx.below f ak
  clear ac
  refine zG ?_
  refine EF O (BY FU O O O z O O (IsI.one E.1) ?_)
  intro ep T b9
  replace E := oB E z T b9
  replace f := Bx.onl f AA T
  refine zG ?_
  refine EF O (CV TE O (Am _ n _ E.2.1) O E ?_)
  intro eo cg bv cm bu d2 E
  replace f := f.below d2
  refine zG ?_
  refine EF O (BY GV O O O f O O (MH (IsI.one E.2.1) (IsI.one E.1)) ?_)
  intro en c9 b7
  replace E := (E.onl (f.noW (PY FM FM)) zK c9).x b7
  have c2 := CY GV E.1 rfl
  refine zG ?_
  exact AQ (v := .tuple #[.agg #[.bool cg, bv, .bool cm, bu], .int .i64 0]) (by simp [results, results89, asAddr, c2]) O (.ok _ AA (XW (Lh l)) ⟨_, _, _, _, O, E.2.2.1, E.2.1, e5 E⟩)
 obtain ⟨SA, o, k, h⟩ := Wv q
 have gg := Hq k
 by_cases u : DP SA.data.toList = none
 case pos =>
  refine zG ?_
  refine EF O (IP VK O (dV s SA o 47 _ k h AA) O E ?_)
  intro w6 d6 E
  replace f := f.below d6
  refine zG ?_
  refine EF O (DO DH O (VQ SA _ AA u) O E ?_)
  intro w7 n7 s7 d7 E
  replace f := f.below d7
  refine zG ?_
  refine EF O (CB FU O ?_)
  intro b8 w8 e8 z8 d8 x8
  have dz : t < b8 := by rw [e8]; exact Bx.lt (f)
  replace E := E.below d8
  replace f := Bx.below f d8
  clear e8
  refine zG ?_
  refine EF O (BY FU O O O x8 O O (IsI.one E.1) ?_)
  intro w9 o9 y9
  replace E := oB E x8 o9 y9
  replace f := Bx.onl f AA o9
  refine zG ?_
  refine V (v := .agg #[.bool false, .slice none 0 0, .bool false, .slice none 0 0]) O O (NR O) ?_
  refine zG ?_
  refine EF O (BY GV O O O f O O (MH NX NX) ?_)
  intro g6 cf bt
  replace E := (E.onl (f.noW (PY FM FM)) zK cf).x bt
  have c8 := CY GV E.1 rfl
  refine zG ?_
  exact AQ (v := .tuple #[.agg #[.bool false, .slice none 0 0, .bool false, .slice none 0 0], .int .i64 3]) (by simp [results, results89, asAddr, c8]) O (.form AA (fun x e => Bu (b := o.data.toList) h u x (k.symm.trans (lst e))) ⟨_, _, _, _, O, LL _, LL _, e3 E⟩)
 obtain ⟨n, l⟩ := kG u
 have Fn : Fits n 4000 := NS (by rw [← Lib.size_eq]; omega) l
 by_cases hq : DP o.data.toList = none
 case pos =>
  refine zG ?_
  refine EF O (IP VK O (dV s SA o 47 _ k h AA) O E ?_)
  intro g5 ds E
  replace f := f.below ds
  refine zG ?_
  refine EF O (DO DH O (KO SA n _ AA l) O E ?_)
  intro g4 gf ga dr E
  replace f := f.below dr
  refine zG ?_
  refine EF O (CB FU O ?_)
  intro b6 g3 iU em ay Q
  have d0 : t < b6 := by rw [iU]; exact Bx.lt (f)
  replace E := E.below ay
  replace f := Bx.below f ay
  clear iU
  refine zG ?_
  refine EF O (BY FU O O O Q O O (IsI.one E.1) ?_)
  intro g2 a9 br
  replace E := oB E Q a9 br
  replace f := Bx.onl f AA a9
  refine zG ?_
  refine EF O (DO DH O (VQ o _ AA hq) O E ?_)
  intro g1 ge g9 dq E
  replace f := f.below dq
  refine zG ?_
  refine EF O (CB FU O ?_)
  intro dy g0 sG el ax P
  have cz : b6 < dy := by rw [sG]; exact Bx.lt E.2.1
  replace E := E.below ax
  replace f := Bx.below f ax
  clear sG
  refine zG ?_
  refine EF O (BY FU O O O P O O (IsI.one E.1) ?_)
  intro fz a8 bq
  replace E := oB E P a8 bq
  replace f := Bx.onl f AA a8
  refine zG ?_
  refine V (v := .agg #[.bool false, .slice none 0 0, .bool false, .slice none 0 0]) O O (NR O) ?_
  refine zG ?_
  refine EF O (BY GV O O O f O O (MH NX NX) ?_)
  intro fy ce bp
  replace E := (E.onl (f.noW (PY FM FM)) zK ce).x bp
  have c7 := CY GV E.1 rfl
  refine zG ?_
  exact AQ (v := .tuple #[.agg #[.bool false, .slice none 0 0, .bool false, .slice none 0 0], .int .i64 3]) (by simp [results, results89, asAddr, c7]) O (.form AA (fun x e => Bt h hq x (k.symm.trans (lst e))) ⟨_, _, _, _, O, LL _, LL _, e5 E⟩)
 obtain ⟨d, y⟩ := kG hq
 have Fd : Fits d 4000 := NS (by rw [← Lib.size_eq]; omega) y
 by_cases p : ¬ vq n d
 case pos =>
  refine zG ?_
  refine EF O (IP VK O (dV s SA o 47 _ k h AA) O E ?_)
  intro fx dp E
  replace f := f.below dp
  refine zG ?_
  refine EF O (DO DH O (KO SA n _ AA l) O E ?_)
  intro fw ck c1 dn E
  replace f := f.below dn
  refine zG ?_
  refine EF O (CB FU O ?_)
  intro b5 fv Cv ek aw N
  have cy : t < b5 := by rw [Cv]; exact Bx.lt (f)
  replace E := E.below aw
  replace f := Bx.below f aw
  clear Cv
  refine zG ?_
  refine EF O (BY FU O O O N O O (IsI.one E.1) ?_)
  intro fu a7 bo
  replace E := oB E N a7 bo
  replace f := Bx.onl f AA a7
  refine zG ?_
  refine EF O (DO DH O (KO o d _ AA y) O E ?_)
  intro ft cj c0 dm E
  replace f := f.below dm
  refine zG ?_
  refine EF O (CB FU O ?_)
  intro b4 fs e26 ej av L
  have cx : b5 < b4 := by rw [e26]; exact Bx.lt E.2.1
  replace E := E.below av
  replace f := Bx.below f av
  clear e26
  refine zG ?_
  refine EF O (BY FU O O O L O O (IsI.one E.1) ?_)
  intro fr a6 bn
  replace E := oB E L a6 bn
  replace f := Bx.onl f AA a6
  refine zG ?_
  refine V (v := .agg #[.bool ck, c1, .bool cj, c0]) O O (LT O O O) ?_
  refine zG ?_
  refine EF O (CB GV O ?_)
  intro dx fq e28 ei au J
  have cw : b4 < dx := by rw [e28]; exact Bx.lt E.1
  replace E := E.below au
  replace f := Bx.below f au
  clear e28
  refine zG ?_
  refine EF O (BY GV O O O J O O (MH (IsI.one (e3 E)) (IsI.one E.2.1)) ?_)
  intro fp a4 bm
  replace E := (E.onl (J.noW (PY FM FM)) zK a4).x bm
  replace f := Bx.onl f AA a4
  refine zG ?_
  refine V O O (CT GV O O E.1 O) ?_
  refine zG ?_
  refine EF O (CA LH O (CU (decide_eq_false p) (dJ _ _ _ _ n d _ (e4 E) E.2.2.1 (Fits.mono Fn AE) (Fits.mono Fd AE))) O E ?_)
  intro fo dl E
  replace f := f.below dl
  refine zG ?_
  refine V (v := .agg #[.bool false, .slice none 0 0, .bool false, .slice none 0 0]) O O (NR O) ?_
  refine zG ?_
  refine EF O (BY GV O O O f O O (MH NX NX) ?_)
  intro fn cd bl
  replace E := (E.onl (f.noW (PY FM FM)) zK cd).x bl
  have c6 := CY GV E.1 rfl
  refine zG ?_
  exact AQ (v := .tuple #[.agg #[.bool false, .slice none 0 0, .bool false, .slice none 0 0], .int .i64 3]) (by simp [results, results89, asAddr, c6]) O (.form AA (fun x e => qC h l y (.inl p) x (k.symm.trans (lst e))) ⟨_, _, _, _, O, LL _, LL _, e6 E⟩)
 replace p := Decidable.not_not.1 p
 by_cases h1 : d = 1
 case neg =>
  refine zG ?_
  refine EF O (IP VK O (dV s SA o 47 _ k h AA) O E ?_)
  intro fa de E
  replace f := f.below de
  refine zG ?_
  refine EF O (DO DH O (KO SA n _ AA l) O E ?_)
  intro f9 ab S dd E
  replace f := f.below dd
  refine zG ?_
  refine EF O (CB FU O ?_)
  intro b0 f8 ag ee ao F
  have cr : t < b0 := by rw [ag]; exact Bx.lt (f)
  replace E := E.below ao
  replace f := Bx.below f ao
  clear ag
  refine zG ?_
  refine EF O (BY FU O O O F O O (IsI.one E.1) ?_)
  intro f7 a0 bg
  replace E := oB E F a0 bg
  replace f := Bx.onl f AA a0
  refine zG ?_
  refine EF O (DO DH O (KO o d _ AA y) O E ?_)
  intro f6 aa R dc E
  replace f := f.below dc
  refine zG ?_
  refine EF O (CB FU O ?_)
  intro az f5 af ed an D
  have cq : b0 < az := by rw [af]; exact Bx.lt E.2.1
  replace E := E.below an
  replace f := Bx.below f an
  clear af
  refine zG ?_
  refine EF O (BY FU O O O D O O (IsI.one E.1) ?_)
  intro f4 Y bf
  replace E := oB E D Y bf
  replace f := Bx.onl f AA Y
  refine zG ?_
  refine V (v := .agg #[.bool ab, S, .bool aa, R]) O O (LT O O O) ?_
  refine zG ?_
  refine EF O (CB GV O ?_)
  intro dv f3 ae ec am C
  have cp : az < dv := by rw [ae]; exact Bx.lt E.1
  replace E := E.below am
  replace f := Bx.below f am
  clear ae
  refine zG ?_
  refine EF O (BY GV O O O C O O (MH (IsI.one (e3 E)) (IsI.one E.2.1)) ?_)
  intro f2 X bd
  replace E := (E.onl (C.noW (PY FM FM)) zK X).x bd
  replace f := Bx.onl f AA X
  refine zG ?_
  refine V O O (CT GV O O E.1 O) ?_
  refine zG ?_
  refine EF O (CA LH O (CU (decide_eq_true p) (dJ _ _ _ _ n d _ (e4 E) E.2.2.1 (Fits.mono Fn AE) (Fits.mono Fd AE))) O E ?_)
  intro f1 db E
  replace f := f.below db
  refine zG ?_
  refine EF O (CA DM O (CU (decide_eq_false h1) (LG _ d _ E.2.2.1)) O E ?_)
  intro f0 da E
  replace f := f.below da
  refine zG ?_
  refine V O O (CT GV O O E.1 O) ?_
  refine zG ?_
  refine EF O (BY GV O O O f O O (MH (IsI.one (e4 E)) (IsI.one E.2.2.1)) ?_)
  intro ez cb bc
  replace E := (E.onl (f.noW (PY FM FM)) zK cb).x bc
  have c4 := CY GV E.1 rfl
  refine zG ?_
  exact AQ (v := .tuple #[.agg #[.bool ab, S, .bool aa, R], .int .i64 0]) (by simp [results, results89, asAddr, c4]) O (.ok (Rat.divInt n d) AA (XW (k.trans (Tz l y p h1))) ⟨_, _, _, _, O, WH (pJ p).1.symm (e5 E), WH (pJ p).2.symm (e3 E), e6 E⟩)
 refine zG ?_
 refine EF O (IP VK O (dV s SA o 47 _ k h AA) O E ?_)
 intro fm dk E
 replace f := f.below dk
 refine zG ?_
 refine EF O (DO DH O (KO SA n _ AA l) O E ?_)
 intro fl ci bx dj E
 replace f := f.below dj
 refine zG ?_
 refine EF O (CB FU O ?_)
 intro b3 fk aj eh ar I
 have cv : t < b3 := by rw [aj]; exact Bx.lt (f)
 replace E := E.below ar
 replace f := Bx.below f ar
 clear aj
 refine zG ?_
 refine EF O (BY FU O O O I O O (IsI.one E.1) ?_)
 intro fj a3 bk
 replace E := oB E I a3 bk
 replace f := Bx.onl f AA a3
 refine zG ?_
 refine EF O (DO DH O (KO o d _ AA y) O E ?_)
 intro fi ch bw di E
 replace f := f.below di
 refine zG ?_
 refine EF O (CB FU O ?_)
 intro b2 fh ai eg aq H
 have cu : b3 < b2 := by rw [ai]; exact Bx.lt E.2.1
 replace E := E.below aq
 replace f := Bx.below f aq
 clear ai
 refine zG ?_
 refine EF O (BY FU O O O H O O (IsI.one E.1) ?_)
 intro fg a2 bj
 replace E := oB E H a2 bj
 replace f := Bx.onl f AA a2
 refine zG ?_
 refine V (v := .agg #[.bool ci, bx, .bool ch, bw]) O O (LT O O O) ?_
 refine zG ?_
 refine EF O (CB GV O ?_)
 intro dw ff ah ef ap G
 have ct : b2 < dw := by rw [ah]; exact Bx.lt E.1
 replace E := E.below ap
 replace f := Bx.below f ap
 clear ah
 refine zG ?_
 refine EF O (BY GV O O O G O O (MH (IsI.one (e3 E)) (IsI.one E.2.1)) ?_)
 intro fe a1 bi
 replace E := (E.onl (G.noW (PY FM FM)) zK a1).x bi
 replace f := Bx.onl f AA a1
 refine zG ?_
 refine V O O (CT GV O O E.1 O) ?_
 refine zG ?_
 refine EF O (CA LH O (CU (decide_eq_true p) (dJ _ _ _ _ n d _ (e4 E) E.2.2.1 (Fits.mono Fn AE) (Fits.mono Fd AE))) O E ?_)
 intro fd dh E
 replace f := f.below dh
 refine zG ?_
 refine EF O (CA DM O (CU (decide_eq_true h1) (LG _ d _ E.2.2.1)) O E ?_)
 intro fc dg E
 replace f := f.below dg
 refine zG ?_
 refine V (v := .agg #[.bool false, .slice none 0 0, .bool false, .slice none 0 0]) O O (NR O) ?_
 refine zG ?_
 refine EF O (BY GV O O O f O O (MH NX NX) ?_)
 intro fb cc bh
 replace E := (E.onl (f.noW (PY FM FM)) zK cc).x bh
 have c5 := CY GV E.1 rfl
 refine zG ?_
 exact AQ (v := .tuple #[.agg #[.bool false, .slice none 0 0, .bool false, .slice none 0 0], .int .i64 3]) (by simp [results, results89, asAddr, c5]) O (.form AA (fun x e => qC h l y (.inr h1) x (k.symm.trans (lst e))) ⟨_, _, _, _, O, LL _, LL _, e6 E⟩)
theorem xH {ρ : Operand → Value} {o : Oper} {w : World} {P : Program} {x y : Operand} {T : TypeId} {s : ByteArray} {j : Nat} {J : Int} {kk : IntKind} (ho : o.op = .slice T x none (some y) none) (hT : P.underlying T = some .string) (hx : ρ x = .string s) (hy : ρ y = .int kk J) (hJ : J = (j : Int)) (hj : j ≤ s.size) :
    (execOp ρ o).run P w = .ok (.value (.string (s.extract 0 j))) w := by
  subst hJ
  unfold execOp; rw [ho]
  simp [hx, hy, Instr.sliceAt, Instr.slice, run_underlying hT, Instr.sliceBounds, Instr.sliceBound, asIntOf, hj]
end Go.Proofs.YtmppigbbkjepiaaGreatDoor
namespace Go.Proofs.YtmppigbbkjepiaaGreatDoor
open W
abbrev Bs := List UInt8
abbrev Tm := Rat × List Nat
def MQ (b : UInt8) : Bs → Option (Bs × Bs)
  | [] => none
  | x :: l => if x = b then some ([], l) else (MQ b l).map fun p => (x :: p.1, p.2)
theorem cutB_none {b : UInt8} {l : Bs} : MQ b l = none ↔ b ∉ l := by
  induction l with
  | nil => simp [MQ]
  | cons x l ih =>
    simp only [MQ]
    by_cases h : x = b
    · simp [h]
    · rw [if_neg h]; simp [ih, Ne.symm h]
theorem cutB_some {b : UInt8} {l x y : Bs} : MQ b l = some (x, y) ↔ l = x ++ b :: y ∧ b ∉ x := by
  induction l generalizing x with
  | nil => simp [MQ]
  | cons c l ih =>
    simp only [MQ]
    by_cases h : c = b
    · rw [if_pos h]
      constructor
      · intro e; simp only [Option.some.injEq, Prod.mk.injEq] at e; obtain ⟨rfl, rfl⟩ := e; simp [h]
      · rintro ⟨e, f⟩
        cases x with
        | nil => simp at e; simp [e.2]
        | cons d x => simp at e; exact absurd (by simp [← e.1, h]) f
    · rw [if_neg h]
      cases k : MQ b l with
      | none =>
        simp only [Option.map_none, reduceCtorEq, false_iff]
        rintro ⟨e, f⟩
        cases x with
        | nil => simp at e; exact h e.1
        | cons d x => simp at e; exact cutB_none.1 k (by rw [e.2]; simp)
      | some p =>
        obtain ⟨u, v⟩ := p
        simp only [Option.map_some, Option.some.injEq, Prod.mk.injEq]
        constructor
        · rintro ⟨rfl, rfl⟩
          obtain ⟨e, f⟩ := ih.1 k
          exact ⟨by rw [e]; rfl, by simp [f, Ne.symm h]⟩
        · rintro ⟨e, f⟩
          cases x with
          | nil => simp at e; exact absurd e.1 h
          | cons d x =>
            simp at e
            obtain ⟨rfl, e⟩ := e
            have := ih.2 ⟨e, fun g => f (by simp [g])⟩
            rw [k] at this
            simp only [Option.some.injEq, Prod.mk.injEq] at this
            exact ⟨by rw [this.1], this.2⟩
def EM (b : UInt8) : Bs → List Bs
  | [] => [[]]
  | x :: l => if x = b then [] :: EM b l else match EM b l with
    | [] => [[x]]
    | h :: t => (x :: h) :: t
def jn (b : UInt8) : List Bs → Bs
  | [] => []
  | [x] => x
  | x :: y :: r => x ++ b :: jn b (y :: r)
theorem KK (b : UInt8) (x : Bs) {r : List Bs} (h : r ≠ []) : jn b (x :: r) = x ++ b :: jn b r := by
  cases r with
  | nil => exact absurd rfl h
  | cons y r => rfl
theorem Rn (b : UInt8) (l : List Bs) : Lib.join l [b] = jn b l := by
  induction l with
  | nil => rfl
  | cons x r ih =>
    cases r with
    | nil => rw [Lib.join_one]; rfl
    | cons y r =>
      rw [KK b x AH, ← ih, Lib.join_cons, Lib.join_cons]
      simp [Lib.joinTail]
theorem NK (b : UInt8) (l : Bs) : EM b l ≠ [] := by
  cases l with
  | nil => simp [EM]
  | cons x l =>
    simp only [EM]
    split
    · simp
    · split <;> simp
theorem bI (b : UInt8) {x y : Bs} (h : b ∉ x) : EM b (x ++ b :: y) = x :: EM b y := by
  induction x with
  | nil => simp [EM]
  | cons c x ih =>
    have k : ¬ c = b := fun e => h (by simp [e])
    have f : b ∉ x := fun e => h (by simp [e])
    simp only [List.cons_append, EM]
    rw [if_neg k, ih f]
theorem bH (b : UInt8) {x : Bs} (h : b ∉ x) : EM b x = [x] := by
  induction x with
  | nil => rfl
  | cons c x ih =>
    have k : ¬ c = b := fun e => h (by simp [e])
    have f : b ∉ x := fun e => h (by simp [e])
    simp only [EM]
    rw [if_neg k, ih f]
theorem dZ (b : UInt8) {l : List Bs} (h : l ≠ []) (hb : ∀ x ∈ l, b ∉ x) : EM b (jn b l) = l := by
  induction l with
  | nil => exact absurd rfl h
  | cons x r ih =>
    cases r with
    | nil => exact bH b (hb x AH)
    | cons y r =>
      rw [KK b x AH, bI b (hb x AH), ih AH (fun z e => hb z (by simp [e]))]
theorem kV (b : UInt8) (l : Bs) : jn b (EM b l) = l := by
  induction l with
  | nil => rfl
  | cons x l ih =>
    simp only [EM]
    by_cases h : x = b
    · rw [if_pos h, KK b [] (NK b l), ih, h]; rfl
    · rw [if_neg h]
      cases e : EM b l with
      | nil => exact absurd e (NK b l)
      | cons y r =>
        rw [e] at ih
        simp only
        cases r with
        | nil => simp only [jn] at ih ⊢; rw [ih]
        | cons z r => rw [KK b (x :: y) AH]; rw [KK b y AH] at ih; rw [List.cons_append, ih]
def LW (l : Bs) : Option Rat := match MQ 47 l with
  | none => (DP l).map fun z => Rat.divInt z 1
  | some (a, b) => match DP a, DP b with
    | some n, some d => if vq n d ∧ d ≠ 1 then some (Rat.divInt n d) else none
    | _, _ => none
theorem TC {l : Bs} {x : Rat} (h : LW l = some x) : l = (JZ x).data.toList := by
  unfold LW at h
  cases k : MQ 47 l with
  | none =>
    rw [k] at h
    cases f : DP l with
    | none => simp [f] at h
    | some z =>
      simp only [f, Option.map_some, Option.some.injEq] at h
      rw [← h]; exact Wa f
  | some p =>
    obtain ⟨a, b⟩ := p
    rw [k] at h
    obtain ⟨rfl, q⟩ := cutB_some.1 k
    cases e : DP a with
    | none => simp [e] at h
    | some n =>
      cases o : DP b with
      | none => simp [e, o] at h
      | some d =>
        simp only [e, o] at h
        by_cases g : vq n d ∧ d ≠ 1
        · rw [if_pos g] at h
          simp only [Option.some.injEq] at h
          rw [← h]; exact Tz e o g.1 g.2
        · rw [if_neg g] at h; cases h
theorem gD {l : Bs} (h : LW l = none) (x : Rat) : l ≠ (JZ x).data.toList := by
  unfold LW at h
  cases f : MQ 47 l with
  | none =>
    rw [f] at h
    cases t : DP l with
    | none => exact Br (cutB_none.1 f) t x
    | some z => simp [t] at h
  | some p =>
    obtain ⟨a, b⟩ := p
    rw [f] at h
    obtain ⟨rfl, k⟩ := cutB_some.1 f
    cases q : DP a with
    | none => exact Bu k q x
    | some n =>
      cases o : DP b with
      | none => exact Bt k o x
      | some d =>
        simp only [q, o] at h
        by_cases g : vq n d ∧ d ≠ 1
        · rw [if_pos g] at h; cases h
        · refine qC k q o ?_ x
          by_cases u : vq n d
          · exact .inr (Decidable.by_contra fun e => g ⟨u, e⟩)
          · exact .inl u
theorem kI (x : Rat) : LW (JZ x).data.toList = some x := by
  cases h : LW (JZ x).data.toList with
  | none => exact absurd rfl (gD h x)
  | some y => rw [sN (XW (TC h))]
def FI (lo hi : Int) (l : Bs) : Option Nat := match DP l with
  | some z => if lo ≤ z ∧ z ≤ hi then some z.toNat else none
  | none => none
theorem eO {lo hi : Int} {n : Nat} (h1 : lo ≤ (n : Int)) (h2 : (n : Int) ≤ hi) : FI lo hi (txt (n : Int)) = some n := by
  unfold FI; rw [UF]; simp only; rw [if_pos ⟨h1, h2⟩]; simp
theorem NM {lo hi : Int} {l : Bs} {n : Nat} (h0 : 0 ≤ lo) (h : FI lo hi l = some n) : l = txt (n : Int) ∧ lo ≤ (n : Int) ∧ (n : Int) ≤ hi := by
  unfold FI at h
  cases e : DP l with
  | none => simp [e] at h
  | some z =>
    simp only [e] at h
    by_cases g : lo ≤ z ∧ z ≤ hi
    · rw [if_pos g] at h
      simp only [Option.some.injEq] at h
      have : (n : Int) = z := by omega
      rw [this]; exact ⟨(LU e).symm, g⟩
    · rw [if_neg g] at h; cases h
def OZ (b : UInt8) : Bool := (decide (65 ≤ b.toNat) && decide (b.toNat ≤ 90)) || (decide (97 ≤ b.toNat) && decide (b.toNat ≤ 122))
def MW (b : UInt8) : Bool := OZ b || (decide (48 ≤ b.toNat) && decide (b.toNat ≤ 57)) || decide (b.toNat = 95)
def LZ (s : Bs) : Bool := match s with
  | [] => false
  | c :: r => decide (s.length ≤ 12) && OZ c && r.all MW
def DF (k : Nat) (vs : List Bs) : Bool := decide (vs.length ≤ k) && vs.all LZ && decide vs.Nodup
theorem uJ {s : Bs} (h : LZ s = true) : ∀ b ∈ s, MW b = true := by
  cases s with
  | nil => cases h
  | cons c r =>
    simp only [LZ, Bool.and_eq_true, List.all_eq_true] at h
    intro b e
    rcases List.mem_cons.1 e with rfl | e
    · unfold MW; rw [h.1.2]; rfl
    · exact h.2 b e
theorem kY {s : Bs} (h : LZ s = true) : s.length ≤ 12 := by
  cases s with
  | nil => cases h
  | cons c r => simp only [LZ, Bool.and_eq_true, decide_eq_true_eq] at h; exact h.1.1
theorem rB {s : Bs} (h : LZ s = true) {b : UInt8} (hb : MW b = false) : b ∉ s := fun e => by rw [uJ h b e] at hb; cases hb
theorem Hb {s : Bs} (h : LZ s = true) : ∃ c r, s = c :: r ∧ OZ c = true := by
  cases s with
  | nil => cases h
  | cons c r => simp only [LZ, Bool.and_eq_true] at h; exact ⟨c, r, rfl, h.1.2⟩
def RX (v : Bs) (n : Nat) : List Bs := if n = 0 then [] else if n = 1 then [v] else [v ++ 94 :: txt (n : Int)]
def FJ : List Bs → List Nat → List Bs
  | v :: vs, n :: ns => RX v n ++ FJ vs ns
  | _, _ => []
def FB (vars : List Bs) (c : Rat) (m : List Nat) : Bs :=
  if FJ vars m = [] ∨ c ≠ 1 then jn 42 ((JZ c).data.toList :: FJ vars m) else jn 42 (FJ vars m)
def within (n : Nat) (m : List Nat) : Prop := ∀ i, n ≤ i → me m i = 0
def QN (c : Rat) : Rat := if c < 0 then -c else c
def RG (first neg : Bool) : Bs := if first then (if neg then [45] else []) else (if neg then [32, 45, 32] else [32, 43, 32])
def GQ (vars : List Bs) : Bool → List Tm → Bs
  | _, [] => []
  | f, (c, m) :: p => RG f (decide (c < 0)) ++ FB vars (QN c) m ++ GQ vars false p
def DQ (vars : List Bs) (p : List Tm) : Bs := if p = [] then [48] else GQ vars true p
def PX (vars : List Bs) (w : Bs) : Option (Nat × Nat) := match MQ 94 w with
  | none => (vars.idxOf? w).map fun v => (v, 1)
  | some (a, d) => match vars.idxOf? a, FI 2 65535 d with
    | some v, some n => some (v, n)
    | _, _ => none
def FY (vars : List Bs) : List Bs → List Nat → Option (List Nat)
  | [], m => some m
  | w :: ws, m => match PX vars w with
    | none => none
    | some (v, n) => FY vars ws (m.set v n)
def IB (l : List Bs) : Rat × List Bs := match l with
  | [] => (1, [])
  | a :: r => match LW a with
    | some c => (c, r)
    | none => (1, a :: r)
def zeroM : List Nat := [0, 0, 0, 0, 0, 0, 0, 0]
def ZZ (vars : List Bs) (w : Bs) : Option Tm := match FY vars (IB (EM 42 w)).2 zeroM with
  | none => none
  | some m => if 0 < (IB (EM 42 w)).1 ∧ FB vars (IB (EM 42 w)).1 m = w then some ((IB (EM 42 w)).1, m) else none
theorem tR {vars : List Bs} {w : Bs} {c : Rat} {m : List Nat} (h : ZZ vars w = some (c, m)) : 0 < c ∧ FB vars c m = w := by
  unfold ZZ at h
  cases e : FY vars (IB (EM 42 w)).2 zeroM with
  | none => simp [e] at h
  | some m' =>
    simp only [e] at h
    by_cases g : 0 < (IB (EM 42 w)).1 ∧ FB vars (IB (EM 42 w)).1 m' = w
    · rw [if_pos g] at h
      simp only [Option.some.injEq, Prod.mk.injEq] at h
      obtain ⟨rfl, rfl⟩ := h
      exact g
    · rw [if_neg g] at h; cases h
theorem qP {m : List Nat} (h : EK m) {v n : Nat} (hn : n ≤ 65535) : EK (m.set v n) := by
  refine ⟨by rw [List.length_set]; exact h.1, fun e f => ?_⟩
  rcases List.mem_or_eq_of_mem_set f with g | rfl
  · exact h.2 e g
  · exact hn
theorem wL {k : Nat} {m : List Nat} (h : within k m) {v n : Nat} (hv : v < k) : within k (m.set v n) := by
  intro i e
  have := h i e
  unfold me at *
  rw [List.getD_eq_getElem?_getD, List.getElem?_set_ne AA, ← List.getD_eq_getElem?_getD]; exact this
theorem jZ {vars : List Bs} {w : Bs} {v n : Nat} (h : PX vars w = some (v, n)) : v < vars.length ∧ 1 ≤ n ∧ n ≤ 65535 := by
  unfold PX at h
  have l : ∀ a : Bs, vars.idxOf? a = some v → v < vars.length := by
    intro a e
    rw [List.idxOf?, List.findIdx?_eq_some_iff_getElem] at e
    exact e.1
  cases q : MQ 94 w with
  | none =>
    rw [q] at h
    cases f : vars.idxOf? w with
    | none => simp [f] at h
    | some u => simp only [f, Option.map_some, Option.some.injEq, Prod.mk.injEq] at h; obtain ⟨rfl, rfl⟩ := h; exact ⟨l w f, by omega, by omega⟩
  | some p =>
    obtain ⟨a, d⟩ := p
    rw [q] at h
    cases f : vars.idxOf? a with
    | none => simp [f] at h
    | some u =>
      cases o : FI 2 65535 d with
      | none => simp [f, o] at h
      | some k =>
        simp only [f, o, Option.some.injEq, Prod.mk.injEq] at h
        obtain ⟨rfl, rfl⟩ := h
        have := NM AE o
        exact ⟨l a f, by omega, by omega⟩
theorem nV {vars : List Bs} : ∀ {ws : List Bs} {m m' : List Nat}, FY vars ws m = some m' → EK m → within vars.length m → EK m' ∧ within vars.length m'
  | [], m, m', h, h1, h2 => by simp only [FY, Option.some.injEq] at h; subst h; exact ⟨h1, h2⟩
  | w :: ws, m, m', h, h1, h2 => by
    simp only [FY] at h
    cases hf : PX vars w with
    | none => simp [hf] at h
    | some p =>
      obtain ⟨v, n⟩ := p
      simp only [hf] at h
      obtain ⟨g1, g2, g3⟩ := jZ hf
      exact nV h (qP h1 g3) (wL h2 g1)
theorem CZ : EK zeroM := by refine ⟨rfl, ?_⟩; decide
theorem aX (k : Nat) : within k zeroM := by
  intro i _
  unfold me zeroM
  match i with
  | 0 | 1 | 2 | 3 | 4 | 5 | 6 | 7 => rfl
  | n + 8 => rfl
theorem jU {vars : List Bs} {w : Bs} {c : Rat} {m : List Nat} (h : ZZ vars w = some (c, m)) : EK m ∧ within vars.length m := by
  unfold ZZ at h
  cases e : FY vars (IB (EM 42 w)).2 zeroM with
  | none => simp [e] at h
  | some m' =>
    simp only [e] at h
    have := nV e CZ (aX _)
    split at h
    · simp only [Option.some.injEq, Prod.mk.injEq] at h; obtain ⟨_, rfl⟩ := h; exact this
    · cases h
end Go.Proofs.YtmppigbbkjepiaaGreatDoor
