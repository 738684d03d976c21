/- Helping facts of Rat2; no other conditions. -/
import Derived.Test.YtmppigbbkjepiaaGreatDoorSameQ
import Derived.Test.YtmppigbbkjepiaaGreatDoorTxtQ
import Derived.Test.YtmppigbbkjepiaaGreatDoorShelf
set_option maxHeartbeats 8000000
set_option maxRecDepth 100000
namespace Go.Proofs.YtmppigbbkjepiaaGreatDoor
open Go.Proofs.Tryz
open Go.RowKit W
variable {l : List UInt8} {p q z : Int} {s : ByteArray} {x : Rat}
theorem YHM {p : Prop} (h : p := by rw [<- Lib.size_eq]; omega) : p := h
theorem Yeo {p : Prop} (h : p := by simp [results, results89, asAddr, r1]) : p := h
theorem ZrB {p : Prop} (h : p := by
 rcases LC z with ⟨_, e⟩ | ⟨_, e⟩ | ⟨g, _⟩
 . rw [e]; rfl
 . rw [e]; rfl
 . omega
 ) : p := h
theorem Ea (h : z <= 0) : decide (OP z <= 0) = true := by
 exact ZrB
theorem vR (h : 0 < z) : decide (OP z <= 0) = false := by rw [ST h]; rfl
theorem So (h : z <= 0) : decide (OP z < 1) = true := by
 exact ZrB
theorem Lu (h : 0 < z) : decide (OP z < 1) = false := by rw [ST h]; rfl
instance vqDec (n d : Int) : Decidable (vq n d) := by unfold vq; infer_instance
theorem Xa (h : q <= 0) : false = decide (vq p q) := by rw [eq_comm, decide_eq_false_iff_not]; intro g; have := g.1; omega
theorem Xx (h : q = 1) : true = decide (vq p q) := by subst h; rw [eq_comm, decide_eq_true_eq]; exact vD p
theorem Kw (h : 0 < q) : decide (((Nat.gcd p.natAbs q.natAbs : Nat) : Int) = 1) = decide (vq p q) := by
 rw [decide_eq_decide]
 exact ⟨fun e => ⟨h, by omega⟩, fun e => by have := e.2; omega⟩
theorem Sb (h : 0 < q) : (JC ((Nat.gcd p.natAbs q.natAbs : Nat) : Int) 1 == 0) = decide (vq p q) := by
 rw [<- Kw h]
 unfold JC
 split
 . rename_i g; rw [decide_eq_false AA]; rfl
 split
 . rename_i g; rw [decide_eq_true g]; rfl
 rename_i g; rw [decide_eq_false g]; rfl
theorem fZ (na : Bool) (sa : Value) (ma : Bool) (ta : Value) (p q : Int) (w : World) (hna : IsI w (.agg #[.bool na, sa]) p) (hda : IsI w (.agg #[.bool ma, ta]) q) (Fp : Fits p 900000000) (Fq : Fits q 900000000) :
 Calls prog 80 #[.agg #[.bool na, sa, .bool ma, ta]] w (LI w (decide (vq p q))) := by
 have E := Env.start w
 replace E := (E.i hna).i hda
 go_enter func80, ntmps80
 refine zG ?_
 refine EF O (CI (cs := [.bool na, sa, .bool ma, ta]) O O ?_)
 intro Y L e1 z y h
 replace E := E.below y
 clear e1
 replace E := E.x h
 by_cases e : q <= 0
 case pos =>
  refine zG ?_
  refine V O O (DN O O) ?_
  refine V O O (CN O O E.1 O O) ?_
  refine zG ?_
  refine EF O (CA MZ O (lI _ p _ E.2.2.1) O E ?_)
  intro J X E
  refine zG ?_
  refine V Z O (DD O O) ?_
  refine V Z O (CN O O E.1 O O) ?_
  refine zG ?_
  refine EF O (CA MZ O (lI _ q _ E.2.1) O E ?_)
  intro I U E
  refine zG ?_
  refine V Z O (DD O O) ?_
  refine zG ?_
  refine V Z O (CN O O E.1 O O) ?_
  refine zG ?_
  refine EF O (CE RF O (oQ _ q _ E.2.1) O E ?_)
  intro H T E
  refine zG ?_
  refine V Z O (OW (c := true) O O O (Ea e)) ?_
  refine zG ?_
  exact ⟨TD (Xa e), e3 E⟩
 replace e : 0 < q := by omega
 refine zG ?_
 refine V O O (DN O O) ?_
 refine V O O (CN O O E.1 O O) ?_
 refine zG ?_
 refine EF O (CA MZ O (lI _ p _ E.2.2.1) O E ?_)
 intro G S E
 refine zG ?_
 refine V Z O (DD O O) ?_
 refine V Z O (CN O O E.1 O O) ?_
 refine zG ?_
 refine EF O (CA MZ O (lI _ q _ E.2.1) O E ?_)
 intro F R E
 refine zG ?_
 refine V Z O (DD O O) ?_
 refine zG ?_
 refine V Z O (CN O O E.1 O O) ?_
 refine zG ?_
 refine EF O (CE RF O (oQ _ q _ E.2.1) O E ?_)
 intro D Q E
 refine zG ?_
 refine V Z O (OW (c := false) O O O (vR e)) ?_
 by_cases f : q = 1
 . refine zG ?_
   refine V O O (DD O O) ?_
   refine V O O (CN O O E.1 O O) ?_
   refine zG ?_
   refine EF O (CA DT O (CU (decide_eq_true f) (LU _ q _ E.2.1)) O E ?_)
   intro C P E
   refine zG ?_
   exact ⟨TD (Xx f), e3 E⟩
 refine zG ?_
 refine V O O (DD O O) ?_
 refine V O O (CN O O E.1 O O) ?_
 refine zG ?_
 refine EF O (CA DT O (CU (decide_eq_false f) (LU _ q _ E.2.1)) O E ?_)
 intro B N E
 refine zG ?_
 refine V Z O (DN O O) ?_
 refine V Z O (CN O O E.1 O O) ?_
 refine V Z O (DD O O) ?_
 refine zG ?_
 refine V Z O (CN O O E.1 O O) ?_
 refine zG ?_
 refine EF O (CH nQ O (Gcd_z _ _ p q _ E.2.2.1 E.2.1 (Fits.mono Fp AE) (Fits.mono Fq AE)) O E ?_)
 intro l t o v E
 refine zG ?_
 refine EF O (CA DT O (LU _ ((Nat.gcd p.natAbs q.natAbs : Nat) : Int) _ E.1) O E ?_)
 intro k u E
 refine zG ?_
 exact ⟨TD (Kw e), e4 E⟩
theorem Kk (na : Bool) (sa : Value) (ma : Bool) (ta : Value) (p q : Int) (w : World) (hna : IsI w (.agg #[.bool na, sa]) p) (hda : IsI w (.agg #[.bool ma, ta]) q) (Fp : Fits p 900000000) (Fq : Fits q 900000000) :
 Calls prog 108 #[.agg #[.bool na, sa, .bool ma, ta]] w (LI w (decide (vq p q))) := by
 have E := Env.start w
 replace E := (E.i hna).i hda
 go_enter func108, ntmps108
 refine zG ?_
 refine EF O (CI (cs := [.bool na, sa, .bool ma, ta]) O O ?_)
 intro X I e1 y v f
 replace E := E.below v
 clear e1
 replace E := E.x f
 by_cases e : q <= 0
 case pos =>
  refine zG ?_
  refine V O O (DN O O) ?_
  refine V O O (CN O O E.1 O O) ?_
  refine zG ?_
  refine EF O (CA OA O (gB _ p _ E.2.2.1) O E ?_)
  intro H U E
  refine zG ?_
  refine V Z O (DD O O) ?_
  refine V Z O (CN O O E.1 O O) ?_
  refine zG ?_
  refine EF O (CA OA O (gB _ q _ E.2.1) O E ?_)
  intro G T E
  refine zG ?_
  refine V Z O (DD O O) ?_
  refine zG ?_
  refine V Z O (CN O O E.1 O O) ?_
  refine zG ?_
  refine EF O (CE MQ O (gD _ q _ E.2.1) O E ?_)
  intro F S E
  refine zG ?_
  refine V Z O (JH (c := true) O O O (So e)) ?_
  refine zG ?_
  exact ⟨TD (Xa e), e3 E⟩
 replace e : 0 < q := by omega
 refine zG ?_
 refine V O O (DN O O) ?_
 refine V O O (CN O O E.1 O O) ?_
 refine zG ?_
 refine EF O (CA OA O (gB _ p _ E.2.2.1) O E ?_)
 intro D R E
 refine zG ?_
 refine V Z O (DD O O) ?_
 refine V Z O (CN O O E.1 O O) ?_
 refine zG ?_
 refine EF O (CA OA O (gB _ q _ E.2.1) O E ?_)
 intro C Q E
 refine zG ?_
 refine V Z O (DD O O) ?_
 refine zG ?_
 refine V Z O (CN O O E.1 O O) ?_
 refine zG ?_
 refine EF O (CE MQ O (gD _ q _ E.2.1) O E ?_)
 intro B P E
 refine zG ?_
 refine V Z O (JH (c := false) O O O (Lu e)) ?_
 refine zG ?_
 refine V O O (DN O O) ?_
 refine V O O (CN O O E.1 O O) ?_
 refine V O O (DD O O) ?_
 refine V O O (CN O O E.1 O O) ?_
 refine zG ?_
 refine EF O (CH aZ O (Ri _ p _ q _ E.2.2.1 E.2.1 (Fits.mono Fp AE) (Fits.mono Fq AE)) O E ?_)
 intro z L J N E
 refine zG ?_
 refine EF O (CH FQ O (VN 1 _ AE AE) O E ?_)
 intro k o l u E
 refine zG ?_
 refine EF O (CE QK O (uQ _ ((Nat.gcd p.natAbs q.natAbs : Nat) : Int) _ 1 _ E.2.1 E.1) O E ?_)
 intro h t E
 refine zG ?_
 refine V O O (EU (c := (JC ((Nat.gcd p.natAbs q.natAbs : Nat) : Int) 1 == 0)) O O O O) ?_
 refine zG ?_
 exact ⟨TD (Sb e), e5 E⟩
theorem vF (h : ((x.den : Nat) : Int) = 1) : Ending.returned (.string (MC x.num)) = .returned (.string (KD x)) := by unfold KD; rw [if_pos h]
theorem vE (h : ¬ ((x.den : Nat) : Int) = 1) : Ending.returned (.string (MC x.num ++ ⟨#[47]⟩ ++ MC ((x.den : Nat) : Int))) = .returned (.string (KD x)) := by unfold KD; rw [if_neg h]
theorem Lr (h : Fits z 1000000) : (MC z).size + (⟨#[47]⟩ : ByteArray).size <= 9223372036854775807 := by
 have := cU h AE; have : (⟨#[47]⟩ : ByteArray).size = 1 := rfl; omega
theorem Lq {y : Int} (h : Fits z 1000000) (g : Fits y 1000000) : (MC z ++ ⟨#[47]⟩).size + (MC y).size <= 9223372036854775807 := by
 have := cU h AE; have := cU g AE; have : (⟨#[47]⟩ : ByteArray).size = 1 := rfl
 rw [ByteArray.size_append]; omega
theorem C0 (na : Bool) (sa : Value) (ma : Bool) (ta : Value) (x : Rat) (w : World) (hna : IsI w (.agg #[.bool na, sa]) x.num) (hda : IsI w (.agg #[.bool ma, ta]) ((x.den : Nat) : Int)) (Fx : FitQ x 1000000) :
 Calls prog 132 #[.agg #[.bool na, sa, .bool ma, ta]] w (RetX w (KD x)) := by
 have E := Env.start w
 replace E := (E.i hna).i hda
 go_enter func132, ntmps132
 refine zG ?_
 refine EF O (CI (cs := [.bool na, sa, .bool ma, ta]) O O ?_)
 intro H z e1 l k h
 replace E := E.below k
 clear e1
 replace E := E.x h
 by_cases f : ((x.den : Nat) : Int) = 1
 case pos =>
  refine zG ?_
  refine V O O (DD O O) ?_
  refine V O O (CN O O E.1 O O) ?_
  refine zG ?_
  refine EF O (CA DT O (CU (decide_eq_true f) (LU _ ((x.den : Nat) : Int) _ E.2.1)) O E ?_)
  intro y G E
  refine zG ?_
  refine V O O (DN O O) ?_
  refine V O O (CN O O E.1 O O) ?_
  refine zG ?_
  refine EF O (JZ RE O (Da _ x.num _ E.2.2.1 (Fits.mono Fx.1 AE)) O E ?_)
  intro u F E
  refine zG ?_
  exact ⟨vF f, e3 E⟩
 refine zG ?_
 refine V O O (DD O O) ?_
 refine V O O (CN O O E.1 O O) ?_
 refine zG ?_
 refine EF O (CA DT O (CU (decide_eq_false f) (LU _ ((x.den : Nat) : Int) _ E.2.1)) O E ?_)
 intro t D E
 refine zG ?_
 refine sE E [0,1,4,5,2,3,6,7,8] ?_
 replace E := E.drew
 refine SW O O O O O (fun w e => DN O O) ?_
 refine SW O O O O O (fun w e => CN O O (e.1) O O) ?_
 refine SW O O O O O (fun w e => DD O O) ?_
 refine SW O O O O O (fun w e => CN O O (e.1) O O) ?_
 refine zG ?_
 refine GZ (o := ⟨some 11, _, _, _, _, _⟩) O O O O (JZ RE O (Da _ x.num _ E.2.2.1 (Fits.mono Fx.1 AE)) O E ?_)
 intro q C E
 refine ⟨E, ?_⟩
 refine zG ?_
 refine SW (v := .string (MC x.num ++ ⟨#[47]⟩)) O O O O O (fun w e => TY O O O (Lr Fx.1)) ?_
 refine zG ?_
 refine GZ (o := ⟨some 15, _, _, _, _, _⟩) O O O O (JZ RE O (Da _ ((x.den : Nat) : Int) _ E.2.1 (Fits.mono Fx.2 AE)) O E ?_)
 intro p B E
 refine ⟨E, ?_⟩
 refine zG ?_
 refine SW (v := .string (MC x.num ++ ⟨#[47]⟩ ++ MC ((x.den : Nat) : Int))) O O O O O (fun w e => TY O O O (Lq Fx.1 Fx.2)) ?_
 refine zG ?_
 exact ⟨vE f, e3 E⟩
theorem Qm {x : Int} (h : ¬ x = 1) : (JC x 1 == 0) = false := by
 unfold JC; (repeat' split) <;> first | rfl | exact absurd (by assumption) h
theorem Wp (na : Bool) (sa : Value) (ma : Bool) (ta : Value) (x : Rat) (w : World) (hna : IsI w (.agg #[.bool na, sa]) x.num) (hda : IsI w (.agg #[.bool ma, ta]) ((x.den : Nat) : Int)) (Fx : FitQ x 1000000) :
 Calls prog 153 #[.agg #[.bool na, sa, .bool ma, ta]] w (RetX w (KD x)) := by
 have E := Env.start w
 replace E := (E.i hna).i hda
 go_enter func153, ntmps153
 refine zG ?_
 refine EF O (CI (cs := [.bool na, sa, .bool ma, ta]) O O ?_)
 intro S C e1 l k h
 replace E := E.below k
 clear e1
 replace E := E.x h
 by_cases f : ((x.den : Nat) : Int) = 1
 case pos =>
  refine zG ?_
  refine sE E [0,1,2,3,4] ?_
  replace E := E.drew
  refine SW O O O O O (fun w e => DD O O) ?_
  refine SW O O O O O (fun w e => CN O O (e.1) O O) ?_
  refine zG ?_
  refine GZ (o := ⟨some 5, _, _, _, _, _⟩) O O O O (CH FQ O (VN 1 _ AE AE) O E ?_)
  intro B H F R E
  refine ⟨E.2, ?_⟩
  refine zG ?_
  refine GZ (o := ⟨some 6, _, _, _, _, _⟩) O O O O (CE QK O (uQ _ ((x.den : Nat) : Int) _ 1 _ E.2.2.1 E.1) O E ?_)
  intro z Q E
  refine ⟨E.2, ?_⟩
  refine zG ?_
  refine SW O O O O O (fun w e => EU (c := true) O O O (by rw [UI f]; rfl)) ?_
  refine zG ?_
  refine V O O (DN O O) ?_
  refine V O O (CN O O E.2.1 O O) ?_
  refine zG ?_
  refine EF O (JZ PI O (lK _ x.num _ (e3 E) (Fits.mono Fx.1 AE)) O E ?_)
  intro y P E
  refine zG ?_
  exact ⟨vF f, e4 E⟩
 refine zG ?_
 refine sE E [0,1,2,3,4] ?_
 replace E := E.drew
 refine SW O O O O O (fun w e => DD O O) ?_
 refine SW O O O O O (fun w e => CN O O (e.1) O O) ?_
 refine zG ?_
 refine GZ (o := ⟨some 5, _, _, _, _, _⟩) O O O O (CH FQ O (VN 1 _ AE AE) O E ?_)
 intro u G D N E
 refine ⟨E.2, ?_⟩
 refine zG ?_
 refine GZ (o := ⟨some 6, _, _, _, _, _⟩) O O O O (CE QK O (uQ _ ((x.den : Nat) : Int) _ 1 _ E.2.2.1 E.1) O E ?_)
 intro t L E
 refine ⟨E.2, ?_⟩
 refine zG ?_
 refine SW O O O O O (fun w e => EU (c := false) O O O (Qm f)) ?_
 refine zG ?_
 refine sE E [0,1,4,5,2,3,6,7,8] ?_
 replace E := E.drew
 refine SW O O O O O (fun w e => DN O O) ?_
 refine SW O O O O O (fun w e => CN O O (e.2.1) O O) ?_
 refine SW O O O O O (fun w e => DD O O) ?_
 refine SW O O O O O (fun w e => CN O O (e.2.1) O O) ?_
 refine zG ?_
 refine GZ (o := ⟨some 13, _, _, _, _, _⟩) O O O O (JZ PI O (lK _ x.num _ (e3 E) (Fits.mono Fx.1 AE)) O E ?_)
 intro q J E
 refine ⟨E, ?_⟩
 refine zG ?_
 refine SW (v := .string (MC x.num ++ ⟨#[47]⟩)) O O O O O (fun w e => TY O O O (Lr Fx.1)) ?_
 refine zG ?_
 refine GZ (o := ⟨some 17, _, _, _, _, _⟩) O O O O (JZ PI O (lK _ ((x.den : Nat) : Int) _ E.2.2.1 (Fits.mono Fx.2 AE)) O E ?_)
 intro p I E
 refine ⟨E, ?_⟩
 refine zG ?_
 refine SW (v := .string (MC x.num ++ ⟨#[47]⟩ ++ MC ((x.den : Nat) : Int))) O O O O O (fun w e => TY O O O (Lq Fx.1 Fx.2)) ?_
 refine zG ?_
 exact ⟨vE f, e4 E⟩
theorem lst {t : ByteArray} (h : s = t) : s.data.toList = t.data.toList := by rw [h]
theorem Jt {a b : ByteArray} {c : UInt8} (h : s.data.toList = a.data.toList ++ c :: b.data.toList) : a.size + b.size + 1 = s.size := by
 rw [Lib.size_eq, Lib.size_eq, Lib.size_eq, h, List.length_append, List.length_cons]; omega
theorem Zz (h : (47 : UInt8) ∈ s.data.toList) : ∃ A B : ByteArray, s.data.toList = A.data.toList ++ 47 :: B.data.toList /\ (47 : UInt8) ∉ A.data.toList := by
 obtain ⟨a, b, e1, e2⟩ := Vp h
 exact ⟨⟨a.toArray⟩, ⟨b.toArray⟩, by simpa using e1, by simpa using e2⟩
theorem mX (h : ¬ DW l = none) : ∃ n, DW l = some n := by
 cases e : DW l with
 | none => exact absurd e h
 | some n => exact ⟨n, rfl⟩
theorem Yz {n : Int} (ha : DW l = some n) : l = (KD (Rat.divInt n 1)).data.toList := by
 obtain ⟨e1, e2⟩ := sB (vD n)
 rw [IT, e1, e2, if_pos rfl, MJ ha]
theorem Gy (s : ByteArray) (w : World) :
 Calls prog 89 #[.string s] w (ParQ w (RetPE w) s) := by
 have E := Env.start w
 go_enter func89, ntmps89
 refine zG ?_
 refine EF O (CB GP O ?_)
 intro t w1 e1 z1 d1 f
 have l1 : w.heap.size <= t := by rw [e1]; exact E.1.size
 replace E := E.below d1
 clear e1
 by_cases h4 : 4000 < s.size
 . refine zG ?_
   refine V (v := .agg #[.bool false, .slice none 0 0, .bool false, .slice none 0 0]) O O (OJ O) ?_
   refine zG ?_
   refine EF O (BY GP O O O f O O (LR OQ OQ) ?_)
   intro w3 o3 y3
   replace E := (E.onl (f.noW (QC FV FV)) zK o3).x y3
   have r1 := DA GP E.1 rfl
   refine zG ?_
   exact AQ (v := .tuple #[.agg #[.bool false, .slice none 0 0, .bool false, .slice none 0 0], .int .i64 2]) Yeo O (.big h4 ⟨_, _, _, _, O, LZ _, LZ _, E.2.1⟩)
 by_cases q : (47 : UInt8) ∈ s.data.toList
 case neg =>
  by_cases u : DW s.data.toList = none
  case pos =>
   refine zG ?_
   refine EF O (JF WK O (Rv s 47 _ q) O E ?_)
   intro ey d9 E
   replace f := f.below d9
   refine zG ?_
   refine EF O (DV DK O (WU s _ AA u) O E ?_)
   intro ex gc g8 d5 E
   replace f := f.below d5
   refine zG ?_
   refine EF O (CB GD O ?_)
   intro du ew ad eb al B
   have co : t < du := by rw [ad]; exact Bx.lt (f)
   replace E := E.below al
   replace f := Bx.below f al
   clear ad
   refine zG ?_
   refine EF O (BY GD O O O B O O (IsI.one E.1) ?_)
   intro ev U bb
   replace E := oB E B U bb
   replace f := Bx.onl f AA U
   refine zG ?_
   refine V (v := .agg #[.bool false, .slice none 0 0, .bool false, .slice none 0 0]) O O (OJ O) ?_
   refine zG ?_
   refine EF O (BY GP O O O f O O (LR OQ OQ) ?_)
   intro eu ca ba
   replace E := (E.onl (f.noW (QC FV FV)) zK ca).x ba
   have r1 := DA GP E.1 rfl
   refine zG ?_
   exact AQ (v := .tuple #[.agg #[.bool false, .slice none 0 0, .bool false, .slice none 0 0], .int .i64 3]) Yeo O (.form AA (fun x e => Ej q u x (lst e)) ⟨_, _, _, _, O, LZ _, LZ _, e3 E⟩)
  obtain ⟨n, l⟩ := mX u
  have Fn : Fits n 4000 := OK YHM l
  refine zG ?_
  refine EF O (JF WK O (Rv s 47 _ q) O E ?_)
  intro et d4 E
  replace f := f.below d4
  refine zG ?_
  refine EF O (DV DK O (LA s n _ AA l) O E ?_)
  intro es gb g7 d3 E
  replace f := f.below d3
  refine zG ?_
  refine EF O (CB GD O ?_)
  intro dt er ac ea ak z
  have cn : t < dt := by rw [ac]; exact Bx.lt (f)
  replace E := E.below ak
  replace f := Bx.below f ak
  clear ac
  refine zG ?_
  refine EF O (BY GD O O O z O O (IsI.one E.1) ?_)
  intro ep T b9
  replace E := oB E z T b9
  replace f := Bx.onl f AA T
  refine zG ?_
  refine EF O (CV UE O (Dl _ n _ E.2.1) O E ?_)
  intro eo cg bv cm bu d2 E
  replace f := f.below d2
  refine zG ?_
  refine EF O (BY GP O O O f O O (LR (IsI.one E.2.1) (IsI.one E.1)) ?_)
  intro en c9 b7
  replace E := (E.onl (f.noW (QC FV FV)) zK c9).x b7
  have r1 := DA GP E.1 rfl
  refine zG ?_
  exact AQ (v := .tuple #[.agg #[.bool cg, bv, .bool cm, bu], .int .i64 0]) Yeo O (.ok _ AA (cD (Nj l)) ⟨_, _, _, _, O, E.2.2.1, E.2.1, e5 E⟩)
 obtain ⟨SA, o, k, h⟩ := Zz q
 have gg := Jt k
 by_cases u : DW SA.data.toList = none
 case pos =>
  refine zG ?_
  refine EF O (JF WK O (gO s SA o 47 _ k h AA) O E ?_)
  intro w6 d6 E
  replace f := f.below d6
  refine zG ?_
  refine EF O (DV DK O (WU SA _ AA u) O E ?_)
  intro w7 n7 s7 d7 E
  replace f := f.below d7
  refine zG ?_
  refine EF O (CB GD O ?_)
  intro b8 w8 e8 z8 d8 x8
  have dz : t < b8 := by rw [e8]; exact Bx.lt (f)
  replace E := E.below d8
  replace f := Bx.below f d8
  clear e8
  refine zG ?_
  refine EF O (BY GD O O O x8 O O (IsI.one E.1) ?_)
  intro w9 o9 y9
  replace E := oB E x8 o9 y9
  replace f := Bx.onl f AA o9
  refine zG ?_
  refine V (v := .agg #[.bool false, .slice none 0 0, .bool false, .slice none 0 0]) O O (OJ O) ?_
  refine zG ?_
  refine EF O (BY GP O O O f O O (LR OQ OQ) ?_)
  intro g6 cf bt
  replace E := (E.onl (f.noW (QC FV FV)) zK cf).x bt
  have r1 := DA GP E.1 rfl
  refine zG ?_
  exact AQ (v := .tuple #[.agg #[.bool false, .slice none 0 0, .bool false, .slice none 0 0], .int .i64 3]) Yeo O (.form AA (fun x e => Em (b := o.data.toList) h u x (k.symm.trans (lst e))) ⟨_, _, _, _, O, LZ _, LZ _, e3 E⟩)
 obtain ⟨n, l⟩ := mX u
 have Fn : Fits n 4000 := OK YHM l
 by_cases hq : DW o.data.toList = none
 case pos =>
  refine zG ?_
  refine EF O (JF WK O (gO s SA o 47 _ k h AA) O E ?_)
  intro g5 ds E
  replace f := f.below ds
  refine zG ?_
  refine EF O (DV DK O (LA SA n _ AA l) O E ?_)
  intro g4 gf ga dr E
  replace f := f.below dr
  refine zG ?_
  refine EF O (CB GD O ?_)
  intro b6 g3 iI em ay Q
  have d0 : t < b6 := by rw [iI]; exact Bx.lt (f)
  replace E := E.below ay
  replace f := Bx.below f ay
  clear iI
  refine zG ?_
  refine EF O (BY GD O O O Q O O (IsI.one E.1) ?_)
  intro g2 a9 br
  replace E := oB E Q a9 br
  replace f := Bx.onl f AA a9
  refine zG ?_
  refine EF O (DV DK O (WU o _ AA hq) O E ?_)
  intro g1 ge g9 dq E
  replace f := f.below dq
  refine zG ?_
  refine EF O (CB GD O ?_)
  intro dy g0 Xl el ax P
  have cz : b6 < dy := by rw [Xl]; exact Bx.lt E.2.1
  replace E := E.below ax
  replace f := Bx.below f ax
  clear Xl
  refine zG ?_
  refine EF O (BY GD O O O P O O (IsI.one E.1) ?_)
  intro fz a8 bq
  replace E := oB E P a8 bq
  replace f := Bx.onl f AA a8
  refine zG ?_
  refine V (v := .agg #[.bool false, .slice none 0 0, .bool false, .slice none 0 0]) O O (OJ O) ?_
  refine zG ?_
  refine EF O (BY GP O O O f O O (LR OQ OQ) ?_)
  intro fy ce bp
  replace E := (E.onl (f.noW (QC FV FV)) zK ce).x bp
  have r1 := DA GP E.1 rfl
  refine zG ?_
  exact AQ (v := .tuple #[.agg #[.bool false, .slice none 0 0, .bool false, .slice none 0 0], .int .i64 3]) Yeo O (.form AA (fun x e => Ek h hq x (k.symm.trans (lst e))) ⟨_, _, _, _, O, LZ _, LZ _, e5 E⟩)
 obtain ⟨d, y⟩ := mX hq
 have Fd : Fits d 4000 := OK YHM y
 by_cases p : ¬ vq n d
 case pos =>
  refine zG ?_
  refine EF O (JF WK O (gO s SA o 47 _ k h AA) O E ?_)
  intro fx dp E
  replace f := f.below dp
  refine zG ?_
  refine EF O (DV DK O (LA SA n _ AA l) O E ?_)
  intro fw ck c1 dn E
  replace f := f.below dn
  refine zG ?_
  refine EF O (CB GD O ?_)
  intro b5 fv Vi ek aw N
  have cy : t < b5 := by rw [Vi]; exact Bx.lt (f)
  replace E := E.below aw
  replace f := Bx.below f aw
  clear Vi
  refine zG ?_
  refine EF O (BY GD O O O N O O (IsI.one E.1) ?_)
  intro fu a7 bo
  replace E := oB E N a7 bo
  replace f := Bx.onl f AA a7
  refine zG ?_
  refine EF O (DV DK O (LA o d _ AA y) O E ?_)
  intro ft cj c0 dm E
  replace f := f.below dm
  refine zG ?_
  refine EF O (CB GD O ?_)
  intro b4 fs e26 ej av L
  have cx : b5 < b4 := by rw [e26]; exact Bx.lt E.2.1
  replace E := E.below av
  replace f := Bx.below f av
  clear e26
  refine zG ?_
  refine EF O (BY GD O O O L O O (IsI.one E.1) ?_)
  intro fr a6 bn
  replace E := oB E L a6 bn
  replace f := Bx.onl f AA a6
  refine zG ?_
  refine V (v := .agg #[.bool ck, c1, .bool cj, c0]) O O (KR O O O) ?_
  refine zG ?_
  refine EF O (CB GP O ?_)
  intro dx fq e28 ei au J
  have cw : b4 < dx := by rw [e28]; exact Bx.lt E.1
  replace E := E.below au
  replace f := Bx.below f au
  clear e28
  refine zG ?_
  refine EF O (BY GP O O O J O O (LR (IsI.one (e3 E)) (IsI.one E.2.1)) ?_)
  intro fp a4 bm
  replace E := (E.onl (J.noW (QC FV FV)) zK a4).x bm
  replace f := Bx.onl f AA a4
  refine zG ?_
  refine V O O (CY GP O O E.1 O) ?_
  refine zG ?_
  refine EF O (CA LW O (CU (decide_eq_false p) (fZ _ _ _ _ n d _ (e4 E) E.2.2.1 (Fits.mono Fn AE) (Fits.mono Fd AE))) O E ?_)
  intro fo dl E
  replace f := f.below dl
  refine zG ?_
  refine V (v := .agg #[.bool false, .slice none 0 0, .bool false, .slice none 0 0]) O O (OJ O) ?_
  refine zG ?_
  refine EF O (BY GP O O O f O O (LR OQ OQ) ?_)
  intro fn cd bl
  replace E := (E.onl (f.noW (QC FV FV)) zK cd).x bl
  have r1 := DA GP E.1 rfl
  refine zG ?_
  exact AQ (v := .tuple #[.agg #[.bool false, .slice none 0 0, .bool false, .slice none 0 0], .int .i64 3]) Yeo O (.form AA (fun x e => sX h l y (.inl p) x (k.symm.trans (lst e))) ⟨_, _, _, _, O, LZ _, LZ _, e6 E⟩)
 replace p := Decidable.not_not.1 p
 by_cases h1 : d = 1
 case neg =>
  refine zG ?_
  refine EF O (JF WK O (gO s SA o 47 _ k h AA) O E ?_)
  intro fa de E
  replace f := f.below de
  refine zG ?_
  refine EF O (DV DK O (LA SA n _ AA l) O E ?_)
  intro f9 ab S dd E
  replace f := f.below dd
  refine zG ?_
  refine EF O (CB GD O ?_)
  intro b0 f8 ag ee ao F
  have cr : t < b0 := by rw [ag]; exact Bx.lt (f)
  replace E := E.below ao
  replace f := Bx.below f ao
  clear ag
  refine zG ?_
  refine EF O (BY GD O O O F O O (IsI.one E.1) ?_)
  intro f7 a0 bg
  replace E := oB E F a0 bg
  replace f := Bx.onl f AA a0
  refine zG ?_
  refine EF O (DV DK O (LA o d _ AA y) O E ?_)
  intro f6 aa R dc E
  replace f := f.below dc
  refine zG ?_
  refine EF O (CB GD O ?_)
  intro az f5 af ed an D
  have cq : b0 < az := by rw [af]; exact Bx.lt E.2.1
  replace E := E.below an
  replace f := Bx.below f an
  clear af
  refine zG ?_
  refine EF O (BY GD O O O D O O (IsI.one E.1) ?_)
  intro f4 Y bf
  replace E := oB E D Y bf
  replace f := Bx.onl f AA Y
  refine zG ?_
  refine V (v := .agg #[.bool ab, S, .bool aa, R]) O O (KR O O O) ?_
  refine zG ?_
  refine EF O (CB GP O ?_)
  intro dv f3 ae ec am C
  have cp : az < dv := by rw [ae]; exact Bx.lt E.1
  replace E := E.below am
  replace f := Bx.below f am
  clear ae
  refine zG ?_
  refine EF O (BY GP O O O C O O (LR (IsI.one (e3 E)) (IsI.one E.2.1)) ?_)
  intro f2 X bd
  replace E := (E.onl (C.noW (QC FV FV)) zK X).x bd
  replace f := Bx.onl f AA X
  refine zG ?_
  refine V O O (CY GP O O E.1 O) ?_
  refine zG ?_
  refine EF O (CA LW O (CU (decide_eq_true p) (fZ _ _ _ _ n d _ (e4 E) E.2.2.1 (Fits.mono Fn AE) (Fits.mono Fd AE))) O E ?_)
  intro f1 db E
  replace f := f.below db
  refine zG ?_
  refine EF O (CA DT O (CU (decide_eq_false h1) (LU _ d _ E.2.2.1)) O E ?_)
  intro f0 da E
  replace f := f.below da
  refine zG ?_
  refine V O O (CY GP O O E.1 O) ?_
  refine zG ?_
  refine EF O (BY GP O O O f O O (LR (IsI.one (e4 E)) (IsI.one E.2.2.1)) ?_)
  intro ez cb bc
  replace E := (E.onl (f.noW (QC FV FV)) zK cb).x bc
  have r1 := DA GP E.1 rfl
  refine zG ?_
  exact AQ (v := .tuple #[.agg #[.bool ab, S, .bool aa, R], .int .i64 0]) Yeo O (.ok (Rat.divInt n d) AA (cD (k.trans (Xc l y p h1))) ⟨_, _, _, _, O, WO (sB p).1.symm (e5 E), WO (sB p).2.symm (e3 E), e6 E⟩)
 refine zG ?_
 refine EF O (JF WK O (gO s SA o 47 _ k h AA) O E ?_)
 intro fm dk E
 replace f := f.below dk
 refine zG ?_
 refine EF O (DV DK O (LA SA n _ AA l) O E ?_)
 intro fl ci bx dj E
 replace f := f.below dj
 refine zG ?_
 refine EF O (CB GD O ?_)
 intro b3 fk aj eh ar I
 have cv : t < b3 := by rw [aj]; exact Bx.lt (f)
 replace E := E.below ar
 replace f := Bx.below f ar
 clear aj
 refine zG ?_
 refine EF O (BY GD O O O I O O (IsI.one E.1) ?_)
 intro fj a3 bk
 replace E := oB E I a3 bk
 replace f := Bx.onl f AA a3
 refine zG ?_
 refine EF O (DV DK O (LA o d _ AA y) O E ?_)
 intro fi ch bw di E
 replace f := f.below di
 refine zG ?_
 refine EF O (CB GD O ?_)
 intro b2 fh ai eg aq H
 have cu : b3 < b2 := by rw [ai]; exact Bx.lt E.2.1
 replace E := E.below aq
 replace f := Bx.below f aq
 clear ai
 refine zG ?_
 refine EF O (BY GD O O O H O O (IsI.one E.1) ?_)
 intro fg a2 bj
 replace E := oB E H a2 bj
 replace f := Bx.onl f AA a2
 refine zG ?_
 refine V (v := .agg #[.bool ci, bx, .bool ch, bw]) O O (KR O O O) ?_
 refine zG ?_
 refine EF O (CB GP O ?_)
 intro dw ff ah ef ap G
 have ct : b2 < dw := by rw [ah]; exact Bx.lt E.1
 replace E := E.below ap
 replace f := Bx.below f ap
 clear ah
 refine zG ?_
 refine EF O (BY GP O O O G O O (LR (IsI.one (e3 E)) (IsI.one E.2.1)) ?_)
 intro fe a1 bi
 replace E := (E.onl (G.noW (QC FV FV)) zK a1).x bi
 replace f := Bx.onl f AA a1
 refine zG ?_
 refine V O O (CY GP O O E.1 O) ?_
 refine zG ?_
 refine EF O (CA LW O (CU (decide_eq_true p) (fZ _ _ _ _ n d _ (e4 E) E.2.2.1 (Fits.mono Fn AE) (Fits.mono Fd AE))) O E ?_)
 intro fd dh E
 replace f := f.below dh
 refine zG ?_
 refine EF O (CA DT O (CU (decide_eq_true h1) (LU _ d _ E.2.2.1)) O E ?_)
 intro fc dg E
 replace f := f.below dg
 refine zG ?_
 refine V (v := .agg #[.bool false, .slice none 0 0, .bool false, .slice none 0 0]) O O (OJ O) ?_
 refine zG ?_
 refine EF O (BY GP O O O f O O (LR OQ OQ) ?_)
 intro fb cc bh
 replace E := (E.onl (f.noW (QC FV FV)) zK cc).x bh
 have r1 := DA GP E.1 rfl
 refine zG ?_
 exact AQ (v := .tuple #[.agg #[.bool false, .slice none 0 0, .bool false, .slice none 0 0], .int .i64 3]) Yeo O (.form AA (fun x e => sX h l y (.inr h1) x (k.symm.trans (lst e))) ⟨_, _, _, _, O, LZ _, LZ _, e6 E⟩)
end Go.Proofs.YtmppigbbkjepiaaGreatDoor
