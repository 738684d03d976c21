/- Helping facts of Rat2; no other conditions. -/
import Derived.Test.YtmppigbbkjepiaaGreatDoorSameQ
import Derived.Test.YtmppigbbkjepiaaGreatDoorMulM
import Derived.Test.YtmppigbbkjepiaaGreatDoorShelf
set_option maxHeartbeats 8000000
set_option maxRecDepth 100000
namespace Go.Proofs.YtmppigbbkjepiaaGreatDoor
open Go.Proofs.Tryz
open Go.RowKit W
variable {a b l : List UInt8} {i : Nat} {p : Prop} {q z : Int} {s : ByteArray} {x : Rat}
theorem YHM (h : p := by rw [<- Lib.size_eq]; omega) : p := h
theorem Yeo (h : p := by simp [results, results89, asAddr, r1]) : p := h
theorem YHy (h : p := by simp [results, results111, asAddr, r1]) : p := h
theorem Z0g (h : p := by
 intro j1 k9 jx kt E
 have aw := E.2.1
 refine zG ?_
 replace E := QP E
 refine zG ?_
 refine EF O (BY EC O O O aw O O (IsI.one E.1) ?_)
 intro j0 el da
 replace E := oB E aw el da
 refine zG ?_
 refine V (v := .agg #[.bool false, .slice none 0 0, .bool false, .slice none 0 0]) O O (GQ O) ?_
 have av := e5 E
 replace E := Lu E
 refine zG ?_
 refine EF O (BY EY O O O av O O (IF GB GB) ?_)
 intro iz ek d7
 replace E := (E.onl (av.noW (LM EZ EZ)) zK ek).x d7
 have r1 := CL EY E.1 rfl
 refine zG ?_
 exact AQ (v := .tuple #[.agg #[.bool false, .slice none 0 0, .bool false, .slice none 0 0], .int .i64 3]) YHy O (.form AA (fun x e => lV (b := l.data.toList) k u x (f.symm.trans (lst e))) ⟨_, _, _, _, O, DF _, DF _, e6 E⟩)
 ) : p := h
theorem ZTa (h : p := by
 rcases MC z with ⟨_, e⟩ | ⟨_, e⟩ | ⟨g, _⟩
 . rw [e]; rfl
 . rw [e]; rfl
 . omega
 ) : p := h
theorem Ex (h : z <= 0) : decide (OY z <= 0) = true := by
 exact ZTa
theorem wR (h : 0 < z) : decide (OY z <= 0) = false := by rw [UG h]; rfl
theorem Tn (h : z <= 0) : decide (OY z < 1) = true := by
 exact ZTa
theorem Mz (h : 0 < z) : decide (OY z < 1) = false := by rw [UG h]; rfl
instance vqDec (n d : Int) : Decidable (vq n d) := by unfold vq; infer_instance
theorem Xm {p : Int} (h : q <= 0) : false = decide (vq p q) := by rw [eq_comm, decide_eq_false_iff_not]; intro g; have := g.1; omega
theorem Yk {p : Int} (h : q = 1) : true = decide (vq p q) := by subst h; rw [eq_comm, decide_eq_true_eq]; exact ZS p
theorem Ly {p : Int} (h : 0 < q) : decide (((Nat.gcd p.natAbs q.natAbs : Nat) : Int) = 1) = decide (vq p q) := by
 rw [decide_eq_decide]
 exact ⟨fun e => ⟨h, by omega⟩, fun e => by have := e.2; omega⟩
theorem Ta {p : Int} (h : 0 < q) : (JR ((Nat.gcd p.natAbs q.natAbs : Nat) : Int) 1 == 0) = decide (vq p q) := by
 rw [<- Ly h]
 unfold JR
 split
 . rename_i g; rw [decide_eq_false AA]; rfl
 split
 . rename_i g; rw [decide_eq_true g]; rfl
 rename_i g; rw [decide_eq_false g]; rfl
theorem iD (na : Bool) (sa : Value) (ma : Bool) (ta : Value) (p q : Int) (w : World) (hna : IsI w (.agg #[.bool na, sa]) p) (hda : IsI w (.agg #[.bool ma, ta]) q) (Fp : Fits p 900000000) (Fq : Fits q 900000000) :
 Calls prog 80 #[.agg #[.bool na, sa, .bool ma, ta]] w (LN w (decide (vq p q))) := by
 have E := Env.start w
 replace E := (E.i hna).i hda
 go_enter func80, ntmps80
 refine zG ?_
 refine EF O (CM (cs := [.bool na, sa, .bool ma, ta]) O O ?_)
 intro b1 N e1 B y h
 replace E := E.below y
 clear e1
 replace E := E.x h
 by_cases e : q <= 0
 case pos =>
  refine zG ?_
  refine V O O (DU O O) ?_
  refine V O O (CN O O E.1 O O) ?_
  refine zG ?_
  refine EF O (CA NY O (mL _ p _ E.2.2.1) O E ?_)
  intro L Y E
  refine zG ?_
  refine V Z O (DD O O) ?_
  refine V Z O (CN O O E.1 O O) ?_
  refine zG ?_
  refine EF O (CA NY O (mL _ q _ E.2.1) O E ?_)
  intro J X E
  refine zG ?_
  refine V Z O (DD O O) ?_
  refine zG ?_
  refine V Z O (CN O O E.1 O O) ?_
  refine zG ?_
  refine EF O (CB TE O (pR _ q _ E.2.1) O E ?_)
  intro I U E
  refine zG ?_
  refine V Z O (RI (c := true) O O O (Ex e)) ?_
  refine zG ?_
  exact ⟨UL (Xm e), e3 E⟩
 replace e : 0 < q := by omega
 refine zG ?_
 refine V O O (DU O O) ?_
 refine V O O (CN O O E.1 O O) ?_
 refine zG ?_
 refine EF O (CA NY O (mL _ p _ E.2.2.1) O E ?_)
 intro H T E
 refine zG ?_
 refine V Z O (DD O O) ?_
 refine V Z O (CN O O E.1 O O) ?_
 refine zG ?_
 refine EF O (CA NY O (mL _ q _ E.2.1) O E ?_)
 intro G S E
 refine zG ?_
 refine V Z O (DD O O) ?_
 refine zG ?_
 refine V Z O (CN O O E.1 O O) ?_
 refine zG ?_
 refine EF O (CB TE O (pR _ q _ E.2.1) O E ?_)
 intro F R E
 refine zG ?_
 refine V Z O (RI (c := false) O O O (wR e)) ?_
 by_cases f : q = 1
 . refine zG ?_
   refine V O O (DD O O) ?_
   refine V O O (CN O O E.1 O O) ?_
   refine zG ?_
   refine EF O (CA EB O (CT (decide_eq_true f) (MW _ q _ E.2.1)) O E ?_)
   intro D Q E
   refine zG ?_
   exact ⟨UL (Yk f), e3 E⟩
 refine zG ?_
 refine V O O (DD O O) ?_
 refine V O O (CN O O E.1 O O) ?_
 refine zG ?_
 refine EF O (CA EB O (CT (decide_eq_false f) (MW _ q _ E.2.1)) O E ?_)
 intro C P E
 refine zG ?_
 refine V Z O (DU O O) ?_
 refine V Z O (CN O O E.1 O O) ?_
 refine V Z O (DD O O) ?_
 refine zG ?_
 refine V Z O (CN O O E.1 O O) ?_
 refine zG ?_
 refine EF O (CH oP O (Gcd_z _ _ p q _ E.2.2.1 E.2.1 (Fits.mono Fp AE) (Fits.mono Fq AE)) O E ?_)
 intro l t o v E
 refine zG ?_
 refine EF O (CA EB O (MW _ ((Nat.gcd p.natAbs q.natAbs : Nat) : Int) _ E.1) O E ?_)
 intro k u E
 refine zG ?_
 exact ⟨UL (Ly e), e4 E⟩
theorem bZ (na : Bool) (sa : Value) (ma : Bool) (ta : Value) (p q : Int) (w : World) (hna : IsI w (.agg #[.bool na, sa]) p) (hda : IsI w (.agg #[.bool ma, ta]) q) (Fp : Fits p 900000000) (Fq : Fits q 900000000) :
 Calls prog 108 #[.agg #[.bool na, sa, .bool ma, ta]] w (LN w (decide (vq p q))) := by
 have E := Env.start w
 replace E := (E.i hna).i hda
 go_enter func108, ntmps108
 refine zG ?_
 refine EF O (CM (cs := [.bool na, sa, .bool ma, ta]) O O ?_)
 intro Y J e1 y v f
 replace E := E.below v
 clear e1
 replace E := E.x f
 by_cases e : q <= 0
 case pos =>
  refine zG ?_
  refine V O O (DU O O) ?_
  refine V O O (CN O O E.1 O O) ?_
  refine zG ?_
  refine EF O (CA OV O (iE _ p _ E.2.2.1) O E ?_)
  intro I X E
  refine zG ?_
  refine V Z O (DD O O) ?_
  refine V Z O (CN O O E.1 O O) ?_
  refine zG ?_
  refine EF O (CA OV O (iE _ q _ E.2.1) O E ?_)
  intro H U E
  refine zG ?_
  refine V Z O (DD O O) ?_
  refine zG ?_
  refine V Z O (CN O O E.1 O O) ?_
  refine zG ?_
  refine EF O (CB NP O (iF _ q _ E.2.1) O E ?_)
  intro G T E
  refine zG ?_
  refine V Z O (HY (c := true) O O O (Tn e)) ?_
  refine zG ?_
  exact ⟨UL (Xm e), e3 E⟩
 replace e : 0 < q := by omega
 refine zG ?_
 refine V O O (DU O O) ?_
 refine V O O (CN O O E.1 O O) ?_
 refine zG ?_
 refine EF O (CA OV O (iE _ p _ E.2.2.1) O E ?_)
 intro F S E
 refine zG ?_
 refine V Z O (DD O O) ?_
 refine V Z O (CN O O E.1 O O) ?_
 refine zG ?_
 refine EF O (CA OV O (iE _ q _ E.2.1) O E ?_)
 intro D R E
 refine zG ?_
 refine V Z O (DD O O) ?_
 refine zG ?_
 refine V Z O (CN O O E.1 O O) ?_
 refine zG ?_
 refine EF O (CB NP O (iF _ q _ E.2.1) O E ?_)
 intro C Q E
 refine zG ?_
 refine V Z O (HY (c := false) O O O (Mz e)) ?_
 refine zG ?_
 refine V O O (DU O O) ?_
 refine V O O (CN O O E.1 O O) ?_
 refine V O O (DD O O) ?_
 refine V O O (CN O O E.1 O O) ?_
 refine zG ?_
 refine EF O (CH cT O (Sj _ p _ q _ E.2.2.1 E.2.1 (Fits.mono Fp AE) (Fits.mono Fq AE)) O E ?_)
 intro B N L P E
 refine zG ?_
 refine EF O (CH ED O (OM 1 _ AE AE) O E ?_)
 intro k o l u E
 refine zG ?_
 refine EF O (CB RN O (vR _ ((Nat.gcd p.natAbs q.natAbs : Nat) : Int) _ 1 _ E.2.1 E.1) O E ?_)
 intro h t E
 refine zG ?_
 refine V O O (EK (c := (JR ((Nat.gcd p.natAbs q.natAbs : Nat) : Int) 1 == 0)) O O O O) ?_
 refine zG ?_
 exact ⟨UL (Ta e), e5 E⟩
theorem wE (h : ((x.den : Nat) : Int) = 1) : Ending.returned (.string (NT x.num)) = .returned (.string (NF x)) := by unfold NF; rw [if_pos h]
theorem wD (h : ¬ ((x.den : Nat) : Int) = 1) : Ending.returned (.string (NT x.num ++ ⟨#[47]⟩ ++ NT ((x.den : Nat) : Int))) = .returned (.string (NF x)) := by unfold NF; rw [if_neg h]
theorem Mw (h : Fits z 1000000) : (NT z).size + (⟨#[47]⟩ : ByteArray).size <= 9223372036854775807 := by
 have := eW h AE; have : (⟨#[47]⟩ : ByteArray).size = 1 := rfl; omega
theorem Mv {y : Int} (h : Fits z 1000000) (g : Fits y 1000000) : (NT z ++ ⟨#[47]⟩).size + (NT y).size <= 9223372036854775807 := by
 have := eW h AE; have := eW g AE; have : (⟨#[47]⟩ : ByteArray).size = 1 := rfl
 rw [ByteArray.size_append]; omega
theorem D6 (na : Bool) (sa : Value) (ma : Bool) (ta : Value) (x : Rat) (w : World) (hna : IsI w (.agg #[.bool na, sa]) x.num) (hda : IsI w (.agg #[.bool ma, ta]) ((x.den : Nat) : Int)) (Fx : FitQ x 1000000) :
 Calls prog 132 #[.agg #[.bool na, sa, .bool ma, ta]] w (D9 w (NF x)) := by
 have E := Env.start w
 replace E := (E.i hna).i hda
 go_enter func132, ntmps132
 refine zG ?_
 refine EF O (CM (cs := [.bool na, sa, .bool ma, ta]) O O ?_)
 intro I B e1 l k h
 replace E := E.below k
 clear e1
 replace E := E.x h
 by_cases f : ((x.den : Nat) : Int) = 1
 case pos =>
  refine zG ?_
  refine V O O (DD O O) ?_
  refine V O O (CN O O E.1 O O) ?_
  refine zG ?_
  refine EF O (CA EB O (CT (decide_eq_true f) (MW _ ((x.den : Nat) : Int) _ E.2.1)) O E ?_)
  intro y H E
  refine zG ?_
  refine V O O (DU O O) ?_
  refine V O O (CN O O E.1 O O) ?_
  refine zG ?_
  refine EF O (KZ TD O (Du _ x.num _ E.2.2.1 (Fits.mono Fx.1 AE)) O E ?_)
  intro u G E
  refine zG ?_
  exact ⟨wE f, e3 E⟩
 refine zG ?_
 refine V O O (DD O O) ?_
 refine V O O (CN O O E.1 O O) ?_
 refine zG ?_
 refine EF O (CA EB O (CT (decide_eq_false f) (MW _ ((x.den : Nat) : Int) _ E.2.1)) O E ?_)
 intro t F E
 refine zG ?_
 refine sE E [0,1,4,5,2,3,6,7,8] ?_
 replace E := E.drew
 refine SW O O O O O (fun w e => DU O O) ?_
 refine SW O O O O O (fun w e => CN O O (e.1) O O) ?_
 refine SW O O O O O (fun w e => DD O O) ?_
 refine SW O O O O O (fun w e => CN O O (e.1) O O) ?_
 refine zG ?_
 refine GG (o := ⟨some 11, _, _, _, _, _⟩) O O O O (KZ TD O (Du _ x.num _ E.2.2.1 (Fits.mono Fx.1 AE)) O E ?_)
 intro q D E
 refine ⟨E, ?_⟩
 refine zG ?_
 refine SW (v := .string (NT x.num ++ ⟨#[47]⟩)) O O O O O (fun w e => VQ O O O (Mw Fx.1)) ?_
 refine zG ?_
 refine GG (o := ⟨some 15, _, _, _, _, _⟩) O O O O (KZ TD O (Du _ ((x.den : Nat) : Int) _ E.2.1 (Fits.mono Fx.2 AE)) O E ?_)
 intro p C E
 refine ⟨E, ?_⟩
 refine zG ?_
 refine SW (v := .string (NT x.num ++ ⟨#[47]⟩ ++ NT ((x.den : Nat) : Int))) O O O O O (fun w e => VQ O O O (Mv Fx.1 Fx.2)) ?_
 refine zG ?_
 exact ⟨wD f, e3 E⟩
theorem Ro {x : Int} (h : ¬ x = 1) : (JR x 1 == 0) = false := by
 unfold JR; (repeat' split) <;> first | rfl | exact absurd (by assumption) h
theorem mO (na : Bool) (sa : Value) (ma : Bool) (ta : Value) (x : Rat) (w : World) (hna : IsI w (.agg #[.bool na, sa]) x.num) (hda : IsI w (.agg #[.bool ma, ta]) ((x.den : Nat) : Int)) (Fx : FitQ x 1000000) :
 Calls prog 153 #[.agg #[.bool na, sa, .bool ma, ta]] w (D9 w (NF x)) := by
 have E := Env.start w
 replace E := (E.i hna).i hda
 go_enter func153, ntmps153
 refine zG ?_
 refine EF O (CM (cs := [.bool na, sa, .bool ma, ta]) O O ?_)
 intro T D e1 l k h
 replace E := E.below k
 clear e1
 replace E := E.x h
 by_cases f : ((x.den : Nat) : Int) = 1
 case pos =>
  refine zG ?_
  refine sE E [0,1,2,3,4] ?_
  replace E := E.drew
  refine SW O O O O O (fun w e => DD O O) ?_
  refine SW O O O O O (fun w e => CN O O (e.1) O O) ?_
  refine zG ?_
  refine GG (o := ⟨some 5, _, _, _, _, _⟩) O O O O (CH ED O (OM 1 _ AE AE) O E ?_)
  intro C I G S E
  refine ⟨E.2, ?_⟩
  refine zG ?_
  refine GG (o := ⟨some 6, _, _, _, _, _⟩) O O O O (CB RN O (vR _ ((x.den : Nat) : Int) _ 1 _ E.2.2.1 E.1) O E ?_)
  intro B R E
  refine ⟨E.2, ?_⟩
  refine zG ?_
  refine SW O O O O O (fun w e => EK (c := true) O O O (by rw [WF f]; rfl)) ?_
  refine zG ?_
  refine V O O (DU O O) ?_
  refine V O O (CN O O E.2.1 O O) ?_
  refine zG ?_
  refine EF O (KZ QA O (mN _ x.num _ (e3 E) (Fits.mono Fx.1 AE)) O E ?_)
  intro y Q E
  refine zG ?_
  exact ⟨wE f, e4 E⟩
 refine zG ?_
 refine sE E [0,1,2,3,4] ?_
 replace E := E.drew
 refine SW O O O O O (fun w e => DD O O) ?_
 refine SW O O O O O (fun w e => CN O O (e.1) O O) ?_
 refine zG ?_
 refine GG (o := ⟨some 5, _, _, _, _, _⟩) O O O O (CH ED O (OM 1 _ AE AE) O E ?_)
 intro u H F P E
 refine ⟨E.2, ?_⟩
 refine zG ?_
 refine GG (o := ⟨some 6, _, _, _, _, _⟩) O O O O (CB RN O (vR _ ((x.den : Nat) : Int) _ 1 _ E.2.2.1 E.1) O E ?_)
 intro t N E
 refine ⟨E.2, ?_⟩
 refine zG ?_
 refine SW O O O O O (fun w e => EK (c := false) O O O (Ro f)) ?_
 refine zG ?_
 refine sE E [0,1,4,5,2,3,6,7,8] ?_
 replace E := E.drew
 refine SW O O O O O (fun w e => DU O O) ?_
 refine SW O O O O O (fun w e => CN O O (e.2.1) O O) ?_
 refine SW O O O O O (fun w e => DD O O) ?_
 refine SW O O O O O (fun w e => CN O O (e.2.1) O O) ?_
 refine zG ?_
 refine GG (o := ⟨some 13, _, _, _, _, _⟩) O O O O (KZ QA O (mN _ x.num _ (e3 E) (Fits.mono Fx.1 AE)) O E ?_)
 intro q L E
 refine ⟨E, ?_⟩
 refine zG ?_
 refine SW (v := .string (NT x.num ++ ⟨#[47]⟩)) O O O O O (fun w e => VQ O O O (Mw Fx.1)) ?_
 refine zG ?_
 refine GG (o := ⟨some 17, _, _, _, _, _⟩) O O O O (KZ QA O (mN _ ((x.den : Nat) : Int) _ E.2.2.1 (Fits.mono Fx.2 AE)) O E ?_)
 intro p J E
 refine ⟨E, ?_⟩
 refine zG ?_
 refine SW (v := .string (NT x.num ++ ⟨#[47]⟩ ++ NT ((x.den : Nat) : Int))) O O O O O (fun w e => VQ O O O (Mv Fx.1 Fx.2)) ?_
 refine zG ?_
 exact ⟨wD f, e4 E⟩
theorem lst {t : ByteArray} (h : s = t) : s.data.toList = t.data.toList := by rw [h]
theorem sU {a b : ByteArray} {c : UInt8} (h : s.data.toList = a.data.toList ++ c :: b.data.toList) : a.size + b.size + 1 = s.size := by
 rw [Lib.size_eq, Lib.size_eq, Lib.size_eq, h, List.length_append, List.length_cons]; omega
theorem B8 (h : (47 : UInt8) ∈ s.data.toList) : ∃ A B : ByteArray, s.data.toList = A.data.toList ++ 47 :: B.data.toList /\ (47 : UInt8) ∉ A.data.toList := by
 obtain ⟨a, b, e1, e2⟩ := Wi h
 exact ⟨⟨a.toArray⟩, ⟨b.toArray⟩, by simpa using e1, by simpa using e2⟩
theorem UO (h : ¬ DN l = none) : ∃ n, DN l = some n := by
 cases e : DN l with
 | none => exact absurd e h
 | some n => exact ⟨n, rfl⟩
theorem Cj {n : Int} (ha : DN l = some n) : l = (NF (Rat.divInt n 1)).data.toList := by
 obtain ⟨e1, e2⟩ := WK (ZS n)
 rw [NU, e1, e2, if_pos rfl, NI ha]
theorem Hw (s : ByteArray) (w : World) :
 Calls prog 89 #[.string s] w (ParQ w (RetPE w) s) := by
 have E := Env.start w
 go_enter func89, ntmps89
 refine zG ?_
 refine EF O (BZ EY O ?_)
 intro t w1 e1 z1 d1 f
 have l1 : w.heap.size <= t := by rw [e1]; exact E.1.size
 replace E := E.below d1
 clear e1
 by_cases h4 : 4000 < s.size
 . refine zG ?_
   refine V (v := .agg #[.bool false, .slice none 0 0, .bool false, .slice none 0 0]) O O (GQ O) ?_
   refine zG ?_
   refine EF O (BY EY O O O f O O (IF GB GB) ?_)
   intro w3 o3 y3
   replace E := (E.onl (f.noW (LM EZ EZ)) zK o3).x y3
   have r1 := CL EY E.1 rfl
   refine zG ?_
   exact AQ (v := .tuple #[.agg #[.bool false, .slice none 0 0, .bool false, .slice none 0 0], .int .i64 2]) Yeo O (.big h4 ⟨_, _, _, _, O, DF _, DF _, E.2.1⟩)
 by_cases q : (47 : UInt8) ∈ s.data.toList
 case neg =>
  by_cases u : DN s.data.toList = none
  case pos =>
   refine zG ?_
   refine EF O (JU YU O (Sw s 47 _ q) O E ?_)
   intro ez da E
   replace f := f.below da
   refine zG ?_
   refine EF O (CP DR O (ZC s _ AA u) O E ?_)
   intro ey ge g9 d9 E
   replace f := f.below d9
   refine zG ?_
   refine EF O (BZ EC O ?_)
   intro dv ex ad ec al C
   have cp : t < dv := by rw [ad]; exact Bx.lt (f)
   replace E := E.below al
   replace f := Bx.below f al
   clear ad
   refine zG ?_
   refine EF O (BY EC O O O C O O (IsI.one E.1) ?_)
   intro ew X bb
   replace E := oB E C X bb
   replace f := Bx.onl f AA X
   refine zG ?_
   refine V (v := .agg #[.bool false, .slice none 0 0, .bool false, .slice none 0 0]) O O (GQ O) ?_
   refine zG ?_
   refine EF O (BY EY O O O f O O (IF GB GB) ?_)
   intro ev cb ba
   replace E := (E.onl (f.noW (LM EZ EZ)) zK cb).x ba
   have r1 := CL EY E.1 rfl
   refine zG ?_
   exact AQ (v := .tuple #[.agg #[.bool false, .slice none 0 0, .bool false, .slice none 0 0], .int .i64 3]) Yeo O (.form AA (fun x e => tY q u x (lst e)) ⟨_, _, _, _, O, DF _, DF _, e3 E⟩)
  obtain ⟨n, l⟩ := UO u
  have Fn : Fits n 4000 := JE YHM l
  refine zG ?_
  refine EF O (JU YU O (Sw s 47 _ q) O E ?_)
  intro eu d5 E
  replace f := f.below d5
  refine zG ?_
  refine EF O (CP DR O (MA s n _ AA l) O E ?_)
  intro et gc g8 d4 E
  replace f := f.below d4
  refine zG ?_
  refine EF O (BZ EC O ?_)
  intro du es ac eb ak B
  have co : t < du := by rw [ac]; exact Bx.lt (f)
  replace E := E.below ak
  replace f := Bx.below f ak
  clear ac
  refine zG ?_
  refine EF O (BY EC O O O B O O (IsI.one E.1) ?_)
  intro er U b9
  replace E := oB E B U b9
  replace f := Bx.onl f AA U
  refine zG ?_
  refine EF O (CV VY O (Eh _ n _ E.2.1) O E ?_)
  intro ep ch bw cn bv d3 E
  replace f := f.below d3
  refine zG ?_
  refine EF O (BY EY O O O f O O (IF (IsI.one E.2.1) (IsI.one E.1)) ?_)
  intro eo ca b7
  replace E := (E.onl (f.noW (LM EZ EZ)) zK ca).x b7
  have r1 := CL EY E.1 rfl
  refine zG ?_
  exact AQ (v := .tuple #[.agg #[.bool ch, bw, .bool cn, bv], .int .i64 0]) Yeo O (.ok _ AA (WY (Oz l)) ⟨_, _, _, _, O, E.2.2.1, E.2.1, e5 E⟩)
 obtain ⟨SA, o, k, h⟩ := B8 q
 have gh := sU k
 by_cases u : DN SA.data.toList = none
 case pos =>
  refine zG ?_
  refine EF O (JU YU O (iP s SA o 47 _ k h AA) O E ?_)
  intro w6 d6 E
  replace f := f.below d6
  refine zG ?_
  refine EF O (CP DR O (ZC SA _ AA u) O E ?_)
  intro w7 n7 s7 d7 E
  replace f := f.below d7
  refine zG ?_
  refine EF O (BZ EC O ?_)
  intro b8 w8 e8 z8 d8 x8
  have ea : t < b8 := by rw [e8]; exact Bx.lt (f)
  replace E := E.below d8
  replace f := Bx.below f d8
  clear e8
  refine zG ?_
  refine EF O (BY EC O O O x8 O O (IsI.one E.1) ?_)
  intro w9 o9 y9
  replace E := oB E x8 o9 y9
  replace f := Bx.onl f AA o9
  refine zG ?_
  refine V (v := .agg #[.bool false, .slice none 0 0, .bool false, .slice none 0 0]) O O (GQ O) ?_
  refine zG ?_
  refine EF O (BY EY O O O f O O (IF GB GB) ?_)
  intro g7 cg bu
  replace E := (E.onl (f.noW (LM EZ EZ)) zK cg).x bu
  have r1 := CL EY E.1 rfl
  refine zG ?_
  exact AQ (v := .tuple #[.agg #[.bool false, .slice none 0 0, .bool false, .slice none 0 0], .int .i64 3]) Yeo O (.form AA (fun x e => lV (b := o.data.toList) h u x (k.symm.trans (lst e))) ⟨_, _, _, _, O, DF _, DF _, e3 E⟩)
 obtain ⟨n, l⟩ := UO u
 have Fn : Fits n 4000 := JE YHM l
 by_cases hq : DN o.data.toList = none
 case pos =>
  refine zG ?_
  refine EF O (JU YU O (iP s SA o 47 _ k h AA) O E ?_)
  intro g6 dt E
  replace f := f.below dt
  refine zG ?_
  refine EF O (CP DR O (MA SA n _ AA l) O E ?_)
  intro g5 gg gb ds E
  replace f := f.below ds
  refine zG ?_
  refine EF O (BZ EC O ?_)
  intro b6 g4 lB en ay R
  have d2 : t < b6 := by rw [lB]; exact Bx.lt (f)
  replace E := E.below ay
  replace f := Bx.below f ay
  clear lB
  refine zG ?_
  refine EF O (BY EC O O O R O O (IsI.one E.1) ?_)
  intro g3 a9 bt
  replace E := oB E R a9 bt
  replace f := Bx.onl f AA a9
  refine zG ?_
  refine EF O (CP DR O (ZC o _ AA hq) O E ?_)
  intro g2 gf ga dr E
  replace f := f.below dr
  refine zG ?_
  refine EF O (BZ EC O ?_)
  intro dz g1 Vz em ax Q
  have d0 : b6 < dz := by rw [Vz]; exact Bx.lt E.2.1
  replace E := E.below ax
  replace f := Bx.below f ax
  clear Vz
  refine zG ?_
  refine EF O (BY EC O O O Q O O (IsI.one E.1) ?_)
  intro g0 a8 br
  replace E := oB E Q a8 br
  replace f := Bx.onl f AA a8
  refine zG ?_
  refine V (v := .agg #[.bool false, .slice none 0 0, .bool false, .slice none 0 0]) O O (GQ O) ?_
  refine zG ?_
  refine EF O (BY EY O O O f O O (IF GB GB) ?_)
  intro fz cf bq
  replace E := (E.onl (f.noW (LM EZ EZ)) zK cf).x bq
  have r1 := CL EY E.1 rfl
  refine zG ?_
  exact AQ (v := .tuple #[.agg #[.bool false, .slice none 0 0, .bool false, .slice none 0 0], .int .i64 3]) Yeo O (.form AA (fun x e => tZ h hq x (k.symm.trans (lst e))) ⟨_, _, _, _, O, DF _, DF _, e5 E⟩)
 obtain ⟨d, y⟩ := UO hq
 have Fd : Fits d 4000 := JE YHM y
 by_cases p : ¬ vq n d
 case pos =>
  refine zG ?_
  refine EF O (JU YU O (iP s SA o 47 _ k h AA) O E ?_)
  intro fy dq E
  replace f := f.below dq
  refine zG ?_
  refine EF O (CP DR O (MA SA n _ AA l) O E ?_)
  intro fx cm c2 dp E
  replace f := f.below dp
  refine zG ?_
  refine EF O (BZ EC O ?_)
  intro b5 fw Ls el aw P
  have cz : t < b5 := by rw [Ls]; exact Bx.lt (f)
  replace E := E.below aw
  replace f := Bx.below f aw
  clear Ls
  refine zG ?_
  refine EF O (BY EC O O O P O O (IsI.one E.1) ?_)
  intro fv a7 bp
  replace E := oB E P a7 bp
  replace f := Bx.onl f AA a7
  refine zG ?_
  refine EF O (CP DR O (MA o d _ AA y) O E ?_)
  intro fu ck c1 dn E
  replace f := f.below dn
  refine zG ?_
  refine EF O (BZ EC O ?_)
  intro b4 ft A7 ek av N
  have cy : b5 < b4 := by rw [A7]; exact Bx.lt E.2.1
  replace E := E.below av
  replace f := Bx.below f av
  clear A7
  refine zG ?_
  refine EF O (BY EC O O O N O O (IsI.one E.1) ?_)
  intro fs a6 bo
  replace E := oB E N a6 bo
  replace f := Bx.onl f AA a6
  refine zG ?_
  refine V (v := .agg #[.bool cm, c2, .bool ck, c1]) O O (IE O O O) ?_
  refine zG ?_
  refine EF O (BZ EY O ?_)
  intro dy fr e28 ej au L
  have cx : b4 < dy := by rw [e28]; exact Bx.lt E.1
  replace E := E.below au
  replace f := Bx.below f au
  clear e28
  refine zG ?_
  refine EF O (BY EY O O O L O O (IF (IsI.one (e3 E)) (IsI.one E.2.1)) ?_)
  intro fq a5 bn
  replace E := (E.onl (L.noW (LM EZ EZ)) zK a5).x bn
  replace f := Bx.onl f AA a5
  refine zG ?_
  refine V O O (CU EY O O E.1 O) ?_
  refine zG ?_
  refine EF O (CA MX O (CT (decide_eq_false p) (iD _ _ _ _ n d _ (e4 E) E.2.2.1 (Fits.mono Fn AE) (Fits.mono Fd AE))) O E ?_)
  intro fp dm E
  replace f := f.below dm
  refine zG ?_
  refine V (v := .agg #[.bool false, .slice none 0 0, .bool false, .slice none 0 0]) O O (GQ O) ?_
  refine zG ?_
  refine EF O (BY EY O O O f O O (IF GB GB) ?_)
  intro fo ce bm
  replace E := (E.onl (f.noW (LM EZ EZ)) zK ce).x bm
  have r1 := CL EY E.1 rfl
  refine zG ?_
  exact AQ (v := .tuple #[.agg #[.bool false, .slice none 0 0, .bool false, .slice none 0 0], .int .i64 3]) Yeo O (.form AA (fun x e => bS h l y (.inl p) x (k.symm.trans (lst e))) ⟨_, _, _, _, O, DF _, DF _, e6 E⟩)
 replace p := Decidable.not_not.1 p
 by_cases h1 : d = 1
 case neg =>
  refine zG ?_
  refine EF O (JU YU O (iP s SA o 47 _ k h AA) O E ?_)
  intro fb dg E
  replace f := f.below dg
  refine zG ?_
  refine EF O (CP DR O (MA SA n _ AA l) O E ?_)
  intro fa ab T de E
  replace f := f.below de
  refine zG ?_
  refine EF O (BZ EC O ?_)
  intro b0 f9 ag ef ao G
  have ct : t < b0 := by rw [ag]; exact Bx.lt (f)
  replace E := E.below ao
  replace f := Bx.below f ao
  clear ag
  refine zG ?_
  refine EF O (BY EC O O O G O O (IsI.one E.1) ?_)
  intro f8 a1 bh
  replace E := oB E G a1 bh
  replace f := Bx.onl f AA a1
  refine zG ?_
  refine EF O (CP DR O (MA o d _ AA y) O E ?_)
  intro f7 aa S dd E
  replace f := f.below dd
  refine zG ?_
  refine EF O (BZ EC O ?_)
  intro az f6 af ee an F
  have cr : b0 < az := by rw [af]; exact Bx.lt E.2.1
  replace E := E.below an
  replace f := Bx.below f an
  clear af
  refine zG ?_
  refine EF O (BY EC O O O F O O (IsI.one E.1) ?_)
  intro f5 a0 bg
  replace E := oB E F a0 bg
  replace f := Bx.onl f AA a0
  refine zG ?_
  refine V (v := .agg #[.bool ab, T, .bool aa, S]) O O (IE O O O) ?_
  refine zG ?_
  refine EF O (BZ EY O ?_)
  intro dw f4 ae ed am D
  have cq : az < dw := by rw [ae]; exact Bx.lt E.1
  replace E := E.below am
  replace f := Bx.below f am
  clear ae
  refine zG ?_
  refine EF O (BY EY O O O D O O (IF (IsI.one (e3 E)) (IsI.one E.2.1)) ?_)
  intro f3 Y bf
  replace E := (E.onl (D.noW (LM EZ EZ)) zK Y).x bf
  replace f := Bx.onl f AA Y
  refine zG ?_
  refine V O O (CU EY O O E.1 O) ?_
  refine zG ?_
  refine EF O (CA MX O (CT (decide_eq_true p) (iD _ _ _ _ n d _ (e4 E) E.2.2.1 (Fits.mono Fn AE) (Fits.mono Fd AE))) O E ?_)
  intro f2 dc E
  replace f := f.below dc
  refine zG ?_
  refine EF O (CA EB O (CT (decide_eq_false h1) (MW _ d _ E.2.2.1)) O E ?_)
  intro f1 db E
  replace f := f.below db
  refine zG ?_
  refine V O O (CU EY O O E.1 O) ?_
  refine zG ?_
  refine EF O (BY EY O O O f O O (IF (IsI.one (e4 E)) (IsI.one E.2.2.1)) ?_)
  intro f0 cc bc
  replace E := (E.onl (f.noW (LM EZ EZ)) zK cc).x bc
  have r1 := CL EY E.1 rfl
  refine zG ?_
  exact AQ (v := .tuple #[.agg #[.bool ab, T, .bool aa, S], .int .i64 0]) Yeo O (.ok (Rat.divInt n d) AA (WY (k.trans (Fk l y p h1))) ⟨_, _, _, _, O, VM (WK p).1.symm (e5 E), VM (WK p).2.symm (e3 E), e6 E⟩)
 refine zG ?_
 refine EF O (JU YU O (iP s SA o 47 _ k h AA) O E ?_)
 intro fn dl E
 replace f := f.below dl
 refine zG ?_
 refine EF O (CP DR O (MA SA n _ AA l) O E ?_)
 intro fm cj c0 dk E
 replace f := f.below dk
 refine zG ?_
 refine EF O (BZ EC O ?_)
 intro b3 fl aj ei ar J
 have cw : t < b3 := by rw [aj]; exact Bx.lt (f)
 replace E := E.below ar
 replace f := Bx.below f ar
 clear aj
 refine zG ?_
 refine EF O (BY EC O O O J O O (IsI.one E.1) ?_)
 intro fk a4 bl
 replace E := oB E J a4 bl
 replace f := Bx.onl f AA a4
 refine zG ?_
 refine EF O (CP DR O (MA o d _ AA y) O E ?_)
 intro fj ci bx dj E
 replace f := f.below dj
 refine zG ?_
 refine EF O (BZ EC O ?_)
 intro b2 fi ai eh aq I
 have cv : b3 < b2 := by rw [ai]; exact Bx.lt E.2.1
 replace E := E.below aq
 replace f := Bx.below f aq
 clear ai
 refine zG ?_
 refine EF O (BY EC O O O I O O (IsI.one E.1) ?_)
 intro fh a3 bk
 replace E := oB E I a3 bk
 replace f := Bx.onl f AA a3
 refine zG ?_
 refine V (v := .agg #[.bool cj, c0, .bool ci, bx]) O O (IE O O O) ?_
 refine zG ?_
 refine EF O (BZ EY O ?_)
 intro dx fg ah eg ap H
 have cu : b2 < dx := by rw [ah]; exact Bx.lt E.1
 replace E := E.below ap
 replace f := Bx.below f ap
 clear ah
 refine zG ?_
 refine EF O (BY EY O O O H O O (IF (IsI.one (e3 E)) (IsI.one E.2.1)) ?_)
 intro ff a2 bj
 replace E := (E.onl (H.noW (LM EZ EZ)) zK a2).x bj
 replace f := Bx.onl f AA a2
 refine zG ?_
 refine V O O (CU EY O O E.1 O) ?_
 refine zG ?_
 refine EF O (CA MX O (CT (decide_eq_true p) (iD _ _ _ _ n d _ (e4 E) E.2.2.1 (Fits.mono Fn AE) (Fits.mono Fd AE))) O E ?_)
 intro fe di E
 replace f := f.below di
 refine zG ?_
 refine EF O (CA EB O (CT (decide_eq_true h1) (MW _ d _ E.2.2.1)) O E ?_)
 intro fd dh E
 replace f := f.below dh
 refine zG ?_
 refine V (v := .agg #[.bool false, .slice none 0 0, .bool false, .slice none 0 0]) O O (GQ O) ?_
 refine zG ?_
 refine EF O (BY EY O O O f O O (IF GB GB) ?_)
 intro fc cd bi
 replace E := (E.onl (f.noW (LM EZ EZ)) zK cd).x bi
 have r1 := CL EY E.1 rfl
 refine zG ?_
 exact AQ (v := .tuple #[.agg #[.bool false, .slice none 0 0, .bool false, .slice none 0 0], .int .i64 3]) Yeo O (.form AA (fun x e => bS h l y (.inr h1) x (k.symm.trans (lst e))) ⟨_, _, _, _, O, DF _, DF _, e6 E⟩)
theorem F5 {ρ : Operand -> Value} {o : Oper} {w : World} {P : Program} {x y : Operand} {T : TypeId} {j : Nat} {J : Int} {kk : IntKind} (ho : o.op = .slice T x none (some y) none) (hT : P.underlying T = some .string) (hx : ρ x = .string s) (hy : ρ y = .int kk J) (hJ : J = (j : Int)) (hj : j <= s.size) :
 (execOp ρ o).run P w = .ok (.value (.string (s.extract 0 j))) w := by
 subst hJ
 unfold execOp; rw [ho]
 simp [hx, hy, Instr.sliceAt, Instr.slice, run_underlying hT, Instr.sliceBounds, Instr.sliceBound, asIntOf, hj]
theorem Tt (h : s.data.toList[i]? = some 47) (hn : ∀ j b, j < i -> s.data.toList[j]? = some b -> b ≠ 47) :
 s.data.toList = (s.extract 0 i).data.toList ++ 47 :: (s.extract (i + 1) s.size).data.toList /\ (47 : UInt8) ∉ (s.extract 0 i).data.toList := by
 have k : i < s.data.toList.length := (List.getElem?_eq_some_iff.1 h).1
 have e1 : (s.extract 0 i).data.toList = s.data.toList.take i := by rw [Lib.extract_eq]; simp
 have e2 : (s.extract (i + 1) s.size).data.toList = s.data.toList.drop (i + 1) := by
  rw [Lib.extract_eq, Lib.size_eq]
  show List.take _ _ = _
  exact List.take_of_length_le (by rw [List.length_drop]; exact Nat.le_refl _)
 rw [e1, e2]
 constructor
 . have l := (List.getElem?_eq_some_iff.1 h).2
   rw [<- l, List.getElem_cons_drop, List.take_append_drop]
 intro f
 obtain ⟨j, e⟩ := List.mem_iff_getElem?.1 f
 rw [List.getElem?_take] at e
 split at e
 . exact hn j _ (by assumption) e rfl
 cases e
theorem Yt (h : i = s.size) (hn : ∀ j b, j < i -> s.data.toList[j]? = some b -> b ≠ 47) : s.extract 0 i = s /\ (47 : UInt8) ∉ s.data.toList := by
 subst h
 constructor
 . refine WY ?_
   rw [Lib.extract_eq]
   show List.take (s.size - 0) (List.drop 0 s.data.toList) = _
   rw [List.drop_zero, Nat.sub_zero, Lib.size_eq, List.take_length]
 intro f
 obtain ⟨j, e⟩ := List.mem_iff_getElem?.1 f
 exact hn j _ (by rw [Lib.size_eq]; exact (List.getElem?_eq_some_iff.1 e).1) e rfl
theorem sget (h : i < s.size) : ∃ b, s[i]? = some b /\ s.data.toList[i]? = some b := by
 obtain ⟨b, f, e⟩ := JV (i := i) (s := s) h
 exact ⟨b, f, e⟩
theorem u8_ne {b : UInt8} (h : ¬ b = 47) : (((b.toNat : Nat) : Int) != 47) = true := by
 rw [bne_iff_ne]; intro e; exact h (UInt8.toNat_inj.1 (by show b.toNat = 47; omega))
theorem bne_l (h : ¬ a = b) : (a != b) = true := by rw [bne_iff_ne]; exact h
theorem Rr (h : a = b) : (a != b) = false := by rw [h]; simp
theorem Am (s : ByteArray) (w : World) :
 Calls prog 111 #[.string s] w (ParQ w (RetPE w) s) := by
 have E := Env.start w
 go_enter func111, ntmps111
 refine zG ?_
 refine EF O (BZ EY O ?_)
 intro t w1 e1 z1 d1 x1
 have l1 : w.heap.size <= t := by rw [e1]; exact E.1.size
 replace E := E.below d1
 clear e1
 by_cases h4 : 4000 < s.size
 . refine zG ?_
   refine V (v := .agg #[.bool false, .slice none 0 0, .bool false, .slice none 0 0]) O O (GQ O) ?_
   refine zG ?_
   refine EF O (BY EY O O O x1 O O (IF GB GB) ?_)
   intro w3 o3 y3
   replace E := (E.onl (x1.noW (LM EZ EZ)) zK o3).x y3
   have r1 := CL EY E.1 rfl
   refine zG ?_
   exact AQ (v := .tuple #[.agg #[.bool false, .slice none 0 0, .bool false, .slice none 0 0], .int .i64 2]) YHy O (.big h4 ⟨_, _, _, _, O, DF _, DF _, E.2.1⟩)
 replace E := E.x x1
 refine zG ?_
 refine wp_loop_ghost (fun mz a w' => ∃ (i : Nat) (y : List Value), y = a.tmps.toList /\ a = ⟨(.string s :: undef :: .pointer (some ⟨t, 0, none⟩) :: .int .i64 0 :: .int .i64 ↑i :: gr y 5 5 (.string s :: .int .i64 ↑s.size :: .bool false :: gr y 13 54 [])).toArray, []⟩ /\ Env w' [fX t (64) ([.bool false, .slice none 0 0, .bool false, .slice none 0 0]), fW w] /\ mz = s.size - i /\ (i <= s.size /\ ∀ j b, j < i -> s.data.toList[j]? = some b -> b ≠ 47)) (s.size) ⟨0, _, O, O, zE, O, ⟨Nat.zero_le _, fun j b h => absurd h (Nat.not_lt_zero j)⟩⟩ ?_
 rintro m6 _ w6 ⟨i, y, -, rfl, E, ff, fg⟩
 dsimp only [gr, Nat.reduceAdd]
 obtain ⟨ke, a2⟩ := fg
 by_cases bq : i = s.size
 case pos =>
  obtain ⟨hS, fe⟩ := Yt bq a2
  by_cases u : DN s.data.toList = none
  case pos =>
   refine zG ?_
   refine V (v := .string s) O O ((F5 (j := i) O underlying9 O O O AA).trans (by rw [hS])) ?_
   refine zG ?_
   refine EF O (CP DJ O (PL s _ AA u) O E ?_)
   intro w8 n8 s8 d8 E
   refine zG ?_
   refine EF O (BZ EC O ?_)
   intro b9 w9 e9 z9 d9 x9
   have gx : t < b9 := by rw [e9]; exact Bx.lt E.2.1
   replace E := E.below d9
   clear e9
   refine zG ?_
   refine EF O (BY EC O O O x9 O O (IsI.one E.1) ?_)
   intro jo ev dk
   replace E := oB E x9 ev dk
   refine zG ?_
   refine EF O (CH ED O (OM 1 _ AE AE) O E ?_)
   intro jm kd k0 l2 E
   refine zG ?_
   refine EF O (BZ EC O ?_)
   intro g1 jl WE ht fv b5
   have fd : b9 < g1 := by rw [WE]; exact Bx.lt E.2.1
   replace E := E.below fv
   clear WE
   refine zG ?_
   refine EF O (BY EC O O O b5 O O (IsI.one E.1) ?_)
   intro jk eu dj
   replace E := oB E b5 eu dj
   refine zG ?_
   refine V (v := .agg #[.bool false, .slice none 0 0, .bool false, .slice none 0 0]) O O (GQ O) ?_
   have b4 := e4 E
   replace E := jI E
   refine zG ?_
   refine EF O (BY EY O O O b4 O O (IF GB GB) ?_)
   intro jj et di
   replace E := (E.onl (b4.noW (LM EZ EZ)) zK et).x di
   have r1 := CL EY E.1 rfl
   refine zG ?_
   exact AQ (v := .tuple #[.agg #[.bool false, .slice none 0 0, .bool false, .slice none 0 0], .int .i64 3]) YHy O (.form AA (fun x e => tY fe u x (lst e)) ⟨_, _, _, _, O, DF _, DF _, e5 E⟩)
  obtain ⟨n, o⟩ := UO u
  have Fn : Fits n 4000 := JE YHM o
  refine zG ?_
  refine V (v := .string s) O O ((F5 (j := i) O underlying9 O O O AA).trans (by rw [hS])) ?_
  refine zG ?_
  refine EF O (CP DJ O (JG s n _ AA o) O E ?_)
  intro ji bn b7 l0 E
  refine zG ?_
  refine EF O (BZ EC O ?_)
  intro ch jh e20 hs fu b3
  have fc : t < ch := by rw [e20]; exact Bx.lt E.2.1
  replace E := E.below fu
  clear e20
  refine zG ?_
  refine EF O (BY EC O O O b3 O O (IsI.one E.1) ?_)
  intro jg es dh
  replace E := oB E b3 es dh
  refine zG ?_
  refine EF O (CH ED O (OM 1 _ AE AE) O E ?_)
  intro jf bm b6 kz E
  refine zG ?_
  refine EF O (BZ EC O ?_)
  intro cg je Ls hr ft b2
  have fb : ch < cg := by rw [Ls]; exact Bx.lt E.2.1
  replace E := E.below ft
  clear Ls
  refine zG ?_
  refine EF O (BY EC O O O b2 O O (IsI.one E.1) ?_)
  intro jd er dg
  replace E := oB E b2 er dg
  refine zG ?_
  refine V (v := .agg #[.bool bn, b7, .bool bm, b6]) O O (IE O O O) ?_
  refine zG ?_
  refine EF O (BZ EY O ?_)
  intro g0 jc A7 ho fs b0
  have fa : cg < g0 := by rw [A7]; exact Bx.lt E.1
  replace E := E.below fs
  clear A7
  refine zG ?_
  refine EF O (BY EY O O O b0 O O (IF (IsI.one (e3 E)) (IsI.one E.2.1)) ?_)
  intro jb ep de
  replace E := (E.onl (b0.noW (LM EZ EZ)) zK ep).x de
  refine zG ?_
  refine V O O (CU EY O O E.1 O) ?_
  refine zG ?_
  refine EF O (CA OU O (CT (decide_eq_true (ZS n)) (bZ _ _ _ _ n 1 _ (e4 E) E.2.2.1 (Fits.mono Fn AE) (Fits.mono (NB (m := 4) AE : Fits 1 4) AE))) O E ?_)
  intro ja ky E
  refine zG ?_
  refine V Z O (CU EY O O E.1 O) ?_
  replace E := (E.i (VM (WK (ZS n)).1.symm (e4 E))).i (VM (WK (ZS n)).2.symm E.2.2.1)
  have ck : FitQ (Rat.divInt n 1) 4000 := bF AE Fn (Ef AE)
  skip
  refine zG ?_
  refine EF O (XD JO O (mO _ _ _ _ (Rat.divInt n 1) _ (e1 E) (e0 E) (FitQ.mono ck AE)) O E ?_)
  intro j9 kx E
  refine zG ?_
  refine V Z O (TQ O O O (Rr (Cj o).symm)) ?_
  refine zG ?_
  refine V O O (CU EY O O E.2.2.1 O) ?_
  have az := e7 E
  replace E := dl7 E
  refine zG ?_
  refine EF O (BY EY O O O az O O (IF (IsI.one (e6 E)) (IsI.one (e4 E))) ?_)
  intro j8 eo dd
  replace E := (E.onl (az.noW (LM EZ EZ)) zK eo).x dd
  have r1 := CL EY E.1 rfl
  refine zG ?_
  exact AQ (v := .tuple #[.agg #[.bool bn, b7, .bool bm, b6], .int .i64 0]) YHy O (.ok (Rat.divInt n 1) AA (WY (Cj o)) ⟨_, _, _, _, O, E.2.2.1, E.2.1, e8 E⟩)
 obtain ⟨b, hb, a1⟩ := sget (s := s) (i := i) AA
 by_cases a3 : b = 47
 case neg =>
  refine zG ?_
  refine V (v := .int .u8 ↑b.toNat) Z O (DK (j := i) O underlying9 O O O hb) ?_
  refine zG ?_
  refine V Z O (RH (c := true) O O O (u8_ne a3)) ?_
  refine zG ?_
  exact ⟨_, (by rw [ff]; omega), (i + 1), _, O, O, zE, O, ⟨by omega, fun j c hj hc => by rcases Nat.lt_succ_iff_lt_or_eq.1 hj with h | h; exact a2 j c h hc; subst h; rw [a1] at hc; cases hc; exact a3⟩⟩
 rw [a3] at a1
 obtain ⟨f, k⟩ := Tt a1 a2
 have bp := sU f
 obtain ⟨SA, hA⟩ : ∃ A, s.extract 0 i = A := ⟨_, rfl⟩
 obtain ⟨l, hB⟩ : ∃ B, s.extract (i + 1) s.size = B := ⟨_, rfl⟩
 rw [hA] at f k bp
 rw [hB] at f bp
 by_cases u : DN SA.data.toList = none
 case pos =>
  by_cases hq : DN l.data.toList = none
  case pos =>
   refine zG ?_
   refine V (v := .int .u8 ↑b.toNat) Z O (DK (j := i) O underlying9 O O O hb) ?_
   refine zG ?_
   refine V Z O (RH (c := false) O O O (by rw [a3]; rfl)) ?_
   refine zG ?_
   refine V (v := .string SA) O O ((F5 (j := i) O underlying9 O O O AA).trans (by rw [hA])) ?_
   refine zG ?_
   refine EF O (CP DJ O (PL SA _ AA u) O E ?_)
   intro j7 kc jz kv E
   refine zG ?_
   refine EF O (BZ EC O ?_)
   intro cf j6 c4 hm fr ay
   have f9 : t < cf := by rw [c4]; exact Bx.lt E.2.1
   replace E := E.below fr
   clear c4
   refine zG ?_
   refine EF O (BY EC O O O ay O O (IsI.one E.1) ?_)
   intro j5 en dc
   replace E := oB E ay en dc
   refine zG ?_
   refine EF O (CH ED O (OM 1 _ AE AE) O E ?_)
   intro j4 ka jy ku E
   refine zG ?_
   refine EF O (BZ EC O ?_)
   intro fz j3 c3 hl fq ax
   have f8 : cf < fz := by rw [c3]; exact Bx.lt E.2.1
   replace E := E.below fq
   clear c3
   refine zG ?_
   refine EF O (BY EC O O O ax O O (IsI.one E.1) ?_)
   intro j2 em db
   replace E := oB E ax em db
   refine zG ?_
   refine V (v := .string l) O O ((ID (j := i + 1) O underlying9 O O O AA).trans (by rw [hB])) ?_
   refine zG ?_
   refine EF O (CP DJ O (PL l _ AA hq) O E ?_)
   exact Z0g
  obtain ⟨d, q⟩ := UO hq
  have Fd : Fits d 4000 := JE YHM q
  refine zG ?_
  refine V (v := .int .u8 ↑b.toNat) Z O (DK (j := i) O underlying9 O O O hb) ?_
  refine zG ?_
  refine V Z O (RH (c := false) O O O (by rw [a3]; rfl)) ?_
  refine zG ?_
  refine V (v := .string SA) O O ((F5 (j := i) O underlying9 O O O AA).trans (by rw [hA])) ?_
  refine zG ?_
  refine EF O (CP DJ O (PL SA _ AA u) O E ?_)
  intro iy k8 jw ks E
  refine zG ?_
  refine EF O (BZ EC O ?_)
  intro ce ix c2 hk fp au
  have f7 : t < ce := by rw [c2]; exact Bx.lt E.2.1
  replace E := E.below fp
  clear c2
  refine zG ?_
  refine EF O (BY EC O O O au O O (IsI.one E.1) ?_)
  intro iw ej d6
  replace E := oB E au ej d6
  refine zG ?_
  refine EF O (CH ED O (OM 1 _ AE AE) O E ?_)
  intro iv k7 jv kr E
  refine zG ?_
  refine EF O (BZ EC O ?_)
  intro fy iu c1 hi fo ar
  have f6 : ce < fy := by rw [c1]; exact Bx.lt E.2.1
  replace E := E.below fo
  clear c1
  refine zG ?_
  refine EF O (BY EC O O O ar O O (IsI.one E.1) ?_)
  intro ir ei d5
  replace E := oB E ar ei d5
  refine zG ?_
  refine V (v := .string l) O O ((ID (j := i + 1) O underlying9 O O O AA).trans (by rw [hB])) ?_
  refine zG ?_
  refine EF O (CP DJ O (JG l d _ AA q) O E ?_)
  exact Z0g
 obtain ⟨n, o⟩ := UO u
 have Fn : Fits n 4000 := JE YHM o
 by_cases hq : DN l.data.toList = none
 case pos =>
  refine zG ?_
  refine V (v := .int .u8 ↑b.toNat) Z O (DK (j := i) O underlying9 O O O hb) ?_
  refine zG ?_
  refine V Z O (RH (c := false) O O O (by rw [a3]; rfl)) ?_
  refine zG ?_
  refine V (v := .string SA) O O ((F5 (j := i) O underlying9 O O O AA).trans (by rw [hA])) ?_
  refine zG ?_
  refine EF O (CP DJ O (JG SA n _ AA o) O E ?_)
  intro im k5 jt kp E
  refine zG ?_
  refine EF O (BZ EC O ?_)
  intro cd il c0 hh fn ao
  have f5 : t < cd := by rw [c0]; exact Bx.lt E.2.1
  replace E := E.below fn
  clear c0
  refine zG ?_
  refine EF O (BY EC O O O ao O O (IsI.one E.1) ?_)
  intro ik ef d2
  replace E := oB E ao ef d2
  refine zG ?_
  refine EF O (CH ED O (OM 1 _ AE AE) O E ?_)
  intro ij k4 js km E
  refine zG ?_
  refine EF O (BZ EC O ?_)
  intro fx ii bx hg fm an
  have f4 : cd < fx := by rw [bx]; exact Bx.lt E.2.1
  replace E := E.below fm
  clear bx
  refine zG ?_
  refine EF O (BY EC O O O an O O (IsI.one E.1) ?_)
  intro ih ee d0
  replace E := oB E an ee d0
  refine zG ?_
  refine V (v := .string l) O O ((ID (j := i + 1) O underlying9 O O O AA).trans (by rw [hB])) ?_
  refine zG ?_
  refine EF O (CP DJ O (PL l _ AA hq) O E ?_)
  intro ig k3 jr kl E
  have am := E.2.1
  refine zG ?_
  replace E := QP E
  refine zG ?_
  refine EF O (BY EC O O O am O O (IsI.one E.1) ?_)
  intro ie ed cz
  replace E := oB E am ed cz
  refine zG ?_
  refine V (v := .agg #[.bool false, .slice none 0 0, .bool false, .slice none 0 0]) O O (GQ O) ?_
  have al := e5 E
  replace E := Lu E
  refine zG ?_
  refine EF O (BY EY O O O al O O (IF GB GB) ?_)
  intro id ec cy
  replace E := (E.onl (al.noW (LM EZ EZ)) zK ec).x cy
  have r1 := CL EY E.1 rfl
  refine zG ?_
  exact AQ (v := .tuple #[.agg #[.bool false, .slice none 0 0, .bool false, .slice none 0 0], .int .i64 3]) YHy O (.form AA (fun x e => tZ k hq x (f.symm.trans (lst e))) ⟨_, _, _, _, O, DF _, DF _, e6 E⟩)
 obtain ⟨d, q⟩ := UO hq
 have Fd : Fits d 4000 := JE YHM q
 by_cases p : ¬ vq n d
 case pos =>
  refine zG ?_
  refine V (v := .int .u8 ↑b.toNat) Z O (DK (j := i) O underlying9 O O O hb) ?_
  refine zG ?_
  refine V Z O (RH (c := false) O O O (by rw [a3]; rfl)) ?_
  refine zG ?_
  refine V (v := .string SA) O O ((F5 (j := i) O underlying9 O O O AA).trans (by rw [hA])) ?_
  refine zG ?_
  refine EF O (CP DJ O (JG SA n _ AA o) O E ?_)
  intro ic ey dn kk E
  refine zG ?_
  refine EF O (BZ EC O ?_)
  intro cc ib bw hf fl ak
  have f3 : t < cc := by rw [bw]; exact Bx.lt E.2.1
  replace E := E.below fl
  clear bw
  refine zG ?_
  refine EF O (BY EC O O O ak O O (IsI.one E.1) ?_)
  intro ia eb cx
  replace E := oB E ak eb cx
  refine zG ?_
  refine EF O (CH ED O (OM 1 _ AE AE) O E ?_)
  intro i9 k2 jq kj E
  refine zG ?_
  refine EF O (BZ EC O ?_)
  intro cb i8 bv he fk aj
  have f2 : cc < cb := by rw [bv]; exact Bx.lt E.2.1
  replace E := E.below fk
  clear bv
  refine zG ?_
  refine EF O (BY EC O O O aj O O (IsI.one E.1) ?_)
  intro i7 ea cw
  replace E := oB E aj ea cw
  refine zG ?_
  refine V (v := .string l) O O ((ID (j := i + 1) O underlying9 O O O AA).trans (by rw [hB])) ?_
  refine zG ?_
  refine EF O (CP DJ O (JG l d _ AA q) O E ?_)
  intro i6 ex dm ki E
  have ai := E.2.1
  refine zG ?_
  replace E := QP E
  refine zG ?_
  refine EF O (BY EC O O O ai O O (IsI.one E.1) ?_)
  intro i5 dz cv
  replace E := oB E ai dz cv
  refine zG ?_
  refine V (v := .agg #[.bool ey, dn, .bool ex, dm]) O O (IE O O O) ?_
  refine zG ?_
  refine EF O (BZ EY O ?_)
  intro fw i4 bu ha fj ah
  have f1 : cb < fw := by rw [bu]; exact Bx.lt E.1
  replace E := E.below fj
  clear bu
  refine zG ?_
  refine EF O (BY EY O O O ah O O (IF (IsI.one (e4 E)) (IsI.one E.2.1)) ?_)
  intro i3 dy cu
  replace E := (E.onl (ah.noW (LM EZ EZ)) zK dy).x cu
  refine zG ?_
  refine V O O (CU EY O O E.1 O) ?_
  refine zG ?_
  refine EF O (CA OU O (CT (decide_eq_false p) (bZ _ _ _ _ n d _ (e5 E) E.2.2.1 (Fits.mono Fn AE) (Fits.mono Fd AE))) O E ?_)
  intro i2 kh E
  refine zG ?_
  refine V (v := .agg #[.bool false, .slice none 0 0, .bool false, .slice none 0 0]) O O (GQ O) ?_
  have ag := e6 E
  replace E := dW E
  refine zG ?_
  refine EF O (BY EY O O O ag O O (IF GB GB) ?_)
  intro i1 dx ct
  replace E := (E.onl (ag.noW (LM EZ EZ)) zK dx).x ct
  have r1 := CL EY E.1 rfl
  refine zG ?_
  exact AQ (v := .tuple #[.agg #[.bool false, .slice none 0 0, .bool false, .slice none 0 0], .int .i64 3]) YHy O (.form AA (fun x e => bS k o q (.inl p) x (f.symm.trans (lst e))) ⟨_, _, _, _, O, DF _, DF _, e7 E⟩)
 replace p := Decidable.not_not.1 p
 by_cases h1 : d = 1
 case neg =>
  refine zG ?_
  refine V (v := .int .u8 ↑b.toNat) Z O (DK (j := i) O underlying9 O O O hb) ?_
  refine zG ?_
  refine V Z O (RH (c := false) O O O (by rw [a3]; rfl)) ?_
  refine zG ?_
  refine V (v := .string SA) O O ((F5 (j := i) O underlying9 O O O AA).trans (by rw [hA])) ?_
  refine zG ?_
  refine EF O (CP DJ O (JG SA n _ AA o) O E ?_)
  intro gj R P h3 E
  refine zG ?_
  refine EF O (BZ EC O ?_)
  intro a0 gi U g4 c7 H
  have co : t < a0 := by rw [U]; exact Bx.lt E.2.1
  replace E := E.below c7
  clear U
  refine zG ?_
  refine EF O (BY EC O O O H O O (IsI.one E.1) ?_)
  intro gh bi aa
  replace E := oB E H bi aa
  refine zG ?_
  refine EF O (CH ED O (OM 1 _ AE AE) O E ?_)
  intro gg gw gv h2 E
  refine zG ?_
  refine EF O (BZ EC O ?_)
  intro Y gf T g3 c6 G
  have cn : a0 < Y := by rw [T]; exact Bx.lt E.2.1
  replace E := E.below c6
  clear T
  refine zG ?_
  refine EF O (BY EC O O O G O O (IsI.one E.1) ?_)
  intro ge bh a9
  replace E := oB E G bh a9
  refine zG ?_
  refine V (v := .string l) O O ((ID (j := i + 1) O underlying9 O O O AA).trans (by rw [hB])) ?_
  refine zG ?_
  refine EF O (CP DJ O (JG l d _ AA q) O E ?_)
  intro gc Q N h0 E
  have F := E.2.1
  refine zG ?_
  replace E := QP E
  refine zG ?_
  refine EF O (BY EC O O O F O O (IsI.one E.1) ?_)
  intro gb bg a8
  replace E := oB E F bg a8
  refine zG ?_
  refine V (v := .agg #[.bool R, P, .bool Q, N]) O O (IE O O O) ?_
  refine zG ?_
  refine EF O (BZ EY O ?_)
  intro ci ga S g2 c5 D
  have cm : Y < ci := by rw [S]; exact Bx.lt E.1
  replace E := E.below c5
  clear S
  refine zG ?_
  refine EF O (BY EY O O O D O O (IF (IsI.one (e4 E)) (IsI.one E.2.1)) ?_)
  intro g9 bf a7
  replace E := (E.onl (D.noW (LM EZ EZ)) zK bf).x a7
  refine zG ?_
  refine V O O (CU EY O O E.1 O) ?_
  refine zG ?_
  refine EF O (CA OU O (CT (decide_eq_true p) (bZ _ _ _ _ n d _ (e5 E) E.2.2.1 (Fits.mono Fn AE) (Fits.mono Fd AE))) O E ?_)
  intro g8 gz E
  refine zG ?_
  refine V Z O (CU EY O O E.1 O) ?_
  replace E := (E.i (VM (WK p).1.symm (e5 E))).i (VM (WK p).2.symm E.2.2.1)
  have a4 : FitQ (Rat.divInt n d) 4000 := bF (Int.ne_of_gt p.1) Fn Fd
  skip
  refine zG ?_
  refine EF O (XD JO O (mO _ _ _ _ (Rat.divInt n d) _ (e1 E) (e0 E) (FitQ.mono a4 AE)) O E ?_)
  intro g7 gy E
  refine zG ?_
  refine V Z O (TQ O O O (Rr (f.trans (Fk o q p h1)).symm)) ?_
  refine zG ?_
  refine V O O (CU EY O O E.2.2.1 O) ?_
  have C := e8 E
  replace E := dl8 E
  refine zG ?_
  refine EF O (BY EY O O O C O O (IF (IsI.one (e7 E)) (IsI.one (e4 E))) ?_)
  intro g6 bc a6
  replace E := (E.onl (C.noW (LM EZ EZ)) zK bc).x a6
  have r1 := CL EY E.1 rfl
  refine zG ?_
  exact AQ (v := .tuple #[.agg #[.bool R, P, .bool Q, N], .int .i64 0]) YHy O (.ok (Rat.divInt n d) AA (WY (f.trans (Fk o q p h1))) ⟨_, _, _, _, O, E.2.2.1, E.2.1, e9 E⟩)
 refine zG ?_
 refine V (v := .int .u8 ↑b.toNat) Z O (DK (j := i) O underlying9 O O O hb) ?_
 refine zG ?_
 refine V Z O (RH (c := false) O O O (by rw [a3]; rfl)) ?_
 refine zG ?_
 refine V (v := .string SA) O O ((F5 (j := i) O underlying9 O O O AA).trans (by rw [hA])) ?_
 refine zG ?_
 refine EF O (CP DJ O (JG SA n _ AA o) O E ?_)
 intro i0 ew dl kg E
 refine zG ?_
 refine EF O (BZ EC O ?_)
 intro ca hz bt h9 fi af
 have f0 : t < ca := by rw [bt]; exact Bx.lt E.2.1
 replace E := E.below fi
 clear bt
 refine zG ?_
 refine EF O (BY EC O O O af O O (IsI.one E.1) ?_)
 intro hy dw cr
 replace E := oB E af dw cr
 refine zG ?_
 refine EF O (CH ED O (OM 1 _ AE AE) O E ?_)
 intro hx k1 jp kf E
 refine zG ?_
 refine EF O (BZ EC O ?_)
 intro c9 hw br h8 fh ae
 have ez : ca < c9 := by rw [br]; exact Bx.lt E.2.1
 replace E := E.below fh
 clear br
 refine zG ?_
 refine EF O (BY EC O O O ae O O (IsI.one E.1) ?_)
 intro hu dv cq
 replace E := oB E ae dv cq
 refine zG ?_
 refine V (v := .string l) O O ((ID (j := i + 1) O underlying9 O O O AA).trans (by rw [hB])) ?_
 refine zG ?_
 refine EF O (CP DJ O (JG l d _ AA q) O E ?_)
 intro gu bo b8 h7 E
 have L := E.2.1
 refine zG ?_
 replace E := QP E
 refine zG ?_
 refine EF O (BY EC O O O L O O (IsI.one E.1) ?_)
 intro gs bl ad
 replace E := oB E L bl ad
 refine zG ?_
 refine V (v := .agg #[.bool ew, dl, .bool bo, b8]) O O (IE O O O) ?_
 refine zG ?_
 refine EF O (BZ EY O ?_)
 intro cj gq X g5 c8 J
 have cp : c9 < cj := by rw [X]; exact Bx.lt E.1
 replace E := E.below c8
 clear X
 refine zG ?_
 refine EF O (BY EY O O O J O O (IF (IsI.one (e4 E)) (IsI.one E.2.1)) ?_)
 intro gp bk ac
 replace E := (E.onl (J.noW (LM EZ EZ)) zK bk).x ac
 refine zG ?_
 refine V O O (CU EY O O E.1 O) ?_
 refine zG ?_
 refine EF O (CA OU O (CT (decide_eq_true p) (bZ _ _ _ _ n d _ (e5 E) E.2.2.1 (Fits.mono Fn AE) (Fits.mono Fd AE))) O E ?_)
 intro gn h6 E
 refine zG ?_
 refine V Z O (CU EY O O E.1 O) ?_
 replace E := (E.i (VM (WK p).1.symm (e5 E))).i (VM (WK p).2.symm E.2.2.1)
 have a5 : FitQ (Rat.divInt n d) 4000 := bF (Int.ne_of_gt p.1) Fn Fd
 skip
 refine zG ?_
 refine EF O (XD JO O (mO _ _ _ _ (Rat.divInt n d) _ (e1 E) (e0 E) (FitQ.mono a5 AE)) O E ?_)
 intro gm h5 E
 refine zG ?_
 refine V Z O (TQ O O O (bne_l (fun e => bS k o q (.inr h1) _ (f.symm.trans e.symm)))) ?_
 refine zG ?_
 refine V (v := .agg #[.bool false, .slice none 0 0, .bool false, .slice none 0 0]) O O (GQ O) ?_
 have I := e8 E
 replace E := dl8 E
 refine zG ?_
 refine EF O (BY EY O O O I O O (IF GB GB) ?_)
 intro gk bj ab
 replace E := (E.onl (I.noW (LM EZ EZ)) zK bj).x ab
 have r1 := CL EY E.1 rfl
 refine zG ?_
 exact AQ (v := .tuple #[.agg #[.bool false, .slice none 0 0, .bool false, .slice none 0 0], .int .i64 3]) YHy O (.form AA (fun x e => bS k o q (.inr h1) x (f.symm.trans (lst e))) ⟨_, _, _, _, O, DF _, DF _, e9 E⟩)
end Go.Proofs.YtmppigbbkjepiaaGreatDoor
