/- Helping facts of PolyT; no other conditions. Helping facts of Read1; no other conditions. -/
import Derived.Test.YtmppigbbkjepiaaGreatDoorKitK
set_option maxHeartbeats 8000000
set_option maxRecDepth 100000
namespace Go.Proofs.YtmppigbbkjepiaaGreatDoor
open Go.Proofs.Tryz
open Go.RowKit W
variable {b base i n v : Nat} {c x : Rat} {hi lo z : Int} {p : Prop} {w : World}
theorem YyG (h : p := by first | rfl | exact CF CK) : p := h
theorem YOU (h : p := by simp only [List.length_cons, List.length_nil]; omega) : p := h
theorem ZLi (h : p := by
 refine yG ?_
 refine EF O (CP DR O (WH s z _ AA e) O E ?_)
 intro w7 n7 s7 d7 E
 refine yG ?_
 refine EF O (BZ EC O ?_)
 intro b8 w8 C z8 d8 P
 have l8 : w.heap.size <= b8 := by rw [C]; exact E.2.1.size
 replace E := E.below d8
 refine yG ?_
 refine EF O (BY EC O O O P O O (IsI.one E.1) ?_)
 intro w9 o9 Y
 replace E := oC E P o9 Y
 refine yG ?_
 refine EF O (GK NZ O (pP _ z _ E.2.1 AA AA) O E ?_)
 intro ac av E
 refine yG ?_
 exact ⟨nW (n := 0) (b := false) (nV (iX e AA)), E.2.2.1⟩
 ) : p := h
theorem Yg : Ag prog 105 2 [.pointer none, .slice none 0 0] := ⟨⟨_, underlying105, rfl⟩, by kernel_rfl, rfl⟩
theorem FJ {o : Oper} {a : Act} {K : Act -> World -> Prop} {Q : Exit -> Act -> World -> Prop} {x y : Operand} {tys : Array TypeId} {p v : Value} {l s : Bs} {L : List SF}
 (ho : o.op = .call { callee := .value (.func 48), args := [x, y].toArray, argTypes := tys }) (hx : a.eval x = .pointer (some ⟨b, 0, none⟩)) (hy : a.eval y = .string (bs s))
 (hb : Bx w b dA [p, v]) (hA : Acc elB 5 base WW w v l) (hp : p = .pointer none ∨ p = .pointer (some ⟨b, 0, none⟩)) (hlen : l.length + s.length <= 140737488355328) (hbase : base <= w.heap.size)
 (E : Env w L) (hk : Ok b L) (hg : ∀ g, v.ownBlock = some g -> base <= g -> g < w.heap.size -> Ok g L)
 (h : ∀ v' w', (∀ c, c < w.heap.size -> v.ownBlock ≠ some c -> v'.ownBlock ≠ some c) -> Env w' (fA elB 5 base WW v' (l ++ s) :: fX b dA [.pointer (some ⟨b, 0, none⟩), v'] :: L) -> K (a.put o.dst (.tuple #[.int .i64 ↑s.length, .nilIface])) w') : o.wp prog a w K Q := by
 refine CZ ⟨_, func48, by kernel_rfl, O⟩ ho (qP b base p v l s w hb hA hp hlen hbase) (by simp [hx, hy]) ?_
 rintro e w' ⟨rfl, v', t, q, u, f, k⟩
 exact ⟨_, rfl, h v' w' f ((k L E hk hg).x t |>.a q (RO _))⟩
theorem Ah {B : Nat} {p v : Value} {l : Bs} (hb : Bx w b dA [p, v]) (hA : Acc elB 5 base WW w v l) (hp : p = .pointer none ∨ p = .pointer (some ⟨b, 0, none⟩)) (h1 : B <= b) (h2 : B <= base) (h3 : B <= w.heap.size) :
 Calls prog 51 #[.pointer (some ⟨b, 0, none⟩)] w fun e w' => e = .returned (.string (bs l)) /\ Below B w w' := by
 have o := Hr hA
 have f : w.ownsRow B 5 1 v (Lib.byteCells l).length (Lib.byteCells l) := by
  rw [show (Lib.byteCells l).length = l.length from List.length_map _]
  refine ⟨o.1, ?_⟩
  rcases o.own.2 with h | ⟨g, t, q, u, hg, r⟩
  . exact .inl h
  exact .inr ⟨g, t, q, u, Nat.le_trans h2 hg, r⟩
 have k : Lib.BuilderAt dA 5 B b p (Lib.byteCells l) w := ⟨h1, v, hb, f, Bz o hb Zs⟩
 exact Tryz.Builder_String_any B b l w (hp.elim (fun e => .inl (e ▸ k)) fun e => .inr (e ▸ k)) h3
theorem rat_neg : c < 0 ↔ c.num < 0 := by
 rw [<- Rat.not_le, <- Int.not_le]
 exact not_congr Rat.num_nonneg.symm
theorem nE (h : c < 0) : decide (OY c.num < 0) = true := Ew (rat_neg.1 h)
theorem tJ (h : ¬ c < 0) : decide (OY c.num < 0) = false := by
 have e : ¬ c.num < 0 := fun g => h (rat_neg.2 g)
 rcases MC c.num with g | g | g
 . omega
 . rw [g.2]; rfl
 rw [g.2]; rfl
theorem jQ (l : List Bs) (c : Rat) (mm : List Nat) : ∀ (f : Bool) (p : List Tm), MR l f (p ++ [(c, mm)]) = MR l f p ++ (ZF (f && p.isEmpty) (decide (c < 0)) ++ GA l (PC c) mm)
 | f, [] => by simp [MR]
 | f, (d, k) :: p => by
   simp only [List.cons_append, MR]
   rw [jQ l c mm false p]
   simp [List.append_assoc]
theorem VO {l : List Bs} {p : List Tm} {mm : List Nat} (h : p[i]? = some (c, mm)) :
 MR l true (p.take (i + 1)) = MR l true (p.take i) ++ (ZF (decide (i = 0)) (decide (c < 0)) ++ GA l (PC c) mm) := by
 rw [KK h, jQ]
 have k := (List.getElem?_eq_some_iff.1 h).1
 congr 3
 rw [Bool.true_and]
 by_cases f : i = 0
 . subst f; simp
 rw [decide_eq_false f, List.isEmpty_eq_false_iff]
 intro e
 have := congrArg List.length e
 rw [List.length_take, List.length_nil] at this
 omega
theorem sg1 (h0 : i = 0) (hc : c < 0) : ZF (decide (i = 0)) (decide (c < 0)) = [45] := by rw [decide_eq_true h0, decide_eq_true hc]; rfl
theorem sg2 (h0 : i = 0) (hc : ¬ c < 0) : ZF (decide (i = 0)) (decide (c < 0)) = [] := by rw [decide_eq_true h0, decide_eq_false hc]; rfl
theorem sg3 (h0 : ¬ i = 0) (hc : c < 0) : ZF (decide (i = 0)) (decide (c < 0)) = [32, 45, 32] := by rw [decide_eq_false h0, decide_eq_true hc]; rfl
theorem sg4 (h0 : ¬ i = 0) (hc : ¬ c < 0) : ZF (decide (i = 0)) (decide (c < 0)) = [32, 43, 32] := by rw [decide_eq_false h0, decide_eq_false hc]; rfl
theorem Ck {l : List Bs} {p : List Tm} (h : p.length = 0) : [48] = GR l p := by rw [List.eq_nil_of_length_eq_zero h]; rfl
theorem Jr {l : List Bs} {p : List Tm} (h : ¬ p.length = 0) : MR l true p = GR l p := by unfold GR; rw [if_neg (fun e => h (by rw [e]; rfl))]
theorem Cl (vp : Value) (p : List Tm) (vl : Value) (l : List Bs) (w : World) (hRp : IsR JQ (DL w.heap.size) w vp p) (hRl : IsR elS (DL w.heap.size) w vl l) (hF : ∀ t ∈ p, FitQ t.1 1000000) (hL : p.length <= 1000000) (hV : DM 8 l = true) (hG : Glob w) :
 Calls prog 39 #[vp, vl] w (GY w (.string (bs (GR l p)))) := by
 have E := Env.start w
 obtain ⟨Y, G, rfl, dt, dq⟩ := hRp.shp
 replace E := E.r hRp (DZ _)
 obtain ⟨ax, a3, rfl, du, dr⟩ := hRl.shp
 replace E := E.r hRl (DZ _)
 have dw := hG.two
 replace E := E.gl hG
 go_enter func39, ntmps39
 by_cases h0 : ((p.length : Nat) : Int) = 0
 . refine yG ?_
   exact ⟨SX (Ck AA), e3 E⟩
 refine yG ?_
 refine EF O (BZ Yg O ?_)
 intro I w1 cc z1 d1 x1
 have l1 : w.heap.size <= I := by rw [cc]; exact (e3 E).size
 replace E := E.below d1
 replace E := E.x x1
 obtain ⟨y, L⟩ : ∃ n, n = w1.heap.size := ⟨_, rfl⟩
 have cj : w.heap.size <= y := by rw [L]; exact (e4 E).size
 have b2 : I < y := by rw [L]; exact Bx.lt E.1
 replace E := (E.sz (Nat.le_of_eq L)).a (Acc.nil elB 5 y WW _) (RO _)
 refine yG ?_
 refine wp_loop_ghost (fun mz a w' => ∃ (i : Nat) (pr : Value) (vr : Value) (lr : Bs) (X : List Value), X = a.tmps.toList /\ a = ⟨(.slice Y p.length G :: .slice ax l.length a3 :: undef :: undef :: .string (bs ([])) :: .pointer (some ⟨I, 0, none⟩) :: gr X 6 3 (.slice Y p.length G :: .int .i64 ↑p.length :: .bool false :: .slice Y p.length G :: .int .i64 ↑p.length :: .int .i64 ↑i :: gr X 15 37 [])).toArray, []⟩ /\ Env w' [fA elB 5 y WW vr lr, fX I (105) ([pr, vr]), iR y, fGl, fR elS (DL w.heap.size) (.slice ax l.length a3) l, fR JQ (DL w.heap.size) (.slice Y p.length G) p, fW w] /\ mz = p.length - i /\ (i <= p.length /\ (pr = .pointer none ∨ pr = .pointer (some ⟨I, 0, none⟩)) /\ lr = MR l true (p.take i) /\ lr.length <= i * 31000010)) (p.length) ⟨0, (.pointer none), (.slice none 0 0), [], _, O, O, zE, O, ⟨Nat.zero_le _, .inl O, by simp [MR], by simp⟩⟩ ?_
 rintro m3 _ w3 ⟨i, pr, vr, lr, X, -, rfl, E, T, am⟩
 dsimp only [gr, Nat.reduceAdd]
 obtain ⟨am, hJ⟩ := am
 by_cases hi : i < p.length
 case neg =>
  obtain ⟨H, C, c9⟩ := hJ
  rw [KC hi] at C
  subst C
  refine yG ?_
  refine EF O (CZ ⟨_, func51, by kernel_rfl, O⟩ O (Ah (B := w.heap.size) E.2.1 E.1.1 H AA AA (e6 E).size) O ?_)
  rintro _ bi ⟨rfl, cd⟩
  refine ⟨_, O, ?_⟩
  replace E : Env bi [fW w] := ⟨Below.trans (e6 E) cd, BX⟩
  refine yG ?_
  exact ⟨SX (Jr AA), E.1⟩
 obtain ⟨⟨q, k⟩, u⟩ : ∃ x, p[i]? = some x := ⟨_, List.getElem?_eq_getElem hi⟩
 obtain ⟨ai, dk, _, U, al, cb, ⟨n4, s4, m4, u4, rfl, c7, ca, f⟩⟩ := IsR.at (e5 E).1 u
 have c8 : ai < _ := (e5 E).2 _ al
 replace E := ((E.c cb c8).i c7).i ca
 have dv : ai < w.heap.size := al
 have v := hF _ (List.mem_of_getElem? u)
 obtain ⟨H, C, c9⟩ := hJ
 by_cases o : q < 0
 case neg =>
  by_cases N : i = 0
  case pos =>
   refine yG ?_
   refine Lv O O U O (List.getElem?_eq_some_iff.1 u).1 ?_
   refine V O O (CE FQ O O (E.2.2.1.1) (CF f)) ?_
   refine yG ?_
   refine EF O (BZ FQ O ?_)
   intro a9 cz a1 cm cf ac
   have Q : (vr : Value).ownBlock ≠ some a9 := fun h => by have := (Acc.lt (e3 E).1 h).2; omega
   have c5 : I < a9 := by rw [a1]; exact Bx.lt (e4 E)
   have az : y <= a9 := by rw [a1]; exact CS (e5 E)
   replace E := E.below cf
   refine yG ?_
   refine EF O (BY FQ O O O ac YyG (CF f) (DO (M := k) (IsI.one E.2.1) (IsI.one E.1)) ?_)
   intro cy bu b4
   replace E := oY E ac bu b4 (ds := (EW n4 s4 m4 u4 k))
   refine yG ?_
   refine V O O (CE EY O O (Cs.sub (Bx.cs E.1) 0 (EQ _ _ _ _ _)) O) ?_
   refine yG ?_
   refine EF O (CB EN O (RF _ _ _ _ q _ E.2.2.1 E.2.1) O E ?_)
   intro cx ea E
   refine yG ?_
   refine V O O (HY (c := false) O O O (tJ o)) ?_
   have a7 := bK (l := l) (c := q) (M := k) hV f v
   refine yG ?_
   refine EF O (CC FS O (NG _ _ _ _ q k _ l _ E.2.2.1 E.2.1 f (BW (e8 E)) (FitQ.mono v AE) hV (e7 E).1) O E ?_)
   intro cw dz E
   have ap := e4 E
   refine yG ?_
   replace E := jI E
   have bb := e4 E
   replace E := jI E
   have bo := Bx.lt E.1
   refine EF O (FJ (s := GA l q k) O O O bb ap.1 H AJ (CS (e4 E)) E ⟨GO AA, BX, BX, TJ AA, BX, LA AA, FV (CY AA), FV (CY AA), OP AA, BX⟩ (fun g hg h1 h2 => ⟨GO (fun e => Q (e ▸ hg)), BX, BX, TJ AA, BX, LA AA, FV (CY AA), FV (CY AA), OP AA, BX⟩) ?_)
   intro bk cv dm E
   refine yG ?_
   exact ⟨_, (by rw [T]; omega), (i + 1), (.pointer (some ⟨I, 0, none⟩)), bk, lr ++ (GA l q k), _, O, O, zE, O, ⟨by omega, .inr O, by rw [VO u, sg2 N o, C, YC o]; simp, by simp only [List.length_append]; omega⟩⟩
  refine yG ?_
  refine Lv O O U O (List.getElem?_eq_some_iff.1 u).1 ?_
  refine V O O (CE FQ O O (E.2.2.1.1) (CF f)) ?_
  refine yG ?_
  refine EF O (BZ FQ O ?_)
  intro a8 cu a0 ck ce ab
  have D : (vr : Value).ownBlock ≠ some a8 := fun h => by have := (Acc.lt (e3 E).1 h).2; omega
  have c3 : I < a8 := by rw [a0]; exact Bx.lt (e4 E)
  have ay : y <= a8 := by rw [a0]; exact CS (e5 E)
  replace E := E.below ce
  refine yG ?_
  refine EF O (BY FQ O O O ab YyG (CF f) (DO (M := k) (IsI.one E.2.1) (IsI.one E.1)) ?_)
  intro ct bt b3
  replace E := oY E ab bt b3 (ds := (EW n4 s4 m4 u4 k))
  refine yG ?_
  refine V O O (CE EY O O (Cs.sub (Bx.cs E.1) 0 (EQ _ _ _ _ _)) O) ?_
  refine yG ?_
  refine EF O (CB EN O (RF _ _ _ _ q _ E.2.2.1 E.2.1) O E ?_)
  intro cr dy E
  refine yG ?_
  refine V O O (HY (c := false) O O O (tJ o)) ?_
  have ao := e4 E
  refine yG ?_
  replace E := jI E
  have ba := e4 E
  replace E := jI E
  have a4 := Bx.lt E.1
  refine EF O (FJ (s := [32, 43, 32]) O O O ba ao.1 H YOU (CS (e4 E)) E ⟨GO AA, BX, BX, TJ AA, BX, LA AA, FV (CY AA), FV (CY AA), OP AA, BX⟩ (fun g hg h1 h2 => ⟨GO (fun e => D (e ▸ hg)), BX, BX, TJ AA, BX, LA AA, FV (CY AA), FV (CY AA), OP AA, BX⟩) ?_)
  intro dh cq br E
  have P := br _ a4 D
  have a7 := bK (l := l) (c := q) (M := k) hV f v
  refine yG ?_
  refine EF O (CC FS O (NG _ _ _ _ q k _ l _ (e4 E) (e3 E) f (BW (e8 E)) (FitQ.mono v AE) hV (e7 E).1) O E ?_)
  intro cp dx E
  have an := E.1
  refine yG ?_
  replace E := YE E
  have b9 := E.1
  replace E := YE E
  have bn := Bx.lt E.1
  refine EF O (FJ (s := GA l q k) O O O b9 an.1 (.inr O) AJ (CS (e4 E)) E ⟨GO AA, BX, BX, TJ AA, BX, LA AA, FV (CY AA), FV (CY AA), OP AA, BX⟩ (fun g hg h1 h2 => ⟨GO (fun e => P (e ▸ hg)), BX, BX, TJ AA, BX, LA AA, FV (CY AA), FV (CY AA), OP AA, BX⟩) ?_)
  intro bj co dl E
  refine yG ?_
  exact ⟨_, (by rw [T]; omega), (i + 1), (.pointer (some ⟨I, 0, none⟩)), bj, (lr ++ ([32, 43, 32])) ++ (GA l q k), _, O, O, zE, O, ⟨by omega, .inr O, by rw [VO u, sg4 N o, C, YC o]; simp, by simp only [List.length_append, List.length_cons, List.length_nil]; omega⟩⟩
 by_cases N : i = 0
 case pos =>
  refine yG ?_
  refine Lv O O U O (List.getElem?_eq_some_iff.1 u).1 ?_
  refine V O O (CE FQ O O (E.2.2.1.1) (CF f)) ?_
  refine yG ?_
  refine EF O (BZ FQ O ?_)
  intro b5 w5 aw z5 d5 x5
  have J : (vr : Value).ownBlock ≠ some b5 := fun h => by have := (Acc.lt (e3 E).1 h).2; omega
  have ci : I < b5 := by rw [aw]; exact Bx.lt (e4 E)
  have c2 : y <= b5 := by rw [aw]; exact CS (e5 E)
  replace E := E.below d5
  refine yG ?_
  refine EF O (BY FQ O O O x5 YyG (CF f) (DO (M := k) (IsI.one E.2.1) (IsI.one E.1)) ?_)
  intro w6 o6 y6
  replace E := oY E x5 o6 y6 (ds := (EW n4 s4 m4 u4 k))
  refine yG ?_
  refine V O O (CE EY O O (Cs.sub (Bx.cs E.1) 0 (EQ _ _ _ _ _)) O) ?_
  refine yG ?_
  refine EF O (CB EN O (RF _ _ _ _ q _ E.2.2.1 E.2.1) O E ?_)
  intro w7 d7 E
  refine yG ?_
  refine V O O (HY (c := true) O O O (nE o)) ?_
  refine yG ?_
  refine V O O (CE EY O O (Cs.sub (Bx.cs E.1) 0 (EQ _ _ _ _ _)) O) ?_
  refine yG ?_
  refine EF O (CV OR O (Hx _ _ _ _ q _ E.2.2.1 E.2.1 (FitQ.mono v AE)) O E ?_)
  intro w9 n9 s9 m9 t9 d9 E
  have F8 : FitQ (-q) 1000000 := VK v
  have af := E.2.2.1
  refine yG ?_
  replace E := VC E
  refine yG ?_
  refine EF O (IS (cs' := (EW n9 s9 m9 t9 k)) EY O O O af O (by rw [CF f]; decide) (IF (IsI.one E.2.1) (IsI.one E.1)) O ?_)
  intro dg c1 b8
  replace E := oY E af c1 b8 (ds := (EW n9 s9 m9 t9 k))
  have av := e6 E
  refine yG ?_
  replace E := dW E
  have bh := e6 E
  replace E := dW E
  have a6 := Bx.lt E.1
  refine EF O (FJ (s := [45]) O O O bh av.1 H YOU (CS (e6 E)) E ⟨GO AA, BX, BX, BX, BX, TJ AA, BX, LA AA, FV (CY AA), FV (CY AA), OP AA, BX⟩ (fun g hg h1 h2 => ⟨GO (fun e => J (e ▸ hg)), BX, BX, BX, BX, TJ AA, BX, LA AA, FV (CY AA), FV (CY AA), OP AA, BX⟩) ?_)
  intro dj de c0 E
  have S := c0 _ a6 J
  have a7 := bK (l := l) (c := (-q)) (M := k) hV f (VK v)
  refine yG ?_
  refine EF O (CC FS O (NG _ _ _ _ (-q) k _ l _ (e4 E) (e3 E) f (BW (RD E)) (FitQ.mono F8 AE) hV (e9 E).1) O E ?_)
  intro dd ee E
  have au := E.1
  refine yG ?_
  replace E := YE E
  have bg := E.1
  replace E := YE E
  have bq := Bx.lt E.1
  refine EF O (FJ (s := GA l (-q) k) O O O bg au.1 (.inr O) AJ (CS (e6 E)) E ⟨GO AA, BX, BX, BX, BX, TJ AA, BX, LA AA, FV (CY AA), FV (CY AA), OP AA, BX⟩ (fun g hg h1 h2 => ⟨GO (fun e => S (e ▸ hg)), BX, BX, BX, BX, TJ AA, BX, LA AA, FV (CY AA), FV (CY AA), OP AA, BX⟩) ?_)
  intro bm dc dp E
  refine yG ?_
  exact ⟨_, (by rw [T]; omega), (i + 1), (.pointer (some ⟨I, 0, none⟩)), bm, (lr ++ ([45])) ++ (GA l (-q) k), _, O, O, zE, O, ⟨by omega, .inr O, by rw [VO u, sg1 N o, C, bA o]; simp, by simp only [List.length_append, List.length_cons, List.length_nil]; omega⟩⟩
 refine yG ?_
 refine Lv O O U O (List.getElem?_eq_some_iff.1 u).1 ?_
 refine V O O (CE FQ O O (E.2.2.1.1) (CF f)) ?_
 refine yG ?_
 refine EF O (BZ FQ O ?_)
 intro aa db a2 cn cg ae
 have F : (vr : Value).ownBlock ≠ some aa := fun h => by have := (Acc.lt (e3 E).1 h).2; omega
 have c6 : I < aa := by rw [a2]; exact Bx.lt (e4 E)
 have b0 : y <= aa := by rw [a2]; exact CS (e5 E)
 replace E := E.below cg
 refine yG ?_
 refine EF O (BY FQ O O O ae YyG (CF f) (DO (M := k) (IsI.one E.2.1) (IsI.one E.1)) ?_)
 intro da bx b7
 replace E := oY E ae bx b7 (ds := (EW n4 s4 m4 u4 k))
 refine yG ?_
 refine V O O (CE EY O O (Cs.sub (Bx.cs E.1) 0 (EQ _ _ _ _ _)) O) ?_
 refine yG ?_
 refine EF O (CB EN O (RF _ _ _ _ q _ E.2.2.1 E.2.1) O E ?_)
 intro d8 ed E
 refine yG ?_
 refine V O O (HY (c := true) O O O (nE o)) ?_
 refine yG ?_
 refine V O O (CE EY O O (Cs.sub (Bx.cs E.1) 0 (EQ _ _ _ _ _)) O) ?_
 refine yG ?_
 refine EF O (CV OR O (Hx _ _ _ _ q _ E.2.2.1 E.2.1 (FitQ.mono v AE)) O E ?_)
 intro d6 aj ah ak ag ec E
 have ch : FitQ (-q) 1000000 := VK v
 have ad := E.2.2.1
 refine yG ?_
 replace E := VC E
 refine yG ?_
 refine EF O (IS (cs' := (EW aj ah ak ag k)) EY O O O ad O (by rw [CF f]; decide) (IF (IsI.one E.2.1) (IsI.one E.1)) O ?_)
 intro d4 bw b6
 replace E := oY E ad bw b6 (ds := (EW aj ah ak ag k))
 have ar := e6 E
 refine yG ?_
 replace E := dW E
 have bf := e6 E
 replace E := dW E
 have a5 := Bx.lt E.1
 refine EF O (FJ (s := [32, 45, 32]) O O O bf ar.1 H YOU (CS (e6 E)) E ⟨GO AA, BX, BX, BX, BX, TJ AA, BX, LA AA, FV (CY AA), FV (CY AA), OP AA, BX⟩ (fun g hg h1 h2 => ⟨GO (fun e => F (e ▸ hg)), BX, BX, BX, BX, TJ AA, BX, LA AA, FV (CY AA), FV (CY AA), OP AA, BX⟩) ?_)
 intro di d3 bv E
 have R := bv _ a5 F
 have a7 := bK (l := l) (c := (-q)) (M := k) hV f (VK v)
 refine yG ?_
 refine EF O (CC FS O (NG _ _ _ _ (-q) k _ l _ (e4 E) (e3 E) f (BW (RD E)) (FitQ.mono ch AE) hV (e9 E).1) O E ?_)
 intro d2 eb E
 have aq := E.1
 refine yG ?_
 replace E := YE E
 have bc := E.1
 replace E := YE E
 have bp := Bx.lt E.1
 refine EF O (FJ (s := GA l (-q) k) O O O bc aq.1 (.inr O) AJ (CS (e6 E)) E ⟨GO AA, BX, BX, BX, BX, TJ AA, BX, LA AA, FV (CY AA), FV (CY AA), OP AA, BX⟩ (fun g hg h1 h2 => ⟨GO (fun e => R (e ▸ hg)), BX, BX, BX, BX, TJ AA, BX, LA AA, FV (CY AA), FV (CY AA), OP AA, BX⟩) ?_)
 intro bl d0 dn E
 refine yG ?_
 exact ⟨_, (by rw [T]; omega), (i + 1), (.pointer (some ⟨I, 0, none⟩)), bl, (lr ++ ([32, 45, 32])) ++ (GA l (-q) k), _, O, O, zE, O, ⟨by omega, .inr O, by rw [VO u, sg3 N o, C, bA o]; simp, by simp only [List.length_append, List.length_cons, List.length_nil]; omega⟩⟩
def VV (l : List Bs) (p : List Tm) : Bs × Nat := if DM 8 l = true /\ IA p < 2 ^ l.length then (if 4000 < (GR l p).length then ([], 2) else (GR l p, 0)) else ([], 1)
theorem Co {l : List Bs} {p : List Tm} (h : DM 8 l = false) : VV l p = ([], 1) := by unfold VV; rw [if_neg (fun g => by rw [h] at g; exact absurd g.1 AE)]
theorem Cm {l : List Bs} {p : List Tm} (h : ¬ IA p < 2 ^ l.length) : VV l p = ([], 1) := by unfold VV; rw [if_neg (fun g => h g.2)]
theorem nS {l : List Bs} {p : List Tm} (h : DM 8 l = true) (h2 : IA p < 2 ^ l.length) (h3 : 4000 < (GR l p).length) : VV l p = ([], 2) := by unfold VV; rw [if_pos ⟨h, h2⟩, if_pos h3]
theorem xR {l : List Bs} {p : List Tm} (h : DM 8 l = true) (h2 : IA p < 2 ^ l.length) (h3 : ¬ 4000 < (GR l p).length) : VV l p = (GR l p, 0) := by unfold VV; rw [if_pos ⟨h, h2⟩, if_neg h3]
theorem WM {x : Bs × Nat} {a : Bs} (h : x = (a, n)) : Ending.returned (.tuple #[.string (bs a), .int .i64 ↑n]) = .returned (.tuple #[.string (bs x.1), .int .i64 ↑x.2]) := by rw [h]
theorem XA (vp : Value) (p : List Tm) (vl : Value) (l : List Bs) (w : World) (hRp : IsR JQ (DL w.heap.size) w vp p) (hRl : IsR elS (DL w.heap.size) w vl l) (hp : JS p) (hF : ∀ t ∈ p, FitQ t.1 1000000) (hL : p.length <= 1000000) (hLl : l.length <= 1000000) (hG : Glob w) :
 Calls prog 12 #[vp, vl] w (GY w (.tuple #[.string (bs (VV l p).1), .int .i64 ↑((VV l p).2)])) := by
 have E := Env.start w
 obtain ⟨B, h, rfl, u, o⟩ := hRp.shp
 replace E := E.r hRp (DZ _)
 obtain ⟨C, k, rfl, y, q⟩ := hRl.shp
 replace E := E.r hRl (DZ _)
 replace E := E.gl hG
 go_enter func12, ntmps12
 by_cases e : DM 8 l = true
 case neg =>
  refine yG ?_
  refine EF O (CA LI O (CT (DY e) (aN _ l _ (BW E.2.1) hLl)) O E ?_)
  intro D Q E
  refine yG ?_
  exact ⟨WM (a := []) (n := 1) (Co (DY e)), e3 E⟩
 by_cases f : IA p < 2 ^ l.length
 case neg =>
  refine yG ?_
  refine EF O (CA LI O (CT e (aN _ l _ (BW E.2.1) hLl)) O E ?_)
  intro H T E
  refine yG ?_
  refine EF O (CA JB O (bC _ p _ (BW E.2.2.1) hp hF hL) O E ?_)
  intro G S E
  refine yG ?_
  refine EF O (CC JM O (iH _ p _ (BW E.2.2.1) hL) O E ?_)
  intro F R E
  refine yG ?_
  refine V (v := .int .u8 ((IA p / 2 ^ (min l.length IntKind.u8.bits) : Nat) : Int)) Z O (ZY (m := IA p) (n := l.length) O O O O) ?_
  refine V Z O (RH (c := true) O O O (by rw [bne, Xx (ZW (Ek p)) f]; rfl)) ?_
  refine yG ?_
  exact ⟨WM (a := []) (n := 1) (Cm f), e3 E⟩
 refine yG ?_
 refine EF O (CA LI O (CT e (aN _ l _ (BW E.2.1) hLl)) O E ?_)
 intro N d1 E
 refine yG ?_
 refine EF O (CA JB O (bC _ p _ (BW E.2.2.1) hp hF hL) O E ?_)
 intro L Y E
 refine yG ?_
 refine EF O (CC JM O (iH _ p _ (BW E.2.2.1) hL) O E ?_)
 intro J X E
 refine yG ?_
 refine V (v := .int .u8 ((IA p / 2 ^ (min l.length IntKind.u8.bits) : Nat) : Int)) Z O (ZY (m := IA p) (n := l.length) O O O O) ?_
 refine V Z O (RH (c := false) O O O (by rw [bne, Rc (ZW (Ek p)) f]; rfl)) ?_
 refine yG ?_
 refine EF O (CC dT O (Cl _ p _ l _ (BW E.2.2.1) (BW E.2.1) hF hL e E.1.1) O E ?_)
 intro I U E
 by_cases P : (((GR l p).length : Nat) : Int) > 4000
 . refine yG ?_
   exact ⟨WM (a := []) (n := 2) (nS e f AA), e3 E⟩
 refine yG ?_
 exact ⟨WM (a := GR l p) (n := 0) (xR e f AA), e3 E⟩
set_option maxHeartbeats 8000000
set_option maxRecDepth 100000
theorem Ar (s : Bs) (w : World) (hs : s.length <= 4000) (h : DN s = none) : Calls prog 137 #[.string (bs s)] w (RetZE w 0 3) := ZC (bs s) w (by rw [ES]; exact hs) (by rw [FO]; exact h)
theorem WH (s : Bs) (z : Int) (w : World) (hs : s.length <= 4000) (h : DN s = some z) : Calls prog 137 #[.string (bs s)] w (RetZE w z 0) := MA (bs s) z w (by rw [ES]; exact hs) (by rw [FO]; exact h)
theorem Eb (s : Bs) (w : World) (hs : 4000 < s.length) (hs2 : s.length <= 1000000) : Calls prog 137 #[.string (bs s)] w (RetZE w 0 2) := by
 refine (vT (bs s) w (by rw [ES]; exact hs2)).mono ?_
 have := ES s
 rintro e k (⟨_, f⟩ | ⟨h, _⟩ | ⟨h, _⟩)
 . exact f
 . omega
 omega
theorem Ze (h : (qT x).length <= 4000) : FitQ x 4000 := by
 unfold qT NF at h
 split at h
 . rename_i h1
   rw [NE] at h
   exact ⟨JE h (XN _), by rw [h1]; exact (NB (m := 4) AE : Fits 1 4).mono AE⟩
 have e : (NT x.num ++ ⟨#[47]⟩ ++ NT ((x.den : Nat) : Int)).data.toList = txt x.num ++ [47] ++ txt ((x.den : Nat) : Int) := by
  rw [<- NE, <- NE]; simp
 rw [e, List.length_append, List.length_append] at h
 exact ⟨JE AA (XN _), JE AA (XN _)⟩
theorem dL {l : Bs} (hl : l.length <= 4000) (h : OZ l = some x) : FitQ x 4000 := by
 have := aH h
 exact Ze (by unfold qT; rw [<- this]; exact hl)
theorem Ap (s : Bs) (x : Rat) (w : World) (hs : s.length <= 4000) (h : OZ s = some x) : Calls prog 89 #[.string (bs s)] w (RetPE w x.num ((x.den : Nat) : Int) 0) := by
 refine (Hw (bs s) w).mono fun e q o => ?_
 have k : bs s = NF x := by rw [aH h, sZ]
 rcases o with ⟨p, _⟩ | ⟨_, f, _⟩ | ⟨y, _, f, l⟩
 . rw [ES] at p; omega
 . exact absurd k (f x)
 have : x = y := wF (k.symm.trans f)
 subst this; exact l
theorem Aq (s : Bs) (w : World) (hs : s.length <= 4000) (h : OZ s = none) : Calls prog 89 #[.string (bs s)] w (RetPE w 0 0 3) := by
 refine (Hw (bs s) w).mono fun e p k => ?_
 rcases k with ⟨o, _⟩ | ⟨_, _, f⟩ | ⟨y, _, l, _⟩
 . rw [ES] at o; omega
 . exact f
 exact absurd (by rw [<- l, FO] : s = (NF y).data.toList) (jV h y)
theorem Lj (va : Value) (x : Int) (w : World) (ha : IsI w va x) (h : x < -9223372036854775808 ∨ 9223372036854775807 < x) : Calls prog 147 #[va] w (RetS w 0 false) := by
 have := Ht va x w ha
 rwa [(RU h).1, (RU h).2] at this
def gD (o : Option Nat) : Nat × Bool := match o with
 | some n => (n, true)
 | none => (0, false)
theorem nW {x : Nat × Bool} {b : Bool} (h : x = (n, b)) : Ending.returned (.tuple #[.int .i64 ↑n, .bool b]) = .returned (.tuple #[.int .i64 ↑x.1, .bool x.2]) := by rw [h]
theorem nV {o : Option Nat} (h : o = none) : gD o = (0, false) := by rw [h]; rfl
theorem sS {k : Nat} (hk : 0 < k) (h : n < 10 ^ k) : (YF n).length <= k := by
 induction k generalizing n with
 | zero => omega
 | succ k ih =>
   by_cases f : n < 10
   . rw [QC n f]; simp
   rw [WX n AA, List.length_append]
   have e : 0 < k := by
    rcases Nat.eq_zero_or_pos k with rfl | g
    . simp at h; omega
    exact g
   have := ih (n := n / 10) e (by rw [Nat.pow_succ] at h; omega)
   simp only [List.length_cons, List.length_nil]; omega
theorem Oi {lo hi : Nat} {l : Bs} (hh : hi <= 1000000) (hl : 4000 < l.length) : EA lo hi l = none := by
 cases h : EA lo hi l with
 | none => rfl
 | some n =>
   exfalso
   obtain ⟨e, _, o⟩ := IW AA h
   have f := sS (k := 7) (n := n) AE AA
   rw [e] at hl
   unfold txt at hl
   rw [if_neg AA, List.nil_append, Int.natAbs_natCast] at hl
   unfold ZQ at hl
   rw [List.length_map] at hl
   omega
theorem Fg {l : Bs} (h : DN l = none) : EA lo hi l = none := by unfold EA; rw [h]
theorem iX {l : Bs} (h : DN l = some z) (hz : ¬ (lo <= z /\ z <= hi)) : EA lo hi l = none := by unfold EA; rw [h]; simp only; rw [if_neg hz]
theorem Yu {l : Bs} (h : DN l = some z) (h1 : lo <= z) (h2 : z <= hi) (h0 : 0 <= z) : Ending.returned (.tuple #[.int .i64 z, .bool true]) = .returned (.tuple #[.int .i64 ↑((gD (EA lo hi l)).1), .bool (gD (EA lo hi l)).2]) := by
 unfold EA; rw [h]; simp only; rw [if_pos ⟨h1, h2⟩]; simp only [gD]; rw [Int.toNat_of_nonneg h0]
theorem PQ (s : Bs) (lo : Nat) (hi : Nat) (w : World) (hs : s.length <= 1000000) (hh : hi <= 1000000) :
 Calls prog 101 #[.string (bs s), .int .i64 ↑lo, .int .i64 ↑hi] w (GY w (.tuple #[.int .i64 ↑((gD (EA lo hi s)).1), .bool (gD (EA lo hi s)).2])) := by
 have E := Env.start w
 go_enter func101, ntmps101
 by_cases S : 4000 < s.length
 case pos =>
  refine yG ?_
  refine EF O (CP DR O (Eb s _ S hs) O E ?_)
  intro w1 n1 s1 d1 E
  refine yG ?_
  refine EF O (BZ EC O ?_)
  intro b2 w2 F z2 d2 R
  have l2 : w.heap.size <= b2 := by rw [F]; exact E.2.1.size
  replace E := E.below d2
  refine yG ?_
  refine EF O (BY EC O O O R O O (IsI.one E.1) ?_)
  intro w3 o3 y3
  replace E := oC E R o3 y3
  refine yG ?_
  exact ⟨nW (n := 0) (b := false) (nV (Oi hh S)), E.2.2.1⟩
 by_cases e : DN s = none
 case pos =>
  refine yG ?_
  refine EF O (CP DR O (Ar s _ AA e) O E ?_)
  intro w4 n4 s4 d4 E
  refine yG ?_
  refine EF O (BZ EC O ?_)
  intro b5 w5 D z5 d5 Q
  have l5 : w.heap.size <= b5 := by rw [D]; exact E.2.1.size
  replace E := E.below d5
  refine yG ?_
  refine EF O (BY EC O O O Q O O (IsI.one E.1) ?_)
  intro w6 o6 y6
  replace E := oC E Q o6 y6
  refine yG ?_
  exact ⟨nW (n := 0) (b := false) (nV (Fg e)), E.2.2.1⟩
 obtain ⟨z, e⟩ := Option.ne_none_iff_exists'.1 e
 by_cases am : -9223372036854775808 <= z /\ z <= 9223372036854775807
 case neg =>
  refine yG ?_
  refine EF O (CP DR O (WH s z _ AA e) O E ?_)
  intro a3 ag ad ao E
  refine yG ?_
  refine EF O (BZ EC O ?_)
  intro J a2 l T G f
  have aj : w.heap.size <= J := by rw [l]; exact E.2.1.size
  replace E := E.below G
  refine yG ?_
  refine EF O (BY EC O O O f O O (IsI.one E.1) ?_)
  intro a1 v q
  replace E := oC E f v q
  refine yG ?_
  refine EF O (GK NZ O (Lj _ z _ E.2.1 AA) O E ?_)
  intro a0 an E
  refine yG ?_
  exact ⟨nW (n := 0) (b := false) (nV (iX e AA)), E.2.2.1⟩
 by_cases h2 : z < ((lo : Nat) : Int)
 . exact ZLi
 by_cases h3 : z > ((hi : Nat) : Int)
 case neg =>
  refine yG ?_
  refine EF O (CP DR O (WH s z _ AA e) O E ?_)
  intro a7 ah ae aq E
  refine yG ?_
  refine EF O (BZ EC O ?_)
  intro L a6 o U H h
  have ak : w.heap.size <= L := by rw [o]; exact E.2.1.size
  replace E := E.below H
  refine yG ?_
  refine EF O (BY EC O O O h O O (IsI.one E.1) ?_)
  intro a5 y t
  replace E := oC E h y t
  refine yG ?_
  refine EF O (GK NZ O (pP _ z _ E.2.1 AA AA) O E ?_)
  intro a4 ap E
  refine yG ?_
  exact ⟨Yu e AA AA AA, E.2.2.1⟩
 exact ZLi
theorem eN (s : Bs) (b : UInt8) (w : World) (hs : s.length <= 1000000) (hG : Glob w) (h : KY b s = none) : Calls prog 52 #[.string (bs s), .string (bs [b])] w (GY w (.tuple #[.string (bs s), .string (bs []), .bool false])) := by
 have := Az s [b] w hs hG
 rwa [zX h] at this
theorem eM (s : Bs) (b : UInt8) (x y : Bs) (w : World) (hs : s.length <= 1000000) (hG : Glob w) (h : KY b s = some (x, y)) : Calls prog 52 #[.string (bs s), .string (bs [b])] w (GY w (.tuple #[.string (bs x), .string (bs y), .bool true])) := by
 have := Az s [b] w hs hG
 rwa [zW h] at this
theorem kH (vl : Value) (l : List Bs) (x : Bs) (v : Nat) (w : World) (h : IsR elS (DL w.heap.size) w vl l) (hv : l.idxOf? x = some v) : Calls prog 125 #[vl, .string (bs x)] w (VI w ((v : Nat) : Int)) := by
 have := Hy vl l x w h
 unfold aO at this
 rwa [hv] at this
theorem iN (vl : Value) (l : List Bs) (x : Bs) (w : World) (h : IsR elS (DL w.heap.size) w vl l) (hv : l.idxOf? x = none) : Calls prog 125 #[vl, .string (bs x)] w (VI w (-1)) := by
 have := Hy vl l x w h
 unfold aO at this
 rwa [hv] at this
def gT (l : List Bs) (x : Bs) : Nat × Nat × Bool := match KY 94 x with
 | none => match l.idxOf? x with
   | none => (0, 0, false)
   | some v => (v, 1, true)
 | some (a, d) => match l.idxOf? a with
   | none => (0, 0, false)
   | some v => (v, (gD (EA 2 65535 d)).1, (gD (EA 2 65535 d)).2)
theorem uY {x : Nat × Nat × Bool} {b : Bool} (h : x = (v, n, b)) : Ending.returned (.tuple #[.int .i64 ↑v, .int .i64 ↑n, .bool b]) = .returned (.tuple #[.int .i64 ↑x.1, .int .i64 ↑x.2.1, .bool x.2.2]) := by rw [h]
theorem Xw {l : List Bs} {x : Bs} (h : KY 94 x = none) (h2 : l.idxOf? x = none) : gT l x = (0, 0, false) := by unfold gT; simp only [h, h2]
theorem Xv {l : List Bs} {x : Bs} (h : KY 94 x = none) (h2 : l.idxOf? x = some v) : gT l x = (v, 1, true) := by unfold gT; simp only [h, h2]
theorem Xu {l : List Bs} {x a d : Bs} (h : KY 94 x = some (a, d)) (h2 : l.idxOf? a = none) : gT l x = (0, 0, false) := by unfold gT; simp only [h, h2]
theorem Qo {l : List Bs} {x a d : Bs} (h : KY 94 x = some (a, d)) (h2 : l.idxOf? a = some v) : gT l x = (v, (gD (EA 2 65535 d)).1, (gD (EA 2 65535 d)).2) := by unfold gT; simp only [h, h2]
theorem Qr {l : List Bs} {x : Bs} (h : LP l x = some (v, n)) : gT l x = (v, n, true) := by
 unfold LP at h
 cases f : KY 94 x with
 | none =>
   rw [f] at h
   cases e : l.idxOf? x with
   | none => simp [e] at h
   | some u => simp only [e, Option.map_some, Option.some.injEq, Prod.mk.injEq] at h; obtain ⟨rfl, rfl⟩ := h; exact Xv f e
 | some p =>
   obtain ⟨a, d⟩ := p
   rw [f] at h
   cases e : l.idxOf? a with
   | none => simp [e] at h
   | some u =>
     cases o : EA 2 65535 d with
     | none => simp [e, o] at h
     | some k =>
       simp only [e, o, Option.some.injEq, Prod.mk.injEq] at h
       obtain ⟨rfl, rfl⟩ := h
       rw [Qo f e, o]; rfl
theorem Gu {l : List Bs} {x : Bs} (h : LP l x = none) : ∃ v n, gT l x = (v, n, false) := by
 unfold LP at h
 cases f : KY 94 x with
 | none =>
   rw [f] at h
   cases e : l.idxOf? x with
   | none => exact ⟨_, _, Xw f e⟩
   | some u => simp [e] at h
 | some p =>
   obtain ⟨a, d⟩ := p
   rw [f] at h
   cases e : l.idxOf? a with
   | none => exact ⟨_, _, Xu f e⟩
   | some u =>
     cases o : EA 2 65535 d with
     | none => exact ⟨_, _, by rw [Qo f e, o]; rfl⟩
     | some k => simp [e, o] at h
theorem Wh {b : UInt8} {x a d : Bs} (h : KY b x = some (a, d)) : a.length <= x.length /\ d.length <= x.length := by
 obtain ⟨rfl, _⟩ := cutB_some.1 h
 simp; omega
theorem fP (s : Bs) (vl : Value) (l : List Bs) (w : World) (hRl : IsR elS (DL w.heap.size) w vl l) (hs : s.length <= 1000000) (hG : Glob w) :
 Calls prog 90 #[.string (bs s), vl] w (GY w (.tuple #[.int .i64 ↑((gT l s).1), .int .i64 ↑((gT l s).2.1), .bool (gT l s).2.2])) := by
 have E := Env.start w
 obtain ⟨q, k, rfl, p, o⟩ := hRl.shp
 replace E := E.r hRl (DZ _)
 replace E := E.gl hG
 go_enter func90, ntmps90
 by_cases e : KY 94 s = none
 case pos =>
  by_cases f : l.idxOf? s = none
  . refine yG ?_
    refine EF O (CC JL O (eN s 94 _ hs E.1.1 e) O E ?_)
    intro H T E
    refine yG ?_
    refine EF O (CB FN O (iN _ l s _ (BW E.2.1) f) O E ?_)
    intro G S E
    refine yG ?_
    exact ⟨uY (v := 0) (n := 0) (b := false) (Xw e f), E.2.2.1⟩
  obtain ⟨v, h⟩ := Option.ne_none_iff_exists'.1 f
  refine yG ?_
  refine EF O (CC JL O (eN s 94 _ hs E.1.1 e) O E ?_)
  intro F R E
  refine yG ?_
  refine EF O (CB FN O (kH _ l s v _ (BW E.2.1) h) O E ?_)
  intro D Q E
  refine yG ?_
  exact ⟨uY (v := v) (n := 1) (b := true) (Xv e h), E.2.2.1⟩
 obtain ⟨⟨a, d⟩, e⟩ := Option.ne_none_iff_exists'.1 e
 by_cases f : l.idxOf? a = none
 . refine yG ?_
   refine EF O (CC JL O (eM s 94 a d _ hs E.1.1 e) O E ?_)
   intro C P E
   refine yG ?_
   refine EF O (CB FN O (iN _ l a _ (BW E.2.1) f) O E ?_)
   intro B N E
   refine yG ?_
   exact ⟨uY (v := 0) (n := 0) (b := false) (Xu e f), E.2.2.1⟩
 obtain ⟨v, h⟩ := Option.ne_none_iff_exists'.1 f
 refine yG ?_
 refine EF O (CC JL O (eM s 94 a d _ hs E.1.1 e) O E ?_)
 intro y L E
 refine yG ?_
 refine EF O (CB FN O (kH _ l a v _ (BW E.2.1) h) O E ?_)
 intro u J E
 refine yG ?_
 refine EF O (CC IR O (PQ d 2 65535 _ (by have := Wh e; omega) AE) O E ?_)
 intro t I E
 refine yG ?_
 exact ⟨uY (v := v) (n := _) (b := _) (Qo e h), E.2.2.1⟩
end Go.Proofs.YtmppigbbkjepiaaGreatDoor
