/- Helping facts of PolyT; no other conditions. Helping facts of Read1; no other conditions. -/
import Derived.Test.YtmppigbbkjepiaaGreatDoorKitK
set_option maxHeartbeats 8000000
set_option maxRecDepth 100000
namespace Go.Proofs.YtmppigbbkjepiaaGreatDoor
open Go.Proofs.Tryz
open Go.RowKit W
theorem Uo : Ag prog 105 2 [.pointer none, .slice none 0 0] := ⟨⟨_, underlying105, rfl⟩, by kernel_rfl, rfl⟩
theorem EQ {o : Oper} {a : Act} {w : World} {K : Act → World → Prop} {Q : Exit → Act → World → Prop} {x y : Operand} {tys : Array TypeId} {b base : Nat} {p v : Value} {l s : Bs} {L : List SF}
    (ho : o.op = .call { callee := .value (.func 48), args := [x, y].toArray, argTypes := tys }) (hx : a.eval x = .pointer (some ⟨b, 0, none⟩)) (hy : a.eval y = .string (bs s))
    (hb : Bx w b ZR [p, v]) (hA : Acc elB 5 base WI w v l) (hp : p = .pointer none ∨ p = .pointer (some ⟨b, 0, none⟩)) (hlen : l.length + s.length ≤ 140737488355328) (hbase : base ≤ w.heap.size)
    (E : Env w L) (hk : Ok b L) (hg : ∀ g, v.ownBlock = some g → base ≤ g → g < w.heap.size → Ok g L)
    (h : ∀ v' w', (∀ c, c < w.heap.size → v.ownBlock ≠ some c → v'.ownBlock ≠ some c) → Env w' (fA elB 5 base WI v' (l ++ s) :: fX b ZR [.pointer (some ⟨b, 0, none⟩), v'] :: L) → K (a.put o.dst (.tuple #[.int .i64 ↑s.length, .nilIface])) w') : o.wp prog a w K Q := by
  refine DB ⟨_, func48, by kernel_rfl, O⟩ ho (mV b base p v l s w hb hA hp hlen hbase) (by simp [hx, hy]) ?_
  rintro e w' ⟨rfl, v', t, q, u, f, k⟩
  exact ⟨_, rfl, h v' w' f ((k L E hk hg).x t |>.a q (TH _))⟩
theorem vT {w : World} {b base B : Nat} {p v : Value} {l : Bs} (hb : Bx w b ZR [p, v]) (hA : Acc elB 5 base WI w v l) (hp : p = .pointer none ∨ p = .pointer (some ⟨b, 0, none⟩)) (h1 : B ≤ b) (h2 : B ≤ base) (h3 : B ≤ w.heap.size) :
    Calls prog 51 #[.pointer (some ⟨b, 0, none⟩)] w fun e w' => e = .returned (.string (bs l)) ∧ Below B w w' := by
  have o := Du hA
  have f : w.ownsRow B 5 1 v (Lib.byteCells l).length (Lib.byteCells l) := by
    rw [show (Lib.byteCells l).length = l.length from List.length_map _]
    refine ⟨o.1, ?_⟩
    rcases o.own.2 with h | ⟨g, t, q, u, y, r⟩
    · exact .inl h
    · exact .inr ⟨g, t, q, u, Nat.le_trans h2 y, r⟩
  have k : Lib.BuilderAt ZR 5 B b p (Lib.byteCells l) w := ⟨h1, v, hb, f, xM o hb Wg⟩
  exact Tryz.Builder_String_any B b l w (hp.elim (fun e => .inl (e ▸ k)) fun e => .inr (e ▸ k)) h3
theorem rat_neg {c : Rat} : c < 0 ↔ c.num < 0 := by
  rw [← Rat.not_le, ← Int.not_le]
  exact not_congr Rat.num_nonneg.symm
theorem sZ {c : Rat} (h : c < 0) : decide (OB c.num < 0) = true := Be (rat_neg.1 h)
theorem Bd {c : Rat} (h : ¬ c < 0) : decide (OB c.num < 0) = false := by
  have e : ¬ c.num < 0 := fun g => h (rat_neg.2 g)
  rcases LS c.num with g | g | g
  · omega
  · rw [g.2]; rfl
  · rw [g.2]; rfl
theorem fP (l : List Bs) (c : Rat) (mm : List Nat) : ∀ (f : Bool) (p : List Tm), GQ l f (p ++ [(c, mm)]) = GQ l f p ++ (RG (f && p.isEmpty) (decide (c < 0)) ++ FB l (QN c) mm)
  | f, [] => by simp [GQ]
  | f, (d, k) :: p => by
    simp only [List.cons_append, GQ]
    rw [fP l c mm false p]
    simp [List.append_assoc]
theorem SR {l : List Bs} {p : List Tm} {i : Nat} {c : Rat} {mm : List Nat} (h : p[i]? = some (c, mm)) :
    GQ l true (p.take (i + 1)) = GQ l true (p.take i) ++ (RG (decide (i = 0)) (decide (c < 0)) ++ FB l (QN c) mm) := by
  rw [MF h, fP]
  have k := (List.getElem?_eq_some_iff.1 h).1
  congr 3
  rw [Bool.true_and]
  by_cases f : i = 0
  · subst f; simp
  · rw [decide_eq_false f, List.isEmpty_eq_false_iff]
    intro e
    have := congrArg List.length e
    rw [List.length_take, List.length_nil] at this
    omega
theorem sg1 {i : Nat} {c : Rat} (h0 : i = 0) (hc : c < 0) : RG (decide (i = 0)) (decide (c < 0)) = [45] := by rw [decide_eq_true h0, decide_eq_true hc]; rfl
theorem sg2 {i : Nat} {c : Rat} (h0 : i = 0) (hc : ¬ c < 0) : RG (decide (i = 0)) (decide (c < 0)) = [] := by rw [decide_eq_true h0, decide_eq_false hc]; rfl
theorem sg3 {i : Nat} {c : Rat} (h0 : ¬ i = 0) (hc : c < 0) : RG (decide (i = 0)) (decide (c < 0)) = [32, 45, 32] := by rw [decide_eq_false h0, decide_eq_true hc]; rfl
theorem sg4 {i : Nat} {c : Rat} (h0 : ¬ i = 0) (hc : ¬ c < 0) : RG (decide (i = 0)) (decide (c < 0)) = [32, 43, 32] := by rw [decide_eq_false h0, decide_eq_false hc]; rfl
theorem xS {l : List Bs} {p : List Tm} (h : p.length = 0) : [48] = DQ l p := by rw [List.eq_nil_of_length_eq_zero h]; rfl
theorem Gf {l : List Bs} {p : List Tm} (h : ¬ p.length = 0) : GQ l true p = DQ l p := by unfold DQ; rw [if_neg (fun e => h (by rw [e]; rfl))]
theorem xT (vp : Value) (p : List Tm) (vl : Value) (l : List Bs) (w : World) (hRp : IsR JP (DD w.heap.size) w vp p) (hRl : IsR elS (DD w.heap.size) w vl l) (hF : ∀ t ∈ p, FitQ t.1 1000000) (hL : p.length ≤ 1000000) (hV : DF 8 l = true) (hG : Glob w) :
    Calls prog 39 #[vp, vl] w (GJ w (.string (bs (DQ l p)))) := by
 have E := Env.start w
 obtain ⟨Y, G, rfl, dt, dq⟩ := hRp.shp
 replace E := E.r hRp (DK _)
 obtain ⟨ay, a3, rfl, du, dr⟩ := hRl.shp
 replace E := E.r hRl (DK _)
 have dw := hG.two
 replace E := E.gl hG
 go_enter func39, ntmps39
 by_cases h0 : ((p.length : Nat) : Int) = 0
 case pos =>
  refine yG ?_
  exact ⟨jN (xS AA), e3 E⟩
 refine yG ?_
 refine EF O (CB Uo O ?_)
 intro J w1 cc z1 d1 x1
 have l1 : w.heap.size ≤ J := by rw [cc]; exact (e3 E).size
 replace E := E.below d1
 replace E := E.x x1
 obtain ⟨z, N⟩ : ∃ n, n = w1.heap.size := ⟨_, rfl⟩
 have cj : w.heap.size ≤ z := by rw [N]; exact (e4 E).size
 have b3 : J < z := by rw [N]; exact Bx.lt E.1
 replace E := (E.sz (Nat.le_of_eq N)).a (Acc.nil elB 5 z WI _) (TH _)
 refine yG ?_
 refine wp_loop_ghost (fun mz a w' => ∃ (i : Nat) (pr : Value) (vr : Value) (lr : Bs) (f : List Value), f = a.tmps.toList ∧ a = ⟨#[.slice Y p.length G, .slice ay l.length a3, undef, undef, .string (bs ([])), .pointer (some ⟨J, 0, none⟩), CE f 6, CE f 7, CE f 8, .slice Y p.length G, .int .i64 ↑p.length, .bool false, .slice Y p.length G, .int .i64 ↑p.length, .int .i64 ↑i, CE f 15, CE f 16, CE f 17, CE f 18, CE f 19, CE f 20, CE f 21, CE f 22, CE f 23, CE f 24, CE f 25, CE f 26, CE f 27, CE f 28, CE f 29, CE f 30, CE f 31, CE f 32, CE f 33, CE f 34, CE f 35, CE f 36, CE f 37, CE f 38, CE f 39, CE f 40, CE f 41, CE f 42, CE f 43, CE f 44, CE f 45, CE f 46, CE f 47, CE f 48, CE f 49, CE f 50, undef], []⟩ ∧ Env w' [fA elB 5 z WI vr lr, fX J (105) ([pr, vr]), oZ z, fGl, fR elS (DD w.heap.size) (.slice ay l.length a3) l, fR JP (DD w.heap.size) (.slice Y p.length G) p, fW w] ∧ mz = p.length - i ∧ (i ≤ p.length ∧ (pr = .pointer none ∨ pr = .pointer (some ⟨J, 0, none⟩)) ∧ lr = GQ l true (p.take i) ∧ lr.length ≤ i * 31000010)) (p.length) ⟨0, (.pointer none), (.slice none 0 0), [], _, O, O, zE, O, ⟨Nat.zero_le _, .inl O, by simp [GQ], by simp⟩⟩ ?_
 rintro m3 _ w3 ⟨i, pr, vr, lr, f, -, rfl, E, U, an⟩
 obtain ⟨an, hJ⟩ := an
 by_cases hi : i < p.length
 case neg =>
  obtain ⟨H, C, c9⟩ := hJ
  rw [KZ hi] at C
  subst C
  refine yG ?_
  refine EF O (DB ⟨_, func51, by kernel_rfl, O⟩ O (vT (B := w.heap.size) E.2.1 E.1.1 H AA AA (e6 E).size) O ?_)
  rintro _ bi ⟨rfl, cd⟩
  refine ⟨_, O, ?_⟩
  replace E : Env bi [fW w] := ⟨Below.trans (e6 E) cd, BX⟩
  refine yG ?_
  exact ⟨jN (Gf AA), E.1⟩
 obtain ⟨⟨u, o⟩, v⟩ : ∃ x, p[i]? = some x := ⟨_, List.getElem?_eq_getElem hi⟩
 obtain ⟨aj, dk, _, X, am, cb, ⟨n4, s4, m4, u4, rfl, c7, ca, k⟩⟩ := IsR.at (e5 E).1 v
 have c8 : aj < _ := (e5 E).2 _ am
 replace E := ((E.c cb c8).i c7).i ca
 have dv : aj < w.heap.size := am
 have y := hF _ (List.mem_of_getElem? v)
 obtain ⟨H, C, c9⟩ := hJ
 by_cases q : u < 0
 case neg =>
  by_cases P : i = 0
  case pos =>
   refine yG ?_
   refine Ja O O X O (List.getElem?_eq_some_iff.1 v).1 ?_
   refine V O O (CD KP O O (E.2.2.1.1) (CM k)) ?_
   refine yG ?_
   refine EF O (CB KP O ?_)
   intro aa cz a1 cm cf ad
   have R : (vr : Value).ownBlock ≠ some aa := fun h => by have := (Acc.lt (e3 E).1 h).2; omega
   have c5 : J < aa := by rw [a1]; exact Bx.lt (e4 E)
   have b0 : z ≤ aa := by rw [a1]; exact CR (e5 E)
   replace E := E.below cf
   refine yG ?_
   refine EF O (BY KP O O O ad (by first | rfl | exact CM CZ) (CM k) (GD (M := o) (IsI.one E.2.1) (IsI.one E.1)) ?_)
   intro cy bu b6
   replace E := oY E ad bu b6 (ds := (HY n4 s4 m4 u4 o))
   refine yG ?_
   refine V O O (CD GV O O (Cs.sub (Bx.cs E.1) 0 (FG _ _ _ _ _)) O) ?_
   refine yG ?_
   refine EF O (CK DV O (PI _ _ _ _ u _ E.2.2.1 E.2.1) O E ?_)
   intro cx ea E
   refine yG ?_
   refine V O O (PN (c := false) O O O (Bd q)) ?_
   have a8 := YM (l := l) (c := u) (M := o) hV k y
   refine yG ?_
   refine EF O (BZ EY O (LP _ _ _ _ u o _ l _ E.2.2.1 E.2.1 k (BW (e8 E)) (FitQ.mono y AE) hV (e7 E).1) O E ?_)
   intro cw dz E
   have aq := e4 E
   refine yG ?_
   replace E := pC E
   have bc := e4 E
   replace E := pC E
   have bo := Bx.lt E.1
   refine EF O (EQ (s := FB l u o) O O O bc aq.1 H AJ (CR (e4 E)) E ⟨CQ AA, BX, BX, SI AA, BX, EG AA, DR (CJ AA), DR (CJ AA), IS AA, BX⟩ (fun g I h1 h2 => ⟨CQ (fun e => R (e ▸ I)), BX, BX, SI AA, BX, EG AA, DR (CJ AA), DR (CJ AA), IS AA, BX⟩) ?_)
   intro bk cv dm E
   refine yG ?_
   exact ⟨_, (by rw [U]; omega), (i + 1), (.pointer (some ⟨J, 0, none⟩)), bk, lr ++ (FB l u o), _, O, O, zE, O, ⟨by omega, .inr O, by rw [SR v, sg2 P q, C, UO q]; simp, by simp only [List.length_append]; omega⟩⟩
  refine yG ?_
  refine Ja O O X O (List.getElem?_eq_some_iff.1 v).1 ?_
  refine V O O (CD KP O O (E.2.2.1.1) (CM k)) ?_
  refine yG ?_
  refine EF O (CB KP O ?_)
  intro a9 cu a0 ck ce ac
  have D : (vr : Value).ownBlock ≠ some a9 := fun h => by have := (Acc.lt (e3 E).1 h).2; omega
  have c3 : J < a9 := by rw [a0]; exact Bx.lt (e4 E)
  have az : z ≤ a9 := by rw [a0]; exact CR (e5 E)
  replace E := E.below ce
  refine yG ?_
  refine EF O (BY KP O O O ac (by first | rfl | exact CM CZ) (CM k) (GD (M := o) (IsI.one E.2.1) (IsI.one E.1)) ?_)
  intro ct bt b4
  replace E := oY E ac bt b4 (ds := (HY n4 s4 m4 u4 o))
  refine yG ?_
  refine V O O (CD GV O O (Cs.sub (Bx.cs E.1) 0 (FG _ _ _ _ _)) O) ?_
  refine yG ?_
  refine EF O (CK DV O (PI _ _ _ _ u _ E.2.2.1 E.2.1) O E ?_)
  intro cr dy E
  refine yG ?_
  refine V O O (PN (c := false) O O O (Bd q)) ?_
  have ap := e4 E
  refine yG ?_
  replace E := pC E
  have bb := e4 E
  replace E := pC E
  have a4 := Bx.lt E.1
  refine EF O (EQ (s := [32, 43, 32]) O O O bb ap.1 H (by simp only [List.length_cons, List.length_nil]; omega) (CR (e4 E)) E ⟨CQ AA, BX, BX, SI AA, BX, EG AA, DR (CJ AA), DR (CJ AA), IS AA, BX⟩ (fun g I h1 h2 => ⟨CQ (fun e => D (e ▸ I)), BX, BX, SI AA, BX, EG AA, DR (CJ AA), DR (CJ AA), IS AA, BX⟩) ?_)
  intro dh cq br E
  have Q := br _ a4 D
  have a8 := YM (l := l) (c := u) (M := o) hV k y
  refine yG ?_
  refine EF O (BZ EY O (LP _ _ _ _ u o _ l _ (e4 E) (e3 E) k (BW (e8 E)) (FitQ.mono y AE) hV (e7 E).1) O E ?_)
  intro cp dx E
  have ao := E.1
  refine yG ?_
  replace E := WJ E
  have ba := E.1
  replace E := WJ E
  have bn := Bx.lt E.1
  refine EF O (EQ (s := FB l u o) O O O ba ao.1 (.inr O) AJ (CR (e4 E)) E ⟨CQ AA, BX, BX, SI AA, BX, EG AA, DR (CJ AA), DR (CJ AA), IS AA, BX⟩ (fun g I h1 h2 => ⟨CQ (fun e => Q (e ▸ I)), BX, BX, SI AA, BX, EG AA, DR (CJ AA), DR (CJ AA), IS AA, BX⟩) ?_)
  intro bj co dl E
  refine yG ?_
  exact ⟨_, (by rw [U]; omega), (i + 1), (.pointer (some ⟨J, 0, none⟩)), bj, (lr ++ ([32, 43, 32])) ++ (FB l u o), _, O, O, zE, O, ⟨by omega, .inr O, by rw [SR v, sg4 P q, C, UO q]; simp, by simp only [List.length_append, List.length_cons, List.length_nil]; omega⟩⟩
 by_cases P : i = 0
 case pos =>
  refine yG ?_
  refine Ja O O X O (List.getElem?_eq_some_iff.1 v).1 ?_
  refine V O O (CD KP O O (E.2.2.1.1) (CM k)) ?_
  refine yG ?_
  refine EF O (CB KP O ?_)
  intro b5 w5 ax z5 d5 x5
  have L : (vr : Value).ownBlock ≠ some b5 := fun h => by have := (Acc.lt (e3 E).1 h).2; omega
  have ci : J < b5 := by rw [ax]; exact Bx.lt (e4 E)
  have c2 : z ≤ b5 := by rw [ax]; exact CR (e5 E)
  replace E := E.below d5
  refine yG ?_
  refine EF O (BY KP O O O x5 (by first | rfl | exact CM CZ) (CM k) (GD (M := o) (IsI.one E.2.1) (IsI.one E.1)) ?_)
  intro w6 o6 y6
  replace E := oY E x5 o6 y6 (ds := (HY n4 s4 m4 u4 o))
  refine yG ?_
  refine V O O (CD GV O O (Cs.sub (Bx.cs E.1) 0 (FG _ _ _ _ _)) O) ?_
  refine yG ?_
  refine EF O (CK DV O (PI _ _ _ _ u _ E.2.2.1 E.2.1) O E ?_)
  intro w7 d7 E
  refine yG ?_
  refine V O O (PN (c := true) O O O (sZ q)) ?_
  refine yG ?_
  refine V O O (CD GV O O (Cs.sub (Bx.cs E.1) 0 (FG _ _ _ _ _)) O) ?_
  refine yG ?_
  refine EF O (CV NH O (Eb _ _ _ _ u _ E.2.2.1 E.2.1 (FitQ.mono y AE)) O E ?_)
  intro w9 n9 s9 m9 t9 d9 E
  have F8 : FitQ (-u) 1000000 := YG y
  have ag := E.2.2.1
  refine yG ?_
  replace E := mC E
  refine yG ?_
  refine EF O (MD (cs' := (HY n9 s9 m9 t9 o)) GV O O O ag O (by rw [CM k]; decide) (MH (IsI.one E.2.1) (IsI.one E.1)) O ?_)
  intro dg c1 b9
  replace E := oY E ag c1 b9 (ds := (HY n9 s9 m9 t9 o))
  have aw := e6 E
  refine yG ?_
  replace E := uY E
  have bh := e6 E
  replace E := uY E
  have a7 := Bx.lt E.1
  refine EF O (EQ (s := [45]) O O O bh aw.1 H (by simp only [List.length_cons, List.length_nil]; omega) (CR (e6 E)) E ⟨CQ AA, BX, BX, BX, BX, SI AA, BX, EG AA, DR (CJ AA), DR (CJ AA), IS AA, BX⟩ (fun g I h1 h2 => ⟨CQ (fun e => L (e ▸ I)), BX, BX, BX, BX, SI AA, BX, EG AA, DR (CJ AA), DR (CJ AA), IS AA, BX⟩) ?_)
  intro dj de c0 E
  have T := c0 _ a7 L
  have a8 := YM (l := l) (c := (-u)) (M := o) hV k (YG y)
  refine yG ?_
  refine EF O (BZ EY O (LP _ _ _ _ (-u) o _ l _ (e4 E) (e3 E) k (BW (QM E)) (FitQ.mono F8 AE) hV (e9 E).1) O E ?_)
  intro dd ee E
  have av := E.1
  refine yG ?_
  replace E := WJ E
  have bg := E.1
  replace E := WJ E
  have bq := Bx.lt E.1
  refine EF O (EQ (s := FB l (-u) o) O O O bg av.1 (.inr O) AJ (CR (e6 E)) E ⟨CQ AA, BX, BX, BX, BX, SI AA, BX, EG AA, DR (CJ AA), DR (CJ AA), IS AA, BX⟩ (fun g I h1 h2 => ⟨CQ (fun e => T (e ▸ I)), BX, BX, BX, BX, SI AA, BX, EG AA, DR (CJ AA), DR (CJ AA), IS AA, BX⟩) ?_)
  intro bm dc dp E
  refine yG ?_
  exact ⟨_, (by rw [U]; omega), (i + 1), (.pointer (some ⟨J, 0, none⟩)), bm, (lr ++ ([45])) ++ (FB l (-u) o), _, O, O, zE, O, ⟨by omega, .inr O, by rw [SR v, sg1 P q, C, YA q]; simp, by simp only [List.length_append, List.length_cons, List.length_nil]; omega⟩⟩
 refine yG ?_
 refine Ja O O X O (List.getElem?_eq_some_iff.1 v).1 ?_
 refine V O O (CD KP O O (E.2.2.1.1) (CM k)) ?_
 refine yG ?_
 refine EF O (CB KP O ?_)
 intro ab db a2 cn cg af
 have F : (vr : Value).ownBlock ≠ some ab := fun h => by have := (Acc.lt (e3 E).1 h).2; omega
 have c6 : J < ab := by rw [a2]; exact Bx.lt (e4 E)
 have b2 : z ≤ ab := by rw [a2]; exact CR (e5 E)
 replace E := E.below cg
 refine yG ?_
 refine EF O (BY KP O O O af (by first | rfl | exact CM CZ) (CM k) (GD (M := o) (IsI.one E.2.1) (IsI.one E.1)) ?_)
 intro da bx b8
 replace E := oY E af bx b8 (ds := (HY n4 s4 m4 u4 o))
 refine yG ?_
 refine V O O (CD GV O O (Cs.sub (Bx.cs E.1) 0 (FG _ _ _ _ _)) O) ?_
 refine yG ?_
 refine EF O (CK DV O (PI _ _ _ _ u _ E.2.2.1 E.2.1) O E ?_)
 intro d8 ed E
 refine yG ?_
 refine V O O (PN (c := true) O O O (sZ q)) ?_
 refine yG ?_
 refine V O O (CD GV O O (Cs.sub (Bx.cs E.1) 0 (FG _ _ _ _ _)) O) ?_
 refine yG ?_
 refine EF O (CV NH O (Eb _ _ _ _ u _ E.2.2.1 E.2.1 (FitQ.mono y AE)) O E ?_)
 intro d6 ak ai al ah ec E
 have ch : FitQ (-u) 1000000 := YG y
 have ae := E.2.2.1
 refine yG ?_
 replace E := mC E
 refine yG ?_
 refine EF O (MD (cs' := (HY ak ai al ah o)) GV O O O ae O (by rw [CM k]; decide) (MH (IsI.one E.2.1) (IsI.one E.1)) O ?_)
 intro d4 bw b7
 replace E := oY E ae bw b7 (ds := (HY ak ai al ah o))
 have au := e6 E
 refine yG ?_
 replace E := uY E
 have bf := e6 E
 replace E := uY E
 have a6 := Bx.lt E.1
 refine EF O (EQ (s := [32, 45, 32]) O O O bf au.1 H (by simp only [List.length_cons, List.length_nil]; omega) (CR (e6 E)) E ⟨CQ AA, BX, BX, BX, BX, SI AA, BX, EG AA, DR (CJ AA), DR (CJ AA), IS AA, BX⟩ (fun g I h1 h2 => ⟨CQ (fun e => F (e ▸ I)), BX, BX, BX, BX, SI AA, BX, EG AA, DR (CJ AA), DR (CJ AA), IS AA, BX⟩) ?_)
 intro di d3 bv E
 have S := bv _ a6 F
 have a8 := YM (l := l) (c := (-u)) (M := o) hV k (YG y)
 refine yG ?_
 refine EF O (BZ EY O (LP _ _ _ _ (-u) o _ l _ (e4 E) (e3 E) k (BW (QM E)) (FitQ.mono ch AE) hV (e9 E).1) O E ?_)
 intro d2 eb E
 have ar := E.1
 refine yG ?_
 replace E := WJ E
 have bd := E.1
 replace E := WJ E
 have bp := Bx.lt E.1
 refine EF O (EQ (s := FB l (-u) o) O O O bd ar.1 (.inr O) AJ (CR (e6 E)) E ⟨CQ AA, BX, BX, BX, BX, SI AA, BX, EG AA, DR (CJ AA), DR (CJ AA), IS AA, BX⟩ (fun g I h1 h2 => ⟨CQ (fun e => S (e ▸ I)), BX, BX, BX, BX, SI AA, BX, EG AA, DR (CJ AA), DR (CJ AA), IS AA, BX⟩) ?_)
 intro bl d0 dn E
 refine yG ?_
 exact ⟨_, (by rw [U]; omega), (i + 1), (.pointer (some ⟨J, 0, none⟩)), bl, (lr ++ ([32, 45, 32])) ++ (FB l (-u) o), _, O, O, zE, O, ⟨by omega, .inr O, by rw [SR v, sg3 P q, C, YA q]; simp, by simp only [List.length_append, List.length_cons, List.length_nil]; omega⟩⟩
def RO (l : List Bs) (p : List Tm) : Bs × Nat := if DF 8 l = true ∧ EA p < 2 ^ l.length then (if 4000 < (DQ l p).length then ([], 2) else (DQ l p, 0)) else ([], 1)
theorem xY {l : List Bs} {p : List Tm} (h : DF 8 l = false) : RO l p = ([], 1) := by unfold RO; rw [if_neg (fun g => by rw [h] at g; exact absurd g.1 AE)]
theorem xX {l : List Bs} {p : List Tm} (h : ¬ EA p < 2 ^ l.length) : RO l p = ([], 1) := by unfold RO; rw [if_neg (fun g => h g.2)]
theorem kE {l : List Bs} {p : List Tm} (h : DF 8 l = true) (h2 : EA p < 2 ^ l.length) (h3 : 4000 < (DQ l p).length) : RO l p = ([], 2) := by unfold RO; rw [if_pos ⟨h, h2⟩, if_pos h3]
theorem kD {l : List Bs} {p : List Tm} (h : DF 8 l = true) (h2 : EA p < 2 ^ l.length) (h3 : ¬ 4000 < (DQ l p).length) : RO l p = (DQ l p, 0) := by unfold RO; rw [if_pos ⟨h, h2⟩, if_neg h3]
theorem TO {x : Bs × Nat} {a : Bs} {n : Nat} (h : x = (a, n)) : Ending.returned (.tuple #[.string (bs a), .int .i64 ↑n]) = .returned (.tuple #[.string (bs x.1), .int .i64 ↑x.2]) := by rw [h]
theorem PK (vp : Value) (p : List Tm) (vl : Value) (l : List Bs) (w : World) (hRp : IsR JP (DD w.heap.size) w vp p) (hRl : IsR elS (DD w.heap.size) w vl l) (hp : EJ p) (hF : ∀ t ∈ p, FitQ t.1 1000000) (hL : p.length ≤ 1000000) (hLl : l.length ≤ 1000000) (hG : Glob w) :
    Calls prog 12 #[vp, vl] w (GJ w (.tuple #[.string (bs (RO l p).1), .int .i64 ↑((RO l p).2)])) := by
 have E := Env.start w
 obtain ⟨z, h, rfl, u, o⟩ := hRp.shp
 replace E := E.r hRp (DK _)
 obtain ⟨B, k, rfl, y, q⟩ := hRl.shp
 replace E := E.r hRl (DK _)
 replace E := E.gl hG
 go_enter func12, ntmps12
 by_cases e : DF 8 l = true
 case neg =>
  refine yG ?_
  refine EF O (CA JV O (CU (ET e) (XK _ l _ (BW E.2.1) hLl)) O E ?_)
  intro C P E
  refine yG ?_
  exact ⟨TO (a := []) (n := 1) (xY (ET e)), e3 E⟩
 by_cases f : EA p < 2 ^ l.length
 case neg =>
  refine yG ?_
  refine EF O (CA JV O (CU e (XK _ l _ (BW E.2.1) hLl)) O E ?_)
  intro G S E
  refine yG ?_
  refine EF O (CA HJ O (YD _ p _ (BW E.2.2.1) hp hF hL) O E ?_)
  intro F R E
  refine yG ?_
  refine EF O (BZ IK O (dO _ p _ (BW E.2.2.1) hL) O E ?_)
  intro D Q E
  refine yG ?_
  refine V (v := .int .u8 ((EA p / 2 ^ (min l.length IntKind.u8.bits) : Nat) : Int)) Z O (OC (m := EA p) (n := l.length) O O O O) ?_
  refine V Z O (UZ (c := true) O O O (by rw [bne, Uh (WT (Aq p)) f]; rfl)) ?_
  refine yG ?_
  exact ⟨TO (a := []) (n := 1) (xX f), e3 E⟩
 refine yG ?_
 refine EF O (CA JV O (CU e (XK _ l _ (BW E.2.1) hLl)) O E ?_)
 intro L Y E
 refine yG ?_
 refine EF O (CA HJ O (YD _ p _ (BW E.2.2.1) hp hF hL) O E ?_)
 intro J X E
 refine yG ?_
 refine EF O (BZ IK O (dO _ p _ (BW E.2.2.1) hL) O E ?_)
 intro I U E
 refine yG ?_
 refine V (v := .int .u8 ((EA p / 2 ^ (min l.length IntKind.u8.bits) : Nat) : Int)) Z O (OC (m := EA p) (n := l.length) O O O O) ?_
 refine V Z O (UZ (c := false) O O O (by rw [bne, Nm (WT (Aq p)) f]; rfl)) ?_
 refine yG ?_
 refine EF O (BZ aK O (xT _ p _ l _ (BW E.2.2.1) (BW E.2.1) hF hL e E.1.1) O E ?_)
 intro H T E
 by_cases N : (((DQ l p).length : Nat) : Int) > 4000
 case pos =>
  refine yG ?_
  exact ⟨TO (a := []) (n := 2) (kE e f AA), e3 E⟩
 refine yG ?_
 exact ⟨TO (a := DQ l p) (n := 0) (kD e f AA), e3 E⟩
end Go.Proofs.YtmppigbbkjepiaaGreatDoor
set_option maxHeartbeats 8000000
set_option maxRecDepth 100000
namespace Go.Proofs.YtmppigbbkjepiaaGreatDoor
open Go.Proofs.Tryz
open Go.RowKit W
theorem wB (s : Bs) (w : World) (hs : s.length ≤ 4000) (h : DP s = none) : Calls prog 137 #[.string (bs s)] w (RetZE w 0 3) := VQ (bs s) w (by rw [EX]; exact hs) (by rw [FL]; exact h)
theorem TK (s : Bs) (z : Int) (w : World) (hs : s.length ≤ 4000) (h : DP s = some z) : Calls prog 137 #[.string (bs s)] w (RetZE w z 0) := KO (bs s) z w (by rw [EX]; exact hs) (by rw [FL]; exact h)
theorem Ah (s : Bs) (w : World) (hs : 4000 < s.length) (hs2 : s.length ≤ 1000000) : Calls prog 137 #[.string (bs s)] w (RetZE w 0 2) := by
  refine (rX (bs s) w (by rw [EX]; exact hs2)).mono ?_
  have := EX s
  rintro e k (⟨_, f⟩ | ⟨h, _⟩ | ⟨h, _⟩)
  · exact f
  · omega
  · omega
theorem Vs {x : Rat} (h : (qT x).length ≤ 4000) : FitQ x 4000 := by
  unfold qT JZ at h
  split at h
  · rename_i h1
    rw [LO] at h
    exact ⟨NS h (UF _), by rw [h1]; exact (MO (m := 4) AE : Fits 1 4).mono AE⟩
  · have e : (PB x.num ++ ⟨#[47]⟩ ++ PB ((x.den : Nat) : Int)).data.toList = txt x.num ++ [47] ++ txt ((x.den : Nat) : Int) := by
      rw [← LO, ← LO]; simp
    rw [e, List.length_append, List.length_append] at h
    exact ⟨NS AA (UF _), NS AA (UF _)⟩
theorem kJ {l : Bs} {x : Rat} (hl : l.length ≤ 4000) (h : LW l = some x) : FitQ x 4000 := by
  have := TC h
  exact Vs (by unfold qT; rw [← this]; exact hl)
theorem vZ (s : Bs) (x : Rat) (w : World) (hs : s.length ≤ 4000) (h : LW s = some x) : Calls prog 89 #[.string (bs s)] w (RetPE w x.num ((x.den : Nat) : Int) 0) := by
  refine (Ea (bs s) w).mono fun e q o => ?_
  have k : bs s = JZ x := by rw [TC h, Ui]
  rcases o with ⟨p, _⟩ | ⟨_, f, _⟩ | ⟨y, _, f, l⟩
  · rw [EX] at p; omega
  · exact absurd k (f x)
  · have : x = y := sN (k.symm.trans f)
    subst this; exact l
theorem wA (s : Bs) (w : World) (hs : s.length ≤ 4000) (h : LW s = none) : Calls prog 89 #[.string (bs s)] w (RetPE w 0 0 3) := by
  refine (Ea (bs s) w).mono fun e p k => ?_
  rcases k with ⟨o, _⟩ | ⟨_, _, f⟩ | ⟨y, _, l, _⟩
  · rw [EX] at o; omega
  · exact f
  · exact absurd (by rw [← l, FL] : s = (JZ y).data.toList) (gD h y)
theorem Ij (va : Value) (x : Int) (w : World) (ha : IsI w va x) (h : x < -9223372036854775808 ∨ 9223372036854775807 < x) : Calls prog 147 #[va] w (RetS w 0 false) := by
  have := Dx va x w ha
  rwa [(bJ h).1, (bJ h).2] at this
def cA (o : Option Nat) : Nat × Bool := match o with
  | some n => (n, true)
  | none => (0, false)
theorem kM {x : Nat × Bool} {n : Nat} {b : Bool} (h : x = (n, b)) : Ending.returned (.tuple #[.int .i64 ↑n, .bool b]) = .returned (.tuple #[.int .i64 ↑x.1, .bool x.2]) := by rw [h]
theorem kL {o : Option Nat} (h : o = none) : cA o = (0, false) := by rw [h]; rfl
theorem pD {k n : Nat} (hk : 0 < k) (h : n < 10 ^ k) : (WM n).length ≤ k := by
  induction k generalizing n with
  | zero => omega
  | succ k ih =>
    by_cases f : n < 10
    · rw [ON n f]; simp
    · rw [TS n AA, List.length_append]
      have e : 0 < k := by
        rcases Nat.eq_zero_or_pos k with rfl | g
        · simp at h; omega
        · exact g
      have := ih (n := n / 10) e (by rw [Nat.pow_succ] at h; omega)
      simp only [List.length_cons, List.length_nil]; omega
theorem Vh {lo hi : Nat} {l : Bs} (hh : hi ≤ 1000000) (hl : 4000 < l.length) : FI lo hi l = none := by
  cases h : FI lo hi l with
  | none => rfl
  | some n =>
    exfalso
    obtain ⟨e, _, o⟩ := NM AA h
    have f := pD (k := 7) (n := n) AE AA
    rw [e] at hl
    unfold txt at hl
    rw [if_neg AA, List.nil_append, Int.natAbs_natCast] at hl
    unfold aQ at hl
    rw [List.length_map] at hl
    omega
theorem Qa {lo hi : Int} {l : Bs} (h : DP l = none) : FI lo hi l = none := by unfold FI; rw [h]
theorem xP {lo hi z : Int} {l : Bs} (h : DP l = some z) (hz : ¬ (lo ≤ z ∧ z ≤ hi)) : FI lo hi l = none := by unfold FI; rw [h]; simp only; rw [if_neg hz]
theorem Vg {lo hi z : Int} {l : Bs} (h : DP l = some z) (h1 : lo ≤ z) (h2 : z ≤ hi) (h0 : 0 ≤ z) : Ending.returned (.tuple #[.int .i64 z, .bool true]) = .returned (.tuple #[.int .i64 ↑((cA (FI lo hi l)).1), .bool (cA (FI lo hi l)).2]) := by
  unfold FI; rw [h]; simp only; rw [if_pos ⟨h1, h2⟩]; simp only [cA]; rw [Int.toNat_of_nonneg h0]
theorem OD (s : Bs) (lo : Nat) (hi : Nat) (w : World) (hs : s.length ≤ 1000000) (hh : hi ≤ 1000000) :
    Calls prog 101 #[.string (bs s), .int .i64 ↑lo, .int .i64 ↑hi] w (GJ w (.tuple #[.int .i64 ↑((cA (FI lo hi s)).1), .bool (cA (FI lo hi s)).2])) := by
 have E := Env.start w
 go_enter func101, ntmps101
 by_cases S : 4000 < s.length
 case pos =>
  refine yG ?_
  refine EF O (DO DH O (Ah s _ S hs) O E ?_)
  intro w1 n1 s1 d1 E
  refine yG ?_
  refine EF O (CB FU O ?_)
  intro b2 w2 F z2 d2 R
  have l2 : w.heap.size ≤ b2 := by rw [F]; exact E.2.1.size
  replace E := E.below d2
  refine yG ?_
  refine EF O (BY FU O O O R O O (IsI.one E.1) ?_)
  intro w3 o3 y3
  replace E := oC E R o3 y3
  refine yG ?_
  exact ⟨kM (n := 0) (b := false) (kL (Vh hh S)), E.2.2.1⟩
 by_cases e : DP s = none
 case pos =>
  refine yG ?_
  refine EF O (DO DH O (wB s _ AA e) O E ?_)
  intro w4 n4 s4 d4 E
  refine yG ?_
  refine EF O (CB FU O ?_)
  intro b5 w5 D z5 d5 Q
  have l5 : w.heap.size ≤ b5 := by rw [D]; exact E.2.1.size
  replace E := E.below d5
  refine yG ?_
  refine EF O (BY FU O O O Q O O (IsI.one E.1) ?_)
  intro w6 o6 y6
  replace E := oC E Q o6 y6
  refine yG ?_
  exact ⟨kM (n := 0) (b := false) (kL (Qa e)), E.2.2.1⟩
 obtain ⟨z, e⟩ := Option.ne_none_iff_exists'.1 e
 by_cases an : -9223372036854775808 ≤ z ∧ z ≤ 9223372036854775807
 case neg =>
  refine yG ?_
  refine EF O (DO DH O (TK s z _ AA e) O E ?_)
  intro a3 ah ae ap E
  refine yG ?_
  refine EF O (CB FU O ?_)
  intro J a2 l T G f
  have ak : w.heap.size ≤ J := by rw [l]; exact E.2.1.size
  replace E := E.below G
  refine yG ?_
  refine EF O (BY FU O O O f O O (IsI.one E.1) ?_)
  intro a1 v q
  replace E := oC E f v q
  refine yG ?_
  refine EF O (OV ML O (Ij _ z _ E.2.1 AA) O E ?_)
  intro a0 ao E
  refine yG ?_
  exact ⟨kM (n := 0) (b := false) (kL (xP e AA)), E.2.2.1⟩
 by_cases h2 : z < ((lo : Nat) : Int)
 case pos =>
  refine yG ?_
  refine EF O (DO DH O (TK s z _ AA e) O E ?_)
  intro w7 n7 s7 d7 E
  refine yG ?_
  refine EF O (CB FU O ?_)
  intro b8 w8 C z8 d8 P
  have l8 : w.heap.size ≤ b8 := by rw [C]; exact E.2.1.size
  replace E := E.below d8
  refine yG ?_
  refine EF O (BY FU O O O P O O (IsI.one E.1) ?_)
  intro w9 o9 Y
  replace E := oC E P o9 Y
  refine yG ?_
  refine EF O (OV ML O (lU _ z _ E.2.1 AA AA) O E ?_)
  intro ad aw E
  refine yG ?_
  exact ⟨kM (n := 0) (b := false) (kL (xP e AA)), E.2.2.1⟩
 by_cases h3 : z > ((hi : Nat) : Int)
 case neg =>
  refine yG ?_
  refine EF O (DO DH O (TK s z _ AA e) O E ?_)
  intro a8 ai af ar E
  refine yG ?_
  refine EF O (CB FU O ?_)
  intro L a7 o U H h
  have al : w.heap.size ≤ L := by rw [o]; exact E.2.1.size
  replace E := E.below H
  refine yG ?_
  refine EF O (BY FU O O O h O O (IsI.one E.1) ?_)
  intro a6 y t
  replace E := oC E h y t
  refine yG ?_
  refine EF O (OV ML O (lU _ z _ E.2.1 AA AA) O E ?_)
  intro a4 aq E
  refine yG ?_
  exact ⟨Vg e AA AA AA, E.2.2.1⟩
 refine yG ?_
 refine EF O (DO DH O (TK s z _ AA e) O E ?_)
 intro ac aj ag av E
 refine yG ?_
 refine EF O (CB FU O ?_)
 intro N ab p X I k
 have am : w.heap.size ≤ N := by rw [p]; exact E.2.1.size
 replace E := E.below I
 refine yG ?_
 refine EF O (BY FU O O O k O O (IsI.one E.1) ?_)
 intro aa B u
 replace E := oC E k B u
 refine yG ?_
 refine EF O (OV ML O (lU _ z _ E.2.1 AA AA) O E ?_)
 intro a9 au E
 refine yG ?_
 exact ⟨kM (n := 0) (b := false) (kL (xP e AA)), E.2.2.1⟩
theorem aW (s : Bs) (b : UInt8) (w : World) (hs : s.length ≤ 1000000) (hG : Glob w) (h : MQ b s = none) : Calls prog 52 #[.string (bs s), .string (bs [b])] w (GJ w (.tuple #[.string (bs s), .string (bs []), .bool false])) := by
  have := wI s [b] w hs hG
  rwa [vG h] at this
theorem aV (s : Bs) (b : UInt8) (x y : Bs) (w : World) (hs : s.length ≤ 1000000) (hG : Glob w) (h : MQ b s = some (x, y)) : Calls prog 52 #[.string (bs s), .string (bs [b])] w (GJ w (.tuple #[.string (bs x), .string (bs y), .bool true])) := by
  have := wI s [b] w hs hG
  rwa [vF h] at this
theorem gO (vl : Value) (l : List Bs) (x : Bs) (v : Nat) (w : World) (h : IsR elS (DD w.heap.size) w vl l) (hv : l.idxOf? x = some v) : Calls prog 125 #[vl, .string (bs x)] w (dK w ((v : Nat) : Int)) := by
  have := Ec vl l x w h
  unfold yZ at this
  rwa [hv] at this
theorem dS (vl : Value) (l : List Bs) (x : Bs) (w : World) (h : IsR elS (DD w.heap.size) w vl l) (hv : l.idxOf? x = none) : Calls prog 125 #[vl, .string (bs x)] w (dK w (-1)) := by
  have := Ec vl l x w h
  unfold yZ at this
  rwa [hv] at this
def cX (l : List Bs) (x : Bs) : Nat × Nat × Bool := match MQ 94 x with
  | none => match l.idxOf? x with
    | none => (0, 0, false)
    | some v => (v, 1, true)
  | some (a, d) => match l.idxOf? a with
    | none => (0, 0, false)
    | some v => (v, (cA (FI 2 65535 d)).1, (cA (FI 2 65535 d)).2)
theorem rE {x : Nat × Nat × Bool} {v n : Nat} {b : Bool} (h : x = (v, n, b)) : Ending.returned (.tuple #[.int .i64 ↑v, .int .i64 ↑n, .bool b]) = .returned (.tuple #[.int .i64 ↑x.1, .int .i64 ↑x.2.1, .bool x.2.2]) := by rw [h]
theorem Ug {l : List Bs} {x : Bs} (h : MQ 94 x = none) (h2 : l.idxOf? x = none) : cX l x = (0, 0, false) := by unfold cX; simp only [h, h2]
theorem Uf {l : List Bs} {x : Bs} {v : Nat} (h : MQ 94 x = none) (h2 : l.idxOf? x = some v) : cX l x = (v, 1, true) := by unfold cX; simp only [h, h2]
theorem Ue {l : List Bs} {x a d : Bs} (h : MQ 94 x = some (a, d)) (h2 : l.idxOf? a = none) : cX l x = (0, 0, false) := by unfold cX; simp only [h, h2]
theorem Mx {l : List Bs} {x a d : Bs} {v : Nat} (h : MQ 94 x = some (a, d)) (h2 : l.idxOf? a = some v) : cX l x = (v, (cA (FI 2 65535 d)).1, (cA (FI 2 65535 d)).2) := by unfold cX; simp only [h, h2]
theorem Nb {l : List Bs} {x : Bs} {v n : Nat} (h : PX l x = some (v, n)) : cX l x = (v, n, true) := by
  unfold PX at h
  cases f : MQ 94 x with
  | none =>
    rw [f] at h
    cases e : l.idxOf? x with
    | none => simp [e] at h
    | some u => simp only [e, Option.map_some, Option.some.injEq, Prod.mk.injEq] at h; obtain ⟨rfl, rfl⟩ := h; exact Uf f e
  | some p =>
    obtain ⟨a, d⟩ := p
    rw [f] at h
    cases e : l.idxOf? a with
    | none => simp [e] at h
    | some u =>
      cases o : FI 2 65535 d with
      | none => simp [e, o] at h
      | some k =>
        simp only [e, o, Option.some.injEq, Prod.mk.injEq] at h
        obtain ⟨rfl, rfl⟩ := h
        rw [Mx f e, o]; rfl
theorem Ct {l : List Bs} {x : Bs} (h : PX l x = none) : ∃ v n, cX l x = (v, n, false) := by
  unfold PX at h
  cases f : MQ 94 x with
  | none =>
    rw [f] at h
    cases e : l.idxOf? x with
    | none => exact ⟨_, _, Ug f e⟩
    | some u => simp [e] at h
  | some p =>
    obtain ⟨a, d⟩ := p
    rw [f] at h
    cases e : l.idxOf? a with
    | none => exact ⟨_, _, Ue f e⟩
    | some u =>
      cases o : FI 2 65535 d with
      | none => exact ⟨_, _, by rw [Mx f e, o]; rfl⟩
      | some k => simp [e, o] at h
theorem Sk {b : UInt8} {x a d : Bs} (h : MQ b x = some (a, d)) : a.length ≤ x.length ∧ d.length ≤ x.length := by
  obtain ⟨rfl, _⟩ := cutB_some.1 h
  simp; omega
theorem bQ (s : Bs) (vl : Value) (l : List Bs) (w : World) (hRl : IsR elS (DD w.heap.size) w vl l) (hs : s.length ≤ 1000000) (hG : Glob w) :
    Calls prog 90 #[.string (bs s), vl] w (GJ w (.tuple #[.int .i64 ↑((cX l s).1), .int .i64 ↑((cX l s).2.1), .bool (cX l s).2.2])) := by
 have E := Env.start w
 obtain ⟨q, k, rfl, p, o⟩ := hRl.shp
 replace E := E.r hRl (DK _)
 replace E := E.gl hG
 go_enter func90, ntmps90
 by_cases e : MQ 94 s = none
 case pos =>
  by_cases f : l.idxOf? s = none
  case pos =>
   refine yG ?_
   refine EF O (BZ IJ O (aW s 94 _ hs E.1.1 e) O E ?_)
   intro G S E
   refine yG ?_
   refine EF O (CK EU O (dS _ l s _ (BW E.2.1) f) O E ?_)
   intro F R E
   refine yG ?_
   exact ⟨rE (v := 0) (n := 0) (b := false) (Ug e f), E.2.2.1⟩
  obtain ⟨v, h⟩ := Option.ne_none_iff_exists'.1 f
  refine yG ?_
  refine EF O (BZ IJ O (aW s 94 _ hs E.1.1 e) O E ?_)
  intro D Q E
  refine yG ?_
  refine EF O (CK EU O (gO _ l s v _ (BW E.2.1) h) O E ?_)
  intro C P E
  refine yG ?_
  exact ⟨rE (v := v) (n := 1) (b := true) (Uf e h), E.2.2.1⟩
 obtain ⟨⟨a, d⟩, e⟩ := Option.ne_none_iff_exists'.1 e
 by_cases f : l.idxOf? a = none
 case pos =>
  refine yG ?_
  refine EF O (BZ IJ O (aV s 94 a d _ hs E.1.1 e) O E ?_)
  intro B N E
  refine yG ?_
  refine EF O (CK EU O (dS _ l a _ (BW E.2.1) f) O E ?_)
  intro z L E
  refine yG ?_
  exact ⟨rE (v := 0) (n := 0) (b := false) (Ue e f), E.2.2.1⟩
 obtain ⟨v, h⟩ := Option.ne_none_iff_exists'.1 f
 refine yG ?_
 refine EF O (BZ IJ O (aV s 94 a d _ hs E.1.1 e) O E ?_)
 intro y J E
 refine yG ?_
 refine EF O (CK EU O (gO _ l a v _ (BW E.2.1) h) O E ?_)
 intro u I E
 refine yG ?_
 refine EF O (BZ GT O (OD d 2 65535 _ (by have := Sk e; omega) AE) O E ?_)
 intro t H E
 refine yG ?_
 exact ⟨rE (v := v) (n := _) (b := _) (Mx e h), E.2.2.1⟩
end Go.Proofs.YtmppigbbkjepiaaGreatDoor
