/- Helping facts of PolyT; no other conditions. Helping facts of Read1; no other conditions. -/
import Derived.Test.YtmppigbbkjepiaaGreatDoorKitK
set_option maxHeartbeats 8000000
set_option maxRecDepth 100000
namespace Go.Proofs.YtmppigbbkjepiaaGreatDoor
open Go.Proofs.Tryz
open Go.RowKit W
variable {b base i n v : Nat} {c x : Rat} {hi lo z : Int} {p : Prop} {w : World}
theorem YDB (h : p := by first | rfl | exact CM DH) : p := h
theorem YOU (h : p := by simp only [List.length_cons, List.length_nil]; omega) : p := h
theorem ZQF (h : p := by
 refine yG ?_
 refine EF O (DV DK O (UL s z _ AA e) O E ?_)
 intro w7 n7 s7 d7 E
 refine yG ?_
 refine EF O (CB GD O ?_)
 intro b8 w8 C z8 d8 P
 have l8 : w.heap.size <= b8 := by rw [C]; exact E.2.1.size
 replace E := E.below d8
 refine yG ?_
 refine EF O (BY GD O O O P O O (IsI.one E.1) ?_)
 intro w9 o9 Y
 replace E := oC E P o9 Y
 refine yG ?_
 refine EF O (PT NA O (oP _ z _ E.2.1 AA AA) O E ?_)
 intro ad aw E
 refine yG ?_
 exact ⟨nB (n := 0) (b := false) (nA (Be e AA)), E.2.2.1⟩
 ) : p := h
theorem Xs : Ag prog 105 2 [.pointer none, .slice none 0 0] := ⟨⟨_, underlying105, rfl⟩, by kernel_rfl, rfl⟩
theorem FB {o : Oper} {a : Act} {K : Act -> World -> Prop} {Q : Exit -> Act -> World -> Prop} {x y : Operand} {tys : Array TypeId} {p v : Value} {l s : Bs} {L : List SF}
 (ho : o.op = .call { callee := .value (.func 48), args := [x, y].toArray, argTypes := tys }) (hx : a.eval x = .pointer (some ⟨b, 0, none⟩)) (hy : a.eval y = .string (bs s))
 (hb : Bx w b bD [p, v]) (hA : Acc elB 5 base VH w v l) (hp : p = .pointer none ∨ p = .pointer (some ⟨b, 0, none⟩)) (hlen : l.length + s.length <= 140737488355328) (hbase : base <= w.heap.size)
 (E : Env w L) (hk : Ok b L) (hg : ∀ g, v.ownBlock = some g -> base <= g -> g < w.heap.size -> Ok g L)
 (h : ∀ v' w', (∀ c, c < w.heap.size -> v.ownBlock ≠ some c -> v'.ownBlock ≠ some c) -> Env w' (fA elB 5 base VH v' (l ++ s) :: fX b bD [.pointer (some ⟨b, 0, none⟩), v'] :: L) -> K (a.put o.dst (.tuple #[.int .i64 ↑s.length, .nilIface])) w') : o.wp prog a w K Q := by
 refine DG ⟨_, func48, by kernel_rfl, O⟩ ho (pS b base p v l s w hb hA hp hlen hbase) (by simp [hx, hy]) ?_
 rintro e w' ⟨rfl, v', t, q, u, f, k⟩
 exact ⟨_, rfl, h v' w' f ((k L E hk hg).x t |>.a q (QL _))⟩
theorem yQ {B : Nat} {p v : Value} {l : Bs} (hb : Bx w b bD [p, v]) (hA : Acc elB 5 base VH w v l) (hp : p = .pointer none ∨ p = .pointer (some ⟨b, 0, none⟩)) (h1 : B <= b) (h2 : B <= base) (h3 : B <= w.heap.size) :
 Calls prog 51 #[.pointer (some ⟨b, 0, none⟩)] w fun e w' => e = .returned (.string (bs l)) /\ Below B w w' := by
 have o := Gp hA
 have f : w.ownsRow B 5 1 v (Lib.byteCells l).length (Lib.byteCells l) := by
  rw [show (Lib.byteCells l).length = l.length from List.length_map _]
  refine ⟨o.1, ?_⟩
  rcases o.own.2 with h | ⟨g, t, q, u, hg, r⟩
  . exact .inl h
  exact .inr ⟨g, t, q, u, Nat.le_trans h2 hg, r⟩
 have k : Lib.BuilderAt bD 5 B b p (Lib.byteCells l) w := ⟨h1, v, hb, f, Ba o hb Zh⟩
 exact Tryz.Builder_String_any B b l w (hp.elim (fun e => .inl (e ▸ k)) fun e => .inr (e ▸ k)) h3
theorem rat_neg : c < 0 ↔ c.num < 0 := by
 rw [<- Rat.not_le, <- Int.not_le]
 exact not_congr Rat.num_nonneg.symm
theorem YC (h : c < 0) : decide (OP c.num < 0) = true := Dz (rat_neg.1 h)
theorem dA (h : ¬ c < 0) : decide (OP c.num < 0) = false := by
 have e : ¬ c.num < 0 := fun g => h (rat_neg.2 g)
 rcases LC c.num with g | g | g
 . omega
 . rw [g.2]; rfl
 rw [g.2]; rfl
theorem iQ (l : List Bs) (c : Rat) (mm : List Nat) : ∀ (f : Bool) (p : List Tm), IW l f (p ++ [(c, mm)]) = IW l f p ++ (SS (f && p.isEmpty) (decide (c < 0)) ++ ET l (KA c) mm)
 | f, [] => by simp [IW]
 | f, (d, k) :: p => by
   simp only [List.cons_append, IW]
   rw [iQ l c mm false p]
   simp [List.append_assoc]
theorem KM {l : List Bs} {p : List Tm} {mm : List Nat} (h : p[i]? = some (c, mm)) :
 IW l true (p.take (i + 1)) = IW l true (p.take i) ++ (SS (decide (i = 0)) (decide (c < 0)) ++ ET l (KA c) mm) := by
 rw [JG h, iQ]
 have k := (List.getElem?_eq_some_iff.1 h).1
 congr 3
 rw [Bool.true_and]
 by_cases f : i = 0
 . subst f; simp
 rw [decide_eq_false f, List.isEmpty_eq_false_iff]
 intro e
 have := congrArg List.length e
 rw [List.length_take, List.length_nil] at this
 omega
theorem sg1 (h0 : i = 0) (hc : c < 0) : SS (decide (i = 0)) (decide (c < 0)) = [45] := by rw [decide_eq_true h0, decide_eq_true hc]; rfl
theorem sg2 (h0 : i = 0) (hc : ¬ c < 0) : SS (decide (i = 0)) (decide (c < 0)) = [] := by rw [decide_eq_true h0, decide_eq_false hc]; rfl
theorem sg3 (h0 : ¬ i = 0) (hc : c < 0) : SS (decide (i = 0)) (decide (c < 0)) = [32, 45, 32] := by rw [decide_eq_false h0, decide_eq_true hc]; rfl
theorem sg4 (h0 : ¬ i = 0) (hc : ¬ c < 0) : SS (decide (i = 0)) (decide (c < 0)) = [32, 43, 32] := by rw [decide_eq_false h0, decide_eq_false hc]; rfl
theorem mT {l : List Bs} {p : List Tm} (h : p.length = 0) : [48] = DS l p := by rw [List.eq_nil_of_length_eq_zero h]; rfl
theorem qQ {l : List Bs} {p : List Tm} (h : ¬ p.length = 0) : IW l true p = DS l p := by unfold DS; rw [if_neg (fun e => h (by rw [e]; rfl))]
theorem Bj (vp : Value) (p : List Tm) (vl : Value) (l : List Bs) (w : World) (hRp : IsR JL (CX w.heap.size) w vp p) (hRl : IsR elS (CX w.heap.size) w vl l) (hF : ∀ t ∈ p, FitQ t.1 1000000) (hL : p.length <= 1000000) (hV : DL 8 l = true) (hG : Glob w) :
 Calls prog 39 #[vp, vl] w (FI w (.string (bs (DS l p)))) := by
 have E := Env.start w
 obtain ⟨X, F, rfl, dt, dq⟩ := hRp.shp
 replace E := E.r hRp (DF _)
 obtain ⟨ay, a3, rfl, du, dr⟩ := hRl.shp
 replace E := E.r hRl (DF _)
 have dw := hG.two
 replace E := E.gl hG
 go_enter func39, ntmps39
 by_cases h0 : ((p.length : Nat) : Int) = 0
 . refine yG ?_
   exact ⟨OV (mT AA), e3 E⟩
 refine yG ?_
 refine EF O (CB Xs O ?_)
 intro H w1 cc z1 d1 x1
 have l1 : w.heap.size <= H := by rw [cc]; exact (e3 E).size
 replace E := E.below d1
 replace E := E.x x1
 obtain ⟨y, J⟩ : ∃ n, n = w1.heap.size := ⟨_, rfl⟩
 have cj : w.heap.size <= y := by rw [J]; exact (e4 E).size
 have b3 : H < y := by rw [J]; exact Bx.lt E.1
 replace E := (E.sz (Nat.le_of_eq J)).a (Acc.nil elB 5 y VH _) (QL _)
 refine yG ?_
 refine wp_loop_ghost (fun mz a w' => ∃ (i : Nat) (pr : Value) (vr : Value) (Y : Bs) (U : List Value), U = a.tmps.toList /\ a = ⟨(.slice X p.length F :: .slice ay l.length a3 :: undef :: undef :: .string (bs ([])) :: .pointer (some ⟨H, 0, none⟩) :: gr U 6 3 (.slice X p.length F :: .int .i64 ↑p.length :: .bool false :: .slice X p.length F :: .int .i64 ↑p.length :: .int .i64 ↑i :: gr U 15 37 [])).toArray, []⟩ /\ Env w' [fA elB 5 y VH vr Y, fX H (105) ([pr, vr]), rO y, fGl, fR elS (CX w.heap.size) (.slice ay l.length a3) l, fR JL (CX w.heap.size) (.slice X p.length F) p, fW w] /\ mz = p.length - i /\ (i <= p.length /\ (pr = .pointer none ∨ pr = .pointer (some ⟨H, 0, none⟩)) /\ Y = IW l true (p.take i) /\ Y.length <= i * 31000010)) (p.length) ⟨0, (.pointer none), (.slice none 0 0), [], _, O, O, zE, O, ⟨Nat.zero_le _, .inl O, by simp [IW], by simp⟩⟩ ?_
 rintro m3 _ w3 ⟨i, pr, vr, Y, U, -, rfl, E, S, an⟩
 dsimp only [gr, Nat.reduceAdd]
 obtain ⟨an, hJ⟩ := an
 by_cases hi : i < p.length
 case neg =>
  obtain ⟨G, z, c9⟩ := hJ
  rw [GQ hi] at z
  subst z
  refine yG ?_
  refine EF O (DG ⟨_, func51, by kernel_rfl, O⟩ O (yQ (B := w.heap.size) E.2.1 E.1.1 G AA AA (e6 E).size) O ?_)
  rintro _ bi ⟨rfl, cd⟩
  refine ⟨_, O, ?_⟩
  replace E : Env bi [fW w] := ⟨Below.trans (e6 E) cd, BX⟩
  refine yG ?_
  exact ⟨OV (qQ AA), E.1⟩
 obtain ⟨⟨q, k⟩, u⟩ : ∃ x, p[i]? = some x := ⟨_, List.getElem?_eq_getElem hi⟩
 obtain ⟨aj, dk, _, T, am, cb, ⟨n4, s4, m4, u4, rfl, c7, ca, f⟩⟩ := IsR.at (e5 E).1 u
 have c8 : aj < _ := (e5 E).2 _ am
 replace E := ((E.c cb c8).i c7).i ca
 have dv : aj < w.heap.size := am
 have v := hF _ (List.mem_of_getElem? u)
 obtain ⟨G, z, c9⟩ := hJ
 by_cases o : q < 0
 case neg =>
  by_cases L : i = 0
  case pos =>
   refine yG ?_
   refine lH O O T O (List.getElem?_eq_some_iff.1 u).1 ?_
   refine V O O (CD KL O O (E.2.2.1.1) (CM f)) ?_
   refine yG ?_
   refine EF O (CB KL O ?_)
   intro aa cz a1 cm cf ad
   have P : (vr : Value).ownBlock ≠ some aa := fun h => by have := (Acc.lt (e3 E).1 h).2; omega
   have c5 : H < aa := by rw [a1]; exact Bx.lt (e4 E)
   have b0 : y <= aa := by rw [a1]; exact CR (e5 E)
   replace E := E.below cf
   refine yG ?_
   refine EF O (BY KL O O O ad YDB (CM f) (GM (M := k) (IsI.one E.2.1) (IsI.one E.1)) ?_)
   intro cy bu b6
   replace E := oY E ad bu b6 (ds := (IJ n4 s4 m4 u4 k))
   refine yG ?_
   refine V O O (CD GP O O (Cs.sub (Bx.cs E.1) 0 (EI _ _ _ _ _)) O) ?_
   refine yG ?_
   refine EF O (CE EB O (QG _ _ _ _ q _ E.2.2.1 E.2.1) O E ?_)
   intro cx ea E
   refine yG ?_
   refine V O O (JH (c := false) O O O (dA o)) ?_
   have a8 := VA (l := l) (c := q) (M := k) hV f v
   refine yG ?_
   refine EF O (BZ FK O (MD _ _ _ _ q k _ l _ E.2.2.1 E.2.1 f (BW (e8 E)) (FitQ.mono v AE) hV (e7 E).1) O E ?_)
   intro cw dz E
   have aq := e4 E
   refine yG ?_
   replace E := rR E
   have bc := e4 E
   replace E := rR E
   have bo := Bx.lt E.1
   refine EF O (FB (s := ET l q k) O O O bc aq.1 G AJ (CR (e4 E)) E ⟨CT AA, BX, BX, QU AA, BX, EP AA, DP (CJ AA), DP (CJ AA), IK AA, BX⟩ (fun g hg h1 h2 => ⟨CT (fun e => P (e ▸ hg)), BX, BX, QU AA, BX, EP AA, DP (CJ AA), DP (CJ AA), IK AA, BX⟩) ?_)
   intro bk cv dm E
   refine yG ?_
   exact ⟨_, (by rw [S]; omega), (i + 1), (.pointer (some ⟨H, 0, none⟩)), bk, Y ++ (ET l q k), _, O, O, zE, O, ⟨by omega, .inr O, by rw [KM u, sg2 L o, z, SH o]; simp, by simp only [List.length_append]; omega⟩⟩
  refine yG ?_
  refine lH O O T O (List.getElem?_eq_some_iff.1 u).1 ?_
  refine V O O (CD KL O O (E.2.2.1.1) (CM f)) ?_
  refine yG ?_
  refine EF O (CB KL O ?_)
  intro a9 cu a0 ck ce ac
  have C : (vr : Value).ownBlock ≠ some a9 := fun h => by have := (Acc.lt (e3 E).1 h).2; omega
  have c3 : H < a9 := by rw [a0]; exact Bx.lt (e4 E)
  have az : y <= a9 := by rw [a0]; exact CR (e5 E)
  replace E := E.below ce
  refine yG ?_
  refine EF O (BY KL O O O ac YDB (CM f) (GM (M := k) (IsI.one E.2.1) (IsI.one E.1)) ?_)
  intro ct bt b4
  replace E := oY E ac bt b4 (ds := (IJ n4 s4 m4 u4 k))
  refine yG ?_
  refine V O O (CD GP O O (Cs.sub (Bx.cs E.1) 0 (EI _ _ _ _ _)) O) ?_
  refine yG ?_
  refine EF O (CE EB O (QG _ _ _ _ q _ E.2.2.1 E.2.1) O E ?_)
  intro cr dy E
  refine yG ?_
  refine V O O (JH (c := false) O O O (dA o)) ?_
  have ap := e4 E
  refine yG ?_
  replace E := rR E
  have bb := e4 E
  replace E := rR E
  have a4 := Bx.lt E.1
  refine EF O (FB (s := [32, 43, 32]) O O O bb ap.1 G YOU (CR (e4 E)) E ⟨CT AA, BX, BX, QU AA, BX, EP AA, DP (CJ AA), DP (CJ AA), IK AA, BX⟩ (fun g hg h1 h2 => ⟨CT (fun e => C (e ▸ hg)), BX, BX, QU AA, BX, EP AA, DP (CJ AA), DP (CJ AA), IK AA, BX⟩) ?_)
  intro dh cq br E
  have N := br _ a4 C
  have a8 := VA (l := l) (c := q) (M := k) hV f v
  refine yG ?_
  refine EF O (BZ FK O (MD _ _ _ _ q k _ l _ (e4 E) (e3 E) f (BW (e8 E)) (FitQ.mono v AE) hV (e7 E).1) O E ?_)
  intro cp dx E
  have ao := E.1
  refine yG ?_
  replace E := VI E
  have ba := E.1
  replace E := VI E
  have bn := Bx.lt E.1
  refine EF O (FB (s := ET l q k) O O O ba ao.1 (.inr O) AJ (CR (e4 E)) E ⟨CT AA, BX, BX, QU AA, BX, EP AA, DP (CJ AA), DP (CJ AA), IK AA, BX⟩ (fun g hg h1 h2 => ⟨CT (fun e => N (e ▸ hg)), BX, BX, QU AA, BX, EP AA, DP (CJ AA), DP (CJ AA), IK AA, BX⟩) ?_)
  intro bj co dl E
  refine yG ?_
  exact ⟨_, (by rw [S]; omega), (i + 1), (.pointer (some ⟨H, 0, none⟩)), bj, (Y ++ ([32, 43, 32])) ++ (ET l q k), _, O, O, zE, O, ⟨by omega, .inr O, by rw [KM u, sg4 L o, z, SH o]; simp, by simp only [List.length_append, List.length_cons, List.length_nil]; omega⟩⟩
 by_cases L : i = 0
 case pos =>
  refine yG ?_
  refine lH O O T O (List.getElem?_eq_some_iff.1 u).1 ?_
  refine V O O (CD KL O O (E.2.2.1.1) (CM f)) ?_
  refine yG ?_
  refine EF O (CB KL O ?_)
  intro b5 w5 ax z5 d5 x5
  have I : (vr : Value).ownBlock ≠ some b5 := fun h => by have := (Acc.lt (e3 E).1 h).2; omega
  have ci : H < b5 := by rw [ax]; exact Bx.lt (e4 E)
  have c2 : y <= b5 := by rw [ax]; exact CR (e5 E)
  replace E := E.below d5
  refine yG ?_
  refine EF O (BY KL O O O x5 YDB (CM f) (GM (M := k) (IsI.one E.2.1) (IsI.one E.1)) ?_)
  intro w6 o6 y6
  replace E := oY E x5 o6 y6 (ds := (IJ n4 s4 m4 u4 k))
  refine yG ?_
  refine V O O (CD GP O O (Cs.sub (Bx.cs E.1) 0 (EI _ _ _ _ _)) O) ?_
  refine yG ?_
  refine EF O (CE EB O (QG _ _ _ _ q _ E.2.2.1 E.2.1) O E ?_)
  intro w7 d7 E
  refine yG ?_
  refine V O O (JH (c := true) O O O (YC o)) ?_
  refine yG ?_
  refine V O O (CD GP O O (Cs.sub (Bx.cs E.1) 0 (EI _ _ _ _ _)) O) ?_
  refine yG ?_
  refine EF O (CV NX O (Gz _ _ _ _ q _ E.2.2.1 E.2.1 (FitQ.mono v AE)) O E ?_)
  intro w9 n9 s9 m9 t9 d9 E
  have F8 : FitQ (-q) 1000000 := QZ v
  have ag := E.2.2.1
  refine yG ?_
  replace E := kB E
  refine yG ?_
  refine EF O (MU (cs' := (IJ n9 s9 m9 t9 k)) GP O O O ag O (by rw [CM f]; decide) (LR (IsI.one E.2.1) (IsI.one E.1)) O ?_)
  intro dg c1 b9
  replace E := oY E ag c1 b9 (ds := (IJ n9 s9 m9 t9 k))
  have aw := e6 E
  refine yG ?_
  replace E := xY E
  have bh := e6 E
  replace E := xY E
  have a7 := Bx.lt E.1
  refine EF O (FB (s := [45]) O O O bh aw.1 G YOU (CR (e6 E)) E ⟨CT AA, BX, BX, BX, BX, QU AA, BX, EP AA, DP (CJ AA), DP (CJ AA), IK AA, BX⟩ (fun g hg h1 h2 => ⟨CT (fun e => I (e ▸ hg)), BX, BX, BX, BX, QU AA, BX, EP AA, DP (CJ AA), DP (CJ AA), IK AA, BX⟩) ?_)
  intro dj de c0 E
  have R := c0 _ a7 I
  have a8 := VA (l := l) (c := (-q)) (M := k) hV f (QZ v)
  refine yG ?_
  refine EF O (BZ FK O (MD _ _ _ _ (-q) k _ l _ (e4 E) (e3 E) f (BW (RA E)) (FitQ.mono F8 AE) hV (e9 E).1) O E ?_)
  intro dd ee E
  have av := E.1
  refine yG ?_
  replace E := VI E
  have bg := E.1
  replace E := VI E
  have bq := Bx.lt E.1
  refine EF O (FB (s := ET l (-q) k) O O O bg av.1 (.inr O) AJ (CR (e6 E)) E ⟨CT AA, BX, BX, BX, BX, QU AA, BX, EP AA, DP (CJ AA), DP (CJ AA), IK AA, BX⟩ (fun g hg h1 h2 => ⟨CT (fun e => R (e ▸ hg)), BX, BX, BX, BX, QU AA, BX, EP AA, DP (CJ AA), DP (CJ AA), IK AA, BX⟩) ?_)
  intro bm dc dp E
  refine yG ?_
  exact ⟨_, (by rw [S]; omega), (i + 1), (.pointer (some ⟨H, 0, none⟩)), bm, (Y ++ ([45])) ++ (ET l (-q) k), _, O, O, zE, O, ⟨by omega, .inr O, by rw [KM u, sg1 L o, z, VL o]; simp, by simp only [List.length_append, List.length_cons, List.length_nil]; omega⟩⟩
 refine yG ?_
 refine lH O O T O (List.getElem?_eq_some_iff.1 u).1 ?_
 refine V O O (CD KL O O (E.2.2.1.1) (CM f)) ?_
 refine yG ?_
 refine EF O (CB KL O ?_)
 intro ab db a2 cn cg af
 have D : (vr : Value).ownBlock ≠ some ab := fun h => by have := (Acc.lt (e3 E).1 h).2; omega
 have c6 : H < ab := by rw [a2]; exact Bx.lt (e4 E)
 have b2 : y <= ab := by rw [a2]; exact CR (e5 E)
 replace E := E.below cg
 refine yG ?_
 refine EF O (BY KL O O O af YDB (CM f) (GM (M := k) (IsI.one E.2.1) (IsI.one E.1)) ?_)
 intro da bx b8
 replace E := oY E af bx b8 (ds := (IJ n4 s4 m4 u4 k))
 refine yG ?_
 refine V O O (CD GP O O (Cs.sub (Bx.cs E.1) 0 (EI _ _ _ _ _)) O) ?_
 refine yG ?_
 refine EF O (CE EB O (QG _ _ _ _ q _ E.2.2.1 E.2.1) O E ?_)
 intro d8 ed E
 refine yG ?_
 refine V O O (JH (c := true) O O O (YC o)) ?_
 refine yG ?_
 refine V O O (CD GP O O (Cs.sub (Bx.cs E.1) 0 (EI _ _ _ _ _)) O) ?_
 refine yG ?_
 refine EF O (CV NX O (Gz _ _ _ _ q _ E.2.2.1 E.2.1 (FitQ.mono v AE)) O E ?_)
 intro d6 ak ai al ah ec E
 have ch : FitQ (-q) 1000000 := QZ v
 have ae := E.2.2.1
 refine yG ?_
 replace E := kB E
 refine yG ?_
 refine EF O (MU (cs' := (IJ ak ai al ah k)) GP O O O ae O (by rw [CM f]; decide) (LR (IsI.one E.2.1) (IsI.one E.1)) O ?_)
 intro d4 bw b7
 replace E := oY E ae bw b7 (ds := (IJ ak ai al ah k))
 have au := e6 E
 refine yG ?_
 replace E := xY E
 have bf := e6 E
 replace E := xY E
 have a6 := Bx.lt E.1
 refine EF O (FB (s := [32, 45, 32]) O O O bf au.1 G YOU (CR (e6 E)) E ⟨CT AA, BX, BX, BX, BX, QU AA, BX, EP AA, DP (CJ AA), DP (CJ AA), IK AA, BX⟩ (fun g hg h1 h2 => ⟨CT (fun e => D (e ▸ hg)), BX, BX, BX, BX, QU AA, BX, EP AA, DP (CJ AA), DP (CJ AA), IK AA, BX⟩) ?_)
 intro di d3 bv E
 have Q := bv _ a6 D
 have a8 := VA (l := l) (c := (-q)) (M := k) hV f (QZ v)
 refine yG ?_
 refine EF O (BZ FK O (MD _ _ _ _ (-q) k _ l _ (e4 E) (e3 E) f (BW (RA E)) (FitQ.mono ch AE) hV (e9 E).1) O E ?_)
 intro d2 eb E
 have ar := E.1
 refine yG ?_
 replace E := VI E
 have bd := E.1
 replace E := VI E
 have bp := Bx.lt E.1
 refine EF O (FB (s := ET l (-q) k) O O O bd ar.1 (.inr O) AJ (CR (e6 E)) E ⟨CT AA, BX, BX, BX, BX, QU AA, BX, EP AA, DP (CJ AA), DP (CJ AA), IK AA, BX⟩ (fun g hg h1 h2 => ⟨CT (fun e => Q (e ▸ hg)), BX, BX, BX, BX, QU AA, BX, EP AA, DP (CJ AA), DP (CJ AA), IK AA, BX⟩) ?_)
 intro bl d0 dn E
 refine yG ?_
 exact ⟨_, (by rw [S]; omega), (i + 1), (.pointer (some ⟨H, 0, none⟩)), bl, (Y ++ ([32, 45, 32])) ++ (ET l (-q) k), _, O, O, zE, O, ⟨by omega, .inr O, by rw [KM u, sg3 L o, z, VL o]; simp, by simp only [List.length_append, List.length_cons, List.length_nil]; omega⟩⟩
def QT (l : List Bs) (p : List Tm) : Bs × Nat := if DL 8 l = true /\ FN p < 2 ^ l.length then (if 4000 < (DS l p).length then ([], 2) else (DS l p, 0)) else ([], 1)
theorem mW {l : List Bs} {p : List Tm} (h : DL 8 l = false) : QT l p = ([], 1) := by unfold QT; rw [if_neg (fun g => by rw [h] at g; exact absurd g.1 AE)]
theorem mV {l : List Bs} {p : List Tm} (h : ¬ FN p < 2 ^ l.length) : QT l p = ([], 1) := by unfold QT; rw [if_neg (fun g => h g.2)]
theorem bP {l : List Bs} {p : List Tm} (h : DL 8 l = true) (h2 : FN p < 2 ^ l.length) (h3 : 4000 < (DS l p).length) : QT l p = ([], 2) := by unfold QT; rw [if_pos ⟨h, h2⟩, if_pos h3]
theorem mU {l : List Bs} {p : List Tm} (h : DL 8 l = true) (h2 : FN p < 2 ^ l.length) (h3 : ¬ 4000 < (DS l p).length) : QT l p = (DS l p, 0) := by unfold QT; rw [if_pos ⟨h, h2⟩, if_neg h3]
theorem NI {x : Bs × Nat} {a : Bs} (h : x = (a, n)) : Ending.returned (.tuple #[.string (bs a), .int .i64 ↑n]) = .returned (.tuple #[.string (bs x.1), .int .i64 ↑x.2]) := by rw [h]
theorem TS (vp : Value) (p : List Tm) (vl : Value) (l : List Bs) (w : World) (hRp : IsR JL (CX w.heap.size) w vp p) (hRl : IsR elS (CX w.heap.size) w vl l) (hp : ED p) (hF : ∀ t ∈ p, FitQ t.1 1000000) (hL : p.length <= 1000000) (hLl : l.length <= 1000000) (hG : Glob w) :
 Calls prog 12 #[vp, vl] w (FI w (.tuple #[.string (bs (QT l p).1), .int .i64 ↑((QT l p).2)])) := by
 have E := Env.start w
 obtain ⟨z, h, rfl, u, o⟩ := hRp.shp
 replace E := E.r hRp (DF _)
 obtain ⟨B, k, rfl, y, q⟩ := hRl.shp
 replace E := E.r hRl (DF _)
 replace E := E.gl hG
 go_enter func12, ntmps12
 by_cases e : DL 8 l = true
 case neg =>
  refine yG ?_
  refine EF O (CA KH O (CU (DE e) (YT _ l _ (BW E.2.1) hLl)) O E ?_)
  intro C P E
  refine yG ?_
  exact ⟨NI (a := []) (n := 1) (mW (DE e)), e3 E⟩
 by_cases f : FN p < 2 ^ l.length
 case neg =>
  refine yG ?_
  refine EF O (CA KH O (CU e (YT _ l _ (BW E.2.1) hLl)) O E ?_)
  intro G S E
  refine yG ?_
  refine EF O (CA IM O (ZJ _ p _ (BW E.2.2.1) hp hF hL) O E ?_)
  intro F R E
  refine yG ?_
  refine EF O (BZ JA O (gG _ p _ (BW E.2.2.1) hL) O E ?_)
  intro D Q E
  refine yG ?_
  refine V (v := .int .u8 ((FN p / 2 ^ (min l.length IntKind.u8.bits) : Nat) : Int)) Z O (YE (m := FN p) (n := l.length) O O O O) ?_
  refine V Z O (VW (c := true) O O O (by rw [bne, Xn (YB (Dp p)) f]; rfl)) ?_
  refine yG ?_
  exact ⟨NI (a := []) (n := 1) (mV f), e3 E⟩
 refine yG ?_
 refine EF O (CA KH O (CU e (YT _ l _ (BW E.2.1) hLl)) O E ?_)
 intro L Y E
 refine yG ?_
 refine EF O (CA IM O (ZJ _ p _ (BW E.2.2.1) hp hF hL) O E ?_)
 intro J X E
 refine yG ?_
 refine EF O (BZ JA O (gG _ p _ (BW E.2.2.1) hL) O E ?_)
 intro I U E
 refine yG ?_
 refine V (v := .int .u8 ((FN p / 2 ^ (min l.length IntKind.u8.bits) : Nat) : Int)) Z O (YE (m := FN p) (n := l.length) O O O O) ?_
 refine V Z O (VW (c := false) O O O (by rw [bne, Qb (YB (Dp p)) f]; rfl)) ?_
 refine yG ?_
 refine EF O (BZ bX O (Bj _ p _ l _ (BW E.2.2.1) (BW E.2.1) hF hL e E.1.1) O E ?_)
 intro H T E
 by_cases N : (((DS l p).length : Nat) : Int) > 4000
 . refine yG ?_
   exact ⟨NI (a := []) (n := 2) (bP e f AA), e3 E⟩
 refine yG ?_
 exact ⟨NI (a := DS l p) (n := 0) (mU e f AA), e3 E⟩
set_option maxHeartbeats 8000000
set_option maxRecDepth 100000
theorem zH (s : Bs) (w : World) (hs : s.length <= 4000) (h : DW s = none) : Calls prog 137 #[.string (bs s)] w (RetZE w 0 3) := WU (bs s) w (by rw [GA]; exact hs) (by rw [FW]; exact h)
theorem UL (s : Bs) (z : Int) (w : World) (hs : s.length <= 4000) (h : DW s = some z) : Calls prog 137 #[.string (bs s)] w (RetZE w z 0) := LA (bs s) z w (by rw [GA]; exact hs) (by rw [FW]; exact h)
theorem Df (s : Bs) (w : World) (hs : 4000 < s.length) (hs2 : s.length <= 1000000) : Calls prog 137 #[.string (bs s)] w (RetZE w 0 2) := by
 refine (uS (bs s) w (by rw [GA]; exact hs2)).mono ?_
 have := GA s
 rintro e k (⟨_, f⟩ | ⟨h, _⟩ | ⟨h, _⟩)
 . exact f
 . omega
 omega
theorem Yr (h : (qT x).length <= 4000) : FitQ x 4000 := by
 unfold qT KD at h
 split at h
 . rename_i h1
   rw [MB] at h
   exact ⟨OK h (VD _), by rw [h1]; exact (NF (m := 4) AE : Fits 1 4).mono AE⟩
 have e : (MC x.num ++ ⟨#[47]⟩ ++ MC ((x.den : Nat) : Int)).data.toList = txt x.num ++ [47] ++ txt ((x.den : Nat) : Int) := by
  rw [<- MB, <- MB]; simp
 rw [e, List.length_append, List.length_append] at h
 exact ⟨OK AA (VD _), OK AA (VD _)⟩
theorem mZ {l : Bs} (hl : l.length <= 4000) (h : ML l = some x) : FitQ x 4000 := by
 have := UC h
 exact Yr (by unfold qT; rw [<- this]; exact hl)
theorem zD (s : Bs) (x : Rat) (w : World) (hs : s.length <= 4000) (h : ML s = some x) : Calls prog 89 #[.string (bs s)] w (RetPE w x.num ((x.den : Nat) : Int) 0) := by
 refine (Gy (bs s) w).mono fun e q o => ?_
 have k : bs s = KD x := by rw [UC h, Qn]
 rcases o with ⟨p, _⟩ | ⟨_, f, _⟩ | ⟨y, _, f, l⟩
 . rw [GA] at p; omega
 . exact absurd k (f x)
 have : x = y := vG (k.symm.trans f)
 subst this; exact l
theorem zF (s : Bs) (w : World) (hs : s.length <= 4000) (h : ML s = none) : Calls prog 89 #[.string (bs s)] w (RetPE w 0 0 3) := by
 refine (Gy (bs s) w).mono fun e p k => ?_
 rcases k with ⟨o, _⟩ | ⟨_, _, f⟩ | ⟨y, _, l, _⟩
 . rw [GA] at o; omega
 . exact f
 exact absurd (by rw [<- l, FW] : s = (KD y).data.toList) (iZ h y)
theorem Kj (va : Value) (x : Int) (w : World) (ha : IsI w va x) (h : x < -9223372036854775808 ∨ 9223372036854775807 < x) : Calls prog 147 #[va] w (RetS w 0 false) := by
 have := Gs va x w ha
 rwa [(cY h).1, (cY h).2] at this
def dS (o : Option Nat) : Nat × Bool := match o with
 | some n => (n, true)
 | none => (0, false)
theorem nB {x : Nat × Bool} {b : Bool} (h : x = (n, b)) : Ending.returned (.tuple #[.int .i64 ↑n, .bool b]) = .returned (.tuple #[.int .i64 ↑x.1, .bool x.2]) := by rw [h]
theorem nA {o : Option Nat} (h : o = none) : dS o = (0, false) := by rw [h]; rfl
theorem rU {k : Nat} (hk : 0 < k) (h : n < 10 ^ k) : (VO n).length <= k := by
 induction k generalizing n with
 | zero => omega
 | succ k ih =>
   by_cases f : n < 10
   . rw [PK n f]; simp
   rw [UT n AA, List.length_append]
   have e : 0 < k := by
    rcases Nat.eq_zero_or_pos k with rfl | g
    . simp at h; omega
    exact g
   have := ih (n := n / 10) e (by rw [Nat.pow_succ] at h; omega)
   simp only [List.length_cons, List.length_nil]; omega
theorem Yh {lo hi : Nat} {l : Bs} (hh : hi <= 1000000) (hl : 4000 < l.length) : FY lo hi l = none := by
 cases h : FY lo hi l with
 | none => rfl
 | some n =>
   exfalso
   obtain ⟨e, _, o⟩ := TE AA h
   have f := rU (k := 7) (n := n) AE AA
   rw [e] at hl
   unfold txt at hl
   rw [if_neg AA, List.nil_append, Int.natAbs_natCast] at hl
   unfold XG at hl
   rw [List.length_map] at hl
   omega
theorem Sx {l : Bs} (h : DW l = none) : FY lo hi l = none := by unfold FY; rw [h]
theorem Be {l : Bs} (h : DW l = some z) (hz : ¬ (lo <= z /\ z <= hi)) : FY lo hi l = none := by unfold FY; rw [h]; simp only; rw [if_neg hz]
theorem Yg {l : Bs} (h : DW l = some z) (h1 : lo <= z) (h2 : z <= hi) (h0 : 0 <= z) : Ending.returned (.tuple #[.int .i64 z, .bool true]) = .returned (.tuple #[.int .i64 ↑((dS (FY lo hi l)).1), .bool (dS (FY lo hi l)).2]) := by
 unfold FY; rw [h]; simp only; rw [if_pos ⟨h1, h2⟩]; simp only [dS]; rw [Int.toNat_of_nonneg h0]
theorem OX (s : Bs) (lo : Nat) (hi : Nat) (w : World) (hs : s.length <= 1000000) (hh : hi <= 1000000) :
 Calls prog 101 #[.string (bs s), .int .i64 ↑lo, .int .i64 ↑hi] w (FI w (.tuple #[.int .i64 ↑((dS (FY lo hi s)).1), .bool (dS (FY lo hi s)).2])) := by
 have E := Env.start w
 go_enter func101, ntmps101
 by_cases S : 4000 < s.length
 case pos =>
  refine yG ?_
  refine EF O (DV DK O (Df s _ S hs) O E ?_)
  intro w1 n1 s1 d1 E
  refine yG ?_
  refine EF O (CB GD O ?_)
  intro b2 w2 F z2 d2 R
  have l2 : w.heap.size <= b2 := by rw [F]; exact E.2.1.size
  replace E := E.below d2
  refine yG ?_
  refine EF O (BY GD O O O R O O (IsI.one E.1) ?_)
  intro w3 o3 y3
  replace E := oC E R o3 y3
  refine yG ?_
  exact ⟨nB (n := 0) (b := false) (nA (Yh hh S)), E.2.2.1⟩
 by_cases e : DW s = none
 case pos =>
  refine yG ?_
  refine EF O (DV DK O (zH s _ AA e) O E ?_)
  intro w4 n4 s4 d4 E
  refine yG ?_
  refine EF O (CB GD O ?_)
  intro b5 w5 D z5 d5 Q
  have l5 : w.heap.size <= b5 := by rw [D]; exact E.2.1.size
  replace E := E.below d5
  refine yG ?_
  refine EF O (BY GD O O O Q O O (IsI.one E.1) ?_)
  intro w6 o6 y6
  replace E := oC E Q o6 y6
  refine yG ?_
  exact ⟨nB (n := 0) (b := false) (nA (Sx e)), E.2.2.1⟩
 obtain ⟨z, e⟩ := Option.ne_none_iff_exists'.1 e
 by_cases an : -9223372036854775808 <= z /\ z <= 9223372036854775807
 case neg =>
  refine yG ?_
  refine EF O (DV DK O (UL s z _ AA e) O E ?_)
  intro a3 ah ae ap E
  refine yG ?_
  refine EF O (CB GD O ?_)
  intro J a2 l T G f
  have ak : w.heap.size <= J := by rw [l]; exact E.2.1.size
  replace E := E.below G
  refine yG ?_
  refine EF O (BY GD O O O f O O (IsI.one E.1) ?_)
  intro a1 v q
  replace E := oC E f v q
  refine yG ?_
  refine EF O (PT NA O (Kj _ z _ E.2.1 AA) O E ?_)
  intro a0 ao E
  refine yG ?_
  exact ⟨nB (n := 0) (b := false) (nA (Be e AA)), E.2.2.1⟩
 by_cases h2 : z < ((lo : Nat) : Int)
 . exact ZQF
 by_cases h3 : z > ((hi : Nat) : Int)
 case neg =>
  refine yG ?_
  refine EF O (DV DK O (UL s z _ AA e) O E ?_)
  intro a8 ai af ar E
  refine yG ?_
  refine EF O (CB GD O ?_)
  intro L a7 o U H h
  have al : w.heap.size <= L := by rw [o]; exact E.2.1.size
  replace E := E.below H
  refine yG ?_
  refine EF O (BY GD O O O h O O (IsI.one E.1) ?_)
  intro a6 y t
  replace E := oC E h y t
  refine yG ?_
  refine EF O (PT NA O (oP _ z _ E.2.1 AA AA) O E ?_)
  intro a4 aq E
  refine yG ?_
  exact ⟨Yg e AA AA AA, E.2.2.1⟩
 exact ZQF
theorem cM (s : Bs) (b : UInt8) (w : World) (hs : s.length <= 1000000) (hG : Glob w) (h : NJ b s = none) : Calls prog 52 #[.string (bs s), .string (bs [b])] w (FI w (.tuple #[.string (bs s), .string (bs []), .bool false])) := by
 have := zV s [b] w hs hG
 rwa [yH h] at this
theorem cJ (s : Bs) (b : UInt8) (x y : Bs) (w : World) (hs : s.length <= 1000000) (hG : Glob w) (h : NJ b s = some (x, y)) : Calls prog 52 #[.string (bs s), .string (bs [b])] w (FI w (.tuple #[.string (bs x), .string (bs y), .bool true])) := by
 have := zV s [b] w hs hG
 rwa [yF h] at this
theorem jK (vl : Value) (l : List Bs) (x : Bs) (v : Nat) (w : World) (h : IsR elS (CX w.heap.size) w vl l) (hv : l.idxOf? x = some v) : Calls prog 125 #[vl, .string (bs x)] w (XR w ((v : Nat) : Int)) := by
 have := Ha vl l x w h
 unfold iA at this
 rwa [hv] at this
theorem gM (vl : Value) (l : List Bs) (x : Bs) (w : World) (h : IsR elS (CX w.heap.size) w vl l) (hv : l.idxOf? x = none) : Calls prog 125 #[vl, .string (bs x)] w (XR w (-1)) := by
 have := Ha vl l x w h
 unfold iA at this
 rwa [hv] at this
def eY (l : List Bs) (x : Bs) : Nat × Nat × Bool := match NJ 94 x with
 | none => match l.idxOf? x with
   | none => (0, 0, false)
   | some v => (v, 1, true)
 | some (a, d) => match l.idxOf? a with
   | none => (0, 0, false)
   | some v => (v, (dS (FY 2 65535 d)).1, (dS (FY 2 65535 d)).2)
theorem tX {x : Nat × Nat × Bool} {b : Bool} (h : x = (v, n, b)) : Ending.returned (.tuple #[.int .i64 ↑v, .int .i64 ↑n, .bool b]) = .returned (.tuple #[.int .i64 ↑x.1, .int .i64 ↑x.2.1, .bool x.2.2]) := by rw [h]
theorem Xk {l : List Bs} {x : Bs} (h : NJ 94 x = none) (h2 : l.idxOf? x = none) : eY l x = (0, 0, false) := by unfold eY; simp only [h, h2]
theorem Xj {l : List Bs} {x : Bs} (h : NJ 94 x = none) (h2 : l.idxOf? x = some v) : eY l x = (v, 1, true) := by unfold eY; simp only [h, h2]
theorem Xi {l : List Bs} {x a d : Bs} (h : NJ 94 x = some (a, d)) (h2 : l.idxOf? a = none) : eY l x = (0, 0, false) := by unfold eY; simp only [h, h2]
theorem Pu {l : List Bs} {x a d : Bs} (h : NJ 94 x = some (a, d)) (h2 : l.idxOf? a = some v) : eY l x = (v, (dS (FY 2 65535 d)).1, (dS (FY 2 65535 d)).2) := by unfold eY; simp only [h, h2]
theorem Px {l : List Bs} {x : Bs} (h : QS l x = some (v, n)) : eY l x = (v, n, true) := by
 unfold QS at h
 cases f : NJ 94 x with
 | none =>
   rw [f] at h
   cases e : l.idxOf? x with
   | none => simp [e] at h
   | some u => simp only [e, Option.map_some, Option.some.injEq, Prod.mk.injEq] at h; obtain ⟨rfl, rfl⟩ := h; exact Xj f e
 | some p =>
   obtain ⟨a, d⟩ := p
   rw [f] at h
   cases e : l.idxOf? a with
   | none => simp [e] at h
   | some u =>
     cases o : FY 2 65535 d with
     | none => simp [e, o] at h
     | some k =>
       simp only [e, o, Option.some.injEq, Prod.mk.injEq] at h
       obtain ⟨rfl, rfl⟩ := h
       rw [Pu f e, o]; rfl
theorem Fi {l : List Bs} {x : Bs} (h : QS l x = none) : ∃ v n, eY l x = (v, n, false) := by
 unfold QS at h
 cases f : NJ 94 x with
 | none =>
   rw [f] at h
   cases e : l.idxOf? x with
   | none => exact ⟨_, _, Xk f e⟩
   | some u => simp [e] at h
 | some p =>
   obtain ⟨a, d⟩ := p
   rw [f] at h
   cases e : l.idxOf? a with
   | none => exact ⟨_, _, Xi f e⟩
   | some u =>
     cases o : FY 2 65535 d with
     | none => exact ⟨_, _, by rw [Pu f e, o]; rfl⟩
     | some k => simp [e, o] at h
theorem Vo {b : UInt8} {x a d : Bs} (h : NJ b x = some (a, d)) : a.length <= x.length /\ d.length <= x.length := by
 obtain ⟨rfl, _⟩ := cutB_some.1 h
 simp; omega
theorem dJ (s : Bs) (vl : Value) (l : List Bs) (w : World) (hRl : IsR elS (CX w.heap.size) w vl l) (hs : s.length <= 1000000) (hG : Glob w) :
 Calls prog 90 #[.string (bs s), vl] w (FI w (.tuple #[.int .i64 ↑((eY l s).1), .int .i64 ↑((eY l s).2.1), .bool (eY l s).2.2])) := by
 have E := Env.start w
 obtain ⟨q, k, rfl, p, o⟩ := hRl.shp
 replace E := E.r hRl (DF _)
 replace E := E.gl hG
 go_enter func90, ntmps90
 by_cases e : NJ 94 s = none
 case pos =>
  by_cases f : l.idxOf? s = none
  . refine yG ?_
    refine EF O (BZ IZ O (cM s 94 _ hs E.1.1 e) O E ?_)
    intro G S E
    refine yG ?_
    refine EF O (CE FH O (gM _ l s _ (BW E.2.1) f) O E ?_)
    intro F R E
    refine yG ?_
    exact ⟨tX (v := 0) (n := 0) (b := false) (Xk e f), E.2.2.1⟩
  obtain ⟨v, h⟩ := Option.ne_none_iff_exists'.1 f
  refine yG ?_
  refine EF O (BZ IZ O (cM s 94 _ hs E.1.1 e) O E ?_)
  intro D Q E
  refine yG ?_
  refine EF O (CE FH O (jK _ l s v _ (BW E.2.1) h) O E ?_)
  intro C P E
  refine yG ?_
  exact ⟨tX (v := v) (n := 1) (b := true) (Xj e h), E.2.2.1⟩
 obtain ⟨⟨a, d⟩, e⟩ := Option.ne_none_iff_exists'.1 e
 by_cases f : l.idxOf? a = none
 . refine yG ?_
   refine EF O (BZ IZ O (cJ s 94 a d _ hs E.1.1 e) O E ?_)
   intro B N E
   refine yG ?_
   refine EF O (CE FH O (gM _ l a _ (BW E.2.1) f) O E ?_)
   intro z L E
   refine yG ?_
   exact ⟨tX (v := 0) (n := 0) (b := false) (Xi e f), E.2.2.1⟩
 obtain ⟨v, h⟩ := Option.ne_none_iff_exists'.1 f
 refine yG ?_
 refine EF O (BZ IZ O (cJ s 94 a d _ hs E.1.1 e) O E ?_)
 intro y J E
 refine yG ?_
 refine EF O (CE FH O (jK _ l a v _ (BW E.2.1) h) O E ?_)
 intro u I E
 refine yG ?_
 refine EF O (BZ HY O (OX d 2 65535 _ (by have := Vo e; omega) AE) O E ?_)
 intro t H E
 refine yG ?_
 exact ⟨tX (v := v) (n := _) (b := _) (Pu e h), E.2.2.1⟩
end Go.Proofs.YtmppigbbkjepiaaGreatDoor
