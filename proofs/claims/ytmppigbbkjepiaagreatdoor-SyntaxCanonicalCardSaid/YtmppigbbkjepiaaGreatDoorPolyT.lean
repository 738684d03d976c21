/- The texts of polynomials. (Printed by g_polyt.py.) -/
import Derived.Test.YtmppigbbkjepiaaGreatDoorKitK
set_option maxHeartbeats 8000000
set_option maxRecDepth 100000
namespace Go.Proofs.YtmppigbbkjepiaaGreatDoor
open Go.Proofs.Tryz
open Go.RowKit W
theorem Pa : Ag prog 105 2 [.pointer none, .slice none 0 0] := ⟨⟨_, underlying105, rfl⟩, by kernel_rfl, rfl⟩
theorem EG {o : Oper} {a : Act} {w : World} {K : Act → World → Prop} {Q : Exit → Act → World → Prop} {x y : Operand} {tys : Array TypeId} {b base : Nat} {p v : Value} {l s : Bs} {L : List SF}
    (ho : o.op = .call { callee := .value (.func 48), args := [x, y].toArray, argTypes := tys }) (hx : a.eval x = .pointer (some ⟨b, 0, none⟩)) (hy : a.eval y = .string (bs s))
    (hb : Bx w b YP [p, v]) (hA : Acc elB 5 base VF w v l) (hp : p = .pointer none ∨ p = .pointer (some ⟨b, 0, none⟩)) (hlen : l.length + s.length ≤ 140737488355328) (hbase : base ≤ w.heap.size)
    (E : Env w L) (hk : Ok b L) (hg : ∀ g, v.ownBlock = some g → base ≤ g → g < w.heap.size → Ok g L)
    (h : ∀ v' w', (∀ c, c < w.heap.size → v.ownBlock ≠ some c → v'.ownBlock ≠ some c) → Env w' (fA elB 5 base VF v' (l ++ s) :: fX b YP [.pointer (some ⟨b, 0, none⟩), v'] :: L) → K (a.put o.dst (.tuple #[.int .i64 ↑s.length, .nilIface])) w') : o.wp prog a w K Q := by
  refine DB ⟨_, func48, by kernel_rfl, O⟩ ho (lC b base p v l s w hb hA hp hlen hbase) (by simp [hx, hy]) ?_
  rintro e w' ⟨rfl, v', t, q, u, f, k⟩
  exact ⟨_, rfl, h v' w' f ((k L E hk hg).x t |>.a q (RW _))⟩
theorem tI {w : World} {b base B : Nat} {p v : Value} {l : Bs} (hb : Bx w b YP [p, v]) (hA : Acc elB 5 base VF w v l) (hp : p = .pointer none ∨ p = .pointer (some ⟨b, 0, none⟩)) (h1 : B ≤ b) (h2 : B ≤ base) (h3 : B ≤ w.heap.size) :
    Calls prog 51 #[.pointer (some ⟨b, 0, none⟩)] w fun e w' => e = .returned (.string (bs l)) ∧ Below B w w' := by
  have o := Am hA
  have f : w.ownsRow B 5 1 v (Lib.byteCells l).length (Lib.byteCells l) := by
    rw [show (Lib.byteCells l).length = l.length from List.length_map _]
    refine ⟨o.1, ?_⟩
    rcases o.own.2 with h | ⟨g, t, q, u, y, r⟩
    · exact .inl h
    · exact .inr ⟨g, t, q, u, Nat.le_trans h2 y, r⟩
  have k : Lib.BuilderAt YP 5 B b p (Lib.byteCells l) w := ⟨h1, v, hb, f, uW o hb Qq⟩
  exact Tryz.Builder_String_any B b l w (hp.elim (fun e => .inl (e ▸ k)) fun e => .inr (e ▸ k)) h3
theorem rat_neg {c : Rat} : c < 0 ↔ c.num < 0 := by
  rw [← Rat.not_le, ← Int.not_le]
  exact not_congr Rat.num_nonneg.symm
theorem qJ {c : Rat} (h : c < 0) : decide (NA c.num < 0) = true := xU (rat_neg.1 h)
theorem xT {c : Rat} (h : ¬ c < 0) : decide (NA c.num < 0) = false := by
  have e : ¬ c.num < 0 := fun g => h (rat_neg.2 g)
  rcases JH c.num with g | g | g
  · omega
  · rw [g.2]; rfl
  · rw [g.2]; rfl
theorem dE (l : List Bs) (c : Rat) (mm : List Nat) : ∀ (f : Bool) (p : List Tm), MS l f (p ++ [(c, mm)]) = MS l f p ++ (YD (f && p.isEmpty) (decide (c < 0)) ++ IC l (cY c) mm)
  | f, [] => by simp [MS]
  | f, (d, k) :: p => by
    simp only [List.cons_append, MS]
    rw [dE l c mm false p]
    simp [List.append_assoc]
theorem RJ {l : List Bs} {p : List Tm} {i : Nat} {c : Rat} {mm : List Nat} (h : p[i]? = some (c, mm)) :
    MS l true (p.take (i + 1)) = MS l true (p.take i) ++ (YD (decide (i = 0)) (decide (c < 0)) ++ IC l (cY c) mm) := by
  rw [JR h, dE]
  have k := (List.getElem?_eq_some_iff.1 h).1
  congr 3
  rw [Bool.true_and]
  by_cases f : i = 0
  · subst f; simp
  · rw [decide_eq_false f, List.isEmpty_eq_false_iff]
    intro e
    have := congrArg List.length e
    rw [List.length_take, List.length_nil] at this
    omega
theorem sg1 {i : Nat} {c : Rat} (h0 : i = 0) (hc : c < 0) : YD (decide (i = 0)) (decide (c < 0)) = [45] := by rw [decide_eq_true h0, decide_eq_true hc]; rfl
theorem sg2 {i : Nat} {c : Rat} (h0 : i = 0) (hc : ¬ c < 0) : YD (decide (i = 0)) (decide (c < 0)) = [] := by rw [decide_eq_true h0, decide_eq_false hc]; rfl
theorem sg3 {i : Nat} {c : Rat} (h0 : ¬ i = 0) (hc : c < 0) : YD (decide (i = 0)) (decide (c < 0)) = [32, 45, 32] := by rw [decide_eq_false h0, decide_eq_true hc]; rfl
theorem sg4 {i : Nat} {c : Rat} (h0 : ¬ i = 0) (hc : ¬ c < 0) : YD (decide (i = 0)) (decide (c < 0)) = [32, 43, 32] := by rw [decide_eq_false h0, decide_eq_false hc]; rfl
theorem vE {l : List Bs} {p : List Tm} (h : p.length = 0) : [48] = FU l p := by rw [List.eq_nil_of_length_eq_zero h]; rfl
theorem Cl {l : List Bs} {p : List Tm} (h : ¬ p.length = 0) : MS l true p = FU l p := by unfold FU; rw [if_neg (fun e => h (by rw [e]; rfl))]
theorem vF (vp : Value) (p : List Tm) (vl : Value) (l : List Bs) (w : World) (hRp : IsR KG (DI w.heap.size) w vp p) (hRl : IsR elS (DI w.heap.size) w vl l) (hF : ∀ t ∈ p, FitQ t.1 1000000) (hL : p.length ≤ 1000000) (hV : DS 8 l = true) (hG : Glob w) :
    Calls prog 39 #[vp, vl] w (FX w (.string (bs (FU l p)))) := by
 have E := Env.start w
 obtain ⟨a3, H, rfl, dp, dm⟩ := hRp.shp
 replace E := E.r hRp (DM _)
 clear hRp
 obtain ⟨bm, ab, rfl, dq, dn⟩ := hRl.shp
 replace E := E.r hRl (DM _)
 clear hRl
 have ds := hG.two
 replace E := E.gl hG
 go_enter func39, ntmps39
 by_cases h0 : ((p.length : Nat) : Int) = 0
 case pos =>
  refine yG ?_
  exact ⟨iA (vE Z), e3 E⟩
 refine yG ?_
 refine EF O (CA Pa O ?_)
 intro N w1 bi z1 d1 x1
 have l1 : w.heap.size ≤ N := by rw [bi]; exact (e3 E).size
 replace E := (E.below d1).x x1
 clear bi z1 d1 x1
 obtain ⟨z, G⟩ : ∃ n, n = w1.heap.size := ⟨_, rfl⟩
 have cm : w.heap.size ≤ z := by rw [G]; exact (e4 E).size
 have bq : N < z := by rw [G]; exact Bx.lt E.1
 replace E := (E.sz (Nat.le_of_eq G)).a (Acc.nil elB 5 z VF _) (RW _)
 clear G
 refine yG ?_
 refine wp_loop_ghost (fun mz a w' => ∃ (i : Nat) (pr : Value) (vr : Value) (lr : Bs) (f : List Value), f = a.tmps.toList ∧ a = ⟨#[.slice a3 p.length H, .slice bm l.length ab, undef, undef, .string (bs ([])), .pointer (some ⟨N, 0, none⟩), CC f 6, CC f 7, CC f 8, .slice a3 p.length H, .int .i64 ↑p.length, .bool false, .slice a3 p.length H, .int .i64 ↑p.length, .int .i64 ↑i, CC f 15, CC f 16, CC f 17, CC f 18, CC f 19, CC f 20, CC f 21, CC f 22, CC f 23, CC f 24, CC f 25, CC f 26, CC f 27, CC f 28, CC f 29, CC f 30, CC f 31, CC f 32, CC f 33, CC f 34, CC f 35, CC f 36, CC f 37, CC f 38, CC f 39, CC f 40, CC f 41, CC f 42, CC f 43, CC f 44, CC f 45, CC f 46, CC f 47, CC f 48, CC f 49, CC f 50, undef], []⟩ ∧ Env w' [fA elB 5 z VF vr lr, fX N (105) ([pr, vr]), Kb z, fGl, fR elS (DI w.heap.size) (.slice bm l.length ab) l, fR KG (DI w.heap.size) (.slice a3 p.length H) p, fW w] ∧ mz = p.length - i ∧ (i ≤ p.length ∧ (pr = .pointer none ∨ pr = .pointer (some ⟨N, 0, none⟩)) ∧ lr = MS l true (p.take i) ∧ lr.length ≤ i * 31000010)) (p.length) ⟨0, (.pointer none), (.slice none 0 0), [], _, O, O, zE, O, ⟨Nat.zero_le _, .inl O, by simp [MS], by simp⟩⟩ ?_
 rintro m3 _ w3 ⟨i, pr, vr, lr, f, -, rfl, E, a1, bh⟩
 obtain ⟨bh, hJ⟩ := bh
 by_cases hi : i < p.length
 case neg =>
  obtain ⟨J, C, cf⟩ := hJ
  rw [IA hi] at C
  subst C
  refine yG ?_
  refine EF O (DB ⟨_, func51, by kernel_rfl, O⟩ O (tI (B := w.heap.size) E.2.1 E.1.1 J Z Z (e6 E).size) O ?_)
  rintro _ bv ⟨rfl, ci⟩
  refine ⟨_, O, ?_⟩
  replace E : Env bv [fW w] := ⟨Below.trans (e6 E) ci, BW⟩
  refine yG ?_
  exact ⟨iA (Cl Z), E.1⟩
 obtain ⟨⟨u, o⟩, v⟩ : ∃ x, p[i]? = some x := ⟨_, List.getElem?_eq_getElem hi⟩
 obtain ⟨b7, dh, _, a2, bg, ch, ⟨n4, s4, m4, u4, rfl, cd, cg, k⟩⟩ := IsR.at (e5 E).1 v
 have ce : b7 < _ := (e5 E).2 _ bg
 replace E := ((E.c ch ce).i cd).i cg
 have dr : b7 < w.heap.size := bg
 have y := hF _ (List.mem_of_getElem? v)
 obtain ⟨J, C, cf⟩ := hJ
 by_cases q : u < 0
 case neg =>
  by_cases Q : i = 0
  case pos =>
   refine yG ?_
   refine tZ O O a2 O (List.getElem?_eq_some_iff.1 v).1 ?_
   refine V O O (CD JW O O (E.2.2.1.1) (CJ k)) ?_
   refine yG ?_
   refine EF O (CA JW O ?_)
   intro an cy S bt bk ad
   have X : (vr : Value).ownBlock ≠ some an := fun h => by have := (Acc.lt (e3 E).1 h).2; omega
   have cb : N < an := by rw [S]; exact Bx.lt (e4 E)
   have bo : z ≤ an := by rw [S]; exact CU (e5 E)
   replace E := E.below bk
   clear S bt bk
   refine yG ?_
   refine EF O (BX JW O O O ad (by first | rfl | exact CJ DC) (CJ k) (FT (M := o) (IsI.one E.2.1) (IsI.one E.1)) ?_)
   intro cx b9 aq
   replace E := (E.onl (ad.noW (FR (M := zeroM) CW CW)) zK b9).x (cs := (HY n4 s4 m4 u4 o)) aq
   clear ad b9 aq
   refine yG ?_
   refine V O O (CD GI O O (Cs.sub (Bx.cs E.1) 0 (EK _ _ _ _ _)) O) ?_
   refine yG ?_
   refine EF O (CH DW O (OK _ _ _ _ u _ E.2.2.1 E.2.1) O E ?_)
   clear E
   intro cw _ E
   refine yG ?_
   refine V O O (MD (c := false) O O O (xT q)) ?_
   have ak := XE (l := l) (c := u) (M := o) hV k y
   refine yG ?_
   refine EF O (BZ EO O (KV _ _ _ _ u o _ l _ E.2.2.1 E.2.1 k (BV (e8 E)) (FitQ.mono y AD) hV (e7 E).1) O E ?_)
   clear E
   intro cv _ E
   have a6 := e4 E
   refine yG ?_
   replace E := Sr E
   have ay := e4 E
   replace E := Sr E
   have c2 := Bx.lt E.1
   refine EF O (EG (s := IC l u o) O O O ay a6.1 J AI (CU (e4 E)) E ⟨CS Z, BW, BW, UO Z, BW, EA Z, EC (CN Z), EC (CN Z), JD Z, BW⟩ (fun g L h1 h2 => ⟨CS (fun e => X (e ▸ L)), BW, BW, UO Z, BW, EA Z, EC (CN Z), EC (CN Z), JD Z, BW⟩) ?_)
   clear E ay a6
   intro bx cu dj E
   refine yG ?_
   exact ⟨_, (by rw [a1]; omega), (i + 1), (.pointer (some ⟨N, 0, none⟩)), bx, lr ++ (IC l u o), _, O, O, zE, O, ⟨by omega, .inr O, by rw [RJ v, sg2 Q q, C, cX q]; simp, by simp only [List.length_append]; omega⟩⟩
  refine yG ?_
  refine tZ O O a2 O (List.getElem?_eq_some_iff.1 v).1 ?_
  refine V O O (CD JW O O (E.2.2.1.1) (CJ k)) ?_
  refine yG ?_
  refine EF O (CA JW O ?_)
  intro am ct R br bj ac
  have D : (vr : Value).ownBlock ≠ some am := fun h => by have := (Acc.lt (e3 E).1 h).2; omega
  have ca : N < am := by rw [R]; exact Bx.lt (e4 E)
  have bn : z ≤ am := by rw [R]; exact CU (e5 E)
  replace E := E.below bj
  clear R br bj
  refine yG ?_
  refine EF O (BX JW O O O ac (by first | rfl | exact CJ DC) (CJ k) (FT (M := o) (IsI.one E.2.1) (IsI.one E.1)) ?_)
  intro cr b8 ap
  replace E := (E.onl (ac.noW (FR (M := zeroM) CW CW)) zK b8).x (cs := (HY n4 s4 m4 u4 o)) ap
  clear ac b8 ap
  refine yG ?_
  refine V O O (CD GI O O (Cs.sub (Bx.cs E.1) 0 (EK _ _ _ _ _)) O) ?_
  refine yG ?_
  refine EF O (CH DW O (OK _ _ _ _ u _ E.2.2.1 E.2.1) O E ?_)
  clear E
  intro cq _ E
  refine yG ?_
  refine V O O (MD (c := false) O O O (xT q)) ?_
  have a5 := e4 E
  refine yG ?_
  replace E := Sr E
  have ax := e4 E
  replace E := Sr E
  have ah := Bx.lt E.1
  refine EF O (EG (s := [32, 43, 32]) O O O ax a5.1 J (by simp only [List.length_cons, List.length_nil]; omega) (CU (e4 E)) E ⟨CS Z, BW, BW, UO Z, BW, EA Z, EC (CN Z), EC (CN Z), JD Z, BW⟩ (fun g L h1 h2 => ⟨CS (fun e => D (e ▸ L)), BW, BW, UO Z, BW, EA Z, EC (CN Z), EC (CN Z), JD Z, BW⟩) ?_)
  clear E ax a5
  intro dd cp c6 E
  have U := c6 _ ah D
  have ak := XE (l := l) (c := u) (M := o) hV k y
  refine yG ?_
  refine EF O (BZ EO O (KV _ _ _ _ u o _ l _ (e4 E) (e3 E) k (BV (e8 E)) (FitQ.mono y AD) hV (e7 E).1) O E ?_)
  clear E
  intro co _ E
  have a4 := E.1
  refine yG ?_
  replace E := Sp E
  have aw := E.1
  replace E := Sp E
  have c1 := Bx.lt E.1
  refine EF O (EG (s := IC l u o) O O O aw a4.1 (.inr O) AI (CU (e4 E)) E ⟨CS Z, BW, BW, UO Z, BW, EA Z, EC (CN Z), EC (CN Z), JD Z, BW⟩ (fun g L h1 h2 => ⟨CS (fun e => U (e ▸ L)), BW, BW, UO Z, BW, EA Z, EC (CN Z), EC (CN Z), JD Z, BW⟩) ?_)
  clear E aw a4
  intro bw cn di E
  refine yG ?_
  exact ⟨_, (by rw [a1]; omega), (i + 1), (.pointer (some ⟨N, 0, none⟩)), bw, (lr ++ ([32, 43, 32])) ++ (IC l u o), _, O, O, zE, O, ⟨by omega, .inr O, by rw [RJ v, sg4 Q q, C, cX q]; simp, by simp only [List.length_append, List.length_cons, List.length_nil]; omega⟩⟩
 by_cases Q : i = 0
 case pos =>
  refine yG ?_
  refine tZ O O a2 O (List.getElem?_eq_some_iff.1 v).1 ?_
  refine V O O (CD JW O O (E.2.2.1.1) (CJ k)) ?_
  refine yG ?_
  refine EF O (CA JW O ?_)
  intro b5 w5 al z5 d5 x5
  have P : (vr : Value).ownBlock ≠ some b5 := fun h => by have := (Acc.lt (e3 E).1 h).2; omega
  have ck : N < b5 := by rw [al]; exact Bx.lt (e4 E)
  have c9 : z ≤ b5 := by rw [al]; exact CU (e5 E)
  replace E := E.below d5
  clear al z5 d5
  refine yG ?_
  refine EF O (BX JW O O O x5 (by first | rfl | exact CJ DC) (CJ k) (FT (M := o) (IsI.one E.2.1) (IsI.one E.1)) ?_)
  intro w6 o6 y6
  replace E := (E.onl (x5.noW (FR (M := zeroM) CW CW)) zK o6).x (cs := (HY n4 s4 m4 u4 o)) y6
  clear x5 o6 y6
  refine yG ?_
  refine V O O (CD GI O O (Cs.sub (Bx.cs E.1) 0 (EK _ _ _ _ _)) O) ?_
  refine yG ?_
  refine EF O (CH DW O (OK _ _ _ _ u _ E.2.2.1 E.2.1) O E ?_)
  clear E
  intro w7 _ E
  refine yG ?_
  refine V O O (MD (c := true) O O O (qJ q)) ?_
  refine yG ?_
  refine V O O (CD GI O O (Cs.sub (Bx.cs E.1) 0 (EK _ _ _ _ _)) O) ?_
  refine yG ?_
  refine EF O (CZ ML O (Aw _ _ _ _ u _ E.2.2.1 E.2.1 (FitQ.mono y AD)) O E ?_)
  clear E
  intro w9 n9 s9 m9 t9 _ E
  have F8 : FitQ (-u) 1000000 := WZ y
  have ag := E.2.2.1
  refine yG ?_
  replace E := Sq E
  refine yG ?_
  refine EF O (LI (cs' := (HY n9 s9 m9 t9 o)) GI O O O ag O (by rw [CJ k]; decide) (LM (IsI.one E.2.1) (IsI.one E.1)) O ?_)
  intro dc bc av
  replace E := (E.onl (ag.noW (FR (M := o) (IsI.now (e3 E)) (IsI.now E.2.2.1))) zK bc).x (cs := (HY n9 s9 m9 t9 o)) av
  clear ag bc av
  have aa := e6 E
  refine yG ?_
  replace E := Ss E
  have b3 := e6 E
  replace E := Ss E
  have aj := Bx.lt E.1
  refine EF O (EG (s := [45]) O O O b3 aa.1 J (by simp only [List.length_cons, List.length_nil]; omega) (CU (e6 E)) E ⟨CS Z, BW, BW, BW, BW, UO Z, BW, EA Z, EC (CN Z), EC (CN Z), JD Z, BW⟩ (fun g L h1 h2 => ⟨CS (fun e => P (e ▸ L)), BW, BW, BW, BW, UO Z, BW, EA Z, EC (CN Z), EC (CN Z), JD Z, BW⟩) ?_)
  clear E b3 aa
  intro dg db c8 E
  have a0 := c8 _ aj P
  have ak := XE (l := l) (c := (-u)) (M := o) hV k (WZ y)
  refine yG ?_
  refine EF O (BZ EO O (KV _ _ _ _ (-u) o _ l _ (e4 E) (e3 E) k (BV (PP E)) (FitQ.mono F8 AD) hV (e9 E).1) O E ?_)
  clear E
  intro da _ E
  have a9 := E.1
  refine yG ?_
  replace E := Sp E
  have b2 := E.1
  replace E := Sp E
  have c5 := Bx.lt E.1
  refine EF O (EG (s := IC l (-u) o) O O O b2 a9.1 (.inr O) AI (CU (e6 E)) E ⟨CS Z, BW, BW, BW, BW, UO Z, BW, EA Z, EC (CN Z), EC (CN Z), JD Z, BW⟩ (fun g L h1 h2 => ⟨CS (fun e => a0 (e ▸ L)), BW, BW, BW, BW, UO Z, BW, EA Z, EC (CN Z), EC (CN Z), JD Z, BW⟩) ?_)
  clear E b2 a9
  intro c0 d9 dl E
  refine yG ?_
  exact ⟨_, (by rw [a1]; omega), (i + 1), (.pointer (some ⟨N, 0, none⟩)), c0, (lr ++ ([45])) ++ (IC l (-u) o), _, O, O, zE, O, ⟨by omega, .inr O, by rw [RJ v, sg1 Q q, C, jY q]; simp, by simp only [List.length_append, List.length_cons, List.length_nil]; omega⟩⟩
 refine yG ?_
 refine tZ O O a2 O (List.getElem?_eq_some_iff.1 v).1 ?_
 refine V O O (CD JW O O (E.2.2.1.1) (CJ k)) ?_
 refine yG ?_
 refine EF O (CA JW O ?_)
 intro ao d8 T bu bl af
 have F : (vr : Value).ownBlock ≠ some ao := fun h => by have := (Acc.lt (e3 E).1 h).2; omega
 have cc : N < ao := by rw [T]; exact Bx.lt (e4 E)
 have bp : z ≤ ao := by rw [T]; exact CU (e5 E)
 replace E := E.below bl
 clear T bu bl
 refine yG ?_
 refine EF O (BX JW O O O af (by first | rfl | exact CJ DC) (CJ k) (FT (M := o) (IsI.one E.2.1) (IsI.one E.1)) ?_)
 intro d7 bb au
 replace E := (E.onl (af.noW (FR (M := zeroM) CW CW)) zK bb).x (cs := (HY n4 s4 m4 u4 o)) au
 clear af bb au
 refine yG ?_
 refine V O O (CD GI O O (Cs.sub (Bx.cs E.1) 0 (EK _ _ _ _ _)) O) ?_
 refine yG ?_
 refine EF O (CH DW O (OK _ _ _ _ u _ E.2.2.1 E.2.1) O E ?_)
 clear E
 intro d6 _ E
 refine yG ?_
 refine V O O (MD (c := true) O O O (qJ q)) ?_
 refine yG ?_
 refine V O O (CD GI O O (Cs.sub (Bx.cs E.1) 0 (EK _ _ _ _ _)) O) ?_
 refine yG ?_
 refine EF O (CZ ML O (Aw _ _ _ _ u _ E.2.2.1 E.2.1 (FitQ.mono y AD)) O E ?_)
 clear E
 intro d4 bd b6 bf b4 _ E
 have cj : FitQ (-u) 1000000 := WZ y
 have ae := E.2.2.1
 refine yG ?_
 replace E := Sq E
 refine yG ?_
 refine EF O (LI (cs' := (HY bd b6 bf b4 o)) GI O O O ae O (by rw [CJ k]; decide) (LM (IsI.one E.2.1) (IsI.one E.1)) O ?_)
 intro d3 ba ar
 replace E := (E.onl (ae.noW (FR (M := o) (IsI.now (e3 E)) (IsI.now E.2.2.1))) zK ba).x (cs := (HY bd b6 bf b4 o)) ar
 clear ae ba ar
 have a8 := e6 E
 refine yG ?_
 replace E := Ss E
 have b0 := e6 E
 replace E := Ss E
 have ai := Bx.lt E.1
 refine EF O (EG (s := [32, 45, 32]) O O O b0 a8.1 J (by simp only [List.length_cons, List.length_nil]; omega) (CU (e6 E)) E ⟨CS Z, BW, BW, BW, BW, UO Z, BW, EA Z, EC (CN Z), EC (CN Z), JD Z, BW⟩ (fun g L h1 h2 => ⟨CS (fun e => F (e ▸ L)), BW, BW, BW, BW, UO Z, BW, EA Z, EC (CN Z), EC (CN Z), JD Z, BW⟩) ?_)
 clear E b0 a8
 intro de d2 c7 E
 have Y := c7 _ ai F
 have ak := XE (l := l) (c := (-u)) (M := o) hV k (WZ y)
 refine yG ?_
 refine EF O (BZ EO O (KV _ _ _ _ (-u) o _ l _ (e4 E) (e3 E) k (BV (PP E)) (FitQ.mono cj AD) hV (e9 E).1) O E ?_)
 clear E
 intro d0 _ E
 have a7 := E.1
 refine yG ?_
 replace E := Sp E
 have az := E.1
 replace E := Sp E
 have c3 := Bx.lt E.1
 refine EF O (EG (s := IC l (-u) o) O O O az a7.1 (.inr O) AI (CU (e6 E)) E ⟨CS Z, BW, BW, BW, BW, UO Z, BW, EA Z, EC (CN Z), EC (CN Z), JD Z, BW⟩ (fun g L h1 h2 => ⟨CS (fun e => Y (e ▸ L)), BW, BW, BW, BW, UO Z, BW, EA Z, EC (CN Z), EC (CN Z), JD Z, BW⟩) ?_)
 clear E az a7
 intro bz cz dk E
 refine yG ?_
 exact ⟨_, (by rw [a1]; omega), (i + 1), (.pointer (some ⟨N, 0, none⟩)), bz, (lr ++ ([32, 45, 32])) ++ (IC l (-u) o), _, O, O, zE, O, ⟨by omega, .inr O, by rw [RJ v, sg3 Q q, C, jY q]; simp, by simp only [List.length_append, List.length_cons, List.length_nil]; omega⟩⟩
def QN (l : List Bs) (p : List Tm) : Bs × Nat := if DS 8 l = true ∧ EZ p < 2 ^ l.length then (if 4000 < (FU l p).length then ([], 2) else (FU l p, 0)) else ([], 1)
theorem vH {l : List Bs} {p : List Tm} (h : DS 8 l = false) : QN l p = ([], 1) := by unfold QN; rw [if_neg (fun g => by rw [h] at g; exact absurd g.1 AD)]
theorem vG {l : List Bs} {p : List Tm} (h : ¬ EZ p < 2 ^ l.length) : QN l p = ([], 1) := by unfold QN; rw [if_neg (fun g => h g.2)]
theorem iQ {l : List Bs} {p : List Tm} (h : DS 8 l = true) (h2 : EZ p < 2 ^ l.length) (h3 : 4000 < (FU l p).length) : QN l p = ([], 2) := by unfold QN; rw [if_pos ⟨h, h2⟩, if_pos h3]
theorem iP {l : List Bs} {p : List Tm} (h : DS 8 l = true) (h2 : EZ p < 2 ^ l.length) (h3 : ¬ 4000 < (FU l p).length) : QN l p = (FU l p, 0) := by unfold QN; rw [if_pos ⟨h, h2⟩, if_neg h3]
theorem SG {x : Bs × Nat} {a : Bs} {n : Nat} (h : x = (a, n)) : Ending.returned (.tuple #[.string (bs a), .int .i64 ↑n]) = .returned (.tuple #[.string (bs x.1), .int .i64 ↑x.2]) := by rw [h]
theorem RA (vp : Value) (p : List Tm) (vl : Value) (l : List Bs) (w : World) (hRp : IsR KG (DI w.heap.size) w vp p) (hRl : IsR elS (DI w.heap.size) w vl l) (hp : GW p) (hF : ∀ t ∈ p, FitQ t.1 1000000) (hL : p.length ≤ 1000000) (hLl : l.length ≤ 1000000) (hG : Glob w) :
    Calls prog 12 #[vp, vl] w (FX w (.tuple #[.string (bs (QN l p).1), .int .i64 ↑((QN l p).2)])) := by
 have E := Env.start w
 obtain ⟨z, h, rfl, u, o⟩ := hRp.shp
 replace E := E.r hRp (DM _)
 clear hRp
 obtain ⟨B, k, rfl, y, q⟩ := hRl.shp
 replace E := E.r hRl (DM _)
 clear hRl
 replace E := E.gl hG
 go_enter func12, ntmps12
 by_cases e : DS 8 l = true
 case neg =>
  refine yG ?_
  refine EF O (BY JL O (CQ (DF e) (WE _ l _ (BV E.2.1) hLl)) O E ?_)
  clear E
  intro C _ E
  refine yG ?_
  exact ⟨SG (a := []) (n := 1) (vH (DF e)), e3 E⟩
 by_cases f : EZ p < 2 ^ l.length
 case neg =>
  refine yG ?_
  refine EF O (BY JL O (CQ e (WE _ l _ (BV E.2.1) hLl)) O E ?_)
  clear E
  intro G _ E
  refine yG ?_
  refine EF O (BY GZ O (WW _ p _ (BV E.2.2.1) hp hF hL) O E ?_)
  clear E
  intro F _ E
  refine yG ?_
  refine EF O (BZ IE O (bS _ p _ (BV E.2.2.1) hL) O E ?_)
  clear E
  intro D _ E
  refine yG ?_
  refine V (v := .int .u8 ((EZ p / 2 ^ (min l.length IntKind.u8.bits) : Nat) : Int)) I O (VR (m := EZ p) (n := l.length) O O O O) ?_
  refine V I O (TS (c := true) O O O (by rw [bne, Oq (VP (xL p)) f]; rfl)) ?_
  refine yG ?_
  exact ⟨SG (a := []) (n := 1) (vG f), e3 E⟩
 refine yG ?_
 refine EF O (BY JL O (CQ e (WE _ l _ (BV E.2.1) hLl)) O E ?_)
 clear E
 intro N _ E
 refine yG ?_
 refine EF O (BY GZ O (WW _ p _ (BV E.2.2.1) hp hF hL) O E ?_)
 clear E
 intro L _ E
 refine yG ?_
 refine EF O (BZ IE O (bS _ p _ (BV E.2.2.1) hL) O E ?_)
 clear E
 intro J _ E
 refine yG ?_
 refine V (v := .int .u8 ((EZ p / 2 ^ (min l.length IntKind.u8.bits) : Nat) : Int)) I O (VR (m := EZ p) (n := l.length) O O O O) ?_
 refine V I O (TS (c := false) O O O (by rw [bne, Ii (VP (xL p)) f]; rfl)) ?_
 refine yG ?_
 refine EF O (BZ ZG O (vF _ p _ l _ (BV E.2.2.1) (BV E.2.1) hF hL e E.1.1) O E ?_)
 clear E
 intro H _ E
 by_cases P : (((FU l p).length : Nat) : Int) > 4000
 case pos =>
  refine yG ?_
  exact ⟨SG (a := []) (n := 2) (iQ e f Z), e3 E⟩
 refine yG ?_
 exact ⟨SG (a := FU l p) (n := 0) (iP e f Z), e3 E⟩
end Go.Proofs.YtmppigbbkjepiaaGreatDoor
