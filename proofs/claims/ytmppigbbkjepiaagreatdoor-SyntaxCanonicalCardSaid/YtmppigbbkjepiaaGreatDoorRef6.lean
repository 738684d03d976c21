/- The reference's polynomials: Constant, Times, Scale, Add, Sub. (Printed by g_ref06.py.) -/
import Derived.Test.YtmppigbbkjepiaaGreatDoorRead2
set_option maxHeartbeats 8000000
set_option maxRecDepth 100000
namespace Go.Proofs.YtmppigbbkjepiaaGreatDoor
open Go.Proofs.Tryz
open Go.RowKit W
theorem Nx (m q : List Nat) (w : World) (hm : ER m) (hq : ER q) (hs : jZ m q) : Calls prog 56 #[.agg (GN m).toArray, .agg (GN q).toArray] w (FX w (.tuple #[.agg (GN (OA m q 8)).toArray, .int .i64 0])) := by
  have := Nw m q w hq hs
  rwa [Hf hm] at this
theorem uS {x : Rat} (h : x = 0) : (NA x.num == 0) = true := by subst h; rfl
theorem nO {x : Rat} (h : ¬ x = 0) : (NA x.num == 0) = false := by
  rw [beq_eq_false_iff_ne]
  have : x.num ≠ 0 := fun g => h (Rat.num_eq_zero.1 g)
  unfold NA IR
  by_cases e : x.num < 0
  · rw [if_pos e]; decide
  · rw [if_neg e, if_neg this]; decide
theorem kI {α : Type} {e : El α} {b t : Nat} {S : Nat → Prop} {w : World} {cs : List Value} {x : α} (hb : Bx w b t cs) (hS : S b) (h : e.p S w cs x) : IsR e S w (.slice (some ⟨b, 0, none⟩) 1 1) [x] := by
  refine ⟨_, 1, O, Nat.le_refl _, by decide, fun i y f => ?_⟩
  cases i with
  | zero => simp at f; subst f; exact ⟨b, 0, cs, rfl, hS, by rw [Nat.zero_mul]; exact hb.cs, h⟩
  | succ i => simp at f
def NV (p q : List Tm) (i k : Nat) (o : List Tm) : Prop := o ++ MY (p.drop i) (q.drop k) = MY p q
theorem wQ (p q : List Tm) : NV p q 0 0 [] := by unfold NV; simp
theorem Dv {p q o : List Tm} {i k : Nat} (h : NV p q i k o) (hi : ¬ i < p.length) (hk : ¬ k < q.length) : MY p q = o := by
  unfold NV at h; rw [List.drop_eq_nil_of_le Z, List.drop_eq_nil_of_le Z, jX, List.append_nil] at h; exact h.symm
theorem OP {α : Type} {l : List α} {i : Nat} {x : α} (h : l[i]? = some x) : l.drop i = x :: l.drop (i + 1) := by
  obtain ⟨f, e⟩ := List.getElem?_eq_some_iff.1 h
  rw [List.drop_eq_getElem_cons f, e]
theorem Ai {p q o : List Tm} {i k : Nat} {t : Tm} (h : NV p q i k o) (ht : p[i]? = some t) (hc : ¬ k < q.length ∨ ∃ u, q[k]? = some u ∧ 0 < EU t.2 u.2) : NV p q (i + 1) k (o ++ [t]) := by
  unfold NV at *
  rw [OP ht] at h
  rcases hc with f | ⟨u, e, hc⟩
  · rw [List.drop_eq_nil_of_le (by omega : q.length ≤ k), jX] at h ⊢; rw [← h]; simp
  · rw [OP e, Al hc, ← OP e] at h; rw [← h]; simp
theorem Ah {p q o : List Tm} {i k : Nat} {u : Tm} (h : NV p q i k o) (hu : q[k]? = some u) (hc : ¬ i < p.length ∨ ∃ t, p[i]? = some t ∧ EU t.2 u.2 < 0) : NV p q i (k + 1) (o ++ [u]) := by
  unfold NV at *
  rw [OP hu] at h
  rcases hc with f | ⟨t, e, hc⟩
  · rw [List.drop_eq_nil_of_le (by omega : p.length ≤ i), mY] at h ⊢; rw [← h]; simp
  · rw [OP e, Ak Z hc, ← OP e] at h; rw [← h]; simp
theorem Nm {p q o : List Tm} {i k : Nat} {t u : Tm} (h : NV p q i k o) (ht : p[i]? = some t) (hu : q[k]? = some u) (h1 : ¬ 0 < EU t.2 u.2) (h2 : ¬ EU t.2 u.2 < 0) (h3 : t.1 + u.1 = 0) : NV p q (i + 1) (k + 1) o := by
  unfold NV at *; rw [OP hu, OP ht, Jc h1 h2 h3] at h; exact h
theorem Jb {p q o : List Tm} {i k : Nat} {t u : Tm} (h : NV p q i k o) (ht : p[i]? = some t) (hu : q[k]? = some u) (h1 : ¬ 0 < EU t.2 u.2) (h2 : ¬ EU t.2 u.2 < 0) (h3 : ¬ t.1 + u.1 = 0) : NV p q (i + 1) (k + 1) (o ++ [(t.1 + u.1, t.2)]) := by
  unfold NV at *; rw [OP hu, OP ht, Aj h1 h2 h3] at h; rw [← h]; simp
theorem Du {p q o : List Tm} {i k : Nat} (h : NV p q i k o) : o.length ≤ p.length + q.length := by
  have e := Jd p q
  unfold NV at h; rw [← h] at e; simp at e; omega
theorem Ip {c : Rat} (h : c = 0) : LY c = [] := by unfold LY; rw [if_pos h]
theorem Iq {c : Rat} (h : ¬ c = 0) : LY c = [(c, zeroM)] := by unfold LY; rw [if_neg h]
theorem qH {m : List Nat} (hm : ER m) : jZ zeroM m := fun i => by
  have h0 : me zeroM i = 0 := by
    by_cases h : i < 8
    · have : ∀ j, j < 8 → me zeroM j = 0 := by decide
      exact this i h
    · unfold me; rw [List.getD_eq_getElem?_getD, List.getElem?_eq_none (show zeroM.length ≤ i by show 8 ≤ i; omega)]; rfl
  rw [h0]
  by_cases h : i < 8
  · have := hm.2 (me m i) (by rw [UP (by rw [hm.1]; exact h)]; exact List.getElem_mem _); omega
  · unfold me; simp [List.getD_eq_getElem?_getD, List.getElem?_eq_none (by rw [hm.1]; omega : m.length ≤ i)]
theorem Cv {c : Rat} {m : List Nat} {p : List Tm} {a b n : Nat} (hc : FitQ c a) (hp : ∀ t ∈ p, FitQ t.1 b) (hn : a + b ≤ n) : ∀ t ∈ KJ c m p, FitQ t.1 n := by
  intro t e
  unfold KJ at e
  split at e
  · cases e
  · obtain ⟨u, f, rfl⟩ := List.mem_map.1 e
    exact FitQ.mono (Ju hc (hp u f)) hn
theorem tM (na : Bool) (sa : Value) (ma : Bool) (ta : Value) (x : Rat) (w : World) (hna : IsI w (.agg #[.bool na, sa]) x.num) (hda : IsI w (.agg #[.bool ma, ta]) ((x.den : Nat) : Int)) :
    Calls prog 23 #[.agg #[.bool na, sa, .bool ma, ta]] w (tJ w (LY x)) := by
 have E := Env.start w
 replace E := (E.i hna).i hda
 clear hna hda
 go_enter func23, ntmps23
 refine yG ?_
 refine EF O (CI (cs := [.bool na, sa, .bool ma, ta]) O O ?_)
 intro t F h y q l
 have G : w.heap.size ≤ t := by rw [h]; exact E.2.2.1.size
 replace E := (E.below q).x l
 clear h y q l
 by_cases e : x = 0
 case pos =>
  refine yG ?_
  refine EF O (CH IG O (UI _ _ _ _ x _ E.2.2.1 E.2.1) O E ?_)
  clear E
  intro D _ E
  refine yG ?_
  refine V O O (GQ (c := true) O O O (uS e)) ?_
  refine yG ?_
  exact ⟨_, rfl, (by rw [Ip e]; exact IsR.nil _ _ _), e3 E⟩
 refine yG ?_
 refine EF O (CH IG O (UI _ _ _ _ x _ E.2.2.1 E.2.1) O E ?_)
 clear E
 intro C _ E
 refine yG ?_
 refine V O O (GQ (c := false) O O O (nO e)) ?_
 refine yG ?_
 refine V (v := .agg (HY na sa ma ta zeroM).toArray) O O (dI O O) ?_
 refine yG ?_
 refine EF O (DY (cs := (HY na sa ma ta zeroM)) underlying28 JW (CJ DC) AD AD O O ?_)
 intro z B f u p k
 have o : t < z := by rw [f]; exact Bx.lt E.1
 replace E := (E.below p).x k
 clear f u p k
 refine yG ?_
 exact ⟨_, rfl, (by rw [Iq e]; exact (kI E.1 ⟨by omega, Bx.lt E.1⟩ ⟨_, _, _, _, rfl, e3 E, E.2.2.1, DC⟩)), e4 E⟩
theorem kE (na : Bool) (sa : Value) (ma : Bool) (ta : Value) (x : Rat) (m : List Nat) (vp : Value) (p : List Tm) (w : World) (hna : IsI w (.agg #[.bool na, sa]) x.num) (hda : IsI w (.agg #[.bool ma, ta]) ((x.den : Nat) : Int)) (hm : ER m) (hRp : IsR KG (DI w.heap.size) w vp p) (Fx : FitQ x 1000000) (hF : ∀ t ∈ p, FitQ t.1 1000000) (hS : ∀ t ∈ p, jZ m t.2) (hL : p.length ≤ 1000000) :
    Calls prog 21 #[.agg #[.bool na, sa, .bool ma, ta], .agg (GN m).toArray, vp] w (Sc w (KJ x m p) 0) := by
 have E := Env.start w
 replace E := (E.i hna).i hda
 clear hna hda
 obtain ⟨P, z, rfl, b8, b7⟩ := hRp.shp
 replace E := E.r hRp (DM _)
 clear hRp
 go_enter func21, ntmps21
 refine yG ?_
 refine EF O (CI (cs := [.bool na, sa, .bool ma, ta]) O O ?_)
 intro b1 w1 ac z1 d1 x1
 have l1 : w.heap.size ≤ b1 := by rw [ac]; exact (e3 E).size
 replace E := (E.below d1).x x1
 clear ac z1 d1 x1
 refine yG ?_
 refine EF O (CI (cs := GN m) O O ?_)
 intro b2 w2 ab z2 d2 x2
 have ar : b1 < b2 := by rw [ab]; exact Bx.lt E.1
 replace E := (E.below d2).x x2
 clear ab z2 d2 x2
 refine yG ?_
 refine EF O (bU fF O ?_)
 intro J w3 a9 z3 d3 x3
 have aq : b2 < J := by rw [a9]; exact Bx.lt E.1
 replace E := (E.below d3).x x3
 clear a9 z3 d3 x3
 have x4 := E.1
 refine yG ?_
 replace E := Sp E
 replace E := (E.sz (Nat.le_of_lt (Bx.lt x4))).a (tW (e := KG) (S := VF) x4 (Nat.le_refl _) FW) (RW _)
 clear x4
 by_cases G : x = 0
 case pos =>
  refine yG ?_
  refine EF O (CH IG O (UI _ _ _ _ x _ (e6 E) (e5 E)) O E ?_)
  clear E
  intro w5 _ E
  refine yG ?_
  refine V O O (GQ (c := true) O O O (uS G)) ?_
  refine yG ?_
  exact ⟨_, rfl, ⟨_, rfl, (by rw [qB G]; exact IsR.nil _ _ _)⟩, e7 E⟩
 refine yG ?_
 refine EF O (CH IG O (UI _ _ _ _ x _ (e6 E) (e5 E)) O E ?_)
 clear E
 intro w6 _ E
 refine yG ?_
 refine V O O (GQ (c := false) O O O (nO G)) ?_
 refine yG ?_
 refine wp_loop_ghost (fun mz a w' => ∃ (i : Nat) (C : Value) (o : List Tm) (f : List Value), f = a.tmps.toList ∧ a = ⟨#[.agg #[.bool na, sa, .bool ma, ta], .agg (GN m).toArray, .slice P p.length z, .pointer (some ⟨b1, 0, none⟩), .pointer (some ⟨b2, 0, none⟩), undef, CC f 6, CC f 7, C, .int .i64 ↑i, CC f 10, CC f 11, .slice (some ⟨J, 0, none⟩) 0 0, .agg #[.bool na, sa, .bool ma, ta], .int .i64 (NA x.num), .bool false, CC f 16, CC f 17, CC f 18, CC f 19, CC f 20, CC f 21, CC f 22, CC f 23, CC f 24, CC f 25, CC f 26, CC f 27, CC f 28, CC f 29, CC f 30, CC f 31, CC f 32, CC f 33, CC f 34, CC f 35, CC f 36, CC f 37, CC f 38, CC f 39, CC f 40, CC f 41, CC f 42, CC f 43, CC f 44, CC f 45, undef], []⟩ ∧ Env w' [fA KG 88 J VF C o, Kb J, fX b2 (67) (GN m), fX b1 (64) ([.bool na, sa, .bool ma, ta]), fR KG (DI w.heap.size) (.slice P p.length z) p, fI (.agg #[.bool ma, ta]) ((x.den : Nat) : Int), fI (.agg #[.bool na, sa]) x.num, fW w] ∧ mz = p.length - i ∧ (i ≤ p.length ∧ o = KJ x m (p.take i))) (p.length) ⟨0, (.slice (some ⟨J, 0, none⟩) 0 0), [], _, O, O, zE, O, ⟨Nat.zero_le _, (by unfold KJ; simp)⟩⟩ ?_
 rintro m7 _ w7 ⟨i, C, o, f, -, rfl, E, ak, a8⟩
 obtain ⟨a8, hJ⟩ := a8
 by_cases hi : i < p.length
 case neg =>
  refine yG ?_
  exact ⟨_, rfl, ⟨_, rfl, (by rw [(show KJ x m p = o by rw [hJ, List.take_of_length_le Z])]; exact kK E.1.1 Z)⟩, e7 E⟩
 obtain ⟨⟨c8, B⟩, q⟩ : ∃ x, p[i]? = some x := ⟨_, List.getElem?_eq_getElem hi⟩
 obtain ⟨D, X, _, a5, a6, an, ⟨n8, s8, m8, u8, rfl, aj, am, a7⟩⟩ := IsR.at (e4 E).1 q
 have al : D < _ := (e4 E).2 _ a6
 replace E := ((E.c an al).i aj).i am
 have b9 : D < w.heap.size := a6
 have a3 := hF _ (List.mem_of_getElem? q)
 have u := hS _ (List.mem_of_getElem? q)
 have a4 : o.length ≤ 1000000 := by rw [hJ]; have := hI x m (p.take i); rw [List.length_take] at this; omega
 have H : ∀ g, (C : Value).ownBlock = some g → g < w7.heap.size := fun g hg => ((e3 E).1.lt hg).2
 have ag : b2 < w7.heap.size := Bx.lt (e5 E)
 have af : b1 < w7.heap.size := Bx.lt (e6 E)
 refine yG ?_
 refine SX E [.op 0, .op 1, .op 2, .op 3, .op 4, .op 5, .av 10, .op 6, .op 7, .op 8, .op 9, .op 10] 2 (#[true, true, true, true, true, true, true, true, true, true, true, false, false]) I I I I AE AE ?_
 refine FP (v := .agg (GN m).toArray) O O O O O (fun w hS => CT PR O O (e5 hS) (DA hm)) ?_
 refine FP (v := .slice P p.length z) O O O O O (fun w hS => GY O O) ?_
 refine FP (v := .int .i64 ↑i) O O O O O (fun w hS => GY O O) ?_
 refine FP (v := .pointer (some ⟨D, X + i * 12, none⟩)) O O O O O (fun w hS => QK (i := i) O underlying28 I O a5 O O (List.getElem?_eq_some_iff.1 q).1) ?_
 refine yG ?_
 refine FP (v := .pointer (some ⟨D, X + i * 12 + 4, none⟩)) O O O O O (fun w hS => TE O O O) ?_
 refine FP (v := .agg (GN B).toArray) O O O O O (fun w hS => CD PR O O (Cs.sub ((hS.2.2.1).1) 4 (DR _ _ _ _ _)) (DA a7)) ?_
 refine FA _ (RunF.alloc PR O O O) ?_
 clear E
 refine yG ?_
 refine FE O O O O ?_
 intro b0 E
 refine BZ kR O (Nx m B _ hm a7 u) O E ?_
 clear E
 intro b4 ao E
 refine kF ao E O ?_
 refine FP (v := .tuple #[.agg (GN (OA m B 8)).toArray, .int .i64 0]) O O O O O (fun w hS => GY O O) ?_
 refine FP (v := .agg (GN (OA m B 8)).toArray) O O O O O (fun w hS => VV (vs := [.agg (GN (OA m B 8)).toArray, .int .i64 0]) O O O) ?_
 refine FP (v := .int .i64 0) O O O O O (fun w hS => VV (vs := [.agg (GN (OA m B 8)).toArray, .int .i64 0]) O O O) ?_
 refine yG ?_
 refine FF O O ?_
 intro ae ba b5
 have b6 : w.heap.size ≤ ae := by omega
 have a0 : (C : Value).ownBlock ≠ some ae := fun h => by have := H _ h; omega
 clear E
 refine yG ?_
 intro az E
 refine H1 (i := 11) I ?_
 have L := E.1
 replace E := Sp E
 refine HE (o := ⟨none, _, _, _, _, _⟩) O O (BX PR O O O L (by first | rfl | exact DA mo_zero) (DA (PH u 8)) (yT _) ?_)
 intro ay Y Q
 replace E := (E.onl (L.noW (oE (m := [0, 0, 0, 0, 0, 0, 0, 0]))) zK Y).x Q
 clear L Y Q
 refine ⟨E.2, ?_⟩
 refine yG ?_
 refine HP (i := 12) (o := ⟨some 11, _, _, _, _, _⟩) (v := .int .i64 0) O I (fun _ _ _ h => h) O (fun w hS => MT O O) (E.2) ?_
 refine yG ?_
 refine HN I ?_
 have k := e4 E
 refine yG ?_
 replace E := Sr E
 refine sE E [0,1,2,3,4,5,6,8,7,9,10,11,12] ?_
 replace E := E.drew
 replace k := (fA KG 88 J VF C o).below k ((Below.refl _ _).drew)
 refine yG ?_
 refine fE O O O a5 O (List.getElem?_eq_some_iff.1 q).1 ?_
 refine yG ?_
 refine SW O O O O O (fun w hS => CD GI O O (Cs.sub ((e3 hS).1) 0 (EK _ _ _ _ _)) O) ?_
 refine SW O O O O O (fun w hS => CT PR O O (hS.1) (DA (PH u 8))) ?_
 refine yG ?_
 refine JF (o := ⟨some 41, _, _, _, _, _⟩) O O O O (CZ kU O (Se _ _ _ _ x _ _ _ _ c8 _ (e9 E) (e8 E) E.2.2.1 E.2.1 (FitQ.mono Fx AD) (FitQ.mono a3 AD)) O E ?_)
 clear E
 intro ax a1 U a2 T ad E
 replace k := (fA KG 88 J VF C o).below k ad
 clear ad
 refine ⟨E.2.2, ?_⟩
 refine yG ?_
 refine SW (v := .agg (HY a1 U a2 T (OA m B 8)).toArray) O O O O O (fun w hS => iF O O O (PH u 8)) ?_
 refine yG ?_
 refine JF (o := ⟨some 44, _, _, _, _, _⟩) O O O O (DY (cs := (HY a1 U a2 T (OA m B 8))) underlying28 JW (CJ (PH u 8)) AD AD O O ?_)
 intro ap aw aa ah N R
 have F : (C : Value).ownBlock ≠ some ap := fun h => by have := (Acc.lt k.1 h).2; omega
 replace E := E.below N
 replace k := (fA KG 88 J VF C o).below k N
 clear aa ah N
 replace E := E.x R
 clear R
 refine ⟨E.2.2.2, ?_⟩
 have y := k
 refine yG ?_
 refine JF (o := ⟨some 45, _, _, _, _, _⟩) O O O O (FJ (x := ((x * c8), (OA m B 8))) fF O (l := o) O y.1 y.2 E (fun g hg h1 h2 => ⟨CS (fun e => F (e ▸ hg)), BW, BW, CS (fun e => a0 (e ▸ hg)), BW, BW, UO Z, BW, CS Z, CS Z, EC (CN Z), BW, BW, JD Z, BW⟩) O E.1 (⟨_, _, _, _, O, E.2.2.1, E.2.1, (PH u 8)⟩) (by have := a4; unfold maxLen; omega) (by have := a4; omega) (CU (e7 E)) ?_)
 clear E y
 intro ai au E
 refine ⟨E.2.2.2.2, ?_⟩
 refine yG ?_
 exact ⟨_, (by rw [ak]; omega), (i + 1), ai, o ++ [((x * c8), (OA m B 8))], _, O, O, zE, O, ⟨by omega, by rw [qC G q, ← hJ]⟩⟩
theorem Ny {S : Nat → Prop} {w : World} {v : Value} {p : List Tm} (h : IsR KG S w v p) : ∀ t ∈ p, ER t.2 := by
  obtain ⟨q, o, rfl, _, _, l⟩ := h
  intro t e
  obtain ⟨i, f⟩ := List.getElem?_of_mem e
  obtain ⟨_, _, _, _, _, _, n, s, m, u, _, _, _, k⟩ := l i t f
  exact k
theorem Jm (na : Bool) (sa : Value) (ma : Bool) (ta : Value) (x : Rat) (vp : Value) (p : List Tm) (w : World) (hna : IsI w (.agg #[.bool na, sa]) x.num) (hda : IsI w (.agg #[.bool ma, ta]) ((x.den : Nat) : Int)) (hRp : IsR KG (DI w.heap.size) w vp p) (Fx : FitQ x 1000000) (hF : ∀ t ∈ p, FitQ t.1 1000000) (hL : p.length ≤ 1000000) :
    Calls prog 35 #[.agg #[.bool na, sa, .bool ma, ta], vp] w (tJ w (iD x p)) := by
 have E := Env.start w
 replace E := (E.i hna).i hda
 clear hna hda
 obtain ⟨J, z, rfl, H, G⟩ := hRp.shp
 replace E := E.r hRp (DM _)
 clear hRp
 go_enter func35, ntmps35
 have h : ∀ t ∈ p, jZ zeroM t.2 := fun t F => qH (Ny E.1.1 t F)
 refine yG ?_
 refine EF O (CI (cs := [.bool na, sa, .bool ma, ta]) O O ?_)
 intro P q k B y l
 replace E := (E.below y).x l
 clear k B y l
 have u : w.heap.size ≤ q.heap.size := (e4 E).size
 refine yG ?_
 refine EF O (DN PN O (kE _ _ _ _ x zeroM _ p _ (e3 E) E.2.2.1 DC (BV E.2.1) (FitQ.mono Fx AD) hF h hL) O E ?_)
 clear E
 intro o L _ f E
 replace E := E.sz (Nat.le_refl o.heap.size)
 obtain ⟨N, rfl, f⟩ := f
 obtain ⟨D, C, rfl, v, _⟩ := f.shp
 replace E := E.r (e := KG) (S := GL q.heap.size o.heap.size) f (fun _ g => g.2)
 refine yG ?_
 exact ⟨_, rfl, (by rw [show iD x p = KJ x zeroM p from rfl]; exact pS E.1 Z), e6 E⟩
theorem gO (vp : Value) (p : List Tm) (vq : Value) (q : List Tm) (w : World) (hRp : IsR KG (DI w.heap.size) w vp p) (hRq : IsR KG (DI w.heap.size) w vq q) (hFp : ∀ t ∈ p, FitQ t.1 1000000) (hFq : ∀ t ∈ q, FitQ t.1 1000000) (hLp : p.length ≤ 1000000) (hLq : q.length ≤ 1000000) :
    Calls prog 24 #[vp, vq] w (tJ w (MY p q)) := by
 have E := Env.start w
 obtain ⟨ad, T, rfl, dd, d8⟩ := hRp.shp
 replace E := E.r hRp (DM _)
 clear hRp
 obtain ⟨ac, R, rfl, dc, d7⟩ := hRq.shp
 replace E := E.r hRq (DM _)
 clear hRq
 go_enter func24, ntmps24
 refine yG ?_
 refine EF O (bU fF O ?_)
 intro b1 w1 bh z1 d1 x1
 have l1 : w.heap.size ≤ b1 := by rw [bh]; exact E.2.2.1.size
 replace E := (E.below d1).x x1
 clear bh z1 d1 x1
 have x2 := E.1
 refine yG ?_
 replace E := Sp E
 replace E := (E.sz (Nat.le_of_lt (Bx.lt x2))).a (tW (e := KG) (S := VF) x2 (Nat.le_refl _) FW) (RW _)
 clear x2
 refine yG ?_
 refine wp_loop_ghost (fun mz a w' => ∃ (i : Nat) (k : Nat) (P : Value) (o : List Tm) (f : List Value), f = a.tmps.toList ∧ a = ⟨#[.slice ad p.length T, .slice ac q.length R, undef, undef, .slice none 0 0, P, .int .i64 ↑i, .int .i64 ↑k, CC f 8, .slice (some ⟨b1, 0, none⟩) 0 0, CC f 10, CC f 11, CC f 12, CC f 13, CC f 14, CC f 15, CC f 16, CC f 17, CC f 18, CC f 19, CC f 20, CC f 21, CC f 22, CC f 23, CC f 24, CC f 25, CC f 26, CC f 27, CC f 28, CC f 29, CC f 30, CC f 31, CC f 32, CC f 33, CC f 34, CC f 35, CC f 36, CC f 37, CC f 38, CC f 39, CC f 40, CC f 41, CC f 42, CC f 43, CC f 44, CC f 45, CC f 46, CC f 47, CC f 48, CC f 49, CC f 50, CC f 51, CC f 52, CC f 53, CC f 54, CC f 55, CC f 56, CC f 57, CC f 58, CC f 59, CC f 60, CC f 61, CC f 62, CC f 63, CC f 64, CC f 65, CC f 66, CC f 67, CC f 68, CC f 69, CC f 70, CC f 71, CC f 72, CC f 73, CC f 74, CC f 75, CC f 76, CC f 77, CC f 78, CC f 79, CC f 80, CC f 81, CC f 82, CC f 83, CC f 84, CC f 85, CC f 86, CC f 87, CC f 88, CC f 89, CC f 90, CC f 91, CC f 92, CC f 93, CC f 94, CC f 95, CC f 96, CC f 97, CC f 98, CC f 99, CC f 100, CC f 101, CC f 102, CC f 103, CC f 104, CC f 105, CC f 106, CC f 107, undef], []⟩ ∧ Env w' [fA KG 88 b1 VF P o, Kb b1, fR KG (DI w.heap.size) (.slice ac q.length R) q, fR KG (DI w.heap.size) (.slice ad p.length T) p, fW w] ∧ mz = (p.length + q.length - (i + k)) ∧ (i ≤ p.length ∧ k ≤ q.length ∧ NV p q i k o)) ((p.length + q.length)) ⟨0, 0, (.slice (some ⟨b1, 0, none⟩) 0 0), [], _, O, O, zE, O, ⟨Nat.zero_le _, Nat.zero_le _, wQ p q⟩⟩ ?_
 rintro m3 _ w3 ⟨i, k, P, o, f, -, rfl, E, X, c2⟩
 obtain ⟨db, da, hJ⟩ := c2
 have d6 := Du hJ
 have G : o.length ≤ 2000000 := by omega
 by_cases hi : i < p.length
 case neg =>
  by_cases hk : k < q.length
  case neg =>
   refine yG ?_
   exact ⟨_, rfl, (by rw [Dv hJ hi hk]; exact kK E.1.1 Z), e4 E⟩
  obtain ⟨⟨Y, N⟩, z⟩ : ∃ x, q[k]? = some x := ⟨_, List.getElem?_eq_getElem hk⟩
  obtain ⟨J, a0, _, D, a1, ao, ⟨nK, sK, mK, uK, rfl, ai, an, B⟩⟩ := IsR.at E.2.2.1.1 z
  have ak : J < _ := E.2.2.1.2 _ a1
  replace E := ((E.c ao ak).i ai).i an
  have c1 : J < w.heap.size := a1
  have am := hFq _ (List.mem_of_getElem? z)
  refine yG ?_
  refine sE E [0,1,2,3,4,5,6,7,8,9,10,11,12,13,14,15,16,17,18,19,20,21,22,23] ?_
  replace E := E.drew
  refine yG ?_
  refine sE E [0,1,2,3,4,5,6,7,8,9,10,11,12,13,14,15,16,17] ?_
  replace E := E.drew
  refine yG ?_
  refine tZ O O D O (List.getElem?_eq_some_iff.1 z).1 ?_
  refine yG ?_
  refine V O O (CD JW O O (E.2.2.1.1) (CJ B)) ?_
  refine yG ?_
  refine EF O (DY (cs := (HY nK sK mK uK N)) underlying28 JW (CJ B) AD AD O O ?_)
  intro c7 cc bd bo bi aw
  have aa : (P : Value).ownBlock ≠ some c7 := fun h => by have := (Acc.lt (e3 E).1 h).2; omega
  replace E := (E.below bi).x aw
  clear bd bo bi aw
  have a4 := e4 E
  refine yG ?_
  replace E := Sr E
  refine EF O (FJ (x := (Y, N)) fF O (l := o) O a4.1 a4.2 E (fun g Q h1 h2 => ⟨CS (fun e => aa (e ▸ Q)), BW, BW, UO Z, BW, EC (CN Z), EC (CN Z), JD Z, BW⟩) O E.1 (⟨_, _, _, _, O, E.2.2.1, E.2.1, B⟩) (by have := G; unfold maxLen; omega) (by have := G; omega) (CU (e4 E)) ?_)
  clear E a4
  intro br cb E
  refine yG ?_
  exact ⟨_, (by rw [X]; omega), i, (k + 1), br, o ++ [(Y, N)], _, O, O, zE, O, ⟨by omega, by omega, Ah hJ z (.inl hi)⟩⟩
 obtain ⟨⟨cI, L⟩, C⟩ : ∃ x, p[i]? = some x := ⟨_, List.getElem?_eq_getElem hi⟩
 obtain ⟨U, a8, _, F, bc, c0, ⟨nI, sI, mI, uI, rfl, bw, bz, y⟩⟩ := IsR.at (e3 E).1 C
 have bx : U < _ := (e3 E).2 _ bc
 replace E := ((E.c c0 bx).i bw).i bz
 have de : U < w.heap.size := bc
 have bb := hFp _ (List.mem_of_getElem? C)
 by_cases hk : k < q.length
 case neg =>
  refine yG ?_
  refine sE E [0,1,2,3,4,5,6,7,8,9,10,11,12,13,14,15,16,17,18,19,20,21,22,23] ?_
  replace E := E.drew
  refine yG ?_
  refine tZ O O F O (List.getElem?_eq_some_iff.1 C).1 ?_
  refine yG ?_
  refine V O O (CD JW O O (E.2.2.1.1) (CJ y)) ?_
  refine yG ?_
  refine EF O (DY (cs := (HY nI sI mI uI L)) underlying28 JW (CJ y) AD AD O O ?_)
  intro c8 ce bf bp bj ax
  have ab : (P : Value).ownBlock ≠ some c8 := fun h => by have := (Acc.lt (e3 E).1 h).2; omega
  replace E := (E.below bj).x ax
  clear bf bp bj ax
  have a5 := e4 E
  refine yG ?_
  replace E := Sr E
  refine EF O (FJ (x := (cI, L)) fF O (l := o) O a5.1 a5.2 E (fun g Q h1 h2 => ⟨CS (fun e => ab (e ▸ Q)), BW, BW, UO Z, BW, EC (CN Z), EC (CN Z), JD Z, BW⟩) O E.1 (⟨_, _, _, _, O, E.2.2.1, E.2.1, y⟩) (by have := G; unfold maxLen; omega) (by have := G; omega) (CU (e4 E)) ?_)
  clear E a5
  intro bt cd E
  refine yG ?_
  exact ⟨_, (by rw [X]; omega), (i + 1), k, bt, o ++ [(cI, L)], _, O, O, zE, O, ⟨by omega, by omega, Ai hJ C (.inl hk)⟩⟩
 obtain ⟨⟨Y, N⟩, z⟩ : ∃ x, q[k]? = some x := ⟨_, List.getElem?_eq_getElem hk⟩
 obtain ⟨J, a0, _, D, a1, ao, ⟨nK, sK, mK, uK, rfl, ai, an, B⟩⟩ := IsR.at (e5 E).1 z
 have ak : J < _ := (e5 E).2 _ a1
 replace E := ((E.c ao ak).i ai).i an
 have c1 : J < w.heap.size := a1
 have am := hFq _ (List.mem_of_getElem? z)
 by_cases al : 0 < EU L N
 case pos =>
  refine yG ?_
  refine sE E [0,1,2,3,4,5,6,7,8,9,10,11,12,13,14,15,16,17,18,19,20,21,22,23] ?_
  replace E := E.drew
  refine yG ?_
  refine fE O O O F O (List.getElem?_eq_some_iff.1 C).1 ?_
  refine yG ?_
  refine SW O O O I O (fun w u => CD PR O O (Cs.sub ((e5 u).1) 4 (DR _ _ _ _ _)) (DA y)) ?_
  refine yG ?_
  refine fE O O O D O (List.getElem?_eq_some_iff.1 z).1 ?_
  refine yG ?_
  refine SW O O O I O (fun w u => CD PR O O (Cs.sub ((u.2.2.1).1) 4 (DR _ _ _ _ _)) (DA B)) ?_
  refine yG ?_
  refine JF (o := ⟨some 40, _, _, _, _, _⟩) O O O O (CH HO O (RZ L N _ y B) O E ?_)
  clear E
  intro w4 _ E
  refine ⟨E, ?_⟩
  refine yG ?_
  refine tZ O O F O (List.getElem?_eq_some_iff.1 C).1 ?_
  refine yG ?_
  refine V O O (CD JW O O ((e5 E).1) (CJ y)) ?_
  refine yG ?_
  refine EF O (DY (cs := (HY nI sI mI uI L)) underlying28 JW (CJ y) AD AD O O ?_)
  intro b5 w5 c4 z5 d5 x5
  have ah : (P : Value).ownBlock ≠ some b5 := fun h => by have := (Acc.lt (e6 E).1 h).2; omega
  replace E := (E.below d5).x x5
  clear c4 z5 d5 x5
  have ap := e7 E
  refine yG ?_
  replace E := dl7 E
  refine EF O (FJ (x := (cI, L)) fF O (l := o) O ap.1 ap.2 E (fun g Q h1 h2 => ⟨CS (fun e => ah (e ▸ Q)), BW, BW, UO Z, BW, BW, UO Z, BW, EC (CN Z), EC (CN Z), JD Z, BW⟩) O E.1 (⟨_, _, _, _, O, e5 E, e4 E, y⟩) (by have := G; unfold maxLen; omega) (by have := G; omega) (CU (e7 E)) ?_)
  clear E ap
  intro v6 w6 E
  refine yG ?_
  exact ⟨_, (by rw [X]; omega), (i + 1), k, v6, o ++ [(cI, L)], _, O, O, zE, O, ⟨by omega, by omega, Ai hJ C (.inr ⟨_, z, al⟩)⟩⟩
 by_cases aj : EU L N < 0
 case pos =>
  refine yG ?_
  refine sE E [0,1,2,3,4,5,6,7,8,9,10,11,12,13,14,15,16,17,18,19,20,21,22,23] ?_
  replace E := E.drew
  refine yG ?_
  refine fE O O O F O (List.getElem?_eq_some_iff.1 C).1 ?_
  refine yG ?_
  refine SW O O O I O (fun w u => CD PR O O (Cs.sub ((e5 u).1) 4 (DR _ _ _ _ _)) (DA y)) ?_
  refine yG ?_
  refine fE O O O D O (List.getElem?_eq_some_iff.1 z).1 ?_
  refine yG ?_
  refine SW O O O I O (fun w u => CD PR O O (Cs.sub ((u.2.2.1).1) 4 (DR _ _ _ _ _)) (DA B)) ?_
  refine yG ?_
  refine JF (o := ⟨some 40, _, _, _, _, _⟩) O O O O (CH HO O (RZ L N _ y B) O E ?_)
  clear E
  intro w7 _ E
  refine ⟨E, ?_⟩
  refine yG ?_
  refine sE E [0,1,2,3,4,5,6,7,8,9,10,11,12,13,14,15,16,17] ?_
  replace E := E.drew
  refine yG ?_
  refine fE O O O F O (List.getElem?_eq_some_iff.1 C).1 ?_
  refine yG ?_
  refine SW O O O I O (fun w u => CD PR O O (Cs.sub ((e5 u).1) 4 (DR _ _ _ _ _)) (DA y)) ?_
  refine yG ?_
  refine fE O O O D O (List.getElem?_eq_some_iff.1 z).1 ?_
  refine yG ?_
  refine SW O O O I O (fun w u => CD PR O O (Cs.sub ((u.2.2.1).1) 4 (DR _ _ _ _ _)) (DA B)) ?_
  refine yG ?_
  refine JF (o := ⟨some 68, _, _, _, _, _⟩) O O O O (CH HO O (RZ L N _ y B) O E ?_)
  clear E
  intro w8 _ E
  refine ⟨E, ?_⟩
  refine yG ?_
  refine tZ O O D O (List.getElem?_eq_some_iff.1 z).1 ?_
  refine yG ?_
  refine V O O (CD JW O O (E.2.2.1.1) (CJ B)) ?_
  refine yG ?_
  refine EF O (DY (cs := (HY nK sK mK uK N)) underlying28 JW (CJ B) AD AD O O ?_)
  intro b9 w9 c3 z9 d9 x9
  have ag : (P : Value).ownBlock ≠ some b9 := fun h => by have := (Acc.lt (e6 E).1 h).2; omega
  replace E := (E.below d9).x x9
  clear c3 z9 d9 x9
  have a7 := e7 E
  refine yG ?_
  replace E := dl7 E
  refine EF O (FJ (x := (Y, N)) fF O (l := o) O a7.1 a7.2 E (fun g Q h1 h2 => ⟨CS (fun e => ag (e ▸ Q)), BW, BW, UO Z, BW, BW, UO Z, BW, EC (CN Z), EC (CN Z), JD Z, BW⟩) O E.1 (⟨_, _, _, _, O, E.2.2.1, E.2.1, B⟩) (by have := G; unfold maxLen; omega) (by have := G; omega) (CU (e7 E)) ?_)
  clear E a7
  intro bv cv E
  refine yG ?_
  exact ⟨_, (by rw [X]; omega), i, (k + 1), bv, o ++ [(Y, N)], _, O, O, zE, O, ⟨by omega, by omega, Ah hJ z (.inr ⟨_, C, aj⟩)⟩⟩
 by_cases hz : cI + Y = 0
 case pos =>
  refine yG ?_
  refine sE E [0,1,2,3,4,5,6,7,8,9,10,11,12,13,14,15,16,17,18,19,20,21,22,23] ?_
  replace E := E.drew
  refine yG ?_
  refine fE O O O F O (List.getElem?_eq_some_iff.1 C).1 ?_
  refine yG ?_
  refine SW O O O I O (fun w u => CD PR O O (Cs.sub ((e5 u).1) 4 (DR _ _ _ _ _)) (DA y)) ?_
  refine yG ?_
  refine fE O O O D O (List.getElem?_eq_some_iff.1 z).1 ?_
  refine yG ?_
  refine SW O O O I O (fun w u => CD PR O O (Cs.sub ((u.2.2.1).1) 4 (DR _ _ _ _ _)) (DA B)) ?_
  refine yG ?_
  refine JF (o := ⟨some 40, _, _, _, _, _⟩) O O O O (CH HO O (RZ L N _ y B) O E ?_)
  clear E
  intro cu _ E
  refine ⟨E, ?_⟩
  refine yG ?_
  refine sE E [0,1,2,3,4,5,6,7,8,9,10,11,12,13,14,15,16,17] ?_
  replace E := E.drew
  refine yG ?_
  refine fE O O O F O (List.getElem?_eq_some_iff.1 C).1 ?_
  refine yG ?_
  refine SW O O O I O (fun w u => CD PR O O (Cs.sub ((e5 u).1) 4 (DR _ _ _ _ _)) (DA y)) ?_
  refine yG ?_
  refine fE O O O D O (List.getElem?_eq_some_iff.1 z).1 ?_
  refine yG ?_
  refine SW O O O I O (fun w u => CD PR O O (Cs.sub ((u.2.2.1).1) 4 (DR _ _ _ _ _)) (DA B)) ?_
  refine yG ?_
  refine JF (o := ⟨some 68, _, _, _, _, _⟩) O O O O (CH HO O (RZ L N _ y B) O E ?_)
  clear E
  intro b0 _ E
  refine ⟨E, ?_⟩
  have a3 : ∀ g, (P : Value).ownBlock = some g → g < b0.heap.size := fun g Q => ((e6 E).1.lt Q).2
  have bn : w.heap.size ≤ b0.heap.size := (PP E).size
  refine yG ?_
  refine SX E [.op 0, .op 1, .op 2, .op 3, .op 4, .op 5, .op 6, .op 7, .op 8, .op 9, .av 11, .op 10, .op 11] 1 (#[true, true, true, true, true, true, true, true, true, true, true, true, false]) I I I I AE AE ?_
  refine FP (v := .slice ad p.length T) O O O O O (fun w u => GY O O) ?_
  refine FP (v := .int .i64 ↑i) O O O O O (fun w u => GY O O) ?_
  refine FP (v := .pointer (some ⟨U, a8 + i * 12, none⟩)) O O O O O (fun w u => QK (i := i) O underlying28 I O F O O (List.getElem?_eq_some_iff.1 C).1) ?_
  refine FP (v := .pointer (some ⟨U, a8 + i * 12, none⟩)) O O O O O (fun w u => JI O O O) ?_
  refine yG ?_
  refine FP (v := .agg #[.bool nI, sI, .bool mI, uI]) O O O O O (fun w u => CD GI O O (Cs.sub ((e5 u).1) 0 (EK _ _ _ _ _)) O) ?_
  refine FP (v := .slice ac q.length R) O O O O O (fun w u => GY O O) ?_
  refine FP (v := .int .i64 ↑k) O O O O O (fun w u => GY O O) ?_
  refine FP (v := .pointer (some ⟨J, a0 + k * 12, none⟩)) O O O O O (fun w u => QK (i := k) O underlying28 I O D O O (List.getElem?_eq_some_iff.1 z).1) ?_
  refine yG ?_
  refine FP (v := .pointer (some ⟨J, a0 + k * 12, none⟩)) O O O O O (fun w u => JI O O O) ?_
  refine FP (v := .agg #[.bool nK, sK, .bool mK, uK]) O O O O O (fun w u => CD GI O O (Cs.sub ((u.2.2.1).1) 0 (EK _ _ _ _ _)) O) ?_
  refine FA _ (RunF.alloc GI O O O) ?_
  clear E
  refine yG ?_
  refine FE O O O O ?_
  intro cr E
  refine CZ YH O (Jo _ _ _ _ cI _ _ _ _ Y _ (e4 E) (e3 E) E.2.1 E.1 (FitQ.mono bb AD) (FitQ.mono am AD)) O E ?_
  clear E
  intro ct d0 cz d2 cy c6 E
  refine kF c6 E O ?_
  refine yG ?_
  refine FF O O ?_
  intro bl dh cx
  have d4 : w.heap.size ≤ bl := by omega
  have ca : (P : Value).ownBlock ≠ some bl := fun h => by have := a3 _ h; omega
  clear E
  refine yG ?_
  intro cq E
  refine H1 (i := 12) I ?_
  have af := E.1
  replace E := Sp E
  refine HE (o := ⟨none, _, _, _, _, _⟩) O O (BX GI O O O af O O (LM (IsI.one E.2.1) (IsI.one E.1)) ?_)
  intro cp b6 au
  replace E := (E.onl (af.noW (NL CW CW)) zK b6).x au
  clear af b6 au
  refine ⟨E.2.2.2, ?_⟩
  refine yG ?_
  refine HN I ?_
  refine yG ?_
  refine EF O (CH IG O (UI _ _ _ _ (cI + Y) _ E.2.2.1 E.2.1) O E ?_)
  clear E
  intro co _ E
  refine yG ?_
  refine V O O (TS (c := false) O O O (by rw [bne_eq_false_iff_eq, ← beq_iff_eq]; exact uS hz)) ?_
  refine yG ?_
  exact ⟨_, (by rw [X]; omega), (i + 1), (k + 1), P, o, _, O, O, zE, O, ⟨by omega, by omega, Nm hJ C z al aj hz⟩⟩
 refine yG ?_
 refine sE E [0,1,2,3,4,5,6,7,8,9,10,11,12,13,14,15,16,17,18,19,20,21,22,23] ?_
 replace E := E.drew
 refine yG ?_
 refine fE O O O F O (List.getElem?_eq_some_iff.1 C).1 ?_
 refine yG ?_
 refine SW O O O I O (fun w u => CD PR O O (Cs.sub ((e5 u).1) 4 (DR _ _ _ _ _)) (DA y)) ?_
 refine yG ?_
 refine fE O O O D O (List.getElem?_eq_some_iff.1 z).1 ?_
 refine yG ?_
 refine SW O O O I O (fun w u => CD PR O O (Cs.sub ((u.2.2.1).1) 4 (DR _ _ _ _ _)) (DA B)) ?_
 refine yG ?_
 refine JF (o := ⟨some 40, _, _, _, _, _⟩) O O O O (CH HO O (RZ L N _ y B) O E ?_)
 clear E
 intro cn _ E
 refine ⟨E, ?_⟩
 refine yG ?_
 refine sE E [0,1,2,3,4,5,6,7,8,9,10,11,12,13,14,15,16,17] ?_
 replace E := E.drew
 refine yG ?_
 refine fE O O O F O (List.getElem?_eq_some_iff.1 C).1 ?_
 refine yG ?_
 refine SW O O O I O (fun w u => CD PR O O (Cs.sub ((e5 u).1) 4 (DR _ _ _ _ _)) (DA y)) ?_
 refine yG ?_
 refine fE O O O D O (List.getElem?_eq_some_iff.1 z).1 ?_
 refine yG ?_
 refine SW O O O I O (fun w u => CD PR O O (Cs.sub ((u.2.2.1).1) 4 (DR _ _ _ _ _)) (DA B)) ?_
 refine yG ?_
 refine JF (o := ⟨some 68, _, _, _, _, _⟩) O O O O (CH HO O (RZ L N _ y B) O E ?_)
 clear E
 intro az _ E
 refine ⟨E, ?_⟩
 have a2 : ∀ g, (P : Value).ownBlock = some g → g < az.heap.size := fun g Q => ((e6 E).1.lt Q).2
 have bm : w.heap.size ≤ az.heap.size := (PP E).size
 refine yG ?_
 refine SX E [.op 0, .op 1, .op 2, .op 3, .op 4, .op 5, .op 6, .op 7, .op 8, .op 9, .av 11, .op 10, .op 11] 1 (#[true, true, true, true, true, true, true, true, true, true, true, true, false]) I I I I AE AE ?_
 refine FP (v := .slice ad p.length T) O O O O O (fun w u => GY O O) ?_
 refine FP (v := .int .i64 ↑i) O O O O O (fun w u => GY O O) ?_
 refine FP (v := .pointer (some ⟨U, a8 + i * 12, none⟩)) O O O O O (fun w u => QK (i := i) O underlying28 I O F O O (List.getElem?_eq_some_iff.1 C).1) ?_
 refine FP (v := .pointer (some ⟨U, a8 + i * 12, none⟩)) O O O O O (fun w u => JI O O O) ?_
 refine yG ?_
 refine FP (v := .agg #[.bool nI, sI, .bool mI, uI]) O O O O O (fun w u => CD GI O O (Cs.sub ((e5 u).1) 0 (EK _ _ _ _ _)) O) ?_
 refine FP (v := .slice ac q.length R) O O O O O (fun w u => GY O O) ?_
 refine FP (v := .int .i64 ↑k) O O O O O (fun w u => GY O O) ?_
 refine FP (v := .pointer (some ⟨J, a0 + k * 12, none⟩)) O O O O O (fun w u => QK (i := k) O underlying28 I O D O O (List.getElem?_eq_some_iff.1 z).1) ?_
 refine yG ?_
 refine FP (v := .pointer (some ⟨J, a0 + k * 12, none⟩)) O O O O O (fun w u => JI O O O) ?_
 refine FP (v := .agg #[.bool nK, sK, .bool mK, uK]) O O O O O (fun w u => CD GI O O (Cs.sub ((u.2.2.1).1) 0 (EK _ _ _ _ _)) O) ?_
 refine FA _ (RunF.alloc GI O O O) ?_
 clear E
 refine yG ?_
 refine FE O O O O ?_
 intro ck E
 refine CZ YH O (Jo _ _ _ _ cI _ _ _ _ Y _ (e4 E) (e3 E) E.2.1 E.1 (FitQ.mono bb AD) (FitQ.mono am AD)) O E ?_
 clear E
 intro cm b8 b3 ba b2 c5 E
 refine kF c5 E O ?_
 refine yG ?_
 refine FF O O ?_
 intro bk dg cw
 have d3 : w.heap.size ≤ bk := by omega
 have b7 : (P : Value).ownBlock ≠ some bk := fun h => by have := a2 _ h; omega
 clear E
 refine yG ?_
 intro cj E
 refine H1 (i := 12) I ?_
 have ae := E.1
 replace E := Sp E
 refine HE (o := ⟨none, _, _, _, _, _⟩) O O (BX GI O O O ae O O (LM (IsI.one E.2.1) (IsI.one E.1)) ?_)
 intro ci b4 ar
 replace E := (E.onl (ae.noW (NL CW CW)) zK b4).x ar
 clear ae b4 ar
 refine ⟨E.2.2.2, ?_⟩
 refine yG ?_
 refine HN I ?_
 refine yG ?_
 refine EF O (CH IG O (UI _ _ _ _ (cI + Y) _ E.2.2.1 E.2.1) O E ?_)
 clear E
 intro ch _ E
 refine yG ?_
 refine V O O (TS (c := true) O O O (by rw [bne_iff_ne, ← beq_eq_false_iff_ne]; exact nO hz)) ?_
 have H := e9 E
 refine yG ?_
 replace E := dl9 E
 refine sE E [0,1,2,3,4,5,6,7,8,9,10] ?_
 replace E := E.drew
 replace H := (fA KG 88 b1 VF P o).below H ((Below.refl _ _).drew)
 refine yG ?_
 refine fE O O O F O (List.getElem?_eq_some_iff.1 C).1 ?_
 refine yG ?_
 refine SW O O O O O (fun w u => CD PR O O (Cs.sub ((e8 u).1) 4 (DR _ _ _ _ _)) (DA y)) ?_
 refine SW (v := .agg (HY b8 b3 ba b2 L).toArray) O O O O O (fun w u => iF O O O y) ?_
 refine yG ?_
 refine JF (o := ⟨some 102, _, _, _, _, _⟩) O O O O (DY (cs := (HY b8 b3 ba b2 L)) underlying28 JW (CJ y) AD AD O O ?_)
 intro c9 cg bg bq aq ay
 have a9 : (P : Value).ownBlock ≠ some c9 := fun h => by have := (Acc.lt H.1 h).2; omega
 replace E := E.below aq
 replace H := (fA KG 88 b1 VF P o).below H aq
 clear bg bq aq
 replace E := E.x ay
 clear ay
 refine ⟨E.2, ?_⟩
 have a6 := H
 refine yG ?_
 refine JF (o := ⟨some 103, _, _, _, _, _⟩) O O O O (FJ (x := ((cI + Y), L)) fF O (l := o) O a6.1 a6.2 E (fun g Q h1 h2 => ⟨CS (fun e => a9 (e ▸ Q)), CS (fun e => b7 (e ▸ Q)), BW, BW, BW, BW, UO Z, BW, BW, UO Z, BW, EC (CN Z), EC (CN Z), JD Z, BW⟩) O E.1 (⟨_, _, _, _, O, e3 E, E.2.2.1, y⟩) (by have := G; unfold maxLen; omega) (by have := G; omega) (CU (PP E)) ?_)
 clear E a6
 intro bu cf E
 refine ⟨E.2.2, ?_⟩
 refine yG ?_
 exact ⟨_, (by rw [X]; omega), (i + 1), (k + 1), bu, o ++ [((cI + Y), L)], _, O, O, zE, O, ⟨by omega, by omega, Jb hJ C z al aj hz⟩⟩
theorem Nu (vp : Value) (p : List Tm) (vq : Value) (q : List Tm) (w : World) (hRp : IsR KG (DI w.heap.size) w vp p) (hRq : IsR KG (DI w.heap.size) w vq q) (hFp : ∀ t ∈ p, FitQ t.1 1000000) (hFq : ∀ t ∈ q, FitQ t.1 900000) (hLp : p.length ≤ 1000000) (hLq : q.length ≤ 1000000) :
    Calls prog 33 #[vp, vq] w (tJ w (Pg p q)) := by
 have E := Env.start w
 obtain ⟨T, B, rfl, Q, N⟩ := hRp.shp
 replace E := E.r hRp (DM _)
 clear hRp
 obtain ⟨R, z, rfl, P, L⟩ := hRq.shp
 replace E := E.r hRq (DM _)
 clear hRq
 go_enter func33, ntmps33
 refine yG ?_
 refine EF O (CZ MN O (bN (-1) _ AD AD) O E ?_)
 clear E
 intro C n2 s2 m2 t2 _ E
 have U : FitQ ((-1 : Int) : Rat) 4 := RC (k := 4) AD (EY AD AD)
 refine yG ?_
 refine EF O (DN eU O (Jm _ _ _ _ ((-1 : Int) : Rat) _ q _ E.2.1 E.1 (BV E.2.2.1) (FitQ.mono U AD) (fun t J => FitQ.mono (hFq t J) AD) hLq) O E ?_)
 clear E
 intro f Y _ y E
 replace E := E.sz (Nat.le_refl f.heap.size)
 obtain ⟨H, F, rfl, u, _⟩ := y.shp
 replace E := E.r (e := KG) (S := GL C.heap.size f.heap.size) y (fun _ g => g.2)
 have l : w.heap.size ≤ f.heap.size := (e6 E).size
 refine yG ?_
 refine EF O (DN OO O (gO _ p _ (iD ((-1 : Int) : Rat) q) _ (BV (e5 E)) (BV E.1) hFp (Cv (n := 1000000) (RC (k := 4) AD (EY AD AD)) hFq AD) hLp (Nat.le_trans (hI _ _ _) hLq)) O E ?_)
 clear E
 intro h X _ v E
 replace E := E.sz (Nat.le_refl h.heap.size)
 obtain ⟨G, D, rfl, o, _⟩ := v.shp
 replace E := E.r (e := KG) (S := GL f.heap.size h.heap.size) v (fun _ g => g.2)
 refine yG ?_
 exact ⟨_, rfl, (by rw [show Pg p q = MY p (iD ((-1 : Int) : Rat) q) from rfl]; exact pS E.1 Z), e8 E⟩
end Go.Proofs.YtmppigbbkjepiaaGreatDoor
