/- Helping facts of Ref6; no other conditions. -/
import Derived.Test.YtmppigbbkjepiaaGreatDoorRead2
set_option maxHeartbeats 8000000
set_option maxRecDepth 100000
namespace Go.Proofs.YtmppigbbkjepiaaGreatDoor
open Go.Proofs.Tryz
open Go.RowKit W
theorem Tt (m q : List Nat) (w : World) (hm : EK m) (hq : EK q) (hs : lT m q) : Calls prog 56 #[.agg (GP m).toArray, .agg (GP q).toArray] w (GJ w (.tuple #[.agg (GP (OG m q 8)).toArray, .int .i64 0])) := by
  have := Ts m q w hq hs
  rwa [Lr hm] at this
theorem xE {x : Rat} (h : x = 0) : (OB x.num == 0) = true := by subst h; rfl
theorem pP {x : Rat} (h : ¬ x = 0) : (OB x.num == 0) = false := by
  rw [beq_eq_false_iff_ne]
  have : x.num ≠ 0 := fun g => h (Rat.num_eq_zero.1 g)
  unfold OB MS
  by_cases e : x.num < 0
  · rw [if_pos e]; decide
  · rw [if_neg e, if_neg this]; decide
theorem dR {α : Type} {e : El α} {b t : Nat} {S : Nat → Prop} {w : World} {cs : List Value} {x : α} (hb : Bx w b t cs) (hS : S b) (h : e.p S w cs x) : IsR e S w (.slice (some ⟨b, 0, none⟩) 1 1) [x] := by
  refine ⟨_, 1, O, Nat.le_refl _, by decide, fun i y f => ?_⟩
  cases i with
  | zero => simp at f; subst f; exact ⟨b, 0, cs, rfl, hS, by rw [Nat.zero_mul]; exact hb.cs, h⟩
  | succ i => simp at f
def OS (p q : List Tm) (i k : Nat) (o : List Tm) : Prop := o ++ LD (p.drop i) (q.drop k) = LD p q
theorem Aa (p q : List Tm) : OS p q 0 0 [] := by unfold OS; simp
theorem Ig {p q o : List Tm} {i k : Nat} (h : OS p q i k o) (hi : ¬ i < p.length) (hk : ¬ k < q.length) : LD p q = o := by
  unfold OS at h; rw [List.drop_eq_nil_of_le AA, List.drop_eq_nil_of_le AA, dF, List.append_nil] at h; exact h.symm
theorem PR {α : Type} {l : List α} {i : Nat} {x : α} (h : l[i]? = some x) : l.drop i = x :: l.drop (i + 1) := by
  obtain ⟨f, e⟩ := List.getElem?_eq_some_iff.1 h
  rw [List.drop_eq_getElem_cons f, e]
theorem Dq {p q o : List Tm} {i k : Nat} {t : Tm} (h : OS p q i k o) (ht : p[i]? = some t) (hc : ¬ k < q.length ∨ ∃ u, q[k]? = some u ∧ 0 < EI t.2 u.2) : OS p q (i + 1) k (o ++ [t]) := by
  unfold OS at *
  rw [PR ht] at h
  rcases hc with f | ⟨u, e, hc⟩
  · rw [List.drop_eq_nil_of_le (by omega : q.length ≤ k), dF] at h ⊢; rw [← h]; simp
  · rw [PR e, Dt hc, ← PR e] at h; rw [← h]; simp
theorem Dp {p q o : List Tm} {i k : Nat} {u : Tm} (h : OS p q i k o) (hu : q[k]? = some u) (hc : ¬ i < p.length ∨ ∃ t, p[i]? = some t ∧ EI t.2 u.2 < 0) : OS p q i (k + 1) (o ++ [u]) := by
  unfold OS at *
  rw [PR hu] at h
  rcases hc with f | ⟨t, e, hc⟩
  · rw [List.drop_eq_nil_of_le (by omega : p.length ≤ i), pE] at h ⊢; rw [← h]; simp
  · rw [PR e, Ds AA hc, ← PR e] at h; rw [← h]; simp
theorem Tc {p q o : List Tm} {i k : Nat} {t u : Tm} (h : OS p q i k o) (ht : p[i]? = some t) (hu : q[k]? = some u) (h1 : ¬ 0 < EI t.2 u.2) (h2 : ¬ EI t.2 u.2 < 0) (h3 : t.1 + u.1 = 0) : OS p q (i + 1) (k + 1) o := by
  unfold OS at *; rw [PR hu, PR ht, Oh h1 h2 h3] at h; exact h
theorem Og {p q o : List Tm} {i k : Nat} {t u : Tm} (h : OS p q i k o) (ht : p[i]? = some t) (hu : q[k]? = some u) (h1 : ¬ 0 < EI t.2 u.2) (h2 : ¬ EI t.2 u.2 < 0) (h3 : ¬ t.1 + u.1 = 0) : OS p q (i + 1) (k + 1) (o ++ [(t.1 + u.1, t.2)]) := by
  unfold OS at *; rw [PR hu, PR ht, Dr h1 h2 h3] at h; rw [← h]; simp
theorem Ie {p q o : List Tm} {i k : Nat} (h : OS p q i k o) : o.length ≤ p.length + q.length := by
  have e := vP p q
  unfold OS at h; rw [← h] at e; simp at e; omega
theorem Nt {c : Rat} (h : c = 0) : MR c = [] := by unfold MR; rw [if_pos h]
theorem Nu {c : Rat} (h : ¬ c = 0) : MR c = [(c, zeroM)] := by unfold MR; rw [if_neg h]
theorem sW {m : List Nat} (hm : EK m) : lT zeroM m := fun i => by
  have h0 : me zeroM i = 0 := by
    by_cases h : i < 8
    · have : ∀ j, j < 8 → me zeroM j = 0 := by decide
      exact this i h
    · unfold me; rw [List.getD_eq_getElem?_getD, List.getElem?_eq_none (show zeroM.length ≤ i by show 8 ≤ i; omega)]; rfl
  rw [h0]
  by_cases h : i < 8
  · have := hm.2 (me m i) (by rw [RP (by rw [hm.1]; exact h)]; exact List.getElem_mem _); omega
  · unfold me; simp [List.getD_eq_getElem?_getD, List.getElem?_eq_none (by rw [hm.1]; omega : m.length ≤ i)]
theorem oS {c : Rat} {m : List Nat} {p : List Tm} {a b n : Nat} (hc : FitQ c a) (hp : ∀ t ∈ p, FitQ t.1 b) (hn : a + b ≤ n) : ∀ t ∈ KD c m p, FitQ t.1 n := by
  intro t e
  unfold KD at e
  split at e
  · cases e
  · obtain ⟨u, f, rfl⟩ := List.mem_map.1 e
    exact FitQ.mono (Pa hc (hp u f)) hn
theorem vY (na : Bool) (sa : Value) (ma : Bool) (ta : Value) (x : Rat) (w : World) (hna : IsI w (.agg #[.bool na, sa]) x.num) (hda : IsI w (.agg #[.bool ma, ta]) ((x.den : Nat) : Int)) :
    Calls prog 23 #[.agg #[.bool na, sa, .bool ma, ta]] w (vV w (MR x)) := by
 have E := Env.start w
 replace E := (E.i hna).i hda
 go_enter func23, ntmps23
 refine yG ?_
 refine EF O (CI (cs := [.bool na, sa, .bool ma, ta]) O O ?_)
 intro l F h z t p
 have G : w.heap.size ≤ l := by rw [h]; exact E.2.2.1.size
 replace E := E.below t
 replace E := E.x p
 by_cases e : x = 0
 case pos =>
  refine yG ?_
  refine EF O (CK JW O (ZC _ _ _ _ x _ E.2.2.1 E.2.1) O E ?_)
  intro D I E
  refine yG ?_
  refine V O O (EW (c := true) O O O (xE e)) ?_
  refine yG ?_
  exact ⟨_, rfl, (by rw [Nt e]; exact IsR.nil _ _ _), e3 E⟩
 refine yG ?_
 refine EF O (CK JW O (ZC _ _ _ _ x _ E.2.2.1 E.2.1) O E ?_)
 intro C H E
 refine yG ?_
 refine V O O (EW (c := false) O O O (pP e)) ?_
 refine yG ?_
 refine V (v := .agg (HY na sa ma ta zeroM).toArray) O O (fY O O) ?_
 refine yG ?_
 refine EF O (DT (cs := (HY na sa ma ta zeroM)) underlying28 KP (CM CZ) AE AE O O ?_)
 intro u B f y q o
 have k : l < u := by rw [f]; exact Bx.lt E.1
 replace E := E.below q
 replace E := E.x o
 refine yG ?_
 exact ⟨_, rfl, (by rw [Nu e]; exact (dR E.1 ⟨by omega, Bx.lt E.1⟩ ⟨_, _, _, _, rfl, e3 E, E.2.2.1, CZ⟩)), e4 E⟩
theorem lX (na : Bool) (sa : Value) (ma : Bool) (ta : Value) (x : Rat) (m : List Nat) (vp : Value) (p : List Tm) (w : World) (hna : IsI w (.agg #[.bool na, sa]) x.num) (hda : IsI w (.agg #[.bool ma, ta]) ((x.den : Nat) : Int)) (hm : EK m) (hRp : IsR JP (DD w.heap.size) w vp p) (Fx : FitQ x 1000000) (hF : ∀ t ∈ p, FitQ t.1 1000000) (hS : ∀ t ∈ p, lT m t.2) (hL : p.length ≤ 1000000) :
    Calls prog 21 #[.agg #[.bool na, sa, .bool ma, ta], .agg (GP m).toArray, vp] w (Xl w (KD x m p) 0) := by
 have E := Env.start w
 replace E := (E.i hna).i hda
 obtain ⟨J, y, rfl, b8, b7⟩ := hRp.shp
 replace E := E.r hRp (DK _)
 go_enter func21, ntmps21
 refine yG ?_
 refine EF O (CI (cs := [.bool na, sa, .bool ma, ta]) O O ?_)
 intro b1 w1 ak z1 d1 x1
 have l1 : w.heap.size ≤ b1 := by rw [ak]; exact (e3 E).size
 replace E := E.below d1
 replace E := E.x x1
 refine yG ?_
 refine EF O (CI (cs := GP m) O O ?_)
 intro b2 w2 aj z2 d2 x2
 have ap : b1 < b2 := by rw [aj]; exact Bx.lt E.1
 replace E := E.below d2
 replace E := E.x x2
 refine yG ?_
 refine EF O (VR fF O ?_)
 intro I w3 ai z3 d3 x3
 have ao : b2 < I := by rw [ai]; exact Bx.lt E.1
 replace E := E.below d3
 replace E := E.x x3
 have x4 := E.1
 refine yG ?_
 replace E := WJ E
 replace E := (E.sz (Nat.le_of_lt (Bx.lt x4))).a (Acc.lit0 (e := JP) (S := WI) x4 (Nat.le_refl _) GH) (TH _)
 by_cases F : x = 0
 case pos =>
  refine yG ?_
  refine EF O (CK JW O (ZC _ _ _ _ x _ (e6 E) (e5 E)) O E ?_)
  intro w5 d5 E
  refine yG ?_
  refine V O O (EW (c := true) O O O (xE F)) ?_
  refine yG ?_
  exact ⟨_, rfl, ⟨_, rfl, (by rw [fL F]; exact IsR.nil _ _ _)⟩, e7 E⟩
 refine yG ?_
 refine EF O (CK JW O (ZC _ _ _ _ x _ (e6 E) (e5 E)) O E ?_)
 intro w6 d6 E
 refine yG ?_
 refine V O O (EW (c := false) O O O (pP F)) ?_
 refine yG ?_
 refine wp_loop_ghost (fun mz a w' => ∃ (i : Nat) (B : Value) (o : List Tm) (f : List Value), f = a.tmps.toList ∧ a = ⟨#[.agg #[.bool na, sa, .bool ma, ta], .agg (GP m).toArray, .slice J p.length y, .pointer (some ⟨b1, 0, none⟩), .pointer (some ⟨b2, 0, none⟩), undef, CE f 6, CE f 7, B, .int .i64 ↑i, CE f 10, CE f 11, .slice (some ⟨I, 0, none⟩) 0 0, .agg #[.bool na, sa, .bool ma, ta], .int .i64 (OB x.num), .bool false, CE f 16, CE f 17, CE f 18, CE f 19, CE f 20, CE f 21, CE f 22, CE f 23, CE f 24, CE f 25, CE f 26, CE f 27, CE f 28, CE f 29, CE f 30, CE f 31, CE f 32, CE f 33, CE f 34, CE f 35, CE f 36, CE f 37, CE f 38, CE f 39, CE f 40, CE f 41, CE f 42, CE f 43, CE f 44, CE f 45, undef], []⟩ ∧ Env w' [fA JP 88 I WI B o, oZ I, fX b2 (67) (GP m), fX b1 (64) ([.bool na, sa, .bool ma, ta]), fR JP (DD w.heap.size) (.slice J p.length y) p, fI (.agg #[.bool ma, ta]) ((x.den : Nat) : Int), fI (.agg #[.bool na, sa]) x.num, fW w] ∧ mz = p.length - i ∧ (i ≤ p.length ∧ o = KD x m (p.take i))) (p.length) ⟨0, (.slice (some ⟨I, 0, none⟩) 0 0), [], _, O, O, zE, O, ⟨Nat.zero_le _, (by unfold KD; simp)⟩⟩ ?_
 rintro m7 _ w7 ⟨i, B, o, f, -, rfl, E, ae, a3⟩
 obtain ⟨a3, hJ⟩ := a3
 by_cases hi : i < p.length
 case neg =>
  refine yG ?_
  exact ⟨_, rfl, ⟨_, rfl, (by rw [(show KD x m p = o by rw [hJ, List.take_of_length_le AA])]; exact mB E.1.1 AA)⟩, e7 E⟩
 obtain ⟨⟨c8, z⟩, q⟩ : ∃ x, p[i]? = some x := ⟨_, List.getElem?_eq_getElem hi⟩
 obtain ⟨C, Q, _, a0, a1, ah, ⟨n8, s8, m8, u8, rfl, ad, ag, a2⟩⟩ := IsR.at (e4 E).1 q
 have af : C < _ := (e4 E).2 _ a1
 replace E := ((E.c ah af).i ad).i ag
 have b9 : C < w.heap.size := a1
 have X := hF _ (List.mem_of_getElem? q)
 have u := hS _ (List.mem_of_getElem? q)
 have Y : o.length ≤ 1000000 := by rw [hJ]; have := ZQ x m (p.take i); rw [List.length_take] at this; omega
 have G : ∀ g, (B : Value).ownBlock = some g → g < w7.heap.size := fun g hg => ((e3 E).1.lt hg).2
 have a8 : b2 < w7.heap.size := Bx.lt (e5 E)
 have a7 : b1 < w7.heap.size := Bx.lt (e6 E)
 refine yG ?_
 refine PA E [.op 0, .op 1, .op 2, .op 3, .op 4, .op 5, .av 10, .op 6, .op 7, .op 8, .op 9, .op 10] 2 (#[true, true, true, true, true, true, true, true, true, true, true, false, false]) Z Z Z Z AF AF ?_
 refine FP (v := .agg (GP m).toArray) O O O O O (fun w hS => CT QX O O (e5 hS) (DC hm)) ?_
 refine FP (v := .slice J p.length y) O O O O O (fun w hS => GE O O) ?_
 refine FP (v := .int .i64 ↑i) O O O O O (fun w hS => GE O O) ?_
 refine FP (v := .pointer (some ⟨C, Q + i * 12, none⟩)) O O O O O (fun w hS => NL (i := i) O underlying28 Z O a0 O O (List.getElem?_eq_some_iff.1 q).1) ?_
 refine yG ?_
 refine FP (v := .pointer (some ⟨C, Q + i * 12 + 4, none⟩)) O O O O O (fun w hS => UE O O O) ?_
 refine FP (v := .agg (GP z).toArray) O O O O O (fun w hS => CD QX O O (Cs.sub ((hS.2.2.1).1) 4 (DY _ _ _ _ _)) (DC a2)) ?_
 refine FA _ (RunF.alloc QX O O O) ?_
 refine yG ?_
 refine FE O O O O ?_
 intro b0 E
 refine BZ mM O (Tt m z _ hm a2 u) O E ?_
 intro b4 am E
 refine kF am E O ?_
 refine FP (v := .tuple #[.agg (GP (OG m z 8)).toArray, .int .i64 0]) O O O O O (fun w hS => GE O O) ?_
 refine FP (v := .agg (GP (OG m z 8)).toArray) O O O O O (fun w hS => XA (vs := [.agg (GP (OG m z 8)).toArray, .int .i64 0]) O O O) ?_
 refine FP (v := .int .i64 0) O O O O O (fun w hS => XA (vs := [.agg (GP (OG m z 8)).toArray, .int .i64 0]) O O O) ?_
 refine yG ?_
 refine FF O O ?_
 intro a6 ba b5
 have b6 : w.heap.size ≤ a6 := by omega
 have R : (B : Value).ownBlock ≠ some a6 := fun h => by have := G _ h; omega
 refine yG ?_
 intro az E
 refine H1 (i := 11) Z ?_
 have L := E.1
 replace E := WJ E
 refine HE (o := ⟨none, _, _, _, _, _⟩) O O (BY QX O O O L (by first | rfl | exact DC qN) (DC (QE u 8)) (qQ _) ?_)
 intro ay ac a9
 replace E := (E.onl (L.noW (cB (m := [0, 0, 0, 0, 0, 0, 0, 0]))) zK ac).x a9
 refine ⟨E.2, ?_⟩
 refine yG ?_
 refine HP (i := 12) (o := ⟨some 11, _, _, _, _, _⟩) (v := .int .i64 0) O Z (fun _ _ _ h => h) O (fun w hS => KH O O) (E.2) ?_
 refine yG ?_
 refine HN Z ?_
 have k := e4 E
 refine yG ?_
 replace E := pC E
 refine sE E [0,1,2,3,4,5,6,8,7,9,10,11,12] ?_
 replace E := E.drew
 replace k := (fA JP 88 I WI B o).below k ((Below.refl _ _).drew)
 refine yG ?_
 refine lS O O O a0 O (List.getElem?_eq_some_iff.1 q).1 ?_
 refine yG ?_
 refine SW O O O O O (fun w hS => CD GV O O (Cs.sub ((e3 hS).1) 0 (FG _ _ _ _ _)) O) ?_
 refine SW O O O O O (fun w hS => CT QX O O (hS.1) (DC (QE u 8))) ?_
 refine yG ?_
 refine JM (o := ⟨some 41, _, _, _, _, _⟩) O O O O (CV mO O (Xn _ _ _ _ x _ _ _ _ c8 _ (e9 E) (e8 E) E.2.2.1 E.2.1 (FitQ.mono Fx AE) (FitQ.mono X AE)) O E ?_)
 intro ax T P U N al E
 replace k := (fA JP 88 I WI B o).below k al
 refine ⟨E.2.2, ?_⟩
 refine yG ?_
 refine SW (v := .agg (HY T P U N (OG m z 8)).toArray) O O O O O (fun w hS => ZY O O O (QE u 8)) ?_
 refine yG ?_
 refine JM (o := ⟨some 44, _, _, _, _, _⟩) O O O O (DT (cs := (HY T P U N (OG m z 8))) underlying28 KP (CM (QE u 8)) AE AE O O ?_)
 intro an aw aq ar a4 aa
 have D : (B : Value).ownBlock ≠ some an := fun h => by have := (Acc.lt k.1 h).2; omega
 replace E := E.below a4
 replace k := (fA JP 88 I WI B o).below k a4
 replace E := E.x aa
 refine ⟨E.2.2.2, ?_⟩
 have H := k
 refine yG ?_
 refine JM (o := ⟨some 45, _, _, _, _, _⟩) O O O O (FQ (x := ((x * c8), (OG m z 8))) fF O (l := o) O H.1 H.2 E (fun g hg h1 h2 => ⟨CQ (fun e => D (e ▸ hg)), BX, BX, CQ (fun e => R (e ▸ hg)), BX, BX, SI AA, BX, CQ AA, CQ AA, DR (CJ AA), BX, BX, IS AA, BX⟩) O E.1 (⟨_, _, _, _, O, E.2.2.1, E.2.1, (QE u 8)⟩) (by have := Y; unfold maxLen; omega) (by have := Y; omega) (CR (e7 E)) ?_)
 intro ab au E
 refine ⟨E.2.2.2.2, ?_⟩
 refine yG ?_
 exact ⟨_, (by rw [ae]; omega), (i + 1), ab, o ++ [((x * c8), (OG m z 8))], _, O, O, zE, O, ⟨by omega, by rw [sQ F q, ← hJ]⟩⟩
theorem Tu {S : Nat → Prop} {w : World} {v : Value} {p : List Tm} (h : IsR JP S w v p) : ∀ t ∈ p, EK t.2 := by
  obtain ⟨q, o, rfl, _, _, l⟩ := h
  intro t e
  obtain ⟨i, f⟩ := List.getElem?_of_mem e
  obtain ⟨_, _, _, _, _, _, n, s, m, u, _, _, _, k⟩ := l i t f
  exact k
theorem vW (na : Bool) (sa : Value) (ma : Bool) (ta : Value) (x : Rat) (vp : Value) (p : List Tm) (w : World) (hna : IsI w (.agg #[.bool na, sa]) x.num) (hda : IsI w (.agg #[.bool ma, ta]) ((x.den : Nat) : Int)) (hRp : IsR JP (DD w.heap.size) w vp p) (Fx : FitQ x 1000000) (hF : ∀ t ∈ p, FitQ t.1 1000000) (hL : p.length ≤ 1000000) :
    Calls prog 35 #[.agg #[.bool na, sa, .bool ma, ta], vp] w (vV w (RH x p)) := by
 have E := Env.start w
 replace E := (E.i hna).i hda
 obtain ⟨H, u, rfl, D, C⟩ := hRp.shp
 replace E := E.r hRp (DK _)
 go_enter func35, ntmps35
 have h : ∀ t ∈ p, lT zeroM t.2 := fun t B => sW (Tu E.1.1 t B)
 refine yG ?_
 refine EF O (CI (cs := [.bool na, sa, .bool ma, ta]) O O ?_)
 intro P l F I G v
 replace E := E.below G
 replace E := E.x v
 have o : w.heap.size ≤ l.heap.size := (e4 E).size
 refine yG ?_
 refine EF O (CW QK O (lX _ _ _ _ x zeroM _ p _ (e3 E) E.2.2.1 CZ (BW E.2.1) (FitQ.mono Fx AE) hF h hL) O E ?_)
 intro k J N f E
 replace E := E.sz (Nat.le_refl k.heap.size)
 obtain ⟨L, rfl, f⟩ := f
 obtain ⟨z, y, rfl, q, _⟩ := f.shp
 replace E := E.r (e := JP) (S := DX l.heap.size k.heap.size) f (fun _ g => g.2)
 refine yG ?_
 exact ⟨_, rfl, (by rw [show RH x p = KD x zeroM p from rfl]; exact NewP.up E.1 AA), e6 E⟩
theorem dM (vp : Value) (p : List Tm) (vq : Value) (q : List Tm) (w : World) (hRp : IsR JP (DD w.heap.size) w vp p) (hRq : IsR JP (DD w.heap.size) w vq q) (hFp : ∀ t ∈ p, FitQ t.1 1000000) (hFq : ∀ t ∈ q, FitQ t.1 1000000) (hLp : p.length ≤ 1000000) (hLq : q.length ≤ 1000000) :
    Calls prog 24 #[vp, vq] w (vV w (LD p q)) := by
 have E := Env.start w
 obtain ⟨a9, R, rfl, dg, db⟩ := hRp.shp
 replace E := E.r hRp (DK _)
 obtain ⟨a8, Q, rfl, de, da⟩ := hRq.shp
 replace E := E.r hRq (DK _)
 go_enter func24, ntmps24
 refine yG ?_
 refine EF O (VR fF O ?_)
 intro b1 w1 bt z1 d1 x1
 have l1 : w.heap.size ≤ b1 := by rw [bt]; exact E.2.2.1.size
 replace E := E.below d1
 replace E := E.x x1
 have x2 := E.1
 refine yG ?_
 replace E := WJ E
 replace E := (E.sz (Nat.le_of_lt (Bx.lt x2))).a (Acc.lit0 (e := JP) (S := WI) x2 (Nat.le_refl _) GH) (TH _)
 refine yG ?_
 refine wp_loop_ghost (fun mz a w' => ∃ (i : Nat) (k : Nat) (N : Value) (o : List Tm) (f : List Value), f = a.tmps.toList ∧ a = ⟨#[.slice a9 p.length R, .slice a8 q.length Q, undef, undef, .slice none 0 0, N, .int .i64 ↑i, .int .i64 ↑k, CE f 8, .slice (some ⟨b1, 0, none⟩) 0 0, CE f 10, CE f 11, CE f 12, CE f 13, CE f 14, CE f 15, CE f 16, CE f 17, CE f 18, CE f 19, CE f 20, CE f 21, CE f 22, CE f 23, CE f 24, CE f 25, CE f 26, CE f 27, CE f 28, CE f 29, CE f 30, CE f 31, CE f 32, CE f 33, CE f 34, CE f 35, CE f 36, CE f 37, CE f 38, CE f 39, CE f 40, CE f 41, CE f 42, CE f 43, CE f 44, CE f 45, CE f 46, CE f 47, CE f 48, CE f 49, CE f 50, CE f 51, CE f 52, CE f 53, CE f 54, CE f 55, CE f 56, CE f 57, CE f 58, CE f 59, CE f 60, CE f 61, CE f 62, CE f 63, CE f 64, CE f 65, CE f 66, CE f 67, CE f 68, CE f 69, CE f 70, CE f 71, CE f 72, CE f 73, CE f 74, CE f 75, CE f 76, CE f 77, CE f 78, CE f 79, CE f 80, CE f 81, CE f 82, CE f 83, CE f 84, CE f 85, CE f 86, CE f 87, CE f 88, CE f 89, CE f 90, CE f 91, CE f 92, CE f 93, CE f 94, CE f 95, CE f 96, CE f 97, CE f 98, CE f 99, CE f 100, CE f 101, CE f 102, CE f 103, CE f 104, CE f 105, CE f 106, CE f 107, undef], []⟩ ∧ Env w' [fA JP 88 b1 WI N o, oZ b1, fR JP (DD w.heap.size) (.slice a8 q.length Q) q, fR JP (DD w.heap.size) (.slice a9 p.length R) p, fW w] ∧ mz = (p.length + q.length - (i + k)) ∧ (i ≤ p.length ∧ k ≤ q.length ∧ OS p q i k o)) ((p.length + q.length)) ⟨0, 0, (.slice (some ⟨b1, 0, none⟩) 0 0), [], _, O, O, zE, O, ⟨Nat.zero_le _, Nat.zero_le _, Aa p q⟩⟩ ?_
 rintro m3 _ w3 ⟨i, k, N, o, f, -, rfl, E, U, br⟩
 obtain ⟨dd, dc, hJ⟩ := br
 have d6 := Ie hJ
 have G : o.length ≤ 2000000 := by omega
 by_cases hi : i < p.length
 case neg =>
  by_cases hk : k < q.length
  case neg =>
   refine yG ?_
   exact ⟨_, rfl, (by rw [Ig hJ hi hk]; exact mB E.1.1 AA), e4 E⟩
  obtain ⟨⟨X, L⟩, z⟩ : ∃ x, q[k]? = some x := ⟨_, List.getElem?_eq_getElem hk⟩
  obtain ⟨I, Y, _, D, a0, am, ⟨nK, sK, mK, uK, rfl, ag, al, B⟩⟩ := IsR.at E.2.2.1.1 z
  have ai : I < _ := E.2.2.1.2 _ a0
  replace E := ((E.c am ai).i ag).i al
  have bq : I < w.heap.size := a0
  have ak := hFq _ (List.mem_of_getElem? z)
  refine yG ?_
  refine sE E [0,1,2,3,4,5,6,7,8,9,10,11,12,13,14,15,16,17,18,19,20,21,22,23] ?_
  replace E := E.drew
  refine yG ?_
  refine sE E [0,1,2,3,4,5,6,7,8,9,10,11,12,13,14,15,16,17] ?_
  replace E := E.drew
  refine yG ?_
  refine Ja O O D O (List.getElem?_eq_some_iff.1 z).1 ?_
  refine yG ?_
  refine V O O (CD KP O O (E.2.2.1.1) (CM B)) ?_
  refine yG ?_
  refine EF O (DT (cs := (HY nK sK mK uK L)) underlying28 KP (CM B) AE AE O O ?_)
  intro c0 cb c4 c7 bu bc
  have a6 : (N : Value).ownBlock ≠ some c0 := fun h => by have := (Acc.lt (e3 E).1 h).2; omega
  replace E := E.below bu
  replace E := E.x bc
  have aa := e4 E
  refine yG ?_
  replace E := pC E
  refine EF O (FQ (x := (X, L)) fF O (l := o) O aa.1 aa.2 E (fun g P h1 h2 => ⟨CQ (fun e => a6 (e ▸ P)), BX, BX, SI AA, BX, DR (CJ AA), DR (CJ AA), IS AA, BX⟩) O E.1 (⟨_, _, _, _, O, E.2.2.1, E.2.1, B⟩) (by have := G; unfold maxLen; omega) (by have := G; omega) (CR (e4 E)) ?_)
  intro bg ca E
  refine yG ?_
  exact ⟨_, (by rw [U]; omega), i, (k + 1), bg, o ++ [(X, L)], _, O, O, zE, O, ⟨by omega, by omega, Dp hJ z (.inl hi)⟩⟩
 obtain ⟨⟨cI, J⟩, C⟩ : ∃ x, p[i]? = some x := ⟨_, List.getElem?_eq_getElem hi⟩
 obtain ⟨T, a3, _, F, b0, bp, ⟨nI, sI, mI, uI, rfl, bm, bo, y⟩⟩ := IsR.at (e3 E).1 C
 have bn : T < _ := (e3 E).2 _ b0
 replace E := ((E.c bp bn).i bm).i bo
 have dh : T < w.heap.size := b0
 have az := hFp _ (List.mem_of_getElem? C)
 by_cases hk : k < q.length
 case neg =>
  refine yG ?_
  refine sE E [0,1,2,3,4,5,6,7,8,9,10,11,12,13,14,15,16,17,18,19,20,21,22,23] ?_
  replace E := E.drew
  refine yG ?_
  refine Ja O O F O (List.getElem?_eq_some_iff.1 C).1 ?_
  refine yG ?_
  refine V O O (CD KP O O (E.2.2.1.1) (CM y)) ?_
  refine yG ?_
  refine EF O (DT (cs := (HY nI sI mI uI J)) underlying28 KP (CM y) AE AE O O ?_)
  intro c1 cd c5 c8 bv bd
  have a7 : (N : Value).ownBlock ≠ some c1 := fun h => by have := (Acc.lt (e3 E).1 h).2; omega
  replace E := E.below bv
  replace E := E.x bd
  have ab := e4 E
  refine yG ?_
  replace E := pC E
  refine EF O (FQ (x := (cI, J)) fF O (l := o) O ab.1 ab.2 E (fun g P h1 h2 => ⟨CQ (fun e => a7 (e ▸ P)), BX, BX, SI AA, BX, DR (CJ AA), DR (CJ AA), IS AA, BX⟩) O E.1 (⟨_, _, _, _, O, E.2.2.1, E.2.1, y⟩) (by have := G; unfold maxLen; omega) (by have := G; omega) (CR (e4 E)) ?_)
  intro bh cc E
  refine yG ?_
  exact ⟨_, (by rw [U]; omega), (i + 1), k, bh, o ++ [(cI, J)], _, O, O, zE, O, ⟨by omega, by omega, Dq hJ C (.inl hk)⟩⟩
 obtain ⟨⟨X, L⟩, z⟩ : ∃ x, q[k]? = some x := ⟨_, List.getElem?_eq_getElem hk⟩
 obtain ⟨I, Y, _, D, a0, am, ⟨nK, sK, mK, uK, rfl, ag, al, B⟩⟩ := IsR.at (e5 E).1 z
 have ai : I < _ := (e5 E).2 _ a0
 replace E := ((E.c am ai).i ag).i al
 have bq : I < w.heap.size := a0
 have ak := hFq _ (List.mem_of_getElem? z)
 by_cases aj : 0 < EI J L
 case pos =>
  refine yG ?_
  refine sE E [0,1,2,3,4,5,6,7,8,9,10,11,12,13,14,15,16,17,18,19,20,21,22,23] ?_
  replace E := E.drew
  refine yG ?_
  refine lS O O O F O (List.getElem?_eq_some_iff.1 C).1 ?_
  refine yG ?_
  refine SW O O O Z O (fun w u => CD QX O O (Cs.sub ((e5 u).1) 4 (DY _ _ _ _ _)) (DC y)) ?_
  refine yG ?_
  refine lS O O O D O (List.getElem?_eq_some_iff.1 z).1 ?_
  refine yG ?_
  refine SW O O O Z O (fun w u => CD QX O O (Cs.sub ((u.2.2.1).1) 4 (DY _ _ _ _ _)) (DC B)) ?_
  refine yG ?_
  refine JM (o := ⟨some 40, _, _, _, _, _⟩) O O O O (CK JL O (VP J L _ y B) O E ?_)
  intro w4 d4 E
  refine ⟨E, ?_⟩
  refine yG ?_
  refine Ja O O F O (List.getElem?_eq_some_iff.1 C).1 ?_
  refine yG ?_
  refine V O O (CD KP O O ((e5 E).1) (CM y)) ?_
  refine yG ?_
  refine EF O (DT (cs := (HY nI sI mI uI J)) underlying28 KP (CM y) AE AE O O ?_)
  intro b5 w5 dl z5 d5 x5
  have af : (N : Value).ownBlock ≠ some b5 := fun h => by have := (Acc.lt (e6 E).1 h).2; omega
  replace E := E.below d5
  replace E := E.x x5
  have b2 := e7 E
  refine yG ?_
  replace E := dl7 E
  refine EF O (FQ (x := (cI, J)) fF O (l := o) O b2.1 b2.2 E (fun g P h1 h2 => ⟨CQ (fun e => af (e ▸ P)), BX, BX, SI AA, BX, BX, SI AA, BX, DR (CJ AA), DR (CJ AA), IS AA, BX⟩) O E.1 (⟨_, _, _, _, O, e5 E, e4 E, y⟩) (by have := G; unfold maxLen; omega) (by have := G; omega) (CR (e7 E)) ?_)
  intro v6 w6 E
  refine yG ?_
  exact ⟨_, (by rw [U]; omega), (i + 1), k, v6, o ++ [(cI, J)], _, O, O, zE, O, ⟨by omega, by omega, Dq hJ C (.inr ⟨_, z, aj⟩)⟩⟩
 by_cases ah : EI J L < 0
 case pos =>
  refine yG ?_
  refine sE E [0,1,2,3,4,5,6,7,8,9,10,11,12,13,14,15,16,17,18,19,20,21,22,23] ?_
  replace E := E.drew
  refine yG ?_
  refine lS O O O F O (List.getElem?_eq_some_iff.1 C).1 ?_
  refine yG ?_
  refine SW O O O Z O (fun w u => CD QX O O (Cs.sub ((e5 u).1) 4 (DY _ _ _ _ _)) (DC y)) ?_
  refine yG ?_
  refine lS O O O D O (List.getElem?_eq_some_iff.1 z).1 ?_
  refine yG ?_
  refine SW O O O Z O (fun w u => CD QX O O (Cs.sub ((u.2.2.1).1) 4 (DY _ _ _ _ _)) (DC B)) ?_
  refine yG ?_
  refine JM (o := ⟨some 40, _, _, _, _, _⟩) O O O O (CK JL O (VP J L _ y B) O E ?_)
  intro w7 d7 E
  refine ⟨E, ?_⟩
  refine yG ?_
  refine sE E [0,1,2,3,4,5,6,7,8,9,10,11,12,13,14,15,16,17] ?_
  replace E := E.drew
  refine yG ?_
  refine lS O O O F O (List.getElem?_eq_some_iff.1 C).1 ?_
  refine yG ?_
  refine SW O O O Z O (fun w u => CD QX O O (Cs.sub ((e5 u).1) 4 (DY _ _ _ _ _)) (DC y)) ?_
  refine yG ?_
  refine lS O O O D O (List.getElem?_eq_some_iff.1 z).1 ?_
  refine yG ?_
  refine SW O O O Z O (fun w u => CD QX O O (Cs.sub ((u.2.2.1).1) 4 (DY _ _ _ _ _)) (DC B)) ?_
  refine yG ?_
  refine JM (o := ⟨some 68, _, _, _, _, _⟩) O O O O (CK JL O (VP J L _ y B) O E ?_)
  intro w8 d8 E
  refine ⟨E, ?_⟩
  refine yG ?_
  refine Ja O O D O (List.getElem?_eq_some_iff.1 z).1 ?_
  refine yG ?_
  refine V O O (CD KP O O (E.2.2.1.1) (CM B)) ?_
  refine yG ?_
  refine EF O (DT (cs := (HY nK sK mK uK L)) underlying28 KP (CM B) AE AE O O ?_)
  intro b9 w9 dk z9 d9 x9
  have ae : (N : Value).ownBlock ≠ some b9 := fun h => by have := (Acc.lt (e6 E).1 h).2; omega
  replace E := E.below d9
  replace E := E.x x9
  have ad := e7 E
  refine yG ?_
  replace E := dl7 E
  refine EF O (FQ (x := (X, L)) fF O (l := o) O ad.1 ad.2 E (fun g P h1 h2 => ⟨CQ (fun e => ae (e ▸ P)), BX, BX, SI AA, BX, BX, SI AA, BX, DR (CJ AA), DR (CJ AA), IS AA, BX⟩) O E.1 (⟨_, _, _, _, O, E.2.2.1, E.2.1, B⟩) (by have := G; unfold maxLen; omega) (by have := G; omega) (CR (e7 E)) ?_)
  intro bj cu E
  refine yG ?_
  exact ⟨_, (by rw [U]; omega), i, (k + 1), bj, o ++ [(X, L)], _, O, O, zE, O, ⟨by omega, by omega, Dp hJ z (.inr ⟨_, C, ah⟩)⟩⟩
 by_cases hz : cI + X = 0
 case pos =>
  refine yG ?_
  refine sE E [0,1,2,3,4,5,6,7,8,9,10,11,12,13,14,15,16,17,18,19,20,21,22,23] ?_
  replace E := E.drew
  refine yG ?_
  refine lS O O O F O (List.getElem?_eq_some_iff.1 C).1 ?_
  refine yG ?_
  refine SW O O O Z O (fun w u => CD QX O O (Cs.sub ((e5 u).1) 4 (DY _ _ _ _ _)) (DC y)) ?_
  refine yG ?_
  refine lS O O O D O (List.getElem?_eq_some_iff.1 z).1 ?_
  refine yG ?_
  refine SW O O O Z O (fun w u => CD QX O O (Cs.sub ((u.2.2.1).1) 4 (DY _ _ _ _ _)) (DC B)) ?_
  refine yG ?_
  refine JM (o := ⟨some 40, _, _, _, _, _⟩) O O O O (CK JL O (VP J L _ y B) O E ?_)
  intro ct ds E
  refine ⟨E, ?_⟩
  refine yG ?_
  refine sE E [0,1,2,3,4,5,6,7,8,9,10,11,12,13,14,15,16,17] ?_
  replace E := E.drew
  refine yG ?_
  refine lS O O O F O (List.getElem?_eq_some_iff.1 C).1 ?_
  refine yG ?_
  refine SW O O O Z O (fun w u => CD QX O O (Cs.sub ((e5 u).1) 4 (DY _ _ _ _ _)) (DC y)) ?_
  refine yG ?_
  refine lS O O O D O (List.getElem?_eq_some_iff.1 z).1 ?_
  refine yG ?_
  refine SW O O O Z O (fun w u => CD QX O O (Cs.sub ((u.2.2.1).1) 4 (DY _ _ _ _ _)) (DC B)) ?_
  refine yG ?_
  refine JM (o := ⟨some 68, _, _, _, _, _⟩) O O O O (CK JL O (VP J L _ y B) O E ?_)
  intro aq dr E
  refine ⟨E, ?_⟩
  have a2 : ∀ g, (N : Value).ownBlock = some g → g < aq.heap.size := fun g P => ((e6 E).1.lt P).2
  have b8 : w.heap.size ≤ aq.heap.size := (QM E).size
  refine yG ?_
  refine PA E [.op 0, .op 1, .op 2, .op 3, .op 4, .op 5, .op 6, .op 7, .op 8, .op 9, .av 11, .op 10, .op 11] 1 (#[true, true, true, true, true, true, true, true, true, true, true, true, false]) Z Z Z Z AF AF ?_
  refine FP (v := .slice a9 p.length R) O O O O O (fun w u => GE O O) ?_
  refine FP (v := .int .i64 ↑i) O O O O O (fun w u => GE O O) ?_
  refine FP (v := .pointer (some ⟨T, a3 + i * 12, none⟩)) O O O O O (fun w u => NL (i := i) O underlying28 Z O F O O (List.getElem?_eq_some_iff.1 C).1) ?_
  refine FP (v := .pointer (some ⟨T, a3 + i * 12, none⟩)) O O O O O (fun w u => JT O O O) ?_
  refine yG ?_
  refine FP (v := .agg #[.bool nI, sI, .bool mI, uI]) O O O O O (fun w u => CD GV O O (Cs.sub ((e5 u).1) 0 (FG _ _ _ _ _)) O) ?_
  refine FP (v := .slice a8 q.length Q) O O O O O (fun w u => GE O O) ?_
  refine FP (v := .int .i64 ↑k) O O O O O (fun w u => GE O O) ?_
  refine FP (v := .pointer (some ⟨I, Y + k * 12, none⟩)) O O O O O (fun w u => NL (i := k) O underlying28 Z O D O O (List.getElem?_eq_some_iff.1 z).1) ?_
  refine yG ?_
  refine FP (v := .pointer (some ⟨I, Y + k * 12, none⟩)) O O O O O (fun w u => JT O O O) ?_
  refine FP (v := .agg #[.bool nK, sK, .bool mK, uK]) O O O O O (fun w u => CD GV O O (Cs.sub ((u.2.2.1).1) 0 (FG _ _ _ _ _)) O) ?_
  refine FA _ (RunF.alloc GV O O O) ?_
  refine yG ?_
  refine FE O O O O ?_
  intro cq E
  refine CV ZM O (Ou _ _ _ _ cI _ _ _ _ X _ (e4 E) (e3 E) E.2.1 E.1 (FitQ.mono az AE) (FitQ.mono ak AE)) O E ?_
  intro cr cz cy d0 cx bx E
  refine kF bx E O ?_
  refine yG ?_
  refine FF O O ?_
  intro b6 dj cw
  have d3 : w.heap.size ≤ b6 := by omega
  have c3 : (N : Value).ownBlock ≠ some b6 := fun h => by have := a2 _ h; omega
  refine yG ?_
  intro cp E
  refine H1 (i := 12) Z ?_
  have ao := E.1
  replace E := WJ E
  refine HE (o := ⟨none, _, _, _, _, _⟩) O O (BY GV O O O ao O O (MH (IsI.one E.2.1) (IsI.one E.1)) ?_)
  intro co bl bb
  replace E := oY E ao bl bb
  refine ⟨E.2.2.2, ?_⟩
  refine yG ?_
  refine HN Z ?_
  refine yG ?_
  refine EF O (CK JW O (ZC _ _ _ _ (cI + X) _ E.2.2.1 E.2.1) O E ?_)
  intro cn dq E
  refine yG ?_
  refine V O O (UZ (c := false) O O O (by rw [bne_eq_false_iff_eq, ← beq_iff_eq]; exact xE hz)) ?_
  refine yG ?_
  exact ⟨_, (by rw [U]; omega), (i + 1), (k + 1), N, o, _, O, O, zE, O, ⟨by omega, by omega, Tc hJ C z aj ah hz⟩⟩
 refine yG ?_
 refine sE E [0,1,2,3,4,5,6,7,8,9,10,11,12,13,14,15,16,17,18,19,20,21,22,23] ?_
 replace E := E.drew
 refine yG ?_
 refine lS O O O F O (List.getElem?_eq_some_iff.1 C).1 ?_
 refine yG ?_
 refine SW O O O Z O (fun w u => CD QX O O (Cs.sub ((e5 u).1) 4 (DY _ _ _ _ _)) (DC y)) ?_
 refine yG ?_
 refine lS O O O D O (List.getElem?_eq_some_iff.1 z).1 ?_
 refine yG ?_
 refine SW O O O Z O (fun w u => CD QX O O (Cs.sub ((u.2.2.1).1) 4 (DY _ _ _ _ _)) (DC B)) ?_
 refine yG ?_
 refine JM (o := ⟨some 40, _, _, _, _, _⟩) O O O O (CK JL O (VP J L _ y B) O E ?_)
 intro cm dp E
 refine ⟨E, ?_⟩
 refine yG ?_
 refine sE E [0,1,2,3,4,5,6,7,8,9,10,11,12,13,14,15,16,17] ?_
 replace E := E.drew
 refine yG ?_
 refine lS O O O F O (List.getElem?_eq_some_iff.1 C).1 ?_
 refine yG ?_
 refine SW O O O Z O (fun w u => CD QX O O (Cs.sub ((e5 u).1) 4 (DY _ _ _ _ _)) (DC y)) ?_
 refine yG ?_
 refine lS O O O D O (List.getElem?_eq_some_iff.1 z).1 ?_
 refine yG ?_
 refine SW O O O Z O (fun w u => CD QX O O (Cs.sub ((u.2.2.1).1) 4 (DY _ _ _ _ _)) (DC B)) ?_
 refine yG ?_
 refine JM (o := ⟨some 68, _, _, _, _, _⟩) O O O O (CK JL O (VP J L _ y B) O E ?_)
 intro ap dn E
 refine ⟨E, ?_⟩
 have a1 : ∀ g, (N : Value).ownBlock = some g → g < ap.heap.size := fun g P => ((e6 E).1.lt P).2
 have b7 : w.heap.size ≤ ap.heap.size := (QM E).size
 refine yG ?_
 refine PA E [.op 0, .op 1, .op 2, .op 3, .op 4, .op 5, .op 6, .op 7, .op 8, .op 9, .av 11, .op 10, .op 11] 1 (#[true, true, true, true, true, true, true, true, true, true, true, true, false]) Z Z Z Z AF AF ?_
 refine FP (v := .slice a9 p.length R) O O O O O (fun w u => GE O O) ?_
 refine FP (v := .int .i64 ↑i) O O O O O (fun w u => GE O O) ?_
 refine FP (v := .pointer (some ⟨T, a3 + i * 12, none⟩)) O O O O O (fun w u => NL (i := i) O underlying28 Z O F O O (List.getElem?_eq_some_iff.1 C).1) ?_
 refine FP (v := .pointer (some ⟨T, a3 + i * 12, none⟩)) O O O O O (fun w u => JT O O O) ?_
 refine yG ?_
 refine FP (v := .agg #[.bool nI, sI, .bool mI, uI]) O O O O O (fun w u => CD GV O O (Cs.sub ((e5 u).1) 0 (FG _ _ _ _ _)) O) ?_
 refine FP (v := .slice a8 q.length Q) O O O O O (fun w u => GE O O) ?_
 refine FP (v := .int .i64 ↑k) O O O O O (fun w u => GE O O) ?_
 refine FP (v := .pointer (some ⟨I, Y + k * 12, none⟩)) O O O O O (fun w u => NL (i := k) O underlying28 Z O D O O (List.getElem?_eq_some_iff.1 z).1) ?_
 refine yG ?_
 refine FP (v := .pointer (some ⟨I, Y + k * 12, none⟩)) O O O O O (fun w u => JT O O O) ?_
 refine FP (v := .agg #[.bool nK, sK, .bool mK, uK]) O O O O O (fun w u => CD GV O O (Cs.sub ((u.2.2.1).1) 0 (FG _ _ _ _ _)) O) ?_
 refine FA _ (RunF.alloc GV O O O) ?_
 refine yG ?_
 refine FE O O O O ?_
 intro cj E
 refine CV ZM O (Ou _ _ _ _ cI _ _ _ _ X _ (e4 E) (e3 E) E.2.1 E.1 (FitQ.mono az AE) (FitQ.mono ak AE)) O E ?_
 intro ck ax au ay ar bw E
 refine kF bw E O ?_
 refine yG ?_
 refine FF O O ?_
 intro b4 di cv
 have d2 : w.heap.size ≤ b4 := by omega
 have aw : (N : Value).ownBlock ≠ some b4 := fun h => by have := a1 _ h; omega
 refine yG ?_
 intro ci E
 refine H1 (i := 12) Z ?_
 have an := E.1
 replace E := WJ E
 refine HE (o := ⟨none, _, _, _, _, _⟩) O O (BY GV O O O an O O (MH (IsI.one E.2.1) (IsI.one E.1)) ?_)
 intro ch bk ba
 replace E := oY E an bk ba
 refine ⟨E.2.2.2, ?_⟩
 refine yG ?_
 refine HN Z ?_
 refine yG ?_
 refine EF O (CK JW O (ZC _ _ _ _ (cI + X) _ E.2.2.1 E.2.1) O E ?_)
 intro cg dm E
 refine yG ?_
 refine V O O (UZ (c := true) O O O (by rw [bne_iff_ne, ← beq_eq_false_iff_ne]; exact pP hz)) ?_
 have H := e9 E
 refine yG ?_
 replace E := dl9 E
 refine sE E [0,1,2,3,4,5,6,7,8,9,10] ?_
 replace E := E.drew
 replace H := (fA JP 88 b1 WI N o).below H ((Below.refl _ _).drew)
 refine yG ?_
 refine lS O O O F O (List.getElem?_eq_some_iff.1 C).1 ?_
 refine yG ?_
 refine SW O O O O O (fun w u => CD QX O O (Cs.sub ((e8 u).1) 4 (DY _ _ _ _ _)) (DC y)) ?_
 refine SW (v := .agg (HY ax au ay ar J).toArray) O O O O O (fun w u => ZY O O O y) ?_
 refine yG ?_
 refine JM (o := ⟨some 102, _, _, _, _, _⟩) O O O O (DT (cs := (HY ax au ay ar J)) underlying28 KP (CM y) AE AE O O ?_)
 intro c2 cf c6 c9 b3 bf
 have a4 : (N : Value).ownBlock ≠ some c2 := fun h => by have := (Acc.lt H.1 h).2; omega
 replace E := E.below b3
 replace H := (fA JP 88 b1 WI N o).below H b3
 replace E := E.x bf
 refine ⟨E.2, ?_⟩
 have ac := H
 refine yG ?_
 refine JM (o := ⟨some 103, _, _, _, _, _⟩) O O O O (FQ (x := ((cI + X), J)) fF O (l := o) O ac.1 ac.2 E (fun g P h1 h2 => ⟨CQ (fun e => a4 (e ▸ P)), CQ (fun e => aw (e ▸ P)), BX, BX, BX, BX, SI AA, BX, BX, SI AA, BX, DR (CJ AA), DR (CJ AA), IS AA, BX⟩) O E.1 (⟨_, _, _, _, O, e3 E, E.2.2.1, y⟩) (by have := G; unfold maxLen; omega) (by have := G; omega) (CR (QM E)) ?_)
 intro bi ce E
 refine ⟨E.2.2, ?_⟩
 refine yG ?_
 exact ⟨_, (by rw [U]; omega), (i + 1), (k + 1), bi, o ++ [((cI + X), J)], _, O, O, zE, O, ⟨by omega, by omega, Og hJ C z aj ah hz⟩⟩
theorem Tq (vp : Value) (p : List Tm) (vq : Value) (q : List Tm) (w : World) (hRp : IsR JP (DD w.heap.size) w vp p) (hRq : IsR JP (DD w.heap.size) w vq q) (hFp : ∀ t ∈ p, FitQ t.1 1000000) (hFq : ∀ t ∈ q, FitQ t.1 900000) (hLp : p.length ≤ 1000000) (hLq : q.length ≤ 1000000) :
    Calls prog 33 #[vp, vq] w (vV w (Ux p q)) := by
 have E := Env.start w
 obtain ⟨R, B, rfl, P, L⟩ := hRp.shp
 replace E := E.r hRp (DK _)
 obtain ⟨Q, z, rfl, N, J⟩ := hRq.shp
 replace E := E.r hRq (DK _)
 go_enter func33, ntmps33
 refine yG ?_
 refine EF O (CV JA O (UP (-1) _ AE AE) O E ?_)
 intro C n2 s2 m2 Y d2 E
 have T : FitQ ((-1 : Int) : Rat) 4 := OX (k := 4) AE (EV AE AE)
 refine yG ?_
 refine EF O (CW VV O (vW _ _ _ _ ((-1 : Int) : Rat) _ q _ E.2.1 E.1 (BW E.2.2.1) (FitQ.mono T AE) (fun t I => FitQ.mono (hFq t I) AE) hLq) O E ?_)
 intro f X d3 y E
 replace E := E.sz (Nat.le_refl f.heap.size)
 obtain ⟨H, F, rfl, u, _⟩ := y.shp
 replace E := E.r (e := JP) (S := DX C.heap.size f.heap.size) y (fun _ g => g.2)
 have l : w.heap.size ≤ f.heap.size := (e6 E).size
 refine yG ?_
 refine EF O (CW MY O (dM _ p _ (RH ((-1 : Int) : Rat) q) _ (BW (e5 E)) (BW E.1) hFp (oS (n := 1000000) (OX (k := 4) AE (EV AE AE)) hFq AE) hLp (Nat.le_trans (ZQ _ _ _) hLq)) O E ?_)
 intro h U d4 v E
 replace E := E.sz (Nat.le_refl h.heap.size)
 obtain ⟨G, D, rfl, o, _⟩ := v.shp
 replace E := E.r (e := JP) (S := DX f.heap.size h.heap.size) v (fun _ g => g.2)
 refine yG ?_
 exact ⟨_, rfl, (by rw [show Ux p q = LD p (RH ((-1 : Int) : Rat) q) from rfl]; exact NewP.up E.1 AA), e8 E⟩
end Go.Proofs.YtmppigbbkjepiaaGreatDoor
