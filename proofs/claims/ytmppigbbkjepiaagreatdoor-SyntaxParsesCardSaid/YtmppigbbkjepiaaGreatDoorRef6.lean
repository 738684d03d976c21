/- Helping facts of Ref6; no other conditions. -/
import Derived.Test.YtmppigbbkjepiaaGreatDoorRRead1
set_option maxHeartbeats 8000000
set_option maxRecDepth 100000
namespace Go.Proofs.YtmppigbbkjepiaaGreatDoor
open Go.Proofs.Tryz
open Go.RowKit W
variable {S : Nat -> Prop} {b i k : Nat} {c x : Rat} {m : List Nat} {p : Prop} {w : World} {α : Type}
theorem Ykp (h : p := by have := G; omega) : p := h
theorem Ydw (h : p := by rw [T]; omega) : p := h
theorem YAh (h : p := by have := G; unfold maxLen; omega) : p := h
theorem Xj (m q : List Nat) (w : World) (hm : FC m) (hq : FC q) (hs : pO m q) : Calls prog 56 #[.agg (IQ m).toArray, .agg (IQ q).toArray] w (GY w (.tuple #[.agg (IQ (QO m q 8)).toArray, .int .i64 0])) := by
 have := Xi m q w hq hs
 rwa [Po hm] at this
theorem Bt (h : x = 0) : (OY x.num == 0) = true := by subst h; rfl
theorem tK (h : ¬ x = 0) : (OY x.num == 0) = false := by
 rw [beq_eq_false_iff_ne]
 have : x.num ≠ 0 := fun g => h (Rat.num_eq_zero.1 g)
 unfold OY JR
 by_cases e : x.num < 0
 . rw [if_pos e]; decide
 rw [if_neg e, if_neg this]; decide
theorem iM {e : El α} {t : Nat} {cs : List Value} {x : α} (hb : Bx w b t cs) (hS : S b) (h : e.p S w cs x) : IsR e S w (.slice (some ⟨b, 0, none⟩) 1 1) [x] := by
 refine ⟨_, 1, O, Nat.le_refl _, by decide, fun i y f => ?_⟩
 cases i with
 | zero => simp at f; subst f; exact ⟨b, 0, cs, rfl, hS, by rw [Nat.zero_mul]; exact hb.cs, h⟩
 | succ i => simp at f
def QF (p q : List Tm) (i k : Nat) (o : List Tm) : Prop := o ++ PB (p.drop i) (q.drop k) = PB p q
theorem Ds (p q : List Tm) : QF p q 0 0 [] := by unfold QF; simp
theorem Lh {p q o : List Tm} (h : QF p q i k o) (hi : ¬ i < p.length) (hk : ¬ k < q.length) : PB p q = o := by
 unfold QF at h; rw [List.drop_eq_nil_of_le AA, List.drop_eq_nil_of_le AA, pM, List.append_nil] at h; exact h.symm
theorem RP {l : List α} {x : α} (h : l[i]? = some x) : l.drop i = x :: l.drop (i + 1) := by
 obtain ⟨f, e⟩ := List.getElem?_eq_some_iff.1 h
 rw [List.drop_eq_getElem_cons f, e]
theorem Hn {p q o : List Tm} {t : Tm} (h : QF p q i k o) (ht : p[i]? = some t) (hc : ¬ k < q.length ∨ ∃ u, q[k]? = some u /\ 0 < FR t.2 u.2) : QF p q (i + 1) k (o ++ [t]) := by
 unfold QF at *
 rw [RP ht] at h
 rcases hc with f | ⟨u, e, hc⟩
 . rw [List.drop_eq_nil_of_le (by omega : q.length <= k), pM] at h ⊢; rw [<- h]; simp
 rw [RP e, Hq hc, <- RP e] at h; rw [<- h]; simp
theorem Hm {p q o : List Tm} {u : Tm} (h : QF p q i k o) (hu : q[k]? = some u) (hc : ¬ i < p.length ∨ ∃ t, p[i]? = some t /\ FR t.2 u.2 < 0) : QF p q i (k + 1) (o ++ [u]) := by
 unfold QF at *
 rw [RP hu] at h
 rcases hc with f | ⟨t, e, hc⟩
 . rw [List.drop_eq_nil_of_le (by omega : p.length <= i), tB] at h ⊢; rw [<- h]; simp
 rw [RP e, Hp AA hc, <- RP e] at h; rw [<- h]; simp
theorem Wx {p q o : List Tm} {t u : Tm} (h : QF p q i k o) (ht : p[i]? = some t) (hu : q[k]? = some u) (h1 : ¬ 0 < FR t.2 u.2) (h2 : ¬ FR t.2 u.2 < 0) (h3 : t.1 + u.1 = 0) : QF p q (i + 1) (k + 1) o := by
 unfold QF at *; rw [RP hu, RP ht, Rx h1 h2 h3] at h; exact h
theorem Rw {p q o : List Tm} {t u : Tm} (h : QF p q i k o) (ht : p[i]? = some t) (hu : q[k]? = some u) (h1 : ¬ 0 < FR t.2 u.2) (h2 : ¬ FR t.2 u.2 < 0) (h3 : ¬ t.1 + u.1 = 0) : QF p q (i + 1) (k + 1) (o ++ [(t.1 + u.1, t.2)]) := by
 unfold QF at *; rw [RP hu, RP ht, Ho h1 h2 h3] at h; rw [<- h]; simp
theorem Lg {p q o : List Tm} (h : QF p q i k o) : o.length <= p.length + q.length := by
 have e := Ry p q
 unfold QF at h; rw [<- h] at e; simp at e; omega
theorem Rj (h : c = 0) : OI c = [] := by unfold OI; rw [if_pos h]
theorem Rk (h : ¬ c = 0) : OI c = [(c, zeroM)] := by unfold OI; rw [if_neg h]
theorem wN (hm : FC m) : pO zeroM m := fun i => by
 have h0 : me zeroM i = 0 := by
  by_cases h : i < 8
  . have : ∀ j, j < 8 -> me zeroM j = 0 := by decide
    exact this i h
  unfold me; rw [List.getD_eq_getElem?_getD, List.getElem?_eq_none (show zeroM.length <= i by show 8 <= i; omega)]; rfl
 rw [h0]
 by_cases h : i < 8
 . have := hm.2 (me m i) (by rw [ZG (by rw [hm.1]; exact h)]; exact List.getElem_mem _); omega
 unfold me; simp [List.getD_eq_getElem?_getD, List.getElem?_eq_none (by rw [hm.1]; omega : m.length <= i)]
theorem Kg {c : Rat} {m : List Nat} {p : List Tm} {a n : Nat} (hc : FitQ c a) (hp : ∀ t ∈ p, FitQ t.1 b) (hn : a + b <= n) : ∀ t ∈ MQ c m p, FitQ t.1 n := by
 intro t e
 unfold MQ at e
 split at e
 . cases e
 obtain ⟨u, f, rfl⟩ := List.mem_map.1 e
 exact FitQ.mono (Sr hc (hp u f)) hn
theorem Ao (na : Bool) (sa : Value) (ma : Bool) (ta : Value) (x : Rat) (w : World) (hna : IsI w (.agg #[.bool na, sa]) x.num) (hda : IsI w (.agg #[.bool ma, ta]) ((x.den : Nat) : Int)) :
 Calls prog 23 #[.agg #[.bool na, sa, .bool ma, ta]] w (Ai w (OI x)) := by
 have E := Env.start w
 replace E := (E.i hna).i hda
 go_enter func23, ntmps23
 refine yG ?_
 refine EF O (CM (cs := [.bool na, sa, .bool ma, ta]) O O ?_)
 intro l G h B t p
 have H : w.heap.size <= l := by rw [h]; exact E.2.2.1.size
 replace E := E.below t
 replace E := E.x p
 by_cases e : x = 0
 . refine yG ?_
   refine EF O (CB ER O (NA _ _ _ _ x _ E.2.2.1 E.2.1) O E ?_)
   intro F J E
   refine yG ?_
   refine V O O (EK (c := true) O O O (Bt e)) ?_
   refine yG ?_
   exact ⟨_, rfl, (by rw [Rj e]; exact IsR.nil _ _ _), e3 E⟩
 refine yG ?_
 refine EF O (CB ER O (NA _ _ _ _ x _ E.2.2.1 E.2.1) O E ?_)
 intro D I E
 refine yG ?_
 refine V O O (EK (c := false) O O O (tK e)) ?_
 refine yG ?_
 refine V (v := .agg (EW na sa ma ta zeroM).toArray) O O (aB O O) ?_
 refine yG ?_
 refine EF O (DW (cs := (EW na sa ma ta zeroM)) underlying28 FQ (CF CK) AE AE O O ?_)
 intro u C f y q o
 have k : l < u := by rw [f]; exact Bx.lt E.1
 replace E := E.below q
 replace E := E.x o
 refine yG ?_
 exact ⟨_, rfl, (by rw [Rk e]; exact (iM E.1 ⟨by omega, Bx.lt E.1⟩ ⟨_, _, _, _, rfl, e3 E, E.2.2.1, CK⟩)), e4 E⟩
theorem pU (na : Bool) (sa : Value) (ma : Bool) (ta : Value) (x : Rat) (m : List Nat) (vp : Value) (p : List Tm) (w : World) (hna : IsI w (.agg #[.bool na, sa]) x.num) (hda : IsI w (.agg #[.bool ma, ta]) ((x.den : Nat) : Int)) (hm : FC m) (hRp : IsR JQ (DL w.heap.size) w vp p) (Fx : FitQ x 1000000) (hF : ∀ t ∈ p, FitQ t.1 1000000) (hS : ∀ t ∈ p, pO m t.2) (hL : p.length <= 1000000) :
 Calls prog 21 #[.agg #[.bool na, sa, .bool ma, ta], .agg (IQ m).toArray, vp] w (E5 w (MQ x m p) 0) := by
 have E := Env.start w
 replace E := (E.i hna).i hda
 obtain ⟨L, y, rfl, b8, b7⟩ := hRp.shp
 replace E := E.r hRp (DZ _)
 go_enter func21, ntmps21
 refine yG ?_
 refine EF O (CM (cs := [.bool na, sa, .bool ma, ta]) O O ?_)
 intro b1 w1 ak z1 d1 x1
 have l1 : w.heap.size <= b1 := by rw [ak]; exact (e3 E).size
 replace E := E.below d1
 replace E := E.x x1
 refine yG ?_
 refine EF O (CM (cs := IQ m) O O ?_)
 intro b2 w2 aj z2 d2 x2
 have ap : b1 < b2 := by rw [aj]; exact Bx.lt E.1
 replace E := E.below d2
 replace E := E.x x2
 refine yG ?_
 refine EF O (OG ZA O ?_)
 intro J w3 ai z3 d3 x3
 have ao : b2 < J := by rw [ai]; exact Bx.lt E.1
 replace E := E.below d3
 replace E := E.x x3
 have x4 := E.1
 refine yG ?_
 replace E := YE E
 replace E := (E.sz (Nat.le_of_lt (Bx.lt x4))).a (Acc.lit0 (e := JQ) (S := WW) x4 (Nat.le_refl _) jY) (RO _)
 by_cases G : x = 0
 . refine yG ?_
   refine EF O (CB ER O (NA _ _ _ _ x _ (e6 E) (e5 E)) O E ?_)
   intro w5 d5 E
   refine yG ?_
   refine V O O (EK (c := true) O O O (Bt G)) ?_
   refine yG ?_
   exact ⟨_, rfl, ⟨_, rfl, (by rw [wH G]; exact IsR.nil _ _ _)⟩, e7 E⟩
 refine yG ?_
 refine EF O (CB ER O (NA _ _ _ _ x _ (e6 E) (e5 E)) O E ?_)
 intro w6 d6 E
 refine yG ?_
 refine V O O (EK (c := false) O O O (tK G)) ?_
 refine yG ?_
 refine wp_loop_ghost (fun mz a w' => ∃ (i : Nat) (C : Value) (o : List Tm) (u : List Value), u = a.tmps.toList /\ a = ⟨(.agg #[.bool na, sa, .bool ma, ta] :: .agg (IQ m).toArray :: .slice L p.length y :: .pointer (some ⟨b1, 0, none⟩) :: .pointer (some ⟨b2, 0, none⟩) :: gr u 5 3 (C :: .int .i64 ↑i :: (CJ u 10) :: (CJ u 11) :: .slice (some ⟨J, 0, none⟩) 0 0 :: .agg #[.bool na, sa, .bool ma, ta] :: .int .i64 (OY x.num) :: .bool false :: gr u 16 31 [])).toArray, []⟩ /\ Env w' [fA JQ 88 J WW C o, iR J, fX b2 (67) (IQ m), fX b1 (64) ([.bool na, sa, .bool ma, ta]), fR JQ (DL w.heap.size) (.slice L p.length y) p, fI (.agg #[.bool ma, ta]) ((x.den : Nat) : Int), fI (.agg #[.bool na, sa]) x.num, fW w] /\ mz = p.length - i /\ (i <= p.length /\ o = MQ x m (p.take i))) (p.length) ⟨0, (.slice (some ⟨J, 0, none⟩) 0 0), [], _, O, O, zE, O, ⟨Nat.zero_le _, (by unfold MQ; simp)⟩⟩ ?_
 rintro m7 _ w7 ⟨i, C, o, u, -, rfl, E, ae, a4⟩
 dsimp only [gr, Nat.reduceAdd]
 obtain ⟨a4, hJ⟩ := a4
 by_cases hi : i < p.length
 case neg =>
  refine yG ?_
  exact ⟨_, rfl, ⟨_, rfl, (by rw [(show MQ x m p = o by rw [hJ, List.take_of_length_le AA])]; exact qB E.1.1 AA)⟩, e7 E⟩
 obtain ⟨⟨c8, B⟩, k⟩ : ∃ x, p[i]? = some x := ⟨_, List.getElem?_eq_getElem hi⟩
 obtain ⟨D, R, _, a1, a2, ah, ⟨n8, s8, m8, u8, rfl, ad, ag, a3⟩⟩ := IsR.at (e4 E).1 k
 have af : D < _ := (e4 E).2 _ a2
 replace E := ((E.c ah af).i ad).i ag
 have b9 : D < w.heap.size := a2
 have Y := hF _ (List.mem_of_getElem? k)
 have q := hS _ (List.mem_of_getElem? k)
 have a0 : o.length <= 1000000 := by rw [hJ]; have := nA x m (p.take i); rw [List.length_take] at this; omega
 have H : ∀ g, (C : Value).ownBlock = some g -> g < w7.heap.size := fun g hg => ((e3 E).1.lt hg).2
 have a8 : b2 < w7.heap.size := Bx.lt (e5 E)
 have a7 : b1 < w7.heap.size := Bx.lt (e6 E)
 refine yG ?_
 refine QT E [.op 0, .op 1, .op 2, .op 3, .op 4, .op 5, .av 10, .op 6, .op 7, .op 8, .op 9, .op 10] 2 (#[true, true, true, true, true, true, true, true, true, true, true, false, false]) Z Z Z Z AF AF ?_
 refine FP (v := .agg (IQ m).toArray) O O O O O (fun w hS => CU ST O O (e5 hS) (DG hm)) ?_
 refine FP (v := .slice L p.length y) O O O O O (fun w hS => GP O O) ?_
 refine FP (v := .int .i64 ↑i) O O O O O (fun w hS => GP O O) ?_
 refine FP (v := .pointer (some ⟨D, R + i * 12, none⟩)) O O O O O (fun w hS => SY (i := i) O underlying28 Z O a1 O O (List.getElem?_eq_some_iff.1 k).1) ?_
 refine yG ?_
 refine FP (v := .pointer (some ⟨D, R + i * 12 + 4, none⟩)) O O O O O (fun w hS => QV O O O) ?_
 refine FP (v := .agg (IQ B).toArray) O O O O O (fun w hS => CE ST O O (Cs.sub ((hS.2.2.1).1) 4 (EH _ _ _ _ _)) (DG a3)) ?_
 refine FA _ (RunF.alloc ST O O O) ?_
 refine yG ?_
 refine FE O O O O ?_
 intro b0 E
 refine CC qK O (Xj m B _ hm a3 q) O E ?_
 intro b4 am E
 refine kF am E O ?_
 refine FP (v := .tuple #[.agg (IQ (QO m B 8)).toArray, .int .i64 0]) O O O O O (fun w hS => GP O O) ?_
 refine FP (v := .agg (IQ (QO m B 8)).toArray) O O O O O (fun w hS => PF (vs := [.agg (IQ (QO m B 8)).toArray, .int .i64 0]) O O O) ?_
 refine FP (v := .int .i64 0) O O O O O (fun w hS => PF (vs := [.agg (IQ (QO m B 8)).toArray, .int .i64 0]) O O O) ?_
 refine yG ?_
 refine FF O O ?_
 intro a6 ba b5
 have b6 : w.heap.size <= a6 := by omega
 have T : (C : Value).ownBlock ≠ some a6 := fun h => by have := H _ h; omega
 refine yG ?_
 intro az E
 refine H1 (i := 11) Z ?_
 have N := E.1
 replace E := YE E
 refine HE (o := ⟨none, _, _, _, _, _⟩) O O (BY ST O O O N (by first | rfl | exact DG Fu) (DG (SZ q 8)) (Fz _) ?_)
 intro ay ac a9
 replace E := (E.onl (N.noW (uD (m := [0, 0, 0, 0, 0, 0, 0, 0]))) zK ac).x a9
 refine ⟨E.2, ?_⟩
 refine yG ?_
 refine HP (i := 12) (o := ⟨some 11, _, _, _, _, _⟩) (v := .int .i64 0) O Z (fun _ _ _ h => h) O (fun w hS => KX O O) (E.2) ?_
 refine yG ?_
 refine HN Z ?_
 have f := e4 E
 refine yG ?_
 replace E := jI E
 refine sE E [0,1,2,3,4,5,6,8,7,9,10,11,12] ?_
 replace E := E.drew
 replace f := (fA JQ 88 J WW C o).below f ((Below.refl _ _).drew)
 refine yG ?_
 refine lD O O O a1 O (List.getElem?_eq_some_iff.1 k).1 ?_
 refine yG ?_
 refine SW O O O O O (fun w hS => CE EY O O (Cs.sub ((e3 hS).1) 0 (EQ _ _ _ _ _)) O) ?_
 refine SW O O O O O (fun w hS => CU ST O O (hS.1) (DG (SZ q 8))) ?_
 refine yG ?_
 refine GG (o := ⟨some 41, _, _, _, _, _⟩) O O O O (CV qL O (E6 _ _ _ _ x _ _ _ _ c8 _ (e9 E) (e8 E) E.2.2.1 E.2.1 (FitQ.mono Fx AE) (FitQ.mono Y AE)) O E ?_)
 intro ax U Q X P al E
 replace f := (fA JQ 88 J WW C o).below f al
 refine ⟨E.2.2, ?_⟩
 refine yG ?_
 refine SW (v := .agg (EW U Q X P (QO m B 8)).toArray) O O O O O (fun w hS => nM O O O (SZ q 8)) ?_
 refine yG ?_
 refine GG (o := ⟨some 44, _, _, _, _, _⟩) O O O O (DW (cs := (EW U Q X P (QO m B 8))) underlying28 FQ (CF (SZ q 8)) AE AE O O ?_)
 intro an aw aq ar a5 aa
 have F : (C : Value).ownBlock ≠ some an := fun h => by have := (Acc.lt f.1 h).2; omega
 replace E := E.below a5
 replace f := (fA JQ 88 J WW C o).below f a5
 replace E := E.x aa
 refine ⟨E.2.2.2, ?_⟩
 have I := f
 refine yG ?_
 refine GG (o := ⟨some 45, _, _, _, _, _⟩) O O O O (EL (x := ((x * c8), (QO m B 8))) ZA O (l := o) O I.1 I.2 E (fun g hg h1 h2 => ⟨GO (fun e => F (e ▸ hg)), BX, BX, GO (fun e => T (e ▸ hg)), BX, BX, TJ AA, BX, GO AA, GO AA, FV (CY AA), BX, BX, OP AA, BX⟩) O E.1 (⟨_, _, _, _, O, E.2.2.1, E.2.1, (SZ q 8)⟩) (by have := a0; unfold maxLen; omega) (by have := a0; omega) (CS (e7 E)) ?_)
 intro ab au E
 refine ⟨E.2.2.2.2, ?_⟩
 refine yG ?_
 exact ⟨_, (by rw [ae]; omega), (i + 1), ab, o ++ [((x * c8), (QO m B 8))], _, O, O, zE, O, ⟨by omega, by rw [wI G k, <- hJ]⟩⟩
theorem Xk {v : Value} {p : List Tm} (h : IsR JQ S w v p) : ∀ t ∈ p, FC t.2 := by
 obtain ⟨q, o, rfl, _, _, l⟩ := h
 intro t e
 obtain ⟨i, f⟩ := List.getElem?_of_mem e
 obtain ⟨_, _, _, _, _, _, n, s, m, u, _, _, _, k⟩ := l i t f
 exact k
theorem Sh (na : Bool) (sa : Value) (ma : Bool) (ta : Value) (x : Rat) (vp : Value) (p : List Tm) (w : World) (hna : IsI w (.agg #[.bool na, sa]) x.num) (hda : IsI w (.agg #[.bool ma, ta]) ((x.den : Nat) : Int)) (hRp : IsR JQ (DL w.heap.size) w vp p) (Fx : FitQ x 1000000) (hF : ∀ t ∈ p, FitQ t.1 1000000) (hL : p.length <= 1000000) :
 Calls prog 35 #[.agg #[.bool na, sa, .bool ma, ta], vp] w (Ai w (nH x p)) := by
 have E := Env.start w
 replace E := (E.i hna).i hda
 obtain ⟨I, u, rfl, F, D⟩ := hRp.shp
 replace E := E.r hRp (DZ _)
 go_enter func35, ntmps35
 have h : ∀ t ∈ p, pO zeroM t.2 := fun t C => wN (Xk E.1.1 t C)
 refine yG ?_
 refine EF O (CM (cs := [.bool na, sa, .bool ma, ta]) O O ?_)
 intro Q l G J H v
 replace E := E.below H
 replace E := E.x v
 have o : w.heap.size <= l.heap.size := (e4 E).size
 refine yG ?_
 refine EF O (DE TF O (pU _ _ _ _ x zeroM _ p _ (e3 E) E.2.2.1 CK (BW E.2.1) (FitQ.mono Fx AE) hF h hL) O E ?_)
 intro k L P f E
 replace E := E.sz (Nat.le_refl k.heap.size)
 obtain ⟨N, rfl, f⟩ := f
 obtain ⟨B, y, rfl, q, _⟩ := f.shp
 replace E := E.r (e := JQ) (S := EM l.heap.size k.heap.size) f (fun _ g => g.2)
 refine yG ?_
 exact ⟨_, rfl, (by rw [show nH x p = MQ x zeroM p from rfl]; exact vY E.1 AA), e6 E⟩
theorem mQ (vp : Value) (p : List Tm) (vq : Value) (q : List Tm) (w : World) (hRp : IsR JQ (DL w.heap.size) w vp p) (hRq : IsR JQ (DL w.heap.size) w vq q) (hFp : ∀ t ∈ p, FitQ t.1 1000000) (hFq : ∀ t ∈ q, FitQ t.1 1000000) (hLp : p.length <= 1000000) (hLq : q.length <= 1000000) :
 Calls prog 24 #[vp, vq] w (Ai w (PB p q)) := by
 have E := Env.start w
 obtain ⟨a8, Q, rfl, dg, db⟩ := hRp.shp
 replace E := E.r hRp (DZ _)
 obtain ⟨a7, P, rfl, de, da⟩ := hRq.shp
 replace E := E.r hRq (DZ _)
 go_enter func24, ntmps24
 refine yG ?_
 refine EF O (OG ZA O ?_)
 intro b1 w1 bt z1 d1 x1
 have l1 : w.heap.size <= b1 := by rw [bt]; exact E.2.2.1.size
 replace E := E.below d1
 replace E := E.x x1
 have x2 := E.1
 refine yG ?_
 replace E := YE E
 replace E := (E.sz (Nat.le_of_lt (Bx.lt x2))).a (Acc.lit0 (e := JQ) (S := WW) x2 (Nat.le_refl _) jY) (RO _)
 refine yG ?_
 refine wp_loop_ghost (fun mz a w' => ∃ (i : Nat) (k : Nat) (N : Value) (o : List Tm) (a6 : List Value), a6 = a.tmps.toList /\ a = ⟨(.slice a8 p.length Q :: .slice a7 q.length P :: undef :: undef :: .slice none 0 0 :: N :: .int .i64 ↑i :: .int .i64 ↑k :: (CJ a6 8) :: .slice (some ⟨b1, 0, none⟩) 0 0 :: gr a6 10 99 []).toArray, []⟩ /\ Env w' [fA JQ 88 b1 WW N o, iR b1, fR JQ (DL w.heap.size) (.slice a7 q.length P) q, fR JQ (DL w.heap.size) (.slice a8 p.length Q) p, fW w] /\ mz = (p.length + q.length - (i + k)) /\ (i <= p.length /\ k <= q.length /\ QF p q i k o)) ((p.length + q.length)) ⟨0, 0, (.slice (some ⟨b1, 0, none⟩) 0 0), [], _, O, O, zE, O, ⟨Nat.zero_le _, Nat.zero_le _, Ds p q⟩⟩ ?_
 rintro m3 _ w3 ⟨i, k, N, o, a6, -, rfl, E, T, br⟩
 dsimp only [gr, Nat.reduceAdd]
 obtain ⟨dd, dc, hJ⟩ := br
 have d6 := Lg hJ
 have G : o.length <= 2000000 := by omega
 by_cases hi : i < p.length
 case neg =>
  by_cases hk : k < q.length
  case neg =>
   refine yG ?_
   exact ⟨_, rfl, (by rw [Lh hJ hi hk]; exact qB E.1.1 AA), e4 E⟩
  obtain ⟨⟨U, L⟩, y⟩ : ∃ x, q[k]? = some x := ⟨_, List.getElem?_eq_getElem hk⟩
  obtain ⟨I, X, _, D, Y, al, ⟨nK, sK, mK, uK, rfl, af, ak, B⟩⟩ := IsR.at E.2.2.1.1 y
  have ah : I < _ := E.2.2.1.2 _ Y
  replace E := ((E.c al ah).i af).i ak
  have bq : I < w.heap.size := Y
  have aj := hFq _ (List.mem_of_getElem? y)
  refine yG ?_
  refine sE E [0,1,2,3,4,5,6,7,8,9,10,11,12,13,14,15,16,17,18,19,20,21,22,23] ?_
  replace E := E.drew
  refine yG ?_
  refine sE E [0,1,2,3,4,5,6,7,8,9,10,11,12,13,14,15,16,17] ?_
  replace E := E.drew
  refine yG ?_
  refine Lv O O D O (List.getElem?_eq_some_iff.1 y).1 ?_
  refine yG ?_
  refine V O O (CE FQ O O (E.2.2.1.1) (CF B)) ?_
  refine yG ?_
  refine EF O (DW (cs := (EW nK sK mK uK L)) underlying28 FQ (CF B) AE AE O O ?_)
  intro c0 cb c4 c7 bu bb
  have a4 : (N : Value).ownBlock ≠ some c0 := fun h => by have := (Acc.lt (e3 E).1 h).2; omega
  replace E := E.below bu
  replace E := E.x bb
  have a9 := e4 E
  refine yG ?_
  replace E := jI E
  refine EF O (EL (x := (U, L)) ZA O (l := o) O a9.1 a9.2 E (fun g hg h1 h2 => ⟨GO (fun e => a4 (e ▸ hg)), BX, BX, TJ AA, BX, FV (CY AA), FV (CY AA), OP AA, BX⟩) O E.1 (⟨_, _, _, _, O, E.2.2.1, E.2.1, B⟩) YAh Ykp (CS (e4 E)) ?_)
  intro bg ca E
  refine yG ?_
  exact ⟨_, Ydw, i, (k + 1), bg, o ++ [(U, L)], _, O, O, zE, O, ⟨by omega, by omega, Hm hJ y (.inl hi)⟩⟩
 obtain ⟨⟨cI, J⟩, C⟩ : ∃ x, p[i]? = some x := ⟨_, List.getElem?_eq_getElem hi⟩
 obtain ⟨R, a2, _, F, az, bp, ⟨nI, sI, mI, uI, rfl, bm, bo, u⟩⟩ := IsR.at (e3 E).1 C
 have bn : R < _ := (e3 E).2 _ az
 replace E := ((E.c bp bn).i bm).i bo
 have dh : R < w.heap.size := az
 have ay := hFp _ (List.mem_of_getElem? C)
 by_cases hk : k < q.length
 case neg =>
  refine yG ?_
  refine sE E [0,1,2,3,4,5,6,7,8,9,10,11,12,13,14,15,16,17,18,19,20,21,22,23] ?_
  replace E := E.drew
  refine yG ?_
  refine Lv O O F O (List.getElem?_eq_some_iff.1 C).1 ?_
  refine yG ?_
  refine V O O (CE FQ O O (E.2.2.1.1) (CF u)) ?_
  refine yG ?_
  refine EF O (DW (cs := (EW nI sI mI uI J)) underlying28 FQ (CF u) AE AE O O ?_)
  intro c1 cd c5 c8 bv bc
  have a5 : (N : Value).ownBlock ≠ some c1 := fun h => by have := (Acc.lt (e3 E).1 h).2; omega
  replace E := E.below bv
  replace E := E.x bc
  have aa := e4 E
  refine yG ?_
  replace E := jI E
  refine EF O (EL (x := (cI, J)) ZA O (l := o) O aa.1 aa.2 E (fun g hg h1 h2 => ⟨GO (fun e => a5 (e ▸ hg)), BX, BX, TJ AA, BX, FV (CY AA), FV (CY AA), OP AA, BX⟩) O E.1 (⟨_, _, _, _, O, E.2.2.1, E.2.1, u⟩) YAh Ykp (CS (e4 E)) ?_)
  intro bh cc E
  refine yG ?_
  exact ⟨_, Ydw, (i + 1), k, bh, o ++ [(cI, J)], _, O, O, zE, O, ⟨by omega, by omega, Hn hJ C (.inl hk)⟩⟩
 obtain ⟨⟨U, L⟩, y⟩ : ∃ x, q[k]? = some x := ⟨_, List.getElem?_eq_getElem hk⟩
 obtain ⟨I, X, _, D, Y, al, ⟨nK, sK, mK, uK, rfl, af, ak, B⟩⟩ := IsR.at (e5 E).1 y
 have ah : I < _ := (e5 E).2 _ Y
 replace E := ((E.c al ah).i af).i ak
 have bq : I < w.heap.size := Y
 have aj := hFq _ (List.mem_of_getElem? y)
 by_cases ai : 0 < FR J L
 case pos =>
  refine yG ?_
  refine sE E [0,1,2,3,4,5,6,7,8,9,10,11,12,13,14,15,16,17,18,19,20,21,22,23] ?_
  replace E := E.drew
  refine yG ?_
  refine lD O O O F O (List.getElem?_eq_some_iff.1 C).1 ?_
  refine yG ?_
  refine SW O O O Z O (fun w f => CE ST O O (Cs.sub ((e5 f).1) 4 (EH _ _ _ _ _)) (DG u)) ?_
  refine yG ?_
  refine lD O O O D O (List.getElem?_eq_some_iff.1 y).1 ?_
  refine yG ?_
  refine SW O O O Z O (fun w f => CE ST O O (Cs.sub ((f.2.2.1).1) 4 (EH _ _ _ _ _)) (DG B)) ?_
  refine yG ?_
  refine GG (o := ⟨some 40, _, _, _, _, _⟩) O O O O (CB IM O (TU J L _ u B) O E ?_)
  intro w4 d4 E
  refine ⟨E, ?_⟩
  refine yG ?_
  refine Lv O O F O (List.getElem?_eq_some_iff.1 C).1 ?_
  refine yG ?_
  refine V O O (CE FQ O O ((e5 E).1) (CF u)) ?_
  refine yG ?_
  refine EF O (DW (cs := (EW nI sI mI uI J)) underlying28 FQ (CF u) AE AE O O ?_)
  intro b5 w5 dl z5 d5 x5
  have ae : (N : Value).ownBlock ≠ some b5 := fun h => by have := (Acc.lt (e6 E).1 h).2; omega
  replace E := E.below d5
  replace E := E.x x5
  have b0 := e7 E
  refine yG ?_
  replace E := dl7 E
  refine EF O (EL (x := (cI, J)) ZA O (l := o) O b0.1 b0.2 E (fun g hg h1 h2 => ⟨GO (fun e => ae (e ▸ hg)), BX, BX, TJ AA, BX, BX, TJ AA, BX, FV (CY AA), FV (CY AA), OP AA, BX⟩) O E.1 (⟨_, _, _, _, O, e5 E, e4 E, u⟩) YAh Ykp (CS (e7 E)) ?_)
  intro v6 w6 E
  refine yG ?_
  exact ⟨_, Ydw, (i + 1), k, v6, o ++ [(cI, J)], _, O, O, zE, O, ⟨by omega, by omega, Hn hJ C (.inr ⟨_, y, ai⟩)⟩⟩
 by_cases ag : FR J L < 0
 case pos =>
  refine yG ?_
  refine sE E [0,1,2,3,4,5,6,7,8,9,10,11,12,13,14,15,16,17,18,19,20,21,22,23] ?_
  replace E := E.drew
  refine yG ?_
  refine lD O O O F O (List.getElem?_eq_some_iff.1 C).1 ?_
  refine yG ?_
  refine SW O O O Z O (fun w f => CE ST O O (Cs.sub ((e5 f).1) 4 (EH _ _ _ _ _)) (DG u)) ?_
  refine yG ?_
  refine lD O O O D O (List.getElem?_eq_some_iff.1 y).1 ?_
  refine yG ?_
  refine SW O O O Z O (fun w f => CE ST O O (Cs.sub ((f.2.2.1).1) 4 (EH _ _ _ _ _)) (DG B)) ?_
  refine yG ?_
  refine GG (o := ⟨some 40, _, _, _, _, _⟩) O O O O (CB IM O (TU J L _ u B) O E ?_)
  intro w7 d7 E
  refine ⟨E, ?_⟩
  refine yG ?_
  refine sE E [0,1,2,3,4,5,6,7,8,9,10,11,12,13,14,15,16,17] ?_
  replace E := E.drew
  refine yG ?_
  refine lD O O O F O (List.getElem?_eq_some_iff.1 C).1 ?_
  refine yG ?_
  refine SW O O O Z O (fun w f => CE ST O O (Cs.sub ((e5 f).1) 4 (EH _ _ _ _ _)) (DG u)) ?_
  refine yG ?_
  refine lD O O O D O (List.getElem?_eq_some_iff.1 y).1 ?_
  refine yG ?_
  refine SW O O O Z O (fun w f => CE ST O O (Cs.sub ((f.2.2.1).1) 4 (EH _ _ _ _ _)) (DG B)) ?_
  refine yG ?_
  refine GG (o := ⟨some 68, _, _, _, _, _⟩) O O O O (CB IM O (TU J L _ u B) O E ?_)
  intro w8 d8 E
  refine ⟨E, ?_⟩
  refine yG ?_
  refine Lv O O D O (List.getElem?_eq_some_iff.1 y).1 ?_
  refine yG ?_
  refine V O O (CE FQ O O (E.2.2.1.1) (CF B)) ?_
  refine yG ?_
  refine EF O (DW (cs := (EW nK sK mK uK L)) underlying28 FQ (CF B) AE AE O O ?_)
  intro b9 w9 dk z9 d9 x9
  have ad : (N : Value).ownBlock ≠ some b9 := fun h => by have := (Acc.lt (e6 E).1 h).2; omega
  replace E := E.below d9
  replace E := E.x x9
  have ac := e7 E
  refine yG ?_
  replace E := dl7 E
  refine EF O (EL (x := (U, L)) ZA O (l := o) O ac.1 ac.2 E (fun g hg h1 h2 => ⟨GO (fun e => ad (e ▸ hg)), BX, BX, TJ AA, BX, BX, TJ AA, BX, FV (CY AA), FV (CY AA), OP AA, BX⟩) O E.1 (⟨_, _, _, _, O, E.2.2.1, E.2.1, B⟩) YAh Ykp (CS (e7 E)) ?_)
  intro bj cu E
  refine yG ?_
  exact ⟨_, Ydw, i, (k + 1), bj, o ++ [(U, L)], _, O, O, zE, O, ⟨by omega, by omega, Hm hJ y (.inr ⟨_, C, ag⟩)⟩⟩
 by_cases hz : cI + U = 0
 case pos =>
  refine yG ?_
  refine sE E [0,1,2,3,4,5,6,7,8,9,10,11,12,13,14,15,16,17,18,19,20,21,22,23] ?_
  replace E := E.drew
  refine yG ?_
  refine lD O O O F O (List.getElem?_eq_some_iff.1 C).1 ?_
  refine yG ?_
  refine SW O O O Z O (fun w f => CE ST O O (Cs.sub ((e5 f).1) 4 (EH _ _ _ _ _)) (DG u)) ?_
  refine yG ?_
  refine lD O O O D O (List.getElem?_eq_some_iff.1 y).1 ?_
  refine yG ?_
  refine SW O O O Z O (fun w f => CE ST O O (Cs.sub ((f.2.2.1).1) 4 (EH _ _ _ _ _)) (DG B)) ?_
  refine yG ?_
  refine GG (o := ⟨some 40, _, _, _, _, _⟩) O O O O (CB IM O (TU J L _ u B) O E ?_)
  intro ct ds E
  refine ⟨E, ?_⟩
  refine yG ?_
  refine sE E [0,1,2,3,4,5,6,7,8,9,10,11,12,13,14,15,16,17] ?_
  replace E := E.drew
  refine yG ?_
  refine lD O O O F O (List.getElem?_eq_some_iff.1 C).1 ?_
  refine yG ?_
  refine SW O O O Z O (fun w f => CE ST O O (Cs.sub ((e5 f).1) 4 (EH _ _ _ _ _)) (DG u)) ?_
  refine yG ?_
  refine lD O O O D O (List.getElem?_eq_some_iff.1 y).1 ?_
  refine yG ?_
  refine SW O O O Z O (fun w f => CE ST O O (Cs.sub ((f.2.2.1).1) 4 (EH _ _ _ _ _)) (DG B)) ?_
  refine yG ?_
  refine GG (o := ⟨some 68, _, _, _, _, _⟩) O O O O (CB IM O (TU J L _ u B) O E ?_)
  intro ap dr E
  refine ⟨E, ?_⟩
  have a1 : ∀ g, (N : Value).ownBlock = some g -> g < ap.heap.size := fun g hg => ((e6 E).1.lt hg).2
  have b7 : w.heap.size <= ap.heap.size := (RD E).size
  refine yG ?_
  refine QT E [.op 0, .op 1, .op 2, .op 3, .op 4, .op 5, .op 6, .op 7, .op 8, .op 9, .av 11, .op 10, .op 11] 1 (#[true, true, true, true, true, true, true, true, true, true, true, true, false]) Z Z Z Z AF AF ?_
  refine FP (v := .slice a8 p.length Q) O O O O O (fun w f => GP O O) ?_
  refine FP (v := .int .i64 ↑i) O O O O O (fun w f => GP O O) ?_
  refine FP (v := .pointer (some ⟨R, a2 + i * 12, none⟩)) O O O O O (fun w f => SY (i := i) O underlying28 Z O F O O (List.getElem?_eq_some_iff.1 C).1) ?_
  refine FP (v := .pointer (some ⟨R, a2 + i * 12, none⟩)) O O O O O (fun w f => JH O O O) ?_
  refine yG ?_
  refine FP (v := .agg #[.bool nI, sI, .bool mI, uI]) O O O O O (fun w f => CE EY O O (Cs.sub ((e5 f).1) 0 (EQ _ _ _ _ _)) O) ?_
  refine FP (v := .slice a7 q.length P) O O O O O (fun w f => GP O O) ?_
  refine FP (v := .int .i64 ↑k) O O O O O (fun w f => GP O O) ?_
  refine FP (v := .pointer (some ⟨I, X + k * 12, none⟩)) O O O O O (fun w f => SY (i := k) O underlying28 Z O D O O (List.getElem?_eq_some_iff.1 y).1) ?_
  refine yG ?_
  refine FP (v := .pointer (some ⟨I, X + k * 12, none⟩)) O O O O O (fun w f => JH O O O) ?_
  refine FP (v := .agg #[.bool nK, sK, .bool mK, uK]) O O O O O (fun w f => CE EY O O (Cs.sub ((f.2.2.1).1) 0 (EQ _ _ _ _ _)) O) ?_
  refine FA _ (RunF.alloc EY O O O) ?_
  refine yG ?_
  refine FE O O O O ?_
  intro cq E
  refine CV cR O (Sk _ _ _ _ cI _ _ _ _ U _ (e4 E) (e3 E) E.2.1 E.1 (FitQ.mono ay AE) (FitQ.mono aj AE)) O E ?_
  intro cr cz cy d0 cx bx E
  refine kF bx E O ?_
  refine yG ?_
  refine FF O O ?_
  intro b4 dj cw
  have d3 : w.heap.size <= b4 := by omega
  have c3 : (N : Value).ownBlock ≠ some b4 := fun h => by have := a1 _ h; omega
  refine yG ?_
  intro cp E
  refine H1 (i := 12) Z ?_
  have an := E.1
  replace E := YE E
  refine HE (o := ⟨none, _, _, _, _, _⟩) O O (BY EY O O O an O O (IF (IsI.one E.2.1) (IsI.one E.1)) ?_)
  intro co bl ba
  replace E := oY E an bl ba
  refine ⟨E.2.2.2, ?_⟩
  refine yG ?_
  refine HN Z ?_
  refine yG ?_
  refine EF O (CB ER O (NA _ _ _ _ (cI + U) _ E.2.2.1 E.2.1) O E ?_)
  intro cn dq E
  refine yG ?_
  refine V O O (RH (c := false) O O O (by rw [bne_eq_false_iff_eq, <- beq_iff_eq]; exact Bt hz)) ?_
  refine yG ?_
  exact ⟨_, Ydw, (i + 1), (k + 1), N, o, _, O, O, zE, O, ⟨by omega, by omega, Wx hJ C y ai ag hz⟩⟩
 refine yG ?_
 refine sE E [0,1,2,3,4,5,6,7,8,9,10,11,12,13,14,15,16,17,18,19,20,21,22,23] ?_
 replace E := E.drew
 refine yG ?_
 refine lD O O O F O (List.getElem?_eq_some_iff.1 C).1 ?_
 refine yG ?_
 refine SW O O O Z O (fun w f => CE ST O O (Cs.sub ((e5 f).1) 4 (EH _ _ _ _ _)) (DG u)) ?_
 refine yG ?_
 refine lD O O O D O (List.getElem?_eq_some_iff.1 y).1 ?_
 refine yG ?_
 refine SW O O O Z O (fun w f => CE ST O O (Cs.sub ((f.2.2.1).1) 4 (EH _ _ _ _ _)) (DG B)) ?_
 refine yG ?_
 refine GG (o := ⟨some 40, _, _, _, _, _⟩) O O O O (CB IM O (TU J L _ u B) O E ?_)
 intro cm dp E
 refine ⟨E, ?_⟩
 refine yG ?_
 refine sE E [0,1,2,3,4,5,6,7,8,9,10,11,12,13,14,15,16,17] ?_
 replace E := E.drew
 refine yG ?_
 refine lD O O O F O (List.getElem?_eq_some_iff.1 C).1 ?_
 refine yG ?_
 refine SW O O O Z O (fun w f => CE ST O O (Cs.sub ((e5 f).1) 4 (EH _ _ _ _ _)) (DG u)) ?_
 refine yG ?_
 refine lD O O O D O (List.getElem?_eq_some_iff.1 y).1 ?_
 refine yG ?_
 refine SW O O O Z O (fun w f => CE ST O O (Cs.sub ((f.2.2.1).1) 4 (EH _ _ _ _ _)) (DG B)) ?_
 refine yG ?_
 refine GG (o := ⟨some 68, _, _, _, _, _⟩) O O O O (CB IM O (TU J L _ u B) O E ?_)
 intro ao dn E
 refine ⟨E, ?_⟩
 have a0 : ∀ g, (N : Value).ownBlock = some g -> g < ao.heap.size := fun g hg => ((e6 E).1.lt hg).2
 have b6 : w.heap.size <= ao.heap.size := (RD E).size
 refine yG ?_
 refine QT E [.op 0, .op 1, .op 2, .op 3, .op 4, .op 5, .op 6, .op 7, .op 8, .op 9, .av 11, .op 10, .op 11] 1 (#[true, true, true, true, true, true, true, true, true, true, true, true, false]) Z Z Z Z AF AF ?_
 refine FP (v := .slice a8 p.length Q) O O O O O (fun w f => GP O O) ?_
 refine FP (v := .int .i64 ↑i) O O O O O (fun w f => GP O O) ?_
 refine FP (v := .pointer (some ⟨R, a2 + i * 12, none⟩)) O O O O O (fun w f => SY (i := i) O underlying28 Z O F O O (List.getElem?_eq_some_iff.1 C).1) ?_
 refine FP (v := .pointer (some ⟨R, a2 + i * 12, none⟩)) O O O O O (fun w f => JH O O O) ?_
 refine yG ?_
 refine FP (v := .agg #[.bool nI, sI, .bool mI, uI]) O O O O O (fun w f => CE EY O O (Cs.sub ((e5 f).1) 0 (EQ _ _ _ _ _)) O) ?_
 refine FP (v := .slice a7 q.length P) O O O O O (fun w f => GP O O) ?_
 refine FP (v := .int .i64 ↑k) O O O O O (fun w f => GP O O) ?_
 refine FP (v := .pointer (some ⟨I, X + k * 12, none⟩)) O O O O O (fun w f => SY (i := k) O underlying28 Z O D O O (List.getElem?_eq_some_iff.1 y).1) ?_
 refine yG ?_
 refine FP (v := .pointer (some ⟨I, X + k * 12, none⟩)) O O O O O (fun w f => JH O O O) ?_
 refine FP (v := .agg #[.bool nK, sK, .bool mK, uK]) O O O O O (fun w f => CE EY O O (Cs.sub ((f.2.2.1).1) 0 (EQ _ _ _ _ _)) O) ?_
 refine FA _ (RunF.alloc EY O O O) ?_
 refine yG ?_
 refine FE O O O O ?_
 intro cj E
 refine CV cR O (Sk _ _ _ _ cI _ _ _ _ U _ (e4 E) (e3 E) E.2.1 E.1 (FitQ.mono ay AE) (FitQ.mono aj AE)) O E ?_
 intro ck aw ar ax aq bw E
 refine kF bw E O ?_
 refine yG ?_
 refine FF O O ?_
 intro b3 di cv
 have d2 : w.heap.size <= b3 := by omega
 have au : (N : Value).ownBlock ≠ some b3 := fun h => by have := a0 _ h; omega
 refine yG ?_
 intro ci E
 refine H1 (i := 12) Z ?_
 have am := E.1
 replace E := YE E
 refine HE (o := ⟨none, _, _, _, _, _⟩) O O (BY EY O O O am O O (IF (IsI.one E.2.1) (IsI.one E.1)) ?_)
 intro ch bk b8
 replace E := oY E am bk b8
 refine ⟨E.2.2.2, ?_⟩
 refine yG ?_
 refine HN Z ?_
 refine yG ?_
 refine EF O (CB ER O (NA _ _ _ _ (cI + U) _ E.2.2.1 E.2.1) O E ?_)
 intro cg dm E
 refine yG ?_
 refine V O O (RH (c := true) O O O (by rw [bne_iff_ne, <- beq_eq_false_iff_ne]; exact tK hz)) ?_
 have H := e9 E
 refine yG ?_
 replace E := Wb E
 refine sE E [0,1,2,3,4,5,6,7,8,9,10] ?_
 replace E := E.drew
 replace H := (fA JQ 88 b1 WW N o).below H ((Below.refl _ _).drew)
 refine yG ?_
 refine lD O O O F O (List.getElem?_eq_some_iff.1 C).1 ?_
 refine yG ?_
 refine SW O O O O O (fun w f => CE ST O O (Cs.sub ((e8 f).1) 4 (EH _ _ _ _ _)) (DG u)) ?_
 refine SW (v := .agg (EW aw ar ax aq J).toArray) O O O O O (fun w f => nM O O O u) ?_
 refine yG ?_
 refine GG (o := ⟨some 102, _, _, _, _, _⟩) O O O O (DW (cs := (EW aw ar ax aq J)) underlying28 FQ (CF u) AE AE O O ?_)
 intro c2 cf c6 c9 b2 bf
 have a3 : (N : Value).ownBlock ≠ some c2 := fun h => by have := (Acc.lt H.1 h).2; omega
 replace E := E.below b2
 replace H := (fA JQ 88 b1 WW N o).below H b2
 replace E := E.x bf
 refine ⟨E.2, ?_⟩
 have ab := H
 refine yG ?_
 refine GG (o := ⟨some 103, _, _, _, _, _⟩) O O O O (EL (x := ((cI + U), J)) ZA O (l := o) O ab.1 ab.2 E (fun g hg h1 h2 => ⟨GO (fun e => a3 (e ▸ hg)), GO (fun e => au (e ▸ hg)), BX, BX, BX, BX, TJ AA, BX, BX, TJ AA, BX, FV (CY AA), FV (CY AA), OP AA, BX⟩) O E.1 (⟨_, _, _, _, O, e3 E, E.2.2.1, u⟩) YAh Ykp (CS (RD E)) ?_)
 intro bi ce E
 refine ⟨E.2.2, ?_⟩
 refine yG ?_
 exact ⟨_, Ydw, (i + 1), (k + 1), bi, o ++ [((cI + U), J)], _, O, O, zE, O, ⟨by omega, by omega, Rw hJ C y ai ag hz⟩⟩
theorem Xh (vp : Value) (p : List Tm) (vq : Value) (q : List Tm) (w : World) (hRp : IsR JQ (DL w.heap.size) w vp p) (hRq : IsR JQ (DL w.heap.size) w vq q) (hFp : ∀ t ∈ p, FitQ t.1 1000000) (hFq : ∀ t ∈ q, FitQ t.1 900000) (hLp : p.length <= 1000000) (hLq : q.length <= 1000000) :
 Calls prog 33 #[vp, vq] w (Ai w (Yo p q)) := by
 have E := Env.start w
 obtain ⟨T, C, rfl, Q, N⟩ := hRp.shp
 replace E := E.r hRp (DZ _)
 obtain ⟨R, B, rfl, P, L⟩ := hRq.shp
 replace E := E.r hRq (DZ _)
 go_enter func33, ntmps33
 refine yG ?_
 refine EF O (CV GM O (QH (-1) _ AE AE) O E ?_)
 intro D n2 s2 m2 t2 d2 E
 have U : FitQ ((-1 : Int) : Rat) 4 := MG (k := 4) AE (EU AE AE)
 refine yG ?_
 refine EF O (DE kX O (Sh _ _ _ _ ((-1 : Int) : Rat) _ q _ E.2.1 E.1 (BW E.2.2.1) (FitQ.mono U AE) (fun t J => FitQ.mono (hFq t J) AE) hLq) O E ?_)
 intro f Y d3 y E
 replace E := E.sz (Nat.le_refl f.heap.size)
 obtain ⟨I, G, rfl, u, _⟩ := y.shp
 replace E := E.r (e := JQ) (S := EM D.heap.size f.heap.size) y (fun _ g => g.2)
 have l : w.heap.size <= f.heap.size := (e6 E).size
 refine yG ?_
 refine EF O (DE RK O (mQ _ p _ (nH ((-1 : Int) : Rat) q) _ (BW (e5 E)) (BW E.1) hFp (Kg (n := 1000000) (MG (k := 4) AE (EU AE AE)) hFq AE) hLp (Nat.le_trans (nA _ _ _) hLq)) O E ?_)
 intro h X d4 v E
 replace E := E.sz (Nat.le_refl h.heap.size)
 obtain ⟨H, F, rfl, o, _⟩ := v.shp
 replace E := E.r (e := JQ) (S := EM f.heap.size h.heap.size) v (fun _ g => g.2)
 refine yG ?_
 exact ⟨_, rfl, (by rw [show Yo p q = PB p (nH ((-1 : Int) : Rat) q) from rfl]; exact vY E.1 AA), e8 E⟩
end Go.Proofs.YtmppigbbkjepiaaGreatDoor
