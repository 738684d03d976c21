/- Helping facts of Ref6; no other conditions. -/
import Derived.Test.YtmppigbbkjepiaaGreatDoorRTxt
import Derived.Test.YtmppigbbkjepiaaGreatDoorRdL
set_option maxHeartbeats 8000000
set_option maxRecDepth 100000
namespace Go.Proofs.YtmppigbbkjepiaaGreatDoor
open Go.Proofs.Tryz
open Go.RowKit W
variable {S : Nat -> Prop} {a b i k n : Nat} {c x : Rat} {m : List Nat} {p : Prop} {w : World} {α : Type}
theorem YMf (h : p := by have := F; omega) : p := h
theorem YCZ (h : p := by rw [R]; omega) : p := h
theorem Yxv (h : p := by have := F; unfold maxLen; omega) : p := h
theorem Wv (m q : List Nat) (w : World) (hm : EG m) (hq : EG q) (hs : oO m q) : Calls prog 56 #[.agg (GK m).toArray, .agg (GK q).toArray] w (FI w (.tuple #[.agg (GK (OR m q 8)).toArray, .int .i64 0])) := by
 have := Wu m q w hq hs
 rwa [Od hm] at this
theorem Au (h : x = 0) : (OP x.num == 0) = true := by subst h; rfl
theorem sH (h : ¬ x = 0) : (OP x.num == 0) = false := by
 rw [beq_eq_false_iff_ne]
 have : x.num ≠ 0 := fun g => h (Rat.num_eq_zero.1 g)
 unfold OP JC
 by_cases e : x.num < 0
 . rw [if_pos e]; decide
 rw [if_neg e, if_neg this]; decide
theorem gL {e : El α} {t : Nat} {cs : List Value} {x : α} (hb : Bx w b t cs) (hS : S b) (h : e.p S w cs x) : IsR e S w (.slice (some ⟨b, 0, none⟩) 1 1) [x] := by
 refine ⟨_, 1, O, Nat.le_refl _, by decide, fun i y f => ?_⟩
 cases i with
 | zero => simp at f; subst f; exact ⟨b, 0, cs, rfl, hS, by rw [Nat.zero_mul]; exact hb.cs, h⟩
 | succ i => simp at f
def PP (p q : List Tm) (i k : Nat) (o : List Tm) : Prop := o ++ KZ (p.drop i) (q.drop k) = KZ p q
theorem Cy (p q : List Tm) : PP p q 0 0 [] := by unfold PP; simp
theorem Kh {p q o : List Tm} (h : PP p q i k o) (hi : ¬ i < p.length) (hk : ¬ k < q.length) : KZ p q = o := by
 unfold PP at h; rw [List.drop_eq_nil_of_le AA, List.drop_eq_nil_of_le AA, fQ, List.append_nil] at h; exact h.symm
theorem QM {l : List α} {x : α} (h : l[i]? = some x) : l.drop i = x :: l.drop (i + 1) := by
 obtain ⟨f, e⟩ := List.getElem?_eq_some_iff.1 h
 rw [List.drop_eq_getElem_cons f, e]
theorem Gi {p q o : List Tm} {t : Tm} (h : PP p q i k o) (ht : p[i]? = some t) (hc : ¬ k < q.length ∨ ∃ u, q[k]? = some u /\ 0 < ES t.2 u.2) : PP p q (i + 1) k (o ++ [t]) := by
 unfold PP at *
 rw [QM ht] at h
 rcases hc with f | ⟨u, e, hc⟩
 . rw [List.drop_eq_nil_of_le (by omega : q.length <= k), fQ] at h ⊢; rw [<- h]; simp
 rw [QM e, Gm hc, <- QM e] at h; rw [<- h]; simp
theorem Gh {p q o : List Tm} {u : Tm} (h : PP p q i k o) (hu : q[k]? = some u) (hc : ¬ i < p.length ∨ ∃ t, p[i]? = some t /\ ES t.2 u.2 < 0) : PP p q i (k + 1) (o ++ [u]) := by
 unfold PP at *
 rw [QM hu] at h
 rcases hc with f | ⟨t, e, hc⟩
 . rw [List.drop_eq_nil_of_le (by omega : p.length <= i), rV] at h ⊢; rw [<- h]; simp
 rw [QM e, Gl AA hc, <- QM e] at h; rw [<- h]; simp
theorem We {p q o : List Tm} {t u : Tm} (h : PP p q i k o) (ht : p[i]? = some t) (hu : q[k]? = some u) (h1 : ¬ 0 < ES t.2 u.2) (h2 : ¬ ES t.2 u.2 < 0) (h3 : t.1 + u.1 = 0) : PP p q (i + 1) (k + 1) o := by
 unfold PP at *; rw [QM hu, QM ht, Qt h1 h2 h3] at h; exact h
theorem Qs {p q o : List Tm} {t u : Tm} (h : PP p q i k o) (ht : p[i]? = some t) (hu : q[k]? = some u) (h1 : ¬ 0 < ES t.2 u.2) (h2 : ¬ ES t.2 u.2 < 0) (h3 : ¬ t.1 + u.1 = 0) : PP p q (i + 1) (k + 1) (o ++ [(t.1 + u.1, t.2)]) := by
 unfold PP at *; rw [QM hu, QM ht, Gk h1 h2 h3] at h; rw [<- h]; simp
theorem Kg {p q o : List Tm} (h : PP p q i k o) : o.length <= p.length + q.length := by
 have e := oN p q
 unfold PP at h; rw [<- h] at e; simp at e; omega
theorem Qh (h : c = 0) : KY c = [] := by unfold KY; rw [if_pos h]
theorem Qi (h : ¬ c = 0) : KY c = [(c, zeroM)] := by unfold KY; rw [if_neg h]
theorem vO (hm : EG m) : oO zeroM m := fun i => by
 have h0 : me zeroM i = 0 := by
  by_cases h : i < 8
  . have : ∀ j, j < 8 -> me zeroM j = 0 := by decide
    exact this i h
  unfold me; rw [List.getD_eq_getElem?_getD, List.getElem?_eq_none (show zeroM.length <= i by show 8 <= i; omega)]; rfl
 rw [h0]
 by_cases h : i < 8
 . have := hm.2 (me m i) (by rw [QV (by rw [hm.1]; exact h)]; exact List.getElem_mem _); omega
 unfold me; simp [List.getD_eq_getElem?_getD, List.getElem?_eq_none (by rw [hm.1]; omega : m.length <= i)]
theorem iG {c : Rat} {m : List Nat} {p : List Tm} (hc : FitQ c a) (hp : ∀ t ∈ p, FitQ t.1 b) (hn : a + b <= n) : ∀ t ∈ JY c m p, FitQ t.1 n := by
 intro t e
 unfold JY at e
 split at e
 . cases e
 obtain ⟨u, f, rfl⟩ := List.mem_map.1 e
 exact FitQ.mono (Rp hc (hp u f)) hn
theorem Uw {p q : List Tm} (hp : ∀ t ∈ p, FitQ t.1 a) (hq : ∀ t ∈ q, FitQ t.1 b) (hn : a + b + 1 <= n) : ∀ t ∈ KZ p q, FitQ t.1 n :=
 fT (A := fun t => FitQ t.1 a) (B := fun t => FitQ t.1 b) (C := fun t => FitQ t.1 n) (fun _ h => FitQ.mono h AA) (fun _ h => FitQ.mono h AA) (fun _ _ h1 h2 _ _ => FitQ.mono (Rq h1 h2) hn) hp hq
theorem oT (na : Bool) (sa : Value) (ma : Bool) (ta : Value) (x : Rat) (w : World) (hna : IsI w (.agg #[.bool na, sa]) x.num) (hda : IsI w (.agg #[.bool ma, ta]) ((x.den : Nat) : Int)) :
 Calls prog 23 #[.agg #[.bool na, sa, .bool ma, ta]] w (yT w (KY x)) := by
 have E := Env.start w
 replace E := (E.i hna).i hda
 go_enter func23, ntmps23
 refine yG ?_
 refine EF O (CI (cs := [.bool na, sa, .bool ma, ta]) O O ?_)
 intro l F h z t p
 have G : w.heap.size <= l := by rw [h]; exact E.2.2.1.size
 replace E := E.below t
 replace E := E.x p
 by_cases e : x = 0
 . refine yG ?_
   refine EF O (CE EQ O (NE _ _ _ _ x _ E.2.2.1 E.2.1) O E ?_)
   intro D I E
   refine yG ?_
   refine V O O (EU (c := true) O O O (Au e)) ?_
   refine yG ?_
   exact ⟨_, rfl, (by rw [Qh e]; exact IsR.nil _ _ _), e3 E⟩
 refine yG ?_
 refine EF O (CE EQ O (NE _ _ _ _ x _ E.2.2.1 E.2.1) O E ?_)
 intro C H E
 refine yG ?_
 refine V O O (EU (c := false) O O O (sH e)) ?_
 refine yG ?_
 refine V (v := .agg (IJ na sa ma ta zeroM).toArray) O O (iU O O) ?_
 refine yG ?_
 refine EF O (DZ (cs := (IJ na sa ma ta zeroM)) underlying28 KL (CM DH) AE AE O O ?_)
 intro u B f y q o
 have k : l < u := by rw [f]; exact Bx.lt E.1
 replace E := E.below q
 replace E := E.x o
 refine yG ?_
 exact ⟨_, rfl, (by rw [Qi e]; exact (gL E.1 ⟨by omega, Bx.lt E.1⟩ ⟨_, _, _, _, rfl, e3 E, E.2.2.1, DH⟩)), e4 E⟩
theorem gC (na : Bool) (sa : Value) (ma : Bool) (ta : Value) (x : Rat) (m : List Nat) (vp : Value) (p : List Tm) (w : World) (hna : IsI w (.agg #[.bool na, sa]) x.num) (hda : IsI w (.agg #[.bool ma, ta]) ((x.den : Nat) : Int)) (hm : EG m) (hRp : IsR JL (CX w.heap.size) w vp p) (Fx : FitQ x 1000000) (hF : ∀ t ∈ p, FitQ t.1 1000000) (hS : ∀ t ∈ p, oO m t.2) (hL : p.length <= 1000000) :
 Calls prog 21 #[.agg #[.bool na, sa, .bool ma, ta], .agg (GK m).toArray, vp] w (C5 w (JY x m p) 0) := by
 have E := Env.start w
 replace E := (E.i hna).i hda
 obtain ⟨J, y, rfl, b8, b7⟩ := hRp.shp
 replace E := E.r hRp (DF _)
 go_enter func21, ntmps21
 refine yG ?_
 refine EF O (CI (cs := [.bool na, sa, .bool ma, ta]) O O ?_)
 intro b1 w1 ak z1 d1 x1
 have l1 : w.heap.size <= b1 := by rw [ak]; exact (e3 E).size
 replace E := E.below d1
 replace E := E.x x1
 refine yG ?_
 refine EF O (CI (cs := GK m) O O ?_)
 intro b2 w2 aj z2 d2 x2
 have ap : b1 < b2 := by rw [aj]; exact Bx.lt E.1
 replace E := E.below d2
 replace E := E.x x2
 refine yG ?_
 refine EF O (PS iN O ?_)
 intro I w3 ai z3 d3 x3
 have ao : b2 < I := by rw [ai]; exact Bx.lt E.1
 replace E := E.below d3
 replace E := E.x x3
 have x4 := E.1
 refine yG ?_
 replace E := VI E
 replace E := (E.sz (Nat.le_of_lt (Bx.lt x4))).a (Acc.lit0 (e := JL) (S := VH) x4 (Nat.le_refl _) GI) (QL _)
 by_cases F : x = 0
 . refine yG ?_
   refine EF O (CE EQ O (NE _ _ _ _ x _ (e6 E) (e5 E)) O E ?_)
   intro w5 d5 E
   refine yG ?_
   refine V O O (EU (c := true) O O O (Au F)) ?_
   refine yG ?_
   exact ⟨_, rfl, ⟨_, rfl, (by rw [XX F]; exact IsR.nil _ _ _)⟩, e7 E⟩
 refine yG ?_
 refine EF O (CE EQ O (NE _ _ _ _ x _ (e6 E) (e5 E)) O E ?_)
 intro w6 d6 E
 refine yG ?_
 refine V O O (EU (c := false) O O O (sH F)) ?_
 refine yG ?_
 refine wp_loop_ghost (fun mz a w' => ∃ (i : Nat) (B : Value) (o : List Tm) (u : List Value), u = a.tmps.toList /\ a = ⟨(.agg #[.bool na, sa, .bool ma, ta] :: .agg (GK m).toArray :: .slice J p.length y :: .pointer (some ⟨b1, 0, none⟩) :: .pointer (some ⟨b2, 0, none⟩) :: gr u 5 3 (B :: .int .i64 ↑i :: (CF u 10) :: (CF u 11) :: .slice (some ⟨I, 0, none⟩) 0 0 :: .agg #[.bool na, sa, .bool ma, ta] :: .int .i64 (OP x.num) :: .bool false :: gr u 16 31 [])).toArray, []⟩ /\ Env w' [fA JL 88 I VH B o, rO I, fX b2 (67) (GK m), fX b1 (64) ([.bool na, sa, .bool ma, ta]), fR JL (CX w.heap.size) (.slice J p.length y) p, fI (.agg #[.bool ma, ta]) ((x.den : Nat) : Int), fI (.agg #[.bool na, sa]) x.num, fW w] /\ mz = p.length - i /\ (i <= p.length /\ o = JY x m (p.take i))) (p.length) ⟨0, (.slice (some ⟨I, 0, none⟩) 0 0), [], _, O, O, zE, O, ⟨Nat.zero_le _, (by unfold JY; simp)⟩⟩ ?_
 rintro m7 _ w7 ⟨i, B, o, u, -, rfl, E, ae, a3⟩
 dsimp only [gr, Nat.reduceAdd]
 obtain ⟨a3, hJ⟩ := a3
 by_cases hi : i < p.length
 case neg =>
  refine yG ?_
  exact ⟨_, rfl, ⟨_, rfl, (by rw [(show JY x m p = o by rw [hJ, List.take_of_length_le AA])]; exact oW E.1.1 AA)⟩, e7 E⟩
 obtain ⟨⟨c8, z⟩, k⟩ : ∃ x, p[i]? = some x := ⟨_, List.getElem?_eq_getElem hi⟩
 obtain ⟨C, Q, _, a0, a1, ah, ⟨n8, s8, m8, u8, rfl, ad, ag, a2⟩⟩ := IsR.at (e4 E).1 k
 have af : C < _ := (e4 E).2 _ a1
 replace E := ((E.c ah af).i ad).i ag
 have b9 : C < w.heap.size := a1
 have X := hF _ (List.mem_of_getElem? k)
 have q := hS _ (List.mem_of_getElem? k)
 have Y : o.length <= 1000000 := by rw [hJ]; have := VR x m (p.take i); rw [List.length_take] at this; omega
 have G : ∀ g, (B : Value).ownBlock = some g -> g < w7.heap.size := fun g hg => ((e3 E).1.lt hg).2
 have a8 : b2 < w7.heap.size := Bx.lt (e5 E)
 have a7 : b1 < w7.heap.size := Bx.lt (e6 E)
 refine yG ?_
 refine MV E [.op 0, .op 1, .op 2, .op 3, .op 4, .op 5, .av 10, .op 6, .op 7, .op 8, .op 9, .op 10] 2 (#[true, true, true, true, true, true, true, true, true, true, true, false, false]) Z Z Z Z AF AF ?_
 refine FP (v := .agg (GK m).toArray) O O O O O (fun w hS => CY QN O O (e5 hS) (DC hm)) ?_
 refine FP (v := .slice J p.length y) O O O O O (fun w hS => EV O O) ?_
 refine FP (v := .int .i64 ↑i) O O O O O (fun w hS => EV O O) ?_
 refine FP (v := .pointer (some ⟨C, Q + i * 12, none⟩)) O O O O O (fun w hS => MG (i := i) O underlying28 Z O a0 O O (List.getElem?_eq_some_iff.1 k).1) ?_
 refine yG ?_
 refine FP (v := .pointer (some ⟨C, Q + i * 12 + 4, none⟩)) O O O O O (fun w hS => PY O O O) ?_
 refine FP (v := .agg (GK z).toArray) O O O O O (fun w hS => CD QN O O (Cs.sub ((hS.2.2.1).1) 4 (DU _ _ _ _ _)) (DC a2)) ?_
 refine FA _ (RunF.alloc QN O O O) ?_
 refine yG ?_
 refine FE O O O O ?_
 intro b0 E
 refine BZ pI O (Wv m z _ hm a2 q) O E ?_
 intro b4 am E
 refine kF am E O ?_
 refine FP (v := .tuple #[.agg (GK (OR m z 8)).toArray, .int .i64 0]) O O O O O (fun w hS => EV O O) ?_
 refine FP (v := .agg (GK (OR m z 8)).toArray) O O O O O (fun w hS => JR (vs := [.agg (GK (OR m z 8)).toArray, .int .i64 0]) O O O) ?_
 refine FP (v := .int .i64 0) O O O O O (fun w hS => JR (vs := [.agg (GK (OR m z 8)).toArray, .int .i64 0]) O O O) ?_
 refine yG ?_
 refine FF O O ?_
 intro a6 ba b5
 have b6 : w.heap.size <= a6 := by omega
 have R : (B : Value).ownBlock ≠ some a6 := fun h => by have := G _ h; omega
 refine yG ?_
 intro az E
 refine H1 (i := 11) Z ?_
 have L := E.1
 replace E := VI E
 refine HE (o := ⟨none, _, _, _, _, _⟩) O O (BY QN O O O L (by first | rfl | exact DC tG) (DC (RB q 8)) (tI _) ?_)
 intro ay ac a9
 replace E := (E.onl (L.noW (dT (m := [0, 0, 0, 0, 0, 0, 0, 0]))) zK ac).x a9
 refine ⟨E.2, ?_⟩
 refine yG ?_
 refine HP (i := 12) (o := ⟨some 11, _, _, _, _, _⟩) (v := .int .i64 0) O Z (fun _ _ _ h => h) O (fun w hS => IF O O) (E.2) ?_
 refine yG ?_
 refine HN Z ?_
 have f := e4 E
 refine yG ?_
 replace E := rR E
 refine sE E [0,1,2,3,4,5,6,8,7,9,10,11,12] ?_
 replace E := E.drew
 replace f := (fA JL 88 I VH B o).below f ((Below.refl _ _).drew)
 refine yG ?_
 refine kD O O O a0 O (List.getElem?_eq_some_iff.1 k).1 ?_
 refine yG ?_
 refine SW O O O O O (fun w hS => CD GP O O (Cs.sub ((e3 hS).1) 0 (EI _ _ _ _ _)) O) ?_
 refine SW O O O O O (fun w hS => CY QN O O (hS.1) (DC (RB q 8))) ?_
 refine yG ?_
 refine GZ (o := ⟨some 41, _, _, _, _, _⟩) O O O O (CV pL O (C7 _ _ _ _ x _ _ _ _ c8 _ (e9 E) (e8 E) E.2.2.1 E.2.1 (FitQ.mono Fx AE) (FitQ.mono X AE)) O E ?_)
 intro ax T P U N al E
 replace f := (fA JL 88 I VH B o).below f al
 refine ⟨E.2.2, ?_⟩
 refine yG ?_
 refine SW (v := .agg (IJ T P U N (OR m z 8)).toArray) O O O O O (fun w hS => bK O O O (RB q 8)) ?_
 refine yG ?_
 refine GZ (o := ⟨some 44, _, _, _, _, _⟩) O O O O (DZ (cs := (IJ T P U N (OR m z 8))) underlying28 KL (CM (RB q 8)) AE AE O O ?_)
 intro an aw aq ar a4 aa
 have D : (B : Value).ownBlock ≠ some an := fun h => by have := (Acc.lt f.1 h).2; omega
 replace E := E.below a4
 replace f := (fA JL 88 I VH B o).below f a4
 replace E := E.x aa
 refine ⟨E.2.2.2, ?_⟩
 have H := f
 refine yG ?_
 refine GZ (o := ⟨some 45, _, _, _, _, _⟩) O O O O (EM (x := ((x * c8), (OR m z 8))) iN O (l := o) O H.1 H.2 E (fun g hg h1 h2 => ⟨CT (fun e => D (e ▸ hg)), BX, BX, CT (fun e => R (e ▸ hg)), BX, BX, QU AA, BX, CT AA, CT AA, DP (CJ AA), BX, BX, IK AA, BX⟩) O E.1 (⟨_, _, _, _, O, E.2.2.1, E.2.1, (RB q 8)⟩) (by have := Y; unfold maxLen; omega) (by have := Y; omega) (CR (e7 E)) ?_)
 intro ab au E
 refine ⟨E.2.2.2.2, ?_⟩
 refine yG ?_
 exact ⟨_, (by rw [ae]; omega), (i + 1), ab, o ++ [((x * c8), (OR m z 8))], _, O, O, zE, O, ⟨by omega, by rw [vJ F k, <- hJ]⟩⟩
theorem Wx {v : Value} {p : List Tm} (h : IsR JL S w v p) : ∀ t ∈ p, EG t.2 := by
 obtain ⟨q, o, rfl, _, _, l⟩ := h
 intro t e
 obtain ⟨i, f⟩ := List.getElem?_of_mem e
 obtain ⟨_, _, _, _, _, _, n, s, m, u, _, _, _, k⟩ := l i t f
 exact k
theorem yW (na : Bool) (sa : Value) (ma : Bool) (ta : Value) (x : Rat) (vp : Value) (p : List Tm) (w : World) (hna : IsI w (.agg #[.bool na, sa]) x.num) (hda : IsI w (.agg #[.bool ma, ta]) ((x.den : Nat) : Int)) (hRp : IsR JL (CX w.heap.size) w vp p) (Fx : FitQ x 1000000) (hF : ∀ t ∈ p, FitQ t.1 1000000) (hL : p.length <= 1000000) :
 Calls prog 35 #[.agg #[.bool na, sa, .bool ma, ta], vp] w (yT w (SX x p)) := by
 have E := Env.start w
 replace E := (E.i hna).i hda
 obtain ⟨H, u, rfl, D, C⟩ := hRp.shp
 replace E := E.r hRp (DF _)
 go_enter func35, ntmps35
 have h : ∀ t ∈ p, oO zeroM t.2 := fun t B => vO (Wx E.1.1 t B)
 refine yG ?_
 refine EF O (CI (cs := [.bool na, sa, .bool ma, ta]) O O ?_)
 intro P l F I G v
 replace E := E.below G
 replace E := E.x v
 have o : w.heap.size <= l.heap.size := (e4 E).size
 refine yG ?_
 refine EF O (CZ NY O (gC _ _ _ _ x zeroM _ p _ (e3 E) E.2.2.1 DH (BW E.2.1) (FitQ.mono Fx AE) hF h hL) O E ?_)
 intro k J N f E
 replace E := E.sz (Nat.le_refl k.heap.size)
 obtain ⟨L, rfl, f⟩ := f
 obtain ⟨z, y, rfl, q, _⟩ := f.shp
 replace E := E.r (e := JL) (S := EY l.heap.size k.heap.size) f (fun _ g => g.2)
 refine yG ?_
 exact ⟨_, rfl, (by rw [show SX x p = JY x zeroM p from rfl]; exact NewP.up E.1 AA), e6 E⟩
theorem aM (vp : Value) (p : List Tm) (vq : Value) (q : List Tm) (w : World) (hRp : IsR JL (CX w.heap.size) w vp p) (hRq : IsR JL (CX w.heap.size) w vq q) (hFp : ∀ t ∈ p, FitQ t.1 1000000) (hFq : ∀ t ∈ q, FitQ t.1 1000000) (hLp : p.length <= 1000000) (hLq : q.length <= 1000000) :
 Calls prog 24 #[vp, vq] w (yT w (KZ p q)) := by
 have E := Env.start w
 obtain ⟨a8, P, rfl, de, da⟩ := hRp.shp
 replace E := E.r hRp (DF _)
 obtain ⟨a7, N, rfl, dd, d6⟩ := hRq.shp
 replace E := E.r hRq (DF _)
 go_enter func24, ntmps24
 refine yG ?_
 refine EF O (PS iN O ?_)
 intro b1 w1 br z1 d1 x1
 have l1 : w.heap.size <= b1 := by rw [br]; exact E.2.2.1.size
 replace E := E.below d1
 replace E := E.x x1
 have x2 := E.1
 refine yG ?_
 replace E := VI E
 replace E := (E.sz (Nat.le_of_lt (Bx.lt x2))).a (Acc.lit0 (e := JL) (S := VH) x2 (Nat.le_refl _) GI) (QL _)
 refine yG ?_
 refine wp_loop_ghost (fun mz a w' => ∃ (i : Nat) (k : Nat) (L : Value) (o : List Tm) (a6 : List Value), a6 = a.tmps.toList /\ a = ⟨(.slice a8 p.length P :: .slice a7 q.length N :: undef :: undef :: .slice none 0 0 :: L :: .int .i64 ↑i :: .int .i64 ↑k :: (CF a6 8) :: .slice (some ⟨b1, 0, none⟩) 0 0 :: gr a6 10 99 []).toArray, []⟩ /\ Env w' [fA JL 88 b1 VH L o, rO b1, fR JL (CX w.heap.size) (.slice a7 q.length N) q, fR JL (CX w.heap.size) (.slice a8 p.length P) p, fW w] /\ mz = (p.length + q.length - (i + k)) /\ (i <= p.length /\ k <= q.length /\ PP p q i k o)) ((p.length + q.length)) ⟨0, 0, (.slice (some ⟨b1, 0, none⟩) 0 0), [], _, O, O, zE, O, ⟨Nat.zero_le _, Nat.zero_le _, Cy p q⟩⟩ ?_
 rintro m3 _ w3 ⟨i, k, L, o, a6, -, rfl, E, R, bq⟩
 dsimp only [gr, Nat.reduceAdd]
 obtain ⟨dc, db, hJ⟩ := bq
 have d3 := Kg hJ
 have F : o.length <= 2000000 := by omega
 by_cases hi : i < p.length
 case neg =>
  by_cases hk : k < q.length
  case neg =>
   refine yG ?_
   exact ⟨_, rfl, (by rw [Kh hJ hi hk]; exact oW E.1.1 AA), e4 E⟩
  obtain ⟨⟨T, J⟩, y⟩ : ∃ x, q[k]? = some x := ⟨_, List.getElem?_eq_getElem hk⟩
  obtain ⟨H, U, _, C, X, al, ⟨nK, sK, mK, uK, rfl, af, ak, z⟩⟩ := IsR.at E.2.2.1.1 y
  have ah : H < _ := E.2.2.1.2 _ X
  replace E := ((E.c al ah).i af).i ak
  have bp : H < w.heap.size := X
  have aj := hFq _ (List.mem_of_getElem? y)
  refine yG ?_
  refine sE E [0,1,2,3,4,5,6,7,8,9,10,11,12,13,14,15,16,17,18,19,20,21,22,23] ?_
  replace E := E.drew
  refine yG ?_
  refine sE E [0,1,2,3,4,5,6,7,8,9,10,11,12,13,14,15,16,17] ?_
  replace E := E.drew
  refine yG ?_
  refine lH O O C O (List.getElem?_eq_some_iff.1 y).1 ?_
  refine yG ?_
  refine V O O (CD KL O O (E.2.2.1.1) (CM z)) ?_
  refine yG ?_
  refine EF O (DZ (cs := (IJ nK sK mK uK J)) underlying28 KL (CM z) AE AE O O ?_)
  intro bx ca c3 c6 bt bb
  have a3 : (L : Value).ownBlock ≠ some bx := fun h => by have := (Acc.lt (e3 E).1 h).2; omega
  replace E := E.below bt
  replace E := E.x bb
  have a9 := e4 E
  refine yG ?_
  replace E := rR E
  refine EF O (EM (x := (T, J)) iN O (l := o) O a9.1 a9.2 E (fun g hg h1 h2 => ⟨CT (fun e => a3 (e ▸ hg)), BX, BX, QU AA, BX, DP (CJ AA), DP (CJ AA), IK AA, BX⟩) O E.1 (⟨_, _, _, _, O, E.2.2.1, E.2.1, z⟩) Yxv YMf (CR (e4 E)) ?_)
  intro bf c9 E
  refine yG ?_
  exact ⟨_, YCZ, i, (k + 1), bf, o ++ [(T, J)], _, O, O, zE, O, ⟨by omega, by omega, Gh hJ y (.inl hi)⟩⟩
 obtain ⟨⟨cI, I⟩, B⟩ : ∃ x, p[i]? = some x := ⟨_, List.getElem?_eq_getElem hi⟩
 obtain ⟨Q, a1, _, D, az, bo, ⟨nI, sI, mI, uI, rfl, bl, bn, u⟩⟩ := IsR.at (e3 E).1 B
 have bm : Q < _ := (e3 E).2 _ az
 replace E := ((E.c bo bm).i bl).i bn
 have dg : Q < w.heap.size := az
 have ay := hFp _ (List.mem_of_getElem? B)
 by_cases hk : k < q.length
 case neg =>
  refine yG ?_
  refine sE E [0,1,2,3,4,5,6,7,8,9,10,11,12,13,14,15,16,17,18,19,20,21,22,23] ?_
  replace E := E.drew
  refine yG ?_
  refine lH O O D O (List.getElem?_eq_some_iff.1 B).1 ?_
  refine yG ?_
  refine V O O (CD KL O O (E.2.2.1.1) (CM u)) ?_
  refine yG ?_
  refine EF O (DZ (cs := (IJ nI sI mI uI I)) underlying28 KL (CM u) AE AE O O ?_)
  intro c0 cc c4 c7 bu bc
  have a4 : (L : Value).ownBlock ≠ some c0 := fun h => by have := (Acc.lt (e3 E).1 h).2; omega
  replace E := E.below bu
  replace E := E.x bc
  have aa := e4 E
  refine yG ?_
  replace E := rR E
  refine EF O (EM (x := (cI, I)) iN O (l := o) O aa.1 aa.2 E (fun g hg h1 h2 => ⟨CT (fun e => a4 (e ▸ hg)), BX, BX, QU AA, BX, DP (CJ AA), DP (CJ AA), IK AA, BX⟩) O E.1 (⟨_, _, _, _, O, E.2.2.1, E.2.1, u⟩) Yxv YMf (CR (e4 E)) ?_)
  intro bg cb E
  refine yG ?_
  exact ⟨_, YCZ, (i + 1), k, bg, o ++ [(cI, I)], _, O, O, zE, O, ⟨by omega, by omega, Gi hJ B (.inl hk)⟩⟩
 obtain ⟨⟨T, J⟩, y⟩ : ∃ x, q[k]? = some x := ⟨_, List.getElem?_eq_getElem hk⟩
 obtain ⟨H, U, _, C, X, al, ⟨nK, sK, mK, uK, rfl, af, ak, z⟩⟩ := IsR.at (e5 E).1 y
 have ah : H < _ := (e5 E).2 _ X
 replace E := ((E.c al ah).i af).i ak
 have bp : H < w.heap.size := X
 have aj := hFq _ (List.mem_of_getElem? y)
 by_cases ai : 0 < ES I J
 case pos =>
  refine yG ?_
  refine sE E [0,1,2,3,4,5,6,7,8,9,10,11,12,13,14,15,16,17,18,19,20,21,22,23] ?_
  replace E := E.drew
  refine yG ?_
  refine kD O O O D O (List.getElem?_eq_some_iff.1 B).1 ?_
  refine yG ?_
  refine SW O O O Z O (fun w f => CD QN O O (Cs.sub ((e5 f).1) 4 (DU _ _ _ _ _)) (DC u)) ?_
  refine yG ?_
  refine kD O O O C O (List.getElem?_eq_some_iff.1 y).1 ?_
  refine yG ?_
  refine SW O O O Z O (fun w f => CD QN O O (Cs.sub ((f.2.2.1).1) 4 (DU _ _ _ _ _)) (DC z)) ?_
  refine yG ?_
  refine GZ (o := ⟨some 40, _, _, _, _, _⟩) O O O O (CE IS O (UK I J _ u z) O E ?_)
  intro w4 d4 E
  refine ⟨E, ?_⟩
  refine yG ?_
  refine lH O O D O (List.getElem?_eq_some_iff.1 B).1 ?_
  refine yG ?_
  refine V O O (CD KL O O ((e5 E).1) (CM u)) ?_
  refine yG ?_
  refine EF O (DZ (cs := (IJ nI sI mI uI I)) underlying28 KL (CM u) AE AE O O ?_)
  intro b5 w5 dk z5 d5 x5
  have ae : (L : Value).ownBlock ≠ some b5 := fun h => by have := (Acc.lt (e6 E).1 h).2; omega
  replace E := E.below d5
  replace E := E.x x5
  have b0 := e7 E
  refine yG ?_
  replace E := dl7 E
  refine EF O (EM (x := (cI, I)) iN O (l := o) O b0.1 b0.2 E (fun g hg h1 h2 => ⟨CT (fun e => ae (e ▸ hg)), BX, BX, QU AA, BX, BX, QU AA, BX, DP (CJ AA), DP (CJ AA), IK AA, BX⟩) O E.1 (⟨_, _, _, _, O, e5 E, e4 E, u⟩) Yxv YMf (CR (e7 E)) ?_)
  intro v6 w6 E
  refine yG ?_
  exact ⟨_, YCZ, (i + 1), k, v6, o ++ [(cI, I)], _, O, O, zE, O, ⟨by omega, by omega, Gi hJ B (.inr ⟨_, y, ai⟩)⟩⟩
 by_cases ag : ES I J < 0
 case pos =>
  refine yG ?_
  refine sE E [0,1,2,3,4,5,6,7,8,9,10,11,12,13,14,15,16,17,18,19,20,21,22,23] ?_
  replace E := E.drew
  refine yG ?_
  refine kD O O O D O (List.getElem?_eq_some_iff.1 B).1 ?_
  refine yG ?_
  refine SW O O O Z O (fun w f => CD QN O O (Cs.sub ((e5 f).1) 4 (DU _ _ _ _ _)) (DC u)) ?_
  refine yG ?_
  refine kD O O O C O (List.getElem?_eq_some_iff.1 y).1 ?_
  refine yG ?_
  refine SW O O O Z O (fun w f => CD QN O O (Cs.sub ((f.2.2.1).1) 4 (DU _ _ _ _ _)) (DC z)) ?_
  refine yG ?_
  refine GZ (o := ⟨some 40, _, _, _, _, _⟩) O O O O (CE IS O (UK I J _ u z) O E ?_)
  intro w7 d7 E
  refine ⟨E, ?_⟩
  refine yG ?_
  refine sE E [0,1,2,3,4,5,6,7,8,9,10,11,12,13,14,15,16,17] ?_
  replace E := E.drew
  refine yG ?_
  refine kD O O O D O (List.getElem?_eq_some_iff.1 B).1 ?_
  refine yG ?_
  refine SW O O O Z O (fun w f => CD QN O O (Cs.sub ((e5 f).1) 4 (DU _ _ _ _ _)) (DC u)) ?_
  refine yG ?_
  refine kD O O O C O (List.getElem?_eq_some_iff.1 y).1 ?_
  refine yG ?_
  refine SW O O O Z O (fun w f => CD QN O O (Cs.sub ((f.2.2.1).1) 4 (DU _ _ _ _ _)) (DC z)) ?_
  refine yG ?_
  refine GZ (o := ⟨some 68, _, _, _, _, _⟩) O O O O (CE IS O (UK I J _ u z) O E ?_)
  intro w8 d8 E
  refine ⟨E, ?_⟩
  refine yG ?_
  refine lH O O C O (List.getElem?_eq_some_iff.1 y).1 ?_
  refine yG ?_
  refine V O O (CD KL O O (E.2.2.1.1) (CM z)) ?_
  refine yG ?_
  refine EF O (DZ (cs := (IJ nK sK mK uK J)) underlying28 KL (CM z) AE AE O O ?_)
  intro b9 w9 dj z9 d9 x9
  have ad : (L : Value).ownBlock ≠ some b9 := fun h => by have := (Acc.lt (e6 E).1 h).2; omega
  replace E := E.below d9
  replace E := E.x x9
  have ac := e7 E
  refine yG ?_
  replace E := dl7 E
  refine EF O (EM (x := (T, J)) iN O (l := o) O ac.1 ac.2 E (fun g hg h1 h2 => ⟨CT (fun e => ad (e ▸ hg)), BX, BX, QU AA, BX, BX, QU AA, BX, DP (CJ AA), DP (CJ AA), IK AA, BX⟩) O E.1 (⟨_, _, _, _, O, E.2.2.1, E.2.1, z⟩) Yxv YMf (CR (e7 E)) ?_)
  intro bi ct E
  refine yG ?_
  exact ⟨_, YCZ, i, (k + 1), bi, o ++ [(T, J)], _, O, O, zE, O, ⟨by omega, by omega, Gh hJ y (.inr ⟨_, B, ag⟩)⟩⟩
 by_cases hz : cI + T = 0
 case pos =>
  refine yG ?_
  refine sE E [0,1,2,3,4,5,6,7,8,9,10,11,12,13,14,15,16,17,18,19,20,21,22,23] ?_
  replace E := E.drew
  refine yG ?_
  refine kD O O O D O (List.getElem?_eq_some_iff.1 B).1 ?_
  refine yG ?_
  refine SW O O O Z O (fun w f => CD QN O O (Cs.sub ((e5 f).1) 4 (DU _ _ _ _ _)) (DC u)) ?_
  refine yG ?_
  refine kD O O O C O (List.getElem?_eq_some_iff.1 y).1 ?_
  refine yG ?_
  refine SW O O O Z O (fun w f => CD QN O O (Cs.sub ((f.2.2.1).1) 4 (DU _ _ _ _ _)) (DC z)) ?_
  refine yG ?_
  refine GZ (o := ⟨some 40, _, _, _, _, _⟩) O O O O (CE IS O (UK I J _ u z) O E ?_)
  intro cr dr E
  refine ⟨E, ?_⟩
  refine yG ?_
  refine sE E [0,1,2,3,4,5,6,7,8,9,10,11,12,13,14,15,16,17] ?_
  replace E := E.drew
  refine yG ?_
  refine kD O O O D O (List.getElem?_eq_some_iff.1 B).1 ?_
  refine yG ?_
  refine SW O O O Z O (fun w f => CD QN O O (Cs.sub ((e5 f).1) 4 (DU _ _ _ _ _)) (DC u)) ?_
  refine yG ?_
  refine kD O O O C O (List.getElem?_eq_some_iff.1 y).1 ?_
  refine yG ?_
  refine SW O O O Z O (fun w f => CD QN O O (Cs.sub ((f.2.2.1).1) 4 (DU _ _ _ _ _)) (DC z)) ?_
  refine yG ?_
  refine GZ (o := ⟨some 68, _, _, _, _, _⟩) O O O O (CE IS O (UK I J _ u z) O E ?_)
  intro ap dq E
  refine ⟨E, ?_⟩
  have a0 : ∀ g, (L : Value).ownBlock = some g -> g < ap.heap.size := fun g hg => ((e6 E).1.lt hg).2
  have b7 : w.heap.size <= ap.heap.size := (RA E).size
  refine yG ?_
  refine MV E [.op 0, .op 1, .op 2, .op 3, .op 4, .op 5, .op 6, .op 7, .op 8, .op 9, .av 11, .op 10, .op 11] 1 (#[true, true, true, true, true, true, true, true, true, true, true, true, false]) Z Z Z Z AF AF ?_
  refine FP (v := .slice a8 p.length P) O O O O O (fun w f => EV O O) ?_
  refine FP (v := .int .i64 ↑i) O O O O O (fun w f => EV O O) ?_
  refine FP (v := .pointer (some ⟨Q, a1 + i * 12, none⟩)) O O O O O (fun w f => MG (i := i) O underlying28 Z O D O O (List.getElem?_eq_some_iff.1 B).1) ?_
  refine FP (v := .pointer (some ⟨Q, a1 + i * 12, none⟩)) O O O O O (fun w f => IU O O O) ?_
  refine yG ?_
  refine FP (v := .agg #[.bool nI, sI, .bool mI, uI]) O O O O O (fun w f => CD GP O O (Cs.sub ((e5 f).1) 0 (EI _ _ _ _ _)) O) ?_
  refine FP (v := .slice a7 q.length N) O O O O O (fun w f => EV O O) ?_
  refine FP (v := .int .i64 ↑k) O O O O O (fun w f => EV O O) ?_
  refine FP (v := .pointer (some ⟨H, U + k * 12, none⟩)) O O O O O (fun w f => MG (i := k) O underlying28 Z O C O O (List.getElem?_eq_some_iff.1 y).1) ?_
  refine yG ?_
  refine FP (v := .pointer (some ⟨H, U + k * 12, none⟩)) O O O O O (fun w f => IU O O O) ?_
  refine FP (v := .agg #[.bool nK, sK, .bool mK, uK]) O O O O O (fun w f => CD GP O O (Cs.sub ((f.2.2.1).1) 0 (EI _ _ _ _ _)) O) ?_
  refine FA _ (RunF.alloc GP O O O) ?_
  refine yG ?_
  refine FE O O O O ?_
  intro cp E
  refine CV aX O (Rj _ _ _ _ cI _ _ _ _ T _ (e4 E) (e3 E) E.2.1 E.1 (FitQ.mono ay AE) (FitQ.mono aj AE)) O E ?_
  intro cq cy cx cz cw bw E
  refine kF bw E O ?_
  refine yG ?_
  refine FF O O ?_
  intro b4 di cv
  have d2 : w.heap.size <= b4 := by omega
  have c2 : (L : Value).ownBlock ≠ some b4 := fun h => by have := a0 _ h; omega
  refine yG ?_
  intro co E
  refine H1 (i := 12) Z ?_
  have an := E.1
  replace E := VI E
  refine HE (o := ⟨none, _, _, _, _, _⟩) O O (BY GP O O O an O O (LR (IsI.one E.2.1) (IsI.one E.1)) ?_)
  intro cn bk ba
  replace E := oY E an bk ba
  refine ⟨E.2.2.2, ?_⟩
  refine yG ?_
  refine HN Z ?_
  refine yG ?_
  refine EF O (CE EQ O (NE _ _ _ _ (cI + T) _ E.2.2.1 E.2.1) O E ?_)
  intro cm dp E
  refine yG ?_
  refine V O O (VW (c := false) O O O (by rw [bne_eq_false_iff_eq, <- beq_iff_eq]; exact Au hz)) ?_
  refine yG ?_
  exact ⟨_, YCZ, (i + 1), (k + 1), L, o, _, O, O, zE, O, ⟨by omega, by omega, We hJ B y ai ag hz⟩⟩
 refine yG ?_
 refine sE E [0,1,2,3,4,5,6,7,8,9,10,11,12,13,14,15,16,17,18,19,20,21,22,23] ?_
 replace E := E.drew
 refine yG ?_
 refine kD O O O D O (List.getElem?_eq_some_iff.1 B).1 ?_
 refine yG ?_
 refine SW O O O Z O (fun w f => CD QN O O (Cs.sub ((e5 f).1) 4 (DU _ _ _ _ _)) (DC u)) ?_
 refine yG ?_
 refine kD O O O C O (List.getElem?_eq_some_iff.1 y).1 ?_
 refine yG ?_
 refine SW O O O Z O (fun w f => CD QN O O (Cs.sub ((f.2.2.1).1) 4 (DU _ _ _ _ _)) (DC z)) ?_
 refine yG ?_
 refine GZ (o := ⟨some 40, _, _, _, _, _⟩) O O O O (CE IS O (UK I J _ u z) O E ?_)
 intro ck dn E
 refine ⟨E, ?_⟩
 refine yG ?_
 refine sE E [0,1,2,3,4,5,6,7,8,9,10,11,12,13,14,15,16,17] ?_
 replace E := E.drew
 refine yG ?_
 refine kD O O O D O (List.getElem?_eq_some_iff.1 B).1 ?_
 refine yG ?_
 refine SW O O O Z O (fun w f => CD QN O O (Cs.sub ((e5 f).1) 4 (DU _ _ _ _ _)) (DC u)) ?_
 refine yG ?_
 refine kD O O O C O (List.getElem?_eq_some_iff.1 y).1 ?_
 refine yG ?_
 refine SW O O O Z O (fun w f => CD QN O O (Cs.sub ((f.2.2.1).1) 4 (DU _ _ _ _ _)) (DC z)) ?_
 refine yG ?_
 refine GZ (o := ⟨some 68, _, _, _, _, _⟩) O O O O (CE IS O (UK I J _ u z) O E ?_)
 intro ao dm E
 refine ⟨E, ?_⟩
 have Y : ∀ g, (L : Value).ownBlock = some g -> g < ao.heap.size := fun g hg => ((e6 E).1.lt hg).2
 have b6 : w.heap.size <= ao.heap.size := (RA E).size
 refine yG ?_
 refine MV E [.op 0, .op 1, .op 2, .op 3, .op 4, .op 5, .op 6, .op 7, .op 8, .op 9, .av 11, .op 10, .op 11] 1 (#[true, true, true, true, true, true, true, true, true, true, true, true, false]) Z Z Z Z AF AF ?_
 refine FP (v := .slice a8 p.length P) O O O O O (fun w f => EV O O) ?_
 refine FP (v := .int .i64 ↑i) O O O O O (fun w f => EV O O) ?_
 refine FP (v := .pointer (some ⟨Q, a1 + i * 12, none⟩)) O O O O O (fun w f => MG (i := i) O underlying28 Z O D O O (List.getElem?_eq_some_iff.1 B).1) ?_
 refine FP (v := .pointer (some ⟨Q, a1 + i * 12, none⟩)) O O O O O (fun w f => IU O O O) ?_
 refine yG ?_
 refine FP (v := .agg #[.bool nI, sI, .bool mI, uI]) O O O O O (fun w f => CD GP O O (Cs.sub ((e5 f).1) 0 (EI _ _ _ _ _)) O) ?_
 refine FP (v := .slice a7 q.length N) O O O O O (fun w f => EV O O) ?_
 refine FP (v := .int .i64 ↑k) O O O O O (fun w f => EV O O) ?_
 refine FP (v := .pointer (some ⟨H, U + k * 12, none⟩)) O O O O O (fun w f => MG (i := k) O underlying28 Z O C O O (List.getElem?_eq_some_iff.1 y).1) ?_
 refine yG ?_
 refine FP (v := .pointer (some ⟨H, U + k * 12, none⟩)) O O O O O (fun w f => IU O O O) ?_
 refine FP (v := .agg #[.bool nK, sK, .bool mK, uK]) O O O O O (fun w f => CD GP O O (Cs.sub ((f.2.2.1).1) 0 (EI _ _ _ _ _)) O) ?_
 refine FA _ (RunF.alloc GP O O O) ?_
 refine yG ?_
 refine FE O O O O ?_
 intro ci E
 refine CV aX O (Rj _ _ _ _ cI _ _ _ _ T _ (e4 E) (e3 E) E.2.1 E.1 (FitQ.mono ay AE) (FitQ.mono aj AE)) O E ?_
 intro cj aw ar ax aq bv E
 refine kF bv E O ?_
 refine yG ?_
 refine FF O O ?_
 intro b3 dh cu
 have d0 : w.heap.size <= b3 := by omega
 have au : (L : Value).ownBlock ≠ some b3 := fun h => by have := Y _ h; omega
 refine yG ?_
 intro ch E
 refine H1 (i := 12) Z ?_
 have am := E.1
 replace E := VI E
 refine HE (o := ⟨none, _, _, _, _, _⟩) O O (BY GP O O O am O O (LR (IsI.one E.2.1) (IsI.one E.1)) ?_)
 intro cg bj b8
 replace E := oY E am bj b8
 refine ⟨E.2.2.2, ?_⟩
 refine yG ?_
 refine HN Z ?_
 refine yG ?_
 refine EF O (CE EQ O (NE _ _ _ _ (cI + T) _ E.2.2.1 E.2.1) O E ?_)
 intro cf dl E
 refine yG ?_
 refine V O O (VW (c := true) O O O (by rw [bne_iff_ne, <- beq_eq_false_iff_ne]; exact sH hz)) ?_
 have G := e9 E
 refine yG ?_
 replace E := dl9 E
 refine sE E [0,1,2,3,4,5,6,7,8,9,10] ?_
 replace E := E.drew
 replace G := (fA JL 88 b1 VH L o).below G ((Below.refl _ _).drew)
 refine yG ?_
 refine kD O O O D O (List.getElem?_eq_some_iff.1 B).1 ?_
 refine yG ?_
 refine SW O O O O O (fun w f => CD QN O O (Cs.sub ((e8 f).1) 4 (DU _ _ _ _ _)) (DC u)) ?_
 refine SW (v := .agg (IJ aw ar ax aq I).toArray) O O O O O (fun w f => bK O O O u) ?_
 refine yG ?_
 refine GZ (o := ⟨some 102, _, _, _, _, _⟩) O O O O (DZ (cs := (IJ aw ar ax aq I)) underlying28 KL (CM u) AE AE O O ?_)
 intro c1 ce c5 c8 b2 bd
 have a2 : (L : Value).ownBlock ≠ some c1 := fun h => by have := (Acc.lt G.1 h).2; omega
 replace E := E.below b2
 replace G := (fA JL 88 b1 VH L o).below G b2
 replace E := E.x bd
 refine ⟨E.2, ?_⟩
 have ab := G
 refine yG ?_
 refine GZ (o := ⟨some 103, _, _, _, _, _⟩) O O O O (EM (x := ((cI + T), I)) iN O (l := o) O ab.1 ab.2 E (fun g hg h1 h2 => ⟨CT (fun e => a2 (e ▸ hg)), CT (fun e => au (e ▸ hg)), BX, BX, BX, BX, QU AA, BX, BX, QU AA, BX, DP (CJ AA), DP (CJ AA), IK AA, BX⟩) O E.1 (⟨_, _, _, _, O, e3 E, E.2.2.1, u⟩) Yxv YMf (CR (RA E)) ?_)
 intro bh cd E
 refine ⟨E.2.2, ?_⟩
 refine yG ?_
 exact ⟨_, YCZ, (i + 1), (k + 1), bh, o ++ [((cI + T), I)], _, O, O, zE, O, ⟨by omega, by omega, Qs hJ B y ai ag hz⟩⟩
theorem Ws (vp : Value) (p : List Tm) (vq : Value) (q : List Tm) (w : World) (hRp : IsR JL (CX w.heap.size) w vp p) (hRq : IsR JL (CX w.heap.size) w vq q) (hFp : ∀ t ∈ p, FitQ t.1 1000000) (hFq : ∀ t ∈ q, FitQ t.1 900000) (hLp : p.length <= 1000000) (hLq : q.length <= 1000000) :
 Calls prog 33 #[vp, vq] w (yT w (Xz p q)) := by
 have E := Env.start w
 obtain ⟨R, B, rfl, P, L⟩ := hRp.shp
 replace E := E.r hRp (DF _)
 obtain ⟨Q, z, rfl, N, J⟩ := hRq.shp
 replace E := E.r hRq (DF _)
 go_enter func33, ntmps33
 refine yG ?_
 refine EF O (CV EN O (LJ (-1) _ AE AE) O E ?_)
 intro C n2 s2 m2 Y d2 E
 have T : FitQ ((-1 : Int) : Rat) 4 := IA (k := 4) AE (DY AE AE)
 refine yG ?_
 refine EF O (CZ XD O (yW _ _ _ _ ((-1 : Int) : Rat) _ q _ E.2.1 E.1 (BW E.2.2.1) (FitQ.mono T AE) (fun t I => FitQ.mono (hFq t I) AE) hLq) O E ?_)
 intro f X d3 y E
 replace E := E.sz (Nat.le_refl f.heap.size)
 obtain ⟨H, F, rfl, u, _⟩ := y.shp
 replace E := E.r (e := JL) (S := EY C.heap.size f.heap.size) y (fun _ g => g.2)
 have l : w.heap.size <= f.heap.size := (e6 E).size
 refine yG ?_
 refine EF O (CZ LN O (aM _ p _ (SX ((-1 : Int) : Rat) q) _ (BW (e5 E)) (BW E.1) hFp (iG (n := 1000000) (IA (k := 4) AE (DY AE AE)) hFq AE) hLp (Nat.le_trans (VR _ _ _) hLq)) O E ?_)
 intro h U d4 v E
 replace E := E.sz (Nat.le_refl h.heap.size)
 obtain ⟨G, D, rfl, o, _⟩ := v.shp
 replace E := E.r (e := JL) (S := EY f.heap.size h.heap.size) v (fun _ g => g.2)
 refine yG ?_
 exact ⟨_, rfl, (by rw [show Xz p q = KZ p (SX ((-1 : Int) : Rat) q) from rfl]; exact NewP.up E.1 AA), e8 E⟩
end Go.Proofs.YtmppigbbkjepiaaGreatDoor
