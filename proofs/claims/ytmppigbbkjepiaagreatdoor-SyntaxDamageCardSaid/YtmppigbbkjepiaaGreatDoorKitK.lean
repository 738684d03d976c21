/- Helping facts of PText; no other conditions. Helping facts of KitK; no other conditions. -/
import Derived.Test.YtmppigbbkjepiaaGreatDoorKitJ
import Derived.Lib.AppendStr
import Derived.Lib.Builder
namespace Go.Proofs.YtmppigbbkjepiaaGreatDoor
open Go.Proofs.Tryz
open Go.RowKit W
def oZ (n : Nat) : SF := ⟨fun w => n ≤ w.heap.size, fun _ => True, fun h hb => Nat.le_trans h hb.size, fun h _ _ hb => by rw [hb.size]; exact h⟩
theorem Env.sz {w : World} {L : List SF} {n : Nat} (E : Env w L) (h : n ≤ w.heap.size) : Env w (oZ n :: L) := ⟨h, E⟩
theorem CR {w : World} {n : Nat} (h : (oZ n).p w) : n ≤ w.heap.size := h
theorem Acc.low {α : Type} {e : El α} {t base : Nat} {w : World} {v : Value} {l : List α} (h : Acc e t base WI w v l) : IsR e (DD w.heap.size) w v l := h.row (fun _ g => g.elim) fun _ _ g _ => g
def qT (x : Rat) : Bs := (JZ x).data.toList
theorem Ol (n : Bool) (s : Value) (m : Bool) (u : Value) (x : Rat) (w : World) (h1 : IsI w (.agg #[.bool n, s]) x.num) (h2 : IsI w (.agg #[.bool m, u]) ((x.den : Nat) : Int)) (h3 : FitQ x 1000000) :
    Calls prog 132 #[.agg #[.bool n, s, .bool m, u]] w (GJ w (.string (bs (qT x)))) := by
  refine (Xh n s m u x w h1 h2 h3).mono ?_
  rintro e h ⟨rfl, f⟩
  exact ⟨by unfold qT; rw [Ui], f⟩
theorem Vr {x : Rat} (h : FitQ x 1000000) : (qT x).length ≤ 30000000 := by
  have k := bD h.1 AE
  have f := bD h.2 AE
  have e : (qT x).length = (JZ x).size := rfl
  rw [e]; unfold JZ
  split
  · omega
  · rw [ByteArray.size_append, ByteArray.size_append]
    have : (⟨#[47]⟩ : ByteArray).size = 1 := rfl
    omega
theorem fK (n : Nat) : (txt ((n : Nat) : Int)).length ≤ n + 1 := by
  unfold txt
  rw [if_neg AA, List.nil_append]
  unfold aQ
  rw [List.length_map, Int.natAbs_natCast]
  induction n using Nat.strongRecOn with
  | _ n ih =>
    by_cases h : n < 10
    · rw [ON n h]; simp
    · rw [TS n AA, List.length_append]
      have := ih (n / 10) AA
      simp only [List.length_cons, List.length_nil]; omega
theorem oU : ∀ (l : List Bs) (x : Bs) (ns : List Nat), l.length < ns.length → FJ (l ++ [x]) ns = FJ l ns ++ RX x (me ns l.length)
  | [], x, n :: ns, _ => by cases ns <;> simp [FJ, me]
  | v :: l, x, n :: ns, h => by
    have h2 := oU l x ns (by simpa using h)
    simp only [List.cons_append, FJ]
    rw [h2, List.append_assoc]; rfl
  | _, _, [], h => by simp at h
theorem eU {l : List Bs} {M : List Nat} {i : Nat} {x : Bs} (hM : EK M) (hl : l.length ≤ 8) (hx : l[i]? = some x) : FJ (l.take (i + 1)) M = FJ (l.take i) M ++ RX x (me M i) := by
  have f := (List.getElem?_eq_some_iff.1 hx).1
  have e : (l.take i).length = i := by rw [List.length_take]; omega
  rw [MF hx, oU _ _ _ (by rw [e, hM.1]; omega), e]
theorem He (x : Bs) {n : Nat} (h : n = 0) : RX x n = [] := by unfold RX; rw [if_pos h]
theorem My (x : Bs) {n : Nat} (h : n = 1) : RX x n = [x] := by subst h; rfl
theorem Hf (x : Bs) {n : Nat} (h : 1 < n) : RX x n = [x ++ 94 :: txt (n : Int)] := by unfold RX; rw [if_neg AA, if_neg AA]
theorem Na (x : Bs) (n : Nat) : (RX x n).length ≤ 1 := by unfold RX; split <;> (try split) <;> simp
theorem cW : ∀ (l : List Bs) (M : List Nat), (FJ l M).length ≤ l.length
  | [], M => by unfold FJ; simp
  | _ :: _, [] => by unfold FJ; simp
  | v :: l, n :: M => by
    have := cW l M; have := Na v n
    simp only [FJ, List.length_append, List.length_cons]; omega
theorem Rx {x : Bs} {n : Nat} {p : Bs} (h : p ∈ RX x n) : p.length ≤ x.length + n + 2 := by
  have := fK n
  unfold RX at h
  split at h
  · cases h
  · split at h
    · simp at h; subst h; omega
    · simp at h; subst h
      simp only [List.length_append, List.length_cons]; omega
theorem Cq : ∀ (l : List Bs) (M : List Nat) (p : Bs), (∀ v ∈ l, v.length ≤ 12) → (∀ e ∈ M, e ≤ 65535) → p ∈ FJ l M → p.length ≤ 65549
  | [], M, p, _, _, h => by unfold FJ at h; simp at h
  | _ :: _, [], p, _, _, h => by unfold FJ at h; simp at h
  | v :: l, n :: M, p, h1, h2, h => by
    simp only [FJ, List.mem_append] at h
    rcases h with h | h
    · have := Rx h; have := h1 v AH; have := h2 n AH; omega
    · exact Cq l M p (fun u hu => h1 u (by simp [hu])) (fun e he => h2 e (by simp [he])) h
theorem Mk {b : UInt8} {l : List Bs} {n : Nat} (h : ∀ p ∈ l, p.length ≤ n) : (jn b l).length ≤ l.length * (n + 1) := by
  refine Nat.le_trans (Mj b l) ?_
  induction l with
  | nil => simp
  | cons x l ih =>
    have := ih (fun p e => h p (by simp [e]))
    have := h x AH
    simp only [List.map_cons, List.sum_cons, List.length_cons, Nat.add_mul]
    omega
theorem nm12 {k : Nat} {l : List Bs} (h : DF k l = true) : ∀ v ∈ l, v.length ≤ 12 := fun v hv => kY (FV h v hv)
theorem qZ {l : List Bs} {M : List Nat} (hV : DF 8 l = true) (hM : EK M) : (jn 42 (FJ l M)).length ≤ 1000000 := by
  have k := Mk (b := 42) (fun p e => Cq l M p (nm12 hV) hM.2 e)
  have h := cW l M
  have f := IY hV
  have : (FJ l M).length * 65550 ≤ 8 * 65550 := Nat.mul_le_mul_right _ AA
  omega
theorem kW {l : List Bs} {M : List Nat} {c : Rat} (hV : DF 8 l = true) (hM : EK M) (hc : FitQ c 1000000) : (jn 42 (qT c :: FJ l M)).length ≤ 31000002 := by
  have f := qZ hV hM
  have e := Vr hc
  by_cases h : FJ l M = []
  · rw [h]; simp only [jn]; omega
  · rw [KK 42 _ h]
    simp only [List.length_append, List.length_cons]; omega
theorem YM {l : List Bs} {M : List Nat} {c : Rat} (hV : DF 8 l = true) (hM : EK M) (hc : FitQ c 1000000) : (FB l c M).length ≤ 31000002 := by
  unfold FB
  split
  · exact kW hV hM hc
  · have := qZ hV hM; omega
theorem jN {a b : Bs} (h : a = b) : Ending.returned (.string (bs a)) = .returned (.string (bs b)) := by rw [h]
theorem sS {l : List Bs} {M : List Nat} {c : Rat} (h : FJ l M = [] ∨ c ≠ 1) : jn 42 (qT c :: FJ l M) = FB l c M := by unfold FB; rw [if_pos h]; rfl
theorem Jj {l : List Bs} {M : List Nat} {c : Rat} (h : FJ l M ≠ []) (hc : c = 1) : jn 42 (FJ l M) = FB l c M := by unfold FB; rw [if_neg]; rintro (g | g); exact h g; exact g hc
set_option maxRecDepth 100000 in
set_option maxHeartbeats 8000000 in
theorem LP (na : Bool) (sa : Value) (ma : Bool) (ua : Value) (c : Rat) (mm : List Nat) (vl : Value) (l : List Bs) (w : World) (hna : IsI w (.agg #[.bool na, sa]) c.num) (hda : IsI w (.agg #[.bool ma, ua]) ((c.den : Nat) : Int)) (hmm : EK mm) (hRl : IsR elS (DD w.heap.size) w vl l) (hF : FitQ c 1000000) (hV : DF 8 l = true) (hG : Glob w) :
    Calls prog 84 #[.agg (HY na sa ma ua mm).toArray, vl] w (GJ w (.string (bs (FB l c mm)))) := by
 have E := Env.start w
 replace E := (E.i hna).i hda
 obtain ⟨T, v, rfl, c0, bx⟩ := hRl.shp
 replace E := E.r hRl (DK _)
 have P := IY hV
 have c2 := hG.two
 replace E := E.gl hG
 go_enter func84, ntmps84
 refine yG ?_
 refine EF O (CI (cs := (HY na sa ma ua mm)) O O ?_)
 intro b1 w1 al z1 d1 x1
 have l1 : w.heap.size ≤ b1 := by rw [al]; exact (e4 E).size
 replace E := E.below d1
 replace E := E.x x1
 obtain ⟨u, F⟩ : ∃ n, n = w1.heap.size := ⟨_, rfl⟩
 have ab : b1 < u := by rw [F]; exact Bx.lt E.1
 replace E := (E.sz (Nat.le_of_eq F)).a (Acc.nil elS 9 u WI _) (TH _)
 refine yG ?_
 refine wp_loop_ghost (fun mz a w' => ∃ (i : Nat) (I : Value) (z : List Bs) (f : List Value), f = a.tmps.toList ∧ a = ⟨#[.agg (HY na sa ma ua mm).toArray, .slice T l.length v, .pointer (some ⟨b1, 0, none⟩), undef, .string (bs ([])), I, CE f 6, CE f 7, CE f 8, .slice T l.length v, .int .i64 ↑l.length, .int .i64 ↑i, CE f 12, CE f 13, CE f 14, CE f 15, CE f 16, CE f 17, CE f 18, CE f 19, CE f 20, CE f 21, CE f 22, CE f 23, CE f 24, CE f 25, CE f 26, CE f 27, CE f 28, CE f 29, CE f 30, CE f 31, CE f 32, CE f 33, CE f 34, CE f 35, CE f 36, CE f 37, CE f 38, undef, undef, undef, undef, undef, undef, undef, undef, undef, undef, undef, undef, undef, undef, undef, undef, undef, undef], []⟩ ∧ Env w' [fA elS 9 u WI I z, oZ u, fX b1 (88) (HY na sa ma ua mm), fGl, fR elS (DD w.heap.size) (.slice T l.length v) l, fI (.agg #[.bool ma, ua]) ((c.den : Nat) : Int), fI (.agg #[.bool na, sa]) c.num, fW w] ∧ mz = l.length - i ∧ (i ≤ l.length ∧ z = FJ (l.take i) mm ∧ (z = [] → I = .slice none 0 0))) (l.length) ⟨0, (.slice none 0 0), [], _, O, O, zE, O, ⟨Nat.zero_le _, by simp [FJ], fun _ => rfl⟩⟩ ?_
 rintro m3 _ w3 ⟨i, I, z, f, -, rfl, E, N, a3⟩
 obtain ⟨a3, U⟩ := a3
 by_cases hi : i < l.length
 case pos =>
  obtain ⟨D, p⟩ : ∃ x, l[i]? = some x := ⟨_, List.getElem?_eq_getElem hi⟩
  obtain ⟨X, bq, _, R, a0, ak, ag⟩ := IsR.at (e4 E).1 p
  obtain rfl := (show _ = [Value.string (bs D)] from ag)
  have aj : X < _ := (e4 E).2 _ a0
  replace E := E.c ak aj
  have c1 : X < w.heap.size := a0
  have ay : D.length ≤ 12 := nm12 hV _ (List.mem_of_getElem? p)
  have hm := uC hmm i
  have bw := fK (me mm i)
  have B : z.length ≤ 8 := by rw [U.1]; exact Nat.le_trans (cW _ _) (by rw [List.length_take]; omega)
  by_cases h1 : ((me mm i : Nat) : Int) = 1
  case pos =>
   refine yG ?_
   refine iD O O R O (List.getElem?_eq_some_iff.1 p).1 ?_
   refine yG ?_
   refine V O O (CP O DA O (e3 E) (wR hmm AA)) ?_
   refine yG ?_
   refine EF O (JJ (s := (bs D)) O O ?_)
   intro b5 w5 c4 z5 d5 x5
   have L : (I : Value).ownBlock ≠ some b5 := fun h => by have := (Acc.lt E.2.1.1 h).2; omega
   replace E := E.below d5
   replace E := E.x x5
   have a6 := E.2.2.1
   refine yG ?_
   replace E := mC E
   refine EF O (FQ (x := D) RT_S O (l := z) O a6.1 a6.2 E (fun g Q h1 h2 => ⟨CQ (fun e => L (e ▸ Q)), SI AA, BX, CQ AA, EG AA, DR (CJ AA), BX, BX, IS AA, BX⟩) O E.1 (O) (by have := B; unfold maxLen; omega) (by have := B; omega) (CR E.2.2.1) ?_)
   intro v6 w6 E
   refine yG ?_
   exact ⟨_, (by rw [N]; omega), (i + 1), v6, z ++ [D], _, O, O, zE, O, ⟨by omega, by rw [eU hmm P p, My _ AA, U.1], fun h => by simp at h⟩⟩
  by_cases h2 : ((me mm i : Nat) : Int) > 1
  case neg =>
   refine yG ?_
   refine iD O O R O (List.getElem?_eq_some_iff.1 p).1 ?_
   refine yG ?_
   refine V O O (CP O DA O (e3 E) (wR hmm AA)) ?_
   refine yG ?_
   exact ⟨_, (by rw [N]; omega), (i + 1), I, z, _, O, O, zE, O, ⟨by omega, by rw [eU hmm P p, He _ AA, U.1]; simp, U.2⟩⟩
  refine yG ?_
  refine iD O O R O (List.getElem?_eq_some_iff.1 p).1 ?_
  refine yG ?_
  refine V O O (CP O DA O (e3 E) (wR hmm AA)) ?_
  refine yG ?_
  refine EF O (BZ IZ O (fH (me mm i) _ AA (e4 E).1) O E ?_)
  intro w7 d7 E
  refine yG ?_
  refine EF O (JJ (s := (bs ((D ++ ([94])) ++ (txt ((me mm i : Nat) : Int))))) O O ?_)
  intro b8 w8 c3 z8 d8 x8
  have J : (I : Value).ownBlock ≠ some b8 := fun h => by have := (Acc.lt E.2.1.1 h).2; omega
  replace E := E.below d8
  replace E := E.x x8
  have a4 := E.2.2.1
  refine yG ?_
  replace E := mC E
  refine EF O (FQ (x := (D ++ ([94])) ++ (txt ((me mm i : Nat) : Int))) RT_S O (l := z) O a4.1 a4.2 E (fun g Q h1 h2 => ⟨CQ (fun e => J (e ▸ Q)), SI AA, BX, CQ AA, EG AA, DR (CJ AA), BX, BX, IS AA, BX⟩) O E.1 (O) (by have := B; unfold maxLen; omega) (by have := B; omega) (CR E.2.2.1) ?_)
  intro v9 w9 E
  refine yG ?_
  exact ⟨_, (by rw [N]; omega), (i + 1), v9, z ++ [(D ++ ([94])) ++ (txt ((me mm i : Nat) : Int))], _, O, O, zE, O, ⟨by omega, by rw [eU hmm P p, Hf _ AA, U.1]; simp, fun h => by simp at h⟩⟩
 obtain ⟨a2, a1⟩ := U
 rw [KZ hi] at a2
 subst a2
 have Y := cW l mm
 obtain ⟨H, y, rfl⟩ := Acc.shp E.1.1
 by_cases h0 : FJ l mm = []
 case pos =>
  refine yG ?_
  refine sE E [0,1,2,3,4,5,6,7,8,9] ?_
  replace E := E.drew
  refine yG ?_
  refine SW O O O O O (fun w G => EW (c := true) O O O (by rw [h0]; rfl)) ?_
  refine yG ?_
  refine V O O (CD GV O O (Cs.sub (Bx.cs E.2.2.1) 0 (FG _ _ _ _ _)) O) ?_
  refine yG ?_
  refine EF O (BZ UJ O (Ol _ _ _ _ c _ (e6 E) (e5 E) (FitQ.mono hF AE)) O E ?_)
  intro bj cd E
  refine yG ?_
  refine EF O (JJ (s := (bs (qT c))) O O ?_)
  intro ap bi b0 b6 an ad
  have t : ((.slice H (FJ l mm).length y) : Value).ownBlock ≠ some ap := fun h => by have := (Acc.lt E.1.1 h).2; omega
  replace E := E.below an
  replace E := E.x ad
  have a8 := E.2.1
  refine yG ?_
  replace E := XQ E
  refine EF O (YE (x := qT c) O O O a8.1 a1 E (fun g Q h1 h2 => ⟨CQ (fun e => t (e ▸ Q)), BX, CQ AA, EG AA, DR (CJ AA), BX, BX, IS AA, BX⟩) O E.1 t (by have := Y; omega) (CR E.2.1) ?_)
  intro bl af aa b4 E
  obtain ⟨ax, av, rfl, ai, _⟩ := aa.shp
  replace E := E.r (e := elS) (S := DX u af.heap.size) aa (fun _ g => g.2)
  refine yG ?_
  refine EF O (BZ NG O (sD _ ((qT c) :: FJ l mm) 42 _ (BW E.1) (Nat.le_trans (kW hV hmm hF) AE) (by rw [List.length_cons]; omega)) O E ?_)
  intro bh cc E
  refine yG ?_
  exact ⟨jN (sS (.inl h0)), e8 E⟩
 by_cases C : c = ((1 : Int) : Rat)
 case pos =>
  refine yG ?_
  refine sE E [0,1,2,3,4,5,6,7,8,9] ?_
  replace E := E.drew
  refine yG ?_
  refine SW O O O O O (fun w G => EW (c := false) O O O (by rw [beq_eq_false_iff_ne]; intro hh; exact h0 (List.eq_nil_of_length_eq_zero AA))) ?_
  refine yG ?_
  refine SW O O O Z O (fun w G => CD GV O O (Cs.sub (Bx.cs (G.2.2.1)) 0 (FG _ _ _ _ _)) O) ?_
  refine yG ?_
  refine JM (o := ⟨some 45, _, _, _, _, _⟩) O O O O (CV OJ O (rV 1 _ AE AE) O E ?_)
  intro bg bt bp bv bn cb E
  refine ⟨E.2.2, ?_⟩
  have ar : FitQ ((1 : Int) : Rat) 4 := OX (k := 4) AE (EV AE AE)
  refine yG ?_
  refine JM (o := ⟨some 46, _, _, _, _, _⟩) O O O O (CK VU O (Un _ _ _ _ c _ _ _ _ ((1 : Int) : Rat) _ (e8 E) (e7 E) E.2.1 E.1 (FitQ.mono hF AE) (FitQ.mono ar AE)) O E ?_)
  intro bf ca E
  refine ⟨E.2.2, ?_⟩
  refine yG ?_
  refine SW O O O Z O (fun w G => UZ (c := false) O O O (by rw [bne, Nz C]; rfl)) ?_
  refine yG ?_
  refine EF O (BZ NG O (sD _ (FJ l mm) 42 _ (Acc.low E.2.2.1.1) (Nat.le_trans (qZ hV hmm) AE) AA) O E ?_)
  intro bd c9 E
  refine yG ?_
  exact ⟨jN (Jj h0 C), e9 E⟩
 refine yG ?_
 refine sE E [0,1,2,3,4,5,6,7,8,9] ?_
 replace E := E.drew
 refine yG ?_
 refine SW O O O O O (fun w G => EW (c := false) O O O (by rw [beq_eq_false_iff_ne]; intro hh; exact h0 (List.eq_nil_of_length_eq_zero AA))) ?_
 refine yG ?_
 refine SW O O O Z O (fun w G => CD GV O O (Cs.sub (Bx.cs (G.2.2.1)) 0 (FG _ _ _ _ _)) O) ?_
 refine yG ?_
 refine JM (o := ⟨some 45, _, _, _, _, _⟩) O O O O (CV OJ O (rV 1 _ AE AE) O E ?_)
 intro bc br bo bu bm c8 E
 refine ⟨E.2.2, ?_⟩
 have aq : FitQ ((1 : Int) : Rat) 4 := OX (k := 4) AE (EV AE AE)
 refine yG ?_
 refine JM (o := ⟨some 46, _, _, _, _, _⟩) O O O O (CK VU O (Un _ _ _ _ c _ _ _ _ ((1 : Int) : Rat) _ (e8 E) (e7 E) E.2.1 E.1 (FitQ.mono hF AE) (FitQ.mono aq AE)) O E ?_)
 intro bb c7 E
 refine ⟨E.2.2, ?_⟩
 refine yG ?_
 refine SW O O O Z O (fun w G => UZ (c := true) O O O (by rw [bne, Ny C]; rfl)) ?_
 refine yG ?_
 refine V O O (CD GV O O (Cs.sub (Bx.cs (e4 E)) 0 (FG _ _ _ _ _)) O) ?_
 refine yG ?_
 refine EF O (BZ UJ O (Ol _ _ _ _ c _ (e8 E) (e7 E) (FitQ.mono hF AE)) O E ?_)
 intro ba c6 E
 refine yG ?_
 refine EF O (JJ (s := (bs (qT c))) O O ?_)
 intro ao b9 az b3 am ac
 have q : ((.slice H (FJ l mm).length y) : Value).ownBlock ≠ some ao := fun h => by have := (Acc.lt E.2.2.1.1 h).2; omega
 replace E := E.below am
 replace E := E.x ac
 have a7 := e3 E
 refine yG ?_
 replace E := Iz E
 refine EF O (YE (x := qT c) O O O a7.1 a1 E (fun g Q h1 h2 => ⟨CQ (fun e => q (e ▸ Q)), BX, BX, BX, CQ AA, EG AA, DR (CJ AA), BX, BX, IS AA, BX⟩) O E.1 q (by have := Y; omega) (CR (e3 E)) ?_)
 intro bk ae a9 b2 E
 obtain ⟨aw, au, rfl, ah, _⟩ := a9.shp
 replace E := E.r (e := elS) (S := DX u ae.heap.size) a9 (fun _ g => g.2)
 refine yG ?_
 refine EF O (BZ NG O (sD _ ((qT c) :: FJ l mm) 42 _ (BW E.1) (Nat.le_trans (kW hV hmm hF) AE) (by rw [List.length_cons]; omega)) O E ?_)
 intro b7 c5 E
 refine yG ?_
 exact ⟨jN (sS (.inr C)), QM E⟩
end Go.Proofs.YtmppigbbkjepiaaGreatDoor
set_option maxHeartbeats 2000000
set_option maxRecDepth 100000
namespace Go.Proofs.YtmppigbbkjepiaaGreatDoor
open Go.Proofs.Tryz
open Go.RowKit W
theorem Ox (s : ByteArray) : ∀ u ∈ Lib.strCells s, Gn u := by
  intro u f k e
  subst e
  simp only [Lib.strCells, List.mem_map] at f
  obtain ⟨b, _, h⟩ := f
  cases h
theorem Gn_u8 (n : Nat) : ∀ u ∈ (Builtin.zeroCells (Value.int .u8 0).cells n).toList, Gn u := by
  intro u f k e
  subst e
  unfold Builtin.zeroCells at f
  simp only [Array.toList_map, List.mem_map] at f
  obtain ⟨j, _, h⟩ := f
  have : (Value.int .u8 0).cells = #[.int .u8 0] := rfl
  rw [this] at h
  simp [Nat.mod_one] at h
theorem pX {P : Program} {w : World} (base : Nat) (t u ty e : TypeId) (i : TypeInfo) (ht : P.underlying t = some (.slice e)) (hu : P.underlying u = some .string) (hi : P.info? e = some i) (hz : i.zero = some (.int .u8 0))
    (hsize : i.size = 1) (hby : i.bytes = 1) (v : Value) (n : Nat) (xs : List Value) (hown : RowG w base e 1 Gn v n xs) (s : ByteArray)
    (h63 : n + s.size ≤ maxLen) (hbytes : n + s.size ≤ 140737488355328) (hbase : base ≤ w.heap.size) :
    ∃ v' w', (Builtin.append_ #[t, u] ty #[v, .string s]).run P w = .ok v' w' ∧ RowG w' base e 1 Gn v' (n + s.size) (xs ++ Lib.strCells s) ∧
      ((Below w.heap.size w w' ∧ (v'.ownBlock = some w.heap.size ∨ v' = .slice none 0 0)) ∨ (∃ g, v.ownBlock = some g ∧ v'.ownBlock = some g ∧ Onl g w w')) := by
  have H : n + s.size ≤ 9223372036854775807 := by simp only [maxLen] at h63; omega
  have q : xs.length = n := by simpa using hown.1
  have h : (xs ++ Lib.strCells s).length = (n + s.size) * 1 := by rw [List.length_append, q, Lib.strCells_length, Nat.mul_one]
  have B : ∀ o : Obj, Below w.heap.size w (w.drew.alloc o) := fun o => ((Below.refl _ _).drew).alloc (Nat.le_refl _) o
  have grown : ∀ (f : Nat), f < n + s.size → (∀ u ∈ xs, Gn u) →
      RowG (w.drew.alloc (.cells (xs.toArray ++ (Lib.strCells s).toArray ++ Builtin.zeroCells (Value.int .u8 0).cells (grownCap w (n + s.size) f e - (n + s.size))) e)) base e 1 Gn
        (.slice (some ⟨w.heap.size, 0, none⟩) (n + s.size) (grownCap w (n + s.size) f e)) (n + s.size) (xs ++ Lib.strCells s) := by
    intro f ho S
    have N := grownCap_ge w (n + s.size) f e
    have D : grownCap w (n + s.size) f e ≤ maxLen := grownCap_le_maxLen w (n + s.size) f e h63
    refine ⟨h, .inr ⟨w.heap.size, _, _, O, hbase, heap_alloc_new w.drew _, N, D, ?_, ?_, ?_⟩⟩
    · have J : (Value.int IntKind.u8 0).cells.size = 1 := rfl
      simp only [Array.size_append, List.size_toArray, size_zeroCells, J, q, Lib.strCells_length]
      omega
    · simp only [Array.toList_append, List.append_assoc]
      rw [← List.append_assoc, ← h]
      exact List.take_left
    · intro u hu
      simp only [Array.toList_append, List.mem_append] at hu
      rcases hu with (hu | hu) | hu
      · exact S u hu
      · exact Ox s u hu
      · exact Gn_u8 _ u hu
  rcases hown.2 with ⟨rfl, rfl⟩ | ⟨g, k, z, rfl, R, T, a0, D, Q, l, F⟩
  · have Y : xs = [] := List.eq_nil_of_length_eq_zero q
    subst Y
    by_cases I : s.size = 0
    · have hn : Lib.strCells s = [] := List.eq_nil_of_length_eq_zero (by rw [Lib.strCells_length]; exact I)
      refine ⟨.slice none 0 0, w, ?_, by rw [I, hn]; exact YB w base e 1 Gn, .inl ⟨Below.refl _ _, .inr O⟩⟩
      have U := Lib.run_firstCells_string (P := P) w 1 s
      rw [I] at U
      simp [Builtin.append_, run_underlying ht, run_underlying hu, sizeOf, typeInfo, hi, hsize, Builtin.lenOf, I, U]
    · have G := run_append_nil_string (P := P) w t u ty e i (.int .u8 0) ht hu hi hz s AA AA (by rw [hby]; omega)
      have y := grown 0 AA (by intro u hu; cases hu)
      simp only [Nat.zero_add, List.nil_append, Array.empty_append] at y ⊢
      have e1 : (s.data.map fun b => Value.int .u8 b.toNat) = (Lib.strCells s).toArray := by
        apply Array.ext'
        simp [Lib.strCells]
      rw [e1] at G
      exact ⟨_, _, G, y, .inl ⟨B _, .inl rfl⟩⟩
  · by_cases p : n + s.size ≤ k
    · have X : z.size = k := by simpa using Q
      have G := Lib.run_append_room_string (P := P) w t u ty e i ht hu hi hsize g n k z T s p AA
      refine ⟨_, _, G, ⟨h, .inr ⟨g, k, _, O, R, setRow_heap w g z _ e _ T, p, D, ?_, ?_, ?_⟩⟩, .inr ⟨g, O, O, LX _ _ _⟩⟩
      · simp only [List.size_toArray, List.length_append, List.length_take, List.length_drop, Array.length_toList, Lib.strCells_length]
        omega
      · have L : z.toList.take n = xs := by simpa using l
        rw [L, ← h]
        exact List.take_left
      · intro u hu
        simp only [List.mem_append] at hu
        rcases hu with (hu | hu) | hu
        · exact F u (List.mem_of_mem_take hu)
        · exact Ox s u hu
        · exact F u (List.mem_of_mem_drop hu)
    · have C : ∀ j u, xs[j]? = some u → w.cell? ((⟨g, 0, none⟩ : Addr).add j) = some u := hown.own.cells (g := g) rfl
      have G := Lib.run_append_grow_string (P := P) w t u ty e i (.int .u8 0) ht hu hi hz ⟨g, 0, none⟩ n k xs (by rw [hsize]; simpa using q) C s AA AA (by rw [hby]; exact growslice_fits AA AA)
      have y := grown k AA (fun u hu => F u (by rw [← l] at hu; exact List.mem_of_mem_take hu))
      exact ⟨_, _, G, y, .inl ⟨B _, .inl rfl⟩⟩
theorem gQ {P : Program} {w : World} {ops : Array Oper} {rest : List Oper} {o : Oper} {a : Act} {Q : Exit → Act → World → Prop} (hgd : o.guard = none) (sl x : Operand) (t u : TypeId)
    (ho : o.op = .call { callee := .builtin .append, args := #[sl, x], argTypes := #[t, u] })
    (base : Nat) (e : TypeId) (i : TypeInfo) (ht : P.underlying t = some (.slice e)) (hu : P.underlying u = some .string) (hi : P.info? e = some i) (hz : i.zero = some (.int .u8 0))
    (hsize : i.size = 1) (hby : i.bytes = 1)
    (v : Value) (n : Nat) (xs : List Value) (hs : a.eval sl = v) (hown : RowG w base e 1 Gn v n xs) (s : ByteArray) (hx : a.eval x = .string s)
    (h63 : n + s.size ≤ maxLen) (hbytes : n + s.size ≤ 140737488355328) (hbase : base ≤ w.heap.size)
    (h : ∀ v' w', RowG w' base e 1 Gn v' (n + s.size) (xs ++ Lib.strCells s) → ((Below w.heap.size w w' ∧ (v'.ownBlock = some w.heap.size ∨ v' = .slice none 0 0)) ∨ (∃ g, v.ownBlock = some g ∧ v'.ownBlock = some g ∧ Onl g w w')) → wpList P ops Q rest (a.put o.dst v') w') : wpList P ops Q (o :: rest) a w := by
  refine wpList_plain hgd fun K k => ?_
  obtain ⟨v', w', f, p, l⟩ := pX (P := P) base t u o.type e i ht hu hi hz hsize hby v n xs hown s h63 hbytes hbase
  unfold Oper.wp execOp
  simp only [ho, resolve, invoke, builtin, Sem.run_bind, Sem.run_pure, Result.andThen_ok, List.map_toArray, List.map_cons, List.map_nil, hs, hx, f]
  exact k _ _ (h v' w' p l)
abbrev ZR : Nat := 105
theorem szB : (prog.info? ZR).map (·.size) = some 2 := by kernel_rfl
theorem liesB : liesAt prog prog.depth ZR (2 / prog.cellsOf ZR) 0 ZR 1 = true := by kernel_rfl
theorem u8B : (prog.info? 5).map (fun i => (i.zero, i.size, i.bytes)) = some (some (.int .u8 0), 1, 1) := by kernel_rfl
theorem lK (b : Nat) (w : World) (h0 : w.cell? ⟨b, 0, none⟩ = some (.pointer (some ⟨b, 0, none⟩))) :
    Calls prog 96 #[.pointer (some ⟨b, 0, none⟩)] w fun e w' => e = .returned (.tuple #[]) ∧ w' = w := by
  obtain ⟨j, f, _⟩ := Option.map_eq_some_iff.1 szB
  go_enter func96, ntmps96
  go_wp2
  rw [Lib.run_neq_ptr_same w _ underlying103 f]
  go_wp2
  go_end0
  exact ⟨rfl, rfl⟩
theorem iC (b : Nat) (w : World) (h0 : w.cell? ⟨b, 0, none⟩ = some (.pointer none)) (hsh : w.shape? b = some (ZR, 2)) (hfz : w.frozen? ⟨b, 0, none⟩ = false) :
    Calls prog 96 #[.pointer (some ⟨b, 0, none⟩)] w fun e w' => e = .returned (.tuple #[]) ∧ w' = w.setCell ⟨b, 0, none⟩ (.pointer (some ⟨b, 0, none⟩)) := by
  obtain ⟨j, h, f⟩ := Option.map_eq_some_iff.1 szB
  go_enter func96, ntmps96
  go_wp2
  rw [Lib.run_to_unsafe w ⟨b, 0, none⟩ underlying103 underlying181 h (by rw [f]; decide) hsh (Nat.zero_lt_succ 1)]
  simp only [Result.andThen]
  rw [Oper.upon_value]
  go_wp2
  rw [run_callFunc_extern func143 Z Z Z (e := Extern.AbiNoEscape.same) Z]
  rw [Lib.run_noEscape]
  simp only [Result.andThen]
  rw [Oper.upon_value]
  go_wp2
  rw [Lib.run_from_unsafe w ⟨b, 0, none⟩ underlying181 underlying103 h hsh liesB]
  simp only [Result.andThen]
  rw [Oper.upon_value]
  go_wp2
  go_end0
  exact ⟨rfl, rfl⟩
def elB : El UInt8 where
  sz := 1
  p := fun _ _ cs x => cs = [.int .u8 x.toNat]
  keep := fun h _ => h
  mono := fun h _ => h
  len := fun h => by subst h; rfl
  one := fun h => by subst h; intro v hv; simp at hv; subst hv; rfl
  nw := fun h => by subst h; intro c hc k e; subst e; simp at hc
def wJ (l : Bs) : List Value := l.map fun b => Value.int .u8 b.toNat
theorem Sz (s : Bs) : Lib.strCells (bs s) = wJ s := by unfold Lib.strCells wJ; rw [FL]
theorem Ta (a b : Bs) : wJ (a ++ b) = wJ a ++ wJ b := List.map_append
theorem Dl (a : Bs) : (wJ a).length = a.length := List.length_map _
theorem Du {t base : Nat} {w : World} {v : Value} {l : Bs} (h : Acc elB t base WI w v l) : RowG w base t 1 Gn v l.length (wJ l) := by
  obtain ⟨e, o, q, _⟩ := h
  have u : e.length = l.length := by have := o.1; rw [show elB.sz = 1 from rfl, Nat.mul_one] at this; exact this
  have : e = wJ l := by
    refine List.ext_getElem? fun i => ?_
    by_cases k : i < l.length
    · have p : (e.drop (i * 1)).take 1 = [.int .u8 (l[i]).toNat] := q i l[i] (List.getElem?_eq_getElem k)
      have f := congrArg (fun c : List Value => c[0]?) p
      simp only [List.getElem?_take, List.getElem?_drop, Nat.mul_one, Nat.add_zero, List.getElem?_cons_zero] at f
      rw [if_pos AE] at f
      rw [f]
      unfold wJ
      rw [List.getElem?_map, List.getElem?_eq_getElem k]; rfl
    · rw [List.getElem?_eq_none AA, List.getElem?_eq_none (by rw [Dl]; omega)]
  rw [← this]; exact o
theorem Ab {t base : Nat} {w : World} {v : Value} {l : Bs} (h : RowG w base t 1 Gn v l.length (wJ l)) : Acc elB t base WI w v l := by
  refine ⟨wJ l, h, fun i x e => ?_, fun _ _ h => h⟩
  show ((wJ l).drop (i * 1)).take 1 = [.int .u8 x.toNat]
  have f := (List.getElem?_eq_some_iff.1 e).1
  rw [Nat.mul_one]
  have k : (wJ l).drop i = .int .u8 x.toNat :: (wJ l).drop (i + 1) := by
    rw [List.drop_eq_getElem_cons (by rw [Dl]; exact f)]
    congr 1
    unfold wJ
    rw [List.getElem_map, (List.getElem?_eq_some_iff.1 e).2]
  rw [k]; rfl
theorem Wg : ZR ≠ 5 := by decide
theorem xM {w : World} {base e T n : Nat} {v : Value} {xs : List Value} {b : Nat} {cs : List Value} (h : RowG w base e 1 Gn v n xs) (hb : Bx w b T cs) (hT : T ≠ e) : v.ownBlock ≠ some b := Lib.ownBlock_ne h.own hb hT
theorem bZ (w : World) (b o : Nat) (v : Value) : Onl b w (w.setCell ⟨b, o, none⟩ v) := gE w b o v
theorem Sw {w : World} {b T : Nat} {p v q : Value} (h : Bx w b T [p, v]) : Bx (w.setCell ⟨b, 0, none⟩ q) b T [q, v] := by
  unfold Bx at *
  simp [World.setCell, Array.getElem?_modify, h]
theorem Sv {w : World} {b T : Nat} {p v q : Value} (h : Bx w b T [p, v]) : Bx (w.setCell ⟨b, 1, none⟩ q) b T [p, q] := by
  unfold Bx at *
  simp [World.setCell, Array.getElem?_modify, h]
def Wrote (base b : Nat) (v : Value) (l : Bs) (w w' : World) : Prop :=
  ∃ v', Bx w' b ZR [.pointer (some ⟨b, 0, none⟩), v'] ∧ Acc elB 5 base WI w' v' l ∧ w.heap.size ≤ w'.heap.size ∧ (∀ c, c < w.heap.size → v.ownBlock ≠ some c → v'.ownBlock ≠ some c) ∧
    ∀ L, Env w L → Ok b L → (∀ g, v.ownBlock = some g → base ≤ g → g < w.heap.size → Ok g L) → Env w' L
theorem vI (b : Nat) (p v : Value) (w : World) (hb : Bx w b ZR [p, v]) (hp : p = .pointer none ∨ p = .pointer (some ⟨b, 0, none⟩)) :
    Calls prog 96 #[.pointer (some ⟨b, 0, none⟩)] w fun e w' => e = .returned (.tuple #[]) ∧ Bx w' b ZR [.pointer (some ⟨b, 0, none⟩), v] ∧ (w' = w ∨ Onl b w w') := by
  rcases hp with rfl | rfl
  · refine (iC b w (by rw [hb.cell]; rfl) (by unfold World.shape?; rw [show w.heap[b]? = _ from hb]; rfl) (Lib.frozen_of_heap hb 0)).mono ?_
    rintro e w' ⟨rfl, rfl⟩
    exact ⟨rfl, Sw hb, .inr (bZ _ _ _ _)⟩
  · refine (lK b w (by rw [hb.cell]; rfl)).mono ?_
    rintro e w' ⟨rfl, rfl⟩
    exact ⟨rfl, hb, .inl rfl⟩
theorem now2 {p v : Value} (hp : p = .pointer none ∨ ∃ a, p = .pointer (some a)) (hv : ∃ ao n cap, v = .slice ao n cap) : SJ [p, v] := by
  obtain ⟨ao, n, cap, rfl⟩ := hv
  intro c f k e
  subst e
  rcases hp with rfl | ⟨a, rfl⟩ <;> simp at f
theorem mV (b base : Nat) (p v : Value) (l s : Bs) (w : World) (hb : Bx w b ZR [p, v]) (hA : Acc elB 5 base WI w v l) (hp : p = .pointer none ∨ p = .pointer (some ⟨b, 0, none⟩)) (hlen : l.length + s.length ≤ 140737488355328) (hbase : base ≤ w.heap.size) :
    Calls prog 48 #[.pointer (some ⟨b, 0, none⟩), .string (bs s)] w fun e w' => e = .returned (.tuple #[.int .i64 ↑s.length, .nilIface]) ∧ Wrote base b v (l ++ s) w w' := by
  obtain ⟨i0, hi, z⟩ := Option.map_eq_some_iff.1 u8B
  simp only [Prod.mk.injEq] at z
  obtain ⟨z, T, S⟩ := z
  have I : ∃ C n k, v = .slice C n k := by obtain ⟨C, k, e⟩ := hA.shp; exact ⟨C, _, k, e⟩
  have U : wK w b := hb.noW (now2 (hp.elim .inl fun e => .inr ⟨_, e⟩) I)
  have t := Du hA
  have P := xM t hb Wg
  go_enter func48, ntmps48
  go_wp2_with (go_at_call 96; refine (vI b p v _ hb hp).mono ?_)
  rintro e H ⟨rfl, G, F⟩
  have B : H.heap.size = w.heap.size := by rcases F with rfl | h; rfl; exact h.size
  have o : RowG H base 5 1 Gn v l.length (wJ l) := by rcases F with rfl | h; exact t; exact t.onl P h
  have c1 : H.cell? ⟨b, 1, none⟩ = some v := by rw [G.cell]; rfl
  go_wp2_with (at_builtin; refine gQ rfl _ _ 42 9 rfl base 5 i0 underlying42 underlying9 hi z T S _ _ _ rfl o (bs s) rfl ?c3 ?c4 ?c5 ?_)
  case c3 => rw [EX]; unfold maxLen; omega
  case c4 => rw [EX]; omega
  case c5 => omega
  intro v' D q f
  have y : Bx D b ZR [.pointer (some ⟨b, 0, none⟩), v] := by
    rcases f with ⟨h, _⟩ | ⟨g, R, _, h⟩
    · exact G.below (by rw [B]; exact h)
    · exact G.onl (fun e => P (by rw [R, e])) h
  have d1 : D.cell? ⟨b, 1, none⟩ = some v := by rw [y.cell]; rfl
  have f1 : D.frozen? ⟨b, 1, none⟩ = false := Lib.frozen_of_heap y 1
  obtain ⟨C, Q, k, rfl⟩ : ∃ C Q k, v' = .slice C Q k := by
    rcases q.2 with ⟨J, _⟩ | ⟨g, k, a0, J, _⟩
    · exact ⟨_, _, _, J⟩
    · exact ⟨_, _, _, J⟩
  have Y : H.heap.size ≤ D.heap.size := by
    rcases f with ⟨h, _⟩ | ⟨g, R, _, h⟩
    · exact h.size
    · exact Nat.le_of_eq h.size.symm
  go_wp2
  go_ret2
  refine ⟨by rw [EX]; rfl, _, Sv y, ?_, ?_, ?_, ?_⟩
  · refine Ab ?_
    have N := xM q y Wg
    have := q.onl N (bZ D b 1 (.slice C Q k))
    rw [EX, Sz, ← Ta] at this
    rw [List.length_append]; exact this
  · rw [(bZ D b 1 (.slice C Q k)).size]; omega
  · intro c hc J
    rcases f with ⟨_, h | h⟩ | ⟨g, u, X, _⟩
    · rw [h]; simp only [ne_eq, Option.some.injEq]; omega
    · rw [h]; simp [Value.ownBlock]
    · rw [X, ← u]; exact J
  · intro L E hk R
    have E1 : Env H L := by rcases F with rfl | h; exact E; exact E.onl U hk h
    have E2 : Env D L := by
      rcases f with ⟨h, _⟩ | ⟨g, u, _, h⟩
      · exact E1.below (by rw [B]; exact h)
      · have := o.own.lt g u
        exact E1.onl (o.noW u pG) (R g u this.1 AA) h
    exact E2.onl (y.noW (now2 (.inr ⟨_, rfl⟩) I)) hk (bZ _ _ _ _)
end Go.Proofs.YtmppigbbkjepiaaGreatDoor
