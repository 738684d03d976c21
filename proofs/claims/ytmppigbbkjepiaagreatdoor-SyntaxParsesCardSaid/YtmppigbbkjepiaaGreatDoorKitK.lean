/- Helping facts of PText; no other conditions. Helping facts of KitK; no other conditions. -/
import Derived.Test.YtmppigbbkjepiaaGreatDoorKitJ
import Derived.Lib.AppendStr
import Derived.Lib.Builder
namespace Go.Proofs.YtmppigbbkjepiaaGreatDoor
open Go.Proofs.Tryz
open Go.RowKit W
variable {M : List Nat} {P : Program} {T b base n t : Nat} {c : Rat} {p q v : Value} {w : World}
theorem YB1 {p : Prop} (h : p := by rw [beq_eq_false_iff_ne]; intro hh; exact h0 (List.eq_nil_of_length_eq_zero AA)) : p := h
def iR (n : Nat) : SF := ⟨fun w => n <= w.heap.size, fun _ => True, fun h hb => Nat.le_trans h hb.size, fun h _ _ hb => by rw [hb.size]; exact h⟩
theorem Env.sz {L : List SF} (E : Env w L) (h : n <= w.heap.size) : Env w (iR n :: L) := ⟨h, E⟩
theorem CS (h : (iR n).p w) : n <= w.heap.size := h
theorem Acc.low {α : Type} {e : El α} {l : List α} (h : Acc e t base WW w v l) : IsR e (DL w.heap.size) w v l := h.row (fun _ g => g.elim) fun _ _ g _ => g
def qT (x : Rat) : Bs := (NF x).data.toList
theorem Sa (n : Bool) (s : Value) (m : Bool) (u : Value) (x : Rat) (w : World) (h1 : IsI w (.agg #[.bool n, s]) x.num) (h2 : IsI w (.agg #[.bool m, u]) ((x.den : Nat) : Int)) (h3 : FitQ x 1000000) :
 Calls prog 132 #[.agg #[.bool n, s, .bool m, u]] w (GY w (.string (bs (qT x)))) := by
 refine (D6 n s m u x w h1 h2 h3).mono ?_
 rintro e h ⟨rfl, f⟩
 exact ⟨by unfold qT; rw [sZ], f⟩
theorem Cg {x : Rat} (h : FitQ x 1000000) : (qT x).length <= 30000000 := by
 have k := eW h.1 AE
 have f := eW h.2 AE
 have e : (qT x).length = (NF x).size := rfl
 rw [e]; unfold NF
 split
 . omega
 rw [ByteArray.size_append, ByteArray.size_append]
 have : (⟨#[47]⟩ : ByteArray).size = 1 := rfl
 omega
theorem ZU (n : Nat) : (txt ((n : Nat) : Int)).length <= n + 1 := by
 unfold txt
 rw [if_neg AA, List.nil_append]
 unfold ZQ
 rw [List.length_map, Int.natAbs_natCast]
 induction n using Nat.strongRecOn with
 | _ n ih =>
   by_cases h : n < 10
   . rw [QC n h]; simp
   rw [WX n AA, List.length_append]
   have := ih (n / 10) AA
   simp only [List.length_cons, List.length_nil]; omega
theorem sN : ∀ (l : List Bs) (x : Bs) (ns : List Nat), l.length < ns.length -> FX (l ++ [x]) ns = FX l ns ++ YW x (me ns l.length)
 | [], x, n :: ns, _ => by cases ns <;> simp [FX, me]
 | v :: l, x, n :: ns, h => by
   have h2 := sN l x ns (by simpa using h)
   simp only [List.cons_append, FX]
   rw [h2, List.append_assoc]; rfl
 | _, _, [], h => by simp at h
theorem TZ {l : List Bs} {i : Nat} {x : Bs} (hM : FC M) (hl : l.length <= 8) (hx : l[i]? = some x) : FX (l.take (i + 1)) M = FX (l.take i) M ++ YW x (me M i) := by
 have f := (List.getElem?_eq_some_iff.1 hx).1
 have e : (l.take i).length = i := by rw [List.length_take]; omega
 rw [KK hx, sN _ _ _ (by rw [e, hM.1]; omega), e]
theorem sO (x : Bs) (h : n = 0) : YW x n = [] := by unfold YW; rw [if_pos h]
theorem oV (x : Bs) (h : n = 1) : YW x n = [x] := by subst h; rfl
theorem jG (x : Bs) (h : 1 < n) : YW x n = [x ++ 94 :: txt (n : Int)] := by unfold YW; rw [if_neg AA, if_neg AA]
theorem Qq (x : Bs) (n : Nat) : (YW x n).length <= 1 := by unfold YW; split <;> (try split) <;> simp
theorem gR : ∀ (l : List Bs) (M : List Nat), (FX l M).length <= l.length
 | [], M => by unfold FX; simp
 | _ :: _, [] => by unfold FX; simp
 | v :: l, n :: M => by
   have := gR l M; have := Qq v n
   simp only [FX, List.length_append, List.length_cons]; omega
theorem Vt {x : Bs} {p : Bs} (h : p ∈ YW x n) : p.length <= x.length + n + 2 := by
 have := ZU n
 unfold YW at h
 split at h
 . cases h
 split at h
 . simp at h; subst h; omega
 simp at h; subst h
 simp only [List.length_append, List.length_cons]; omega
theorem Gq : ∀ (l : List Bs) (M : List Nat) (p : Bs), (∀ v ∈ l, v.length <= 12) -> (∀ e ∈ M, e <= 65535) -> p ∈ FX l M -> p.length <= 65549
 | [], M, p, _, _, h => by unfold FX at h; simp at h
 | _ :: _, [], p, _, _, h => by unfold FX at h; simp at h
 | v :: l, n :: M, p, h1, h2, h => by
   simp only [FX, List.mem_append] at h
   rcases h with h | h
   . have := Vt h; have := h1 v AH; have := h2 n AH; omega
   exact Gq l M p (fun u hu => h1 u (by simp [hu])) (fun e he => h2 e (by simp [he])) h
theorem Qb {b : UInt8} {l : List Bs} (h : ∀ p ∈ l, p.length <= n) : (jn b l).length <= l.length * (n + 1) := by
 refine Nat.le_trans (Pz b l) ?_
 induction l with
 | nil => simp
 | cons x l ih =>
   have := ih (fun p e => h p (by simp [e]))
   have := h x AH
   simp only [List.map_cons, List.sum_cons, List.length_cons, Nat.add_mul]
   omega
theorem Zq {k : Nat} {l : List Bs} (h : DM k l = true) : ∀ v ∈ l, v.length <= 12 := fun v hv => oK (SK h v hv)
theorem mD {l : List Bs} (hV : DM 8 l = true) (hM : FC M) : (jn 42 (FX l M)).length <= 1000000 := by
 have k := Qb (b := 42) (fun p e => Gq l M p (Zq hV) hM.2 e)
 have h := gR l M
 have f := IG hV
 have : (FX l M).length * 65550 <= 8 * 65550 := Nat.mul_le_mul_right _ AA
 omega
theorem oI {l : List Bs} (hV : DM 8 l = true) (hM : FC M) (hc : FitQ c 1000000) : (jn 42 (qT c :: FX l M)).length <= 31000002 := by
 have f := mD hV hM
 have e := Cg hc
 by_cases h : FX l M = []
 . rw [h]; simp only [jn]; omega
 rw [MV 42 _ h]
 simp only [List.length_append, List.length_cons]; omega
theorem bK {l : List Bs} (hV : DM 8 l = true) (hM : FC M) (hc : FitQ c 1000000) : (GA l c M).length <= 31000002 := by
 unfold GA
 split
 . exact oI hV hM hc
 have := mD hV hM; omega
theorem SX {a b : Bs} (h : a = b) : Ending.returned (.string (bs a)) = .returned (.string (bs b)) := by rw [h]
theorem nC {l : List Bs} (h : FX l M = [] ∨ c ≠ 1) : jn 42 (qT c :: FX l M) = GA l c M := by unfold GA; rw [if_pos h]; rfl
theorem wJ {l : List Bs} (h : FX l M ≠ []) (hc : c = 1) : jn 42 (FX l M) = GA l c M := by unfold GA; rw [if_neg]; rintro (g | g); exact h g; exact g hc
set_option maxRecDepth 100000 in
set_option maxHeartbeats 8000000 in
theorem NG (na : Bool) (sa : Value) (ma : Bool) (ua : Value) (c : Rat) (mm : List Nat) (vl : Value) (l : List Bs) (w : World) (hna : IsI w (.agg #[.bool na, sa]) c.num) (hda : IsI w (.agg #[.bool ma, ua]) ((c.den : Nat) : Int)) (hmm : FC mm) (hRl : IsR elS (DL w.heap.size) w vl l) (hF : FitQ c 1000000) (hV : DM 8 l = true) (hG : Glob w) :
 Calls prog 84 #[.agg (EW na sa ma ua mm).toArray, vl] w (GY w (.string (bs (GA l c mm)))) := by
 have E := Env.start w
 replace E := (E.i hna).i hda
 obtain ⟨T, u, rfl, c0, bx⟩ := hRl.shp
 replace E := E.r hRl (DZ _)
 have Q := IG hV
 have c2 := hG.two
 replace E := E.gl hG
 go_enter func84, ntmps84
 refine yG ?_
 refine EF O (CM (cs := (EW na sa ma ua mm)) O O ?_)
 intro b1 w1 ak z1 d1 x1
 have l1 : w.heap.size <= b1 := by rw [ak]; exact (e4 E).size
 replace E := E.below d1
 replace E := E.x x1
 obtain ⟨t, G⟩ : ∃ n, n = w1.heap.size := ⟨_, rfl⟩
 have aa : b1 < t := by rw [G]; exact Bx.lt E.1
 replace E := (E.sz (Nat.le_of_eq G)).a (Acc.nil elS 9 t WW _) (RO _)
 refine yG ?_
 refine wp_loop_ghost (fun mz a w' => ∃ (i : Nat) (J : Value) (y : List Bs) (D : List Value), D = a.tmps.toList /\ a = ⟨(.agg (EW na sa ma ua mm).toArray :: .slice T l.length u :: .pointer (some ⟨b1, 0, none⟩) :: undef :: .string (bs ([])) :: J :: gr D 6 3 (.slice T l.length u :: .int .i64 ↑l.length :: .int .i64 ↑i :: gr D 12 45 [])).toArray, []⟩ /\ Env w' [fA elS 9 t WW J y, iR t, fX b1 (88) (EW na sa ma ua mm), fGl, fR elS (DL w.heap.size) (.slice T l.length u) l, fI (.agg #[.bool ma, ua]) ((c.den : Nat) : Int), fI (.agg #[.bool na, sa]) c.num, fW w] /\ mz = l.length - i /\ (i <= l.length /\ y = FX (l.take i) mm /\ (y = [] -> J = .slice none 0 0))) (l.length) ⟨0, (.slice none 0 0), [], _, O, O, zE, O, ⟨Nat.zero_le _, by simp [FX], fun _ => rfl⟩⟩ ?_
 rintro m3 _ w3 ⟨i, J, y, D, -, rfl, E, P, a3⟩
 dsimp only [gr, Nat.reduceAdd]
 obtain ⟨a3, U⟩ := a3
 by_cases hi : i < l.length
 case pos =>
  obtain ⟨F, f⟩ : ∃ x, l[i]? = some x := ⟨_, List.getElem?_eq_getElem hi⟩
  obtain ⟨X, bq, _, R, a0, aj, af⟩ := IsR.at (e4 E).1 f
  obtain rfl := (show _ = [Value.string (bs F)] from af)
  have ai : X < _ := (e4 E).2 _ a0
  replace E := E.c aj ai
  have c1 : X < w.heap.size := a0
  have ax : F.length <= 12 := Zq hV _ (List.mem_of_getElem? f)
  have hm := yB hmm i
  have bw := ZU (me mm i)
  have B : y.length <= 8 := by rw [U.1]; exact Nat.le_trans (gR _ _) (by rw [List.length_take]; omega)
  by_cases h1 : ((me mm i : Nat) : Int) = 1
  case pos =>
   refine yG ?_
   refine OL O O R O (List.getElem?_eq_some_iff.1 f).1 ?_
   refine yG ?_
   refine V O O (CR O CW O (e3 E) (Bi hmm AA)) ?_
   refine yG ?_
   refine EF O (GZ (s := (bs F)) O O ?_)
   intro b5 w5 c4 z5 d5 x5
   have N : (J : Value).ownBlock ≠ some b5 := fun h => by have := (Acc.lt E.2.1.1 h).2; omega
   replace E := E.below d5
   replace E := E.x x5
   have a5 := E.2.2.1
   refine yG ?_
   replace E := VC E
   refine EF O (EL (x := F) RT_S O (l := y) O a5.1 a5.2 E (fun g hg h1 h2 => ⟨GO (fun e => N (e ▸ hg)), TJ AA, BX, GO AA, LA AA, FV (CY AA), BX, BX, OP AA, BX⟩) O E.1 (O) (by have := B; unfold maxLen; omega) (by have := B; omega) (CS E.2.2.1) ?_)
   intro v6 w6 E
   refine yG ?_
   exact ⟨_, (by rw [P]; omega), (i + 1), v6, y ++ [F], _, O, O, zE, O, ⟨by omega, by rw [TZ hmm Q f, oV _ AA, U.1], fun h => by simp at h⟩⟩
  by_cases h2 : ((me mm i : Nat) : Int) > 1
  case neg =>
   refine yG ?_
   refine OL O O R O (List.getElem?_eq_some_iff.1 f).1 ?_
   refine yG ?_
   refine V O O (CR O CW O (e3 E) (Bi hmm AA)) ?_
   refine yG ?_
   exact ⟨_, (by rw [P]; omega), (i + 1), J, y, _, O, O, zE, O, ⟨by omega, by rw [TZ hmm Q f, sO _ AA, U.1]; simp, U.2⟩⟩
  refine yG ?_
  refine OL O O R O (List.getElem?_eq_some_iff.1 f).1 ?_
  refine yG ?_
  refine V O O (CR O CW O (e3 E) (Bi hmm AA)) ?_
  refine yG ?_
  refine EF O (CC KE O (jN (me mm i) _ AA (e4 E).1) O E ?_)
  intro w7 d7 E
  refine yG ?_
  refine EF O (GZ (s := (bs ((F ++ ([94])) ++ (txt ((me mm i : Nat) : Int))))) O O ?_)
  intro b8 w8 c3 z8 d8 x8
  have L : (J : Value).ownBlock ≠ some b8 := fun h => by have := (Acc.lt E.2.1.1 h).2; omega
  replace E := E.below d8
  replace E := E.x x8
  have a4 := E.2.2.1
  refine yG ?_
  replace E := VC E
  refine EF O (EL (x := (F ++ ([94])) ++ (txt ((me mm i : Nat) : Int))) RT_S O (l := y) O a4.1 a4.2 E (fun g hg h1 h2 => ⟨GO (fun e => L (e ▸ hg)), TJ AA, BX, GO AA, LA AA, FV (CY AA), BX, BX, OP AA, BX⟩) O E.1 (O) (by have := B; unfold maxLen; omega) (by have := B; omega) (CS E.2.2.1) ?_)
  intro v9 w9 E
  refine yG ?_
  exact ⟨_, (by rw [P]; omega), (i + 1), v9, y ++ [(F ++ ([94])) ++ (txt ((me mm i : Nat) : Int))], _, O, O, zE, O, ⟨by omega, by rw [TZ hmm Q f, jG _ AA, U.1]; simp, fun h => by simp at h⟩⟩
 obtain ⟨a2, a1⟩ := U
 rw [KC hi] at a2
 subst a2
 have Y := gR l mm
 obtain ⟨I, v, rfl⟩ := Acc.shp E.1.1
 by_cases h0 : FX l mm = []
 case pos =>
  refine yG ?_
  refine sE E [0,1,2,3,4,5,6,7,8,9] ?_
  replace E := E.drew
  refine yG ?_
  refine SW O O O O O (fun w H => EK (c := true) O O O (by rw [h0]; rfl)) ?_
  refine yG ?_
  refine V O O (CE EY O O (Cs.sub (Bx.cs E.2.2.1) 0 (EQ _ _ _ _ _)) O) ?_
  refine yG ?_
  refine EF O (CC XS O (Sa _ _ _ _ c _ (e6 E) (e5 E) (FitQ.mono hF AE)) O E ?_)
  intro bj cd E
  refine yG ?_
  refine EF O (GZ (s := (bs (qT c))) O O ?_)
  intro ao bi az b4 am ac
  have q : ((.slice I (FX l mm).length v) : Value).ownBlock ≠ some ao := fun h => by have := (Acc.lt E.1.1 h).2; omega
  replace E := E.below am
  replace E := E.x ac
  have a7 := E.2.1
  refine yG ?_
  replace E := QP E
  refine EF O (bD (x := qT c) O O O a7.1 a1 E (fun g hg h1 h2 => ⟨GO (fun e => q (e ▸ hg)), BX, GO AA, LA AA, FV (CY AA), BX, BX, OP AA, BX⟩) O E.1 q (by have := Y; omega) (CS E.2.1) ?_)
  intro bl ae a9 b3 E
  obtain ⟨aw, au, rfl, ah, _⟩ := a9.shp
  replace E := E.r (e := elS) (S := EM t ae.heap.size) a9 (fun _ g => g.2)
  refine yG ?_
  refine EF O (CC OQ O (wA _ ((qT c) :: FX l mm) 42 _ (BW E.1) (Nat.le_trans (oI hV hmm hF) AE) (by rw [List.length_cons]; omega)) O E ?_)
  intro bh cc E
  refine yG ?_
  exact ⟨SX (nC (.inl h0)), e8 E⟩
 by_cases C : c = ((1 : Int) : Rat)
 case pos =>
  refine yG ?_
  refine sE E [0,1,2,3,4,5,6,7,8,9] ?_
  replace E := E.drew
  refine yG ?_
  refine SW O O O O O (fun w H => EK (c := false) O O O YB1) ?_
  refine yG ?_
  refine SW O O O Z O (fun w H => CE EY O O (Cs.sub (Bx.cs (H.2.2.1)) 0 (EQ _ _ _ _ _)) O) ?_
  refine yG ?_
  refine GG (o := ⟨some 45, _, _, _, _, _⟩) O O O O (CV PX O (vL 1 _ AE AE) O E ?_)
  intro bg bt bp bv bn cb E
  refine ⟨E.2.2, ?_⟩
  have aq : FitQ ((1 : Int) : Rat) 4 := MG (k := 4) AE (EU AE AE)
  refine yG ?_
  refine GG (o := ⟨some 46, _, _, _, _, _⟩) O O O O (CB ZH O (Yf _ _ _ _ c _ _ _ _ ((1 : Int) : Rat) _ (e8 E) (e7 E) E.2.1 E.1 (FitQ.mono hF AE) (FitQ.mono aq AE)) O E ?_)
  intro bf ca E
  refine ⟨E.2.2, ?_⟩
  refine yG ?_
  refine SW O O O Z O (fun w H => RH (c := false) O O O (by rw [bne, pG C]; rfl)) ?_
  refine yG ?_
  refine EF O (CC OQ O (wA _ (FX l mm) 42 _ (Acc.low E.2.2.1.1) (Nat.le_trans (mD hV hmm) AE) AA) O E ?_)
  intro bc c9 E
  refine yG ?_
  exact ⟨SX (wJ h0 C), e9 E⟩
 refine yG ?_
 refine sE E [0,1,2,3,4,5,6,7,8,9] ?_
 replace E := E.drew
 refine yG ?_
 refine SW O O O O O (fun w H => EK (c := false) O O O YB1) ?_
 refine yG ?_
 refine SW O O O Z O (fun w H => CE EY O O (Cs.sub (Bx.cs (H.2.2.1)) 0 (EQ _ _ _ _ _)) O) ?_
 refine yG ?_
 refine GG (o := ⟨some 45, _, _, _, _, _⟩) O O O O (CV PX O (vL 1 _ AE AE) O E ?_)
 intro bb br bo bu bm c8 E
 refine ⟨E.2.2, ?_⟩
 have ap : FitQ ((1 : Int) : Rat) 4 := MG (k := 4) AE (EU AE AE)
 refine yG ?_
 refine GG (o := ⟨some 46, _, _, _, _, _⟩) O O O O (CB ZH O (Yf _ _ _ _ c _ _ _ _ ((1 : Int) : Rat) _ (e8 E) (e7 E) E.2.1 E.1 (FitQ.mono hF AE) (FitQ.mono ap AE)) O E ?_)
 intro ba c7 E
 refine ⟨E.2.2, ?_⟩
 refine yG ?_
 refine SW O O O Z O (fun w H => RH (c := true) O O O (by rw [bne, pF C]; rfl)) ?_
 refine yG ?_
 refine V O O (CE EY O O (Cs.sub (Bx.cs (e4 E)) 0 (EQ _ _ _ _ _)) O) ?_
 refine yG ?_
 refine EF O (CC XS O (Sa _ _ _ _ c _ (e8 E) (e7 E) (FitQ.mono hF AE)) O E ?_)
 intro b9 c6 E
 refine yG ?_
 refine EF O (GZ (s := (bs (qT c))) O O ?_)
 intro an b7 ay b2 al ab
 have p : ((.slice I (FX l mm).length v) : Value).ownBlock ≠ some an := fun h => by have := (Acc.lt E.2.2.1.1 h).2; omega
 replace E := E.below al
 replace E := E.x ab
 have a6 := e3 E
 refine yG ?_
 replace E := qC E
 refine EF O (bD (x := qT c) O O O a6.1 a1 E (fun g hg h1 h2 => ⟨GO (fun e => p (e ▸ hg)), BX, BX, BX, GO AA, LA AA, FV (CY AA), BX, BX, OP AA, BX⟩) O E.1 p (by have := Y; omega) (CS (e3 E)) ?_)
 intro bk ad a8 b0 E
 obtain ⟨av, ar, rfl, ag, _⟩ := a8.shp
 replace E := E.r (e := elS) (S := EM t ad.heap.size) a8 (fun _ g => g.2)
 refine yG ?_
 refine EF O (CC OQ O (wA _ ((qT c) :: FX l mm) 42 _ (BW E.1) (Nat.le_trans (oI hV hmm hF) AE) (by rw [List.length_cons]; omega)) O E ?_)
 intro b6 c5 E
 refine yG ?_
 exact ⟨SX (nC (.inr C)), RD E⟩
set_option maxHeartbeats 2000000
set_option maxRecDepth 100000
theorem Sp (s : ByteArray) : ∀ u ∈ Lib.strCells s, Gn u := by
 intro u f k e
 subst e
 simp only [Lib.strCells, List.mem_map] at f
 obtain ⟨b, _, h⟩ := f
 cases h
theorem Gn_u8 (n : Nat) : ∀ u ∈ (Builtin.zeroCells (Value.int .u8 0).cells n).toList, Gn u := by
 intro u f k e
 subst e
 unfold Builtin.zeroCells at f
 simp only [Array.toList_map, List.mem_map] at f
 obtain ⟨j, _, h⟩ := f
 have : (Value.int .u8 0).cells = #[.int .u8 0] := rfl
 rw [this] at h
 simp [Nat.mod_one] at h
theorem tR (base : Nat) (t u ty e : TypeId) (i : TypeInfo) (ht : P.underlying t = some (.slice e)) (hu : P.underlying u = some .string) (hi : P.info? e = some i) (hz : i.zero = some (.int .u8 0))
 (hsize : i.size = 1) (hby : i.bytes = 1) (v : Value) (n : Nat) (xs : List Value) (hown : RowG w base e 1 Gn v n xs) (s : ByteArray)
 (h63 : n + s.size <= maxLen) (hbytes : n + s.size <= 140737488355328) (hbase : base <= w.heap.size) :
 ∃ v' w', (Builtin.append_ #[t, u] ty #[v, .string s]).run P w = .ok v' w' /\ RowG w' base e 1 Gn v' (n + s.size) (xs ++ Lib.strCells s) /\
  ((Below w.heap.size w w' /\ (v'.ownBlock = some w.heap.size ∨ v' = .slice none 0 0)) ∨ (∃ g, v.ownBlock = some g /\ v'.ownBlock = some g /\ Onl g w w')) := by
 have I : n + s.size <= 9223372036854775807 := by simp only [maxLen] at h63; omega
 have q : xs.length = n := by simpa using hown.1
 have h : (xs ++ Lib.strCells s).length = (n + s.size) * 1 := by rw [List.length_append, q, Lib.strCells_length, Nat.mul_one]
 have C : ∀ o : Obj, Below w.heap.size w (w.drew.alloc o) := fun o => ((Below.refl _ _).drew).alloc (Nat.le_refl _) o
 have grown : ∀ (f : Nat), f < n + s.size -> (∀ u ∈ xs, Gn u) ->
  RowG (w.drew.alloc (.cells (xs.toArray ++ (Lib.strCells s).toArray ++ Builtin.zeroCells (Value.int .u8 0).cells (grownCap w (n + s.size) f e - (n + s.size))) e)) base e 1 Gn
   (.slice (some ⟨w.heap.size, 0, none⟩) (n + s.size) (grownCap w (n + s.size) f e)) (n + s.size) (xs ++ Lib.strCells s) := by
  intro f ho T
  have Q := grownCap_ge w (n + s.size) f e
  have F : grownCap w (n + s.size) f e <= maxLen := grownCap_le_maxLen w (n + s.size) f e h63
  refine ⟨h, .inr ⟨w.heap.size, _, _, O, hbase, heap_alloc_new w.drew _, Q, F, ?_, ?_, ?_⟩⟩
  . have L : (Value.int IntKind.u8 0).cells.size = 1 := rfl
    simp only [Array.size_append, List.size_toArray, size_zeroCells, L, q, Lib.strCells_length]
    omega
  . simp only [Array.toList_append, List.append_assoc]
    rw [<- List.append_assoc, <- h]
    exact List.take_left
  intro u hu
  simp only [Array.toList_append, List.mem_append] at hu
  rcases hu with (hu | hu) | hu
  . exact T u hu
  . exact Sp s u hu
  exact Gn_u8 _ u hu
 rcases hown.2 with ⟨rfl, rfl⟩ | ⟨g, k, B, rfl, S, hg, a0, F, R, l, G⟩
 . have Y : xs = [] := List.eq_nil_of_length_eq_zero q
   subst Y
   by_cases J : s.size = 0
   . have hn : Lib.strCells s = [] := List.eq_nil_of_length_eq_zero (by rw [Lib.strCells_length]; exact J)
     refine ⟨.slice none 0 0, w, ?_, by rw [J, hn]; exact bB w base e 1 Gn, .inl ⟨Below.refl _ _, .inr O⟩⟩
     have U := Lib.run_firstCells_string (P := P) w 1 s
     rw [J] at U
     simp [Builtin.append_, run_underlying ht, run_underlying hu, sizeOf, typeInfo, hi, hsize, Builtin.lenOf, J, U]
   have H := run_append_nil_string (P := P) w t u ty e i (.int .u8 0) ht hu hi hz s AA AA (by rw [hby]; omega)
   have y := grown 0 AA (by intro u hu; cases hu)
   simp only [Nat.zero_add, List.nil_append, Array.empty_append] at y ⊢
   have e1 : (s.data.map fun b => Value.int .u8 b.toNat) = (Lib.strCells s).toArray := by
    apply Array.ext'
    simp [Lib.strCells]
   rw [e1] at H
   exact ⟨_, _, H, y, .inl ⟨C _, .inl rfl⟩⟩
 by_cases p : n + s.size <= k
 . have X : B.size = k := by simpa using R
   have H := Lib.run_append_room_string (P := P) w t u ty e i ht hu hi hsize g n k B hg s p AA
   refine ⟨_, _, H, ⟨h, .inr ⟨g, k, _, O, S, setRow_heap w g B _ e _ hg, p, F, ?_, ?_, ?_⟩⟩, .inr ⟨g, O, O, NJ _ _ _⟩⟩
   . simp only [List.size_toArray, List.length_append, List.length_take, List.length_drop, Array.length_toList, Lib.strCells_length]
     omega
   . have N : B.toList.take n = xs := by simpa using l
     rw [N, <- h]
     exact List.take_left
   intro u hu
   simp only [List.mem_append] at hu
   rcases hu with (hu | hu) | hu
   . exact G u (List.mem_of_mem_take hu)
   . exact Sp s u hu
   exact G u (List.mem_of_mem_drop hu)
 have D : ∀ j u, xs[j]? = some u -> w.cell? ((⟨g, 0, none⟩ : Addr).add j) = some u := hown.own.cells (g := g) rfl
 have H := Lib.run_append_grow_string (P := P) w t u ty e i (.int .u8 0) ht hu hi hz ⟨g, 0, none⟩ n k xs (by rw [hsize]; simpa using q) D s AA AA (by rw [hby]; exact growslice_fits AA AA)
 have y := grown k AA (fun u hu => G u (by rw [<- l] at hu; exact List.mem_of_mem_take hu))
 exact ⟨_, _, H, y, .inl ⟨C _, .inl rfl⟩⟩
theorem kJ {ops : Array Oper} {rest : List Oper} {o : Oper} {a : Act} {Q : Exit -> Act -> World -> Prop} (hgd : o.guard = none) (sl x : Operand) (t u : TypeId)
 (ho : o.op = .call { callee := .builtin .append, args := #[sl, x], argTypes := #[t, u] })
 (base : Nat) (e : TypeId) (i : TypeInfo) (ht : P.underlying t = some (.slice e)) (hu : P.underlying u = some .string) (hi : P.info? e = some i) (hz : i.zero = some (.int .u8 0))
 (hsize : i.size = 1) (hby : i.bytes = 1)
 (v : Value) (n : Nat) (xs : List Value) (hs : a.eval sl = v) (hown : RowG w base e 1 Gn v n xs) (s : ByteArray) (hx : a.eval x = .string s)
 (h63 : n + s.size <= maxLen) (hbytes : n + s.size <= 140737488355328) (hbase : base <= w.heap.size)
 (h : ∀ v' w', RowG w' base e 1 Gn v' (n + s.size) (xs ++ Lib.strCells s) -> ((Below w.heap.size w w' /\ (v'.ownBlock = some w.heap.size ∨ v' = .slice none 0 0)) ∨ (∃ g, v.ownBlock = some g /\ v'.ownBlock = some g /\ Onl g w w')) -> wpList P ops Q rest (a.put o.dst v') w') : wpList P ops Q (o :: rest) a w := by
 refine wpList_plain hgd fun K k => ?_
 obtain ⟨v', w', f, p, l⟩ := tR (P := P) base t u o.type e i ht hu hi hz hsize hby v n xs hown s h63 hbytes hbase
 unfold Oper.wp execOp
 simp only [ho, resolve, invoke, builtin, Sem.run_bind, Sem.run_pure, Result.andThen_ok, List.map_toArray, List.map_cons, List.map_nil, hs, hx, f]
 exact k _ _ (h v' w' p l)
abbrev dA : Nat := 105
theorem szB : (prog.info? dA).map (·.size) = some 2 := by kernel_rfl
theorem liesB : liesAt prog prog.depth dA (2 / prog.cellsOf dA) 0 dA 1 = true := by kernel_rfl
theorem u8B : (prog.info? 5).map (fun i => (i.zero, i.size, i.bytes)) = some (some (.int .u8 0), 1, 1) := by kernel_rfl
theorem pD (b : Nat) (w : World) (h0 : w.cell? ⟨b, 0, none⟩ = some (.pointer (some ⟨b, 0, none⟩))) :
 Calls prog 96 #[.pointer (some ⟨b, 0, none⟩)] w fun e w' => e = .returned (.tuple #[]) /\ w' = w := by
 obtain ⟨j, f, _⟩ := Option.map_eq_some_iff.1 szB
 go_enter func96, ntmps96
 go_wp2
 rw [Lib.run_neq_ptr_same w _ underlying103 f]
 go_wp2
 go_end0
 exact ⟨rfl, rfl⟩
theorem lC (b : Nat) (w : World) (h0 : w.cell? ⟨b, 0, none⟩ = some (.pointer none)) (hsh : w.shape? b = some (dA, 2)) (hfz : w.frozen? ⟨b, 0, none⟩ = false) :
 Calls prog 96 #[.pointer (some ⟨b, 0, none⟩)] w fun e w' => e = .returned (.tuple #[]) /\ w' = w.setCell ⟨b, 0, none⟩ (.pointer (some ⟨b, 0, none⟩)) := by
 obtain ⟨j, h, f⟩ := Option.map_eq_some_iff.1 szB
 go_enter func96, ntmps96
 go_wp2
 rw [Lib.run_to_unsafe w ⟨b, 0, none⟩ underlying103 underlying181 h (by rw [f]; decide) hsh (Nat.zero_lt_succ 1)]
 simp only [Result.andThen]
 rw [Oper.upon_value]
 go_wp2
 rw [run_callFunc_extern func143 Z Z Z (e := Extern.AbiNoEscape.same) Z]
 rw [Lib.run_noEscape]
 simp only [Result.andThen]
 rw [Oper.upon_value]
 go_wp2
 rw [Lib.run_from_unsafe w ⟨b, 0, none⟩ underlying181 underlying103 h hsh liesB]
 simp only [Result.andThen]
 rw [Oper.upon_value]
 go_wp2
 go_end0
 exact ⟨rfl, rfl⟩
def elB : El UInt8 where
 sz := 1
 p := fun _ _ cs x => cs = [.int .u8 x.toNat]
 keep := fun h _ => h
 mono := fun h _ => h
 len := fun h => by subst h; rfl
 one := fun h => by subst h; intro v hv; simp at hv; subst hv; rfl
 nw := fun h => by subst h; intro c hc k e; subst e; simp at hc
def Bb (l : Bs) : List Value := l.map fun b => Value.int .u8 b.toNat
theorem Wv (s : Bs) : Lib.strCells (bs s) = Bb s := by unfold Lib.strCells Bb; rw [FO]
theorem Ww (a b : Bs) : Bb (a ++ b) = Bb a ++ Bb b := List.map_append
theorem Hk (a : Bs) : (Bb a).length = a.length := List.length_map _
theorem Hr {l : Bs} (h : Acc elB t base WW w v l) : RowG w base t 1 Gn v l.length (Bb l) := by
 obtain ⟨e, o, q, _⟩ := h
 have u : e.length = l.length := by have := o.1; rw [show elB.sz = 1 from rfl, Nat.mul_one] at this; exact this
 have : e = Bb l := by
  refine List.ext_getElem? fun i => ?_
  by_cases k : i < l.length
  . have p : (e.drop (i * 1)).take 1 = [.int .u8 (l[i]).toNat] := q i l[i] (List.getElem?_eq_getElem k)
    have f := congrArg (fun c : List Value => c[0]?) p
    simp only [List.getElem?_take, List.getElem?_drop, Nat.mul_one, Nat.add_zero, List.getElem?_cons_zero] at f
    rw [if_pos AE] at f
    rw [f]
    unfold Bb
    rw [List.getElem?_map, List.getElem?_eq_getElem k]; rfl
  rw [List.getElem?_eq_none AA, List.getElem?_eq_none (by rw [Hk]; omega)]
 rw [<- this]; exact o
theorem Dt {l : Bs} (h : RowG w base t 1 Gn v l.length (Bb l)) : Acc elB t base WW w v l := by
 refine ⟨Bb l, h, fun i x e => ?_, fun _ _ h => h⟩
 show ((Bb l).drop (i * 1)).take 1 = [.int .u8 x.toNat]
 have f := (List.getElem?_eq_some_iff.1 e).1
 rw [Nat.mul_one]
 have k : (Bb l).drop i = .int .u8 x.toNat :: (Bb l).drop (i + 1) := by
  rw [List.drop_eq_getElem_cons (by rw [Hk]; exact f)]
  congr 1
  unfold Bb
  rw [List.getElem_map, (List.getElem?_eq_some_iff.1 e).2]
 rw [k]; rfl
theorem Zs : dA ≠ 5 := by decide
theorem Bz {e : Nat} {xs : List Value} {cs : List Value} (h : RowG w base e 1 Gn v n xs) (hb : Bx w b T cs) (hT : T ≠ e) : v.ownBlock ≠ some b := Lib.ownBlock_ne h.own hb hT
theorem gC (w : World) (b o : Nat) (v : Value) : Onl b w (w.setCell ⟨b, o, none⟩ v) := jW w b o v
theorem Ws (h : Bx w b T [p, v]) : Bx (w.setCell ⟨b, 0, none⟩ q) b T [q, v] := by
 unfold Bx at *
 simp [World.setCell, Array.getElem?_modify, h]
theorem Wr (h : Bx w b T [p, v]) : Bx (w.setCell ⟨b, 1, none⟩ q) b T [p, q] := by
 unfold Bx at *
 simp [World.setCell, Array.getElem?_modify, h]
def Wrote (base b : Nat) (v : Value) (l : Bs) (w w' : World) : Prop :=
 ∃ v', Bx w' b dA [.pointer (some ⟨b, 0, none⟩), v'] /\ Acc elB 5 base WW w' v' l /\ w.heap.size <= w'.heap.size /\ (∀ c, c < w.heap.size -> v.ownBlock ≠ some c -> v'.ownBlock ≠ some c) /\
  ∀ L, Env w L -> Ok b L -> (∀ g, v.ownBlock = some g -> base <= g -> g < w.heap.size -> Ok g L) -> Env w' L
theorem zY (b : Nat) (p v : Value) (w : World) (hb : Bx w b dA [p, v]) (hp : p = .pointer none ∨ p = .pointer (some ⟨b, 0, none⟩)) :
 Calls prog 96 #[.pointer (some ⟨b, 0, none⟩)] w fun e w' => e = .returned (.tuple #[]) /\ Bx w' b dA [.pointer (some ⟨b, 0, none⟩), v] /\ (w' = w ∨ Onl b w w') := by
 rcases hp with rfl | rfl
 . refine (lC b w (by rw [hb.cell]; rfl) (by unfold World.shape?; rw [show w.heap[b]? = _ from hb]; rfl) (Lib.frozen_of_heap hb 0)).mono ?_
   rintro e w' ⟨rfl, rfl⟩
   exact ⟨rfl, Ws hb, .inr (gC _ _ _ _)⟩
 refine (pD b w (by rw [hb.cell]; rfl)).mono ?_
 rintro e w' ⟨rfl, rfl⟩
 exact ⟨rfl, hb, .inl rfl⟩
theorem now2 (hp : p = .pointer none ∨ ∃ a, p = .pointer (some a)) (hv : ∃ ao n cap, v = .slice ao n cap) : UP [p, v] := by
 obtain ⟨ao, n, cap, rfl⟩ := hv
 intro c f k e
 subst e
 rcases hp with rfl | ⟨a, rfl⟩ <;> simp at f
theorem qP (b base : Nat) (p v : Value) (l s : Bs) (w : World) (hb : Bx w b dA [p, v]) (hA : Acc elB 5 base WW w v l) (hp : p = .pointer none ∨ p = .pointer (some ⟨b, 0, none⟩)) (hlen : l.length + s.length <= 140737488355328) (hbase : base <= w.heap.size) :
 Calls prog 48 #[.pointer (some ⟨b, 0, none⟩), .string (bs s)] w fun e w' => e = .returned (.tuple #[.int .i64 ↑s.length, .nilIface]) /\ Wrote base b v (l ++ s) w w' := by
 obtain ⟨i0, hi, B⟩ := Option.map_eq_some_iff.1 u8B
 simp only [Prod.mk.injEq] at B
 obtain ⟨B, T, S⟩ := B
 have J : ∃ D n k, v = .slice D n k := by obtain ⟨D, k, e⟩ := hA.shp; exact ⟨D, _, k, e⟩
 have U : Av w b := hb.noW (now2 (hp.elim .inl fun e => .inr ⟨_, e⟩) J)
 have t := Hr hA
 have Q := Bz t hb Zs
 go_enter func48, ntmps48
 go_wp2_with (go_at_call 96; refine (zY b p v _ hb hp).mono ?_)
 rintro e I ⟨rfl, H, G⟩
 have C : I.heap.size = w.heap.size := by rcases G with rfl | h; rfl; exact h.size
 have o : RowG I base 5 1 Gn v l.length (Bb l) := by rcases G with rfl | h; exact t; exact t.onl Q h
 have c1 : I.cell? ⟨b, 1, none⟩ = some v := by rw [H.cell]; rfl
 go_wp2_with (at_builtin; refine kJ rfl _ _ 42 9 rfl base 5 i0 underlying42 underlying9 hi B T S _ _ _ rfl o (bs s) rfl ?c3 ?c4 ?c5 ?_)
 case c3 => rw [ES]; unfold maxLen; omega
 case c4 => rw [ES]; omega
 case c5 => omega
 intro v' F q f
 have y : Bx F b dA [.pointer (some ⟨b, 0, none⟩), v] := by
  rcases f with ⟨h, _⟩ | ⟨g, hg, _, h⟩
  . exact H.below (by rw [C]; exact h)
  exact H.onl (fun e => Q (by rw [hg, e])) h
 have d1 : F.cell? ⟨b, 1, none⟩ = some v := by rw [y.cell]; rfl
 have f1 : F.frozen? ⟨b, 1, none⟩ = false := Lib.frozen_of_heap y 1
 obtain ⟨D, R, k, rfl⟩ : ∃ D R k, v' = .slice D R k := by
  rcases q.2 with ⟨N, _⟩ | ⟨g, k, a0, N, _⟩
  . exact ⟨_, _, _, N⟩
  exact ⟨_, _, _, N⟩
 have Y : I.heap.size <= F.heap.size := by
  rcases f with ⟨h, _⟩ | ⟨g, hg, _, h⟩
  . exact h.size
  exact Nat.le_of_eq h.size.symm
 go_wp2
 go_ret2
 refine ⟨by rw [ES]; rfl, _, Wr y, ?_, ?_, ?_, ?_⟩
 . refine Dt ?_
   have P := Bz q y Zs
   have := q.onl P (gC F b 1 (.slice D R k))
   rw [ES, Wv, <- Ww] at this
   rw [List.length_append]; exact this
 . rw [(gC F b 1 (.slice D R k)).size]; omega
 . intro c hc N
   rcases f with ⟨_, h | h⟩ | ⟨g, u, X, _⟩
   . rw [h]; simp only [ne_eq, Option.some.injEq]; omega
   . rw [h]; simp [Value.ownBlock]
   rw [X, <- u]; exact N
 intro L E hk hg
 have E1 : Env I L := by rcases G with rfl | h; exact E; exact E.onl U hk h
 have E2 : Env F L := by
  rcases f with ⟨h, _⟩ | ⟨g, u, _, h⟩
  . exact E1.below (by rw [C]; exact h)
  have := o.own.lt g u
  exact E1.onl (o.noW u tD) (hg g u this.1 AA) h
 exact E2.onl (y.noW (now2 (.inr ⟨_, rfl⟩) J)) hk (gC _ _ _ _)
end Go.Proofs.YtmppigbbkjepiaaGreatDoor
