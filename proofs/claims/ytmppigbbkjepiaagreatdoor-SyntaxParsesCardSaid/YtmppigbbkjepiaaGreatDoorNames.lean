/- Helping facts of Poly; no other conditions. Helping facts of Names; no other conditions. -/
import Derived.Test.YtmppigbbkjepiaaGreatDoorAut2
import Derived.Test.YtmppigbbkjepiaaGreatDoorRat5
set_option maxHeartbeats 8000000
set_option maxRecDepth 100000
namespace Go.Proofs.YtmppigbbkjepiaaGreatDoor
open Go.Proofs.Tryz
open Go.RowKit W
variable {M m n : List Nat} {b : Bool} {c d : Rat} {i k : Nat} {p : Prop} {α : Type}
theorem Yiy (h : p := by first | rfl | exact CF CK) : p := h
theorem ZWI (h : p := by
 have k : WQ ((b.toNat : Nat) : Int) = false := iY AA
 by_cases l : i = 0
 . refine yG ?_
   exact ⟨DC (NM e (mB l k)), E.2.1⟩
 by_cases h : cA ((b.toNat : Nat) : Int) = true
 case neg =>
  refine yG ?_
  refine EF O (CA IH O (CT (DY h) (UT ((b.toNat : Nat) : Int) _)) O E ?_)
  intro L a1 E
  refine yG ?_
  exact ⟨DC (NM e (fO l k (DY h))), E.2.1⟩
 refine yG ?_
 refine EF O (CA IH O (CT h (UT ((b.toNat : Nat) : Int) _)) O E ?_)
 intro w9 d9 E
 refine yG ?_
 exact ⟨_, (by rw [o]; omega), (i + 1), _, O, O, zE, O, ⟨by omega, NX q e (nO l h)⟩⟩
 ) : p := h
theorem ZyM (h : p := by
 refine yG ?_
 refine EF O (CA IK O (CT (DY h) (US b.toNat _)) O E ?_)
 intro I d4 E
 refine yG ?_
 exact ⟨_, (by rw [k]; omega), (i + 1), _, O, O, zE, O, ⟨by omega, by omega, NX q.2 o (nO AA (lQ AA))⟩⟩
 ) : p := h
theorem ZMA (h : p := by
 have k : WQ ((b.toNat : Nat) : Int) = true := lX AA
 refine yG ?_
 exact ⟨_, (by rw [o]; omega), (i + 1), _, O, O, zE, O, ⟨by omega, NX q e (uR k)⟩⟩
 ) : p := h
theorem ZFs (h : p := by
 refine yG ?_
 refine EF O (CA IK O (CT (DY h) (US b.toNat _)) O E ?_)
 intro F U E
 refine yG ?_
 exact ⟨DC (NM o (fO AA (DY h) (tT AA))), E.1⟩
 ) : p := h
theorem ZwY (h : p := by
 refine yG ?_
 exact ⟨_, (by rw [u]; omega), (i + 1), _, O, O, zE, O, AA⟩
 ) : p := h
theorem ZKv (h : p := by
 refine yG ?_
 exact ⟨_, (by rw [y]; omega), (i + 1), _, O, O, zE, O, AA⟩
 ) : p := h
theorem Xb (n : Bool) (s : Value) (m : Bool) (u : Value) (x : Rat) (w : World) (h1 : IsI w (.agg #[.bool n, s]) x.num) (h2 : IsI w (.agg #[.bool m, u]) ((x.den : Nat) : Int)) (h3 : FitQ x 100000000) :
 Calls prog 80 #[.agg #[.bool n, s, .bool m, u]] w (LN w true) := CT (decide_eq_true (Lx x)) (iD n s m u _ _ w h1 h2 (h3.1.mono AE) (h3.2.mono AE))
theorem Xe (na : Bool) (sa : Value) (ma : Bool) (ta : Value) (x : Rat) (nb : Bool) (sb : Value) (mb : Bool) (tb : Value) (y : Rat) (w : World) (h1 : IsI w (.agg #[.bool na, sa]) x.num) (h2 : IsI w (.agg #[.bool ma, ta]) ((x.den : Nat) : Int)) (h3 : IsI w (.agg #[.bool nb, sb]) y.num) (h4 : IsI w (.agg #[.bool mb, tb]) ((y.den : Nat) : Int)) :
 Calls prog 92 #[.agg #[.bool na, sa, .bool ma, ta], .agg #[.bool nb, sb, .bool mb, tb]] w (LN w (decide (x = y))) :=
 CT (decide_eq_decide.2 ⟨fun h => Rat.ext h.1 (Int.ofNat_inj.1 h.2), fun h => by subst h; exact ⟨rfl, rfl⟩⟩) (D8 na sa ma ta _ _ nb sb mb tb _ _ w h1 h2 h3 h4)
theorem Nb (h : c ≠ 0) : (OY c.num == 0) = false := by
 have := Zo h
 rw [beq_eq_false_iff_ne]
 unfold OY JR
 split <;> first | decide | (split <;> first | decide | omega)
theorem Rb {p : List Tm} (h : JS p) {a b : Rat} (hi : 0 < i) (h1 : p[i - 1]? = some (a, m)) (h2 : p[i]? = some (b, n)) : FR m n = 1 := h.2 (i - 1) _ _ h1 (by rw [show i - 1 + 1 = i by omega]; exact h2)
theorem bC (vp : Value) (p : List Tm) (w : World) (hRp : IsR JQ (DL w.heap.size) w vp p) (hp : JS p) (hF : ∀ t ∈ p, FitQ t.1 1000000) (hL : p.length <= 1000000) :
 Calls prog 37 #[vp] w (LN w true) := by
 have E := Env.start w
 obtain ⟨q, h, rfl, a3, a2⟩ := hRp.shp
 replace E := E.r hRp (DZ _)
 go_enter func37, ntmps37
 refine yG ?_
 refine wp_loop_ghost (fun mz a w' => ∃ (i : Nat) (k : List Value), k = a.tmps.toList /\ a = ⟨(.slice q p.length h :: gr k 1 4 (.slice q p.length h :: .int .i64 ↑p.length :: .int .i64 ↑i :: gr k 8 35 [])).toArray, []⟩ /\ Env w' [fR JQ (DL w.heap.size) (.slice q p.length h) p, fW w] /\ mz = p.length - i /\ (i <= p.length)) (p.length) ⟨0, _, O, O, zE, O, (Nat.zero_le _)⟩ ?_
 rintro m1 _ w1 ⟨i, k, -, rfl, E, y, a5⟩
 dsimp only [gr, Nat.reduceAdd]
 by_cases hi : i < p.length
 case neg =>
  refine yG ?_
  exact ⟨rfl, E.2.1⟩
 obtain ⟨⟨c2, F⟩, f⟩ : ∃ x, p[i]? = some x := ⟨_, List.getElem?_eq_getElem hi⟩
 obtain ⟨u, a1, _, U, B, S, ⟨n2, s2, m2, u2, rfl, J, Q, e⟩⟩ := IsR.at E.1.1 f
 have N : u < _ := E.1.2 _ B
 replace E := ((E.c S N).i J).i Q
 have a4 : u < w.heap.size := B
 have H := hp.1 _ (List.mem_of_getElem? f)
 refine yG ?_
 refine Lv O O U O (List.getElem?_eq_some_iff.1 f).1 ?_
 refine V O O (CE FQ O O (E.2.2.1.1) (CF e)) ?_
 refine yG ?_
 refine EF O (BZ FQ O ?_)
 intro b3 w3 e3 z3 d3 Y
 have l3 : w.heap.size <= b3 := by rw [e3]; exact (e4 E).size
 replace E := E.below d3
 clear e3
 refine yG ?_
 refine EF O (BY FQ O O O Y Yiy (CF e) (DO (M := F) (IsI.one E.2.1) (IsI.one E.1)) ?_)
 intro w4 o4 y4
 replace E := oY E Y o4 y4 (ds := (EW n2 s2 m2 u2 F))
 refine yG ?_
 refine V O O (CE EY O O (Cs.sub (Bx.cs E.1) 0 (EQ _ _ _ _ _)) O) ?_
 refine yG ?_
 refine EF O (CA MX O (Xb _ _ _ _ c2 _ E.2.2.1 E.2.1 (FitQ.mono (hF _ (List.mem_of_getElem? f)) AE)) O E ?_)
 intro w5 d5 E
 refine yG ?_
 refine V Z O (CE EY O O (Cs.sub (Bx.cs E.1) 0 (EQ _ _ _ _ _)) O) ?_
 refine yG ?_
 refine EF O (CB EN O (RF _ _ _ _ c2 _ E.2.2.1 E.2.1) O E ?_)
 intro w6 d6 E
 refine yG ?_
 refine V Z O (EK (c := false) O O O (Nb H.1)) ?_
 refine yG ?_
 refine V Z O (CE ST O O (Cs.sub (Bx.cs E.1) 4 (EH _ _ _ _ _)) (DG e)) ?_
 refine yG ?_
 refine EF O (CA gO O (So F _ e) O E ?_)
 intro w7 d7 E
 by_cases h0 : 0 < i
 case neg =>
  refine yG ?_
  refine sE E [0,1,2,3,4,5,6,7,8,9,10,11,12,13] ?_
  replace E := E.drew
  exact ZKv
 obtain ⟨⟨c8, M8⟩, l⟩ : ∃ x, p[i - 1]? = some x := ⟨_, List.getElem?_eq_getElem (show i - 1 < p.length by omega)⟩
 obtain ⟨G, a0, _, T, X, R, ⟨n8, s8, m8, u8, rfl, I, P, D⟩⟩ := IsR.at (e4 E).1 l
 have L : G < _ := (e4 E).2 _ X
 replace E := ((E.c R L).i I).i P
 refine yG ?_
 refine sE E [0,1,2,3,4,5,6,7,8,9,10,11,12,13] ?_
 replace E := E.drew
 refine yG ?_
 refine SW (v := .int .i64 ↑(i - 1)) O O O Z O (fun w C => FM O O O (by rw [MO AA]; omega)) ?_
 refine lD O O O T O (List.getElem?_eq_some_iff.1 l).1 ?_
 refine yG ?_
 refine SW O O O Z O (fun w C => CE ST O O (Cs.sub ((C.2.2.1).1) 4 (EH _ _ _ _ _)) (DG D)) ?_
 refine yG ?_
 refine SW O O O Z O (fun w C => CE ST O O (Cs.sub (Bx.cs (e3 C)) 4 (EH _ _ _ _ _)) (DG e)) ?_
 refine yG ?_
 refine GG (o := ⟨some 39, _, _, _, _, _⟩) O O O O (CB TC O (Ee M8 F _ D e) O E ?_)
 intro w9 d9 E
 refine ⟨E, ?_⟩
 refine yG ?_
 refine SW O O O Z O (fun w C => RI (c := false) O O O (by rw [Rb hp h0 l f]; rfl)) ?_
 exact ZKv
def Wf (d : Int) (p : List Tm) : Int := p.foldl (fun d t => if d < ((UR t.2 8 : Nat) : Int) then ((UR t.2 8 : Nat) : Int) else d) d
def QQ (p : List Tm) : Int := Wf (-1) p
def IA (p : List Tm) : Nat := p.foldl (fun s t => s ||| TN t.2 8) 0
theorem KK {l : List α} {x : α} (h : l[i]? = some x) : l.take (i + 1) = l.take i ++ [x] := by
 obtain ⟨f, e⟩ := List.getElem?_eq_some_iff.1 h
 rw [List.take_succ_eq_append_getElem f, e]
theorem sR {p : List Tm} (h : p[i]? = some (c, M)) : QQ (p.take (i + 1)) = if QQ (p.take i) < ((UR M 8 : Nat) : Int) then ((UR M 8 : Nat) : Int) else QQ (p.take i) := by
 rw [KK h]; unfold QQ Wf; rw [List.foldl_append]; rfl
theorem Bf {p : List Tm} (h : p[i]? = some (c, M)) : IA (p.take (i + 1)) = IA (p.take i) ||| TN M 8 := by
 rw [KK h]; unfold IA; rw [List.foldl_append]; rfl
theorem Er (M : List Nat) : TN M 8 < 256 := Mn (Nat.le_refl 8)
theorem eU (p : List Tm) : IA p < 256 := by
 unfold IA
 have : ∀ (p : List Tm) (s : Nat), s < 256 -> p.foldl (fun s t => s ||| TN t.2 8) s < 256 := by
  intro p
  induction p with
  | nil => intro s h; exact h
  | cons t p ih => intro s h; exact ih _ (Nat.or_lt_two_pow (n := 8) h (Er t.2))
 exact this p 0 AE
theorem KC {l : List α} (h : ¬ i < l.length) : l.take i = l := List.take_of_length_le AA
theorem iH (vp : Value) (p : List Tm) (w : World) (hRp : IsR JQ (DL w.heap.size) w vp p) (hL : p.length <= 1000000) :
 Calls prog 38 #[vp] w (GY w (.int .u8 ↑(IA p))) := by
 have E := Env.start w
 obtain ⟨l, e, rfl, X, U⟩ := hRp.shp
 replace E := E.r hRp (DZ _)
 go_enter func38, ntmps38
 refine yG ?_
 refine wp_loop_ghost (fun S a J => ∃ (i : Nat) (h : List Value), h = a.tmps.toList /\ a = ⟨(.slice l p.length e :: undef :: .int .u8 0 :: .int .u8 ↑(IA (p.take i)) :: undef :: CJ h 5 :: .slice l p.length e :: .int .i64 ↑p.length :: .int .i64 ↑i :: gr h 9 10 []).toArray, []⟩ /\ Env J [fR JQ (DL w.heap.size) (.slice l p.length e) p, fW w] /\ S = p.length - i /\ (i <= p.length)) (p.length) ⟨0, _, O, O, zE, O, (Nat.zero_le _)⟩ ?_
 rintro m1 _ w1 ⟨i, h, -, rfl, E, u, a0⟩
 dsimp only [gr, Nat.reduceAdd]
 by_cases H : i < p.length
 case neg =>
  refine yG ?_
  exact ⟨by rw [KC H], E.2.1⟩
 obtain ⟨⟨c2, F⟩, k⟩ : ∃ x, p[i]? = some x := ⟨_, List.getElem?_eq_getElem H⟩
 obtain ⟨o, P, _, D, q, C, ⟨R, N, T, L, rfl, t, B, f⟩⟩ := IsR.at E.1.1 k
 have y : o < _ := E.1.2 _ q
 replace E := ((E.c C y).i t).i B
 have Y : o < w.heap.size := q
 refine yG ?_
 refine Lv O O D O (List.getElem?_eq_some_iff.1 k).1 ?_
 refine V O O (CE FQ O O (E.2.2.1.1) (CF f)) ?_
 refine yG ?_
 refine EF O (BZ FQ O ?_)
 intro b3 w3 e3 z3 d3 G
 have l3 : w.heap.size <= b3 := by rw [e3]; exact (e4 E).size
 replace E := E.below d3
 clear e3
 refine yG ?_
 refine EF O (BY FQ O O O G Yiy (CF f) (DO (M := F) (IsI.one E.2.1) (IsI.one E.1)) ?_)
 intro w4 Q I
 replace E := oY E G Q I (ds := (EW R N T L F))
 refine yG ?_
 refine V O O (CE ST O O (Cs.sub (Bx.cs E.1) 4 (EH _ _ _ _ _)) (DG f)) ?_
 refine yG ?_
 refine EF O (CC cC O (E8 F _ f) O E ?_)
 intro w5 d5 E
 refine yG ?_
 refine V (v := .int .u8 ↑(IA (p.take (i + 1)))) O O (Fb O O O O O (eU _) (Er _) (Bf k).symm) ?_
 exact ZwY
theorem PM (vp : Value) (p : List Tm) (w : World) (hRp : IsR JQ (DL w.heap.size) w vp p) (hL : p.length <= 1000000) :
 Calls prog 142 #[vp] w (GY w (.int .i64 (QQ p))) := by
 have E := Env.start w
 obtain ⟨l, e, rfl, X, U⟩ := hRp.shp
 replace E := E.r hRp (DZ _)
 go_enter func142, ntmps142
 refine yG ?_
 refine wp_loop_ghost (fun S a J => ∃ (i : Nat) (h : List Value), h = a.tmps.toList /\ a = ⟨(.slice l p.length e :: undef :: .int .i64 0 :: .int .i64 (QQ (p.take i)) :: undef :: CJ h 5 :: .slice l p.length e :: .int .i64 ↑p.length :: .int .i64 ↑i :: gr h 9 10 []).toArray, []⟩ /\ Env J [fR JQ (DL w.heap.size) (.slice l p.length e) p, fW w] /\ S = p.length - i /\ (i <= p.length)) (p.length) ⟨0, _, O, O, zE, O, (Nat.zero_le _)⟩ ?_
 rintro m1 _ w1 ⟨i, h, -, rfl, E, u, a0⟩
 dsimp only [gr, Nat.reduceAdd]
 by_cases H : i < p.length
 case neg =>
  refine yG ?_
  exact ⟨by rw [KC H], E.2.1⟩
 obtain ⟨⟨c2, F⟩, k⟩ : ∃ x, p[i]? = some x := ⟨_, List.getElem?_eq_getElem H⟩
 obtain ⟨o, P, _, D, q, C, ⟨R, N, T, L, rfl, t, B, f⟩⟩ := IsR.at E.1.1 k
 have y : o < _ := E.1.2 _ q
 replace E := ((E.c C y).i t).i B
 have Y : o < w.heap.size := q
 refine yG ?_
 refine Lv O O D O (List.getElem?_eq_some_iff.1 k).1 ?_
 refine V O O (CE FQ O O (E.2.2.1.1) (CF f)) ?_
 refine yG ?_
 refine EF O (BZ FQ O ?_)
 intro b3 w3 e3 z3 d3 G
 have l3 : w.heap.size <= b3 := by rw [e3]; exact (e4 E).size
 replace E := E.below d3
 clear e3
 refine yG ?_
 refine EF O (BY FQ O O O G Yiy (CF f) (DO (M := F) (IsI.one E.2.1) (IsI.one E.1)) ?_)
 intro w4 Q I
 replace E := oY E G Q I (ds := (EW R N T L F))
 refine yG ?_
 refine V O O (CE ST O O (Cs.sub (Bx.cs E.1) 4 (EH _ _ _ _ _)) (DG f)) ?_
 refine yG ?_
 refine EF O (CB dU O (Lm F _ f) O E ?_)
 intro w5 d5 E
 refine yG ?_
 refine V (v := .int .i64 (QQ (p.take (i + 1)))) O O (wX O O O (sR k).symm) ?_
 exact ZwY
theorem ZB (vp : Value) (p : List Tm) (w : World) (hRp : IsR JQ (DL w.heap.size) w vp p) (hL : p.length <= 1000000) :
 Calls prog 116 #[vp] w (GY w (.int .i64 (QQ p))) := by
 have E := Env.start w
 obtain ⟨q, e, rfl, L, J⟩ := hRp.shp
 replace E := E.r hRp (DZ _)
 go_enter func116, ntmps116
 refine yG ?_
 refine wp_loop_ghost (fun I a G => ∃ (i : Nat) (h : List Value), h = a.tmps.toList /\ a = ⟨(.slice q p.length e :: undef :: .int .i64 0 :: .int .i64 (QQ (p.take i)) :: .int .i64 ↑i :: gr h 5 15 []).toArray, []⟩ /\ Env G [fR JQ (DL w.heap.size) (.slice q p.length e) p, fW w] /\ I = p.length - i /\ (i <= p.length)) (p.length) ⟨0, _, O, O, zE, O, (Nat.zero_le _)⟩ ?_
 rintro m1 _ S ⟨i, h, -, rfl, E, u, P⟩
 dsimp only [gr, Nat.reduceAdd]
 by_cases F : i < p.length
 case neg =>
  refine yG ?_
  exact ⟨by rw [KC F], E.2.1⟩
 obtain ⟨⟨c2, Q⟩, f⟩ : ∃ x, p[i]? = some x := ⟨_, List.getElem?_eq_getElem F⟩
 obtain ⟨k, H, _, D, l, C, ⟨X, U, Y, T, rfl, t, B, o⟩⟩ := IsR.at E.1.1 f
 have y : k < _ := E.1.2 _ l
 replace E := ((E.c C y).i t).i B
 have N : k < w.heap.size := l
 refine yG ?_
 refine Lv O O D O (List.getElem?_eq_some_iff.1 f).1 ?_
 refine yG ?_
 refine V O O (CE ST O O (Cs.sub (E.2.2.1.1) 4 (EH _ _ _ _ _)) (DG o)) ?_
 refine yG ?_
 refine EF O (CB jC O (Dz Q _ o) O E ?_)
 intro R d3 E
 refine yG ?_
 refine V (v := .int .i64 (QQ (p.take (i + 1)))) O O (wX O O O (sR f).symm) ?_
 exact ZwY
theorem LU {a : Bool} (h : a = b) : Ending.returned (.bool a) = .returned (.bool b) := by rw [h]
theorem Pc (h : m = n) : decide (c = d) = decide ((c, m) = (d, n)) := by subst h; simp
theorem Uo (h : ¬ m = n) : false = decide ((c, m) = (d, n)) := by simp [h]
theorem pS (na : Bool) (sa : Value) (ma : Bool) (ua : Value) (ca : Rat) (Ma : List Nat) (nb : Bool) (sb : Value) (mb : Bool) (ub : Value) (cb : Rat) (Mb : List Nat) (w : World) (hna : IsI w (.agg #[.bool na, sa]) ca.num) (hda : IsI w (.agg #[.bool ma, ua]) ((ca.den : Nat) : Int)) (hMa : FC Ma) (hnb : IsI w (.agg #[.bool nb, sb]) cb.num) (hdb : IsI w (.agg #[.bool mb, ub]) ((cb.den : Nat) : Int)) (hMb : FC Mb) :
 Calls prog 45 #[.agg (EW na sa ma ua Ma).toArray, .agg (EW nb sb mb ub Mb).toArray] w (LN w (decide ((ca, Ma) = (cb, Mb)))) := by
 have E := Env.start w
 replace E := (E.i hna).i hda
 replace E := (E.i hnb).i hdb
 go_enter func45, ntmps45
 refine yG ?_
 refine EF O (CM (cs := (EW na sa ma ua Ma)) O O ?_)
 intro D y e1 t l h
 replace E := E.below l
 clear e1
 replace E := E.x h
 refine yG ?_
 refine EF O (CM (cs := (EW nb sb mb ub Mb)) O O ?_)
 intro C v e2 o k f
 replace E := E.below k
 clear e2
 replace E := E.x f
 by_cases e : Ma = Mb
 case neg =>
  refine yG ?_
  refine V O O (CE ST O O (Cs.sub (Bx.cs E.2.1) 4 (EH _ _ _ _ _)) (DG hMa)) ?_
  refine yG ?_
  refine V O O (CE ST O O (Cs.sub (Bx.cs E.1) 4 (EH _ _ _ _ _)) (DG hMb)) ?_
  refine yG ?_
  refine V O O (lP (p := Ma) (q := Mb) (c := false) O O O hMa hMb (decide_eq_false e)) ?_
  refine yG ?_
  exact ⟨LU (Uo e), e6 E⟩
 refine yG ?_
 refine V O O (CE ST O O (Cs.sub (Bx.cs E.2.1) 4 (EH _ _ _ _ _)) (DG hMa)) ?_
 refine yG ?_
 refine V O O (CE ST O O (Cs.sub (Bx.cs E.1) 4 (EH _ _ _ _ _)) (DG hMb)) ?_
 refine yG ?_
 refine V O O (lP (p := Ma) (q := Mb) (c := true) O O O hMa hMb (decide_eq_true e)) ?_
 refine yG ?_
 refine V Z O (CE EY O O (Cs.sub (Bx.cs E.2.1) 0 (EQ _ _ _ _ _)) O) ?_
 refine yG ?_
 refine V Z O (CE EY O O (Cs.sub (Bx.cs E.1) 0 (EQ _ _ _ _ _)) O) ?_
 refine yG ?_
 refine EF O (CA oS O (Xe _ _ _ _ ca _ _ _ _ cb _ (e5 E) (e4 E) (e3 E) E.2.2.1) O E ?_)
 intro u B E
 refine yG ?_
 exact ⟨LU (Pc e), e6 E⟩
theorem tH {p q : List α} {x y : α} (h : p.take i = q.take i) (h1 : p[i]? = some x) (h2 : q[i]? = some y) (e : x = y) : p.take (i + 1) = q.take (i + 1) := by rw [KK h1, KK h2, h, e]
theorem vB {p q : List α} (hl : p.length = q.length) (h : p.take i = q.take i) (hi : ¬ i < p.length) : p = q := by rw [KC hi, KC AA] at h; exact h
theorem Ct {p q : List α} (h : ¬ p.length = q.length) : ¬ p = q := fun e => h (by rw [e])
theorem Ft {p q : List α} {x y : α} (h1 : p[i]? = some x) (h2 : q[i]? = some y) (h : ¬ x = y) : ¬ p = q := fun e => h (by subst e; rw [h1] at h2; simpa using h2)
theorem iI (vp : Value) (p : List Tm) (vq : Value) (q : List Tm) (w : World) (hRp : IsR JQ (DL w.heap.size) w vp p) (hRq : IsR JQ (DL w.heap.size) w vq q) (hL : p.length <= 1000000) :
 Calls prog 14 #[vp, vq] w (LN w (decide (p = q))) := by
 have E := Env.start w
 obtain ⟨F, k, rfl, aa, a8⟩ := hRp.shp
 replace E := E.r hRp (DZ _)
 obtain ⟨D, h, rfl, a9, a7⟩ := hRq.shp
 replace E := E.r hRq (DZ _)
 go_enter func14, ntmps14
 by_cases hl : p.length = q.length
 case neg =>
  refine yG ?_
  exact ⟨LU (decide_eq_false (Ct hl)).symm, E.2.2.1⟩
 refine yG ?_
 refine wp_loop_ghost (fun mz a w' => ∃ (i : Nat) (y : List Value), y = a.tmps.toList /\ a = ⟨(.slice F p.length k :: .slice D q.length h :: gr y 2 3 (.int .i64 ↑i :: .slice F p.length k :: .int .i64 ↑p.length :: .slice D q.length h :: .int .i64 ↑q.length :: .bool false :: gr y 11 16 [])).toArray, []⟩ /\ Env w' [fR JQ (DL w.heap.size) (.slice D q.length h) q, fR JQ (DL w.heap.size) (.slice F p.length k) p, fW w] /\ mz = p.length - i /\ (i <= p.length /\ p.take i = q.take i)) (p.length) ⟨0, _, O, O, zE, O, ⟨Nat.zero_le _, O⟩⟩ ?_
 rintro m1 _ w1 ⟨i, y, -, rfl, E, T, L⟩
 dsimp only [gr, Nat.reduceAdd]
 obtain ⟨L, hJ⟩ := L
 by_cases hi : i < p.length
 case neg =>
  refine yG ?_
  exact ⟨LU (decide_eq_true (vB hl hJ hi)).symm, E.2.2.1⟩
 obtain ⟨⟨C, H⟩, f⟩ : ∃ x, p[i]? = some x := ⟨_, List.getElem?_eq_getElem hi⟩
 obtain ⟨Q, a6, _, J, a4, a2, ⟨n2, s2, m2, u2, rfl, S, a0, u⟩⟩ := IsR.at E.2.1.1 f
 have X : Q < _ := E.2.1.2 _ a4
 replace E := ((E.c a2 X).i S).i a0
 obtain ⟨⟨B, G⟩, e⟩ : ∃ x, q[i]? = some x := ⟨_, List.getElem?_eq_getElem (show i < q.length by omega)⟩
 obtain ⟨P, a5, _, I, a3, a1, ⟨n3, s3, m3, u3, rfl, R, Y, t⟩⟩ := IsR.at (e3 E).1 e
 have U : P < _ := (e3 E).2 _ a3
 replace E := ((E.c a1 U).i R).i Y
 by_cases N : (C, H) = (B, G)
 case neg =>
  refine yG ?_
  refine sE E [0,1,2,3,4,5,6,7,8,9] ?_
  replace E := E.drew
  refine yG ?_
  refine lD O O O J O (List.getElem?_eq_some_iff.1 f).1 ?_
  refine SW O O O O O (fun w l => CE FQ O O ((e5 l).1) (CF u)) ?_
  refine yG ?_
  refine lD O O O I O (List.getElem?_eq_some_iff.1 e).1 ?_
  refine SW O O O O O (fun w l => CE FQ O O ((l.2.2.1).1) (CF t)) ?_
  refine yG ?_
  refine GG (o := ⟨some 25, _, _, _, _, _⟩) O O O O (CA UY O (pS n2 s2 m2 u2 C H n3 s3 m3 u3 B G _ (e4 E) (e3 E) u E.2.1 E.1 t) O E ?_)
  intro w5 d5 E
  refine ⟨E, ?_⟩
  refine yG ?_
  refine SW (v := .bool (!(decide ((C, H) = (B, G))))) O O O O O (fun w l => YM (b := (decide ((C, H) = (B, G)))) O O) ?_
  refine yG ?_
  refine AO (congrArg Value.bool (by rw [decide_eq_false N]; rfl)) ?_
  refine yG ?_
  exact ⟨LU (decide_eq_false (Ft f e N)).symm, e8 E⟩
 refine yG ?_
 refine sE E [0,1,2,3,4,5,6,7,8,9] ?_
 replace E := E.drew
 refine yG ?_
 refine lD O O O J O (List.getElem?_eq_some_iff.1 f).1 ?_
 refine SW O O O O O (fun w l => CE FQ O O ((e5 l).1) (CF u)) ?_
 refine yG ?_
 refine lD O O O I O (List.getElem?_eq_some_iff.1 e).1 ?_
 refine SW O O O O O (fun w l => CE FQ O O ((l.2.2.1).1) (CF t)) ?_
 refine yG ?_
 refine GG (o := ⟨some 25, _, _, _, _, _⟩) O O O O (CA UY O (pS n2 s2 m2 u2 C H n3 s3 m3 u3 B G _ (e4 E) (e3 E) u E.2.1 E.1 t) O E ?_)
 intro w4 d4 E
 refine ⟨E, ?_⟩
 refine yG ?_
 refine SW (v := .bool (!(decide ((C, H) = (B, G))))) O O O O O (fun w l => YM (b := (decide ((C, H) = (B, G)))) O O) ?_
 refine yG ?_
 refine AP (congrArg Value.bool (by rw [decide_eq_true N]; rfl)) ?_
 refine yG ?_
 exact ⟨_, (by rw [T]; omega), (i + 1), _, O, O, zE, O, ⟨by omega, tH hJ f e N⟩⟩
set_option maxHeartbeats 8000000
set_option maxRecDepth 100000
theorem DC {c : Bool} (h : c = b) : Ending.returned (.bool b) = .returned (.bool c) := by rw [h]
theorem UT (c : Int) (w : World) :
 Calls prog 141 #[.int .i32 c] w (LN w (cA c)) := by
 have E := Env.start w
 go_enter func141, ntmps141
 by_cases h : 48 <= c
 case neg =>
  by_cases e : c = 95
  . exfalso
    refine yG ?_
    omega
  refine yG ?_
  exact ⟨DC (tT AA), E.1⟩
 by_cases f : c <= 57
 . refine yG ?_
   exact ⟨DC (lQ AA), E.1⟩
 by_cases e : c = 95
 case neg =>
  refine yG ?_
  exact ⟨DC (tT AA), E.1⟩
 refine yG ?_
 exact ⟨DC (lQ AA), E.1⟩
theorem US (c : Nat) (w : World) :
 Calls prog 118 #[.int .u8 ↑c] w (LN w (WQ ((c : Nat) : Int))) := by
 have E := Env.start w
 go_enter func118, ntmps118
 by_cases k : ((c : Nat) : Int) >= 65
 case neg =>
  by_cases e : ((c : Nat) : Int) >= 97
  . exfalso
    refine yG ?_
    omega
  refine yG ?_
  exact ⟨DC (iY AA), E.1⟩
 by_cases h : ((c : Nat) : Int) <= 90
 . refine yG ?_
   exact ⟨DC (lX AA), E.1⟩
 by_cases e : ((c : Nat) : Int) >= 97
 case neg =>
  refine yG ?_
  exact ⟨DC (iY AA), E.1⟩
 by_cases f : ((c : Nat) : Int) <= 122
 case neg =>
  refine yG ?_
  exact ⟨DC (iY AA), E.1⟩
 refine yG ?_
 exact ⟨DC (lX AA), E.1⟩
theorem oL (s : Bs) (w : World) :
 Calls prog 94 #[.string (bs s)] w (LN w (PU s)) := by
 have E := Env.start w
 go_enter func94, ntmps94
 by_cases X : ((s.length : Nat) : Int) < 1
 . refine yG ?_
   exact ⟨DC (oJ AA), E.1⟩
 by_cases U : ((s.length : Nat) : Int) > 12
 . refine yG ?_
   exact ⟨DC (sF AA), E.1⟩
 refine yG ?_
 refine EF O (qS (s := (bs s)) O underlying9 O ?_)
 intro F w1 D z1 d1 H
 have l1 : w.heap.size <= F := by rw [D]; exact E.1.size
 replace E := E.below d1
 replace E := E.it H
 refine yG ?_
 refine wp_loop_ghost (fun T a N => ∃ (i : Nat) (f : List Value), f = a.tmps.toList /\ a = ⟨(.string (bs s) :: gr f 1 5 (.string (bs s) :: .int .i64 ↑s.length :: .bool false :: .bool false :: .string (bs s) :: .int .i64 ↑s.length :: .bool false :: .bool false :: .string (bs s) :: .pointer (some ⟨F, 0, none⟩) :: gr f 16 29 [])).toArray, []⟩ /\ Env N [fIt F (bs s) i, fW w] /\ T = s.length - i /\ (i <= s.length /\ Cr s i)) (s.length) ⟨0, _, O, O, zE, O, ⟨Nat.zero_le _, rZ s⟩⟩ ?_
 rintro m2 _ w2 ⟨i, f, -, rfl, E, o, t⟩
 dsimp only [gr, Nat.reduceAdd]
 obtain ⟨t, q⟩ := t
 by_cases v : i < s.length
 case neg =>
  refine yG ?_
  refine EF O (lF O O E.1 (by rw [ES]; exact v) ?_)
  refine yG ?_
  exact ⟨DC (yH AA AA q AA), E.2.1⟩
 obtain ⟨b, e⟩ : ∃ b, s[i]? = some b := ⟨_, List.getElem?_eq_getElem v⟩
 by_cases p : b.toNat < 128
 case neg =>
  obtain ⟨c, n, Y, hc⟩ : ∃ c n, Utf8.decode (bs s) i = (c, n) /\ 128 <= c := ⟨_, _, rfl, zV s e p⟩
  have u := E.1
  refine yG ?_
  replace E := YE E
  refine EF O (iK (pos := i) O O u Y (by rw [ES]; exact v) ?_)
  intro J C y
  replace E := (E.onl (xW u) zK C).it y
  by_cases l : i = 0
  . refine yG ?_
    exact ⟨DC (NM e (yN p)), E.2.1⟩
  refine yG ?_
  refine EF O (CA IH O (CT (Ji hc) (UT ((c : Nat) : Int) _)) O E ?_)
  intro I a0 E
  refine yG ?_
  exact ⟨DC (NM e (yN p)), E.2.1⟩
 have g3 := E.1
 refine yG ?_
 replace E := YE E
 refine EF O (iK (pos := i) O O g3 (Dm s e p) (by rw [ES]; exact v) ?_)
 intro w3 S G
 replace E := (E.onl (xW g3) zK S).it G
 by_cases R : 65 <= ((b.toNat : Nat) : Int)
 case neg =>
  by_cases B : 97 <= ((b.toNat : Nat) : Int)
  . exfalso
    refine yG ?_
    omega
  exact ZWI
 by_cases Q : ((b.toNat : Nat) : Int) <= 90
 . exact ZMA
 by_cases B : 97 <= ((b.toNat : Nat) : Int)
 case neg =>
  exact ZWI
 by_cases P : ((b.toNat : Nat) : Int) <= 122
 . exact ZMA
 exact ZWI
theorem vQ (s : Bs) (w : World) :
 Calls prog 75 #[.string (bs s)] w (LN w (PU s)) := by
 have E := Env.start w
 go_enter func75, ntmps75
 by_cases B : ((s.length : Nat) : Int) < 1
 . refine yG ?_
   exact ⟨DC (oJ AA), E.1⟩
 by_cases y : ((s.length : Nat) : Int) > 12
 . refine yG ?_
   exact ⟨DC (sF AA), E.1⟩
 obtain ⟨t, l⟩ : ∃ b, s[0]? = some b := ⟨_, List.getElem?_eq_getElem (show 0 < s.length by omega)⟩
 by_cases e : WQ ((t.toNat : Nat) : Int) = true
 case neg =>
  refine yG ?_
  refine EF O (CA IK O (CT (DY e) (US t.toNat _)) O E ?_)
  intro D T E
  refine yG ?_
  exact ⟨DC (NM l (mB rfl (DY e))), E.1⟩
 refine yG ?_
 refine EF O (CA IK O (CT e (US t.toNat _)) O E ?_)
 intro N d1 E
 refine yG ?_
 refine wp_loop_ghost (fun v a u => ∃ (i : Nat) (f : List Value), f = a.tmps.toList /\ a = ⟨(.string (bs s) :: undef :: CJ f 2 :: .int .i64 ↑i :: .string (bs s) :: .int .i64 ↑s.length :: .bool false :: .bool false :: .string (bs s) :: .int .i64 ↑s.length :: .bool false :: .bool false :: .bool false :: .string (bs s) :: .int .u8 ↑t.toNat :: .bool true :: .bool false :: .bool false :: gr f 18 30 []).toArray, []⟩ /\ Env u [fW w] /\ v = s.length - i /\ (i <= s.length /\ 1 <= i /\ Cr s i)) ((s.length - 1)) ⟨1, _, O, O, zE, O, ⟨by omega, by decide, NX (rZ s) l (uR e)⟩⟩ ?_
 rintro P _ L ⟨i, f, -, rfl, E, k, p⟩
 dsimp only [gr, Nat.reduceAdd]
 obtain ⟨p, q⟩ := p
 by_cases Q : i < s.length
 case neg =>
  refine yG ?_
  exact ⟨DC (yH AA AA q.2 AA), E.1⟩
 obtain ⟨b, o⟩ : ∃ b, s[i]? = some b := ⟨_, List.getElem?_eq_getElem (show i < s.length by omega)⟩
 by_cases h : WQ ((b.toNat : Nat) : Int) = true
 . refine yG ?_
   refine EF O (CA IK O (CT h (US b.toNat _)) O E ?_)
   intro J d3 E
   refine yG ?_
   exact ⟨_, (by rw [k]; omega), (i + 1), _, O, O, zE, O, ⟨by omega, by omega, NX q.2 o (uR h)⟩⟩
 by_cases S : ((b.toNat : Nat) : Int) >= 48
 case neg =>
  by_cases C : ((b.toNat : Nat) : Int) ≠ 95
  case neg =>
   exfalso
   omega
  exact ZFs
 by_cases R : ((b.toNat : Nat) : Int) <= 57
 . exact ZyM
 by_cases C : ((b.toNat : Nat) : Int) ≠ 95
 . exact ZFs
 exact ZyM
def aO (l : List Bs) (x : Bs) : Int := match l.idxOf? x with
 | some i => ((i : Nat) : Int)
 | none => -1
theorem bW {l : List Bs} {x : Bs} (h : x ∉ l) : aO l x = -1 := by
 unfold aO
 have : l.idxOf? x = none := by
  rw [List.idxOf?, List.findIdx?_eq_none_iff]
  intro y f
  simp only [beq_eq_false_iff_ne, ne_eq]
  exact fun e => h (e ▸ f)
 rw [this]
theorem Qh {l : List Bs} {x : Bs} (h : l[i]? = some x) (hn : x ∉ l.take i) : l.idxOf? x = some i := by
 obtain ⟨k, f⟩ := List.getElem?_eq_some_iff.1 h
 rw [List.idxOf?, List.findIdx?_eq_some_iff_getElem]
 refine ⟨k, by simp [f], fun j o => ?_⟩
 simp only [beq_iff_eq]
 intro e
 exact hn (by rw [<- e]; exact List.mem_take_iff_getElem.2 ⟨j, by omega, rfl⟩)
theorem Kf {l : List Bs} {x : Bs} (h : l[i]? = some x) (hn : x ∉ l.take i) : ((i : Nat) : Int) = aO l x := by unfold aO; rw [Qh h hn]
theorem sG {l : List Bs} {x : Bs} (h : x ∈ l) : ∃ i, l.idxOf? x = some i /\ i < l.length := by
 cases e : l.idxOf? x with
 | none =>
   rw [List.idxOf?, List.findIdx?_eq_none_iff] at e
   have := e x h
   simp at this
 | some i =>
   refine ⟨i, O, ?_⟩
   rw [List.idxOf?, List.findIdx?_eq_some_iff_getElem] at e
   exact e.1
theorem Vn {l : List Bs} {x : Bs} (h : x ∈ l) : decide (aO l x >= 0) = true := by
 obtain ⟨i, e, _⟩ := sG h
 unfold aO; rw [e, decide_eq_true_eq]; simp
theorem Qg {l : List Bs} {x : Bs} (h : x ∉ l) : decide (aO l x >= 0) = false := by rw [bW h]; rfl
theorem qI {l : List Bs} {x y : Bs} (h : y ∉ l.take i) (hx : l[i]? = some x) (hne : ¬ x = y) : y ∉ l.take (i + 1) := by
 rw [KK hx]
 intro g
 rcases List.mem_append.1 g with g | g
 . exact h g
 simp at g; exact hne g.symm
theorem Pk {l : List Bs} {y : Bs} (h : y ∉ l.take i) (hi : ¬ i < l.length) : y ∉ l := by rw [KC hi] at h; exact h
theorem ON (vl : Value) (l : List Bs) (s : Bs) (w : World) (hRl : IsR elS (DL w.heap.size) w vl l) (hL : l.length <= 1000000) :
 Calls prog 107 #[vl, .string (bs s)] w (VI w (aO l s)) := by
 have E := Env.start w
 obtain ⟨p, h, rfl, N, L⟩ := hRl.shp
 replace E := E.r hRl (DZ _)
 go_enter func107, ntmps107
 refine yG ?_
 refine wp_loop_ghost (fun J a H => ∃ (i : Nat) (f : List Value), f = a.tmps.toList /\ a = ⟨(.slice p l.length h :: .string (bs s) :: gr f 2 3 (.int .i64 ↑i :: gr f 6 13 [])).toArray, []⟩ /\ Env H [fR elS (DL w.heap.size) (.slice p l.length h) l, fW w] /\ J = l.length - i /\ (i <= l.length /\ s ∉ l.take i)) (l.length) ⟨0, _, O, O, zE, O, ⟨Nat.zero_le _, by simp⟩⟩ ?_
 rintro Q _ P ⟨i, f, -, rfl, E, y, o⟩
 dsimp only [gr, Nat.reduceAdd]
 obtain ⟨o, F⟩ := o
 by_cases G : i < l.length
 case neg =>
  refine yG ?_
  exact ⟨FW (bW (Pk F G)).symm, E.2.1⟩
 obtain ⟨q, e⟩ : ∃ x, l[i]? = some x := ⟨_, List.getElem?_eq_getElem G⟩
 obtain ⟨u, I, _, k, D, C, v⟩ := IsR.at E.1.1 e
 obtain rfl := (show _ = [Value.string (bs q)] from v)
 have B : u < _ := E.1.2 _ D
 replace E := E.c C B
 by_cases t : q = s
 . refine yG ?_
   refine OL O O k O (List.getElem?_eq_some_iff.1 e).1 ?_
   refine yG ?_
   refine V O O (EO (a := q) (b := s) (c := true) O O O (by rw [beq_iff_eq]; exact t)) ?_
   refine yG ?_
   exact ⟨FW (Kf (by rw [e, t]) F), E.2.2.1⟩
 refine yG ?_
 refine OL O O k O (List.getElem?_eq_some_iff.1 e).1 ?_
 refine yG ?_
 refine V O O (EO (a := q) (b := s) (c := false) O O O (by rw [beq_eq_false_iff_ne]; exact t)) ?_
 refine yG ?_
 exact ⟨_, (by rw [y]; omega), (i + 1), _, O, O, zE, O, ⟨by omega, qI F e t⟩⟩
def gG (l : List Bs) (i : Nat) : Prop := (∀ v ∈ l.take i, PU v = true) /\ (l.take i).Nodup
theorem dM (l : List Bs) : gG l 0 := ⟨fun v h => by simp at h, by simp⟩
theorem dN {l : List Bs} {x : Bs} (h : gG l i) (hx : l[i]? = some x) (hn : PU x = true) (hd : x ∉ l.take i) : gG l (i + 1) := by
 unfold gG
 rw [KK hx]
 refine ⟨fun v k => ?_, ?_⟩
 . rcases List.mem_append.1 k with g | g
   . exact h.1 v g
   simp at g; rw [g]; exact hn
 rw [List.nodup_append]
 refine ⟨h.2, by simp, fun a o b f e => ?_⟩
 simp at f; subst e f; exact hd o
theorem oD {l : List Bs} (h : l.length > k) : DM k l = false := by
 cases e : DM k l with
 | false => rfl
 | true => have := IG e; omega
theorem oA {l : List Bs} {x : Bs} (hx : l[i]? = some x) (hn : PU x = false) : DM k l = false := by
 cases e : DM k l with
 | false => rfl
 | true => have := SK e x (List.mem_of_getElem? hx); rw [hn] at this; cases this
theorem uN {l : List Bs} {x : Bs} (hx : l[i]? = some x) (hd : x ∈ l.take i) : DM k l = false := by
 cases e : DM k l with
 | false => rfl
 | true =>
   have p := yJ e
   obtain ⟨j, q, f⟩ := List.mem_take_iff_getElem.1 hd
   have h := (List.getElem?_eq_some_iff.1 hx).1
   have o := (List.pairwise_iff_getElem.1 p) j i AA h AA
   exact absurd (by rw [f]; exact ((List.getElem?_eq_some_iff.1 hx).2).symm) o
theorem uM {l : List Bs} (h : gG l i) (hi : ¬ i < l.length) (hk : ¬ l.length > k) : DM k l = true := by
 unfold gG at h
 rw [KC hi] at h
 unfold DM
 simp only [Bool.and_eq_true, decide_eq_true_eq, List.all_eq_true]
 exact ⟨⟨by omega, h.1⟩, h.2⟩
theorem iG (vl : Value) (l : List Bs) (k : Nat) (w : World) (hRl : IsR elS (DL w.heap.size) w vl l) (hL : l.length <= 1000000) :
 Calls prog 61 #[vl, .int .i64 ↑k] w (LN w (DM k l)) := by
 have E := Env.start w
 obtain ⟨p, f, rfl, T, S⟩ := hRl.shp
 replace E := E.r hRl (DZ _)
 go_enter func61, ntmps61
 by_cases hk : ((l.length : Nat) : Int) > ((k : Nat) : Int)
 . refine yG ?_
   exact ⟨DC (oD AA), E.2.1⟩
 refine yG ?_
 refine wp_loop_ghost (fun R a P => ∃ (i : Nat) (q : List Value), q = a.tmps.toList /\ a = ⟨(.slice p l.length f :: .int .i64 ↑k :: gr q 2 3 (.int .i64 ↑i :: .slice p l.length f :: .int .i64 ↑l.length :: .int .i64 ↑k :: .bool false :: gr q 10 23 [])).toArray, []⟩ /\ Env P [fR elS (DL w.heap.size) (.slice p l.length f) l, fW w] /\ R = l.length - i /\ (i <= l.length /\ gG l i)) (l.length) ⟨0, _, O, O, zE, O, ⟨Nat.zero_le _, dM l⟩⟩ ?_
 rintro m1 _ w1 ⟨i, q, -, rfl, E, F, y⟩
 dsimp only [gr, Nat.reduceAdd]
 obtain ⟨y, N⟩ := y
 by_cases L : i < l.length
 case neg =>
  refine yG ?_
  exact ⟨DC (uM N L AA), E.2.1⟩
 obtain ⟨t, e⟩ : ∃ x, l[i]? = some x := ⟨_, List.getElem?_eq_getElem L⟩
 obtain ⟨C, Q, _, h, I, H, D⟩ := IsR.at E.1.1 e
 obtain rfl := (show _ = [Value.string (bs t)] from D)
 have G : C < _ := E.1.2 _ I
 replace E := E.c H G
 by_cases u : PU t = true
 case neg =>
  refine yG ?_
  refine sE E [0,1,2,3,4,5,6,7,8,9,10,11,12,13,14,15,16] ?_
  replace E := E.drew
  refine yG ?_
  refine Af O O O h O (List.getElem?_eq_some_iff.1 e).1 ?_
  refine yG ?_
  refine GG (o := ⟨some 20, _, _, _, _, _⟩) O O O O (CA UX O (CT (DY u) (vQ t _)) O E ?_)
  intro U d7 E
  refine ⟨E, ?_⟩
  refine yG ?_
  exact ⟨DC (oA e (DY u)), E.2.2.1⟩
 by_cases B : t ∈ l.take i
 case pos =>
  refine yG ?_
  refine sE E [0,1,2,3,4,5,6,7,8,9,10,11,12,13,14,15,16] ?_
  replace E := E.drew
  refine yG ?_
  refine Af O O O h O (List.getElem?_eq_some_iff.1 e).1 ?_
  refine yG ?_
  refine GG (o := ⟨some 20, _, _, _, _, _⟩) O O O O (CA UX O (CT u (vQ t _)) O E ?_)
  intro w3 d3 E
  refine ⟨E, ?_⟩
  refine yG ?_
  refine SW (v := .slice p i f) O O O Z O (fun w J => RW (i := i) (sz := 1) O underlying30 Z O O O AA) ?_
  refine yG ?_
  refine Af O O O h O (List.getElem?_eq_some_iff.1 e).1 ?_
  refine yG ?_
  refine GG (o := ⟨some 30, _, _, _, _, _⟩) O O O O (CB DS O (ON _ (l.take i) t _ ((IsR.take E.2.1.1 AA).mono (fun k g => E.2.1.2 k g)) (by first | omega | (rw [List.length_take]; omega))) O E ?_)
  intro w4 d4 E
  refine ⟨E, ?_⟩
  refine yG ?_
  refine SW O O O Z O (fun w J => tO (c := true) O O O (Vn B)) ?_
  refine yG ?_
  exact ⟨DC (uN e B), E.2.2.1⟩
 refine yG ?_
 refine sE E [0,1,2,3,4,5,6,7,8,9,10,11,12,13,14,15,16] ?_
 replace E := E.drew
 refine yG ?_
 refine Af O O O h O (List.getElem?_eq_some_iff.1 e).1 ?_
 refine yG ?_
 refine GG (o := ⟨some 20, _, _, _, _, _⟩) O O O O (CA UX O (CT u (vQ t _)) O E ?_)
 intro Y d5 E
 refine ⟨E, ?_⟩
 refine yG ?_
 refine SW (v := .slice p i f) O O O Z O (fun w J => RW (i := i) (sz := 1) O underlying30 Z O O O AA) ?_
 refine yG ?_
 refine Af O O O h O (List.getElem?_eq_some_iff.1 e).1 ?_
 refine yG ?_
 refine GG (o := ⟨some 30, _, _, _, _, _⟩) O O O O (CB DS O (ON _ (l.take i) t _ ((IsR.take E.2.1.1 AA).mono (fun k g => E.2.1.2 k g)) (by first | omega | (rw [List.length_take]; omega))) O E ?_)
 intro X d6 E
 refine ⟨E, ?_⟩
 refine yG ?_
 refine SW O O O Z O (fun w J => tO (c := false) O O O (Qg B)) ?_
 refine yG ?_
 exact ⟨_, (by rw [F]; omega), (i + 1), _, O, O, zE, O, ⟨by omega, dN N e u B⟩⟩
end Go.Proofs.YtmppigbbkjepiaaGreatDoor
