/- Helping facts of Poly; no other conditions. Helping facts of Names; no other conditions. -/
import Derived.Test.YtmppigbbkjepiaaGreatDoorRat5
set_option maxHeartbeats 8000000
set_option maxRecDepth 100000
namespace Go.Proofs.YtmppigbbkjepiaaGreatDoor
open Go.Proofs.Tryz
open Go.RowKit W
variable {M m n : List Nat} {b : Bool} {c d : Rat} {i k : Nat} {p : Prop} {α : Type}
theorem YQQ (h : p := by first | rfl | exact CM DH) : p := h
theorem ZI2 (h : p := by
 have k : UO ((b.toNat : Nat) : Int) = false := hI AA
 by_cases l : i = 0
 . refine yG ?_
   exact ⟨CS (MM e (lA l k)), E.2.1⟩
 by_cases h : aN ((b.toNat : Nat) : Int) = true
 case neg =>
  refine yG ?_
  refine EF O (CA GV O (CU (DE h) (TJ ((b.toNat : Nat) : Int) _)) O E ?_)
  intro J a1 E
  refine yG ?_
  exact ⟨CS (MM e (dH l k (DE h))), E.2.1⟩
 refine yG ?_
 refine EF O (CA GV O (CU h (TJ ((b.toNat : Nat) : Int) _)) O E ?_)
 intro w9 d9 E
 refine yG ?_
 exact ⟨_, (by rw [o]; omega), (i + 1), _, O, O, zE, O, ⟨by omega, MY q e (mH l h)⟩⟩
 ) : p := h
theorem ZZX (h : p := by
 refine yG ?_
 refine EF O (CA GY O (CU (DE h) (TI b.toNat _)) O E ?_)
 intro H Y E
 refine yG ?_
 exact ⟨_, (by rw [k]; omega), (i + 1), _, O, O, zE, O, ⟨by omega, by omega, MY q.2 o (mH AA (kN AA))⟩⟩
 ) : p := h
theorem ZwY (h : p := by
 refine yG ?_
 exact ⟨_, (by rw [u]; omega), (i + 1), _, O, O, zE, O, AA⟩
 ) : p := h
theorem Z7T (h : p := by
 have k : UO ((b.toNat : Nat) : Int) = true := kV AA
 refine yG ?_
 exact ⟨_, (by rw [o]; omega), (i + 1), _, O, O, zE, O, ⟨by omega, MY q e (tO k)⟩⟩
 ) : p := h
theorem Zto (h : p := by
 refine yG ?_
 refine EF O (CA GY O (CU (DE h) (TI b.toNat _)) O E ?_)
 intro D T E
 refine yG ?_
 exact ⟨CS (MM o (dH AA (DE h) (sT AA))), E.1⟩
 ) : p := h
theorem ZKv (h : p := by
 refine yG ?_
 exact ⟨_, (by rw [y]; omega), (i + 1), _, O, O, zE, O, AA⟩
 ) : p := h
theorem ZKH (h : p := by
 refine yG ?_
 exact ⟨_, (by rw [z]; omega), (i + 1), _, O, O, zE, O, AA⟩
 ) : p := h
theorem Wk (n : Bool) (s : Value) (m : Bool) (u : Value) (x : Rat) (w : World) (h1 : IsI w (.agg #[.bool n, s]) x.num) (h2 : IsI w (.agg #[.bool m, u]) ((x.den : Nat) : Int)) (h3 : FitQ x 100000000) :
 Calls prog 80 #[.agg #[.bool n, s, .bool m, u]] w (LI w true) := CU (decide_eq_true (zZ x)) (fZ n s m u _ _ w h1 h2 (h3.1.mono AE) (h3.2.mono AE))
theorem Re (n : Bool) (s : Value) (m : Bool) (u : Value) (x : Rat) (w : World) (h1 : IsI w (.agg #[.bool n, s]) x.num) (h2 : IsI w (.agg #[.bool m, u]) ((x.den : Nat) : Int)) (h3 : FitQ x 100000000) :
 Calls prog 108 #[.agg #[.bool n, s, .bool m, u]] w (LI w true) := CU (decide_eq_true (zZ x)) (Kk n s m u _ _ w h1 h2 (h3.1.mono AE) (h3.2.mono AE))
theorem Wo (na : Bool) (sa : Value) (ma : Bool) (ta : Value) (x : Rat) (nb : Bool) (sb : Value) (mb : Bool) (tb : Value) (y : Rat) (w : World) (h1 : IsI w (.agg #[.bool na, sa]) x.num) (h2 : IsI w (.agg #[.bool ma, ta]) ((x.den : Nat) : Int)) (h3 : IsI w (.agg #[.bool nb, sb]) y.num) (h4 : IsI w (.agg #[.bool mb, tb]) ((y.den : Nat) : Int)) :
 Calls prog 92 #[.agg #[.bool na, sa, .bool ma, ta], .agg #[.bool nb, sb, .bool mb, tb]] w (LI w (decide (x = y))) :=
 CU (decide_eq_decide.2 ⟨fun h => Rat.ext h.1 (Int.ofNat_inj.1 h.2), fun h => by subst h; exact ⟨rfl, rfl⟩⟩) (C1 na sa ma ta _ _ nb sb mb tb _ _ w h1 h2 h3 h4)
theorem vS (h : c ≠ 0) : (OP c.num == 0) = false := by
 have := Ze h
 rw [beq_eq_false_iff_ne]
 unfold OP JC
 split <;> first | decide | (split <;> first | decide | omega)
theorem yD {p : List Tm} (h : ED p) {a b : Rat} (hi : 0 < i) (h1 : p[i - 1]? = some (a, m)) (h2 : p[i]? = some (b, n)) : ES m n = 1 := h.2 (i - 1) _ _ h1 (by rw [show i - 1 + 1 = i by omega]; exact h2)
theorem ZJ (vp : Value) (p : List Tm) (w : World) (hRp : IsR JL (CX w.heap.size) w vp p) (hp : ED p) (hF : ∀ t ∈ p, FitQ t.1 1000000) (hL : p.length <= 1000000) :
 Calls prog 37 #[vp] w (LI w true) := by
 have E := Env.start w
 obtain ⟨q, h, rfl, a3, a2⟩ := hRp.shp
 replace E := E.r hRp (DF _)
 go_enter func37, ntmps37
 refine yG ?_
 refine wp_loop_ghost (fun mz a w' => ∃ (i : Nat) (k : List Value), k = a.tmps.toList /\ a = ⟨(.slice q p.length h :: gr k 1 4 (.slice q p.length h :: .int .i64 ↑p.length :: .int .i64 ↑i :: gr k 8 35 [])).toArray, []⟩ /\ Env w' [fR JL (CX w.heap.size) (.slice q p.length h) p, fW w] /\ mz = p.length - i /\ (i <= p.length)) (p.length) ⟨0, _, O, O, zE, O, (Nat.zero_le _)⟩ ?_
 rintro m1 _ w1 ⟨i, k, -, rfl, E, y, a6⟩
 dsimp only [gr, Nat.reduceAdd]
 by_cases hi : i < p.length
 case neg =>
  refine yG ?_
  exact ⟨rfl, E.2.1⟩
 obtain ⟨⟨Y, D⟩, f⟩ : ∃ x, p[i]? = some x := ⟨_, List.getElem?_eq_getElem hi⟩
 obtain ⟨u, a1, _, T, z, R, ⟨n2, s2, m2, u2, rfl, I, P, e⟩⟩ := IsR.at E.1.1 f
 have L : u < _ := E.1.2 _ z
 replace E := ((E.c R L).i I).i P
 have a4 : u < w.heap.size := z
 have G := hp.1 _ (List.mem_of_getElem? f)
 refine yG ?_
 refine lH O O T O (List.getElem?_eq_some_iff.1 f).1 ?_
 refine V O O (CD KL O O (E.2.2.1.1) (CM e)) ?_
 refine yG ?_
 refine EF O (CB KL O ?_)
 intro b3 w3 e3 z3 d3 X
 have l3 : w.heap.size <= b3 := by rw [e3]; exact (e4 E).size
 replace E := E.below d3
 clear e3
 refine yG ?_
 refine EF O (BY KL O O O X YQQ (CM e) (GM (M := D) (IsI.one E.2.1) (IsI.one E.1)) ?_)
 intro w4 o4 y4
 replace E := oY E X o4 y4 (ds := (IJ n2 s2 m2 u2 D))
 refine yG ?_
 refine V O O (CD GP O O (Cs.sub (Bx.cs E.1) 0 (EI _ _ _ _ _)) O) ?_
 refine yG ?_
 refine EF O (CA LW O (Wk _ _ _ _ Y _ E.2.2.1 E.2.1 (FitQ.mono (hF _ (List.mem_of_getElem? f)) AE)) O E ?_)
 intro w5 d5 E
 refine yG ?_
 refine V Z O (CD GP O O (Cs.sub (Bx.cs E.1) 0 (EI _ _ _ _ _)) O) ?_
 refine yG ?_
 refine EF O (CE EB O (QG _ _ _ _ Y _ E.2.2.1 E.2.1) O E ?_)
 intro w6 d6 E
 refine yG ?_
 refine V Z O (EU (c := false) O O O (vS G.1)) ?_
 refine yG ?_
 refine V Z O (CD QN O O (Cs.sub (Bx.cs E.1) 4 (DU _ _ _ _ _)) (DC e)) ?_
 refine yG ?_
 refine EF O (CA eT O (Rl D _ e) O E ?_)
 intro w7 d7 E
 by_cases h0 : 0 < i
 case neg =>
  refine yG ?_
  refine sE E [0,1,2,3,4,5,6,7,8,9,10,11,12,13] ?_
  replace E := E.drew
  exact ZKv
 obtain ⟨⟨c8, M8⟩, l⟩ : ∃ x, p[i - 1]? = some x := ⟨_, List.getElem?_eq_getElem (show i - 1 < p.length by omega)⟩
 obtain ⟨F, a0, _, S, U, Q, ⟨n8, s8, m8, u8, rfl, H, N, C⟩⟩ := IsR.at (e4 E).1 l
 have J : F < _ := (e4 E).2 _ U
 replace E := ((E.c Q J).i H).i N
 refine yG ?_
 refine sE E [0,1,2,3,4,5,6,7,8,9,10,11,12,13] ?_
 replace E := E.drew
 refine yG ?_
 refine SW (v := .int .i64 ↑(i - 1)) O O O Z O (fun w B => GN O O O (by rw [HI AA]; omega)) ?_
 refine kD O O O S O (List.getElem?_eq_some_iff.1 l).1 ?_
 refine yG ?_
 refine SW O O O Z O (fun w B => CD QN O O (Cs.sub ((B.2.2.1).1) 4 (DU _ _ _ _ _)) (DC C)) ?_
 refine yG ?_
 refine SW O O O Z O (fun w B => CD QN O O (Cs.sub (Bx.cs (e3 B)) 4 (DU _ _ _ _ _)) (DC e)) ?_
 refine yG ?_
 refine GZ (o := ⟨some 39, _, _, _, _, _⟩) O O O O (CE RD O (Dj M8 D _ C e) O E ?_)
 intro w9 d9 E
 refine ⟨E, ?_⟩
 refine yG ?_
 refine SW O O O Z O (fun w B => OW (c := false) O O O (by rw [yD hp h0 l f]; rfl)) ?_
 exact ZKv
def Vm (d : Int) (p : List Tm) : Int := p.foldl (fun d t => if d < ((OZ t.2 8 : Nat) : Int) then ((OZ t.2 8 : Nat) : Int) else d) d
def US (p : List Tm) : Int := Vm (-1) p
def FN (p : List Tm) : Nat := p.foldl (fun s t => s ||| ME t.2 8) 0
theorem JG {l : List α} {x : α} (h : l[i]? = some x) : l.take (i + 1) = l.take i ++ [x] := by
 obtain ⟨f, e⟩ := List.getElem?_eq_some_iff.1 h
 rw [List.take_succ_eq_append_getElem f, e]
theorem rS {p : List Tm} (h : p[i]? = some (c, M)) : US (p.take (i + 1)) = if US (p.take i) < ((OZ M 8 : Nat) : Int) then ((OZ M 8 : Nat) : Int) else US (p.take i) := by
 rw [JG h]; unfold US Vm; rw [List.foldl_append]; rfl
theorem lU {p : List Tm} (h : p[i]? = some (c, M)) : FN (p.take (i + 1)) = FN (p.take i) ||| ME M 8 := by
 rw [JG h]; unfold FN; rw [List.foldl_append]; rfl
theorem sG (M : List Nat) : ME M 8 < 256 := Al (Nat.le_refl 8)
theorem XV (p : List Tm) : FN p < 256 := by
 unfold FN
 have : ∀ (p : List Tm) (s : Nat), s < 256 -> p.foldl (fun s t => s ||| ME t.2 8) s < 256 := by
  intro p
  induction p with
  | nil => intro s h; exact h
  | cons t p ih => intro s h; exact ih _ (Nat.or_lt_two_pow (n := 8) h (sG t.2))
 exact this p 0 AE
theorem GQ {l : List α} (h : ¬ i < l.length) : l.take i = l := List.take_of_length_le AA
theorem gG (vp : Value) (p : List Tm) (w : World) (hRp : IsR JL (CX w.heap.size) w vp p) (hL : p.length <= 1000000) :
 Calls prog 38 #[vp] w (FI w (.int .u8 ↑(FN p))) := by
 have E := Env.start w
 obtain ⟨l, e, rfl, U, T⟩ := hRp.shp
 replace E := E.r hRp (DF _)
 go_enter func38, ntmps38
 refine yG ?_
 refine wp_loop_ghost (fun R a I => ∃ (i : Nat) (h : List Value), h = a.tmps.toList /\ a = ⟨(.slice l p.length e :: undef :: .int .u8 0 :: .int .u8 ↑(FN (p.take i)) :: undef :: CF h 5 :: .slice l p.length e :: .int .i64 ↑p.length :: .int .i64 ↑i :: gr h 9 10 []).toArray, []⟩ /\ Env I [fR JL (CX w.heap.size) (.slice l p.length e) p, fW w] /\ R = p.length - i /\ (i <= p.length)) (p.length) ⟨0, _, O, O, zE, O, (Nat.zero_le _)⟩ ?_
 rintro m1 _ w1 ⟨i, h, -, rfl, E, u, Y⟩
 dsimp only [gr, Nat.reduceAdd]
 by_cases G : i < p.length
 case neg =>
  refine yG ?_
  exact ⟨by rw [GQ G], E.2.1⟩
 obtain ⟨⟨c2, D⟩, k⟩ : ∃ x, p[i]? = some x := ⟨_, List.getElem?_eq_getElem G⟩
 obtain ⟨o, N, _, C, q, B, ⟨Q, L, S, J, rfl, t, z, f⟩⟩ := IsR.at E.1.1 k
 have y : o < _ := E.1.2 _ q
 replace E := ((E.c B y).i t).i z
 have X : o < w.heap.size := q
 refine yG ?_
 refine lH O O C O (List.getElem?_eq_some_iff.1 k).1 ?_
 refine V O O (CD KL O O (E.2.2.1.1) (CM f)) ?_
 refine yG ?_
 refine EF O (CB KL O ?_)
 intro b3 w3 e3 z3 d3 F
 have l3 : w.heap.size <= b3 := by rw [e3]; exact (e4 E).size
 replace E := E.below d3
 clear e3
 refine yG ?_
 refine EF O (BY KL O O O F YQQ (CM f) (GM (M := D) (IsI.one E.2.1) (IsI.one E.1)) ?_)
 intro w4 P H
 replace E := oY E F P H (ds := (IJ Q L S J D))
 refine yG ?_
 refine V O O (CD QN O O (Cs.sub (Bx.cs E.1) 4 (DU _ _ _ _ _)) (DC f)) ?_
 refine yG ?_
 refine EF O (BZ aO O (D0 D _ f) O E ?_)
 intro w5 d5 E
 refine yG ?_
 refine V (v := .int .u8 ↑(FN (p.take (i + 1)))) O O (sN O O O O O (XV _) (sG _) (lU k).symm) ?_
 exact ZwY
theorem OO (vp : Value) (p : List Tm) (w : World) (hRp : IsR JL (CX w.heap.size) w vp p) (hL : p.length <= 1000000) :
 Calls prog 142 #[vp] w (FI w (.int .i64 (US p))) := by
 have E := Env.start w
 obtain ⟨l, e, rfl, U, T⟩ := hRp.shp
 replace E := E.r hRp (DF _)
 go_enter func142, ntmps142
 refine yG ?_
 refine wp_loop_ghost (fun R a I => ∃ (i : Nat) (h : List Value), h = a.tmps.toList /\ a = ⟨(.slice l p.length e :: undef :: .int .i64 0 :: .int .i64 (US (p.take i)) :: undef :: CF h 5 :: .slice l p.length e :: .int .i64 ↑p.length :: .int .i64 ↑i :: gr h 9 10 []).toArray, []⟩ /\ Env I [fR JL (CX w.heap.size) (.slice l p.length e) p, fW w] /\ R = p.length - i /\ (i <= p.length)) (p.length) ⟨0, _, O, O, zE, O, (Nat.zero_le _)⟩ ?_
 rintro m1 _ w1 ⟨i, h, -, rfl, E, u, Y⟩
 dsimp only [gr, Nat.reduceAdd]
 by_cases G : i < p.length
 case neg =>
  refine yG ?_
  exact ⟨by rw [GQ G], E.2.1⟩
 obtain ⟨⟨c2, D⟩, k⟩ : ∃ x, p[i]? = some x := ⟨_, List.getElem?_eq_getElem G⟩
 obtain ⟨o, N, _, C, q, B, ⟨Q, L, S, J, rfl, t, z, f⟩⟩ := IsR.at E.1.1 k
 have y : o < _ := E.1.2 _ q
 replace E := ((E.c B y).i t).i z
 have X : o < w.heap.size := q
 refine yG ?_
 refine lH O O C O (List.getElem?_eq_some_iff.1 k).1 ?_
 refine V O O (CD KL O O (E.2.2.1.1) (CM f)) ?_
 refine yG ?_
 refine EF O (CB KL O ?_)
 intro b3 w3 e3 z3 d3 F
 have l3 : w.heap.size <= b3 := by rw [e3]; exact (e4 E).size
 replace E := E.below d3
 clear e3
 refine yG ?_
 refine EF O (BY KL O O O F YQQ (CM f) (GM (M := D) (IsI.one E.2.1) (IsI.one E.1)) ?_)
 intro w4 P H
 replace E := oY E F P H (ds := (IJ Q L S J D))
 refine yG ?_
 refine V O O (CD QN O O (Cs.sub (Bx.cs E.1) 4 (DU _ _ _ _ _)) (DC f)) ?_
 refine yG ?_
 refine EF O (CE bY O (Km D _ f) O E ?_)
 intro w5 d5 E
 refine yG ?_
 refine V (v := .int .i64 (US (p.take (i + 1)))) O O (vX O O O (rS k).symm) ?_
 exact ZwY
theorem VM (vp : Value) (p : List Tm) (w : World) (hRp : IsR JL (CX w.heap.size) w vp p) (hp : ED p) (hF : ∀ t ∈ p, FitQ t.1 1000000) (hL : p.length <= 1000000) :
 Calls prog 62 #[vp] w (LI w true) := by
 have E := Env.start w
 obtain ⟨G, l, rfl, a3, a2⟩ := hRp.shp
 replace E := E.r hRp (DF _)
 go_enter func62, ntmps62
 refine yG ?_
 refine wp_loop_ghost (fun mz a Y => ∃ (i : Nat) (k : List Value), k = a.tmps.toList /\ a = ⟨(.slice G p.length l :: undef :: CF k 2 :: .int .i64 ↑i :: gr k 4 48 []).toArray, []⟩ /\ Env Y [fR JL (CX w.heap.size) (.slice G p.length l) p, fW w] /\ mz = p.length - i /\ (i <= p.length)) (p.length) ⟨0, _, O, O, zE, O, (Nat.zero_le _)⟩ ?_
 rintro m1 _ w1 ⟨i, k, -, rfl, E, z, a7⟩
 dsimp only [gr, Nat.reduceAdd]
 by_cases hi : i < p.length
 case neg =>
  refine yG ?_
  exact ⟨rfl, E.2.1⟩
 obtain ⟨⟨U, X⟩, e⟩ : ∃ x, p[i]? = some x := ⟨_, List.getElem?_eq_getElem hi⟩
 obtain ⟨y, a1, _, f, C, S, ⟨n2, s2, m2, u2, rfl, J, Q, h⟩⟩ := IsR.at E.1.1 e
 have N : y < _ := E.1.2 _ C
 replace E := ((E.c S N).i J).i Q
 have a6 : y < w.heap.size := C
 have H := hp.1 _ (List.mem_of_getElem? e)
 refine yG ?_
 refine lH O O f O (List.getElem?_eq_some_iff.1 e).1 ?_
 refine yG ?_
 refine V O O (CD GP O O (Cs.sub (E.2.2.1.1) 0 (EI _ _ _ _ _)) O) ?_
 refine yG ?_
 refine EF O (CA jY O (Re _ _ _ _ U _ E.2.1 E.1 (FitQ.mono (hF _ (List.mem_of_getElem? e)) AE)) O E ?_)
 intro w3 d3 E
 refine yG ?_
 refine lH O O f O (List.getElem?_eq_some_iff.1 e).1 ?_
 refine yG ?_
 refine V Z O (CD GP O O (Cs.sub (E.2.2.1.1) 0 (EI _ _ _ _ _)) O) ?_
 refine yG ?_
 refine EF O (CE EQ O (NE _ _ _ _ U _ E.2.1 E.1) O E ?_)
 intro w4 d4 E
 refine yG ?_
 refine V Z O (EU (c := false) O O O (vS H.1)) ?_
 refine yG ?_
 refine lH O O f O (List.getElem?_eq_some_iff.1 e).1 ?_
 refine yG ?_
 refine V Z O (CD QN O O (Cs.sub (E.2.2.1.1) 4 (DU _ _ _ _ _)) (DC h)) ?_
 refine yG ?_
 refine EF O (CA XE O (rX X _ h) O E ?_)
 intro w5 d5 E
 by_cases h0 : 0 < i
 case neg =>
  refine yG ?_
  refine sE E [0,1,2,3,4,5,6,7,8,9,10,11,12,13,14,15,16] ?_
  replace E := E.drew
  exact ZKH
 obtain ⟨⟨c6, M6⟩, q⟩ : ∃ x, p[i - 1]? = some x := ⟨_, List.getElem?_eq_getElem (show i - 1 < p.length by omega)⟩
 obtain ⟨u, a0, _, T, B, R, ⟨n6, s6, m6, u6, rfl, I, P, F⟩⟩ := IsR.at (e3 E).1 q
 have L : u < _ := (e3 E).2 _ B
 replace E := ((E.c R L).i I).i P
 have a4 : u < w.heap.size := B
 refine yG ?_
 refine sE E [0,1,2,3,4,5,6,7,8,9,10,11,12,13,14,15,16] ?_
 replace E := E.drew
 refine yG ?_
 refine SW (v := .int .i64 ↑(i - 1)) O O O Z O (fun w D => GN O O O (by rw [HI AA]; omega)) ?_
 refine kD O O O T O (List.getElem?_eq_some_iff.1 q).1 ?_
 refine yG ?_
 refine SW O O O Z O (fun w D => CD QN O O (Cs.sub ((D.2.2.1).1) 4 (DU _ _ _ _ _)) (DC F)) ?_
 refine yG ?_
 refine kD O O O f O (List.getElem?_eq_some_iff.1 e).1 ?_
 refine yG ?_
 refine SW O O O Z O (fun w D => CD QN O O (Cs.sub ((e5 D).1) 4 (DU _ _ _ _ _)) (DC h)) ?_
 refine yG ?_
 refine GZ (o := ⟨some 49, _, _, _, _, _⟩) O O O O (CE IS O (UK M6 X _ F h) O E ?_)
 intro w7 d7 E
 refine ⟨E, ?_⟩
 refine yG ?_
 refine SW O O O Z O (fun w D => OW (c := false) O O O (by rw [yD hp h0 q e]; rfl)) ?_
 exact ZKH
theorem gE (vp : Value) (p : List Tm) (w : World) (hRp : IsR JL (CX w.heap.size) w vp p) (hL : p.length <= 1000000) :
 Calls prog 15 #[vp] w (FI w (.int .u8 ↑(FN p))) := by
 have E := Env.start w
 obtain ⟨q, e, rfl, J, I⟩ := hRp.shp
 replace E := E.r hRp (DF _)
 go_enter func15, ntmps15
 refine yG ?_
 refine wp_loop_ghost (fun H a F => ∃ (i : Nat) (h : List Value), h = a.tmps.toList /\ a = ⟨(.slice q p.length e :: undef :: .int .u8 0 :: .int .u8 ↑(FN (p.take i)) :: .int .i64 ↑i :: gr h 5 15 []).toArray, []⟩ /\ Env F [fR JL (CX w.heap.size) (.slice q p.length e) p, fW w] /\ H = p.length - i /\ (i <= p.length)) (p.length) ⟨0, _, O, O, zE, O, (Nat.zero_le _)⟩ ?_
 rintro Y _ R ⟨i, h, -, rfl, E, u, N⟩
 dsimp only [gr, Nat.reduceAdd]
 by_cases D : i < p.length
 case neg =>
  refine yG ?_
  exact ⟨by rw [GQ D], E.2.1⟩
 obtain ⟨⟨c2, P⟩, f⟩ : ∃ x, p[i]? = some x := ⟨_, List.getElem?_eq_getElem D⟩
 obtain ⟨k, G, _, C, l, B, ⟨U, T, X, S, rfl, t, z, o⟩⟩ := IsR.at E.1.1 f
 have y : k < _ := E.1.2 _ l
 replace E := ((E.c B y).i t).i z
 have L : k < w.heap.size := l
 refine yG ?_
 refine lH O O C O (List.getElem?_eq_some_iff.1 f).1 ?_
 refine yG ?_
 refine V O O (CD QN O O (Cs.sub (E.2.2.1.1) 4 (DU _ _ _ _ _)) (DC o)) ?_
 refine yG ?_
 refine EF O (BZ eV O (Wt P _ o) O E ?_)
 intro Q d3 E
 refine yG ?_
 refine V (v := .int .u8 ↑(FN (p.take (i + 1)))) O O (sN O O O O O (XV _) (sG _) (lU f).symm) ?_
 exact ZwY
theorem cG (vp : Value) (p : List Tm) (w : World) (hRp : IsR JL (CX w.heap.size) w vp p) (hL : p.length <= 1000000) :
 Calls prog 116 #[vp] w (FI w (.int .i64 (US p))) := by
 have E := Env.start w
 obtain ⟨q, e, rfl, J, I⟩ := hRp.shp
 replace E := E.r hRp (DF _)
 go_enter func116, ntmps116
 refine yG ?_
 refine wp_loop_ghost (fun H a F => ∃ (i : Nat) (h : List Value), h = a.tmps.toList /\ a = ⟨(.slice q p.length e :: undef :: .int .i64 0 :: .int .i64 (US (p.take i)) :: .int .i64 ↑i :: gr h 5 15 []).toArray, []⟩ /\ Env F [fR JL (CX w.heap.size) (.slice q p.length e) p, fW w] /\ H = p.length - i /\ (i <= p.length)) (p.length) ⟨0, _, O, O, zE, O, (Nat.zero_le _)⟩ ?_
 rintro Y _ R ⟨i, h, -, rfl, E, u, N⟩
 dsimp only [gr, Nat.reduceAdd]
 by_cases D : i < p.length
 case neg =>
  refine yG ?_
  exact ⟨by rw [GQ D], E.2.1⟩
 obtain ⟨⟨c2, P⟩, f⟩ : ∃ x, p[i]? = some x := ⟨_, List.getElem?_eq_getElem D⟩
 obtain ⟨k, G, _, C, l, B, ⟨U, T, X, S, rfl, t, z, o⟩⟩ := IsR.at E.1.1 f
 have y : k < _ := E.1.2 _ l
 replace E := ((E.c B y).i t).i z
 have L : k < w.heap.size := l
 refine yG ?_
 refine lH O O C O (List.getElem?_eq_some_iff.1 f).1 ?_
 refine yG ?_
 refine V O O (CD QN O O (Cs.sub (E.2.2.1.1) 4 (DU _ _ _ _ _)) (DC o)) ?_
 refine yG ?_
 refine EF O (CE iC O (Dd P _ o) O E ?_)
 intro Q d3 E
 refine yG ?_
 refine V (v := .int .i64 (US (p.take (i + 1)))) O O (vX O O O (rS f).symm) ?_
 exact ZwY
theorem dI {a : Bool} (h : a = b) : Ending.returned (.bool a) = .returned (.bool b) := by rw [h]
theorem Nn (h : m = n) : decide (c = d) = decide ((c, m) = (d, n)) := by subst h; simp
theorem Tq (h : ¬ m = n) : false = decide ((c, m) = (d, n)) := by simp [h]
theorem oR (na : Bool) (sa : Value) (ma : Bool) (ua : Value) (ca : Rat) (Ma : List Nat) (nb : Bool) (sb : Value) (mb : Bool) (ub : Value) (cb : Rat) (Mb : List Nat) (w : World) (hna : IsI w (.agg #[.bool na, sa]) ca.num) (hda : IsI w (.agg #[.bool ma, ua]) ((ca.den : Nat) : Int)) (hMa : EG Ma) (hnb : IsI w (.agg #[.bool nb, sb]) cb.num) (hdb : IsI w (.agg #[.bool mb, ub]) ((cb.den : Nat) : Int)) (hMb : EG Mb) :
 Calls prog 45 #[.agg (IJ na sa ma ua Ma).toArray, .agg (IJ nb sb mb ub Mb).toArray] w (LI w (decide ((ca, Ma) = (cb, Mb)))) := by
 have E := Env.start w
 replace E := (E.i hna).i hda
 replace E := (E.i hnb).i hdb
 go_enter func45, ntmps45
 refine yG ?_
 refine EF O (CI (cs := (IJ na sa ma ua Ma)) O O ?_)
 intro C y e1 t l h
 replace E := E.below l
 clear e1
 replace E := E.x h
 refine yG ?_
 refine EF O (CI (cs := (IJ nb sb mb ub Mb)) O O ?_)
 intro B v e2 o k f
 replace E := E.below k
 clear e2
 replace E := E.x f
 by_cases e : Ma = Mb
 case neg =>
  refine yG ?_
  refine V O O (CD QN O O (Cs.sub (Bx.cs E.2.1) 4 (DU _ _ _ _ _)) (DC hMa)) ?_
  refine yG ?_
  refine V O O (CD QN O O (Cs.sub (Bx.cs E.1) 4 (DU _ _ _ _ _)) (DC hMb)) ?_
  refine yG ?_
  refine V O O (kM (p := Ma) (q := Mb) (c := false) O O O hMa hMb (decide_eq_false e)) ?_
  refine yG ?_
  exact ⟨dI (Tq e), e6 E⟩
 refine yG ?_
 refine V O O (CD QN O O (Cs.sub (Bx.cs E.2.1) 4 (DU _ _ _ _ _)) (DC hMa)) ?_
 refine yG ?_
 refine V O O (CD QN O O (Cs.sub (Bx.cs E.1) 4 (DU _ _ _ _ _)) (DC hMb)) ?_
 refine yG ?_
 refine V O O (kM (p := Ma) (q := Mb) (c := true) O O O hMa hMb (decide_eq_true e)) ?_
 refine yG ?_
 refine V Z O (CD GP O O (Cs.sub (Bx.cs E.2.1) 0 (EI _ _ _ _ _)) O) ?_
 refine yG ?_
 refine V Z O (CD GP O O (Cs.sub (Bx.cs E.1) 0 (EI _ _ _ _ _)) O) ?_
 refine yG ?_
 refine EF O (CA nV O (Wo _ _ _ _ ca _ _ _ _ cb _ (e5 E) (e4 E) (e3 E) E.2.2.1) O E ?_)
 intro u z E
 refine yG ?_
 exact ⟨dI (Nn e), e6 E⟩
theorem Sh {p q : List α} {x y : α} (h : p.take i = q.take i) (h1 : p[i]? = some x) (h2 : q[i]? = some y) (e : x = y) : p.take (i + 1) = q.take (i + 1) := by rw [JG h1, JG h2, h, e]
theorem Vb {p q : List α} (hl : p.length = q.length) (h : p.take i = q.take i) (hi : ¬ i < p.length) : p = q := by rw [GQ hi, GQ AA] at h; exact h
theorem Zg {p q : List α} (h : ¬ p.length = q.length) : ¬ p = q := fun e => h (by rw [e])
theorem ne_at {p q : List α} {x y : α} (h1 : p[i]? = some x) (h2 : q[i]? = some y) (h : ¬ x = y) : ¬ p = q := fun e => h (by subst e; rw [h1] at h2; simpa using h2)
theorem Ww (vp : Value) (p : List Tm) (vq : Value) (q : List Tm) (w : World) (hRp : IsR JL (CX w.heap.size) w vp p) (hRq : IsR JL (CX w.heap.size) w vq q) (hL : p.length <= 1000000) :
 Calls prog 14 #[vp, vq] w (LI w (decide (p = q))) := by
 have E := Env.start w
 obtain ⟨D, k, rfl, aa, a8⟩ := hRp.shp
 replace E := E.r hRp (DF _)
 obtain ⟨C, h, rfl, a9, a7⟩ := hRq.shp
 replace E := E.r hRq (DF _)
 go_enter func14, ntmps14
 by_cases hl : p.length = q.length
 case neg =>
  refine yG ?_
  exact ⟨dI (decide_eq_false (Zg hl)).symm, E.2.2.1⟩
 refine yG ?_
 refine wp_loop_ghost (fun mz a w' => ∃ (i : Nat) (y : List Value), y = a.tmps.toList /\ a = ⟨(.slice D p.length k :: .slice C q.length h :: gr y 2 3 (.int .i64 ↑i :: .slice D p.length k :: .int .i64 ↑p.length :: .slice C q.length h :: .int .i64 ↑q.length :: .bool false :: gr y 11 16 [])).toArray, []⟩ /\ Env w' [fR JL (CX w.heap.size) (.slice C q.length h) q, fR JL (CX w.heap.size) (.slice D p.length k) p, fW w] /\ mz = p.length - i /\ (i <= p.length /\ p.take i = q.take i)) (p.length) ⟨0, _, O, O, zE, O, ⟨Nat.zero_le _, O⟩⟩ ?_
 rintro m1 _ w1 ⟨i, y, -, rfl, E, S, J⟩
 dsimp only [gr, Nat.reduceAdd]
 obtain ⟨J, hJ⟩ := J
 by_cases hi : i < p.length
 case neg =>
  refine yG ?_
  exact ⟨dI (decide_eq_true (Vb hl hJ hi)).symm, E.2.2.1⟩
 obtain ⟨⟨B, G⟩, f⟩ : ∃ x, p[i]? = some x := ⟨_, List.getElem?_eq_getElem hi⟩
 obtain ⟨P, a6, _, I, a3, a1, ⟨n2, s2, m2, u2, rfl, R, Y, u⟩⟩ := IsR.at E.2.1.1 f
 have U : P < _ := E.2.1.2 _ a3
 replace E := ((E.c a1 U).i R).i Y
 obtain ⟨⟨z, F⟩, e⟩ : ∃ x, q[i]? = some x := ⟨_, List.getElem?_eq_getElem (show i < q.length by omega)⟩
 obtain ⟨N, a4, _, H, a2, a0, ⟨n3, s3, m3, u3, rfl, Q, X, t⟩⟩ := IsR.at (e3 E).1 e
 have T : N < _ := (e3 E).2 _ a2
 replace E := ((E.c a0 T).i Q).i X
 by_cases L : (B, G) = (z, F)
 case neg =>
  refine yG ?_
  refine sE E [0,1,2,3,4,5,6,7,8,9] ?_
  replace E := E.drew
  refine yG ?_
  refine kD O O O I O (List.getElem?_eq_some_iff.1 f).1 ?_
  refine SW O O O O O (fun w l => CD KL O O ((e5 l).1) (CM u)) ?_
  refine yG ?_
  refine kD O O O H O (List.getElem?_eq_some_iff.1 e).1 ?_
  refine SW O O O O O (fun w l => CD KL O O ((l.2.2.1).1) (CM t)) ?_
  refine yG ?_
  refine GZ (o := ⟨some 25, _, _, _, _, _⟩) O O O O (CA TM O (oR n2 s2 m2 u2 B G n3 s3 m3 u3 z F _ (e4 E) (e3 E) u E.2.1 E.1 t) O E ?_)
  intro w5 d5 E
  refine ⟨E, ?_⟩
  refine yG ?_
  refine SW (v := .bool (!(decide ((B, G) = (z, F))))) O O O O O (fun w l => dE (b := (decide ((B, G) = (z, F)))) O O) ?_
  refine yG ?_
  refine AO (congrArg Value.bool (by rw [decide_eq_false L]; rfl)) ?_
  refine yG ?_
  exact ⟨dI (decide_eq_false (ne_at f e L)).symm, e8 E⟩
 refine yG ?_
 refine sE E [0,1,2,3,4,5,6,7,8,9] ?_
 replace E := E.drew
 refine yG ?_
 refine kD O O O I O (List.getElem?_eq_some_iff.1 f).1 ?_
 refine SW O O O O O (fun w l => CD KL O O ((e5 l).1) (CM u)) ?_
 refine yG ?_
 refine kD O O O H O (List.getElem?_eq_some_iff.1 e).1 ?_
 refine SW O O O O O (fun w l => CD KL O O ((l.2.2.1).1) (CM t)) ?_
 refine yG ?_
 refine GZ (o := ⟨some 25, _, _, _, _, _⟩) O O O O (CA TM O (oR n2 s2 m2 u2 B G n3 s3 m3 u3 z F _ (e4 E) (e3 E) u E.2.1 E.1 t) O E ?_)
 intro w4 d4 E
 refine ⟨E, ?_⟩
 refine yG ?_
 refine SW (v := .bool (!(decide ((B, G) = (z, F))))) O O O O O (fun w l => dE (b := (decide ((B, G) = (z, F)))) O O) ?_
 refine yG ?_
 refine AP (congrArg Value.bool (by rw [decide_eq_true L]; rfl)) ?_
 refine yG ?_
 exact ⟨_, (by rw [S]; omega), (i + 1), _, O, O, zE, O, ⟨by omega, Sh hJ f e L⟩⟩
set_option maxHeartbeats 8000000
set_option maxRecDepth 100000
theorem CS {c : Bool} (h : c = b) : Ending.returned (.bool b) = .returned (.bool c) := by rw [h]
theorem TJ (c : Int) (w : World) :
 Calls prog 141 #[.int .i32 c] w (LI w (aN c)) := by
 have E := Env.start w
 go_enter func141, ntmps141
 by_cases h : 48 <= c
 case neg =>
  by_cases e : c = 95
  . exfalso
    refine yG ?_
    omega
  refine yG ?_
  exact ⟨CS (sT AA), E.1⟩
 by_cases f : c <= 57
 . refine yG ?_
   exact ⟨CS (kN AA), E.1⟩
 by_cases e : c = 95
 case neg =>
  refine yG ?_
  exact ⟨CS (sT AA), E.1⟩
 refine yG ?_
 exact ⟨CS (kN AA), E.1⟩
theorem TI (c : Nat) (w : World) :
 Calls prog 118 #[.int .u8 ↑c] w (LI w (UO ((c : Nat) : Int))) := by
 have E := Env.start w
 go_enter func118, ntmps118
 by_cases k : ((c : Nat) : Int) >= 65
 case neg =>
  by_cases e : ((c : Nat) : Int) >= 97
  . exfalso
    refine yG ?_
    omega
  refine yG ?_
  exact ⟨CS (hI AA), E.1⟩
 by_cases h : ((c : Nat) : Int) <= 90
 . refine yG ?_
   exact ⟨CS (kV AA), E.1⟩
 by_cases e : ((c : Nat) : Int) >= 97
 case neg =>
  refine yG ?_
  exact ⟨CS (hI AA), E.1⟩
 by_cases f : ((c : Nat) : Int) <= 122
 case neg =>
  refine yG ?_
  exact ⟨CS (hI AA), E.1⟩
 refine yG ?_
 exact ⟨CS (kV AA), E.1⟩
theorem nH (s : Bs) (w : World) :
 Calls prog 94 #[.string (bs s)] w (LI w (LD s)) := by
 have E := Env.start w
 go_enter func94, ntmps94
 by_cases U : ((s.length : Nat) : Int) < 1
 . refine yG ?_
   exact ⟨CS (nG AA), E.1⟩
 by_cases T : ((s.length : Nat) : Int) > 12
 . refine yG ?_
   exact ⟨CS (rD AA), E.1⟩
 refine yG ?_
 refine EF O (pU (s := (bs s)) O underlying9 O ?_)
 intro D w1 C z1 d1 G
 have l1 : w.heap.size <= D := by rw [C]; exact E.1.size
 replace E := E.below d1
 replace E := E.it G
 refine yG ?_
 refine wp_loop_ghost (fun S a L => ∃ (i : Nat) (f : List Value), f = a.tmps.toList /\ a = ⟨(.string (bs s) :: gr f 1 5 (.string (bs s) :: .int .i64 ↑s.length :: .bool false :: .bool false :: .string (bs s) :: .int .i64 ↑s.length :: .bool false :: .bool false :: .string (bs s) :: .pointer (some ⟨D, 0, none⟩) :: gr f 16 29 [])).toArray, []⟩ /\ Env L [fIt D (bs s) i, fW w] /\ S = s.length - i /\ (i <= s.length /\ Bt s i)) (s.length) ⟨0, _, O, O, zE, O, ⟨Nat.zero_le _, qW s⟩⟩ ?_
 rintro m2 _ w2 ⟨i, f, -, rfl, E, o, t⟩
 dsimp only [gr, Nat.reduceAdd]
 obtain ⟨t, q⟩ := t
 by_cases v : i < s.length
 case neg =>
  refine yG ?_
  refine EF O (kE O O E.1 (by rw [GA]; exact v) ?_)
  refine yG ?_
  exact ⟨CS (xD AA AA q AA), E.2.1⟩
 obtain ⟨b, e⟩ : ∃ b, s[i]? = some b := ⟨_, List.getElem?_eq_getElem v⟩
 by_cases p : b.toNat < 128
 case neg =>
  obtain ⟨c, n, X, Y⟩ : ∃ c n, Utf8.decode (bs s) i = (c, n) /\ 128 <= c := ⟨_, _, rfl, yE s e p⟩
  have u := E.1
  refine yG ?_
  replace E := VI E
  refine EF O (gI (pos := i) O O u X (by rw [GA]; exact v) ?_)
  intro I B y
  replace E := (E.onl (wU u) zK B).it y
  by_cases l : i = 0
  . refine yG ?_
    exact ⟨CS (MM e (xM p)), E.2.1⟩
  refine yG ?_
  refine EF O (CA GV O (CU (Il Y) (TJ ((c : Nat) : Int) _)) O E ?_)
  intro H a0 E
  refine yG ?_
  exact ⟨CS (MM e (xM p)), E.2.1⟩
 have g3 := E.1
 refine yG ?_
 replace E := VI E
 refine EF O (gI (pos := i) O O g3 (Cq s e p) (by rw [GA]; exact v) ?_)
 intro w3 R F
 replace E := (E.onl (wU g3) zK R).it F
 by_cases Q : 65 <= ((b.toNat : Nat) : Int)
 case neg =>
  by_cases z : 97 <= ((b.toNat : Nat) : Int)
  . exfalso
    refine yG ?_
    omega
  exact ZI2
 by_cases P : ((b.toNat : Nat) : Int) <= 90
 . exact Z7T
 by_cases z : 97 <= ((b.toNat : Nat) : Int)
 case neg =>
  exact ZI2
 by_cases N : ((b.toNat : Nat) : Int) <= 122
 . exact Z7T
 exact ZI2
theorem gF (s : Bs) (w : World) :
 Calls prog 75 #[.string (bs s)] w (LI w (LD s)) := by
 have E := Env.start w
 go_enter func75, ntmps75
 by_cases z : ((s.length : Nat) : Int) < 1
 . refine yG ?_
   exact ⟨CS (nG AA), E.1⟩
 by_cases y : ((s.length : Nat) : Int) > 12
 . refine yG ?_
   exact ⟨CS (rD AA), E.1⟩
 obtain ⟨t, l⟩ : ∃ b, s[0]? = some b := ⟨_, List.getElem?_eq_getElem (show 0 < s.length by omega)⟩
 by_cases e : UO ((t.toNat : Nat) : Int) = true
 case neg =>
  refine yG ?_
  refine EF O (CA GY O (CU (DE e) (TI t.toNat _)) O E ?_)
  intro C S E
  refine yG ?_
  exact ⟨CS (MM l (lA rfl (DE e))), E.1⟩
 refine yG ?_
 refine EF O (CA GY O (CU e (TI t.toNat _)) O E ?_)
 intro L d1 E
 refine yG ?_
 refine wp_loop_ghost (fun v a u => ∃ (i : Nat) (f : List Value), f = a.tmps.toList /\ a = ⟨(.string (bs s) :: undef :: CF f 2 :: .int .i64 ↑i :: .string (bs s) :: .int .i64 ↑s.length :: .bool false :: .bool false :: .string (bs s) :: .int .i64 ↑s.length :: .bool false :: .bool false :: .bool false :: .string (bs s) :: .int .u8 ↑t.toNat :: .bool true :: .bool false :: .bool false :: gr f 18 30 []).toArray, []⟩ /\ Env u [fW w] /\ v = s.length - i /\ (i <= s.length /\ 1 <= i /\ Bt s i)) ((s.length - 1)) ⟨1, _, O, O, zE, O, ⟨by omega, by decide, MY (qW s) l (tO e)⟩⟩ ?_
 rintro N _ J ⟨i, f, -, rfl, E, k, p⟩
 dsimp only [gr, Nat.reduceAdd]
 obtain ⟨p, q⟩ := p
 by_cases P : i < s.length
 case neg =>
  refine yG ?_
  exact ⟨CS (xD AA AA q.2 AA), E.1⟩
 obtain ⟨b, o⟩ : ∃ b, s[i]? = some b := ⟨_, List.getElem?_eq_getElem (show i < s.length by omega)⟩
 by_cases h : UO ((b.toNat : Nat) : Int) = true
 . refine yG ?_
   refine EF O (CA GY O (CU h (TI b.toNat _)) O E ?_)
   intro I d3 E
   refine yG ?_
   exact ⟨_, (by rw [k]; omega), (i + 1), _, O, O, zE, O, ⟨by omega, by omega, MY q.2 o (tO h)⟩⟩
 by_cases R : ((b.toNat : Nat) : Int) >= 48
 case neg =>
  by_cases B : ((b.toNat : Nat) : Int) ≠ 95
  case neg =>
   exfalso
   omega
  exact Zto
 by_cases Q : ((b.toNat : Nat) : Int) <= 57
 . exact ZZX
 by_cases B : ((b.toNat : Nat) : Int) ≠ 95
 . exact Zto
 exact ZZX
def iA (l : List Bs) (x : Bs) : Int := match l.idxOf? x with
 | some i => ((i : Nat) : Int)
 | none => -1
theorem aD {l : List Bs} {x : Bs} (h : x ∉ l) : iA l x = -1 := by
 unfold iA
 have : l.idxOf? x = none := by
  rw [List.idxOf?, List.findIdx?_eq_none_iff]
  intro y f
  simp only [beq_eq_false_iff_ne, ne_eq]
  exact fun e => h (e ▸ f)
 rw [this]
theorem Pg {l : List Bs} {x : Bs} (h : l[i]? = some x) (hn : x ∉ l.take i) : l.idxOf? x = some i := by
 obtain ⟨k, f⟩ := List.getElem?_eq_some_iff.1 h
 rw [List.idxOf?, List.findIdx?_eq_some_iff_getElem]
 refine ⟨k, by simp [f], fun j o => ?_⟩
 simp only [beq_iff_eq]
 intro e
 exact hn (by rw [<- e]; exact List.mem_take_iff_getElem.2 ⟨j, by omega, rfl⟩)
theorem Jl {l : List Bs} {x : Bs} (h : l[i]? = some x) (hn : x ∉ l.take i) : ((i : Nat) : Int) = iA l x := by unfold iA; rw [Pg h hn]
theorem rH {l : List Bs} {x : Bs} (h : x ∈ l) : ∃ i, l.idxOf? x = some i /\ i < l.length := by
 cases e : l.idxOf? x with
 | none =>
   rw [List.idxOf?, List.findIdx?_eq_none_iff] at e
   have := e x h
   simp at this
 | some i =>
   refine ⟨i, O, ?_⟩
   rw [List.idxOf?, List.findIdx?_eq_some_iff_getElem] at e
   exact e.1
theorem Un {l : List Bs} {x : Bs} (h : x ∈ l) : decide (iA l x >= 0) = true := by
 obtain ⟨i, e, _⟩ := rH h
 unfold iA; rw [e, decide_eq_true_eq]; simp
theorem Pf {l : List Bs} {x : Bs} (h : x ∉ l) : decide (iA l x >= 0) = false := by rw [aD h]; rfl
theorem aV {l : List Bs} {x y : Bs} (h : y ∉ l.take i) (hx : l[i]? = some x) (hne : ¬ x = y) : y ∉ l.take (i + 1) := by
 rw [JG hx]
 intro g
 rcases List.mem_append.1 g with g | g
 . exact h g
 simp at g; exact hne g.symm
theorem Nu {l : List Bs} {y : Bs} (h : y ∉ l.take i) (hi : ¬ i < l.length) : y ∉ l := by rw [GQ hi] at h; exact h
theorem yY (vl : Value) (l : List Bs) (s : Bs) (w : World) (hRl : IsR elS (CX w.heap.size) w vl l) (hL : l.length <= 1000000) :
 Calls prog 107 #[vl, .string (bs s)] w (XR w (iA l s)) := by
 have E := Env.start w
 obtain ⟨p, h, rfl, L, J⟩ := hRl.shp
 replace E := E.r hRl (DF _)
 go_enter func107, ntmps107
 refine yG ?_
 refine wp_loop_ghost (fun I a G => ∃ (i : Nat) (f : List Value), f = a.tmps.toList /\ a = ⟨(.slice p l.length h :: .string (bs s) :: gr f 2 3 (.int .i64 ↑i :: gr f 6 13 [])).toArray, []⟩ /\ Env G [fR elS (CX w.heap.size) (.slice p l.length h) l, fW w] /\ I = l.length - i /\ (i <= l.length /\ s ∉ l.take i)) (l.length) ⟨0, _, O, O, zE, O, ⟨Nat.zero_le _, by simp⟩⟩ ?_
 rintro P _ N ⟨i, f, -, rfl, E, y, o⟩
 dsimp only [gr, Nat.reduceAdd]
 obtain ⟨o, D⟩ := o
 by_cases F : i < l.length
 case neg =>
  refine yG ?_
  exact ⟨FO (aD (Nu D F)).symm, E.2.1⟩
 obtain ⟨q, e⟩ : ∃ x, l[i]? = some x := ⟨_, List.getElem?_eq_getElem F⟩
 obtain ⟨u, H, _, k, C, B, v⟩ := IsR.at E.1.1 e
 obtain rfl := (show _ = [Value.string (bs q)] from v)
 have z : u < _ := E.1.2 _ C
 replace E := E.c B z
 by_cases t : q = s
 . refine yG ?_
   refine fY O O k O (List.getElem?_eq_some_iff.1 e).1 ?_
   refine yG ?_
   refine V O O (FT (a := q) (b := s) (c := true) O O O (by rw [beq_iff_eq]; exact t)) ?_
   refine yG ?_
   exact ⟨FO (Jl (by rw [e, t]) D), E.2.2.1⟩
 refine yG ?_
 refine fY O O k O (List.getElem?_eq_some_iff.1 e).1 ?_
 refine yG ?_
 refine V O O (FT (a := q) (b := s) (c := false) O O O (by rw [beq_eq_false_iff_ne]; exact t)) ?_
 refine yG ?_
 exact ⟨_, (by rw [y]; omega), (i + 1), _, O, O, zE, O, ⟨by omega, aV D e t⟩⟩
def aW (l : List Bs) (i : Nat) : Prop := (∀ v ∈ l.take i, LD v = true) /\ (l.take i).Nodup
theorem WE (l : List Bs) : aW l 0 := ⟨fun v h => by simp at h, by simp⟩
theorem WF {l : List Bs} {x : Bs} (h : aW l i) (hx : l[i]? = some x) (hn : LD x = true) (hd : x ∉ l.take i) : aW l (i + 1) := by
 unfold aW
 rw [JG hx]
 refine ⟨fun v k => ?_, ?_⟩
 . rcases List.mem_append.1 k with g | g
   . exact h.1 v g
   simp at g; rw [g]; exact hn
 rw [List.nodup_append]
 refine ⟨h.2, by simp, fun a o b f e => ?_⟩
 simp at f; subst e f; exact hd o
theorem dZ {l : List Bs} (h : l.length > k) : DL k l = false := by
 cases e : DL k l with
 | false => rfl
 | true => have := GR e; omega
theorem dY {l : List Bs} {x : Bs} (hx : l[i]? = some x) (hn : LD x = false) : DL k l = false := by
 cases e : DL k l with
 | false => rfl
 | true => have := FJ e x (List.mem_of_getElem? hx); rw [hn] at this; cases this
theorem kX {l : List Bs} {x : Bs} (hx : l[i]? = some x) (hd : x ∈ l.take i) : DL k l = false := by
 cases e : DL k l with
 | false => rfl
 | true =>
   have p := jF e
   obtain ⟨j, q, f⟩ := List.mem_take_iff_getElem.1 hd
   have h := (List.getElem?_eq_some_iff.1 hx).1
   have o := (List.pairwise_iff_getElem.1 p) j i AA h AA
   exact absurd (by rw [f]; exact ((List.getElem?_eq_some_iff.1 hx).2).symm) o
theorem kW {l : List Bs} (h : aW l i) (hi : ¬ i < l.length) (hk : ¬ l.length > k) : DL k l = true := by
 unfold aW at h
 rw [GQ hi] at h
 unfold DL
 simp only [Bool.and_eq_true, decide_eq_true_eq, List.all_eq_true]
 exact ⟨⟨by omega, h.1⟩, h.2⟩
theorem oS (vl : Value) (l : List Bs) (k : Nat) (w : World) (hRl : IsR elS (CX w.heap.size) w vl l) (hL : l.length <= 1000000) :
 Calls prog 61 #[vl, .int .i64 ↑k] w (LI w (DL k l)) := by
 have E := Env.start w
 obtain ⟨p, f, rfl, S, R⟩ := hRl.shp
 replace E := E.r hRl (DF _)
 go_enter func61, ntmps61
 by_cases hk : ((l.length : Nat) : Int) > ((k : Nat) : Int)
 . refine yG ?_
   exact ⟨CS (dZ AA), E.2.1⟩
 refine yG ?_
 refine wp_loop_ghost (fun Q a N => ∃ (i : Nat) (q : List Value), q = a.tmps.toList /\ a = ⟨(.slice p l.length f :: .int .i64 ↑k :: gr q 2 3 (.int .i64 ↑i :: .slice p l.length f :: .int .i64 ↑l.length :: .int .i64 ↑k :: .bool false :: gr q 10 23 [])).toArray, []⟩ /\ Env N [fR elS (CX w.heap.size) (.slice p l.length f) l, fW w] /\ Q = l.length - i /\ (i <= l.length /\ aW l i)) (l.length) ⟨0, _, O, O, zE, O, ⟨Nat.zero_le _, WE l⟩⟩ ?_
 rintro m1 _ w1 ⟨i, q, -, rfl, E, D, y⟩
 dsimp only [gr, Nat.reduceAdd]
 obtain ⟨y, L⟩ := y
 by_cases J : i < l.length
 case neg =>
  refine yG ?_
  exact ⟨CS (kW L J AA), E.2.1⟩
 obtain ⟨t, e⟩ : ∃ x, l[i]? = some x := ⟨_, List.getElem?_eq_getElem J⟩
 obtain ⟨B, P, _, h, H, G, C⟩ := IsR.at E.1.1 e
 obtain rfl := (show _ = [Value.string (bs t)] from C)
 have F : B < _ := E.1.2 _ H
 replace E := E.c G F
 by_cases u : LD t = true
 case neg =>
  refine yG ?_
  refine sE E [0,1,2,3,4,5,6,7,8,9,10,11,12,13,14,15,16] ?_
  replace E := E.drew
  refine yG ?_
  refine Wh O O O h O (List.getElem?_eq_some_iff.1 e).1 ?_
  refine yG ?_
  refine GZ (o := ⟨some 20, _, _, _, _, _⟩) O O O O (CA MP O (CU (DE u) (gF t _)) O E ?_)
  intro T d7 E
  refine ⟨E, ?_⟩
  refine yG ?_
  exact ⟨CS (dY e (DE u)), E.2.2.1⟩
 by_cases z : t ∈ l.take i
 case pos =>
  refine yG ?_
  refine sE E [0,1,2,3,4,5,6,7,8,9,10,11,12,13,14,15,16] ?_
  replace E := E.drew
  refine yG ?_
  refine Wh O O O h O (List.getElem?_eq_some_iff.1 e).1 ?_
  refine yG ?_
  refine GZ (o := ⟨some 20, _, _, _, _, _⟩) O O O O (CA MP O (CU u (gF t _)) O E ?_)
  intro w3 d3 E
  refine ⟨E, ?_⟩
  refine yG ?_
  refine SW (v := .slice p i f) O O O Z O (fun w I => QQ (i := i) (sz := 1) O underlying30 Z O O O AA) ?_
  refine yG ?_
  refine Wh O O O h O (List.getElem?_eq_some_iff.1 e).1 ?_
  refine yG ?_
  refine GZ (o := ⟨some 30, _, _, _, _, _⟩) O O O O (CE XB O (yY _ (l.take i) t _ ((IsR.take E.2.1.1 AA).mono (fun k g => E.2.1.2 k g)) (by first | omega | (rw [List.length_take]; omega))) O E ?_)
  intro Y d4 E
  refine ⟨E, ?_⟩
  refine yG ?_
  refine SW O O O Z O (fun w I => sP (c := true) O O O (Un z)) ?_
  refine yG ?_
  exact ⟨CS (kX e z), E.2.2.1⟩
 refine yG ?_
 refine sE E [0,1,2,3,4,5,6,7,8,9,10,11,12,13,14,15,16] ?_
 replace E := E.drew
 refine yG ?_
 refine Wh O O O h O (List.getElem?_eq_some_iff.1 e).1 ?_
 refine yG ?_
 refine GZ (o := ⟨some 20, _, _, _, _, _⟩) O O O O (CA MP O (CU u (gF t _)) O E ?_)
 intro X d5 E
 refine ⟨E, ?_⟩
 refine yG ?_
 refine SW (v := .slice p i f) O O O Z O (fun w I => QQ (i := i) (sz := 1) O underlying30 Z O O O AA) ?_
 refine yG ?_
 refine Wh O O O h O (List.getElem?_eq_some_iff.1 e).1 ?_
 refine yG ?_
 refine GZ (o := ⟨some 30, _, _, _, _, _⟩) O O O O (CE XB O (yY _ (l.take i) t _ ((IsR.take E.2.1.1 AA).mono (fun k g => E.2.1.2 k g)) (by first | omega | (rw [List.length_take]; omega))) O E ?_)
 intro U d6 E
 refine ⟨E, ?_⟩
 refine yG ?_
 refine SW O O O Z O (fun w I => sP (c := false) O O O (Pf z)) ?_
 refine yG ?_
 exact ⟨_, (by rw [D]; omega), (i + 1), _, O, O, zE, O, ⟨by omega, WF L e u z⟩⟩
end Go.Proofs.YtmppigbbkjepiaaGreatDoor
