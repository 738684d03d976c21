/- Helping facts of Poly; no other conditions. -/
import Derived.Test.YtmppigbbkjepiaaGreatDoorAut2
import Derived.Test.YtmppigbbkjepiaaGreatDoorRat5
set_option maxHeartbeats 8000000
set_option maxRecDepth 100000
namespace Go.Proofs.YtmppigbbkjepiaaGreatDoor
open Go.Proofs.Tryz
open Go.RowKit W
theorem Ti (n : Bool) (s : Value) (m : Bool) (u : Value) (x : Rat) (w : World) (h1 : IsI w (.agg #[.bool n, s]) x.num) (h2 : IsI w (.agg #[.bool m, u]) ((x.den : Nat) : Int)) (h3 : FitQ x 100000000) :
    Calls prog 80 #[.agg #[.bool n, s, .bool m, u]] w (NP w true) := CU (decide_eq_true (Jc x)) (dJ n s m u _ _ w h1 h2 (h3.1.mono AE) (h3.2.mono AE))
theorem Tn (na : Bool) (sa : Value) (ma : Bool) (ta : Value) (x : Rat) (nb : Bool) (sb : Value) (mb : Bool) (tb : Value) (y : Rat) (w : World) (h1 : IsI w (.agg #[.bool na, sa]) x.num) (h2 : IsI w (.agg #[.bool ma, ta]) ((x.den : Nat) : Int)) (h3 : IsI w (.agg #[.bool nb, sb]) y.num) (h4 : IsI w (.agg #[.bool mb, tb]) ((y.den : Nat) : Int)) :
    Calls prog 92 #[.agg #[.bool na, sa, .bool ma, ta], .agg #[.bool nb, sb, .bool mb, tb]] w (NP w (decide (x = y))) :=
  CU (decide_eq_decide.2 ⟨fun h => Rat.ext h.1 (Int.ofNat_inj.1 h.2), fun h => by subst h; exact ⟨rfl, rfl⟩⟩) (Xi na sa ma ta _ _ nb sb mb tb _ _ w h1 h2 h3 h4)
theorem Ju {c : Rat} (h : c ≠ 0) : (OB c.num == 0) = false := by
  have := We h
  rw [beq_eq_false_iff_ne]
  unfold OB MS
  split <;> first | decide | (split <;> first | decide | omega)
theorem Nl {p : List Tm} (h : EJ p) {i : Nat} {a b : Rat} {m n : List Nat} (hi : 0 < i) (h1 : p[i - 1]? = some (a, m)) (h2 : p[i]? = some (b, n)) : EI m n = 1 := h.2 (i - 1) _ _ h1 (by rw [show i - 1 + 1 = i by omega]; exact h2)
theorem YD (vp : Value) (p : List Tm) (w : World) (hRp : IsR JP (DD w.heap.size) w vp p) (hp : EJ p) (hF : ∀ t ∈ p, FitQ t.1 1000000) (hL : p.length ≤ 1000000) :
    Calls prog 37 #[vp] w (NP w true) := by
 have E := Env.start w
 obtain ⟨l, h, rfl, az, ay⟩ := hRp.shp
 replace E := E.r hRp (DK _)
 go_enter func37, ntmps37
 refine yG ?_
 refine wp_loop_ghost (fun mz a w' => ∃ (i : Nat) (g2 g3 g4 g8 g9 ag af ae ad ac ab aa a9 a8 a7 a6 a4 a3 a2 a1 a0 Y X U T S R Q P N L J I H G F D C : Value), a = ⟨#[.slice l p.length h, undef, g2, g3, g4, .slice l p.length h, .int .i64 ↑p.length, .int .i64 ↑i, g8, g9, ag, af, ae, ad, ac, ab, aa, a9, a8, a7, a6, a4, a3, a2, a1, a0, Y, X, U, T, S, R, Q, P, N, L, J, I, H, G, F, D, C], []⟩ ∧ Env w' [fR JP (DD w.heap.size) (.slice l p.length h) p, fW w] ∧ mz = p.length - i ∧ (i ≤ p.length)) (p.length) ⟨0, _, _, _, _, _, _, _, _, _, _, _, _, _, _, _, _, _, _, _, _, _, _, _, _, _, _, _, _, _, _, _, _, _, _, _, _, _, _, O, zE, O, (Nat.zero_le _)⟩ ?_
 rintro m1 _ w1 ⟨i, g2, g3, g4, g8, g9, ag, af, ae, ad, ac, ab, aa, a9, a8, a7, a6, a4, a3, a2, a1, a0, Y, X, U, T, S, R, Q, P, N, L, J, I, H, G, F, D, C, rfl, E, u, b1⟩
 by_cases hi : i < p.length
 case neg =>
  refine yG ?_
  exact ⟨rfl, E.2.1⟩
 obtain ⟨⟨c2, M2⟩, f⟩ : ∃ x, p[i]? = some x := ⟨_, List.getElem?_eq_getElem hi⟩
 obtain ⟨q, ax, _, au, y, aq, ⟨n2, s2, m2, u2, rfl, ak, ao, e⟩⟩ := IsR.at E.1.1 f
 have am : q < _ := E.1.2 _ y
 replace E := ((E.c aq am).i ak).i ao
 have b0 : q < w.heap.size := y
 have ai := hp.1 _ (List.mem_of_getElem? f)
 refine yG ?_
 refine Ja O O au O (List.getElem?_eq_some_iff.1 f).1 ?_
 refine V O O (CD KP O O (E.2.2.1.1) (CM e)) ?_
 refine yG ?_
 refine EF O (CB KP O ?_)
 intro b3 w3 e3 z3 d3 x3
 have l3 : w.heap.size ≤ b3 := by rw [e3]; exact (e4 E).size
 replace E := E.below d3
 clear e3
 refine yG ?_
 refine EF O (BY KP O O O x3 (by first | rfl | exact CM CZ) (CM e) (GD (M := M2) (IsI.one E.2.1) (IsI.one E.1)) ?_)
 intro w4 o4 y4
 replace E := oY E x3 o4 y4 (ds := (HY n2 s2 m2 u2 M2))
 refine yG ?_
 refine V O O (CD GV O O (Cs.sub (Bx.cs E.1) 0 (FG _ _ _ _ _)) O) ?_
 refine yG ?_
 refine EF O (CA LH O (Ti _ _ _ _ c2 _ E.2.2.1 E.2.1 (FitQ.mono (hF _ (List.mem_of_getElem? f)) AE)) O E ?_)
 intro w5 d5 E
 refine yG ?_
 refine V Z O (CD GV O O (Cs.sub (Bx.cs E.1) 0 (FG _ _ _ _ _)) O) ?_
 refine yG ?_
 refine EF O (CK DV O (PI _ _ _ _ c2 _ E.2.2.1 E.2.1) O E ?_)
 intro w6 d6 E
 refine yG ?_
 refine V Z O (EW (c := false) O O O (Ju ai.1)) ?_
 refine yG ?_
 refine V Z O (CD QX O O (Cs.sub (Bx.cs E.1) 4 (DY _ _ _ _ _)) (DC e)) ?_
 refine yG ?_
 refine EF O (CA cT O (Ow M2 _ e) O E ?_)
 intro w7 d7 E
 by_cases h0 : 0 < i
 case neg =>
  refine yG ?_
  refine sE E [0,1,2,3,4,5,6,7,8,9,10,11,12,13] ?_
  replace E := E.drew
  refine yG ?_
  exact ⟨_, (by rw [u]; omega), (i + 1), _, _, _, _, _, _, _, _, _, _, _, _, _, _, _, _, _, _, _, _, _, _, _, _, _, _, _, _, _, _, _, _, _, _, _, _, _, _, O, zE, O, AA⟩
 obtain ⟨⟨c8, M8⟩, k⟩ : ∃ x, p[i - 1]? = some x := ⟨_, List.getElem?_eq_getElem (show i - 1 < p.length by omega)⟩
 obtain ⟨ah, aw, _, ar, av, ap, ⟨n8, s8, m8, u8, rfl, aj, an, B⟩⟩ := IsR.at (e4 E).1 k
 have al : ah < _ := (e4 E).2 _ av
 replace E := ((E.c ap al).i aj).i an
 refine yG ?_
 refine sE E [0,1,2,3,4,5,6,7,8,9,10,11,12,13] ?_
 replace E := E.drew
 refine yG ?_
 refine SW (v := .int .i64 ↑(i - 1)) O O O Z O (fun w z => JC O O O (by rw [JK AA]; omega)) ?_
 refine lS O O O ar O (List.getElem?_eq_some_iff.1 k).1 ?_
 refine yG ?_
 refine SW O O O Z O (fun w z => CD QX O O (Cs.sub ((z.2.2.1).1) 4 (DY _ _ _ _ _)) (DC B)) ?_
 refine yG ?_
 refine SW O O O Z O (fun w z => CD QX O O (Cs.sub (Bx.cs (e3 z)) 4 (DY _ _ _ _ _)) (DC e)) ?_
 refine yG ?_
 refine JM (o := ⟨some 39, _, _, _, _, _⟩) O O O O (CK QH O (Ak M8 M2 _ B e) O E ?_)
 intro w9 d9 E
 refine ⟨E, ?_⟩
 refine yG ?_
 refine SW O O O Z O (fun w z => PO (c := false) O O O (by rw [Nl hp h0 k f]; rfl)) ?_
 refine yG ?_
 exact ⟨_, (by rw [u]; omega), (i + 1), _, _, _, _, _, _, _, _, _, _, _, _, _, _, _, _, _, _, _, _, _, _, _, _, _, _, _, _, _, _, _, _, _, _, _, _, _, _, O, zE, O, AA⟩
def Sh (d : Int) (p : List Tm) : Int := p.foldl (fun d t => if d < ((QA t.2 8 : Nat) : Int) then ((QA t.2 8 : Nat) : Int) else d) d
def WK (p : List Tm) : Int := Sh (-1) p
def EA (p : List Tm) : Nat := p.foldl (fun s t => s ||| LQ t.2 8) 0
theorem MF {α : Type} {l : List α} {i : Nat} {x : α} (h : l[i]? = some x) : l.take (i + 1) = l.take i ++ [x] := by
  obtain ⟨f, e⟩ := List.getElem?_eq_some_iff.1 h
  rw [List.take_succ_eq_append_getElem f, e]
theorem Hn {p : List Tm} {i : Nat} {c : Rat} {M : List Nat} (h : p[i]? = some (c, M)) : WK (p.take (i + 1)) = if WK (p.take i) < ((QA M 8 : Nat) : Int) then ((QA M 8 : Nat) : Int) else WK (p.take i) := by
  rw [MF h]; unfold WK Sh; rw [List.foldl_append]; rfl
theorem jH {p : List Tm} {i : Nat} {c : Rat} {M : List Nat} (h : p[i]? = some (c, M)) : EA (p.take (i + 1)) = EA (p.take i) ||| LQ M 8 := by
  rw [MF h]; unfold EA; rw [List.foldl_append]; rfl
theorem pO (M : List Nat) : LQ M 8 < 256 := wV (Nat.le_refl 8)
theorem WP (p : List Tm) : EA p < 256 := by
  unfold EA
  have : ∀ (p : List Tm) (s : Nat), s < 256 → p.foldl (fun s t => s ||| LQ t.2 8) s < 256 := by
    intro p
    induction p with
    | nil => intro s h; exact h
    | cons t p ih => intro s h; exact ih _ (Nat.or_lt_two_pow (n := 8) h (pO t.2))
  exact this p 0 AE
theorem KZ {α : Type} {l : List α} {i : Nat} (h : ¬ i < l.length) : l.take i = l := List.take_of_length_le AA
theorem dO (vp : Value) (p : List Tm) (w : World) (hRp : IsR JP (DD w.heap.size) w vp p) (hL : p.length ≤ 1000000) :
    Calls prog 38 #[vp] w (GJ w (.int .u8 ↑(EA p))) := by
 have E := Env.start w
 obtain ⟨k, e, rfl, a2, a1⟩ := hRp.shp
 replace E := E.r hRp (DK _)
 go_enter func38, ntmps38
 refine yG ?_
 refine wp_loop_ghost (fun mz a U => ∃ (i : Nat) (S R D C B z y u t q : Value), a = ⟨#[.slice k p.length e, undef, .int .u8 0, .int .u8 ↑(EA (p.take i)), undef, S, .slice k p.length e, .int .i64 ↑p.length, .int .i64 ↑i, R, D, C, B, z, y, u, t, q, undef], []⟩ ∧ Env U [fR JP (DD w.heap.size) (.slice k p.length e) p, fW w] ∧ mz = p.length - i ∧ (i ≤ p.length)) (p.length) ⟨0, _, _, _, _, _, _, _, _, _, _, O, zE, O, (Nat.zero_le _)⟩ ?_
 rintro m1 _ w1 ⟨i, S, R, D, C, B, z, y, u, t, q, rfl, E, G, a4⟩
 by_cases Q : i < p.length
 case neg =>
  refine yG ?_
  exact ⟨by rw [KZ Q], E.2.1⟩
 obtain ⟨⟨c2, N⟩, h⟩ : ∃ x, p[i]? = some x := ⟨_, List.getElem?_eq_getElem Q⟩
 obtain ⟨l, a0, _, L, o, J, ⟨n2, Y, m2, X, rfl, F, I, f⟩⟩ := IsR.at E.1.1 h
 have H : l < _ := E.1.2 _ o
 replace E := ((E.c J H).i F).i I
 have a3 : l < w.heap.size := o
 refine yG ?_
 refine Ja O O L O (List.getElem?_eq_some_iff.1 h).1 ?_
 refine V O O (CD KP O O (E.2.2.1.1) (CM f)) ?_
 refine yG ?_
 refine EF O (CB KP O ?_)
 intro b3 w3 e3 z3 d3 P
 have l3 : w.heap.size ≤ b3 := by rw [e3]; exact (e4 E).size
 replace E := E.below d3
 clear e3
 refine yG ?_
 refine EF O (BY KP O O O P (by first | rfl | exact CM CZ) (CM f) (GD (M := N) (IsI.one E.2.1) (IsI.one E.1)) ?_)
 intro w4 o4 T
 replace E := oY E P o4 T (ds := (HY n2 Y m2 X N))
 refine yG ?_
 refine V O O (CD QX O O (Cs.sub (Bx.cs E.1) 4 (DY _ _ _ _ _)) (DC f)) ?_
 refine yG ?_
 refine EF O (BZ ZE O (Xr N _ f) O E ?_)
 intro w5 d5 E
 refine yG ?_
 refine V (v := .int .u8 ↑(EA (p.take (i + 1)))) O O (pU O O O O O (WP _) (pO _) (jH h).symm) ?_
 refine yG ?_
 exact ⟨_, (by rw [G]; omega), (i + 1), _, _, _, _, _, _, _, _, _, _, O, zE, O, AA⟩
theorem NW (vp : Value) (p : List Tm) (w : World) (hRp : IsR JP (DD w.heap.size) w vp p) (hL : p.length ≤ 1000000) :
    Calls prog 142 #[vp] w (GJ w (.int .i64 (WK p))) := by
 have E := Env.start w
 obtain ⟨k, e, rfl, a2, a1⟩ := hRp.shp
 replace E := E.r hRp (DK _)
 go_enter func142, ntmps142
 refine yG ?_
 refine wp_loop_ghost (fun mz a U => ∃ (i : Nat) (S R D C B z y u t q : Value), a = ⟨#[.slice k p.length e, undef, .int .i64 0, .int .i64 (WK (p.take i)), undef, S, .slice k p.length e, .int .i64 ↑p.length, .int .i64 ↑i, R, D, C, B, z, y, u, t, q, undef], []⟩ ∧ Env U [fR JP (DD w.heap.size) (.slice k p.length e) p, fW w] ∧ mz = p.length - i ∧ (i ≤ p.length)) (p.length) ⟨0, _, _, _, _, _, _, _, _, _, _, O, zE, O, (Nat.zero_le _)⟩ ?_
 rintro m1 _ w1 ⟨i, S, R, D, C, B, z, y, u, t, q, rfl, E, G, a4⟩
 by_cases Q : i < p.length
 case neg =>
  refine yG ?_
  exact ⟨by rw [KZ Q], E.2.1⟩
 obtain ⟨⟨c2, N⟩, h⟩ : ∃ x, p[i]? = some x := ⟨_, List.getElem?_eq_getElem Q⟩
 obtain ⟨l, a0, _, L, o, J, ⟨n2, Y, m2, X, rfl, F, I, f⟩⟩ := IsR.at E.1.1 h
 have H : l < _ := E.1.2 _ o
 replace E := ((E.c J H).i F).i I
 have a3 : l < w.heap.size := o
 refine yG ?_
 refine Ja O O L O (List.getElem?_eq_some_iff.1 h).1 ?_
 refine V O O (CD KP O O (E.2.2.1.1) (CM f)) ?_
 refine yG ?_
 refine EF O (CB KP O ?_)
 intro b3 w3 e3 z3 d3 P
 have l3 : w.heap.size ≤ b3 := by rw [e3]; exact (e4 E).size
 replace E := E.below d3
 clear e3
 refine yG ?_
 refine EF O (BY KP O O O P (by first | rfl | exact CM CZ) (CM f) (GD (M := N) (IsI.one E.2.1) (IsI.one E.1)) ?_)
 intro w4 o4 T
 replace E := oY E P o4 T (ds := (HY n2 Y m2 X N))
 refine yG ?_
 refine V O O (CD QX O O (Cs.sub (Bx.cs E.1) 4 (DY _ _ _ _ _)) (DC f)) ?_
 refine yG ?_
 refine EF O (CK aM O (Io N _ f) O E ?_)
 intro w5 d5 E
 refine yG ?_
 refine V (v := .int .i64 (WK (p.take (i + 1)))) O O (Km O O O (Hn h).symm) ?_
 refine yG ?_
 exact ⟨_, (by rw [G]; omega), (i + 1), _, _, _, _, _, _, _, _, _, _, O, zE, O, AA⟩
theorem dL (vp : Value) (p : List Tm) (w : World) (hRp : IsR JP (DD w.heap.size) w vp p) (hL : p.length ≤ 1000000) :
    Calls prog 15 #[vp] w (GJ w (.int .u8 ↑(EA p))) := by
 have E := Env.start w
 obtain ⟨C, e, rfl, a1, a0⟩ := hRp.shp
 replace E := E.r hRp (DK _)
 go_enter func15, ntmps15
 refine yG ?_
 refine wp_loop_ghost (fun mz a X => ∃ (i : Nat) (U T S R Q B z y u t q o l k : Value), a = ⟨#[.slice C p.length e, undef, .int .u8 0, .int .u8 ↑(EA (p.take i)), .int .i64 ↑i, U, T, S, R, Q, B, z, y, u, t, q, o, l, k, undef], []⟩ ∧ Env X [fR JP (DD w.heap.size) (.slice C p.length e) p, fW w] ∧ mz = p.length - i ∧ (i ≤ p.length)) (p.length) ⟨0, _, _, _, _, _, _, _, _, _, _, _, _, _, _, O, zE, O, (Nat.zero_le _)⟩ ?_
 rintro m1 _ w1 ⟨i, U, T, S, R, Q, B, z, y, u, t, q, o, l, k, rfl, E, G, a2⟩
 by_cases P : i < p.length
 case neg =>
  refine yG ?_
  exact ⟨by rw [KZ P], E.2.1⟩
 obtain ⟨⟨c2, M2⟩, f⟩ : ∃ x, p[i]? = some x := ⟨_, List.getElem?_eq_getElem P⟩
 obtain ⟨D, Y, _, L, N, J, ⟨n2, s2, m2, u2, rfl, F, I, h⟩⟩ := IsR.at E.1.1 f
 have H : D < _ := E.1.2 _ N
 replace E := ((E.c J H).i F).i I
 refine yG ?_
 refine Ja O O L O (List.getElem?_eq_some_iff.1 f).1 ?_
 refine yG ?_
 refine V O O (CD QX O O (Cs.sub (E.2.2.1.1) 4 (DY _ _ _ _ _)) (DC h)) ?_
 refine yG ?_
 refine EF O (BZ cU O (Tr M2 _ h) O E ?_)
 intro w3 d3 E
 refine yG ?_
 refine V (v := .int .u8 ↑(EA (p.take (i + 1)))) O O (pU O O O O O (WP _) (pO _) (jH f).symm) ?_
 refine yG ?_
 exact ⟨_, (by rw [G]; omega), (i + 1), _, _, _, _, _, _, _, _, _, _, _, _, _, _, O, zE, O, AA⟩
theorem KI {a b : Bool} (h : a = b) : Ending.returned (.bool a) = .returned (.bool b) := by rw [h]
theorem Ll {c d : Rat} {m n : List Nat} (h : m = n) : decide (c = d) = decide ((c, m) = (d, n)) := by subst h; simp
theorem Qr {c d : Rat} {m n : List Nat} (h : ¬ m = n) : false = decide ((c, m) = (d, n)) := by simp [h]
theorem lW (na : Bool) (sa : Value) (ma : Bool) (ua : Value) (ca : Rat) (Ma : List Nat) (nb : Bool) (sb : Value) (mb : Bool) (ub : Value) (cb : Rat) (Mb : List Nat) (w : World) (hna : IsI w (.agg #[.bool na, sa]) ca.num) (hda : IsI w (.agg #[.bool ma, ua]) ((ca.den : Nat) : Int)) (hMa : EK Ma) (hnb : IsI w (.agg #[.bool nb, sb]) cb.num) (hdb : IsI w (.agg #[.bool mb, ub]) ((cb.den : Nat) : Int)) (hMb : EK Mb) :
    Calls prog 45 #[.agg (HY na sa ma ua Ma).toArray, .agg (HY nb sb mb ub Mb).toArray] w (NP w (decide ((ca, Ma) = (cb, Mb)))) := by
 have E := Env.start w
 replace E := (E.i hna).i hda
 replace E := (E.i hnb).i hdb
 go_enter func45, ntmps45
 refine yG ?_
 refine EF O (CI (cs := (HY na sa ma ua Ma)) O O ?_)
 intro C y e1 t l h
 replace E := E.below l
 clear e1
 replace E := E.x h
 refine yG ?_
 refine EF O (CI (cs := (HY nb sb mb ub Mb)) O O ?_)
 intro B v e2 o k f
 replace E := E.below k
 clear e2
 replace E := E.x f
 by_cases e : Ma = Mb
 case neg =>
  refine yG ?_
  refine V O O (CD QX O O (Cs.sub (Bx.cs E.2.1) 4 (DY _ _ _ _ _)) (DC hMa)) ?_
  refine yG ?_
  refine V O O (CD QX O O (Cs.sub (Bx.cs E.1) 4 (DY _ _ _ _ _)) (DC hMb)) ?_
  refine yG ?_
  refine V O O (iH (p := Ma) (q := Mb) (c := false) O O O hMa hMb (decide_eq_false e)) ?_
  refine yG ?_
  exact ⟨KI (Qr e), e6 E⟩
 refine yG ?_
 refine V O O (CD QX O O (Cs.sub (Bx.cs E.2.1) 4 (DY _ _ _ _ _)) (DC hMa)) ?_
 refine yG ?_
 refine V O O (CD QX O O (Cs.sub (Bx.cs E.1) 4 (DY _ _ _ _ _)) (DC hMb)) ?_
 refine yG ?_
 refine V O O (iH (p := Ma) (q := Mb) (c := true) O O O hMa hMb (decide_eq_true e)) ?_
 refine yG ?_
 refine V Z O (CD GV O O (Cs.sub (Bx.cs E.2.1) 0 (FG _ _ _ _ _)) O) ?_
 refine yG ?_
 refine V Z O (CD GV O O (Cs.sub (Bx.cs E.1) 0 (FG _ _ _ _ _)) O) ?_
 refine yG ?_
 refine EF O (CA lG O (Tn _ _ _ _ ca _ _ _ _ cb _ (e5 E) (e4 E) (e3 E) E.2.2.1) O E ?_)
 intro u z E
 refine yG ?_
 exact ⟨KI (Ll e), e6 E⟩
theorem pK {α : Type} {p q : List α} {i : Nat} {x y : α} (h : p.take i = q.take i) (h1 : p[i]? = some x) (h2 : q[i]? = some y) (e : x = y) : p.take (i + 1) = q.take (i + 1) := by rw [MF h1, MF h2, h, e]
theorem rG {α : Type} {p q : List α} {i : Nat} (hl : p.length = q.length) (h : p.take i = q.take i) (hi : ¬ i < p.length) : p = q := by rw [KZ hi, KZ AA] at h; exact h
theorem yI {α : Type} {p q : List α} (h : ¬ p.length = q.length) : ¬ p = q := fun e => h (by rw [e])
theorem Cb {α : Type} {p q : List α} {i : Nat} {x y : α} (h1 : p[i]? = some x) (h2 : q[i]? = some y) (h : ¬ x = y) : ¬ p = q := fun e => h (by subst e; rw [h1] at h2; simpa using h2)
theorem TL (vp : Value) (p : List Tm) (vq : Value) (q : List Tm) (w : World) (hRp : IsR JP (DD w.heap.size) w vp p) (hRq : IsR JP (DD w.heap.size) w vq q) (hL : p.length ≤ 1000000) :
    Calls prog 14 #[vp, vq] w (NP w (decide (p = q))) := by
 have E := Env.start w
 obtain ⟨C, k, rfl, ao, am⟩ := hRp.shp
 replace E := E.r hRp (DK _)
 obtain ⟨B, h, rfl, an, al⟩ := hRq.shp
 replace E := E.r hRq (DK _)
 go_enter func14, ntmps14
 by_cases hl : p.length = q.length
 case neg =>
  refine yG ?_
  exact ⟨KI (decide_eq_false (yI hl)).symm, E.2.2.1⟩
 refine yG ?_
 refine wp_loop_ghost (fun mz a w' => ∃ (i : Nat) (g4 a4 a3 a2 a1 a0 Y X U T S R Q P N L J : Value), a = ⟨#[.slice C p.length k, .slice B q.length h, undef, undef, g4, .int .i64 ↑i, .slice C p.length k, .int .i64 ↑p.length, .slice B q.length h, .int .i64 ↑q.length, .bool false, a4, a3, a2, a1, a0, Y, X, U, T, S, R, Q, P, N, L, J], []⟩ ∧ Env w' [fR JP (DD w.heap.size) (.slice B q.length h) q, fR JP (DD w.heap.size) (.slice C p.length k) p, fW w] ∧ mz = p.length - i ∧ (i ≤ p.length ∧ p.take i = q.take i)) (p.length) ⟨0, _, _, _, _, _, _, _, _, _, _, _, _, _, _, _, _, _, O, zE, O, ⟨Nat.zero_le _, O⟩⟩ ?_
 rintro m1 _ w1 ⟨i, g4, a4, a3, a2, a1, a0, Y, X, U, T, S, R, Q, P, N, L, J, rfl, E, aa, I⟩
 obtain ⟨I, hJ⟩ := I
 by_cases hi : i < p.length
 case neg =>
  refine yG ?_
  exact ⟨KI (decide_eq_true (rG hl hJ hi)).symm, E.2.2.1⟩
 obtain ⟨⟨z, F⟩, f⟩ : ∃ x, p[i]? = some x := ⟨_, List.getElem?_eq_getElem hi⟩
 obtain ⟨a7, ak, _, H, ai, ag, ⟨n2, s2, m2, u2, rfl, a9, ae, u⟩⟩ := IsR.at E.2.1.1 f
 have ac : a7 < _ := E.2.1.2 _ ai
 replace E := ((E.c ag ac).i a9).i ae
 obtain ⟨⟨y, D⟩, e⟩ : ∃ x, q[i]? = some x := ⟨_, List.getElem?_eq_getElem (show i < q.length by omega)⟩
 obtain ⟨a6, aj, _, G, ah, af, ⟨n3, s3, m3, u3, rfl, a8, ad, t⟩⟩ := IsR.at (e3 E).1 e
 have ab : a6 < _ := (e3 E).2 _ ah
 replace E := ((E.c af ab).i a8).i ad
 by_cases he : (z, F) = (y, D)
 case neg =>
  refine yG ?_
  refine sE E [0,1,2,3,4,5,6,7,8,9] ?_
  replace E := E.drew
  refine yG ?_
  refine lS O O O H O (List.getElem?_eq_some_iff.1 f).1 ?_
  refine SW O O O O O (fun w l => CD KP O O ((e5 l).1) (CM u)) ?_
  refine yG ?_
  refine lS O O O G O (List.getElem?_eq_some_iff.1 e).1 ?_
  refine SW O O O O O (fun w l => CD KP O O ((l.2.2.1).1) (CM t)) ?_
  refine yG ?_
  refine JM (o := ⟨some 25, _, _, _, _, _⟩) O O O O (CA RS O (lW n2 s2 m2 u2 z F n3 s3 m3 u3 y D _ (e4 E) (e3 E) u E.2.1 E.1 t) O E ?_)
  intro w5 d5 E
  refine ⟨E, ?_⟩
  refine yG ?_
  refine SW (v := .bool (!(decide ((z, F) = (y, D))))) O O O O O (fun w l => UY (b := (decide ((z, F) = (y, D)))) O O) ?_
  refine yG ?_
  refine AO (congrArg Value.bool (by rw [decide_eq_false he]; rfl)) ?_
  refine yG ?_
  exact ⟨KI (decide_eq_false (Cb f e he)).symm, e8 E⟩
 refine yG ?_
 refine sE E [0,1,2,3,4,5,6,7,8,9] ?_
 replace E := E.drew
 refine yG ?_
 refine lS O O O H O (List.getElem?_eq_some_iff.1 f).1 ?_
 refine SW O O O O O (fun w l => CD KP O O ((e5 l).1) (CM u)) ?_
 refine yG ?_
 refine lS O O O G O (List.getElem?_eq_some_iff.1 e).1 ?_
 refine SW O O O O O (fun w l => CD KP O O ((l.2.2.1).1) (CM t)) ?_
 refine yG ?_
 refine JM (o := ⟨some 25, _, _, _, _, _⟩) O O O O (CA RS O (lW n2 s2 m2 u2 z F n3 s3 m3 u3 y D _ (e4 E) (e3 E) u E.2.1 E.1 t) O E ?_)
 intro w4 d4 E
 refine ⟨E, ?_⟩
 refine yG ?_
 refine SW (v := .bool (!(decide ((z, F) = (y, D))))) O O O O O (fun w l => UY (b := (decide ((z, F) = (y, D)))) O O) ?_
 refine yG ?_
 refine AP (congrArg Value.bool (by rw [decide_eq_true he]; rfl)) ?_
 refine yG ?_
 exact ⟨_, (by rw [aa]; omega), (i + 1), _, _, _, _, _, _, _, _, _, _, _, _, _, _, _, _, _, O, zE, O, ⟨by omega, pK hJ f e he⟩⟩
end Go.Proofs.YtmppigbbkjepiaaGreatDoor
