/- Polynomials: package polynomial's Valid, Uses, Degree; the reference's. (Printed by g_poly.py.) -/
import Derived.Test.YtmppigbbkjepiaaGreatDoorAut2
import Derived.Test.YtmppigbbkjepiaaGreatDoorRat5
set_option maxHeartbeats 8000000
set_option maxRecDepth 100000
namespace Go.Proofs.YtmppigbbkjepiaaGreatDoor
open Go.Proofs.Tryz
open Go.RowKit W
theorem Nq (n : Bool) (s : Value) (m : Bool) (u : Value) (x : Rat) (w : World) (h1 : IsI w (.agg #[.bool n, s]) x.num) (h2 : IsI w (.agg #[.bool m, u]) ((x.den : Nat) : Int)) (h3 : FitQ x 100000000) :
    Calls prog 80 #[.agg #[.bool n, s, .bool m, u]] w (JO w true) := CQ (decide_eq_true (uB x)) (bK n s m u _ _ w h1 h2 (h3.1.mono AD) (h3.2.mono AD))
theorem Jl (n : Bool) (s : Value) (m : Bool) (u : Value) (x : Rat) (w : World) (h1 : IsI w (.agg #[.bool n, s]) x.num) (h2 : IsI w (.agg #[.bool m, u]) ((x.den : Nat) : Int)) (h3 : FitQ x 100000000) :
    Calls prog 108 #[.agg #[.bool n, s, .bool m, u]] w (JO w true) := CQ (decide_eq_true (uB x)) (Dz n s m u _ _ w h1 h2 (h3.1.mono AD) (h3.2.mono AD))
theorem Nt (na : Bool) (sa : Value) (ma : Bool) (ta : Value) (x : Rat) (nb : Bool) (sb : Value) (mb : Bool) (tb : Value) (y : Rat) (w : World) (h1 : IsI w (.agg #[.bool na, sa]) x.num) (h2 : IsI w (.agg #[.bool ma, ta]) ((x.den : Nat) : Int)) (h3 : IsI w (.agg #[.bool nb, sb]) y.num) (h4 : IsI w (.agg #[.bool mb, tb]) ((y.den : Nat) : Int)) :
    Calls prog 92 #[.agg #[.bool na, sa, .bool ma, ta], .agg #[.bool nb, sb, .bool mb, tb]] w (JO w (decide (x = y))) :=
  CQ (decide_eq_decide.2 ⟨fun h => Rat.ext h.1 (Int.ofNat_inj.1 h.2), fun h => by subst h; exact ⟨rfl, rfl⟩⟩) (Rz na sa ma ta _ _ nb sb mb tb _ _ w h1 h2 h3 h4)
theorem Sw {c : Rat} (h : c ≠ 0) : (NA c.num == 0) = false := by
  have := Qo h
  rw [beq_eq_false_iff_ne]
  unfold NA IR
  split <;> first | decide | (split <;> first | decide | omega)
theorem sW {p : List Tm} (h : GW p) {i : Nat} {a b : Rat} {m n : List Nat} (hi : 0 < i) (h1 : p[i - 1]? = some (a, m)) (h2 : p[i]? = some (b, n)) : EU m n = 1 := h.2 (i - 1) _ _ h1 (by rw [show i - 1 + 1 = i by omega]; exact h2)
theorem WW (vp : Value) (p : List Tm) (w : World) (hRp : IsR KG (DI w.heap.size) w vp p) (hp : GW p) (hF : ∀ t ∈ p, FitQ t.1 1000000) (hL : p.length ≤ 1000000) :
    Calls prog 37 #[vp] w (JO w true) := by
 have E := Env.start w
 obtain ⟨l, h, rfl, az, ay⟩ := hRp.shp
 replace E := E.r hRp (DM _)
 clear hRp
 go_enter func37, ntmps37
 refine yG ?_
 refine wp_loop_ghost (fun mz a w' => ∃ (i : Nat) (g2 g3 g4 g8 g9 ag af ae ad ac ab aa a9 a8 a7 a6 a5 a4 a3 a2 a1 a0 Y X U T S R Q P N L J H G F D C : Value), a = ⟨#[.slice l p.length h, undef, g2, g3, g4, .slice l p.length h, .int .i64 ↑p.length, .int .i64 ↑i, g8, g9, ag, af, ae, ad, ac, ab, aa, a9, a8, a7, a6, a5, a4, a3, a2, a1, a0, Y, X, U, T, S, R, Q, P, N, L, J, H, G, F, D, C], []⟩ ∧ Env w' [fR KG (DI w.heap.size) (.slice l p.length h) p, fW w] ∧ mz = p.length - i ∧ (i ≤ p.length)) (p.length) ⟨0, _, _, _, _, _, _, _, _, _, _, _, _, _, _, _, _, _, _, _, _, _, _, _, _, _, _, _, _, _, _, _, _, _, _, _, _, _, _, O, zE, O, (Nat.zero_le _)⟩ ?_
 rintro m1 _ w1 ⟨i, g2, g3, g4, g8, g9, ag, af, ae, ad, ac, ab, aa, a9, a8, a7, a6, a5, a4, a3, a2, a1, a0, Y, X, U, T, S, R, Q, P, N, L, J, H, G, F, D, C, rfl, E, u, b1⟩
 by_cases hi : i < p.length
 case neg =>
  refine yG ?_
  exact ⟨rfl, E.2.1⟩
 obtain ⟨⟨c2, M2⟩, f⟩ : ∃ x, p[i]? = some x := ⟨_, List.getElem?_eq_getElem hi⟩
 obtain ⟨q, ax, _, au, y, aq, ⟨n2, s2, m2, u2, rfl, ak, ao, e⟩⟩ := IsR.at E.1.1 f
 have am : q < _ := E.1.2 _ y
 replace E := ((E.c aq am).i ak).i ao
 have b0 : q < w.heap.size := y
 have ai := hp.1 _ (List.mem_of_getElem? f)
 refine yG ?_
 refine tZ O O au O (List.getElem?_eq_some_iff.1 f).1 ?_
 refine V O O (CD JW O O (E.2.2.1.1) (CJ e)) ?_
 refine yG ?_
 refine EF O (CA JW O ?_)
 intro b3 w3 e3 z3 d3 x3
 have l3 : w.heap.size ≤ b3 := by rw [e3]; exact (e4 E).size
 replace E := E.below d3
 clear e3 z3 d3
 refine yG ?_
 refine EF O (BX JW O O O x3 (by first | rfl | exact CJ DC) (CJ e) (FT (M := M2) (IsI.one E.2.1) (IsI.one E.1)) ?_)
 intro w4 o4 y4
 replace E := (E.onl (x3.noW (FR (M := zeroM) CW CW)) zK o4).x (cs := (HY n2 s2 m2 u2 M2)) y4
 clear x3 o4 y4
 refine yG ?_
 refine V O O (CD GI O O (Cs.sub (Bx.cs E.1) 0 (EK _ _ _ _ _)) O) ?_
 refine yG ?_
 refine EF O (BY KO O (Nq _ _ _ _ c2 _ E.2.2.1 E.2.1 (FitQ.mono (hF _ (List.mem_of_getElem? f)) AD)) O E ?_)
 clear E
 intro w5 _ E
 refine yG ?_
 refine V I O (CD GI O O (Cs.sub (Bx.cs E.1) 0 (EK _ _ _ _ _)) O) ?_
 refine yG ?_
 refine EF O (CH DW O (OK _ _ _ _ c2 _ E.2.2.1 E.2.1) O E ?_)
 clear E
 intro w6 _ E
 refine yG ?_
 refine V I O (GQ (c := false) O O O (Sw ai.1)) ?_
 refine yG ?_
 refine V I O (CD PR O O (Cs.sub (Bx.cs E.1) 4 (DR _ _ _ _ _)) (DA e)) ?_
 refine yG ?_
 refine EF O (BY bA O (Jq M2 _ e) O E ?_)
 clear E
 intro w7 _ E
 by_cases h0 : 0 < i
 case neg =>
  refine yG ?_
  refine sE E [0,1,2,3,4,5,6,7,8,9,10,11,12,13] ?_
  replace E := E.drew
  refine yG ?_
  exact ⟨_, (by rw [u]; omega), (i + 1), _, _, _, _, _, _, _, _, _, _, _, _, _, _, _, _, _, _, _, _, _, _, _, _, _, _, _, _, _, _, _, _, _, _, _, _, _, _, O, zE, O, Z⟩
 obtain ⟨⟨c8, M8⟩, k⟩ : ∃ x, p[i - 1]? = some x := ⟨_, List.getElem?_eq_getElem (show i - 1 < p.length by omega)⟩
 obtain ⟨ah, aw, _, ar, av, ap, ⟨n8, s8, m8, u8, rfl, aj, an, B⟩⟩ := IsR.at (e4 E).1 k
 have al : ah < _ := (e4 E).2 _ av
 replace E := ((E.c ap al).i aj).i an
 refine yG ?_
 refine sE E [0,1,2,3,4,5,6,7,8,9,10,11,12,13] ?_
 replace E := E.drew
 refine yG ?_
 refine SW (v := .int .i64 ↑(i - 1)) O O O I O (fun w z => GJ O O O (by rw [JC Z]; omega)) ?_
 refine fE O O O ar O (List.getElem?_eq_some_iff.1 k).1 ?_
 refine yG ?_
 refine SW O O O I O (fun w z => CD PR O O (Cs.sub ((z.2.2.1).1) 4 (DR _ _ _ _ _)) (DA B)) ?_
 refine yG ?_
 refine SW O O O I O (fun w z => CD PR O O (Cs.sub (Bx.cs (e3 z)) 4 (DR _ _ _ _ _)) (DA e)) ?_
 refine yG ?_
 refine JF (o := ⟨some 39, _, _, _, _, _⟩) O O O O (CH PJ O (xE M8 M2 _ B e) O E ?_)
 clear E
 intro w9 _ E
 refine ⟨E, ?_⟩
 refine yG ?_
 refine SW O O O I O (fun w z => NJ (c := false) O O O (by rw [sW hp h0 k f]; rfl)) ?_
 refine yG ?_
 exact ⟨_, (by rw [u]; omega), (i + 1), _, _, _, _, _, _, _, _, _, _, _, _, _, _, _, _, _, _, _, _, _, _, _, _, _, _, _, _, _, _, _, _, _, _, _, _, _, _, O, zE, O, Z⟩
def degA (d : Int) (p : List Tm) : Int := p.foldl (fun d t => if d < ((VZ t.2 8 : Nat) : Int) then ((VZ t.2 8 : Nat) : Int) else d) d
def RH (p : List Tm) : Int := degA (-1) p
def EZ (p : List Tm) : Nat := p.foldl (fun s t => s ||| KX t.2 8) 0
theorem JR {α : Type} {l : List α} {i : Nat} {x : α} (h : l[i]? = some x) : l.take (i + 1) = l.take i ++ [x] := by
  obtain ⟨f, e⟩ := List.getElem?_eq_some_iff.1 h
  rw [List.take_succ_eq_append_getElem f, e]
theorem mR {p : List Tm} {i : Nat} {c : Rat} {M : List Nat} (h : p[i]? = some (c, M)) : RH (p.take (i + 1)) = if RH (p.take i) < ((VZ M 8 : Nat) : Int) then ((VZ M 8 : Nat) : Int) else RH (p.take i) := by
  rw [JR h]; unfold RH degA; rw [List.foldl_append]; rfl
theorem gZ {p : List Tm} {i : Nat} {c : Rat} {M : List Nat} (h : p[i]? = some (c, M)) : EZ (p.take (i + 1)) = EZ (p.take i) ||| KX M 8 := by
  rw [JR h]; unfold EZ; rw [List.foldl_append]; rfl
theorem nM (M : List Nat) : KX M 8 < 256 := uL (Nat.le_refl 8)
theorem VJ (p : List Tm) : EZ p < 256 := by
  unfold EZ
  have : ∀ (p : List Tm) (s : Nat), s < 256 → p.foldl (fun s t => s ||| KX t.2 8) s < 256 := by
    intro p
    induction p with
    | nil => intro s h; exact h
    | cons t p ih => intro s h; exact ih _ (Nat.or_lt_two_pow (n := 8) h (nM t.2))
  exact this p 0 AD
theorem IA {α : Type} {l : List α} {i : Nat} (h : ¬ i < l.length) : l.take i = l := List.take_of_length_le Z
theorem bS (vp : Value) (p : List Tm) (w : World) (hRp : IsR KG (DI w.heap.size) w vp p) (hL : p.length ≤ 1000000) :
    Calls prog 38 #[vp] w (FX w (.int .u8 ↑(EZ p))) := by
 have E := Env.start w
 obtain ⟨k, e, rfl, a2, a1⟩ := hRp.shp
 replace E := E.r hRp (DM _)
 clear hRp
 go_enter func38, ntmps38
 refine yG ?_
 refine wp_loop_ghost (fun mz a w' => ∃ (i : Nat) (X U D C B z y u t q : Value), a = ⟨#[.slice k p.length e, undef, .int .u8 0, .int .u8 ↑(EZ (p.take i)), undef, X, .slice k p.length e, .int .i64 ↑p.length, .int .i64 ↑i, U, D, C, B, z, y, u, t, q, undef], []⟩ ∧ Env w' [fR KG (DI w.heap.size) (.slice k p.length e) p, fW w] ∧ mz = p.length - i ∧ (i ≤ p.length)) (p.length) ⟨0, _, _, _, _, _, _, _, _, _, _, O, zE, O, (Nat.zero_le _)⟩ ?_
 rintro m1 _ w1 ⟨i, X, U, D, C, B, z, y, u, t, q, rfl, E, H, a4⟩
 by_cases T : i < p.length
 case neg =>
  refine yG ?_
  exact ⟨by rw [IA T], E.2.1⟩
 obtain ⟨⟨c2, Q⟩, h⟩ : ∃ x, p[i]? = some x := ⟨_, List.getElem?_eq_getElem T⟩
 obtain ⟨l, a0, _, P, o, N, ⟨n2, s2, m2, u2, rfl, G, L, f⟩⟩ := IsR.at E.1.1 h
 have J : l < _ := E.1.2 _ o
 replace E := ((E.c N J).i G).i L
 have a3 : l < w.heap.size := o
 refine yG ?_
 refine tZ O O P O (List.getElem?_eq_some_iff.1 h).1 ?_
 refine V O O (CD JW O O (E.2.2.1.1) (CJ f)) ?_
 refine yG ?_
 refine EF O (CA JW O ?_)
 intro b3 w3 e3 z3 Y F
 have l3 : w.heap.size ≤ b3 := by rw [e3]; exact (e4 E).size
 replace E := E.below Y
 clear e3 z3 Y
 refine yG ?_
 refine EF O (BX JW O O O F (by first | rfl | exact CJ DC) (CJ f) (FT (M := Q) (IsI.one E.2.1) (IsI.one E.1)) ?_)
 intro w4 S R
 replace E := (E.onl (F.noW (FR (M := zeroM) CW CW)) zK S).x (cs := (HY n2 s2 m2 u2 Q)) R
 clear F S R
 refine yG ?_
 refine V O O (CD PR O O (Cs.sub (Bx.cs E.1) 4 (DR _ _ _ _ _)) (DA f)) ?_
 refine yG ?_
 refine EF O (BZ XW O (Si Q _ f) O E ?_)
 clear E
 intro w5 _ E
 refine yG ?_
 refine V (v := .int .u8 ↑(EZ (p.take (i + 1)))) O O (nR O O O O O (VJ _) (nM _) (gZ h).symm) ?_
 refine yG ?_
 exact ⟨_, (by rw [H]; omega), (i + 1), _, _, _, _, _, _, _, _, _, _, O, zE, O, Z⟩
theorem NF (vp : Value) (p : List Tm) (w : World) (hRp : IsR KG (DI w.heap.size) w vp p) (hL : p.length ≤ 1000000) :
    Calls prog 142 #[vp] w (FX w (.int .i64 (RH p))) := by
 have E := Env.start w
 obtain ⟨k, e, rfl, a2, a1⟩ := hRp.shp
 replace E := E.r hRp (DM _)
 clear hRp
 go_enter func142, ntmps142
 refine yG ?_
 refine wp_loop_ghost (fun mz a w' => ∃ (i : Nat) (X U D C B z y u t q : Value), a = ⟨#[.slice k p.length e, undef, .int .i64 0, .int .i64 (RH (p.take i)), undef, X, .slice k p.length e, .int .i64 ↑p.length, .int .i64 ↑i, U, D, C, B, z, y, u, t, q, undef], []⟩ ∧ Env w' [fR KG (DI w.heap.size) (.slice k p.length e) p, fW w] ∧ mz = p.length - i ∧ (i ≤ p.length)) (p.length) ⟨0, _, _, _, _, _, _, _, _, _, _, O, zE, O, (Nat.zero_le _)⟩ ?_
 rintro m1 _ w1 ⟨i, X, U, D, C, B, z, y, u, t, q, rfl, E, H, a4⟩
 by_cases T : i < p.length
 case neg =>
  refine yG ?_
  exact ⟨by rw [IA T], E.2.1⟩
 obtain ⟨⟨c2, Q⟩, h⟩ : ∃ x, p[i]? = some x := ⟨_, List.getElem?_eq_getElem T⟩
 obtain ⟨l, a0, _, P, o, N, ⟨n2, s2, m2, u2, rfl, G, L, f⟩⟩ := IsR.at E.1.1 h
 have J : l < _ := E.1.2 _ o
 replace E := ((E.c N J).i G).i L
 have a3 : l < w.heap.size := o
 refine yG ?_
 refine tZ O O P O (List.getElem?_eq_some_iff.1 h).1 ?_
 refine V O O (CD JW O O (E.2.2.1.1) (CJ f)) ?_
 refine yG ?_
 refine EF O (CA JW O ?_)
 intro b3 w3 e3 z3 Y F
 have l3 : w.heap.size ≤ b3 := by rw [e3]; exact (e4 E).size
 replace E := E.below Y
 clear e3 z3 Y
 refine yG ?_
 refine EF O (BX JW O O O F (by first | rfl | exact CJ DC) (CJ f) (FT (M := Q) (IsI.one E.2.1) (IsI.one E.1)) ?_)
 intro w4 S R
 replace E := (E.onl (F.noW (FR (M := zeroM) CW CW)) zK S).x (cs := (HY n2 s2 m2 u2 Q)) R
 clear F S R
 refine yG ?_
 refine V O O (CD PR O O (Cs.sub (Bx.cs E.1) 4 (DR _ _ _ _ _)) (DA f)) ?_
 refine yG ?_
 refine EF O (CH ZH O (Eb Q _ f) O E ?_)
 clear E
 intro w5 _ E
 refine yG ?_
 refine V (v := .int .i64 (RH (p.take (i + 1)))) O O (qP O O O (mR h).symm) ?_
 refine yG ?_
 exact ⟨_, (by rw [H]; omega), (i + 1), _, _, _, _, _, _, _, _, _, _, O, zE, O, Z⟩
theorem dA (vp : Value) (p : List Tm) (w : World) (hRp : IsR KG (DI w.heap.size) w vp p) (hp : GW p) (hF : ∀ t ∈ p, FitQ t.1 1000000) (hL : p.length ≤ 1000000) :
    Calls prog 62 #[vp] w (JO w true) := by
 have E := Env.start w
 obtain ⟨ao, k, rfl, b8, b7⟩ := hRp.shp
 replace E := E.r hRp (DM _)
 clear hRp
 go_enter func62, ntmps62
 refine yG ?_
 refine wp_loop_ghost (fun mz a w' => ∃ (i : Nat) (g2 g4 g5 g6 g7 g8 g9 an am al ak aj ai ah ag af ae ad ac ab aa a9 a8 a7 a6 a5 a4 a3 a2 a1 a0 Y X U T S R Q P N L J H G F D C B z : Value), a = ⟨#[.slice ao p.length k, undef, g2, .int .i64 ↑i, g4, g5, g6, g7, g8, g9, an, am, al, ak, aj, ai, ah, ag, af, ae, ad, ac, ab, aa, a9, a8, a7, a6, a5, a4, a3, a2, a1, a0, Y, X, U, T, S, R, Q, P, N, L, J, H, G, F, D, C, B, z], []⟩ ∧ Env w' [fR KG (DI w.heap.size) (.slice ao p.length k) p, fW w] ∧ mz = p.length - i ∧ (i ≤ p.length)) (p.length) ⟨0, _, _, _, _, _, _, _, _, _, _, _, _, _, _, _, _, _, _, _, _, _, _, _, _, _, _, _, _, _, _, _, _, _, _, _, _, _, _, _, _, _, _, _, _, _, _, _, _, _, O, zE, O, (Nat.zero_le _)⟩ ?_
 rintro m1 _ w1 ⟨i, g2, g4, g5, g6, g7, g8, g9, an, am, al, ak, aj, ai, ah, ag, af, ae, ad, ac, ab, aa, a9, a8, a7, a6, a5, a4, a3, a2, a1, a0, Y, X, U, T, S, R, Q, P, N, L, J, H, G, F, D, C, B, z, rfl, E, q, b9⟩
 by_cases hi : i < p.length
 case neg =>
  refine yG ?_
  exact ⟨rfl, E.2.1⟩
 obtain ⟨⟨c2, M2⟩, e⟩ : ∃ x, p[i]? = some x := ⟨_, List.getElem?_eq_getElem hi⟩
 obtain ⟨aq, b6, _, f, b4, b1, ⟨n2, s2, m2, u2, rfl, av, az, h⟩⟩ := IsR.at E.1.1 e
 have ax : aq < _ := E.1.2 _ b4
 replace E := ((E.c b1 ax).i av).i az
 have ar := hp.1 _ (List.mem_of_getElem? e)
 refine yG ?_
 refine tZ O O f O (List.getElem?_eq_some_iff.1 e).1 ?_
 refine yG ?_
 refine V O O (CD GI O O (Cs.sub (E.2.2.1.1) 0 (EK _ _ _ _ _)) O) ?_
 refine yG ?_
 refine EF O (BY eV O (Jl _ _ _ _ c2 _ E.2.1 E.1 (FitQ.mono (hF _ (List.mem_of_getElem? e)) AD)) O E ?_)
 clear E
 intro w3 _ E
 refine yG ?_
 refine tZ O O f O (List.getElem?_eq_some_iff.1 e).1 ?_
 refine yG ?_
 refine V I O (CD GI O O (Cs.sub (E.2.2.1.1) 0 (EK _ _ _ _ _)) O) ?_
 refine yG ?_
 refine EF O (CH IG O (UI _ _ _ _ c2 _ E.2.1 E.1) O E ?_)
 clear E
 intro w4 _ E
 refine yG ?_
 refine V I O (GQ (c := false) O O O (Sw ar.1)) ?_
 refine yG ?_
 refine tZ O O f O (List.getElem?_eq_some_iff.1 e).1 ?_
 refine yG ?_
 refine V I O (CD PR O O (Cs.sub (E.2.2.1.1) 4 (DR _ _ _ _ _)) (DA h)) ?_
 refine yG ?_
 refine EF O (BY UT O (nB M2 _ h) O E ?_)
 clear E
 intro w5 _ E
 by_cases h0 : 0 < i
 case neg =>
  refine yG ?_
  refine sE E [0,1,2,3,4,5,6,7,8,9,10,11,12,13,14,15,16] ?_
  replace E := E.drew
  refine yG ?_
  exact ⟨_, (by rw [q]; omega), (i + 1), _, _, _, _, _, _, _, _, _, _, _, _, _, _, _, _, _, _, _, _, _, _, _, _, _, _, _, _, _, _, _, _, _, _, _, _, _, _, _, _, _, _, _, _, _, _, _, _, _, O, zE, O, Z⟩
 obtain ⟨⟨c6, M6⟩, l⟩ : ∃ x, p[i - 1]? = some x := ⟨_, List.getElem?_eq_getElem (show i - 1 < p.length by omega)⟩
 obtain ⟨ap, b5, _, b2, b3, b0, ⟨n6, s6, m6, u6, rfl, au, ay, y⟩⟩ := IsR.at (e3 E).1 l
 have aw : ap < _ := (e3 E).2 _ b3
 replace E := ((E.c b0 aw).i au).i ay
 refine yG ?_
 refine sE E [0,1,2,3,4,5,6,7,8,9,10,11,12,13,14,15,16] ?_
 replace E := E.drew
 refine yG ?_
 refine SW (v := .int .i64 ↑(i - 1)) O O O I O (fun w u => GJ O O O (by rw [JC Z]; omega)) ?_
 refine fE O O O b2 O (List.getElem?_eq_some_iff.1 l).1 ?_
 refine yG ?_
 refine SW O O O I O (fun w u => CD PR O O (Cs.sub ((u.2.2.1).1) 4 (DR _ _ _ _ _)) (DA y)) ?_
 refine yG ?_
 refine fE O O O f O (List.getElem?_eq_some_iff.1 e).1 ?_
 refine yG ?_
 refine SW O O O I O (fun w u => CD PR O O (Cs.sub ((e5 u).1) 4 (DR _ _ _ _ _)) (DA h)) ?_
 refine yG ?_
 refine JF (o := ⟨some 49, _, _, _, _, _⟩) O O O O (CH HO O (RZ M6 M2 _ y h) O E ?_)
 clear E
 intro w7 _ E
 refine ⟨E, ?_⟩
 refine yG ?_
 refine SW O O O I O (fun w u => NJ (c := false) O O O (by rw [sW hp h0 l e]; rfl)) ?_
 refine yG ?_
 exact ⟨_, (by rw [q]; omega), (i + 1), _, _, _, _, _, _, _, _, _, _, _, _, _, _, _, _, _, _, _, _, _, _, _, _, _, _, _, _, _, _, _, _, _, _, _, _, _, _, _, _, _, _, _, _, _, _, _, _, _, O, zE, O, Z⟩
theorem tL (vp : Value) (p : List Tm) (w : World) (hRp : IsR KG (DI w.heap.size) w vp p) (hL : p.length ≤ 1000000) :
    Calls prog 15 #[vp] w (FX w (.int .u8 ↑(EZ p))) := by
 have E := Env.start w
 obtain ⟨C, e, rfl, a2, a1⟩ := hRp.shp
 replace E := E.r hRp (DM _)
 clear hRp
 go_enter func15, ntmps15
 refine yG ?_
 refine wp_loop_ghost (fun mz a Y => ∃ (i : Nat) (X U T S R B z y u t q o l k : Value), a = ⟨#[.slice C p.length e, undef, .int .u8 0, .int .u8 ↑(EZ (p.take i)), .int .i64 ↑i, X, U, T, S, R, B, z, y, u, t, q, o, l, k, undef], []⟩ ∧ Env Y [fR KG (DI w.heap.size) (.slice C p.length e) p, fW w] ∧ mz = p.length - i ∧ (i ≤ p.length)) (p.length) ⟨0, _, _, _, _, _, _, _, _, _, _, _, _, _, _, O, zE, O, (Nat.zero_le _)⟩ ?_
 rintro m1 _ w1 ⟨i, X, U, T, S, R, B, z, y, u, t, q, o, l, k, rfl, E, G, a3⟩
 by_cases Q : i < p.length
 case neg =>
  refine yG ?_
  exact ⟨by rw [IA Q], E.2.1⟩
 obtain ⟨⟨c2, M2⟩, f⟩ : ∃ x, p[i]? = some x := ⟨_, List.getElem?_eq_getElem Q⟩
 obtain ⟨D, a0, _, N, P, L, ⟨n2, s2, m2, u2, rfl, F, J, h⟩⟩ := IsR.at E.1.1 f
 have H : D < _ := E.1.2 _ P
 replace E := ((E.c L H).i F).i J
 refine yG ?_
 refine tZ O O N O (List.getElem?_eq_some_iff.1 f).1 ?_
 refine yG ?_
 refine V O O (CD PR O O (Cs.sub (E.2.2.1.1) 4 (DR _ _ _ _ _)) (DA h)) ?_
 refine yG ?_
 refine EF O (BZ bB O (Nv M2 _ h) O E ?_)
 clear E
 intro w3 _ E
 refine yG ?_
 refine V (v := .int .u8 ↑(EZ (p.take (i + 1)))) O O (nR O O O O O (VJ _) (nM _) (gZ f).symm) ?_
 refine yG ?_
 exact ⟨_, (by rw [G]; omega), (i + 1), _, _, _, _, _, _, _, _, _, _, _, _, _, _, O, zE, O, Z⟩
theorem ZM (vp : Value) (p : List Tm) (w : World) (hRp : IsR KG (DI w.heap.size) w vp p) (hL : p.length ≤ 1000000) :
    Calls prog 116 #[vp] w (FX w (.int .i64 (RH p))) := by
 have E := Env.start w
 obtain ⟨C, e, rfl, a2, a1⟩ := hRp.shp
 replace E := E.r hRp (DM _)
 clear hRp
 go_enter func116, ntmps116
 refine yG ?_
 refine wp_loop_ghost (fun mz a Y => ∃ (i : Nat) (X U T S R B z y u t q o l k : Value), a = ⟨#[.slice C p.length e, undef, .int .i64 0, .int .i64 (RH (p.take i)), .int .i64 ↑i, X, U, T, S, R, B, z, y, u, t, q, o, l, k, undef], []⟩ ∧ Env Y [fR KG (DI w.heap.size) (.slice C p.length e) p, fW w] ∧ mz = p.length - i ∧ (i ≤ p.length)) (p.length) ⟨0, _, _, _, _, _, _, _, _, _, _, _, _, _, _, O, zE, O, (Nat.zero_le _)⟩ ?_
 rintro m1 _ w1 ⟨i, X, U, T, S, R, B, z, y, u, t, q, o, l, k, rfl, E, G, a3⟩
 by_cases Q : i < p.length
 case neg =>
  refine yG ?_
  exact ⟨by rw [IA Q], E.2.1⟩
 obtain ⟨⟨c2, M2⟩, f⟩ : ∃ x, p[i]? = some x := ⟨_, List.getElem?_eq_getElem Q⟩
 obtain ⟨D, a0, _, N, P, L, ⟨n2, s2, m2, u2, rfl, F, J, h⟩⟩ := IsR.at E.1.1 f
 have H : D < _ := E.1.2 _ P
 replace E := ((E.c L H).i F).i J
 refine yG ?_
 refine tZ O O N O (List.getElem?_eq_some_iff.1 f).1 ?_
 refine yG ?_
 refine V O O (CD PR O O (Cs.sub (E.2.2.1.1) 4 (DR _ _ _ _ _)) (DA h)) ?_
 refine yG ?_
 refine EF O (CH cO O (wW M2 _ h) O E ?_)
 clear E
 intro w3 _ E
 refine yG ?_
 refine V (v := .int .i64 (RH (p.take (i + 1)))) O O (qP O O O (mR f).symm) ?_
 refine yG ?_
 exact ⟨_, (by rw [G]; omega), (i + 1), _, _, _, _, _, _, _, _, _, _, _, _, _, _, O, zE, O, Z⟩
theorem JS {a b : Bool} (h : a = b) : Ending.returned (.bool a) = .returned (.bool b) := by rw [h]
theorem Gx {c d : Rat} {m n : List Nat} (h : m = n) : decide (c = d) = decide ((c, m) = (d, n)) := by subst h; simp
theorem Lm {c d : Rat} {m n : List Nat} (h : ¬ m = n) : false = decide ((c, m) = (d, n)) := by simp [h]
theorem kC (na : Bool) (sa : Value) (ma : Bool) (ua : Value) (ca : Rat) (Ma : List Nat) (nb : Bool) (sb : Value) (mb : Bool) (ub : Value) (cb : Rat) (Mb : List Nat) (w : World) (hna : IsI w (.agg #[.bool na, sa]) ca.num) (hda : IsI w (.agg #[.bool ma, ua]) ((ca.den : Nat) : Int)) (hMa : ER Ma) (hnb : IsI w (.agg #[.bool nb, sb]) cb.num) (hdb : IsI w (.agg #[.bool mb, ub]) ((cb.den : Nat) : Int)) (hMb : ER Mb) :
    Calls prog 45 #[.agg (HY na sa ma ua Ma).toArray, .agg (HY nb sb mb ub Mb).toArray] w (JO w (decide ((ca, Ma) = (cb, Mb)))) := by
 have E := Env.start w
 replace E := (E.i hna).i hda
 clear hna hda
 replace E := (E.i hnb).i hdb
 clear hnb hdb
 go_enter func45, ntmps45
 refine yG ?_
 refine EF O (CI (cs := (HY na sa ma ua Ma)) O O ?_)
 intro D B v t l h
 replace E := (E.below l).x h
 clear v t l h
 refine yG ?_
 refine EF O (CI (cs := (HY nb sb mb ub Mb)) O O ?_)
 intro C z u o k f
 replace E := (E.below k).x f
 clear u o k f
 by_cases e : Ma = Mb
 case neg =>
  refine yG ?_
  refine V O O (CD PR O O (Cs.sub (Bx.cs E.2.1) 4 (DR _ _ _ _ _)) (DA hMa)) ?_
  refine yG ?_
  refine V O O (CD PR O O (Cs.sub (Bx.cs E.1) 4 (DR _ _ _ _ _)) (DA hMb)) ?_
  refine yG ?_
  refine V O O (fP (p := Ma) (q := Mb) (c := false) O O O hMa hMb (decide_eq_false e)) ?_
  refine yG ?_
  exact ⟨JS (Lm e), e6 E⟩
 refine yG ?_
 refine V O O (CD PR O O (Cs.sub (Bx.cs E.2.1) 4 (DR _ _ _ _ _)) (DA hMa)) ?_
 refine yG ?_
 refine V O O (CD PR O O (Cs.sub (Bx.cs E.1) 4 (DR _ _ _ _ _)) (DA hMb)) ?_
 refine yG ?_
 refine V O O (fP (p := Ma) (q := Mb) (c := true) O O O hMa hMb (decide_eq_true e)) ?_
 refine yG ?_
 refine V I O (CD GI O O (Cs.sub (Bx.cs E.2.1) 0 (EK _ _ _ _ _)) O) ?_
 refine yG ?_
 refine V I O (CD GI O O (Cs.sub (Bx.cs E.1) 0 (EK _ _ _ _ _)) O) ?_
 refine yG ?_
 refine EF O (BY jK O (Nt _ _ _ _ ca _ _ _ _ cb _ (e5 E) (e4 E) (e3 E) E.2.2.1) O E ?_)
 clear E
 intro y _ E
 refine yG ?_
 exact ⟨JS (Gx e), e6 E⟩
theorem nH {α : Type} {p q : List α} {i : Nat} {x y : α} (h : p.take i = q.take i) (h1 : p[i]? = some x) (h2 : q[i]? = some y) (e : x = y) : p.take (i + 1) = q.take (i + 1) := by rw [JR h1, JR h2, h, e]
theorem oY {α : Type} {p q : List α} {i : Nat} (hl : p.length = q.length) (h : p.take i = q.take i) (hi : ¬ i < p.length) : p = q := by rw [IA hi, IA Z] at h; exact h
theorem vO {α : Type} {p q : List α} (h : ¬ p.length = q.length) : ¬ p = q := fun e => h (by rw [e])
theorem yO {α : Type} {p q : List α} {i : Nat} {x y : α} (h1 : p[i]? = some x) (h2 : q[i]? = some y) (h : ¬ x = y) : ¬ p = q := fun e => h (by subst e; rw [h1] at h2; simpa using h2)
theorem pM (vp : Value) (p : List Tm) (vq : Value) (q : List Tm) (w : World) (hRp : IsR KG (DI w.heap.size) w vp p) (hRq : IsR KG (DI w.heap.size) w vq q) (hL : p.length ≤ 1000000) :
    Calls prog 14 #[vp, vq] w (JO w (decide (p = q))) := by
 have E := Env.start w
 obtain ⟨C, k, rfl, ao, am⟩ := hRp.shp
 replace E := E.r hRp (DM _)
 clear hRp
 obtain ⟨B, h, rfl, an, al⟩ := hRq.shp
 replace E := E.r hRq (DM _)
 clear hRq
 go_enter func14, ntmps14
 by_cases hl : p.length = q.length
 case neg =>
  refine yG ?_
  exact ⟨JS (decide_eq_false (vO hl)).symm, E.2.2.1⟩
 refine yG ?_
 refine wp_loop_ghost (fun mz a w' => ∃ (i : Nat) (g4 a5 a4 a3 a2 a1 a0 Y X U T S R Q P N L : Value), a = ⟨#[.slice C p.length k, .slice B q.length h, undef, undef, g4, .int .i64 ↑i, .slice C p.length k, .int .i64 ↑p.length, .slice B q.length h, .int .i64 ↑q.length, .bool false, a5, a4, a3, a2, a1, a0, Y, X, U, T, S, R, Q, P, N, L], []⟩ ∧ Env w' [fR KG (DI w.heap.size) (.slice B q.length h) q, fR KG (DI w.heap.size) (.slice C p.length k) p, fW w] ∧ mz = p.length - i ∧ (i ≤ p.length ∧ p.take i = q.take i)) (p.length) ⟨0, _, _, _, _, _, _, _, _, _, _, _, _, _, _, _, _, _, O, zE, O, ⟨Nat.zero_le _, O⟩⟩ ?_
 rintro m1 _ w1 ⟨i, g4, a5, a4, a3, a2, a1, a0, Y, X, U, T, S, R, Q, P, N, L, rfl, E, aa, J⟩
 obtain ⟨J, hJ⟩ := J
 by_cases hi : i < p.length
 case neg =>
  refine yG ?_
  exact ⟨JS (decide_eq_true (oY hl hJ hi)).symm, E.2.2.1⟩
 obtain ⟨⟨z, F⟩, f⟩ : ∃ x, p[i]? = some x := ⟨_, List.getElem?_eq_getElem hi⟩
 obtain ⟨a7, ak, _, H, ai, ag, ⟨n2, s2, m2, u2, rfl, a9, ae, u⟩⟩ := IsR.at E.2.1.1 f
 have ac : a7 < _ := E.2.1.2 _ ai
 replace E := ((E.c ag ac).i a9).i ae
 obtain ⟨⟨y, D⟩, e⟩ : ∃ x, q[i]? = some x := ⟨_, List.getElem?_eq_getElem (show i < q.length by omega)⟩
 obtain ⟨a6, aj, _, G, ah, af, ⟨n3, s3, m3, u3, rfl, a8, ad, t⟩⟩ := IsR.at (e3 E).1 e
 have ab : a6 < _ := (e3 E).2 _ ah
 replace E := ((E.c af ab).i a8).i ad
 by_cases he : (z, F) = (y, D)
 case neg =>
  refine yG ?_
  refine sE E [0,1,2,3,4,5,6,7,8,9] ?_
  replace E := E.drew
  refine yG ?_
  refine fE O O O H O (List.getElem?_eq_some_iff.1 f).1 ?_
  refine SW O O O O O (fun w l => CD JW O O ((e5 l).1) (CJ u)) ?_
  refine yG ?_
  refine fE O O O G O (List.getElem?_eq_some_iff.1 e).1 ?_
  refine SW O O O O O (fun w l => CD JW O O ((l.2.2.1).1) (CJ t)) ?_
  refine yG ?_
  refine JF (o := ⟨some 25, _, _, _, _, _⟩) O O O O (BY QS O (kC n2 s2 m2 u2 z F n3 s3 m3 u3 y D _ (e4 E) (e3 E) u E.2.1 E.1 t) O E ?_)
  clear E
  intro w5 _ E
  refine ⟨E, ?_⟩
  refine yG ?_
  refine SW (v := .bool (!(decide ((z, F) = (y, D))))) O O O O O (fun w l => TR (b := (decide ((z, F) = (y, D)))) O O) ?_
  refine yG ?_
  refine AN (congrArg Value.bool (by rw [decide_eq_false he]; rfl)) ?_
  refine yG ?_
  exact ⟨JS (decide_eq_false (yO f e he)).symm, e8 E⟩
 refine yG ?_
 refine sE E [0,1,2,3,4,5,6,7,8,9] ?_
 replace E := E.drew
 refine yG ?_
 refine fE O O O H O (List.getElem?_eq_some_iff.1 f).1 ?_
 refine SW O O O O O (fun w l => CD JW O O ((e5 l).1) (CJ u)) ?_
 refine yG ?_
 refine fE O O O G O (List.getElem?_eq_some_iff.1 e).1 ?_
 refine SW O O O O O (fun w l => CD JW O O ((l.2.2.1).1) (CJ t)) ?_
 refine yG ?_
 refine JF (o := ⟨some 25, _, _, _, _, _⟩) O O O O (BY QS O (kC n2 s2 m2 u2 z F n3 s3 m3 u3 y D _ (e4 E) (e3 E) u E.2.1 E.1 t) O E ?_)
 clear E
 intro w4 _ E
 refine ⟨E, ?_⟩
 refine yG ?_
 refine SW (v := .bool (!(decide ((z, F) = (y, D))))) O O O O O (fun w l => TR (b := (decide ((z, F) = (y, D)))) O O) ?_
 refine yG ?_
 refine AO (congrArg Value.bool (by rw [decide_eq_true he]; rfl)) ?_
 refine yG ?_
 exact ⟨_, (by rw [aa]; omega), (i + 1), _, _, _, _, _, _, _, _, _, _, _, _, _, _, _, _, _, O, zE, O, ⟨by omega, nH hJ f e he⟩⟩
end Go.Proofs.YtmppigbbkjepiaaGreatDoor
