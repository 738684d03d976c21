/- Package rational, up to its order. (Printed by g_rat1.py.) -/
import Derived.Test.YtndpjfhhigpbhaaGreatRatL
import Derived.Test.YtndpjfhhigpbhaaGreatApi2
import Derived.Test.YtndpjfhhigpbhaaGreatApi4
import Derived.Test.YtndpjfhhigpbhaaGreatDivMod
import Derived.Test.YtndpjfhhigpbhaaGreatGcd
import Derived.Test.YtndpjfhhigpbhaaGreatKitA
import Derived.Test.YtndpjfhhigpbhaaGreatFns
namespace Go.Proofs.YtndpjfhhigpbhaaGreat
open Go.RowKit W
theorem sgn_eq0 {z : Int} (h : z = 0) : (sgn z == 0) = true := by subst h; rfl
theorem sgn_ne0 {z : Int} (h : z ≠ 0) : (sgn z == 0) = false := by
  rcases sgn_vals z with ⟨_, e⟩ | ⟨g, _⟩ | ⟨_, e⟩
  · rw [e]; rfl
  · exact absurd g h
  · rw [e]; rfl
theorem sgn_lt0 {z : Int} (h : z < 0) : decide (sgn z < 0) = true := by rw [sgnQ_neg h]; rfl
theorem sgn_nlt0 {z : Int} (h : 0 < z) : decide (sgn z < 0) = false := by rw [sgnQ_pos h]; rfl
theorem sgn_eqm {z : Int} (h : z < 0) : (sgn z == -1) = true := by rw [sgnQ_neg h]; rfl
theorem sgn_nem {z : Int} (h : 0 < z) : (sgn z == -1) = false := by rw [sgnQ_pos h]; rfl
theorem Fits_floorQ {x : Rat} {k : Nat} (h : FitQ x k) : Fits x.floor k := by rw [← floorQ]; exact Fits_floor h
theorem Fits_gcd {x y : Int} {k : Nat} (hy : y ≠ 0) (h : Fits y k) : Fits ((Nat.gcd x.natAbs y.natAbs : Nat) : Int) k :=
  Fits_le (by rw [Int.natAbs_natCast]; exact Nat.le_of_dvd (by omega) (Nat.gcd_dvd_right _ _)) h
theorem Fits_of64 {n : Int} (h1 : -9223372036854775808 ≤ n) (h2 : n ≤ 9223372036854775807) : Fits n 4 := Fits_lt (by omega)
/-- The product of the first i of two numbers. -/
def pz (x y : Int) (i : Nat) : Int := if i = 0 then 1 else if i = 1 then x else x * y
theorem pzA0 {x y : Int} {i : Nat} (h : i = 0) (hx : x = 1) : pz x y i = pz x y (i + 1) := by subst h; simp [pz, hx]
theorem pzA1 {x y : Int} {i : Nat} (h : i = 1) (hy : y = 1) : pz x y i = pz x y (i + 1) := by subst h; simp [pz, hy]
theorem pzB0 {x y : Int} {i : Nat} (h : i = 0) : x = pz x y (i + 1) := by subst h; simp [pz]
theorem pzB1 {x y : Int} {i : Nat} (h : i = 1) (hx : pz x y i = 1) : y = pz x y (i + 1) := by subst h; simp [pz] at hx ⊢; simp [hx]
theorem pzC1 {x y : Int} {i : Nat} (h : i = 1) : pz x y i * y = pz x y (i + 1) := by subst h; simp [pz]
theorem pz_one {x y : Int} {i : Nat} (h : i = 0) : decide (pz x y i = 1) = true := by subst h; rfl
theorem pz_end {x y : Int} {i : Nat} (h : ¬ i < 2) : pz x y i = x * y := by unfold pz; rw [if_neg (by omega), if_neg (by omega)]
theorem Fits_pz {x y : Int} {i k : Nat} (h : i < 2) (hk : 1 ≤ k) (hx : Fits x k) : Fits (pz x y i) k := by
  unfold pz; split
  · exact Fits_1 hk
  · rw [if_pos (by omega)]; exact hx
set_option maxRecDepth 100000 in
set_option maxHeartbeats 8000000 in
theorem product_z (b : Nat) (nx : Bool) (sx : Value) (ny : Bool) (sy : Value) (x y : Int)  (w : World)  (h1 : IsI w (.agg #[.bool nx, sx]) x) (h2 : IsI w (.agg #[.bool ny, sy]) y) (hb : Bx w b 29 [.bool nx, sx, .bool ny, sy]) (Fx : Fits x 400000000) (Fy : Fits y 400000000) :
    Calls Tryz.prog 47 #[.slice (some ⟨b, 0, none⟩) 2 2] w (RetZ w (x * y)) := by
 have E := Env.start w
 have lb := Bx.lt hb
 replace E := ((E.i h1).i h2).x hb
 clear h1 h2 hb
 go_enter Tryz.func47, Tryz.ntmps47
 refine wp_seq ?_
 -- region 0
 refine RL ?_
 refine EF rfl (Oper.wp_alloc AgI rfl ?_)
 intro b1 w1 e1 z1 d1 x1
 have l1 : w.heap.size ≤ b1 := by rw [e1]; exact (e3 E).size
 replace E := E.below d1
 clear e1 z1 d1
 refine kw rfl ?_
 simp only [q2,q3]
 refine WN ?_
 change Code.wp _ _ _ _ _
 refine wp_seq ?_
 -- region 1
 refine RL ?_
 refine EF rfl (Oper.wp_callI fn_integer_Of rfl (Of_z 1 _ (by decide) (by decide)) rfl E ?_)
 clear E
 intro w2 n2 s2 d2 E
 replace x1 := x1.below d2
 clear d2
 refine kw rfl ?_
 simp only [q2,q3]
 refine EF rfl (Oper.wp_alloc AgI rfl ?_)
 intro b3 w3 e3 z3 d3 x3
 have l3_0 : b1 < b3 := by rw [e3]; exact Bx.lt (x1)
 replace E := E.below d3
 replace x1 := Bx.below x1 d3
 clear e3 z3 d3
 refine kw rfl ?_
 simp only [q2,q3]
 refine EF rfl (Oper.wp_store AgI rfl rfl rfl x3 rfl rfl (IsI.one (E.1)) ?_)
 intro w4 o4 y4
 replace E := (E.onl (x3.noW now0) ⟨trivial, okX (by omega), trivial, trivial, okW (by omega), trivial⟩ o4).b y4
 replace x1 := Bx.onl x1 (by omega) o4
 clear x3 o4 y4
 refine kn rfl ?_
 refine WN ?_
 change Code.wp _ _ _ _ _
 refine wp_seq ?_
 refine wp_seq ?_
 -- region 2
 refine RL ?_
 refine M rfl rfl rfl rfl rfl <| V (v := .int .i64 2) rfl rfl (run_lenI rfl rfl rfl) <| V (v := .int .i64 0) rfl rfl (run_move rfl rfl) <| ?_
 simp only [q2,q3]
 refine WN ?_
 change Code.wp _ _ _ _ _
 refine wp_block ?_
 replace E := E.b x1
 clear x1
 replace E := E.i (eqZ (show (1 : Int) = pz x y 0 from rfl) (E.2.2.1))
 refine wp_loop_ghost (fun mz a w' => ∃ (i : Nat) (nr : Bool) (sr : Value) (g5 g10 g11 g12 g13 g14 g15 g16 g17 g18 g19 g20 g21 g22 g23 : Value), a = ⟨#[.slice (some ⟨b, 0, none⟩) 2 2, undef, .pointer (some ⟨b1, 0, none⟩), .pointer (some ⟨b3, 0, none⟩), undef, g5, .agg #[.bool n2, s2], .slice (some ⟨b, 0, none⟩) 2 2, .int .i64 2, .int .i64 ((i : Nat) : Int), g10, g11, g12, g13, g14, g15, g16, g17, g18, g19, g20, g21, g22, g23, undef], []⟩ ∧ Env w' [fB b1 false (.slice none 0 0), fB b3 nr sr, fI (.agg #[.bool nr, sr]) (pz x y i), fX b (29) ([.bool nx, sx, .bool ny, sy]), fI (.agg #[.bool ny, sy]) y, fI (.agg #[.bool nx, sx]) x, fW w] ∧ mz = 2 - i ∧ i ≤ 2) (2) ⟨0, n2, s2, _, _, _, _, _, _, _, _, _, _, _, _, _, _, _, rfl, (Env.b (Env.b (Env.i (Env.x (Env.i (Env.i (Env.ww (Env.nil _) (e7 E)) (e6 E)) (e5 E)) (e4 E)) (E.1)) (E.2.2.1)) (E.2.1)), rfl, (by decide)⟩ ?_
 rintro m5 _ w5 ⟨i, nr, sr, g5, g10, g11, g12, g13, g14, g15, g16, g17, g18, g19, g20, g21, g22, g23, rfl, E, hm5, hI5⟩
 by_cases hi : i < 2
 case pos =>
  by_cases hj : i = 0
  case pos =>
   refine wp_seq ?_
   -- region 3
   refine RL ?_
   refine V rfl rfl (run_ltI (c := true) rfl rfl rfl (by rw [decide_eq_true_eq]; omega)) <| ?_
   simp only [q2,q3]
   refine WN ?_
   change Code.wp _ _ _ _ _
   refine wp_seq ?_
   refine wp_cond_true rfl ?_
   refine wp_skip ?_
   change Code.wp _ _ _ _ _
   refine wp_seq ?_
   refine wp_block ?_
   refine wp_seq ?_
   -- region 4
   refine RL ?_
   refine V (v := .pointer (some ⟨b, 0 + i * 2, none⟩)) rfl rfl (run_idx (j := i) rfl Tryz.underlying76 (by kernel_rfl) rfl rfl rfl (by omega)) <| V rfl rfl (run_loadAt rfl rfl (e3 E) (by rw [hj]; rfl) (by rw [hj]; rfl)) <| ?_
   simp only [q2,q3]
   refine EF rfl (Oper.wp_alloc AgI rfl ?_)
   intro b6 w6 e6 z6 d6 x6
   have l6_0 : b3 < b6 := by rw [e6]; exact Bx.lt (E.2.1)
   replace E := E.below d6
   clear e6 z6 d6
   refine kw rfl ?_
   simp only [q2,q3]
   refine EF rfl (Oper.wp_store AgI rfl rfl rfl x6 rfl rfl (IsI.one (e5 E)) ?_)
   intro w7 o7 y7
   replace E := (E.onl (x6.noW now0) ⟨okB (by omega), okB (by omega), trivial, okX (by omega), trivial, trivial, okW (by omega), trivial⟩ o7).b y7
   clear x6 o7 y7
   refine kn rfl ?_
   refine WN ?_
   change Code.wp _ _ _ _ _
   refine wp_block ?_
   refine wp_seq ?_
   by_cases h1 : x = 1
   case pos =>
    -- region 6
    refine RL ?_
    refine V rfl rfl (run_load_bx AgI rfl rfl (E.1) rfl) <| ?_
    simp only [q2,q3]
    refine EF rfl (Oper.wp_callB fn_rational_isOne rfl (isOne_z _ x _ (e6 E)) rfl E ?_)
    clear E
    intro w8 d8 E
    clear d8
    refine kw rfl ?_
    refine A rfl rfl rfl rfl rfl <| ?_
    simp only [q2,q3]
    refine WN ?_
    change Code.wp _ _ _ _ _
    refine wp_cond_true (congrArg Value.bool (decide_eq_true h1)) ?_
    refine wp_skip ?_
    change Code.wp _ _ _ _ _
    -- region 9
    refine RL ?_
    refine V (v := .int .i64 ((i + 1 : Nat) : Int)) rfl rfl (run_addI rfl rfl rfl (wrap_nat (by omega) (by omega))) <| M rfl rfl rfl rfl rfl <| ?_
    simp only [q2,q3]
    refine WN ?_
    replace E := E.i (eqZ (z' := pz x y (i + 1)) (pzA0 hj h1) (e3 E))
    exact ⟨_, (by rw [hm5]; omega), (i + 1), nr, sr, _, _, _, _, _, _, _, _, _, _, _, _, _, _, _, rfl, (Env.b (Env.b (Env.i (Env.x (Env.i (Env.i (Env.ww (Env.nil _) (e8 E)) (e7 E)) (e6 E)) (e5 E)) (E.1)) (e3 E)) (E.2.2.1)), rfl, (by omega)⟩
   case neg =>
    -- region 6
    refine RL ?_
    refine V rfl rfl (run_load_bx AgI rfl rfl (E.1) rfl) <| ?_
    simp only [q2,q3]
    refine EF rfl (Oper.wp_callB fn_rational_isOne rfl (isOne_z _ x _ (e6 E)) rfl E ?_)
    clear E
    intro w9 d9 E
    clear d9
    refine kw rfl ?_
    refine A rfl rfl rfl rfl rfl <| ?_
    simp only [q2,q3]
    refine WN ?_
    change Code.wp _ _ _ _ _
    refine wp_cond_false (congrArg Value.bool (decide_eq_false h1)) ?_
    refine wp_seq ?_
    -- region 7
    refine RL ?_
    refine V rfl rfl (run_load_bx AgI rfl rfl (E.2.2.1) rfl) <| ?_
    simp only [q2,q3]
    refine EF rfl (Oper.wp_callB fn_rational_isOne rfl (isOne_z _ (pz x y i) _ (e3 E)) rfl E ?_)
    clear E
    intro w10 d10 E
    clear d10
    refine kw rfl ?_
    refine A rfl rfl rfl rfl rfl <| ?_
    simp only [q2,q3]
    refine WN ?_
    change Code.wp _ _ _ _ _
    refine wp_cond_true (congrArg Value.bool (pz_one hj)) ?_
    -- region 8
    refine RL ?_
    refine V rfl rfl (run_load_bx AgI rfl rfl (E.1) rfl) <| ?_
    have x12 := E.2.2.1
    replace E := ((E.2.2.2).b (E.2.1)).b (E.1)
    simp only [q2,q3]
    refine EF rfl (Oper.wp_store AgI rfl rfl rfl x12 rfl rfl (IsI.one (e5 E)) ?_)
    intro w11 o11 y11
    replace E := (E.onl (x12.noW (IsI.now (E.2.2.1))) ⟨okB (by omega), okB (by omega), trivial, okX (by omega), trivial, trivial, okW (by omega), trivial⟩ o11).b y11
    clear x12 o11 y11
    refine kn rfl ?_
    refine WN ?_
    change Code.wp _ _ _ _ _
    -- region 9
    refine RL ?_
    refine V (v := .int .i64 ((i + 1 : Nat) : Int)) rfl rfl (run_addI rfl rfl rfl (wrap_nat (by omega) (by omega))) <| M rfl rfl rfl rfl rfl <| ?_
    simp only [q2,q3]
    refine WN ?_
    replace E := E.i (eqZ (z' := pz x y (i + 1)) (pzB0 hj) (e6 E))
    exact ⟨_, (by rw [hm5]; omega), (i + 1), nx, sx, _, _, _, _, _, _, _, _, _, _, _, _, _, _, _, rfl, (Env.b (Env.b (Env.i (Env.x (Env.i (Env.i (Env.ww (Env.nil _) (e8 E)) (e7 E)) (e6 E)) (e5 E)) (E.1)) (E.2.1)) (e3 E)), rfl, (by omega)⟩
  case neg =>
   replace hj : i = 1 := by omega
   refine wp_seq ?_
   -- region 3
   refine RL ?_
   refine V rfl rfl (run_ltI (c := true) rfl rfl rfl (by rw [decide_eq_true_eq]; omega)) <| ?_
   simp only [q2,q3]
   refine WN ?_
   change Code.wp _ _ _ _ _
   refine wp_seq ?_
   refine wp_cond_true rfl ?_
   refine wp_skip ?_
   change Code.wp _ _ _ _ _
   refine wp_seq ?_
   refine wp_block ?_
   refine wp_seq ?_
   -- region 4
   refine RL ?_
   refine V (v := .pointer (some ⟨b, 0 + i * 2, none⟩)) rfl rfl (run_idx (j := i) rfl Tryz.underlying76 (by kernel_rfl) rfl rfl rfl (by omega)) <| V rfl rfl (run_loadAt rfl rfl (e3 E) (by rw [hj]; rfl) (by rw [hj]; rfl)) <| ?_
   simp only [q2,q3]
   refine EF rfl (Oper.wp_alloc AgI rfl ?_)
   intro b13 w13 e13 z13 d13 x13
   have l13_0 : b3 < b13 := by rw [e13]; exact Bx.lt (E.2.1)
   replace E := E.below d13
   clear e13 z13 d13
   refine kw rfl ?_
   simp only [q2,q3]
   refine EF rfl (Oper.wp_store AgI rfl rfl rfl x13 rfl rfl (IsI.one (e4 E)) ?_)
   intro w14 o14 y14
   replace E := (E.onl (x13.noW now0) ⟨okB (by omega), okB (by omega), trivial, okX (by omega), trivial, trivial, okW (by omega), trivial⟩ o14).b y14
   clear x13 o14 y14
   refine kn rfl ?_
   refine WN ?_
   change Code.wp _ _ _ _ _
   refine wp_block ?_
   refine wp_seq ?_
   by_cases h1 : y = 1
   case pos =>
    -- region 6
    refine RL ?_
    refine V rfl rfl (run_load_bx AgI rfl rfl (E.1) rfl) <| ?_
    simp only [q2,q3]
    refine EF rfl (Oper.wp_callB fn_rational_isOne rfl (isOne_z _ y _ (e5 E)) rfl E ?_)
    clear E
    intro w15 d15 E
    clear d15
    refine kw rfl ?_
    refine A rfl rfl rfl rfl rfl <| ?_
    simp only [q2,q3]
    refine WN ?_
    change Code.wp _ _ _ _ _
    refine wp_cond_true (congrArg Value.bool (decide_eq_true h1)) ?_
    refine wp_skip ?_
    change Code.wp _ _ _ _ _
    -- region 9
    refine RL ?_
    refine V (v := .int .i64 ((i + 1 : Nat) : Int)) rfl rfl (run_addI rfl rfl rfl (wrap_nat (by omega) (by omega))) <| M rfl rfl rfl rfl rfl <| ?_
    simp only [q2,q3]
    refine WN ?_
    replace E := E.i (eqZ (z' := pz x y (i + 1)) (pzA1 hj h1) (e3 E))
    exact ⟨_, (by rw [hm5]; omega), (i + 1), nr, sr, _, _, _, _, _, _, _, _, _, _, _, _, _, _, _, rfl, (Env.b (Env.b (Env.i (Env.x (Env.i (Env.i (Env.ww (Env.nil _) (e8 E)) (e7 E)) (e6 E)) (e5 E)) (E.1)) (e3 E)) (E.2.2.1)), rfl, (by omega)⟩
   case neg =>
    -- region 6
    refine RL ?_
    refine V rfl rfl (run_load_bx AgI rfl rfl (E.1) rfl) <| ?_
    simp only [q2,q3]
    refine EF rfl (Oper.wp_callB fn_rational_isOne rfl (isOne_z _ y _ (e5 E)) rfl E ?_)
    clear E
    intro w16 d16 E
    clear d16
    refine kw rfl ?_
    refine A rfl rfl rfl rfl rfl <| ?_
    simp only [q2,q3]
    refine WN ?_
    change Code.wp _ _ _ _ _
    refine wp_cond_false (congrArg Value.bool (decide_eq_false h1)) ?_
    refine wp_seq ?_
    by_cases h2 : pz x y i = 1
    case pos =>
     -- region 7
     refine RL ?_
     refine V rfl rfl (run_load_bx AgI rfl rfl (E.2.2.1) rfl) <| ?_
     simp only [q2,q3]
     refine EF rfl (Oper.wp_callB fn_rational_isOne rfl (isOne_z _ (pz x y i) _ (e3 E)) rfl E ?_)
     clear E
     intro w17 d17 E
     clear d17
     refine kw rfl ?_
     refine A rfl rfl rfl rfl rfl <| ?_
     simp only [q2,q3]
     refine WN ?_
     change Code.wp _ _ _ _ _
     refine wp_cond_true (congrArg Value.bool (decide_eq_true h2)) ?_
     -- region 8
     refine RL ?_
     refine V rfl rfl (run_load_bx AgI rfl rfl (E.1) rfl) <| ?_
     have x19 := E.2.2.1
     replace E := ((E.2.2.2).b (E.2.1)).b (E.1)
     simp only [q2,q3]
     refine EF rfl (Oper.wp_store AgI rfl rfl rfl x19 rfl rfl (IsI.one (e4 E)) ?_)
     intro w18 o18 y18
     replace E := (E.onl (x19.noW (IsI.now (E.2.2.1))) ⟨okB (by omega), okB (by omega), trivial, okX (by omega), trivial, trivial, okW (by omega), trivial⟩ o18).b y18
     clear x19 o18 y18
     refine kn rfl ?_
     refine WN ?_
     change Code.wp _ _ _ _ _
     -- region 9
     refine RL ?_
     refine V (v := .int .i64 ((i + 1 : Nat) : Int)) rfl rfl (run_addI rfl rfl rfl (wrap_nat (by omega) (by omega))) <| M rfl rfl rfl rfl rfl <| ?_
     simp only [q2,q3]
     refine WN ?_
     replace E := E.i (eqZ (z' := pz x y (i + 1)) (pzB1 hj h2) (e5 E))
     exact ⟨_, (by rw [hm5]; omega), (i + 1), ny, sy, _, _, _, _, _, _, _, _, _, _, _, _, _, _, _, rfl, (Env.b (Env.b (Env.i (Env.x (Env.i (Env.i (Env.ww (Env.nil _) (e8 E)) (e7 E)) (e6 E)) (e5 E)) (E.1)) (E.2.1)) (e3 E)), rfl, (by omega)⟩
    case neg =>
     -- region 7
     refine RL ?_
     refine V rfl rfl (run_load_bx AgI rfl rfl (E.2.2.1) rfl) <| ?_
     simp only [q2,q3]
     refine EF rfl (Oper.wp_callB fn_rational_isOne rfl (isOne_z _ (pz x y i) _ (e3 E)) rfl E ?_)
     clear E
     intro w20 d20 E
     clear d20
     refine kw rfl ?_
     refine A rfl rfl rfl rfl rfl <| ?_
     simp only [q2,q3]
     refine WN ?_
     change Code.wp _ _ _ _ _
     refine wp_cond_false (congrArg Value.bool (decide_eq_false h2)) ?_
     -- region 5
     refine RL ?_
     refine V rfl rfl (run_load_bx AgI rfl rfl (E.2.2.1) rfl) <| V rfl rfl (run_load_bx AgI rfl rfl (E.1) rfl) <| ?_
     simp only [q2,q3]
     refine EF rfl (Oper.wp_callI fn_integer_Mul rfl (Mul_z _ _ (pz x y i) y _ (e3 E) (e5 E) (Fits.mono (Fits_pz hi (by decide) Fx) (by decide)) (Fits.mono Fy (by decide))) rfl E ?_)
     clear E
     intro w22 n22 s22 d22 E
     clear d22
     refine kw rfl ?_
     have F21 : Fits ((pz x y i) * y) 800000000 := Fits_mul (Fits_pz hi (by decide) Fx) Fy
     have x24 := e3 E
     replace E := (((E.2.2.2.2).b (E.2.2.1)).b (E.2.1)).i (E.1)
     simp only [q2,q3]
     refine EF rfl (Oper.wp_store AgI rfl rfl rfl x24 rfl rfl (IsI.one (E.1)) ?_)
     intro w23 o23 y23
     replace E := (E.onl (x24.noW (IsI.now (e3 E))) ⟨trivial, okB (by omega), okB (by omega), trivial, okX (by omega), trivial, trivial, okW (by omega), trivial⟩ o23).b y23
     clear x24 o23 y23
     refine kn rfl ?_
     refine WN ?_
     change Code.wp _ _ _ _ _
     -- region 9
     refine RL ?_
     refine V (v := .int .i64 ((i + 1 : Nat) : Int)) rfl rfl (run_addI rfl rfl rfl (wrap_nat (by omega) (by omega))) <| M rfl rfl rfl rfl rfl <| ?_
     simp only [q2,q3]
     refine WN ?_
     replace E := E.i (eqZ (z' := pz x y (i + 1)) (pzC1 hj) (E.2.1))
     exact ⟨_, (by rw [hm5]; omega), (i + 1), n22, s22, _, _, _, _, _, _, _, _, _, _, _, _, _, _, _, rfl, (Env.b (Env.b (Env.i (Env.x (Env.i (Env.i (Env.ww (Env.nil _) (e9 E)) (e8 E)) (e7 E)) (e6 E)) (E.1)) (E.2.1)) (e4 E)), rfl, (by omega)⟩
 case neg =>
  refine wp_seq ?_
  -- region 3
  refine RL ?_
  refine V rfl rfl (run_ltI (c := false) rfl rfl rfl (by rw [decide_eq_false_iff_not]; omega)) <| ?_
  simp only [q2,q3]
  refine WN ?_
  change Code.wp _ _ _ _ _
  refine wp_seq ?_
  refine wp_cond_false rfl ?_
  refine wp_exit ?_
  change Code.wp _ _ _ _ _
  refine wp_seq ?_
  -- region 10
  refine RL ?_
  refine V rfl rfl (run_load_bx AgI rfl rfl (E.2.1) rfl) <| ?_
  have x26 := E.1
  replace E := E.2
  simp only [q2,q3]
  refine EF rfl (Oper.wp_store AgI rfl rfl rfl x26 rfl rfl (IsI.one (E.2.1)) ?_)
  intro w25 o25 y25
  replace E := (E.onl (x26.noW now0) ⟨okB (by omega), trivial, okX (by omega), trivial, trivial, okW (by omega), trivial⟩ o25).b y25
  clear x26 o25 y25
  refine kn rfl ?_
  refine WN ?_
  change Code.wp _ _ _ _ _
  refine wp_ret ?_
  have r27 := res_box AgI (E.1) rfl
  exact bodyPost_ret (v := .agg #[.bool nr, sr]) (by simp [results, Tryz.results47, asAddr, r27]) rfl ⟨_, rfl, eqZ (pz_end hi) (E.2.2.1), e6 E⟩
set_option maxRecDepth 100000 in
set_option maxHeartbeats 8000000 in
theorem lowest_z  (va : Value) (n : Int) (vb : Value) (d : Int) (w : World) (hva : IsI w va n) (hvb : IsI w vb d) (hd : 0 < d) (Fn : Fits n 900000000) (Fd : Fits d 900000000) :
    Calls Tryz.prog 48 #[va, vb] w (RetP w (Rat.divInt n d).num (((Rat.divInt n d).den : Nat) : Int)) := by
 have E := Env.start w
 obtain ⟨nva, sva, rfl, _, _⟩ := hva.sh
 replace E := E.i hva
 clear hva
 obtain ⟨nvb, svb, rfl, _, _⟩ := hvb.sh
 replace E := E.i hvb
 clear hvb
 go_enter Tryz.func48, Tryz.ntmps48
 refine wp_seq ?_
 -- region 0
 refine RL ?_
 refine EF rfl (Oper.wp_box rfl rfl ?_)
 intro b1 w1 e1 z1 d1 x1
 have l1 : w.heap.size ≤ b1 := by rw [e1]; exact (E.2.2.1).size
 replace E := E.below d1
 clear e1 z1 d1
 replace E := E.b x1
 clear x1
 refine kw rfl ?_
 simp only [q2,q3]
 refine EF rfl (Oper.wp_box rfl rfl ?_)
 intro b2 w2 e2 z2 d2 x2
 have l2_0 : b1 < b2 := by rw [e2]; exact Bx.lt (E.1)
 replace E := E.below d2
 clear e2 z2 d2
 replace E := E.b x2
 clear x2
 refine kw rfl ?_
 simp only [q2,q3]
 refine EF rfl (Oper.wp_alloc AgR rfl ?_)
 intro b3 w3 e3 z3 d3 x3
 have l3_0 : b2 < b3 := by rw [e3]; exact Bx.lt (E.1)
 replace E := E.below d3
 clear e3 z3 d3
 refine kw rfl ?_
 simp only [q2,q3]
 refine WN ?_
 change Code.wp _ _ _ _ _
 refine wp_seq ?_
 refine wp_seq ?_
 by_cases h1 : d = 1
 case pos =>
  -- region 1
  refine RL ?_
  refine V rfl rfl (run_load_bx AgI rfl rfl (E.1) rfl) <| ?_
  simp only [q2,q3]
  refine EF rfl (Oper.wp_callB fn_rational_isOne rfl (isOne_z _ d _ (E.2.2.1)) rfl E ?_)
  clear E
  intro w4 d4 E
  replace x3 := x3.below d4
  clear d4
  refine kw rfl ?_
  simp only [q2,q3]
  refine WN ?_
  change Code.wp _ _ _ _ _
  refine wp_cond_true (congrArg Value.bool (decide_eq_true h1)) ?_
  refine wp_seq ?_
  -- region 2
  refine RL ?_
  refine V rfl rfl (run_load_bx AgI rfl rfl (E.2.1) rfl) <| V rfl rfl (run_load_bx AgI rfl rfl (E.1) rfl) <| V (v := .agg #[.bool nva, sva, .bool nvb, svb]) rfl rfl (run_buildR rfl rfl rfl) <| ?_
  simp only [q2,q3]
  refine EF rfl (Oper.wp_store AgR rfl rfl rfl x3 rfl rfl (one4 (IsI.one (e3 E)) (IsI.one (E.2.2.1))) ?_)
  intro w5 o5 y5
  replace E := (E.onl (x3.noW (now4 now0 now0)) ⟨okB (by omega), okB (by omega), trivial, trivial, okW (by omega), trivial⟩ o5).x y5
  clear x3 o5 y5
  refine kn rfl ?_
  refine WN ?_
  change Code.wp _ _ _ _ _
  refine wp_ret ?_
  have r6 := res_box AgR (E.1) rfl
  exact bodyPost_ret (v := .agg #[.bool nva, sva, .bool nvb, svb]) (by simp [results, Tryz.results48, asAddr, r6]) rfl ⟨_, _, _, _, rfl, eqZ ((low_den1 h1).1.symm) (e4 E), eqZ ((low_den1 h1).2.symm) (e3 E), e5 E⟩
 case neg =>
  -- region 1
  refine RL ?_
  refine V rfl rfl (run_load_bx AgI rfl rfl (E.1) rfl) <| ?_
  simp only [q2,q3]
  refine EF rfl (Oper.wp_callB fn_rational_isOne rfl (isOne_z _ d _ (E.2.2.1)) rfl E ?_)
  clear E
  intro w7 d7 E
  replace x3 := x3.below d7
  clear d7
  refine kw rfl ?_
  simp only [q2,q3]
  refine WN ?_
  change Code.wp _ _ _ _ _
  refine wp_cond_false (congrArg Value.bool (decide_eq_false h1)) ?_
  refine wp_skip ?_
  change Code.wp _ _ _ _ _
  refine wp_seq ?_
  -- region 3
  refine RL ?_
  refine V rfl rfl (run_load_bx AgI rfl rfl (E.2.1) rfl) <| V rfl rfl (run_load_bx AgI rfl rfl (E.1) rfl) <| ?_
  simp only [q2,q3]
  refine EF rfl (Oper.wp_callI fn_integer_Gcd rfl (Gcd_z _ _ n d _ (e3 E) (E.2.2.1) (Fits.mono Fn (by decide)) (Fits.mono Fd (by decide))) rfl E ?_)
  clear E
  intro w9 n9 s9 d9 E
  replace x3 := x3.below d9
  clear d9
  refine kw rfl ?_
  have F8 : Fits ((Nat.gcd n.natAbs d.natAbs : Nat) : Int) 900000000 := Fits_gcd (by omega) Fd
  simp only [q2,q3]
  refine EF rfl (Oper.wp_alloc AgI rfl ?_)
  intro b10 w10 e10 z10 d10 x10
  have l10_0 : b3 < b10 := by rw [e10]; exact Bx.lt (x3)
  replace E := E.below d10
  replace x3 := Bx.below x3 d10
  clear e10 z10 d10
  refine kw rfl ?_
  simp only [q2,q3]
  refine EF rfl (Oper.wp_store AgI rfl rfl rfl x10 rfl rfl (IsI.one (E.1)) ?_)
  intro w11 o11 y11
  replace E := (E.onl (x10.noW now0) ⟨trivial, okB (by omega), okB (by omega), trivial, trivial, okW (by omega), trivial⟩ o11).b y11
  replace x3 := Bx.onl x3 (by omega) o11
  clear x10 o11 y11
  refine kn rfl ?_
  refine WN ?_
  change Code.wp _ _ _ _ _
  refine wp_seq ?_
  refine wp_seq ?_
  by_cases h2 : ((Nat.gcd n.natAbs d.natAbs : Nat) : Int) = 1
  case pos =>
   -- region 4
   refine RL ?_
   refine V rfl rfl (run_load_bx AgI rfl rfl (E.1) rfl) <| ?_
   simp only [q2,q3]
   refine EF rfl (Oper.wp_callB fn_rational_isOne rfl (isOne_z _ ((Nat.gcd n.natAbs d.natAbs : Nat) : Int) _ (E.2.1)) rfl E ?_)
   clear E
   intro w12 d12 E
   replace x3 := x3.below d12
   clear d12
   refine kw rfl ?_
   simp only [q2,q3]
   refine WN ?_
   change Code.wp _ _ _ _ _
   refine wp_cond_true (congrArg Value.bool (decide_eq_true h2)) ?_
   refine wp_seq ?_
   -- region 5
   refine RL ?_
   refine V rfl rfl (run_load_bx AgI rfl rfl (e3 E) rfl) <| V rfl rfl (run_load_bx AgI rfl rfl (E.2.2.1) rfl) <| V (v := .agg #[.bool nva, sva, .bool nvb, svb]) rfl rfl (run_buildR rfl rfl rfl) <| ?_
   simp only [q2,q3]
   refine EF rfl (Oper.wp_store AgR rfl rfl rfl x3 rfl rfl (one4 (IsI.one (e5 E)) (IsI.one (e4 E))) ?_)
   intro w13 o13 y13
   replace E := (E.onl (x3.noW (now4 now0 now0)) ⟨okB (by omega), trivial, okB (by omega), okB (by omega), trivial, trivial, okW (by omega), trivial⟩ o13).x y13
   clear x3 o13 y13
   refine kn rfl ?_
   refine WN ?_
   change Code.wp _ _ _ _ _
   refine wp_ret ?_
   have r14 := res_box AgR (E.1) rfl
   exact bodyPost_ret (v := .agg #[.bool nva, sva, .bool nvb, svb]) (by simp [results, Tryz.results48, asAddr, r14]) rfl ⟨_, _, _, _, rfl, eqZ ((low_one hd h2).1.symm) (e6 E), eqZ ((low_one hd h2).2.symm) (e5 E), e7 E⟩
  case neg =>
   -- region 4
   refine RL ?_
   refine V rfl rfl (run_load_bx AgI rfl rfl (E.1) rfl) <| ?_
   simp only [q2,q3]
   refine EF rfl (Oper.wp_callB fn_rational_isOne rfl (isOne_z _ ((Nat.gcd n.natAbs d.natAbs : Nat) : Int) _ (E.2.1)) rfl E ?_)
   clear E
   intro w15 d15 E
   replace x3 := x3.below d15
   clear d15
   refine kw rfl ?_
   simp only [q2,q3]
   refine WN ?_
   change Code.wp _ _ _ _ _
   refine wp_cond_false (congrArg Value.bool (decide_eq_false h2)) ?_
   refine wp_skip ?_
   change Code.wp _ _ _ _ _
   refine wp_seq ?_
   -- region 6
   refine RL ?_
   refine V rfl rfl (run_load_bx AgI rfl rfl (e3 E) rfl) <| V rfl rfl (run_load_bx AgI rfl rfl (E.1) rfl) <| ?_
   simp only [q2,q3]
   refine EF rfl (Oper.wp_callIIE fn_integer_DivMod rfl (DivMod_z _ _ n ((Nat.gcd n.natAbs d.natAbs : Nat) : Int) _ (e5 E) (E.2.1) ((low_gpos (n := n) (d := d) (by omega))) (Fits.mono Fn (by decide)) (Fits.mono F8 (by decide))) rfl E ?_)
   clear E
   intro w17 n17 s17 m17 t17 d17 E
   replace x3 := x3.below d17
   clear d17
   refine kw rfl ?_
   have F16 : Fits (n / ((Nat.gcd n.natAbs d.natAbs : Nat) : Int)) 900000000 := Fits_div (y := ((Nat.gcd n.natAbs d.natAbs : Nat) : Int)) Fn
   refine M rfl rfl rfl rfl rfl <| V rfl rfl (run_extract (vs := [.agg #[.bool n17, s17], .agg #[.bool m17, t17], .int .i64 0]) rfl rfl rfl) <| V rfl rfl (run_extract (vs := [.agg #[.bool n17, s17], .agg #[.bool m17, t17], .int .i64 0]) rfl rfl rfl) <| V rfl rfl (run_extract (vs := [.agg #[.bool n17, s17], .agg #[.bool m17, t17], .int .i64 0]) rfl rfl rfl) <| ?_
   have x19 := e5 E
   replace E := (((((E.2.2.2.2.2.2).b (e4 E)).i (e3 E)).b (E.2.2.1)).i (E.2.1)).i (E.1)
   simp only [q2,q3]
   refine EF rfl (Oper.wp_store AgI rfl rfl rfl x19 rfl rfl (IsI.one (E.2.1)) ?_)
   intro w18 o18 y18
   replace E := (E.onl (x19.noW (IsI.now (e6 E))) ⟨trivial, trivial, okB (by omega), trivial, okB (by omega), trivial, trivial, okW (by omega), trivial⟩ o18).b y18
   replace x3 := Bx.onl x3 (by omega) o18
   clear x19 o18 y18
   refine kn rfl ?_
   refine WN ?_
   change Code.wp _ _ _ _ _
   refine wp_seq ?_
   -- region 7
   refine RL ?_
   refine V rfl rfl (run_load_bx AgI rfl rfl (e5 E) rfl) <| V rfl rfl (run_load_bx AgI rfl rfl (e3 E) rfl) <| ?_
   simp only [q2,q3]
   refine EF rfl (Oper.wp_callIIE fn_integer_DivMod rfl (DivMod_z _ _ d ((Nat.gcd n.natAbs d.natAbs : Nat) : Int) _ (e6 E) (e4 E) ((low_gpos (n := n) (d := d) (by omega))) (Fits.mono Fd (by decide)) (Fits.mono F8 (by decide))) rfl E ?_)
   clear E
   intro w21 n21 s21 m21 t21 d21 E
   replace x3 := x3.below d21
   clear d21
   refine kw rfl ?_
   have F20 : Fits (d / ((Nat.gcd n.natAbs d.natAbs : Nat) : Int)) 900000000 := Fits_div (y := ((Nat.gcd n.natAbs d.natAbs : Nat) : Int)) Fd
   refine M rfl rfl rfl rfl rfl <| V rfl rfl (run_extract (vs := [.agg #[.bool n21, s21], .agg #[.bool m21, t21], .int .i64 0]) rfl rfl rfl) <| V rfl rfl (run_extract (vs := [.agg #[.bool n21, s21], .agg #[.bool m21, t21], .int .i64 0]) rfl rfl rfl) <| V rfl rfl (run_extract (vs := [.agg #[.bool n21, s21], .agg #[.bool m21, t21], .int .i64 0]) rfl rfl rfl) <| ?_
   have x23 := e7 E
   replace E := (((((((E.2.2.2.2.2.2.2.2).i (e6 E)).b (e5 E)).i (e4 E)).i (e3 E)).b (E.2.2.1)).i (E.2.1)).i (E.1)
   simp only [q2,q3]
   refine EF rfl (Oper.wp_store AgI rfl rfl rfl x23 rfl rfl (IsI.one (E.2.1)) ?_)
   intro w22 o22 y22
   replace E := (E.onl (x23.noW (IsI.now (e7 E))) ⟨trivial, trivial, okB (by omega), trivial, trivial, okB (by omega), trivial, trivial, trivial, okW (by omega), trivial⟩ o22).b y22
   replace x3 := Bx.onl x3 (by omega) o22
   clear x23 o22 y22
   refine kn rfl ?_
   refine WN ?_
   change Code.wp _ _ _ _ _
   refine wp_seq ?_
   -- region 8
   refine RL ?_
   refine V rfl rfl (run_load_bx AgI rfl rfl (e3 E) rfl) <| V rfl rfl (run_load_bx AgI rfl rfl (E.1) rfl) <| V (v := .agg #[.bool n17, s17, .bool n21, s21]) rfl rfl (run_buildR rfl rfl rfl) <| ?_
   simp only [q2,q3]
   refine EF rfl (Oper.wp_store AgR rfl rfl rfl x3 rfl rfl (one4 (IsI.one (e5 E)) (IsI.one (E.2.2.1))) ?_)
   intro w24 o24 y24
   replace E := (E.onl (x3.noW (now4 now0 now0)) ⟨okB (by omega), trivial, trivial, okB (by omega), trivial, trivial, okB (by omega), trivial, trivial, trivial, okW (by omega), trivial⟩ o24).x y24
   clear x3 o24 y24
   refine kn rfl ?_
   refine WN ?_
   change Code.wp _ _ _ _ _
   refine wp_ret ?_
   have r25 := res_box AgR (E.1) rfl
   exact bodyPost_ret (v := .agg #[.bool n17, s17, .bool n21, s21]) (by simp [results, Tryz.results48, asAddr, r25]) rfl ⟨_, _, _, _, rfl, eqZ ((low_num hd).symm) (e6 E), eqZ ((low_den hd).symm) (e3 E), e11 E⟩
set_option maxRecDepth 100000 in
set_option maxHeartbeats 8000000 in
theorem New_zero  (va : Value) (n : Int) (vb : Value) (d : Int) (w : World) (hva : IsI w va n) (hvb : IsI w vb d) (hd : d = 0) :
    Calls Tryz.prog 35 #[va, vb] w (RetPE w 0 0 10) := by
 have E := Env.start w
 obtain ⟨nva, sva, rfl, _, _⟩ := hva.sh
 replace E := E.i hva
 clear hva
 obtain ⟨nvb, svb, rfl, _, _⟩ := hvb.sh
 replace E := E.i hvb
 clear hvb
 go_enter Tryz.func35, Tryz.ntmps35
 refine wp_seq ?_
 -- region 0
 refine RL ?_
 refine EF rfl (Oper.wp_box rfl rfl ?_)
 intro b1 w1 e1 z1 d1 x1
 have l1 : w.heap.size ≤ b1 := by rw [e1]; exact (E.2.2.1).size
 replace E := E.below d1
 clear e1 z1 d1
 replace E := E.b x1
 clear x1
 refine kw rfl ?_
 simp only [q2,q3]
 refine EF rfl (Oper.wp_box rfl rfl ?_)
 intro b2 w2 e2 z2 d2 x2
 have l2_0 : b1 < b2 := by rw [e2]; exact Bx.lt (E.1)
 replace E := E.below d2
 clear e2 z2 d2
 replace E := E.b x2
 clear x2
 refine kw rfl ?_
 simp only [q2,q3]
 refine EF rfl (Oper.wp_alloc AgR rfl ?_)
 intro b3 w3 e3 z3 d3 x3
 have l3_0 : b2 < b3 := by rw [e3]; exact Bx.lt (E.1)
 replace E := E.below d3
 clear e3 z3 d3
 refine kw rfl ?_
 refine AC rfl rfl rfl rfl <| ?_
 simp only [q2,q3]
 refine WN ?_
 change Code.wp _ _ _ _ _
 refine wp_seq ?_
 refine wp_seq ?_
 -- region 1
 refine RL ?_
 refine V rfl rfl (run_load_bx AgI rfl rfl (E.1) rfl) <| ?_
 simp only [q2,q3]
 refine EF rfl (Oper.wp_callN fn_integer_Sign rfl (Sign_z _ d _ (E.2.2.1)) rfl E ?_)
 clear E
 intro w4 d4 E
 replace x3 := x3.below d4
 clear d4
 refine kw rfl ?_
 refine V rfl rfl (run_eqI (c := true) rfl rfl rfl (sgn_eq0 hd)) <| ?_
 simp only [q2,q3]
 refine WN ?_
 change Code.wp _ _ _ _ _
 refine wp_cond_true rfl ?_
 refine wp_seq ?_
 -- region 2
 refine RL ?_
 refine V (v := .agg #[.bool false, .slice none 0 0, .bool false, .slice none 0 0]) rfl rfl (run_buildR0 rfl) <| ?_
 simp only [q2,q3]
 refine EF rfl (Oper.wp_store AgR rfl rfl rfl x3 rfl rfl (one4 one0 one0) ?_)
 intro w5 o5 y5
 replace E := (E.onl (x3.noW (now4 now0 now0)) ⟨okB (by omega), okB (by omega), trivial, trivial, okW (by omega), trivial⟩ o5).x y5
 clear x3 o5 y5
 refine kn rfl ?_
 refine AC rfl rfl rfl rfl <| ?_
 simp only [q2,q3]
 refine WN ?_
 change Code.wp _ _ _ _ _
 refine wp_ret ?_
 have r6 := res_box AgR (E.1) rfl
 exact bodyPost_ret (v := .tuple #[.agg #[.bool false, .slice none 0 0, .bool false, .slice none 0 0], .int .i64 10]) (by simp [results, Tryz.results35, asAddr, r6]) rfl ⟨_, _, _, _, rfl, eqZ rfl (zero_i _), eqZ rfl (zero_i _), e5 E⟩
set_option maxRecDepth 100000 in
set_option maxHeartbeats 8000000 in
theorem New_neg  (va : Value) (n : Int) (vb : Value) (d : Int) (w : World) (hva : IsI w va n) (hvb : IsI w vb d) (hd : d < 0) (Fn : Fits n 900000000) (Fd : Fits d 900000000) :
    Calls Tryz.prog 35 #[va, vb] w (RetPE w (Rat.divInt n d).num (((Rat.divInt n d).den : Nat) : Int) 0) := by
 have E := Env.start w
 obtain ⟨nva, sva, rfl, _, _⟩ := hva.sh
 replace E := E.i hva
 clear hva
 obtain ⟨nvb, svb, rfl, _, _⟩ := hvb.sh
 replace E := E.i hvb
 clear hvb
 go_enter Tryz.func35, Tryz.ntmps35
 refine wp_seq ?_
 -- region 0
 refine RL ?_
 refine EF rfl (Oper.wp_box rfl rfl ?_)
 intro b1 w1 e1 z1 d1 x1
 have l1 : w.heap.size ≤ b1 := by rw [e1]; exact (E.2.2.1).size
 replace E := E.below d1
 clear e1 z1 d1
 replace E := E.b x1
 clear x1
 refine kw rfl ?_
 simp only [q2,q3]
 refine EF rfl (Oper.wp_box rfl rfl ?_)
 intro b2 w2 e2 z2 d2 x2
 have l2_0 : b1 < b2 := by rw [e2]; exact Bx.lt (E.1)
 replace E := E.below d2
 clear e2 z2 d2
 replace E := E.b x2
 clear x2
 refine kw rfl ?_
 simp only [q2,q3]
 refine EF rfl (Oper.wp_alloc AgR rfl ?_)
 intro b3 w3 e3 z3 d3 x3
 have l3_0 : b2 < b3 := by rw [e3]; exact Bx.lt (E.1)
 replace E := E.below d3
 clear e3 z3 d3
 refine kw rfl ?_
 refine AC rfl rfl rfl rfl <| ?_
 simp only [q2,q3]
 refine WN ?_
 change Code.wp _ _ _ _ _
 refine wp_seq ?_
 refine wp_seq ?_
 -- region 1
 refine RL ?_
 refine V rfl rfl (run_load_bx AgI rfl rfl (E.1) rfl) <| ?_
 simp only [q2,q3]
 refine EF rfl (Oper.wp_callN fn_integer_Sign rfl (Sign_z _ d _ (E.2.2.1)) rfl E ?_)
 clear E
 intro w4 d4 E
 replace x3 := x3.below d4
 clear d4
 refine kw rfl ?_
 refine V rfl rfl (run_eqI (c := false) rfl rfl rfl (sgn_ne0 (by omega))) <| ?_
 simp only [q2,q3]
 refine WN ?_
 change Code.wp _ _ _ _ _
 refine wp_cond_false rfl ?_
 refine wp_skip ?_
 change Code.wp _ _ _ _ _
 refine wp_seq ?_
 refine wp_seq ?_
 -- region 3
 refine RL ?_
 refine V rfl rfl (run_load_bx AgI rfl rfl (E.1) rfl) <| ?_
 simp only [q2,q3]
 refine EF rfl (Oper.wp_callN fn_integer_Sign rfl (Sign_z _ d _ (E.2.2.1)) rfl E ?_)
 clear E
 intro w5 d5 E
 replace x3 := x3.below d5
 clear d5
 refine kw rfl ?_
 refine V rfl rfl (run_ltI (c := true) rfl rfl rfl (sgn_lt0 hd)) <| ?_
 simp only [q2,q3]
 refine WN ?_
 change Code.wp _ _ _ _ _
 refine wp_cond_true rfl ?_
 refine wp_seq ?_
 -- region 4
 refine wp_schedE E ([0, 2, 1, 3, 4, 5, 6]) (by kernel_rfl) (by kernel_rfl) (by kernel_rfl) (by kernel_rfl) (by intro d v c a w h; cases d <;> exact h) ?_
 replace E := E.drew
 replace x3 := Bx.drew x3
 refine SW rfl rfl rfl rfl rfl (fun w hS => run_load_bx AgI rfl rfl (hS.2.1) rfl) <| SW rfl rfl rfl rfl rfl (fun w hS => run_load_bx AgI rfl rfl (hS.1) rfl) <| ?_
 simp only [q2,q3]
 refine S1a (o := ⟨some 14, _, _, _, _, _⟩) rfl rfl rfl rfl (Oper.wp_callI fn_integer_Neg rfl (Neg_z _ n _ (e3 E) (Fits.mono Fn (by decide))) rfl E ?_)
 clear E
 intro w7 n7 s7 d7 E
 replace x3 := x3.below d7
 clear d7
 refine ⟨E.2, ?_⟩
 simp only [Act.put,q1,q2,q3]
 have F6 : Fits (-n) 900000000 := Fits_neg Fn
 refine S1a (o := ⟨some 16, _, _, _, _, _⟩) rfl rfl rfl rfl (Oper.wp_callI fn_integer_Neg rfl (Neg_z _ d _ (e3 E) (Fits.mono Fd (by decide))) rfl E ?_)
 clear E
 intro w9 n9 s9 d9 E
 replace x3 := x3.below d9
 clear d9
 refine ⟨E.2.2, ?_⟩
 simp only [Act.put,q1,q2,q3]
 have F8 : Fits (-d) 900000000 := Fits_neg Fd
 refine S1a (o := ⟨some 17, _, _, _, _, _⟩) rfl rfl rfl rfl (Oper.wp_callP fn_rational_lowest rfl (lowest_z _ (-n) _ (-d) _ (E.2.1) (E.1) (by omega) (Fits.mono F6 (by decide)) (Fits.mono F8 (by decide))) rfl E ?_)
 clear E
 intro w11 n11 s11 m11 t11 d11 E
 replace x3 := x3.below d11
 clear d11
 refine ⟨E.2.2.2.2, ?_⟩
 simp only [Act.put,q1,q2,q3]
 have F10 : FitQ (Rat.divInt (-n) (-d)) 900000000 := FitQ_low (k := 900000000) (Int.ne_of_gt (by omega)) (Fits.mono F6 (by decide)) (Fits.mono F8 (by decide))
 refine S1a (o := ⟨none, _, _, _, _, _⟩) rfl rfl rfl rfl (Oper.wp_store AgR rfl rfl rfl x3 rfl rfl (one4 (IsI.one (E.2.1)) (IsI.one (E.1))) ?_)
 intro w12 o12 y12
 replace E := (E.onl (x3.noW (now4 now0 now0)) ⟨trivial, trivial, trivial, trivial, okB (by omega), okB (by omega), trivial, trivial, okW (by omega), trivial⟩ o12).x y12
 clear x3 o12 y12
 refine ⟨E.2.2.2.2.2, ?_⟩
 simp only [Act.put]
 refine SAC rfl rfl rfl rfl rfl rfl rfl <| ?_
 simp only [q2,q3]
 refine SN ?_
 change Code.wp _ _ _ _ _
 refine wp_ret ?_
 have r13 := res_box AgR (E.1) rfl
 exact bodyPost_ret (v := .tuple #[.agg #[.bool n11, s11, .bool m11, t11], .int .i64 0]) (by simp [results, Tryz.results35, asAddr, r13]) rfl ⟨_, _, _, _, rfl, eqZ (congrArg Rat.num (Rat.neg_divInt_neg n d)) (E.2.2.1), eqZ (congrArg (fun z => ((Rat.den z : Nat) : Int)) (Rat.neg_divInt_neg n d)) (E.2.1), e9 E⟩
set_option maxRecDepth 100000 in
set_option maxHeartbeats 8000000 in
theorem New_pos  (va : Value) (n : Int) (vb : Value) (d : Int) (w : World) (hva : IsI w va n) (hvb : IsI w vb d) (hd : 0 < d) (Fn : Fits n 900000000) (Fd : Fits d 900000000) :
    Calls Tryz.prog 35 #[va, vb] w (RetPE w (Rat.divInt n d).num (((Rat.divInt n d).den : Nat) : Int) 0) := by
 have E := Env.start w
 obtain ⟨nva, sva, rfl, _, _⟩ := hva.sh
 replace E := E.i hva
 clear hva
 obtain ⟨nvb, svb, rfl, _, _⟩ := hvb.sh
 replace E := E.i hvb
 clear hvb
 go_enter Tryz.func35, Tryz.ntmps35
 refine wp_seq ?_
 -- region 0
 refine RL ?_
 refine EF rfl (Oper.wp_box rfl rfl ?_)
 intro b1 w1 e1 z1 d1 x1
 have l1 : w.heap.size ≤ b1 := by rw [e1]; exact (E.2.2.1).size
 replace E := E.below d1
 clear e1 z1 d1
 replace E := E.b x1
 clear x1
 refine kw rfl ?_
 simp only [q2,q3]
 refine EF rfl (Oper.wp_box rfl rfl ?_)
 intro b2 w2 e2 z2 d2 x2
 have l2_0 : b1 < b2 := by rw [e2]; exact Bx.lt (E.1)
 replace E := E.below d2
 clear e2 z2 d2
 replace E := E.b x2
 clear x2
 refine kw rfl ?_
 simp only [q2,q3]
 refine EF rfl (Oper.wp_alloc AgR rfl ?_)
 intro b3 w3 e3 z3 d3 x3
 have l3_0 : b2 < b3 := by rw [e3]; exact Bx.lt (E.1)
 replace E := E.below d3
 clear e3 z3 d3
 refine kw rfl ?_
 refine AC rfl rfl rfl rfl <| ?_
 simp only [q2,q3]
 refine WN ?_
 change Code.wp _ _ _ _ _
 refine wp_seq ?_
 refine wp_seq ?_
 -- region 1
 refine RL ?_
 refine V rfl rfl (run_load_bx AgI rfl rfl (E.1) rfl) <| ?_
 simp only [q2,q3]
 refine EF rfl (Oper.wp_callN fn_integer_Sign rfl (Sign_z _ d _ (E.2.2.1)) rfl E ?_)
 clear E
 intro w4 d4 E
 replace x3 := x3.below d4
 clear d4
 refine kw rfl ?_
 refine V rfl rfl (run_eqI (c := false) rfl rfl rfl (sgn_ne0 (by omega))) <| ?_
 simp only [q2,q3]
 refine WN ?_
 change Code.wp _ _ _ _ _
 refine wp_cond_false rfl ?_
 refine wp_skip ?_
 change Code.wp _ _ _ _ _
 refine wp_seq ?_
 refine wp_seq ?_
 -- region 3
 refine RL ?_
 refine V rfl rfl (run_load_bx AgI rfl rfl (E.1) rfl) <| ?_
 simp only [q2,q3]
 refine EF rfl (Oper.wp_callN fn_integer_Sign rfl (Sign_z _ d _ (E.2.2.1)) rfl E ?_)
 clear E
 intro w5 d5 E
 replace x3 := x3.below d5
 clear d5
 refine kw rfl ?_
 refine V rfl rfl (run_ltI (c := false) rfl rfl rfl (sgn_nlt0 hd)) <| ?_
 simp only [q2,q3]
 refine WN ?_
 change Code.wp _ _ _ _ _
 refine wp_cond_false rfl ?_
 refine wp_skip ?_
 change Code.wp _ _ _ _ _
 refine wp_seq ?_
 -- region 5
 refine RL ?_
 refine V rfl rfl (run_load_bx AgI rfl rfl (E.2.1) rfl) <| V rfl rfl (run_load_bx AgI rfl rfl (E.1) rfl) <| ?_
 simp only [q2,q3]
 refine EF rfl (Oper.wp_callP fn_rational_lowest rfl (lowest_z _ n _ d _ (e3 E) (E.2.2.1) hd (Fits.mono Fn (by decide)) (Fits.mono Fd (by decide))) rfl E ?_)
 clear E
 intro w7 n7 s7 m7 t7 d7 E
 replace x3 := x3.below d7
 clear d7
 refine kw rfl ?_
 have F6 : FitQ (Rat.divInt n d) 900000000 := FitQ_low (k := 900000000) (Int.ne_of_gt hd) (Fits.mono Fn (by decide)) (Fits.mono Fd (by decide))
 simp only [q2,q3]
 refine EF rfl (Oper.wp_store AgR rfl rfl rfl x3 rfl rfl (one4 (IsI.one (E.2.1)) (IsI.one (E.1))) ?_)
 intro w8 o8 y8
 replace E := (E.onl (x3.noW (now4 now0 now0)) ⟨trivial, trivial, okB (by omega), okB (by omega), trivial, trivial, okW (by omega), trivial⟩ o8).x y8
 clear x3 o8 y8
 refine kn rfl ?_
 refine AC rfl rfl rfl rfl <| ?_
 simp only [q2,q3]
 refine WN ?_
 change Code.wp _ _ _ _ _
 refine wp_ret ?_
 have r9 := res_box AgR (E.1) rfl
 exact bodyPost_ret (v := .tuple #[.agg #[.bool n7, s7, .bool m7, t7], .int .i64 0]) (by simp [results, Tryz.results35, asAddr, r9]) rfl ⟨_, _, _, _, rfl, eqZ rfl (E.2.2.1), eqZ rfl (E.2.1), e7 E⟩
theorem New_z (va : Value) (n : Int) (vb : Value) (d : Int) (w : World) (ha : IsI w va n) (hb : IsI w vb d) (hd : d ≠ 0) (Fn : Fits n 900000000) (Fd : Fits d 900000000) :
    Calls Tryz.prog 35 #[va, vb] w (RetPE w (Rat.divInt n d).num (((Rat.divInt n d).den : Nat) : Int) 0) := by
  rcases Int.lt_trichotomy d 0 with h | h | h
  · exact New_neg _ _ _ _ _ ha hb h Fn Fd
  · exact absurd h hd
  · exact New_pos _ _ _ _ _ ha hb h Fn Fd
set_option maxRecDepth 100000 in
set_option maxHeartbeats 4000000 in
theorem whole_z  (va : Value) (n : Int) (w : World) (hva : IsI w va n)  :
    Calls Tryz.prog 51 #[va] w (RetP w ((n : Int) : Rat).num (((((n : Int) : Rat)).den : Nat) : Int)) := by
 have E := Env.start w
 obtain ⟨nva, sva, rfl, _, _⟩ := hva.sh
 replace E := E.i hva
 clear hva
 go_enter Tryz.func51, Tryz.ntmps51
 refine wp_seq ?_
 -- region 0
 refine RL ?_
 refine EF rfl (Oper.wp_box rfl rfl ?_)
 intro b1 w1 e1 z1 d1 x1
 have l1 : w.heap.size ≤ b1 := by rw [e1]; exact (E.2.1).size
 replace E := E.below d1
 clear e1 z1 d1
 replace E := E.b x1
 clear x1
 refine kw rfl ?_
 simp only [q2,q3]
 refine EF rfl (Oper.wp_alloc AgR rfl ?_)
 intro b2 w2 e2 z2 d2 x2
 have l2_0 : b1 < b2 := by rw [e2]; exact Bx.lt (E.1)
 replace E := E.below d2
 clear e2 z2 d2
 refine kw rfl ?_
 simp only [q2,q3]
 refine WN ?_
 change Code.wp _ _ _ _ _
 refine wp_seq ?_
 -- region 1
 refine wp_schedE E ([0, 1, 2, 3]) (by kernel_rfl) (by kernel_rfl) (by kernel_rfl) (by kernel_rfl) (by intro d v c a w h; cases d <;> exact h) ?_
 replace E := E.drew
 replace x2 := Bx.drew x2
 refine SW rfl rfl rfl rfl rfl (fun w hS => run_load_bx AgI rfl rfl (hS.1) rfl) <| ?_
 simp only [q2,q3]
 refine S1a (o := ⟨some 4, _, _, _, _, _⟩) rfl rfl rfl rfl (Oper.wp_callI fn_integer_Of rfl (Of_z 1 _ (by decide) (by decide)) rfl E ?_)
 clear E
 intro w3 n3 s3 d3 E
 replace x2 := x2.below d3
 clear d3
 refine ⟨E.2, ?_⟩
 simp only [Act.put,q1,q2,q3]
 refine SW (v := .agg #[.bool nva, sva, .bool n3, s3]) rfl rfl rfl rfl rfl (fun w hS => run_buildR rfl rfl rfl) <| ?_
 simp only [q2,q3]
 refine S1a (o := ⟨none, _, _, _, _, _⟩) rfl rfl rfl rfl (Oper.wp_store AgR rfl rfl rfl x2 rfl rfl (one4 (IsI.one (E.2.2.1)) (IsI.one (E.1))) ?_)
 intro w4 o4 y4
 replace E := (E.onl (x2.noW (now4 now0 now0)) ⟨trivial, okB (by omega), trivial, okW (by omega), trivial⟩ o4).x y4
 clear x2 o4 y4
 refine ⟨E.2.2, ?_⟩
 simp only [Act.put]
 refine SN ?_
 change Code.wp _ _ _ _ _
 refine wp_ret ?_
 have r5 := res_box AgR (E.1) rfl
 exact bodyPost_ret (v := .agg #[.bool nva, sva, .bool n3, s3]) (by simp [results, Tryz.results51, asAddr, r5]) rfl ⟨_, _, _, _, rfl, eqZ rfl (e3 E), eqZ rfl (E.2.1), e4 E⟩
set_option maxRecDepth 100000 in
set_option maxHeartbeats 4000000 in
theorem Whole_z  (n : Int) (w : World)  (h1 : -9223372036854775808 ≤ n) (h2 : n ≤ 9223372036854775807) :
    Calls Tryz.prog 15 #[.int .i64 n] w (RetP w ((n : Int) : Rat).num (((((n : Int) : Rat)).den : Nat) : Int)) := by
 have E := Env.start w
 go_enter Tryz.func15, Tryz.ntmps15
 refine wp_seq ?_
 -- region 0
 refine RL ?_
 refine EF rfl (Oper.wp_alloc AgR rfl ?_)
 intro b1 w1 e1 z1 d1 x1
 have l1 : w.heap.size ≤ b1 := by rw [e1]; exact (E.1).size
 replace E := E.below d1
 clear e1 z1 d1
 refine kw rfl ?_
 simp only [q2,q3]
 refine WN ?_
 change Code.wp _ _ _ _ _
 refine wp_seq ?_
 -- region 1
 refine RL ?_
 refine M rfl rfl rfl rfl rfl <| ?_
 simp only [q2,q3]
 refine EF rfl (Oper.wp_callI fn_integer_Of rfl (Of_z n _ h1 h2) rfl E ?_)
 clear E
 intro w3 n3 s3 d3 E
 replace x1 := x1.below d3
 clear d3
 refine kw rfl ?_
 have F2 : Fits n 4 := Fits_of64 h1 h2
 simp only [q2,q3]
 refine EF rfl (Oper.wp_callP fn_rational_whole rfl (whole_z _ n _ (E.1)) rfl E ?_)
 clear E
 intro w5 n5 s5 m5 t5 d5 E
 replace x1 := x1.below d5
 clear d5
 refine kw rfl ?_
 have F4 : FitQ ((n : Int) : Rat) 4 := FitQ_int (by decide) F2
 simp only [q2,q3]
 refine EF rfl (Oper.wp_store AgR rfl rfl rfl x1 rfl rfl (one4 (IsI.one (E.2.1)) (IsI.one (E.1))) ?_)
 intro w6 o6 y6
 replace E := (E.onl (x1.noW (now4 now0 now0)) ⟨trivial, trivial, trivial, okW (by omega), trivial⟩ o6).x y6
 clear x1 o6 y6
 refine kn rfl ?_
 refine WN ?_
 change Code.wp _ _ _ _ _
 refine wp_ret ?_
 have r7 := res_box AgR (E.1) rfl
 exact bodyPost_ret (v := .agg #[.bool n5, s5, .bool m5, t5]) (by simp [results, Tryz.results15, asAddr, r7]) rfl ⟨_, _, _, _, rfl, eqZ rfl (E.2.2.1), eqZ rfl (E.2.1), e4 E⟩
set_option maxRecDepth 100000 in
set_option maxHeartbeats 8000000 in
theorem Add_q  (na : Bool) (sa : Value) (ma : Bool) (ta : Value) (x : Rat) (nb : Bool) (sb : Value) (mb : Bool) (tb : Value) (y : Rat)  (w : World)  (hna : IsI w (.agg #[.bool na, sa]) x.num) (hda : IsI w (.agg #[.bool ma, ta]) ((x.den : Nat) : Int)) (hnb : IsI w (.agg #[.bool nb, sb]) y.num) (hdb : IsI w (.agg #[.bool mb, tb]) ((y.den : Nat) : Int)) (Fx : FitQ x 100000000) (Fy : FitQ y 100000000) :
    Calls Tryz.prog 7 #[.agg #[.bool na, sa, .bool ma, ta], .agg #[.bool nb, sb, .bool mb, tb]] w (RetP w (x + y).num (((x + y).den : Nat) : Int)) := by
 have E := Env.start w
 replace E := (E.i hna).i hda
 clear hna hda
 replace E := (E.i hnb).i hdb
 clear hnb hdb
 go_enter Tryz.func7, Tryz.ntmps7
 refine wp_seq ?_
 -- region 0
 refine RL ?_
 refine EF rfl (Oper.wp_box (cs := [.bool na, sa, .bool ma, ta]) rfl rfl ?_)
 intro b1 w1 e1 z1 d1 x1
 have l1 : w.heap.size ≤ b1 := by rw [e1]; exact (e4 E).size
 replace E := E.below d1
 clear e1 z1 d1
 replace E := E.x x1
 clear x1
 refine kw rfl ?_
 simp only [q2,q3]
 refine EF rfl (Oper.wp_box (cs := [.bool nb, sb, .bool mb, tb]) rfl rfl ?_)
 intro b2 w2 e2 z2 d2 x2
 have l2_0 : b1 < b2 := by rw [e2]; exact Bx.lt (E.1)
 replace E := E.below d2
 clear e2 z2 d2
 replace E := E.x x2
 clear x2
 refine kw rfl ?_
 simp only [q2,q3]
 refine EF rfl (Oper.wp_alloc AgR rfl ?_)
 intro b3 w3 e3 z3 d3 x3
 have l3_0 : b2 < b3 := by rw [e3]; exact Bx.lt (E.1)
 replace E := E.below d3
 clear e3 z3 d3
 refine kw rfl ?_
 simp only [q2,q3]
 refine WN ?_
 change Code.wp _ _ _ _ _
 refine wp_seq ?_
 -- region 1
 replace E := E.x x3
 clear x3
 have hB4_0 : b3 < w3.heap.size := Bx.lt (E.1)
 refine wp_schedF E [.op 0, .op 1, .op 2, .op 3, .op 6, .op 7, .op 8, .op 9, .av 4, .av 10, .av 13, .op 4, .op 5, .op 10, .op 11, .op 12, .op 13] 1 (#[true, true, true, true, true, true, true, true, true, true, true, true, true, true, false]) (by kernel_rfl) (by kernel_rfl) (by kernel_rfl) (by kernel_rfl) (by intro d v c a w h; cases d <;> exact h) (by intro d v c a w h; cases d <;> exact h) ?_
 refine FP (v := .pointer (some ⟨b1, 0, none⟩)) rfl rfl rfl rfl rfl (fun w hS => run_fieldR0 rfl rfl) <| FP (v := .agg #[.bool na, sa]) rfl rfl rfl rfl rfl (fun w hS => run_loadAt rfl rfl (hS.2.2.1) rfl rfl) <| FP (v := .pointer (some ⟨b2, 2, none⟩)) rfl rfl rfl rfl rfl (fun w hS => run_fieldR1 rfl rfl) <| FP (v := .agg #[.bool mb, tb]) rfl rfl rfl rfl rfl (fun w hS => run_loadAt rfl rfl (hS.2.1) rfl rfl) <| ?_
 simp only [q2,q3]
 refine FP (v := .pointer (some ⟨b2, 0, none⟩)) rfl rfl rfl rfl rfl (fun w hS => run_fieldR0 rfl rfl) <| FP (v := .agg #[.bool nb, sb]) rfl rfl rfl rfl rfl (fun w hS => run_loadAt rfl rfl (hS.2.1) rfl rfl) <| FP (v := .pointer (some ⟨b1, 2, none⟩)) rfl rfl rfl rfl rfl (fun w hS => run_fieldR1 rfl rfl) <| FP (v := .agg #[.bool ma, ta]) rfl rfl rfl rfl rfl (fun w hS => run_loadAt rfl rfl (hS.2.2.1) rfl rfl) <| FA _ (RunF.pair rfl rfl rfl rfl rfl) <| FA _ (RunF.pair rfl rfl rfl rfl rfl) <| FA _ (RunF.alloc AgI rfl rfl rfl) <| ?_
 simp only [q2,q3]
 refine FF rfl rfl ?_
 intro b5 f5 u5
 have l5_0 : b3 < b5 := by omega
 simp only [q2,q3]
 clear E
 refine FE rfl rfl rfl rfl ?_
 intro w8 E
 refine Oper.wp_callI fn_rational_product rfl (product_z b5 _ _ _ _ x.num ((y.den : Nat) : Int) _ (e7 E) (e4 E) (E.1) (Fits.mono Fx.1 (by decide)) (Fits.mono Fy.2 (by decide))) rfl E ?_
 clear E
 intro w7 n7 s7 d7 E
 refine kF d7 E rfl ?_
 have F6 : Fits (x.num * ((y.den : Nat) : Int)) 200000000 := Fits_mul Fx.1 Fy.2
 simp only [q2,q3]
 refine FF rfl rfl ?_
 intro b9 f9 u9
 have l9_0 : b3 < b9 := by omega
 have v9_0 : b9 ≠ b5 := by rintro rfl; exact u9 (by simp)
 simp only [q2,q3]
 clear E
 refine FE rfl rfl rfl rfl ?_
 intro w12 E
 refine Oper.wp_callI fn_rational_product rfl (product_z b9 _ _ _ _ y.num ((x.den : Nat) : Int) _ (e7 E) (e8 E) (E.1) (Fits.mono Fy.1 (by decide)) (Fits.mono Fx.2 (by decide))) rfl E ?_
 clear E
 intro w11 n11 s11 d11 E
 refine kF d11 E rfl ?_
 have F10 : Fits (y.num * ((x.den : Nat) : Int)) 200000000 := Fits_mul Fy.1 Fx.2
 simp only [q2,q3]
 clear E
 refine FE rfl rfl rfl rfl ?_
 intro w15 E
 refine Oper.wp_callI fn_integer_Add rfl (Add_z _ _ (x.num * ((y.den : Nat) : Int)) (y.num * ((x.den : Nat) : Int)) _ (E.2.2.1) (E.1) (Fits.mono F6 (by decide)) (Fits.mono F10 (by decide))) rfl E ?_
 clear E
 intro w14 n14 s14 d14 E
 refine kF d14 E rfl ?_
 have F13 : Fits ((x.num * ((y.den : Nat) : Int)) + (y.num * ((x.den : Nat) : Int))) 200000001 := Fits_add F6 F10 (k := 200000000) (by decide) (by decide)
 simp only [q2,q3]
 refine FF rfl rfl ?_
 intro b16 f16 u16
 have l16_0 : b3 < b16 := by omega
 have v16_0 : b16 ≠ b9 := by rintro rfl; exact u16 (by simp)
 have v16_1 : b16 ≠ b5 := by rintro rfl; exact u16 (by simp)
 simp only [q2,q3]
 clear E
 intro w17 E
 refine H1 (i := 14) (by kernel_rfl) ?_
 have x19 := E.1
 replace E := E.2
 refine HE (o := ⟨none, _, _, _, _, _⟩) rfl rfl (Oper.wp_store AgI rfl rfl rfl x19 rfl rfl (IsI.one (E.1)) ?_)
 intro w18 o18 y18
 replace E := (E.onl (x19.noW now0) ⟨trivial, trivial, okX (by omega), trivial, okX (by omega), okX (by omega), okX (by omega), okX (by omega), trivial, trivial, trivial, trivial, okW (by omega), trivial⟩ o18).b y18
 clear x19 o18 y18
 refine ⟨E.2.2.2.2.2.2, ?_⟩
 simp only [Act.put]
 refine HN (by kernel_rfl) ?_
 change Code.wp _ _ _ _ _
 refine wp_seq ?_
 -- region 2
 have x20 := e6 E
 replace E := ((((((E.2.2.2.2.2.2.2).x (e5 E)).i (e4 E)).x (e3 E)).i (E.2.2.1)).i (E.2.1)).b (E.1)
 refine wp_schedE E ([0, 1, 2, 3, 4, 5, 6, 7, 8]) (by kernel_rfl) (by kernel_rfl) (by kernel_rfl) (by kernel_rfl) (by intro d v c a w h; cases d <;> exact h) ?_
 replace E := E.drew
 replace x20 := Bx.drew x20
 refine SW rfl rfl rfl rfl rfl (fun w hS => run_load_bx AgI rfl rfl (hS.1) rfl) <| SW rfl rfl rfl rfl rfl (fun w hS => run_fieldR1 rfl rfl) <| SW rfl rfl rfl rfl rfl (fun w hS => run_loadAt rfl rfl (e7 hS) rfl rfl) <| SW rfl rfl rfl rfl rfl (fun w hS => run_fieldR1 rfl rfl) <| ?_
 simp only [q2,q3]
 refine SW rfl rfl rfl rfl rfl (fun w hS => run_loadAt rfl rfl (e6 hS) rfl rfl) <| ?_
 simp only [q2,q3]
 refine S1a (o := ⟨some 24, _, _, _, _, _⟩) rfl rfl rfl rfl (Oper.wp_pair rfl rfl rfl ?_)
 intro b21 w21 e21 z21 d21 x21
 have l21_0 : b16 < b21 := by rw [e21]; exact Bx.lt (E.1)
 have l21_1 : b9 < b21 := by rw [e21]; exact Bx.lt (e3 E)
 have l21_2 : b5 < b21 := by rw [e21]; exact Bx.lt (e5 E)
 replace E := E.below d21
 replace x20 := Bx.below x20 d21
 clear e21 z21 d21
 replace E := E.x x21
 clear x21
 refine ⟨E.2, ?_⟩
 simp only [Act.put,q1,q2,q3]
 refine S1a (o := ⟨some 25, _, _, _, _, _⟩) rfl rfl rfl rfl (Oper.wp_callI fn_rational_product rfl (product_z b21 _ _ _ _ ((x.den : Nat) : Int) ((y.den : Nat) : Int) _ (e11 E) (e9 E) (E.1) (Fits.mono Fx.2 (by decide)) (Fits.mono Fy.2 (by decide))) rfl E ?_)
 clear E
 intro w23 n23 s23 d23 E
 replace x20 := x20.below d23
 clear d23
 refine ⟨E.2.2, ?_⟩
 simp only [Act.put,q1,q2,q3]
 have F22 : Fits (((x.den : Nat) : Int) * ((y.den : Nat) : Int)) 200000000 := Fits_mul Fx.2 Fy.2
 refine S1a (o := ⟨some 26, _, _, _, _, _⟩) rfl rfl rfl rfl (Oper.wp_callP fn_rational_lowest rfl (lowest_z _ ((x.num * ((y.den : Nat) : Int)) + (y.num * ((x.den : Nat) : Int))) _ (((x.den : Nat) : Int) * ((y.den : Nat) : Int)) _ (e3 E) (E.1) (Int.mul_pos (denI x) (denI y)) (Fits.mono F13 (by decide)) (Fits.mono F22 (by decide))) rfl E ?_)
 clear E
 intro w25 n25 s25 m25 t25 d25 E
 replace x20 := x20.below d25
 clear d25
 refine ⟨E.2.2.2.2, ?_⟩
 simp only [Act.put,q1,q2,q3]
 have F24 : FitQ (Rat.divInt ((x.num * ((y.den : Nat) : Int)) + (y.num * ((x.den : Nat) : Int))) (((x.den : Nat) : Int) * ((y.den : Nat) : Int))) 200000001 := FitQ_low (k := 200000001) (Int.ne_of_gt (Int.mul_pos (denI x) (denI y))) (Fits.mono F13 (by decide)) (Fits.mono F22 (by decide))
 refine S1a (o := ⟨none, _, _, _, _, _⟩) rfl rfl rfl rfl (Oper.wp_store AgR rfl rfl rfl x20 rfl rfl (one4 (IsI.one (E.2.1)) (IsI.one (E.1))) ?_)
 intro w26 o26 y26
 replace E := (E.onl (x20.noW (now4 now0 now0)) ⟨trivial, trivial, trivial, okX (by omega), okB (by omega), trivial, trivial, okX (by omega), trivial, okX (by omega), okX (by omega), okX (by omega), trivial, trivial, trivial, trivial, okW (by omega), trivial⟩ o26).x y26
 clear x20 o26 y26
 refine ⟨E.2.2.2.2.2, ?_⟩
 simp only [Act.put]
 refine SN ?_
 change Code.wp _ _ _ _ _
 refine wp_ret ?_
 have r27 := res_box AgR (E.1) rfl
 exact bodyPost_ret (v := .agg #[.bool n25, s25, .bool m25, t25]) (by simp [results, Tryz.results7, asAddr, r27]) rfl ⟨_, _, _, _, rfl, eqZ (congrArg Rat.num (addQ x y)) (E.2.2.1), eqZ (congrArg (fun z => ((Rat.den z : Nat) : Int)) (addQ x y)) (E.2.1), e17 E⟩
set_option maxRecDepth 100000 in
set_option maxHeartbeats 8000000 in
theorem Neg_q  (na : Bool) (sa : Value) (ma : Bool) (ta : Value) (x : Rat)  (w : World)  (hna : IsI w (.agg #[.bool na, sa]) x.num) (hda : IsI w (.agg #[.bool ma, ta]) ((x.den : Nat) : Int)) (Fx : FitQ x 100000000) :
    Calls Tryz.prog 13 #[.agg #[.bool na, sa, .bool ma, ta]] w (RetP w (-x).num (((-x).den : Nat) : Int)) := by
 have E := Env.start w
 replace E := (E.i hna).i hda
 clear hna hda
 go_enter Tryz.func13, Tryz.ntmps13
 refine wp_seq ?_
 -- region 0
 refine RL ?_
 refine EF rfl (Oper.wp_box (cs := [.bool na, sa, .bool ma, ta]) rfl rfl ?_)
 intro b1 w1 e1 z1 d1 x1
 have l1 : w.heap.size ≤ b1 := by rw [e1]; exact (E.2.2.1).size
 replace E := E.below d1
 clear e1 z1 d1
 replace E := E.x x1
 clear x1
 refine kw rfl ?_
 simp only [q2,q3]
 refine EF rfl (Oper.wp_alloc AgR rfl ?_)
 intro b2 w2 e2 z2 d2 x2
 have l2_0 : b1 < b2 := by rw [e2]; exact Bx.lt (E.1)
 replace E := E.below d2
 clear e2 z2 d2
 refine kw rfl ?_
 simp only [q2,q3]
 refine WN ?_
 change Code.wp _ _ _ _ _
 refine wp_seq ?_
 -- region 1
 refine wp_schedE E ([0, 1, 3, 4, 2, 5, 6]) (by kernel_rfl) (by kernel_rfl) (by kernel_rfl) (by kernel_rfl) (by intro d v c a w h; cases d <;> exact h) ?_
 replace E := E.drew
 replace x2 := Bx.drew x2
 refine SW rfl rfl rfl rfl rfl (fun w hS => run_fieldR0 rfl rfl) <| SW rfl rfl rfl rfl rfl (fun w hS => run_loadAt rfl rfl (hS.1) rfl rfl) <| SW rfl rfl rfl rfl rfl (fun w hS => run_fieldR1 rfl rfl) <| SW rfl rfl rfl rfl rfl (fun w hS => run_loadAt rfl rfl (hS.1) rfl rfl) <| ?_
 simp only [q2,q3]
 refine S1a (o := ⟨some 5, _, _, _, _, _⟩) rfl rfl rfl rfl (Oper.wp_callI fn_integer_Neg rfl (Neg_z _ x.num _ (E.2.2.1) (Fits.mono Fx.1 (by decide))) rfl E ?_)
 clear E
 intro w4 n4 s4 d4 E
 replace x2 := x2.below d4
 clear d4
 refine ⟨E.2, ?_⟩
 simp only [Act.put,q1,q2,q3]
 have F3 : Fits (-x.num) 100000000 := Fits_neg Fx.1
 refine SW (v := .agg #[.bool n4, s4, .bool ma, ta]) rfl rfl rfl rfl rfl (fun w hS => run_buildR rfl rfl rfl) <| ?_
 simp only [q2,q3]
 refine S1a (o := ⟨none, _, _, _, _, _⟩) rfl rfl rfl rfl (Oper.wp_store AgR rfl rfl rfl x2 rfl rfl (one4 (IsI.one (E.1)) (IsI.one (E.2.2.1))) ?_)
 intro w5 o5 y5
 replace E := (E.onl (x2.noW (now4 now0 now0)) ⟨trivial, okX (by omega), trivial, trivial, okW (by omega), trivial⟩ o5).x y5
 clear x2 o5 y5
 refine ⟨E.2.2, ?_⟩
 simp only [Act.put]
 refine SN ?_
 change Code.wp _ _ _ _ _
 refine wp_ret ?_
 have r6 := res_box AgR (E.1) rfl
 exact bodyPost_ret (v := .agg #[.bool n4, s4, .bool ma, ta]) (by simp [results, Tryz.results13, asAddr, r6]) rfl ⟨_, _, _, _, rfl, eqZ rfl (E.2.1), eqZ rfl (e3 E), e5 E⟩
set_option maxRecDepth 100000 in
set_option maxHeartbeats 8000000 in
theorem Sub_q  (na : Bool) (sa : Value) (ma : Bool) (ta : Value) (x : Rat) (nb : Bool) (sb : Value) (mb : Bool) (tb : Value) (y : Rat)  (w : World)  (hna : IsI w (.agg #[.bool na, sa]) x.num) (hda : IsI w (.agg #[.bool ma, ta]) ((x.den : Nat) : Int)) (hnb : IsI w (.agg #[.bool nb, sb]) y.num) (hdb : IsI w (.agg #[.bool mb, tb]) ((y.den : Nat) : Int)) (Fx : FitQ x 40000000) (Fy : FitQ y 40000000) :
    Calls Tryz.prog 9 #[.agg #[.bool na, sa, .bool ma, ta], .agg #[.bool nb, sb, .bool mb, tb]] w (RetP w (x - y).num (((x - y).den : Nat) : Int)) := by
 have E := Env.start w
 replace E := (E.i hna).i hda
 clear hna hda
 replace E := (E.i hnb).i hdb
 clear hnb hdb
 go_enter Tryz.func9, Tryz.ntmps9
 refine wp_seq ?_
 -- region 0
 refine RL ?_
 refine EF rfl (Oper.wp_box (cs := [.bool na, sa, .bool ma, ta]) rfl rfl ?_)
 intro b1 w1 e1 z1 d1 x1
 have l1 : w.heap.size ≤ b1 := by rw [e1]; exact (e4 E).size
 replace E := E.below d1
 clear e1 z1 d1
 replace E := E.x x1
 clear x1
 refine kw rfl ?_
 simp only [q2,q3]
 refine EF rfl (Oper.wp_box (cs := [.bool nb, sb, .bool mb, tb]) rfl rfl ?_)
 intro b2 w2 e2 z2 d2 x2
 have l2_0 : b1 < b2 := by rw [e2]; exact Bx.lt (E.1)
 replace E := E.below d2
 clear e2 z2 d2
 replace E := E.x x2
 clear x2
 refine kw rfl ?_
 simp only [q2,q3]
 refine EF rfl (Oper.wp_alloc AgR rfl ?_)
 intro b3 w3 e3 z3 d3 x3
 have l3_0 : b2 < b3 := by rw [e3]; exact Bx.lt (E.1)
 replace E := E.below d3
 clear e3 z3 d3
 refine kw rfl ?_
 simp only [q2,q3]
 refine WN ?_
 change Code.wp _ _ _ _ _
 refine wp_seq ?_
 -- region 1
 refine wp_schedE E ([0, 1, 2, 3, 4]) (by kernel_rfl) (by kernel_rfl) (by kernel_rfl) (by kernel_rfl) (by intro d v c a w h; cases d <;> exact h) ?_
 replace E := E.drew
 replace x3 := Bx.drew x3
 refine SW rfl rfl rfl rfl rfl (fun w hS => run_load_bx AgR rfl rfl (hS.2.1) rfl) <| SW rfl rfl rfl rfl rfl (fun w hS => run_load_bx AgR rfl rfl (hS.1) rfl) <| ?_
 simp only [q2,q3]
 refine S1a (o := ⟨some 7, _, _, _, _, _⟩) rfl rfl rfl rfl (Oper.wp_callP fn_rational_Neg rfl (Neg_q _ _ _ _ y _ (e3 E) (E.2.2.1) (FitQ.mono Fy (by decide))) rfl E ?_)
 clear E
 intro w5 n5 s5 m5 t5 d5 E
 replace x3 := x3.below d5
 clear d5
 refine ⟨E.2.2, ?_⟩
 simp only [Act.put,q1,q2,q3]
 have F4 : FitQ (-y) 40000000 := FitQ_neg Fy
 refine S1a (o := ⟨some 8, _, _, _, _, _⟩) rfl rfl rfl rfl (Oper.wp_callP fn_rational_Add rfl (Add_q _ _ _ _ x _ _ _ _ (-y) _ (e7 E) (e6 E) (E.2.1) (E.1) (FitQ.mono Fx (by decide)) (FitQ.mono F4 (by decide))) rfl E ?_)
 clear E
 intro w7 n7 s7 m7 t7 d7 E
 replace x3 := x3.below d7
 clear d7
 refine ⟨E.2.2.2.2, ?_⟩
 simp only [Act.put,q1,q2,q3]
 have F6 : FitQ (x + (-y)) 80000001 := FitQ_add Fx F4
 refine S1a (o := ⟨none, _, _, _, _, _⟩) rfl rfl rfl rfl (Oper.wp_store AgR rfl rfl rfl x3 rfl rfl (one4 (IsI.one (E.2.1)) (IsI.one (E.1))) ?_)
 intro w8 o8 y8
 replace E := (E.onl (x3.noW (now4 now0 now0)) ⟨trivial, trivial, trivial, trivial, okX (by omega), okX (by omega), trivial, trivial, trivial, trivial, okW (by omega), trivial⟩ o8).x y8
 clear x3 o8 y8
 refine ⟨E.2.2.2.2.2, ?_⟩
 simp only [Act.put]
 refine SN ?_
 change Code.wp _ _ _ _ _
 refine wp_ret ?_
 have r9 := res_box AgR (E.1) rfl
 exact bodyPost_ret (v := .agg #[.bool n7, s7, .bool m7, t7]) (by simp [results, Tryz.results9, asAddr, r9]) rfl ⟨_, _, _, _, rfl, eqZ (congrArg Rat.num (subQ x y)) (E.2.2.1), eqZ (congrArg (fun z => ((Rat.den z : Nat) : Int)) (subQ x y)) (E.2.1), e11 E⟩
set_option maxRecDepth 100000 in
set_option maxHeartbeats 8000000 in
theorem Mul_q  (na : Bool) (sa : Value) (ma : Bool) (ta : Value) (x : Rat) (nb : Bool) (sb : Value) (mb : Bool) (tb : Value) (y : Rat)  (w : World)  (hna : IsI w (.agg #[.bool na, sa]) x.num) (hda : IsI w (.agg #[.bool ma, ta]) ((x.den : Nat) : Int)) (hnb : IsI w (.agg #[.bool nb, sb]) y.num) (hdb : IsI w (.agg #[.bool mb, tb]) ((y.den : Nat) : Int)) (Fx : FitQ x 100000000) (Fy : FitQ y 100000000) :
    Calls Tryz.prog 11 #[.agg #[.bool na, sa, .bool ma, ta], .agg #[.bool nb, sb, .bool mb, tb]] w (RetP w (x * y).num (((x * y).den : Nat) : Int)) := by
 have E := Env.start w
 replace E := (E.i hna).i hda
 clear hna hda
 replace E := (E.i hnb).i hdb
 clear hnb hdb
 go_enter Tryz.func11, Tryz.ntmps11
 refine wp_seq ?_
 -- region 0
 refine RL ?_
 refine EF rfl (Oper.wp_box (cs := [.bool na, sa, .bool ma, ta]) rfl rfl ?_)
 intro b1 w1 e1 z1 d1 x1
 have l1 : w.heap.size ≤ b1 := by rw [e1]; exact (e4 E).size
 replace E := E.below d1
 clear e1 z1 d1
 replace E := E.x x1
 clear x1
 refine kw rfl ?_
 simp only [q2,q3]
 refine EF rfl (Oper.wp_box (cs := [.bool nb, sb, .bool mb, tb]) rfl rfl ?_)
 intro b2 w2 e2 z2 d2 x2
 have l2_0 : b1 < b2 := by rw [e2]; exact Bx.lt (E.1)
 replace E := E.below d2
 clear e2 z2 d2
 replace E := E.x x2
 clear x2
 refine kw rfl ?_
 simp only [q2,q3]
 refine EF rfl (Oper.wp_alloc AgR rfl ?_)
 intro b3 w3 e3 z3 d3 x3
 have l3_0 : b2 < b3 := by rw [e3]; exact Bx.lt (E.1)
 replace E := E.below d3
 clear e3 z3 d3
 refine kw rfl ?_
 simp only [q2,q3]
 refine WN ?_
 change Code.wp _ _ _ _ _
 refine wp_seq ?_
 -- region 1
 refine RL ?_
 refine V rfl rfl (run_fieldR0 rfl rfl) <| V rfl rfl (run_loadAt rfl rfl (E.2.1) rfl rfl) <| V rfl rfl (run_fieldR1 rfl rfl) <| V rfl rfl (run_loadAt rfl rfl (E.1) rfl rfl) <| ?_
 simp only [q2,q3]
 refine EF rfl (Oper.wp_callP fn_rational_lowest rfl (lowest_z _ x.num _ ((y.den : Nat) : Int) _ (e5 E) (E.2.2.1) (denI y) (Fits.mono Fx.1 (by decide)) (Fits.mono Fy.2 (by decide))) rfl E ?_)
 clear E
 intro w5 n5 s5 m5 t5 d5 E
 replace x3 := x3.below d5
 clear d5
 refine kw rfl ?_
 have F4 : FitQ (Rat.divInt x.num ((y.den : Nat) : Int)) 100000000 := FitQ_low (k := 100000000) (den_ne y) (Fits.mono Fx.1 (by decide)) (Fits.mono Fy.2 (by decide))
 simp only [q2,q3]
 refine EF rfl (Oper.wp_alloc AgR rfl ?_)
 intro b6 w6 e6 z6 d6 x6
 have l6_0 : b3 < b6 := by rw [e6]; exact Bx.lt (x3)
 replace E := E.below d6
 replace x3 := Bx.below x3 d6
 clear e6 z6 d6
 refine kw rfl ?_
 simp only [q2,q3]
 refine EF rfl (Oper.wp_store AgR rfl rfl rfl x6 rfl rfl (one4 (IsI.one (E.2.1)) (IsI.one (E.1))) ?_)
 intro w7 o7 y7
 replace E := (E.onl (x6.noW (now4 now0 now0)) ⟨trivial, trivial, okX (by omega), okX (by omega), trivial, trivial, trivial, trivial, okW (by omega), trivial⟩ o7).x y7
 replace x3 := Bx.onl x3 (by omega) o7
 clear x6 o7 y7
 refine kn rfl ?_
 refine WN ?_
 change Code.wp _ _ _ _ _
 refine wp_seq ?_
 -- region 2
 refine RL ?_
 refine V rfl rfl (run_fieldR0 rfl rfl) <| V rfl rfl (run_loadAt rfl rfl (e3 E) rfl rfl) <| V rfl rfl (run_fieldR1 rfl rfl) <| V rfl rfl (run_loadAt rfl rfl (e4 E) rfl rfl) <| ?_
 simp only [q2,q3]
 refine EF rfl (Oper.wp_callP fn_rational_lowest rfl (lowest_z _ y.num _ ((x.den : Nat) : Int) _ (e6 E) (e7 E) (denI x) (Fits.mono Fy.1 (by decide)) (Fits.mono Fx.2 (by decide))) rfl E ?_)
 clear E
 intro w9 n9 s9 m9 t9 d9 E
 replace x3 := x3.below d9
 clear d9
 refine kw rfl ?_
 have F8 : FitQ (Rat.divInt y.num ((x.den : Nat) : Int)) 100000000 := FitQ_low (k := 100000000) (den_ne x) (Fits.mono Fy.1 (by decide)) (Fits.mono Fx.2 (by decide))
 simp only [q2,q3]
 refine EF rfl (Oper.wp_alloc AgR rfl ?_)
 intro b10 w10 e10 z10 d10 x10
 have l10_0 : b6 < b10 := by rw [e10]; exact Bx.lt (E.2.2.1)
 replace E := E.below d10
 replace x3 := Bx.below x3 d10
 clear e10 z10 d10
 refine kw rfl ?_
 simp only [q2,q3]
 refine EF rfl (Oper.wp_store AgR rfl rfl rfl x10 rfl rfl (one4 (IsI.one (E.2.1)) (IsI.one (E.1))) ?_)
 intro w11 o11 y11
 replace E := (E.onl (x10.noW (now4 now0 now0)) ⟨trivial, trivial, okX (by omega), trivial, trivial, okX (by omega), okX (by omega), trivial, trivial, trivial, trivial, okW (by omega), trivial⟩ o11).x y11
 replace x3 := Bx.onl x3 (by omega) o11
 clear x10 o11 y11
 refine kn rfl ?_
 refine WN ?_
 change Code.wp _ _ _ _ _
 refine wp_seq ?_
 -- region 3
 replace E := E.x x3
 clear x3
 have hB12_0 : b10 < w11.heap.size := Bx.lt (E.2.1)
 refine wp_schedF2 E E.2 [.op 0, .op 1, .op 2, .op 3, .op 6, .op 7, .op 8, .op 9, .av 4, .av 10, .op 4, .op 5, .op 10] 3 (#[true, true, true, true, true, true, true, true, true, true, true, false, false, false]) (by kernel_rfl) (by kernel_rfl) (by kernel_rfl) (by kernel_rfl) (by intro d v c a w h; cases d <;> exact h) (by intro d v c a w h; cases d <;> exact h) ?_
 refine FP (v := .pointer (some ⟨b6, 0, none⟩)) rfl rfl rfl rfl rfl (fun w hS => run_fieldR0 rfl rfl) <| FP (v := .agg #[.bool n5, s5]) rfl rfl rfl rfl rfl (fun w hS => run_loadAt rfl rfl (e3 hS) rfl rfl) <| FP (v := .pointer (some ⟨b10, 0, none⟩)) rfl rfl rfl rfl rfl (fun w hS => run_fieldR0 rfl rfl) <| FP (v := .agg #[.bool n9, s9]) rfl rfl rfl rfl rfl (fun w hS => run_loadAt rfl rfl (hS.1) rfl rfl) <| ?_
 simp only [q2,q3]
 refine FP (v := .pointer (some ⟨b6, 2, none⟩)) rfl rfl rfl rfl rfl (fun w hS => run_fieldR1 rfl rfl) <| FP (v := .agg #[.bool m5, t5]) rfl rfl rfl rfl rfl (fun w hS => run_loadAt rfl rfl (e3 hS) rfl rfl) <| FP (v := .pointer (some ⟨b10, 2, none⟩)) rfl rfl rfl rfl rfl (fun w hS => run_fieldR1 rfl rfl) <| FP (v := .agg #[.bool m9, t9]) rfl rfl rfl rfl rfl (fun w hS => run_loadAt rfl rfl (hS.1) rfl rfl) <| FA _ (RunF.pair rfl rfl rfl rfl rfl) <| FA _ (RunF.pair rfl rfl rfl rfl rfl) <| ?_
 simp only [q2,q3]
 refine FF rfl rfl ?_
 intro b13 f13 u13
 have l13_0 : b10 < b13 := by omega
 simp only [q2,q3]
 clear E
 refine FE rfl rfl rfl rfl ?_
 intro w16 E
 refine Oper.wp_callI fn_rational_product rfl (product_z b13 _ _ _ _ ((Rat.divInt x.num ((y.den : Nat) : Int)).num) ((Rat.divInt y.num ((x.den : Nat) : Int)).num) _ (e7 E) (e4 E) (E.1) (Fits.mono F4.1 (by decide)) (Fits.mono F8.1 (by decide))) rfl E ?_
 clear E
 intro w15 n15 s15 d15 E
 refine kF d15 E rfl ?_
 have F14 : Fits (((Rat.divInt x.num ((y.den : Nat) : Int)).num) * ((Rat.divInt y.num ((x.den : Nat) : Int)).num)) 200000000 := Fits_mul F4.1 F8.1
 simp only [q2,q3]
 refine FF rfl rfl ?_
 intro b17 f17 u17
 have l17_0 : b10 < b17 := by omega
 have v17_0 : b17 ≠ b13 := by rintro rfl; exact u17 (by simp)
 simp only [q2,q3]
 clear E
 intro w18 E
 refine H1 (i := 11) (by kernel_rfl) ?_
 refine HE (o := ⟨some 28, _, _, _, _, _⟩) rfl rfl (Oper.wp_callI fn_rational_product rfl (product_z b17 _ _ _ _ (((Rat.divInt x.num ((y.den : Nat) : Int)).den : Nat) : Int) (((Rat.divInt y.num ((x.den : Nat) : Int)).den : Nat) : Int) _ (e8 E) (e5 E) (E.1) (Fits.mono F4.2 (by decide)) (Fits.mono F8.2 (by decide))) rfl E ?_)
 clear E
 intro w20 n20 s20 d20 E
 clear d20
 refine ⟨E.2.2.2.2.2, ?_⟩
 simp only [Act.put,q1,q2,q3]
 have F19 : Fits ((((Rat.divInt x.num ((y.den : Nat) : Int)).den : Nat) : Int) * (((Rat.divInt y.num ((x.den : Nat) : Int)).den : Nat) : Int)) 200000000 := Fits_mul F4.2 F8.2
 refine HP (i := 12) (o := ⟨some 29, _, _, _, _, _⟩) (v := .agg #[.bool n15, s15, .bool n20, s20]) rfl (by kernel_rfl) (fun _ _ _ h => h) rfl (fun w hS => run_buildR rfl rfl rfl) (E.2.2.2.2.2) ?_
 simp only [Act.put,q1,q2,q3]
 refine H1 (i := 13) (by kernel_rfl) ?_
 have x22 := e4 E
 replace E := ((((E.2.2.2.2.2).x (e3 E)).i (E.2.2.1)).x (E.2.1)).i (E.1)
 refine HE (o := ⟨none, _, _, _, _, _⟩) rfl rfl (Oper.wp_store AgR rfl rfl rfl x22 rfl rfl (one4 (IsI.one (E.2.2.1)) (IsI.one (E.1))) ?_)
 intro w21 o21 y21
 replace E := (E.onl (x22.noW (now4 now0 now0)) ⟨trivial, okX (by omega), trivial, okX (by omega), okX (by omega), trivial, trivial, okX (by omega), trivial, trivial, okX (by omega), okX (by omega), trivial, trivial, trivial, trivial, okW (by omega), trivial⟩ o21).x y21
 clear x22 o21 y21
 refine ⟨E.2.2.2.2.2, ?_⟩
 simp only [Act.put]
 refine HN (by kernel_rfl) ?_
 change Code.wp _ _ _ _ _
 refine wp_ret ?_
 have r23 := res_box AgR (E.1) rfl
 exact bodyPost_ret (v := .agg #[.bool n15, s15, .bool n20, s20]) (by simp [results, Tryz.results11, asAddr, r23]) rfl ⟨_, _, _, _, rfl, eqZ ((mul_cross x y).1.symm) (e3 E), eqZ ((mul_cross x y).2.symm) (E.2.1), e17 E⟩
set_option maxRecDepth 100000 in
set_option maxHeartbeats 8000000 in
theorem Sign_q  (na : Bool) (sa : Value) (ma : Bool) (ta : Value) (x : Rat)  (w : World)  (hna : IsI w (.agg #[.bool na, sa]) x.num) (hda : IsI w (.agg #[.bool ma, ta]) ((x.den : Nat) : Int)) :
    Calls Tryz.prog 27 #[.agg #[.bool na, sa, .bool ma, ta]] w (RetN w (sgn x.num)) := by
 have E := Env.start w
 replace E := (E.i hna).i hda
 clear hna hda
 go_enter Tryz.func27, Tryz.ntmps27
 refine wp_seq ?_
 -- region 0
 refine RL ?_
 refine EF rfl (Oper.wp_box (cs := [.bool na, sa, .bool ma, ta]) rfl rfl ?_)
 intro b1 w1 e1 z1 d1 x1
 have l1 : w.heap.size ≤ b1 := by rw [e1]; exact (E.2.2.1).size
 replace E := E.below d1
 clear e1 z1 d1
 replace E := E.x x1
 clear x1
 refine kw rfl ?_
 refine AC rfl rfl rfl rfl <| ?_
 simp only [q2,q3]
 refine WN ?_
 change Code.wp _ _ _ _ _
 refine wp_seq ?_
 -- region 1
 refine RL ?_
 refine V rfl rfl (run_fieldR0 rfl rfl) <| V rfl rfl (run_loadAt rfl rfl (E.1) rfl rfl) <| ?_
 simp only [q2,q3]
 refine EF rfl (Oper.wp_callN fn_integer_Sign rfl (Sign_z _ x.num _ (E.2.2.1)) rfl E ?_)
 clear E
 intro w2 d2 E
 clear d2
 refine kw rfl ?_
 refine A rfl rfl rfl rfl rfl <| ?_
 simp only [q2,q3]
 refine WN ?_
 change Code.wp _ _ _ _ _
 refine wp_ret ?_
 exact bodyPost_ret (v := .int .i64 (sgn x.num)) (by simp [results, Tryz.results27, asAddr]) rfl ⟨rfl, e3 E⟩
set_option maxRecDepth 100000 in
set_option maxHeartbeats 8000000 in
theorem Cmp_q  (na : Bool) (sa : Value) (ma : Bool) (ta : Value) (x : Rat) (nb : Bool) (sb : Value) (mb : Bool) (tb : Value) (y : Rat)  (w : World)  (hna : IsI w (.agg #[.bool na, sa]) x.num) (hda : IsI w (.agg #[.bool ma, ta]) ((x.den : Nat) : Int)) (hnb : IsI w (.agg #[.bool nb, sb]) y.num) (hdb : IsI w (.agg #[.bool mb, tb]) ((y.den : Nat) : Int)) (Fx : FitQ x 100000000) (Fy : FitQ y 100000000) :
    Calls Tryz.prog 29 #[.agg #[.bool na, sa, .bool ma, ta], .agg #[.bool nb, sb, .bool mb, tb]] w (RetN w (cmpQ x y)) := by
 have E := Env.start w
 replace E := (E.i hna).i hda
 clear hna hda
 replace E := (E.i hnb).i hdb
 clear hnb hdb
 go_enter Tryz.func29, Tryz.ntmps29
 refine wp_seq ?_
 -- region 0
 refine RL ?_
 refine EF rfl (Oper.wp_box (cs := [.bool na, sa, .bool ma, ta]) rfl rfl ?_)
 intro b1 w1 e1 z1 d1 x1
 have l1 : w.heap.size ≤ b1 := by rw [e1]; exact (e4 E).size
 replace E := E.below d1
 clear e1 z1 d1
 replace E := E.x x1
 clear x1
 refine kw rfl ?_
 simp only [q2,q3]
 refine EF rfl (Oper.wp_box (cs := [.bool nb, sb, .bool mb, tb]) rfl rfl ?_)
 intro b2 w2 e2 z2 d2 x2
 have l2_0 : b1 < b2 := by rw [e2]; exact Bx.lt (E.1)
 replace E := E.below d2
 clear e2 z2 d2
 replace E := E.x x2
 clear x2
 refine kw rfl ?_
 refine AC rfl rfl rfl rfl <| ?_
 simp only [q2,q3]
 refine WN ?_
 change Code.wp _ _ _ _ _
 refine wp_seq ?_
 refine wp_seq ?_
 -- region 1
 refine wp_schedE E ([0, 2, 1, 3, 4, 5]) (by kernel_rfl) (by kernel_rfl) (by kernel_rfl) (by kernel_rfl) (by intro d v c a w h; cases d <;> exact h) ?_
 replace E := E.drew
 refine SW rfl rfl rfl rfl rfl (fun w hS => run_load_bx AgR rfl rfl (hS.2.1) rfl) <| SW rfl rfl rfl rfl rfl (fun w hS => run_load_bx AgR rfl rfl (hS.1) rfl) <| ?_
 simp only [q2,q3]
 refine S1a (o := ⟨some 8, _, _, _, _, _⟩) rfl rfl rfl rfl (Oper.wp_callN fn_rational_Sign rfl (Sign_q _ _ _ _ x _ (e5 E) (e4 E)) rfl E ?_)
 clear E
 intro w3 d3 E
 clear d3
 refine ⟨E, ?_⟩
 simp only [Act.put,q1,q2,q3]
 refine S1a (o := ⟨some 10, _, _, _, _, _⟩) rfl rfl rfl rfl (Oper.wp_callN fn_rational_Sign rfl (Sign_q _ _ _ _ y _ (e3 E) (E.2.2.1)) rfl E ?_)
 clear E
 intro w4 d4 E
 clear d4
 refine ⟨E, ?_⟩
 simp only [Act.put,q1,q2,q3]
 refine SA rfl rfl rfl rfl rfl rfl rfl rfl <| SA rfl rfl rfl rfl rfl rfl rfl rfl <| ?_
 simp only [q2,q3]
 refine SN ?_
 change Code.wp _ _ _ _ _
 refine wp_seq ?_
 by_cases h1 : (sgn x.num) = (sgn y.num)
 case pos =>
  -- region 2
  refine RL ?_
  refine M rfl rfl rfl rfl rfl <| M rfl rfl rfl rfl rfl <| V rfl rfl (run_neI (c := false) rfl rfl rfl (by rw [bne_eq_false_iff_eq]; exact h1)) <| ?_
  simp only [q2,q3]
  refine WN ?_
  change Code.wp _ _ _ _ _
  refine wp_cond_false rfl ?_
  refine wp_skip ?_
  change Code.wp _ _ _ _ _
  refine wp_seq ?_
  -- region 6
  have hB5_0 : b2 < w4.heap.size := Bx.lt (E.1)
  refine wp_schedF E [.op 0, .op 1, .op 2, .op 3, .op 6, .op 7, .op 8, .op 9, .av 4, .av 10, .op 4, .op 5, .op 10] 3 (#[true, true, true, true, true, true, true, true, true, true, true, false, false, false]) (by kernel_rfl) (by kernel_rfl) (by kernel_rfl) (by kernel_rfl) (by intro d v c a w h; cases d <;> exact h) (by intro d v c a w h; cases d <;> exact h) ?_
  refine FP (v := .pointer (some ⟨b1, 0, none⟩)) rfl rfl rfl rfl rfl (fun w hS => run_fieldR0 rfl rfl) <| FP (v := .agg #[.bool na, sa]) rfl rfl rfl rfl rfl (fun w hS => run_loadAt rfl rfl (hS.2.1) rfl rfl) <| FP (v := .pointer (some ⟨b2, 2, none⟩)) rfl rfl rfl rfl rfl (fun w hS => run_fieldR1 rfl rfl) <| FP (v := .agg #[.bool mb, tb]) rfl rfl rfl rfl rfl (fun w hS => run_loadAt rfl rfl (hS.1) rfl rfl) <| ?_
  simp only [q2,q3]
  refine FP (v := .pointer (some ⟨b2, 0, none⟩)) rfl rfl rfl rfl rfl (fun w hS => run_fieldR0 rfl rfl) <| FP (v := .agg #[.bool nb, sb]) rfl rfl rfl rfl rfl (fun w hS => run_loadAt rfl rfl (hS.1) rfl rfl) <| FP (v := .pointer (some ⟨b1, 2, none⟩)) rfl rfl rfl rfl rfl (fun w hS => run_fieldR1 rfl rfl) <| FP (v := .agg #[.bool ma, ta]) rfl rfl rfl rfl rfl (fun w hS => run_loadAt rfl rfl (hS.2.1) rfl rfl) <| FA _ (RunF.pair rfl rfl rfl rfl rfl) <| FA _ (RunF.pair rfl rfl rfl rfl rfl) <| ?_
  simp only [q2,q3]
  refine FF rfl rfl ?_
  intro b6 f6 u6
  have l6_0 : b2 < b6 := by omega
  simp only [q2,q3]
  clear E
  refine FE rfl rfl rfl rfl ?_
  intro w9 E
  refine Oper.wp_callI fn_rational_product rfl (product_z b6 _ _ _ _ x.num ((y.den : Nat) : Int) _ (e6 E) (e3 E) (E.1) (Fits.mono Fx.1 (by decide)) (Fits.mono Fy.2 (by decide))) rfl E ?_
  clear E
  intro w8 n8 s8 d8 E
  refine kF d8 E rfl ?_
  have F7 : Fits (x.num * ((y.den : Nat) : Int)) 200000000 := Fits_mul Fx.1 Fy.2
  simp only [q2,q3]
  refine FF rfl rfl ?_
  intro b10 f10 u10
  have l10_0 : b2 < b10 := by omega
  have v10_0 : b10 ≠ b6 := by rintro rfl; exact u10 (by simp)
  simp only [q2,q3]
  clear E
  intro w11 E
  refine H1 (i := 11) (by kernel_rfl) ?_
  refine HE (o := ⟨some 28, _, _, _, _, _⟩) rfl rfl (Oper.wp_callI fn_rational_product rfl (product_z b10 _ _ _ _ y.num ((x.den : Nat) : Int) _ (e6 E) (e7 E) (E.1) (Fits.mono Fy.1 (by decide)) (Fits.mono Fx.2 (by decide))) rfl E ?_)
  clear E
  intro w13 n13 s13 d13 E
  clear d13
  refine ⟨E.2.2.2.2, ?_⟩
  simp only [Act.put,q1,q2,q3]
  have F12 : Fits (y.num * ((x.den : Nat) : Int)) 200000000 := Fits_mul Fy.1 Fx.2
  refine H1 (i := 12) (by kernel_rfl) ?_
  refine HE (o := ⟨some 29, _, _, _, _, _⟩) rfl rfl (Oper.wp_callN fn_integer_Cmp rfl (Cmp_z _ _ (x.num * ((y.den : Nat) : Int)) (y.num * ((x.den : Nat) : Int)) _ (E.2.2.1) (E.1)) rfl E ?_)
  clear E
  intro w14 d14 E
  clear d14
  refine ⟨E.2.2.2.2, ?_⟩
  simp only [Act.put,q1,q2,q3]
  refine HP (i := 13) (o := ⟨some 4, _, _, _, _, _⟩) (v := .int .i64 (cmpI (x.num * ((y.den : Nat) : Int)) (y.num * ((x.den : Nat) : Int)))) rfl (by kernel_rfl) (fun _ _ _ h => h) rfl (fun w hS => run_assign rfl rfl) (E.2.2.2.2) ?_
  simp only [Act.put,q1,q2,q3]
  refine HN (by kernel_rfl) ?_
  change Code.wp _ _ _ _ _
  refine wp_ret ?_
  exact bodyPost_ret (v := .int .i64 (cmpI (x.num * ((y.den : Nat) : Int)) (y.num * ((x.den : Nat) : Int)))) (by simp [results, Tryz.results29, asAddr]) rfl ⟨rfl, e10 E⟩
 case neg =>
  by_cases h2 : (sgn x.num) < (sgn y.num)
  case pos =>
   -- region 2
   refine RL ?_
   refine M rfl rfl rfl rfl rfl <| M rfl rfl rfl rfl rfl <| V rfl rfl (run_neI (c := true) rfl rfl rfl (by rw [bne_iff_ne]; exact h1)) <| ?_
   simp only [q2,q3]
   refine WN ?_
   change Code.wp _ _ _ _ _
   refine wp_cond_true rfl ?_
   refine wp_seq ?_
   refine wp_seq ?_
   -- region 3
   refine RL ?_
   refine M rfl rfl rfl rfl rfl <| M rfl rfl rfl rfl rfl <| V rfl rfl (run_ltI (c := true) rfl rfl rfl (decide_eq_true h2)) <| ?_
   simp only [q2,q3]
   refine WN ?_
   change Code.wp _ _ _ _ _
   refine wp_cond_true rfl ?_
   refine wp_seq ?_
   -- region 4
   refine RL ?_
   refine AC rfl rfl rfl rfl <| ?_
   simp only [q2,q3]
   refine WN ?_
   change Code.wp _ _ _ _ _
   refine wp_ret ?_
   exact bodyPost_ret (v := .int .i64 (-1)) (by simp [results, Tryz.results29, asAddr]) rfl ⟨ret_i64 (cmpQ_slt h2).symm, e6 E⟩
  case neg =>
   -- region 2
   refine RL ?_
   refine M rfl rfl rfl rfl rfl <| M rfl rfl rfl rfl rfl <| V rfl rfl (run_neI (c := true) rfl rfl rfl (by rw [bne_iff_ne]; exact h1)) <| ?_
   simp only [q2,q3]
   refine WN ?_
   change Code.wp _ _ _ _ _
   refine wp_cond_true rfl ?_
   refine wp_seq ?_
   refine wp_seq ?_
   -- region 3
   refine RL ?_
   refine M rfl rfl rfl rfl rfl <| M rfl rfl rfl rfl rfl <| V rfl rfl (run_ltI (c := false) rfl rfl rfl (decide_eq_false h2)) <| ?_
   simp only [q2,q3]
   refine WN ?_
   change Code.wp _ _ _ _ _
   refine wp_cond_false rfl ?_
   refine wp_skip ?_
   change Code.wp _ _ _ _ _
   refine wp_seq ?_
   -- region 5
   refine RL ?_
   refine AC rfl rfl rfl rfl <| ?_
   simp only [q2,q3]
   refine WN ?_
   change Code.wp _ _ _ _ _
   refine wp_ret ?_
   exact bodyPost_ret (v := .int .i64 1) (by simp [results, Tryz.results29, asAddr]) rfl ⟨ret_i64 (cmpQ_sgt (by omega)).symm, e6 E⟩
set_option maxRecDepth 100000 in
set_option maxHeartbeats 8000000 in
theorem Floor_q  (na : Bool) (sa : Value) (ma : Bool) (ta : Value) (x : Rat)  (w : World)  (hna : IsI w (.agg #[.bool na, sa]) x.num) (hda : IsI w (.agg #[.bool ma, ta]) ((x.den : Nat) : Int)) (Fx : FitQ x 100000000) :
    Calls Tryz.prog 23 #[.agg #[.bool na, sa, .bool ma, ta]] w (RetZ w x.floor) := by
 have E := Env.start w
 replace E := (E.i hna).i hda
 clear hna hda
 go_enter Tryz.func23, Tryz.ntmps23
 refine wp_seq ?_
 -- region 0
 refine RL ?_
 refine EF rfl (Oper.wp_box (cs := [.bool na, sa, .bool ma, ta]) rfl rfl ?_)
 intro b1 w1 e1 z1 d1 x1
 have l1 : w.heap.size ≤ b1 := by rw [e1]; exact (E.2.2.1).size
 replace E := E.below d1
 clear e1 z1 d1
 replace E := E.x x1
 clear x1
 refine kw rfl ?_
 simp only [q2,q3]
 refine EF rfl (Oper.wp_alloc AgI rfl ?_)
 intro b2 w2 e2 z2 d2 x2
 have l2_0 : b1 < b2 := by rw [e2]; exact Bx.lt (E.1)
 replace E := E.below d2
 clear e2 z2 d2
 refine kw rfl ?_
 simp only [q2,q3]
 refine WN ?_
 change Code.wp _ _ _ _ _
 refine wp_seq ?_
 -- region 1
 refine RL ?_
 refine V rfl rfl (run_fieldR0 rfl rfl) <| V rfl rfl (run_loadAt rfl rfl (E.1) rfl rfl) <| V rfl rfl (run_fieldR1 rfl rfl) <| V rfl rfl (run_loadAt rfl rfl (E.1) rfl rfl) <| ?_
 simp only [q2,q3]
 refine EF rfl (Oper.wp_callIIE fn_integer_DivMod rfl (DivMod_z _ _ x.num ((x.den : Nat) : Int) _ (E.2.2.1) (E.2.1) (den_ne x) (Fits.mono Fx.1 (by decide)) (Fits.mono Fx.2 (by decide))) rfl E ?_)
 clear E
 intro w4 n4 s4 m4 t4 d4 E
 replace x2 := x2.below d4
 clear d4
 refine kw rfl ?_
 have F3 : Fits (x.num / ((x.den : Nat) : Int)) 100000000 := Fits_div (y := ((x.den : Nat) : Int)) Fx.1
 refine M rfl rfl rfl rfl rfl <| V rfl rfl (run_extract (vs := [.agg #[.bool n4, s4], .agg #[.bool m4, t4], .int .i64 0]) rfl rfl rfl) <| V rfl rfl (run_extract (vs := [.agg #[.bool n4, s4], .agg #[.bool m4, t4], .int .i64 0]) rfl rfl rfl) <| V rfl rfl (run_extract (vs := [.agg #[.bool n4, s4], .agg #[.bool m4, t4], .int .i64 0]) rfl rfl rfl) <| ?_
 simp only [q2,q3]
 refine EF rfl (Oper.wp_alloc AgI rfl ?_)
 intro b5 w5 e5 z5 d5 x5
 have l5_0 : b2 < b5 := by rw [e5]; exact Bx.lt (x2)
 replace E := E.below d5
 replace x2 := Bx.below x2 d5
 clear e5 z5 d5
 refine kw rfl ?_
 simp only [q2,q3]
 refine EF rfl (Oper.wp_alloc AgI rfl ?_)
 intro b6 w6 e6 z6 d6 x6
 have l6_0 : b5 < b6 := by rw [e6]; exact Bx.lt (x5)
 replace E := E.below d6
 replace x2 := Bx.below x2 d6
 replace x5 := Bx.below x5 d6
 clear e6 z6 d6
 refine kw rfl ?_
 simp only [q2,q3]
 refine EF rfl (Oper.wp_store AgI rfl rfl rfl x5 rfl rfl (IsI.one (E.2.1)) ?_)
 intro w7 o7 y7
 replace E := (E.onl (x5.noW now0) ⟨trivial, trivial, okX (by omega), trivial, trivial, okW (by omega), trivial⟩ o7).b y7
 replace x2 := Bx.onl x2 (by omega) o7
 replace x6 := Bx.onl x6 (by omega) o7
 clear x5 o7 y7
 refine kn rfl ?_
 refine EF rfl (Oper.wp_store AgI rfl rfl rfl x6 rfl rfl (IsI.one (E.2.1)) ?_)
 intro w8 o8 y8
 replace E := (E.onl (x6.noW now0) ⟨okB (by omega), trivial, trivial, okX (by omega), trivial, trivial, okW (by omega), trivial⟩ o8).b y8
 replace x2 := Bx.onl x2 (by omega) o8
 clear x6 o8 y8
 refine kn rfl ?_
 refine A rfl rfl rfl rfl rfl <| ?_
 simp only [q2,q3]
 refine WN ?_
 change Code.wp _ _ _ _ _
 refine wp_seq ?_
 -- region 2
 refine RL ?_
 refine V rfl rfl (run_load_bx AgI rfl rfl (E.2.1) rfl) <| ?_
 simp only [q2,q3]
 refine EF rfl (Oper.wp_store AgI rfl rfl rfl x2 rfl rfl (IsI.one (e3 E)) ?_)
 intro w9 o9 y9
 replace E := (E.onl (x2.noW now0) ⟨okB (by omega), okB (by omega), trivial, trivial, okX (by omega), trivial, trivial, okW (by omega), trivial⟩ o9).b y9
 clear x2 o9 y9
 refine kn rfl ?_
 refine WN ?_
 change Code.wp _ _ _ _ _
 refine wp_ret ?_
 have r10 := res_box AgI (E.1) rfl
 exact bodyPost_ret (v := .agg #[.bool n4, s4]) (by simp [results, Tryz.results23, asAddr, r10]) rfl ⟨_, rfl, eqZ (floorQ x) (e4 E), e8 E⟩
set_option maxRecDepth 100000 in
set_option maxHeartbeats 8000000 in
theorem Inv_zero  (na : Bool) (sa : Value) (ma : Bool) (ta : Value) (x : Rat)  (w : World)  (hna : IsI w (.agg #[.bool na, sa]) x.num) (hda : IsI w (.agg #[.bool ma, ta]) ((x.den : Nat) : Int)) (hx : x.num = 0) :
    Calls Tryz.prog 17 #[.agg #[.bool na, sa, .bool ma, ta]] w (RetPE w 0 0 10) := by
 have E := Env.start w
 replace E := (E.i hna).i hda
 clear hna hda
 go_enter Tryz.func17, Tryz.ntmps17
 refine wp_seq ?_
 -- region 0
 refine RL ?_
 refine EF rfl (Oper.wp_box (cs := [.bool na, sa, .bool ma, ta]) rfl rfl ?_)
 intro b1 w1 e1 z1 d1 x1
 have l1 : w.heap.size ≤ b1 := by rw [e1]; exact (E.2.2.1).size
 replace E := E.below d1
 clear e1 z1 d1
 replace E := E.x x1
 clear x1
 refine kw rfl ?_
 simp only [q2,q3]
 refine EF rfl (Oper.wp_alloc AgR rfl ?_)
 intro b2 w2 e2 z2 d2 x2
 have l2_0 : b1 < b2 := by rw [e2]; exact Bx.lt (E.1)
 replace E := E.below d2
 clear e2 z2 d2
 refine kw rfl ?_
 refine AC rfl rfl rfl rfl <| ?_
 simp only [q2,q3]
 refine WN ?_
 change Code.wp _ _ _ _ _
 refine wp_seq ?_
 refine wp_seq ?_
 -- region 1
 refine RL ?_
 refine V rfl rfl (run_fieldR0 rfl rfl) <| V rfl rfl (run_loadAt rfl rfl (E.1) rfl rfl) <| ?_
 simp only [q2,q3]
 refine EF rfl (Oper.wp_callN fn_integer_Sign rfl (Sign_z _ x.num _ (E.2.2.1)) rfl E ?_)
 clear E
 intro w3 d3 E
 replace x2 := x2.below d3
 clear d3
 refine kw rfl ?_
 simp only [q2,q3]
 refine WN ?_
 change Code.wp _ _ _ _ _
 refine wp_block ?_
 refine wp_seq ?_
 -- region 2
 refine RL ?_
 refine V rfl rfl (run_eqI (c := true) rfl rfl rfl (sgn_eq0 hx)) <| A rfl rfl rfl rfl rfl <| ?_
 simp only [q2,q3]
 refine WN ?_
 change Code.wp _ _ _ _ _
 refine wp_cond_true rfl ?_
 refine wp_seq ?_
 -- region 3
 refine RL ?_
 refine V (v := .agg #[.bool false, .slice none 0 0, .bool false, .slice none 0 0]) rfl rfl (run_buildR0 rfl) <| ?_
 simp only [q2,q3]
 refine EF rfl (Oper.wp_store AgR rfl rfl rfl x2 rfl rfl (one4 one0 one0) ?_)
 intro w4 o4 y4
 replace E := (E.onl (x2.noW (now4 now0 now0)) ⟨okX (by omega), trivial, trivial, okW (by omega), trivial⟩ o4).x y4
 clear x2 o4 y4
 refine kn rfl ?_
 refine AC rfl rfl rfl rfl <| ?_
 simp only [q2,q3]
 refine WN ?_
 change Code.wp _ _ _ _ _
 refine wp_ret ?_
 have r5 := res_box AgR (E.1) rfl
 exact bodyPost_ret (v := .tuple #[.agg #[.bool false, .slice none 0 0, .bool false, .slice none 0 0], .int .i64 10]) (by simp [results, Tryz.results17, asAddr, r5]) rfl ⟨_, _, _, _, rfl, eqZ rfl (zero_i _), eqZ rfl (zero_i _), e4 E⟩
set_option maxRecDepth 100000 in
set_option maxHeartbeats 8000000 in
theorem Inv_neg  (na : Bool) (sa : Value) (ma : Bool) (ta : Value) (x : Rat)  (w : World)  (hna : IsI w (.agg #[.bool na, sa]) x.num) (hda : IsI w (.agg #[.bool ma, ta]) ((x.den : Nat) : Int)) (hx : x.num < 0) (Fx : FitQ x 100000000) :
    Calls Tryz.prog 17 #[.agg #[.bool na, sa, .bool ma, ta]] w (RetPE w (x⁻¹).num (((x⁻¹).den : Nat) : Int) 0) := by
 have E := Env.start w
 replace E := (E.i hna).i hda
 clear hna hda
 go_enter Tryz.func17, Tryz.ntmps17
 refine wp_seq ?_
 -- region 0
 refine RL ?_
 refine EF rfl (Oper.wp_box (cs := [.bool na, sa, .bool ma, ta]) rfl rfl ?_)
 intro b1 w1 e1 z1 d1 x1
 have l1 : w.heap.size ≤ b1 := by rw [e1]; exact (E.2.2.1).size
 replace E := E.below d1
 clear e1 z1 d1
 replace E := E.x x1
 clear x1
 refine kw rfl ?_
 simp only [q2,q3]
 refine EF rfl (Oper.wp_alloc AgR rfl ?_)
 intro b2 w2 e2 z2 d2 x2
 have l2_0 : b1 < b2 := by rw [e2]; exact Bx.lt (E.1)
 replace E := E.below d2
 clear e2 z2 d2
 refine kw rfl ?_
 refine AC rfl rfl rfl rfl <| ?_
 simp only [q2,q3]
 refine WN ?_
 change Code.wp _ _ _ _ _
 refine wp_seq ?_
 refine wp_seq ?_
 -- region 1
 refine RL ?_
 refine V rfl rfl (run_fieldR0 rfl rfl) <| V rfl rfl (run_loadAt rfl rfl (E.1) rfl rfl) <| ?_
 simp only [q2,q3]
 refine EF rfl (Oper.wp_callN fn_integer_Sign rfl (Sign_z _ x.num _ (E.2.2.1)) rfl E ?_)
 clear E
 intro w3 d3 E
 replace x2 := x2.below d3
 clear d3
 refine kw rfl ?_
 simp only [q2,q3]
 refine WN ?_
 change Code.wp _ _ _ _ _
 refine wp_block ?_
 refine wp_seq ?_
 -- region 2
 refine RL ?_
 refine V rfl rfl (run_eqI (c := false) rfl rfl rfl (sgn_ne0 (by omega))) <| A rfl rfl rfl rfl rfl <| ?_
 simp only [q2,q3]
 refine WN ?_
 change Code.wp _ _ _ _ _
 refine wp_cond_false rfl ?_
 refine wp_seq ?_
 -- region 4
 refine RL ?_
 refine V rfl rfl (run_eqI (c := true) rfl rfl rfl (sgn_eqm hx)) <| A rfl rfl rfl rfl rfl <| ?_
 simp only [q2,q3]
 refine WN ?_
 change Code.wp _ _ _ _ _
 refine wp_cond_true rfl ?_
 refine wp_seq ?_
 -- region 5
 refine wp_schedE E ([0, 1, 3, 4, 2, 5, 6, 7, 8]) (by kernel_rfl) (by kernel_rfl) (by kernel_rfl) (by kernel_rfl) (by intro d v c a w h; cases d <;> exact h) ?_
 replace E := E.drew
 replace x2 := Bx.drew x2
 refine SW rfl rfl rfl rfl rfl (fun w hS => run_fieldR1 rfl rfl) <| SW rfl rfl rfl rfl rfl (fun w hS => run_loadAt rfl rfl (hS.1) rfl rfl) <| SW rfl rfl rfl rfl rfl (fun w hS => run_fieldR0 rfl rfl) <| SW rfl rfl rfl rfl rfl (fun w hS => run_loadAt rfl rfl (hS.1) rfl rfl) <| ?_
 simp only [q2,q3]
 refine S1a (o := ⟨some 14, _, _, _, _, _⟩) rfl rfl rfl rfl (Oper.wp_callI fn_integer_Neg rfl (Neg_z _ ((x.den : Nat) : Int) _ (E.2.1) (Fits.mono Fx.2 (by decide))) rfl E ?_)
 clear E
 intro w5 n5 s5 d5 E
 replace x2 := x2.below d5
 clear d5
 refine ⟨E.2, ?_⟩
 simp only [Act.put,q1,q2,q3]
 have F4 : Fits (-((x.den : Nat) : Int)) 100000000 := Fits_neg Fx.2
 refine S1a (o := ⟨some 17, _, _, _, _, _⟩) rfl rfl rfl rfl (Oper.wp_callI fn_integer_Neg rfl (Neg_z _ x.num _ (e3 E) (Fits.mono Fx.1 (by decide))) rfl E ?_)
 clear E
 intro w7 n7 s7 d7 E
 replace x2 := x2.below d7
 clear d7
 refine ⟨E.2.2, ?_⟩
 simp only [Act.put,q1,q2,q3]
 have F6 : Fits (-x.num) 100000000 := Fits_neg Fx.1
 refine SW (v := .agg #[.bool n5, s5, .bool n7, s7]) rfl rfl rfl rfl rfl (fun w hS => run_buildR rfl rfl rfl) <| ?_
 simp only [q2,q3]
 refine S1a (o := ⟨none, _, _, _, _, _⟩) rfl rfl rfl rfl (Oper.wp_store AgR rfl rfl rfl x2 rfl rfl (one4 (IsI.one (E.2.1)) (IsI.one (E.1))) ?_)
 intro w8 o8 y8
 replace E := (E.onl (x2.noW (now4 now0 now0)) ⟨trivial, trivial, okX (by omega), trivial, trivial, okW (by omega), trivial⟩ o8).x y8
 clear x2 o8 y8
 refine ⟨E.2.2.2, ?_⟩
 simp only [Act.put]
 refine SAC rfl rfl rfl rfl rfl rfl rfl <| ?_
 simp only [q2,q3]
 refine SN ?_
 change Code.wp _ _ _ _ _
 refine wp_ret ?_
 have r9 := res_box AgR (E.1) rfl
 exact bodyPost_ret (v := .tuple #[.agg #[.bool n5, s5, .bool n7, s7], .int .i64 0]) (by simp [results, Tryz.results17, asAddr, r9]) rfl ⟨_, _, _, _, rfl, eqZ ((invQ_neg hx).1.symm) (E.2.2.1), eqZ ((invQ_neg hx).2.symm) (E.2.1), e6 E⟩
set_option maxRecDepth 100000 in
set_option maxHeartbeats 8000000 in
theorem Inv_pos  (na : Bool) (sa : Value) (ma : Bool) (ta : Value) (x : Rat)  (w : World)  (hna : IsI w (.agg #[.bool na, sa]) x.num) (hda : IsI w (.agg #[.bool ma, ta]) ((x.den : Nat) : Int)) (hx : 0 < x.num) (_ : FitQ x 100000000) :
    Calls Tryz.prog 17 #[.agg #[.bool na, sa, .bool ma, ta]] w (RetPE w (x⁻¹).num (((x⁻¹).den : Nat) : Int) 0) := by
 have E := Env.start w
 replace E := (E.i hna).i hda
 clear hna hda
 go_enter Tryz.func17, Tryz.ntmps17
 refine wp_seq ?_
 -- region 0
 refine RL ?_
 refine EF rfl (Oper.wp_box (cs := [.bool na, sa, .bool ma, ta]) rfl rfl ?_)
 intro b1 w1 e1 z1 d1 x1
 have l1 : w.heap.size ≤ b1 := by rw [e1]; exact (E.2.2.1).size
 replace E := E.below d1
 clear e1 z1 d1
 replace E := E.x x1
 clear x1
 refine kw rfl ?_
 simp only [q2,q3]
 refine EF rfl (Oper.wp_alloc AgR rfl ?_)
 intro b2 w2 e2 z2 d2 x2
 have l2_0 : b1 < b2 := by rw [e2]; exact Bx.lt (E.1)
 replace E := E.below d2
 clear e2 z2 d2
 refine kw rfl ?_
 refine AC rfl rfl rfl rfl <| ?_
 simp only [q2,q3]
 refine WN ?_
 change Code.wp _ _ _ _ _
 refine wp_seq ?_
 refine wp_seq ?_
 -- region 1
 refine RL ?_
 refine V rfl rfl (run_fieldR0 rfl rfl) <| V rfl rfl (run_loadAt rfl rfl (E.1) rfl rfl) <| ?_
 simp only [q2,q3]
 refine EF rfl (Oper.wp_callN fn_integer_Sign rfl (Sign_z _ x.num _ (E.2.2.1)) rfl E ?_)
 clear E
 intro w3 d3 E
 replace x2 := x2.below d3
 clear d3
 refine kw rfl ?_
 simp only [q2,q3]
 refine WN ?_
 change Code.wp _ _ _ _ _
 refine wp_block ?_
 refine wp_seq ?_
 -- region 2
 refine RL ?_
 refine V rfl rfl (run_eqI (c := false) rfl rfl rfl (sgn_ne0 (by omega))) <| A rfl rfl rfl rfl rfl <| ?_
 simp only [q2,q3]
 refine WN ?_
 change Code.wp _ _ _ _ _
 refine wp_cond_false rfl ?_
 refine wp_seq ?_
 -- region 4
 refine RL ?_
 refine V rfl rfl (run_eqI (c := false) rfl rfl rfl (sgn_nem hx)) <| A rfl rfl rfl rfl rfl <| ?_
 simp only [q2,q3]
 refine WN ?_
 change Code.wp _ _ _ _ _
 refine wp_cond_false rfl ?_
 refine wp_skip ?_
 change Code.wp _ _ _ _ _
 refine wp_seq ?_
 -- region 6
 refine RL ?_
 refine V rfl rfl (run_fieldR1 rfl rfl) <| V rfl rfl (run_loadAt rfl rfl (E.1) rfl rfl) <| V rfl rfl (run_fieldR0 rfl rfl) <| V rfl rfl (run_loadAt rfl rfl (E.1) rfl rfl) <| ?_
 simp only [q2,q3]
 refine V (v := .agg #[.bool ma, ta, .bool na, sa]) rfl rfl (run_buildR rfl rfl rfl) <| ?_
 simp only [q2,q3]
 refine EF rfl (Oper.wp_store AgR rfl rfl rfl x2 rfl rfl (one4 (IsI.one (E.2.1)) (IsI.one (E.2.2.1))) ?_)
 intro w4 o4 y4
 replace E := (E.onl (x2.noW (now4 now0 now0)) ⟨okX (by omega), trivial, trivial, okW (by omega), trivial⟩ o4).x y4
 clear x2 o4 y4
 refine kn rfl ?_
 refine AC rfl rfl rfl rfl <| ?_
 simp only [q2,q3]
 refine WN ?_
 change Code.wp _ _ _ _ _
 refine wp_ret ?_
 have r5 := res_box AgR (E.1) rfl
 exact bodyPost_ret (v := .tuple #[.agg #[.bool ma, ta, .bool na, sa], .int .i64 0]) (by simp [results, Tryz.results17, asAddr, r5]) rfl ⟨_, _, _, _, rfl, eqZ ((invQ_pos hx).1.symm) (E.2.2.1), eqZ ((invQ_pos hx).2.symm) (e3 E), e4 E⟩
theorem Inv_q (na : Bool) (sa : Value) (ma : Bool) (ta : Value) (x : Rat) (w : World) (hna : IsI w (.agg #[.bool na, sa]) x.num) (hda : IsI w (.agg #[.bool ma, ta]) ((x.den : Nat) : Int)) (hx : x ≠ 0) (Fx : FitQ x 100000000) :
    Calls Tryz.prog 17 #[.agg #[.bool na, sa, .bool ma, ta]] w (RetPE w (x⁻¹).num (((x⁻¹).den : Nat) : Int) 0) := by
  rcases Int.lt_trichotomy x.num 0 with h | h | h
  · exact Inv_neg _ _ _ _ _ _ hna hda h Fx
  · exact absurd h (num_ne hx)
  · exact Inv_pos _ _ _ _ _ _ hna hda h Fx
set_option maxRecDepth 100000 in
set_option maxHeartbeats 8000000 in
theorem Div_zero  (na : Bool) (sa : Value) (ma : Bool) (ta : Value) (x : Rat) (nb : Bool) (sb : Value) (mb : Bool) (tb : Value) (y : Rat)  (w : World)  (hna : IsI w (.agg #[.bool na, sa]) x.num) (hda : IsI w (.agg #[.bool ma, ta]) ((x.den : Nat) : Int)) (hnb : IsI w (.agg #[.bool nb, sb]) y.num) (hdb : IsI w (.agg #[.bool mb, tb]) ((y.den : Nat) : Int)) (hy : y.num = 0) :
    Calls Tryz.prog 19 #[.agg #[.bool na, sa, .bool ma, ta], .agg #[.bool nb, sb, .bool mb, tb]] w (RetPE w 0 0 10) := by
 have E := Env.start w
 replace E := (E.i hna).i hda
 clear hna hda
 replace E := (E.i hnb).i hdb
 clear hnb hdb
 go_enter Tryz.func19, Tryz.ntmps19
 refine wp_seq ?_
 -- region 0
 refine RL ?_
 refine EF rfl (Oper.wp_box (cs := [.bool na, sa, .bool ma, ta]) rfl rfl ?_)
 intro b1 w1 e1 z1 d1 x1
 have l1 : w.heap.size ≤ b1 := by rw [e1]; exact (e4 E).size
 replace E := E.below d1
 clear e1 z1 d1
 replace E := E.x x1
 clear x1
 refine kw rfl ?_
 simp only [q2,q3]
 refine EF rfl (Oper.wp_box (cs := [.bool nb, sb, .bool mb, tb]) rfl rfl ?_)
 intro b2 w2 e2 z2 d2 x2
 have l2_0 : b1 < b2 := by rw [e2]; exact Bx.lt (E.1)
 replace E := E.below d2
 clear e2 z2 d2
 replace E := E.x x2
 clear x2
 refine kw rfl ?_
 simp only [q2,q3]
 refine EF rfl (Oper.wp_alloc AgR rfl ?_)
 intro b3 w3 e3 z3 d3 x3
 have l3_0 : b2 < b3 := by rw [e3]; exact Bx.lt (E.1)
 replace E := E.below d3
 clear e3 z3 d3
 refine kw rfl ?_
 refine AC rfl rfl rfl rfl <| ?_
 simp only [q2,q3]
 refine WN ?_
 change Code.wp _ _ _ _ _
 refine wp_seq ?_
 -- region 1
 refine RL ?_
 refine V rfl rfl (run_load_bx AgR rfl rfl (E.1) rfl) <| ?_
 simp only [q2,q3]
 refine EF rfl (Oper.wp_callPE fn_rational_Inv rfl (Inv_zero _ _ _ _ y _ (e3 E) (E.2.2.1) hy) rfl E ?_)
 clear E
 intro w4 n4 s4 m4 t4 d4 E
 replace x3 := x3.below d4
 clear d4
 refine kw rfl ?_
 refine M rfl rfl rfl rfl rfl <| V rfl rfl (run_extract (vs := [.agg #[.bool n4, s4, .bool m4, t4], .int .i64 10]) rfl rfl rfl) <| V rfl rfl (run_extract (vs := [.agg #[.bool n4, s4, .bool m4, t4], .int .i64 10]) rfl rfl rfl) <| ?_
 simp only [q2,q3]
 refine EF rfl (Oper.wp_alloc AgR rfl ?_)
 intro b5 w5 e5 z5 d5 x5
 have l5_0 : b3 < b5 := by rw [e5]; exact Bx.lt (x3)
 replace E := E.below d5
 replace x3 := Bx.below x3 d5
 clear e5 z5 d5
 refine kw rfl ?_
 simp only [q2,q3]
 refine EF rfl (Oper.wp_store AgR rfl rfl rfl x5 rfl rfl (one4 (IsI.one (E.2.1)) (IsI.one (E.1))) ?_)
 intro w6 o6 y6
 replace E := (E.onl (x5.noW (now4 now0 now0)) ⟨trivial, trivial, okX (by omega), okX (by omega), trivial, trivial, trivial, trivial, okW (by omega), trivial⟩ o6).x y6
 replace x3 := Bx.onl x3 (by omega) o6
 clear x5 o6 y6
 refine kn rfl ?_
 refine A rfl rfl rfl rfl rfl <| ?_
 simp only [q2,q3]
 refine WN ?_
 change Code.wp _ _ _ _ _
 refine wp_seq ?_
 refine wp_seq ?_
 -- region 2
 refine RL ?_
 refine M rfl rfl rfl rfl rfl <| V rfl rfl (run_neI (c := true) rfl rfl rfl (by decide)) <| ?_
 simp only [q2,q3]
 refine WN ?_
 change Code.wp _ _ _ _ _
 refine wp_cond_true rfl ?_
 refine wp_seq ?_
 -- region 3
 refine RL ?_
 refine V (v := .agg #[.bool false, .slice none 0 0, .bool false, .slice none 0 0]) rfl rfl (run_buildR0 rfl) <| M rfl rfl rfl rfl rfl <| ?_
 simp only [q2,q3]
 refine EF rfl (Oper.wp_store AgR rfl rfl rfl x3 rfl rfl (one4 one0 one0) ?_)
 intro w7 o7 y7
 replace E := (E.onl (x3.noW (now4 now0 now0)) ⟨okX (by omega), trivial, trivial, okX (by omega), okX (by omega), trivial, trivial, trivial, trivial, okW (by omega), trivial⟩ o7).x y7
 clear x3 o7 y7
 refine kn rfl ?_
 refine A rfl rfl rfl rfl rfl <| ?_
 simp only [q2,q3]
 refine WN ?_
 change Code.wp _ _ _ _ _
 refine wp_ret ?_
 have r8 := res_box AgR (E.1) rfl
 exact bodyPost_ret (v := .tuple #[.agg #[.bool false, .slice none 0 0, .bool false, .slice none 0 0], .int .i64 10]) (by simp [results, Tryz.results19, asAddr, r8]) rfl ⟨_, _, _, _, rfl, eqZ rfl (zero_i _), eqZ rfl (zero_i _), e10 E⟩
set_option maxRecDepth 100000 in
set_option maxHeartbeats 8000000 in
theorem Div_q  (na : Bool) (sa : Value) (ma : Bool) (ta : Value) (x : Rat) (nb : Bool) (sb : Value) (mb : Bool) (tb : Value) (y : Rat)  (w : World)  (hna : IsI w (.agg #[.bool na, sa]) x.num) (hda : IsI w (.agg #[.bool ma, ta]) ((x.den : Nat) : Int)) (hnb : IsI w (.agg #[.bool nb, sb]) y.num) (hdb : IsI w (.agg #[.bool mb, tb]) ((y.den : Nat) : Int)) (hy : y ≠ 0) (Fx : FitQ x 100000000) (Fy : FitQ y 100000000) :
    Calls Tryz.prog 19 #[.agg #[.bool na, sa, .bool ma, ta], .agg #[.bool nb, sb, .bool mb, tb]] w (RetPE w (x / y).num (((x / y).den : Nat) : Int) 0) := by
 have E := Env.start w
 replace E := (E.i hna).i hda
 clear hna hda
 replace E := (E.i hnb).i hdb
 clear hnb hdb
 go_enter Tryz.func19, Tryz.ntmps19
 refine wp_seq ?_
 -- region 0
 refine RL ?_
 refine EF rfl (Oper.wp_box (cs := [.bool na, sa, .bool ma, ta]) rfl rfl ?_)
 intro b1 w1 e1 z1 d1 x1
 have l1 : w.heap.size ≤ b1 := by rw [e1]; exact (e4 E).size
 replace E := E.below d1
 clear e1 z1 d1
 replace E := E.x x1
 clear x1
 refine kw rfl ?_
 simp only [q2,q3]
 refine EF rfl (Oper.wp_box (cs := [.bool nb, sb, .bool mb, tb]) rfl rfl ?_)
 intro b2 w2 e2 z2 d2 x2
 have l2_0 : b1 < b2 := by rw [e2]; exact Bx.lt (E.1)
 replace E := E.below d2
 clear e2 z2 d2
 replace E := E.x x2
 clear x2
 refine kw rfl ?_
 simp only [q2,q3]
 refine EF rfl (Oper.wp_alloc AgR rfl ?_)
 intro b3 w3 e3 z3 d3 x3
 have l3_0 : b2 < b3 := by rw [e3]; exact Bx.lt (E.1)
 replace E := E.below d3
 clear e3 z3 d3
 refine kw rfl ?_
 refine AC rfl rfl rfl rfl <| ?_
 simp only [q2,q3]
 refine WN ?_
 change Code.wp _ _ _ _ _
 refine wp_seq ?_
 -- region 1
 refine RL ?_
 refine V rfl rfl (run_load_bx AgR rfl rfl (E.1) rfl) <| ?_
 simp only [q2,q3]
 refine EF rfl (Oper.wp_callPE fn_rational_Inv rfl (Inv_q _ _ _ _ y _ (e3 E) (E.2.2.1) hy (FitQ.mono Fy (by decide))) rfl E ?_)
 clear E
 intro w5 n5 s5 m5 t5 d5 E
 replace x3 := x3.below d5
 clear d5
 refine kw rfl ?_
 have F4 : FitQ (y⁻¹) 100000000 := FitQ_inv hy Fy
 refine M rfl rfl rfl rfl rfl <| V rfl rfl (run_extract (vs := [.agg #[.bool n5, s5, .bool m5, t5], .int .i64 0]) rfl rfl rfl) <| V rfl rfl (run_extract (vs := [.agg #[.bool n5, s5, .bool m5, t5], .int .i64 0]) rfl rfl rfl) <| ?_
 simp only [q2,q3]
 refine EF rfl (Oper.wp_alloc AgR rfl ?_)
 intro b6 w6 e6 z6 d6 x6
 have l6_0 : b3 < b6 := by rw [e6]; exact Bx.lt (x3)
 replace E := E.below d6
 replace x3 := Bx.below x3 d6
 clear e6 z6 d6
 refine kw rfl ?_
 simp only [q2,q3]
 refine EF rfl (Oper.wp_store AgR rfl rfl rfl x6 rfl rfl (one4 (IsI.one (E.2.1)) (IsI.one (E.1))) ?_)
 intro w7 o7 y7
 replace E := (E.onl (x6.noW (now4 now0 now0)) ⟨trivial, trivial, okX (by omega), okX (by omega), trivial, trivial, trivial, trivial, okW (by omega), trivial⟩ o7).x y7
 replace x3 := Bx.onl x3 (by omega) o7
 clear x6 o7 y7
 refine kn rfl ?_
 refine A rfl rfl rfl rfl rfl <| ?_
 simp only [q2,q3]
 refine WN ?_
 change Code.wp _ _ _ _ _
 refine wp_seq ?_
 refine wp_seq ?_
 -- region 2
 refine RL ?_
 refine M rfl rfl rfl rfl rfl <| V rfl rfl (run_neI (c := false) rfl rfl rfl (by decide)) <| ?_
 simp only [q2,q3]
 refine WN ?_
 change Code.wp _ _ _ _ _
 refine wp_cond_false rfl ?_
 refine wp_skip ?_
 change Code.wp _ _ _ _ _
 refine wp_seq ?_
 -- region 4
 refine RL ?_
 refine V rfl rfl (run_load_bx AgR rfl rfl (e4 E) rfl) <| V rfl rfl (run_load_bx AgR rfl rfl (E.1) rfl) <| ?_
 simp only [q2,q3]
 refine EF rfl (Oper.wp_callP fn_rational_Mul rfl (Mul_q _ _ _ _ x _ _ _ _ (y⁻¹) _ (e8 E) (e7 E) (E.2.2.1) (E.2.1) (FitQ.mono Fx (by decide)) (FitQ.mono F4 (by decide))) rfl E ?_)
 clear E
 intro w9 n9 s9 m9 t9 d9 E
 replace x3 := x3.below d9
 clear d9
 refine kw rfl ?_
 have F8 : FitQ (x * (y⁻¹)) 200000000 := FitQ_mul Fx F4
 simp only [q2,q3]
 refine EF rfl (Oper.wp_store AgR rfl rfl rfl x3 rfl rfl (one4 (IsI.one (E.2.1)) (IsI.one (E.1))) ?_)
 intro w10 o10 y10
 replace E := (E.onl (x3.noW (now4 now0 now0)) ⟨trivial, trivial, okX (by omega), trivial, trivial, okX (by omega), okX (by omega), trivial, trivial, trivial, trivial, okW (by omega), trivial⟩ o10).x y10
 clear x3 o10 y10
 refine kn rfl ?_
 refine AC rfl rfl rfl rfl <| ?_
 simp only [q2,q3]
 refine WN ?_
 change Code.wp _ _ _ _ _
 refine wp_ret ?_
 have r11 := res_box AgR (E.1) rfl
 exact bodyPost_ret (v := .tuple #[.agg #[.bool n9, s9, .bool m9, t9], .int .i64 0]) (by simp [results, Tryz.results19, asAddr, r11]) rfl ⟨_, _, _, _, rfl, eqZ rfl (E.2.2.1), eqZ rfl (E.2.1), e12 E⟩
end Go.Proofs.YtndpjfhhigpbhaaGreat
