/- Walk: the law IntegerDivides. (Printed by g_divs.py.) -/
import Derived.Test.YtjgmfdenicbniaaLawC
namespace Go.Proofs.Ytjgmfdenicbniaa
open Go.RowKit W
theorem eqI {w : World} {v : Value} {z z' : Int} (h : z = z') (f : IsI w v z) : IsI w v z' := h ▸ f
theorem abs_i {w : World} {n : Bool} {s : Value} {z : Int} (h : IsI w (.agg #[.bool n, s]) z) : IsI w (.agg #[.bool false, s]) (z.natAbs : Int) :=
  ⟨s, by rw [decide_eq_false (by omega)], by rw [Int.natAbs_natCast]; exact h.sl⟩
theorem run_buildIm {ρ : Operand → Value} {o : Oper} {w : World} {x : Operand} {v : Value} {ao : Option Addr} {n c : Nat} (ho : o.op = .build 24 #[(1, x)]) (hx : ρ x = v) (hv : v = .slice ao n c) : (execOp ρ o).run Try.prog w = .ok (.value (.agg #[.bool false, v])) w := by
  subst hv
  unfold execOp; rw [ho]
  have hi : (zeroValue 24).run Try.prog w = .ok (.agg #[.bool false, .slice none 0 0]) w := by kernel_rfl
  simp [go_sem, hi, hx]
theorem bne_f' {m n : Int} (h : m = n) : (m != n) = false := by subst h; simp
theorem dm1 (a b : Int) : a / b * b + a % b = a := by have h := Int.emod_def a b; have h2 := Int.mul_comm b (a / b); omega
theorem emod_ltA (a : Int) {b : Int} (hb : b ≠ 0) : a % b < (b.natAbs : Int) := by have := Int.emod_lt a hb; omega
theorem dm2 (a b c : Int) (hb : b ≠ 0) : (c * b + a % b) / b = c := by
  rw [Int.add_comm, Int.add_mul_ediv_right _ _ hb]
  have h0 := Int.emod_nonneg a hb
  have h1 := emod_ltA a hb
  have : a % b / b = 0 := by
    by_cases h : 0 < b
    · exact Int.ediv_eq_zero_of_lt h0 (by omega)
    · have h2 : a % b / -b = 0 := Int.ediv_eq_zero_of_lt h0 (by omega)
      rw [Int.ediv_neg] at h2; omega
  omega
theorem dm3 (a b c : Int) (hb : b ≠ 0) : (c * b + a % b) % b = a % b := by
  have h := Int.emod_def (c * b + a % b) b
  rw [dm2 a b c hb, Int.mul_comm b c] at h; omega
set_option maxRecDepth 100000 in
set_option maxHeartbeats 8000000 in
theorem divs_t  (na : Bool) (sa : Value) (la : List Nat) (nb : Bool) (sb : Value) (lb : List Nat) (nc : Bool) (sc : Value) (lc : List Nat)  (w : World)  (hsa : Sl w sa la) (hsb : Sl w sb lb) (hsc : Sl w sc lc) :
    Calls Try.prog 6 #[.agg #[.bool na, sa], .agg #[.bool nb, sb], .agg #[.bool nc, sc]] w (RetB w true) := by
 have E := Env.start w
 obtain ⟨a, ha⟩ : ∃ z, mkI na la 10 = z := ⟨_, rfl⟩
 have Fa : Fits a 10 := by rw [← ha]; exact mkI_fits hsa.wd
 obtain ⟨b, hb⟩ : ∃ z, mkI nb lb 6 = z := ⟨_, rfl⟩
 have Fb : Fits b 6 := by rw [← hb]; exact mkI_fits hsb.wd
 obtain ⟨c, hc⟩ : ∃ z, mkI nc lc 6 = z := ⟨_, rfl⟩
 have Fc : Fits c 6 := by rw [← hc]; exact mkI_fits hsc.wd
 go_enter Try.func6, Try.ntmps6
 refine wp_seq ?_
 -- region 0
 refine wp_region_lit ?_
 refine L1 rfl (Oper.wp_box (cs := [.bool na, sa]) rfl rfl ?_)
 intro b1 w1 e1 z1 d1 x1
 have l1 : w.heap.size ≤ b1 := by rw [e1]; exact (E.1).size
 replace E := E.below d1
 clear e1 z1 d1
 replace E := E.x x1
 clear x1
 simp only [Act.put,q1,q2,q3]
 refine L1 rfl (Oper.wp_box (cs := [.bool nb, sb]) rfl rfl ?_)
 intro b2 w2 e2 z2 d2 x2
 have l2_0 : b1 < b2 := by rw [e2]; exact Bx.lt (E.1)
 replace E := E.below d2
 clear e2 z2 d2
 replace E := E.x x2
 clear x2
 simp only [Act.put,q1,q2,q3]
 refine L1 rfl (Oper.wp_box (cs := [.bool nc, sc]) rfl rfl ?_)
 intro b3 w3 e3 z3 d3 x3
 have l3_0 : b2 < b3 := by rw [e3]; exact Bx.lt (E.1)
 replace E := E.below d3
 clear e3 z3 d3
 replace E := E.x x3
 clear x3
 simp only [Act.put,q1,q2,q3]
 refine LV (v := .bool false) rfl (run_assign rfl rfl) ?_
 simp only [Act.put,q1,q2,q3]
 refine wpList_nil ?_
 change Code.wp _ _ _ _ _
 refine wp_seq ?_
 -- region 1
 refine wp_region_lit ?_
 refine L1 rfl (Oper.wp_callB fn_elaw01_sanity rfl (sanity_t _) rfl E ?_)
 clear E
 intro w4 d4 E
 clear d4
 simp only [Act.put,q1,q2,q3]
 refine LV (v := .bool true) rfl (run_assign rfl rfl) ?_
 simp only [Act.put,q1,q2,q3]
 refine wpList_nil ?_
 change Code.wp _ _ _ _ _
 refine wp_seq ?_
 refine wp_seq ?_
 -- region 2
 refine wp_region_lit ?_
 refine LV (v := .bool true) rfl (run_move rfl rfl) ?_
 simp only [Act.put,q1,q2,q3]
 refine LV (v := .bool false) rfl (run_not (b := true) rfl rfl) ?_
 simp only [Act.put,q1,q2,q3]
 refine wpList_nil ?_
 change Code.wp _ _ _ _ _
 refine wp_cond_false rfl ?_
 refine wp_skip ?_
 change Code.wp _ _ _ _ _
 refine wp_seq ?_
 -- region 4
 refine wp_region_lit ?_
 refine LV (v := .agg #[.bool na, sa]) rfl (run_load_bx AgRaw rfl rfl (E.2.2.1) rfl) ?_
 simp only [Act.put,q1,q2,q3]
 refine L1 rfl (Oper.wp_callI fn_eref01_Made rfl (Made_is na sa la 10 _ (Sl.below hsa (E.2.2.2.1)) (by decide) ha) rfl E ?_)
 clear E
 intro w5 n5 s5 d5 E
 clear d5
 simp only [Act.put,q1,q2,q3]
 refine L1 rfl (Oper.wp_alloc AgI rfl ?_)
 intro b6 w6 e6 z6 d6 x6
 have l6_0 : b3 < b6 := by rw [e6]; exact Bx.lt (E.2.1)
 replace E := E.below d6
 clear e6 z6 d6
 simp only [Act.put,q1,q2,q3]
 refine L1 rfl (Oper.wp_store AgI rfl rfl rfl x6 rfl rfl (IsI.one (E.1)) ?_)
 intro w7 o7 y7
 replace E := (E.onl (x6.noW now0) ⟨trivial, okX (by omega), okX (by omega), okX (by omega), okW (by omega), trivial⟩ o7).b y7
 clear x6 o7 y7
 simp only [Act.put]
 refine wpList_nil ?_
 change Code.wp _ _ _ _ _
 refine wp_seq ?_
 -- region 5
 refine wp_region_lit ?_
 refine LV (v := .agg #[.bool nb, sb]) rfl (run_load_bx AgRaw rfl rfl (E.2.2.2.1) rfl) ?_
 simp only [Act.put,q1,q2,q3]
 refine L1 rfl (Oper.wp_callI fn_eref01_Made rfl (Made_is nb sb lb 6 _ (Sl.below hsb (E.2.2.2.2.2.1)) (by decide) hb) rfl E ?_)
 clear E
 intro w8 n8 s8 d8 E
 clear d8
 simp only [Act.put,q1,q2,q3]
 refine L1 rfl (Oper.wp_alloc AgI rfl ?_)
 intro b9 w9 e9 z9 d9 x9
 have l9_0 : b6 < b9 := by rw [e9]; exact Bx.lt (E.2.1)
 replace E := E.below d9
 clear e9 z9 d9
 simp only [Act.put,q1,q2,q3]
 refine L1 rfl (Oper.wp_store AgI rfl rfl rfl x9 rfl rfl (IsI.one (E.1)) ?_)
 intro w10 o10 y10
 replace E := (E.onl (x9.noW now0) ⟨trivial, okB (by omega), trivial, okX (by omega), okX (by omega), okX (by omega), okW (by omega), trivial⟩ o10).b y10
 clear x9 o10 y10
 simp only [Act.put]
 refine wpList_nil ?_
 change Code.wp _ _ _ _ _
 refine wp_seq ?_
 -- region 6
 refine wp_region_lit ?_
 refine LV (v := .agg #[.bool nc, sc]) rfl (run_load_bx AgRaw rfl rfl (E.2.2.2.2.1) rfl) ?_
 simp only [Act.put,q1,q2,q3]
 refine L1 rfl (Oper.wp_callI fn_eref01_Made rfl (Made_is nc sc lc 6 _ (Sl.below hsc (E.2.2.2.2.2.2.2.1)) (by decide) hc) rfl E ?_)
 clear E
 intro w11 n11 s11 d11 E
 clear d11
 simp only [Act.put,q1,q2,q3]
 refine L1 rfl (Oper.wp_alloc AgI rfl ?_)
 intro b12 w12 e12 z12 d12 x12
 have l12_0 : b9 < b12 := by rw [e12]; exact Bx.lt (E.2.1)
 replace E := E.below d12
 clear e12 z12 d12
 simp only [Act.put,q1,q2,q3]
 refine L1 rfl (Oper.wp_store AgI rfl rfl rfl x12 rfl rfl (IsI.one (E.1)) ?_)
 intro w13 o13 y13
 replace E := (E.onl (x12.noW now0) ⟨trivial, okB (by omega), trivial, okB (by omega), trivial, okX (by omega), okX (by omega), okX (by omega), okW (by omega), trivial⟩ o13).b y13
 clear x12 o13 y13
 simp only [Act.put]
 refine wpList_nil ?_
 change Code.wp _ _ _ _ _
 refine wp_seq ?_
 by_cases hb0 : b = 0
 case pos =>
  -- region 7
  refine wp_region_lit ?_
  refine LV (v := .agg #[.bool n5, s5]) rfl (run_load_bx AgI rfl rfl (E.2.2.2.2.1) rfl) ?_
  simp only [Act.put,q1,q2,q3]
  refine LV (v := .agg #[.bool n8, s8]) rfl (run_load_bx AgI rfl rfl (E.2.2.1) rfl) ?_
  simp only [Act.put,q1,q2,q3]
  refine L1 rfl (Oper.wp_callIIE fn_integer_DivMod rfl (DivMod_zero _ _ a _ (E.2.2.2.2.2.1) (eqI hb0 (E.2.2.2.1))) rfl E ?_)
  clear E
  intro w14 n14 s14 m14 t14 d14 E
  clear d14
  simp only [Act.put,q1,q2,q3]
  refine LV (v := .tuple #[.agg #[.bool n14, s14], .agg #[.bool m14, t14], .int .i64 10]) rfl (run_move rfl rfl) ?_
  simp only [Act.put,q1,q2,q3]
  refine LV (v := .agg #[.bool n14, s14]) rfl (run_extract (vs := [.agg #[.bool n14, s14], .agg #[.bool m14, t14], .int .i64 10]) rfl rfl rfl) ?_
  simp only [Act.put,q1,q2,q3]
  refine LV (v := .agg #[.bool m14, t14]) rfl (run_extract (vs := [.agg #[.bool n14, s14], .agg #[.bool m14, t14], .int .i64 10]) rfl rfl rfl) ?_
  simp only [Act.put,q1,q2,q3]
  refine LV (v := .int .i64 10) rfl (run_extract (vs := [.agg #[.bool n14, s14], .agg #[.bool m14, t14], .int .i64 10]) rfl rfl rfl) ?_
  simp only [Act.put,q1,q2,q3]
  refine L1 rfl (Oper.wp_alloc AgI rfl ?_)
  intro b15 w15 e15 z15 d15 x15
  have l15_0 : b12 < b15 := by rw [e15]; exact Bx.lt (E.2.2.1)
  replace E := E.below d15
  clear e15 z15 d15
  simp only [Act.put,q1,q2,q3]
  refine L1 rfl (Oper.wp_alloc AgI rfl ?_)
  intro b16 w16 e16 z16 d16 x16
  have l16_0 : b15 < b16 := by rw [e16]; exact Bx.lt (x15)
  replace E := E.below d16
  replace x15 := Bx.below x15 d16
  clear e16 z16 d16
  simp only [Act.put,q1,q2,q3]
  refine L1 rfl (Oper.wp_store AgI rfl rfl rfl x15 rfl rfl (IsI.one (E.2.1)) ?_)
  intro w17 o17 y17
  replace E := (E.onl (x15.noW now0) ⟨trivial, trivial, okB (by omega), trivial, okB (by omega), trivial, okB (by omega), trivial, okX (by omega), okX (by omega), okX (by omega), okW (by omega), trivial⟩ o17).b y17
  replace x16 := Bx.onl x16 (by omega) o17
  clear x15 o17 y17
  simp only [Act.put]
  refine L1 rfl (Oper.wp_store AgI rfl rfl rfl x16 rfl rfl (IsI.one (E.2.1)) ?_)
  intro w18 o18 y18
  replace E := (E.onl (x16.noW now0) ⟨okB (by omega), trivial, trivial, okB (by omega), trivial, okB (by omega), trivial, okB (by omega), trivial, okX (by omega), okX (by omega), okX (by omega), okW (by omega), trivial⟩ o18).b y18
  clear x16 o18 y18
  simp only [Act.put]
  refine LV (v := .int .i64 10) rfl (run_assign rfl rfl) ?_
  simp only [Act.put,q1,q2,q3]
  refine wpList_nil ?_
  change Code.wp _ _ _ _ _
  refine wp_seq ?_
  refine wp_seq ?_
  -- region 8
  refine wp_region_lit ?_
  refine LV (v := .pointer (some ⟨b9, 1, none⟩)) rfl (run_fieldI1 rfl rfl) ?_
  simp only [Act.put,q1,q2,q3]
  refine LV (v := s8) rfl (run_cell rfl isAgg_words rfl (E.2.2.2.2.2.2.1) rfl) ?_
  simp only [Act.put,q1,q2,q3]
  obtain ⟨ao19, cap19, hs19⟩ := IsI.slice (E.2.2.2.2.2.2.2.1)
  refine LV (v := .int .i64 (((digs b.natAbs).length : Nat) : Int)) rfl (run_len rfl hs19) ?_
  simp only [Act.put,q1,q2,q3]
  refine LV (v := .bool true) rfl (run_eqI (c := true) rfl rfl rfl (len_eq0 hb0)) ?_
  simp only [Act.put,q1,q2,q3]
  refine wpList_nil ?_
  change Code.wp _ _ _ _ _
  refine wp_cond_true rfl ?_
  refine wp_seq ?_
  obtain rfl : n14 = false := (IsI.sign (E.2.2.2.1)).trans rfl
  obtain rfl : m14 = false := (IsI.sign (E.2.2.1)).trans rfl
  -- region 9
  refine wp_region_lit ?_
  refine LV (v := .bool true) rfl (run_move rfl rfl) ?_
  simp only [Act.put,q1,q2,q3]
  refine LV (v := .bool true) rfl (run_move rfl rfl) ?_
  simp only [Act.put,q1,q2,q3]
  refine LV (v := .int .i64 10) rfl (run_move rfl rfl) ?_
  simp only [Act.put,q1,q2,q3]
  refine LV (v := .bool true) rfl (run_eqI (c := true) rfl rfl rfl (by decide)) ?_
  simp only [Act.put,q1,q2,q3]
  refine LV (v := .bool true) rfl (run_pick (b := true) rfl rfl rfl) ?_
  simp only [Act.put,q1,q2,q3]
  refine LV (v := .bool true) rfl (run_move rfl rfl) ?_
  simp only [Act.put,q1,q2,q3]
  refine LV (v := .pointer (some ⟨b15, 1, none⟩)) rfl (run_fieldI1 rfl rfl) ?_
  simp only [Act.put,q1,q2,q3]
  refine LV (v := s14) rfl (run_cell rfl isAgg_words rfl (E.2.1) rfl) ?_
  simp only [Act.put,q1,q2,q3]
  obtain ⟨ao20, cap20, hs20⟩ := IsI.slice (E.2.2.2.1)
  refine LV (v := .int .i64 (((digs (0 : Int).natAbs).length : Nat) : Int)) rfl (run_len rfl hs20) ?_
  simp only [Act.put,q1,q2,q3]
  refine LV (v := .bool true) rfl (run_eqI (c := true) rfl rfl rfl (len_eq0 rfl)) ?_
  simp only [Act.put,q1,q2,q3]
  refine LV (v := .bool true) rfl (run_pick (b := true) rfl rfl rfl) ?_
  simp only [Act.put,q1,q2,q3]
  refine LV (v := .bool true) rfl (run_move rfl rfl) ?_
  simp only [Act.put,q1,q2,q3]
  refine LV (v := .pointer (some ⟨b15, 0, none⟩)) rfl (run_fieldI0 rfl rfl) ?_
  simp only [Act.put,q1,q2,q3]
  refine LV (v := .bool false) rfl (run_cell rfl isAgg_bool rfl (E.2.1) rfl) ?_
  simp only [Act.put,q1,q2,q3]
  refine LV (v := .bool true) rfl (run_not (b := false) rfl rfl) ?_
  simp only [Act.put,q1,q2,q3]
  refine LV (v := .bool true) rfl (run_pick (b := true) rfl rfl rfl) ?_
  simp only [Act.put,q1,q2,q3]
  refine LV (v := .bool true) rfl (run_move rfl rfl) ?_
  simp only [Act.put,q1,q2,q3]
  refine LV (v := .pointer (some ⟨b16, 1, none⟩)) rfl (run_fieldI1 rfl rfl) ?_
  simp only [Act.put,q1,q2,q3]
  refine LV (v := t14) rfl (run_cell rfl isAgg_words rfl (E.1) rfl) ?_
  simp only [Act.put,q1,q2,q3]
  obtain ⟨ao21, cap21, hs21⟩ := IsI.slice (E.2.2.1)
  refine LV (v := .int .i64 (((digs (0 : Int).natAbs).length : Nat) : Int)) rfl (run_len rfl hs21) ?_
  simp only [Act.put,q1,q2,q3]
  refine LV (v := .bool true) rfl (run_eqI (c := true) rfl rfl rfl (len_eq0 rfl)) ?_
  simp only [Act.put,q1,q2,q3]
  refine LV (v := .bool true) rfl (run_pick (b := true) rfl rfl rfl) ?_
  simp only [Act.put,q1,q2,q3]
  refine LV (v := .bool true) rfl (run_move rfl rfl) ?_
  simp only [Act.put,q1,q2,q3]
  refine LV (v := .pointer (some ⟨b16, 0, none⟩)) rfl (run_fieldI0 rfl rfl) ?_
  simp only [Act.put,q1,q2,q3]
  refine LV (v := .bool false) rfl (run_cell rfl isAgg_bool rfl (E.1) rfl) ?_
  simp only [Act.put,q1,q2,q3]
  refine LV (v := .bool true) rfl (run_not (b := false) rfl rfl) ?_
  simp only [Act.put,q1,q2,q3]
  refine LV (v := .bool true) rfl (run_pick (b := true) rfl rfl rfl) ?_
  simp only [Act.put,q1,q2,q3]
  refine LV (v := .bool true) rfl (run_assign rfl rfl) ?_
  simp only [Act.put,q1,q2,q3]
  refine wpList_nil ?_
  change Code.wp _ _ _ _ _
  refine wp_ret ?_
  exact bodyPost_ret (v := .bool true) (by simp [results, Try.results6, asAddr]) rfl ⟨rfl, E.2.2.2.2.2.2.2.2.2.2.2.2.2.1⟩
 case neg =>
  -- region 7
  refine wp_region_lit ?_
  refine LV (v := .agg #[.bool n5, s5]) rfl (run_load_bx AgI rfl rfl (E.2.2.2.2.1) rfl) ?_
  simp only [Act.put,q1,q2,q3]
  refine LV (v := .agg #[.bool n8, s8]) rfl (run_load_bx AgI rfl rfl (E.2.2.1) rfl) ?_
  simp only [Act.put,q1,q2,q3]
  refine L1 rfl (Oper.wp_callIIE fn_integer_DivMod rfl (DivMod_z _ _ a b _ (E.2.2.2.2.2.1) (E.2.2.2.1) (hb0) (Fits.mono Fa (by decide)) (Fits.mono Fb (by decide))) rfl E ?_)
  clear E
  intro w24 n24 s24 m24 t24 d24 E
  clear d24
  simp only [Act.put,q1,q2,q3]
  have F22 : Fits (a / b) 10 := Fits_div (y := b) Fa
  have F23 : Fits (a % b) 6 := Fits_emod (x := a) hb0 Fb
  refine LV (v := .tuple #[.agg #[.bool n24, s24], .agg #[.bool m24, t24], .int .i64 0]) rfl (run_move rfl rfl) ?_
  simp only [Act.put,q1,q2,q3]
  refine LV (v := .agg #[.bool n24, s24]) rfl (run_extract (vs := [.agg #[.bool n24, s24], .agg #[.bool m24, t24], .int .i64 0]) rfl rfl rfl) ?_
  simp only [Act.put,q1,q2,q3]
  refine LV (v := .agg #[.bool m24, t24]) rfl (run_extract (vs := [.agg #[.bool n24, s24], .agg #[.bool m24, t24], .int .i64 0]) rfl rfl rfl) ?_
  simp only [Act.put,q1,q2,q3]
  refine LV (v := .int .i64 0) rfl (run_extract (vs := [.agg #[.bool n24, s24], .agg #[.bool m24, t24], .int .i64 0]) rfl rfl rfl) ?_
  simp only [Act.put,q1,q2,q3]
  refine L1 rfl (Oper.wp_alloc AgI rfl ?_)
  intro b25 w25 e25 z25 d25 x25
  have l25_0 : b12 < b25 := by rw [e25]; exact Bx.lt (E.2.2.1)
  replace E := E.below d25
  clear e25 z25 d25
  simp only [Act.put,q1,q2,q3]
  refine L1 rfl (Oper.wp_alloc AgI rfl ?_)
  intro b26 w26 e26 z26 d26 x26
  have l26_0 : b25 < b26 := by rw [e26]; exact Bx.lt (x25)
  replace E := E.below d26
  replace x25 := Bx.below x25 d26
  clear e26 z26 d26
  simp only [Act.put,q1,q2,q3]
  refine L1 rfl (Oper.wp_store AgI rfl rfl rfl x25 rfl rfl (IsI.one (E.2.1)) ?_)
  intro w27 o27 y27
  replace E := (E.onl (x25.noW now0) ⟨trivial, trivial, okB (by omega), trivial, okB (by omega), trivial, okB (by omega), trivial, okX (by omega), okX (by omega), okX (by omega), okW (by omega), trivial⟩ o27).b y27
  replace x26 := Bx.onl x26 (by omega) o27
  clear x25 o27 y27
  simp only [Act.put]
  refine L1 rfl (Oper.wp_store AgI rfl rfl rfl x26 rfl rfl (IsI.one (E.2.1)) ?_)
  intro w28 o28 y28
  replace E := (E.onl (x26.noW now0) ⟨okB (by omega), trivial, trivial, okB (by omega), trivial, okB (by omega), trivial, okB (by omega), trivial, okX (by omega), okX (by omega), okX (by omega), okW (by omega), trivial⟩ o28).b y28
  clear x26 o28 y28
  simp only [Act.put]
  refine LV (v := .int .i64 0) rfl (run_assign rfl rfl) ?_
  simp only [Act.put,q1,q2,q3]
  refine wpList_nil ?_
  change Code.wp _ _ _ _ _
  refine wp_seq ?_
  refine wp_seq ?_
  -- region 8
  refine wp_region_lit ?_
  refine LV (v := .pointer (some ⟨b9, 1, none⟩)) rfl (run_fieldI1 rfl rfl) ?_
  simp only [Act.put,q1,q2,q3]
  refine LV (v := s8) rfl (run_cell rfl isAgg_words rfl (E.2.2.2.2.2.2.1) rfl) ?_
  simp only [Act.put,q1,q2,q3]
  obtain ⟨ao29, cap29, hs29⟩ := IsI.slice (E.2.2.2.2.2.2.2.1)
  refine LV (v := .int .i64 (((digs b.natAbs).length : Nat) : Int)) rfl (run_len rfl hs29) ?_
  simp only [Act.put,q1,q2,q3]
  refine LV (v := .bool false) rfl (run_eqI (c := false) rfl rfl rfl (len_ne0 hb0)) ?_
  simp only [Act.put,q1,q2,q3]
  refine wpList_nil ?_
  change Code.wp _ _ _ _ _
  refine wp_cond_false rfl ?_
  refine wp_skip ?_
  change Code.wp _ _ _ _ _
  refine wp_seq ?_
  -- region 10
  refine wp_region_lit ?_
  refine LV (v := .pointer (some ⟨b9, 1, none⟩)) rfl (run_fieldI1 rfl rfl) ?_
  simp only [Act.put,q1,q2,q3]
  refine LV (v := s8) rfl (run_cell rfl isAgg_words rfl (E.2.2.2.2.2.2.1) rfl) ?_
  simp only [Act.put,q1,q2,q3]
  obtain ⟨ao30, cap30, hs30⟩ := IsI.slice (E.2.2.2.2.2.2.2.1)
  refine LV (v := .agg #[.bool false, s8]) rfl (run_buildIm rfl rfl hs30) ?_
  simp only [Act.put,q1,q2,q3]
  replace E := E.i (abs_i (E.2.2.2.2.2.2.2.1))
  have F31 : Fits (b.natAbs : Int) 6 := Fits_abs Fb
  refine L1 rfl (Oper.wp_alloc AgI rfl ?_)
  intro b32 w32 e32 z32 d32 x32
  have l32_0 : b26 < b32 := by rw [e32]; exact Bx.lt (E.2.1)
  replace E := E.below d32
  clear e32 z32 d32
  simp only [Act.put,q1,q2,q3]
  refine L1 rfl (Oper.wp_store AgI rfl rfl rfl x32 rfl rfl (IsI.one (E.1)) ?_)
  intro w33 o33 y33
  replace E := (E.onl (x32.noW now0) ⟨trivial, okB (by omega), okB (by omega), trivial, trivial, okB (by omega), trivial, okB (by omega), trivial, okB (by omega), trivial, okX (by omega), okX (by omega), okX (by omega), okW (by omega), trivial⟩ o33).b y33
  clear x32 o33 y33
  simp only [Act.put]
  refine wpList_nil ?_
  change Code.wp _ _ _ _ _
  refine wp_seq ?_
  refine wp_seq ?_
  obtain rfl : m24 = false := (IsI.sign (E.2.2.2.2.1)).trans (decide_eq_false (Int.not_lt.mpr (Int.emod_nonneg a hb0)))
  -- region 11
  refine wp_schedE E ([0, 1, 2, 3, 4, 5, 6, 7, 8, 9, 10, 11, 12, 13, 14, 15, 16, 17, 18, 19, 20, 21, 22, 23, 24, 26, 28, 25, 27, 29, 30, 31]) (by kernel_rfl) (by kernel_rfl) (by kernel_rfl) (by kernel_rfl) (by intro d v c a w h; cases d <;> exact h) ?_
  replace E := E.drew
  refine SP (o := ⟨some 68, _, _, _, _, _⟩) (v := .int .i64 0) rfl rfl rfl rfl (fun w hS => run_move rfl rfl) ?_
  simp only [Act.put,q1,q2,q3]
  refine SP (o := ⟨some 69, _, _, _, _, _⟩) (v := .bool false) rfl rfl rfl rfl (fun w hS => run_neI (c := false) rfl rfl rfl (by decide)) ?_
  simp only [Act.put,q1,q2,q3]
  refine SP (o := ⟨some 70, _, _, _, _, _⟩) (v := .bool false) rfl rfl rfl rfl (fun w hS => run_move rfl rfl) ?_
  simp only [Act.put,q1,q2,q3]
  refine SP (o := ⟨some 71, _, _, _, _, _⟩) (v := .agg #[.bool n24, s24]) rfl rfl rfl rfl (fun w hS => run_load_bx AgI rfl rfl (hS.2.2.2.1) rfl) ?_
  simp only [Act.put,q1,q2,q3]
  refine S1a (o := ⟨some 72, _, _, _, _, _⟩) rfl rfl rfl rfl (Oper.wp_callB fn_eref01_Valid rfl (RValid_z _ (a / b) _ (E.2.2.2.2.2.1)) rfl E ?_)
  clear E
  intro w34 d34 E
  clear d34
  refine ⟨E, ?_⟩
  simp only [Act.put,q1,q2,q3]
  refine SP (o := ⟨some 73, _, _, _, _, _⟩) (v := .bool false) rfl rfl rfl rfl (fun w hS => run_not (b := true) rfl rfl) ?_
  simp only [Act.put,q1,q2,q3]
  refine SP (o := ⟨some 74, _, _, _, _, _⟩) (v := .bool false) rfl rfl rfl rfl (fun w hS => run_pick (b := false) rfl rfl rfl) ?_
  simp only [Act.put,q1,q2,q3]
  refine SP (o := ⟨some 75, _, _, _, _, _⟩) (v := .bool false) rfl rfl rfl rfl (fun w hS => run_move rfl rfl) ?_
  simp only [Act.put,q1,q2,q3]
  refine SP (o := ⟨some 76, _, _, _, _, _⟩) (v := .agg #[.bool false, t24]) rfl rfl rfl rfl (fun w hS => run_load_bx AgI rfl rfl (hS.2.2.1) rfl) ?_
  simp only [Act.put,q1,q2,q3]
  refine S1a (o := ⟨some 77, _, _, _, _, _⟩) rfl rfl rfl rfl (Oper.wp_callB fn_eref01_Valid rfl (RValid_z _ (a % b) _ (E.2.2.2.2.1)) rfl E ?_)
  clear E
  intro w35 d35 E
  clear d35
  refine ⟨E, ?_⟩
  simp only [Act.put,q1,q2,q3]
  refine SP (o := ⟨some 78, _, _, _, _, _⟩) (v := .bool false) rfl rfl rfl rfl (fun w hS => run_not (b := true) rfl rfl) ?_
  simp only [Act.put,q1,q2,q3]
  refine SP (o := ⟨some 79, _, _, _, _, _⟩) (v := .bool false) rfl rfl rfl rfl (fun w hS => run_pick (b := false) rfl rfl rfl) ?_
  simp only [Act.put,q1,q2,q3]
  refine SP (o := ⟨some 80, _, _, _, _, _⟩) (v := .bool false) rfl rfl rfl rfl (fun w hS => run_move rfl rfl) ?_
  simp only [Act.put,q1,q2,q3]
  refine SP (o := ⟨some 81, _, _, _, _, _⟩) (v := .pointer (some ⟨b26, 0, none⟩)) rfl rfl rfl rfl (fun w hS => run_fieldI0 rfl rfl) ?_
  simp only [Act.put,q1,q2,q3]
  refine SP (o := ⟨some 82, _, _, _, _, _⟩) (v := .bool false) rfl rfl rfl rfl (fun w hS => run_cell rfl isAgg_bool rfl (hS.2.2.1) rfl) ?_
  simp only [Act.put,q1,q2,q3]
  refine SP (o := ⟨some 83, _, _, _, _, _⟩) (v := .bool false) rfl rfl rfl rfl (fun w hS => run_pick (b := false) rfl rfl rfl) ?_
  simp only [Act.put,q1,q2,q3]
  refine SP (o := ⟨some 84, _, _, _, _, _⟩) (v := .bool false) rfl rfl rfl rfl (fun w hS => run_move rfl rfl) ?_
  simp only [Act.put,q1,q2,q3]
  refine SP (o := ⟨some 85, _, _, _, _, _⟩) (v := .agg #[.bool false, t24]) rfl rfl rfl rfl (fun w hS => run_load_bx AgI rfl rfl (hS.2.2.1) rfl) ?_
  simp only [Act.put,q1,q2,q3]
  refine SP (o := ⟨some 86, _, _, _, _, _⟩) (v := .agg #[.bool false, s8]) rfl rfl rfl rfl (fun w hS => run_load_bx AgI rfl rfl (hS.1) rfl) ?_
  simp only [Act.put,q1,q2,q3]
  refine S1a (o := ⟨some 87, _, _, _, _, _⟩) rfl rfl rfl rfl (Oper.wp_callN fn_integer_Cmp rfl (Cmp_z _ _ (a % b) (b.natAbs : Int) _ (E.2.2.2.2.1) (E.2.1)) rfl E ?_)
  clear E
  intro w36 d36 E
  clear d36
  refine ⟨E, ?_⟩
  simp only [Act.put,q1,q2,q3]
  refine SP (o := ⟨some 88, _, _, _, _, _⟩) (v := .bool false) rfl rfl rfl rfl (fun w hS => run_geI (c := false) rfl rfl rfl (by rw [cmpI_lt (emod_ltA a hb0)]; rfl)) ?_
  simp only [Act.put,q1,q2,q3]
  refine SP (o := ⟨some 89, _, _, _, _, _⟩) (v := .bool false) rfl rfl rfl rfl (fun w hS => run_pick (b := false) rfl rfl rfl) ?_
  simp only [Act.put,q1,q2,q3]
  refine SP (o := ⟨some 90, _, _, _, _, _⟩) (v := .bool false) rfl rfl rfl rfl (fun w hS => run_move rfl rfl) ?_
  simp only [Act.put,q1,q2,q3]
  refine SP (o := ⟨some 91, _, _, _, _, _⟩) (v := .agg #[.bool n24, s24]) rfl rfl rfl rfl (fun w hS => run_load_bx AgI rfl rfl (hS.2.2.2.1) rfl) ?_
  simp only [Act.put,q1,q2,q3]
  refine SP (o := ⟨some 92, _, _, _, _, _⟩) (v := .agg #[.bool n8, s8]) rfl rfl rfl rfl (fun w hS => run_load_bx AgI rfl rfl (hS.2.2.2.2.2.2.2.2.1) rfl) ?_
  simp only [Act.put,q1,q2,q3]
  refine SP (o := ⟨some 94, _, _, _, _, _⟩) (v := .agg #[.bool false, t24]) rfl rfl rfl rfl (fun w hS => run_load_bx AgI rfl rfl (hS.2.2.1) rfl) ?_
  simp only [Act.put,q1,q2,q3]
  refine SP (o := ⟨some 96, _, _, _, _, _⟩) (v := .agg #[.bool n5, s5]) rfl rfl rfl rfl (fun w hS => run_load_bx AgI rfl rfl (hS.2.2.2.2.2.2.2.2.2.2.1) rfl) ?_
  simp only [Act.put,q1,q2,q3]
  refine S1a (o := ⟨some 93, _, _, _, _, _⟩) rfl rfl rfl rfl (Oper.wp_callI fn_integer_Mul rfl (Mul_z _ _ (a / b) b _ (E.2.2.2.2.2.1) (E.2.2.2.2.2.2.2.2.2.1) (Fits.mono F22 (by decide)) (Fits.mono Fb (by decide))) rfl E ?_)
  clear E
  intro w38 n38 s38 d38 E
  clear d38
  refine ⟨E.2, ?_⟩
  simp only [Act.put,q1,q2,q3]
  have F37 : Fits ((a / b) * b) 16 := Fits_mul F22 Fb
  refine S1a (o := ⟨some 95, _, _, _, _, _⟩) rfl rfl rfl rfl (Oper.wp_callI fn_integer_Add rfl (Add_z _ _ ((a / b) * b) (a % b) _ (E.1) (E.2.2.2.2.2.1) (Fits.mono F37 (by decide)) (Fits.mono F23 (by decide))) rfl E ?_)
  clear E
  intro w40 n40 s40 d40 E
  clear d40
  refine ⟨E.2.2, ?_⟩
  simp only [Act.put,q1,q2,q3]
  have F39 : Fits (((a / b) * b) + (a % b)) 17 := Fits_add F37 F23 (k := 16) (by decide) (by decide)
  refine S1a (o := ⟨some 97, _, _, _, _, _⟩) rfl rfl rfl rfl (Oper.wp_callB fn_eref01_Same rfl (RSame_t _ _ (((a / b) * b) + (a % b)) a _ (E.1) (E.2.2.2.2.2.2.2.2.2.2.2.2.2.1) (dm1 a b)) rfl E ?_)
  clear E
  intro w41 d41 E
  clear d41
  refine ⟨E.2.2, ?_⟩
  simp only [Act.put,q1,q2,q3]
  refine SP (o := ⟨some 98, _, _, _, _, _⟩) (v := .bool false) rfl rfl rfl rfl (fun w hS => run_not (b := true) rfl rfl) ?_
  simp only [Act.put,q1,q2,q3]
  refine SP (o := ⟨some 99, _, _, _, _, _⟩) (v := .bool false) rfl rfl rfl rfl (fun w hS => run_pick (b := false) rfl rfl rfl) ?_
  simp only [Act.put,q1,q2,q3]
  refine SN ?_
  change Code.wp _ _ _ _ _
  refine wp_cond_false rfl ?_
  refine wp_skip ?_
  change Code.wp _ _ _ _ _
  refine wp_seq ?_
  -- region 13
  refine wp_cut (fun az w' => ∃ (nN2 : Bool) (sN2 : Value) (nN4 : Bool) (sN4 : Value) (nN6 : Bool) (sN6 : Value) (mN6 : Bool) (tN6 : Value) (bN11 : Nat) (bN12 : Nat), az = ⟨#[.agg #[.bool na, sa], .agg #[.bool nb, sb], .agg #[.bool nc, sc], .pointer (some ⟨b1, 0, none⟩), .pointer (some ⟨b2, 0, none⟩), .pointer (some ⟨b3, 0, none⟩), .bool false, .bool true, .pointer (some ⟨b6, 0, none⟩), .pointer (some ⟨b9, 0, none⟩), .pointer (some ⟨b12, 0, none⟩), .pointer (some ⟨b25, 0, none⟩), .pointer (some ⟨b26, 0, none⟩), .int .i64 0, .pointer (some ⟨b32, 0, none⟩), .pointer (some ⟨bN11, 0, none⟩), .pointer (some ⟨bN12, 0, none⟩), .int .i64 0, .bool true, .bool true, .bool false, .agg #[.bool na, sa], .agg #[.bool n5, s5], .agg #[.bool nb, sb], .agg #[.bool n8, s8], .agg #[.bool nc, sc], .agg #[.bool n11, s11], .tuple #[.agg #[.bool n24, s24], .agg #[.bool false, t24], .int .i64 0], .agg #[.bool n5, s5], .agg #[.bool n8, s8], .tuple #[.agg #[.bool n24, s24], .agg #[.bool false, t24], .int .i64 0], .agg #[.bool n24, s24], .agg #[.bool false, t24], .int .i64 0, .pointer (some ⟨b9, 1, none⟩), s8, .int .i64 (((digs b.natAbs).length : Nat) : Int), .bool false, undef, undef, undef, undef, undef, undef, undef, undef, undef, undef, undef, undef, undef, undef, undef, undef, undef, undef, undef, undef, undef, undef, undef, undef, undef, undef, undef, .pointer (some ⟨b9, 1, none⟩), s8, .agg #[.bool false, s8], .int .i64 0, .bool false, .bool false, .agg #[.bool n24, s24], .bool true, .bool false, .bool false, .bool false, .agg #[.bool false, t24], .bool true, .bool false, .bool false, .bool false, .pointer (some ⟨b26, 0, none⟩), .bool false, .bool false, .bool false, .agg #[.bool false, t24], .agg #[.bool false, s8], .int .i64 (cmpI (a % b) (b.natAbs : Int)), .bool false, .bool false, .bool false, .agg #[.bool n24, s24], .agg #[.bool n8, s8], .agg #[.bool n38, s38], .agg #[.bool false, t24], .agg #[.bool n40, s40], .agg #[.bool n5, s5], .bool true, .bool false, .bool false, .tuple #[.agg #[.bool nN6, sN6], .agg #[.bool mN6, tN6], .int .i64 0], .agg #[.bool n11, s11], .agg #[.bool n8, s8], .agg #[.bool nN2, sN2], .agg #[.bool false, t24], .agg #[.bool nN4, sN4], .agg #[.bool n8, s8], .tuple #[.agg #[.bool nN6, sN6], .agg #[.bool mN6, tN6], .int .i64 0], .agg #[.bool nN6, sN6], .agg #[.bool mN6, tN6], .int .i64 0, undef, undef, undef, undef, undef, undef, undef, undef, undef, undef, undef, undef, undef, undef, undef], []⟩ ∧ Env w' [fB bN12 mN6 tN6, fB bN11 nN6 sN6, fI (.agg #[.bool mN6, tN6]) (((c * b) + (a % b)) % b), fI (.agg #[.bool nN6, sN6]) (((c * b) + (a % b)) / b), fI (.agg #[.bool nN4, sN4]) ((c * b) + (a % b)), fI (.agg #[.bool nN2, sN2]) (c * b), fI (.agg #[.bool n40, s40]) (((a / b) * b) + (a % b)), fI (.agg #[.bool n38, s38]) ((a / b) * b), fB b32 false s8, fI (.agg #[.bool false, s8]) (b.natAbs : Int), fB b26 false t24, fB b25 n24 s24, fI (.agg #[.bool false, t24]) (a % b), fI (.agg #[.bool n24, s24]) (a / b), fB b12 n11 s11, fI (.agg #[.bool n11, s11]) c, fB b9 n8 s8, fI (.agg #[.bool n8, s8]) b, fB b6 n5 s5, fI (.agg #[.bool n5, s5]) a, fX b3 (25) ([.bool nc, sc]), fX b2 (25) ([.bool nb, sb]), fX b1 (25) ([.bool na, sa]), fW w] ∧ b32 < bN11 ∧ b32 < bN12 ∧ bN11 ≠ bN12) ?_ ?_
  case refine_1 =>
   refine wp_heldE (by kernel_rfl) (#[false, false, false, false, false, false, false, false, false, false, false, false, false, false, false, false]) 16 rfl rfl (l := [fI (.agg #[.bool n40, s40]) (((a / b) * b) + (a % b)), fI (.agg #[.bool n38, s38]) ((a / b) * b), fB b32 false s8, fI (.agg #[.bool false, s8]) (b.natAbs : Int), fB b26 false t24, fB b25 n24 s24, fI (.agg #[.bool false, t24]) (a % b), fI (.agg #[.bool n24, s24]) (a / b), fB b12 n11 s11, fI (.agg #[.bool n11, s11]) c, fB b9 n8 s8, fI (.agg #[.bool n8, s8]) b, fB b6 n5 s5, fI (.agg #[.bool n5, s5]) a, fX b3 (25) ([.bool nc, sc]), fX b2 (25) ([.bool nb, sb]), fX b1 (25) ([.bool na, sa]), fW w]) ?_
   replace E := E.drew
   refine HP (i := 0) (o := ⟨some 101, _, _, _, _, _⟩) (v := .agg #[.bool n11, s11]) rfl (by kernel_rfl) (fun _ _ _ h => h) rfl (fun w hS => run_load_bx AgI rfl rfl (hS.2.2.2.2.2.2.2.2.1) rfl) (E) ?_
   simp only [Act.put,q1,q2,q3]
   refine HP (i := 1) (o := ⟨some 102, _, _, _, _, _⟩) (v := .agg #[.bool n8, s8]) rfl (by kernel_rfl) (fun _ _ _ h => h) rfl (fun w hS => run_load_bx AgI rfl rfl (hS.2.2.2.2.2.2.2.2.2.2.1) rfl) (E) ?_
   simp only [Act.put,q1,q2,q3]
   refine HP (i := 3) (o := ⟨some 104, _, _, _, _, _⟩) (v := .agg #[.bool false, t24]) rfl (by kernel_rfl) (fun _ _ _ h => h) rfl (fun w hS => run_load_bx AgI rfl rfl (hS.2.2.2.2.1) rfl) (E) ?_
   simp only [Act.put,q1,q2,q3]
   refine HP (i := 5) (o := ⟨some 106, _, _, _, _, _⟩) (v := .agg #[.bool n8, s8]) rfl (by kernel_rfl) (fun _ _ _ h => h) rfl (fun w hS => run_load_bx AgI rfl rfl (hS.2.2.2.2.2.2.2.2.2.2.1) rfl) (E) ?_
   simp only [Act.put,q1,q2,q3]
   refine H3 (i := 2) (j := 11) (k := 12) (by kernel_rfl) ?_ ?_ ?_
   ·
    refine HE (o := ⟨some 103, _, _, _, _, _⟩) rfl rfl (Oper.wp_callI fn_integer_Mul rfl (Mul_z _ _ c b _ (E.2.2.2.2.2.2.2.2.2.1) (E.2.2.2.2.2.2.2.2.2.2.2.1) (Fits.mono Fc (by decide)) (Fits.mono Fb (by decide))) rfl E ?_)
    clear E
    intro wN2 nN2 sN2 dN2 E
    clear dN2
    refine ⟨E.2, ?_⟩
    simp only [Act.put,q1,q2,q3]
    refine H3 (i := 4) (j := 11) (k := 12) (by kernel_rfl) ?_ ?_ ?_
    ·
     refine HE (o := ⟨some 105, _, _, _, _, _⟩) rfl rfl (Oper.wp_callI fn_integer_Add rfl (Add_z _ _ (c * b) (a % b) _ (E.1) (E.2.2.2.2.2.2.2.1) (Fits.mono (Fits_mul Fc Fb : Fits (c * b) 12) (by decide)) (Fits.mono F23 (by decide))) rfl E ?_)
     clear E
     intro wN4 nN4 sN4 dN4 E
     clear dN4
     refine ⟨E.2.2, ?_⟩
     simp only [Act.put,q1,q2,q3]
     refine H3 (i := 6) (j := 11) (k := 12) (by kernel_rfl) ?_ ?_ ?_
     ·
      refine HE (o := ⟨some 107, _, _, _, _, _⟩) rfl rfl (Oper.wp_callIIE fn_integer_DivMod rfl (DivMod_z _ _ ((c * b) + (a % b)) b _ (E.1) (E.2.2.2.2.2.2.2.2.2.2.2.2.2.1) (hb0) (Fits.mono (Fits_add (Fits_mul Fc Fb : Fits (c * b) 12) F23 (k := 12) (by decide) (by decide) : Fits ((c * b) + (a % b)) 13) (by decide)) (Fits.mono Fb (by decide))) rfl E ?_)
      clear E
      intro wN6 nN6 sN6 mN6 tN6 dN6 E
      clear dN6
      refine ⟨E.2.2.2.2, ?_⟩
      simp only [Act.put,q1,q2,q3]
      refine HP (i := 7) (o := ⟨some 100, _, _, _, _, _⟩) (v := .tuple #[.agg #[.bool nN6, sN6], .agg #[.bool mN6, tN6], .int .i64 0]) rfl (by kernel_rfl) (fun _ _ _ h => h) rfl (fun w hS => run_move rfl rfl) (E.2.2.2.2) ?_
      simp only [Act.put,q1,q2,q3]
      refine HP (i := 8) (o := ⟨some 108, _, _, _, _, _⟩) (v := .agg #[.bool nN6, sN6]) rfl (by kernel_rfl) (fun _ _ _ h => h) rfl (fun w hS => run_extract (vs := [.agg #[.bool nN6, sN6], .agg #[.bool mN6, tN6], .int .i64 0]) rfl rfl rfl) (E.2.2.2.2) ?_
      simp only [Act.put,q1,q2,q3]
      refine HP (i := 9) (o := ⟨some 109, _, _, _, _, _⟩) (v := .agg #[.bool mN6, tN6]) rfl (by kernel_rfl) (fun _ _ _ h => h) rfl (fun w hS => run_extract (vs := [.agg #[.bool nN6, sN6], .agg #[.bool mN6, tN6], .int .i64 0]) rfl rfl rfl) (E.2.2.2.2) ?_
      simp only [Act.put,q1,q2,q3]
      refine HP (i := 10) (o := ⟨some 110, _, _, _, _, _⟩) (v := .int .i64 0) rfl (by kernel_rfl) (fun _ _ _ h => h) rfl (fun w hS => run_extract (vs := [.agg #[.bool nN6, sN6], .agg #[.bool mN6, tN6], .int .i64 0]) rfl rfl rfl) (E.2.2.2.2) ?_
      simp only [Act.put,q1,q2,q3]
      refine H2 (i := 11) (j := 12) (by kernel_rfl) ?_ ?_
      ·
       refine HE (o := ⟨some 15, _, _, _, _, _⟩) rfl rfl (Oper.wp_alloc AgI rfl ?_)
       intro bN11 wN11 eN11 zN11 dN11 xN11
       have lN11_0 : b32 < bN11 := by rw [eN11]; exact Bx.lt (E.2.2.2.2.2.2.1)
       replace E := E.below dN11
       clear eN11 zN11 dN11
       refine ⟨E.2.2.2.2, ?_⟩
       simp only [Act.put,q1,q2,q3]
       refine H1 (i := 12) (by kernel_rfl) ?_
       refine HE (o := ⟨some 16, _, _, _, _, _⟩) rfl rfl (Oper.wp_alloc AgI rfl ?_)
       intro bN12 wN12 eN12 zN12 dN12 xN12
       have lN12_0 : bN11 < bN12 := by rw [eN12]; exact Bx.lt (xN11)
       replace E := E.below dN12
       replace xN11 := Bx.below xN11 dN12
       clear eN12 zN12 dN12
       refine ⟨E.2.2.2.2, ?_⟩
       simp only [Act.put,q1,q2,q3]
       refine H1 (i := 13) (by kernel_rfl) ?_
       refine HE (o := ⟨none, _, _, _, _, _⟩) rfl rfl (Oper.wp_store AgI rfl rfl rfl xN11 rfl rfl (IsI.one (E.2.1)) ?_)
       intro wN13 oN13 yN13
       replace E := (E.onl (xN11.noW now0) ⟨trivial, trivial, trivial, trivial, trivial, trivial, okB (by omega), trivial, okB (by omega), okB (by omega), trivial, trivial, okB (by omega), trivial, okB (by omega), trivial, okB (by omega), trivial, okX (by omega), okX (by omega), okX (by omega), okW (by omega), trivial⟩ oN13).b yN13
       replace xN12 := Bx.onl xN12 (by omega) oN13
       clear xN11 oN13 yN13
       refine ⟨E.2.2.2.2.2, ?_⟩
       simp only [Act.put]
       refine H1 (i := 14) (by kernel_rfl) ?_
       refine HE (o := ⟨none, _, _, _, _, _⟩) rfl rfl (Oper.wp_store AgI rfl rfl rfl xN12 rfl rfl (IsI.one (E.2.1)) ?_)
       intro wN14 oN14 yN14
       replace E := (E.onl (xN12.noW now0) ⟨okB (by omega), trivial, trivial, trivial, trivial, trivial, trivial, okB (by omega), trivial, okB (by omega), okB (by omega), trivial, trivial, okB (by omega), trivial, okB (by omega), trivial, okB (by omega), trivial, okX (by omega), okX (by omega), okX (by omega), okW (by omega), trivial⟩ oN14).b yN14
       clear xN12 oN14 yN14
       refine ⟨E.2.2.2.2.2.2, ?_⟩
       simp only [Act.put]
       refine HP (i := 15) (o := ⟨some 17, _, _, _, _, _⟩) (v := .int .i64 0) rfl (by kernel_rfl) (fun _ _ _ h => h) rfl (fun w hS => run_assign rfl rfl) (E.2.2.2.2.2.2) ?_
       simp only [Act.put,q1,q2,q3]
       refine HN (by kernel_rfl) ?_
       exact ⟨nN2, sN2, nN4, sN4, nN6, sN6, mN6, tN6, bN11, bN12, rfl, (Env.b (Env.b (Env.i (Env.i (Env.i (Env.i (Env.i (Env.i (Env.b (Env.i (Env.b (Env.b (Env.i (Env.i (Env.b (Env.i (Env.b (Env.i (Env.b (Env.i (Env.x (Env.x (Env.x (Env.ww (Env.nil _) (E.2.2.2.2.2.2.2.2.2.2.2.2.2.2.2.2.2.2.2.2.2.2.2.1)) (E.2.2.2.2.2.2.2.2.2.2.2.2.2.2.2.2.2.2.2.2.2.2.1)) (E.2.2.2.2.2.2.2.2.2.2.2.2.2.2.2.2.2.2.2.2.2.1)) (E.2.2.2.2.2.2.2.2.2.2.2.2.2.2.2.2.2.2.2.2.1)) (E.2.2.2.2.2.2.2.2.2.2.2.2.2.2.2.2.2.2.2.1)) (E.2.2.2.2.2.2.2.2.2.2.2.2.2.2.2.2.2.2.1)) (E.2.2.2.2.2.2.2.2.2.2.2.2.2.2.2.2.2.1)) (E.2.2.2.2.2.2.2.2.2.2.2.2.2.2.2.2.1)) (E.2.2.2.2.2.2.2.2.2.2.2.2.2.2.2.1)) (E.2.2.2.2.2.2.2.2.2.2.2.2.2.2.1)) (E.2.2.2.2.2.2.2.2.2.2.2.2.2.1)) (E.2.2.2.2.2.2.2.2.2.2.2.2.1)) (E.2.2.2.2.2.2.2.2.2.2.2.1)) (E.2.2.2.2.2.2.2.2.2.2.1)) (E.2.2.2.2.2.2.2.2.2.1)) (E.2.2.2.2.2.2.2.2.1)) (E.2.2.2.2.2.2.2.1)) (E.2.2.2.2.2.2.1)) (E.2.2.2.2.2.1)) (E.2.2.2.2.1)) (E.2.2.2.1)) (E.2.2.1)) (E.2.1)) (E.1)), by omega, by omega, by omega⟩
      ·
       refine HE (o := ⟨some 16, _, _, _, _, _⟩) rfl rfl (Oper.wp_alloc AgI rfl ?_)
       intro bN12 wN12 eN12 zN12 dN12 xN12
       have lN12_0 : b32 < bN12 := by rw [eN12]; exact Bx.lt (E.2.2.2.2.2.2.1)
       replace E := E.below dN12
       clear eN12 zN12 dN12
       refine ⟨E.2.2.2.2, ?_⟩
       simp only [Act.put,q1,q2,q3]
       refine H1 (i := 11) (by kernel_rfl) ?_
       refine HE (o := ⟨some 15, _, _, _, _, _⟩) rfl rfl (Oper.wp_alloc AgI rfl ?_)
       intro bN11 wN11 eN11 zN11 dN11 xN11
       have lN11_0 : bN12 < bN11 := by rw [eN11]; exact Bx.lt (xN12)
       replace E := E.below dN11
       replace xN12 := Bx.below xN12 dN11
       clear eN11 zN11 dN11
       refine ⟨E.2.2.2.2, ?_⟩
       simp only [Act.put,q1,q2,q3]
       refine H1 (i := 13) (by kernel_rfl) ?_
       refine HE (o := ⟨none, _, _, _, _, _⟩) rfl rfl (Oper.wp_store AgI rfl rfl rfl xN11 rfl rfl (IsI.one (E.2.1)) ?_)
       intro wN13 oN13 yN13
       replace E := (E.onl (xN11.noW now0) ⟨trivial, trivial, trivial, trivial, trivial, trivial, okB (by omega), trivial, okB (by omega), okB (by omega), trivial, trivial, okB (by omega), trivial, okB (by omega), trivial, okB (by omega), trivial, okX (by omega), okX (by omega), okX (by omega), okW (by omega), trivial⟩ oN13).b yN13
       replace xN12 := Bx.onl xN12 (by omega) oN13
       clear xN11 oN13 yN13
       refine ⟨E.2.2.2.2.2, ?_⟩
       simp only [Act.put]
       refine H1 (i := 14) (by kernel_rfl) ?_
       refine HE (o := ⟨none, _, _, _, _, _⟩) rfl rfl (Oper.wp_store AgI rfl rfl rfl xN12 rfl rfl (IsI.one (E.2.1)) ?_)
       intro wN14 oN14 yN14
       replace E := (E.onl (xN12.noW now0) ⟨okB (by omega), trivial, trivial, trivial, trivial, trivial, trivial, okB (by omega), trivial, okB (by omega), okB (by omega), trivial, trivial, okB (by omega), trivial, okB (by omega), trivial, okB (by omega), trivial, okX (by omega), okX (by omega), okX (by omega), okW (by omega), trivial⟩ oN14).b yN14
       clear xN12 oN14 yN14
       refine ⟨E.2.2.2.2.2.2, ?_⟩
       simp only [Act.put]
       refine HP (i := 15) (o := ⟨some 17, _, _, _, _, _⟩) (v := .int .i64 0) rfl (by kernel_rfl) (fun _ _ _ h => h) rfl (fun w hS => run_assign rfl rfl) (E.2.2.2.2.2.2) ?_
       simp only [Act.put,q1,q2,q3]
       refine HN (by kernel_rfl) ?_
       exact ⟨nN2, sN2, nN4, sN4, nN6, sN6, mN6, tN6, bN11, bN12, rfl, (Env.b (Env.b (Env.i (Env.i (Env.i (Env.i (Env.i (Env.i (Env.b (Env.i (Env.b (Env.b (Env.i (Env.i (Env.b (Env.i (Env.b (Env.i (Env.b (Env.i (Env.x (Env.x (Env.x (Env.ww (Env.nil _) (E.2.2.2.2.2.2.2.2.2.2.2.2.2.2.2.2.2.2.2.2.2.2.2.1)) (E.2.2.2.2.2.2.2.2.2.2.2.2.2.2.2.2.2.2.2.2.2.2.1)) (E.2.2.2.2.2.2.2.2.2.2.2.2.2.2.2.2.2.2.2.2.2.1)) (E.2.2.2.2.2.2.2.2.2.2.2.2.2.2.2.2.2.2.2.2.1)) (E.2.2.2.2.2.2.2.2.2.2.2.2.2.2.2.2.2.2.2.1)) (E.2.2.2.2.2.2.2.2.2.2.2.2.2.2.2.2.2.2.1)) (E.2.2.2.2.2.2.2.2.2.2.2.2.2.2.2.2.2.1)) (E.2.2.2.2.2.2.2.2.2.2.2.2.2.2.2.2.1)) (E.2.2.2.2.2.2.2.2.2.2.2.2.2.2.2.1)) (E.2.2.2.2.2.2.2.2.2.2.2.2.2.2.1)) (E.2.2.2.2.2.2.2.2.2.2.2.2.2.1)) (E.2.2.2.2.2.2.2.2.2.2.2.2.1)) (E.2.2.2.2.2.2.2.2.2.2.2.1)) (E.2.2.2.2.2.2.2.2.2.2.1)) (E.2.2.2.2.2.2.2.2.2.1)) (E.2.2.2.2.2.2.2.2.1)) (E.2.2.2.2.2.2.2.1)) (E.2.2.2.2.2.2.1)) (E.2.2.2.2.2.1)) (E.2.2.2.2.1)) (E.2.2.2.1)) (E.2.2.1)) (E.2.1)) (E.1)), by omega, by omega, by omega⟩
     ·
      refine HE (o := ⟨some 15, _, _, _, _, _⟩) rfl rfl (Oper.wp_alloc AgI rfl ?_)
      intro bN11 wN11 eN11 zN11 dN11 xN11
      have lN11_0 : b32 < bN11 := by rw [eN11]; exact Bx.lt (E.2.2.2.2.1)
      replace E := E.below dN11
      clear eN11 zN11 dN11
      refine ⟨E.2.2, ?_⟩
      simp only [Act.put,q1,q2,q3]
      refine H2 (i := 6) (j := 12) (by kernel_rfl) ?_ ?_
      ·
       refine HE (o := ⟨some 107, _, _, _, _, _⟩) rfl rfl (Oper.wp_callIIE fn_integer_DivMod rfl (DivMod_z _ _ ((c * b) + (a % b)) b _ (E.1) (E.2.2.2.2.2.2.2.2.2.2.2.2.2.1) (hb0) (Fits.mono (Fits_add (Fits_mul Fc Fb : Fits (c * b) 12) F23 (k := 12) (by decide) (by decide) : Fits ((c * b) + (a % b)) 13) (by decide)) (Fits.mono Fb (by decide))) rfl E ?_)
       clear E
       intro wN6 nN6 sN6 mN6 tN6 dN6 E
       replace xN11 := xN11.below dN6
       clear dN6
       refine ⟨E.2.2.2.2, ?_⟩
       simp only [Act.put,q1,q2,q3]
       refine HP (i := 7) (o := ⟨some 100, _, _, _, _, _⟩) (v := .tuple #[.agg #[.bool nN6, sN6], .agg #[.bool mN6, tN6], .int .i64 0]) rfl (by kernel_rfl) (fun _ _ _ h => h) rfl (fun w hS => run_move rfl rfl) (E.2.2.2.2) ?_
       simp only [Act.put,q1,q2,q3]
       refine HP (i := 8) (o := ⟨some 108, _, _, _, _, _⟩) (v := .agg #[.bool nN6, sN6]) rfl (by kernel_rfl) (fun _ _ _ h => h) rfl (fun w hS => run_extract (vs := [.agg #[.bool nN6, sN6], .agg #[.bool mN6, tN6], .int .i64 0]) rfl rfl rfl) (E.2.2.2.2) ?_
       simp only [Act.put,q1,q2,q3]
       refine HP (i := 9) (o := ⟨some 109, _, _, _, _, _⟩) (v := .agg #[.bool mN6, tN6]) rfl (by kernel_rfl) (fun _ _ _ h => h) rfl (fun w hS => run_extract (vs := [.agg #[.bool nN6, sN6], .agg #[.bool mN6, tN6], .int .i64 0]) rfl rfl rfl) (E.2.2.2.2) ?_
       simp only [Act.put,q1,q2,q3]
       refine HP (i := 10) (o := ⟨some 110, _, _, _, _, _⟩) (v := .int .i64 0) rfl (by kernel_rfl) (fun _ _ _ h => h) rfl (fun w hS => run_extract (vs := [.agg #[.bool nN6, sN6], .agg #[.bool mN6, tN6], .int .i64 0]) rfl rfl rfl) (E.2.2.2.2) ?_
       simp only [Act.put,q1,q2,q3]
       refine H1 (i := 12) (by kernel_rfl) ?_
       refine HE (o := ⟨some 16, _, _, _, _, _⟩) rfl rfl (Oper.wp_alloc AgI rfl ?_)
       intro bN12 wN12 eN12 zN12 dN12 xN12
       have lN12_0 : bN11 < bN12 := by rw [eN12]; exact Bx.lt (xN11)
       replace E := E.below dN12
       replace xN11 := Bx.below xN11 dN12
       clear eN12 zN12 dN12
       refine ⟨E.2.2.2.2, ?_⟩
       simp only [Act.put,q1,q2,q3]
       refine H1 (i := 13) (by kernel_rfl) ?_
       refine HE (o := ⟨none, _, _, _, _, _⟩) rfl rfl (Oper.wp_store AgI rfl rfl rfl xN11 rfl rfl (IsI.one (E.2.1)) ?_)
       intro wN13 oN13 yN13
       replace E := (E.onl (xN11.noW now0) ⟨trivial, trivial, trivial, trivial, trivial, trivial, okB (by omega), trivial, okB (by omega), okB (by omega), trivial, trivial, okB (by omega), trivial, okB (by omega), trivial, okB (by omega), trivial, okX (by omega), okX (by omega), okX (by omega), okW (by omega), trivial⟩ oN13).b yN13
       replace xN12 := Bx.onl xN12 (by omega) oN13
       clear xN11 oN13 yN13
       refine ⟨E.2.2.2.2.2, ?_⟩
       simp only [Act.put]
       refine H1 (i := 14) (by kernel_rfl) ?_
       refine HE (o := ⟨none, _, _, _, _, _⟩) rfl rfl (Oper.wp_store AgI rfl rfl rfl xN12 rfl rfl (IsI.one (E.2.1)) ?_)
       intro wN14 oN14 yN14
       replace E := (E.onl (xN12.noW now0) ⟨okB (by omega), trivial, trivial, trivial, trivial, trivial, trivial, okB (by omega), trivial, okB (by omega), okB (by omega), trivial, trivial, okB (by omega), trivial, okB (by omega), trivial, okB (by omega), trivial, okX (by omega), okX (by omega), okX (by omega), okW (by omega), trivial⟩ oN14).b yN14
       clear xN12 oN14 yN14
       refine ⟨E.2.2.2.2.2.2, ?_⟩
       simp only [Act.put]
       refine HP (i := 15) (o := ⟨some 17, _, _, _, _, _⟩) (v := .int .i64 0) rfl (by kernel_rfl) (fun _ _ _ h => h) rfl (fun w hS => run_assign rfl rfl) (E.2.2.2.2.2.2) ?_
       simp only [Act.put,q1,q2,q3]
       refine HN (by kernel_rfl) ?_
       exact ⟨nN2, sN2, nN4, sN4, nN6, sN6, mN6, tN6, bN11, bN12, rfl, (Env.b (Env.b (Env.i (Env.i (Env.i (Env.i (Env.i (Env.i (Env.b (Env.i (Env.b (Env.b (Env.i (Env.i (Env.b (Env.i (Env.b (Env.i (Env.b (Env.i (Env.x (Env.x (Env.x (Env.ww (Env.nil _) (E.2.2.2.2.2.2.2.2.2.2.2.2.2.2.2.2.2.2.2.2.2.2.2.1)) (E.2.2.2.2.2.2.2.2.2.2.2.2.2.2.2.2.2.2.2.2.2.2.1)) (E.2.2.2.2.2.2.2.2.2.2.2.2.2.2.2.2.2.2.2.2.2.1)) (E.2.2.2.2.2.2.2.2.2.2.2.2.2.2.2.2.2.2.2.2.1)) (E.2.2.2.2.2.2.2.2.2.2.2.2.2.2.2.2.2.2.2.1)) (E.2.2.2.2.2.2.2.2.2.2.2.2.2.2.2.2.2.2.1)) (E.2.2.2.2.2.2.2.2.2.2.2.2.2.2.2.2.2.1)) (E.2.2.2.2.2.2.2.2.2.2.2.2.2.2.2.2.1)) (E.2.2.2.2.2.2.2.2.2.2.2.2.2.2.2.1)) (E.2.2.2.2.2.2.2.2.2.2.2.2.2.2.1)) (E.2.2.2.2.2.2.2.2.2.2.2.2.2.1)) (E.2.2.2.2.2.2.2.2.2.2.2.2.1)) (E.2.2.2.2.2.2.2.2.2.2.2.1)) (E.2.2.2.2.2.2.2.2.2.2.1)) (E.2.2.2.2.2.2.2.2.2.1)) (E.2.2.2.2.2.2.2.2.1)) (E.2.2.2.2.2.2.2.1)) (E.2.2.2.2.2.2.1)) (E.2.2.2.2.2.1)) (E.2.2.2.2.1)) (E.2.2.2.1)) (E.2.2.1)) (E.2.1)) (E.1)), by omega, by omega, by omega⟩
      ·
       refine HE (o := ⟨some 16, _, _, _, _, _⟩) rfl rfl (Oper.wp_alloc AgI rfl ?_)
       intro bN12 wN12 eN12 zN12 dN12 xN12
       have lN12_0 : bN11 < bN12 := by rw [eN12]; exact Bx.lt (xN11)
       replace E := E.below dN12
       replace xN11 := Bx.below xN11 dN12
       clear eN12 zN12 dN12
       refine ⟨E.2.2, ?_⟩
       simp only [Act.put,q1,q2,q3]
       refine H1 (i := 6) (by kernel_rfl) ?_
       refine HE (o := ⟨some 107, _, _, _, _, _⟩) rfl rfl (Oper.wp_callIIE fn_integer_DivMod rfl (DivMod_z _ _ ((c * b) + (a % b)) b _ (E.1) (E.2.2.2.2.2.2.2.2.2.2.2.2.2.1) (hb0) (Fits.mono (Fits_add (Fits_mul Fc Fb : Fits (c * b) 12) F23 (k := 12) (by decide) (by decide) : Fits ((c * b) + (a % b)) 13) (by decide)) (Fits.mono Fb (by decide))) rfl E ?_)
       clear E
       intro wN6 nN6 sN6 mN6 tN6 dN6 E
       replace xN11 := xN11.below dN6
       replace xN12 := xN12.below dN6
       clear dN6
       refine ⟨E.2.2.2.2, ?_⟩
       simp only [Act.put,q1,q2,q3]
       refine HP (i := 7) (o := ⟨some 100, _, _, _, _, _⟩) (v := .tuple #[.agg #[.bool nN6, sN6], .agg #[.bool mN6, tN6], .int .i64 0]) rfl (by kernel_rfl) (fun _ _ _ h => h) rfl (fun w hS => run_move rfl rfl) (E.2.2.2.2) ?_
       simp only [Act.put,q1,q2,q3]
       refine HP (i := 8) (o := ⟨some 108, _, _, _, _, _⟩) (v := .agg #[.bool nN6, sN6]) rfl (by kernel_rfl) (fun _ _ _ h => h) rfl (fun w hS => run_extract (vs := [.agg #[.bool nN6, sN6], .agg #[.bool mN6, tN6], .int .i64 0]) rfl rfl rfl) (E.2.2.2.2) ?_
       simp only [Act.put,q1,q2,q3]
       refine HP (i := 9) (o := ⟨some 109, _, _, _, _, _⟩) (v := .agg #[.bool mN6, tN6]) rfl (by kernel_rfl) (fun _ _ _ h => h) rfl (fun w hS => run_extract (vs := [.agg #[.bool nN6, sN6], .agg #[.bool mN6, tN6], .int .i64 0]) rfl rfl rfl) (E.2.2.2.2) ?_
       simp only [Act.put,q1,q2,q3]
       refine HP (i := 10) (o := ⟨some 110, _, _, _, _, _⟩) (v := .int .i64 0) rfl (by kernel_rfl) (fun _ _ _ h => h) rfl (fun w hS => run_extract (vs := [.agg #[.bool nN6, sN6], .agg #[.bool mN6, tN6], .int .i64 0]) rfl rfl rfl) (E.2.2.2.2) ?_
       simp only [Act.put,q1,q2,q3]
       refine H1 (i := 13) (by kernel_rfl) ?_
       refine HE (o := ⟨none, _, _, _, _, _⟩) rfl rfl (Oper.wp_store AgI rfl rfl rfl xN11 rfl rfl (IsI.one (E.2.1)) ?_)
       intro wN13 oN13 yN13
       replace E := (E.onl (xN11.noW now0) ⟨trivial, trivial, trivial, trivial, trivial, trivial, okB (by omega), trivial, okB (by omega), okB (by omega), trivial, trivial, okB (by omega), trivial, okB (by omega), trivial, okB (by omega), trivial, okX (by omega), okX (by omega), okX (by omega), okW (by omega), trivial⟩ oN13).b yN13
       replace xN12 := Bx.onl xN12 (by omega) oN13
       clear xN11 oN13 yN13
       refine ⟨E.2.2.2.2.2, ?_⟩
       simp only [Act.put]
       refine H1 (i := 14) (by kernel_rfl) ?_
       refine HE (o := ⟨none, _, _, _, _, _⟩) rfl rfl (Oper.wp_store AgI rfl rfl rfl xN12 rfl rfl (IsI.one (E.2.1)) ?_)
       intro wN14 oN14 yN14
       replace E := (E.onl (xN12.noW now0) ⟨okB (by omega), trivial, trivial, trivial, trivial, trivial, trivial, okB (by omega), trivial, okB (by omega), okB (by omega), trivial, trivial, okB (by omega), trivial, okB (by omega), trivial, okB (by omega), trivial, okX (by omega), okX (by omega), okX (by omega), okW (by omega), trivial⟩ oN14).b yN14
       clear xN12 oN14 yN14
       refine ⟨E.2.2.2.2.2.2, ?_⟩
       simp only [Act.put]
       refine HP (i := 15) (o := ⟨some 17, _, _, _, _, _⟩) (v := .int .i64 0) rfl (by kernel_rfl) (fun _ _ _ h => h) rfl (fun w hS => run_assign rfl rfl) (E.2.2.2.2.2.2) ?_
       simp only [Act.put,q1,q2,q3]
       refine HN (by kernel_rfl) ?_
       exact ⟨nN2, sN2, nN4, sN4, nN6, sN6, mN6, tN6, bN11, bN12, rfl, (Env.b (Env.b (Env.i (Env.i (Env.i (Env.i (Env.i (Env.i (Env.b (Env.i (Env.b (Env.b (Env.i (Env.i (Env.b (Env.i (Env.b (Env.i (Env.b (Env.i (Env.x (Env.x (Env.x (Env.ww (Env.nil _) (E.2.2.2.2.2.2.2.2.2.2.2.2.2.2.2.2.2.2.2.2.2.2.2.1)) (E.2.2.2.2.2.2.2.2.2.2.2.2.2.2.2.2.2.2.2.2.2.2.1)) (E.2.2.2.2.2.2.2.2.2.2.2.2.2.2.2.2.2.2.2.2.2.1)) (E.2.2.2.2.2.2.2.2.2.2.2.2.2.2.2.2.2.2.2.2.1)) (E.2.2.2.2.2.2.2.2.2.2.2.2.2.2.2.2.2.2.2.1)) (E.2.2.2.2.2.2.2.2.2.2.2.2.2.2.2.2.2.2.1)) (E.2.2.2.2.2.2.2.2.2.2.2.2.2.2.2.2.2.1)) (E.2.2.2.2.2.2.2.2.2.2.2.2.2.2.2.2.1)) (E.2.2.2.2.2.2.2.2.2.2.2.2.2.2.2.1)) (E.2.2.2.2.2.2.2.2.2.2.2.2.2.2.1)) (E.2.2.2.2.2.2.2.2.2.2.2.2.2.1)) (E.2.2.2.2.2.2.2.2.2.2.2.2.1)) (E.2.2.2.2.2.2.2.2.2.2.2.1)) (E.2.2.2.2.2.2.2.2.2.2.1)) (E.2.2.2.2.2.2.2.2.2.1)) (E.2.2.2.2.2.2.2.2.1)) (E.2.2.2.2.2.2.2.1)) (E.2.2.2.2.2.2.1)) (E.2.2.2.2.2.1)) (E.2.2.2.2.1)) (E.2.2.2.1)) (E.2.2.1)) (E.2.1)) (E.1)), by omega, by omega, by omega⟩
     ·
      refine HE (o := ⟨some 16, _, _, _, _, _⟩) rfl rfl (Oper.wp_alloc AgI rfl ?_)
      intro bN12 wN12 eN12 zN12 dN12 xN12
      have lN12_0 : b32 < bN12 := by rw [eN12]; exact Bx.lt (E.2.2.2.2.1)
      replace E := E.below dN12
      clear eN12 zN12 dN12
      refine ⟨E.2.2, ?_⟩
      simp only [Act.put,q1,q2,q3]
      refine H2 (i := 6) (j := 11) (by kernel_rfl) ?_ ?_
      ·
       refine HE (o := ⟨some 107, _, _, _, _, _⟩) rfl rfl (Oper.wp_callIIE fn_integer_DivMod rfl (DivMod_z _ _ ((c * b) + (a % b)) b _ (E.1) (E.2.2.2.2.2.2.2.2.2.2.2.2.2.1) (hb0) (Fits.mono (Fits_add (Fits_mul Fc Fb : Fits (c * b) 12) F23 (k := 12) (by decide) (by decide) : Fits ((c * b) + (a % b)) 13) (by decide)) (Fits.mono Fb (by decide))) rfl E ?_)
       clear E
       intro wN6 nN6 sN6 mN6 tN6 dN6 E
       replace xN12 := xN12.below dN6
       clear dN6
       refine ⟨E.2.2.2.2, ?_⟩
       simp only [Act.put,q1,q2,q3]
       refine HP (i := 7) (o := ⟨some 100, _, _, _, _, _⟩) (v := .tuple #[.agg #[.bool nN6, sN6], .agg #[.bool mN6, tN6], .int .i64 0]) rfl (by kernel_rfl) (fun _ _ _ h => h) rfl (fun w hS => run_move rfl rfl) (E.2.2.2.2) ?_
       simp only [Act.put,q1,q2,q3]
       refine HP (i := 8) (o := ⟨some 108, _, _, _, _, _⟩) (v := .agg #[.bool nN6, sN6]) rfl (by kernel_rfl) (fun _ _ _ h => h) rfl (fun w hS => run_extract (vs := [.agg #[.bool nN6, sN6], .agg #[.bool mN6, tN6], .int .i64 0]) rfl rfl rfl) (E.2.2.2.2) ?_
       simp only [Act.put,q1,q2,q3]
       refine HP (i := 9) (o := ⟨some 109, _, _, _, _, _⟩) (v := .agg #[.bool mN6, tN6]) rfl (by kernel_rfl) (fun _ _ _ h => h) rfl (fun w hS => run_extract (vs := [.agg #[.bool nN6, sN6], .agg #[.bool mN6, tN6], .int .i64 0]) rfl rfl rfl) (E.2.2.2.2) ?_
       simp only [Act.put,q1,q2,q3]
       refine HP (i := 10) (o := ⟨some 110, _, _, _, _, _⟩) (v := .int .i64 0) rfl (by kernel_rfl) (fun _ _ _ h => h) rfl (fun w hS => run_extract (vs := [.agg #[.bool nN6, sN6], .agg #[.bool mN6, tN6], .int .i64 0]) rfl rfl rfl) (E.2.2.2.2) ?_
       simp only [Act.put,q1,q2,q3]
       refine H1 (i := 11) (by kernel_rfl) ?_
       refine HE (o := ⟨some 15, _, _, _, _, _⟩) rfl rfl (Oper.wp_alloc AgI rfl ?_)
       intro bN11 wN11 eN11 zN11 dN11 xN11
       have lN11_0 : bN12 < bN11 := by rw [eN11]; exact Bx.lt (xN12)
       replace E := E.below dN11
       replace xN12 := Bx.below xN12 dN11
       clear eN11 zN11 dN11
       refine ⟨E.2.2.2.2, ?_⟩
       simp only [Act.put,q1,q2,q3]
       refine H1 (i := 13) (by kernel_rfl) ?_
       refine HE (o := ⟨none, _, _, _, _, _⟩) rfl rfl (Oper.wp_store AgI rfl rfl rfl xN11 rfl rfl (IsI.one (E.2.1)) ?_)
       intro wN13 oN13 yN13
       replace E := (E.onl (xN11.noW now0) ⟨trivial, trivial, trivial, trivial, trivial, trivial, okB (by omega), trivial, okB (by omega), okB (by omega), trivial, trivial, okB (by omega), trivial, okB (by omega), trivial, okB (by omega), trivial, okX (by omega), okX (by omega), okX (by omega), okW (by omega), trivial⟩ oN13).b yN13
       replace xN12 := Bx.onl xN12 (by omega) oN13
       clear xN11 oN13 yN13
       refine ⟨E.2.2.2.2.2, ?_⟩
       simp only [Act.put]
       refine H1 (i := 14) (by kernel_rfl) ?_
       refine HE (o := ⟨none, _, _, _, _, _⟩) rfl rfl (Oper.wp_store AgI rfl rfl rfl xN12 rfl rfl (IsI.one (E.2.1)) ?_)
       intro wN14 oN14 yN14
       replace E := (E.onl (xN12.noW now0) ⟨okB (by omega), trivial, trivial, trivial, trivial, trivial, trivial, okB (by omega), trivial, okB (by omega), okB (by omega), trivial, trivial, okB (by omega), trivial, okB (by omega), trivial, okB (by omega), trivial, okX (by omega), okX (by omega), okX (by omega), okW (by omega), trivial⟩ oN14).b yN14
       clear xN12 oN14 yN14
       refine ⟨E.2.2.2.2.2.2, ?_⟩
       simp only [Act.put]
       refine HP (i := 15) (o := ⟨some 17, _, _, _, _, _⟩) (v := .int .i64 0) rfl (by kernel_rfl) (fun _ _ _ h => h) rfl (fun w hS => run_assign rfl rfl) (E.2.2.2.2.2.2) ?_
       simp only [Act.put,q1,q2,q3]
       refine HN (by kernel_rfl) ?_
       exact ⟨nN2, sN2, nN4, sN4, nN6, sN6, mN6, tN6, bN11, bN12, rfl, (Env.b (Env.b (Env.i (Env.i (Env.i (Env.i (Env.i (Env.i (Env.b (Env.i (Env.b (Env.b (Env.i (Env.i (Env.b (Env.i (Env.b (Env.i (Env.b (Env.i (Env.x (Env.x (Env.x (Env.ww (Env.nil _) (E.2.2.2.2.2.2.2.2.2.2.2.2.2.2.2.2.2.2.2.2.2.2.2.1)) (E.2.2.2.2.2.2.2.2.2.2.2.2.2.2.2.2.2.2.2.2.2.2.1)) (E.2.2.2.2.2.2.2.2.2.2.2.2.2.2.2.2.2.2.2.2.2.1)) (E.2.2.2.2.2.2.2.2.2.2.2.2.2.2.2.2.2.2.2.2.1)) (E.2.2.2.2.2.2.2.2.2.2.2.2.2.2.2.2.2.2.2.1)) (E.2.2.2.2.2.2.2.2.2.2.2.2.2.2.2.2.2.2.1)) (E.2.2.2.2.2.2.2.2.2.2.2.2.2.2.2.2.2.1)) (E.2.2.2.2.2.2.2.2.2.2.2.2.2.2.2.2.1)) (E.2.2.2.2.2.2.2.2.2.2.2.2.2.2.2.1)) (E.2.2.2.2.2.2.2.2.2.2.2.2.2.2.1)) (E.2.2.2.2.2.2.2.2.2.2.2.2.2.1)) (E.2.2.2.2.2.2.2.2.2.2.2.2.1)) (E.2.2.2.2.2.2.2.2.2.2.2.1)) (E.2.2.2.2.2.2.2.2.2.2.1)) (E.2.2.2.2.2.2.2.2.2.1)) (E.2.2.2.2.2.2.2.2.1)) (E.2.2.2.2.2.2.2.1)) (E.2.2.2.2.2.2.1)) (E.2.2.2.2.2.1)) (E.2.2.2.2.1)) (E.2.2.2.1)) (E.2.2.1)) (E.2.1)) (E.1)), by omega, by omega, by omega⟩
      ·
       refine HE (o := ⟨some 15, _, _, _, _, _⟩) rfl rfl (Oper.wp_alloc AgI rfl ?_)
       intro bN11 wN11 eN11 zN11 dN11 xN11
       have lN11_0 : bN12 < bN11 := by rw [eN11]; exact Bx.lt (xN12)
       replace E := E.below dN11
       replace xN12 := Bx.below xN12 dN11
       clear eN11 zN11 dN11
       refine ⟨E.2.2, ?_⟩
       simp only [Act.put,q1,q2,q3]
       refine H1 (i := 6) (by kernel_rfl) ?_
       refine HE (o := ⟨some 107, _, _, _, _, _⟩) rfl rfl (Oper.wp_callIIE fn_integer_DivMod rfl (DivMod_z _ _ ((c * b) + (a % b)) b _ (E.1) (E.2.2.2.2.2.2.2.2.2.2.2.2.2.1) (hb0) (Fits.mono (Fits_add (Fits_mul Fc Fb : Fits (c * b) 12) F23 (k := 12) (by decide) (by decide) : Fits ((c * b) + (a % b)) 13) (by decide)) (Fits.mono Fb (by decide))) rfl E ?_)
       clear E
       intro wN6 nN6 sN6 mN6 tN6 dN6 E
       replace xN12 := xN12.below dN6
       replace xN11 := xN11.below dN6
       clear dN6
       refine ⟨E.2.2.2.2, ?_⟩
       simp only [Act.put,q1,q2,q3]
       refine HP (i := 7) (o := ⟨some 100, _, _, _, _, _⟩) (v := .tuple #[.agg #[.bool nN6, sN6], .agg #[.bool mN6, tN6], .int .i64 0]) rfl (by kernel_rfl) (fun _ _ _ h => h) rfl (fun w hS => run_move rfl rfl) (E.2.2.2.2) ?_
       simp only [Act.put,q1,q2,q3]
       refine HP (i := 8) (o := ⟨some 108, _, _, _, _, _⟩) (v := .agg #[.bool nN6, sN6]) rfl (by kernel_rfl) (fun _ _ _ h => h) rfl (fun w hS => run_extract (vs := [.agg #[.bool nN6, sN6], .agg #[.bool mN6, tN6], .int .i64 0]) rfl rfl rfl) (E.2.2.2.2) ?_
       simp only [Act.put,q1,q2,q3]
       refine HP (i := 9) (o := ⟨some 109, _, _, _, _, _⟩) (v := .agg #[.bool mN6, tN6]) rfl (by kernel_rfl) (fun _ _ _ h => h) rfl (fun w hS => run_extract (vs := [.agg #[.bool nN6, sN6], .agg #[.bool mN6, tN6], .int .i64 0]) rfl rfl rfl) (E.2.2.2.2) ?_
       simp only [Act.put,q1,q2,q3]
       refine HP (i := 10) (o := ⟨some 110, _, _, _, _, _⟩) (v := .int .i64 0) rfl (by kernel_rfl) (fun _ _ _ h => h) rfl (fun w hS => run_extract (vs := [.agg #[.bool nN6, sN6], .agg #[.bool mN6, tN6], .int .i64 0]) rfl rfl rfl) (E.2.2.2.2) ?_
       simp only [Act.put,q1,q2,q3]
       refine H1 (i := 13) (by kernel_rfl) ?_
       refine HE (o := ⟨none, _, _, _, _, _⟩) rfl rfl (Oper.wp_store AgI rfl rfl rfl xN11 rfl rfl (IsI.one (E.2.1)) ?_)
       intro wN13 oN13 yN13
       replace E := (E.onl (xN11.noW now0) ⟨trivial, trivial, trivial, trivial, trivial, trivial, okB (by omega), trivial, okB (by omega), okB (by omega), trivial, trivial, okB (by omega), trivial, okB (by omega), trivial, okB (by omega), trivial, okX (by omega), okX (by omega), okX (by omega), okW (by omega), trivial⟩ oN13).b yN13
       replace xN12 := Bx.onl xN12 (by omega) oN13
       clear xN11 oN13 yN13
       refine ⟨E.2.2.2.2.2, ?_⟩
       simp only [Act.put]
       refine H1 (i := 14) (by kernel_rfl) ?_
       refine HE (o := ⟨none, _, _, _, _, _⟩) rfl rfl (Oper.wp_store AgI rfl rfl rfl xN12 rfl rfl (IsI.one (E.2.1)) ?_)
       intro wN14 oN14 yN14
       replace E := (E.onl (xN12.noW now0) ⟨okB (by omega), trivial, trivial, trivial, trivial, trivial, trivial, okB (by omega), trivial, okB (by omega), okB (by omega), trivial, trivial, okB (by omega), trivial, okB (by omega), trivial, okB (by omega), trivial, okX (by omega), okX (by omega), okX (by omega), okW (by omega), trivial⟩ oN14).b yN14
       clear xN12 oN14 yN14
       refine ⟨E.2.2.2.2.2.2, ?_⟩
       simp only [Act.put]
       refine HP (i := 15) (o := ⟨some 17, _, _, _, _, _⟩) (v := .int .i64 0) rfl (by kernel_rfl) (fun _ _ _ h => h) rfl (fun w hS => run_assign rfl rfl) (E.2.2.2.2.2.2) ?_
       simp only [Act.put,q1,q2,q3]
       refine HN (by kernel_rfl) ?_
       exact ⟨nN2, sN2, nN4, sN4, nN6, sN6, mN6, tN6, bN11, bN12, rfl, (Env.b (Env.b (Env.i (Env.i (Env.i (Env.i (Env.i (Env.i (Env.b (Env.i (Env.b (Env.b (Env.i (Env.i (Env.b (Env.i (Env.b (Env.i (Env.b (Env.i (Env.x (Env.x (Env.x (Env.ww (Env.nil _) (E.2.2.2.2.2.2.2.2.2.2.2.2.2.2.2.2.2.2.2.2.2.2.2.1)) (E.2.2.2.2.2.2.2.2.2.2.2.2.2.2.2.2.2.2.2.2.2.2.1)) (E.2.2.2.2.2.2.2.2.2.2.2.2.2.2.2.2.2.2.2.2.2.1)) (E.2.2.2.2.2.2.2.2.2.2.2.2.2.2.2.2.2.2.2.2.1)) (E.2.2.2.2.2.2.2.2.2.2.2.2.2.2.2.2.2.2.2.1)) (E.2.2.2.2.2.2.2.2.2.2.2.2.2.2.2.2.2.2.1)) (E.2.2.2.2.2.2.2.2.2.2.2.2.2.2.2.2.2.1)) (E.2.2.2.2.2.2.2.2.2.2.2.2.2.2.2.2.1)) (E.2.2.2.2.2.2.2.2.2.2.2.2.2.2.2.1)) (E.2.2.2.2.2.2.2.2.2.2.2.2.2.2.1)) (E.2.2.2.2.2.2.2.2.2.2.2.2.2.1)) (E.2.2.2.2.2.2.2.2.2.2.2.2.1)) (E.2.2.2.2.2.2.2.2.2.2.2.1)) (E.2.2.2.2.2.2.2.2.2.2.1)) (E.2.2.2.2.2.2.2.2.2.1)) (E.2.2.2.2.2.2.2.2.1)) (E.2.2.2.2.2.2.2.1)) (E.2.2.2.2.2.2.1)) (E.2.2.2.2.2.1)) (E.2.2.2.2.1)) (E.2.2.2.1)) (E.2.2.1)) (E.2.1)) (E.1)), by omega, by omega, by omega⟩
    ·
     refine HE (o := ⟨some 15, _, _, _, _, _⟩) rfl rfl (Oper.wp_alloc AgI rfl ?_)
     intro bN11 wN11 eN11 zN11 dN11 xN11
     have lN11_0 : b32 < bN11 := by rw [eN11]; exact Bx.lt (E.2.2.2.1)
     replace E := E.below dN11
     clear eN11 zN11 dN11
     refine ⟨E.2, ?_⟩
     simp only [Act.put,q1,q2,q3]
     refine H2 (i := 4) (j := 12) (by kernel_rfl) ?_ ?_
     ·
      refine HE (o := ⟨some 105, _, _, _, _, _⟩) rfl rfl (Oper.wp_callI fn_integer_Add rfl (Add_z _ _ (c * b) (a % b) _ (E.1) (E.2.2.2.2.2.2.2.1) (Fits.mono (Fits_mul Fc Fb : Fits (c * b) 12) (by decide)) (Fits.mono F23 (by decide))) rfl E ?_)
      clear E
      intro wN4 nN4 sN4 dN4 E
      replace xN11 := xN11.below dN4
      clear dN4
      refine ⟨E.2.2, ?_⟩
      simp only [Act.put,q1,q2,q3]
      refine H2 (i := 6) (j := 12) (by kernel_rfl) ?_ ?_
      ·
       refine HE (o := ⟨some 107, _, _, _, _, _⟩) rfl rfl (Oper.wp_callIIE fn_integer_DivMod rfl (DivMod_z _ _ ((c * b) + (a % b)) b _ (E.1) (E.2.2.2.2.2.2.2.2.2.2.2.2.2.1) (hb0) (Fits.mono (Fits_add (Fits_mul Fc Fb : Fits (c * b) 12) F23 (k := 12) (by decide) (by decide) : Fits ((c * b) + (a % b)) 13) (by decide)) (Fits.mono Fb (by decide))) rfl E ?_)
       clear E
       intro wN6 nN6 sN6 mN6 tN6 dN6 E
       replace xN11 := xN11.below dN6
       clear dN6
       refine ⟨E.2.2.2.2, ?_⟩
       simp only [Act.put,q1,q2,q3]
       refine HP (i := 7) (o := ⟨some 100, _, _, _, _, _⟩) (v := .tuple #[.agg #[.bool nN6, sN6], .agg #[.bool mN6, tN6], .int .i64 0]) rfl (by kernel_rfl) (fun _ _ _ h => h) rfl (fun w hS => run_move rfl rfl) (E.2.2.2.2) ?_
       simp only [Act.put,q1,q2,q3]
       refine HP (i := 8) (o := ⟨some 108, _, _, _, _, _⟩) (v := .agg #[.bool nN6, sN6]) rfl (by kernel_rfl) (fun _ _ _ h => h) rfl (fun w hS => run_extract (vs := [.agg #[.bool nN6, sN6], .agg #[.bool mN6, tN6], .int .i64 0]) rfl rfl rfl) (E.2.2.2.2) ?_
       simp only [Act.put,q1,q2,q3]
       refine HP (i := 9) (o := ⟨some 109, _, _, _, _, _⟩) (v := .agg #[.bool mN6, tN6]) rfl (by kernel_rfl) (fun _ _ _ h => h) rfl (fun w hS => run_extract (vs := [.agg #[.bool nN6, sN6], .agg #[.bool mN6, tN6], .int .i64 0]) rfl rfl rfl) (E.2.2.2.2) ?_
       simp only [Act.put,q1,q2,q3]
       refine HP (i := 10) (o := ⟨some 110, _, _, _, _, _⟩) (v := .int .i64 0) rfl (by kernel_rfl) (fun _ _ _ h => h) rfl (fun w hS => run_extract (vs := [.agg #[.bool nN6, sN6], .agg #[.bool mN6, tN6], .int .i64 0]) rfl rfl rfl) (E.2.2.2.2) ?_
       simp only [Act.put,q1,q2,q3]
       refine H1 (i := 12) (by kernel_rfl) ?_
       refine HE (o := ⟨some 16, _, _, _, _, _⟩) rfl rfl (Oper.wp_alloc AgI rfl ?_)
       intro bN12 wN12 eN12 zN12 dN12 xN12
       have lN12_0 : bN11 < bN12 := by rw [eN12]; exact Bx.lt (xN11)
       replace E := E.below dN12
       replace xN11 := Bx.below xN11 dN12
       clear eN12 zN12 dN12
       refine ⟨E.2.2.2.2, ?_⟩
       simp only [Act.put,q1,q2,q3]
       refine H1 (i := 13) (by kernel_rfl) ?_
       refine HE (o := ⟨none, _, _, _, _, _⟩) rfl rfl (Oper.wp_store AgI rfl rfl rfl xN11 rfl rfl (IsI.one (E.2.1)) ?_)
       intro wN13 oN13 yN13
       replace E := (E.onl (xN11.noW now0) ⟨trivial, trivial, trivial, trivial, trivial, trivial, okB (by omega), trivial, okB (by omega), okB (by omega), trivial, trivial, okB (by omega), trivial, okB (by omega), trivial, okB (by omega), trivial, okX (by omega), okX (by omega), okX (by omega), okW (by omega), trivial⟩ oN13).b yN13
       replace xN12 := Bx.onl xN12 (by omega) oN13
       clear xN11 oN13 yN13
       refine ⟨E.2.2.2.2.2, ?_⟩
       simp only [Act.put]
       refine H1 (i := 14) (by kernel_rfl) ?_
       refine HE (o := ⟨none, _, _, _, _, _⟩) rfl rfl (Oper.wp_store AgI rfl rfl rfl xN12 rfl rfl (IsI.one (E.2.1)) ?_)
       intro wN14 oN14 yN14
       replace E := (E.onl (xN12.noW now0) ⟨okB (by omega), trivial, trivial, trivial, trivial, trivial, trivial, okB (by omega), trivial, okB (by omega), okB (by omega), trivial, trivial, okB (by omega), trivial, okB (by omega), trivial, okB (by omega), trivial, okX (by omega), okX (by omega), okX (by omega), okW (by omega), trivial⟩ oN14).b yN14
       clear xN12 oN14 yN14
       refine ⟨E.2.2.2.2.2.2, ?_⟩
       simp only [Act.put]
       refine HP (i := 15) (o := ⟨some 17, _, _, _, _, _⟩) (v := .int .i64 0) rfl (by kernel_rfl) (fun _ _ _ h => h) rfl (fun w hS => run_assign rfl rfl) (E.2.2.2.2.2.2) ?_
       simp only [Act.put,q1,q2,q3]
       refine HN (by kernel_rfl) ?_
       exact ⟨nN2, sN2, nN4, sN4, nN6, sN6, mN6, tN6, bN11, bN12, rfl, (Env.b (Env.b (Env.i (Env.i (Env.i (Env.i (Env.i (Env.i (Env.b (Env.i (Env.b (Env.b (Env.i (Env.i (Env.b (Env.i (Env.b (Env.i (Env.b (Env.i (Env.x (Env.x (Env.x (Env.ww (Env.nil _) (E.2.2.2.2.2.2.2.2.2.2.2.2.2.2.2.2.2.2.2.2.2.2.2.1)) (E.2.2.2.2.2.2.2.2.2.2.2.2.2.2.2.2.2.2.2.2.2.2.1)) (E.2.2.2.2.2.2.2.2.2.2.2.2.2.2.2.2.2.2.2.2.2.1)) (E.2.2.2.2.2.2.2.2.2.2.2.2.2.2.2.2.2.2.2.2.1)) (E.2.2.2.2.2.2.2.2.2.2.2.2.2.2.2.2.2.2.2.1)) (E.2.2.2.2.2.2.2.2.2.2.2.2.2.2.2.2.2.2.1)) (E.2.2.2.2.2.2.2.2.2.2.2.2.2.2.2.2.2.1)) (E.2.2.2.2.2.2.2.2.2.2.2.2.2.2.2.2.1)) (E.2.2.2.2.2.2.2.2.2.2.2.2.2.2.2.1)) (E.2.2.2.2.2.2.2.2.2.2.2.2.2.2.1)) (E.2.2.2.2.2.2.2.2.2.2.2.2.2.1)) (E.2.2.2.2.2.2.2.2.2.2.2.2.1)) (E.2.2.2.2.2.2.2.2.2.2.2.1)) (E.2.2.2.2.2.2.2.2.2.2.1)) (E.2.2.2.2.2.2.2.2.2.1)) (E.2.2.2.2.2.2.2.2.1)) (E.2.2.2.2.2.2.2.1)) (E.2.2.2.2.2.2.1)) (E.2.2.2.2.2.1)) (E.2.2.2.2.1)) (E.2.2.2.1)) (E.2.2.1)) (E.2.1)) (E.1)), by omega, by omega, by omega⟩
      ·
       refine HE (o := ⟨some 16, _, _, _, _, _⟩) rfl rfl (Oper.wp_alloc AgI rfl ?_)
       intro bN12 wN12 eN12 zN12 dN12 xN12
       have lN12_0 : bN11 < bN12 := by rw [eN12]; exact Bx.lt (xN11)
       replace E := E.below dN12
       replace xN11 := Bx.below xN11 dN12
       clear eN12 zN12 dN12
       refine ⟨E.2.2, ?_⟩
       simp only [Act.put,q1,q2,q3]
       refine H1 (i := 6) (by kernel_rfl) ?_
       refine HE (o := ⟨some 107, _, _, _, _, _⟩) rfl rfl (Oper.wp_callIIE fn_integer_DivMod rfl (DivMod_z _ _ ((c * b) + (a % b)) b _ (E.1) (E.2.2.2.2.2.2.2.2.2.2.2.2.2.1) (hb0) (Fits.mono (Fits_add (Fits_mul Fc Fb : Fits (c * b) 12) F23 (k := 12) (by decide) (by decide) : Fits ((c * b) + (a % b)) 13) (by decide)) (Fits.mono Fb (by decide))) rfl E ?_)
       clear E
       intro wN6 nN6 sN6 mN6 tN6 dN6 E
       replace xN11 := xN11.below dN6
       replace xN12 := xN12.below dN6
       clear dN6
       refine ⟨E.2.2.2.2, ?_⟩
       simp only [Act.put,q1,q2,q3]
       refine HP (i := 7) (o := ⟨some 100, _, _, _, _, _⟩) (v := .tuple #[.agg #[.bool nN6, sN6], .agg #[.bool mN6, tN6], .int .i64 0]) rfl (by kernel_rfl) (fun _ _ _ h => h) rfl (fun w hS => run_move rfl rfl) (E.2.2.2.2) ?_
       simp only [Act.put,q1,q2,q3]
       refine HP (i := 8) (o := ⟨some 108, _, _, _, _, _⟩) (v := .agg #[.bool nN6, sN6]) rfl (by kernel_rfl) (fun _ _ _ h => h) rfl (fun w hS => run_extract (vs := [.agg #[.bool nN6, sN6], .agg #[.bool mN6, tN6], .int .i64 0]) rfl rfl rfl) (E.2.2.2.2) ?_
       simp only [Act.put,q1,q2,q3]
       refine HP (i := 9) (o := ⟨some 109, _, _, _, _, _⟩) (v := .agg #[.bool mN6, tN6]) rfl (by kernel_rfl) (fun _ _ _ h => h) rfl (fun w hS => run_extract (vs := [.agg #[.bool nN6, sN6], .agg #[.bool mN6, tN6], .int .i64 0]) rfl rfl rfl) (E.2.2.2.2) ?_
       simp only [Act.put,q1,q2,q3]
       refine HP (i := 10) (o := ⟨some 110, _, _, _, _, _⟩) (v := .int .i64 0) rfl (by kernel_rfl) (fun _ _ _ h => h) rfl (fun w hS => run_extract (vs := [.agg #[.bool nN6, sN6], .agg #[.bool mN6, tN6], .int .i64 0]) rfl rfl rfl) (E.2.2.2.2) ?_
       simp only [Act.put,q1,q2,q3]
       refine H1 (i := 13) (by kernel_rfl) ?_
       refine HE (o := ⟨none, _, _, _, _, _⟩) rfl rfl (Oper.wp_store AgI rfl rfl rfl xN11 rfl rfl (IsI.one (E.2.1)) ?_)
       intro wN13 oN13 yN13
       replace E := (E.onl (xN11.noW now0) ⟨trivial, trivial, trivial, trivial, trivial, trivial, okB (by omega), trivial, okB (by omega), okB (by omega), trivial, trivial, okB (by omega), trivial, okB (by omega), trivial, okB (by omega), trivial, okX (by omega), okX (by omega), okX (by omega), okW (by omega), trivial⟩ oN13).b yN13
       replace xN12 := Bx.onl xN12 (by omega) oN13
       clear xN11 oN13 yN13
       refine ⟨E.2.2.2.2.2, ?_⟩
       simp only [Act.put]
       refine H1 (i := 14) (by kernel_rfl) ?_
       refine HE (o := ⟨none, _, _, _, _, _⟩) rfl rfl (Oper.wp_store AgI rfl rfl rfl xN12 rfl rfl (IsI.one (E.2.1)) ?_)
       intro wN14 oN14 yN14
       replace E := (E.onl (xN12.noW now0) ⟨okB (by omega), trivial, trivial, trivial, trivial, trivial, trivial, okB (by omega), trivial, okB (by omega), okB (by omega), trivial, trivial, okB (by omega), trivial, okB (by omega), trivial, okB (by omega), trivial, okX (by omega), okX (by omega), okX (by omega), okW (by omega), trivial⟩ oN14).b yN14
       clear xN12 oN14 yN14
       refine ⟨E.2.2.2.2.2.2, ?_⟩
       simp only [Act.put]
       refine HP (i := 15) (o := ⟨some 17, _, _, _, _, _⟩) (v := .int .i64 0) rfl (by kernel_rfl) (fun _ _ _ h => h) rfl (fun w hS => run_assign rfl rfl) (E.2.2.2.2.2.2) ?_
       simp only [Act.put,q1,q2,q3]
       refine HN (by kernel_rfl) ?_
       exact ⟨nN2, sN2, nN4, sN4, nN6, sN6, mN6, tN6, bN11, bN12, rfl, (Env.b (Env.b (Env.i (Env.i (Env.i (Env.i (Env.i (Env.i (Env.b (Env.i (Env.b (Env.b (Env.i (Env.i (Env.b (Env.i (Env.b (Env.i (Env.b (Env.i (Env.x (Env.x (Env.x (Env.ww (Env.nil _) (E.2.2.2.2.2.2.2.2.2.2.2.2.2.2.2.2.2.2.2.2.2.2.2.1)) (E.2.2.2.2.2.2.2.2.2.2.2.2.2.2.2.2.2.2.2.2.2.2.1)) (E.2.2.2.2.2.2.2.2.2.2.2.2.2.2.2.2.2.2.2.2.2.1)) (E.2.2.2.2.2.2.2.2.2.2.2.2.2.2.2.2.2.2.2.2.1)) (E.2.2.2.2.2.2.2.2.2.2.2.2.2.2.2.2.2.2.2.1)) (E.2.2.2.2.2.2.2.2.2.2.2.2.2.2.2.2.2.2.1)) (E.2.2.2.2.2.2.2.2.2.2.2.2.2.2.2.2.2.1)) (E.2.2.2.2.2.2.2.2.2.2.2.2.2.2.2.2.1)) (E.2.2.2.2.2.2.2.2.2.2.2.2.2.2.2.1)) (E.2.2.2.2.2.2.2.2.2.2.2.2.2.2.1)) (E.2.2.2.2.2.2.2.2.2.2.2.2.2.1)) (E.2.2.2.2.2.2.2.2.2.2.2.2.1)) (E.2.2.2.2.2.2.2.2.2.2.2.1)) (E.2.2.2.2.2.2.2.2.2.2.1)) (E.2.2.2.2.2.2.2.2.2.1)) (E.2.2.2.2.2.2.2.2.1)) (E.2.2.2.2.2.2.2.1)) (E.2.2.2.2.2.2.1)) (E.2.2.2.2.2.1)) (E.2.2.2.2.1)) (E.2.2.2.1)) (E.2.2.1)) (E.2.1)) (E.1)), by omega, by omega, by omega⟩
     ·
      refine HE (o := ⟨some 16, _, _, _, _, _⟩) rfl rfl (Oper.wp_alloc AgI rfl ?_)
      intro bN12 wN12 eN12 zN12 dN12 xN12
      have lN12_0 : bN11 < bN12 := by rw [eN12]; exact Bx.lt (xN11)
      replace E := E.below dN12
      replace xN11 := Bx.below xN11 dN12
      clear eN12 zN12 dN12
      refine ⟨E.2, ?_⟩
      simp only [Act.put,q1,q2,q3]
      refine H1 (i := 4) (by kernel_rfl) ?_
      refine HE (o := ⟨some 105, _, _, _, _, _⟩) rfl rfl (Oper.wp_callI fn_integer_Add rfl (Add_z _ _ (c * b) (a % b) _ (E.1) (E.2.2.2.2.2.2.2.1) (Fits.mono (Fits_mul Fc Fb : Fits (c * b) 12) (by decide)) (Fits.mono F23 (by decide))) rfl E ?_)
      clear E
      intro wN4 nN4 sN4 dN4 E
      replace xN11 := xN11.below dN4
      replace xN12 := xN12.below dN4
      clear dN4
      refine ⟨E.2.2, ?_⟩
      simp only [Act.put,q1,q2,q3]
      refine H1 (i := 6) (by kernel_rfl) ?_
      refine HE (o := ⟨some 107, _, _, _, _, _⟩) rfl rfl (Oper.wp_callIIE fn_integer_DivMod rfl (DivMod_z _ _ ((c * b) + (a % b)) b _ (E.1) (E.2.2.2.2.2.2.2.2.2.2.2.2.2.1) (hb0) (Fits.mono (Fits_add (Fits_mul Fc Fb : Fits (c * b) 12) F23 (k := 12) (by decide) (by decide) : Fits ((c * b) + (a % b)) 13) (by decide)) (Fits.mono Fb (by decide))) rfl E ?_)
      clear E
      intro wN6 nN6 sN6 mN6 tN6 dN6 E
      replace xN11 := xN11.below dN6
      replace xN12 := xN12.below dN6
      clear dN6
      refine ⟨E.2.2.2.2, ?_⟩
      simp only [Act.put,q1,q2,q3]
      refine HP (i := 7) (o := ⟨some 100, _, _, _, _, _⟩) (v := .tuple #[.agg #[.bool nN6, sN6], .agg #[.bool mN6, tN6], .int .i64 0]) rfl (by kernel_rfl) (fun _ _ _ h => h) rfl (fun w hS => run_move rfl rfl) (E.2.2.2.2) ?_
      simp only [Act.put,q1,q2,q3]
      refine HP (i := 8) (o := ⟨some 108, _, _, _, _, _⟩) (v := .agg #[.bool nN6, sN6]) rfl (by kernel_rfl) (fun _ _ _ h => h) rfl (fun w hS => run_extract (vs := [.agg #[.bool nN6, sN6], .agg #[.bool mN6, tN6], .int .i64 0]) rfl rfl rfl) (E.2.2.2.2) ?_
      simp only [Act.put,q1,q2,q3]
      refine HP (i := 9) (o := ⟨some 109, _, _, _, _, _⟩) (v := .agg #[.bool mN6, tN6]) rfl (by kernel_rfl) (fun _ _ _ h => h) rfl (fun w hS => run_extract (vs := [.agg #[.bool nN6, sN6], .agg #[.bool mN6, tN6], .int .i64 0]) rfl rfl rfl) (E.2.2.2.2) ?_
      simp only [Act.put,q1,q2,q3]
      refine HP (i := 10) (o := ⟨some 110, _, _, _, _, _⟩) (v := .int .i64 0) rfl (by kernel_rfl) (fun _ _ _ h => h) rfl (fun w hS => run_extract (vs := [.agg #[.bool nN6, sN6], .agg #[.bool mN6, tN6], .int .i64 0]) rfl rfl rfl) (E.2.2.2.2) ?_
      simp only [Act.put,q1,q2,q3]
      refine H1 (i := 13) (by kernel_rfl) ?_
      refine HE (o := ⟨none, _, _, _, _, _⟩) rfl rfl (Oper.wp_store AgI rfl rfl rfl xN11 rfl rfl (IsI.one (E.2.1)) ?_)
      intro wN13 oN13 yN13
      replace E := (E.onl (xN11.noW now0) ⟨trivial, trivial, trivial, trivial, trivial, trivial, okB (by omega), trivial, okB (by omega), okB (by omega), trivial, trivial, okB (by omega), trivial, okB (by omega), trivial, okB (by omega), trivial, okX (by omega), okX (by omega), okX (by omega), okW (by omega), trivial⟩ oN13).b yN13
      replace xN12 := Bx.onl xN12 (by omega) oN13
      clear xN11 oN13 yN13
      refine ⟨E.2.2.2.2.2, ?_⟩
      simp only [Act.put]
      refine H1 (i := 14) (by kernel_rfl) ?_
      refine HE (o := ⟨none, _, _, _, _, _⟩) rfl rfl (Oper.wp_store AgI rfl rfl rfl xN12 rfl rfl (IsI.one (E.2.1)) ?_)
      intro wN14 oN14 yN14
      replace E := (E.onl (xN12.noW now0) ⟨okB (by omega), trivial, trivial, trivial, trivial, trivial, trivial, okB (by omega), trivial, okB (by omega), okB (by omega), trivial, trivial, okB (by omega), trivial, okB (by omega), trivial, okB (by omega), trivial, okX (by omega), okX (by omega), okX (by omega), okW (by omega), trivial⟩ oN14).b yN14
      clear xN12 oN14 yN14
      refine ⟨E.2.2.2.2.2.2, ?_⟩
      simp only [Act.put]
      refine HP (i := 15) (o := ⟨some 17, _, _, _, _, _⟩) (v := .int .i64 0) rfl (by kernel_rfl) (fun _ _ _ h => h) rfl (fun w hS => run_assign rfl rfl) (E.2.2.2.2.2.2) ?_
      simp only [Act.put,q1,q2,q3]
      refine HN (by kernel_rfl) ?_
      exact ⟨nN2, sN2, nN4, sN4, nN6, sN6, mN6, tN6, bN11, bN12, rfl, (Env.b (Env.b (Env.i (Env.i (Env.i (Env.i (Env.i (Env.i (Env.b (Env.i (Env.b (Env.b (Env.i (Env.i (Env.b (Env.i (Env.b (Env.i (Env.b (Env.i (Env.x (Env.x (Env.x (Env.ww (Env.nil _) (E.2.2.2.2.2.2.2.2.2.2.2.2.2.2.2.2.2.2.2.2.2.2.2.1)) (E.2.2.2.2.2.2.2.2.2.2.2.2.2.2.2.2.2.2.2.2.2.2.1)) (E.2.2.2.2.2.2.2.2.2.2.2.2.2.2.2.2.2.2.2.2.2.1)) (E.2.2.2.2.2.2.2.2.2.2.2.2.2.2.2.2.2.2.2.2.1)) (E.2.2.2.2.2.2.2.2.2.2.2.2.2.2.2.2.2.2.2.1)) (E.2.2.2.2.2.2.2.2.2.2.2.2.2.2.2.2.2.2.1)) (E.2.2.2.2.2.2.2.2.2.2.2.2.2.2.2.2.2.1)) (E.2.2.2.2.2.2.2.2.2.2.2.2.2.2.2.2.1)) (E.2.2.2.2.2.2.2.2.2.2.2.2.2.2.2.1)) (E.2.2.2.2.2.2.2.2.2.2.2.2.2.2.1)) (E.2.2.2.2.2.2.2.2.2.2.2.2.2.1)) (E.2.2.2.2.2.2.2.2.2.2.2.2.1)) (E.2.2.2.2.2.2.2.2.2.2.2.1)) (E.2.2.2.2.2.2.2.2.2.2.1)) (E.2.2.2.2.2.2.2.2.2.1)) (E.2.2.2.2.2.2.2.2.1)) (E.2.2.2.2.2.2.2.1)) (E.2.2.2.2.2.2.1)) (E.2.2.2.2.2.1)) (E.2.2.2.2.1)) (E.2.2.2.1)) (E.2.2.1)) (E.2.1)) (E.1)), by omega, by omega, by omega⟩
    ·
     refine HE (o := ⟨some 16, _, _, _, _, _⟩) rfl rfl (Oper.wp_alloc AgI rfl ?_)
     intro bN12 wN12 eN12 zN12 dN12 xN12
     have lN12_0 : b32 < bN12 := by rw [eN12]; exact Bx.lt (E.2.2.2.1)
     replace E := E.below dN12
     clear eN12 zN12 dN12
     refine ⟨E.2, ?_⟩
     simp only [Act.put,q1,q2,q3]
     refine H2 (i := 4) (j := 11) (by kernel_rfl) ?_ ?_
     ·
      refine HE (o := ⟨some 105, _, _, _, _, _⟩) rfl rfl (Oper.wp_callI fn_integer_Add rfl (Add_z _ _ (c * b) (a % b) _ (E.1) (E.2.2.2.2.2.2.2.1) (Fits.mono (Fits_mul Fc Fb : Fits (c * b) 12) (by decide)) (Fits.mono F23 (by decide))) rfl E ?_)
      clear E
      intro wN4 nN4 sN4 dN4 E
      replace xN12 := xN12.below dN4
      clear dN4
      refine ⟨E.2.2, ?_⟩
      simp only [Act.put,q1,q2,q3]
      refine H2 (i := 6) (j := 11) (by kernel_rfl) ?_ ?_
      ·
       refine HE (o := ⟨some 107, _, _, _, _, _⟩) rfl rfl (Oper.wp_callIIE fn_integer_DivMod rfl (DivMod_z _ _ ((c * b) + (a % b)) b _ (E.1) (E.2.2.2.2.2.2.2.2.2.2.2.2.2.1) (hb0) (Fits.mono (Fits_add (Fits_mul Fc Fb : Fits (c * b) 12) F23 (k := 12) (by decide) (by decide) : Fits ((c * b) + (a % b)) 13) (by decide)) (Fits.mono Fb (by decide))) rfl E ?_)
       clear E
       intro wN6 nN6 sN6 mN6 tN6 dN6 E
       replace xN12 := xN12.below dN6
       clear dN6
       refine ⟨E.2.2.2.2, ?_⟩
       simp only [Act.put,q1,q2,q3]
       refine HP (i := 7) (o := ⟨some 100, _, _, _, _, _⟩) (v := .tuple #[.agg #[.bool nN6, sN6], .agg #[.bool mN6, tN6], .int .i64 0]) rfl (by kernel_rfl) (fun _ _ _ h => h) rfl (fun w hS => run_move rfl rfl) (E.2.2.2.2) ?_
       simp only [Act.put,q1,q2,q3]
       refine HP (i := 8) (o := ⟨some 108, _, _, _, _, _⟩) (v := .agg #[.bool nN6, sN6]) rfl (by kernel_rfl) (fun _ _ _ h => h) rfl (fun w hS => run_extract (vs := [.agg #[.bool nN6, sN6], .agg #[.bool mN6, tN6], .int .i64 0]) rfl rfl rfl) (E.2.2.2.2) ?_
       simp only [Act.put,q1,q2,q3]
       refine HP (i := 9) (o := ⟨some 109, _, _, _, _, _⟩) (v := .agg #[.bool mN6, tN6]) rfl (by kernel_rfl) (fun _ _ _ h => h) rfl (fun w hS => run_extract (vs := [.agg #[.bool nN6, sN6], .agg #[.bool mN6, tN6], .int .i64 0]) rfl rfl rfl) (E.2.2.2.2) ?_
       simp only [Act.put,q1,q2,q3]
       refine HP (i := 10) (o := ⟨some 110, _, _, _, _, _⟩) (v := .int .i64 0) rfl (by kernel_rfl) (fun _ _ _ h => h) rfl (fun w hS => run_extract (vs := [.agg #[.bool nN6, sN6], .agg #[.bool mN6, tN6], .int .i64 0]) rfl rfl rfl) (E.2.2.2.2) ?_
       simp only [Act.put,q1,q2,q3]
       refine H1 (i := 11) (by kernel_rfl) ?_
       refine HE (o := ⟨some 15, _, _, _, _, _⟩) rfl rfl (Oper.wp_alloc AgI rfl ?_)
       intro bN11 wN11 eN11 zN11 dN11 xN11
       have lN11_0 : bN12 < bN11 := by rw [eN11]; exact Bx.lt (xN12)
       replace E := E.below dN11
       replace xN12 := Bx.below xN12 dN11
       clear eN11 zN11 dN11
       refine ⟨E.2.2.2.2, ?_⟩
       simp only [Act.put,q1,q2,q3]
       refine H1 (i := 13) (by kernel_rfl) ?_
       refine HE (o := ⟨none, _, _, _, _, _⟩) rfl rfl (Oper.wp_store AgI rfl rfl rfl xN11 rfl rfl (IsI.one (E.2.1)) ?_)
       intro wN13 oN13 yN13
       replace E := (E.onl (xN11.noW now0) ⟨trivial, trivial, trivial, trivial, trivial, trivial, okB (by omega), trivial, okB (by omega), okB (by omega), trivial, trivial, okB (by omega), trivial, okB (by omega), trivial, okB (by omega), trivial, okX (by omega), okX (by omega), okX (by omega), okW (by omega), trivial⟩ oN13).b yN13
       replace xN12 := Bx.onl xN12 (by omega) oN13
       clear xN11 oN13 yN13
       refine ⟨E.2.2.2.2.2, ?_⟩
       simp only [Act.put]
       refine H1 (i := 14) (by kernel_rfl) ?_
       refine HE (o := ⟨none, _, _, _, _, _⟩) rfl rfl (Oper.wp_store AgI rfl rfl rfl xN12 rfl rfl (IsI.one (E.2.1)) ?_)
       intro wN14 oN14 yN14
       replace E := (E.onl (xN12.noW now0) ⟨okB (by omega), trivial, trivial, trivial, trivial, trivial, trivial, okB (by omega), trivial, okB (by omega), okB (by omega), trivial, trivial, okB (by omega), trivial, okB (by omega), trivial, okB (by omega), trivial, okX (by omega), okX (by omega), okX (by omega), okW (by omega), trivial⟩ oN14).b yN14
       clear xN12 oN14 yN14
       refine ⟨E.2.2.2.2.2.2, ?_⟩
       simp only [Act.put]
       refine HP (i := 15) (o := ⟨some 17, _, _, _, _, _⟩) (v := .int .i64 0) rfl (by kernel_rfl) (fun _ _ _ h => h) rfl (fun w hS => run_assign rfl rfl) (E.2.2.2.2.2.2) ?_
       simp only [Act.put,q1,q2,q3]
       refine HN (by kernel_rfl) ?_
       exact ⟨nN2, sN2, nN4, sN4, nN6, sN6, mN6, tN6, bN11, bN12, rfl, (Env.b (Env.b (Env.i (Env.i (Env.i (Env.i (Env.i (Env.i (Env.b (Env.i (Env.b (Env.b (Env.i (Env.i (Env.b (Env.i (Env.b (Env.i (Env.b (Env.i (Env.x (Env.x (Env.x (Env.ww (Env.nil _) (E.2.2.2.2.2.2.2.2.2.2.2.2.2.2.2.2.2.2.2.2.2.2.2.1)) (E.2.2.2.2.2.2.2.2.2.2.2.2.2.2.2.2.2.2.2.2.2.2.1)) (E.2.2.2.2.2.2.2.2.2.2.2.2.2.2.2.2.2.2.2.2.2.1)) (E.2.2.2.2.2.2.2.2.2.2.2.2.2.2.2.2.2.2.2.2.1)) (E.2.2.2.2.2.2.2.2.2.2.2.2.2.2.2.2.2.2.2.1)) (E.2.2.2.2.2.2.2.2.2.2.2.2.2.2.2.2.2.2.1)) (E.2.2.2.2.2.2.2.2.2.2.2.2.2.2.2.2.2.1)) (E.2.2.2.2.2.2.2.2.2.2.2.2.2.2.2.2.1)) (E.2.2.2.2.2.2.2.2.2.2.2.2.2.2.2.1)) (E.2.2.2.2.2.2.2.2.2.2.2.2.2.2.1)) (E.2.2.2.2.2.2.2.2.2.2.2.2.2.1)) (E.2.2.2.2.2.2.2.2.2.2.2.2.1)) (E.2.2.2.2.2.2.2.2.2.2.2.1)) (E.2.2.2.2.2.2.2.2.2.2.1)) (E.2.2.2.2.2.2.2.2.2.1)) (E.2.2.2.2.2.2.2.2.1)) (E.2.2.2.2.2.2.2.1)) (E.2.2.2.2.2.2.1)) (E.2.2.2.2.2.1)) (E.2.2.2.2.1)) (E.2.2.2.1)) (E.2.2.1)) (E.2.1)) (E.1)), by omega, by omega, by omega⟩
      ·
       refine HE (o := ⟨some 15, _, _, _, _, _⟩) rfl rfl (Oper.wp_alloc AgI rfl ?_)
       intro bN11 wN11 eN11 zN11 dN11 xN11
       have lN11_0 : bN12 < bN11 := by rw [eN11]; exact Bx.lt (xN12)
       replace E := E.below dN11
       replace xN12 := Bx.below xN12 dN11
       clear eN11 zN11 dN11
       refine ⟨E.2.2, ?_⟩
       simp only [Act.put,q1,q2,q3]
       refine H1 (i := 6) (by kernel_rfl) ?_
       refine HE (o := ⟨some 107, _, _, _, _, _⟩) rfl rfl (Oper.wp_callIIE fn_integer_DivMod rfl (DivMod_z _ _ ((c * b) + (a % b)) b _ (E.1) (E.2.2.2.2.2.2.2.2.2.2.2.2.2.1) (hb0) (Fits.mono (Fits_add (Fits_mul Fc Fb : Fits (c * b) 12) F23 (k := 12) (by decide) (by decide) : Fits ((c * b) + (a % b)) 13) (by decide)) (Fits.mono Fb (by decide))) rfl E ?_)
       clear E
       intro wN6 nN6 sN6 mN6 tN6 dN6 E
       replace xN12 := xN12.below dN6
       replace xN11 := xN11.below dN6
       clear dN6
       refine ⟨E.2.2.2.2, ?_⟩
       simp only [Act.put,q1,q2,q3]
       refine HP (i := 7) (o := ⟨some 100, _, _, _, _, _⟩) (v := .tuple #[.agg #[.bool nN6, sN6], .agg #[.bool mN6, tN6], .int .i64 0]) rfl (by kernel_rfl) (fun _ _ _ h => h) rfl (fun w hS => run_move rfl rfl) (E.2.2.2.2) ?_
       simp only [Act.put,q1,q2,q3]
       refine HP (i := 8) (o := ⟨some 108, _, _, _, _, _⟩) (v := .agg #[.bool nN6, sN6]) rfl (by kernel_rfl) (fun _ _ _ h => h) rfl (fun w hS => run_extract (vs := [.agg #[.bool nN6, sN6], .agg #[.bool mN6, tN6], .int .i64 0]) rfl rfl rfl) (E.2.2.2.2) ?_
       simp only [Act.put,q1,q2,q3]
       refine HP (i := 9) (o := ⟨some 109, _, _, _, _, _⟩) (v := .agg #[.bool mN6, tN6]) rfl (by kernel_rfl) (fun _ _ _ h => h) rfl (fun w hS => run_extract (vs := [.agg #[.bool nN6, sN6], .agg #[.bool mN6, tN6], .int .i64 0]) rfl rfl rfl) (E.2.2.2.2) ?_
       simp only [Act.put,q1,q2,q3]
       refine HP (i := 10) (o := ⟨some 110, _, _, _, _, _⟩) (v := .int .i64 0) rfl (by kernel_rfl) (fun _ _ _ h => h) rfl (fun w hS => run_extract (vs := [.agg #[.bool nN6, sN6], .agg #[.bool mN6, tN6], .int .i64 0]) rfl rfl rfl) (E.2.2.2.2) ?_
       simp only [Act.put,q1,q2,q3]
       refine H1 (i := 13) (by kernel_rfl) ?_
       refine HE (o := ⟨none, _, _, _, _, _⟩) rfl rfl (Oper.wp_store AgI rfl rfl rfl xN11 rfl rfl (IsI.one (E.2.1)) ?_)
       intro wN13 oN13 yN13
       replace E := (E.onl (xN11.noW now0) ⟨trivial, trivial, trivial, trivial, trivial, trivial, okB (by omega), trivial, okB (by omega), okB (by omega), trivial, trivial, okB (by omega), trivial, okB (by omega), trivial, okB (by omega), trivial, okX (by omega), okX (by omega), okX (by omega), okW (by omega), trivial⟩ oN13).b yN13
       replace xN12 := Bx.onl xN12 (by omega) oN13
       clear xN11 oN13 yN13
       refine ⟨E.2.2.2.2.2, ?_⟩
       simp only [Act.put]
       refine H1 (i := 14) (by kernel_rfl) ?_
       refine HE (o := ⟨none, _, _, _, _, _⟩) rfl rfl (Oper.wp_store AgI rfl rfl rfl xN12 rfl rfl (IsI.one (E.2.1)) ?_)
       intro wN14 oN14 yN14
       replace E := (E.onl (xN12.noW now0) ⟨okB (by omega), trivial, trivial, trivial, trivial, trivial, trivial, okB (by omega), trivial, okB (by omega), okB (by omega), trivial, trivial, okB (by omega), trivial, okB (by omega), trivial, okB (by omega), trivial, okX (by omega), okX (by omega), okX (by omega), okW (by omega), trivial⟩ oN14).b yN14
       clear xN12 oN14 yN14
       refine ⟨E.2.2.2.2.2.2, ?_⟩
       simp only [Act.put]
       refine HP (i := 15) (o := ⟨some 17, _, _, _, _, _⟩) (v := .int .i64 0) rfl (by kernel_rfl) (fun _ _ _ h => h) rfl (fun w hS => run_assign rfl rfl) (E.2.2.2.2.2.2) ?_
       simp only [Act.put,q1,q2,q3]
       refine HN (by kernel_rfl) ?_
       exact ⟨nN2, sN2, nN4, sN4, nN6, sN6, mN6, tN6, bN11, bN12, rfl, (Env.b (Env.b (Env.i (Env.i (Env.i (Env.i (Env.i (Env.i (Env.b (Env.i (Env.b (Env.b (Env.i (Env.i (Env.b (Env.i (Env.b (Env.i (Env.b (Env.i (Env.x (Env.x (Env.x (Env.ww (Env.nil _) (E.2.2.2.2.2.2.2.2.2.2.2.2.2.2.2.2.2.2.2.2.2.2.2.1)) (E.2.2.2.2.2.2.2.2.2.2.2.2.2.2.2.2.2.2.2.2.2.2.1)) (E.2.2.2.2.2.2.2.2.2.2.2.2.2.2.2.2.2.2.2.2.2.1)) (E.2.2.2.2.2.2.2.2.2.2.2.2.2.2.2.2.2.2.2.2.1)) (E.2.2.2.2.2.2.2.2.2.2.2.2.2.2.2.2.2.2.2.1)) (E.2.2.2.2.2.2.2.2.2.2.2.2.2.2.2.2.2.2.1)) (E.2.2.2.2.2.2.2.2.2.2.2.2.2.2.2.2.2.1)) (E.2.2.2.2.2.2.2.2.2.2.2.2.2.2.2.2.1)) (E.2.2.2.2.2.2.2.2.2.2.2.2.2.2.2.1)) (E.2.2.2.2.2.2.2.2.2.2.2.2.2.2.1)) (E.2.2.2.2.2.2.2.2.2.2.2.2.2.1)) (E.2.2.2.2.2.2.2.2.2.2.2.2.1)) (E.2.2.2.2.2.2.2.2.2.2.2.1)) (E.2.2.2.2.2.2.2.2.2.2.1)) (E.2.2.2.2.2.2.2.2.2.1)) (E.2.2.2.2.2.2.2.2.1)) (E.2.2.2.2.2.2.2.1)) (E.2.2.2.2.2.2.1)) (E.2.2.2.2.2.1)) (E.2.2.2.2.1)) (E.2.2.2.1)) (E.2.2.1)) (E.2.1)) (E.1)), by omega, by omega, by omega⟩
     ·
      refine HE (o := ⟨some 15, _, _, _, _, _⟩) rfl rfl (Oper.wp_alloc AgI rfl ?_)
      intro bN11 wN11 eN11 zN11 dN11 xN11
      have lN11_0 : bN12 < bN11 := by rw [eN11]; exact Bx.lt (xN12)
      replace E := E.below dN11
      replace xN12 := Bx.below xN12 dN11
      clear eN11 zN11 dN11
      refine ⟨E.2, ?_⟩
      simp only [Act.put,q1,q2,q3]
      refine H1 (i := 4) (by kernel_rfl) ?_
      refine HE (o := ⟨some 105, _, _, _, _, _⟩) rfl rfl (Oper.wp_callI fn_integer_Add rfl (Add_z _ _ (c * b) (a % b) _ (E.1) (E.2.2.2.2.2.2.2.1) (Fits.mono (Fits_mul Fc Fb : Fits (c * b) 12) (by decide)) (Fits.mono F23 (by decide))) rfl E ?_)
      clear E
      intro wN4 nN4 sN4 dN4 E
      replace xN12 := xN12.below dN4
      replace xN11 := xN11.below dN4
      clear dN4
      refine ⟨E.2.2, ?_⟩
      simp only [Act.put,q1,q2,q3]
      refine H1 (i := 6) (by kernel_rfl) ?_
      refine HE (o := ⟨some 107, _, _, _, _, _⟩) rfl rfl (Oper.wp_callIIE fn_integer_DivMod rfl (DivMod_z _ _ ((c * b) + (a % b)) b _ (E.1) (E.2.2.2.2.2.2.2.2.2.2.2.2.2.1) (hb0) (Fits.mono (Fits_add (Fits_mul Fc Fb : Fits (c * b) 12) F23 (k := 12) (by decide) (by decide) : Fits ((c * b) + (a % b)) 13) (by decide)) (Fits.mono Fb (by decide))) rfl E ?_)
      clear E
      intro wN6 nN6 sN6 mN6 tN6 dN6 E
      replace xN12 := xN12.below dN6
      replace xN11 := xN11.below dN6
      clear dN6
      refine ⟨E.2.2.2.2, ?_⟩
      simp only [Act.put,q1,q2,q3]
      refine HP (i := 7) (o := ⟨some 100, _, _, _, _, _⟩) (v := .tuple #[.agg #[.bool nN6, sN6], .agg #[.bool mN6, tN6], .int .i64 0]) rfl (by kernel_rfl) (fun _ _ _ h => h) rfl (fun w hS => run_move rfl rfl) (E.2.2.2.2) ?_
      simp only [Act.put,q1,q2,q3]
      refine HP (i := 8) (o := ⟨some 108, _, _, _, _, _⟩) (v := .agg #[.bool nN6, sN6]) rfl (by kernel_rfl) (fun _ _ _ h => h) rfl (fun w hS => run_extract (vs := [.agg #[.bool nN6, sN6], .agg #[.bool mN6, tN6], .int .i64 0]) rfl rfl rfl) (E.2.2.2.2) ?_
      simp only [Act.put,q1,q2,q3]
      refine HP (i := 9) (o := ⟨some 109, _, _, _, _, _⟩) (v := .agg #[.bool mN6, tN6]) rfl (by kernel_rfl) (fun _ _ _ h => h) rfl (fun w hS => run_extract (vs := [.agg #[.bool nN6, sN6], .agg #[.bool mN6, tN6], .int .i64 0]) rfl rfl rfl) (E.2.2.2.2) ?_
      simp only [Act.put,q1,q2,q3]
      refine HP (i := 10) (o := ⟨some 110, _, _, _, _, _⟩) (v := .int .i64 0) rfl (by kernel_rfl) (fun _ _ _ h => h) rfl (fun w hS => run_extract (vs := [.agg #[.bool nN6, sN6], .agg #[.bool mN6, tN6], .int .i64 0]) rfl rfl rfl) (E.2.2.2.2) ?_
      simp only [Act.put,q1,q2,q3]
      refine H1 (i := 13) (by kernel_rfl) ?_
      refine HE (o := ⟨none, _, _, _, _, _⟩) rfl rfl (Oper.wp_store AgI rfl rfl rfl xN11 rfl rfl (IsI.one (E.2.1)) ?_)
      intro wN13 oN13 yN13
      replace E := (E.onl (xN11.noW now0) ⟨trivial, trivial, trivial, trivial, trivial, trivial, okB (by omega), trivial, okB (by omega), okB (by omega), trivial, trivial, okB (by omega), trivial, okB (by omega), trivial, okB (by omega), trivial, okX (by omega), okX (by omega), okX (by omega), okW (by omega), trivial⟩ oN13).b yN13
      replace xN12 := Bx.onl xN12 (by omega) oN13
      clear xN11 oN13 yN13
      refine ⟨E.2.2.2.2.2, ?_⟩
      simp only [Act.put]
      refine H1 (i := 14) (by kernel_rfl) ?_
      refine HE (o := ⟨none, _, _, _, _, _⟩) rfl rfl (Oper.wp_store AgI rfl rfl rfl xN12 rfl rfl (IsI.one (E.2.1)) ?_)
      intro wN14 oN14 yN14
      replace E := (E.onl (xN12.noW now0) ⟨okB (by omega), trivial, trivial, trivial, trivial, trivial, trivial, okB (by omega), trivial, okB (by omega), okB (by omega), trivial, trivial, okB (by omega), trivial, okB (by omega), trivial, okB (by omega), trivial, okX (by omega), okX (by omega), okX (by omega), okW (by omega), trivial⟩ oN14).b yN14
      clear xN12 oN14 yN14
      refine ⟨E.2.2.2.2.2.2, ?_⟩
      simp only [Act.put]
      refine HP (i := 15) (o := ⟨some 17, _, _, _, _, _⟩) (v := .int .i64 0) rfl (by kernel_rfl) (fun _ _ _ h => h) rfl (fun w hS => run_assign rfl rfl) (E.2.2.2.2.2.2) ?_
      simp only [Act.put,q1,q2,q3]
      refine HN (by kernel_rfl) ?_
      exact ⟨nN2, sN2, nN4, sN4, nN6, sN6, mN6, tN6, bN11, bN12, rfl, (Env.b (Env.b (Env.i (Env.i (Env.i (Env.i (Env.i (Env.i (Env.b (Env.i (Env.b (Env.b (Env.i (Env.i (Env.b (Env.i (Env.b (Env.i (Env.b (Env.i (Env.x (Env.x (Env.x (Env.ww (Env.nil _) (E.2.2.2.2.2.2.2.2.2.2.2.2.2.2.2.2.2.2.2.2.2.2.2.1)) (E.2.2.2.2.2.2.2.2.2.2.2.2.2.2.2.2.2.2.2.2.2.2.1)) (E.2.2.2.2.2.2.2.2.2.2.2.2.2.2.2.2.2.2.2.2.2.1)) (E.2.2.2.2.2.2.2.2.2.2.2.2.2.2.2.2.2.2.2.2.1)) (E.2.2.2.2.2.2.2.2.2.2.2.2.2.2.2.2.2.2.2.1)) (E.2.2.2.2.2.2.2.2.2.2.2.2.2.2.2.2.2.2.1)) (E.2.2.2.2.2.2.2.2.2.2.2.2.2.2.2.2.2.1)) (E.2.2.2.2.2.2.2.2.2.2.2.2.2.2.2.2.1)) (E.2.2.2.2.2.2.2.2.2.2.2.2.2.2.2.1)) (E.2.2.2.2.2.2.2.2.2.2.2.2.2.2.1)) (E.2.2.2.2.2.2.2.2.2.2.2.2.2.1)) (E.2.2.2.2.2.2.2.2.2.2.2.2.1)) (E.2.2.2.2.2.2.2.2.2.2.2.1)) (E.2.2.2.2.2.2.2.2.2.2.1)) (E.2.2.2.2.2.2.2.2.2.1)) (E.2.2.2.2.2.2.2.2.1)) (E.2.2.2.2.2.2.2.1)) (E.2.2.2.2.2.2.1)) (E.2.2.2.2.2.1)) (E.2.2.2.2.1)) (E.2.2.2.1)) (E.2.2.1)) (E.2.1)) (E.1)), by omega, by omega, by omega⟩
   ·
    refine HE (o := ⟨some 15, _, _, _, _, _⟩) rfl rfl (Oper.wp_alloc AgI rfl ?_)
    intro bN11 wN11 eN11 zN11 dN11 xN11
    have lN11_0 : b32 < bN11 := by rw [eN11]; exact Bx.lt (E.2.2.1)
    replace E := E.below dN11
    clear eN11 zN11 dN11
    refine ⟨E, ?_⟩
    simp only [Act.put,q1,q2,q3]
    refine H2 (i := 2) (j := 12) (by kernel_rfl) ?_ ?_
    ·
     refine HE (o := ⟨some 103, _, _, _, _, _⟩) rfl rfl (Oper.wp_callI fn_integer_Mul rfl (Mul_z _ _ c b _ (E.2.2.2.2.2.2.2.2.2.1) (E.2.2.2.2.2.2.2.2.2.2.2.1) (Fits.mono Fc (by decide)) (Fits.mono Fb (by decide))) rfl E ?_)
     clear E
     intro wN2 nN2 sN2 dN2 E
     replace xN11 := xN11.below dN2
     clear dN2
     refine ⟨E.2, ?_⟩
     simp only [Act.put,q1,q2,q3]
     refine H2 (i := 4) (j := 12) (by kernel_rfl) ?_ ?_
     ·
      refine HE (o := ⟨some 105, _, _, _, _, _⟩) rfl rfl (Oper.wp_callI fn_integer_Add rfl (Add_z _ _ (c * b) (a % b) _ (E.1) (E.2.2.2.2.2.2.2.1) (Fits.mono (Fits_mul Fc Fb : Fits (c * b) 12) (by decide)) (Fits.mono F23 (by decide))) rfl E ?_)
      clear E
      intro wN4 nN4 sN4 dN4 E
      replace xN11 := xN11.below dN4
      clear dN4
      refine ⟨E.2.2, ?_⟩
      simp only [Act.put,q1,q2,q3]
      refine H2 (i := 6) (j := 12) (by kernel_rfl) ?_ ?_
      ·
       refine HE (o := ⟨some 107, _, _, _, _, _⟩) rfl rfl (Oper.wp_callIIE fn_integer_DivMod rfl (DivMod_z _ _ ((c * b) + (a % b)) b _ (E.1) (E.2.2.2.2.2.2.2.2.2.2.2.2.2.1) (hb0) (Fits.mono (Fits_add (Fits_mul Fc Fb : Fits (c * b) 12) F23 (k := 12) (by decide) (by decide) : Fits ((c * b) + (a % b)) 13) (by decide)) (Fits.mono Fb (by decide))) rfl E ?_)
       clear E
       intro wN6 nN6 sN6 mN6 tN6 dN6 E
       replace xN11 := xN11.below dN6
       clear dN6
       refine ⟨E.2.2.2.2, ?_⟩
       simp only [Act.put,q1,q2,q3]
       refine HP (i := 7) (o := ⟨some 100, _, _, _, _, _⟩) (v := .tuple #[.agg #[.bool nN6, sN6], .agg #[.bool mN6, tN6], .int .i64 0]) rfl (by kernel_rfl) (fun _ _ _ h => h) rfl (fun w hS => run_move rfl rfl) (E.2.2.2.2) ?_
       simp only [Act.put,q1,q2,q3]
       refine HP (i := 8) (o := ⟨some 108, _, _, _, _, _⟩) (v := .agg #[.bool nN6, sN6]) rfl (by kernel_rfl) (fun _ _ _ h => h) rfl (fun w hS => run_extract (vs := [.agg #[.bool nN6, sN6], .agg #[.bool mN6, tN6], .int .i64 0]) rfl rfl rfl) (E.2.2.2.2) ?_
       simp only [Act.put,q1,q2,q3]
       refine HP (i := 9) (o := ⟨some 109, _, _, _, _, _⟩) (v := .agg #[.bool mN6, tN6]) rfl (by kernel_rfl) (fun _ _ _ h => h) rfl (fun w hS => run_extract (vs := [.agg #[.bool nN6, sN6], .agg #[.bool mN6, tN6], .int .i64 0]) rfl rfl rfl) (E.2.2.2.2) ?_
       simp only [Act.put,q1,q2,q3]
       refine HP (i := 10) (o := ⟨some 110, _, _, _, _, _⟩) (v := .int .i64 0) rfl (by kernel_rfl) (fun _ _ _ h => h) rfl (fun w hS => run_extract (vs := [.agg #[.bool nN6, sN6], .agg #[.bool mN6, tN6], .int .i64 0]) rfl rfl rfl) (E.2.2.2.2) ?_
       simp only [Act.put,q1,q2,q3]
       refine H1 (i := 12) (by kernel_rfl) ?_
       refine HE (o := ⟨some 16, _, _, _, _, _⟩) rfl rfl (Oper.wp_alloc AgI rfl ?_)
       intro bN12 wN12 eN12 zN12 dN12 xN12
       have lN12_0 : bN11 < bN12 := by rw [eN12]; exact Bx.lt (xN11)
       replace E := E.below dN12
       replace xN11 := Bx.below xN11 dN12
       clear eN12 zN12 dN12
       refine ⟨E.2.2.2.2, ?_⟩
       simp only [Act.put,q1,q2,q3]
       refine H1 (i := 13) (by kernel_rfl) ?_
       refine HE (o := ⟨none, _, _, _, _, _⟩) rfl rfl (Oper.wp_store AgI rfl rfl rfl xN11 rfl rfl (IsI.one (E.2.1)) ?_)
       intro wN13 oN13 yN13
       replace E := (E.onl (xN11.noW now0) ⟨trivial, trivial, trivial, trivial, trivial, trivial, okB (by omega), trivial, okB (by omega), okB (by omega), trivial, trivial, okB (by omega), trivial, okB (by omega), trivial, okB (by omega), trivial, okX (by omega), okX (by omega), okX (by omega), okW (by omega), trivial⟩ oN13).b yN13
       replace xN12 := Bx.onl xN12 (by omega) oN13
       clear xN11 oN13 yN13
       refine ⟨E.2.2.2.2.2, ?_⟩
       simp only [Act.put]
       refine H1 (i := 14) (by kernel_rfl) ?_
       refine HE (o := ⟨none, _, _, _, _, _⟩) rfl rfl (Oper.wp_store AgI rfl rfl rfl xN12 rfl rfl (IsI.one (E.2.1)) ?_)
       intro wN14 oN14 yN14
       replace E := (E.onl (xN12.noW now0) ⟨okB (by omega), trivial, trivial, trivial, trivial, trivial, trivial, okB (by omega), trivial, okB (by omega), okB (by omega), trivial, trivial, okB (by omega), trivial, okB (by omega), trivial, okB (by omega), trivial, okX (by omega), okX (by omega), okX (by omega), okW (by omega), trivial⟩ oN14).b yN14
       clear xN12 oN14 yN14
       refine ⟨E.2.2.2.2.2.2, ?_⟩
       simp only [Act.put]
       refine HP (i := 15) (o := ⟨some 17, _, _, _, _, _⟩) (v := .int .i64 0) rfl (by kernel_rfl) (fun _ _ _ h => h) rfl (fun w hS => run_assign rfl rfl) (E.2.2.2.2.2.2) ?_
       simp only [Act.put,q1,q2,q3]
       refine HN (by kernel_rfl) ?_
       exact ⟨nN2, sN2, nN4, sN4, nN6, sN6, mN6, tN6, bN11, bN12, rfl, (Env.b (Env.b (Env.i (Env.i (Env.i (Env.i (Env.i (Env.i (Env.b (Env.i (Env.b (Env.b (Env.i (Env.i (Env.b (Env.i (Env.b (Env.i (Env.b (Env.i (Env.x (Env.x (Env.x (Env.ww (Env.nil _) (E.2.2.2.2.2.2.2.2.2.2.2.2.2.2.2.2.2.2.2.2.2.2.2.1)) (E.2.2.2.2.2.2.2.2.2.2.2.2.2.2.2.2.2.2.2.2.2.2.1)) (E.2.2.2.2.2.2.2.2.2.2.2.2.2.2.2.2.2.2.2.2.2.1)) (E.2.2.2.2.2.2.2.2.2.2.2.2.2.2.2.2.2.2.2.2.1)) (E.2.2.2.2.2.2.2.2.2.2.2.2.2.2.2.2.2.2.2.1)) (E.2.2.2.2.2.2.2.2.2.2.2.2.2.2.2.2.2.2.1)) (E.2.2.2.2.2.2.2.2.2.2.2.2.2.2.2.2.2.1)) (E.2.2.2.2.2.2.2.2.2.2.2.2.2.2.2.2.1)) (E.2.2.2.2.2.2.2.2.2.2.2.2.2.2.2.1)) (E.2.2.2.2.2.2.2.2.2.2.2.2.2.2.1)) (E.2.2.2.2.2.2.2.2.2.2.2.2.2.1)) (E.2.2.2.2.2.2.2.2.2.2.2.2.1)) (E.2.2.2.2.2.2.2.2.2.2.2.1)) (E.2.2.2.2.2.2.2.2.2.2.1)) (E.2.2.2.2.2.2.2.2.2.1)) (E.2.2.2.2.2.2.2.2.1)) (E.2.2.2.2.2.2.2.1)) (E.2.2.2.2.2.2.1)) (E.2.2.2.2.2.1)) (E.2.2.2.2.1)) (E.2.2.2.1)) (E.2.2.1)) (E.2.1)) (E.1)), by omega, by omega, by omega⟩
      ·
       refine HE (o := ⟨some 16, _, _, _, _, _⟩) rfl rfl (Oper.wp_alloc AgI rfl ?_)
       intro bN12 wN12 eN12 zN12 dN12 xN12
       have lN12_0 : bN11 < bN12 := by rw [eN12]; exact Bx.lt (xN11)
       replace E := E.below dN12
       replace xN11 := Bx.below xN11 dN12
       clear eN12 zN12 dN12
       refine ⟨E.2.2, ?_⟩
       simp only [Act.put,q1,q2,q3]
       refine H1 (i := 6) (by kernel_rfl) ?_
       refine HE (o := ⟨some 107, _, _, _, _, _⟩) rfl rfl (Oper.wp_callIIE fn_integer_DivMod rfl (DivMod_z _ _ ((c * b) + (a % b)) b _ (E.1) (E.2.2.2.2.2.2.2.2.2.2.2.2.2.1) (hb0) (Fits.mono (Fits_add (Fits_mul Fc Fb : Fits (c * b) 12) F23 (k := 12) (by decide) (by decide) : Fits ((c * b) + (a % b)) 13) (by decide)) (Fits.mono Fb (by decide))) rfl E ?_)
       clear E
       intro wN6 nN6 sN6 mN6 tN6 dN6 E
       replace xN11 := xN11.below dN6
       replace xN12 := xN12.below dN6
       clear dN6
       refine ⟨E.2.2.2.2, ?_⟩
       simp only [Act.put,q1,q2,q3]
       refine HP (i := 7) (o := ⟨some 100, _, _, _, _, _⟩) (v := .tuple #[.agg #[.bool nN6, sN6], .agg #[.bool mN6, tN6], .int .i64 0]) rfl (by kernel_rfl) (fun _ _ _ h => h) rfl (fun w hS => run_move rfl rfl) (E.2.2.2.2) ?_
       simp only [Act.put,q1,q2,q3]
       refine HP (i := 8) (o := ⟨some 108, _, _, _, _, _⟩) (v := .agg #[.bool nN6, sN6]) rfl (by kernel_rfl) (fun _ _ _ h => h) rfl (fun w hS => run_extract (vs := [.agg #[.bool nN6, sN6], .agg #[.bool mN6, tN6], .int .i64 0]) rfl rfl rfl) (E.2.2.2.2) ?_
       simp only [Act.put,q1,q2,q3]
       refine HP (i := 9) (o := ⟨some 109, _, _, _, _, _⟩) (v := .agg #[.bool mN6, tN6]) rfl (by kernel_rfl) (fun _ _ _ h => h) rfl (fun w hS => run_extract (vs := [.agg #[.bool nN6, sN6], .agg #[.bool mN6, tN6], .int .i64 0]) rfl rfl rfl) (E.2.2.2.2) ?_
       simp only [Act.put,q1,q2,q3]
       refine HP (i := 10) (o := ⟨some 110, _, _, _, _, _⟩) (v := .int .i64 0) rfl (by kernel_rfl) (fun _ _ _ h => h) rfl (fun w hS => run_extract (vs := [.agg #[.bool nN6, sN6], .agg #[.bool mN6, tN6], .int .i64 0]) rfl rfl rfl) (E.2.2.2.2) ?_
       simp only [Act.put,q1,q2,q3]
       refine H1 (i := 13) (by kernel_rfl) ?_
       refine HE (o := ⟨none, _, _, _, _, _⟩) rfl rfl (Oper.wp_store AgI rfl rfl rfl xN11 rfl rfl (IsI.one (E.2.1)) ?_)
       intro wN13 oN13 yN13
       replace E := (E.onl (xN11.noW now0) ⟨trivial, trivial, trivial, trivial, trivial, trivial, okB (by omega), trivial, okB (by omega), okB (by omega), trivial, trivial, okB (by omega), trivial, okB (by omega), trivial, okB (by omega), trivial, okX (by omega), okX (by omega), okX (by omega), okW (by omega), trivial⟩ oN13).b yN13
       replace xN12 := Bx.onl xN12 (by omega) oN13
       clear xN11 oN13 yN13
       refine ⟨E.2.2.2.2.2, ?_⟩
       simp only [Act.put]
       refine H1 (i := 14) (by kernel_rfl) ?_
       refine HE (o := ⟨none, _, _, _, _, _⟩) rfl rfl (Oper.wp_store AgI rfl rfl rfl xN12 rfl rfl (IsI.one (E.2.1)) ?_)
       intro wN14 oN14 yN14
       replace E := (E.onl (xN12.noW now0) ⟨okB (by omega), trivial, trivial, trivial, trivial, trivial, trivial, okB (by omega), trivial, okB (by omega), okB (by omega), trivial, trivial, okB (by omega), trivial, okB (by omega), trivial, okB (by omega), trivial, okX (by omega), okX (by omega), okX (by omega), okW (by omega), trivial⟩ oN14).b yN14
       clear xN12 oN14 yN14
       refine ⟨E.2.2.2.2.2.2, ?_⟩
       simp only [Act.put]
       refine HP (i := 15) (o := ⟨some 17, _, _, _, _, _⟩) (v := .int .i64 0) rfl (by kernel_rfl) (fun _ _ _ h => h) rfl (fun w hS => run_assign rfl rfl) (E.2.2.2.2.2.2) ?_
       simp only [Act.put,q1,q2,q3]
       refine HN (by kernel_rfl) ?_
       exact ⟨nN2, sN2, nN4, sN4, nN6, sN6, mN6, tN6, bN11, bN12, rfl, (Env.b (Env.b (Env.i (Env.i (Env.i (Env.i (Env.i (Env.i (Env.b (Env.i (Env.b (Env.b (Env.i (Env.i (Env.b (Env.i (Env.b (Env.i (Env.b (Env.i (Env.x (Env.x (Env.x (Env.ww (Env.nil _) (E.2.2.2.2.2.2.2.2.2.2.2.2.2.2.2.2.2.2.2.2.2.2.2.1)) (E.2.2.2.2.2.2.2.2.2.2.2.2.2.2.2.2.2.2.2.2.2.2.1)) (E.2.2.2.2.2.2.2.2.2.2.2.2.2.2.2.2.2.2.2.2.2.1)) (E.2.2.2.2.2.2.2.2.2.2.2.2.2.2.2.2.2.2.2.2.1)) (E.2.2.2.2.2.2.2.2.2.2.2.2.2.2.2.2.2.2.2.1)) (E.2.2.2.2.2.2.2.2.2.2.2.2.2.2.2.2.2.2.1)) (E.2.2.2.2.2.2.2.2.2.2.2.2.2.2.2.2.2.1)) (E.2.2.2.2.2.2.2.2.2.2.2.2.2.2.2.2.1)) (E.2.2.2.2.2.2.2.2.2.2.2.2.2.2.2.1)) (E.2.2.2.2.2.2.2.2.2.2.2.2.2.2.1)) (E.2.2.2.2.2.2.2.2.2.2.2.2.2.1)) (E.2.2.2.2.2.2.2.2.2.2.2.2.1)) (E.2.2.2.2.2.2.2.2.2.2.2.1)) (E.2.2.2.2.2.2.2.2.2.2.1)) (E.2.2.2.2.2.2.2.2.2.1)) (E.2.2.2.2.2.2.2.2.1)) (E.2.2.2.2.2.2.2.1)) (E.2.2.2.2.2.2.1)) (E.2.2.2.2.2.1)) (E.2.2.2.2.1)) (E.2.2.2.1)) (E.2.2.1)) (E.2.1)) (E.1)), by omega, by omega, by omega⟩
     ·
      refine HE (o := ⟨some 16, _, _, _, _, _⟩) rfl rfl (Oper.wp_alloc AgI rfl ?_)
      intro bN12 wN12 eN12 zN12 dN12 xN12
      have lN12_0 : bN11 < bN12 := by rw [eN12]; exact Bx.lt (xN11)
      replace E := E.below dN12
      replace xN11 := Bx.below xN11 dN12
      clear eN12 zN12 dN12
      refine ⟨E.2, ?_⟩
      simp only [Act.put,q1,q2,q3]
      refine H1 (i := 4) (by kernel_rfl) ?_
      refine HE (o := ⟨some 105, _, _, _, _, _⟩) rfl rfl (Oper.wp_callI fn_integer_Add rfl (Add_z _ _ (c * b) (a % b) _ (E.1) (E.2.2.2.2.2.2.2.1) (Fits.mono (Fits_mul Fc Fb : Fits (c * b) 12) (by decide)) (Fits.mono F23 (by decide))) rfl E ?_)
      clear E
      intro wN4 nN4 sN4 dN4 E
      replace xN11 := xN11.below dN4
      replace xN12 := xN12.below dN4
      clear dN4
      refine ⟨E.2.2, ?_⟩
      simp only [Act.put,q1,q2,q3]
      refine H1 (i := 6) (by kernel_rfl) ?_
      refine HE (o := ⟨some 107, _, _, _, _, _⟩) rfl rfl (Oper.wp_callIIE fn_integer_DivMod rfl (DivMod_z _ _ ((c * b) + (a % b)) b _ (E.1) (E.2.2.2.2.2.2.2.2.2.2.2.2.2.1) (hb0) (Fits.mono (Fits_add (Fits_mul Fc Fb : Fits (c * b) 12) F23 (k := 12) (by decide) (by decide) : Fits ((c * b) + (a % b)) 13) (by decide)) (Fits.mono Fb (by decide))) rfl E ?_)
      clear E
      intro wN6 nN6 sN6 mN6 tN6 dN6 E
      replace xN11 := xN11.below dN6
      replace xN12 := xN12.below dN6
      clear dN6
      refine ⟨E.2.2.2.2, ?_⟩
      simp only [Act.put,q1,q2,q3]
      refine HP (i := 7) (o := ⟨some 100, _, _, _, _, _⟩) (v := .tuple #[.agg #[.bool nN6, sN6], .agg #[.bool mN6, tN6], .int .i64 0]) rfl (by kernel_rfl) (fun _ _ _ h => h) rfl (fun w hS => run_move rfl rfl) (E.2.2.2.2) ?_
      simp only [Act.put,q1,q2,q3]
      refine HP (i := 8) (o := ⟨some 108, _, _, _, _, _⟩) (v := .agg #[.bool nN6, sN6]) rfl (by kernel_rfl) (fun _ _ _ h => h) rfl (fun w hS => run_extract (vs := [.agg #[.bool nN6, sN6], .agg #[.bool mN6, tN6], .int .i64 0]) rfl rfl rfl) (E.2.2.2.2) ?_
      simp only [Act.put,q1,q2,q3]
      refine HP (i := 9) (o := ⟨some 109, _, _, _, _, _⟩) (v := .agg #[.bool mN6, tN6]) rfl (by kernel_rfl) (fun _ _ _ h => h) rfl (fun w hS => run_extract (vs := [.agg #[.bool nN6, sN6], .agg #[.bool mN6, tN6], .int .i64 0]) rfl rfl rfl) (E.2.2.2.2) ?_
      simp only [Act.put,q1,q2,q3]
      refine HP (i := 10) (o := ⟨some 110, _, _, _, _, _⟩) (v := .int .i64 0) rfl (by kernel_rfl) (fun _ _ _ h => h) rfl (fun w hS => run_extract (vs := [.agg #[.bool nN6, sN6], .agg #[.bool mN6, tN6], .int .i64 0]) rfl rfl rfl) (E.2.2.2.2) ?_
      simp only [Act.put,q1,q2,q3]
      refine H1 (i := 13) (by kernel_rfl) ?_
      refine HE (o := ⟨none, _, _, _, _, _⟩) rfl rfl (Oper.wp_store AgI rfl rfl rfl xN11 rfl rfl (IsI.one (E.2.1)) ?_)
      intro wN13 oN13 yN13
      replace E := (E.onl (xN11.noW now0) ⟨trivial, trivial, trivial, trivial, trivial, trivial, okB (by omega), trivial, okB (by omega), okB (by omega), trivial, trivial, okB (by omega), trivial, okB (by omega), trivial, okB (by omega), trivial, okX (by omega), okX (by omega), okX (by omega), okW (by omega), trivial⟩ oN13).b yN13
      replace xN12 := Bx.onl xN12 (by omega) oN13
      clear xN11 oN13 yN13
      refine ⟨E.2.2.2.2.2, ?_⟩
      simp only [Act.put]
      refine H1 (i := 14) (by kernel_rfl) ?_
      refine HE (o := ⟨none, _, _, _, _, _⟩) rfl rfl (Oper.wp_store AgI rfl rfl rfl xN12 rfl rfl (IsI.one (E.2.1)) ?_)
      intro wN14 oN14 yN14
      replace E := (E.onl (xN12.noW now0) ⟨okB (by omega), trivial, trivial, trivial, trivial, trivial, trivial, okB (by omega), trivial, okB (by omega), okB (by omega), trivial, trivial, okB (by omega), trivial, okB (by omega), trivial, okB (by omega), trivial, okX (by omega), okX (by omega), okX (by omega), okW (by omega), trivial⟩ oN14).b yN14
      clear xN12 oN14 yN14
      refine ⟨E.2.2.2.2.2.2, ?_⟩
      simp only [Act.put]
      refine HP (i := 15) (o := ⟨some 17, _, _, _, _, _⟩) (v := .int .i64 0) rfl (by kernel_rfl) (fun _ _ _ h => h) rfl (fun w hS => run_assign rfl rfl) (E.2.2.2.2.2.2) ?_
      simp only [Act.put,q1,q2,q3]
      refine HN (by kernel_rfl) ?_
      exact ⟨nN2, sN2, nN4, sN4, nN6, sN6, mN6, tN6, bN11, bN12, rfl, (Env.b (Env.b (Env.i (Env.i (Env.i (Env.i (Env.i (Env.i (Env.b (Env.i (Env.b (Env.b (Env.i (Env.i (Env.b (Env.i (Env.b (Env.i (Env.b (Env.i (Env.x (Env.x (Env.x (Env.ww (Env.nil _) (E.2.2.2.2.2.2.2.2.2.2.2.2.2.2.2.2.2.2.2.2.2.2.2.1)) (E.2.2.2.2.2.2.2.2.2.2.2.2.2.2.2.2.2.2.2.2.2.2.1)) (E.2.2.2.2.2.2.2.2.2.2.2.2.2.2.2.2.2.2.2.2.2.1)) (E.2.2.2.2.2.2.2.2.2.2.2.2.2.2.2.2.2.2.2.2.1)) (E.2.2.2.2.2.2.2.2.2.2.2.2.2.2.2.2.2.2.2.1)) (E.2.2.2.2.2.2.2.2.2.2.2.2.2.2.2.2.2.2.1)) (E.2.2.2.2.2.2.2.2.2.2.2.2.2.2.2.2.2.1)) (E.2.2.2.2.2.2.2.2.2.2.2.2.2.2.2.2.1)) (E.2.2.2.2.2.2.2.2.2.2.2.2.2.2.2.1)) (E.2.2.2.2.2.2.2.2.2.2.2.2.2.2.1)) (E.2.2.2.2.2.2.2.2.2.2.2.2.2.1)) (E.2.2.2.2.2.2.2.2.2.2.2.2.1)) (E.2.2.2.2.2.2.2.2.2.2.2.1)) (E.2.2.2.2.2.2.2.2.2.2.1)) (E.2.2.2.2.2.2.2.2.2.1)) (E.2.2.2.2.2.2.2.2.1)) (E.2.2.2.2.2.2.2.1)) (E.2.2.2.2.2.2.1)) (E.2.2.2.2.2.1)) (E.2.2.2.2.1)) (E.2.2.2.1)) (E.2.2.1)) (E.2.1)) (E.1)), by omega, by omega, by omega⟩
    ·
     refine HE (o := ⟨some 16, _, _, _, _, _⟩) rfl rfl (Oper.wp_alloc AgI rfl ?_)
     intro bN12 wN12 eN12 zN12 dN12 xN12
     have lN12_0 : bN11 < bN12 := by rw [eN12]; exact Bx.lt (xN11)
     replace E := E.below dN12
     replace xN11 := Bx.below xN11 dN12
     clear eN12 zN12 dN12
     refine ⟨E, ?_⟩
     simp only [Act.put,q1,q2,q3]
     refine H1 (i := 2) (by kernel_rfl) ?_
     refine HE (o := ⟨some 103, _, _, _, _, _⟩) rfl rfl (Oper.wp_callI fn_integer_Mul rfl (Mul_z _ _ c b _ (E.2.2.2.2.2.2.2.2.2.1) (E.2.2.2.2.2.2.2.2.2.2.2.1) (Fits.mono Fc (by decide)) (Fits.mono Fb (by decide))) rfl E ?_)
     clear E
     intro wN2 nN2 sN2 dN2 E
     replace xN11 := xN11.below dN2
     replace xN12 := xN12.below dN2
     clear dN2
     refine ⟨E.2, ?_⟩
     simp only [Act.put,q1,q2,q3]
     refine H1 (i := 4) (by kernel_rfl) ?_
     refine HE (o := ⟨some 105, _, _, _, _, _⟩) rfl rfl (Oper.wp_callI fn_integer_Add rfl (Add_z _ _ (c * b) (a % b) _ (E.1) (E.2.2.2.2.2.2.2.1) (Fits.mono (Fits_mul Fc Fb : Fits (c * b) 12) (by decide)) (Fits.mono F23 (by decide))) rfl E ?_)
     clear E
     intro wN4 nN4 sN4 dN4 E
     replace xN11 := xN11.below dN4
     replace xN12 := xN12.below dN4
     clear dN4
     refine ⟨E.2.2, ?_⟩
     simp only [Act.put,q1,q2,q3]
     refine H1 (i := 6) (by kernel_rfl) ?_
     refine HE (o := ⟨some 107, _, _, _, _, _⟩) rfl rfl (Oper.wp_callIIE fn_integer_DivMod rfl (DivMod_z _ _ ((c * b) + (a % b)) b _ (E.1) (E.2.2.2.2.2.2.2.2.2.2.2.2.2.1) (hb0) (Fits.mono (Fits_add (Fits_mul Fc Fb : Fits (c * b) 12) F23 (k := 12) (by decide) (by decide) : Fits ((c * b) + (a % b)) 13) (by decide)) (Fits.mono Fb (by decide))) rfl E ?_)
     clear E
     intro wN6 nN6 sN6 mN6 tN6 dN6 E
     replace xN11 := xN11.below dN6
     replace xN12 := xN12.below dN6
     clear dN6
     refine ⟨E.2.2.2.2, ?_⟩
     simp only [Act.put,q1,q2,q3]
     refine HP (i := 7) (o := ⟨some 100, _, _, _, _, _⟩) (v := .tuple #[.agg #[.bool nN6, sN6], .agg #[.bool mN6, tN6], .int .i64 0]) rfl (by kernel_rfl) (fun _ _ _ h => h) rfl (fun w hS => run_move rfl rfl) (E.2.2.2.2) ?_
     simp only [Act.put,q1,q2,q3]
     refine HP (i := 8) (o := ⟨some 108, _, _, _, _, _⟩) (v := .agg #[.bool nN6, sN6]) rfl (by kernel_rfl) (fun _ _ _ h => h) rfl (fun w hS => run_extract (vs := [.agg #[.bool nN6, sN6], .agg #[.bool mN6, tN6], .int .i64 0]) rfl rfl rfl) (E.2.2.2.2) ?_
     simp only [Act.put,q1,q2,q3]
     refine HP (i := 9) (o := ⟨some 109, _, _, _, _, _⟩) (v := .agg #[.bool mN6, tN6]) rfl (by kernel_rfl) (fun _ _ _ h => h) rfl (fun w hS => run_extract (vs := [.agg #[.bool nN6, sN6], .agg #[.bool mN6, tN6], .int .i64 0]) rfl rfl rfl) (E.2.2.2.2) ?_
     simp only [Act.put,q1,q2,q3]
     refine HP (i := 10) (o := ⟨some 110, _, _, _, _, _⟩) (v := .int .i64 0) rfl (by kernel_rfl) (fun _ _ _ h => h) rfl (fun w hS => run_extract (vs := [.agg #[.bool nN6, sN6], .agg #[.bool mN6, tN6], .int .i64 0]) rfl rfl rfl) (E.2.2.2.2) ?_
     simp only [Act.put,q1,q2,q3]
     refine H1 (i := 13) (by kernel_rfl) ?_
     refine HE (o := ⟨none, _, _, _, _, _⟩) rfl rfl (Oper.wp_store AgI rfl rfl rfl xN11 rfl rfl (IsI.one (E.2.1)) ?_)
     intro wN13 oN13 yN13
     replace E := (E.onl (xN11.noW now0) ⟨trivial, trivial, trivial, trivial, trivial, trivial, okB (by omega), trivial, okB (by omega), okB (by omega), trivial, trivial, okB (by omega), trivial, okB (by omega), trivial, okB (by omega), trivial, okX (by omega), okX (by omega), okX (by omega), okW (by omega), trivial⟩ oN13).b yN13
     replace xN12 := Bx.onl xN12 (by omega) oN13
     clear xN11 oN13 yN13
     refine ⟨E.2.2.2.2.2, ?_⟩
     simp only [Act.put]
     refine H1 (i := 14) (by kernel_rfl) ?_
     refine HE (o := ⟨none, _, _, _, _, _⟩) rfl rfl (Oper.wp_store AgI rfl rfl rfl xN12 rfl rfl (IsI.one (E.2.1)) ?_)
     intro wN14 oN14 yN14
     replace E := (E.onl (xN12.noW now0) ⟨okB (by omega), trivial, trivial, trivial, trivial, trivial, trivial, okB (by omega), trivial, okB (by omega), okB (by omega), trivial, trivial, okB (by omega), trivial, okB (by omega), trivial, okB (by omega), trivial, okX (by omega), okX (by omega), okX (by omega), okW (by omega), trivial⟩ oN14).b yN14
     clear xN12 oN14 yN14
     refine ⟨E.2.2.2.2.2.2, ?_⟩
     simp only [Act.put]
     refine HP (i := 15) (o := ⟨some 17, _, _, _, _, _⟩) (v := .int .i64 0) rfl (by kernel_rfl) (fun _ _ _ h => h) rfl (fun w hS => run_assign rfl rfl) (E.2.2.2.2.2.2) ?_
     simp only [Act.put,q1,q2,q3]
     refine HN (by kernel_rfl) ?_
     exact ⟨nN2, sN2, nN4, sN4, nN6, sN6, mN6, tN6, bN11, bN12, rfl, (Env.b (Env.b (Env.i (Env.i (Env.i (Env.i (Env.i (Env.i (Env.b (Env.i (Env.b (Env.b (Env.i (Env.i (Env.b (Env.i (Env.b (Env.i (Env.b (Env.i (Env.x (Env.x (Env.x (Env.ww (Env.nil _) (E.2.2.2.2.2.2.2.2.2.2.2.2.2.2.2.2.2.2.2.2.2.2.2.1)) (E.2.2.2.2.2.2.2.2.2.2.2.2.2.2.2.2.2.2.2.2.2.2.1)) (E.2.2.2.2.2.2.2.2.2.2.2.2.2.2.2.2.2.2.2.2.2.1)) (E.2.2.2.2.2.2.2.2.2.2.2.2.2.2.2.2.2.2.2.2.1)) (E.2.2.2.2.2.2.2.2.2.2.2.2.2.2.2.2.2.2.2.1)) (E.2.2.2.2.2.2.2.2.2.2.2.2.2.2.2.2.2.2.1)) (E.2.2.2.2.2.2.2.2.2.2.2.2.2.2.2.2.2.1)) (E.2.2.2.2.2.2.2.2.2.2.2.2.2.2.2.2.1)) (E.2.2.2.2.2.2.2.2.2.2.2.2.2.2.2.1)) (E.2.2.2.2.2.2.2.2.2.2.2.2.2.2.1)) (E.2.2.2.2.2.2.2.2.2.2.2.2.2.1)) (E.2.2.2.2.2.2.2.2.2.2.2.2.1)) (E.2.2.2.2.2.2.2.2.2.2.2.1)) (E.2.2.2.2.2.2.2.2.2.2.1)) (E.2.2.2.2.2.2.2.2.2.1)) (E.2.2.2.2.2.2.2.2.1)) (E.2.2.2.2.2.2.2.1)) (E.2.2.2.2.2.2.1)) (E.2.2.2.2.2.1)) (E.2.2.2.2.1)) (E.2.2.2.1)) (E.2.2.1)) (E.2.1)) (E.1)), by omega, by omega, by omega⟩
   ·
    refine HE (o := ⟨some 16, _, _, _, _, _⟩) rfl rfl (Oper.wp_alloc AgI rfl ?_)
    intro bN12 wN12 eN12 zN12 dN12 xN12
    have lN12_0 : b32 < bN12 := by rw [eN12]; exact Bx.lt (E.2.2.1)
    replace E := E.below dN12
    clear eN12 zN12 dN12
    refine ⟨E, ?_⟩
    simp only [Act.put,q1,q2,q3]
    refine H2 (i := 2) (j := 11) (by kernel_rfl) ?_ ?_
    ·
     refine HE (o := ⟨some 103, _, _, _, _, _⟩) rfl rfl (Oper.wp_callI fn_integer_Mul rfl (Mul_z _ _ c b _ (E.2.2.2.2.2.2.2.2.2.1) (E.2.2.2.2.2.2.2.2.2.2.2.1) (Fits.mono Fc (by decide)) (Fits.mono Fb (by decide))) rfl E ?_)
     clear E
     intro wN2 nN2 sN2 dN2 E
     replace xN12 := xN12.below dN2
     clear dN2
     refine ⟨E.2, ?_⟩
     simp only [Act.put,q1,q2,q3]
     refine H2 (i := 4) (j := 11) (by kernel_rfl) ?_ ?_
     ·
      refine HE (o := ⟨some 105, _, _, _, _, _⟩) rfl rfl (Oper.wp_callI fn_integer_Add rfl (Add_z _ _ (c * b) (a % b) _ (E.1) (E.2.2.2.2.2.2.2.1) (Fits.mono (Fits_mul Fc Fb : Fits (c * b) 12) (by decide)) (Fits.mono F23 (by decide))) rfl E ?_)
      clear E
      intro wN4 nN4 sN4 dN4 E
      replace xN12 := xN12.below dN4
      clear dN4
      refine ⟨E.2.2, ?_⟩
      simp only [Act.put,q1,q2,q3]
      refine H2 (i := 6) (j := 11) (by kernel_rfl) ?_ ?_
      ·
       refine HE (o := ⟨some 107, _, _, _, _, _⟩) rfl rfl (Oper.wp_callIIE fn_integer_DivMod rfl (DivMod_z _ _ ((c * b) + (a % b)) b _ (E.1) (E.2.2.2.2.2.2.2.2.2.2.2.2.2.1) (hb0) (Fits.mono (Fits_add (Fits_mul Fc Fb : Fits (c * b) 12) F23 (k := 12) (by decide) (by decide) : Fits ((c * b) + (a % b)) 13) (by decide)) (Fits.mono Fb (by decide))) rfl E ?_)
       clear E
       intro wN6 nN6 sN6 mN6 tN6 dN6 E
       replace xN12 := xN12.below dN6
       clear dN6
       refine ⟨E.2.2.2.2, ?_⟩
       simp only [Act.put,q1,q2,q3]
       refine HP (i := 7) (o := ⟨some 100, _, _, _, _, _⟩) (v := .tuple #[.agg #[.bool nN6, sN6], .agg #[.bool mN6, tN6], .int .i64 0]) rfl (by kernel_rfl) (fun _ _ _ h => h) rfl (fun w hS => run_move rfl rfl) (E.2.2.2.2) ?_
       simp only [Act.put,q1,q2,q3]
       refine HP (i := 8) (o := ⟨some 108, _, _, _, _, _⟩) (v := .agg #[.bool nN6, sN6]) rfl (by kernel_rfl) (fun _ _ _ h => h) rfl (fun w hS => run_extract (vs := [.agg #[.bool nN6, sN6], .agg #[.bool mN6, tN6], .int .i64 0]) rfl rfl rfl) (E.2.2.2.2) ?_
       simp only [Act.put,q1,q2,q3]
       refine HP (i := 9) (o := ⟨some 109, _, _, _, _, _⟩) (v := .agg #[.bool mN6, tN6]) rfl (by kernel_rfl) (fun _ _ _ h => h) rfl (fun w hS => run_extract (vs := [.agg #[.bool nN6, sN6], .agg #[.bool mN6, tN6], .int .i64 0]) rfl rfl rfl) (E.2.2.2.2) ?_
       simp only [Act.put,q1,q2,q3]
       refine HP (i := 10) (o := ⟨some 110, _, _, _, _, _⟩) (v := .int .i64 0) rfl (by kernel_rfl) (fun _ _ _ h => h) rfl (fun w hS => run_extract (vs := [.agg #[.bool nN6, sN6], .agg #[.bool mN6, tN6], .int .i64 0]) rfl rfl rfl) (E.2.2.2.2) ?_
       simp only [Act.put,q1,q2,q3]
       refine H1 (i := 11) (by kernel_rfl) ?_
       refine HE (o := ⟨some 15, _, _, _, _, _⟩) rfl rfl (Oper.wp_alloc AgI rfl ?_)
       intro bN11 wN11 eN11 zN11 dN11 xN11
       have lN11_0 : bN12 < bN11 := by rw [eN11]; exact Bx.lt (xN12)
       replace E := E.below dN11
       replace xN12 := Bx.below xN12 dN11
       clear eN11 zN11 dN11
       refine ⟨E.2.2.2.2, ?_⟩
       simp only [Act.put,q1,q2,q3]
       refine H1 (i := 13) (by kernel_rfl) ?_
       refine HE (o := ⟨none, _, _, _, _, _⟩) rfl rfl (Oper.wp_store AgI rfl rfl rfl xN11 rfl rfl (IsI.one (E.2.1)) ?_)
       intro wN13 oN13 yN13
       replace E := (E.onl (xN11.noW now0) ⟨trivial, trivial, trivial, trivial, trivial, trivial, okB (by omega), trivial, okB (by omega), okB (by omega), trivial, trivial, okB (by omega), trivial, okB (by omega), trivial, okB (by omega), trivial, okX (by omega), okX (by omega), okX (by omega), okW (by omega), trivial⟩ oN13).b yN13
       replace xN12 := Bx.onl xN12 (by omega) oN13
       clear xN11 oN13 yN13
       refine ⟨E.2.2.2.2.2, ?_⟩
       simp only [Act.put]
       refine H1 (i := 14) (by kernel_rfl) ?_
       refine HE (o := ⟨none, _, _, _, _, _⟩) rfl rfl (Oper.wp_store AgI rfl rfl rfl xN12 rfl rfl (IsI.one (E.2.1)) ?_)
       intro wN14 oN14 yN14
       replace E := (E.onl (xN12.noW now0) ⟨okB (by omega), trivial, trivial, trivial, trivial, trivial, trivial, okB (by omega), trivial, okB (by omega), okB (by omega), trivial, trivial, okB (by omega), trivial, okB (by omega), trivial, okB (by omega), trivial, okX (by omega), okX (by omega), okX (by omega), okW (by omega), trivial⟩ oN14).b yN14
       clear xN12 oN14 yN14
       refine ⟨E.2.2.2.2.2.2, ?_⟩
       simp only [Act.put]
       refine HP (i := 15) (o := ⟨some 17, _, _, _, _, _⟩) (v := .int .i64 0) rfl (by kernel_rfl) (fun _ _ _ h => h) rfl (fun w hS => run_assign rfl rfl) (E.2.2.2.2.2.2) ?_
       simp only [Act.put,q1,q2,q3]
       refine HN (by kernel_rfl) ?_
       exact ⟨nN2, sN2, nN4, sN4, nN6, sN6, mN6, tN6, bN11, bN12, rfl, (Env.b (Env.b (Env.i (Env.i (Env.i (Env.i (Env.i (Env.i (Env.b (Env.i (Env.b (Env.b (Env.i (Env.i (Env.b (Env.i (Env.b (Env.i (Env.b (Env.i (Env.x (Env.x (Env.x (Env.ww (Env.nil _) (E.2.2.2.2.2.2.2.2.2.2.2.2.2.2.2.2.2.2.2.2.2.2.2.1)) (E.2.2.2.2.2.2.2.2.2.2.2.2.2.2.2.2.2.2.2.2.2.2.1)) (E.2.2.2.2.2.2.2.2.2.2.2.2.2.2.2.2.2.2.2.2.2.1)) (E.2.2.2.2.2.2.2.2.2.2.2.2.2.2.2.2.2.2.2.2.1)) (E.2.2.2.2.2.2.2.2.2.2.2.2.2.2.2.2.2.2.2.1)) (E.2.2.2.2.2.2.2.2.2.2.2.2.2.2.2.2.2.2.1)) (E.2.2.2.2.2.2.2.2.2.2.2.2.2.2.2.2.2.1)) (E.2.2.2.2.2.2.2.2.2.2.2.2.2.2.2.2.1)) (E.2.2.2.2.2.2.2.2.2.2.2.2.2.2.2.1)) (E.2.2.2.2.2.2.2.2.2.2.2.2.2.2.1)) (E.2.2.2.2.2.2.2.2.2.2.2.2.2.1)) (E.2.2.2.2.2.2.2.2.2.2.2.2.1)) (E.2.2.2.2.2.2.2.2.2.2.2.1)) (E.2.2.2.2.2.2.2.2.2.2.1)) (E.2.2.2.2.2.2.2.2.2.1)) (E.2.2.2.2.2.2.2.2.1)) (E.2.2.2.2.2.2.2.1)) (E.2.2.2.2.2.2.1)) (E.2.2.2.2.2.1)) (E.2.2.2.2.1)) (E.2.2.2.1)) (E.2.2.1)) (E.2.1)) (E.1)), by omega, by omega, by omega⟩
      ·
       refine HE (o := ⟨some 15, _, _, _, _, _⟩) rfl rfl (Oper.wp_alloc AgI rfl ?_)
       intro bN11 wN11 eN11 zN11 dN11 xN11
       have lN11_0 : bN12 < bN11 := by rw [eN11]; exact Bx.lt (xN12)
       replace E := E.below dN11
       replace xN12 := Bx.below xN12 dN11
       clear eN11 zN11 dN11
       refine ⟨E.2.2, ?_⟩
       simp only [Act.put,q1,q2,q3]
       refine H1 (i := 6) (by kernel_rfl) ?_
       refine HE (o := ⟨some 107, _, _, _, _, _⟩) rfl rfl (Oper.wp_callIIE fn_integer_DivMod rfl (DivMod_z _ _ ((c * b) + (a % b)) b _ (E.1) (E.2.2.2.2.2.2.2.2.2.2.2.2.2.1) (hb0) (Fits.mono (Fits_add (Fits_mul Fc Fb : Fits (c * b) 12) F23 (k := 12) (by decide) (by decide) : Fits ((c * b) + (a % b)) 13) (by decide)) (Fits.mono Fb (by decide))) rfl E ?_)
       clear E
       intro wN6 nN6 sN6 mN6 tN6 dN6 E
       replace xN12 := xN12.below dN6
       replace xN11 := xN11.below dN6
       clear dN6
       refine ⟨E.2.2.2.2, ?_⟩
       simp only [Act.put,q1,q2,q3]
       refine HP (i := 7) (o := ⟨some 100, _, _, _, _, _⟩) (v := .tuple #[.agg #[.bool nN6, sN6], .agg #[.bool mN6, tN6], .int .i64 0]) rfl (by kernel_rfl) (fun _ _ _ h => h) rfl (fun w hS => run_move rfl rfl) (E.2.2.2.2) ?_
       simp only [Act.put,q1,q2,q3]
       refine HP (i := 8) (o := ⟨some 108, _, _, _, _, _⟩) (v := .agg #[.bool nN6, sN6]) rfl (by kernel_rfl) (fun _ _ _ h => h) rfl (fun w hS => run_extract (vs := [.agg #[.bool nN6, sN6], .agg #[.bool mN6, tN6], .int .i64 0]) rfl rfl rfl) (E.2.2.2.2) ?_
       simp only [Act.put,q1,q2,q3]
       refine HP (i := 9) (o := ⟨some 109, _, _, _, _, _⟩) (v := .agg #[.bool mN6, tN6]) rfl (by kernel_rfl) (fun _ _ _ h => h) rfl (fun w hS => run_extract (vs := [.agg #[.bool nN6, sN6], .agg #[.bool mN6, tN6], .int .i64 0]) rfl rfl rfl) (E.2.2.2.2) ?_
       simp only [Act.put,q1,q2,q3]
       refine HP (i := 10) (o := ⟨some 110, _, _, _, _, _⟩) (v := .int .i64 0) rfl (by kernel_rfl) (fun _ _ _ h => h) rfl (fun w hS => run_extract (vs := [.agg #[.bool nN6, sN6], .agg #[.bool mN6, tN6], .int .i64 0]) rfl rfl rfl) (E.2.2.2.2) ?_
       simp only [Act.put,q1,q2,q3]
       refine H1 (i := 13) (by kernel_rfl) ?_
       refine HE (o := ⟨none, _, _, _, _, _⟩) rfl rfl (Oper.wp_store AgI rfl rfl rfl xN11 rfl rfl (IsI.one (E.2.1)) ?_)
       intro wN13 oN13 yN13
       replace E := (E.onl (xN11.noW now0) ⟨trivial, trivial, trivial, trivial, trivial, trivial, okB (by omega), trivial, okB (by omega), okB (by omega), trivial, trivial, okB (by omega), trivial, okB (by omega), trivial, okB (by omega), trivial, okX (by omega), okX (by omega), okX (by omega), okW (by omega), trivial⟩ oN13).b yN13
       replace xN12 := Bx.onl xN12 (by omega) oN13
       clear xN11 oN13 yN13
       refine ⟨E.2.2.2.2.2, ?_⟩
       simp only [Act.put]
       refine H1 (i := 14) (by kernel_rfl) ?_
       refine HE (o := ⟨none, _, _, _, _, _⟩) rfl rfl (Oper.wp_store AgI rfl rfl rfl xN12 rfl rfl (IsI.one (E.2.1)) ?_)
       intro wN14 oN14 yN14
       replace E := (E.onl (xN12.noW now0) ⟨okB (by omega), trivial, trivial, trivial, trivial, trivial, trivial, okB (by omega), trivial, okB (by omega), okB (by omega), trivial, trivial, okB (by omega), trivial, okB (by omega), trivial, okB (by omega), trivial, okX (by omega), okX (by omega), okX (by omega), okW (by omega), trivial⟩ oN14).b yN14
       clear xN12 oN14 yN14
       refine ⟨E.2.2.2.2.2.2, ?_⟩
       simp only [Act.put]
       refine HP (i := 15) (o := ⟨some 17, _, _, _, _, _⟩) (v := .int .i64 0) rfl (by kernel_rfl) (fun _ _ _ h => h) rfl (fun w hS => run_assign rfl rfl) (E.2.2.2.2.2.2) ?_
       simp only [Act.put,q1,q2,q3]
       refine HN (by kernel_rfl) ?_
       exact ⟨nN2, sN2, nN4, sN4, nN6, sN6, mN6, tN6, bN11, bN12, rfl, (Env.b (Env.b (Env.i (Env.i (Env.i (Env.i (Env.i (Env.i (Env.b (Env.i (Env.b (Env.b (Env.i (Env.i (Env.b (Env.i (Env.b (Env.i (Env.b (Env.i (Env.x (Env.x (Env.x (Env.ww (Env.nil _) (E.2.2.2.2.2.2.2.2.2.2.2.2.2.2.2.2.2.2.2.2.2.2.2.1)) (E.2.2.2.2.2.2.2.2.2.2.2.2.2.2.2.2.2.2.2.2.2.2.1)) (E.2.2.2.2.2.2.2.2.2.2.2.2.2.2.2.2.2.2.2.2.2.1)) (E.2.2.2.2.2.2.2.2.2.2.2.2.2.2.2.2.2.2.2.2.1)) (E.2.2.2.2.2.2.2.2.2.2.2.2.2.2.2.2.2.2.2.1)) (E.2.2.2.2.2.2.2.2.2.2.2.2.2.2.2.2.2.2.1)) (E.2.2.2.2.2.2.2.2.2.2.2.2.2.2.2.2.2.1)) (E.2.2.2.2.2.2.2.2.2.2.2.2.2.2.2.2.1)) (E.2.2.2.2.2.2.2.2.2.2.2.2.2.2.2.1)) (E.2.2.2.2.2.2.2.2.2.2.2.2.2.2.1)) (E.2.2.2.2.2.2.2.2.2.2.2.2.2.1)) (E.2.2.2.2.2.2.2.2.2.2.2.2.1)) (E.2.2.2.2.2.2.2.2.2.2.2.1)) (E.2.2.2.2.2.2.2.2.2.2.1)) (E.2.2.2.2.2.2.2.2.2.1)) (E.2.2.2.2.2.2.2.2.1)) (E.2.2.2.2.2.2.2.1)) (E.2.2.2.2.2.2.1)) (E.2.2.2.2.2.1)) (E.2.2.2.2.1)) (E.2.2.2.1)) (E.2.2.1)) (E.2.1)) (E.1)), by omega, by omega, by omega⟩
     ·
      refine HE (o := ⟨some 15, _, _, _, _, _⟩) rfl rfl (Oper.wp_alloc AgI rfl ?_)
      intro bN11 wN11 eN11 zN11 dN11 xN11
      have lN11_0 : bN12 < bN11 := by rw [eN11]; exact Bx.lt (xN12)
      replace E := E.below dN11
      replace xN12 := Bx.below xN12 dN11
      clear eN11 zN11 dN11
      refine ⟨E.2, ?_⟩
      simp only [Act.put,q1,q2,q3]
      refine H1 (i := 4) (by kernel_rfl) ?_
      refine HE (o := ⟨some 105, _, _, _, _, _⟩) rfl rfl (Oper.wp_callI fn_integer_Add rfl (Add_z _ _ (c * b) (a % b) _ (E.1) (E.2.2.2.2.2.2.2.1) (Fits.mono (Fits_mul Fc Fb : Fits (c * b) 12) (by decide)) (Fits.mono F23 (by decide))) rfl E ?_)
      clear E
      intro wN4 nN4 sN4 dN4 E
      replace xN12 := xN12.below dN4
      replace xN11 := xN11.below dN4
      clear dN4
      refine ⟨E.2.2, ?_⟩
      simp only [Act.put,q1,q2,q3]
      refine H1 (i := 6) (by kernel_rfl) ?_
      refine HE (o := ⟨some 107, _, _, _, _, _⟩) rfl rfl (Oper.wp_callIIE fn_integer_DivMod rfl (DivMod_z _ _ ((c * b) + (a % b)) b _ (E.1) (E.2.2.2.2.2.2.2.2.2.2.2.2.2.1) (hb0) (Fits.mono (Fits_add (Fits_mul Fc Fb : Fits (c * b) 12) F23 (k := 12) (by decide) (by decide) : Fits ((c * b) + (a % b)) 13) (by decide)) (Fits.mono Fb (by decide))) rfl E ?_)
      clear E
      intro wN6 nN6 sN6 mN6 tN6 dN6 E
      replace xN12 := xN12.below dN6
      replace xN11 := xN11.below dN6
      clear dN6
      refine ⟨E.2.2.2.2, ?_⟩
      simp only [Act.put,q1,q2,q3]
      refine HP (i := 7) (o := ⟨some 100, _, _, _, _, _⟩) (v := .tuple #[.agg #[.bool nN6, sN6], .agg #[.bool mN6, tN6], .int .i64 0]) rfl (by kernel_rfl) (fun _ _ _ h => h) rfl (fun w hS => run_move rfl rfl) (E.2.2.2.2) ?_
      simp only [Act.put,q1,q2,q3]
      refine HP (i := 8) (o := ⟨some 108, _, _, _, _, _⟩) (v := .agg #[.bool nN6, sN6]) rfl (by kernel_rfl) (fun _ _ _ h => h) rfl (fun w hS => run_extract (vs := [.agg #[.bool nN6, sN6], .agg #[.bool mN6, tN6], .int .i64 0]) rfl rfl rfl) (E.2.2.2.2) ?_
      simp only [Act.put,q1,q2,q3]
      refine HP (i := 9) (o := ⟨some 109, _, _, _, _, _⟩) (v := .agg #[.bool mN6, tN6]) rfl (by kernel_rfl) (fun _ _ _ h => h) rfl (fun w hS => run_extract (vs := [.agg #[.bool nN6, sN6], .agg #[.bool mN6, tN6], .int .i64 0]) rfl rfl rfl) (E.2.2.2.2) ?_
      simp only [Act.put,q1,q2,q3]
      refine HP (i := 10) (o := ⟨some 110, _, _, _, _, _⟩) (v := .int .i64 0) rfl (by kernel_rfl) (fun _ _ _ h => h) rfl (fun w hS => run_extract (vs := [.agg #[.bool nN6, sN6], .agg #[.bool mN6, tN6], .int .i64 0]) rfl rfl rfl) (E.2.2.2.2) ?_
      simp only [Act.put,q1,q2,q3]
      refine H1 (i := 13) (by kernel_rfl) ?_
      refine HE (o := ⟨none, _, _, _, _, _⟩) rfl rfl (Oper.wp_store AgI rfl rfl rfl xN11 rfl rfl (IsI.one (E.2.1)) ?_)
      intro wN13 oN13 yN13
      replace E := (E.onl (xN11.noW now0) ⟨trivial, trivial, trivial, trivial, trivial, trivial, okB (by omega), trivial, okB (by omega), okB (by omega), trivial, trivial, okB (by omega), trivial, okB (by omega), trivial, okB (by omega), trivial, okX (by omega), okX (by omega), okX (by omega), okW (by omega), trivial⟩ oN13).b yN13
      replace xN12 := Bx.onl xN12 (by omega) oN13
      clear xN11 oN13 yN13
      refine ⟨E.2.2.2.2.2, ?_⟩
      simp only [Act.put]
      refine H1 (i := 14) (by kernel_rfl) ?_
      refine HE (o := ⟨none, _, _, _, _, _⟩) rfl rfl (Oper.wp_store AgI rfl rfl rfl xN12 rfl rfl (IsI.one (E.2.1)) ?_)
      intro wN14 oN14 yN14
      replace E := (E.onl (xN12.noW now0) ⟨okB (by omega), trivial, trivial, trivial, trivial, trivial, trivial, okB (by omega), trivial, okB (by omega), okB (by omega), trivial, trivial, okB (by omega), trivial, okB (by omega), trivial, okB (by omega), trivial, okX (by omega), okX (by omega), okX (by omega), okW (by omega), trivial⟩ oN14).b yN14
      clear xN12 oN14 yN14
      refine ⟨E.2.2.2.2.2.2, ?_⟩
      simp only [Act.put]
      refine HP (i := 15) (o := ⟨some 17, _, _, _, _, _⟩) (v := .int .i64 0) rfl (by kernel_rfl) (fun _ _ _ h => h) rfl (fun w hS => run_assign rfl rfl) (E.2.2.2.2.2.2) ?_
      simp only [Act.put,q1,q2,q3]
      refine HN (by kernel_rfl) ?_
      exact ⟨nN2, sN2, nN4, sN4, nN6, sN6, mN6, tN6, bN11, bN12, rfl, (Env.b (Env.b (Env.i (Env.i (Env.i (Env.i (Env.i (Env.i (Env.b (Env.i (Env.b (Env.b (Env.i (Env.i (Env.b (Env.i (Env.b (Env.i (Env.b (Env.i (Env.x (Env.x (Env.x (Env.ww (Env.nil _) (E.2.2.2.2.2.2.2.2.2.2.2.2.2.2.2.2.2.2.2.2.2.2.2.1)) (E.2.2.2.2.2.2.2.2.2.2.2.2.2.2.2.2.2.2.2.2.2.2.1)) (E.2.2.2.2.2.2.2.2.2.2.2.2.2.2.2.2.2.2.2.2.2.1)) (E.2.2.2.2.2.2.2.2.2.2.2.2.2.2.2.2.2.2.2.2.1)) (E.2.2.2.2.2.2.2.2.2.2.2.2.2.2.2.2.2.2.2.1)) (E.2.2.2.2.2.2.2.2.2.2.2.2.2.2.2.2.2.2.1)) (E.2.2.2.2.2.2.2.2.2.2.2.2.2.2.2.2.2.1)) (E.2.2.2.2.2.2.2.2.2.2.2.2.2.2.2.2.1)) (E.2.2.2.2.2.2.2.2.2.2.2.2.2.2.2.1)) (E.2.2.2.2.2.2.2.2.2.2.2.2.2.2.1)) (E.2.2.2.2.2.2.2.2.2.2.2.2.2.1)) (E.2.2.2.2.2.2.2.2.2.2.2.2.1)) (E.2.2.2.2.2.2.2.2.2.2.2.1)) (E.2.2.2.2.2.2.2.2.2.2.1)) (E.2.2.2.2.2.2.2.2.2.1)) (E.2.2.2.2.2.2.2.2.1)) (E.2.2.2.2.2.2.2.1)) (E.2.2.2.2.2.2.1)) (E.2.2.2.2.2.1)) (E.2.2.2.2.1)) (E.2.2.2.1)) (E.2.2.1)) (E.2.1)) (E.1)), by omega, by omega, by omega⟩
    ·
     refine HE (o := ⟨some 15, _, _, _, _, _⟩) rfl rfl (Oper.wp_alloc AgI rfl ?_)
     intro bN11 wN11 eN11 zN11 dN11 xN11
     have lN11_0 : bN12 < bN11 := by rw [eN11]; exact Bx.lt (xN12)
     replace E := E.below dN11
     replace xN12 := Bx.below xN12 dN11
     clear eN11 zN11 dN11
     refine ⟨E, ?_⟩
     simp only [Act.put,q1,q2,q3]
     refine H1 (i := 2) (by kernel_rfl) ?_
     refine HE (o := ⟨some 103, _, _, _, _, _⟩) rfl rfl (Oper.wp_callI fn_integer_Mul rfl (Mul_z _ _ c b _ (E.2.2.2.2.2.2.2.2.2.1) (E.2.2.2.2.2.2.2.2.2.2.2.1) (Fits.mono Fc (by decide)) (Fits.mono Fb (by decide))) rfl E ?_)
     clear E
     intro wN2 nN2 sN2 dN2 E
     replace xN12 := xN12.below dN2
     replace xN11 := xN11.below dN2
     clear dN2
     refine ⟨E.2, ?_⟩
     simp only [Act.put,q1,q2,q3]
     refine H1 (i := 4) (by kernel_rfl) ?_
     refine HE (o := ⟨some 105, _, _, _, _, _⟩) rfl rfl (Oper.wp_callI fn_integer_Add rfl (Add_z _ _ (c * b) (a % b) _ (E.1) (E.2.2.2.2.2.2.2.1) (Fits.mono (Fits_mul Fc Fb : Fits (c * b) 12) (by decide)) (Fits.mono F23 (by decide))) rfl E ?_)
     clear E
     intro wN4 nN4 sN4 dN4 E
     replace xN12 := xN12.below dN4
     replace xN11 := xN11.below dN4
     clear dN4
     refine ⟨E.2.2, ?_⟩
     simp only [Act.put,q1,q2,q3]
     refine H1 (i := 6) (by kernel_rfl) ?_
     refine HE (o := ⟨some 107, _, _, _, _, _⟩) rfl rfl (Oper.wp_callIIE fn_integer_DivMod rfl (DivMod_z _ _ ((c * b) + (a % b)) b _ (E.1) (E.2.2.2.2.2.2.2.2.2.2.2.2.2.1) (hb0) (Fits.mono (Fits_add (Fits_mul Fc Fb : Fits (c * b) 12) F23 (k := 12) (by decide) (by decide) : Fits ((c * b) + (a % b)) 13) (by decide)) (Fits.mono Fb (by decide))) rfl E ?_)
     clear E
     intro wN6 nN6 sN6 mN6 tN6 dN6 E
     replace xN12 := xN12.below dN6
     replace xN11 := xN11.below dN6
     clear dN6
     refine ⟨E.2.2.2.2, ?_⟩
     simp only [Act.put,q1,q2,q3]
     refine HP (i := 7) (o := ⟨some 100, _, _, _, _, _⟩) (v := .tuple #[.agg #[.bool nN6, sN6], .agg #[.bool mN6, tN6], .int .i64 0]) rfl (by kernel_rfl) (fun _ _ _ h => h) rfl (fun w hS => run_move rfl rfl) (E.2.2.2.2) ?_
     simp only [Act.put,q1,q2,q3]
     refine HP (i := 8) (o := ⟨some 108, _, _, _, _, _⟩) (v := .agg #[.bool nN6, sN6]) rfl (by kernel_rfl) (fun _ _ _ h => h) rfl (fun w hS => run_extract (vs := [.agg #[.bool nN6, sN6], .agg #[.bool mN6, tN6], .int .i64 0]) rfl rfl rfl) (E.2.2.2.2) ?_
     simp only [Act.put,q1,q2,q3]
     refine HP (i := 9) (o := ⟨some 109, _, _, _, _, _⟩) (v := .agg #[.bool mN6, tN6]) rfl (by kernel_rfl) (fun _ _ _ h => h) rfl (fun w hS => run_extract (vs := [.agg #[.bool nN6, sN6], .agg #[.bool mN6, tN6], .int .i64 0]) rfl rfl rfl) (E.2.2.2.2) ?_
     simp only [Act.put,q1,q2,q3]
     refine HP (i := 10) (o := ⟨some 110, _, _, _, _, _⟩) (v := .int .i64 0) rfl (by kernel_rfl) (fun _ _ _ h => h) rfl (fun w hS => run_extract (vs := [.agg #[.bool nN6, sN6], .agg #[.bool mN6, tN6], .int .i64 0]) rfl rfl rfl) (E.2.2.2.2) ?_
     simp only [Act.put,q1,q2,q3]
     refine H1 (i := 13) (by kernel_rfl) ?_
     refine HE (o := ⟨none, _, _, _, _, _⟩) rfl rfl (Oper.wp_store AgI rfl rfl rfl xN11 rfl rfl (IsI.one (E.2.1)) ?_)
     intro wN13 oN13 yN13
     replace E := (E.onl (xN11.noW now0) ⟨trivial, trivial, trivial, trivial, trivial, trivial, okB (by omega), trivial, okB (by omega), okB (by omega), trivial, trivial, okB (by omega), trivial, okB (by omega), trivial, okB (by omega), trivial, okX (by omega), okX (by omega), okX (by omega), okW (by omega), trivial⟩ oN13).b yN13
     replace xN12 := Bx.onl xN12 (by omega) oN13
     clear xN11 oN13 yN13
     refine ⟨E.2.2.2.2.2, ?_⟩
     simp only [Act.put]
     refine H1 (i := 14) (by kernel_rfl) ?_
     refine HE (o := ⟨none, _, _, _, _, _⟩) rfl rfl (Oper.wp_store AgI rfl rfl rfl xN12 rfl rfl (IsI.one (E.2.1)) ?_)
     intro wN14 oN14 yN14
     replace E := (E.onl (xN12.noW now0) ⟨okB (by omega), trivial, trivial, trivial, trivial, trivial, trivial, okB (by omega), trivial, okB (by omega), okB (by omega), trivial, trivial, okB (by omega), trivial, okB (by omega), trivial, okB (by omega), trivial, okX (by omega), okX (by omega), okX (by omega), okW (by omega), trivial⟩ oN14).b yN14
     clear xN12 oN14 yN14
     refine ⟨E.2.2.2.2.2.2, ?_⟩
     simp only [Act.put]
     refine HP (i := 15) (o := ⟨some 17, _, _, _, _, _⟩) (v := .int .i64 0) rfl (by kernel_rfl) (fun _ _ _ h => h) rfl (fun w hS => run_assign rfl rfl) (E.2.2.2.2.2.2) ?_
     simp only [Act.put,q1,q2,q3]
     refine HN (by kernel_rfl) ?_
     exact ⟨nN2, sN2, nN4, sN4, nN6, sN6, mN6, tN6, bN11, bN12, rfl, (Env.b (Env.b (Env.i (Env.i (Env.i (Env.i (Env.i (Env.i (Env.b (Env.i (Env.b (Env.b (Env.i (Env.i (Env.b (Env.i (Env.b (Env.i (Env.b (Env.i (Env.x (Env.x (Env.x (Env.ww (Env.nil _) (E.2.2.2.2.2.2.2.2.2.2.2.2.2.2.2.2.2.2.2.2.2.2.2.1)) (E.2.2.2.2.2.2.2.2.2.2.2.2.2.2.2.2.2.2.2.2.2.2.1)) (E.2.2.2.2.2.2.2.2.2.2.2.2.2.2.2.2.2.2.2.2.2.1)) (E.2.2.2.2.2.2.2.2.2.2.2.2.2.2.2.2.2.2.2.2.1)) (E.2.2.2.2.2.2.2.2.2.2.2.2.2.2.2.2.2.2.2.1)) (E.2.2.2.2.2.2.2.2.2.2.2.2.2.2.2.2.2.2.1)) (E.2.2.2.2.2.2.2.2.2.2.2.2.2.2.2.2.2.1)) (E.2.2.2.2.2.2.2.2.2.2.2.2.2.2.2.2.1)) (E.2.2.2.2.2.2.2.2.2.2.2.2.2.2.2.1)) (E.2.2.2.2.2.2.2.2.2.2.2.2.2.2.1)) (E.2.2.2.2.2.2.2.2.2.2.2.2.2.1)) (E.2.2.2.2.2.2.2.2.2.2.2.2.1)) (E.2.2.2.2.2.2.2.2.2.2.2.1)) (E.2.2.2.2.2.2.2.2.2.2.1)) (E.2.2.2.2.2.2.2.2.2.1)) (E.2.2.2.2.2.2.2.2.1)) (E.2.2.2.2.2.2.2.1)) (E.2.2.2.2.2.2.1)) (E.2.2.2.2.2.1)) (E.2.2.2.2.1)) (E.2.2.2.1)) (E.2.2.1)) (E.2.1)) (E.1)), by omega, by omega, by omega⟩
  case refine_2 =>
   rintro _ wN15 ⟨nN2, sN2, nN4, sN4, nN6, sN6, mN6, tN6, bN11, bN12, rfl, E, qN15_0, qN15_1, qN15_2⟩
   change Code.wp _ _ _ _ _
   refine wp_seq ?_
   -- region 14
   refine wp_region_lit ?_
   refine LV (v := .bool true) rfl (run_move rfl rfl) ?_
   simp only [Act.put,q1,q2,q3]
   refine LV (v := .bool true) rfl (run_move rfl rfl) ?_
   simp only [Act.put,q1,q2,q3]
   refine LV (v := .int .i64 0) rfl (run_move rfl rfl) ?_
   simp only [Act.put,q1,q2,q3]
   refine LV (v := .bool true) rfl (run_eqI (c := true) rfl rfl rfl (by decide)) ?_
   simp only [Act.put,q1,q2,q3]
   refine LV (v := .bool true) rfl (run_pick (b := true) rfl rfl rfl) ?_
   simp only [Act.put,q1,q2,q3]
   refine LV (v := .bool true) rfl (run_move rfl rfl) ?_
   simp only [Act.put,q1,q2,q3]
   refine LV (v := .agg #[.bool nN6, sN6]) rfl (run_load_bx AgI rfl rfl (E.2.1) rfl) ?_
   simp only [Act.put,q1,q2,q3]
   refine LV (v := .agg #[.bool n11, s11]) rfl (run_load_bx AgI rfl rfl (E.2.2.2.2.2.2.2.2.2.2.2.2.2.2.1) rfl) ?_
   simp only [Act.put,q1,q2,q3]
   refine L1 rfl (Oper.wp_callB fn_eref01_Same rfl (RSame_t _ _ (((c * b) + (a % b)) / b) c _ (E.2.2.2.1) (E.2.2.2.2.2.2.2.2.2.2.2.2.2.2.2.1) (dm2 a b c hb0)) rfl E ?_)
   clear E
   intro w42 d42 E
   clear d42
   simp only [Act.put,q1,q2,q3]
   refine LV (v := .bool true) rfl (run_pick (b := true) rfl rfl rfl) ?_
   simp only [Act.put,q1,q2,q3]
   refine LV (v := .bool true) rfl (run_move rfl rfl) ?_
   simp only [Act.put,q1,q2,q3]
   refine LV (v := .agg #[.bool mN6, tN6]) rfl (run_load_bx AgI rfl rfl (E.1) rfl) ?_
   simp only [Act.put,q1,q2,q3]
   refine LV (v := .agg #[.bool false, t24]) rfl (run_load_bx AgI rfl rfl (E.2.2.2.2.2.2.2.2.2.2.1) rfl) ?_
   simp only [Act.put,q1,q2,q3]
   refine L1 rfl (Oper.wp_callB fn_eref01_Same rfl (RSame_t _ _ (((c * b) + (a % b)) % b) (a % b) _ (E.2.2.1) (E.2.2.2.2.2.2.2.2.2.2.2.2.1) (dm3 a b c hb0)) rfl E ?_)
   clear E
   intro w43 d43 E
   clear d43
   simp only [Act.put,q1,q2,q3]
   refine LV (v := .bool true) rfl (run_pick (b := true) rfl rfl rfl) ?_
   simp only [Act.put,q1,q2,q3]
   refine LV (v := .bool true) rfl (run_assign rfl rfl) ?_
   simp only [Act.put,q1,q2,q3]
   refine wpList_nil ?_
   change Code.wp _ _ _ _ _
   refine wp_ret ?_
   exact bodyPost_ret (v := .bool true) (by simp [results, Try.results6, asAddr]) rfl ⟨rfl, E.2.2.2.2.2.2.2.2.2.2.2.2.2.2.2.2.2.2.2.2.2.2.2.1⟩
end Go.Proofs.Ytjgmfdenicbniaa
