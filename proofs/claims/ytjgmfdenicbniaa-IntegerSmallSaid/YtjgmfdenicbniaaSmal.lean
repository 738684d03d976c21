/- Walk: the law IntegerSmall. (Printed by g_small.py.) -/
import Derived.Test.YtjgmfdenicbniaaLawC
namespace Go.Proofs.Ytjgmfdenicbniaa
open Go.RowKit W
theorem eqI {w : World} {v : Value} {z z' : Int} (h : z = z') (f : IsI w v z) : IsI w v z' := h ▸ f
theorem abs_i {w : World} {n : Bool} {s : Value} {z : Int} (h : IsI w (.agg #[.bool n, s]) z) : IsI w (.agg #[.bool false, s]) (z.natAbs : Int) :=
  ⟨s, by rw [decide_eq_false (by omega)], by rw [Int.natAbs_natCast]; exact h.sl⟩
theorem run_buildIm {ρ : Operand → Value} {o : Oper} {w : World} {x : Operand} {v : Value} {ao : Option Addr} {n c : Nat} (ho : o.op = .build 24 #[(1, x)]) (hx : ρ x = v) (hv : v = .slice ao n c) : (execOp ρ o).run Try.prog w = .ok (.value (.agg #[.bool false, v])) w := by
  subst hv
  unfold execOp; rw [ho]
  have hi : (zeroValue 24).run Try.prog w = .ok (.agg #[.bool false, .slice none 0 0]) w := by kernel_rfl
  simp [go_sem, hi, hx]
theorem bne_f' {m n : Int} (h : m = n) : (m != n) = false := by subst h; simp
theorem Fits_i64 {n : Int} (h1 : -9223372036854775808 ≤ n) (h2 : n ≤ 9223372036854775807) : Fits n 2 := Fits_lt (by have : (4294967296 : Nat) ^ 2 = 18446744073709551616 := rfl; omega)
theorem bits_64 {n : Int} (h : Fits n 2) : bitsN n.natAbs ≤ 64 := by
  rcases Nat.eq_zero_or_pos n.natAbs with e | e
  · rw [e, bitsN_zero]; omega
  · have := (bitsN_bounds _ e).2.2.2; have : (digs n.natAbs).length ≤ 2 := h; omega
theorem wrap_in {z : Int} (h1 : -9223372036854775808 ≤ z) (h2 : z ≤ 9223372036854775807) : IntKind.i64.wrap z = z := by simp only [IntKind.wrap_i64]; omega
theorem wrap_i64_nat {a : Nat} {X : Int} (hX : X = (a : Int)) (h : a < 9223372036854775808) : IntKind.i64.wrap X = (a : Int) := by subst hX; simp only [IntKind.wrap_i64]; omega
theorem tm_abs (n : Int) : (n.tmod 1000000007).natAbs ≤ 1000000006 := by rw [Int.natAbs_tmod]; have := Nat.mod_lt n.natAbs (show 0 < (1000000007 : Int).natAbs by decide); have : (1000000007 : Int).natAbs = 1000000007 := rfl; omega
theorem tm_lo (n : Int) : -9223372036854775808 ≤ n.tmod 1000000007 := by have := tm_abs n; omega
theorem tm_hi (n : Int) : n.tmod 1000000007 ≤ 9223372036854775807 := by have := tm_abs n; omega
theorem td_abs {n : Int} (h1 : -9223372036854775808 ≤ n) (h2 : n ≤ 9223372036854775807) : (n.tdiv 2).natAbs ≤ 4611686018427387904 ∧ n.tdiv 2 ≤ 4611686018427387903 := by
  have h : (n.tdiv 2).natAbs = n.natAbs / 2 := by rw [Int.natAbs_tdiv]; rfl
  refine ⟨by omega, ?_⟩
  by_cases e : 0 ≤ n
  · omega
  · have h3 : n.tdiv 2 ≤ 0 := by
      have h4 : (-n).tdiv 2 = -(n.tdiv 2) := Int.neg_tdiv ..
      have h5 : 0 ≤ (-n).tdiv 2 := Int.tdiv_nonneg (by omega) (by omega)
      omega
    omega
theorem td_lo {n : Int} (h1 : -9223372036854775808 ≤ n) (h2 : n ≤ 9223372036854775807) : -9223372036854775808 ≤ n.tdiv 2 := by have := td_abs h1 h2; omega
theorem td_hi {n : Int} (h1 : -9223372036854775808 ≤ n) (h2 : n ≤ 9223372036854775807) : n.tdiv 2 ≤ 9223372036854775807 := by have := td_abs h1 h2; omega
theorem td_wrap {n : Int} (h1 : -9223372036854775808 ≤ n) (h2 : n ≤ 9223372036854775807) : IntKind.i64.wrap (n.tdiv 2) = n.tdiv 2 := wrap_in (td_lo h1 h2) (td_hi h1 h2)
theorem su_lo {n m : Int} (h1 : -9223372036854775808 ≤ n) (h2 : n ≤ 9223372036854775807) (h3 : -9223372036854775808 ≤ m) (h4 : m ≤ 9223372036854775807) : -9223372036854775808 ≤ n.tdiv 2 + m.tdiv 2 := by have := td_abs h1 h2; have := td_abs h3 h4; omega
theorem su_hi {n m : Int} (h1 : -9223372036854775808 ≤ n) (h2 : n ≤ 9223372036854775807) (h3 : -9223372036854775808 ≤ m) (h4 : m ≤ 9223372036854775807) : n.tdiv 2 + m.tdiv 2 ≤ 9223372036854775807 := by have := td_abs h1 h2; have := td_abs h3 h4; omega
theorem pr_abs (n m : Int) : (n.tmod 1000000007 * m.tmod 1000000007).natAbs ≤ 1000000006 * 1000000006 := by rw [Int.natAbs_mul]; exact Nat.mul_le_mul (tm_abs n) (tm_abs m)
theorem pr_lo (n m : Int) : -9223372036854775808 ≤ n.tmod 1000000007 * m.tmod 1000000007 := by have := pr_abs n m; omega
theorem pr_hi (n m : Int) : n.tmod 1000000007 * m.tmod 1000000007 ≤ 9223372036854775807 := by have := pr_abs n m; omega
theorem bits_end {k : Int} {i b : Nat} (h : k = 0) (e : i + bitsN k.natAbs = b) : (((b : Nat) : Int) == ((i : Nat) : Int)) = true := by
  subst h; rw [Int.natAbs_zero, bitsN_zero] at e; rw [beq_iff_eq]; omega
theorem half_lt {k : Int} (h : k ≠ 0) : (k.tdiv 2).natAbs < k.natAbs := by
  have e : (k.tdiv 2).natAbs = k.natAbs / 2 := by rw [Int.natAbs_tdiv]; rfl
  omega
theorem bits_half {k : Int} (h : k ≠ 0) : bitsN (k.tdiv 2).natAbs + 1 = bitsN k.natAbs := by
  have e : (k.tdiv 2).natAbs = k.natAbs / 2 := by rw [Int.natAbs_tdiv]; rfl
  rw [e]
  obtain ⟨A, hA⟩ : ∃ A, k.natAbs = A := ⟨_, rfl⟩
  rw [hA]
  have hA0 : 0 < A := by omega
  have ⟨b1, b2, b3, _⟩ := bitsN_bounds A hA0
  obtain ⟨b, hb⟩ : ∃ b, bitsN A = b + 1 := ⟨bitsN A - 1, by omega⟩
  rw [hb] at b1 b2 ⊢
  rw [Nat.add_sub_cancel] at b2
  rw [Nat.pow_succ] at b1
  rcases Nat.eq_zero_or_pos (A / 2) with e | e
  · rw [e, bitsN_zero]
    have : A = 1 := by omega
    subst this
    rcases Nat.eq_zero_or_pos b with e | e
    · rw [e]
    · have := Nat.one_lt_two_pow (n := b) (by omega); omega
  · have ⟨c1, c2, c3, _⟩ := bitsN_bounds (A / 2) e
    obtain ⟨c, hc⟩ : ∃ c, bitsN (A / 2) = c + 1 := ⟨bitsN (A / 2) - 1, by omega⟩
    rw [hc] at c1 c2 ⊢
    rw [Nat.add_sub_cancel] at c2
    rw [Nat.pow_succ] at c1
    rcases Nat.lt_trichotomy b (c + 1) with h | h | h
    · have := Nat.pow_le_pow_right (show 0 < 2 by decide) (show b ≤ c by omega); omega
    · omega
    · have := Nat.pow_le_pow_right (show 0 < 2 by decide) (show c + 2 ≤ b by omega)
      rw [Nat.pow_succ, Nat.pow_succ] at this; omega
theorem i64_rng {n : Int} (h : (Lit.int .i64 n).wf = true) : -9223372036854775808 ≤ n ∧ n ≤ 9223372036854775807 := by
  simp [Lit.wf, IntKind.min, IntKind.max, IntKind.signed, IntKind.bits] at h; omega
set_option maxRecDepth 100000 in
set_option maxHeartbeats 8000000 in
theorem smal_t  (n : Int) (m : Int) (w : World)  (hn1 : -9223372036854775808 ≤ n) (hn2 : n ≤ 9223372036854775807) (hm1 : -9223372036854775808 ≤ m) (hm2 : m ≤ 9223372036854775807) :
    Calls Try.prog 10 #[.int .i64 n, .int .i64 m] w (RetB w true) := by
 have E := Env.start w
 have hb64 := bits_64 (Fits_i64 hn1 hn2)
 go_enter Try.func10, Try.ntmps10
 refine wp_seq ?_
 -- region 0
 refine wp_region_lit ?_
 refine LV (v := .bool false) rfl (run_assign rfl rfl) ?_
 simp only [Act.put,q1,q2,q3]
 refine wpList_nil ?_
 change Code.wp _ _ _ _ _
 refine wp_seq ?_
 -- region 1
 refine wp_region_lit ?_
 refine L1 rfl (Oper.wp_callB fn_elaw01_sanity rfl (sanity_t _) rfl E ?_)
 clear E
 intro w1 d1 E
 clear d1
 simp only [Act.put,q1,q2,q3]
 refine LV (v := .bool true) rfl (run_assign rfl rfl) ?_
 simp only [Act.put,q1,q2,q3]
 refine wpList_nil ?_
 change Code.wp _ _ _ _ _
 refine wp_seq ?_
 refine wp_seq ?_
 -- region 2
 refine wp_region_lit ?_
 refine LV (v := .bool true) rfl (run_move rfl rfl) ?_
 simp only [Act.put,q1,q2,q3]
 refine LV (v := .bool false) rfl (run_not (b := true) rfl rfl) ?_
 simp only [Act.put,q1,q2,q3]
 refine wpList_nil ?_
 change Code.wp _ _ _ _ _
 refine wp_cond_false rfl ?_
 refine wp_skip ?_
 change Code.wp _ _ _ _ _
 refine wp_seq ?_
 -- region 4
 refine wp_region_lit ?_
 refine LV (v := .int .i64 n) rfl (run_move rfl rfl) ?_
 simp only [Act.put,q1,q2,q3]
 refine L1 rfl (Oper.wp_callI fn_integer_Of rfl (Of_z n _ hn1 hn2) rfl E ?_)
 clear E
 intro w3 n3 s3 d3 E
 clear d3
 simp only [Act.put,q1,q2,q3]
 have F2 : Fits n 2 := Fits_i64 hn1 hn2
 refine L1 rfl (Oper.wp_alloc AgI rfl ?_)
 intro b4 w4 e4 z4 d4 x4
 have l4 : w.heap.size ≤ b4 := by rw [e4]; exact (E.2.1).size
 replace E := E.below d4
 clear e4 z4 d4
 simp only [Act.put,q1,q2,q3]
 refine L1 rfl (Oper.wp_store AgI rfl rfl rfl x4 rfl rfl (IsI.one (E.1)) ?_)
 intro w5 o5 y5
 replace E := (E.onl (x4.noW now0) ⟨trivial, okW (by omega), trivial⟩ o5).b y5
 clear x4 o5 y5
 simp only [Act.put]
 refine wpList_nil ?_
 change Code.wp _ _ _ _ _
 refine wp_seq ?_
 -- region 5
 refine wp_region_lit ?_
 refine LV (v := .int .i64 m) rfl (run_move rfl rfl) ?_
 simp only [Act.put,q1,q2,q3]
 refine L1 rfl (Oper.wp_callI fn_integer_Of rfl (Of_z m _ hm1 hm2) rfl E ?_)
 clear E
 intro w7 n7 s7 d7 E
 clear d7
 simp only [Act.put,q1,q2,q3]
 have F6 : Fits m 2 := Fits_i64 hm1 hm2
 refine L1 rfl (Oper.wp_alloc AgI rfl ?_)
 intro b8 w8 e8 z8 d8 x8
 have l8_0 : b4 < b8 := by rw [e8]; exact Bx.lt (E.2.1)
 replace E := E.below d8
 clear e8 z8 d8
 simp only [Act.put,q1,q2,q3]
 refine L1 rfl (Oper.wp_store AgI rfl rfl rfl x8 rfl rfl (IsI.one (E.1)) ?_)
 intro w9 o9 y9
 replace E := (E.onl (x8.noW now0) ⟨trivial, okB (by omega), trivial, okW (by omega), trivial⟩ o9).b y9
 clear x8 o9 y9
 simp only [Act.put]
 refine wpList_nil ?_
 change Code.wp _ _ _ _ _
 refine wp_seq ?_
 -- region 6
 refine wp_region_lit ?_
 refine LV (v := .agg #[.bool n3, s3]) rfl (run_load_bx AgI rfl rfl (E.2.2.1) rfl) ?_
 simp only [Act.put,q1,q2,q3]
 refine L1 rfl (Oper.wp_callSm fn_integer_Small rfl (Small_ok _ n _ (E.2.2.2.1) hn1 hn2) rfl E ?_)
 clear E
 intro w10 d10 E
 clear d10
 simp only [Act.put,q1,q2,q3]
 refine LV (v := .tuple #[.int .i64 n, .bool true]) rfl (run_move rfl rfl) ?_
 simp only [Act.put,q1,q2,q3]
 refine LV (v := .int .i64 n) rfl (run_extract (vs := [.int .i64 n, .bool true]) rfl rfl rfl) ?_
 simp only [Act.put,q1,q2,q3]
 refine LV (v := .bool true) rfl (run_extract (vs := [.int .i64 n, .bool true]) rfl rfl rfl) ?_
 simp only [Act.put,q1,q2,q3]
 refine LV (v := .int .i64 n) rfl (run_assign rfl rfl) ?_
 simp only [Act.put,q1,q2,q3]
 refine LV (v := .bool true) rfl (run_assign rfl rfl) ?_
 simp only [Act.put,q1,q2,q3]
 refine wpList_nil ?_
 change Code.wp _ _ _ _ _
 refine wp_seq ?_
 -- region 7
 refine wp_region_lit ?_
 refine LV (v := .int .i64 0) rfl (run_assign rfl rfl) ?_
 simp only [Act.put,q1,q2,q3]
 refine wpList_nil ?_
 change Code.wp _ _ _ _ _
 refine wp_seq ?_
 refine wp_seq ?_
 by_cases hlt : n < m
 case pos =>
  -- region 8
  refine wp_region_lit ?_
  refine LV (v := .int .i64 n) rfl (run_move rfl rfl) ?_
  simp only [Act.put,q1,q2,q3]
  refine LV (v := .int .i64 m) rfl (run_move rfl rfl) ?_
  simp only [Act.put,q1,q2,q3]
  refine LV (v := .bool true) rfl (run_ltI (c := true) rfl rfl rfl (decide_eq_true hlt)) ?_
  simp only [Act.put,q1,q2,q3]
  refine wpList_nil ?_
  change Code.wp _ _ _ _ _
  refine wp_cond_true rfl ?_
  -- region 9
  refine wp_region_lit ?_
  refine LV (v := .int .i64 (-1)) rfl (run_assign rfl rfl) ?_
  simp only [Act.put,q1,q2,q3]
  refine wpList_nil ?_
  change Code.wp _ _ _ _ _
  refine wp_seq ?_
  refine wp_seq ?_
  -- region 10
  refine wp_region_lit ?_
  refine LV (v := .int .i64 n) rfl (run_move rfl rfl) ?_
  simp only [Act.put,q1,q2,q3]
  refine LV (v := .int .i64 m) rfl (run_move rfl rfl) ?_
  simp only [Act.put,q1,q2,q3]
  refine LV (v := .bool false) rfl (run_gtI (c := false) rfl rfl rfl (by rw [decide_eq_false_iff_not]; omega)) ?_
  simp only [Act.put,q1,q2,q3]
  refine wpList_nil ?_
  change Code.wp _ _ _ _ _
  refine wp_cond_false rfl ?_
  refine wp_skip ?_
  change Code.wp _ _ _ _ _
  refine wp_seq ?_
  refine wp_seq ?_
  -- region 12
  refine wp_region_lit ?_
  refine LV (v := .bool true) rfl (run_move rfl rfl) ?_
  simp only [Act.put,q1,q2,q3]
  refine LV (v := .bool false) rfl (run_not (b := true) rfl rfl) ?_
  simp only [Act.put,q1,q2,q3]
  refine LV (v := .bool false) rfl (run_move rfl rfl) ?_
  simp only [Act.put,q1,q2,q3]
  refine LV (v := .int .i64 n) rfl (run_move rfl rfl) ?_
  simp only [Act.put,q1,q2,q3]
  refine LV (v := .int .i64 n) rfl (run_move rfl rfl) ?_
  simp only [Act.put,q1,q2,q3]
  refine LV (v := .bool false) rfl (run_neI (c := false) rfl rfl rfl (bne_f' rfl)) ?_
  simp only [Act.put,q1,q2,q3]
  refine LV (v := .bool false) rfl (run_pick (b := false) rfl rfl rfl) ?_
  simp only [Act.put,q1,q2,q3]
  refine LV (v := .bool false) rfl (run_move rfl rfl) ?_
  simp only [Act.put,q1,q2,q3]
  refine LV (v := .agg #[.bool n3, s3]) rfl (run_load_bx AgI rfl rfl (E.2.2.1) rfl) ?_
  simp only [Act.put,q1,q2,q3]
  refine L1 rfl (Oper.wp_callB fn_integer_Valid rfl (Valid_z _ n _ (E.2.2.2.1)) rfl E ?_)
  clear E
  intro w11 d11 E
  clear d11
  simp only [Act.put,q1,q2,q3]
  refine LV (v := .bool false) rfl (run_not (b := true) rfl rfl) ?_
  simp only [Act.put,q1,q2,q3]
  refine LV (v := .bool false) rfl (run_pick (b := false) rfl rfl rfl) ?_
  simp only [Act.put,q1,q2,q3]
  refine LV (v := .bool false) rfl (run_move rfl rfl) ?_
  simp only [Act.put,q1,q2,q3]
  refine LV (v := .agg #[.bool n3, s3]) rfl (run_load_bx AgI rfl rfl (E.2.2.1) rfl) ?_
  simp only [Act.put,q1,q2,q3]
  refine LV (v := .agg #[.bool n7, s7]) rfl (run_load_bx AgI rfl rfl (E.1) rfl) ?_
  simp only [Act.put,q1,q2,q3]
  refine L1 rfl (Oper.wp_callN fn_integer_Cmp rfl (Cmp_z _ _ n m _ (E.2.2.2.1) (E.2.1)) rfl E ?_)
  clear E
  intro w12 d12 E
  clear d12
  simp only [Act.put,q1,q2,q3]
  refine LV (v := .int .i64 (-1)) rfl (run_move rfl rfl) ?_
  simp only [Act.put,q1,q2,q3]
  refine LV (v := .bool false) rfl (run_neI (c := false) rfl rfl rfl (bne_f' (cmpI_lt hlt))) ?_
  simp only [Act.put,q1,q2,q3]
  refine LV (v := .bool false) rfl (run_pick (b := false) rfl rfl rfl) ?_
  simp only [Act.put,q1,q2,q3]
  refine wpList_nil ?_
  change Code.wp _ _ _ _ _
  refine wp_cond_false rfl ?_
  refine wp_skip ?_
  change Code.wp _ _ _ _ _
  refine wp_seq ?_
  -- region 14
  refine wp_region_lit ?_
  refine LV (v := .int .i64 0) rfl (run_assign rfl rfl) ?_
  simp only [Act.put,q1,q2,q3]
  refine wpList_nil ?_
  change Code.wp _ _ _ _ _
  refine wp_seq ?_
  refine wp_seq ?_
  -- region 15
  refine wp_region_lit ?_
  refine LV (v := .int .i64 n) rfl (run_move rfl rfl) ?_
  simp only [Act.put,q1,q2,q3]
  refine LV (v := .int .i64 n) rfl (run_assign rfl rfl) ?_
  simp only [Act.put,q1,q2,q3]
  refine wpList_nil ?_
  change Code.wp _ _ _ _ _
  refine wp_block ?_
  refine wp_loop_ghost (fun mz a w' => ∃ (i : Nat) (k : Int) (g55 g56 g57 g58 g59 g60 : Value), a = ⟨#[.int .i64 n, .int .i64 m, undef, undef, .bool false, .bool true, .pointer (some ⟨b4, 0, none⟩), .pointer (some ⟨b8, 0, none⟩), .int .i64 n, .bool true, .int .i64 (-1), .int .i64 ((i : Nat) : Int), .int .i64 k, undef, undef, undef, undef, .bool true, .bool true, .bool false, .int .i64 n, .agg #[.bool n3, s3], .int .i64 m, .agg #[.bool n7, s7], .tuple #[.int .i64 n, .bool true], .agg #[.bool n3, s3], .tuple #[.int .i64 n, .bool true], .int .i64 n, .bool true, .int .i64 n, .int .i64 m, .bool true, .int .i64 n, .int .i64 m, .bool false, .bool true, .bool false, .bool false, .int .i64 n, .int .i64 n, .bool false, .bool false, .bool false, .agg #[.bool n3, s3], .bool true, .bool false, .bool false, .bool false, .agg #[.bool n3, s3], .agg #[.bool n7, s7], .int .i64 (cmpI n m), .int .i64 (-1), .bool false, .bool false, .int .i64 n, g55, g56, g57, g58, g59, g60, undef, undef, undef, undef, undef, undef, undef, undef, undef, undef, undef, undef, undef, undef, undef, undef, undef, undef, undef, undef, undef, undef, undef, undef, undef, undef, undef, undef, undef, undef, undef, undef, undef, undef, undef, undef, undef, undef, undef, undef, undef, undef, undef, undef, undef, undef, undef, undef, undef, undef, undef, undef, undef], []⟩ ∧ Env w' [fB b8 n7 s7, fI (.agg #[.bool n7, s7]) m, fB b4 n3 s3, fI (.agg #[.bool n3, s3]) n, fW w] ∧ mz = k.natAbs ∧ (i + bitsN k.natAbs = bitsN n.natAbs ∧ -9223372036854775808 ≤ k ∧ k ≤ 9223372036854775807)) (n.natAbs) ⟨0, n, _, _, _, _, _, _, rfl, (Env.b (Env.i (Env.b (Env.i (Env.ww (Env.nil _) (E.2.2.2.2.1)) (E.2.2.2.1)) (E.2.2.1)) (E.2.1)) (E.1)), rfl, ⟨Nat.zero_add _, hn1, hn2⟩⟩ ?_
  rintro m13 _ w13 ⟨i, k, g55, g56, g57, g58, g59, g60, rfl, E, hm13, hI13⟩
  obtain ⟨hI1, hI2, hI3⟩ := hI13
  by_cases hk0 : k = 0
  case pos =>
   refine wp_seq ?_
   refine wp_seq ?_
   -- region 16
   refine wp_region_lit ?_
   refine LV (v := .int .i64 k) rfl (run_move rfl rfl) ?_
   simp only [Act.put,q1,q2,q3]
   refine LV (v := .bool false) rfl (run_neI (c := false) rfl rfl rfl (bne_f' hk0)) ?_
   simp only [Act.put,q1,q2,q3]
   refine wpList_nil ?_
   change Code.wp _ _ _ _ _
   refine wp_cond_false rfl ?_
   refine wp_exit ?_
   change Code.wp _ _ _ _ _
   refine wp_seq ?_
   -- region 19
   refine wp_region_lit ?_
   refine LV (v := .int .i64 n) rfl (run_move rfl rfl) ?_
   simp only [Act.put,q1,q2,q3]
   refine LV (v := .int .i64 (n.tmod 1000000007)) rfl (run_remI rfl rfl rfl (by decide) rfl) ?_
   simp only [Act.put,q1,q2,q3]
   refine L1 rfl (Oper.wp_callI fn_integer_Of rfl (Of_z (n.tmod 1000000007) _ (tm_lo n) (tm_hi n)) rfl E ?_)
   clear E
   intro w15 n15 s15 d15 E
   clear d15
   simp only [Act.put,q1,q2,q3]
   have F14 : Fits (n.tmod 1000000007) 2 := Fits_i64 (tm_lo n) (tm_hi n)
   refine LV (v := .int .i64 m) rfl (run_move rfl rfl) ?_
   simp only [Act.put,q1,q2,q3]
   refine LV (v := .int .i64 (m.tmod 1000000007)) rfl (run_remI rfl rfl rfl (by decide) rfl) ?_
   simp only [Act.put,q1,q2,q3]
   refine L1 rfl (Oper.wp_callI fn_integer_Of rfl (Of_z (m.tmod 1000000007) _ (tm_lo m) (tm_hi m)) rfl E ?_)
   clear E
   intro w17 n17 s17 d17 E
   clear d17
   simp only [Act.put,q1,q2,q3]
   have F16 : Fits (m.tmod 1000000007) 2 := Fits_i64 (tm_lo m) (tm_hi m)
   refine L1 rfl (Oper.wp_callI fn_integer_Mul rfl (Mul_z _ _ (n.tmod 1000000007) (m.tmod 1000000007) _ (E.2.1) (E.1) (Fits.mono F14 (by decide)) (Fits.mono F16 (by decide))) rfl E ?_)
   clear E
   intro w19 n19 s19 d19 E
   clear d19
   simp only [Act.put,q1,q2,q3]
   have F18 : Fits ((n.tmod 1000000007) * (m.tmod 1000000007)) 4 := Fits_mul F14 F16
   refine L1 rfl (Oper.wp_callSm fn_integer_Small rfl (Small_ok _ ((n.tmod 1000000007) * (m.tmod 1000000007)) _ (E.1) (pr_lo n m) (pr_hi n m)) rfl E ?_)
   clear E
   intro w20 d20 E
   clear d20
   simp only [Act.put,q1,q2,q3]
   refine LV (v := .tuple #[.int .i64 ((n.tmod 1000000007) * (m.tmod 1000000007)), .bool true]) rfl (run_move rfl rfl) ?_
   simp only [Act.put,q1,q2,q3]
   refine LV (v := .int .i64 ((n.tmod 1000000007) * (m.tmod 1000000007))) rfl (run_extract (vs := [.int .i64 ((n.tmod 1000000007) * (m.tmod 1000000007)), .bool true]) rfl rfl rfl) ?_
   simp only [Act.put,q1,q2,q3]
   refine LV (v := .bool true) rfl (run_extract (vs := [.int .i64 ((n.tmod 1000000007) * (m.tmod 1000000007)), .bool true]) rfl rfl rfl) ?_
   simp only [Act.put,q1,q2,q3]
   refine LV (v := .int .i64 ((n.tmod 1000000007) * (m.tmod 1000000007))) rfl (run_assign rfl rfl) ?_
   simp only [Act.put,q1,q2,q3]
   refine LV (v := .bool true) rfl (run_assign rfl rfl) ?_
   simp only [Act.put,q1,q2,q3]
   refine wpList_nil ?_
   change Code.wp _ _ _ _ _
   refine wp_seq ?_
   -- region 20
   refine wp_region_lit ?_
   refine LV (v := .int .i64 n) rfl (run_move rfl rfl) ?_
   simp only [Act.put,q1,q2,q3]
   refine LV (v := .int .i64 (n.tdiv 2)) rfl (run_quoI rfl rfl rfl (by decide) (td_wrap hn1 hn2)) ?_
   simp only [Act.put,q1,q2,q3]
   refine L1 rfl (Oper.wp_callI fn_integer_Of rfl (Of_z (n.tdiv 2) _ (td_lo hn1 hn2) (td_hi hn1 hn2)) rfl E ?_)
   clear E
   intro w22 n22 s22 d22 E
   clear d22
   simp only [Act.put,q1,q2,q3]
   have F21 : Fits (n.tdiv 2) 2 := Fits_i64 (td_lo hn1 hn2) (td_hi hn1 hn2)
   refine LV (v := .int .i64 m) rfl (run_move rfl rfl) ?_
   simp only [Act.put,q1,q2,q3]
   refine LV (v := .int .i64 (m.tdiv 2)) rfl (run_quoI rfl rfl rfl (by decide) (td_wrap hm1 hm2)) ?_
   simp only [Act.put,q1,q2,q3]
   refine L1 rfl (Oper.wp_callI fn_integer_Of rfl (Of_z (m.tdiv 2) _ (td_lo hm1 hm2) (td_hi hm1 hm2)) rfl E ?_)
   clear E
   intro w24 n24 s24 d24 E
   clear d24
   simp only [Act.put,q1,q2,q3]
   have F23 : Fits (m.tdiv 2) 2 := Fits_i64 (td_lo hm1 hm2) (td_hi hm1 hm2)
   refine L1 rfl (Oper.wp_callI fn_integer_Add rfl (Add_z _ _ (n.tdiv 2) (m.tdiv 2) _ (E.2.1) (E.1) (Fits.mono F21 (by decide)) (Fits.mono F23 (by decide))) rfl E ?_)
   clear E
   intro w26 n26 s26 d26 E
   clear d26
   simp only [Act.put,q1,q2,q3]
   have F25 : Fits ((n.tdiv 2) + (m.tdiv 2)) 3 := Fits_add F21 F23 (k := 2) (by decide) (by decide)
   refine L1 rfl (Oper.wp_callSm fn_integer_Small rfl (Small_ok _ ((n.tdiv 2) + (m.tdiv 2)) _ (E.1) (su_lo hn1 hn2 hm1 hm2) (su_hi hn1 hn2 hm1 hm2)) rfl E ?_)
   clear E
   intro w27 d27 E
   clear d27
   simp only [Act.put,q1,q2,q3]
   refine LV (v := .tuple #[.int .i64 ((n.tdiv 2) + (m.tdiv 2)), .bool true]) rfl (run_move rfl rfl) ?_
   simp only [Act.put,q1,q2,q3]
   refine LV (v := .int .i64 ((n.tdiv 2) + (m.tdiv 2))) rfl (run_extract (vs := [.int .i64 ((n.tdiv 2) + (m.tdiv 2)), .bool true]) rfl rfl rfl) ?_
   simp only [Act.put,q1,q2,q3]
   refine LV (v := .bool true) rfl (run_extract (vs := [.int .i64 ((n.tdiv 2) + (m.tdiv 2)), .bool true]) rfl rfl rfl) ?_
   simp only [Act.put,q1,q2,q3]
   refine LV (v := .int .i64 ((n.tdiv 2) + (m.tdiv 2))) rfl (run_assign rfl rfl) ?_
   simp only [Act.put,q1,q2,q3]
   refine LV (v := .bool true) rfl (run_assign rfl rfl) ?_
   simp only [Act.put,q1,q2,q3]
   refine wpList_nil ?_
   change Code.wp _ _ _ _ _
   refine wp_seq ?_
   -- region 21
   refine wp_region_lit ?_
   refine LV (v := .bool true) rfl (run_move rfl rfl) ?_
   simp only [Act.put,q1,q2,q3]
   refine LV (v := .bool true) rfl (run_move rfl rfl) ?_
   simp only [Act.put,q1,q2,q3]
   refine LV (v := .agg #[.bool n3, s3]) rfl (run_load_bx AgI rfl rfl (E.2.2.2.2.2.2.2.2.1) rfl) ?_
   simp only [Act.put,q1,q2,q3]
   refine L1 rfl (Oper.wp_callN fn_integer_Bits rfl (Bits_z _ n _ (E.2.2.2.2.2.2.2.2.2.1) (Fits.mono F2 (by decide))) rfl E ?_)
   clear E
   intro w28 d28 E
   clear d28
   simp only [Act.put,q1,q2,q3]
   refine LV (v := .int .i64 ((i : Nat) : Int)) rfl (run_move rfl rfl) ?_
   simp only [Act.put,q1,q2,q3]
   refine LV (v := .bool true) rfl (run_eqI (c := true) rfl rfl rfl (bits_end hk0 hI1)) ?_
   simp only [Act.put,q1,q2,q3]
   refine LV (v := .bool true) rfl (run_pick (b := true) rfl rfl rfl) ?_
   simp only [Act.put,q1,q2,q3]
   refine LV (v := .bool true) rfl (run_move rfl rfl) ?_
   simp only [Act.put,q1,q2,q3]
   refine LV (v := .bool true) rfl (run_move rfl rfl) ?_
   simp only [Act.put,q1,q2,q3]
   refine LV (v := .bool true) rfl (run_pick (b := true) rfl rfl rfl) ?_
   simp only [Act.put,q1,q2,q3]
   refine LV (v := .bool true) rfl (run_move rfl rfl) ?_
   simp only [Act.put,q1,q2,q3]
   refine LV (v := .int .i64 ((n.tmod 1000000007) * (m.tmod 1000000007))) rfl (run_move rfl rfl) ?_
   simp only [Act.put,q1,q2,q3]
   refine LV (v := .int .i64 n) rfl (run_move rfl rfl) ?_
   simp only [Act.put,q1,q2,q3]
   refine LV (v := .int .i64 (n.tmod 1000000007)) rfl (run_remI rfl rfl rfl (by decide) rfl) ?_
   simp only [Act.put,q1,q2,q3]
   refine LV (v := .int .i64 m) rfl (run_move rfl rfl) ?_
   simp only [Act.put,q1,q2,q3]
   refine LV (v := .int .i64 (m.tmod 1000000007)) rfl (run_remI rfl rfl rfl (by decide) rfl) ?_
   simp only [Act.put,q1,q2,q3]
   refine LV (v := .int .i64 ((n.tmod 1000000007) * (m.tmod 1000000007))) rfl (run_mulI rfl rfl rfl (wrap_in (pr_lo n m) (pr_hi n m))) ?_
   simp only [Act.put,q1,q2,q3]
   refine LV (v := .bool true) rfl (run_eqI (c := true) rfl rfl rfl (beq_self_eq_true _)) ?_
   simp only [Act.put,q1,q2,q3]
   refine LV (v := .bool true) rfl (run_pick (b := true) rfl rfl rfl) ?_
   simp only [Act.put,q1,q2,q3]
   refine LV (v := .bool true) rfl (run_move rfl rfl) ?_
   simp only [Act.put,q1,q2,q3]
   refine LV (v := .bool true) rfl (run_move rfl rfl) ?_
   simp only [Act.put,q1,q2,q3]
   refine LV (v := .bool true) rfl (run_pick (b := true) rfl rfl rfl) ?_
   simp only [Act.put,q1,q2,q3]
   refine LV (v := .bool true) rfl (run_move rfl rfl) ?_
   simp only [Act.put,q1,q2,q3]
   refine LV (v := .int .i64 ((n.tdiv 2) + (m.tdiv 2))) rfl (run_move rfl rfl) ?_
   simp only [Act.put,q1,q2,q3]
   refine LV (v := .int .i64 n) rfl (run_move rfl rfl) ?_
   simp only [Act.put,q1,q2,q3]
   refine LV (v := .int .i64 (n.tdiv 2)) rfl (run_quoI rfl rfl rfl (by decide) (td_wrap hn1 hn2)) ?_
   simp only [Act.put,q1,q2,q3]
   refine LV (v := .int .i64 m) rfl (run_move rfl rfl) ?_
   simp only [Act.put,q1,q2,q3]
   refine LV (v := .int .i64 (m.tdiv 2)) rfl (run_quoI rfl rfl rfl (by decide) (td_wrap hm1 hm2)) ?_
   simp only [Act.put,q1,q2,q3]
   refine LV (v := .int .i64 ((n.tdiv 2) + (m.tdiv 2))) rfl (run_addI rfl rfl rfl (wrap_in (su_lo hn1 hn2 hm1 hm2) (su_hi hn1 hn2 hm1 hm2))) ?_
   simp only [Act.put,q1,q2,q3]
   refine LV (v := .bool true) rfl (run_eqI (c := true) rfl rfl rfl (beq_self_eq_true _)) ?_
   simp only [Act.put,q1,q2,q3]
   refine LV (v := .bool true) rfl (run_pick (b := true) rfl rfl rfl) ?_
   simp only [Act.put,q1,q2,q3]
   refine LV (v := .bool true) rfl (run_assign rfl rfl) ?_
   simp only [Act.put,q1,q2,q3]
   refine wpList_nil ?_
   change Code.wp _ _ _ _ _
   refine wp_ret ?_
   exact bodyPost_ret (v := .bool true) (by simp [results, Try.results10, asAddr]) rfl ⟨rfl, E.2.2.2.2.2.2.2.2.2.2.1⟩
  case neg =>
   have hbh := bits_half hk0
   have hkh := half_lt hk0
   refine wp_seq ?_
   refine wp_seq ?_
   -- region 16
   refine wp_region_lit ?_
   refine LV (v := .int .i64 k) rfl (run_move rfl rfl) ?_
   simp only [Act.put,q1,q2,q3]
   refine LV (v := .bool true) rfl (run_neI (c := true) rfl rfl rfl (by rw [bne_iff_ne]; exact hk0)) ?_
   simp only [Act.put,q1,q2,q3]
   refine wpList_nil ?_
   change Code.wp _ _ _ _ _
   refine wp_cond_true rfl ?_
   refine wp_skip ?_
   change Code.wp _ _ _ _ _
   refine wp_seq ?_
   refine wp_block ?_
   -- region 18
   refine wp_region_lit ?_
   refine LV (v := .int .i64 ((i : Nat) : Int)) rfl (run_move rfl rfl) ?_
   simp only [Act.put,q1,q2,q3]
   refine LV (v := .int .i64 ((i + 1 : Nat) : Int)) rfl (run_addI rfl rfl rfl (wrap_i64_nat (by omega) (by omega))) ?_
   simp only [Act.put,q1,q2,q3]
   refine LV (v := .int .i64 ((i + 1 : Nat) : Int)) rfl (run_assign rfl rfl) ?_
   simp only [Act.put,q1,q2,q3]
   refine wpList_nil ?_
   change Code.wp _ _ _ _ _
   -- region 17
   refine wp_region_lit ?_
   refine LV (v := .int .i64 k) rfl (run_move rfl rfl) ?_
   simp only [Act.put,q1,q2,q3]
   refine LV (v := .int .i64 (k.tdiv 2)) rfl (run_quoI rfl rfl rfl (by decide) (td_wrap hI2 hI3)) ?_
   simp only [Act.put,q1,q2,q3]
   refine LV (v := .int .i64 (k.tdiv 2)) rfl (run_assign rfl rfl) ?_
   simp only [Act.put,q1,q2,q3]
   refine wpList_nil ?_
   exact ⟨_, (by rw [hm13]; exact hkh), i + 1, k.tdiv 2, _, _, _, _, _, _, rfl, (Env.b (Env.i (Env.b (Env.i (Env.ww (Env.nil _) (E.2.2.2.2.1)) (E.2.2.2.1)) (E.2.2.1)) (E.2.1)) (E.1)), rfl, ⟨by omega, td_lo hI2 hI3, td_hi hI2 hI3⟩⟩
 case neg =>
  by_cases hgt : m < n
  case pos =>
   -- region 8
   refine wp_region_lit ?_
   refine LV (v := .int .i64 n) rfl (run_move rfl rfl) ?_
   simp only [Act.put,q1,q2,q3]
   refine LV (v := .int .i64 m) rfl (run_move rfl rfl) ?_
   simp only [Act.put,q1,q2,q3]
   refine LV (v := .bool false) rfl (run_ltI (c := false) rfl rfl rfl (decide_eq_false hlt)) ?_
   simp only [Act.put,q1,q2,q3]
   refine wpList_nil ?_
   change Code.wp _ _ _ _ _
   refine wp_cond_false rfl ?_
   refine wp_skip ?_
   change Code.wp _ _ _ _ _
   refine wp_seq ?_
   refine wp_seq ?_
   -- region 10
   refine wp_region_lit ?_
   refine LV (v := .int .i64 n) rfl (run_move rfl rfl) ?_
   simp only [Act.put,q1,q2,q3]
   refine LV (v := .int .i64 m) rfl (run_move rfl rfl) ?_
   simp only [Act.put,q1,q2,q3]
   refine LV (v := .bool true) rfl (run_gtI (c := true) rfl rfl rfl (by rw [decide_eq_true_eq]; omega)) ?_
   simp only [Act.put,q1,q2,q3]
   refine wpList_nil ?_
   change Code.wp _ _ _ _ _
   refine wp_cond_true rfl ?_
   -- region 11
   refine wp_region_lit ?_
   refine LV (v := .int .i64 1) rfl (run_assign rfl rfl) ?_
   simp only [Act.put,q1,q2,q3]
   refine wpList_nil ?_
   change Code.wp _ _ _ _ _
   refine wp_seq ?_
   refine wp_seq ?_
   -- region 12
   refine wp_region_lit ?_
   refine LV (v := .bool true) rfl (run_move rfl rfl) ?_
   simp only [Act.put,q1,q2,q3]
   refine LV (v := .bool false) rfl (run_not (b := true) rfl rfl) ?_
   simp only [Act.put,q1,q2,q3]
   refine LV (v := .bool false) rfl (run_move rfl rfl) ?_
   simp only [Act.put,q1,q2,q3]
   refine LV (v := .int .i64 n) rfl (run_move rfl rfl) ?_
   simp only [Act.put,q1,q2,q3]
   refine LV (v := .int .i64 n) rfl (run_move rfl rfl) ?_
   simp only [Act.put,q1,q2,q3]
   refine LV (v := .bool false) rfl (run_neI (c := false) rfl rfl rfl (bne_f' rfl)) ?_
   simp only [Act.put,q1,q2,q3]
   refine LV (v := .bool false) rfl (run_pick (b := false) rfl rfl rfl) ?_
   simp only [Act.put,q1,q2,q3]
   refine LV (v := .bool false) rfl (run_move rfl rfl) ?_
   simp only [Act.put,q1,q2,q3]
   refine LV (v := .agg #[.bool n3, s3]) rfl (run_load_bx AgI rfl rfl (E.2.2.1) rfl) ?_
   simp only [Act.put,q1,q2,q3]
   refine L1 rfl (Oper.wp_callB fn_integer_Valid rfl (Valid_z _ n _ (E.2.2.2.1)) rfl E ?_)
   clear E
   intro w29 d29 E
   clear d29
   simp only [Act.put,q1,q2,q3]
   refine LV (v := .bool false) rfl (run_not (b := true) rfl rfl) ?_
   simp only [Act.put,q1,q2,q3]
   refine LV (v := .bool false) rfl (run_pick (b := false) rfl rfl rfl) ?_
   simp only [Act.put,q1,q2,q3]
   refine LV (v := .bool false) rfl (run_move rfl rfl) ?_
   simp only [Act.put,q1,q2,q3]
   refine LV (v := .agg #[.bool n3, s3]) rfl (run_load_bx AgI rfl rfl (E.2.2.1) rfl) ?_
   simp only [Act.put,q1,q2,q3]
   refine LV (v := .agg #[.bool n7, s7]) rfl (run_load_bx AgI rfl rfl (E.1) rfl) ?_
   simp only [Act.put,q1,q2,q3]
   refine L1 rfl (Oper.wp_callN fn_integer_Cmp rfl (Cmp_z _ _ n m _ (E.2.2.2.1) (E.2.1)) rfl E ?_)
   clear E
   intro w30 d30 E
   clear d30
   simp only [Act.put,q1,q2,q3]
   refine LV (v := .int .i64 1) rfl (run_move rfl rfl) ?_
   simp only [Act.put,q1,q2,q3]
   refine LV (v := .bool false) rfl (run_neI (c := false) rfl rfl rfl (bne_f' (cmpI_gt hgt))) ?_
   simp only [Act.put,q1,q2,q3]
   refine LV (v := .bool false) rfl (run_pick (b := false) rfl rfl rfl) ?_
   simp only [Act.put,q1,q2,q3]
   refine wpList_nil ?_
   change Code.wp _ _ _ _ _
   refine wp_cond_false rfl ?_
   refine wp_skip ?_
   change Code.wp _ _ _ _ _
   refine wp_seq ?_
   -- region 14
   refine wp_region_lit ?_
   refine LV (v := .int .i64 0) rfl (run_assign rfl rfl) ?_
   simp only [Act.put,q1,q2,q3]
   refine wpList_nil ?_
   change Code.wp _ _ _ _ _
   refine wp_seq ?_
   refine wp_seq ?_
   -- region 15
   refine wp_region_lit ?_
   refine LV (v := .int .i64 n) rfl (run_move rfl rfl) ?_
   simp only [Act.put,q1,q2,q3]
   refine LV (v := .int .i64 n) rfl (run_assign rfl rfl) ?_
   simp only [Act.put,q1,q2,q3]
   refine wpList_nil ?_
   change Code.wp _ _ _ _ _
   refine wp_block ?_
   refine wp_loop_ghost (fun mz a w' => ∃ (i : Nat) (k : Int) (g55 g56 g57 g58 g59 g60 : Value), a = ⟨#[.int .i64 n, .int .i64 m, undef, undef, .bool false, .bool true, .pointer (some ⟨b4, 0, none⟩), .pointer (some ⟨b8, 0, none⟩), .int .i64 n, .bool true, .int .i64 1, .int .i64 ((i : Nat) : Int), .int .i64 k, undef, undef, undef, undef, .bool true, .bool true, .bool false, .int .i64 n, .agg #[.bool n3, s3], .int .i64 m, .agg #[.bool n7, s7], .tuple #[.int .i64 n, .bool true], .agg #[.bool n3, s3], .tuple #[.int .i64 n, .bool true], .int .i64 n, .bool true, .int .i64 n, .int .i64 m, .bool false, .int .i64 n, .int .i64 m, .bool true, .bool true, .bool false, .bool false, .int .i64 n, .int .i64 n, .bool false, .bool false, .bool false, .agg #[.bool n3, s3], .bool true, .bool false, .bool false, .bool false, .agg #[.bool n3, s3], .agg #[.bool n7, s7], .int .i64 (cmpI n m), .int .i64 1, .bool false, .bool false, .int .i64 n, g55, g56, g57, g58, g59, g60, undef, undef, undef, undef, undef, undef, undef, undef, undef, undef, undef, undef, undef, undef, undef, undef, undef, undef, undef, undef, undef, undef, undef, undef, undef, undef, undef, undef, undef, undef, undef, undef, undef, undef, undef, undef, undef, undef, undef, undef, undef, undef, undef, undef, undef, undef, undef, undef, undef, undef, undef, undef, undef], []⟩ ∧ Env w' [fB b8 n7 s7, fI (.agg #[.bool n7, s7]) m, fB b4 n3 s3, fI (.agg #[.bool n3, s3]) n, fW w] ∧ mz = k.natAbs ∧ (i + bitsN k.natAbs = bitsN n.natAbs ∧ -9223372036854775808 ≤ k ∧ k ≤ 9223372036854775807)) (n.natAbs) ⟨0, n, _, _, _, _, _, _, rfl, (Env.b (Env.i (Env.b (Env.i (Env.ww (Env.nil _) (E.2.2.2.2.1)) (E.2.2.2.1)) (E.2.2.1)) (E.2.1)) (E.1)), rfl, ⟨Nat.zero_add _, hn1, hn2⟩⟩ ?_
   rintro m31 _ w31 ⟨i, k, g55, g56, g57, g58, g59, g60, rfl, E, hm31, hI31⟩
   obtain ⟨hI1, hI2, hI3⟩ := hI31
   by_cases hk0 : k = 0
   case pos =>
    refine wp_seq ?_
    refine wp_seq ?_
    -- region 16
    refine wp_region_lit ?_
    refine LV (v := .int .i64 k) rfl (run_move rfl rfl) ?_
    simp only [Act.put,q1,q2,q3]
    refine LV (v := .bool false) rfl (run_neI (c := false) rfl rfl rfl (bne_f' hk0)) ?_
    simp only [Act.put,q1,q2,q3]
    refine wpList_nil ?_
    change Code.wp _ _ _ _ _
    refine wp_cond_false rfl ?_
    refine wp_exit ?_
    change Code.wp _ _ _ _ _
    refine wp_seq ?_
    -- region 19
    refine wp_region_lit ?_
    refine LV (v := .int .i64 n) rfl (run_move rfl rfl) ?_
    simp only [Act.put,q1,q2,q3]
    refine LV (v := .int .i64 (n.tmod 1000000007)) rfl (run_remI rfl rfl rfl (by decide) rfl) ?_
    simp only [Act.put,q1,q2,q3]
    refine L1 rfl (Oper.wp_callI fn_integer_Of rfl (Of_z (n.tmod 1000000007) _ (tm_lo n) (tm_hi n)) rfl E ?_)
    clear E
    intro w33 n33 s33 d33 E
    clear d33
    simp only [Act.put,q1,q2,q3]
    have F32 : Fits (n.tmod 1000000007) 2 := Fits_i64 (tm_lo n) (tm_hi n)
    refine LV (v := .int .i64 m) rfl (run_move rfl rfl) ?_
    simp only [Act.put,q1,q2,q3]
    refine LV (v := .int .i64 (m.tmod 1000000007)) rfl (run_remI rfl rfl rfl (by decide) rfl) ?_
    simp only [Act.put,q1,q2,q3]
    refine L1 rfl (Oper.wp_callI fn_integer_Of rfl (Of_z (m.tmod 1000000007) _ (tm_lo m) (tm_hi m)) rfl E ?_)
    clear E
    intro w35 n35 s35 d35 E
    clear d35
    simp only [Act.put,q1,q2,q3]
    have F34 : Fits (m.tmod 1000000007) 2 := Fits_i64 (tm_lo m) (tm_hi m)
    refine L1 rfl (Oper.wp_callI fn_integer_Mul rfl (Mul_z _ _ (n.tmod 1000000007) (m.tmod 1000000007) _ (E.2.1) (E.1) (Fits.mono F32 (by decide)) (Fits.mono F34 (by decide))) rfl E ?_)
    clear E
    intro w37 n37 s37 d37 E
    clear d37
    simp only [Act.put,q1,q2,q3]
    have F36 : Fits ((n.tmod 1000000007) * (m.tmod 1000000007)) 4 := Fits_mul F32 F34
    refine L1 rfl (Oper.wp_callSm fn_integer_Small rfl (Small_ok _ ((n.tmod 1000000007) * (m.tmod 1000000007)) _ (E.1) (pr_lo n m) (pr_hi n m)) rfl E ?_)
    clear E
    intro w38 d38 E
    clear d38
    simp only [Act.put,q1,q2,q3]
    refine LV (v := .tuple #[.int .i64 ((n.tmod 1000000007) * (m.tmod 1000000007)), .bool true]) rfl (run_move rfl rfl) ?_
    simp only [Act.put,q1,q2,q3]
    refine LV (v := .int .i64 ((n.tmod 1000000007) * (m.tmod 1000000007))) rfl (run_extract (vs := [.int .i64 ((n.tmod 1000000007) * (m.tmod 1000000007)), .bool true]) rfl rfl rfl) ?_
    simp only [Act.put,q1,q2,q3]
    refine LV (v := .bool true) rfl (run_extract (vs := [.int .i64 ((n.tmod 1000000007) * (m.tmod 1000000007)), .bool true]) rfl rfl rfl) ?_
    simp only [Act.put,q1,q2,q3]
    refine LV (v := .int .i64 ((n.tmod 1000000007) * (m.tmod 1000000007))) rfl (run_assign rfl rfl) ?_
    simp only [Act.put,q1,q2,q3]
    refine LV (v := .bool true) rfl (run_assign rfl rfl) ?_
    simp only [Act.put,q1,q2,q3]
    refine wpList_nil ?_
    change Code.wp _ _ _ _ _
    refine wp_seq ?_
    -- region 20
    refine wp_region_lit ?_
    refine LV (v := .int .i64 n) rfl (run_move rfl rfl) ?_
    simp only [Act.put,q1,q2,q3]
    refine LV (v := .int .i64 (n.tdiv 2)) rfl (run_quoI rfl rfl rfl (by decide) (td_wrap hn1 hn2)) ?_
    simp only [Act.put,q1,q2,q3]
    refine L1 rfl (Oper.wp_callI fn_integer_Of rfl (Of_z (n.tdiv 2) _ (td_lo hn1 hn2) (td_hi hn1 hn2)) rfl E ?_)
    clear E
    intro w40 n40 s40 d40 E
    clear d40
    simp only [Act.put,q1,q2,q3]
    have F39 : Fits (n.tdiv 2) 2 := Fits_i64 (td_lo hn1 hn2) (td_hi hn1 hn2)
    refine LV (v := .int .i64 m) rfl (run_move rfl rfl) ?_
    simp only [Act.put,q1,q2,q3]
    refine LV (v := .int .i64 (m.tdiv 2)) rfl (run_quoI rfl rfl rfl (by decide) (td_wrap hm1 hm2)) ?_
    simp only [Act.put,q1,q2,q3]
    refine L1 rfl (Oper.wp_callI fn_integer_Of rfl (Of_z (m.tdiv 2) _ (td_lo hm1 hm2) (td_hi hm1 hm2)) rfl E ?_)
    clear E
    intro w42 n42 s42 d42 E
    clear d42
    simp only [Act.put,q1,q2,q3]
    have F41 : Fits (m.tdiv 2) 2 := Fits_i64 (td_lo hm1 hm2) (td_hi hm1 hm2)
    refine L1 rfl (Oper.wp_callI fn_integer_Add rfl (Add_z _ _ (n.tdiv 2) (m.tdiv 2) _ (E.2.1) (E.1) (Fits.mono F39 (by decide)) (Fits.mono F41 (by decide))) rfl E ?_)
    clear E
    intro w44 n44 s44 d44 E
    clear d44
    simp only [Act.put,q1,q2,q3]
    have F43 : Fits ((n.tdiv 2) + (m.tdiv 2)) 3 := Fits_add F39 F41 (k := 2) (by decide) (by decide)
    refine L1 rfl (Oper.wp_callSm fn_integer_Small rfl (Small_ok _ ((n.tdiv 2) + (m.tdiv 2)) _ (E.1) (su_lo hn1 hn2 hm1 hm2) (su_hi hn1 hn2 hm1 hm2)) rfl E ?_)
    clear E
    intro w45 d45 E
    clear d45
    simp only [Act.put,q1,q2,q3]
    refine LV (v := .tuple #[.int .i64 ((n.tdiv 2) + (m.tdiv 2)), .bool true]) rfl (run_move rfl rfl) ?_
    simp only [Act.put,q1,q2,q3]
    refine LV (v := .int .i64 ((n.tdiv 2) + (m.tdiv 2))) rfl (run_extract (vs := [.int .i64 ((n.tdiv 2) + (m.tdiv 2)), .bool true]) rfl rfl rfl) ?_
    simp only [Act.put,q1,q2,q3]
    refine LV (v := .bool true) rfl (run_extract (vs := [.int .i64 ((n.tdiv 2) + (m.tdiv 2)), .bool true]) rfl rfl rfl) ?_
    simp only [Act.put,q1,q2,q3]
    refine LV (v := .int .i64 ((n.tdiv 2) + (m.tdiv 2))) rfl (run_assign rfl rfl) ?_
    simp only [Act.put,q1,q2,q3]
    refine LV (v := .bool true) rfl (run_assign rfl rfl) ?_
    simp only [Act.put,q1,q2,q3]
    refine wpList_nil ?_
    change Code.wp _ _ _ _ _
    refine wp_seq ?_
    -- region 21
    refine wp_region_lit ?_
    refine LV (v := .bool true) rfl (run_move rfl rfl) ?_
    simp only [Act.put,q1,q2,q3]
    refine LV (v := .bool true) rfl (run_move rfl rfl) ?_
    simp only [Act.put,q1,q2,q3]
    refine LV (v := .agg #[.bool n3, s3]) rfl (run_load_bx AgI rfl rfl (E.2.2.2.2.2.2.2.2.1) rfl) ?_
    simp only [Act.put,q1,q2,q3]
    refine L1 rfl (Oper.wp_callN fn_integer_Bits rfl (Bits_z _ n _ (E.2.2.2.2.2.2.2.2.2.1) (Fits.mono F2 (by decide))) rfl E ?_)
    clear E
    intro w46 d46 E
    clear d46
    simp only [Act.put,q1,q2,q3]
    refine LV (v := .int .i64 ((i : Nat) : Int)) rfl (run_move rfl rfl) ?_
    simp only [Act.put,q1,q2,q3]
    refine LV (v := .bool true) rfl (run_eqI (c := true) rfl rfl rfl (bits_end hk0 hI1)) ?_
    simp only [Act.put,q1,q2,q3]
    refine LV (v := .bool true) rfl (run_pick (b := true) rfl rfl rfl) ?_
    simp only [Act.put,q1,q2,q3]
    refine LV (v := .bool true) rfl (run_move rfl rfl) ?_
    simp only [Act.put,q1,q2,q3]
    refine LV (v := .bool true) rfl (run_move rfl rfl) ?_
    simp only [Act.put,q1,q2,q3]
    refine LV (v := .bool true) rfl (run_pick (b := true) rfl rfl rfl) ?_
    simp only [Act.put,q1,q2,q3]
    refine LV (v := .bool true) rfl (run_move rfl rfl) ?_
    simp only [Act.put,q1,q2,q3]
    refine LV (v := .int .i64 ((n.tmod 1000000007) * (m.tmod 1000000007))) rfl (run_move rfl rfl) ?_
    simp only [Act.put,q1,q2,q3]
    refine LV (v := .int .i64 n) rfl (run_move rfl rfl) ?_
    simp only [Act.put,q1,q2,q3]
    refine LV (v := .int .i64 (n.tmod 1000000007)) rfl (run_remI rfl rfl rfl (by decide) rfl) ?_
    simp only [Act.put,q1,q2,q3]
    refine LV (v := .int .i64 m) rfl (run_move rfl rfl) ?_
    simp only [Act.put,q1,q2,q3]
    refine LV (v := .int .i64 (m.tmod 1000000007)) rfl (run_remI rfl rfl rfl (by decide) rfl) ?_
    simp only [Act.put,q1,q2,q3]
    refine LV (v := .int .i64 ((n.tmod 1000000007) * (m.tmod 1000000007))) rfl (run_mulI rfl rfl rfl (wrap_in (pr_lo n m) (pr_hi n m))) ?_
    simp only [Act.put,q1,q2,q3]
    refine LV (v := .bool true) rfl (run_eqI (c := true) rfl rfl rfl (beq_self_eq_true _)) ?_
    simp only [Act.put,q1,q2,q3]
    refine LV (v := .bool true) rfl (run_pick (b := true) rfl rfl rfl) ?_
    simp only [Act.put,q1,q2,q3]
    refine LV (v := .bool true) rfl (run_move rfl rfl) ?_
    simp only [Act.put,q1,q2,q3]
    refine LV (v := .bool true) rfl (run_move rfl rfl) ?_
    simp only [Act.put,q1,q2,q3]
    refine LV (v := .bool true) rfl (run_pick (b := true) rfl rfl rfl) ?_
    simp only [Act.put,q1,q2,q3]
    refine LV (v := .bool true) rfl (run_move rfl rfl) ?_
    simp only [Act.put,q1,q2,q3]
    refine LV (v := .int .i64 ((n.tdiv 2) + (m.tdiv 2))) rfl (run_move rfl rfl) ?_
    simp only [Act.put,q1,q2,q3]
    refine LV (v := .int .i64 n) rfl (run_move rfl rfl) ?_
    simp only [Act.put,q1,q2,q3]
    refine LV (v := .int .i64 (n.tdiv 2)) rfl (run_quoI rfl rfl rfl (by decide) (td_wrap hn1 hn2)) ?_
    simp only [Act.put,q1,q2,q3]
    refine LV (v := .int .i64 m) rfl (run_move rfl rfl) ?_
    simp only [Act.put,q1,q2,q3]
    refine LV (v := .int .i64 (m.tdiv 2)) rfl (run_quoI rfl rfl rfl (by decide) (td_wrap hm1 hm2)) ?_
    simp only [Act.put,q1,q2,q3]
    refine LV (v := .int .i64 ((n.tdiv 2) + (m.tdiv 2))) rfl (run_addI rfl rfl rfl (wrap_in (su_lo hn1 hn2 hm1 hm2) (su_hi hn1 hn2 hm1 hm2))) ?_
    simp only [Act.put,q1,q2,q3]
    refine LV (v := .bool true) rfl (run_eqI (c := true) rfl rfl rfl (beq_self_eq_true _)) ?_
    simp only [Act.put,q1,q2,q3]
    refine LV (v := .bool true) rfl (run_pick (b := true) rfl rfl rfl) ?_
    simp only [Act.put,q1,q2,q3]
    refine LV (v := .bool true) rfl (run_assign rfl rfl) ?_
    simp only [Act.put,q1,q2,q3]
    refine wpList_nil ?_
    change Code.wp _ _ _ _ _
    refine wp_ret ?_
    exact bodyPost_ret (v := .bool true) (by simp [results, Try.results10, asAddr]) rfl ⟨rfl, E.2.2.2.2.2.2.2.2.2.2.1⟩
   case neg =>
    have hbh := bits_half hk0
    have hkh := half_lt hk0
    refine wp_seq ?_
    refine wp_seq ?_
    -- region 16
    refine wp_region_lit ?_
    refine LV (v := .int .i64 k) rfl (run_move rfl rfl) ?_
    simp only [Act.put,q1,q2,q3]
    refine LV (v := .bool true) rfl (run_neI (c := true) rfl rfl rfl (by rw [bne_iff_ne]; exact hk0)) ?_
    simp only [Act.put,q1,q2,q3]
    refine wpList_nil ?_
    change Code.wp _ _ _ _ _
    refine wp_cond_true rfl ?_
    refine wp_skip ?_
    change Code.wp _ _ _ _ _
    refine wp_seq ?_
    refine wp_block ?_
    -- region 18
    refine wp_region_lit ?_
    refine LV (v := .int .i64 ((i : Nat) : Int)) rfl (run_move rfl rfl) ?_
    simp only [Act.put,q1,q2,q3]
    refine LV (v := .int .i64 ((i + 1 : Nat) : Int)) rfl (run_addI rfl rfl rfl (wrap_i64_nat (by omega) (by omega))) ?_
    simp only [Act.put,q1,q2,q3]
    refine LV (v := .int .i64 ((i + 1 : Nat) : Int)) rfl (run_assign rfl rfl) ?_
    simp only [Act.put,q1,q2,q3]
    refine wpList_nil ?_
    change Code.wp _ _ _ _ _
    -- region 17
    refine wp_region_lit ?_
    refine LV (v := .int .i64 k) rfl (run_move rfl rfl) ?_
    simp only [Act.put,q1,q2,q3]
    refine LV (v := .int .i64 (k.tdiv 2)) rfl (run_quoI rfl rfl rfl (by decide) (td_wrap hI2 hI3)) ?_
    simp only [Act.put,q1,q2,q3]
    refine LV (v := .int .i64 (k.tdiv 2)) rfl (run_assign rfl rfl) ?_
    simp only [Act.put,q1,q2,q3]
    refine wpList_nil ?_
    exact ⟨_, (by rw [hm31]; exact hkh), i + 1, k.tdiv 2, _, _, _, _, _, _, rfl, (Env.b (Env.i (Env.b (Env.i (Env.ww (Env.nil _) (E.2.2.2.2.1)) (E.2.2.2.1)) (E.2.2.1)) (E.2.1)) (E.1)), rfl, ⟨by omega, td_lo hI2 hI3, td_hi hI2 hI3⟩⟩
  case neg =>
   -- region 8
   refine wp_region_lit ?_
   refine LV (v := .int .i64 n) rfl (run_move rfl rfl) ?_
   simp only [Act.put,q1,q2,q3]
   refine LV (v := .int .i64 m) rfl (run_move rfl rfl) ?_
   simp only [Act.put,q1,q2,q3]
   refine LV (v := .bool false) rfl (run_ltI (c := false) rfl rfl rfl (decide_eq_false hlt)) ?_
   simp only [Act.put,q1,q2,q3]
   refine wpList_nil ?_
   change Code.wp _ _ _ _ _
   refine wp_cond_false rfl ?_
   refine wp_skip ?_
   change Code.wp _ _ _ _ _
   refine wp_seq ?_
   refine wp_seq ?_
   -- region 10
   refine wp_region_lit ?_
   refine LV (v := .int .i64 n) rfl (run_move rfl rfl) ?_
   simp only [Act.put,q1,q2,q3]
   refine LV (v := .int .i64 m) rfl (run_move rfl rfl) ?_
   simp only [Act.put,q1,q2,q3]
   refine LV (v := .bool false) rfl (run_gtI (c := false) rfl rfl rfl (by rw [decide_eq_false_iff_not]; omega)) ?_
   simp only [Act.put,q1,q2,q3]
   refine wpList_nil ?_
   change Code.wp _ _ _ _ _
   refine wp_cond_false rfl ?_
   refine wp_skip ?_
   change Code.wp _ _ _ _ _
   refine wp_seq ?_
   refine wp_seq ?_
   -- region 12
   refine wp_region_lit ?_
   refine LV (v := .bool true) rfl (run_move rfl rfl) ?_
   simp only [Act.put,q1,q2,q3]
   refine LV (v := .bool false) rfl (run_not (b := true) rfl rfl) ?_
   simp only [Act.put,q1,q2,q3]
   refine LV (v := .bool false) rfl (run_move rfl rfl) ?_
   simp only [Act.put,q1,q2,q3]
   refine LV (v := .int .i64 n) rfl (run_move rfl rfl) ?_
   simp only [Act.put,q1,q2,q3]
   refine LV (v := .int .i64 n) rfl (run_move rfl rfl) ?_
   simp only [Act.put,q1,q2,q3]
   refine LV (v := .bool false) rfl (run_neI (c := false) rfl rfl rfl (bne_f' rfl)) ?_
   simp only [Act.put,q1,q2,q3]
   refine LV (v := .bool false) rfl (run_pick (b := false) rfl rfl rfl) ?_
   simp only [Act.put,q1,q2,q3]
   refine LV (v := .bool false) rfl (run_move rfl rfl) ?_
   simp only [Act.put,q1,q2,q3]
   refine LV (v := .agg #[.bool n3, s3]) rfl (run_load_bx AgI rfl rfl (E.2.2.1) rfl) ?_
   simp only [Act.put,q1,q2,q3]
   refine L1 rfl (Oper.wp_callB fn_integer_Valid rfl (Valid_z _ n _ (E.2.2.2.1)) rfl E ?_)
   clear E
   intro w47 d47 E
   clear d47
   simp only [Act.put,q1,q2,q3]
   refine LV (v := .bool false) rfl (run_not (b := true) rfl rfl) ?_
   simp only [Act.put,q1,q2,q3]
   refine LV (v := .bool false) rfl (run_pick (b := false) rfl rfl rfl) ?_
   simp only [Act.put,q1,q2,q3]
   refine LV (v := .bool false) rfl (run_move rfl rfl) ?_
   simp only [Act.put,q1,q2,q3]
   refine LV (v := .agg #[.bool n3, s3]) rfl (run_load_bx AgI rfl rfl (E.2.2.1) rfl) ?_
   simp only [Act.put,q1,q2,q3]
   refine LV (v := .agg #[.bool n7, s7]) rfl (run_load_bx AgI rfl rfl (E.1) rfl) ?_
   simp only [Act.put,q1,q2,q3]
   refine L1 rfl (Oper.wp_callN fn_integer_Cmp rfl (Cmp_z _ _ n m _ (E.2.2.2.1) (E.2.1)) rfl E ?_)
   clear E
   intro w48 d48 E
   clear d48
   simp only [Act.put,q1,q2,q3]
   refine LV (v := .int .i64 0) rfl (run_move rfl rfl) ?_
   simp only [Act.put,q1,q2,q3]
   refine LV (v := .bool false) rfl (run_neI (c := false) rfl rfl rfl (bne_f' (cmpI_eq (by omega)))) ?_
   simp only [Act.put,q1,q2,q3]
   refine LV (v := .bool false) rfl (run_pick (b := false) rfl rfl rfl) ?_
   simp only [Act.put,q1,q2,q3]
   refine wpList_nil ?_
   change Code.wp _ _ _ _ _
   refine wp_cond_false rfl ?_
   refine wp_skip ?_
   change Code.wp _ _ _ _ _
   refine wp_seq ?_
   -- region 14
   refine wp_region_lit ?_
   refine LV (v := .int .i64 0) rfl (run_assign rfl rfl) ?_
   simp only [Act.put,q1,q2,q3]
   refine wpList_nil ?_
   change Code.wp _ _ _ _ _
   refine wp_seq ?_
   refine wp_seq ?_
   -- region 15
   refine wp_region_lit ?_
   refine LV (v := .int .i64 n) rfl (run_move rfl rfl) ?_
   simp only [Act.put,q1,q2,q3]
   refine LV (v := .int .i64 n) rfl (run_assign rfl rfl) ?_
   simp only [Act.put,q1,q2,q3]
   refine wpList_nil ?_
   change Code.wp _ _ _ _ _
   refine wp_block ?_
   refine wp_loop_ghost (fun mz a w' => ∃ (i : Nat) (k : Int) (g55 g56 g57 g58 g59 g60 : Value), a = ⟨#[.int .i64 n, .int .i64 m, undef, undef, .bool false, .bool true, .pointer (some ⟨b4, 0, none⟩), .pointer (some ⟨b8, 0, none⟩), .int .i64 n, .bool true, .int .i64 0, .int .i64 ((i : Nat) : Int), .int .i64 k, undef, undef, undef, undef, .bool true, .bool true, .bool false, .int .i64 n, .agg #[.bool n3, s3], .int .i64 m, .agg #[.bool n7, s7], .tuple #[.int .i64 n, .bool true], .agg #[.bool n3, s3], .tuple #[.int .i64 n, .bool true], .int .i64 n, .bool true, .int .i64 n, .int .i64 m, .bool false, .int .i64 n, .int .i64 m, .bool false, .bool true, .bool false, .bool false, .int .i64 n, .int .i64 n, .bool false, .bool false, .bool false, .agg #[.bool n3, s3], .bool true, .bool false, .bool false, .bool false, .agg #[.bool n3, s3], .agg #[.bool n7, s7], .int .i64 (cmpI n m), .int .i64 0, .bool false, .bool false, .int .i64 n, g55, g56, g57, g58, g59, g60, undef, undef, undef, undef, undef, undef, undef, undef, undef, undef, undef, undef, undef, undef, undef, undef, undef, undef, undef, undef, undef, undef, undef, undef, undef, undef, undef, undef, undef, undef, undef, undef, undef, undef, undef, undef, undef, undef, undef, undef, undef, undef, undef, undef, undef, undef, undef, undef, undef, undef, undef, undef, undef], []⟩ ∧ Env w' [fB b8 n7 s7, fI (.agg #[.bool n7, s7]) m, fB b4 n3 s3, fI (.agg #[.bool n3, s3]) n, fW w] ∧ mz = k.natAbs ∧ (i + bitsN k.natAbs = bitsN n.natAbs ∧ -9223372036854775808 ≤ k ∧ k ≤ 9223372036854775807)) (n.natAbs) ⟨0, n, _, _, _, _, _, _, rfl, (Env.b (Env.i (Env.b (Env.i (Env.ww (Env.nil _) (E.2.2.2.2.1)) (E.2.2.2.1)) (E.2.2.1)) (E.2.1)) (E.1)), rfl, ⟨Nat.zero_add _, hn1, hn2⟩⟩ ?_
   rintro m49 _ w49 ⟨i, k, g55, g56, g57, g58, g59, g60, rfl, E, hm49, hI49⟩
   obtain ⟨hI1, hI2, hI3⟩ := hI49
   by_cases hk0 : k = 0
   case pos =>
    refine wp_seq ?_
    refine wp_seq ?_
    -- region 16
    refine wp_region_lit ?_
    refine LV (v := .int .i64 k) rfl (run_move rfl rfl) ?_
    simp only [Act.put,q1,q2,q3]
    refine LV (v := .bool false) rfl (run_neI (c := false) rfl rfl rfl (bne_f' hk0)) ?_
    simp only [Act.put,q1,q2,q3]
    refine wpList_nil ?_
    change Code.wp _ _ _ _ _
    refine wp_cond_false rfl ?_
    refine wp_exit ?_
    change Code.wp _ _ _ _ _
    refine wp_seq ?_
    -- region 19
    refine wp_region_lit ?_
    refine LV (v := .int .i64 n) rfl (run_move rfl rfl) ?_
    simp only [Act.put,q1,q2,q3]
    refine LV (v := .int .i64 (n.tmod 1000000007)) rfl (run_remI rfl rfl rfl (by decide) rfl) ?_
    simp only [Act.put,q1,q2,q3]
    refine L1 rfl (Oper.wp_callI fn_integer_Of rfl (Of_z (n.tmod 1000000007) _ (tm_lo n) (tm_hi n)) rfl E ?_)
    clear E
    intro w51 n51 s51 d51 E
    clear d51
    simp only [Act.put,q1,q2,q3]
    have F50 : Fits (n.tmod 1000000007) 2 := Fits_i64 (tm_lo n) (tm_hi n)
    refine LV (v := .int .i64 m) rfl (run_move rfl rfl) ?_
    simp only [Act.put,q1,q2,q3]
    refine LV (v := .int .i64 (m.tmod 1000000007)) rfl (run_remI rfl rfl rfl (by decide) rfl) ?_
    simp only [Act.put,q1,q2,q3]
    refine L1 rfl (Oper.wp_callI fn_integer_Of rfl (Of_z (m.tmod 1000000007) _ (tm_lo m) (tm_hi m)) rfl E ?_)
    clear E
    intro w53 n53 s53 d53 E
    clear d53
    simp only [Act.put,q1,q2,q3]
    have F52 : Fits (m.tmod 1000000007) 2 := Fits_i64 (tm_lo m) (tm_hi m)
    refine L1 rfl (Oper.wp_callI fn_integer_Mul rfl (Mul_z _ _ (n.tmod 1000000007) (m.tmod 1000000007) _ (E.2.1) (E.1) (Fits.mono F50 (by decide)) (Fits.mono F52 (by decide))) rfl E ?_)
    clear E
    intro w55 n55 s55 d55 E
    clear d55
    simp only [Act.put,q1,q2,q3]
    have F54 : Fits ((n.tmod 1000000007) * (m.tmod 1000000007)) 4 := Fits_mul F50 F52
    refine L1 rfl (Oper.wp_callSm fn_integer_Small rfl (Small_ok _ ((n.tmod 1000000007) * (m.tmod 1000000007)) _ (E.1) (pr_lo n m) (pr_hi n m)) rfl E ?_)
    clear E
    intro w56 d56 E
    clear d56
    simp only [Act.put,q1,q2,q3]
    refine LV (v := .tuple #[.int .i64 ((n.tmod 1000000007) * (m.tmod 1000000007)), .bool true]) rfl (run_move rfl rfl) ?_
    simp only [Act.put,q1,q2,q3]
    refine LV (v := .int .i64 ((n.tmod 1000000007) * (m.tmod 1000000007))) rfl (run_extract (vs := [.int .i64 ((n.tmod 1000000007) * (m.tmod 1000000007)), .bool true]) rfl rfl rfl) ?_
    simp only [Act.put,q1,q2,q3]
    refine LV (v := .bool true) rfl (run_extract (vs := [.int .i64 ((n.tmod 1000000007) * (m.tmod 1000000007)), .bool true]) rfl rfl rfl) ?_
    simp only [Act.put,q1,q2,q3]
    refine LV (v := .int .i64 ((n.tmod 1000000007) * (m.tmod 1000000007))) rfl (run_assign rfl rfl) ?_
    simp only [Act.put,q1,q2,q3]
    refine LV (v := .bool true) rfl (run_assign rfl rfl) ?_
    simp only [Act.put,q1,q2,q3]
    refine wpList_nil ?_
    change Code.wp _ _ _ _ _
    refine wp_seq ?_
    -- region 20
    refine wp_region_lit ?_
    refine LV (v := .int .i64 n) rfl (run_move rfl rfl) ?_
    simp only [Act.put,q1,q2,q3]
    refine LV (v := .int .i64 (n.tdiv 2)) rfl (run_quoI rfl rfl rfl (by decide) (td_wrap hn1 hn2)) ?_
    simp only [Act.put,q1,q2,q3]
    refine L1 rfl (Oper.wp_callI fn_integer_Of rfl (Of_z (n.tdiv 2) _ (td_lo hn1 hn2) (td_hi hn1 hn2)) rfl E ?_)
    clear E
    intro w58 n58 s58 d58 E
    clear d58
    simp only [Act.put,q1,q2,q3]
    have F57 : Fits (n.tdiv 2) 2 := Fits_i64 (td_lo hn1 hn2) (td_hi hn1 hn2)
    refine LV (v := .int .i64 m) rfl (run_move rfl rfl) ?_
    simp only [Act.put,q1,q2,q3]
    refine LV (v := .int .i64 (m.tdiv 2)) rfl (run_quoI rfl rfl rfl (by decide) (td_wrap hm1 hm2)) ?_
    simp only [Act.put,q1,q2,q3]
    refine L1 rfl (Oper.wp_callI fn_integer_Of rfl (Of_z (m.tdiv 2) _ (td_lo hm1 hm2) (td_hi hm1 hm2)) rfl E ?_)
    clear E
    intro w60 n60 s60 d60 E
    clear d60
    simp only [Act.put,q1,q2,q3]
    have F59 : Fits (m.tdiv 2) 2 := Fits_i64 (td_lo hm1 hm2) (td_hi hm1 hm2)
    refine L1 rfl (Oper.wp_callI fn_integer_Add rfl (Add_z _ _ (n.tdiv 2) (m.tdiv 2) _ (E.2.1) (E.1) (Fits.mono F57 (by decide)) (Fits.mono F59 (by decide))) rfl E ?_)
    clear E
    intro w62 n62 s62 d62 E
    clear d62
    simp only [Act.put,q1,q2,q3]
    have F61 : Fits ((n.tdiv 2) + (m.tdiv 2)) 3 := Fits_add F57 F59 (k := 2) (by decide) (by decide)
    refine L1 rfl (Oper.wp_callSm fn_integer_Small rfl (Small_ok _ ((n.tdiv 2) + (m.tdiv 2)) _ (E.1) (su_lo hn1 hn2 hm1 hm2) (su_hi hn1 hn2 hm1 hm2)) rfl E ?_)
    clear E
    intro w63 d63 E
    clear d63
    simp only [Act.put,q1,q2,q3]
    refine LV (v := .tuple #[.int .i64 ((n.tdiv 2) + (m.tdiv 2)), .bool true]) rfl (run_move rfl rfl) ?_
    simp only [Act.put,q1,q2,q3]
    refine LV (v := .int .i64 ((n.tdiv 2) + (m.tdiv 2))) rfl (run_extract (vs := [.int .i64 ((n.tdiv 2) + (m.tdiv 2)), .bool true]) rfl rfl rfl) ?_
    simp only [Act.put,q1,q2,q3]
    refine LV (v := .bool true) rfl (run_extract (vs := [.int .i64 ((n.tdiv 2) + (m.tdiv 2)), .bool true]) rfl rfl rfl) ?_
    simp only [Act.put,q1,q2,q3]
    refine LV (v := .int .i64 ((n.tdiv 2) + (m.tdiv 2))) rfl (run_assign rfl rfl) ?_
    simp only [Act.put,q1,q2,q3]
    refine LV (v := .bool true) rfl (run_assign rfl rfl) ?_
    simp only [Act.put,q1,q2,q3]
    refine wpList_nil ?_
    change Code.wp _ _ _ _ _
    refine wp_seq ?_
    -- region 21
    refine wp_region_lit ?_
    refine LV (v := .bool true) rfl (run_move rfl rfl) ?_
    simp only [Act.put,q1,q2,q3]
    refine LV (v := .bool true) rfl (run_move rfl rfl) ?_
    simp only [Act.put,q1,q2,q3]
    refine LV (v := .agg #[.bool n3, s3]) rfl (run_load_bx AgI rfl rfl (E.2.2.2.2.2.2.2.2.1) rfl) ?_
    simp only [Act.put,q1,q2,q3]
    refine L1 rfl (Oper.wp_callN fn_integer_Bits rfl (Bits_z _ n _ (E.2.2.2.2.2.2.2.2.2.1) (Fits.mono F2 (by decide))) rfl E ?_)
    clear E
    intro w64 d64 E
    clear d64
    simp only [Act.put,q1,q2,q3]
    refine LV (v := .int .i64 ((i : Nat) : Int)) rfl (run_move rfl rfl) ?_
    simp only [Act.put,q1,q2,q3]
    refine LV (v := .bool true) rfl (run_eqI (c := true) rfl rfl rfl (bits_end hk0 hI1)) ?_
    simp only [Act.put,q1,q2,q3]
    refine LV (v := .bool true) rfl (run_pick (b := true) rfl rfl rfl) ?_
    simp only [Act.put,q1,q2,q3]
    refine LV (v := .bool true) rfl (run_move rfl rfl) ?_
    simp only [Act.put,q1,q2,q3]
    refine LV (v := .bool true) rfl (run_move rfl rfl) ?_
    simp only [Act.put,q1,q2,q3]
    refine LV (v := .bool true) rfl (run_pick (b := true) rfl rfl rfl) ?_
    simp only [Act.put,q1,q2,q3]
    refine LV (v := .bool true) rfl (run_move rfl rfl) ?_
    simp only [Act.put,q1,q2,q3]
    refine LV (v := .int .i64 ((n.tmod 1000000007) * (m.tmod 1000000007))) rfl (run_move rfl rfl) ?_
    simp only [Act.put,q1,q2,q3]
    refine LV (v := .int .i64 n) rfl (run_move rfl rfl) ?_
    simp only [Act.put,q1,q2,q3]
    refine LV (v := .int .i64 (n.tmod 1000000007)) rfl (run_remI rfl rfl rfl (by decide) rfl) ?_
    simp only [Act.put,q1,q2,q3]
    refine LV (v := .int .i64 m) rfl (run_move rfl rfl) ?_
    simp only [Act.put,q1,q2,q3]
    refine LV (v := .int .i64 (m.tmod 1000000007)) rfl (run_remI rfl rfl rfl (by decide) rfl) ?_
    simp only [Act.put,q1,q2,q3]
    refine LV (v := .int .i64 ((n.tmod 1000000007) * (m.tmod 1000000007))) rfl (run_mulI rfl rfl rfl (wrap_in (pr_lo n m) (pr_hi n m))) ?_
    simp only [Act.put,q1,q2,q3]
    refine LV (v := .bool true) rfl (run_eqI (c := true) rfl rfl rfl (beq_self_eq_true _)) ?_
    simp only [Act.put,q1,q2,q3]
    refine LV (v := .bool true) rfl (run_pick (b := true) rfl rfl rfl) ?_
    simp only [Act.put,q1,q2,q3]
    refine LV (v := .bool true) rfl (run_move rfl rfl) ?_
    simp only [Act.put,q1,q2,q3]
    refine LV (v := .bool true) rfl (run_move rfl rfl) ?_
    simp only [Act.put,q1,q2,q3]
    refine LV (v := .bool true) rfl (run_pick (b := true) rfl rfl rfl) ?_
    simp only [Act.put,q1,q2,q3]
    refine LV (v := .bool true) rfl (run_move rfl rfl) ?_
    simp only [Act.put,q1,q2,q3]
    refine LV (v := .int .i64 ((n.tdiv 2) + (m.tdiv 2))) rfl (run_move rfl rfl) ?_
    simp only [Act.put,q1,q2,q3]
    refine LV (v := .int .i64 n) rfl (run_move rfl rfl) ?_
    simp only [Act.put,q1,q2,q3]
    refine LV (v := .int .i64 (n.tdiv 2)) rfl (run_quoI rfl rfl rfl (by decide) (td_wrap hn1 hn2)) ?_
    simp only [Act.put,q1,q2,q3]
    refine LV (v := .int .i64 m) rfl (run_move rfl rfl) ?_
    simp only [Act.put,q1,q2,q3]
    refine LV (v := .int .i64 (m.tdiv 2)) rfl (run_quoI rfl rfl rfl (by decide) (td_wrap hm1 hm2)) ?_
    simp only [Act.put,q1,q2,q3]
    refine LV (v := .int .i64 ((n.tdiv 2) + (m.tdiv 2))) rfl (run_addI rfl rfl rfl (wrap_in (su_lo hn1 hn2 hm1 hm2) (su_hi hn1 hn2 hm1 hm2))) ?_
    simp only [Act.put,q1,q2,q3]
    refine LV (v := .bool true) rfl (run_eqI (c := true) rfl rfl rfl (beq_self_eq_true _)) ?_
    simp only [Act.put,q1,q2,q3]
    refine LV (v := .bool true) rfl (run_pick (b := true) rfl rfl rfl) ?_
    simp only [Act.put,q1,q2,q3]
    refine LV (v := .bool true) rfl (run_assign rfl rfl) ?_
    simp only [Act.put,q1,q2,q3]
    refine wpList_nil ?_
    change Code.wp _ _ _ _ _
    refine wp_ret ?_
    exact bodyPost_ret (v := .bool true) (by simp [results, Try.results10, asAddr]) rfl ⟨rfl, E.2.2.2.2.2.2.2.2.2.2.1⟩
   case neg =>
    have hbh := bits_half hk0
    have hkh := half_lt hk0
    refine wp_seq ?_
    refine wp_seq ?_
    -- region 16
    refine wp_region_lit ?_
    refine LV (v := .int .i64 k) rfl (run_move rfl rfl) ?_
    simp only [Act.put,q1,q2,q3]
    refine LV (v := .bool true) rfl (run_neI (c := true) rfl rfl rfl (by rw [bne_iff_ne]; exact hk0)) ?_
    simp only [Act.put,q1,q2,q3]
    refine wpList_nil ?_
    change Code.wp _ _ _ _ _
    refine wp_cond_true rfl ?_
    refine wp_skip ?_
    change Code.wp _ _ _ _ _
    refine wp_seq ?_
    refine wp_block ?_
    -- region 18
    refine wp_region_lit ?_
    refine LV (v := .int .i64 ((i : Nat) : Int)) rfl (run_move rfl rfl) ?_
    simp only [Act.put,q1,q2,q3]
    refine LV (v := .int .i64 ((i + 1 : Nat) : Int)) rfl (run_addI rfl rfl rfl (wrap_i64_nat (by omega) (by omega))) ?_
    simp only [Act.put,q1,q2,q3]
    refine LV (v := .int .i64 ((i + 1 : Nat) : Int)) rfl (run_assign rfl rfl) ?_
    simp only [Act.put,q1,q2,q3]
    refine wpList_nil ?_
    change Code.wp _ _ _ _ _
    -- region 17
    refine wp_region_lit ?_
    refine LV (v := .int .i64 k) rfl (run_move rfl rfl) ?_
    simp only [Act.put,q1,q2,q3]
    refine LV (v := .int .i64 (k.tdiv 2)) rfl (run_quoI rfl rfl rfl (by decide) (td_wrap hI2 hI3)) ?_
    simp only [Act.put,q1,q2,q3]
    refine LV (v := .int .i64 (k.tdiv 2)) rfl (run_assign rfl rfl) ?_
    simp only [Act.put,q1,q2,q3]
    refine wpList_nil ?_
    exact ⟨_, (by rw [hm49]; exact hkh), i + 1, k.tdiv 2, _, _, _, _, _, _, rfl, (Env.b (Env.i (Env.b (Env.i (Env.ww (Env.nil _) (E.2.2.2.2.1)) (E.2.2.2.1)) (E.2.2.1)) (E.2.1)) (E.1)), rfl, ⟨by omega, td_lo hI2 hI3, td_hi hI2 hI3⟩⟩
end Go.Proofs.Ytjgmfdenicbniaa
