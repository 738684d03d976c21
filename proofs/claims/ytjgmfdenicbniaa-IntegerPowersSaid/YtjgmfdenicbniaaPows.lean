/- Walk: the law IntegerPowers. (Printed by g_pows.py.) -/
import Derived.Test.YtjgmfdenicbniaaLawC
namespace Go.Proofs.Ytjgmfdenicbniaa
open Go.RowKit W
theorem eqI {w : World} {v : Value} {z z' : Int} (h : z = z') (f : IsI w v z) : IsI w v z' := h ▸ f
theorem abs_i {w : World} {n : Bool} {s : Value} {z : Int} (h : IsI w (.agg #[.bool n, s]) z) : IsI w (.agg #[.bool false, s]) (z.natAbs : Int) :=
  ⟨s, by rw [decide_eq_false (by omega)], by rw [Int.natAbs_natCast]; exact h.sl⟩
theorem run_buildIm {ρ : Operand → Value} {o : Oper} {w : World} {x : Operand} {v : Value} {ao : Option Addr} {n c : Nat} (ho : o.op = .build 24 #[(1, x)]) (hx : ρ x = v) (hv : v = .slice ao n c) : (execOp ρ o).run Try.prog w = .ok (.value (.agg #[.bool false, v])) w := by
  subst hv
  unfold execOp; rw [ho]
  have hi : (zeroValue 24).run Try.prog w = .ok (.agg #[.bool false, .slice none 0 0]) w := by kernel_rfl
  simp [go_sem, hi, hx]
theorem bne_f' {m n : Int} (h : m = n) : (m != n) = false := by subst h; simp
theorem tmod20 {u m : Nat} (h : u % 20 = m) : ((u : Nat) : Int).tmod 20 = ((m : Nat) : Int) := by rw [Int.tmod_eq_emod_of_nonneg (by omega)]; omega
theorem wrap_i64_nat {a : Nat} {X : Int} (hX : X = (a : Int)) (h : a < 9223372036854775808) : IntKind.i64.wrap X = (a : Int) := by subst hX; simp only [IntKind.wrap_i64]; omega
theorem pow_b {x : Int} {n b k : Nat} (h : Fits x b) (hn : n ≤ k) (hb : 1 ≤ b * k) : (digs (x.natAbs ^ n)).length ≤ b * k :=
  pow_fits2 h _ (by rw [Nat.mul_comm]; exact Nat.mul_le_mul_left b hn) hb
theorem pow_b' {x : Int} {n b k : Nat} (h : Fits x b) (hn : n ≤ k) (hb : 1 ≤ b * k) : Fits (x ^ n) (b * k) := by
  unfold Fits; rw [Int.natAbs_pow]; exact pow_b h hn hb
theorem mul_pow_i (a b : Int) (m : Nat) : (a * b) ^ m = a ^ m * b ^ m := by
  induction m with
  | zero => simp
  | succ m ih => rw [Int.pow_succ, Int.pow_succ, Int.pow_succ, ih, Int.mul_assoc, Int.mul_assoc, Int.mul_left_comm (b ^ m) a b]
theorem root_fits {r k : Nat} {a : Int} {n : Nat} (h : IsRoot r k a.natAbs) (hk : 1 ≤ k) (hf : Fits a n) : Fits ((r : Nat) : Int) n :=
  Fits_le (by rw [Int.natAbs_natCast]; exact h.le_of (Nat.lt_of_lt_of_le (Nat.lt_succ_self _) (Nat.le_self_pow (by omega) _))) hf
theorem root_lo {r k : Nat} {a : Int} (h : IsRoot r k a.natAbs) (ha : ¬ a < 0) : decide (cmpI (((r : Nat) : Int) ^ k) a ≤ 0) = true := by
  have h1 := h.1
  have h2 : (((r : Nat) : Int) ^ k) = ((r ^ k : Nat) : Int) := by simp
  rw [h2]
  by_cases e : ((r ^ k : Nat) : Int) < a
  · rw [cmpI_lt e]; rfl
  · rw [cmpI_eq (by omega)]; rfl
theorem root_hi {r k : Nat} {a : Int} (h : IsRoot r k a.natAbs) (ha : ¬ a < 0) : decide (cmpI ((((r : Nat) : Int) + 1) ^ k) a > 0) = true := by
  have h1 := h.2
  have h2 : ((((r : Nat) : Int) + 1) ^ k) = (((r + 1) ^ k : Nat) : Int) := by simp
  rw [h2, cmpI_gt (by omega)]; rfl
set_option maxRecDepth 100000 in
set_option maxHeartbeats 8000000 in
theorem pows_t (u0 u1 u2 : Nat) (na : Bool) (sa : Value) (la : List Nat) (nb : Bool) (sb : Value) (lb : List Nat)  (w : World)  (hsa : Sl w sa la) (hsb : Sl w sb lb) :
    Calls Try.prog 7 #[.agg #[.bool na, sa], .agg #[.bool nb, sb], .agg #[.int .u8 ((u0 : Nat) : Int), .int .u8 ((u1 : Nat) : Int), .int .u8 ((u2 : Nat) : Int)]] w (RetB w true) := by
 have E := Env.start w
 obtain ⟨a, ha⟩ : ∃ z, mkI na la 4 = z := ⟨_, rfl⟩
 have Fa : Fits a 4 := by rw [← ha]; exact mkI_fits hsa.wd
 obtain ⟨b, hb⟩ : ∃ z, mkI nb lb 4 = z := ⟨_, rfl⟩
 have Fb : Fits b 4 := by rw [← hb]; exact mkI_fits hsb.wd
 obtain ⟨m, hm⟩ : ∃ z, u0 % 20 = z := ⟨_, rfl⟩
 obtain ⟨l, hl⟩ : ∃ z, u1 % 20 = z := ⟨_, rfl⟩
 obtain ⟨k, hk⟩ : ∃ z, u2 % 20 = z := ⟨_, rfl⟩
 have hm20 : m < 20 := by omega
 have hl20 : l < 20 := by omega
 have hk20 : k < 20 := by omega
 go_enter Try.func7, Try.ntmps7
 refine wp_seq ?_
 -- region 0
 refine wp_region_lit ?_
 refine L1 rfl (Oper.wp_box (cs := [.bool na, sa]) rfl rfl ?_)
 intro b1 w1 e1 z1 d1 x1
 have l1 : w.heap.size ≤ b1 := by rw [e1]; exact (E.1).size
 replace E := E.below d1
 clear e1 z1 d1
 replace E := E.x x1
 clear x1
 simp only [Act.put,q1,q2,q3]
 refine L1 rfl (Oper.wp_box (cs := [.bool nb, sb]) rfl rfl ?_)
 intro b2 w2 e2 z2 d2 x2
 have l2_0 : b1 < b2 := by rw [e2]; exact Bx.lt (E.1)
 replace E := E.below d2
 clear e2 z2 d2
 replace E := E.x x2
 clear x2
 simp only [Act.put,q1,q2,q3]
 refine L1 rfl (Oper.wp_box (cs := [.int .u8 ((u0 : Nat) : Int), .int .u8 ((u1 : Nat) : Int), .int .u8 ((u2 : Nat) : Int)]) rfl rfl ?_)
 intro b3 w3 e3 z3 d3 x3
 have l3_0 : b2 < b3 := by rw [e3]; exact Bx.lt (E.1)
 replace E := E.below d3
 clear e3 z3 d3
 replace E := E.x x3
 clear x3
 simp only [Act.put,q1,q2,q3]
 refine LV (v := .bool false) rfl (run_assign rfl rfl) ?_
 simp only [Act.put,q1,q2,q3]
 refine wpList_nil ?_
 change Code.wp _ _ _ _ _
 refine wp_seq ?_
 -- region 1
 refine wp_region_lit ?_
 refine L1 rfl (Oper.wp_callB fn_elaw01_sanity rfl (sanity_t _) rfl E ?_)
 clear E
 intro w4 d4 E
 clear d4
 simp only [Act.put,q1,q2,q3]
 refine LV (v := .bool true) rfl (run_assign rfl rfl) ?_
 simp only [Act.put,q1,q2,q3]
 refine wpList_nil ?_
 change Code.wp _ _ _ _ _
 refine wp_seq ?_
 refine wp_seq ?_
 -- region 2
 refine wp_region_lit ?_
 refine LV (v := .bool true) rfl (run_move rfl rfl) ?_
 simp only [Act.put,q1,q2,q3]
 refine LV (v := .bool false) rfl (run_not (b := true) rfl rfl) ?_
 simp only [Act.put,q1,q2,q3]
 refine wpList_nil ?_
 change Code.wp _ _ _ _ _
 refine wp_cond_false rfl ?_
 refine wp_skip ?_
 change Code.wp _ _ _ _ _
 refine wp_seq ?_
 -- region 4
 refine wp_region_lit ?_
 refine LV (v := .agg #[.bool na, sa]) rfl (run_load_bx AgRaw rfl rfl (E.2.2.1) rfl) ?_
 simp only [Act.put,q1,q2,q3]
 refine L1 rfl (Oper.wp_callI fn_eref01_Made rfl (Made_is na sa la 4 _ (Sl.below hsa (E.2.2.2.1)) (by decide) ha) rfl E ?_)
 clear E
 intro w5 n5 s5 d5 E
 clear d5
 simp only [Act.put,q1,q2,q3]
 refine L1 rfl (Oper.wp_alloc AgI rfl ?_)
 intro b6 w6 e6 z6 d6 x6
 have l6_0 : b3 < b6 := by rw [e6]; exact Bx.lt (E.2.1)
 replace E := E.below d6
 clear e6 z6 d6
 simp only [Act.put,q1,q2,q3]
 refine L1 rfl (Oper.wp_store AgI rfl rfl rfl x6 rfl rfl (IsI.one (E.1)) ?_)
 intro w7 o7 y7
 replace E := (E.onl (x6.noW now0) ⟨trivial, okX (by omega), okX (by omega), okX (by omega), okW (by omega), trivial⟩ o7).b y7
 clear x6 o7 y7
 simp only [Act.put]
 refine wpList_nil ?_
 change Code.wp _ _ _ _ _
 refine wp_seq ?_
 -- region 5
 refine wp_region_lit ?_
 refine LV (v := .agg #[.bool nb, sb]) rfl (run_load_bx AgRaw rfl rfl (E.2.2.2.1) rfl) ?_
 simp only [Act.put,q1,q2,q3]
 refine L1 rfl (Oper.wp_callI fn_eref01_Made rfl (Made_is nb sb lb 4 _ (Sl.below hsb (E.2.2.2.2.2.1)) (by decide) hb) rfl E ?_)
 clear E
 intro w8 n8 s8 d8 E
 clear d8
 simp only [Act.put,q1,q2,q3]
 refine L1 rfl (Oper.wp_alloc AgI rfl ?_)
 intro b9 w9 e9 z9 d9 x9
 have l9_0 : b6 < b9 := by rw [e9]; exact Bx.lt (E.2.1)
 replace E := E.below d9
 clear e9 z9 d9
 simp only [Act.put,q1,q2,q3]
 refine L1 rfl (Oper.wp_store AgI rfl rfl rfl x9 rfl rfl (IsI.one (E.1)) ?_)
 intro w10 o10 y10
 replace E := (E.onl (x9.noW now0) ⟨trivial, okB (by omega), trivial, okX (by omega), okX (by omega), okX (by omega), okW (by omega), trivial⟩ o10).b y10
 clear x9 o10 y10
 simp only [Act.put]
 refine wpList_nil ?_
 change Code.wp _ _ _ _ _
 refine wp_seq ?_
 -- region 6
 refine wp_region_lit ?_
 refine LV (v := .pointer (some ⟨b3, 0 + 0 * 1, none⟩)) rfl (run_idxA (j := 0) rfl Try.underlying41 (by kernel_rfl) rfl rfl rfl (by decide)) ?_
 simp only [Act.put,q1,q2,q3]
 refine LV (v := .int .u8 ((u0 : Nat) : Int)) rfl (run_cell rfl isAgg_u8 rfl (E.2.2.2.2.1) rfl) ?_
 simp only [Act.put,q1,q2,q3]
 refine LV (v := .int .u8 ((m : Nat) : Int)) rfl (run_remI rfl rfl rfl (by decide) (tmod20 hm)) ?_
 simp only [Act.put,q1,q2,q3]
 refine LV (v := .int .i64 ((m : Nat) : Int)) rfl (run_convI rfl rfl (by rw [Try.underlying5]; rfl) Try.underlying3 (wrap_i64_nat rfl (by omega))) ?_
 simp only [Act.put,q1,q2,q3]
 refine LV (v := .int .i64 ((m : Nat) : Int)) rfl (run_assign rfl rfl) ?_
 simp only [Act.put,q1,q2,q3]
 refine wpList_nil ?_
 change Code.wp _ _ _ _ _
 refine wp_seq ?_
 -- region 7
 refine wp_region_lit ?_
 refine LV (v := .pointer (some ⟨b3, 0 + 1 * 1, none⟩)) rfl (run_idxA (j := 1) rfl Try.underlying41 (by kernel_rfl) rfl rfl rfl (by decide)) ?_
 simp only [Act.put,q1,q2,q3]
 refine LV (v := .int .u8 ((u1 : Nat) : Int)) rfl (run_cell rfl isAgg_u8 rfl (E.2.2.2.2.1) rfl) ?_
 simp only [Act.put,q1,q2,q3]
 refine LV (v := .int .u8 ((l : Nat) : Int)) rfl (run_remI rfl rfl rfl (by decide) (tmod20 hl)) ?_
 simp only [Act.put,q1,q2,q3]
 refine LV (v := .int .i64 ((l : Nat) : Int)) rfl (run_convI rfl rfl (by rw [Try.underlying5]; rfl) Try.underlying3 (wrap_i64_nat rfl (by omega))) ?_
 simp only [Act.put,q1,q2,q3]
 refine LV (v := .int .i64 ((l : Nat) : Int)) rfl (run_assign rfl rfl) ?_
 simp only [Act.put,q1,q2,q3]
 refine wpList_nil ?_
 change Code.wp _ _ _ _ _
 refine wp_seq ?_
 -- region 8
 refine wp_region_lit ?_
 refine LV (v := .pointer (some ⟨b3, 0 + 2 * 1, none⟩)) rfl (run_idxA (j := 2) rfl Try.underlying41 (by kernel_rfl) rfl rfl rfl (by decide)) ?_
 simp only [Act.put,q1,q2,q3]
 refine LV (v := .int .u8 ((u2 : Nat) : Int)) rfl (run_cell rfl isAgg_u8 rfl (E.2.2.2.2.1) rfl) ?_
 simp only [Act.put,q1,q2,q3]
 refine LV (v := .int .u8 ((k : Nat) : Int)) rfl (run_remI rfl rfl rfl (by decide) (tmod20 hk)) ?_
 simp only [Act.put,q1,q2,q3]
 refine LV (v := .int .i64 ((k : Nat) : Int)) rfl (run_convI rfl rfl (by rw [Try.underlying5]; rfl) Try.underlying3 (wrap_i64_nat rfl (by omega))) ?_
 simp only [Act.put,q1,q2,q3]
 refine LV (v := .int .i64 ((1 + k : Nat) : Int)) rfl (run_addI rfl rfl rfl (wrap_i64_nat (by omega) (by omega))) ?_
 simp only [Act.put,q1,q2,q3]
 refine LV (v := .int .i64 ((1 + k : Nat) : Int)) rfl (run_assign rfl rfl) ?_
 simp only [Act.put,q1,q2,q3]
 refine wpList_nil ?_
 change Code.wp _ _ _ _ _
 refine wp_seq ?_
 -- region 9
 refine wp_region_lit ?_
 refine LV (v := .agg #[.bool n5, s5]) rfl (run_load_bx AgI rfl rfl (E.2.2.1) rfl) ?_
 simp only [Act.put,q1,q2,q3]
 refine LV (v := .int .i64 ((m : Nat) : Int)) rfl (run_move rfl rfl) ?_
 simp only [Act.put,q1,q2,q3]
 refine L1 rfl (Oper.wp_callIE fn_integer_Pow rfl (Pow_z _ a m _ (E.2.2.2.1) (by omega) (Fits.mono Fa (by decide)) (Nat.le_trans (pow_b (k := 20) Fa (by omega) (by decide)) (by decide))) rfl E ?_)
 clear E
 intro w12 n12 s12 d12 E
 clear d12
 simp only [Act.put,q1,q2,q3]
 have F11 : Fits (a ^ m) 80 := pow_b' (n := m) (k := 20) Fa (by omega) (by decide)
 refine LV (v := .tuple #[.agg #[.bool n12, s12], .int .i64 0]) rfl (run_move rfl rfl) ?_
 simp only [Act.put,q1,q2,q3]
 refine LV (v := .agg #[.bool n12, s12]) rfl (run_extract (vs := [.agg #[.bool n12, s12], .int .i64 0]) rfl rfl rfl) ?_
 simp only [Act.put,q1,q2,q3]
 refine LV (v := .int .i64 0) rfl (run_extract (vs := [.agg #[.bool n12, s12], .int .i64 0]) rfl rfl rfl) ?_
 simp only [Act.put,q1,q2,q3]
 refine L1 rfl (Oper.wp_alloc AgI rfl ?_)
 intro b13 w13 e13 z13 d13 x13
 have l13_0 : b9 < b13 := by rw [e13]; exact Bx.lt (E.2.1)
 replace E := E.below d13
 clear e13 z13 d13
 simp only [Act.put,q1,q2,q3]
 refine L1 rfl (Oper.wp_store AgI rfl rfl rfl x13 rfl rfl (IsI.one (E.1)) ?_)
 intro w14 o14 y14
 replace E := (E.onl (x13.noW now0) ⟨trivial, okB (by omega), trivial, okB (by omega), trivial, okX (by omega), okX (by omega), okX (by omega), okW (by omega), trivial⟩ o14).b y14
 clear x13 o14 y14
 simp only [Act.put]
 refine LV (v := .int .i64 0) rfl (run_assign rfl rfl) ?_
 simp only [Act.put,q1,q2,q3]
 refine wpList_nil ?_
 change Code.wp _ _ _ _ _
 refine wp_seq ?_
 -- region 10
 refine wp_region_lit ?_
 refine LV (v := .agg #[.bool n5, s5]) rfl (run_load_bx AgI rfl rfl (E.2.2.2.2.1) rfl) ?_
 simp only [Act.put,q1,q2,q3]
 refine LV (v := .int .i64 ((l : Nat) : Int)) rfl (run_move rfl rfl) ?_
 simp only [Act.put,q1,q2,q3]
 refine L1 rfl (Oper.wp_callIE fn_integer_Pow rfl (Pow_z _ a l _ (E.2.2.2.2.2.1) (by omega) (Fits.mono Fa (by decide)) (Nat.le_trans (pow_b (k := 20) Fa (by omega) (by decide)) (by decide))) rfl E ?_)
 clear E
 intro w16 n16 s16 d16 E
 clear d16
 simp only [Act.put,q1,q2,q3]
 have F15 : Fits (a ^ l) 80 := pow_b' (n := l) (k := 20) Fa (by omega) (by decide)
 refine LV (v := .tuple #[.agg #[.bool n16, s16], .int .i64 0]) rfl (run_move rfl rfl) ?_
 simp only [Act.put,q1,q2,q3]
 refine LV (v := .agg #[.bool n16, s16]) rfl (run_extract (vs := [.agg #[.bool n16, s16], .int .i64 0]) rfl rfl rfl) ?_
 simp only [Act.put,q1,q2,q3]
 refine LV (v := .int .i64 0) rfl (run_extract (vs := [.agg #[.bool n16, s16], .int .i64 0]) rfl rfl rfl) ?_
 simp only [Act.put,q1,q2,q3]
 refine L1 rfl (Oper.wp_alloc AgI rfl ?_)
 intro b17 w17 e17 z17 d17 x17
 have l17_0 : b13 < b17 := by rw [e17]; exact Bx.lt (E.2.1)
 replace E := E.below d17
 clear e17 z17 d17
 simp only [Act.put,q1,q2,q3]
 refine L1 rfl (Oper.wp_store AgI rfl rfl rfl x17 rfl rfl (IsI.one (E.1)) ?_)
 intro w18 o18 y18
 replace E := (E.onl (x17.noW now0) ⟨trivial, okB (by omega), trivial, okB (by omega), trivial, okB (by omega), trivial, okX (by omega), okX (by omega), okX (by omega), okW (by omega), trivial⟩ o18).b y18
 clear x17 o18 y18
 simp only [Act.put]
 refine LV (v := .int .i64 0) rfl (run_assign rfl rfl) ?_
 simp only [Act.put,q1,q2,q3]
 refine wpList_nil ?_
 change Code.wp _ _ _ _ _
 refine wp_seq ?_
 -- region 11
 refine wp_region_lit ?_
 refine LV (v := .agg #[.bool n5, s5]) rfl (run_load_bx AgI rfl rfl (E.2.2.2.2.2.2.1) rfl) ?_
 simp only [Act.put,q1,q2,q3]
 refine LV (v := .int .i64 ((m : Nat) : Int)) rfl (run_move rfl rfl) ?_
 simp only [Act.put,q1,q2,q3]
 refine LV (v := .int .i64 ((l : Nat) : Int)) rfl (run_move rfl rfl) ?_
 simp only [Act.put,q1,q2,q3]
 refine LV (v := .int .i64 ((m + l : Nat) : Int)) rfl (run_addI rfl rfl rfl (wrap_i64_nat (by omega) (by omega))) ?_
 simp only [Act.put,q1,q2,q3]
 refine L1 rfl (Oper.wp_callIE fn_integer_Pow rfl (Pow_z _ a (m + l) _ (E.2.2.2.2.2.2.2.1) (by omega) (Fits.mono Fa (by decide)) (Nat.le_trans (pow_b (k := 40) Fa (by omega) (by decide)) (by decide))) rfl E ?_)
 clear E
 intro w20 n20 s20 d20 E
 clear d20
 simp only [Act.put,q1,q2,q3]
 have F19 : Fits (a ^ (m + l)) 160 := pow_b' (n := m + l) (k := 40) Fa (by omega) (by decide)
 refine LV (v := .tuple #[.agg #[.bool n20, s20], .int .i64 0]) rfl (run_move rfl rfl) ?_
 simp only [Act.put,q1,q2,q3]
 refine LV (v := .agg #[.bool n20, s20]) rfl (run_extract (vs := [.agg #[.bool n20, s20], .int .i64 0]) rfl rfl rfl) ?_
 simp only [Act.put,q1,q2,q3]
 refine LV (v := .int .i64 0) rfl (run_extract (vs := [.agg #[.bool n20, s20], .int .i64 0]) rfl rfl rfl) ?_
 simp only [Act.put,q1,q2,q3]
 refine L1 rfl (Oper.wp_alloc AgI rfl ?_)
 intro b21 w21 e21 z21 d21 x21
 have l21_0 : b17 < b21 := by rw [e21]; exact Bx.lt (E.2.1)
 replace E := E.below d21
 clear e21 z21 d21
 simp only [Act.put,q1,q2,q3]
 refine L1 rfl (Oper.wp_store AgI rfl rfl rfl x21 rfl rfl (IsI.one (E.1)) ?_)
 intro w22 o22 y22
 replace E := (E.onl (x21.noW now0) ⟨trivial, okB (by omega), trivial, okB (by omega), trivial, okB (by omega), trivial, okB (by omega), trivial, okX (by omega), okX (by omega), okX (by omega), okW (by omega), trivial⟩ o22).b y22
 clear x21 o22 y22
 simp only [Act.put]
 refine LV (v := .int .i64 0) rfl (run_assign rfl rfl) ?_
 simp only [Act.put,q1,q2,q3]
 refine wpList_nil ?_
 change Code.wp _ _ _ _ _
 refine wp_seq ?_
 -- region 12
 refine wp_region_lit ?_
 refine LV (v := .agg #[.bool n8, s8]) rfl (run_load_bx AgI rfl rfl (E.2.2.2.2.2.2.1) rfl) ?_
 simp only [Act.put,q1,q2,q3]
 refine LV (v := .int .i64 ((m : Nat) : Int)) rfl (run_move rfl rfl) ?_
 simp only [Act.put,q1,q2,q3]
 refine L1 rfl (Oper.wp_callIE fn_integer_Pow rfl (Pow_z _ b m _ (E.2.2.2.2.2.2.2.1) (by omega) (Fits.mono Fb (by decide)) (Nat.le_trans (pow_b (k := 20) Fb (by omega) (by decide)) (by decide))) rfl E ?_)
 clear E
 intro w24 n24 s24 d24 E
 clear d24
 simp only [Act.put,q1,q2,q3]
 have F23 : Fits (b ^ m) 80 := pow_b' (n := m) (k := 20) Fb (by omega) (by decide)
 refine LV (v := .tuple #[.agg #[.bool n24, s24], .int .i64 0]) rfl (run_move rfl rfl) ?_
 simp only [Act.put,q1,q2,q3]
 refine LV (v := .agg #[.bool n24, s24]) rfl (run_extract (vs := [.agg #[.bool n24, s24], .int .i64 0]) rfl rfl rfl) ?_
 simp only [Act.put,q1,q2,q3]
 refine LV (v := .int .i64 0) rfl (run_extract (vs := [.agg #[.bool n24, s24], .int .i64 0]) rfl rfl rfl) ?_
 simp only [Act.put,q1,q2,q3]
 refine L1 rfl (Oper.wp_alloc AgI rfl ?_)
 intro b25 w25 e25 z25 d25 x25
 have l25_0 : b21 < b25 := by rw [e25]; exact Bx.lt (E.2.1)
 replace E := E.below d25
 clear e25 z25 d25
 simp only [Act.put,q1,q2,q3]
 refine L1 rfl (Oper.wp_store AgI rfl rfl rfl x25 rfl rfl (IsI.one (E.1)) ?_)
 intro w26 o26 y26
 replace E := (E.onl (x25.noW now0) ⟨trivial, okB (by omega), trivial, okB (by omega), trivial, okB (by omega), trivial, okB (by omega), trivial, okB (by omega), trivial, okX (by omega), okX (by omega), okX (by omega), okW (by omega), trivial⟩ o26).b y26
 clear x25 o26 y26
 simp only [Act.put]
 refine LV (v := .int .i64 0) rfl (run_assign rfl rfl) ?_
 simp only [Act.put,q1,q2,q3]
 refine wpList_nil ?_
 change Code.wp _ _ _ _ _
 refine wp_seq ?_
 -- region 13
 refine wp_region_lit ?_
 refine LV (v := .agg #[.bool n5, s5]) rfl (run_load_bx AgI rfl rfl (E.2.2.2.2.2.2.2.2.2.2.1) rfl) ?_
 simp only [Act.put,q1,q2,q3]
 refine LV (v := .agg #[.bool n8, s8]) rfl (run_load_bx AgI rfl rfl (E.2.2.2.2.2.2.2.2.1) rfl) ?_
 simp only [Act.put,q1,q2,q3]
 refine L1 rfl (Oper.wp_callI fn_integer_Mul rfl (Mul_z _ _ a b _ (E.2.2.2.2.2.2.2.2.2.2.2.1) (E.2.2.2.2.2.2.2.2.2.1) (Fits.mono Fa (by decide)) (Fits.mono Fb (by decide))) rfl E ?_)
 clear E
 intro w28 n28 s28 d28 E
 clear d28
 simp only [Act.put,q1,q2,q3]
 have F27 : Fits (a * b) 8 := Fits_mul Fa Fb
 refine LV (v := .int .i64 ((m : Nat) : Int)) rfl (run_move rfl rfl) ?_
 simp only [Act.put,q1,q2,q3]
 refine L1 rfl (Oper.wp_callIE fn_integer_Pow rfl (Pow_z _ (a * b) m _ (E.1) (by omega) (Fits.mono F27 (by decide)) (Nat.le_trans (pow_b (k := 20) F27 (by omega) (by decide)) (by decide))) rfl E ?_)
 clear E
 intro w30 n30 s30 d30 E
 clear d30
 simp only [Act.put,q1,q2,q3]
 have F29 : Fits ((a * b) ^ m) 160 := pow_b' (n := m) (k := 20) F27 (by omega) (by decide)
 refine LV (v := .tuple #[.agg #[.bool n30, s30], .int .i64 0]) rfl (run_move rfl rfl) ?_
 simp only [Act.put,q1,q2,q3]
 refine LV (v := .agg #[.bool n30, s30]) rfl (run_extract (vs := [.agg #[.bool n30, s30], .int .i64 0]) rfl rfl rfl) ?_
 simp only [Act.put,q1,q2,q3]
 refine LV (v := .int .i64 0) rfl (run_extract (vs := [.agg #[.bool n30, s30], .int .i64 0]) rfl rfl rfl) ?_
 simp only [Act.put,q1,q2,q3]
 refine L1 rfl (Oper.wp_alloc AgI rfl ?_)
 intro b31 w31 e31 z31 d31 x31
 have l31_0 : b25 < b31 := by rw [e31]; exact Bx.lt (E.2.2.1)
 replace E := E.below d31
 clear e31 z31 d31
 simp only [Act.put,q1,q2,q3]
 refine L1 rfl (Oper.wp_store AgI rfl rfl rfl x31 rfl rfl (IsI.one (E.1)) ?_)
 intro w32 o32 y32
 replace E := (E.onl (x31.noW now0) ⟨trivial, trivial, okB (by omega), trivial, okB (by omega), trivial, okB (by omega), trivial, okB (by omega), trivial, okB (by omega), trivial, okB (by omega), trivial, okX (by omega), okX (by omega), okX (by omega), okW (by omega), trivial⟩ o32).b y32
 clear x31 o32 y32
 simp only [Act.put]
 refine LV (v := .int .i64 0) rfl (run_assign rfl rfl) ?_
 simp only [Act.put,q1,q2,q3]
 refine wpList_nil ?_
 change Code.wp _ _ _ _ _
 refine wp_seq ?_
 refine wp_seq ?_
 -- region 14
 refine wp_schedE E ([0, 1, 2, 3, 4, 5, 6, 7, 8, 9, 10, 11, 12, 13, 14, 15, 16, 17, 18, 19, 20, 22, 21, 23, 24, 25, 26, 27, 28, 30, 29, 31, 32, 33]) (by kernel_rfl) (by kernel_rfl) (by kernel_rfl) (by kernel_rfl) (by intro d v c a w h; cases d <;> exact h) ?_
 replace E := E.drew
 refine SP (o := ⟨some 83, _, _, _, _, _⟩) (v := .int .i64 0) rfl rfl rfl rfl (fun w hS => run_move rfl rfl) ?_
 simp only [Act.put,q1,q2,q3]
 refine SP (o := ⟨some 84, _, _, _, _, _⟩) (v := .bool false) rfl rfl rfl rfl (fun w hS => run_neI (c := false) rfl rfl rfl (by decide)) ?_
 simp only [Act.put,q1,q2,q3]
 refine SP (o := ⟨some 85, _, _, _, _, _⟩) (v := .bool false) rfl rfl rfl rfl (fun w hS => run_move rfl rfl) ?_
 simp only [Act.put,q1,q2,q3]
 refine SP (o := ⟨some 86, _, _, _, _, _⟩) (v := .int .i64 0) rfl rfl rfl rfl (fun w hS => run_move rfl rfl) ?_
 simp only [Act.put,q1,q2,q3]
 refine SP (o := ⟨some 87, _, _, _, _, _⟩) (v := .bool false) rfl rfl rfl rfl (fun w hS => run_neI (c := false) rfl rfl rfl (by decide)) ?_
 simp only [Act.put,q1,q2,q3]
 refine SP (o := ⟨some 88, _, _, _, _, _⟩) (v := .bool false) rfl rfl rfl rfl (fun w hS => run_pick (b := false) rfl rfl rfl) ?_
 simp only [Act.put,q1,q2,q3]
 refine SP (o := ⟨some 89, _, _, _, _, _⟩) (v := .bool false) rfl rfl rfl rfl (fun w hS => run_move rfl rfl) ?_
 simp only [Act.put,q1,q2,q3]
 refine SP (o := ⟨some 90, _, _, _, _, _⟩) (v := .int .i64 0) rfl rfl rfl rfl (fun w hS => run_move rfl rfl) ?_
 simp only [Act.put,q1,q2,q3]
 refine SP (o := ⟨some 91, _, _, _, _, _⟩) (v := .bool false) rfl rfl rfl rfl (fun w hS => run_neI (c := false) rfl rfl rfl (by decide)) ?_
 simp only [Act.put,q1,q2,q3]
 refine SP (o := ⟨some 92, _, _, _, _, _⟩) (v := .bool false) rfl rfl rfl rfl (fun w hS => run_pick (b := false) rfl rfl rfl) ?_
 simp only [Act.put,q1,q2,q3]
 refine SP (o := ⟨some 93, _, _, _, _, _⟩) (v := .bool false) rfl rfl rfl rfl (fun w hS => run_move rfl rfl) ?_
 simp only [Act.put,q1,q2,q3]
 refine SP (o := ⟨some 94, _, _, _, _, _⟩) (v := .int .i64 0) rfl rfl rfl rfl (fun w hS => run_move rfl rfl) ?_
 simp only [Act.put,q1,q2,q3]
 refine SP (o := ⟨some 95, _, _, _, _, _⟩) (v := .bool false) rfl rfl rfl rfl (fun w hS => run_neI (c := false) rfl rfl rfl (by decide)) ?_
 simp only [Act.put,q1,q2,q3]
 refine SP (o := ⟨some 96, _, _, _, _, _⟩) (v := .bool false) rfl rfl rfl rfl (fun w hS => run_pick (b := false) rfl rfl rfl) ?_
 simp only [Act.put,q1,q2,q3]
 refine SP (o := ⟨some 97, _, _, _, _, _⟩) (v := .bool false) rfl rfl rfl rfl (fun w hS => run_move rfl rfl) ?_
 simp only [Act.put,q1,q2,q3]
 refine SP (o := ⟨some 98, _, _, _, _, _⟩) (v := .int .i64 0) rfl rfl rfl rfl (fun w hS => run_move rfl rfl) ?_
 simp only [Act.put,q1,q2,q3]
 refine SP (o := ⟨some 99, _, _, _, _, _⟩) (v := .bool false) rfl rfl rfl rfl (fun w hS => run_neI (c := false) rfl rfl rfl (by decide)) ?_
 simp only [Act.put,q1,q2,q3]
 refine SP (o := ⟨some 100, _, _, _, _, _⟩) (v := .bool false) rfl rfl rfl rfl (fun w hS => run_pick (b := false) rfl rfl rfl) ?_
 simp only [Act.put,q1,q2,q3]
 refine SP (o := ⟨some 101, _, _, _, _, _⟩) (v := .bool false) rfl rfl rfl rfl (fun w hS => run_move rfl rfl) ?_
 simp only [Act.put,q1,q2,q3]
 refine SP (o := ⟨some 102, _, _, _, _, _⟩) (v := .agg #[.bool n12, s12]) rfl rfl rfl rfl (fun w hS => run_load_bx AgI rfl rfl (hS.2.2.2.2.2.2.2.2.2.1) rfl) ?_
 simp only [Act.put,q1,q2,q3]
 refine SP (o := ⟨some 103, _, _, _, _, _⟩) (v := .agg #[.bool n16, s16]) rfl rfl rfl rfl (fun w hS => run_load_bx AgI rfl rfl (hS.2.2.2.2.2.2.2.1) rfl) ?_
 simp only [Act.put,q1,q2,q3]
 refine SP (o := ⟨some 105, _, _, _, _, _⟩) (v := .agg #[.bool n20, s20]) rfl rfl rfl rfl (fun w hS => run_load_bx AgI rfl rfl (hS.2.2.2.2.2.1) rfl) ?_
 simp only [Act.put,q1,q2,q3]
 refine S1a (o := ⟨some 104, _, _, _, _, _⟩) rfl rfl rfl rfl (Oper.wp_callI fn_integer_Mul rfl (Mul_z _ _ (a ^ m) (a ^ l) _ (E.2.2.2.2.2.2.2.2.2.2.1) (E.2.2.2.2.2.2.2.2.1) (Fits.mono F11 (by decide)) (Fits.mono F15 (by decide))) rfl E ?_)
 clear E
 intro w34 n34 s34 d34 E
 clear d34
 refine ⟨E.2, ?_⟩
 simp only [Act.put,q1,q2,q3]
 have F33 : Fits ((a ^ m) * (a ^ l)) 160 := Fits_mul F11 F15
 refine S1a (o := ⟨some 106, _, _, _, _, _⟩) rfl rfl rfl rfl (Oper.wp_callB fn_eref01_Same rfl (RSame_t _ _ ((a ^ m) * (a ^ l)) (a ^ (m + l)) _ (E.1) (E.2.2.2.2.2.2.2.1) ((Int.pow_add a m l).symm)) rfl E ?_)
 clear E
 intro w35 d35 E
 clear d35
 refine ⟨E.2, ?_⟩
 simp only [Act.put,q1,q2,q3]
 refine SP (o := ⟨some 107, _, _, _, _, _⟩) (v := .bool false) rfl rfl rfl rfl (fun w hS => run_not (b := true) rfl rfl) ?_
 simp only [Act.put,q1,q2,q3]
 refine SP (o := ⟨some 108, _, _, _, _, _⟩) (v := .bool false) rfl rfl rfl rfl (fun w hS => run_pick (b := false) rfl rfl rfl) ?_
 simp only [Act.put,q1,q2,q3]
 refine SP (o := ⟨some 109, _, _, _, _, _⟩) (v := .bool false) rfl rfl rfl rfl (fun w hS => run_move rfl rfl) ?_
 simp only [Act.put,q1,q2,q3]
 refine SP (o := ⟨some 110, _, _, _, _, _⟩) (v := .agg #[.bool n12, s12]) rfl rfl rfl rfl (fun w hS => run_load_bx AgI rfl rfl (hS.2.2.2.2.2.2.2.2.2.1) rfl) ?_
 simp only [Act.put,q1,q2,q3]
 refine SP (o := ⟨some 111, _, _, _, _, _⟩) (v := .agg #[.bool n24, s24]) rfl rfl rfl rfl (fun w hS => run_load_bx AgI rfl rfl (hS.2.2.2.1) rfl) ?_
 simp only [Act.put,q1,q2,q3]
 refine SP (o := ⟨some 113, _, _, _, _, _⟩) (v := .agg #[.bool n30, s30]) rfl rfl rfl rfl (fun w hS => run_load_bx AgI rfl rfl (hS.1) rfl) ?_
 simp only [Act.put,q1,q2,q3]
 refine S1a (o := ⟨some 112, _, _, _, _, _⟩) rfl rfl rfl rfl (Oper.wp_callI fn_integer_Mul rfl (Mul_z _ _ (a ^ m) (b ^ m) _ (E.2.2.2.2.2.2.2.2.2.2.2.1) (E.2.2.2.2.2.1) (Fits.mono F11 (by decide)) (Fits.mono F23 (by decide))) rfl E ?_)
 clear E
 intro w37 n37 s37 d37 E
 clear d37
 refine ⟨E.2.2, ?_⟩
 simp only [Act.put,q1,q2,q3]
 have F36 : Fits ((a ^ m) * (b ^ m)) 160 := Fits_mul F11 F23
 refine S1a (o := ⟨some 114, _, _, _, _, _⟩) rfl rfl rfl rfl (Oper.wp_callB fn_eref01_Same rfl (RSame_t _ _ ((a ^ m) * (b ^ m)) ((a * b) ^ m) _ (E.1) (E.2.2.2.1) ((mul_pow_i a b m).symm)) rfl E ?_)
 clear E
 intro w38 d38 E
 clear d38
 refine ⟨E.2.2, ?_⟩
 simp only [Act.put,q1,q2,q3]
 refine SP (o := ⟨some 115, _, _, _, _, _⟩) (v := .bool false) rfl rfl rfl rfl (fun w hS => run_not (b := true) rfl rfl) ?_
 simp only [Act.put,q1,q2,q3]
 refine SP (o := ⟨some 116, _, _, _, _, _⟩) (v := .bool false) rfl rfl rfl rfl (fun w hS => run_pick (b := false) rfl rfl rfl) ?_
 simp only [Act.put,q1,q2,q3]
 refine SN ?_
 change Code.wp _ _ _ _ _
 refine wp_cond_false rfl ?_
 refine wp_skip ?_
 change Code.wp _ _ _ _ _
 refine wp_seq ?_
 by_cases ha0 : a < 0
 case pos =>
  obtain rfl : n5 = true := (IsI.sign (E.2.2.2.2.2.2.2.2.2.2.2.2.2.2.2.2.1)).trans (decide_eq_true ha0)
  -- region 16
  refine wp_region_lit ?_
  refine LV (v := .agg #[.bool true, s5]) rfl (run_load_bx AgI rfl rfl (E.2.2.2.2.2.2.2.2.2.2.2.2.2.2.2.1) rfl) ?_
  simp only [Act.put,q1,q2,q3]
  refine LV (v := .int .i64 ((1 + k : Nat) : Int)) rfl (run_move rfl rfl) ?_
  simp only [Act.put,q1,q2,q3]
  refine L1 rfl (Oper.wp_callIE fn_integer_Root rfl (Root_out _ a ((1 + k : Nat) : Int) _ (E.2.2.2.2.2.2.2.2.2.2.2.2.2.2.2.2.1) (.inl ha0)) rfl E ?_)
  clear E
  intro w39 n39 s39 d39 E
  clear d39
  simp only [Act.put,q1,q2,q3]
  refine LV (v := .tuple #[.agg #[.bool n39, s39], .int .i64 1]) rfl (run_move rfl rfl) ?_
  simp only [Act.put,q1,q2,q3]
  refine LV (v := .agg #[.bool n39, s39]) rfl (run_extract (vs := [.agg #[.bool n39, s39], .int .i64 1]) rfl rfl rfl) ?_
  simp only [Act.put,q1,q2,q3]
  refine LV (v := .int .i64 1) rfl (run_extract (vs := [.agg #[.bool n39, s39], .int .i64 1]) rfl rfl rfl) ?_
  simp only [Act.put,q1,q2,q3]
  refine L1 rfl (Oper.wp_alloc AgI rfl ?_)
  intro b40 w40 e40 z40 d40 x40
  have l40_0 : b31 < b40 := by rw [e40]; exact Bx.lt (E.2.2.2.1)
  replace E := E.below d40
  clear e40 z40 d40
  simp only [Act.put,q1,q2,q3]
  refine L1 rfl (Oper.wp_store AgI rfl rfl rfl x40 rfl rfl (IsI.one (E.1)) ?_)
  intro w41 o41 y41
  replace E := (E.onl (x40.noW now0) ⟨trivial, trivial, trivial, okB (by omega), trivial, trivial, okB (by omega), trivial, okB (by omega), trivial, okB (by omega), trivial, okB (by omega), trivial, okB (by omega), trivial, okB (by omega), trivial, okX (by omega), okX (by omega), okX (by omega), okW (by omega), trivial⟩ o41).b y41
  clear x40 o41 y41
  simp only [Act.put]
  refine LV (v := .int .i64 1) rfl (run_assign rfl rfl) ?_
  simp only [Act.put,q1,q2,q3]
  refine wpList_nil ?_
  change Code.wp _ _ _ _ _
  refine wp_seq ?_
  refine wp_seq ?_
  -- region 17
  refine wp_region_lit ?_
  refine LV (v := .pointer (some ⟨b6, 0, none⟩)) rfl (run_fieldI0 rfl rfl) ?_
  simp only [Act.put,q1,q2,q3]
  refine LV (v := .bool true) rfl (run_cell rfl isAgg_bool rfl (E.2.2.2.2.2.2.2.2.2.2.2.2.2.2.2.2.2.1) rfl) ?_
  simp only [Act.put,q1,q2,q3]
  refine wpList_nil ?_
  change Code.wp _ _ _ _ _
  refine wp_cond_true rfl ?_
  refine wp_seq ?_
  obtain rfl : n39 = false := (IsI.sign (E.2.1)).trans rfl
  -- region 18
  refine wp_region_lit ?_
  refine LV (v := .bool true) rfl (run_move rfl rfl) ?_
  simp only [Act.put,q1,q2,q3]
  refine LV (v := .bool true) rfl (run_move rfl rfl) ?_
  simp only [Act.put,q1,q2,q3]
  refine LV (v := .int .i64 1) rfl (run_move rfl rfl) ?_
  simp only [Act.put,q1,q2,q3]
  refine LV (v := .bool true) rfl (run_eqI (c := true) rfl rfl rfl (by decide)) ?_
  simp only [Act.put,q1,q2,q3]
  refine LV (v := .bool true) rfl (run_pick (b := true) rfl rfl rfl) ?_
  simp only [Act.put,q1,q2,q3]
  refine LV (v := .bool true) rfl (run_move rfl rfl) ?_
  simp only [Act.put,q1,q2,q3]
  refine LV (v := .pointer (some ⟨b40, 1, none⟩)) rfl (run_fieldI1 rfl rfl) ?_
  simp only [Act.put,q1,q2,q3]
  refine LV (v := s39) rfl (run_cell rfl isAgg_words rfl (E.1) rfl) ?_
  simp only [Act.put,q1,q2,q3]
  obtain ⟨ao42, cap42, hs42⟩ := IsI.slice (E.2.1)
  refine LV (v := .int .i64 (((digs (0 : Int).natAbs).length : Nat) : Int)) rfl (run_len rfl hs42) ?_
  simp only [Act.put,q1,q2,q3]
  refine LV (v := .bool true) rfl (run_eqI (c := true) rfl rfl rfl (len_eq0 rfl)) ?_
  simp only [Act.put,q1,q2,q3]
  refine LV (v := .bool true) rfl (run_pick (b := true) rfl rfl rfl) ?_
  simp only [Act.put,q1,q2,q3]
  refine LV (v := .bool true) rfl (run_move rfl rfl) ?_
  simp only [Act.put,q1,q2,q3]
  refine LV (v := .pointer (some ⟨b40, 0, none⟩)) rfl (run_fieldI0 rfl rfl) ?_
  simp only [Act.put,q1,q2,q3]
  refine LV (v := .bool false) rfl (run_cell rfl isAgg_bool rfl (E.1) rfl) ?_
  simp only [Act.put,q1,q2,q3]
  refine LV (v := .bool true) rfl (run_not (b := false) rfl rfl) ?_
  simp only [Act.put,q1,q2,q3]
  refine LV (v := .bool true) rfl (run_pick (b := true) rfl rfl rfl) ?_
  simp only [Act.put,q1,q2,q3]
  refine LV (v := .bool true) rfl (run_assign rfl rfl) ?_
  simp only [Act.put,q1,q2,q3]
  refine wpList_nil ?_
  change Code.wp _ _ _ _ _
  refine wp_ret ?_
  exact bodyPost_ret (v := .bool true) (by simp [results, Try.results7, asAddr]) rfl ⟨rfl, E.2.2.2.2.2.2.2.2.2.2.2.2.2.2.2.2.2.2.2.2.2.2.1⟩
 case neg =>
  obtain rfl : n5 = false := (IsI.sign (E.2.2.2.2.2.2.2.2.2.2.2.2.2.2.2.2.1)).trans (decide_eq_false ha0)
  obtain ⟨r, hr⟩ := IsRoot.exists (1 + k) a.natAbs (by omega)
  have Fr : Fits ((r : Nat) : Int) 4 := root_fits hr (by omega) Fa
  -- region 16
  refine wp_region_lit ?_
  refine LV (v := .agg #[.bool false, s5]) rfl (run_load_bx AgI rfl rfl (E.2.2.2.2.2.2.2.2.2.2.2.2.2.2.2.1) rfl) ?_
  simp only [Act.put,q1,q2,q3]
  refine LV (v := .int .i64 ((1 + k : Nat) : Int)) rfl (run_move rfl rfl) ?_
  simp only [Act.put,q1,q2,q3]
  refine L1 rfl (Oper.wp_callIE fn_integer_Root rfl (Root_is _ a (1 + k) r _ (E.2.2.2.2.2.2.2.2.2.2.2.2.2.2.2.2.1) (by omega) (by omega) (by omega) (Fits.mono Fa (by decide)) hr) rfl E ?_)
  clear E
  intro w43 n43 s43 d43 E
  clear d43
  simp only [Act.put,q1,q2,q3]
  refine LV (v := .tuple #[.agg #[.bool n43, s43], .int .i64 0]) rfl (run_move rfl rfl) ?_
  simp only [Act.put,q1,q2,q3]
  refine LV (v := .agg #[.bool n43, s43]) rfl (run_extract (vs := [.agg #[.bool n43, s43], .int .i64 0]) rfl rfl rfl) ?_
  simp only [Act.put,q1,q2,q3]
  refine LV (v := .int .i64 0) rfl (run_extract (vs := [.agg #[.bool n43, s43], .int .i64 0]) rfl rfl rfl) ?_
  simp only [Act.put,q1,q2,q3]
  refine L1 rfl (Oper.wp_alloc AgI rfl ?_)
  intro b44 w44 e44 z44 d44 x44
  have l44_0 : b31 < b44 := by rw [e44]; exact Bx.lt (E.2.2.2.1)
  replace E := E.below d44
  clear e44 z44 d44
  simp only [Act.put,q1,q2,q3]
  refine L1 rfl (Oper.wp_store AgI rfl rfl rfl x44 rfl rfl (IsI.one (E.1)) ?_)
  intro w45 o45 y45
  replace E := (E.onl (x44.noW now0) ⟨trivial, trivial, trivial, okB (by omega), trivial, trivial, okB (by omega), trivial, okB (by omega), trivial, okB (by omega), trivial, okB (by omega), trivial, okB (by omega), trivial, okB (by omega), trivial, okX (by omega), okX (by omega), okX (by omega), okW (by omega), trivial⟩ o45).b y45
  clear x44 o45 y45
  simp only [Act.put]
  refine LV (v := .int .i64 0) rfl (run_assign rfl rfl) ?_
  simp only [Act.put,q1,q2,q3]
  refine wpList_nil ?_
  change Code.wp _ _ _ _ _
  refine wp_seq ?_
  refine wp_seq ?_
  -- region 17
  refine wp_region_lit ?_
  refine LV (v := .pointer (some ⟨b6, 0, none⟩)) rfl (run_fieldI0 rfl rfl) ?_
  simp only [Act.put,q1,q2,q3]
  refine LV (v := .bool false) rfl (run_cell rfl isAgg_bool rfl (E.2.2.2.2.2.2.2.2.2.2.2.2.2.2.2.2.2.1) rfl) ?_
  simp only [Act.put,q1,q2,q3]
  refine wpList_nil ?_
  change Code.wp _ _ _ _ _
  refine wp_cond_false rfl ?_
  refine wp_skip ?_
  change Code.wp _ _ _ _ _
  refine wp_seq ?_
  -- region 19
  refine wp_region_lit ?_
  refine LV (v := .agg #[.bool n43, s43]) rfl (run_load_bx AgI rfl rfl (E.1) rfl) ?_
  simp only [Act.put,q1,q2,q3]
  refine LV (v := .int .i64 ((1 + k : Nat) : Int)) rfl (run_move rfl rfl) ?_
  simp only [Act.put,q1,q2,q3]
  refine L1 rfl (Oper.wp_callIE fn_integer_Pow rfl (Pow_z _ ((r : Nat) : Int) (1 + k) _ (E.2.1) (by omega) (Fits.mono Fr (by decide)) (Nat.le_trans (pow_b (k := 20) Fr (by omega) (by decide)) (by decide))) rfl E ?_)
  clear E
  intro w47 n47 s47 d47 E
  clear d47
  simp only [Act.put,q1,q2,q3]
  have F46 : Fits (((r : Nat) : Int) ^ (1 + k)) 80 := pow_b' (n := 1 + k) (k := 20) Fr (by omega) (by decide)
  refine LV (v := .tuple #[.agg #[.bool n47, s47], .int .i64 0]) rfl (run_move rfl rfl) ?_
  simp only [Act.put,q1,q2,q3]
  refine LV (v := .agg #[.bool n47, s47]) rfl (run_extract (vs := [.agg #[.bool n47, s47], .int .i64 0]) rfl rfl rfl) ?_
  simp only [Act.put,q1,q2,q3]
  refine LV (v := .int .i64 0) rfl (run_extract (vs := [.agg #[.bool n47, s47], .int .i64 0]) rfl rfl rfl) ?_
  simp only [Act.put,q1,q2,q3]
  refine L1 rfl (Oper.wp_alloc AgI rfl ?_)
  intro b48 w48 e48 z48 d48 x48
  have l48_0 : b44 < b48 := by rw [e48]; exact Bx.lt (E.2.1)
  replace E := E.below d48
  clear e48 z48 d48
  simp only [Act.put,q1,q2,q3]
  refine L1 rfl (Oper.wp_store AgI rfl rfl rfl x48 rfl rfl (IsI.one (E.1)) ?_)
  intro w49 o49 y49
  replace E := (E.onl (x48.noW now0) ⟨trivial, okB (by omega), trivial, trivial, trivial, okB (by omega), trivial, trivial, okB (by omega), trivial, okB (by omega), trivial, okB (by omega), trivial, okB (by omega), trivial, okB (by omega), trivial, okB (by omega), trivial, okX (by omega), okX (by omega), okX (by omega), okW (by omega), trivial⟩ o49).b y49
  clear x48 o49 y49
  simp only [Act.put]
  refine LV (v := .int .i64 0) rfl (run_assign rfl rfl) ?_
  simp only [Act.put,q1,q2,q3]
  refine wpList_nil ?_
  change Code.wp _ _ _ _ _
  refine wp_seq ?_
  -- region 20
  refine wp_cut (fun az w' => ∃ (nU1 : Bool) (sU1 : Value) (nU2 : Bool) (sU2 : Value) (nU4 : Bool) (sU4 : Value) (bU8 : Nat), az = ⟨#[.agg #[.bool na, sa], .agg #[.bool nb, sb], .agg #[.int .u8 ((u0 : Nat) : Int), .int .u8 ((u1 : Nat) : Int), .int .u8 ((u2 : Nat) : Int)], .pointer (some ⟨b1, 0, none⟩), .pointer (some ⟨b2, 0, none⟩), .pointer (some ⟨b3, 0, none⟩), .bool false, .bool true, .pointer (some ⟨b6, 0, none⟩), .pointer (some ⟨b9, 0, none⟩), .int .i64 ((m : Nat) : Int), .int .i64 ((l : Nat) : Int), .int .i64 ((1 + k : Nat) : Int), .pointer (some ⟨b13, 0, none⟩), .int .i64 0, .pointer (some ⟨b17, 0, none⟩), .int .i64 0, .pointer (some ⟨b21, 0, none⟩), .int .i64 0, .pointer (some ⟨b25, 0, none⟩), .int .i64 0, .pointer (some ⟨b31, 0, none⟩), .int .i64 0, .pointer (some ⟨b44, 0, none⟩), .int .i64 0, .pointer (some ⟨b48, 0, none⟩), .int .i64 0, .pointer (some ⟨bU8, 0, none⟩), .int .i64 0, .bool true, .bool true, .bool false, .agg #[.bool na, sa], .agg #[.bool false, s5], .agg #[.bool nb, sb], .agg #[.bool n8, s8], .pointer (some ⟨b3, 0 + 0 * 1, none⟩), .int .u8 ((u0 : Nat) : Int), .int .u8 ((m : Nat) : Int), .int .i64 ((m : Nat) : Int), .pointer (some ⟨b3, 0 + 1 * 1, none⟩), .int .u8 ((u1 : Nat) : Int), .int .u8 ((l : Nat) : Int), .int .i64 ((l : Nat) : Int), .pointer (some ⟨b3, 0 + 2 * 1, none⟩), .int .u8 ((u2 : Nat) : Int), .int .u8 ((k : Nat) : Int), .int .i64 ((k : Nat) : Int), .int .i64 ((1 + k : Nat) : Int), .tuple #[.agg #[.bool n12, s12], .int .i64 0], .agg #[.bool false, s5], .int .i64 ((m : Nat) : Int), .tuple #[.agg #[.bool n12, s12], .int .i64 0], .agg #[.bool n12, s12], .int .i64 0, .tuple #[.agg #[.bool n16, s16], .int .i64 0], .agg #[.bool false, s5], .int .i64 ((l : Nat) : Int), .tuple #[.agg #[.bool n16, s16], .int .i64 0], .agg #[.bool n16, s16], .int .i64 0, .tuple #[.agg #[.bool n20, s20], .int .i64 0], .agg #[.bool false, s5], .int .i64 ((m : Nat) : Int), .int .i64 ((l : Nat) : Int), .int .i64 ((m + l : Nat) : Int), .tuple #[.agg #[.bool n20, s20], .int .i64 0], .agg #[.bool n20, s20], .int .i64 0, .tuple #[.agg #[.bool n24, s24], .int .i64 0], .agg #[.bool n8, s8], .int .i64 ((m : Nat) : Int), .tuple #[.agg #[.bool n24, s24], .int .i64 0], .agg #[.bool n24, s24], .int .i64 0, .tuple #[.agg #[.bool n30, s30], .int .i64 0], .agg #[.bool false, s5], .agg #[.bool n8, s8], .agg #[.bool n28, s28], .int .i64 ((m : Nat) : Int), .tuple #[.agg #[.bool n30, s30], .int .i64 0], .agg #[.bool n30, s30], .int .i64 0, .int .i64 0, .bool false, .bool false, .int .i64 0, .bool false, .bool false, .bool false, .int .i64 0, .bool false, .bool false, .bool false, .int .i64 0, .bool false, .bool false, .bool false, .int .i64 0, .bool false, .bool false, .bool false, .agg #[.bool n12, s12], .agg #[.bool n16, s16], .agg #[.bool n34, s34], .agg #[.bool n20, s20], .bool true, .bool false, .bool false, .bool false, .agg #[.bool n12, s12], .agg #[.bool n24, s24], .agg #[.bool n37, s37], .agg #[.bool n30, s30], .bool true, .bool false, .bool false, .tuple #[.agg #[.bool n43, s43], .int .i64 0], .agg #[.bool false, s5], .int .i64 ((1 + k : Nat) : Int), .tuple #[.agg #[.bool n43, s43], .int .i64 0], .agg #[.bool n43, s43], .int .i64 0, .pointer (some ⟨b6, 0, none⟩), .bool false, undef, undef, undef, undef, undef, undef, undef, undef, undef, undef, undef, undef, undef, undef, undef, undef, .tuple #[.agg #[.bool n47, s47], .int .i64 0], .agg #[.bool n43, s43], .int .i64 ((1 + k : Nat) : Int), .tuple #[.agg #[.bool n47, s47], .int .i64 0], .agg #[.bool n47, s47], .int .i64 0, .tuple #[.agg #[.bool nU4, sU4], .int .i64 0], .agg #[.bool n43, s43], .agg #[.bool nU1, sU1], .agg #[.bool nU2, sU2], .int .i64 ((1 + k : Nat) : Int), .tuple #[.agg #[.bool nU4, sU4], .int .i64 0], .agg #[.bool nU4, sU4], .int .i64 0, undef, undef, undef, undef, undef, undef, undef, undef, undef, undef, undef, undef, undef, undef, undef, undef, undef, undef, undef, undef, undef, undef, undef, undef, undef, undef, undef, undef, undef, undef, undef, undef, undef, undef], []⟩ ∧ Env w' [fB bU8 nU4 sU4, fI (.agg #[.bool nU4, sU4]) ((((r : Nat) : Int) + 1) ^ (1 + k)), fI (.agg #[.bool nU2, sU2]) (((r : Nat) : Int) + 1), fI (.agg #[.bool nU1, sU1]) 1, fB b48 n47 s47, fI (.agg #[.bool n47, s47]) (((r : Nat) : Int) ^ (1 + k)), fB b44 n43 s43, fI (.agg #[.bool n43, s43]) ((r : Nat) : Int), fI (.agg #[.bool n37, s37]) ((a ^ m) * (b ^ m)), fI (.agg #[.bool n34, s34]) ((a ^ m) * (a ^ l)), fB b31 n30 s30, fI (.agg #[.bool n30, s30]) ((a * b) ^ m), fI (.agg #[.bool n28, s28]) (a * b), fB b25 n24 s24, fI (.agg #[.bool n24, s24]) (b ^ m), fB b21 n20 s20, fI (.agg #[.bool n20, s20]) (a ^ (m + l)), fB b17 n16 s16, fI (.agg #[.bool n16, s16]) (a ^ l), fB b13 n12 s12, fI (.agg #[.bool n12, s12]) (a ^ m), fB b9 n8 s8, fI (.agg #[.bool n8, s8]) b, fB b6 false s5, fI (.agg #[.bool false, s5]) a, fX b3 (41) ([.int .u8 ((u0 : Nat) : Int), .int .u8 ((u1 : Nat) : Int), .int .u8 ((u2 : Nat) : Int)]), fX b2 (25) ([.bool nb, sb]), fX b1 (25) ([.bool na, sa]), fW w] ∧ b48 < bU8) ?_ ?_
  case refine_1 =>
   refine wp_heldE (by kernel_rfl) (#[false, false, false, false, false, false, false, false, false, false, false]) 11 rfl rfl (l := [fB b48 n47 s47, fI (.agg #[.bool n47, s47]) (((r : Nat) : Int) ^ (1 + k)), fB b44 n43 s43, fI (.agg #[.bool n43, s43]) ((r : Nat) : Int), fI (.agg #[.bool n37, s37]) ((a ^ m) * (b ^ m)), fI (.agg #[.bool n34, s34]) ((a ^ m) * (a ^ l)), fB b31 n30 s30, fI (.agg #[.bool n30, s30]) ((a * b) ^ m), fI (.agg #[.bool n28, s28]) (a * b), fB b25 n24 s24, fI (.agg #[.bool n24, s24]) (b ^ m), fB b21 n20 s20, fI (.agg #[.bool n20, s20]) (a ^ (m + l)), fB b17 n16 s16, fI (.agg #[.bool n16, s16]) (a ^ l), fB b13 n12 s12, fI (.agg #[.bool n12, s12]) (a ^ m), fB b9 n8 s8, fI (.agg #[.bool n8, s8]) b, fB b6 false s5, fI (.agg #[.bool false, s5]) a, fX b3 (41) ([.int .u8 ((u0 : Nat) : Int), .int .u8 ((u1 : Nat) : Int), .int .u8 ((u2 : Nat) : Int)]), fX b2 (25) ([.bool nb, sb]), fX b1 (25) ([.bool na, sa]), fW w]) ?_
   replace E := E.drew
   refine HP (i := 0) (o := ⟨some 148, _, _, _, _, _⟩) (v := .agg #[.bool n43, s43]) rfl (by kernel_rfl) (fun _ _ _ h => h) rfl (fun w hS => run_load_bx AgI rfl rfl (hS.2.2.1) rfl) (E) ?_
   simp only [Act.put,q1,q2,q3]
   refine HP (i := 3) (o := ⟨some 151, _, _, _, _, _⟩) (v := .int .i64 ((1 + k : Nat) : Int)) rfl (by kernel_rfl) (fun _ _ _ h => h) rfl (fun w hS => run_move rfl rfl) (E) ?_
   simp only [Act.put,q1,q2,q3]
   refine H2 (i := 1) (j := 8) (by kernel_rfl) ?_ ?_
   ·
    refine HE (o := ⟨some 149, _, _, _, _, _⟩) rfl rfl (Oper.wp_callI fn_elaw01_of rfl (of_z 1 _ (by decide) (by decide)) rfl E ?_)
    clear E
    intro wU1 nU1 sU1 dU1 E
    clear dU1
    refine ⟨E.2, ?_⟩
    simp only [Act.put,q1,q2,q3]
    refine H2 (i := 2) (j := 8) (by kernel_rfl) ?_ ?_
    ·
     refine HE (o := ⟨some 150, _, _, _, _, _⟩) rfl rfl (Oper.wp_callI fn_integer_Add rfl (Add_z _ _ ((r : Nat) : Int) 1 _ (E.2.2.2.2.1) (E.1) (Fits.mono Fr (by decide)) (Fits.mono (Fits_lt (m := 4) (by decide) : Fits 1 4) (by decide))) rfl E ?_)
     clear E
     intro wU2 nU2 sU2 dU2 E
     clear dU2
     refine ⟨E.2.2, ?_⟩
     simp only [Act.put,q1,q2,q3]
     refine H2 (i := 4) (j := 8) (by kernel_rfl) ?_ ?_
     ·
      refine HE (o := ⟨some 152, _, _, _, _, _⟩) rfl rfl (Oper.wp_callIE fn_integer_Pow rfl (Pow_z _ (((r : Nat) : Int) + 1) (1 + k) _ (E.1) (by omega) (Fits.mono (Fits_add Fr (Fits_lt (m := 4) (by decide) : Fits 1 4) (k := 4) (by decide) (by decide) : Fits (((r : Nat) : Int) + 1) 5) (by decide)) (Nat.le_trans (pow_b (k := 20) (Fits_add Fr (Fits_lt (m := 4) (by decide) : Fits 1 4) (k := 4) (by decide) (by decide) : Fits (((r : Nat) : Int) + 1) 5) (by omega) (by decide)) (by decide))) rfl E ?_)
      clear E
      intro wU4 nU4 sU4 dU4 E
      clear dU4
      refine ⟨E.2.2.2, ?_⟩
      simp only [Act.put,q1,q2,q3]
      refine HP (i := 5) (o := ⟨some 147, _, _, _, _, _⟩) (v := .tuple #[.agg #[.bool nU4, sU4], .int .i64 0]) rfl (by kernel_rfl) (fun _ _ _ h => h) rfl (fun w hS => run_move rfl rfl) (E.2.2.2) ?_
      simp only [Act.put,q1,q2,q3]
      refine HP (i := 6) (o := ⟨some 153, _, _, _, _, _⟩) (v := .agg #[.bool nU4, sU4]) rfl (by kernel_rfl) (fun _ _ _ h => h) rfl (fun w hS => run_extract (vs := [.agg #[.bool nU4, sU4], .int .i64 0]) rfl rfl rfl) (E.2.2.2) ?_
      simp only [Act.put,q1,q2,q3]
      refine HP (i := 7) (o := ⟨some 154, _, _, _, _, _⟩) (v := .int .i64 0) rfl (by kernel_rfl) (fun _ _ _ h => h) rfl (fun w hS => run_extract (vs := [.agg #[.bool nU4, sU4], .int .i64 0]) rfl rfl rfl) (E.2.2.2) ?_
      simp only [Act.put,q1,q2,q3]
      refine H1 (i := 8) (by kernel_rfl) ?_
      refine HE (o := ⟨some 27, _, _, _, _, _⟩) rfl rfl (Oper.wp_alloc AgI rfl ?_)
      intro bU8 wU8 eU8 zU8 dU8 xU8
      have lU8_0 : b48 < bU8 := by rw [eU8]; exact Bx.lt (E.2.2.2.1)
      replace E := E.below dU8
      clear eU8 zU8 dU8
      refine ⟨E.2.2.2, ?_⟩
      simp only [Act.put,q1,q2,q3]
      refine H1 (i := 9) (by kernel_rfl) ?_
      refine HE (o := ⟨none, _, _, _, _, _⟩) rfl rfl (Oper.wp_store AgI rfl rfl rfl xU8 rfl rfl (IsI.one (E.1)) ?_)
      intro wU9 oU9 yU9
      replace E := (E.onl (xU8.noW now0) ⟨trivial, trivial, trivial, okB (by omega), trivial, okB (by omega), trivial, trivial, trivial, okB (by omega), trivial, trivial, okB (by omega), trivial, okB (by omega), trivial, okB (by omega), trivial, okB (by omega), trivial, okB (by omega), trivial, okB (by omega), trivial, okX (by omega), okX (by omega), okX (by omega), okW (by omega), trivial⟩ oU9).b yU9
      clear xU8 oU9 yU9
      refine ⟨E.2.2.2.2, ?_⟩
      simp only [Act.put]
      refine HP (i := 10) (o := ⟨some 28, _, _, _, _, _⟩) (v := .int .i64 0) rfl (by kernel_rfl) (fun _ _ _ h => h) rfl (fun w hS => run_assign rfl rfl) (E.2.2.2.2) ?_
      simp only [Act.put,q1,q2,q3]
      refine HN (by kernel_rfl) ?_
      exact ⟨nU1, sU1, nU2, sU2, nU4, sU4, bU8, rfl, (Env.b (Env.i (Env.i (Env.i (Env.b (Env.i (Env.b (Env.i (Env.i (Env.i (Env.b (Env.i (Env.i (Env.b (Env.i (Env.b (Env.i (Env.b (Env.i (Env.b (Env.i (Env.b (Env.i (Env.b (Env.i (Env.x (Env.x (Env.x (Env.ww (Env.nil _) (E.2.2.2.2.2.2.2.2.2.2.2.2.2.2.2.2.2.2.2.2.2.2.2.2.2.2.2.2.1)) (E.2.2.2.2.2.2.2.2.2.2.2.2.2.2.2.2.2.2.2.2.2.2.2.2.2.2.2.1)) (E.2.2.2.2.2.2.2.2.2.2.2.2.2.2.2.2.2.2.2.2.2.2.2.2.2.2.1)) (E.2.2.2.2.2.2.2.2.2.2.2.2.2.2.2.2.2.2.2.2.2.2.2.2.2.1)) (E.2.2.2.2.2.2.2.2.2.2.2.2.2.2.2.2.2.2.2.2.2.2.2.2.1)) (E.2.2.2.2.2.2.2.2.2.2.2.2.2.2.2.2.2.2.2.2.2.2.2.1)) (E.2.2.2.2.2.2.2.2.2.2.2.2.2.2.2.2.2.2.2.2.2.2.1)) (E.2.2.2.2.2.2.2.2.2.2.2.2.2.2.2.2.2.2.2.2.2.1)) (E.2.2.2.2.2.2.2.2.2.2.2.2.2.2.2.2.2.2.2.2.1)) (E.2.2.2.2.2.2.2.2.2.2.2.2.2.2.2.2.2.2.2.1)) (E.2.2.2.2.2.2.2.2.2.2.2.2.2.2.2.2.2.2.1)) (E.2.2.2.2.2.2.2.2.2.2.2.2.2.2.2.2.2.1)) (E.2.2.2.2.2.2.2.2.2.2.2.2.2.2.2.2.1)) (E.2.2.2.2.2.2.2.2.2.2.2.2.2.2.2.1)) (E.2.2.2.2.2.2.2.2.2.2.2.2.2.2.1)) (E.2.2.2.2.2.2.2.2.2.2.2.2.2.1)) (E.2.2.2.2.2.2.2.2.2.2.2.2.1)) (E.2.2.2.2.2.2.2.2.2.2.2.1)) (E.2.2.2.2.2.2.2.2.2.2.1)) (E.2.2.2.2.2.2.2.2.2.1)) (E.2.2.2.2.2.2.2.2.1)) (E.2.2.2.2.2.2.2.1)) (E.2.2.2.2.2.2.1)) (E.2.2.2.2.2.1)) (E.2.2.2.2.1)) (E.2.2.2.1)) (E.2.2.1)) (E.2.1)) (E.1)), by omega⟩
     ·
      refine HE (o := ⟨some 27, _, _, _, _, _⟩) rfl rfl (Oper.wp_alloc AgI rfl ?_)
      intro bU8 wU8 eU8 zU8 dU8 xU8
      have lU8_0 : b48 < bU8 := by rw [eU8]; exact Bx.lt (E.2.2.1)
      replace E := E.below dU8
      clear eU8 zU8 dU8
      refine ⟨E.2.2, ?_⟩
      simp only [Act.put,q1,q2,q3]
      refine H1 (i := 4) (by kernel_rfl) ?_
      refine HE (o := ⟨some 152, _, _, _, _, _⟩) rfl rfl (Oper.wp_callIE fn_integer_Pow rfl (Pow_z _ (((r : Nat) : Int) + 1) (1 + k) _ (E.1) (by omega) (Fits.mono (Fits_add Fr (Fits_lt (m := 4) (by decide) : Fits 1 4) (k := 4) (by decide) (by decide) : Fits (((r : Nat) : Int) + 1) 5) (by decide)) (Nat.le_trans (pow_b (k := 20) (Fits_add Fr (Fits_lt (m := 4) (by decide) : Fits 1 4) (k := 4) (by decide) (by decide) : Fits (((r : Nat) : Int) + 1) 5) (by omega) (by decide)) (by decide))) rfl E ?_)
      clear E
      intro wU4 nU4 sU4 dU4 E
      replace xU8 := xU8.below dU4
      clear dU4
      refine ⟨E.2.2.2, ?_⟩
      simp only [Act.put,q1,q2,q3]
      refine HP (i := 5) (o := ⟨some 147, _, _, _, _, _⟩) (v := .tuple #[.agg #[.bool nU4, sU4], .int .i64 0]) rfl (by kernel_rfl) (fun _ _ _ h => h) rfl (fun w hS => run_move rfl rfl) (E.2.2.2) ?_
      simp only [Act.put,q1,q2,q3]
      refine HP (i := 6) (o := ⟨some 153, _, _, _, _, _⟩) (v := .agg #[.bool nU4, sU4]) rfl (by kernel_rfl) (fun _ _ _ h => h) rfl (fun w hS => run_extract (vs := [.agg #[.bool nU4, sU4], .int .i64 0]) rfl rfl rfl) (E.2.2.2) ?_
      simp only [Act.put,q1,q2,q3]
      refine HP (i := 7) (o := ⟨some 154, _, _, _, _, _⟩) (v := .int .i64 0) rfl (by kernel_rfl) (fun _ _ _ h => h) rfl (fun w hS => run_extract (vs := [.agg #[.bool nU4, sU4], .int .i64 0]) rfl rfl rfl) (E.2.2.2) ?_
      simp only [Act.put,q1,q2,q3]
      refine H1 (i := 9) (by kernel_rfl) ?_
      refine HE (o := ⟨none, _, _, _, _, _⟩) rfl rfl (Oper.wp_store AgI rfl rfl rfl xU8 rfl rfl (IsI.one (E.1)) ?_)
      intro wU9 oU9 yU9
      replace E := (E.onl (xU8.noW now0) ⟨trivial, trivial, trivial, okB (by omega), trivial, okB (by omega), trivial, trivial, trivial, okB (by omega), trivial, trivial, okB (by omega), trivial, okB (by omega), trivial, okB (by omega), trivial, okB (by omega), trivial, okB (by omega), trivial, okB (by omega), trivial, okX (by omega), okX (by omega), okX (by omega), okW (by omega), trivial⟩ oU9).b yU9
      clear xU8 oU9 yU9
      refine ⟨E.2.2.2.2, ?_⟩
      simp only [Act.put]
      refine HP (i := 10) (o := ⟨some 28, _, _, _, _, _⟩) (v := .int .i64 0) rfl (by kernel_rfl) (fun _ _ _ h => h) rfl (fun w hS => run_assign rfl rfl) (E.2.2.2.2) ?_
      simp only [Act.put,q1,q2,q3]
      refine HN (by kernel_rfl) ?_
      exact ⟨nU1, sU1, nU2, sU2, nU4, sU4, bU8, rfl, (Env.b (Env.i (Env.i (Env.i (Env.b (Env.i (Env.b (Env.i (Env.i (Env.i (Env.b (Env.i (Env.i (Env.b (Env.i (Env.b (Env.i (Env.b (Env.i (Env.b (Env.i (Env.b (Env.i (Env.b (Env.i (Env.x (Env.x (Env.x (Env.ww (Env.nil _) (E.2.2.2.2.2.2.2.2.2.2.2.2.2.2.2.2.2.2.2.2.2.2.2.2.2.2.2.2.1)) (E.2.2.2.2.2.2.2.2.2.2.2.2.2.2.2.2.2.2.2.2.2.2.2.2.2.2.2.1)) (E.2.2.2.2.2.2.2.2.2.2.2.2.2.2.2.2.2.2.2.2.2.2.2.2.2.2.1)) (E.2.2.2.2.2.2.2.2.2.2.2.2.2.2.2.2.2.2.2.2.2.2.2.2.2.1)) (E.2.2.2.2.2.2.2.2.2.2.2.2.2.2.2.2.2.2.2.2.2.2.2.2.1)) (E.2.2.2.2.2.2.2.2.2.2.2.2.2.2.2.2.2.2.2.2.2.2.2.1)) (E.2.2.2.2.2.2.2.2.2.2.2.2.2.2.2.2.2.2.2.2.2.2.1)) (E.2.2.2.2.2.2.2.2.2.2.2.2.2.2.2.2.2.2.2.2.2.1)) (E.2.2.2.2.2.2.2.2.2.2.2.2.2.2.2.2.2.2.2.2.1)) (E.2.2.2.2.2.2.2.2.2.2.2.2.2.2.2.2.2.2.2.1)) (E.2.2.2.2.2.2.2.2.2.2.2.2.2.2.2.2.2.2.1)) (E.2.2.2.2.2.2.2.2.2.2.2.2.2.2.2.2.2.1)) (E.2.2.2.2.2.2.2.2.2.2.2.2.2.2.2.2.1)) (E.2.2.2.2.2.2.2.2.2.2.2.2.2.2.2.1)) (E.2.2.2.2.2.2.2.2.2.2.2.2.2.2.1)) (E.2.2.2.2.2.2.2.2.2.2.2.2.2.1)) (E.2.2.2.2.2.2.2.2.2.2.2.2.1)) (E.2.2.2.2.2.2.2.2.2.2.2.1)) (E.2.2.2.2.2.2.2.2.2.2.1)) (E.2.2.2.2.2.2.2.2.2.1)) (E.2.2.2.2.2.2.2.2.1)) (E.2.2.2.2.2.2.2.1)) (E.2.2.2.2.2.2.1)) (E.2.2.2.2.2.1)) (E.2.2.2.2.1)) (E.2.2.2.1)) (E.2.2.1)) (E.2.1)) (E.1)), by omega⟩
    ·
     refine HE (o := ⟨some 27, _, _, _, _, _⟩) rfl rfl (Oper.wp_alloc AgI rfl ?_)
     intro bU8 wU8 eU8 zU8 dU8 xU8
     have lU8_0 : b48 < bU8 := by rw [eU8]; exact Bx.lt (E.2.1)
     replace E := E.below dU8
     clear eU8 zU8 dU8
     refine ⟨E.2, ?_⟩
     simp only [Act.put,q1,q2,q3]
     refine H1 (i := 2) (by kernel_rfl) ?_
     refine HE (o := ⟨some 150, _, _, _, _, _⟩) rfl rfl (Oper.wp_callI fn_integer_Add rfl (Add_z _ _ ((r : Nat) : Int) 1 _ (E.2.2.2.2.1) (E.1) (Fits.mono Fr (by decide)) (Fits.mono (Fits_lt (m := 4) (by decide) : Fits 1 4) (by decide))) rfl E ?_)
     clear E
     intro wU2 nU2 sU2 dU2 E
     replace xU8 := xU8.below dU2
     clear dU2
     refine ⟨E.2.2, ?_⟩
     simp only [Act.put,q1,q2,q3]
     refine H1 (i := 4) (by kernel_rfl) ?_
     refine HE (o := ⟨some 152, _, _, _, _, _⟩) rfl rfl (Oper.wp_callIE fn_integer_Pow rfl (Pow_z _ (((r : Nat) : Int) + 1) (1 + k) _ (E.1) (by omega) (Fits.mono (Fits_add Fr (Fits_lt (m := 4) (by decide) : Fits 1 4) (k := 4) (by decide) (by decide) : Fits (((r : Nat) : Int) + 1) 5) (by decide)) (Nat.le_trans (pow_b (k := 20) (Fits_add Fr (Fits_lt (m := 4) (by decide) : Fits 1 4) (k := 4) (by decide) (by decide) : Fits (((r : Nat) : Int) + 1) 5) (by omega) (by decide)) (by decide))) rfl E ?_)
     clear E
     intro wU4 nU4 sU4 dU4 E
     replace xU8 := xU8.below dU4
     clear dU4
     refine ⟨E.2.2.2, ?_⟩
     simp only [Act.put,q1,q2,q3]
     refine HP (i := 5) (o := ⟨some 147, _, _, _, _, _⟩) (v := .tuple #[.agg #[.bool nU4, sU4], .int .i64 0]) rfl (by kernel_rfl) (fun _ _ _ h => h) rfl (fun w hS => run_move rfl rfl) (E.2.2.2) ?_
     simp only [Act.put,q1,q2,q3]
     refine HP (i := 6) (o := ⟨some 153, _, _, _, _, _⟩) (v := .agg #[.bool nU4, sU4]) rfl (by kernel_rfl) (fun _ _ _ h => h) rfl (fun w hS => run_extract (vs := [.agg #[.bool nU4, sU4], .int .i64 0]) rfl rfl rfl) (E.2.2.2) ?_
     simp only [Act.put,q1,q2,q3]
     refine HP (i := 7) (o := ⟨some 154, _, _, _, _, _⟩) (v := .int .i64 0) rfl (by kernel_rfl) (fun _ _ _ h => h) rfl (fun w hS => run_extract (vs := [.agg #[.bool nU4, sU4], .int .i64 0]) rfl rfl rfl) (E.2.2.2) ?_
     simp only [Act.put,q1,q2,q3]
     refine H1 (i := 9) (by kernel_rfl) ?_
     refine HE (o := ⟨none, _, _, _, _, _⟩) rfl rfl (Oper.wp_store AgI rfl rfl rfl xU8 rfl rfl (IsI.one (E.1)) ?_)
     intro wU9 oU9 yU9
     replace E := (E.onl (xU8.noW now0) ⟨trivial, trivial, trivial, okB (by omega), trivial, okB (by omega), trivial, trivial, trivial, okB (by omega), trivial, trivial, okB (by omega), trivial, okB (by omega), trivial, okB (by omega), trivial, okB (by omega), trivial, okB (by omega), trivial, okB (by omega), trivial, okX (by omega), okX (by omega), okX (by omega), okW (by omega), trivial⟩ oU9).b yU9
     clear xU8 oU9 yU9
     refine ⟨E.2.2.2.2, ?_⟩
     simp only [Act.put]
     refine HP (i := 10) (o := ⟨some 28, _, _, _, _, _⟩) (v := .int .i64 0) rfl (by kernel_rfl) (fun _ _ _ h => h) rfl (fun w hS => run_assign rfl rfl) (E.2.2.2.2) ?_
     simp only [Act.put,q1,q2,q3]
     refine HN (by kernel_rfl) ?_
     exact ⟨nU1, sU1, nU2, sU2, nU4, sU4, bU8, rfl, (Env.b (Env.i (Env.i (Env.i (Env.b (Env.i (Env.b (Env.i (Env.i (Env.i (Env.b (Env.i (Env.i (Env.b (Env.i (Env.b (Env.i (Env.b (Env.i (Env.b (Env.i (Env.b (Env.i (Env.b (Env.i (Env.x (Env.x (Env.x (Env.ww (Env.nil _) (E.2.2.2.2.2.2.2.2.2.2.2.2.2.2.2.2.2.2.2.2.2.2.2.2.2.2.2.2.1)) (E.2.2.2.2.2.2.2.2.2.2.2.2.2.2.2.2.2.2.2.2.2.2.2.2.2.2.2.1)) (E.2.2.2.2.2.2.2.2.2.2.2.2.2.2.2.2.2.2.2.2.2.2.2.2.2.2.1)) (E.2.2.2.2.2.2.2.2.2.2.2.2.2.2.2.2.2.2.2.2.2.2.2.2.2.1)) (E.2.2.2.2.2.2.2.2.2.2.2.2.2.2.2.2.2.2.2.2.2.2.2.2.1)) (E.2.2.2.2.2.2.2.2.2.2.2.2.2.2.2.2.2.2.2.2.2.2.2.1)) (E.2.2.2.2.2.2.2.2.2.2.2.2.2.2.2.2.2.2.2.2.2.2.1)) (E.2.2.2.2.2.2.2.2.2.2.2.2.2.2.2.2.2.2.2.2.2.1)) (E.2.2.2.2.2.2.2.2.2.2.2.2.2.2.2.2.2.2.2.2.1)) (E.2.2.2.2.2.2.2.2.2.2.2.2.2.2.2.2.2.2.2.1)) (E.2.2.2.2.2.2.2.2.2.2.2.2.2.2.2.2.2.2.1)) (E.2.2.2.2.2.2.2.2.2.2.2.2.2.2.2.2.2.1)) (E.2.2.2.2.2.2.2.2.2.2.2.2.2.2.2.2.1)) (E.2.2.2.2.2.2.2.2.2.2.2.2.2.2.2.1)) (E.2.2.2.2.2.2.2.2.2.2.2.2.2.2.1)) (E.2.2.2.2.2.2.2.2.2.2.2.2.2.1)) (E.2.2.2.2.2.2.2.2.2.2.2.2.1)) (E.2.2.2.2.2.2.2.2.2.2.2.1)) (E.2.2.2.2.2.2.2.2.2.2.1)) (E.2.2.2.2.2.2.2.2.2.1)) (E.2.2.2.2.2.2.2.2.1)) (E.2.2.2.2.2.2.2.1)) (E.2.2.2.2.2.2.1)) (E.2.2.2.2.2.1)) (E.2.2.2.2.1)) (E.2.2.2.1)) (E.2.2.1)) (E.2.1)) (E.1)), by omega⟩
   ·
    refine HE (o := ⟨some 27, _, _, _, _, _⟩) rfl rfl (Oper.wp_alloc AgI rfl ?_)
    intro bU8 wU8 eU8 zU8 dU8 xU8
    have lU8_0 : b48 < bU8 := by rw [eU8]; exact Bx.lt (E.1)
    replace E := E.below dU8
    clear eU8 zU8 dU8
    refine ⟨E, ?_⟩
    simp only [Act.put,q1,q2,q3]
    refine H1 (i := 1) (by kernel_rfl) ?_
    refine HE (o := ⟨some 149, _, _, _, _, _⟩) rfl rfl (Oper.wp_callI fn_elaw01_of rfl (of_z 1 _ (by decide) (by decide)) rfl E ?_)
    clear E
    intro wU1 nU1 sU1 dU1 E
    replace xU8 := xU8.below dU1
    clear dU1
    refine ⟨E.2, ?_⟩
    simp only [Act.put,q1,q2,q3]
    refine H1 (i := 2) (by kernel_rfl) ?_
    refine HE (o := ⟨some 150, _, _, _, _, _⟩) rfl rfl (Oper.wp_callI fn_integer_Add rfl (Add_z _ _ ((r : Nat) : Int) 1 _ (E.2.2.2.2.1) (E.1) (Fits.mono Fr (by decide)) (Fits.mono (Fits_lt (m := 4) (by decide) : Fits 1 4) (by decide))) rfl E ?_)
    clear E
    intro wU2 nU2 sU2 dU2 E
    replace xU8 := xU8.below dU2
    clear dU2
    refine ⟨E.2.2, ?_⟩
    simp only [Act.put,q1,q2,q3]
    refine H1 (i := 4) (by kernel_rfl) ?_
    refine HE (o := ⟨some 152, _, _, _, _, _⟩) rfl rfl (Oper.wp_callIE fn_integer_Pow rfl (Pow_z _ (((r : Nat) : Int) + 1) (1 + k) _ (E.1) (by omega) (Fits.mono (Fits_add Fr (Fits_lt (m := 4) (by decide) : Fits 1 4) (k := 4) (by decide) (by decide) : Fits (((r : Nat) : Int) + 1) 5) (by decide)) (Nat.le_trans (pow_b (k := 20) (Fits_add Fr (Fits_lt (m := 4) (by decide) : Fits 1 4) (k := 4) (by decide) (by decide) : Fits (((r : Nat) : Int) + 1) 5) (by omega) (by decide)) (by decide))) rfl E ?_)
    clear E
    intro wU4 nU4 sU4 dU4 E
    replace xU8 := xU8.below dU4
    clear dU4
    refine ⟨E.2.2.2, ?_⟩
    simp only [Act.put,q1,q2,q3]
    refine HP (i := 5) (o := ⟨some 147, _, _, _, _, _⟩) (v := .tuple #[.agg #[.bool nU4, sU4], .int .i64 0]) rfl (by kernel_rfl) (fun _ _ _ h => h) rfl (fun w hS => run_move rfl rfl) (E.2.2.2) ?_
    simp only [Act.put,q1,q2,q3]
    refine HP (i := 6) (o := ⟨some 153, _, _, _, _, _⟩) (v := .agg #[.bool nU4, sU4]) rfl (by kernel_rfl) (fun _ _ _ h => h) rfl (fun w hS => run_extract (vs := [.agg #[.bool nU4, sU4], .int .i64 0]) rfl rfl rfl) (E.2.2.2) ?_
    simp only [Act.put,q1,q2,q3]
    refine HP (i := 7) (o := ⟨some 154, _, _, _, _, _⟩) (v := .int .i64 0) rfl (by kernel_rfl) (fun _ _ _ h => h) rfl (fun w hS => run_extract (vs := [.agg #[.bool nU4, sU4], .int .i64 0]) rfl rfl rfl) (E.2.2.2) ?_
    simp only [Act.put,q1,q2,q3]
    refine H1 (i := 9) (by kernel_rfl) ?_
    refine HE (o := ⟨none, _, _, _, _, _⟩) rfl rfl (Oper.wp_store AgI rfl rfl rfl xU8 rfl rfl (IsI.one (E.1)) ?_)
    intro wU9 oU9 yU9
    replace E := (E.onl (xU8.noW now0) ⟨trivial, trivial, trivial, okB (by omega), trivial, okB (by omega), trivial, trivial, trivial, okB (by omega), trivial, trivial, okB (by omega), trivial, okB (by omega), trivial, okB (by omega), trivial, okB (by omega), trivial, okB (by omega), trivial, okB (by omega), trivial, okX (by omega), okX (by omega), okX (by omega), okW (by omega), trivial⟩ oU9).b yU9
    clear xU8 oU9 yU9
    refine ⟨E.2.2.2.2, ?_⟩
    simp only [Act.put]
    refine HP (i := 10) (o := ⟨some 28, _, _, _, _, _⟩) (v := .int .i64 0) rfl (by kernel_rfl) (fun _ _ _ h => h) rfl (fun w hS => run_assign rfl rfl) (E.2.2.2.2) ?_
    simp only [Act.put,q1,q2,q3]
    refine HN (by kernel_rfl) ?_
    exact ⟨nU1, sU1, nU2, sU2, nU4, sU4, bU8, rfl, (Env.b (Env.i (Env.i (Env.i (Env.b (Env.i (Env.b (Env.i (Env.i (Env.i (Env.b (Env.i (Env.i (Env.b (Env.i (Env.b (Env.i (Env.b (Env.i (Env.b (Env.i (Env.b (Env.i (Env.b (Env.i (Env.x (Env.x (Env.x (Env.ww (Env.nil _) (E.2.2.2.2.2.2.2.2.2.2.2.2.2.2.2.2.2.2.2.2.2.2.2.2.2.2.2.2.1)) (E.2.2.2.2.2.2.2.2.2.2.2.2.2.2.2.2.2.2.2.2.2.2.2.2.2.2.2.1)) (E.2.2.2.2.2.2.2.2.2.2.2.2.2.2.2.2.2.2.2.2.2.2.2.2.2.2.1)) (E.2.2.2.2.2.2.2.2.2.2.2.2.2.2.2.2.2.2.2.2.2.2.2.2.2.1)) (E.2.2.2.2.2.2.2.2.2.2.2.2.2.2.2.2.2.2.2.2.2.2.2.2.1)) (E.2.2.2.2.2.2.2.2.2.2.2.2.2.2.2.2.2.2.2.2.2.2.2.1)) (E.2.2.2.2.2.2.2.2.2.2.2.2.2.2.2.2.2.2.2.2.2.2.1)) (E.2.2.2.2.2.2.2.2.2.2.2.2.2.2.2.2.2.2.2.2.2.1)) (E.2.2.2.2.2.2.2.2.2.2.2.2.2.2.2.2.2.2.2.2.1)) (E.2.2.2.2.2.2.2.2.2.2.2.2.2.2.2.2.2.2.2.1)) (E.2.2.2.2.2.2.2.2.2.2.2.2.2.2.2.2.2.2.1)) (E.2.2.2.2.2.2.2.2.2.2.2.2.2.2.2.2.2.1)) (E.2.2.2.2.2.2.2.2.2.2.2.2.2.2.2.2.1)) (E.2.2.2.2.2.2.2.2.2.2.2.2.2.2.2.1)) (E.2.2.2.2.2.2.2.2.2.2.2.2.2.2.1)) (E.2.2.2.2.2.2.2.2.2.2.2.2.2.1)) (E.2.2.2.2.2.2.2.2.2.2.2.2.1)) (E.2.2.2.2.2.2.2.2.2.2.2.1)) (E.2.2.2.2.2.2.2.2.2.2.1)) (E.2.2.2.2.2.2.2.2.2.1)) (E.2.2.2.2.2.2.2.2.1)) (E.2.2.2.2.2.2.2.1)) (E.2.2.2.2.2.2.1)) (E.2.2.2.2.2.1)) (E.2.2.2.2.1)) (E.2.2.2.1)) (E.2.2.1)) (E.2.1)) (E.1)), by omega⟩
  case refine_2 =>
   rintro _ wU10 ⟨nU1, sU1, nU2, sU2, nU4, sU4, bU8, rfl, E, qU10_0⟩
   change Code.wp _ _ _ _ _
   refine wp_seq ?_
   obtain rfl : n43 = false := (IsI.sign (E.2.2.2.2.2.2.2.1)).trans (decide_eq_false (by omega))
   -- region 21
   refine wp_region_lit ?_
   refine LV (v := .bool true) rfl (run_move rfl rfl) ?_
   simp only [Act.put,q1,q2,q3]
   refine LV (v := .bool true) rfl (run_move rfl rfl) ?_
   simp only [Act.put,q1,q2,q3]
   refine LV (v := .int .i64 0) rfl (run_move rfl rfl) ?_
   simp only [Act.put,q1,q2,q3]
   refine LV (v := .bool true) rfl (run_eqI (c := true) rfl rfl rfl (by decide)) ?_
   simp only [Act.put,q1,q2,q3]
   refine LV (v := .bool true) rfl (run_pick (b := true) rfl rfl rfl) ?_
   simp only [Act.put,q1,q2,q3]
   refine LV (v := .bool true) rfl (run_move rfl rfl) ?_
   simp only [Act.put,q1,q2,q3]
   refine LV (v := .int .i64 0) rfl (run_move rfl rfl) ?_
   simp only [Act.put,q1,q2,q3]
   refine LV (v := .bool true) rfl (run_eqI (c := true) rfl rfl rfl (by decide)) ?_
   simp only [Act.put,q1,q2,q3]
   refine LV (v := .bool true) rfl (run_pick (b := true) rfl rfl rfl) ?_
   simp only [Act.put,q1,q2,q3]
   refine LV (v := .bool true) rfl (run_move rfl rfl) ?_
   simp only [Act.put,q1,q2,q3]
   refine LV (v := .int .i64 0) rfl (run_move rfl rfl) ?_
   simp only [Act.put,q1,q2,q3]
   refine LV (v := .bool true) rfl (run_eqI (c := true) rfl rfl rfl (by decide)) ?_
   simp only [Act.put,q1,q2,q3]
   refine LV (v := .bool true) rfl (run_pick (b := true) rfl rfl rfl) ?_
   simp only [Act.put,q1,q2,q3]
   refine LV (v := .bool true) rfl (run_move rfl rfl) ?_
   simp only [Act.put,q1,q2,q3]
   refine LV (v := .agg #[.bool false, s43]) rfl (run_load_bx AgI rfl rfl (E.2.2.2.2.2.2.1) rfl) ?_
   simp only [Act.put,q1,q2,q3]
   refine L1 rfl (Oper.wp_callB fn_eref01_Valid rfl (RValid_z _ ((r : Nat) : Int) _ (E.2.2.2.2.2.2.2.1)) rfl E ?_)
   clear E
   intro w50 d50 E
   clear d50
   simp only [Act.put,q1,q2,q3]
   refine LV (v := .bool true) rfl (run_pick (b := true) rfl rfl rfl) ?_
   simp only [Act.put,q1,q2,q3]
   refine LV (v := .bool true) rfl (run_move rfl rfl) ?_
   simp only [Act.put,q1,q2,q3]
   refine LV (v := .pointer (some ⟨b44, 0, none⟩)) rfl (run_fieldI0 rfl rfl) ?_
   simp only [Act.put,q1,q2,q3]
   refine LV (v := .bool false) rfl (run_cell rfl isAgg_bool rfl (E.2.2.2.2.2.2.1) rfl) ?_
   simp only [Act.put,q1,q2,q3]
   refine LV (v := .bool true) rfl (run_not (b := false) rfl rfl) ?_
   simp only [Act.put,q1,q2,q3]
   refine LV (v := .bool true) rfl (run_pick (b := true) rfl rfl rfl) ?_
   simp only [Act.put,q1,q2,q3]
   refine LV (v := .bool true) rfl (run_move rfl rfl) ?_
   simp only [Act.put,q1,q2,q3]
   refine LV (v := .agg #[.bool n47, s47]) rfl (run_load_bx AgI rfl rfl (E.2.2.2.2.1) rfl) ?_
   simp only [Act.put,q1,q2,q3]
   refine LV (v := .agg #[.bool false, s5]) rfl (run_load_bx AgI rfl rfl (E.2.2.2.2.2.2.2.2.2.2.2.2.2.2.2.2.2.2.2.2.2.2.2.1) rfl) ?_
   simp only [Act.put,q1,q2,q3]
   refine L1 rfl (Oper.wp_callN fn_integer_Cmp rfl (Cmp_z _ _ (((r : Nat) : Int) ^ (1 + k)) a _ (E.2.2.2.2.2.1) (E.2.2.2.2.2.2.2.2.2.2.2.2.2.2.2.2.2.2.2.2.2.2.2.2.1)) rfl E ?_)
   clear E
   intro w51 d51 E
   clear d51
   simp only [Act.put,q1,q2,q3]
   refine LV (v := .bool true) rfl (run_leI (c := true) rfl rfl rfl (root_lo hr ha0)) ?_
   simp only [Act.put,q1,q2,q3]
   refine LV (v := .bool true) rfl (run_pick (b := true) rfl rfl rfl) ?_
   simp only [Act.put,q1,q2,q3]
   refine LV (v := .bool true) rfl (run_move rfl rfl) ?_
   simp only [Act.put,q1,q2,q3]
   refine LV (v := .agg #[.bool nU4, sU4]) rfl (run_load_bx AgI rfl rfl (E.1) rfl) ?_
   simp only [Act.put,q1,q2,q3]
   refine LV (v := .agg #[.bool false, s5]) rfl (run_load_bx AgI rfl rfl (E.2.2.2.2.2.2.2.2.2.2.2.2.2.2.2.2.2.2.2.2.2.2.2.1) rfl) ?_
   simp only [Act.put,q1,q2,q3]
   refine L1 rfl (Oper.wp_callN fn_integer_Cmp rfl (Cmp_z _ _ ((((r : Nat) : Int) + 1) ^ (1 + k)) a _ (E.2.1) (E.2.2.2.2.2.2.2.2.2.2.2.2.2.2.2.2.2.2.2.2.2.2.2.2.1)) rfl E ?_)
   clear E
   intro w52 d52 E
   clear d52
   simp only [Act.put,q1,q2,q3]
   refine LV (v := .bool true) rfl (run_gtI (c := true) rfl rfl rfl (root_hi hr ha0)) ?_
   simp only [Act.put,q1,q2,q3]
   refine LV (v := .bool true) rfl (run_pick (b := true) rfl rfl rfl) ?_
   simp only [Act.put,q1,q2,q3]
   refine LV (v := .bool true) rfl (run_assign rfl rfl) ?_
   simp only [Act.put,q1,q2,q3]
   refine wpList_nil ?_
   change Code.wp _ _ _ _ _
   refine wp_ret ?_
   exact bodyPost_ret (v := .bool true) (by simp [results, Try.results7, asAddr]) rfl ⟨rfl, E.2.2.2.2.2.2.2.2.2.2.2.2.2.2.2.2.2.2.2.2.2.2.2.2.2.2.2.2.1⟩
end Go.Proofs.Ytjgmfdenicbniaa
