/- The reference's power, Pow, Root, Bezout. (Printed by g_ref2.py.) -/
import Derived.Test.YtjgmfdenicbniaaRefA
import Derived.Test.YtjgmfdenicbniaaKitF
import Derived.Test.YtjgmfdenicbniaaLawB
namespace Go.Proofs.Ytjgmfdenicbniaa
open Go.RowKit W
theorem tdiv2 (n : Nat) : ((n : Nat) : Int).tdiv 2 = ((n / 2 : Nat) : Int) := by rw [Int.tdiv_eq_ediv_of_nonneg (by omega)]; simp
theorem i64_nat {a : Nat} {X : Int} (hX : X = (a : Int)) (h : a < 9223372036854775808) : IntKind.i64.wrap X = (a : Int) := wrap_nat hX h
theorem pow_0 {x : Int} {n : Nat} (h : n = 0) : (1 : Int) = x ^ n := by subst h; simp
theorem pow_h0 {x : Int} {n : Nat} (h : ¬ n % 2 = 1) : x ^ (n / 2) * x ^ (n / 2) = x ^ n := by rw [← Int.pow_add]; congr 1; omega
theorem pow_h1 {x : Int} {n : Nat} (h : n % 2 = 1) : x ^ (n / 2) * x ^ (n / 2) * x = x ^ n := by rw [← Int.pow_add, ← Int.pow_succ]; congr 1; omega
theorem Fits_pw {x : Int} {n p L : Nat} (h : PowFits x.natAbs n L) (hp : p ≤ n) : Fits (x ^ p) L := by unfold Fits; rw [Int.natAbs_pow]; exact h p hp
theorem Fits_p1 {x : Int} {n L : Nat} (h : PowFits x.natAbs n L) (hp : ¬ n = 0) : Fits x L := by have := Fits_pw h (p := 1) (by omega); rwa [Int.pow_one] at this
theorem PowFits.le {A n m L : Nat} (h : PowFits A n L) (hm : m ≤ n) : PowFits A m L := fun p hp => h p (Nat.le_trans hp hm)
set_option maxRecDepth 100000 in
set_option maxHeartbeats 4000000 in
theorem RPower_step (x : Int) (n : Nat) (va : Value) (w : World) (hva : IsI w va x) (IH : ∀ m, m < n → ∀ (va : Value) (w : World), IsI w va x → PowFits x.natAbs m 400000000 → m < 9223372036854775808 → Calls Try.prog 80 #[va, .int .i64 ((m : Nat) : Int)] w (RetZ w (x ^ m))) (hf : PowFits x.natAbs n 400000000) (hn9 : n < 9223372036854775808) :
    Calls Try.prog 80 #[va, .int .i64 ((n : Nat) : Int)] w (RetZ w (x ^ n)) := by
 have E := Env.start w
 obtain ⟨nva, sva, rfl, _, _⟩ := hva.sh
 replace E := E.i hva
 clear hva
 go_enter Try.func80, Try.ntmps80
 refine wp_seq ?_
 -- region 0
 refine RL ?_
 refine EF rfl (Oper.wp_box rfl rfl ?_)
 intro b1 w1 e1 z1 d1 x1
 have l1 : w.heap.size ≤ b1 := by rw [e1]; exact (E.2.1).size
 replace E := E.below d1
 clear e1 z1 d1
 replace E := E.b x1
 clear x1
 refine kw rfl ?_
 simp only [q2,q3]
 refine EF rfl (Oper.wp_alloc AgI rfl ?_)
 intro b2 w2 e2 z2 d2 x2
 have l2_0 : b1 < b2 := by rw [e2]; exact Bx.lt (E.1)
 replace E := E.below d2
 clear e2 z2 d2
 refine kw rfl ?_
 simp only [q2,q3]
 refine WN ?_
 change Code.wp _ _ _ _ _
 refine wp_seq ?_
 refine wp_seq ?_
 by_cases hn : n = 0
 case pos =>
  -- region 1
  refine RL ?_
  refine M rfl rfl rfl rfl rfl <| V rfl rfl (run_eqI (c := true) rfl rfl rfl (by rw [hn]; rfl)) <| ?_
  simp only [q2,q3]
  refine WN ?_
  change Code.wp _ _ _ _ _
  refine wp_cond_true rfl ?_
  refine wp_seq ?_
  -- region 2
  refine RL ?_
  refine EF rfl (Oper.wp_callI fn_eref01_Of rfl (ROf_z 1 _ (by decide) (by decide)) rfl E ?_)
  clear E
  intro w3 n3 s3 d3 E
  replace x2 := x2.below d3
  clear d3
  refine kw rfl ?_
  simp only [q2,q3]
  refine EF rfl (Oper.wp_store AgI rfl rfl rfl x2 rfl rfl (IsI.one (E.1)) ?_)
  intro w4 o4 y4
  replace E := (E.onl (x2.noW now0) ⟨trivial, okB (by omega), trivial, okW (by omega), trivial⟩ o4).b y4
  clear x2 o4 y4
  refine kn rfl ?_
  refine WN ?_
  change Code.wp _ _ _ _ _
  refine wp_ret ?_
  have r5 := res_box AgI (E.1) rfl
  exact bodyPost_ret (v := .agg #[.bool n3, s3]) (by simp [results, Try.results80, asAddr, r5]) rfl ⟨_, rfl, IsI.cong (pow_0 hn) (E.2.1), e4 E⟩
 case neg =>
  have Fx := Fits_p1 hf hn
  have Fh := Fits_pw hf (p := n / 2) (by omega)
  -- region 1
  refine RL ?_
  refine M rfl rfl rfl rfl rfl <| V rfl rfl (run_eqI (c := false) rfl rfl rfl (by rw [beq_eq_false_iff_ne]; omega)) <| ?_
  simp only [q2,q3]
  refine WN ?_
  change Code.wp _ _ _ _ _
  refine wp_cond_false rfl ?_
  refine wp_skip ?_
  change Code.wp _ _ _ _ _
  refine wp_seq ?_
  -- region 3
  refine RL ?_
  refine V rfl rfl (run_load_bx AgI rfl rfl (E.1) rfl) <| M rfl rfl rfl rfl rfl <| V (v := .int .i64 ((n / 2 : Nat) : Int)) rfl rfl (run_quoI rfl rfl rfl (by decide) (i64_nat (tdiv2 n) (by omega))) <| ?_
  simp only [q2,q3]
  refine EF rfl (Oper.wp_callI fn_eref01_power rfl (IH (n / 2) (by omega) _ _ (E.2.1) (hf.le (Nat.div_le_self _ _)) (by omega)) rfl E ?_)
  clear E
  intro w6 n6 s6 d6 E
  replace x2 := x2.below d6
  clear d6
  refine kw rfl ?_
  simp only [q2,q3]
  refine EF rfl (Oper.wp_alloc AgI rfl ?_)
  intro b7 w7 e7 z7 d7 x7
  have l7_0 : b2 < b7 := by rw [e7]; exact Bx.lt (x2)
  replace E := E.below d7
  replace x2 := Bx.below x2 d7
  clear e7 z7 d7
  refine kw rfl ?_
  simp only [q2,q3]
  refine EF rfl (Oper.wp_store AgI rfl rfl rfl x7 rfl rfl (IsI.one (E.1)) ?_)
  intro w8 o8 y8
  replace E := (E.onl (x7.noW now0) ⟨trivial, okB (by omega), trivial, okW (by omega), trivial⟩ o8).b y8
  replace x2 := Bx.onl x2 (by omega) o8
  clear x7 o8 y8
  refine kn rfl ?_
  refine WN ?_
  change Code.wp _ _ _ _ _
  refine wp_seq ?_
  -- region 4
  refine RL ?_
  refine V rfl rfl (run_load_bx AgI rfl rfl (E.1) rfl) <| V rfl rfl (run_load_bx AgI rfl rfl (E.1) rfl) <| ?_
  simp only [q2,q3]
  refine EF rfl (Oper.wp_callI fn_eref01_Mul rfl (RMul_z _ (x ^ (n / 2)) _ (x ^ (n / 2)) _ (E.2.1) (E.2.1) (Fits.mono Fh (by decide)) (Fits.mono Fh (by decide))) rfl E ?_)
  clear E
  intro w10 n10 s10 d10 E
  replace x2 := x2.below d10
  clear d10
  refine kw rfl ?_
  have F9 : Fits ((x ^ (n / 2)) * (x ^ (n / 2))) 800000000 := Fits_mul Fh Fh
  simp only [q2,q3]
  refine EF rfl (Oper.wp_alloc AgI rfl ?_)
  intro b11 w11 e11 z11 d11 x11
  have l11_0 : b7 < b11 := by rw [e11]; exact Bx.lt (E.2.1)
  replace E := E.below d11
  replace x2 := Bx.below x2 d11
  clear e11 z11 d11
  refine kw rfl ?_
  simp only [q2,q3]
  refine EF rfl (Oper.wp_store AgI rfl rfl rfl x11 rfl rfl (IsI.one (E.1)) ?_)
  intro w12 o12 y12
  replace E := (E.onl (x11.noW now0) ⟨trivial, okB (by omega), trivial, okB (by omega), trivial, okW (by omega), trivial⟩ o12).b y12
  replace x2 := Bx.onl x2 (by omega) o12
  clear x11 o12 y12
  refine kn rfl ?_
  refine WN ?_
  change Code.wp _ _ _ _ _
  refine wp_seq ?_
  refine wp_seq ?_
  by_cases hodd : n % 2 = 1
  case pos =>
   -- region 5
   refine RL ?_
   refine M rfl rfl rfl rfl rfl <| V (v := .int .i64 ((n % 2 : Nat) : Int)) rfl rfl (run_remI rfl rfl rfl (by decide) (tmod_nat n 2)) <| V rfl rfl (run_eqI (c := true) rfl rfl rfl (by rw [hodd]; rfl)) <| ?_
   simp only [q2,q3]
   refine WN ?_
   change Code.wp _ _ _ _ _
   refine wp_cond_true rfl ?_
   -- region 6
   refine RL ?_
   refine V rfl rfl (run_load_bx AgI rfl rfl (E.1) rfl) <| V rfl rfl (run_load_bx AgI rfl rfl (e4 E) rfl) <| ?_
   simp only [q2,q3]
   refine EF rfl (Oper.wp_callI fn_eref01_Mul rfl (RMul_z _ ((x ^ (n / 2)) * (x ^ (n / 2))) _ x _ (E.2.1) (e5 E) (Fits.mono F9 (by decide)) (Fits.mono Fx (by decide))) rfl E ?_)
   clear E
   intro w14 n14 s14 d14 E
   replace x2 := x2.below d14
   clear d14
   refine kw rfl ?_
   have F13 : Fits (((x ^ (n / 2)) * (x ^ (n / 2))) * x) 1200000000 := Fits_mul F9 Fx
   have x16 := E.2.1
   replace E := (E.2.2).i (E.1)
   simp only [q2,q3]
   refine EF rfl (Oper.wp_store AgI rfl rfl rfl x16 rfl rfl (IsI.one (E.1)) ?_)
   intro w15 o15 y15
   replace E := (E.onl (x16.noW (IsI.now (E.2.1))) ⟨trivial, trivial, okB (by omega), trivial, okB (by omega), trivial, okW (by omega), trivial⟩ o15).b y15
   replace x2 := Bx.onl x2 (by omega) o15
   clear x16 o15 y15
   refine kn rfl ?_
   refine WN ?_
   change Code.wp _ _ _ _ _
   refine wp_seq ?_
   -- region 7
   refine RL ?_
   refine V rfl rfl (run_load_bx AgI rfl rfl (E.1) rfl) <| ?_
   simp only [q2,q3]
   refine EF rfl (Oper.wp_store AgI rfl rfl rfl x2 rfl rfl (IsI.one (E.2.1)) ?_)
   intro w17 o17 y17
   replace E := (E.onl (x2.noW now0) ⟨okB (by omega), trivial, trivial, okB (by omega), trivial, okB (by omega), trivial, okW (by omega), trivial⟩ o17).b y17
   clear x2 o17 y17
   refine kn rfl ?_
   refine WN ?_
   change Code.wp _ _ _ _ _
   refine wp_ret ?_
   have r18 := res_box AgI (E.1) rfl
   exact bodyPost_ret (v := .agg #[.bool n14, s14]) (by simp [results, Try.results80, asAddr, r18]) rfl ⟨_, rfl, IsI.cong (pow_h1 hodd) (E.2.2.1), e8 E⟩
  case neg =>
   -- region 5
   refine RL ?_
   refine M rfl rfl rfl rfl rfl <| V (v := .int .i64 ((n % 2 : Nat) : Int)) rfl rfl (run_remI rfl rfl rfl (by decide) (tmod_nat n 2)) <| V rfl rfl (run_eqI (c := false) rfl rfl rfl (by rw [beq_eq_false_iff_ne]; omega)) <| ?_
   simp only [q2,q3]
   refine WN ?_
   change Code.wp _ _ _ _ _
   refine wp_cond_false rfl ?_
   refine wp_skip ?_
   change Code.wp _ _ _ _ _
   refine wp_seq ?_
   -- region 7
   refine RL ?_
   refine V rfl rfl (run_load_bx AgI rfl rfl (E.1) rfl) <| ?_
   simp only [q2,q3]
   refine EF rfl (Oper.wp_store AgI rfl rfl rfl x2 rfl rfl (IsI.one (E.2.1)) ?_)
   intro w19 o19 y19
   replace E := (E.onl (x2.noW now0) ⟨okB (by omega), trivial, okB (by omega), trivial, okB (by omega), trivial, okW (by omega), trivial⟩ o19).b y19
   clear x2 o19 y19
   refine kn rfl ?_
   refine WN ?_
   change Code.wp _ _ _ _ _
   refine wp_ret ?_
   have r20 := res_box AgI (E.1) rfl
   exact bodyPost_ret (v := .agg #[.bool n10, s10]) (by simp [results, Try.results80, asAddr, r20]) rfl ⟨_, rfl, IsI.cong (pow_h0 hodd) (E.2.2.1), e7 E⟩
theorem RPower_z (x : Int) : ∀ (n : Nat) (va : Value) (w : World), IsI w va x → PowFits x.natAbs n 400000000 → n < 9223372036854775808 → Calls Try.prog 80 #[va, .int .i64 ((n : Nat) : Int)] w (RetZ w (x ^ n)) := by
  intro n
  induction n using Nat.strongRecOn with
  | ind n ih => intro va w ha hf hn; exact RPower_step x n va w ha (fun m hm va w h hf h9 => ih m hm va w h hf h9) hf hn
set_option maxRecDepth 100000 in
set_option maxHeartbeats 4000000 in
theorem RPow_z (x : Int) (n : Nat) (va : Value) (w : World) (hva : IsI w va x) (hn : n ≤ 4096) (hf : PowFits x.natAbs n 400000000) :
    Calls Try.prog 46 #[va, .int .i64 ((n : Nat) : Int)] w (RetZE w (x ^ n) 0) := by
 have E := Env.start w
 obtain ⟨nva, sva, rfl, _, _⟩ := hva.sh
 replace E := E.i hva
 clear hva
 go_enter Try.func46, Try.ntmps46
 refine wp_seq ?_
 -- region 0
 refine RL ?_
 refine EF rfl (Oper.wp_box rfl rfl ?_)
 intro b1 w1 e1 z1 d1 x1
 have l1 : w.heap.size ≤ b1 := by rw [e1]; exact (E.2.1).size
 replace E := E.below d1
 clear e1 z1 d1
 replace E := E.b x1
 clear x1
 refine kw rfl ?_
 simp only [q2,q3]
 refine EF rfl (Oper.wp_alloc AgI rfl ?_)
 intro b2 w2 e2 z2 d2 x2
 have l2_0 : b1 < b2 := by rw [e2]; exact Bx.lt (E.1)
 replace E := E.below d2
 clear e2 z2 d2
 refine kw rfl ?_
 refine AC rfl rfl rfl rfl <| ?_
 simp only [q2,q3]
 refine WN ?_
 change Code.wp _ _ _ _ _
 refine wp_seq ?_
 refine wp_seq ?_
 -- region 1
 refine RL ?_
 refine M rfl rfl rfl rfl rfl <| V rfl rfl (run_ltI (c := false) rfl rfl rfl (by rw [decide_eq_false_iff_not]; omega)) <| M rfl rfl rfl rfl rfl <| M (by kernel_rfl) rfl rfl rfl rfl <| ?_
 simp only [q2,q3]
 refine V (by kernel_rfl) rfl (run_gtI (c := false) rfl rfl rfl (by rw [decide_eq_false_iff_not]; omega)) <| V (v := .bool false) rfl rfl (run_pick (b := false) rfl rfl rfl) <| ?_
 simp only [q2,q3]
 refine WN ?_
 change Code.wp _ _ _ _ _
 refine wp_cond_false rfl ?_
 refine wp_skip ?_
 change Code.wp _ _ _ _ _
 refine wp_seq ?_
 -- region 3
 refine RL ?_
 refine V rfl rfl (run_load_bx AgI rfl rfl (E.1) rfl) <| M rfl rfl rfl rfl rfl <| ?_
 simp only [q2,q3]
 refine EF rfl (Oper.wp_callI fn_eref01_power rfl (RPower_z x n _ _ (E.2.1) hf (by omega)) rfl E ?_)
 clear E
 intro w3 n3 s3 d3 E
 replace x2 := x2.below d3
 clear d3
 refine kw rfl ?_
 simp only [q2,q3]
 refine EF rfl (Oper.wp_store AgI rfl rfl rfl x2 rfl rfl (IsI.one (E.1)) ?_)
 intro w4 o4 y4
 replace E := (E.onl (x2.noW now0) ⟨trivial, okB (by omega), trivial, okW (by omega), trivial⟩ o4).b y4
 clear x2 o4 y4
 refine kn rfl ?_
 refine AC rfl rfl rfl rfl <| ?_
 simp only [q2,q3]
 refine WN ?_
 change Code.wp _ _ _ _ _
 refine wp_ret ?_
 have r5 := res_box AgI (E.1) rfl
 exact bodyPost_ret (v := .tuple #[.agg #[.bool n3, s3], .int .i64 0]) (by simp [results, Try.results46, asAddr, r5]) rfl ⟨_, rfl, E.2.1, e4 E⟩
set_option maxRecDepth 100000 in
set_option maxHeartbeats 4000000 in
theorem RPow_out (x n : Int) (va : Value) (w : World) (hva : IsI w va x) (hn : n < 0 ∨ 4096 < n) :
    Calls Try.prog 46 #[va, .int .i64 n] w (RetZE w 0 1) := by
 have E := Env.start w
 obtain ⟨nva, sva, rfl, _, _⟩ := hva.sh
 replace E := E.i hva
 clear hva
 go_enter Try.func46, Try.ntmps46
 refine wp_seq ?_
 -- region 0
 refine RL ?_
 refine EF rfl (Oper.wp_box rfl rfl ?_)
 intro b1 w1 e1 z1 d1 x1
 have l1 : w.heap.size ≤ b1 := by rw [e1]; exact (E.2.1).size
 replace E := E.below d1
 clear e1 z1 d1
 replace E := E.b x1
 clear x1
 refine kw rfl ?_
 simp only [q2,q3]
 refine EF rfl (Oper.wp_alloc AgI rfl ?_)
 intro b2 w2 e2 z2 d2 x2
 have l2_0 : b1 < b2 := by rw [e2]; exact Bx.lt (E.1)
 replace E := E.below d2
 clear e2 z2 d2
 refine kw rfl ?_
 refine AC rfl rfl rfl rfl <| ?_
 simp only [q2,q3]
 refine WN ?_
 change Code.wp _ _ _ _ _
 refine wp_seq ?_
 refine wp_seq ?_
 by_cases h0 : n < 0
 case pos =>
  -- region 1
  refine RL ?_
  refine M rfl rfl rfl rfl rfl <| V rfl rfl (run_ltI (c := true) rfl rfl rfl (by rw [decide_eq_true_eq]; omega)) <| M rfl rfl rfl rfl rfl <| L0C (by kernel_rfl) rfl <| ?_
  simp only [q2,q3]
  refine L0C (by kernel_rfl) rfl <| V (v := .bool true) rfl rfl (run_pick (b := true) rfl rfl rfl) <| ?_
  simp only [q2,q3]
  refine WN ?_
  change Code.wp _ _ _ _ _
  refine wp_cond_true rfl ?_
  refine wp_seq ?_
  -- region 2
  refine RL ?_
  refine V (v := .agg #[.bool false, .slice none 0 0]) rfl rfl (run_buildI0 rfl) <| ?_
  replace E := E.i (zero_i _)
  simp only [q2,q3]
  refine EF rfl (Oper.wp_store AgI rfl rfl rfl x2 rfl rfl (IsI.one (E.1)) ?_)
  intro w3 o3 y3
  replace E := (E.onl (x2.noW now0) ⟨trivial, okB (by omega), trivial, okW (by omega), trivial⟩ o3).b y3
  clear x2 o3 y3
  refine kn rfl ?_
  refine AC rfl rfl rfl rfl <| ?_
  simp only [q2,q3]
  refine WN ?_
  change Code.wp _ _ _ _ _
  refine wp_ret ?_
  have r4 := res_box AgI (E.1) rfl
  exact bodyPost_ret (v := .tuple #[.agg #[.bool false, .slice none 0 0], .int .i64 1]) (by simp [results, Try.results46, asAddr, r4]) rfl ⟨_, rfl, E.2.1, e4 E⟩
 case neg =>
  -- region 1
  refine RL ?_
  refine M rfl rfl rfl rfl rfl <| V rfl rfl (run_ltI (c := false) rfl rfl rfl (by rw [decide_eq_false_iff_not]; omega)) <| M rfl rfl rfl rfl rfl <| M (by kernel_rfl) rfl rfl rfl rfl <| ?_
  simp only [q2,q3]
  refine V (by kernel_rfl) rfl (run_gtI (c := true) rfl rfl rfl (by rw [decide_eq_true_eq]; omega)) <| V (v := .bool true) rfl rfl (run_pick (b := false) rfl rfl rfl) <| ?_
  simp only [q2,q3]
  refine WN ?_
  change Code.wp _ _ _ _ _
  refine wp_cond_true rfl ?_
  refine wp_seq ?_
  -- region 2
  refine RL ?_
  refine V (v := .agg #[.bool false, .slice none 0 0]) rfl rfl (run_buildI0 rfl) <| ?_
  replace E := E.i (zero_i _)
  simp only [q2,q3]
  refine EF rfl (Oper.wp_store AgI rfl rfl rfl x2 rfl rfl (IsI.one (E.1)) ?_)
  intro w5 o5 y5
  replace E := (E.onl (x2.noW now0) ⟨trivial, okB (by omega), trivial, okW (by omega), trivial⟩ o5).b y5
  clear x2 o5 y5
  refine kn rfl ?_
  refine AC rfl rfl rfl rfl <| ?_
  simp only [q2,q3]
  refine WN ?_
  change Code.wp _ _ _ _ _
  refine wp_ret ?_
  have r6 := res_box AgI (E.1) rfl
  exact bodyPost_ret (v := .tuple #[.agg #[.bool false, .slice none 0 0], .int .i64 1]) (by simp [results, Try.results46, asAddr, r6]) rfl ⟨_, rfl, E.2.1, e4 E⟩
theorem cmp_le {a b : Int} : decide (cmpI a b ≤ 0) = decide (a ≤ b) := by
  rw [decide_eq_decide]; unfold cmpI
  split
  · constructor <;> intro <;> omega
  · split
    · constructor <;> intro <;> omega
    · constructor <;> intro <;> omega
theorem rt_lt {A k r : Nat} (hA : 0 < A) (h : r ^ k ≤ A) (hk : 0 < k) : r < 2 ^ (bitsN A / k + 1) := by
  rcases Nat.lt_or_ge r (2 ^ (bitsN A / k + 1)) with h1 | h1
  · exact h1
  · exfalso
    have h2 := Nat.pow_le_pow_left h1 k
    rw [← Nat.pow_mul] at h2
    have h3 := (bitsN_bounds A hA).1
    have h4 : bitsN A ≤ (bitsN A / k + 1) * k := by
      have := Nat.lt_div_mul_add hk (a := bitsN A)
      rw [Nat.add_mul, Nat.one_mul]; omega
    have h5 := Nat.pow_le_pow_right (n := 2) (by omega) h4
    omega
theorem rt_fits {A k r i : Nat} (hA : 0 < A) (h : r ^ k ≤ A) (hk : 0 < k) (hkn : k < bitsN A) (hi : i ≤ bitsN A / k) (hb : bitsN A ≤ 32000000) : PowFits (r + 2 ^ i) k 400000000 := by
  intro p hp
  have h1 := rt_lt hA h hk
  have h2 := Nat.pow_le_pow_right (n := 2) (by omega) hi
  have h3 : r + 2 ^ i < 2 ^ (bitsN A / k + 2) := by
    have e1 : (2 : Nat) ^ (bitsN A / k + 1) = 2 ^ (bitsN A / k) * 2 := Nat.pow_succ ..
    have e2 : (2 : Nat) ^ (bitsN A / k + 2) = 2 ^ (bitsN A / k) * 2 * 2 := by rw [Nat.pow_succ, Nat.pow_succ]
    omega
  rcases Nat.eq_zero_or_pos p with e | e
  · subst e; rw [Nat.pow_zero]; exact Nat.le_trans (digs_length_le (k := 1) (by decide)) (by decide)
  · have h4 := Nat.pow_lt_pow_left h3 (show p ≠ 0 by omega)
    rw [← Nat.pow_mul] at h4
    have h5 : (bitsN A / k + 2) * p ≤ (bitsN A / k + 2) * k := Nat.mul_le_mul_left _ hp
    have h6 := Nat.div_mul_le_self (bitsN A) k
    rw [Nat.add_mul _ _ k] at h5
    exact Nat.le_trans (digs_le_of_pow h4) (by omega)
theorem two_fits {i : Nat} (h : i ≤ 32000000) : PowFits (2 : Int).natAbs i 400000000 := by
  intro p hp
  have : (2 : Nat) ^ p < 2 ^ (p + 1) := Nat.pow_lt_pow_right (by omega) (by omega)
  exact Nat.le_trans (digs_le_of_pow this) (by omega)
theorem Fits_nat {m n : Nat} (h : (digs m).length ≤ n) : Fits ((m : Nat) : Int) n := by unfold Fits; rwa [Int.natAbs_natCast]
theorem rt_quo {m k : Nat} (hm : m < 9223372036854775808) : IntKind.i64.wrap (((m : Nat) : Int).tdiv ((k : Nat) : Int)) = ((m / k : Nat) : Int) := by
  rw [Int.tdiv_eq_ediv_of_nonneg (by omega)]
  exact wrap_nat (by simp) (Nat.lt_of_le_of_lt (Nat.div_le_self _ _) hm)
theorem RetRt.mk {w0 w' : World} {k A r : Nat} {e : Ending} (h : IsRoot r k A) (hr : RetZE w0 (r : Int) 0 e w') : RetRt w0 k A e w' := ⟨r, h, hr⟩
theorem rt_cast (r i : Nat) : ((r : Nat) : Int) + (2 ^ i) = ((r + 2 ^ i : Nat) : Int) := by simp
theorem rt_yes {r i k : Nat} {x : Int} (hx : 0 ≤ x) (h : (r + 2 ^ i) ^ k ≤ x.natAbs) : decide (cmpI ((((r : Nat) : Int) + (2 ^ i)) ^ k) x ≤ 0) = true := by
  rw [cmp_le, decide_eq_true_eq, rt_cast, ← Int.natCast_pow]; omega
theorem rt_no {r i k : Nat} {x : Int} (hx : 0 ≤ x) (h : ¬ (r + 2 ^ i) ^ k ≤ x.natAbs) : decide (cmpI ((((r : Nat) : Int) + (2 ^ i)) ^ k) x ≤ 0) = false := by
  rw [cmp_le, decide_eq_false_iff_not, rt_cast, ← Int.natCast_pow]; omega
theorem rt_abs (r i : Nat) : (((r : Nat) : Int) + (2 ^ i)).natAbs = r + 2 ^ i := by rw [rt_cast, Int.natAbs_natCast]
set_option maxRecDepth 100000 in
set_option maxHeartbeats 4000000 in
theorem RRoot_z (x : Int) (k : Nat) (va : Value) (w : World) (hva : IsI w va x) (hx0 : 0 ≤ x) (hk : 1 ≤ k) (hk2 : k < 9223372036854775808) (Fx : Fits x 1000000) :
    Calls Try.prog 47 #[va, .int .i64 ((k : Nat) : Int)] w (RetRt w k x.natAbs) := by
 have E := Env.start w
 obtain ⟨nva, sva, rfl, _, _⟩ := hva.sh
 replace E := E.i hva
 clear hva
 go_enter Try.func47, Try.ntmps47
 refine wp_seq ?_
 -- region 0
 refine RL ?_
 refine EF rfl (Oper.wp_box rfl rfl ?_)
 intro b1 w1 e1 z1 d1 x1
 have l1 : w.heap.size ≤ b1 := by rw [e1]; exact (E.2.1).size
 replace E := E.below d1
 clear e1 z1 d1
 replace E := E.b x1
 clear x1
 refine kw rfl ?_
 simp only [q2,q3]
 refine EF rfl (Oper.wp_alloc AgI rfl ?_)
 intro b2 w2 e2 z2 d2 x2
 have l2_0 : b1 < b2 := by rw [e2]; exact Bx.lt (E.1)
 replace E := E.below d2
 clear e2 z2 d2
 refine kw rfl ?_
 refine AC rfl rfl rfl rfl <| ?_
 simp only [q2,q3]
 refine WN ?_
 change Code.wp _ _ _ _ _
 refine wp_seq ?_
 refine wp_seq ?_
 obtain rfl : nva = false := (IsI.sign (E.2.1)).trans (decide_eq_false (by omega))
 by_cases hk1 : k = 1
 case pos =>
  -- region 1
  refine RL ?_
  refine V rfl rfl (run_fieldI0 rfl rfl) <| V rfl rfl (run_cell rfl isAgg_bool rfl (E.1) rfl) <| M rfl rfl rfl rfl rfl <| M (by kernel_rfl) rfl rfl rfl rfl <| ?_
  simp only [q2,q3]
  refine V (by kernel_rfl) rfl (run_ltI (c := false) rfl rfl rfl (by rw [decide_eq_false_iff_not]; omega)) <| V (v := .bool false) rfl rfl (run_pick (b := false) rfl rfl rfl) <| ?_
  simp only [q2,q3]
  refine WN ?_
  change Code.wp _ _ _ _ _
  refine wp_cond_false rfl ?_
  refine wp_skip ?_
  change Code.wp _ _ _ _ _
  refine wp_seq ?_
  refine wp_seq ?_
  -- region 3
  refine RL ?_
  refine M rfl rfl rfl rfl rfl <| V rfl rfl (run_eqI (c := true) rfl rfl rfl (by rw [hk1]; rfl)) <| M rfl rfl rfl rfl rfl <| L0C (by kernel_rfl) rfl <| ?_
  simp only [q2,q3]
  refine L0C (by kernel_rfl) rfl <| L0C (by kernel_rfl) rfl <| L0C (by kernel_rfl) rfl <| V (v := .bool true) rfl rfl (run_pick (b := true) rfl rfl rfl) <| ?_
  simp only [q2,q3]
  refine WN ?_
  change Code.wp _ _ _ _ _
  refine wp_cond_true rfl ?_
  refine wp_seq ?_
  -- region 4
  refine RL ?_
  refine V rfl rfl (run_load_bx AgI rfl rfl (E.1) rfl) <| ?_
  simp only [q2,q3]
  refine EF rfl (Oper.wp_store AgI rfl rfl rfl x2 rfl rfl (IsI.one (E.2.1)) ?_)
  intro w3 o3 y3
  replace E := (E.onl (x2.noW now0) ⟨okB (by omega), trivial, okW (by omega), trivial⟩ o3).b y3
  clear x2 o3 y3
  refine kn rfl ?_
  refine AC rfl rfl rfl rfl <| ?_
  simp only [q2,q3]
  refine WN ?_
  change Code.wp _ _ _ _ _
  refine wp_ret ?_
  have r4 := res_box AgI (E.1) rfl
  exact bodyPost_ret (v := .tuple #[.agg #[.bool false, sva], .int .i64 0]) (by simp [results, Try.results47, asAddr, r4]) rfl (RetRt.mk ((by rw [hk1]; exact root_self _ : IsRoot x.natAbs k x.natAbs)) ⟨_, rfl, IsI.cong (by omega) (E.2.2.1), e3 E⟩)
 case neg =>
  by_cases hx : x = 0
  case pos =>
   -- region 1
   refine RL ?_
   refine V rfl rfl (run_fieldI0 rfl rfl) <| V rfl rfl (run_cell rfl isAgg_bool rfl (E.1) rfl) <| M rfl rfl rfl rfl rfl <| M (by kernel_rfl) rfl rfl rfl rfl <| ?_
   simp only [q2,q3]
   refine V (by kernel_rfl) rfl (run_ltI (c := false) rfl rfl rfl (by rw [decide_eq_false_iff_not]; omega)) <| V (v := .bool false) rfl rfl (run_pick (b := false) rfl rfl rfl) <| ?_
   simp only [q2,q3]
   refine WN ?_
   change Code.wp _ _ _ _ _
   refine wp_cond_false rfl ?_
   refine wp_skip ?_
   change Code.wp _ _ _ _ _
   refine wp_seq ?_
   refine wp_seq ?_
   -- region 3
   refine RL ?_
   refine M rfl rfl rfl rfl rfl <| V rfl rfl (run_eqI (c := false) rfl rfl rfl (by rw [beq_eq_false_iff_ne]; omega)) <| M rfl rfl rfl rfl rfl <| V (by kernel_rfl) rfl (run_fieldI1 rfl rfl) <| ?_
   simp only [q2,q3]
   refine V (by kernel_rfl) rfl (run_cell rfl isAgg_words rfl (E.1) rfl) <| ?_
   obtain ⟨ao6, cap6, hs6⟩ := IsI.slice (E.2.1)
   refine V (v := .int .i64 (((digs x.natAbs).length : Nat) : Int)) (by kernel_rfl) rfl (run_len rfl hs6) <| V (by kernel_rfl) rfl (run_eqI (c := true) rfl rfl rfl (len_eq0 hx)) <| V (v := .bool true) rfl rfl (run_pick (b := false) rfl rfl rfl) <| ?_
   simp only [q2,q3]
   refine WN ?_
   change Code.wp _ _ _ _ _
   refine wp_cond_true rfl ?_
   refine wp_seq ?_
   -- region 4
   refine RL ?_
   refine V rfl rfl (run_load_bx AgI rfl rfl (E.1) rfl) <| ?_
   simp only [q2,q3]
   refine EF rfl (Oper.wp_store AgI rfl rfl rfl x2 rfl rfl (IsI.one (E.2.1)) ?_)
   intro w7 o7 y7
   replace E := (E.onl (x2.noW now0) ⟨okB (by omega), trivial, okW (by omega), trivial⟩ o7).b y7
   clear x2 o7 y7
   refine kn rfl ?_
   refine AC rfl rfl rfl rfl <| ?_
   simp only [q2,q3]
   refine WN ?_
   change Code.wp _ _ _ _ _
   refine wp_ret ?_
   have r8 := res_box AgI (E.1) rfl
   exact bodyPost_ret (v := .tuple #[.agg #[.bool false, sva], .int .i64 0]) (by simp [results, Try.results47, asAddr, r8]) rfl (RetRt.mk ((by rw [hx]; exact root_zero k hk : IsRoot x.natAbs k x.natAbs)) ⟨_, rfl, IsI.cong (by omega) (E.2.2.1), e3 E⟩)
  case neg =>
   have hA : 0 < x.natAbs := by omega
   have hbb := bitsN_bounds _ hA
   have hb9 : bitsN x.natAbs ≤ 32000000 := by have := hbb.2.2.2; unfold Fits at Fx; omega
   by_cases hkb : bitsN x.natAbs ≤ k
   case pos =>
    -- region 1
    refine RL ?_
    refine V rfl rfl (run_fieldI0 rfl rfl) <| V rfl rfl (run_cell rfl isAgg_bool rfl (E.1) rfl) <| M rfl rfl rfl rfl rfl <| M (by kernel_rfl) rfl rfl rfl rfl <| ?_
    simp only [q2,q3]
    refine V (by kernel_rfl) rfl (run_ltI (c := false) rfl rfl rfl (by rw [decide_eq_false_iff_not]; omega)) <| V (v := .bool false) rfl rfl (run_pick (b := false) rfl rfl rfl) <| ?_
    simp only [q2,q3]
    refine WN ?_
    change Code.wp _ _ _ _ _
    refine wp_cond_false rfl ?_
    refine wp_skip ?_
    change Code.wp _ _ _ _ _
    refine wp_seq ?_
    refine wp_seq ?_
    -- region 3
    refine RL ?_
    refine M rfl rfl rfl rfl rfl <| V rfl rfl (run_eqI (c := false) rfl rfl rfl (by rw [beq_eq_false_iff_ne]; omega)) <| M rfl rfl rfl rfl rfl <| V (by kernel_rfl) rfl (run_fieldI1 rfl rfl) <| ?_
    simp only [q2,q3]
    refine V (by kernel_rfl) rfl (run_cell rfl isAgg_words rfl (E.1) rfl) <| ?_
    obtain ⟨ao10, cap10, hs10⟩ := IsI.slice (E.2.1)
    refine V (v := .int .i64 (((digs x.natAbs).length : Nat) : Int)) (by kernel_rfl) rfl (run_len rfl hs10) <| V (by kernel_rfl) rfl (run_eqI (c := false) rfl rfl rfl (len_ne0 hx)) <| V (v := .bool false) rfl rfl (run_pick (b := false) rfl rfl rfl) <| ?_
    simp only [q2,q3]
    refine WN ?_
    change Code.wp _ _ _ _ _
    refine wp_cond_false rfl ?_
    refine wp_skip ?_
    change Code.wp _ _ _ _ _
    refine wp_seq ?_
    -- region 5
    refine RL ?_
    refine V rfl rfl (run_load_bx AgI rfl rfl (E.1) rfl) <| ?_
    simp only [q2,q3]
    refine EF rfl (Oper.wp_callN fn_eref01_Bits rfl (RBits_z _ x _ (E.2.1) (Fits.mono Fx (by decide))) rfl E ?_)
    clear E
    intro w11 d11 E
    replace x2 := x2.below d11
    clear d11
    refine kw rfl ?_
    refine A rfl rfl rfl rfl rfl <| ?_
    simp only [q2,q3]
    refine WN ?_
    change Code.wp _ _ _ _ _
    refine wp_seq ?_
    refine wp_seq ?_
    -- region 6
    refine RL ?_
    refine M rfl rfl rfl rfl rfl <| M rfl rfl rfl rfl rfl <| V rfl rfl (run_geI (c := true) rfl rfl rfl (by rw [decide_eq_true_eq]; omega)) <| ?_
    simp only [q2,q3]
    refine WN ?_
    change Code.wp _ _ _ _ _
    refine wp_cond_true rfl ?_
    refine wp_seq ?_
    -- region 7
    refine RL ?_
    refine EF rfl (Oper.wp_callI fn_eref01_Of rfl (ROf_z 1 _ (by decide) (by decide)) rfl E ?_)
    clear E
    intro w12 n12 s12 d12 E
    replace x2 := x2.below d12
    clear d12
    refine kw rfl ?_
    simp only [q2,q3]
    refine EF rfl (Oper.wp_store AgI rfl rfl rfl x2 rfl rfl (IsI.one (E.1)) ?_)
    intro w13 o13 y13
    replace E := (E.onl (x2.noW now0) ⟨trivial, okB (by omega), trivial, okW (by omega), trivial⟩ o13).b y13
    clear x2 o13 y13
    refine kn rfl ?_
    refine AC rfl rfl rfl rfl <| ?_
    simp only [q2,q3]
    refine WN ?_
    change Code.wp _ _ _ _ _
    refine wp_ret ?_
    have r14 := res_box AgI (E.1) rfl
    exact bodyPost_ret (v := .tuple #[.agg #[.bool n12, s12], .int .i64 0]) (by simp [results, Try.results47, asAddr, r14]) rfl (RetRt.mk (root_one hA hkb) ⟨_, rfl, E.2.1, e4 E⟩)
   case neg =>
    -- region 1
    refine RL ?_
    refine V rfl rfl (run_fieldI0 rfl rfl) <| V rfl rfl (run_cell rfl isAgg_bool rfl (E.1) rfl) <| M rfl rfl rfl rfl rfl <| M (by kernel_rfl) rfl rfl rfl rfl <| ?_
    simp only [q2,q3]
    refine V (by kernel_rfl) rfl (run_ltI (c := false) rfl rfl rfl (by rw [decide_eq_false_iff_not]; omega)) <| V (v := .bool false) rfl rfl (run_pick (b := false) rfl rfl rfl) <| ?_
    simp only [q2,q3]
    refine WN ?_
    change Code.wp _ _ _ _ _
    refine wp_cond_false rfl ?_
    refine wp_skip ?_
    change Code.wp _ _ _ _ _
    refine wp_seq ?_
    refine wp_seq ?_
    -- region 3
    refine RL ?_
    refine M rfl rfl rfl rfl rfl <| V rfl rfl (run_eqI (c := false) rfl rfl rfl (by rw [beq_eq_false_iff_ne]; omega)) <| M rfl rfl rfl rfl rfl <| V (by kernel_rfl) rfl (run_fieldI1 rfl rfl) <| ?_
    simp only [q2,q3]
    refine V (by kernel_rfl) rfl (run_cell rfl isAgg_words rfl (E.1) rfl) <| ?_
    obtain ⟨ao16, cap16, hs16⟩ := IsI.slice (E.2.1)
    refine V (v := .int .i64 (((digs x.natAbs).length : Nat) : Int)) (by kernel_rfl) rfl (run_len rfl hs16) <| V (by kernel_rfl) rfl (run_eqI (c := false) rfl rfl rfl (len_ne0 hx)) <| V (v := .bool false) rfl rfl (run_pick (b := false) rfl rfl rfl) <| ?_
    simp only [q2,q3]
    refine WN ?_
    change Code.wp _ _ _ _ _
    refine wp_cond_false rfl ?_
    refine wp_skip ?_
    change Code.wp _ _ _ _ _
    refine wp_seq ?_
    -- region 5
    refine RL ?_
    refine V rfl rfl (run_load_bx AgI rfl rfl (E.1) rfl) <| ?_
    simp only [q2,q3]
    refine EF rfl (Oper.wp_callN fn_eref01_Bits rfl (RBits_z _ x _ (E.2.1) (Fits.mono Fx (by decide))) rfl E ?_)
    clear E
    intro w17 d17 E
    replace x2 := x2.below d17
    clear d17
    refine kw rfl ?_
    refine A rfl rfl rfl rfl rfl <| ?_
    simp only [q2,q3]
    refine WN ?_
    change Code.wp _ _ _ _ _
    refine wp_seq ?_
    refine wp_seq ?_
    -- region 6
    refine RL ?_
    refine M rfl rfl rfl rfl rfl <| M rfl rfl rfl rfl rfl <| V rfl rfl (run_geI (c := false) rfl rfl rfl (by rw [decide_eq_false_iff_not]; omega)) <| ?_
    simp only [q2,q3]
    refine WN ?_
    change Code.wp _ _ _ _ _
    refine wp_cond_false rfl ?_
    refine wp_skip ?_
    change Code.wp _ _ _ _ _
    refine wp_seq ?_
    -- region 8
    refine RL ?_
    refine V (v := .agg #[.bool false, .slice none 0 0]) rfl rfl (run_buildI0 rfl) <| ?_
    replace E := E.i (zero_i _)
    simp only [q2,q3]
    refine EF rfl (Oper.wp_alloc AgI rfl ?_)
    intro b18 w18 e18 z18 d18 x18
    have l18_0 : b2 < b18 := by rw [e18]; exact Bx.lt (x2)
    replace E := E.below d18
    replace x2 := Bx.below x2 d18
    clear e18 z18 d18
    refine kw rfl ?_
    simp only [q2,q3]
    refine EF rfl (Oper.wp_store AgI rfl rfl rfl x18 rfl rfl (IsI.one (E.1)) ?_)
    intro w19 o19 y19
    replace E := (E.onl (x18.noW now0) ⟨trivial, okB (by omega), trivial, okW (by omega), trivial⟩ o19).b y19
    replace x2 := Bx.onl x2 (by omega) o19
    clear x18 o19 y19
    refine kn rfl ?_
    refine WN ?_
    change Code.wp _ _ _ _ _
    refine wp_seq ?_
    refine wp_seq ?_
    -- region 9
    refine RL ?_
    refine M rfl rfl rfl rfl rfl <| M rfl rfl rfl rfl rfl <| V (v := .int .i64 ((bitsN x.natAbs / k : Nat) : Int)) rfl rfl (run_quoI rfl rfl rfl (by omega) (rt_quo (by omega))) <| A rfl rfl rfl rfl rfl <| ?_
    simp only [q2,q3]
    refine WN ?_
    change Code.wp _ _ _ _ _
    refine wp_block ?_
    replace E := E.b x2
    clear x2
    have hz7 : IsI w19 (.agg #[.bool false, .slice none 0 0]) ((0 : Nat) : Int) := E.2.2.1
    replace E := E.i hz7
    refine wp_loop_ghost (fun mz a w' => ∃ (m : Nat) (z : Int) (r : Nat) (n7 : Bool) (s7 : Value) (g9 g36 g37 g38 g39 g40 g41 g42 g43 g44 g45 g46 g47 g48 g49 g50 g51 : Value), a = ⟨#[.agg #[.bool false, sva], .int .i64 ((k : Nat) : Int), .pointer (some ⟨b1, 0, none⟩), undef, .pointer (some ⟨b2, 0, none⟩), .int .i64 0, .int .i64 ((bitsN x.natAbs : Nat) : Int), .pointer (some ⟨b18, 0, none⟩), .int .i64 z, g9, .pointer (some ⟨b1, 0, none⟩), .bool false, .bool false, .int .i64 ((k : Nat) : Int), .bool false, .bool false, undef, .int .i64 ((k : Nat) : Int), .bool false, .bool false, .pointer (some ⟨b1, 1, none⟩), sva, .int .i64 (((digs x.natAbs).length : Nat) : Int), .bool false, .bool false, undef, .agg #[.bool false, sva], .int .i64 ((bitsN x.natAbs : Nat) : Int), .int .i64 ((k : Nat) : Int), .int .i64 ((bitsN x.natAbs : Nat) : Int), .bool false, undef, .agg #[.bool false, .slice none 0 0], .int .i64 ((bitsN x.natAbs : Nat) : Int), .int .i64 ((k : Nat) : Int), .int .i64 ((bitsN x.natAbs / k : Nat) : Int), g36, g37, g38, g39, g40, g41, g42, g43, g44, g45, g46, g47, g48, g49, g50, g51, undef], []⟩ ∧ Env w' [fB b18 n7 s7, fI (.agg #[.bool n7, s7]) ((r : Nat) : Int), fB b2 false (.slice none 0 0), fB b1 false sva, fI (.agg #[.bool false, sva]) x, fW w] ∧ mz = m ∧ (m ≤ bitsN x.natAbs / k + 1 ∧ z + 1 = m ∧ BitInv x.natAbs k m r)) (bitsN x.natAbs / k + 1) ⟨bitsN x.natAbs / k + 1, _, 0, false, .slice none 0 0, _, _, _, _, _, _, _, _, _, _, _, _, _, _, _, _, _, rfl, (Env.b (Env.i (Env.b (Env.b (Env.i (Env.ww (Env.nil _) (e6 E)) (e5 E)) (e4 E)) (E.2.1)) (E.1)) (E.2.2.1)), rfl, ⟨Nat.le_refl _, by omega, BitInv.start hA hk (by rw [Nat.add_mul, Nat.one_mul]; have := Nat.lt_div_mul_add (show 0 < k by omega) (a := bitsN x.natAbs); omega)⟩⟩ ?_
    rintro m20 _ w20 ⟨m, z, r, n7, s7, g9, g36, g37, g38, g39, g40, g41, g42, g43, g44, g45, g46, g47, g48, g49, g50, g51, rfl, E, hm20, hI20⟩
    obtain ⟨hI1, hI2, hI3⟩ := hI20
    by_cases hm0 : m = 0
    case pos =>
     subst hm0
     refine wp_seq ?_
     refine wp_seq ?_
     -- region 10
     refine RL ?_
     refine M rfl rfl rfl rfl rfl <| V rfl rfl (run_geI (c := false) rfl rfl rfl (by rw [decide_eq_false_iff_not]; omega)) <| ?_
     simp only [q2,q3]
     refine WN ?_
     change Code.wp _ _ _ _ _
     refine wp_cond_false rfl ?_
     refine wp_exit ?_
     change Code.wp _ _ _ _ _
     refine wp_seq ?_
     -- region 15
     refine RL ?_
     refine V rfl rfl (run_load_bx AgI rfl rfl (E.1) rfl) <| ?_
     have x22 := E.2.2.1
     replace E := ((E.2.2.2).i (E.2.1)).b (E.1)
     simp only [q2,q3]
     refine EF rfl (Oper.wp_store AgI rfl rfl rfl x22 rfl rfl (IsI.one (E.2.1)) ?_)
     intro w21 o21 y21
     replace E := (E.onl (x22.noW now0) ⟨okB (by omega), trivial, okB (by omega), trivial, okW (by omega), trivial⟩ o21).b y21
     clear x22 o21 y21
     refine kn rfl ?_
     refine AC rfl rfl rfl rfl <| ?_
     simp only [q2,q3]
     refine WN ?_
     change Code.wp _ _ _ _ _
     refine wp_ret ?_
     have r23 := res_box AgI (E.1) rfl
     exact bodyPost_ret (v := .tuple #[.agg #[.bool n7, s7], .int .i64 0]) (by simp [results, Try.results47, asAddr, r23]) rfl (RetRt.mk (hI3.done) ⟨_, rfl, E.2.2.1, e5 E⟩)
    case neg =>
     obtain ⟨i, rfl⟩ : ∃ i, m = i + 1 := ⟨m - 1, by omega⟩
     obtain rfl : z = (i : Int) := by omega
     have hik : bitsN x.natAbs / k ≤ bitsN x.natAbs := Nat.div_le_self _ _
     have hpf := rt_fits (i := i) hA hI3.2.1 (by omega) (by omega) (by omega) hb9
     have F1 := Fits_nat (Nat.le_trans (digs_length_mono (Nat.le_add_right r (2 ^ i))) (by have := hpf 1 (by omega); rwa [Nat.pow_one] at this))
     have F2 := Fits_pw (two_fits (i := i) (by omega)) (Nat.le_refl i)
     by_cases hc : (r + 2 ^ i) ^ k ≤ x.natAbs
     case pos =>
      refine wp_seq ?_
      refine wp_seq ?_
      -- region 10
      refine RL ?_
      refine M rfl rfl rfl rfl rfl <| V rfl rfl (run_geI (c := true) rfl rfl rfl (by rw [decide_eq_true_eq]; omega)) <| ?_
      simp only [q2,q3]
      refine WN ?_
      change Code.wp _ _ _ _ _
      refine wp_cond_true rfl ?_
      refine wp_skip ?_
      change Code.wp _ _ _ _ _
      refine wp_seq ?_
      refine wp_block ?_
      refine wp_seq ?_
      -- region 12
      have hB24_0 : b18 < w20.heap.size := Bx.lt (E.1)
      refine wp_schedF E [.op 0, .op 2, .av 5, .op 1, .op 3, .op 4, .op 5] 1 (#[true, true, true, true, true, true, false]) (by kernel_rfl) (by kernel_rfl) (by kernel_rfl) (by kernel_rfl) (by intro d v c a w h; cases d <;> exact h) (by intro d v c a w h; cases d <;> exact h) ?_
      refine FP (v := .agg #[.bool n7, s7]) rfl rfl rfl rfl rfl (fun w hS => run_load_bx AgI rfl rfl (hS.1) rfl) <| FP (v := .int .i64 (i : Int)) rfl rfl rfl rfl rfl (fun w hS => run_move rfl rfl) <| FA _ (RunF.alloc AgI rfl rfl rfl) <| ?_
      simp only [q2,q3]
      clear E
      refine FE rfl rfl rfl rfl ?_
      intro w26 E
      refine Oper.wp_callI fn_eref01_Of rfl (ROf_z 2 _ (by decide) (by decide)) rfl E ?_
      clear E
      intro w25 n25 s25 d25 E
      refine kF d25 E rfl ?_
      simp only [q2,q3]
      clear E
      refine FE rfl rfl rfl rfl ?_
      intro w28 E
      refine Oper.wp_callI fn_eref01_power rfl (RPower_z 2 i _ _ (E.1) (two_fits (by omega)) (by omega)) rfl E ?_
      clear E
      intro w27 n27 s27 d27 E
      refine kF d27 E rfl ?_
      simp only [q2,q3]
      clear E
      refine FE rfl rfl rfl rfl ?_
      intro w31 E
      refine Oper.wp_callI fn_eref01_Add rfl (RAdd_z _ ((r : Nat) : Int) _ (2 ^ i) _ (e3 E) (E.1) (Fits.mono F1 (by decide)) (Fits.mono F2 (by decide))) rfl E ?_
      clear E
      intro w30 n30 s30 d30 E
      refine kF d30 E rfl ?_
      have F29 : Fits (((r : Nat) : Int) + (2 ^ i)) 400000001 := Fits_add F1 F2 (k := 400000000) (by decide) (by decide)
      simp only [q2,q3]
      refine FF rfl rfl ?_
      intro b32 f32 u32
      have l32_0 : b18 < b32 := by omega
      simp only [q2,q3]
      clear E
      intro w33 E
      refine H1 (i := 6) (by kernel_rfl) ?_
      have x35 := E.1
      replace E := E.2
      refine HE (o := ⟨none, _, _, _, _, _⟩) rfl rfl (Oper.wp_store AgI rfl rfl rfl x35 rfl rfl (IsI.one (E.1)) ?_)
      intro w34 o34 y34
      replace E := (E.onl (x35.noW now0) ⟨trivial, trivial, trivial, okB (by omega), trivial, okB (by omega), okB (by omega), trivial, okW (by omega), trivial⟩ o34).b y34
      clear x35 o34 y34
      refine ⟨E.2.2.2.2, ?_⟩
      simp only [Act.put]
      refine HN (by kernel_rfl) ?_
      change Code.wp _ _ _ _ _
      refine wp_seq ?_
      -- region 13
      refine wp_schedE E ([0, 1, 3, 2, 4, 5]) (by kernel_rfl) (by kernel_rfl) (by kernel_rfl) (by kernel_rfl) (by intro d v c a w h; cases d <;> exact h) ?_
      replace E := E.drew
      refine SW rfl rfl rfl rfl rfl (fun w hS => run_load_bx AgI rfl rfl (hS.1) rfl) <| SM rfl rfl rfl rfl rfl rfl rfl rfl <| SW rfl rfl rfl rfl rfl (fun w hS => run_load_bx AgI rfl rfl (e7 hS) rfl) <| ?_
      simp only [q2,q3]
      refine S1a (o := ⟨some 47, _, _, _, _, _⟩) rfl rfl rfl rfl (Oper.wp_callI fn_eref01_power rfl (RPower_z _ k _ _ (E.2.1) (by rw [rt_abs]; exact hpf) (by omega)) rfl E ?_)
      clear E
      intro w36 n36 s36 d36 E
      clear d36
      refine ⟨E.2, ?_⟩
      simp only [Act.put,q1,q2,q3]
      refine S1a (o := ⟨some 49, _, _, _, _, _⟩) rfl rfl rfl rfl (Oper.wp_callN fn_eref01_Cmp rfl (RCmp_z _ ((((r : Nat) : Int) + (2 ^ i)) ^ k) _ x _ (E.1) (e9 E)) rfl E ?_)
      clear E
      intro w37 d37 E
      clear d37
      refine ⟨E.2, ?_⟩
      simp only [Act.put,q1,q2,q3]
      refine SW rfl rfl rfl rfl rfl (fun w hS => run_leI (c := true) rfl rfl rfl (rt_yes hx0 hc)) <| ?_
      simp only [q2,q3]
      refine SN ?_
      change Code.wp _ _ _ _ _
      refine wp_cond_true rfl ?_
      -- region 14
      refine RL ?_
      refine V rfl rfl (run_load_bx AgI rfl rfl (E.2.1) rfl) <| ?_
      have x39 := e5 E
      replace E := (((((E.2.2.2.2.2.2).i (e4 E)).i (e3 E)).i (E.2.2.1)).b (E.2.1)).i (E.1)
      simp only [q2,q3]
      refine EF rfl (Oper.wp_store AgI rfl rfl rfl x39 rfl rfl (IsI.one (E.2.2.1)) ?_)
      intro w38 o38 y38
      replace E := (E.onl (x39.noW (IsI.now (e5 E))) ⟨trivial, okB (by omega), trivial, trivial, trivial, trivial, okB (by omega), okB (by omega), trivial, okW (by omega), trivial⟩ o38).b y38
      clear x39 o38 y38
      refine kn rfl ?_
      refine WN ?_
      change Code.wp _ _ _ _ _
      -- region 11
      refine RL ?_
      refine M rfl rfl rfl rfl rfl <| V (v := .int .i64 ((i : Int) - 1)) rfl rfl (run_subI rfl rfl rfl (by rw [IntWalk.i64_in _ (by omega)])) <| A rfl rfl rfl rfl rfl <| ?_
      simp only [q2,q3]
      refine WN ?_
      have hz7 := IsI.cong (rt_cast r i) (e3 E)
      replace E := E.i hz7
      exact ⟨_, (by rw [hm20]; omega), i, _, (r + 2 ^ i), n30, s30, _, _, _, _, _, _, _, _, _, _, _, _, _, _, _, _, _, rfl, (Env.b (Env.i (Env.b (Env.b (Env.i (Env.ww (Env.nil _) (e11 E)) (e10 E)) (e9 E)) (e8 E)) (E.1)) (E.2.1)), rfl, ⟨by omega, by omega, hI3.yes hc⟩⟩
     case neg =>
      refine wp_seq ?_
      refine wp_seq ?_
      -- region 10
      refine RL ?_
      refine M rfl rfl rfl rfl rfl <| V rfl rfl (run_geI (c := true) rfl rfl rfl (by rw [decide_eq_true_eq]; omega)) <| ?_
      simp only [q2,q3]
      refine WN ?_
      change Code.wp _ _ _ _ _
      refine wp_cond_true rfl ?_
      refine wp_skip ?_
      change Code.wp _ _ _ _ _
      refine wp_seq ?_
      refine wp_block ?_
      refine wp_seq ?_
      -- region 12
      have hB40_0 : b18 < w20.heap.size := Bx.lt (E.1)
      refine wp_schedF E [.op 0, .op 2, .av 5, .op 1, .op 3, .op 4, .op 5] 1 (#[true, true, true, true, true, true, false]) (by kernel_rfl) (by kernel_rfl) (by kernel_rfl) (by kernel_rfl) (by intro d v c a w h; cases d <;> exact h) (by intro d v c a w h; cases d <;> exact h) ?_
      refine FP (v := .agg #[.bool n7, s7]) rfl rfl rfl rfl rfl (fun w hS => run_load_bx AgI rfl rfl (hS.1) rfl) <| FP (v := .int .i64 (i : Int)) rfl rfl rfl rfl rfl (fun w hS => run_move rfl rfl) <| FA _ (RunF.alloc AgI rfl rfl rfl) <| ?_
      simp only [q2,q3]
      clear E
      refine FE rfl rfl rfl rfl ?_
      intro w42 E
      refine Oper.wp_callI fn_eref01_Of rfl (ROf_z 2 _ (by decide) (by decide)) rfl E ?_
      clear E
      intro w41 n41 s41 d41 E
      refine kF d41 E rfl ?_
      simp only [q2,q3]
      clear E
      refine FE rfl rfl rfl rfl ?_
      intro w44 E
      refine Oper.wp_callI fn_eref01_power rfl (RPower_z 2 i _ _ (E.1) (two_fits (by omega)) (by omega)) rfl E ?_
      clear E
      intro w43 n43 s43 d43 E
      refine kF d43 E rfl ?_
      simp only [q2,q3]
      clear E
      refine FE rfl rfl rfl rfl ?_
      intro w47 E
      refine Oper.wp_callI fn_eref01_Add rfl (RAdd_z _ ((r : Nat) : Int) _ (2 ^ i) _ (e3 E) (E.1) (Fits.mono F1 (by decide)) (Fits.mono F2 (by decide))) rfl E ?_
      clear E
      intro w46 n46 s46 d46 E
      refine kF d46 E rfl ?_
      have F45 : Fits (((r : Nat) : Int) + (2 ^ i)) 400000001 := Fits_add F1 F2 (k := 400000000) (by decide) (by decide)
      simp only [q2,q3]
      refine FF rfl rfl ?_
      intro b48 f48 u48
      have l48_0 : b18 < b48 := by omega
      simp only [q2,q3]
      clear E
      intro w49 E
      refine H1 (i := 6) (by kernel_rfl) ?_
      have x51 := E.1
      replace E := E.2
      refine HE (o := ⟨none, _, _, _, _, _⟩) rfl rfl (Oper.wp_store AgI rfl rfl rfl x51 rfl rfl (IsI.one (E.1)) ?_)
      intro w50 o50 y50
      replace E := (E.onl (x51.noW now0) ⟨trivial, trivial, trivial, okB (by omega), trivial, okB (by omega), okB (by omega), trivial, okW (by omega), trivial⟩ o50).b y50
      clear x51 o50 y50
      refine ⟨E.2.2.2.2, ?_⟩
      simp only [Act.put]
      refine HN (by kernel_rfl) ?_
      change Code.wp _ _ _ _ _
      refine wp_seq ?_
      -- region 13
      refine wp_schedE E ([0, 1, 3, 2, 4, 5]) (by kernel_rfl) (by kernel_rfl) (by kernel_rfl) (by kernel_rfl) (by intro d v c a w h; cases d <;> exact h) ?_
      replace E := E.drew
      refine SW rfl rfl rfl rfl rfl (fun w hS => run_load_bx AgI rfl rfl (hS.1) rfl) <| SM rfl rfl rfl rfl rfl rfl rfl rfl <| SW rfl rfl rfl rfl rfl (fun w hS => run_load_bx AgI rfl rfl (e7 hS) rfl) <| ?_
      simp only [q2,q3]
      refine S1a (o := ⟨some 47, _, _, _, _, _⟩) rfl rfl rfl rfl (Oper.wp_callI fn_eref01_power rfl (RPower_z _ k _ _ (E.2.1) (by rw [rt_abs]; exact hpf) (by omega)) rfl E ?_)
      clear E
      intro w52 n52 s52 d52 E
      clear d52
      refine ⟨E.2, ?_⟩
      simp only [Act.put,q1,q2,q3]
      refine S1a (o := ⟨some 49, _, _, _, _, _⟩) rfl rfl rfl rfl (Oper.wp_callN fn_eref01_Cmp rfl (RCmp_z _ ((((r : Nat) : Int) + (2 ^ i)) ^ k) _ x _ (E.1) (e9 E)) rfl E ?_)
      clear E
      intro w53 d53 E
      clear d53
      refine ⟨E.2, ?_⟩
      simp only [Act.put,q1,q2,q3]
      refine SW rfl rfl rfl rfl rfl (fun w hS => run_leI (c := false) rfl rfl rfl (rt_no hx0 hc)) <| ?_
      simp only [q2,q3]
      refine SN ?_
      change Code.wp _ _ _ _ _
      refine wp_cond_false rfl ?_
      refine wp_skip ?_
      change Code.wp _ _ _ _ _
      -- region 11
      refine RL ?_
      refine M rfl rfl rfl rfl rfl <| V (v := .int .i64 ((i : Int) - 1)) rfl rfl (run_subI rfl rfl rfl (by rw [IntWalk.i64_in _ (by omega)])) <| A rfl rfl rfl rfl rfl <| ?_
      simp only [q2,q3]
      refine WN ?_
      exact ⟨_, (by rw [hm20]; omega), i, _, r, n7, s7, _, _, _, _, _, _, _, _, _, _, _, _, _, _, _, _, _, rfl, (Env.b (Env.i (Env.b (Env.b (Env.i (Env.ww (Env.nil _) (e10 E)) (e9 E)) (e8 E)) (e7 E)) (e6 E)) (e5 E)), rfl, ⟨by omega, by omega, hI3.no (by omega)⟩⟩
set_option maxRecDepth 100000 in
set_option maxHeartbeats 4000000 in
theorem RRoot_out (x k : Int) (va : Value) (w : World) (hva : IsI w va x) (hn : x < 0 ∨ k < 1) :
    Calls Try.prog 47 #[va, .int .i64 k] w (RetZE w 0 1) := by
 have E := Env.start w
 obtain ⟨nva, sva, rfl, _, _⟩ := hva.sh
 replace E := E.i hva
 clear hva
 go_enter Try.func47, Try.ntmps47
 refine wp_seq ?_
 -- region 0
 refine RL ?_
 refine EF rfl (Oper.wp_box rfl rfl ?_)
 intro b1 w1 e1 z1 d1 x1
 have l1 : w.heap.size ≤ b1 := by rw [e1]; exact (E.2.1).size
 replace E := E.below d1
 clear e1 z1 d1
 replace E := E.b x1
 clear x1
 refine kw rfl ?_
 simp only [q2,q3]
 refine EF rfl (Oper.wp_alloc AgI rfl ?_)
 intro b2 w2 e2 z2 d2 x2
 have l2_0 : b1 < b2 := by rw [e2]; exact Bx.lt (E.1)
 replace E := E.below d2
 clear e2 z2 d2
 refine kw rfl ?_
 refine AC rfl rfl rfl rfl <| ?_
 simp only [q2,q3]
 refine WN ?_
 change Code.wp _ _ _ _ _
 refine wp_seq ?_
 refine wp_seq ?_
 by_cases h0 : x < 0
 case pos =>
  obtain rfl : nva = true := (IsI.sign (E.2.1)).trans (decide_eq_true h0)
  -- region 1
  refine RL ?_
  refine V rfl rfl (run_fieldI0 rfl rfl) <| V rfl rfl (run_cell rfl isAgg_bool rfl (E.1) rfl) <| M rfl rfl rfl rfl rfl <| L0C (by kernel_rfl) rfl <| ?_
  simp only [q2,q3]
  refine L0C (by kernel_rfl) rfl <| V (v := .bool true) rfl rfl (run_pick (b := true) rfl rfl rfl) <| ?_
  simp only [q2,q3]
  refine WN ?_
  change Code.wp _ _ _ _ _
  refine wp_cond_true rfl ?_
  refine wp_seq ?_
  -- region 2
  refine RL ?_
  refine V (v := .agg #[.bool false, .slice none 0 0]) rfl rfl (run_buildI0 rfl) <| ?_
  replace E := E.i (zero_i _)
  simp only [q2,q3]
  refine EF rfl (Oper.wp_store AgI rfl rfl rfl x2 rfl rfl (IsI.one (E.1)) ?_)
  intro w3 o3 y3
  replace E := (E.onl (x2.noW now0) ⟨trivial, okB (by omega), trivial, okW (by omega), trivial⟩ o3).b y3
  clear x2 o3 y3
  refine kn rfl ?_
  refine AC rfl rfl rfl rfl <| ?_
  simp only [q2,q3]
  refine WN ?_
  change Code.wp _ _ _ _ _
  refine wp_ret ?_
  have r4 := res_box AgI (E.1) rfl
  exact bodyPost_ret (v := .tuple #[.agg #[.bool false, .slice none 0 0], .int .i64 1]) (by simp [results, Try.results47, asAddr, r4]) rfl ⟨_, rfl, E.2.1, e4 E⟩
 case neg =>
  obtain rfl : nva = false := (IsI.sign (E.2.1)).trans (decide_eq_false h0)
  -- region 1
  refine RL ?_
  refine V rfl rfl (run_fieldI0 rfl rfl) <| V rfl rfl (run_cell rfl isAgg_bool rfl (E.1) rfl) <| M rfl rfl rfl rfl rfl <| M (by kernel_rfl) rfl rfl rfl rfl <| ?_
  simp only [q2,q3]
  refine V (by kernel_rfl) rfl (run_ltI (c := true) rfl rfl rfl (by rw [decide_eq_true_eq]; omega)) <| V (v := .bool true) rfl rfl (run_pick (b := false) rfl rfl rfl) <| ?_
  simp only [q2,q3]
  refine WN ?_
  change Code.wp _ _ _ _ _
  refine wp_cond_true rfl ?_
  refine wp_seq ?_
  -- region 2
  refine RL ?_
  refine V (v := .agg #[.bool false, .slice none 0 0]) rfl rfl (run_buildI0 rfl) <| ?_
  replace E := E.i (zero_i _)
  simp only [q2,q3]
  refine EF rfl (Oper.wp_store AgI rfl rfl rfl x2 rfl rfl (IsI.one (E.1)) ?_)
  intro w5 o5 y5
  replace E := (E.onl (x2.noW now0) ⟨trivial, okB (by omega), trivial, okW (by omega), trivial⟩ o5).b y5
  clear x2 o5 y5
  refine kn rfl ?_
  refine AC rfl rfl rfl rfl <| ?_
  simp only [q2,q3]
  refine WN ?_
  change Code.wp _ _ _ _ _
  refine wp_ret ?_
  have r6 := res_box AgI (E.1) rfl
  exact bodyPost_ret (v := .tuple #[.agg #[.bool false, .slice none 0 0], .int .i64 1]) (by simp [results, Try.results47, asAddr, r6]) rfl ⟨_, rfl, E.2.1, e4 E⟩
end Go.Proofs.Ytjgmfdenicbniaa
