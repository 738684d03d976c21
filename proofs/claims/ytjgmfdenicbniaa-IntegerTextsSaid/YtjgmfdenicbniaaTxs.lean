/- Walk: the law IntegerTexts. (Printed by g_texts.py.) -/
import Derived.Test.YtjgmfdenicbniaaLawC
namespace Go.Proofs.Ytjgmfdenicbniaa
open Go.RowKit W
theorem eqI {w : World} {v : Value} {z z' : Int} (h : z = z') (f : IsI w v z) : IsI w v z' := h ▸ f
theorem abs_i {w : World} {n : Bool} {s : Value} {z : Int} (h : IsI w (.agg #[.bool n, s]) z) : IsI w (.agg #[.bool false, s]) (z.natAbs : Int) :=
  ⟨s, by rw [decide_eq_false (by omega)], by rw [Int.natAbs_natCast]; exact h.sl⟩
theorem run_buildIm {ρ : Operand → Value} {o : Oper} {w : World} {x : Operand} {v : Value} {ao : Option Addr} {n c : Nat} (ho : o.op = .build 24 #[(1, x)]) (hx : ρ x = v) (hv : v = .slice ao n c) : (execOp ρ o).run Try.prog w = .ok (.value (.agg #[.bool false, v])) w := by
  subst hv
  unfold execOp; rw [ho]
  have hi : (zeroValue 24).run Try.prog w = .ok (.agg #[.bool false, .slice none 0 0]) w := by kernel_rfl
  simp [go_sem, hi, hx]
theorem bne_f' {m n : Int} (h : m = n) : (m != n) = false := by subst h; simp
theorem run_minI {ρ : Operand → Value} {o : Oper} {w : World} {x y : Operand} {k : IntKind} {m n c : Int} {tys : Array TypeId} (ho : o.op = .call { callee := .builtin .min, args := #[x, y], argTypes := tys }) (hx : ρ x = .int k m) (hy : ρ y = .int k n) (hc : (if m < n then m else n) = c) :
    (execOp ρ o).run Try.prog w = .ok (.value (.int k c)) w := by
  subst hc; unfold execOp; rw [ho]; simp [hx, hy, go_sem]; rw [Int.min_def]; split <;> split <;> omega
theorem run_neB {ρ : Operand → Value} {o : Oper} {w : World} {P : Program} {t t' : TypeId} {x y : Operand} {a b c : Bool} (ho : o.op = .binOp .neq t x y t') (hT : P.underlying t = some .bool) (hx : ρ x = .bool a) (hy : ρ y = .bool b) (hc : (a != b) = c) : (execOp ρ o).run P w = .ok (.value (.bool c)) w := by
  unfold execOp; rw [ho]; subst hc; simp [hx, hy, go_sem, run_neq_bool _ _ _ _ hT]; cases a <;> cases b <;> rfl
theorem run_neS {ρ : Operand → Value} {o : Oper} {w : World} {P : Program} {t t' : TypeId} {x y : Operand} {a b : ByteArray} {c : Bool} (ho : o.op = .binOp .neq t x y t') (hx : ρ x = .string a) (hy : ρ y = .string b) (hc : (a.data.toList != b.data.toList) = c) : (execOp ρ o).run P w = .ok (.value (.bool c)) w := by
  unfold execOp; rw [ho]; subst hc
  simp only [hx, hy, eqGuard_at_string, binOp, Op.stringOp, Sem.run_bind, Sem.run_pure, Result.andThen_ok, ByteArray.toList_eq]; rfl
theorem run_sliceHi {ρ : Operand → Value} {o : Oper} {w : World} {P : Program} {x y : Operand} {T : TypeId} {s : ByteArray} {j : Nat} {J : Int} {kk : IntKind} (ho : o.op = .slice T x none (some y) none) (hT : P.underlying T = some .string) (hx : ρ x = .string s) (hy : ρ y = .int kk J) (hJ : J = (j : Int)) (hj : j ≤ s.size) :
    (execOp ρ o).run P w = .ok (.value (.string (s.extract 0 j))) w := by
  subst hJ
  unfold execOp; rw [ho]
  have h1 : ¬ ((j : Int) < 0) := by omega
  simp [hx, hy, Instr.sliceAt, Instr.slice, run_underlying hT, Instr.sliceBounds, Instr.sliceBound, asIntOf, hj]
theorem wrap_i64_nat {a : Nat} {X : Int} (hX : X = (a : Int)) (h : a < 9223372036854775808) : IntKind.i64.wrap X = (a : Int) := by subst hX; simp only [IntKind.wrap_i64]; omega
theorem wrap_u32_nat {a : Nat} {X : Int} (hX : X = (a : Int)) (h : a < 4294967296) : IntKind.u32.wrap X = (a : Int) := by subst hX; simp only [IntKind.wrap_u32]; omega
theorem txtS_data (z : Int) : (txtS z).data.toList = txt z := by unfold txtS; simp
theorem txt_length (z : Int) : (txt z).length ≤ 1 + (dec z.natAbs).length := by
  unfold txt bts; rw [List.length_append, List.length_map]; split <;> simp
theorem txtS_size {z : Int} (h : Fits z 12) : (txtS z).size ≤ 117 := by
  rw [← str_len, txtS_data]
  have h1 := txt_length z
  have h2 : (dec z.natAbs).length ≤ 116 := dec_length_le (by decide) (Nat.lt_of_lt_of_le h.lt (by decide))
  omega
theorem parse_txtS (z : Int) : parseZ (txtS z).data.toList = some z := by rw [txtS_data]; exact parse_txt z
theorem txtS_eq {a b : Int} (h : a = b) : ((txtS b).data.toList == (txtS a).data.toList) = true := by subst h; exact beq_self_eq_true _
theorem txtS_ne {a b : Int} (h : ¬ a = b) : ((txtS b).data.toList == (txtS a).data.toList) = false := by
  rw [beq_eq_false_iff_ne, txtS_data, txtS_data]; intro e; exact h (txt_inj e).symm
theorem odd_ne {s : ByteArray} {a : Int} (h : parseZ s.data.toList = none) : (s.data.toList != (txtS a).data.toList) = true := by
  rw [bne_iff_ne, txtS_data]; intro e; rw [e, parse_txt] at h; cases h
theorem odd_eq {s : ByteArray} {d : Int} (h : parseZ s.data.toList = some d) : ((txtS d).data.toList == s.data.toList) = true := by
  rw [beq_iff_eq, txtS_data]; exact parse_some h
theorem parse_fits {s : ByteArray} {d : Int} (hs : s.size ≤ 4000) (h : parseZ s.data.toList = some d) : Fits d 4000 := by
  have h1 := parse_some h
  have h2 : (dec d.natAbs).length ≤ 4000 := by
    have : (txt d).length ≤ 4000 := by rw [h1, str_len]; exact hs
    unfold txt bts at this; rw [List.length_append, List.length_map] at this; omega
  have h3 := val10_lt (dec_Dg d.natAbs)
  rw [val10_dec] at h3
  exact (Fits_lt (m := (dec d.natAbs).length) (Nat.lt_of_lt_of_le h3 (Nat.pow_le_pow_left (by decide) _))).mono h2
set_option maxRecDepth 100000 in
set_option maxHeartbeats 8000000 in
theorem txs_t (put : ByteArray) (na : Bool) (sa : Value) (la : List Nat) (nb : Bool) (sb : Value) (lb : List Nat)  (w : World)  (hsa : Sl w sa la) (hsb : Sl w sb lb) :
    Calls Try.prog 8 #[.agg #[.bool na, sa], .agg #[.bool nb, sb], .string put] w (RetB w true) := by
 have E := Env.start w
 obtain ⟨a, ha⟩ : ∃ z, mkI na la 12 = z := ⟨_, rfl⟩
 have Fa : Fits a 12 := by rw [← ha]; exact mkI_fits hsa.wd
 obtain ⟨b, hb⟩ : ∃ z, mkI nb lb 12 = z := ⟨_, rfl⟩
 have Fb : Fits b 12 := by rw [← hb]; exact mkI_fits hsb.wd
 go_enter Try.func8, Try.ntmps8
 refine wp_seq ?_
 -- region 0
 refine wp_region_lit ?_
 refine L1 rfl (Oper.wp_box (cs := [.bool na, sa]) rfl rfl ?_)
 intro b1 w1 e1 z1 d1 x1
 have l1 : w.heap.size ≤ b1 := by rw [e1]; exact (E.1).size
 replace E := E.below d1
 clear e1 z1 d1
 replace E := E.x x1
 clear x1
 simp only [Act.put,q1,q2,q3]
 refine L1 rfl (Oper.wp_box (cs := [.bool nb, sb]) rfl rfl ?_)
 intro b2 w2 e2 z2 d2 x2
 have l2_0 : b1 < b2 := by rw [e2]; exact Bx.lt (E.1)
 replace E := E.below d2
 clear e2 z2 d2
 replace E := E.x x2
 clear x2
 simp only [Act.put,q1,q2,q3]
 refine LV (v := .bool false) rfl (run_assign rfl rfl) ?_
 simp only [Act.put,q1,q2,q3]
 refine wpList_nil ?_
 change Code.wp _ _ _ _ _
 refine wp_seq ?_
 -- region 1
 refine wp_region_lit ?_
 refine L1 rfl (Oper.wp_callB fn_elaw01_sanity rfl (sanity_t _) rfl E ?_)
 clear E
 intro w3 d3 E
 clear d3
 simp only [Act.put,q1,q2,q3]
 refine LV (v := .bool true) rfl (run_assign rfl rfl) ?_
 simp only [Act.put,q1,q2,q3]
 refine wpList_nil ?_
 change Code.wp _ _ _ _ _
 refine wp_seq ?_
 refine wp_seq ?_
 -- region 2
 refine wp_region_lit ?_
 refine LV (v := .bool true) rfl (run_move rfl rfl) ?_
 simp only [Act.put,q1,q2,q3]
 refine LV (v := .bool false) rfl (run_not (b := true) rfl rfl) ?_
 simp only [Act.put,q1,q2,q3]
 refine wpList_nil ?_
 change Code.wp _ _ _ _ _
 refine wp_cond_false rfl ?_
 refine wp_skip ?_
 change Code.wp _ _ _ _ _
 refine wp_seq ?_
 refine wp_seq ?_
 by_cases h6 : 6 < put.size
 case pos =>
  -- region 4
  refine wp_region_lit ?_
  refine LV (v := .string put) rfl (run_move rfl rfl) ?_
  simp only [Act.put,q1,q2,q3]
  refine LV (v := .int .i64 ((put.size : Nat) : Int)) rfl (run_lenS rfl rfl) ?_
  simp only [Act.put,q1,q2,q3]
  refine LV (v := .bool true) rfl (run_gtI (c := true) rfl rfl rfl (by rw [decide_eq_true_eq]; omega)) ?_
  simp only [Act.put,q1,q2,q3]
  refine wpList_nil ?_
  change Code.wp _ _ _ _ _
  refine wp_cond_true rfl ?_
  refine wp_seq ?_
  -- region 5
  refine wp_region_lit ?_
  refine LV (v := .bool true) rfl (run_move rfl rfl) ?_
  simp only [Act.put,q1,q2,q3]
  refine LV (v := .bool true) rfl (run_assign rfl rfl) ?_
  simp only [Act.put,q1,q2,q3]
  refine wpList_nil ?_
  change Code.wp _ _ _ _ _
  refine wp_ret ?_
  exact bodyPost_ret (v := .bool true) (by simp [results, Try.results8, asAddr]) rfl ⟨rfl, E.2.2.1⟩
 case neg =>
  -- region 4
  refine wp_region_lit ?_
  refine LV (v := .string put) rfl (run_move rfl rfl) ?_
  simp only [Act.put,q1,q2,q3]
  refine LV (v := .int .i64 ((put.size : Nat) : Int)) rfl (run_lenS rfl rfl) ?_
  simp only [Act.put,q1,q2,q3]
  refine LV (v := .bool false) rfl (run_gtI (c := false) rfl rfl rfl (by rw [decide_eq_false_iff_not]; omega)) ?_
  simp only [Act.put,q1,q2,q3]
  refine wpList_nil ?_
  change Code.wp _ _ _ _ _
  refine wp_cond_false rfl ?_
  refine wp_skip ?_
  change Code.wp _ _ _ _ _
  refine wp_seq ?_
  -- region 6
  refine wp_region_lit ?_
  refine LV (v := .agg #[.bool na, sa]) rfl (run_load_bx AgRaw rfl rfl (E.2.1) rfl) ?_
  simp only [Act.put,q1,q2,q3]
  refine L1 rfl (Oper.wp_callI fn_eref01_Made rfl (Made_is na sa la 12 _ (Sl.below hsa (E.2.2.1)) (by decide) ha) rfl E ?_)
  clear E
  intro w4 n4 s4 d4 E
  clear d4
  simp only [Act.put,q1,q2,q3]
  refine L1 rfl (Oper.wp_alloc AgI rfl ?_)
  intro b5 w5 e5 z5 d5 x5
  have l5_0 : b2 < b5 := by rw [e5]; exact Bx.lt (E.2.1)
  replace E := E.below d5
  clear e5 z5 d5
  simp only [Act.put,q1,q2,q3]
  refine L1 rfl (Oper.wp_store AgI rfl rfl rfl x5 rfl rfl (IsI.one (E.1)) ?_)
  intro w6 o6 y6
  replace E := (E.onl (x5.noW now0) ⟨trivial, okX (by omega), okX (by omega), okW (by omega), trivial⟩ o6).b y6
  clear x5 o6 y6
  simp only [Act.put]
  refine wpList_nil ?_
  change Code.wp _ _ _ _ _
  refine wp_seq ?_
  -- region 7
  refine wp_region_lit ?_
  refine LV (v := .agg #[.bool nb, sb]) rfl (run_load_bx AgRaw rfl rfl (E.2.2.1) rfl) ?_
  simp only [Act.put,q1,q2,q3]
  refine L1 rfl (Oper.wp_callI fn_eref01_Made rfl (Made_is nb sb lb 12 _ (Sl.below hsb (E.2.2.2.2.1)) (by decide) hb) rfl E ?_)
  clear E
  intro w7 n7 s7 d7 E
  clear d7
  simp only [Act.put,q1,q2,q3]
  refine L1 rfl (Oper.wp_alloc AgI rfl ?_)
  intro b8 w8 e8 z8 d8 x8
  have l8_0 : b5 < b8 := by rw [e8]; exact Bx.lt (E.2.1)
  replace E := E.below d8
  clear e8 z8 d8
  simp only [Act.put,q1,q2,q3]
  refine L1 rfl (Oper.wp_store AgI rfl rfl rfl x8 rfl rfl (IsI.one (E.1)) ?_)
  intro w9 o9 y9
  replace E := (E.onl (x8.noW now0) ⟨trivial, okB (by omega), trivial, okX (by omega), okX (by omega), okW (by omega), trivial⟩ o9).b y9
  clear x8 o9 y9
  simp only [Act.put]
  refine wpList_nil ?_
  change Code.wp _ _ _ _ _
  refine wp_seq ?_
  have hsz := txtS_size Fa
  -- region 8
  refine wp_region_lit ?_
  refine LV (v := .agg #[.bool n4, s4]) rfl (run_load_bx AgI rfl rfl (E.2.2.1) rfl) ?_
  simp only [Act.put,q1,q2,q3]
  refine L1 rfl (Oper.wp_callT fn_integer_Text rfl (Text_z _ a _ (E.2.2.2.1) (Fits.mono Fa (by decide))) rfl E ?_)
  clear E
  intro w10 d10 E
  clear d10
  simp only [Act.put,q1,q2,q3]
  refine LV (v := .string (txtS a)) rfl (run_assign rfl rfl) ?_
  simp only [Act.put,q1,q2,q3]
  refine wpList_nil ?_
  change Code.wp _ _ _ _ _
  refine wp_seq ?_
  -- region 9
  refine wp_region_lit ?_
  refine LV (v := .string (txtS a)) rfl (run_move rfl rfl) ?_
  simp only [Act.put,q1,q2,q3]
  refine L1 rfl (Oper.wp_callIE fn_integer_Parse rfl (Parse_some _ a _ (by omega) (parse_txtS a)) rfl E ?_)
  clear E
  intro w11 n11 s11 d11 E
  clear d11
  simp only [Act.put,q1,q2,q3]
  refine LV (v := .tuple #[.agg #[.bool n11, s11], .int .i64 0]) rfl (run_move rfl rfl) ?_
  simp only [Act.put,q1,q2,q3]
  refine LV (v := .agg #[.bool n11, s11]) rfl (run_extract (vs := [.agg #[.bool n11, s11], .int .i64 0]) rfl rfl rfl) ?_
  simp only [Act.put,q1,q2,q3]
  refine LV (v := .int .i64 0) rfl (run_extract (vs := [.agg #[.bool n11, s11], .int .i64 0]) rfl rfl rfl) ?_
  simp only [Act.put,q1,q2,q3]
  refine L1 rfl (Oper.wp_alloc AgI rfl ?_)
  intro b12 w12 e12 z12 d12 x12
  have l12_0 : b8 < b12 := by rw [e12]; exact Bx.lt (E.2.1)
  replace E := E.below d12
  clear e12 z12 d12
  simp only [Act.put,q1,q2,q3]
  refine L1 rfl (Oper.wp_store AgI rfl rfl rfl x12 rfl rfl (IsI.one (E.1)) ?_)
  intro w13 o13 y13
  replace E := (E.onl (x12.noW now0) ⟨trivial, okB (by omega), trivial, okB (by omega), trivial, okX (by omega), okX (by omega), okW (by omega), trivial⟩ o13).b y13
  clear x12 o13 y13
  simp only [Act.put]
  refine LV (v := .int .i64 0) rfl (run_assign rfl rfl) ?_
  simp only [Act.put,q1,q2,q3]
  refine wpList_nil ?_
  change Code.wp _ _ _ _ _
  refine wp_seq ?_
  refine wp_seq ?_
  by_cases hab : a = b
  case pos =>
   -- region 10
   refine wp_schedE E ([0, 1, 2, 3, 4, 5, 6, 7, 8, 9, 11, 13, 14, 10, 12, 15, 16, 17]) (by kernel_rfl) (by kernel_rfl) (by kernel_rfl) (by kernel_rfl) (by intro d v c a w h; cases d <;> exact h) ?_
   replace E := E.drew
   refine SP (o := ⟨some 36, _, _, _, _, _⟩) (v := .int .i64 0) rfl rfl rfl rfl (fun w hS => run_move rfl rfl) ?_
   simp only [Act.put,q1,q2,q3]
   refine SP (o := ⟨some 37, _, _, _, _, _⟩) (v := .bool false) rfl rfl rfl rfl (fun w hS => run_neI (c := false) rfl rfl rfl (by decide)) ?_
   simp only [Act.put,q1,q2,q3]
   refine SP (o := ⟨some 38, _, _, _, _, _⟩) (v := .bool false) rfl rfl rfl rfl (fun w hS => run_move rfl rfl) ?_
   simp only [Act.put,q1,q2,q3]
   refine SP (o := ⟨some 39, _, _, _, _, _⟩) (v := .agg #[.bool n11, s11]) rfl rfl rfl rfl (fun w hS => run_load_bx AgI rfl rfl (hS.1) rfl) ?_
   simp only [Act.put,q1,q2,q3]
   refine SP (o := ⟨some 40, _, _, _, _, _⟩) (v := .agg #[.bool n4, s4]) rfl rfl rfl rfl (fun w hS => run_load_bx AgI rfl rfl (hS.2.2.2.2.1) rfl) ?_
   simp only [Act.put,q1,q2,q3]
   refine S1a (o := ⟨some 41, _, _, _, _, _⟩) rfl rfl rfl rfl (Oper.wp_callB fn_eref01_Same rfl (RSame_t _ _ a a _ (E.2.1) (E.2.2.2.2.2.1) rfl) rfl E ?_)
   clear E
   intro w14 d14 E
   clear d14
   refine ⟨E, ?_⟩
   simp only [Act.put,q1,q2,q3]
   refine SP (o := ⟨some 42, _, _, _, _, _⟩) (v := .bool false) rfl rfl rfl rfl (fun w hS => run_not (b := true) rfl rfl) ?_
   simp only [Act.put,q1,q2,q3]
   refine SP (o := ⟨some 43, _, _, _, _, _⟩) (v := .bool false) rfl rfl rfl rfl (fun w hS => run_pick (b := false) rfl rfl rfl) ?_
   simp only [Act.put,q1,q2,q3]
   refine SP (o := ⟨some 44, _, _, _, _, _⟩) (v := .bool false) rfl rfl rfl rfl (fun w hS => run_move rfl rfl) ?_
   simp only [Act.put,q1,q2,q3]
   refine SP (o := ⟨some 45, _, _, _, _, _⟩) (v := .agg #[.bool n7, s7]) rfl rfl rfl rfl (fun w hS => run_load_bx AgI rfl rfl (hS.2.2.1) rfl) ?_
   simp only [Act.put,q1,q2,q3]
   refine SP (o := ⟨some 47, _, _, _, _, _⟩) (v := .string (txtS a)) rfl rfl rfl rfl (fun w hS => run_move rfl rfl) ?_
   simp only [Act.put,q1,q2,q3]
   refine SP (o := ⟨some 49, _, _, _, _, _⟩) (v := .agg #[.bool n4, s4]) rfl rfl rfl rfl (fun w hS => run_load_bx AgI rfl rfl (hS.2.2.2.2.1) rfl) ?_
   simp only [Act.put,q1,q2,q3]
   refine SP (o := ⟨some 50, _, _, _, _, _⟩) (v := .agg #[.bool n7, s7]) rfl rfl rfl rfl (fun w hS => run_load_bx AgI rfl rfl (hS.2.2.1) rfl) ?_
   simp only [Act.put,q1,q2,q3]
   refine S1a (o := ⟨some 46, _, _, _, _, _⟩) rfl rfl rfl rfl (Oper.wp_callT fn_integer_Text rfl (Text_z _ b _ (E.2.2.2.1) (Fits.mono Fb (by decide))) rfl E ?_)
   clear E
   intro w15 d15 E
   clear d15
   refine ⟨E, ?_⟩
   simp only [Act.put,q1,q2,q3]
   refine SP (o := ⟨some 48, _, _, _, _, _⟩) (v := .bool true) rfl rfl rfl rfl (fun w hS => run_eqS rfl rfl rfl (txtS_eq hab)) ?_
   simp only [Act.put,q1,q2,q3]
   refine S1a (o := ⟨some 51, _, _, _, _, _⟩) rfl rfl rfl rfl (Oper.wp_callB fn_eref01_Same rfl (RSame_t _ _ a b _ (E.2.2.2.2.2.1) (E.2.2.2.1) hab) rfl E ?_)
   clear E
   intro w16 d16 E
   clear d16
   refine ⟨E, ?_⟩
   simp only [Act.put,q1,q2,q3]
   refine SP (o := ⟨some 52, _, _, _, _, _⟩) (v := .bool false) rfl rfl rfl rfl (fun w hS => run_neB (a := true) (b := true) rfl Try.underlying4 rfl rfl rfl) ?_
   simp only [Act.put,q1,q2,q3]
   refine SP (o := ⟨some 53, _, _, _, _, _⟩) (v := .bool false) rfl rfl rfl rfl (fun w hS => run_pick (b := false) rfl rfl rfl) ?_
   simp only [Act.put,q1,q2,q3]
   refine SN ?_
   change Code.wp _ _ _ _ _
   refine wp_cond_false rfl ?_
   refine wp_skip ?_
   change Code.wp _ _ _ _ _
   refine wp_seq ?_
   -- region 12
   refine wp_region_lit ?_
   refine LV (v := .int .i64 0) rfl (run_assign rfl rfl) ?_
   simp only [Act.put,q1,q2,q3]
   refine wpList_nil ?_
   change Code.wp _ _ _ _ _
   refine wp_seq ?_
   -- region 13
   refine wp_region_lit ?_
   refine LV (v := .int .i64 0) rfl (run_assign rfl rfl) ?_
   simp only [Act.put,q1,q2,q3]
   refine wpList_nil ?_
   change Code.wp _ _ _ _ _
   refine wp_seq ?_
   refine wp_seq ?_
   obtain ⟨aob, capb, hvb⟩ := Sl.shape hsb
   by_cases hlb : 0 < lb.length
   case pos =>
    -- region 14
    refine wp_region_lit ?_
    refine LV (v := .pointer (some ⟨b2, 1, none⟩)) rfl (run_fieldRaw1 rfl rfl) ?_
    simp only [Act.put,q1,q2,q3]
    refine LV (v := sb) rfl (run_cell rfl isAgg_words rfl (E.2.2.2.2.2.2.1) rfl) ?_
    simp only [Act.put,q1,q2,q3]
    refine LV (v := .int .i64 ((lb.length : Nat) : Int)) rfl (run_len rfl hvb) ?_
    simp only [Act.put,q1,q2,q3]
    refine LV (v := .bool true) rfl (run_gtI (c := true) rfl rfl rfl (by rw [decide_eq_true_eq]; omega)) ?_
    simp only [Act.put,q1,q2,q3]
    refine wpList_nil ?_
    change Code.wp _ _ _ _ _
    refine wp_cond_true rfl ?_
    refine wp_seq ?_
    obtain ⟨gb, ob, cb, hvb2, hcell⟩ := Sl.at (i := 0) (Sl.below hsb (E.2.2.2.2.2.2.2.2.1)) hlb
    obtain ⟨p, hp⟩ : ∃ p, gd lb 0 % ((txtS a).size + 1) = p := ⟨_, rfl⟩
    have hp1 : p < (txtS a).size + 1 := by rw [← hp]; exact Nat.mod_lt _ (by omega)
    obtain ⟨q, hq⟩ : ∃ q, gd lb 0 % 5 = q := ⟨_, rfl⟩
    have hq1 : q < 5 := by rw [← hq]; exact Nat.mod_lt _ (by omega)
    have hgd := gd_lt hsb.wd 0
    -- region 15
    refine wp_region_lit ?_
    refine LV (v := .pointer (some ⟨b2, 1, none⟩)) rfl (run_fieldRaw1 rfl rfl) ?_
    simp only [Act.put,q1,q2,q3]
    refine LV (v := sb) rfl (run_cell rfl isAgg_words rfl (E.2.2.2.2.2.2.1) rfl) ?_
    simp only [Act.put,q1,q2,q3]
    refine LV (v := .pointer (some ⟨gb, ob + 0 * 1, none⟩)) rfl (run_idx (j := 0) rfl Try.underlying22 (by kernel_rfl) hvb2 rfl rfl hlb) ?_
    simp only [Act.put,q1,q2,q3]
    refine LV (v := .int .u32 ((gd lb 0 : Nat) : Int)) rfl (run_loadC rfl isAgg_u32 rfl hcell) ?_
    simp only [Act.put,q1,q2,q3]
    refine LV (v := .string (txtS a)) rfl (run_move rfl rfl) ?_
    simp only [Act.put,q1,q2,q3]
    refine LV (v := .int .i64 (((txtS a).size : Nat) : Int)) rfl (run_lenS rfl rfl) ?_
    simp only [Act.put,q1,q2,q3]
    refine LV (v := .int .i64 (((txtS a).size + 1 : Nat) : Int)) rfl (run_addI rfl rfl rfl (wrap_i64_nat (by omega) (by omega))) ?_
    simp only [Act.put,q1,q2,q3]
    refine LV (v := .int .u32 (((txtS a).size + 1 : Nat) : Int)) rfl (run_convI rfl rfl (by rw [Try.underlying3]; rfl) Try.underlying27 (wrap_u32_nat rfl (by omega))) ?_
    simp only [Act.put,q1,q2,q3]
    refine LV (v := .int .u32 ((p : Nat) : Int)) rfl (run_remI rfl rfl rfl (by omega) (by rw [tmod_nat, hp])) ?_
    simp only [Act.put,q1,q2,q3]
    refine LV (v := .int .i64 ((p : Nat) : Int)) rfl (run_convI rfl rfl (by rw [Try.underlying27]; rfl) Try.underlying3 (wrap_i64_nat rfl (by omega))) ?_
    simp only [Act.put,q1,q2,q3]
    refine LV (v := .int .i64 ((p : Nat) : Int)) rfl (run_assign rfl rfl) ?_
    simp only [Act.put,q1,q2,q3]
    refine wpList_nil ?_
    change Code.wp _ _ _ _ _
    -- region 16
    refine wp_region_lit ?_
    refine LV (v := .pointer (some ⟨b2, 1, none⟩)) rfl (run_fieldRaw1 rfl rfl) ?_
    simp only [Act.put,q1,q2,q3]
    refine LV (v := sb) rfl (run_cell rfl isAgg_words rfl (E.2.2.2.2.2.2.1) rfl) ?_
    simp only [Act.put,q1,q2,q3]
    refine LV (v := .pointer (some ⟨gb, ob + 0 * 1, none⟩)) rfl (run_idx (j := 0) rfl Try.underlying22 (by kernel_rfl) hvb2 rfl rfl hlb) ?_
    simp only [Act.put,q1,q2,q3]
    refine LV (v := .int .u32 ((gd lb 0 : Nat) : Int)) rfl (run_loadC rfl isAgg_u32 rfl hcell) ?_
    simp only [Act.put,q1,q2,q3]
    refine LV (v := .int .u32 ((q : Nat) : Int)) rfl (run_remI rfl rfl rfl (by decide) ((tmod_nat _ 5).trans (by rw [hq]))) ?_
    simp only [Act.put,q1,q2,q3]
    refine LV (v := .int .i64 ((q : Nat) : Int)) rfl (run_convI rfl rfl (by rw [Try.underlying27]; rfl) Try.underlying3 (wrap_i64_nat rfl (by omega))) ?_
    simp only [Act.put,q1,q2,q3]
    refine LV (v := .int .i64 ((q : Nat) : Int)) rfl (run_assign rfl rfl) ?_
    simp only [Act.put,q1,q2,q3]
    refine wpList_nil ?_
    change Code.wp _ _ _ _ _
    refine wp_seq ?_
    -- region 17
    refine wp_schedE E ([0, 1, 2, 3, 4, 5, 6, 7, 8, 9, 10, 11, 12, 13, 14]) (by kernel_rfl) (by kernel_rfl) (by kernel_rfl) (by kernel_rfl) (by intro d v c a w h; cases d <;> exact h) ?_
    replace E := E.drew
    refine SP (o := ⟨some 74, _, _, _, _, _⟩) (v := .string (txtS a)) rfl rfl rfl rfl (fun w hS => run_move rfl rfl) ?_
    simp only [Act.put,q1,q2,q3]
    refine SP (o := ⟨some 75, _, _, _, _, _⟩) (v := .int .i64 ((p : Nat) : Int)) rfl rfl rfl rfl (fun w hS => run_move rfl rfl) ?_
    simp only [Act.put,q1,q2,q3]
    refine SP (o := ⟨some 76, _, _, _, _, _⟩) (v := .string ((txtS a).extract 0 p)) rfl rfl rfl rfl (fun w hS => run_sliceHi (j := p) rfl Try.underlying9 rfl rfl rfl (by omega)) ?_
    simp only [Act.put,q1,q2,q3]
    refine SP (o := ⟨some 77, _, _, _, _, _⟩) (v := .string put) rfl rfl rfl rfl (fun w hS => run_move rfl rfl) ?_
    simp only [Act.put,q1,q2,q3]
    refine SP (o := ⟨some 78, _, _, _, _, _⟩) (v := .string ((txtS a).extract 0 p ++ put)) rfl rfl rfl rfl (fun w hS => run_cat rfl rfl rfl (by rw [ByteArray.size_extract]; omega)) ?_
    simp only [Act.put,q1,q2,q3]
    refine SP (o := ⟨some 79, _, _, _, _, _⟩) (v := .string (txtS a)) rfl rfl rfl rfl (fun w hS => run_move rfl rfl) ?_
    simp only [Act.put,q1,q2,q3]
    refine SP (o := ⟨some 80, _, _, _, _, _⟩) (v := .int .i64 ((p : Nat) : Int)) rfl rfl rfl rfl (fun w hS => run_move rfl rfl) ?_
    simp only [Act.put,q1,q2,q3]
    refine SP (o := ⟨some 81, _, _, _, _, _⟩) (v := .int .i64 ((q : Nat) : Int)) rfl rfl rfl rfl (fun w hS => run_move rfl rfl) ?_
    simp only [Act.put,q1,q2,q3]
    refine SP (o := ⟨some 82, _, _, _, _, _⟩) (v := .int .i64 ((p + q : Nat) : Int)) rfl rfl rfl rfl (fun w hS => run_addI rfl rfl rfl (wrap_i64_nat (by omega) (by omega))) ?_
    simp only [Act.put,q1,q2,q3]
    refine SP (o := ⟨some 83, _, _, _, _, _⟩) (v := .string (txtS a)) rfl rfl rfl rfl (fun w hS => run_move rfl rfl) ?_
    simp only [Act.put,q1,q2,q3]
    refine SP (o := ⟨some 84, _, _, _, _, _⟩) (v := .int .i64 (((txtS a).size : Nat) : Int)) rfl rfl rfl rfl (fun w hS => run_lenS rfl rfl) ?_
    simp only [Act.put,q1,q2,q3]
    refine S1a (o := ⟨some 85, _, _, _, _, _⟩) rfl rfl rfl rfl (Oper.wp_of_val (v := .int .i64 ((min (p + q) (txtS a).size : Nat) : Int)) (run_minI rfl rfl rfl (by split <;> omega)) ?_)
    refine ⟨E, ?_⟩
    simp only [Act.put,q1,q2,q3]
    refine SP (o := ⟨some 86, _, _, _, _, _⟩) (v := .string ((txtS a).extract (min (p + q) (txtS a).size) (txtS a).size)) rfl rfl rfl rfl (fun w hS => run_sliceS (j := min (p + q) (txtS a).size) rfl Try.underlying9 rfl rfl rfl (Nat.min_le_right _ _)) ?_
    simp only [Act.put,q1,q2,q3]
    refine SP (o := ⟨some 87, _, _, _, _, _⟩) (v := .string ((txtS a).extract 0 p ++ put ++ (txtS a).extract (min (p + q) (txtS a).size) (txtS a).size)) rfl rfl rfl rfl (fun w hS => run_cat rfl rfl rfl (by rw [ByteArray.size_append, ByteArray.size_extract, ByteArray.size_extract]; omega)) ?_
    simp only [Act.put,q1,q2,q3]
    refine SP (o := ⟨some 15, _, _, _, _, _⟩) (v := .string ((txtS a).extract 0 p ++ put ++ (txtS a).extract (min (p + q) (txtS a).size) (txtS a).size)) rfl rfl rfl rfl (fun w hS => run_assign rfl rfl) ?_
    simp only [Act.put,q1,q2,q3]
    refine SN ?_
    change Code.wp _ _ _ _ _
    refine wp_seq ?_
    have hos : ((txtS a).extract 0 p ++ put ++ (txtS a).extract (min (p + q) (txtS a).size) (txtS a).size).size ≤ 4000 := by rw [ByteArray.size_append, ByteArray.size_append, ByteArray.size_extract, ByteArray.size_extract]; omega
    by_cases hpo : parseZ ((txtS a).extract 0 p ++ put ++ (txtS a).extract (min (p + q) (txtS a).size) (txtS a).size).data.toList = none
    case pos =>
     -- region 18
     refine wp_region_lit ?_
     refine LV (v := .string ((txtS a).extract 0 p ++ put ++ (txtS a).extract (min (p + q) (txtS a).size) (txtS a).size)) rfl (run_move rfl rfl) ?_
     simp only [Act.put,q1,q2,q3]
     refine L1 rfl (Oper.wp_callIE fn_integer_Parse rfl (Parse_none _ _ hos hpo) rfl E ?_)
     clear E
     intro w17 n17 s17 d17 E
     clear d17
     simp only [Act.put,q1,q2,q3]
     refine LV (v := .tuple #[.agg #[.bool n17, s17], .int .i64 3]) rfl (run_move rfl rfl) ?_
     simp only [Act.put,q1,q2,q3]
     refine LV (v := .agg #[.bool n17, s17]) rfl (run_extract (vs := [.agg #[.bool n17, s17], .int .i64 3]) rfl rfl rfl) ?_
     simp only [Act.put,q1,q2,q3]
     refine LV (v := .int .i64 3) rfl (run_extract (vs := [.agg #[.bool n17, s17], .int .i64 3]) rfl rfl rfl) ?_
     simp only [Act.put,q1,q2,q3]
     refine L1 rfl (Oper.wp_alloc AgI rfl ?_)
     intro b18 w18 e18 z18 d18 x18
     have l18_0 : b12 < b18 := by rw [e18]; exact Bx.lt (E.2.1)
     replace E := E.below d18
     clear e18 z18 d18
     simp only [Act.put,q1,q2,q3]
     refine L1 rfl (Oper.wp_store AgI rfl rfl rfl x18 rfl rfl (IsI.one (E.1)) ?_)
     intro w19 o19 y19
     replace E := (E.onl (x18.noW now0) ⟨trivial, okB (by omega), trivial, okB (by omega), trivial, okB (by omega), trivial, okX (by omega), okX (by omega), okW (by omega), trivial⟩ o19).b y19
     clear x18 o19 y19
     simp only [Act.put]
     refine LV (v := .int .i64 3) rfl (run_assign rfl rfl) ?_
     simp only [Act.put,q1,q2,q3]
     refine wpList_nil ?_
     change Code.wp _ _ _ _ _
     refine wp_seq ?_
     refine wp_seq ?_
     -- region 19
     refine wp_region_lit ?_
     refine LV (v := .int .i64 3) rfl (run_move rfl rfl) ?_
     simp only [Act.put,q1,q2,q3]
     refine LV (v := .bool true) rfl (run_neI (c := true) rfl rfl rfl (by decide)) ?_
     simp only [Act.put,q1,q2,q3]
     refine wpList_nil ?_
     change Code.wp _ _ _ _ _
     refine wp_cond_true rfl ?_
     refine wp_seq ?_
     obtain rfl : n17 = false := (IsI.sign (E.2.1)).trans rfl
     -- region 20
     refine wp_region_lit ?_
     refine LV (v := .bool true) rfl (run_move rfl rfl) ?_
     simp only [Act.put,q1,q2,q3]
     refine LV (v := .bool true) rfl (run_move rfl rfl) ?_
     simp only [Act.put,q1,q2,q3]
     refine LV (v := .int .i64 3) rfl (run_move rfl rfl) ?_
     simp only [Act.put,q1,q2,q3]
     refine LV (v := .bool true) rfl (run_eqI (c := true) rfl rfl rfl (by decide)) ?_
     simp only [Act.put,q1,q2,q3]
     refine LV (v := .bool true) rfl (run_pick (b := true) rfl rfl rfl) ?_
     simp only [Act.put,q1,q2,q3]
     refine LV (v := .bool true) rfl (run_move rfl rfl) ?_
     simp only [Act.put,q1,q2,q3]
     refine LV (v := .string ((txtS a).extract 0 p ++ put ++ (txtS a).extract (min (p + q) (txtS a).size) (txtS a).size)) rfl (run_move rfl rfl) ?_
     simp only [Act.put,q1,q2,q3]
     refine LV (v := .string (txtS a)) rfl (run_move rfl rfl) ?_
     simp only [Act.put,q1,q2,q3]
     refine LV (v := .bool true) rfl (run_neS rfl rfl rfl (odd_ne hpo)) ?_
     simp only [Act.put,q1,q2,q3]
     refine LV (v := .bool true) rfl (run_pick (b := true) rfl rfl rfl) ?_
     simp only [Act.put,q1,q2,q3]
     refine LV (v := .bool true) rfl (run_move rfl rfl) ?_
     simp only [Act.put,q1,q2,q3]
     refine LV (v := .pointer (some ⟨b18, 1, none⟩)) rfl (run_fieldI1 rfl rfl) ?_
     simp only [Act.put,q1,q2,q3]
     refine LV (v := s17) rfl (run_cell rfl isAgg_words rfl (E.1) rfl) ?_
     simp only [Act.put,q1,q2,q3]
     obtain ⟨ao20, cap20, hs20⟩ := IsI.slice (E.2.1)
     refine LV (v := .int .i64 (((digs (0 : Int).natAbs).length : Nat) : Int)) rfl (run_len rfl hs20) ?_
     simp only [Act.put,q1,q2,q3]
     refine LV (v := .bool true) rfl (run_eqI (c := true) rfl rfl rfl (len_eq0 rfl)) ?_
     simp only [Act.put,q1,q2,q3]
     refine LV (v := .bool true) rfl (run_pick (b := true) rfl rfl rfl) ?_
     simp only [Act.put,q1,q2,q3]
     refine LV (v := .bool true) rfl (run_move rfl rfl) ?_
     simp only [Act.put,q1,q2,q3]
     refine LV (v := .pointer (some ⟨b18, 0, none⟩)) rfl (run_fieldI0 rfl rfl) ?_
     simp only [Act.put,q1,q2,q3]
     refine LV (v := .bool false) rfl (run_cell rfl isAgg_bool rfl (E.1) rfl) ?_
     simp only [Act.put,q1,q2,q3]
     refine LV (v := .bool true) rfl (run_not (b := false) rfl rfl) ?_
     simp only [Act.put,q1,q2,q3]
     refine LV (v := .bool true) rfl (run_pick (b := true) rfl rfl rfl) ?_
     simp only [Act.put,q1,q2,q3]
     refine LV (v := .bool true) rfl (run_assign rfl rfl) ?_
     simp only [Act.put,q1,q2,q3]
     refine wpList_nil ?_
     change Code.wp _ _ _ _ _
     refine wp_ret ?_
     exact bodyPost_ret (v := .bool true) (by simp [results, Try.results8, asAddr]) rfl ⟨rfl, E.2.2.2.2.2.2.2.2.2.2.1⟩
    case neg =>
     obtain ⟨d, hd⟩ := Option.ne_none_iff_exists'.1 hpo
     have Fd : Fits d 4000 := parse_fits hos hd
     -- region 18
     refine wp_region_lit ?_
     refine LV (v := .string ((txtS a).extract 0 p ++ put ++ (txtS a).extract (min (p + q) (txtS a).size) (txtS a).size)) rfl (run_move rfl rfl) ?_
     simp only [Act.put,q1,q2,q3]
     refine L1 rfl (Oper.wp_callIE fn_integer_Parse rfl (Parse_some _ d _ hos hd) rfl E ?_)
     clear E
     intro w21 n21 s21 d21 E
     clear d21
     simp only [Act.put,q1,q2,q3]
     refine LV (v := .tuple #[.agg #[.bool n21, s21], .int .i64 0]) rfl (run_move rfl rfl) ?_
     simp only [Act.put,q1,q2,q3]
     refine LV (v := .agg #[.bool n21, s21]) rfl (run_extract (vs := [.agg #[.bool n21, s21], .int .i64 0]) rfl rfl rfl) ?_
     simp only [Act.put,q1,q2,q3]
     refine LV (v := .int .i64 0) rfl (run_extract (vs := [.agg #[.bool n21, s21], .int .i64 0]) rfl rfl rfl) ?_
     simp only [Act.put,q1,q2,q3]
     refine L1 rfl (Oper.wp_alloc AgI rfl ?_)
     intro b22 w22 e22 z22 d22 x22
     have l22_0 : b12 < b22 := by rw [e22]; exact Bx.lt (E.2.1)
     replace E := E.below d22
     clear e22 z22 d22
     simp only [Act.put,q1,q2,q3]
     refine L1 rfl (Oper.wp_store AgI rfl rfl rfl x22 rfl rfl (IsI.one (E.1)) ?_)
     intro w23 o23 y23
     replace E := (E.onl (x22.noW now0) ⟨trivial, okB (by omega), trivial, okB (by omega), trivial, okB (by omega), trivial, okX (by omega), okX (by omega), okW (by omega), trivial⟩ o23).b y23
     clear x22 o23 y23
     simp only [Act.put]
     refine LV (v := .int .i64 0) rfl (run_assign rfl rfl) ?_
     simp only [Act.put,q1,q2,q3]
     refine wpList_nil ?_
     change Code.wp _ _ _ _ _
     refine wp_seq ?_
     refine wp_seq ?_
     -- region 19
     refine wp_region_lit ?_
     refine LV (v := .int .i64 0) rfl (run_move rfl rfl) ?_
     simp only [Act.put,q1,q2,q3]
     refine LV (v := .bool false) rfl (run_neI (c := false) rfl rfl rfl (by decide)) ?_
     simp only [Act.put,q1,q2,q3]
     refine wpList_nil ?_
     change Code.wp _ _ _ _ _
     refine wp_cond_false rfl ?_
     refine wp_skip ?_
     change Code.wp _ _ _ _ _
     refine wp_seq ?_
     -- region 21
     refine wp_region_lit ?_
     refine LV (v := .bool true) rfl (run_move rfl rfl) ?_
     simp only [Act.put,q1,q2,q3]
     refine LV (v := .bool true) rfl (run_move rfl rfl) ?_
     simp only [Act.put,q1,q2,q3]
     refine LV (v := .agg #[.bool n21, s21]) rfl (run_load_bx AgI rfl rfl (E.1) rfl) ?_
     simp only [Act.put,q1,q2,q3]
     refine L1 rfl (Oper.wp_callB fn_eref01_Valid rfl (RValid_z _ d _ (E.2.1)) rfl E ?_)
     clear E
     intro w24 d24 E
     clear d24
     simp only [Act.put,q1,q2,q3]
     refine LV (v := .bool true) rfl (run_pick (b := true) rfl rfl rfl) ?_
     simp only [Act.put,q1,q2,q3]
     refine LV (v := .bool true) rfl (run_move rfl rfl) ?_
     simp only [Act.put,q1,q2,q3]
     refine LV (v := .agg #[.bool n21, s21]) rfl (run_load_bx AgI rfl rfl (E.1) rfl) ?_
     simp only [Act.put,q1,q2,q3]
     refine L1 rfl (Oper.wp_callT fn_integer_Text rfl (Text_z _ d _ (E.2.1) (Fits.mono Fd (by decide))) rfl E ?_)
     clear E
     intro w25 d25 E
     clear d25
     simp only [Act.put,q1,q2,q3]
     refine LV (v := .string ((txtS a).extract 0 p ++ put ++ (txtS a).extract (min (p + q) (txtS a).size) (txtS a).size)) rfl (run_move rfl rfl) ?_
     simp only [Act.put,q1,q2,q3]
     refine LV (v := .bool true) rfl (run_eqS rfl rfl rfl (odd_eq hd)) ?_
     simp only [Act.put,q1,q2,q3]
     refine LV (v := .bool true) rfl (run_pick (b := true) rfl rfl rfl) ?_
     simp only [Act.put,q1,q2,q3]
     refine LV (v := .bool true) rfl (run_assign rfl rfl) ?_
     simp only [Act.put,q1,q2,q3]
     refine wpList_nil ?_
     change Code.wp _ _ _ _ _
     refine wp_ret ?_
     exact bodyPost_ret (v := .bool true) (by simp [results, Try.results8, asAddr]) rfl ⟨rfl, E.2.2.2.2.2.2.2.2.2.2.1⟩
   case neg =>
    -- region 14
    refine wp_region_lit ?_
    refine LV (v := .pointer (some ⟨b2, 1, none⟩)) rfl (run_fieldRaw1 rfl rfl) ?_
    simp only [Act.put,q1,q2,q3]
    refine LV (v := sb) rfl (run_cell rfl isAgg_words rfl (E.2.2.2.2.2.2.1) rfl) ?_
    simp only [Act.put,q1,q2,q3]
    refine LV (v := .int .i64 ((lb.length : Nat) : Int)) rfl (run_len rfl hvb) ?_
    simp only [Act.put,q1,q2,q3]
    refine LV (v := .bool false) rfl (run_gtI (c := false) rfl rfl rfl (by rw [decide_eq_false_iff_not]; omega)) ?_
    simp only [Act.put,q1,q2,q3]
    refine wpList_nil ?_
    change Code.wp _ _ _ _ _
    refine wp_cond_false rfl ?_
    refine wp_skip ?_
    change Code.wp _ _ _ _ _
    refine wp_seq ?_
    -- region 17
    refine wp_schedE E ([0, 1, 2, 3, 4, 5, 6, 7, 8, 9, 10, 11, 12, 13, 14]) (by kernel_rfl) (by kernel_rfl) (by kernel_rfl) (by kernel_rfl) (by intro d v c a w h; cases d <;> exact h) ?_
    replace E := E.drew
    refine SP (o := ⟨some 74, _, _, _, _, _⟩) (v := .string (txtS a)) rfl rfl rfl rfl (fun w hS => run_move rfl rfl) ?_
    simp only [Act.put,q1,q2,q3]
    refine SP (o := ⟨some 75, _, _, _, _, _⟩) (v := .int .i64 0) rfl rfl rfl rfl (fun w hS => run_move rfl rfl) ?_
    simp only [Act.put,q1,q2,q3]
    refine SP (o := ⟨some 76, _, _, _, _, _⟩) (v := .string ((txtS a).extract 0 0)) rfl rfl rfl rfl (fun w hS => run_sliceHi (j := 0) rfl Try.underlying9 rfl rfl rfl (by omega)) ?_
    simp only [Act.put,q1,q2,q3]
    refine SP (o := ⟨some 77, _, _, _, _, _⟩) (v := .string put) rfl rfl rfl rfl (fun w hS => run_move rfl rfl) ?_
    simp only [Act.put,q1,q2,q3]
    refine SP (o := ⟨some 78, _, _, _, _, _⟩) (v := .string ((txtS a).extract 0 0 ++ put)) rfl rfl rfl rfl (fun w hS => run_cat rfl rfl rfl (by rw [ByteArray.size_extract]; omega)) ?_
    simp only [Act.put,q1,q2,q3]
    refine SP (o := ⟨some 79, _, _, _, _, _⟩) (v := .string (txtS a)) rfl rfl rfl rfl (fun w hS => run_move rfl rfl) ?_
    simp only [Act.put,q1,q2,q3]
    refine SP (o := ⟨some 80, _, _, _, _, _⟩) (v := .int .i64 0) rfl rfl rfl rfl (fun w hS => run_move rfl rfl) ?_
    simp only [Act.put,q1,q2,q3]
    refine SP (o := ⟨some 81, _, _, _, _, _⟩) (v := .int .i64 0) rfl rfl rfl rfl (fun w hS => run_move rfl rfl) ?_
    simp only [Act.put,q1,q2,q3]
    refine SP (o := ⟨some 82, _, _, _, _, _⟩) (v := .int .i64 ((0 + 0 : Nat) : Int)) rfl rfl rfl rfl (fun w hS => run_addI rfl rfl rfl (wrap_i64_nat (by omega) (by omega))) ?_
    simp only [Act.put,q1,q2,q3]
    refine SP (o := ⟨some 83, _, _, _, _, _⟩) (v := .string (txtS a)) rfl rfl rfl rfl (fun w hS => run_move rfl rfl) ?_
    simp only [Act.put,q1,q2,q3]
    refine SP (o := ⟨some 84, _, _, _, _, _⟩) (v := .int .i64 (((txtS a).size : Nat) : Int)) rfl rfl rfl rfl (fun w hS => run_lenS rfl rfl) ?_
    simp only [Act.put,q1,q2,q3]
    refine S1a (o := ⟨some 85, _, _, _, _, _⟩) rfl rfl rfl rfl (Oper.wp_of_val (v := .int .i64 ((min (0 + 0) (txtS a).size : Nat) : Int)) (run_minI rfl rfl rfl (by split <;> omega)) ?_)
    refine ⟨E, ?_⟩
    simp only [Act.put,q1,q2,q3]
    refine SP (o := ⟨some 86, _, _, _, _, _⟩) (v := .string ((txtS a).extract (min (0 + 0) (txtS a).size) (txtS a).size)) rfl rfl rfl rfl (fun w hS => run_sliceS (j := min (0 + 0) (txtS a).size) rfl Try.underlying9 rfl rfl rfl (Nat.min_le_right _ _)) ?_
    simp only [Act.put,q1,q2,q3]
    refine SP (o := ⟨some 87, _, _, _, _, _⟩) (v := .string ((txtS a).extract 0 0 ++ put ++ (txtS a).extract (min (0 + 0) (txtS a).size) (txtS a).size)) rfl rfl rfl rfl (fun w hS => run_cat rfl rfl rfl (by rw [ByteArray.size_append, ByteArray.size_extract, ByteArray.size_extract]; omega)) ?_
    simp only [Act.put,q1,q2,q3]
    refine SP (o := ⟨some 15, _, _, _, _, _⟩) (v := .string ((txtS a).extract 0 0 ++ put ++ (txtS a).extract (min (0 + 0) (txtS a).size) (txtS a).size)) rfl rfl rfl rfl (fun w hS => run_assign rfl rfl) ?_
    simp only [Act.put,q1,q2,q3]
    refine SN ?_
    change Code.wp _ _ _ _ _
    refine wp_seq ?_
    have hos : ((txtS a).extract 0 0 ++ put ++ (txtS a).extract (min (0 + 0) (txtS a).size) (txtS a).size).size ≤ 4000 := by rw [ByteArray.size_append, ByteArray.size_append, ByteArray.size_extract, ByteArray.size_extract]; omega
    by_cases hpo : parseZ ((txtS a).extract 0 0 ++ put ++ (txtS a).extract (min (0 + 0) (txtS a).size) (txtS a).size).data.toList = none
    case pos =>
     -- region 18
     refine wp_region_lit ?_
     refine LV (v := .string ((txtS a).extract 0 0 ++ put ++ (txtS a).extract (min (0 + 0) (txtS a).size) (txtS a).size)) rfl (run_move rfl rfl) ?_
     simp only [Act.put,q1,q2,q3]
     refine L1 rfl (Oper.wp_callIE fn_integer_Parse rfl (Parse_none _ _ hos hpo) rfl E ?_)
     clear E
     intro w26 n26 s26 d26 E
     clear d26
     simp only [Act.put,q1,q2,q3]
     refine LV (v := .tuple #[.agg #[.bool n26, s26], .int .i64 3]) rfl (run_move rfl rfl) ?_
     simp only [Act.put,q1,q2,q3]
     refine LV (v := .agg #[.bool n26, s26]) rfl (run_extract (vs := [.agg #[.bool n26, s26], .int .i64 3]) rfl rfl rfl) ?_
     simp only [Act.put,q1,q2,q3]
     refine LV (v := .int .i64 3) rfl (run_extract (vs := [.agg #[.bool n26, s26], .int .i64 3]) rfl rfl rfl) ?_
     simp only [Act.put,q1,q2,q3]
     refine L1 rfl (Oper.wp_alloc AgI rfl ?_)
     intro b27 w27 e27 z27 d27 x27
     have l27_0 : b12 < b27 := by rw [e27]; exact Bx.lt (E.2.1)
     replace E := E.below d27
     clear e27 z27 d27
     simp only [Act.put,q1,q2,q3]
     refine L1 rfl (Oper.wp_store AgI rfl rfl rfl x27 rfl rfl (IsI.one (E.1)) ?_)
     intro w28 o28 y28
     replace E := (E.onl (x27.noW now0) ⟨trivial, okB (by omega), trivial, okB (by omega), trivial, okB (by omega), trivial, okX (by omega), okX (by omega), okW (by omega), trivial⟩ o28).b y28
     clear x27 o28 y28
     simp only [Act.put]
     refine LV (v := .int .i64 3) rfl (run_assign rfl rfl) ?_
     simp only [Act.put,q1,q2,q3]
     refine wpList_nil ?_
     change Code.wp _ _ _ _ _
     refine wp_seq ?_
     refine wp_seq ?_
     -- region 19
     refine wp_region_lit ?_
     refine LV (v := .int .i64 3) rfl (run_move rfl rfl) ?_
     simp only [Act.put,q1,q2,q3]
     refine LV (v := .bool true) rfl (run_neI (c := true) rfl rfl rfl (by decide)) ?_
     simp only [Act.put,q1,q2,q3]
     refine wpList_nil ?_
     change Code.wp _ _ _ _ _
     refine wp_cond_true rfl ?_
     refine wp_seq ?_
     obtain rfl : n26 = false := (IsI.sign (E.2.1)).trans rfl
     -- region 20
     refine wp_region_lit ?_
     refine LV (v := .bool true) rfl (run_move rfl rfl) ?_
     simp only [Act.put,q1,q2,q3]
     refine LV (v := .bool true) rfl (run_move rfl rfl) ?_
     simp only [Act.put,q1,q2,q3]
     refine LV (v := .int .i64 3) rfl (run_move rfl rfl) ?_
     simp only [Act.put,q1,q2,q3]
     refine LV (v := .bool true) rfl (run_eqI (c := true) rfl rfl rfl (by decide)) ?_
     simp only [Act.put,q1,q2,q3]
     refine LV (v := .bool true) rfl (run_pick (b := true) rfl rfl rfl) ?_
     simp only [Act.put,q1,q2,q3]
     refine LV (v := .bool true) rfl (run_move rfl rfl) ?_
     simp only [Act.put,q1,q2,q3]
     refine LV (v := .string ((txtS a).extract 0 0 ++ put ++ (txtS a).extract (min (0 + 0) (txtS a).size) (txtS a).size)) rfl (run_move rfl rfl) ?_
     simp only [Act.put,q1,q2,q3]
     refine LV (v := .string (txtS a)) rfl (run_move rfl rfl) ?_
     simp only [Act.put,q1,q2,q3]
     refine LV (v := .bool true) rfl (run_neS rfl rfl rfl (odd_ne hpo)) ?_
     simp only [Act.put,q1,q2,q3]
     refine LV (v := .bool true) rfl (run_pick (b := true) rfl rfl rfl) ?_
     simp only [Act.put,q1,q2,q3]
     refine LV (v := .bool true) rfl (run_move rfl rfl) ?_
     simp only [Act.put,q1,q2,q3]
     refine LV (v := .pointer (some ⟨b27, 1, none⟩)) rfl (run_fieldI1 rfl rfl) ?_
     simp only [Act.put,q1,q2,q3]
     refine LV (v := s26) rfl (run_cell rfl isAgg_words rfl (E.1) rfl) ?_
     simp only [Act.put,q1,q2,q3]
     obtain ⟨ao29, cap29, hs29⟩ := IsI.slice (E.2.1)
     refine LV (v := .int .i64 (((digs (0 : Int).natAbs).length : Nat) : Int)) rfl (run_len rfl hs29) ?_
     simp only [Act.put,q1,q2,q3]
     refine LV (v := .bool true) rfl (run_eqI (c := true) rfl rfl rfl (len_eq0 rfl)) ?_
     simp only [Act.put,q1,q2,q3]
     refine LV (v := .bool true) rfl (run_pick (b := true) rfl rfl rfl) ?_
     simp only [Act.put,q1,q2,q3]
     refine LV (v := .bool true) rfl (run_move rfl rfl) ?_
     simp only [Act.put,q1,q2,q3]
     refine LV (v := .pointer (some ⟨b27, 0, none⟩)) rfl (run_fieldI0 rfl rfl) ?_
     simp only [Act.put,q1,q2,q3]
     refine LV (v := .bool false) rfl (run_cell rfl isAgg_bool rfl (E.1) rfl) ?_
     simp only [Act.put,q1,q2,q3]
     refine LV (v := .bool true) rfl (run_not (b := false) rfl rfl) ?_
     simp only [Act.put,q1,q2,q3]
     refine LV (v := .bool true) rfl (run_pick (b := true) rfl rfl rfl) ?_
     simp only [Act.put,q1,q2,q3]
     refine LV (v := .bool true) rfl (run_assign rfl rfl) ?_
     simp only [Act.put,q1,q2,q3]
     refine wpList_nil ?_
     change Code.wp _ _ _ _ _
     refine wp_ret ?_
     exact bodyPost_ret (v := .bool true) (by simp [results, Try.results8, asAddr]) rfl ⟨rfl, E.2.2.2.2.2.2.2.2.2.2.1⟩
    case neg =>
     obtain ⟨d, hd⟩ := Option.ne_none_iff_exists'.1 hpo
     have Fd : Fits d 4000 := parse_fits hos hd
     -- region 18
     refine wp_region_lit ?_
     refine LV (v := .string ((txtS a).extract 0 0 ++ put ++ (txtS a).extract (min (0 + 0) (txtS a).size) (txtS a).size)) rfl (run_move rfl rfl) ?_
     simp only [Act.put,q1,q2,q3]
     refine L1 rfl (Oper.wp_callIE fn_integer_Parse rfl (Parse_some _ d _ hos hd) rfl E ?_)
     clear E
     intro w30 n30 s30 d30 E
     clear d30
     simp only [Act.put,q1,q2,q3]
     refine LV (v := .tuple #[.agg #[.bool n30, s30], .int .i64 0]) rfl (run_move rfl rfl) ?_
     simp only [Act.put,q1,q2,q3]
     refine LV (v := .agg #[.bool n30, s30]) rfl (run_extract (vs := [.agg #[.bool n30, s30], .int .i64 0]) rfl rfl rfl) ?_
     simp only [Act.put,q1,q2,q3]
     refine LV (v := .int .i64 0) rfl (run_extract (vs := [.agg #[.bool n30, s30], .int .i64 0]) rfl rfl rfl) ?_
     simp only [Act.put,q1,q2,q3]
     refine L1 rfl (Oper.wp_alloc AgI rfl ?_)
     intro b31 w31 e31 z31 d31 x31
     have l31_0 : b12 < b31 := by rw [e31]; exact Bx.lt (E.2.1)
     replace E := E.below d31
     clear e31 z31 d31
     simp only [Act.put,q1,q2,q3]
     refine L1 rfl (Oper.wp_store AgI rfl rfl rfl x31 rfl rfl (IsI.one (E.1)) ?_)
     intro w32 o32 y32
     replace E := (E.onl (x31.noW now0) ⟨trivial, okB (by omega), trivial, okB (by omega), trivial, okB (by omega), trivial, okX (by omega), okX (by omega), okW (by omega), trivial⟩ o32).b y32
     clear x31 o32 y32
     simp only [Act.put]
     refine LV (v := .int .i64 0) rfl (run_assign rfl rfl) ?_
     simp only [Act.put,q1,q2,q3]
     refine wpList_nil ?_
     change Code.wp _ _ _ _ _
     refine wp_seq ?_
     refine wp_seq ?_
     -- region 19
     refine wp_region_lit ?_
     refine LV (v := .int .i64 0) rfl (run_move rfl rfl) ?_
     simp only [Act.put,q1,q2,q3]
     refine LV (v := .bool false) rfl (run_neI (c := false) rfl rfl rfl (by decide)) ?_
     simp only [Act.put,q1,q2,q3]
     refine wpList_nil ?_
     change Code.wp _ _ _ _ _
     refine wp_cond_false rfl ?_
     refine wp_skip ?_
     change Code.wp _ _ _ _ _
     refine wp_seq ?_
     -- region 21
     refine wp_region_lit ?_
     refine LV (v := .bool true) rfl (run_move rfl rfl) ?_
     simp only [Act.put,q1,q2,q3]
     refine LV (v := .bool true) rfl (run_move rfl rfl) ?_
     simp only [Act.put,q1,q2,q3]
     refine LV (v := .agg #[.bool n30, s30]) rfl (run_load_bx AgI rfl rfl (E.1) rfl) ?_
     simp only [Act.put,q1,q2,q3]
     refine L1 rfl (Oper.wp_callB fn_eref01_Valid rfl (RValid_z _ d _ (E.2.1)) rfl E ?_)
     clear E
     intro w33 d33 E
     clear d33
     simp only [Act.put,q1,q2,q3]
     refine LV (v := .bool true) rfl (run_pick (b := true) rfl rfl rfl) ?_
     simp only [Act.put,q1,q2,q3]
     refine LV (v := .bool true) rfl (run_move rfl rfl) ?_
     simp only [Act.put,q1,q2,q3]
     refine LV (v := .agg #[.bool n30, s30]) rfl (run_load_bx AgI rfl rfl (E.1) rfl) ?_
     simp only [Act.put,q1,q2,q3]
     refine L1 rfl (Oper.wp_callT fn_integer_Text rfl (Text_z _ d _ (E.2.1) (Fits.mono Fd (by decide))) rfl E ?_)
     clear E
     intro w34 d34 E
     clear d34
     simp only [Act.put,q1,q2,q3]
     refine LV (v := .string ((txtS a).extract 0 0 ++ put ++ (txtS a).extract (min (0 + 0) (txtS a).size) (txtS a).size)) rfl (run_move rfl rfl) ?_
     simp only [Act.put,q1,q2,q3]
     refine LV (v := .bool true) rfl (run_eqS rfl rfl rfl (odd_eq hd)) ?_
     simp only [Act.put,q1,q2,q3]
     refine LV (v := .bool true) rfl (run_pick (b := true) rfl rfl rfl) ?_
     simp only [Act.put,q1,q2,q3]
     refine LV (v := .bool true) rfl (run_assign rfl rfl) ?_
     simp only [Act.put,q1,q2,q3]
     refine wpList_nil ?_
     change Code.wp _ _ _ _ _
     refine wp_ret ?_
     exact bodyPost_ret (v := .bool true) (by simp [results, Try.results8, asAddr]) rfl ⟨rfl, E.2.2.2.2.2.2.2.2.2.2.1⟩
  case neg =>
   -- region 10
   refine wp_schedE E ([0, 1, 2, 3, 4, 5, 6, 7, 8, 9, 11, 13, 14, 10, 12, 15, 16, 17]) (by kernel_rfl) (by kernel_rfl) (by kernel_rfl) (by kernel_rfl) (by intro d v c a w h; cases d <;> exact h) ?_
   replace E := E.drew
   refine SP (o := ⟨some 36, _, _, _, _, _⟩) (v := .int .i64 0) rfl rfl rfl rfl (fun w hS => run_move rfl rfl) ?_
   simp only [Act.put,q1,q2,q3]
   refine SP (o := ⟨some 37, _, _, _, _, _⟩) (v := .bool false) rfl rfl rfl rfl (fun w hS => run_neI (c := false) rfl rfl rfl (by decide)) ?_
   simp only [Act.put,q1,q2,q3]
   refine SP (o := ⟨some 38, _, _, _, _, _⟩) (v := .bool false) rfl rfl rfl rfl (fun w hS => run_move rfl rfl) ?_
   simp only [Act.put,q1,q2,q3]
   refine SP (o := ⟨some 39, _, _, _, _, _⟩) (v := .agg #[.bool n11, s11]) rfl rfl rfl rfl (fun w hS => run_load_bx AgI rfl rfl (hS.1) rfl) ?_
   simp only [Act.put,q1,q2,q3]
   refine SP (o := ⟨some 40, _, _, _, _, _⟩) (v := .agg #[.bool n4, s4]) rfl rfl rfl rfl (fun w hS => run_load_bx AgI rfl rfl (hS.2.2.2.2.1) rfl) ?_
   simp only [Act.put,q1,q2,q3]
   refine S1a (o := ⟨some 41, _, _, _, _, _⟩) rfl rfl rfl rfl (Oper.wp_callB fn_eref01_Same rfl (RSame_t _ _ a a _ (E.2.1) (E.2.2.2.2.2.1) rfl) rfl E ?_)
   clear E
   intro w35 d35 E
   clear d35
   refine ⟨E, ?_⟩
   simp only [Act.put,q1,q2,q3]
   refine SP (o := ⟨some 42, _, _, _, _, _⟩) (v := .bool false) rfl rfl rfl rfl (fun w hS => run_not (b := true) rfl rfl) ?_
   simp only [Act.put,q1,q2,q3]
   refine SP (o := ⟨some 43, _, _, _, _, _⟩) (v := .bool false) rfl rfl rfl rfl (fun w hS => run_pick (b := false) rfl rfl rfl) ?_
   simp only [Act.put,q1,q2,q3]
   refine SP (o := ⟨some 44, _, _, _, _, _⟩) (v := .bool false) rfl rfl rfl rfl (fun w hS => run_move rfl rfl) ?_
   simp only [Act.put,q1,q2,q3]
   refine SP (o := ⟨some 45, _, _, _, _, _⟩) (v := .agg #[.bool n7, s7]) rfl rfl rfl rfl (fun w hS => run_load_bx AgI rfl rfl (hS.2.2.1) rfl) ?_
   simp only [Act.put,q1,q2,q3]
   refine SP (o := ⟨some 47, _, _, _, _, _⟩) (v := .string (txtS a)) rfl rfl rfl rfl (fun w hS => run_move rfl rfl) ?_
   simp only [Act.put,q1,q2,q3]
   refine SP (o := ⟨some 49, _, _, _, _, _⟩) (v := .agg #[.bool n4, s4]) rfl rfl rfl rfl (fun w hS => run_load_bx AgI rfl rfl (hS.2.2.2.2.1) rfl) ?_
   simp only [Act.put,q1,q2,q3]
   refine SP (o := ⟨some 50, _, _, _, _, _⟩) (v := .agg #[.bool n7, s7]) rfl rfl rfl rfl (fun w hS => run_load_bx AgI rfl rfl (hS.2.2.1) rfl) ?_
   simp only [Act.put,q1,q2,q3]
   refine S1a (o := ⟨some 46, _, _, _, _, _⟩) rfl rfl rfl rfl (Oper.wp_callT fn_integer_Text rfl (Text_z _ b _ (E.2.2.2.1) (Fits.mono Fb (by decide))) rfl E ?_)
   clear E
   intro w36 d36 E
   clear d36
   refine ⟨E, ?_⟩
   simp only [Act.put,q1,q2,q3]
   refine SP (o := ⟨some 48, _, _, _, _, _⟩) (v := .bool false) rfl rfl rfl rfl (fun w hS => run_eqS rfl rfl rfl (txtS_ne hab)) ?_
   simp only [Act.put,q1,q2,q3]
   refine S1a (o := ⟨some 51, _, _, _, _, _⟩) rfl rfl rfl rfl (Oper.wp_callB fn_eref01_Same rfl (RSame_f _ _ a b _ (E.2.2.2.2.2.1) (E.2.2.2.1) hab) rfl E ?_)
   clear E
   intro w37 d37 E
   clear d37
   refine ⟨E, ?_⟩
   simp only [Act.put,q1,q2,q3]
   refine SP (o := ⟨some 52, _, _, _, _, _⟩) (v := .bool false) rfl rfl rfl rfl (fun w hS => run_neB (a := false) (b := false) rfl Try.underlying4 rfl rfl rfl) ?_
   simp only [Act.put,q1,q2,q3]
   refine SP (o := ⟨some 53, _, _, _, _, _⟩) (v := .bool false) rfl rfl rfl rfl (fun w hS => run_pick (b := false) rfl rfl rfl) ?_
   simp only [Act.put,q1,q2,q3]
   refine SN ?_
   change Code.wp _ _ _ _ _
   refine wp_cond_false rfl ?_
   refine wp_skip ?_
   change Code.wp _ _ _ _ _
   refine wp_seq ?_
   -- region 12
   refine wp_region_lit ?_
   refine LV (v := .int .i64 0) rfl (run_assign rfl rfl) ?_
   simp only [Act.put,q1,q2,q3]
   refine wpList_nil ?_
   change Code.wp _ _ _ _ _
   refine wp_seq ?_
   -- region 13
   refine wp_region_lit ?_
   refine LV (v := .int .i64 0) rfl (run_assign rfl rfl) ?_
   simp only [Act.put,q1,q2,q3]
   refine wpList_nil ?_
   change Code.wp _ _ _ _ _
   refine wp_seq ?_
   refine wp_seq ?_
   obtain ⟨aob, capb, hvb⟩ := Sl.shape hsb
   by_cases hlb : 0 < lb.length
   case pos =>
    -- region 14
    refine wp_region_lit ?_
    refine LV (v := .pointer (some ⟨b2, 1, none⟩)) rfl (run_fieldRaw1 rfl rfl) ?_
    simp only [Act.put,q1,q2,q3]
    refine LV (v := sb) rfl (run_cell rfl isAgg_words rfl (E.2.2.2.2.2.2.1) rfl) ?_
    simp only [Act.put,q1,q2,q3]
    refine LV (v := .int .i64 ((lb.length : Nat) : Int)) rfl (run_len rfl hvb) ?_
    simp only [Act.put,q1,q2,q3]
    refine LV (v := .bool true) rfl (run_gtI (c := true) rfl rfl rfl (by rw [decide_eq_true_eq]; omega)) ?_
    simp only [Act.put,q1,q2,q3]
    refine wpList_nil ?_
    change Code.wp _ _ _ _ _
    refine wp_cond_true rfl ?_
    refine wp_seq ?_
    obtain ⟨gb, ob, cb, hvb2, hcell⟩ := Sl.at (i := 0) (Sl.below hsb (E.2.2.2.2.2.2.2.2.1)) hlb
    obtain ⟨p, hp⟩ : ∃ p, gd lb 0 % ((txtS a).size + 1) = p := ⟨_, rfl⟩
    have hp1 : p < (txtS a).size + 1 := by rw [← hp]; exact Nat.mod_lt _ (by omega)
    obtain ⟨q, hq⟩ : ∃ q, gd lb 0 % 5 = q := ⟨_, rfl⟩
    have hq1 : q < 5 := by rw [← hq]; exact Nat.mod_lt _ (by omega)
    have hgd := gd_lt hsb.wd 0
    -- region 15
    refine wp_region_lit ?_
    refine LV (v := .pointer (some ⟨b2, 1, none⟩)) rfl (run_fieldRaw1 rfl rfl) ?_
    simp only [Act.put,q1,q2,q3]
    refine LV (v := sb) rfl (run_cell rfl isAgg_words rfl (E.2.2.2.2.2.2.1) rfl) ?_
    simp only [Act.put,q1,q2,q3]
    refine LV (v := .pointer (some ⟨gb, ob + 0 * 1, none⟩)) rfl (run_idx (j := 0) rfl Try.underlying22 (by kernel_rfl) hvb2 rfl rfl hlb) ?_
    simp only [Act.put,q1,q2,q3]
    refine LV (v := .int .u32 ((gd lb 0 : Nat) : Int)) rfl (run_loadC rfl isAgg_u32 rfl hcell) ?_
    simp only [Act.put,q1,q2,q3]
    refine LV (v := .string (txtS a)) rfl (run_move rfl rfl) ?_
    simp only [Act.put,q1,q2,q3]
    refine LV (v := .int .i64 (((txtS a).size : Nat) : Int)) rfl (run_lenS rfl rfl) ?_
    simp only [Act.put,q1,q2,q3]
    refine LV (v := .int .i64 (((txtS a).size + 1 : Nat) : Int)) rfl (run_addI rfl rfl rfl (wrap_i64_nat (by omega) (by omega))) ?_
    simp only [Act.put,q1,q2,q3]
    refine LV (v := .int .u32 (((txtS a).size + 1 : Nat) : Int)) rfl (run_convI rfl rfl (by rw [Try.underlying3]; rfl) Try.underlying27 (wrap_u32_nat rfl (by omega))) ?_
    simp only [Act.put,q1,q2,q3]
    refine LV (v := .int .u32 ((p : Nat) : Int)) rfl (run_remI rfl rfl rfl (by omega) (by rw [tmod_nat, hp])) ?_
    simp only [Act.put,q1,q2,q3]
    refine LV (v := .int .i64 ((p : Nat) : Int)) rfl (run_convI rfl rfl (by rw [Try.underlying27]; rfl) Try.underlying3 (wrap_i64_nat rfl (by omega))) ?_
    simp only [Act.put,q1,q2,q3]
    refine LV (v := .int .i64 ((p : Nat) : Int)) rfl (run_assign rfl rfl) ?_
    simp only [Act.put,q1,q2,q3]
    refine wpList_nil ?_
    change Code.wp _ _ _ _ _
    -- region 16
    refine wp_region_lit ?_
    refine LV (v := .pointer (some ⟨b2, 1, none⟩)) rfl (run_fieldRaw1 rfl rfl) ?_
    simp only [Act.put,q1,q2,q3]
    refine LV (v := sb) rfl (run_cell rfl isAgg_words rfl (E.2.2.2.2.2.2.1) rfl) ?_
    simp only [Act.put,q1,q2,q3]
    refine LV (v := .pointer (some ⟨gb, ob + 0 * 1, none⟩)) rfl (run_idx (j := 0) rfl Try.underlying22 (by kernel_rfl) hvb2 rfl rfl hlb) ?_
    simp only [Act.put,q1,q2,q3]
    refine LV (v := .int .u32 ((gd lb 0 : Nat) : Int)) rfl (run_loadC rfl isAgg_u32 rfl hcell) ?_
    simp only [Act.put,q1,q2,q3]
    refine LV (v := .int .u32 ((q : Nat) : Int)) rfl (run_remI rfl rfl rfl (by decide) ((tmod_nat _ 5).trans (by rw [hq]))) ?_
    simp only [Act.put,q1,q2,q3]
    refine LV (v := .int .i64 ((q : Nat) : Int)) rfl (run_convI rfl rfl (by rw [Try.underlying27]; rfl) Try.underlying3 (wrap_i64_nat rfl (by omega))) ?_
    simp only [Act.put,q1,q2,q3]
    refine LV (v := .int .i64 ((q : Nat) : Int)) rfl (run_assign rfl rfl) ?_
    simp only [Act.put,q1,q2,q3]
    refine wpList_nil ?_
    change Code.wp _ _ _ _ _
    refine wp_seq ?_
    -- region 17
    refine wp_schedE E ([0, 1, 2, 3, 4, 5, 6, 7, 8, 9, 10, 11, 12, 13, 14]) (by kernel_rfl) (by kernel_rfl) (by kernel_rfl) (by kernel_rfl) (by intro d v c a w h; cases d <;> exact h) ?_
    replace E := E.drew
    refine SP (o := ⟨some 74, _, _, _, _, _⟩) (v := .string (txtS a)) rfl rfl rfl rfl (fun w hS => run_move rfl rfl) ?_
    simp only [Act.put,q1,q2,q3]
    refine SP (o := ⟨some 75, _, _, _, _, _⟩) (v := .int .i64 ((p : Nat) : Int)) rfl rfl rfl rfl (fun w hS => run_move rfl rfl) ?_
    simp only [Act.put,q1,q2,q3]
    refine SP (o := ⟨some 76, _, _, _, _, _⟩) (v := .string ((txtS a).extract 0 p)) rfl rfl rfl rfl (fun w hS => run_sliceHi (j := p) rfl Try.underlying9 rfl rfl rfl (by omega)) ?_
    simp only [Act.put,q1,q2,q3]
    refine SP (o := ⟨some 77, _, _, _, _, _⟩) (v := .string put) rfl rfl rfl rfl (fun w hS => run_move rfl rfl) ?_
    simp only [Act.put,q1,q2,q3]
    refine SP (o := ⟨some 78, _, _, _, _, _⟩) (v := .string ((txtS a).extract 0 p ++ put)) rfl rfl rfl rfl (fun w hS => run_cat rfl rfl rfl (by rw [ByteArray.size_extract]; omega)) ?_
    simp only [Act.put,q1,q2,q3]
    refine SP (o := ⟨some 79, _, _, _, _, _⟩) (v := .string (txtS a)) rfl rfl rfl rfl (fun w hS => run_move rfl rfl) ?_
    simp only [Act.put,q1,q2,q3]
    refine SP (o := ⟨some 80, _, _, _, _, _⟩) (v := .int .i64 ((p : Nat) : Int)) rfl rfl rfl rfl (fun w hS => run_move rfl rfl) ?_
    simp only [Act.put,q1,q2,q3]
    refine SP (o := ⟨some 81, _, _, _, _, _⟩) (v := .int .i64 ((q : Nat) : Int)) rfl rfl rfl rfl (fun w hS => run_move rfl rfl) ?_
    simp only [Act.put,q1,q2,q3]
    refine SP (o := ⟨some 82, _, _, _, _, _⟩) (v := .int .i64 ((p + q : Nat) : Int)) rfl rfl rfl rfl (fun w hS => run_addI rfl rfl rfl (wrap_i64_nat (by omega) (by omega))) ?_
    simp only [Act.put,q1,q2,q3]
    refine SP (o := ⟨some 83, _, _, _, _, _⟩) (v := .string (txtS a)) rfl rfl rfl rfl (fun w hS => run_move rfl rfl) ?_
    simp only [Act.put,q1,q2,q3]
    refine SP (o := ⟨some 84, _, _, _, _, _⟩) (v := .int .i64 (((txtS a).size : Nat) : Int)) rfl rfl rfl rfl (fun w hS => run_lenS rfl rfl) ?_
    simp only [Act.put,q1,q2,q3]
    refine S1a (o := ⟨some 85, _, _, _, _, _⟩) rfl rfl rfl rfl (Oper.wp_of_val (v := .int .i64 ((min (p + q) (txtS a).size : Nat) : Int)) (run_minI rfl rfl rfl (by split <;> omega)) ?_)
    refine ⟨E, ?_⟩
    simp only [Act.put,q1,q2,q3]
    refine SP (o := ⟨some 86, _, _, _, _, _⟩) (v := .string ((txtS a).extract (min (p + q) (txtS a).size) (txtS a).size)) rfl rfl rfl rfl (fun w hS => run_sliceS (j := min (p + q) (txtS a).size) rfl Try.underlying9 rfl rfl rfl (Nat.min_le_right _ _)) ?_
    simp only [Act.put,q1,q2,q3]
    refine SP (o := ⟨some 87, _, _, _, _, _⟩) (v := .string ((txtS a).extract 0 p ++ put ++ (txtS a).extract (min (p + q) (txtS a).size) (txtS a).size)) rfl rfl rfl rfl (fun w hS => run_cat rfl rfl rfl (by rw [ByteArray.size_append, ByteArray.size_extract, ByteArray.size_extract]; omega)) ?_
    simp only [Act.put,q1,q2,q3]
    refine SP (o := ⟨some 15, _, _, _, _, _⟩) (v := .string ((txtS a).extract 0 p ++ put ++ (txtS a).extract (min (p + q) (txtS a).size) (txtS a).size)) rfl rfl rfl rfl (fun w hS => run_assign rfl rfl) ?_
    simp only [Act.put,q1,q2,q3]
    refine SN ?_
    change Code.wp _ _ _ _ _
    refine wp_seq ?_
    have hos : ((txtS a).extract 0 p ++ put ++ (txtS a).extract (min (p + q) (txtS a).size) (txtS a).size).size ≤ 4000 := by rw [ByteArray.size_append, ByteArray.size_append, ByteArray.size_extract, ByteArray.size_extract]; omega
    by_cases hpo : parseZ ((txtS a).extract 0 p ++ put ++ (txtS a).extract (min (p + q) (txtS a).size) (txtS a).size).data.toList = none
    case pos =>
     -- region 18
     refine wp_region_lit ?_
     refine LV (v := .string ((txtS a).extract 0 p ++ put ++ (txtS a).extract (min (p + q) (txtS a).size) (txtS a).size)) rfl (run_move rfl rfl) ?_
     simp only [Act.put,q1,q2,q3]
     refine L1 rfl (Oper.wp_callIE fn_integer_Parse rfl (Parse_none _ _ hos hpo) rfl E ?_)
     clear E
     intro w38 n38 s38 d38 E
     clear d38
     simp only [Act.put,q1,q2,q3]
     refine LV (v := .tuple #[.agg #[.bool n38, s38], .int .i64 3]) rfl (run_move rfl rfl) ?_
     simp only [Act.put,q1,q2,q3]
     refine LV (v := .agg #[.bool n38, s38]) rfl (run_extract (vs := [.agg #[.bool n38, s38], .int .i64 3]) rfl rfl rfl) ?_
     simp only [Act.put,q1,q2,q3]
     refine LV (v := .int .i64 3) rfl (run_extract (vs := [.agg #[.bool n38, s38], .int .i64 3]) rfl rfl rfl) ?_
     simp only [Act.put,q1,q2,q3]
     refine L1 rfl (Oper.wp_alloc AgI rfl ?_)
     intro b39 w39 e39 z39 d39 x39
     have l39_0 : b12 < b39 := by rw [e39]; exact Bx.lt (E.2.1)
     replace E := E.below d39
     clear e39 z39 d39
     simp only [Act.put,q1,q2,q3]
     refine L1 rfl (Oper.wp_store AgI rfl rfl rfl x39 rfl rfl (IsI.one (E.1)) ?_)
     intro w40 o40 y40
     replace E := (E.onl (x39.noW now0) ⟨trivial, okB (by omega), trivial, okB (by omega), trivial, okB (by omega), trivial, okX (by omega), okX (by omega), okW (by omega), trivial⟩ o40).b y40
     clear x39 o40 y40
     simp only [Act.put]
     refine LV (v := .int .i64 3) rfl (run_assign rfl rfl) ?_
     simp only [Act.put,q1,q2,q3]
     refine wpList_nil ?_
     change Code.wp _ _ _ _ _
     refine wp_seq ?_
     refine wp_seq ?_
     -- region 19
     refine wp_region_lit ?_
     refine LV (v := .int .i64 3) rfl (run_move rfl rfl) ?_
     simp only [Act.put,q1,q2,q3]
     refine LV (v := .bool true) rfl (run_neI (c := true) rfl rfl rfl (by decide)) ?_
     simp only [Act.put,q1,q2,q3]
     refine wpList_nil ?_
     change Code.wp _ _ _ _ _
     refine wp_cond_true rfl ?_
     refine wp_seq ?_
     obtain rfl : n38 = false := (IsI.sign (E.2.1)).trans rfl
     -- region 20
     refine wp_region_lit ?_
     refine LV (v := .bool true) rfl (run_move rfl rfl) ?_
     simp only [Act.put,q1,q2,q3]
     refine LV (v := .bool true) rfl (run_move rfl rfl) ?_
     simp only [Act.put,q1,q2,q3]
     refine LV (v := .int .i64 3) rfl (run_move rfl rfl) ?_
     simp only [Act.put,q1,q2,q3]
     refine LV (v := .bool true) rfl (run_eqI (c := true) rfl rfl rfl (by decide)) ?_
     simp only [Act.put,q1,q2,q3]
     refine LV (v := .bool true) rfl (run_pick (b := true) rfl rfl rfl) ?_
     simp only [Act.put,q1,q2,q3]
     refine LV (v := .bool true) rfl (run_move rfl rfl) ?_
     simp only [Act.put,q1,q2,q3]
     refine LV (v := .string ((txtS a).extract 0 p ++ put ++ (txtS a).extract (min (p + q) (txtS a).size) (txtS a).size)) rfl (run_move rfl rfl) ?_
     simp only [Act.put,q1,q2,q3]
     refine LV (v := .string (txtS a)) rfl (run_move rfl rfl) ?_
     simp only [Act.put,q1,q2,q3]
     refine LV (v := .bool true) rfl (run_neS rfl rfl rfl (odd_ne hpo)) ?_
     simp only [Act.put,q1,q2,q3]
     refine LV (v := .bool true) rfl (run_pick (b := true) rfl rfl rfl) ?_
     simp only [Act.put,q1,q2,q3]
     refine LV (v := .bool true) rfl (run_move rfl rfl) ?_
     simp only [Act.put,q1,q2,q3]
     refine LV (v := .pointer (some ⟨b39, 1, none⟩)) rfl (run_fieldI1 rfl rfl) ?_
     simp only [Act.put,q1,q2,q3]
     refine LV (v := s38) rfl (run_cell rfl isAgg_words rfl (E.1) rfl) ?_
     simp only [Act.put,q1,q2,q3]
     obtain ⟨ao41, cap41, hs41⟩ := IsI.slice (E.2.1)
     refine LV (v := .int .i64 (((digs (0 : Int).natAbs).length : Nat) : Int)) rfl (run_len rfl hs41) ?_
     simp only [Act.put,q1,q2,q3]
     refine LV (v := .bool true) rfl (run_eqI (c := true) rfl rfl rfl (len_eq0 rfl)) ?_
     simp only [Act.put,q1,q2,q3]
     refine LV (v := .bool true) rfl (run_pick (b := true) rfl rfl rfl) ?_
     simp only [Act.put,q1,q2,q3]
     refine LV (v := .bool true) rfl (run_move rfl rfl) ?_
     simp only [Act.put,q1,q2,q3]
     refine LV (v := .pointer (some ⟨b39, 0, none⟩)) rfl (run_fieldI0 rfl rfl) ?_
     simp only [Act.put,q1,q2,q3]
     refine LV (v := .bool false) rfl (run_cell rfl isAgg_bool rfl (E.1) rfl) ?_
     simp only [Act.put,q1,q2,q3]
     refine LV (v := .bool true) rfl (run_not (b := false) rfl rfl) ?_
     simp only [Act.put,q1,q2,q3]
     refine LV (v := .bool true) rfl (run_pick (b := true) rfl rfl rfl) ?_
     simp only [Act.put,q1,q2,q3]
     refine LV (v := .bool true) rfl (run_assign rfl rfl) ?_
     simp only [Act.put,q1,q2,q3]
     refine wpList_nil ?_
     change Code.wp _ _ _ _ _
     refine wp_ret ?_
     exact bodyPost_ret (v := .bool true) (by simp [results, Try.results8, asAddr]) rfl ⟨rfl, E.2.2.2.2.2.2.2.2.2.2.1⟩
    case neg =>
     obtain ⟨d, hd⟩ := Option.ne_none_iff_exists'.1 hpo
     have Fd : Fits d 4000 := parse_fits hos hd
     -- region 18
     refine wp_region_lit ?_
     refine LV (v := .string ((txtS a).extract 0 p ++ put ++ (txtS a).extract (min (p + q) (txtS a).size) (txtS a).size)) rfl (run_move rfl rfl) ?_
     simp only [Act.put,q1,q2,q3]
     refine L1 rfl (Oper.wp_callIE fn_integer_Parse rfl (Parse_some _ d _ hos hd) rfl E ?_)
     clear E
     intro w42 n42 s42 d42 E
     clear d42
     simp only [Act.put,q1,q2,q3]
     refine LV (v := .tuple #[.agg #[.bool n42, s42], .int .i64 0]) rfl (run_move rfl rfl) ?_
     simp only [Act.put,q1,q2,q3]
     refine LV (v := .agg #[.bool n42, s42]) rfl (run_extract (vs := [.agg #[.bool n42, s42], .int .i64 0]) rfl rfl rfl) ?_
     simp only [Act.put,q1,q2,q3]
     refine LV (v := .int .i64 0) rfl (run_extract (vs := [.agg #[.bool n42, s42], .int .i64 0]) rfl rfl rfl) ?_
     simp only [Act.put,q1,q2,q3]
     refine L1 rfl (Oper.wp_alloc AgI rfl ?_)
     intro b43 w43 e43 z43 d43 x43
     have l43_0 : b12 < b43 := by rw [e43]; exact Bx.lt (E.2.1)
     replace E := E.below d43
     clear e43 z43 d43
     simp only [Act.put,q1,q2,q3]
     refine L1 rfl (Oper.wp_store AgI rfl rfl rfl x43 rfl rfl (IsI.one (E.1)) ?_)
     intro w44 o44 y44
     replace E := (E.onl (x43.noW now0) ⟨trivial, okB (by omega), trivial, okB (by omega), trivial, okB (by omega), trivial, okX (by omega), okX (by omega), okW (by omega), trivial⟩ o44).b y44
     clear x43 o44 y44
     simp only [Act.put]
     refine LV (v := .int .i64 0) rfl (run_assign rfl rfl) ?_
     simp only [Act.put,q1,q2,q3]
     refine wpList_nil ?_
     change Code.wp _ _ _ _ _
     refine wp_seq ?_
     refine wp_seq ?_
     -- region 19
     refine wp_region_lit ?_
     refine LV (v := .int .i64 0) rfl (run_move rfl rfl) ?_
     simp only [Act.put,q1,q2,q3]
     refine LV (v := .bool false) rfl (run_neI (c := false) rfl rfl rfl (by decide)) ?_
     simp only [Act.put,q1,q2,q3]
     refine wpList_nil ?_
     change Code.wp _ _ _ _ _
     refine wp_cond_false rfl ?_
     refine wp_skip ?_
     change Code.wp _ _ _ _ _
     refine wp_seq ?_
     -- region 21
     refine wp_region_lit ?_
     refine LV (v := .bool true) rfl (run_move rfl rfl) ?_
     simp only [Act.put,q1,q2,q3]
     refine LV (v := .bool true) rfl (run_move rfl rfl) ?_
     simp only [Act.put,q1,q2,q3]
     refine LV (v := .agg #[.bool n42, s42]) rfl (run_load_bx AgI rfl rfl (E.1) rfl) ?_
     simp only [Act.put,q1,q2,q3]
     refine L1 rfl (Oper.wp_callB fn_eref01_Valid rfl (RValid_z _ d _ (E.2.1)) rfl E ?_)
     clear E
     intro w45 d45 E
     clear d45
     simp only [Act.put,q1,q2,q3]
     refine LV (v := .bool true) rfl (run_pick (b := true) rfl rfl rfl) ?_
     simp only [Act.put,q1,q2,q3]
     refine LV (v := .bool true) rfl (run_move rfl rfl) ?_
     simp only [Act.put,q1,q2,q3]
     refine LV (v := .agg #[.bool n42, s42]) rfl (run_load_bx AgI rfl rfl (E.1) rfl) ?_
     simp only [Act.put,q1,q2,q3]
     refine L1 rfl (Oper.wp_callT fn_integer_Text rfl (Text_z _ d _ (E.2.1) (Fits.mono Fd (by decide))) rfl E ?_)
     clear E
     intro w46 d46 E
     clear d46
     simp only [Act.put,q1,q2,q3]
     refine LV (v := .string ((txtS a).extract 0 p ++ put ++ (txtS a).extract (min (p + q) (txtS a).size) (txtS a).size)) rfl (run_move rfl rfl) ?_
     simp only [Act.put,q1,q2,q3]
     refine LV (v := .bool true) rfl (run_eqS rfl rfl rfl (odd_eq hd)) ?_
     simp only [Act.put,q1,q2,q3]
     refine LV (v := .bool true) rfl (run_pick (b := true) rfl rfl rfl) ?_
     simp only [Act.put,q1,q2,q3]
     refine LV (v := .bool true) rfl (run_assign rfl rfl) ?_
     simp only [Act.put,q1,q2,q3]
     refine wpList_nil ?_
     change Code.wp _ _ _ _ _
     refine wp_ret ?_
     exact bodyPost_ret (v := .bool true) (by simp [results, Try.results8, asAddr]) rfl ⟨rfl, E.2.2.2.2.2.2.2.2.2.2.1⟩
   case neg =>
    -- region 14
    refine wp_region_lit ?_
    refine LV (v := .pointer (some ⟨b2, 1, none⟩)) rfl (run_fieldRaw1 rfl rfl) ?_
    simp only [Act.put,q1,q2,q3]
    refine LV (v := sb) rfl (run_cell rfl isAgg_words rfl (E.2.2.2.2.2.2.1) rfl) ?_
    simp only [Act.put,q1,q2,q3]
    refine LV (v := .int .i64 ((lb.length : Nat) : Int)) rfl (run_len rfl hvb) ?_
    simp only [Act.put,q1,q2,q3]
    refine LV (v := .bool false) rfl (run_gtI (c := false) rfl rfl rfl (by rw [decide_eq_false_iff_not]; omega)) ?_
    simp only [Act.put,q1,q2,q3]
    refine wpList_nil ?_
    change Code.wp _ _ _ _ _
    refine wp_cond_false rfl ?_
    refine wp_skip ?_
    change Code.wp _ _ _ _ _
    refine wp_seq ?_
    -- region 17
    refine wp_schedE E ([0, 1, 2, 3, 4, 5, 6, 7, 8, 9, 10, 11, 12, 13, 14]) (by kernel_rfl) (by kernel_rfl) (by kernel_rfl) (by kernel_rfl) (by intro d v c a w h; cases d <;> exact h) ?_
    replace E := E.drew
    refine SP (o := ⟨some 74, _, _, _, _, _⟩) (v := .string (txtS a)) rfl rfl rfl rfl (fun w hS => run_move rfl rfl) ?_
    simp only [Act.put,q1,q2,q3]
    refine SP (o := ⟨some 75, _, _, _, _, _⟩) (v := .int .i64 0) rfl rfl rfl rfl (fun w hS => run_move rfl rfl) ?_
    simp only [Act.put,q1,q2,q3]
    refine SP (o := ⟨some 76, _, _, _, _, _⟩) (v := .string ((txtS a).extract 0 0)) rfl rfl rfl rfl (fun w hS => run_sliceHi (j := 0) rfl Try.underlying9 rfl rfl rfl (by omega)) ?_
    simp only [Act.put,q1,q2,q3]
    refine SP (o := ⟨some 77, _, _, _, _, _⟩) (v := .string put) rfl rfl rfl rfl (fun w hS => run_move rfl rfl) ?_
    simp only [Act.put,q1,q2,q3]
    refine SP (o := ⟨some 78, _, _, _, _, _⟩) (v := .string ((txtS a).extract 0 0 ++ put)) rfl rfl rfl rfl (fun w hS => run_cat rfl rfl rfl (by rw [ByteArray.size_extract]; omega)) ?_
    simp only [Act.put,q1,q2,q3]
    refine SP (o := ⟨some 79, _, _, _, _, _⟩) (v := .string (txtS a)) rfl rfl rfl rfl (fun w hS => run_move rfl rfl) ?_
    simp only [Act.put,q1,q2,q3]
    refine SP (o := ⟨some 80, _, _, _, _, _⟩) (v := .int .i64 0) rfl rfl rfl rfl (fun w hS => run_move rfl rfl) ?_
    simp only [Act.put,q1,q2,q3]
    refine SP (o := ⟨some 81, _, _, _, _, _⟩) (v := .int .i64 0) rfl rfl rfl rfl (fun w hS => run_move rfl rfl) ?_
    simp only [Act.put,q1,q2,q3]
    refine SP (o := ⟨some 82, _, _, _, _, _⟩) (v := .int .i64 ((0 + 0 : Nat) : Int)) rfl rfl rfl rfl (fun w hS => run_addI rfl rfl rfl (wrap_i64_nat (by omega) (by omega))) ?_
    simp only [Act.put,q1,q2,q3]
    refine SP (o := ⟨some 83, _, _, _, _, _⟩) (v := .string (txtS a)) rfl rfl rfl rfl (fun w hS => run_move rfl rfl) ?_
    simp only [Act.put,q1,q2,q3]
    refine SP (o := ⟨some 84, _, _, _, _, _⟩) (v := .int .i64 (((txtS a).size : Nat) : Int)) rfl rfl rfl rfl (fun w hS => run_lenS rfl rfl) ?_
    simp only [Act.put,q1,q2,q3]
    refine S1a (o := ⟨some 85, _, _, _, _, _⟩) rfl rfl rfl rfl (Oper.wp_of_val (v := .int .i64 ((min (0 + 0) (txtS a).size : Nat) : Int)) (run_minI rfl rfl rfl (by split <;> omega)) ?_)
    refine ⟨E, ?_⟩
    simp only [Act.put,q1,q2,q3]
    refine SP (o := ⟨some 86, _, _, _, _, _⟩) (v := .string ((txtS a).extract (min (0 + 0) (txtS a).size) (txtS a).size)) rfl rfl rfl rfl (fun w hS => run_sliceS (j := min (0 + 0) (txtS a).size) rfl Try.underlying9 rfl rfl rfl (Nat.min_le_right _ _)) ?_
    simp only [Act.put,q1,q2,q3]
    refine SP (o := ⟨some 87, _, _, _, _, _⟩) (v := .string ((txtS a).extract 0 0 ++ put ++ (txtS a).extract (min (0 + 0) (txtS a).size) (txtS a).size)) rfl rfl rfl rfl (fun w hS => run_cat rfl rfl rfl (by rw [ByteArray.size_append, ByteArray.size_extract, ByteArray.size_extract]; omega)) ?_
    simp only [Act.put,q1,q2,q3]
    refine SP (o := ⟨some 15, _, _, _, _, _⟩) (v := .string ((txtS a).extract 0 0 ++ put ++ (txtS a).extract (min (0 + 0) (txtS a).size) (txtS a).size)) rfl rfl rfl rfl (fun w hS => run_assign rfl rfl) ?_
    simp only [Act.put,q1,q2,q3]
    refine SN ?_
    change Code.wp _ _ _ _ _
    refine wp_seq ?_
    have hos : ((txtS a).extract 0 0 ++ put ++ (txtS a).extract (min (0 + 0) (txtS a).size) (txtS a).size).size ≤ 4000 := by rw [ByteArray.size_append, ByteArray.size_append, ByteArray.size_extract, ByteArray.size_extract]; omega
    by_cases hpo : parseZ ((txtS a).extract 0 0 ++ put ++ (txtS a).extract (min (0 + 0) (txtS a).size) (txtS a).size).data.toList = none
    case pos =>
     -- region 18
     refine wp_region_lit ?_
     refine LV (v := .string ((txtS a).extract 0 0 ++ put ++ (txtS a).extract (min (0 + 0) (txtS a).size) (txtS a).size)) rfl (run_move rfl rfl) ?_
     simp only [Act.put,q1,q2,q3]
     refine L1 rfl (Oper.wp_callIE fn_integer_Parse rfl (Parse_none _ _ hos hpo) rfl E ?_)
     clear E
     intro w47 n47 s47 d47 E
     clear d47
     simp only [Act.put,q1,q2,q3]
     refine LV (v := .tuple #[.agg #[.bool n47, s47], .int .i64 3]) rfl (run_move rfl rfl) ?_
     simp only [Act.put,q1,q2,q3]
     refine LV (v := .agg #[.bool n47, s47]) rfl (run_extract (vs := [.agg #[.bool n47, s47], .int .i64 3]) rfl rfl rfl) ?_
     simp only [Act.put,q1,q2,q3]
     refine LV (v := .int .i64 3) rfl (run_extract (vs := [.agg #[.bool n47, s47], .int .i64 3]) rfl rfl rfl) ?_
     simp only [Act.put,q1,q2,q3]
     refine L1 rfl (Oper.wp_alloc AgI rfl ?_)
     intro b48 w48 e48 z48 d48 x48
     have l48_0 : b12 < b48 := by rw [e48]; exact Bx.lt (E.2.1)
     replace E := E.below d48
     clear e48 z48 d48
     simp only [Act.put,q1,q2,q3]
     refine L1 rfl (Oper.wp_store AgI rfl rfl rfl x48 rfl rfl (IsI.one (E.1)) ?_)
     intro w49 o49 y49
     replace E := (E.onl (x48.noW now0) ⟨trivial, okB (by omega), trivial, okB (by omega), trivial, okB (by omega), trivial, okX (by omega), okX (by omega), okW (by omega), trivial⟩ o49).b y49
     clear x48 o49 y49
     simp only [Act.put]
     refine LV (v := .int .i64 3) rfl (run_assign rfl rfl) ?_
     simp only [Act.put,q1,q2,q3]
     refine wpList_nil ?_
     change Code.wp _ _ _ _ _
     refine wp_seq ?_
     refine wp_seq ?_
     -- region 19
     refine wp_region_lit ?_
     refine LV (v := .int .i64 3) rfl (run_move rfl rfl) ?_
     simp only [Act.put,q1,q2,q3]
     refine LV (v := .bool true) rfl (run_neI (c := true) rfl rfl rfl (by decide)) ?_
     simp only [Act.put,q1,q2,q3]
     refine wpList_nil ?_
     change Code.wp _ _ _ _ _
     refine wp_cond_true rfl ?_
     refine wp_seq ?_
     obtain rfl : n47 = false := (IsI.sign (E.2.1)).trans rfl
     -- region 20
     refine wp_region_lit ?_
     refine LV (v := .bool true) rfl (run_move rfl rfl) ?_
     simp only [Act.put,q1,q2,q3]
     refine LV (v := .bool true) rfl (run_move rfl rfl) ?_
     simp only [Act.put,q1,q2,q3]
     refine LV (v := .int .i64 3) rfl (run_move rfl rfl) ?_
     simp only [Act.put,q1,q2,q3]
     refine LV (v := .bool true) rfl (run_eqI (c := true) rfl rfl rfl (by decide)) ?_
     simp only [Act.put,q1,q2,q3]
     refine LV (v := .bool true) rfl (run_pick (b := true) rfl rfl rfl) ?_
     simp only [Act.put,q1,q2,q3]
     refine LV (v := .bool true) rfl (run_move rfl rfl) ?_
     simp only [Act.put,q1,q2,q3]
     refine LV (v := .string ((txtS a).extract 0 0 ++ put ++ (txtS a).extract (min (0 + 0) (txtS a).size) (txtS a).size)) rfl (run_move rfl rfl) ?_
     simp only [Act.put,q1,q2,q3]
     refine LV (v := .string (txtS a)) rfl (run_move rfl rfl) ?_
     simp only [Act.put,q1,q2,q3]
     refine LV (v := .bool true) rfl (run_neS rfl rfl rfl (odd_ne hpo)) ?_
     simp only [Act.put,q1,q2,q3]
     refine LV (v := .bool true) rfl (run_pick (b := true) rfl rfl rfl) ?_
     simp only [Act.put,q1,q2,q3]
     refine LV (v := .bool true) rfl (run_move rfl rfl) ?_
     simp only [Act.put,q1,q2,q3]
     refine LV (v := .pointer (some ⟨b48, 1, none⟩)) rfl (run_fieldI1 rfl rfl) ?_
     simp only [Act.put,q1,q2,q3]
     refine LV (v := s47) rfl (run_cell rfl isAgg_words rfl (E.1) rfl) ?_
     simp only [Act.put,q1,q2,q3]
     obtain ⟨ao50, cap50, hs50⟩ := IsI.slice (E.2.1)
     refine LV (v := .int .i64 (((digs (0 : Int).natAbs).length : Nat) : Int)) rfl (run_len rfl hs50) ?_
     simp only [Act.put,q1,q2,q3]
     refine LV (v := .bool true) rfl (run_eqI (c := true) rfl rfl rfl (len_eq0 rfl)) ?_
     simp only [Act.put,q1,q2,q3]
     refine LV (v := .bool true) rfl (run_pick (b := true) rfl rfl rfl) ?_
     simp only [Act.put,q1,q2,q3]
     refine LV (v := .bool true) rfl (run_move rfl rfl) ?_
     simp only [Act.put,q1,q2,q3]
     refine LV (v := .pointer (some ⟨b48, 0, none⟩)) rfl (run_fieldI0 rfl rfl) ?_
     simp only [Act.put,q1,q2,q3]
     refine LV (v := .bool false) rfl (run_cell rfl isAgg_bool rfl (E.1) rfl) ?_
     simp only [Act.put,q1,q2,q3]
     refine LV (v := .bool true) rfl (run_not (b := false) rfl rfl) ?_
     simp only [Act.put,q1,q2,q3]
     refine LV (v := .bool true) rfl (run_pick (b := true) rfl rfl rfl) ?_
     simp only [Act.put,q1,q2,q3]
     refine LV (v := .bool true) rfl (run_assign rfl rfl) ?_
     simp only [Act.put,q1,q2,q3]
     refine wpList_nil ?_
     change Code.wp _ _ _ _ _
     refine wp_ret ?_
     exact bodyPost_ret (v := .bool true) (by simp [results, Try.results8, asAddr]) rfl ⟨rfl, E.2.2.2.2.2.2.2.2.2.2.1⟩
    case neg =>
     obtain ⟨d, hd⟩ := Option.ne_none_iff_exists'.1 hpo
     have Fd : Fits d 4000 := parse_fits hos hd
     -- region 18
     refine wp_region_lit ?_
     refine LV (v := .string ((txtS a).extract 0 0 ++ put ++ (txtS a).extract (min (0 + 0) (txtS a).size) (txtS a).size)) rfl (run_move rfl rfl) ?_
     simp only [Act.put,q1,q2,q3]
     refine L1 rfl (Oper.wp_callIE fn_integer_Parse rfl (Parse_some _ d _ hos hd) rfl E ?_)
     clear E
     intro w51 n51 s51 d51 E
     clear d51
     simp only [Act.put,q1,q2,q3]
     refine LV (v := .tuple #[.agg #[.bool n51, s51], .int .i64 0]) rfl (run_move rfl rfl) ?_
     simp only [Act.put,q1,q2,q3]
     refine LV (v := .agg #[.bool n51, s51]) rfl (run_extract (vs := [.agg #[.bool n51, s51], .int .i64 0]) rfl rfl rfl) ?_
     simp only [Act.put,q1,q2,q3]
     refine LV (v := .int .i64 0) rfl (run_extract (vs := [.agg #[.bool n51, s51], .int .i64 0]) rfl rfl rfl) ?_
     simp only [Act.put,q1,q2,q3]
     refine L1 rfl (Oper.wp_alloc AgI rfl ?_)
     intro b52 w52 e52 z52 d52 x52
     have l52_0 : b12 < b52 := by rw [e52]; exact Bx.lt (E.2.1)
     replace E := E.below d52
     clear e52 z52 d52
     simp only [Act.put,q1,q2,q3]
     refine L1 rfl (Oper.wp_store AgI rfl rfl rfl x52 rfl rfl (IsI.one (E.1)) ?_)
     intro w53 o53 y53
     replace E := (E.onl (x52.noW now0) ⟨trivial, okB (by omega), trivial, okB (by omega), trivial, okB (by omega), trivial, okX (by omega), okX (by omega), okW (by omega), trivial⟩ o53).b y53
     clear x52 o53 y53
     simp only [Act.put]
     refine LV (v := .int .i64 0) rfl (run_assign rfl rfl) ?_
     simp only [Act.put,q1,q2,q3]
     refine wpList_nil ?_
     change Code.wp _ _ _ _ _
     refine wp_seq ?_
     refine wp_seq ?_
     -- region 19
     refine wp_region_lit ?_
     refine LV (v := .int .i64 0) rfl (run_move rfl rfl) ?_
     simp only [Act.put,q1,q2,q3]
     refine LV (v := .bool false) rfl (run_neI (c := false) rfl rfl rfl (by decide)) ?_
     simp only [Act.put,q1,q2,q3]
     refine wpList_nil ?_
     change Code.wp _ _ _ _ _
     refine wp_cond_false rfl ?_
     refine wp_skip ?_
     change Code.wp _ _ _ _ _
     refine wp_seq ?_
     -- region 21
     refine wp_region_lit ?_
     refine LV (v := .bool true) rfl (run_move rfl rfl) ?_
     simp only [Act.put,q1,q2,q3]
     refine LV (v := .bool true) rfl (run_move rfl rfl) ?_
     simp only [Act.put,q1,q2,q3]
     refine LV (v := .agg #[.bool n51, s51]) rfl (run_load_bx AgI rfl rfl (E.1) rfl) ?_
     simp only [Act.put,q1,q2,q3]
     refine L1 rfl (Oper.wp_callB fn_eref01_Valid rfl (RValid_z _ d _ (E.2.1)) rfl E ?_)
     clear E
     intro w54 d54 E
     clear d54
     simp only [Act.put,q1,q2,q3]
     refine LV (v := .bool true) rfl (run_pick (b := true) rfl rfl rfl) ?_
     simp only [Act.put,q1,q2,q3]
     refine LV (v := .bool true) rfl (run_move rfl rfl) ?_
     simp only [Act.put,q1,q2,q3]
     refine LV (v := .agg #[.bool n51, s51]) rfl (run_load_bx AgI rfl rfl (E.1) rfl) ?_
     simp only [Act.put,q1,q2,q3]
     refine L1 rfl (Oper.wp_callT fn_integer_Text rfl (Text_z _ d _ (E.2.1) (Fits.mono Fd (by decide))) rfl E ?_)
     clear E
     intro w55 d55 E
     clear d55
     simp only [Act.put,q1,q2,q3]
     refine LV (v := .string ((txtS a).extract 0 0 ++ put ++ (txtS a).extract (min (0 + 0) (txtS a).size) (txtS a).size)) rfl (run_move rfl rfl) ?_
     simp only [Act.put,q1,q2,q3]
     refine LV (v := .bool true) rfl (run_eqS rfl rfl rfl (odd_eq hd)) ?_
     simp only [Act.put,q1,q2,q3]
     refine LV (v := .bool true) rfl (run_pick (b := true) rfl rfl rfl) ?_
     simp only [Act.put,q1,q2,q3]
     refine LV (v := .bool true) rfl (run_assign rfl rfl) ?_
     simp only [Act.put,q1,q2,q3]
     refine wpList_nil ?_
     change Code.wp _ _ _ _ _
     refine wp_ret ?_
     exact bodyPost_ret (v := .bool true) (by simp [results, Try.results8, asAddr]) rfl ⟨rfl, E.2.2.2.2.2.2.2.2.2.2.1⟩
end Go.Proofs.Ytjgmfdenicbniaa
