/- Walk: integer.Parse. (Printed by g_parse2.py.) -/
import Derived.Test.YtndpjfhhigpbhaaGreatDecim
namespace Go.Proofs.YtndpjfhhigpbhaaGreat
open Go.RowKit W
/-- What Parse leaves. -/
inductive RetPa (w0 : World) (s : ByteArray) (e : Ending) (w' : World) : Prop where
  | big (h : 4000 < s.size) (r : RetZE w0 0 2 e w')
  | form (h : s.size ≤ 4000) (h' : parseZ s.data.toList = none) (r : RetZE w0 0 3 e w')
  | ok {z : Int} (h : s.size ≤ 4000) (h' : parseZ s.data.toList = some z) (r : RetZE w0 z 0 e w')
theorem decimal_t (s : ByteArray) (w : World) (hs : s.size ≤ 1000000) {b : Bool} (h : okDec s.data.toList = b) (b' : Bool) (hb : b = b' := by rfl) : Calls Tryz.prog 92 #[.string s] w (RetB w b') := by
  have := decimal_s s w hs
  rwa [h, hb] at this
theorem head_no {l : List UInt8} (h : l.length = 0 ∨ ∃ c : UInt8, l[0]? = some c ∧ ¬ c.toNat = 45) : ¬ l.head? = some 45 := by
  rw [List.head?_eq_getElem?]
  rintro e
  rcases h with h | ⟨c, hc, hn⟩
  · rw [List.eq_nil_of_length_eq_zero h] at e; cases e
  · rw [e] at hc; cases hc; exact hn rfl
theorem head_yes {l : List UInt8} {c : UInt8} (h : l[0]? = some c) (hc : c.toNat = 45) : l.head? = some 45 := by
  rw [List.head?_eq_getElem?, h, show c = 45 from UInt8.toNat_inj.1 hc]
theorem parse_pos {l : List UInt8} (h : ¬ l.head? = some 45) (hk : ¬ okDec l = true) : parseZ l = none := by unfold parseZ; rw [if_neg h, if_neg hk]
theorem parse_neg {l : List UInt8} (h : l.head? = some 45) (hk : ¬ okDec l.tail = true) : parseZ l = none := by unfold parseZ; rw [if_pos h, if_neg (fun e => hk e.1)]
theorem parse_neg0 {l : List UInt8} (h : l.head? = some 45) (hk : l.tail = [48]) : parseZ l = none := by unfold parseZ; rw [if_pos h, if_neg (fun e => e.2 hk)]
theorem parse_posok {l l' : List UInt8} (h : ¬ l.head? = some 45) (hl : l' = l) (hk : okDec l' = true) : parseZ l = some (val10 (dgs l') : Int) := by subst hl; unfold parseZ; rw [if_neg h, if_pos hk]
theorem parse_negok {l l' : List UInt8} (h : l.head? = some 45) (hl : l' = l.tail) (hk : okDec l' = true) (h48 : ¬ l' = [48]) : parseZ l = some (-(val10 (dgs l') : Int)) := by subst hl; unfold parseZ; rw [if_pos h, if_pos ⟨hk, h48⟩]
theorem dgs_take (l : List UInt8) : (dgs l).take l.length = dgs l := by
  rw [List.take_of_length_le]; simp [dgs]
theorem dgs_Dg' {l : List UInt8} (h : ∀ b ∈ l, 48 ≤ b.toNat ∧ b.toNat ≤ 57) : Dg (dgs l) := by
  intro d hd
  obtain ⟨b, hb, rfl⟩ := List.mem_map.1 hd
  have := h b hb
  omega
theorem Dg_part {l : List Nat} (h : Dg l) (p i : Nat) : Dg ((l.drop p).take i) := fun d hd => h d (List.mem_of_mem_drop (List.mem_of_mem_take hd))
theorem chunk_lt {l : List UInt8} {p i : Nat} (h : ∀ b ∈ l, 48 ≤ b.toNat ∧ b.toNat ≤ 57) (hi : i ≤ 9) : val10 (((dgs l).drop p).take i) < 1000000000 := by
  have h1 := val10_lt (Dg_part (dgs_Dg' h) p i)
  have h2 : 10 ^ (((dgs l).drop p).take i).length ≤ 10 ^ 9 := Nat.pow_le_pow_right (by omega) (by rw [List.length_take]; omega)
  have : (10 : Nat) ^ 9 = 1000000000 := rfl
  omega
theorem dgs_lt {l : List UInt8} {p i : Nat} (h : ∀ b ∈ l, 48 ≤ b.toNat ∧ b.toNat ≤ 57) (hi : i ≤ 9) : val10 (((dgs l).drop p).take i) < 1000000000 := chunk_lt h hi
theorem dgs_snoc {l : List UInt8} {p i : Nat} {b : UInt8} (hb : l[p + i]? = some b) : val10 (((dgs l).drop p).take (i + 1)) = 10 * val10 (((dgs l).drop p).take i) + (b.toNat - 48) := by
  have h1 : (dgs l)[p + i]? = some (b.toNat - 48) := by unfold dgs; rw [List.getElem?_map, hb]; rfl
  have h2 : ((dgs l).drop p)[i]? = some (b.toNat - 48) := by rw [List.getElem?_drop]; exact h1
  rw [List.take_add_one, h2]
  exact val10_snoc _ _
theorem dgs_length (l : List UInt8) : (dgs l).length = l.length := by simp [dgs]
theorem take_fits {l : List UInt8} {p : Nat} (h : ∀ b ∈ l, 48 ≤ b.toNat ∧ b.toNat ≤ 57) (hl : l.length ≤ 1000000) : (digs (val10 ((dgs l).take p))).length ≤ 1000000000 := by
  have hD : Dg ((dgs l).take p) := by have := Dg_part (dgs_Dg' h) 0 p; rwa [List.drop_zero] at this
  have h1 := val10_lt hD
  exact Nat.le_trans (digs_length_le (k := ((dgs l).take p).length) (Nat.lt_of_lt_of_le h1 (Nat.pow_le_pow_left (by decide) _))) (by rw [List.length_take, dgs_length]; omega)
/-- The next digits. -/
theorem chunk_add {l : List UInt8} {p n m : Nat} (h : p + m = l.length) (hn : n ≤ m) (hp : p = 0 ∨ n = 9) (h9 : n ≤ 9) : val10 ((dgs l).take p) * 1000000000 + val10 (((dgs l).drop p).take n) = val10 ((dgs l).take (p + n)) := by
  rw [List.take_add, val10_append]
  rcases hp with rfl | rfl
  · rw [List.take_zero, val10_nil]; omega
  · have e : (((dgs l).drop p).take 9).length = 9 := by rw [List.length_take, List.length_drop, dgs_length]; omega
    rw [e]
set_option maxRecDepth 100000 in
set_option maxHeartbeats 4000000 in
theorem Parse_s (s : ByteArray)  (w : World)  (hs9 : s.size ≤ 1000000) :
    Calls Tryz.prog 69 #[.string s] w (RetPa w s) := by
 have E := Env.start w
 go_enter Tryz.func69, Tryz.ntmps69
 refine wp_seq ?_
 -- region 0
 refine wp_region_lit ?_
 refine L1 rfl (Oper.wp_alloc AgI rfl ?_)
 intro b1 w1 e1 z1 d1 x1
 have l1 : w.heap.size ≤ b1 := by rw [e1]; exact (E.1).size
 replace E := E.below d1
 clear e1 z1 d1
 simp only [Act.put,q1,q2,q3]
 refine LV (v := .int .i64 0) rfl (run_assign rfl rfl) ?_
 simp only [Act.put,q1,q2,q3]
 refine wpList_nil ?_
 change Code.wp _ _ _ _ _
 refine wp_seq ?_
 refine wp_seq ?_
 by_cases hbig : 4000 < s.size
 case pos =>
  -- region 1
  refine wp_region_lit ?_
  refine LV (v := .string s) rfl (run_move rfl rfl) ?_
  simp only [Act.put,q1,q2,q3]
  refine LV (v := .int .i64 ((s.size : Nat) : Int)) rfl (run_lenS rfl rfl) ?_
  simp only [Act.put,q1,q2,q3]
  refine LV (v := .bool true) rfl (run_gtI (c := true) rfl rfl rfl (by rw [decide_eq_true_eq]; omega)) ?_
  simp only [Act.put,q1,q2,q3]
  refine wpList_nil ?_
  change Code.wp _ _ _ _ _
  refine wp_cond_true rfl ?_
  refine wp_seq ?_
  -- region 2
  refine wp_region_lit ?_
  refine LV (v := .agg #[.bool false, .slice none 0 0]) rfl (run_buildI0 rfl) ?_
  simp only [Act.put,q1,q2,q3]
  replace E := E.i (zero_i _)
  refine L1 rfl (Oper.wp_store AgI rfl rfl rfl x1 rfl rfl (IsI.one (E.1)) ?_)
  intro w2 o2 y2
  replace E := (E.onl (x1.noW now0) ⟨trivial, okW (by omega), trivial⟩ o2).b y2
  clear x1 o2 y2
  simp only [Act.put]
  refine LV (v := .int .i64 2) rfl (run_assign rfl rfl) ?_
  simp only [Act.put,q1,q2,q3]
  refine wpList_nil ?_
  change Code.wp _ _ _ _ _
  refine wp_ret ?_
  have r3 := res_box AgI (E.1) rfl
  exact bodyPost_ret (v := .tuple #[.agg #[.bool false, .slice none 0 0], .int .i64 2]) (by simp [results, Tryz.results69, asAddr, r3]) rfl (RetPa.big (by omega) ⟨_, rfl, E.2.1, E.2.2.1⟩)
 case neg =>
  -- region 1
  refine wp_region_lit ?_
  refine LV (v := .string s) rfl (run_move rfl rfl) ?_
  simp only [Act.put,q1,q2,q3]
  refine LV (v := .int .i64 ((s.size : Nat) : Int)) rfl (run_lenS rfl rfl) ?_
  simp only [Act.put,q1,q2,q3]
  refine LV (v := .bool false) rfl (run_gtI (c := false) rfl rfl rfl (by rw [decide_eq_false_iff_not]; omega)) ?_
  simp only [Act.put,q1,q2,q3]
  refine wpList_nil ?_
  change Code.wp _ _ _ _ _
  refine wp_cond_false rfl ?_
  refine wp_skip ?_
  change Code.wp _ _ _ _ _
  refine wp_seq ?_
  by_cases hs : s.size = 0
  case pos =>
   have hneg : ¬ s.data.toList.head? = some 45 := head_no (.inl (by rw [str_len]; exact hs))
   -- region 3
   refine wp_region_lit ?_
   refine LV (v := .string s) rfl (run_move rfl rfl) ?_
   simp only [Act.put,q1,q2,q3]
   refine LV (v := .int .i64 ((s.size : Nat) : Int)) rfl (run_lenS rfl rfl) ?_
   simp only [Act.put,q1,q2,q3]
   refine LV (v := .bool false) rfl (run_gtI (c := false) rfl rfl rfl (by rw [decide_eq_false_iff_not]; omega)) ?_
   simp only [Act.put,q1,q2,q3]
   refine LV (v := .bool false) rfl (run_move rfl rfl) ?_
   simp only [Act.put,q1,q2,q3]
   refine L0 rfl ?_
   simp only [Act.put,q1,q2,q3]
   refine L0 rfl ?_
   simp only [Act.put,q1,q2,q3]
   refine L0 rfl ?_
   simp only [Act.put,q1,q2,q3]
   refine LV (v := .bool false) rfl (run_pick (b := false) rfl rfl rfl) ?_
   simp only [Act.put,q1,q2,q3]
   refine LV (v := .bool false) rfl (run_assign rfl rfl) ?_
   simp only [Act.put,q1,q2,q3]
   refine wpList_nil ?_
   change Code.wp _ _ _ _ _
   refine wp_seq ?_
   -- region 4
   refine wp_region_lit ?_
   refine LV (v := .string s) rfl (run_move rfl rfl) ?_
   simp only [Act.put,q1,q2,q3]
   refine LV (v := .string s) rfl (run_assign rfl rfl) ?_
   simp only [Act.put,q1,q2,q3]
   refine wpList_nil ?_
   change Code.wp _ _ _ _ _
   refine wp_seq ?_
   refine wp_seq ?_
   -- region 5
   refine wp_region_lit ?_
   refine LV (v := .bool false) rfl (run_move rfl rfl) ?_
   simp only [Act.put,q1,q2,q3]
   refine wpList_nil ?_
   change Code.wp _ _ _ _ _
   refine wp_cond_false rfl ?_
   refine wp_skip ?_
   change Code.wp _ _ _ _ _
   refine wp_seq ?_
   refine wp_seq ?_
   have hdz : s.size ≤ 4000 := by omega
   by_cases hok : okDec s.data.toList = true
   case pos =>
    -- region 7
    refine wp_region_lit ?_
    refine LV (v := .string s) rfl (run_move rfl rfl) ?_
    simp only [Act.put,q1,q2,q3]
    refine L1 rfl (Oper.wp_callB fn_integer_decimal rfl (decimal_t s _ (by omega) (hok) true) rfl E ?_)
    clear E
    intro w4 d4 E
    replace x1 := x1.below d4
    clear d4
    simp only [Act.put,q1,q2,q3]
    refine LV (v := .bool false) rfl (run_not (b := true) rfl rfl) ?_
    simp only [Act.put,q1,q2,q3]
    refine LV (v := .bool false) rfl (run_move rfl rfl) ?_
    simp only [Act.put,q1,q2,q3]
    refine LV (v := .bool false) rfl (run_move rfl rfl) ?_
    simp only [Act.put,q1,q2,q3]
    refine LV (v := .bool false) rfl (run_move rfl rfl) ?_
    simp only [Act.put,q1,q2,q3]
    refine L0 rfl ?_
    simp only [Act.put,q1,q2,q3]
    refine L0 rfl ?_
    simp only [Act.put,q1,q2,q3]
    refine LV (v := .bool false) rfl (run_pick (b := false) rfl rfl rfl) ?_
    simp only [Act.put,q1,q2,q3]
    refine LV (v := .bool false) rfl (run_pick (b := false) rfl rfl rfl) ?_
    simp only [Act.put,q1,q2,q3]
    refine wpList_nil ?_
    change Code.wp _ _ _ _ _
    refine wp_cond_false rfl ?_
    refine wp_skip ?_
    change Code.wp _ _ _ _ _
    refine wp_seq ?_
    have hdp := okDec_pos hok
    have hda := okDec_all hok
    have hdl2 := str_len s
    obtain ⟨l, hl⟩ : ∃ l, l = s.data.toList := ⟨_, rfl⟩
    rw [← hl] at hok hdp hda hdl2
    -- region 9
    refine wp_region_lit ?_
    refine LV (v := .slice none 0 0) rfl (run_assign rfl rfl) ?_
    simp only [Act.put,q1,q2,q3]
    refine wpList_nil ?_
    change Code.wp _ _ _ _ _
    refine wp_seq ?_
    refine wp_block ?_
    replace E := E.b x1
    clear x1
    have hs0 : Sl w4 (.slice none 0 0) (digs (val10 ((dgs l).take 0))) := by rw [List.take_zero, val10_nil, digs_zero]; exact Sl_nil _
    replace E := E.s hs0
    refine wp_loop_ghost (fun mz a w' => ∃ (p : Nat) (R : ByteArray) (vm : Value) (g7 g8 g9 g37 g38 g39 g40 g41 g42 g43 g44 g45 g46 g47 g48 g49 g50 g51 g52 g53 g54 g55 g56 g57 g58 g59 g60 g61 g62 g63 : Value), a = ⟨#[.string s, undef, .pointer (some ⟨b1, 0, none⟩), .int .i64 0, .bool false, .string R, vm, g7, g8, g9, .string s, .int .i64 ((s.size : Nat) : Int), .bool false, undef, .string s, .int .i64 ((s.size : Nat) : Int), .bool false, .bool false, undef, undef, undef, .bool false, .string s, .bool false, undef, undef, .string s, .bool true, .bool false, .bool false, .bool false, .bool false, undef, undef, .bool false, .bool false, undef, g37, g38, g39, g40, g41, g42, g43, g44, g45, g46, g47, g48, g49, g50, g51, g52, g53, g54, g55, g56, g57, g58, g59, g60, g61, g62, g63, undef, undef, undef], []⟩ ∧ Env w' [fS vm (digs (val10 ((dgs l).take p))), fB b1 false (.slice none 0 0), fW w] ∧ mz = R.size ∧ p + R.size = l.length ∧ R.data.toList = l.drop p ∧ (p = 0 ∨ R.size % 9 = 0)) (s.size) ⟨0, s, .slice none 0 0, _, _, _, _, _, _, _, _, _, _, _, _, _, _, _, _, _, _, _, _, _, _, _, _, _, _, _, _, _, _, rfl, (Env.s (Env.b (Env.ww (Env.nil _) (E.2.2.1)) (E.2.1)) (E.1)), rfl, ⟨by rw [hdl2]; omega, by rw [← hl]; rfl, .inl rfl⟩⟩ ?_
    rintro m5 _ w5 ⟨p, R, vm, g7, g8, g9, g37, g38, g39, g40, g41, g42, g43, g44, g45, g46, g47, g48, g49, g50, g51, g52, g53, g54, g55, g56, g57, g58, g59, g60, g61, g62, g63, rfl, E, hm5, hI5⟩
    by_cases hR : R.size = 0
    case pos =>
     refine wp_seq ?_
     refine wp_seq ?_
     -- region 10
     refine wp_region_lit ?_
     refine LV (v := .string R) rfl (run_move rfl rfl) ?_
     simp only [Act.put,q1,q2,q3]
     refine LV (v := .int .i64 ((R.size : Nat) : Int)) rfl (run_lenS rfl rfl) ?_
     simp only [Act.put,q1,q2,q3]
     refine LV (v := .bool false) rfl (run_gtI (c := false) rfl rfl rfl (by rw [hR]; rfl)) ?_
     simp only [Act.put,q1,q2,q3]
     refine wpList_nil ?_
     change Code.wp _ _ _ _ _
     refine wp_cond_false rfl ?_
     refine wp_exit ?_
     change Code.wp _ _ _ _ _
     refine wp_seq ?_
     -- region 22
     refine wp_region_lit ?_
     refine LV (v := .bool false) rfl (run_move rfl rfl) ?_
     simp only [Act.put,q1,q2,q3]
     refine LV (v := vm) rfl (run_move rfl rfl) ?_
     simp only [Act.put,q1,q2,q3]
     have hpl : p = l.length := by have := hI5.1; omega
     refine L1 rfl (Oper.wp_callI fn_integer_signed rfl (signed_z false _ _ ((val10 (dgs l) : Int)) _ (E.1) (by rw [val_digs, hpl, dgs_take]; rfl)) rfl E ?_)
     clear E
     intro w6 n6 s6 d6 E
     clear d6
     simp only [Act.put,q1,q2,q3]
     have x8 := E.2.2.1
     replace E := ((E.2.2.2).s (E.2.1)).i (E.1)
     refine L1 rfl (Oper.wp_store AgI rfl rfl rfl x8 rfl rfl (IsI.one (E.1)) ?_)
     intro w7 o7 y7
     replace E := (E.onl (x8.noW now0) ⟨trivial, trivial, okW (by omega), trivial⟩ o7).b y7
     clear x8 o7 y7
     simp only [Act.put]
     refine LV (v := .int .i64 0) rfl (run_assign rfl rfl) ?_
     simp only [Act.put,q1,q2,q3]
     refine wpList_nil ?_
     change Code.wp _ _ _ _ _
     refine wp_ret ?_
     have r9 := res_box AgI (E.1) rfl
     exact bodyPost_ret (v := .tuple #[.agg #[.bool n6, s6], .int .i64 0]) (by simp [results, Tryz.results69, asAddr, r9]) rfl (RetPa.ok (by omega) (parse_posok hneg hl hok) ⟨_, rfl, E.2.1, E.2.2.2.1⟩)
    case neg =>
     by_cases h9 : R.size % 9 = 0
     case pos =>
      have hn1 : 9 ≤ R.size := by omega
      have hn0 : (9 : Nat) = if R.size % 9 = 0 then 9 else R.size % 9 := by rw [if_pos h9]
      refine wp_seq ?_
      refine wp_seq ?_
      -- region 10
      refine wp_region_lit ?_
      refine LV (v := .string R) rfl (run_move rfl rfl) ?_
      simp only [Act.put,q1,q2,q3]
      refine LV (v := .int .i64 ((R.size : Nat) : Int)) rfl (run_lenS rfl rfl) ?_
      simp only [Act.put,q1,q2,q3]
      refine LV (v := .bool true) rfl (run_gtI (c := true) rfl rfl rfl (by rw [decide_eq_true_eq]; omega)) ?_
      simp only [Act.put,q1,q2,q3]
      refine wpList_nil ?_
      change Code.wp _ _ _ _ _
      refine wp_cond_true rfl ?_
      refine wp_skip ?_
      change Code.wp _ _ _ _ _
      refine wp_block ?_
      refine wp_seq ?_
      -- region 11
      refine wp_region_lit ?_
      refine LV (v := .string R) rfl (run_move rfl rfl) ?_
      simp only [Act.put,q1,q2,q3]
      refine LV (v := .int .i64 ((R.size : Nat) : Int)) rfl (run_lenS rfl rfl) ?_
      simp only [Act.put,q1,q2,q3]
      refine LV (v := .int .i64 ((R.size % 9 : Nat) : Int)) rfl (run_remI rfl rfl rfl (by decide) (tmod_nat _ 9)) ?_
      simp only [Act.put,q1,q2,q3]
      refine LV (v := .int .i64 ((R.size % 9 : Nat) : Int)) rfl (run_assign rfl rfl) ?_
      simp only [Act.put,q1,q2,q3]
      refine wpList_nil ?_
      change Code.wp _ _ _ _ _
      refine wp_seq ?_
      refine wp_seq ?_
      -- region 12
      refine wp_region_lit ?_
      refine LV (v := .int .i64 ((R.size % 9 : Nat) : Int)) rfl (run_move rfl rfl) ?_
      simp only [Act.put,q1,q2,q3]
      refine LV (v := .bool true) rfl (run_eqI (c := true) rfl rfl rfl (by rw [h9]; rfl)) ?_
      simp only [Act.put,q1,q2,q3]
      refine wpList_nil ?_
      change Code.wp _ _ _ _ _
      refine wp_cond_true rfl ?_
      -- region 13
      refine wp_region_lit ?_
      refine LV (v := .int .i64 9) rfl (run_assign rfl rfl) ?_
      simp only [Act.put,q1,q2,q3]
      refine wpList_nil ?_
      change Code.wp _ _ _ _ _
      refine wp_seq ?_
      -- region 14
      refine wp_region_lit ?_
      refine LV (v := .int .u64 0) rfl (run_assign rfl rfl) ?_
      simp only [Act.put,q1,q2,q3]
      refine wpList_nil ?_
      change Code.wp _ _ _ _ _
      refine wp_seq ?_
      refine wp_seq ?_
      -- region 15
      refine wp_region_lit ?_
      refine LV (v := .int .i64 9) rfl (run_move rfl rfl) ?_
      simp only [Act.put,q1,q2,q3]
      refine LV (v := .int .i64 0) rfl (run_move rfl rfl) ?_
      simp only [Act.put,q1,q2,q3]
      refine wpList_nil ?_
      change Code.wp _ _ _ _ _
      refine wp_block ?_
      refine wp_loop_ghost (fun mz a w' => ∃ (i : Nat) (g9 g47 g48 g49 g50 g51 g52 g53 g54 g55 g56 g57 : Value), a = ⟨#[.string s, undef, .pointer (some ⟨b1, 0, none⟩), .int .i64 0, .bool false, .string R, vm, .int .i64 9, .int .u64 ((val10 (((dgs l).drop p).take i) : Nat) : Int), g9, .string s, .int .i64 ((s.size : Nat) : Int), .bool false, undef, .string s, .int .i64 ((s.size : Nat) : Int), .bool false, .bool false, undef, undef, undef, .bool false, .string s, .bool false, undef, undef, .string s, .bool true, .bool false, .bool false, .bool false, .bool false, undef, undef, .bool false, .bool false, undef, .string R, .int .i64 ((R.size : Nat) : Int), .bool true, .string R, .int .i64 ((R.size : Nat) : Int), .int .i64 ((R.size % 9 : Nat) : Int), .int .i64 ((R.size % 9 : Nat) : Int), .bool true, .int .i64 9, .int .i64 ((i : Nat) : Int), g47, g48, g49, g50, g51, g52, g53, g54, g55, g56, g57, g58, g59, g60, g61, g62, g63, undef, undef, undef], []⟩ ∧ Env w' [fS vm (digs (val10 ((dgs l).take p))), fB b1 false (.slice none 0 0), fW w] ∧ mz = 9 - i ∧ i ≤ 9) (9) ⟨0, _, _, _, _, _, _, _, _, _, _, _, _, rfl, (Env.s (Env.b (Env.ww (Env.nil _) (E.2.2.1)) (E.2.1)) (E.1)), rfl, Nat.zero_le _⟩ ?_
      rintro m10 _ w10 ⟨i, g9, g47, g48, g49, g50, g51, g52, g53, g54, g55, g56, g57, rfl, E, hm10, hI10⟩
      by_cases hi : i = 9
      case pos =>
       refine wp_seq ?_
       -- region 16
       refine wp_region_lit ?_
       refine LV (v := .bool false) rfl (run_ltI (c := false) rfl rfl rfl (by rw [hi, decide_eq_false_iff_not]; omega)) ?_
       simp only [Act.put,q1,q2,q3]
       refine wpList_nil ?_
       change Code.wp _ _ _ _ _
       refine wp_seq ?_
       refine wp_cond_false rfl ?_
       refine wp_exit ?_
       change Code.wp _ _ _ _ _
       refine wp_seq ?_
       -- region 20
       refine wp_region_lit ?_
       refine LV (v := vm) rfl (run_move rfl rfl) ?_
       simp only [Act.put,q1,q2,q3]
       refine LV (v := .int .u64 ((val10 (((dgs l).drop p).take i) : Nat) : Int)) rfl (run_move rfl rfl) ?_
       simp only [Act.put,q1,q2,q3]
       have hcl : val10 (((dgs l).drop p).take i) < 1000000000 := chunk_lt (l := l) (p := p) hda (by omega)
       have hfl : (digs (val10 ((dgs l).take p))).length ≤ 1000000000 := take_fits hda (by omega)
       refine L1 rfl (Oper.wp_callS fn_integer_scaled rfl (scaled_sl _ (digs (val10 ((dgs l).take p))) 1000000000 _ _ (E.1) hfl (by decide) hcl) rfl E ?_)
       clear E
       intro w11 v11 d11 E
       clear d11
       simp only [Act.put,q1,q2,q3]
       refine LV (v := v11) rfl (run_assign rfl rfl) ?_
       simp only [Act.put,q1,q2,q3]
       refine wpList_nil ?_
       change Code.wp _ _ _ _ _
       -- region 21
       refine wp_region_lit ?_
       refine LV (v := .string R) rfl (run_move rfl rfl) ?_
       simp only [Act.put,q1,q2,q3]
       refine LV (v := .int .i64 9) rfl (run_move rfl rfl) ?_
       simp only [Act.put,q1,q2,q3]
       refine LV (v := .string (R.extract 9 R.size)) rfl (run_sliceS (j := 9) rfl Tryz.underlying9 rfl rfl rfl (by omega)) ?_
       simp only [Act.put,q1,q2,q3]
       refine LV (v := .string (R.extract 9 R.size)) rfl (run_assign rfl rfl) ?_
       simp only [Act.put,q1,q2,q3]
       refine wpList_nil ?_
       skip
       have hS2 := E.1
       rw [val_digs, hi, chunk_add (l := l) (p := p) (n := 9) hI5.1 (by omega) (by omega) (by omega)] at hS2
       replace E := E.s hS2
       have hR2 : (R.extract 9 R.size).data.toList = l.drop (p + 9) := by rw [str_drop R 9 (by omega), hI5.2.1, List.drop_drop]
       have hR3 : (R.extract 9 R.size).size + 9 = R.size := by rw [← str_len, hR2, List.length_drop]; have := hI5.1; omega
       exact ⟨_, (by rw [hm5]; omega), p + 9, R.extract 9 R.size, v11, _, _, _, _, _, _, _, _, _, _, _, _, _, _, _, _, _, _, _, _, _, _, _, _, _, _, _, _, _, _, rfl, (Env.s (Env.b (Env.ww (Env.nil _) (E.2.2.2.2.1)) (E.2.2.2.1)) (E.1)), rfl, ⟨by have := hI5.1; omega, hR2, .inr (by omega)⟩⟩
      case neg =>
       have hi9 : i < 9 := by omega
       obtain ⟨b, hb, hb2⟩ := str_get (s := R) (i := i) (by omega)
       have hb3 : l[p + i]? = some b := by rw [hI5.2.1, List.getElem?_drop] at hb2; exact hb2
       have hbd := hda b (List.mem_of_getElem? hb3)
       have hvl := dgs_lt (l := l) (p := p) (i := i) hda (by omega)
       refine wp_seq ?_
       -- region 16
       refine wp_region_lit ?_
       refine LV (v := .bool true) rfl (run_ltI (c := true) rfl rfl rfl (by rw [decide_eq_true_eq]; omega)) ?_
       simp only [Act.put,q1,q2,q3]
       refine wpList_nil ?_
       change Code.wp _ _ _ _ _
       refine wp_seq ?_
       refine wp_cond_true rfl ?_
       refine wp_skip ?_
       change Code.wp _ _ _ _ _
       refine wp_seq ?_
       refine wp_block ?_
       refine wp_seq ?_
       -- region 17
       refine wp_region_lit ?_
       refine LV (v := .int .i64 ((i : Nat) : Int)) rfl (run_move rfl rfl) ?_
       simp only [Act.put,q1,q2,q3]
       refine LV (v := .int .i64 ((i : Nat) : Int)) rfl (run_assign rfl rfl) ?_
       simp only [Act.put,q1,q2,q3]
       refine wpList_nil ?_
       change Code.wp _ _ _ _ _
       -- region 18
       refine wp_region_lit ?_
       refine LV (v := .int .u64 ((val10 (((dgs l).drop p).take i) : Nat) : Int)) rfl (run_move rfl rfl) ?_
       simp only [Act.put,q1,q2,q3]
       refine LV (v := .int .u64 ((10 * val10 (((dgs l).drop p).take i) : Nat) : Int)) rfl (run_mulI rfl rfl rfl (wrap_u64_nat (by omega) (by omega))) ?_
       simp only [Act.put,q1,q2,q3]
       refine LV (v := .string R) rfl (run_move rfl rfl) ?_
       simp only [Act.put,q1,q2,q3]
       refine LV (v := .int .i64 ((i : Nat) : Int)) rfl (run_move rfl rfl) ?_
       simp only [Act.put,q1,q2,q3]
       refine LV (v := .int .u8 ((b.toNat : Nat) : Int)) rfl (run_ixS (j := i) rfl Tryz.underlying9 rfl rfl rfl hb) ?_
       simp only [Act.put,q1,q2,q3]
       refine LV (v := .int .u8 ((b.toNat - 48 : Nat) : Int)) rfl (run_subI rfl rfl rfl (wrap_u8_nat (by omega) (by omega))) ?_
       simp only [Act.put,q1,q2,q3]
       refine LV (v := .int .u64 ((b.toNat - 48 : Nat) : Int)) rfl (run_convI rfl rfl (by rw [Tryz.underlying5]; rfl) Tryz.underlying66 (wrap_u64_nat (by omega) (by omega))) ?_
       simp only [Act.put,q1,q2,q3]
       have hvs := dgs_snoc (l := l) (p := p) (i := i) hb3
       refine LV (v := .int .u64 ((val10 (((dgs l).drop p).take (i + 1)) : Nat) : Int)) rfl (run_addI rfl rfl rfl (wrap_u64_nat (by omega) (by omega))) ?_
       simp only [Act.put,q1,q2,q3]
       refine LV (v := .int .u64 ((val10 (((dgs l).drop p).take (i + 1)) : Nat) : Int)) rfl (run_assign rfl rfl) ?_
       simp only [Act.put,q1,q2,q3]
       refine wpList_nil ?_
       change Code.wp _ _ _ _ _
       -- region 19
       refine wp_region_lit ?_
       refine LV (v := .int .i64 ((i + 1 : Nat) : Int)) rfl (run_addI rfl rfl rfl (by rw [IntWalk.i64_in _ (by omega)]; omega)) ?_
       simp only [Act.put,q1,q2,q3]
       refine LV (v := .int .i64 ((i + 1 : Nat) : Int)) rfl (run_move rfl rfl) ?_
       simp only [Act.put,q1,q2,q3]
       refine wpList_nil ?_
       exact ⟨_, (by omega), i + 1, _, _, _, _, _, _, _, _, _, _, _, _, rfl, (Env.s (Env.b (Env.ww (Env.nil _) (E.2.2.1)) (E.2.1)) (E.1)), rfl, (by omega)⟩
     case neg =>
      refine wp_seq ?_
      refine wp_seq ?_
      -- region 10
      refine wp_region_lit ?_
      refine LV (v := .string R) rfl (run_move rfl rfl) ?_
      simp only [Act.put,q1,q2,q3]
      refine LV (v := .int .i64 ((R.size : Nat) : Int)) rfl (run_lenS rfl rfl) ?_
      simp only [Act.put,q1,q2,q3]
      refine LV (v := .bool true) rfl (run_gtI (c := true) rfl rfl rfl (by rw [decide_eq_true_eq]; omega)) ?_
      simp only [Act.put,q1,q2,q3]
      refine wpList_nil ?_
      change Code.wp _ _ _ _ _
      refine wp_cond_true rfl ?_
      refine wp_skip ?_
      change Code.wp _ _ _ _ _
      refine wp_block ?_
      refine wp_seq ?_
      -- region 11
      refine wp_region_lit ?_
      refine LV (v := .string R) rfl (run_move rfl rfl) ?_
      simp only [Act.put,q1,q2,q3]
      refine LV (v := .int .i64 ((R.size : Nat) : Int)) rfl (run_lenS rfl rfl) ?_
      simp only [Act.put,q1,q2,q3]
      refine LV (v := .int .i64 ((R.size % 9 : Nat) : Int)) rfl (run_remI rfl rfl rfl (by decide) (tmod_nat _ 9)) ?_
      simp only [Act.put,q1,q2,q3]
      refine LV (v := .int .i64 ((R.size % 9 : Nat) : Int)) rfl (run_assign rfl rfl) ?_
      simp only [Act.put,q1,q2,q3]
      refine wpList_nil ?_
      change Code.wp _ _ _ _ _
      refine wp_seq ?_
      refine wp_seq ?_
      -- region 12
      refine wp_region_lit ?_
      refine LV (v := .int .i64 ((R.size % 9 : Nat) : Int)) rfl (run_move rfl rfl) ?_
      simp only [Act.put,q1,q2,q3]
      refine LV (v := .bool false) rfl (run_eqI (c := false) rfl rfl rfl (by rw [beq_eq_false_iff_ne]; omega)) ?_
      simp only [Act.put,q1,q2,q3]
      refine wpList_nil ?_
      change Code.wp _ _ _ _ _
      refine wp_cond_false rfl ?_
      refine wp_skip ?_
      change Code.wp _ _ _ _ _
      refine wp_seq ?_
      -- region 14
      refine wp_region_lit ?_
      refine LV (v := .int .u64 0) rfl (run_assign rfl rfl) ?_
      simp only [Act.put,q1,q2,q3]
      refine wpList_nil ?_
      change Code.wp _ _ _ _ _
      refine wp_seq ?_
      refine wp_seq ?_
      -- region 15
      refine wp_region_lit ?_
      refine LV (v := .int .i64 ((R.size % 9 : Nat) : Int)) rfl (run_move rfl rfl) ?_
      simp only [Act.put,q1,q2,q3]
      refine LV (v := .int .i64 0) rfl (run_move rfl rfl) ?_
      simp only [Act.put,q1,q2,q3]
      refine wpList_nil ?_
      change Code.wp _ _ _ _ _
      refine wp_block ?_
      refine wp_loop_ghost (fun mz a w' => ∃ (i : Nat) (g9 g47 g48 g49 g50 g51 g52 g53 g54 g55 g56 g57 : Value), a = ⟨#[.string s, undef, .pointer (some ⟨b1, 0, none⟩), .int .i64 0, .bool false, .string R, vm, .int .i64 ((R.size % 9 : Nat) : Int), .int .u64 ((val10 (((dgs l).drop p).take i) : Nat) : Int), g9, .string s, .int .i64 ((s.size : Nat) : Int), .bool false, undef, .string s, .int .i64 ((s.size : Nat) : Int), .bool false, .bool false, undef, undef, undef, .bool false, .string s, .bool false, undef, undef, .string s, .bool true, .bool false, .bool false, .bool false, .bool false, undef, undef, .bool false, .bool false, undef, .string R, .int .i64 ((R.size : Nat) : Int), .bool true, .string R, .int .i64 ((R.size : Nat) : Int), .int .i64 ((R.size % 9 : Nat) : Int), .int .i64 ((R.size % 9 : Nat) : Int), .bool false, .int .i64 ((R.size % 9 : Nat) : Int), .int .i64 ((i : Nat) : Int), g47, g48, g49, g50, g51, g52, g53, g54, g55, g56, g57, g58, g59, g60, g61, g62, g63, undef, undef, undef], []⟩ ∧ Env w' [fS vm (digs (val10 ((dgs l).take p))), fB b1 false (.slice none 0 0), fW w] ∧ mz = (R.size % 9) - i ∧ i ≤ (R.size % 9)) ((R.size % 9)) ⟨0, _, _, _, _, _, _, _, _, _, _, _, _, rfl, (Env.s (Env.b (Env.ww (Env.nil _) (E.2.2.1)) (E.2.1)) (E.1)), rfl, Nat.zero_le _⟩ ?_
      rintro m12 _ w12 ⟨i, g9, g47, g48, g49, g50, g51, g52, g53, g54, g55, g56, g57, rfl, E, hm12, hI12⟩
      by_cases hi : i = R.size % 9
      case pos =>
       refine wp_seq ?_
       -- region 16
       refine wp_region_lit ?_
       refine LV (v := .bool false) rfl (run_ltI (c := false) rfl rfl rfl (by rw [hi, decide_eq_false_iff_not]; omega)) ?_
       simp only [Act.put,q1,q2,q3]
       refine wpList_nil ?_
       change Code.wp _ _ _ _ _
       refine wp_seq ?_
       refine wp_cond_false rfl ?_
       refine wp_exit ?_
       change Code.wp _ _ _ _ _
       refine wp_seq ?_
       -- region 20
       refine wp_region_lit ?_
       refine LV (v := vm) rfl (run_move rfl rfl) ?_
       simp only [Act.put,q1,q2,q3]
       refine LV (v := .int .u64 ((val10 (((dgs l).drop p).take i) : Nat) : Int)) rfl (run_move rfl rfl) ?_
       simp only [Act.put,q1,q2,q3]
       have hcl : val10 (((dgs l).drop p).take i) < 1000000000 := chunk_lt (l := l) (p := p) hda (by omega)
       have hfl : (digs (val10 ((dgs l).take p))).length ≤ 1000000000 := take_fits hda (by omega)
       refine L1 rfl (Oper.wp_callS fn_integer_scaled rfl (scaled_sl _ (digs (val10 ((dgs l).take p))) 1000000000 _ _ (E.1) hfl (by decide) hcl) rfl E ?_)
       clear E
       intro w13 v13 d13 E
       clear d13
       simp only [Act.put,q1,q2,q3]
       refine LV (v := v13) rfl (run_assign rfl rfl) ?_
       simp only [Act.put,q1,q2,q3]
       refine wpList_nil ?_
       change Code.wp _ _ _ _ _
       -- region 21
       refine wp_region_lit ?_
       refine LV (v := .string R) rfl (run_move rfl rfl) ?_
       simp only [Act.put,q1,q2,q3]
       refine LV (v := .int .i64 ((R.size % 9 : Nat) : Int)) rfl (run_move rfl rfl) ?_
       simp only [Act.put,q1,q2,q3]
       refine LV (v := .string (R.extract (R.size % 9) R.size)) rfl (run_sliceS (j := (R.size % 9)) rfl Tryz.underlying9 rfl rfl rfl (by omega)) ?_
       simp only [Act.put,q1,q2,q3]
       refine LV (v := .string (R.extract (R.size % 9) R.size)) rfl (run_assign rfl rfl) ?_
       simp only [Act.put,q1,q2,q3]
       refine wpList_nil ?_
       skip
       have hS2 := E.1
       rw [val_digs, hi, chunk_add (l := l) (p := p) (n := R.size % 9) hI5.1 (by omega) (by omega) (by omega)] at hS2
       replace E := E.s hS2
       have hR2 : (R.extract (R.size % 9) R.size).data.toList = l.drop (p + (R.size % 9)) := by rw [str_drop R (R.size % 9) (by omega), hI5.2.1, List.drop_drop]
       have hR3 : (R.extract (R.size % 9) R.size).size + (R.size % 9) = R.size := by rw [← str_len, hR2, List.length_drop]; have := hI5.1; omega
       exact ⟨_, (by rw [hm5]; omega), p + (R.size % 9), R.extract (R.size % 9) R.size, v13, _, _, _, _, _, _, _, _, _, _, _, _, _, _, _, _, _, _, _, _, _, _, _, _, _, _, _, _, _, _, rfl, (Env.s (Env.b (Env.ww (Env.nil _) (E.2.2.2.2.1)) (E.2.2.2.1)) (E.1)), rfl, ⟨by have := hI5.1; omega, hR2, .inr (by omega)⟩⟩
      case neg =>
       have hi9 : i < (R.size % 9) := by omega
       obtain ⟨b, hb, hb2⟩ := str_get (s := R) (i := i) (by omega)
       have hb3 : l[p + i]? = some b := by rw [hI5.2.1, List.getElem?_drop] at hb2; exact hb2
       have hbd := hda b (List.mem_of_getElem? hb3)
       have hvl := dgs_lt (l := l) (p := p) (i := i) hda (by omega)
       refine wp_seq ?_
       -- region 16
       refine wp_region_lit ?_
       refine LV (v := .bool true) rfl (run_ltI (c := true) rfl rfl rfl (by rw [decide_eq_true_eq]; omega)) ?_
       simp only [Act.put,q1,q2,q3]
       refine wpList_nil ?_
       change Code.wp _ _ _ _ _
       refine wp_seq ?_
       refine wp_cond_true rfl ?_
       refine wp_skip ?_
       change Code.wp _ _ _ _ _
       refine wp_seq ?_
       refine wp_block ?_
       refine wp_seq ?_
       -- region 17
       refine wp_region_lit ?_
       refine LV (v := .int .i64 ((i : Nat) : Int)) rfl (run_move rfl rfl) ?_
       simp only [Act.put,q1,q2,q3]
       refine LV (v := .int .i64 ((i : Nat) : Int)) rfl (run_assign rfl rfl) ?_
       simp only [Act.put,q1,q2,q3]
       refine wpList_nil ?_
       change Code.wp _ _ _ _ _
       -- region 18
       refine wp_region_lit ?_
       refine LV (v := .int .u64 ((val10 (((dgs l).drop p).take i) : Nat) : Int)) rfl (run_move rfl rfl) ?_
       simp only [Act.put,q1,q2,q3]
       refine LV (v := .int .u64 ((10 * val10 (((dgs l).drop p).take i) : Nat) : Int)) rfl (run_mulI rfl rfl rfl (wrap_u64_nat (by omega) (by omega))) ?_
       simp only [Act.put,q1,q2,q3]
       refine LV (v := .string R) rfl (run_move rfl rfl) ?_
       simp only [Act.put,q1,q2,q3]
       refine LV (v := .int .i64 ((i : Nat) : Int)) rfl (run_move rfl rfl) ?_
       simp only [Act.put,q1,q2,q3]
       refine LV (v := .int .u8 ((b.toNat : Nat) : Int)) rfl (run_ixS (j := i) rfl Tryz.underlying9 rfl rfl rfl hb) ?_
       simp only [Act.put,q1,q2,q3]
       refine LV (v := .int .u8 ((b.toNat - 48 : Nat) : Int)) rfl (run_subI rfl rfl rfl (wrap_u8_nat (by omega) (by omega))) ?_
       simp only [Act.put,q1,q2,q3]
       refine LV (v := .int .u64 ((b.toNat - 48 : Nat) : Int)) rfl (run_convI rfl rfl (by rw [Tryz.underlying5]; rfl) Tryz.underlying66 (wrap_u64_nat (by omega) (by omega))) ?_
       simp only [Act.put,q1,q2,q3]
       have hvs := dgs_snoc (l := l) (p := p) (i := i) hb3
       refine LV (v := .int .u64 ((val10 (((dgs l).drop p).take (i + 1)) : Nat) : Int)) rfl (run_addI rfl rfl rfl (wrap_u64_nat (by omega) (by omega))) ?_
       simp only [Act.put,q1,q2,q3]
       refine LV (v := .int .u64 ((val10 (((dgs l).drop p).take (i + 1)) : Nat) : Int)) rfl (run_assign rfl rfl) ?_
       simp only [Act.put,q1,q2,q3]
       refine wpList_nil ?_
       change Code.wp _ _ _ _ _
       -- region 19
       refine wp_region_lit ?_
       refine LV (v := .int .i64 ((i + 1 : Nat) : Int)) rfl (run_addI rfl rfl rfl (by rw [IntWalk.i64_in _ (by omega)]; omega)) ?_
       simp only [Act.put,q1,q2,q3]
       refine LV (v := .int .i64 ((i + 1 : Nat) : Int)) rfl (run_move rfl rfl) ?_
       simp only [Act.put,q1,q2,q3]
       refine wpList_nil ?_
       exact ⟨_, (by omega), i + 1, _, _, _, _, _, _, _, _, _, _, _, _, rfl, (Env.s (Env.b (Env.ww (Env.nil _) (E.2.2.1)) (E.2.1)) (E.1)), rfl, (by omega)⟩
   case neg =>
    -- region 7
    refine wp_region_lit ?_
    refine LV (v := .string s) rfl (run_move rfl rfl) ?_
    simp only [Act.put,q1,q2,q3]
    refine L1 rfl (Oper.wp_callB fn_integer_decimal rfl (decimal_t s _ (by omega) (by simpa using hok) false) rfl E ?_)
    clear E
    intro w14 d14 E
    replace x1 := x1.below d14
    clear d14
    simp only [Act.put,q1,q2,q3]
    refine LV (v := .bool true) rfl (run_not (b := false) rfl rfl) ?_
    simp only [Act.put,q1,q2,q3]
    refine LV (v := .bool true) rfl (run_move rfl rfl) ?_
    simp only [Act.put,q1,q2,q3]
    refine L0 rfl ?_
    simp only [Act.put,q1,q2,q3]
    refine L0 rfl ?_
    simp only [Act.put,q1,q2,q3]
    refine L0 rfl ?_
    simp only [Act.put,q1,q2,q3]
    refine L0 rfl ?_
    simp only [Act.put,q1,q2,q3]
    refine L0 rfl ?_
    simp only [Act.put,q1,q2,q3]
    refine LV (v := .bool true) rfl (run_pick (b := true) rfl rfl rfl) ?_
    simp only [Act.put,q1,q2,q3]
    refine wpList_nil ?_
    change Code.wp _ _ _ _ _
    refine wp_cond_true rfl ?_
    refine wp_seq ?_
    -- region 8
    refine wp_region_lit ?_
    refine LV (v := .agg #[.bool false, .slice none 0 0]) rfl (run_buildI0 rfl) ?_
    simp only [Act.put,q1,q2,q3]
    replace E := E.i (zero_i _)
    refine L1 rfl (Oper.wp_store AgI rfl rfl rfl x1 rfl rfl (IsI.one (E.1)) ?_)
    intro w15 o15 y15
    replace E := (E.onl (x1.noW now0) ⟨trivial, okW (by omega), trivial⟩ o15).b y15
    clear x1 o15 y15
    simp only [Act.put]
    refine LV (v := .int .i64 3) rfl (run_assign rfl rfl) ?_
    simp only [Act.put,q1,q2,q3]
    refine wpList_nil ?_
    change Code.wp _ _ _ _ _
    refine wp_ret ?_
    have r16 := res_box AgI (E.1) rfl
    exact bodyPost_ret (v := .tuple #[.agg #[.bool false, .slice none 0 0], .int .i64 3]) (by simp [results, Tryz.results69, asAddr, r16]) rfl (RetPa.form (by omega) (parse_pos hneg hok) ⟨_, rfl, E.2.1, E.2.2.1⟩)
  case neg =>
   obtain ⟨c, hc, hc2⟩ := str_get (i := 0) (s := s) (by omega)
   by_cases h45 : c.toNat = 45
   case pos =>
    have hneg : s.data.toList.head? = some 45 := head_yes hc2 h45
    -- region 3
    refine wp_region_lit ?_
    refine LV (v := .string s) rfl (run_move rfl rfl) ?_
    simp only [Act.put,q1,q2,q3]
    refine LV (v := .int .i64 ((s.size : Nat) : Int)) rfl (run_lenS rfl rfl) ?_
    simp only [Act.put,q1,q2,q3]
    refine LV (v := .bool true) rfl (run_gtI (c := true) rfl rfl rfl (by rw [decide_eq_true_eq]; omega)) ?_
    simp only [Act.put,q1,q2,q3]
    refine LV (v := .bool true) rfl (run_move rfl rfl) ?_
    simp only [Act.put,q1,q2,q3]
    refine LV (v := .string s) rfl (run_move rfl rfl) ?_
    simp only [Act.put,q1,q2,q3]
    refine LV (v := .int .u8 ((c.toNat : Nat) : Int)) rfl (run_ixS (j := 0) rfl Tryz.underlying9 rfl rfl rfl hc) ?_
    simp only [Act.put,q1,q2,q3]
    refine LV (v := .bool true) rfl (run_eqI (c := true) rfl rfl rfl (by rw [h45]; rfl)) ?_
    simp only [Act.put,q1,q2,q3]
    refine LV (v := .bool true) rfl (run_pick (b := true) rfl rfl rfl) ?_
    simp only [Act.put,q1,q2,q3]
    refine LV (v := .bool true) rfl (run_assign rfl rfl) ?_
    simp only [Act.put,q1,q2,q3]
    refine wpList_nil ?_
    change Code.wp _ _ _ _ _
    refine wp_seq ?_
    -- region 4
    refine wp_region_lit ?_
    refine LV (v := .string s) rfl (run_move rfl rfl) ?_
    simp only [Act.put,q1,q2,q3]
    refine LV (v := .string s) rfl (run_assign rfl rfl) ?_
    simp only [Act.put,q1,q2,q3]
    refine wpList_nil ?_
    change Code.wp _ _ _ _ _
    refine wp_seq ?_
    refine wp_seq ?_
    -- region 5
    refine wp_region_lit ?_
    refine LV (v := .bool true) rfl (run_move rfl rfl) ?_
    simp only [Act.put,q1,q2,q3]
    refine wpList_nil ?_
    change Code.wp _ _ _ _ _
    refine wp_cond_true rfl ?_
    -- region 6
    refine wp_region_lit ?_
    refine LV (v := .string s) rfl (run_move rfl rfl) ?_
    simp only [Act.put,q1,q2,q3]
    refine LV (v := .string (s.extract 1 s.size)) rfl (run_sliceS (j := 1) rfl Tryz.underlying9 rfl rfl rfl (by omega)) ?_
    simp only [Act.put,q1,q2,q3]
    refine LV (v := .string (s.extract 1 s.size)) rfl (run_assign rfl rfl) ?_
    simp only [Act.put,q1,q2,q3]
    refine wpList_nil ?_
    change Code.wp _ _ _ _ _
    refine wp_seq ?_
    refine wp_seq ?_
    have hdl : (s.extract 1 s.size).data.toList = s.data.toList.tail := by rw [str_drop s 1 (by omega)]; exact List.drop_one
    have hdz : (s.extract 1 s.size).size ≤ 4000 := by rw [← str_len, hdl, List.length_tail, str_len]; omega
    by_cases hok : okDec (s.extract 1 s.size).data.toList = true
    case pos =>
     by_cases h48 : (s.extract 1 s.size).data.toList = [48]
     case pos =>
      -- region 7
      refine wp_region_lit ?_
      refine LV (v := .string (s.extract 1 s.size)) rfl (run_move rfl rfl) ?_
      simp only [Act.put,q1,q2,q3]
      refine L1 rfl (Oper.wp_callB fn_integer_decimal rfl (decimal_t (s.extract 1 s.size) _ (by omega) (hok) true) rfl E ?_)
      clear E
      intro w17 d17 E
      replace x1 := x1.below d17
      clear d17
      simp only [Act.put,q1,q2,q3]
      refine LV (v := .bool false) rfl (run_not (b := true) rfl rfl) ?_
      simp only [Act.put,q1,q2,q3]
      refine LV (v := .bool false) rfl (run_move rfl rfl) ?_
      simp only [Act.put,q1,q2,q3]
      refine LV (v := .bool true) rfl (run_move rfl rfl) ?_
      simp only [Act.put,q1,q2,q3]
      refine LV (v := .bool true) rfl (run_move rfl rfl) ?_
      simp only [Act.put,q1,q2,q3]
      refine LV (v := .string (s.extract 1 s.size)) rfl (run_move rfl rfl) ?_
      simp only [Act.put,q1,q2,q3]
      refine LV (v := .bool true) rfl (run_eqS rfl rfl rfl (by rw [beq_iff_eq]; exact h48)) ?_
      simp only [Act.put,q1,q2,q3]
      refine LV (v := .bool true) rfl (run_pick (b := true) rfl rfl rfl) ?_
      simp only [Act.put,q1,q2,q3]
      refine LV (v := .bool true) rfl (run_pick (b := false) rfl rfl rfl) ?_
      simp only [Act.put,q1,q2,q3]
      refine wpList_nil ?_
      change Code.wp _ _ _ _ _
      refine wp_cond_true rfl ?_
      refine wp_seq ?_
      -- region 8
      refine wp_region_lit ?_
      refine LV (v := .agg #[.bool false, .slice none 0 0]) rfl (run_buildI0 rfl) ?_
      simp only [Act.put,q1,q2,q3]
      replace E := E.i (zero_i _)
      refine L1 rfl (Oper.wp_store AgI rfl rfl rfl x1 rfl rfl (IsI.one (E.1)) ?_)
      intro w18 o18 y18
      replace E := (E.onl (x1.noW now0) ⟨trivial, okW (by omega), trivial⟩ o18).b y18
      clear x1 o18 y18
      simp only [Act.put]
      refine LV (v := .int .i64 3) rfl (run_assign rfl rfl) ?_
      simp only [Act.put,q1,q2,q3]
      refine wpList_nil ?_
      change Code.wp _ _ _ _ _
      refine wp_ret ?_
      have r19 := res_box AgI (E.1) rfl
      exact bodyPost_ret (v := .tuple #[.agg #[.bool false, .slice none 0 0], .int .i64 3]) (by simp [results, Tryz.results69, asAddr, r19]) rfl (RetPa.form (by omega) (parse_neg0 hneg (by rw [← hdl]; exact h48)) ⟨_, rfl, E.2.1, E.2.2.1⟩)
     case neg =>
      -- region 7
      refine wp_region_lit ?_
      refine LV (v := .string (s.extract 1 s.size)) rfl (run_move rfl rfl) ?_
      simp only [Act.put,q1,q2,q3]
      refine L1 rfl (Oper.wp_callB fn_integer_decimal rfl (decimal_t (s.extract 1 s.size) _ (by omega) (hok) true) rfl E ?_)
      clear E
      intro w20 d20 E
      replace x1 := x1.below d20
      clear d20
      simp only [Act.put,q1,q2,q3]
      refine LV (v := .bool false) rfl (run_not (b := true) rfl rfl) ?_
      simp only [Act.put,q1,q2,q3]
      refine LV (v := .bool false) rfl (run_move rfl rfl) ?_
      simp only [Act.put,q1,q2,q3]
      refine LV (v := .bool true) rfl (run_move rfl rfl) ?_
      simp only [Act.put,q1,q2,q3]
      refine LV (v := .bool true) rfl (run_move rfl rfl) ?_
      simp only [Act.put,q1,q2,q3]
      refine LV (v := .string (s.extract 1 s.size)) rfl (run_move rfl rfl) ?_
      simp only [Act.put,q1,q2,q3]
      refine LV (v := .bool false) rfl (run_eqS rfl rfl rfl (by rw [beq_eq_false_iff_ne]; exact h48)) ?_
      simp only [Act.put,q1,q2,q3]
      refine LV (v := .bool false) rfl (run_pick (b := true) rfl rfl rfl) ?_
      simp only [Act.put,q1,q2,q3]
      refine LV (v := .bool false) rfl (run_pick (b := false) rfl rfl rfl) ?_
      simp only [Act.put,q1,q2,q3]
      refine wpList_nil ?_
      change Code.wp _ _ _ _ _
      refine wp_cond_false rfl ?_
      refine wp_skip ?_
      change Code.wp _ _ _ _ _
      refine wp_seq ?_
      have hdp := okDec_pos hok
      have hda := okDec_all hok
      have hdl2 := str_len (s.extract 1 s.size)
      obtain ⟨l, hl⟩ : ∃ l, l = (s.extract 1 s.size).data.toList := ⟨_, rfl⟩
      rw [← hl] at hok hdp hda hdl2
      -- region 9
      refine wp_region_lit ?_
      refine LV (v := .slice none 0 0) rfl (run_assign rfl rfl) ?_
      simp only [Act.put,q1,q2,q3]
      refine wpList_nil ?_
      change Code.wp _ _ _ _ _
      refine wp_seq ?_
      refine wp_block ?_
      replace E := E.b x1
      clear x1
      have hs0 : Sl w20 (.slice none 0 0) (digs (val10 ((dgs l).take 0))) := by rw [List.take_zero, val10_nil, digs_zero]; exact Sl_nil _
      replace E := E.s hs0
      refine wp_loop_ghost (fun mz a w' => ∃ (p : Nat) (R : ByteArray) (vm : Value) (g7 g8 g9 g37 g38 g39 g40 g41 g42 g43 g44 g45 g46 g47 g48 g49 g50 g51 g52 g53 g54 g55 g56 g57 g58 g59 g60 g61 g62 g63 : Value), a = ⟨#[.string s, undef, .pointer (some ⟨b1, 0, none⟩), .int .i64 0, .bool true, .string R, vm, g7, g8, g9, .string s, .int .i64 ((s.size : Nat) : Int), .bool false, undef, .string s, .int .i64 ((s.size : Nat) : Int), .bool true, .bool true, .string s, .int .u8 ((c.toNat : Nat) : Int), .bool true, .bool true, .string s, .bool true, .string s, .string (s.extract 1 s.size), .string (s.extract 1 s.size), .bool true, .bool false, .bool false, .bool true, .bool true, .string (s.extract 1 s.size), .bool false, .bool false, .bool false, undef, g37, g38, g39, g40, g41, g42, g43, g44, g45, g46, g47, g48, g49, g50, g51, g52, g53, g54, g55, g56, g57, g58, g59, g60, g61, g62, g63, undef, undef, undef], []⟩ ∧ Env w' [fS vm (digs (val10 ((dgs l).take p))), fB b1 false (.slice none 0 0), fW w] ∧ mz = R.size ∧ p + R.size = l.length ∧ R.data.toList = l.drop p ∧ (p = 0 ∨ R.size % 9 = 0)) ((s.extract 1 s.size).size) ⟨0, s.extract 1 s.size, .slice none 0 0, _, _, _, _, _, _, _, _, _, _, _, _, _, _, _, _, _, _, _, _, _, _, _, _, _, _, _, _, _, _, rfl, (Env.s (Env.b (Env.ww (Env.nil _) (E.2.2.1)) (E.2.1)) (E.1)), rfl, ⟨by rw [hdl2]; omega, by rw [← hl]; rfl, .inl rfl⟩⟩ ?_
      rintro m21 _ w21 ⟨p, R, vm, g7, g8, g9, g37, g38, g39, g40, g41, g42, g43, g44, g45, g46, g47, g48, g49, g50, g51, g52, g53, g54, g55, g56, g57, g58, g59, g60, g61, g62, g63, rfl, E, hm21, hI21⟩
      by_cases hR : R.size = 0
      case pos =>
       refine wp_seq ?_
       refine wp_seq ?_
       -- region 10
       refine wp_region_lit ?_
       refine LV (v := .string R) rfl (run_move rfl rfl) ?_
       simp only [Act.put,q1,q2,q3]
       refine LV (v := .int .i64 ((R.size : Nat) : Int)) rfl (run_lenS rfl rfl) ?_
       simp only [Act.put,q1,q2,q3]
       refine LV (v := .bool false) rfl (run_gtI (c := false) rfl rfl rfl (by rw [hR]; rfl)) ?_
       simp only [Act.put,q1,q2,q3]
       refine wpList_nil ?_
       change Code.wp _ _ _ _ _
       refine wp_cond_false rfl ?_
       refine wp_exit ?_
       change Code.wp _ _ _ _ _
       refine wp_seq ?_
       -- region 22
       refine wp_region_lit ?_
       refine LV (v := .bool true) rfl (run_move rfl rfl) ?_
       simp only [Act.put,q1,q2,q3]
       refine LV (v := vm) rfl (run_move rfl rfl) ?_
       simp only [Act.put,q1,q2,q3]
       have hpl : p = l.length := by have := hI21.1; omega
       refine L1 rfl (Oper.wp_callI fn_integer_signed rfl (signed_z true _ _ (-(val10 (dgs l) : Int)) _ (E.1) (by rw [val_digs, hpl, dgs_take]; rfl)) rfl E ?_)
       clear E
       intro w22 n22 s22 d22 E
       clear d22
       simp only [Act.put,q1,q2,q3]
       have x24 := E.2.2.1
       replace E := ((E.2.2.2).s (E.2.1)).i (E.1)
       refine L1 rfl (Oper.wp_store AgI rfl rfl rfl x24 rfl rfl (IsI.one (E.1)) ?_)
       intro w23 o23 y23
       replace E := (E.onl (x24.noW now0) ⟨trivial, trivial, okW (by omega), trivial⟩ o23).b y23
       clear x24 o23 y23
       simp only [Act.put]
       refine LV (v := .int .i64 0) rfl (run_assign rfl rfl) ?_
       simp only [Act.put,q1,q2,q3]
       refine wpList_nil ?_
       change Code.wp _ _ _ _ _
       refine wp_ret ?_
       have r25 := res_box AgI (E.1) rfl
       exact bodyPost_ret (v := .tuple #[.agg #[.bool n22, s22], .int .i64 0]) (by simp [results, Tryz.results69, asAddr, r25]) rfl (RetPa.ok (by omega) (parse_negok hneg (by rw [← hdl]; exact hl) hok (by rw [hl]; exact h48)) ⟨_, rfl, E.2.1, E.2.2.2.1⟩)
      case neg =>
       by_cases h9 : R.size % 9 = 0
       case pos =>
        have hn1 : 9 ≤ R.size := by omega
        have hn0 : (9 : Nat) = if R.size % 9 = 0 then 9 else R.size % 9 := by rw [if_pos h9]
        refine wp_seq ?_
        refine wp_seq ?_
        -- region 10
        refine wp_region_lit ?_
        refine LV (v := .string R) rfl (run_move rfl rfl) ?_
        simp only [Act.put,q1,q2,q3]
        refine LV (v := .int .i64 ((R.size : Nat) : Int)) rfl (run_lenS rfl rfl) ?_
        simp only [Act.put,q1,q2,q3]
        refine LV (v := .bool true) rfl (run_gtI (c := true) rfl rfl rfl (by rw [decide_eq_true_eq]; omega)) ?_
        simp only [Act.put,q1,q2,q3]
        refine wpList_nil ?_
        change Code.wp _ _ _ _ _
        refine wp_cond_true rfl ?_
        refine wp_skip ?_
        change Code.wp _ _ _ _ _
        refine wp_block ?_
        refine wp_seq ?_
        -- region 11
        refine wp_region_lit ?_
        refine LV (v := .string R) rfl (run_move rfl rfl) ?_
        simp only [Act.put,q1,q2,q3]
        refine LV (v := .int .i64 ((R.size : Nat) : Int)) rfl (run_lenS rfl rfl) ?_
        simp only [Act.put,q1,q2,q3]
        refine LV (v := .int .i64 ((R.size % 9 : Nat) : Int)) rfl (run_remI rfl rfl rfl (by decide) (tmod_nat _ 9)) ?_
        simp only [Act.put,q1,q2,q3]
        refine LV (v := .int .i64 ((R.size % 9 : Nat) : Int)) rfl (run_assign rfl rfl) ?_
        simp only [Act.put,q1,q2,q3]
        refine wpList_nil ?_
        change Code.wp _ _ _ _ _
        refine wp_seq ?_
        refine wp_seq ?_
        -- region 12
        refine wp_region_lit ?_
        refine LV (v := .int .i64 ((R.size % 9 : Nat) : Int)) rfl (run_move rfl rfl) ?_
        simp only [Act.put,q1,q2,q3]
        refine LV (v := .bool true) rfl (run_eqI (c := true) rfl rfl rfl (by rw [h9]; rfl)) ?_
        simp only [Act.put,q1,q2,q3]
        refine wpList_nil ?_
        change Code.wp _ _ _ _ _
        refine wp_cond_true rfl ?_
        -- region 13
        refine wp_region_lit ?_
        refine LV (v := .int .i64 9) rfl (run_assign rfl rfl) ?_
        simp only [Act.put,q1,q2,q3]
        refine wpList_nil ?_
        change Code.wp _ _ _ _ _
        refine wp_seq ?_
        -- region 14
        refine wp_region_lit ?_
        refine LV (v := .int .u64 0) rfl (run_assign rfl rfl) ?_
        simp only [Act.put,q1,q2,q3]
        refine wpList_nil ?_
        change Code.wp _ _ _ _ _
        refine wp_seq ?_
        refine wp_seq ?_
        -- region 15
        refine wp_region_lit ?_
        refine LV (v := .int .i64 9) rfl (run_move rfl rfl) ?_
        simp only [Act.put,q1,q2,q3]
        refine LV (v := .int .i64 0) rfl (run_move rfl rfl) ?_
        simp only [Act.put,q1,q2,q3]
        refine wpList_nil ?_
        change Code.wp _ _ _ _ _
        refine wp_block ?_
        refine wp_loop_ghost (fun mz a w' => ∃ (i : Nat) (g9 g47 g48 g49 g50 g51 g52 g53 g54 g55 g56 g57 : Value), a = ⟨#[.string s, undef, .pointer (some ⟨b1, 0, none⟩), .int .i64 0, .bool true, .string R, vm, .int .i64 9, .int .u64 ((val10 (((dgs l).drop p).take i) : Nat) : Int), g9, .string s, .int .i64 ((s.size : Nat) : Int), .bool false, undef, .string s, .int .i64 ((s.size : Nat) : Int), .bool true, .bool true, .string s, .int .u8 ((c.toNat : Nat) : Int), .bool true, .bool true, .string s, .bool true, .string s, .string (s.extract 1 s.size), .string (s.extract 1 s.size), .bool true, .bool false, .bool false, .bool true, .bool true, .string (s.extract 1 s.size), .bool false, .bool false, .bool false, undef, .string R, .int .i64 ((R.size : Nat) : Int), .bool true, .string R, .int .i64 ((R.size : Nat) : Int), .int .i64 ((R.size % 9 : Nat) : Int), .int .i64 ((R.size % 9 : Nat) : Int), .bool true, .int .i64 9, .int .i64 ((i : Nat) : Int), g47, g48, g49, g50, g51, g52, g53, g54, g55, g56, g57, g58, g59, g60, g61, g62, g63, undef, undef, undef], []⟩ ∧ Env w' [fS vm (digs (val10 ((dgs l).take p))), fB b1 false (.slice none 0 0), fW w] ∧ mz = 9 - i ∧ i ≤ 9) (9) ⟨0, _, _, _, _, _, _, _, _, _, _, _, _, rfl, (Env.s (Env.b (Env.ww (Env.nil _) (E.2.2.1)) (E.2.1)) (E.1)), rfl, Nat.zero_le _⟩ ?_
        rintro m26 _ w26 ⟨i, g9, g47, g48, g49, g50, g51, g52, g53, g54, g55, g56, g57, rfl, E, hm26, hI26⟩
        by_cases hi : i = 9
        case pos =>
         refine wp_seq ?_
         -- region 16
         refine wp_region_lit ?_
         refine LV (v := .bool false) rfl (run_ltI (c := false) rfl rfl rfl (by rw [hi, decide_eq_false_iff_not]; omega)) ?_
         simp only [Act.put,q1,q2,q3]
         refine wpList_nil ?_
         change Code.wp _ _ _ _ _
         refine wp_seq ?_
         refine wp_cond_false rfl ?_
         refine wp_exit ?_
         change Code.wp _ _ _ _ _
         refine wp_seq ?_
         -- region 20
         refine wp_region_lit ?_
         refine LV (v := vm) rfl (run_move rfl rfl) ?_
         simp only [Act.put,q1,q2,q3]
         refine LV (v := .int .u64 ((val10 (((dgs l).drop p).take i) : Nat) : Int)) rfl (run_move rfl rfl) ?_
         simp only [Act.put,q1,q2,q3]
         have hcl : val10 (((dgs l).drop p).take i) < 1000000000 := chunk_lt (l := l) (p := p) hda (by omega)
         have hfl : (digs (val10 ((dgs l).take p))).length ≤ 1000000000 := take_fits hda (by omega)
         refine L1 rfl (Oper.wp_callS fn_integer_scaled rfl (scaled_sl _ (digs (val10 ((dgs l).take p))) 1000000000 _ _ (E.1) hfl (by decide) hcl) rfl E ?_)
         clear E
         intro w27 v27 d27 E
         clear d27
         simp only [Act.put,q1,q2,q3]
         refine LV (v := v27) rfl (run_assign rfl rfl) ?_
         simp only [Act.put,q1,q2,q3]
         refine wpList_nil ?_
         change Code.wp _ _ _ _ _
         -- region 21
         refine wp_region_lit ?_
         refine LV (v := .string R) rfl (run_move rfl rfl) ?_
         simp only [Act.put,q1,q2,q3]
         refine LV (v := .int .i64 9) rfl (run_move rfl rfl) ?_
         simp only [Act.put,q1,q2,q3]
         refine LV (v := .string (R.extract 9 R.size)) rfl (run_sliceS (j := 9) rfl Tryz.underlying9 rfl rfl rfl (by omega)) ?_
         simp only [Act.put,q1,q2,q3]
         refine LV (v := .string (R.extract 9 R.size)) rfl (run_assign rfl rfl) ?_
         simp only [Act.put,q1,q2,q3]
         refine wpList_nil ?_
         skip
         have hS2 := E.1
         rw [val_digs, hi, chunk_add (l := l) (p := p) (n := 9) hI21.1 (by omega) (by omega) (by omega)] at hS2
         replace E := E.s hS2
         have hR2 : (R.extract 9 R.size).data.toList = l.drop (p + 9) := by rw [str_drop R 9 (by omega), hI21.2.1, List.drop_drop]
         have hR3 : (R.extract 9 R.size).size + 9 = R.size := by rw [← str_len, hR2, List.length_drop]; have := hI21.1; omega
         exact ⟨_, (by rw [hm21]; omega), p + 9, R.extract 9 R.size, v27, _, _, _, _, _, _, _, _, _, _, _, _, _, _, _, _, _, _, _, _, _, _, _, _, _, _, _, _, _, _, rfl, (Env.s (Env.b (Env.ww (Env.nil _) (E.2.2.2.2.1)) (E.2.2.2.1)) (E.1)), rfl, ⟨by have := hI21.1; omega, hR2, .inr (by omega)⟩⟩
        case neg =>
         have hi9 : i < 9 := by omega
         obtain ⟨b, hb, hb2⟩ := str_get (s := R) (i := i) (by omega)
         have hb3 : l[p + i]? = some b := by rw [hI21.2.1, List.getElem?_drop] at hb2; exact hb2
         have hbd := hda b (List.mem_of_getElem? hb3)
         have hvl := dgs_lt (l := l) (p := p) (i := i) hda (by omega)
         refine wp_seq ?_
         -- region 16
         refine wp_region_lit ?_
         refine LV (v := .bool true) rfl (run_ltI (c := true) rfl rfl rfl (by rw [decide_eq_true_eq]; omega)) ?_
         simp only [Act.put,q1,q2,q3]
         refine wpList_nil ?_
         change Code.wp _ _ _ _ _
         refine wp_seq ?_
         refine wp_cond_true rfl ?_
         refine wp_skip ?_
         change Code.wp _ _ _ _ _
         refine wp_seq ?_
         refine wp_block ?_
         refine wp_seq ?_
         -- region 17
         refine wp_region_lit ?_
         refine LV (v := .int .i64 ((i : Nat) : Int)) rfl (run_move rfl rfl) ?_
         simp only [Act.put,q1,q2,q3]
         refine LV (v := .int .i64 ((i : Nat) : Int)) rfl (run_assign rfl rfl) ?_
         simp only [Act.put,q1,q2,q3]
         refine wpList_nil ?_
         change Code.wp _ _ _ _ _
         -- region 18
         refine wp_region_lit ?_
         refine LV (v := .int .u64 ((val10 (((dgs l).drop p).take i) : Nat) : Int)) rfl (run_move rfl rfl) ?_
         simp only [Act.put,q1,q2,q3]
         refine LV (v := .int .u64 ((10 * val10 (((dgs l).drop p).take i) : Nat) : Int)) rfl (run_mulI rfl rfl rfl (wrap_u64_nat (by omega) (by omega))) ?_
         simp only [Act.put,q1,q2,q3]
         refine LV (v := .string R) rfl (run_move rfl rfl) ?_
         simp only [Act.put,q1,q2,q3]
         refine LV (v := .int .i64 ((i : Nat) : Int)) rfl (run_move rfl rfl) ?_
         simp only [Act.put,q1,q2,q3]
         refine LV (v := .int .u8 ((b.toNat : Nat) : Int)) rfl (run_ixS (j := i) rfl Tryz.underlying9 rfl rfl rfl hb) ?_
         simp only [Act.put,q1,q2,q3]
         refine LV (v := .int .u8 ((b.toNat - 48 : Nat) : Int)) rfl (run_subI rfl rfl rfl (wrap_u8_nat (by omega) (by omega))) ?_
         simp only [Act.put,q1,q2,q3]
         refine LV (v := .int .u64 ((b.toNat - 48 : Nat) : Int)) rfl (run_convI rfl rfl (by rw [Tryz.underlying5]; rfl) Tryz.underlying66 (wrap_u64_nat (by omega) (by omega))) ?_
         simp only [Act.put,q1,q2,q3]
         have hvs := dgs_snoc (l := l) (p := p) (i := i) hb3
         refine LV (v := .int .u64 ((val10 (((dgs l).drop p).take (i + 1)) : Nat) : Int)) rfl (run_addI rfl rfl rfl (wrap_u64_nat (by omega) (by omega))) ?_
         simp only [Act.put,q1,q2,q3]
         refine LV (v := .int .u64 ((val10 (((dgs l).drop p).take (i + 1)) : Nat) : Int)) rfl (run_assign rfl rfl) ?_
         simp only [Act.put,q1,q2,q3]
         refine wpList_nil ?_
         change Code.wp _ _ _ _ _
         -- region 19
         refine wp_region_lit ?_
         refine LV (v := .int .i64 ((i + 1 : Nat) : Int)) rfl (run_addI rfl rfl rfl (by rw [IntWalk.i64_in _ (by omega)]; omega)) ?_
         simp only [Act.put,q1,q2,q3]
         refine LV (v := .int .i64 ((i + 1 : Nat) : Int)) rfl (run_move rfl rfl) ?_
         simp only [Act.put,q1,q2,q3]
         refine wpList_nil ?_
         exact ⟨_, (by omega), i + 1, _, _, _, _, _, _, _, _, _, _, _, _, rfl, (Env.s (Env.b (Env.ww (Env.nil _) (E.2.2.1)) (E.2.1)) (E.1)), rfl, (by omega)⟩
       case neg =>
        refine wp_seq ?_
        refine wp_seq ?_
        -- region 10
        refine wp_region_lit ?_
        refine LV (v := .string R) rfl (run_move rfl rfl) ?_
        simp only [Act.put,q1,q2,q3]
        refine LV (v := .int .i64 ((R.size : Nat) : Int)) rfl (run_lenS rfl rfl) ?_
        simp only [Act.put,q1,q2,q3]
        refine LV (v := .bool true) rfl (run_gtI (c := true) rfl rfl rfl (by rw [decide_eq_true_eq]; omega)) ?_
        simp only [Act.put,q1,q2,q3]
        refine wpList_nil ?_
        change Code.wp _ _ _ _ _
        refine wp_cond_true rfl ?_
        refine wp_skip ?_
        change Code.wp _ _ _ _ _
        refine wp_block ?_
        refine wp_seq ?_
        -- region 11
        refine wp_region_lit ?_
        refine LV (v := .string R) rfl (run_move rfl rfl) ?_
        simp only [Act.put,q1,q2,q3]
        refine LV (v := .int .i64 ((R.size : Nat) : Int)) rfl (run_lenS rfl rfl) ?_
        simp only [Act.put,q1,q2,q3]
        refine LV (v := .int .i64 ((R.size % 9 : Nat) : Int)) rfl (run_remI rfl rfl rfl (by decide) (tmod_nat _ 9)) ?_
        simp only [Act.put,q1,q2,q3]
        refine LV (v := .int .i64 ((R.size % 9 : Nat) : Int)) rfl (run_assign rfl rfl) ?_
        simp only [Act.put,q1,q2,q3]
        refine wpList_nil ?_
        change Code.wp _ _ _ _ _
        refine wp_seq ?_
        refine wp_seq ?_
        -- region 12
        refine wp_region_lit ?_
        refine LV (v := .int .i64 ((R.size % 9 : Nat) : Int)) rfl (run_move rfl rfl) ?_
        simp only [Act.put,q1,q2,q3]
        refine LV (v := .bool false) rfl (run_eqI (c := false) rfl rfl rfl (by rw [beq_eq_false_iff_ne]; omega)) ?_
        simp only [Act.put,q1,q2,q3]
        refine wpList_nil ?_
        change Code.wp _ _ _ _ _
        refine wp_cond_false rfl ?_
        refine wp_skip ?_
        change Code.wp _ _ _ _ _
        refine wp_seq ?_
        -- region 14
        refine wp_region_lit ?_
        refine LV (v := .int .u64 0) rfl (run_assign rfl rfl) ?_
        simp only [Act.put,q1,q2,q3]
        refine wpList_nil ?_
        change Code.wp _ _ _ _ _
        refine wp_seq ?_
        refine wp_seq ?_
        -- region 15
        refine wp_region_lit ?_
        refine LV (v := .int .i64 ((R.size % 9 : Nat) : Int)) rfl (run_move rfl rfl) ?_
        simp only [Act.put,q1,q2,q3]
        refine LV (v := .int .i64 0) rfl (run_move rfl rfl) ?_
        simp only [Act.put,q1,q2,q3]
        refine wpList_nil ?_
        change Code.wp _ _ _ _ _
        refine wp_block ?_
        refine wp_loop_ghost (fun mz a w' => ∃ (i : Nat) (g9 g47 g48 g49 g50 g51 g52 g53 g54 g55 g56 g57 : Value), a = ⟨#[.string s, undef, .pointer (some ⟨b1, 0, none⟩), .int .i64 0, .bool true, .string R, vm, .int .i64 ((R.size % 9 : Nat) : Int), .int .u64 ((val10 (((dgs l).drop p).take i) : Nat) : Int), g9, .string s, .int .i64 ((s.size : Nat) : Int), .bool false, undef, .string s, .int .i64 ((s.size : Nat) : Int), .bool true, .bool true, .string s, .int .u8 ((c.toNat : Nat) : Int), .bool true, .bool true, .string s, .bool true, .string s, .string (s.extract 1 s.size), .string (s.extract 1 s.size), .bool true, .bool false, .bool false, .bool true, .bool true, .string (s.extract 1 s.size), .bool false, .bool false, .bool false, undef, .string R, .int .i64 ((R.size : Nat) : Int), .bool true, .string R, .int .i64 ((R.size : Nat) : Int), .int .i64 ((R.size % 9 : Nat) : Int), .int .i64 ((R.size % 9 : Nat) : Int), .bool false, .int .i64 ((R.size % 9 : Nat) : Int), .int .i64 ((i : Nat) : Int), g47, g48, g49, g50, g51, g52, g53, g54, g55, g56, g57, g58, g59, g60, g61, g62, g63, undef, undef, undef], []⟩ ∧ Env w' [fS vm (digs (val10 ((dgs l).take p))), fB b1 false (.slice none 0 0), fW w] ∧ mz = (R.size % 9) - i ∧ i ≤ (R.size % 9)) ((R.size % 9)) ⟨0, _, _, _, _, _, _, _, _, _, _, _, _, rfl, (Env.s (Env.b (Env.ww (Env.nil _) (E.2.2.1)) (E.2.1)) (E.1)), rfl, Nat.zero_le _⟩ ?_
        rintro m28 _ w28 ⟨i, g9, g47, g48, g49, g50, g51, g52, g53, g54, g55, g56, g57, rfl, E, hm28, hI28⟩
        by_cases hi : i = R.size % 9
        case pos =>
         refine wp_seq ?_
         -- region 16
         refine wp_region_lit ?_
         refine LV (v := .bool false) rfl (run_ltI (c := false) rfl rfl rfl (by rw [hi, decide_eq_false_iff_not]; omega)) ?_
         simp only [Act.put,q1,q2,q3]
         refine wpList_nil ?_
         change Code.wp _ _ _ _ _
         refine wp_seq ?_
         refine wp_cond_false rfl ?_
         refine wp_exit ?_
         change Code.wp _ _ _ _ _
         refine wp_seq ?_
         -- region 20
         refine wp_region_lit ?_
         refine LV (v := vm) rfl (run_move rfl rfl) ?_
         simp only [Act.put,q1,q2,q3]
         refine LV (v := .int .u64 ((val10 (((dgs l).drop p).take i) : Nat) : Int)) rfl (run_move rfl rfl) ?_
         simp only [Act.put,q1,q2,q3]
         have hcl : val10 (((dgs l).drop p).take i) < 1000000000 := chunk_lt (l := l) (p := p) hda (by omega)
         have hfl : (digs (val10 ((dgs l).take p))).length ≤ 1000000000 := take_fits hda (by omega)
         refine L1 rfl (Oper.wp_callS fn_integer_scaled rfl (scaled_sl _ (digs (val10 ((dgs l).take p))) 1000000000 _ _ (E.1) hfl (by decide) hcl) rfl E ?_)
         clear E
         intro w29 v29 d29 E
         clear d29
         simp only [Act.put,q1,q2,q3]
         refine LV (v := v29) rfl (run_assign rfl rfl) ?_
         simp only [Act.put,q1,q2,q3]
         refine wpList_nil ?_
         change Code.wp _ _ _ _ _
         -- region 21
         refine wp_region_lit ?_
         refine LV (v := .string R) rfl (run_move rfl rfl) ?_
         simp only [Act.put,q1,q2,q3]
         refine LV (v := .int .i64 ((R.size % 9 : Nat) : Int)) rfl (run_move rfl rfl) ?_
         simp only [Act.put,q1,q2,q3]
         refine LV (v := .string (R.extract (R.size % 9) R.size)) rfl (run_sliceS (j := (R.size % 9)) rfl Tryz.underlying9 rfl rfl rfl (by omega)) ?_
         simp only [Act.put,q1,q2,q3]
         refine LV (v := .string (R.extract (R.size % 9) R.size)) rfl (run_assign rfl rfl) ?_
         simp only [Act.put,q1,q2,q3]
         refine wpList_nil ?_
         skip
         have hS2 := E.1
         rw [val_digs, hi, chunk_add (l := l) (p := p) (n := R.size % 9) hI21.1 (by omega) (by omega) (by omega)] at hS2
         replace E := E.s hS2
         have hR2 : (R.extract (R.size % 9) R.size).data.toList = l.drop (p + (R.size % 9)) := by rw [str_drop R (R.size % 9) (by omega), hI21.2.1, List.drop_drop]
         have hR3 : (R.extract (R.size % 9) R.size).size + (R.size % 9) = R.size := by rw [← str_len, hR2, List.length_drop]; have := hI21.1; omega
         exact ⟨_, (by rw [hm21]; omega), p + (R.size % 9), R.extract (R.size % 9) R.size, v29, _, _, _, _, _, _, _, _, _, _, _, _, _, _, _, _, _, _, _, _, _, _, _, _, _, _, _, _, _, _, rfl, (Env.s (Env.b (Env.ww (Env.nil _) (E.2.2.2.2.1)) (E.2.2.2.1)) (E.1)), rfl, ⟨by have := hI21.1; omega, hR2, .inr (by omega)⟩⟩
        case neg =>
         have hi9 : i < (R.size % 9) := by omega
         obtain ⟨b, hb, hb2⟩ := str_get (s := R) (i := i) (by omega)
         have hb3 : l[p + i]? = some b := by rw [hI21.2.1, List.getElem?_drop] at hb2; exact hb2
         have hbd := hda b (List.mem_of_getElem? hb3)
         have hvl := dgs_lt (l := l) (p := p) (i := i) hda (by omega)
         refine wp_seq ?_
         -- region 16
         refine wp_region_lit ?_
         refine LV (v := .bool true) rfl (run_ltI (c := true) rfl rfl rfl (by rw [decide_eq_true_eq]; omega)) ?_
         simp only [Act.put,q1,q2,q3]
         refine wpList_nil ?_
         change Code.wp _ _ _ _ _
         refine wp_seq ?_
         refine wp_cond_true rfl ?_
         refine wp_skip ?_
         change Code.wp _ _ _ _ _
         refine wp_seq ?_
         refine wp_block ?_
         refine wp_seq ?_
         -- region 17
         refine wp_region_lit ?_
         refine LV (v := .int .i64 ((i : Nat) : Int)) rfl (run_move rfl rfl) ?_
         simp only [Act.put,q1,q2,q3]
         refine LV (v := .int .i64 ((i : Nat) : Int)) rfl (run_assign rfl rfl) ?_
         simp only [Act.put,q1,q2,q3]
         refine wpList_nil ?_
         change Code.wp _ _ _ _ _
         -- region 18
         refine wp_region_lit ?_
         refine LV (v := .int .u64 ((val10 (((dgs l).drop p).take i) : Nat) : Int)) rfl (run_move rfl rfl) ?_
         simp only [Act.put,q1,q2,q3]
         refine LV (v := .int .u64 ((10 * val10 (((dgs l).drop p).take i) : Nat) : Int)) rfl (run_mulI rfl rfl rfl (wrap_u64_nat (by omega) (by omega))) ?_
         simp only [Act.put,q1,q2,q3]
         refine LV (v := .string R) rfl (run_move rfl rfl) ?_
         simp only [Act.put,q1,q2,q3]
         refine LV (v := .int .i64 ((i : Nat) : Int)) rfl (run_move rfl rfl) ?_
         simp only [Act.put,q1,q2,q3]
         refine LV (v := .int .u8 ((b.toNat : Nat) : Int)) rfl (run_ixS (j := i) rfl Tryz.underlying9 rfl rfl rfl hb) ?_
         simp only [Act.put,q1,q2,q3]
         refine LV (v := .int .u8 ((b.toNat - 48 : Nat) : Int)) rfl (run_subI rfl rfl rfl (wrap_u8_nat (by omega) (by omega))) ?_
         simp only [Act.put,q1,q2,q3]
         refine LV (v := .int .u64 ((b.toNat - 48 : Nat) : Int)) rfl (run_convI rfl rfl (by rw [Tryz.underlying5]; rfl) Tryz.underlying66 (wrap_u64_nat (by omega) (by omega))) ?_
         simp only [Act.put,q1,q2,q3]
         have hvs := dgs_snoc (l := l) (p := p) (i := i) hb3
         refine LV (v := .int .u64 ((val10 (((dgs l).drop p).take (i + 1)) : Nat) : Int)) rfl (run_addI rfl rfl rfl (wrap_u64_nat (by omega) (by omega))) ?_
         simp only [Act.put,q1,q2,q3]
         refine LV (v := .int .u64 ((val10 (((dgs l).drop p).take (i + 1)) : Nat) : Int)) rfl (run_assign rfl rfl) ?_
         simp only [Act.put,q1,q2,q3]
         refine wpList_nil ?_
         change Code.wp _ _ _ _ _
         -- region 19
         refine wp_region_lit ?_
         refine LV (v := .int .i64 ((i + 1 : Nat) : Int)) rfl (run_addI rfl rfl rfl (by rw [IntWalk.i64_in _ (by omega)]; omega)) ?_
         simp only [Act.put,q1,q2,q3]
         refine LV (v := .int .i64 ((i + 1 : Nat) : Int)) rfl (run_move rfl rfl) ?_
         simp only [Act.put,q1,q2,q3]
         refine wpList_nil ?_
         exact ⟨_, (by omega), i + 1, _, _, _, _, _, _, _, _, _, _, _, _, rfl, (Env.s (Env.b (Env.ww (Env.nil _) (E.2.2.1)) (E.2.1)) (E.1)), rfl, (by omega)⟩
    case neg =>
     -- region 7
     refine wp_region_lit ?_
     refine LV (v := .string (s.extract 1 s.size)) rfl (run_move rfl rfl) ?_
     simp only [Act.put,q1,q2,q3]
     refine L1 rfl (Oper.wp_callB fn_integer_decimal rfl (decimal_t (s.extract 1 s.size) _ (by omega) (by simpa using hok) false) rfl E ?_)
     clear E
     intro w30 d30 E
     replace x1 := x1.below d30
     clear d30
     simp only [Act.put,q1,q2,q3]
     refine LV (v := .bool true) rfl (run_not (b := false) rfl rfl) ?_
     simp only [Act.put,q1,q2,q3]
     refine LV (v := .bool true) rfl (run_move rfl rfl) ?_
     simp only [Act.put,q1,q2,q3]
     refine L0 rfl ?_
     simp only [Act.put,q1,q2,q3]
     refine L0 rfl ?_
     simp only [Act.put,q1,q2,q3]
     refine L0 rfl ?_
     simp only [Act.put,q1,q2,q3]
     refine L0 rfl ?_
     simp only [Act.put,q1,q2,q3]
     refine L0 rfl ?_
     simp only [Act.put,q1,q2,q3]
     refine LV (v := .bool true) rfl (run_pick (b := true) rfl rfl rfl) ?_
     simp only [Act.put,q1,q2,q3]
     refine wpList_nil ?_
     change Code.wp _ _ _ _ _
     refine wp_cond_true rfl ?_
     refine wp_seq ?_
     -- region 8
     refine wp_region_lit ?_
     refine LV (v := .agg #[.bool false, .slice none 0 0]) rfl (run_buildI0 rfl) ?_
     simp only [Act.put,q1,q2,q3]
     replace E := E.i (zero_i _)
     refine L1 rfl (Oper.wp_store AgI rfl rfl rfl x1 rfl rfl (IsI.one (E.1)) ?_)
     intro w31 o31 y31
     replace E := (E.onl (x1.noW now0) ⟨trivial, okW (by omega), trivial⟩ o31).b y31
     clear x1 o31 y31
     simp only [Act.put]
     refine LV (v := .int .i64 3) rfl (run_assign rfl rfl) ?_
     simp only [Act.put,q1,q2,q3]
     refine wpList_nil ?_
     change Code.wp _ _ _ _ _
     refine wp_ret ?_
     have r32 := res_box AgI (E.1) rfl
     exact bodyPost_ret (v := .tuple #[.agg #[.bool false, .slice none 0 0], .int .i64 3]) (by simp [results, Tryz.results69, asAddr, r32]) rfl (RetPa.form (by omega) (parse_neg hneg (by rw [← hdl]; exact hok)) ⟨_, rfl, E.2.1, E.2.2.1⟩)
   case neg =>
    have hneg : ¬ s.data.toList.head? = some 45 := head_no (.inr ⟨c, hc2, h45⟩)
    -- region 3
    refine wp_region_lit ?_
    refine LV (v := .string s) rfl (run_move rfl rfl) ?_
    simp only [Act.put,q1,q2,q3]
    refine LV (v := .int .i64 ((s.size : Nat) : Int)) rfl (run_lenS rfl rfl) ?_
    simp only [Act.put,q1,q2,q3]
    refine LV (v := .bool true) rfl (run_gtI (c := true) rfl rfl rfl (by rw [decide_eq_true_eq]; omega)) ?_
    simp only [Act.put,q1,q2,q3]
    refine LV (v := .bool true) rfl (run_move rfl rfl) ?_
    simp only [Act.put,q1,q2,q3]
    refine LV (v := .string s) rfl (run_move rfl rfl) ?_
    simp only [Act.put,q1,q2,q3]
    refine LV (v := .int .u8 ((c.toNat : Nat) : Int)) rfl (run_ixS (j := 0) rfl Tryz.underlying9 rfl rfl rfl hc) ?_
    simp only [Act.put,q1,q2,q3]
    refine LV (v := .bool false) rfl (run_eqI (c := false) rfl rfl rfl (by rw [beq_eq_false_iff_ne]; omega)) ?_
    simp only [Act.put,q1,q2,q3]
    refine LV (v := .bool false) rfl (run_pick (b := true) rfl rfl rfl) ?_
    simp only [Act.put,q1,q2,q3]
    refine LV (v := .bool false) rfl (run_assign rfl rfl) ?_
    simp only [Act.put,q1,q2,q3]
    refine wpList_nil ?_
    change Code.wp _ _ _ _ _
    refine wp_seq ?_
    -- region 4
    refine wp_region_lit ?_
    refine LV (v := .string s) rfl (run_move rfl rfl) ?_
    simp only [Act.put,q1,q2,q3]
    refine LV (v := .string s) rfl (run_assign rfl rfl) ?_
    simp only [Act.put,q1,q2,q3]
    refine wpList_nil ?_
    change Code.wp _ _ _ _ _
    refine wp_seq ?_
    refine wp_seq ?_
    -- region 5
    refine wp_region_lit ?_
    refine LV (v := .bool false) rfl (run_move rfl rfl) ?_
    simp only [Act.put,q1,q2,q3]
    refine wpList_nil ?_
    change Code.wp _ _ _ _ _
    refine wp_cond_false rfl ?_
    refine wp_skip ?_
    change Code.wp _ _ _ _ _
    refine wp_seq ?_
    refine wp_seq ?_
    have hdz : s.size ≤ 4000 := by omega
    by_cases hok : okDec s.data.toList = true
    case pos =>
     -- region 7
     refine wp_region_lit ?_
     refine LV (v := .string s) rfl (run_move rfl rfl) ?_
     simp only [Act.put,q1,q2,q3]
     refine L1 rfl (Oper.wp_callB fn_integer_decimal rfl (decimal_t s _ (by omega) (hok) true) rfl E ?_)
     clear E
     intro w33 d33 E
     replace x1 := x1.below d33
     clear d33
     simp only [Act.put,q1,q2,q3]
     refine LV (v := .bool false) rfl (run_not (b := true) rfl rfl) ?_
     simp only [Act.put,q1,q2,q3]
     refine LV (v := .bool false) rfl (run_move rfl rfl) ?_
     simp only [Act.put,q1,q2,q3]
     refine LV (v := .bool false) rfl (run_move rfl rfl) ?_
     simp only [Act.put,q1,q2,q3]
     refine LV (v := .bool false) rfl (run_move rfl rfl) ?_
     simp only [Act.put,q1,q2,q3]
     refine L0 rfl ?_
     simp only [Act.put,q1,q2,q3]
     refine L0 rfl ?_
     simp only [Act.put,q1,q2,q3]
     refine LV (v := .bool false) rfl (run_pick (b := false) rfl rfl rfl) ?_
     simp only [Act.put,q1,q2,q3]
     refine LV (v := .bool false) rfl (run_pick (b := false) rfl rfl rfl) ?_
     simp only [Act.put,q1,q2,q3]
     refine wpList_nil ?_
     change Code.wp _ _ _ _ _
     refine wp_cond_false rfl ?_
     refine wp_skip ?_
     change Code.wp _ _ _ _ _
     refine wp_seq ?_
     have hdp := okDec_pos hok
     have hda := okDec_all hok
     have hdl2 := str_len s
     obtain ⟨l, hl⟩ : ∃ l, l = s.data.toList := ⟨_, rfl⟩
     rw [← hl] at hok hdp hda hdl2
     -- region 9
     refine wp_region_lit ?_
     refine LV (v := .slice none 0 0) rfl (run_assign rfl rfl) ?_
     simp only [Act.put,q1,q2,q3]
     refine wpList_nil ?_
     change Code.wp _ _ _ _ _
     refine wp_seq ?_
     refine wp_block ?_
     replace E := E.b x1
     clear x1
     have hs0 : Sl w33 (.slice none 0 0) (digs (val10 ((dgs l).take 0))) := by rw [List.take_zero, val10_nil, digs_zero]; exact Sl_nil _
     replace E := E.s hs0
     refine wp_loop_ghost (fun mz a w' => ∃ (p : Nat) (R : ByteArray) (vm : Value) (g7 g8 g9 g37 g38 g39 g40 g41 g42 g43 g44 g45 g46 g47 g48 g49 g50 g51 g52 g53 g54 g55 g56 g57 g58 g59 g60 g61 g62 g63 : Value), a = ⟨#[.string s, undef, .pointer (some ⟨b1, 0, none⟩), .int .i64 0, .bool false, .string R, vm, g7, g8, g9, .string s, .int .i64 ((s.size : Nat) : Int), .bool false, undef, .string s, .int .i64 ((s.size : Nat) : Int), .bool true, .bool true, .string s, .int .u8 ((c.toNat : Nat) : Int), .bool false, .bool false, .string s, .bool false, undef, undef, .string s, .bool true, .bool false, .bool false, .bool false, .bool false, undef, undef, .bool false, .bool false, undef, g37, g38, g39, g40, g41, g42, g43, g44, g45, g46, g47, g48, g49, g50, g51, g52, g53, g54, g55, g56, g57, g58, g59, g60, g61, g62, g63, undef, undef, undef], []⟩ ∧ Env w' [fS vm (digs (val10 ((dgs l).take p))), fB b1 false (.slice none 0 0), fW w] ∧ mz = R.size ∧ p + R.size = l.length ∧ R.data.toList = l.drop p ∧ (p = 0 ∨ R.size % 9 = 0)) (s.size) ⟨0, s, .slice none 0 0, _, _, _, _, _, _, _, _, _, _, _, _, _, _, _, _, _, _, _, _, _, _, _, _, _, _, _, _, _, _, rfl, (Env.s (Env.b (Env.ww (Env.nil _) (E.2.2.1)) (E.2.1)) (E.1)), rfl, ⟨by rw [hdl2]; omega, by rw [← hl]; rfl, .inl rfl⟩⟩ ?_
     rintro m34 _ w34 ⟨p, R, vm, g7, g8, g9, g37, g38, g39, g40, g41, g42, g43, g44, g45, g46, g47, g48, g49, g50, g51, g52, g53, g54, g55, g56, g57, g58, g59, g60, g61, g62, g63, rfl, E, hm34, hI34⟩
     by_cases hR : R.size = 0
     case pos =>
      refine wp_seq ?_
      refine wp_seq ?_
      -- region 10
      refine wp_region_lit ?_
      refine LV (v := .string R) rfl (run_move rfl rfl) ?_
      simp only [Act.put,q1,q2,q3]
      refine LV (v := .int .i64 ((R.size : Nat) : Int)) rfl (run_lenS rfl rfl) ?_
      simp only [Act.put,q1,q2,q3]
      refine LV (v := .bool false) rfl (run_gtI (c := false) rfl rfl rfl (by rw [hR]; rfl)) ?_
      simp only [Act.put,q1,q2,q3]
      refine wpList_nil ?_
      change Code.wp _ _ _ _ _
      refine wp_cond_false rfl ?_
      refine wp_exit ?_
      change Code.wp _ _ _ _ _
      refine wp_seq ?_
      -- region 22
      refine wp_region_lit ?_
      refine LV (v := .bool false) rfl (run_move rfl rfl) ?_
      simp only [Act.put,q1,q2,q3]
      refine LV (v := vm) rfl (run_move rfl rfl) ?_
      simp only [Act.put,q1,q2,q3]
      have hpl : p = l.length := by have := hI34.1; omega
      refine L1 rfl (Oper.wp_callI fn_integer_signed rfl (signed_z false _ _ ((val10 (dgs l) : Int)) _ (E.1) (by rw [val_digs, hpl, dgs_take]; rfl)) rfl E ?_)
      clear E
      intro w35 n35 s35 d35 E
      clear d35
      simp only [Act.put,q1,q2,q3]
      have x37 := E.2.2.1
      replace E := ((E.2.2.2).s (E.2.1)).i (E.1)
      refine L1 rfl (Oper.wp_store AgI rfl rfl rfl x37 rfl rfl (IsI.one (E.1)) ?_)
      intro w36 o36 y36
      replace E := (E.onl (x37.noW now0) ⟨trivial, trivial, okW (by omega), trivial⟩ o36).b y36
      clear x37 o36 y36
      simp only [Act.put]
      refine LV (v := .int .i64 0) rfl (run_assign rfl rfl) ?_
      simp only [Act.put,q1,q2,q3]
      refine wpList_nil ?_
      change Code.wp _ _ _ _ _
      refine wp_ret ?_
      have r38 := res_box AgI (E.1) rfl
      exact bodyPost_ret (v := .tuple #[.agg #[.bool n35, s35], .int .i64 0]) (by simp [results, Tryz.results69, asAddr, r38]) rfl (RetPa.ok (by omega) (parse_posok hneg hl hok) ⟨_, rfl, E.2.1, E.2.2.2.1⟩)
     case neg =>
      by_cases h9 : R.size % 9 = 0
      case pos =>
       have hn1 : 9 ≤ R.size := by omega
       have hn0 : (9 : Nat) = if R.size % 9 = 0 then 9 else R.size % 9 := by rw [if_pos h9]
       refine wp_seq ?_
       refine wp_seq ?_
       -- region 10
       refine wp_region_lit ?_
       refine LV (v := .string R) rfl (run_move rfl rfl) ?_
       simp only [Act.put,q1,q2,q3]
       refine LV (v := .int .i64 ((R.size : Nat) : Int)) rfl (run_lenS rfl rfl) ?_
       simp only [Act.put,q1,q2,q3]
       refine LV (v := .bool true) rfl (run_gtI (c := true) rfl rfl rfl (by rw [decide_eq_true_eq]; omega)) ?_
       simp only [Act.put,q1,q2,q3]
       refine wpList_nil ?_
       change Code.wp _ _ _ _ _
       refine wp_cond_true rfl ?_
       refine wp_skip ?_
       change Code.wp _ _ _ _ _
       refine wp_block ?_
       refine wp_seq ?_
       -- region 11
       refine wp_region_lit ?_
       refine LV (v := .string R) rfl (run_move rfl rfl) ?_
       simp only [Act.put,q1,q2,q3]
       refine LV (v := .int .i64 ((R.size : Nat) : Int)) rfl (run_lenS rfl rfl) ?_
       simp only [Act.put,q1,q2,q3]
       refine LV (v := .int .i64 ((R.size % 9 : Nat) : Int)) rfl (run_remI rfl rfl rfl (by decide) (tmod_nat _ 9)) ?_
       simp only [Act.put,q1,q2,q3]
       refine LV (v := .int .i64 ((R.size % 9 : Nat) : Int)) rfl (run_assign rfl rfl) ?_
       simp only [Act.put,q1,q2,q3]
       refine wpList_nil ?_
       change Code.wp _ _ _ _ _
       refine wp_seq ?_
       refine wp_seq ?_
       -- region 12
       refine wp_region_lit ?_
       refine LV (v := .int .i64 ((R.size % 9 : Nat) : Int)) rfl (run_move rfl rfl) ?_
       simp only [Act.put,q1,q2,q3]
       refine LV (v := .bool true) rfl (run_eqI (c := true) rfl rfl rfl (by rw [h9]; rfl)) ?_
       simp only [Act.put,q1,q2,q3]
       refine wpList_nil ?_
       change Code.wp _ _ _ _ _
       refine wp_cond_true rfl ?_
       -- region 13
       refine wp_region_lit ?_
       refine LV (v := .int .i64 9) rfl (run_assign rfl rfl) ?_
       simp only [Act.put,q1,q2,q3]
       refine wpList_nil ?_
       change Code.wp _ _ _ _ _
       refine wp_seq ?_
       -- region 14
       refine wp_region_lit ?_
       refine LV (v := .int .u64 0) rfl (run_assign rfl rfl) ?_
       simp only [Act.put,q1,q2,q3]
       refine wpList_nil ?_
       change Code.wp _ _ _ _ _
       refine wp_seq ?_
       refine wp_seq ?_
       -- region 15
       refine wp_region_lit ?_
       refine LV (v := .int .i64 9) rfl (run_move rfl rfl) ?_
       simp only [Act.put,q1,q2,q3]
       refine LV (v := .int .i64 0) rfl (run_move rfl rfl) ?_
       simp only [Act.put,q1,q2,q3]
       refine wpList_nil ?_
       change Code.wp _ _ _ _ _
       refine wp_block ?_
       refine wp_loop_ghost (fun mz a w' => ∃ (i : Nat) (g9 g47 g48 g49 g50 g51 g52 g53 g54 g55 g56 g57 : Value), a = ⟨#[.string s, undef, .pointer (some ⟨b1, 0, none⟩), .int .i64 0, .bool false, .string R, vm, .int .i64 9, .int .u64 ((val10 (((dgs l).drop p).take i) : Nat) : Int), g9, .string s, .int .i64 ((s.size : Nat) : Int), .bool false, undef, .string s, .int .i64 ((s.size : Nat) : Int), .bool true, .bool true, .string s, .int .u8 ((c.toNat : Nat) : Int), .bool false, .bool false, .string s, .bool false, undef, undef, .string s, .bool true, .bool false, .bool false, .bool false, .bool false, undef, undef, .bool false, .bool false, undef, .string R, .int .i64 ((R.size : Nat) : Int), .bool true, .string R, .int .i64 ((R.size : Nat) : Int), .int .i64 ((R.size % 9 : Nat) : Int), .int .i64 ((R.size % 9 : Nat) : Int), .bool true, .int .i64 9, .int .i64 ((i : Nat) : Int), g47, g48, g49, g50, g51, g52, g53, g54, g55, g56, g57, g58, g59, g60, g61, g62, g63, undef, undef, undef], []⟩ ∧ Env w' [fS vm (digs (val10 ((dgs l).take p))), fB b1 false (.slice none 0 0), fW w] ∧ mz = 9 - i ∧ i ≤ 9) (9) ⟨0, _, _, _, _, _, _, _, _, _, _, _, _, rfl, (Env.s (Env.b (Env.ww (Env.nil _) (E.2.2.1)) (E.2.1)) (E.1)), rfl, Nat.zero_le _⟩ ?_
       rintro m39 _ w39 ⟨i, g9, g47, g48, g49, g50, g51, g52, g53, g54, g55, g56, g57, rfl, E, hm39, hI39⟩
       by_cases hi : i = 9
       case pos =>
        refine wp_seq ?_
        -- region 16
        refine wp_region_lit ?_
        refine LV (v := .bool false) rfl (run_ltI (c := false) rfl rfl rfl (by rw [hi, decide_eq_false_iff_not]; omega)) ?_
        simp only [Act.put,q1,q2,q3]
        refine wpList_nil ?_
        change Code.wp _ _ _ _ _
        refine wp_seq ?_
        refine wp_cond_false rfl ?_
        refine wp_exit ?_
        change Code.wp _ _ _ _ _
        refine wp_seq ?_
        -- region 20
        refine wp_region_lit ?_
        refine LV (v := vm) rfl (run_move rfl rfl) ?_
        simp only [Act.put,q1,q2,q3]
        refine LV (v := .int .u64 ((val10 (((dgs l).drop p).take i) : Nat) : Int)) rfl (run_move rfl rfl) ?_
        simp only [Act.put,q1,q2,q3]
        have hcl : val10 (((dgs l).drop p).take i) < 1000000000 := chunk_lt (l := l) (p := p) hda (by omega)
        have hfl : (digs (val10 ((dgs l).take p))).length ≤ 1000000000 := take_fits hda (by omega)
        refine L1 rfl (Oper.wp_callS fn_integer_scaled rfl (scaled_sl _ (digs (val10 ((dgs l).take p))) 1000000000 _ _ (E.1) hfl (by decide) hcl) rfl E ?_)
        clear E
        intro w40 v40 d40 E
        clear d40
        simp only [Act.put,q1,q2,q3]
        refine LV (v := v40) rfl (run_assign rfl rfl) ?_
        simp only [Act.put,q1,q2,q3]
        refine wpList_nil ?_
        change Code.wp _ _ _ _ _
        -- region 21
        refine wp_region_lit ?_
        refine LV (v := .string R) rfl (run_move rfl rfl) ?_
        simp only [Act.put,q1,q2,q3]
        refine LV (v := .int .i64 9) rfl (run_move rfl rfl) ?_
        simp only [Act.put,q1,q2,q3]
        refine LV (v := .string (R.extract 9 R.size)) rfl (run_sliceS (j := 9) rfl Tryz.underlying9 rfl rfl rfl (by omega)) ?_
        simp only [Act.put,q1,q2,q3]
        refine LV (v := .string (R.extract 9 R.size)) rfl (run_assign rfl rfl) ?_
        simp only [Act.put,q1,q2,q3]
        refine wpList_nil ?_
        skip
        have hS2 := E.1
        rw [val_digs, hi, chunk_add (l := l) (p := p) (n := 9) hI34.1 (by omega) (by omega) (by omega)] at hS2
        replace E := E.s hS2
        have hR2 : (R.extract 9 R.size).data.toList = l.drop (p + 9) := by rw [str_drop R 9 (by omega), hI34.2.1, List.drop_drop]
        have hR3 : (R.extract 9 R.size).size + 9 = R.size := by rw [← str_len, hR2, List.length_drop]; have := hI34.1; omega
        exact ⟨_, (by rw [hm34]; omega), p + 9, R.extract 9 R.size, v40, _, _, _, _, _, _, _, _, _, _, _, _, _, _, _, _, _, _, _, _, _, _, _, _, _, _, _, _, _, _, rfl, (Env.s (Env.b (Env.ww (Env.nil _) (E.2.2.2.2.1)) (E.2.2.2.1)) (E.1)), rfl, ⟨by have := hI34.1; omega, hR2, .inr (by omega)⟩⟩
       case neg =>
        have hi9 : i < 9 := by omega
        obtain ⟨b, hb, hb2⟩ := str_get (s := R) (i := i) (by omega)
        have hb3 : l[p + i]? = some b := by rw [hI34.2.1, List.getElem?_drop] at hb2; exact hb2
        have hbd := hda b (List.mem_of_getElem? hb3)
        have hvl := dgs_lt (l := l) (p := p) (i := i) hda (by omega)
        refine wp_seq ?_
        -- region 16
        refine wp_region_lit ?_
        refine LV (v := .bool true) rfl (run_ltI (c := true) rfl rfl rfl (by rw [decide_eq_true_eq]; omega)) ?_
        simp only [Act.put,q1,q2,q3]
        refine wpList_nil ?_
        change Code.wp _ _ _ _ _
        refine wp_seq ?_
        refine wp_cond_true rfl ?_
        refine wp_skip ?_
        change Code.wp _ _ _ _ _
        refine wp_seq ?_
        refine wp_block ?_
        refine wp_seq ?_
        -- region 17
        refine wp_region_lit ?_
        refine LV (v := .int .i64 ((i : Nat) : Int)) rfl (run_move rfl rfl) ?_
        simp only [Act.put,q1,q2,q3]
        refine LV (v := .int .i64 ((i : Nat) : Int)) rfl (run_assign rfl rfl) ?_
        simp only [Act.put,q1,q2,q3]
        refine wpList_nil ?_
        change Code.wp _ _ _ _ _
        -- region 18
        refine wp_region_lit ?_
        refine LV (v := .int .u64 ((val10 (((dgs l).drop p).take i) : Nat) : Int)) rfl (run_move rfl rfl) ?_
        simp only [Act.put,q1,q2,q3]
        refine LV (v := .int .u64 ((10 * val10 (((dgs l).drop p).take i) : Nat) : Int)) rfl (run_mulI rfl rfl rfl (wrap_u64_nat (by omega) (by omega))) ?_
        simp only [Act.put,q1,q2,q3]
        refine LV (v := .string R) rfl (run_move rfl rfl) ?_
        simp only [Act.put,q1,q2,q3]
        refine LV (v := .int .i64 ((i : Nat) : Int)) rfl (run_move rfl rfl) ?_
        simp only [Act.put,q1,q2,q3]
        refine LV (v := .int .u8 ((b.toNat : Nat) : Int)) rfl (run_ixS (j := i) rfl Tryz.underlying9 rfl rfl rfl hb) ?_
        simp only [Act.put,q1,q2,q3]
        refine LV (v := .int .u8 ((b.toNat - 48 : Nat) : Int)) rfl (run_subI rfl rfl rfl (wrap_u8_nat (by omega) (by omega))) ?_
        simp only [Act.put,q1,q2,q3]
        refine LV (v := .int .u64 ((b.toNat - 48 : Nat) : Int)) rfl (run_convI rfl rfl (by rw [Tryz.underlying5]; rfl) Tryz.underlying66 (wrap_u64_nat (by omega) (by omega))) ?_
        simp only [Act.put,q1,q2,q3]
        have hvs := dgs_snoc (l := l) (p := p) (i := i) hb3
        refine LV (v := .int .u64 ((val10 (((dgs l).drop p).take (i + 1)) : Nat) : Int)) rfl (run_addI rfl rfl rfl (wrap_u64_nat (by omega) (by omega))) ?_
        simp only [Act.put,q1,q2,q3]
        refine LV (v := .int .u64 ((val10 (((dgs l).drop p).take (i + 1)) : Nat) : Int)) rfl (run_assign rfl rfl) ?_
        simp only [Act.put,q1,q2,q3]
        refine wpList_nil ?_
        change Code.wp _ _ _ _ _
        -- region 19
        refine wp_region_lit ?_
        refine LV (v := .int .i64 ((i + 1 : Nat) : Int)) rfl (run_addI rfl rfl rfl (by rw [IntWalk.i64_in _ (by omega)]; omega)) ?_
        simp only [Act.put,q1,q2,q3]
        refine LV (v := .int .i64 ((i + 1 : Nat) : Int)) rfl (run_move rfl rfl) ?_
        simp only [Act.put,q1,q2,q3]
        refine wpList_nil ?_
        exact ⟨_, (by omega), i + 1, _, _, _, _, _, _, _, _, _, _, _, _, rfl, (Env.s (Env.b (Env.ww (Env.nil _) (E.2.2.1)) (E.2.1)) (E.1)), rfl, (by omega)⟩
      case neg =>
       refine wp_seq ?_
       refine wp_seq ?_
       -- region 10
       refine wp_region_lit ?_
       refine LV (v := .string R) rfl (run_move rfl rfl) ?_
       simp only [Act.put,q1,q2,q3]
       refine LV (v := .int .i64 ((R.size : Nat) : Int)) rfl (run_lenS rfl rfl) ?_
       simp only [Act.put,q1,q2,q3]
       refine LV (v := .bool true) rfl (run_gtI (c := true) rfl rfl rfl (by rw [decide_eq_true_eq]; omega)) ?_
       simp only [Act.put,q1,q2,q3]
       refine wpList_nil ?_
       change Code.wp _ _ _ _ _
       refine wp_cond_true rfl ?_
       refine wp_skip ?_
       change Code.wp _ _ _ _ _
       refine wp_block ?_
       refine wp_seq ?_
       -- region 11
       refine wp_region_lit ?_
       refine LV (v := .string R) rfl (run_move rfl rfl) ?_
       simp only [Act.put,q1,q2,q3]
       refine LV (v := .int .i64 ((R.size : Nat) : Int)) rfl (run_lenS rfl rfl) ?_
       simp only [Act.put,q1,q2,q3]
       refine LV (v := .int .i64 ((R.size % 9 : Nat) : Int)) rfl (run_remI rfl rfl rfl (by decide) (tmod_nat _ 9)) ?_
       simp only [Act.put,q1,q2,q3]
       refine LV (v := .int .i64 ((R.size % 9 : Nat) : Int)) rfl (run_assign rfl rfl) ?_
       simp only [Act.put,q1,q2,q3]
       refine wpList_nil ?_
       change Code.wp _ _ _ _ _
       refine wp_seq ?_
       refine wp_seq ?_
       -- region 12
       refine wp_region_lit ?_
       refine LV (v := .int .i64 ((R.size % 9 : Nat) : Int)) rfl (run_move rfl rfl) ?_
       simp only [Act.put,q1,q2,q3]
       refine LV (v := .bool false) rfl (run_eqI (c := false) rfl rfl rfl (by rw [beq_eq_false_iff_ne]; omega)) ?_
       simp only [Act.put,q1,q2,q3]
       refine wpList_nil ?_
       change Code.wp _ _ _ _ _
       refine wp_cond_false rfl ?_
       refine wp_skip ?_
       change Code.wp _ _ _ _ _
       refine wp_seq ?_
       -- region 14
       refine wp_region_lit ?_
       refine LV (v := .int .u64 0) rfl (run_assign rfl rfl) ?_
       simp only [Act.put,q1,q2,q3]
       refine wpList_nil ?_
       change Code.wp _ _ _ _ _
       refine wp_seq ?_
       refine wp_seq ?_
       -- region 15
       refine wp_region_lit ?_
       refine LV (v := .int .i64 ((R.size % 9 : Nat) : Int)) rfl (run_move rfl rfl) ?_
       simp only [Act.put,q1,q2,q3]
       refine LV (v := .int .i64 0) rfl (run_move rfl rfl) ?_
       simp only [Act.put,q1,q2,q3]
       refine wpList_nil ?_
       change Code.wp _ _ _ _ _
       refine wp_block ?_
       refine wp_loop_ghost (fun mz a w' => ∃ (i : Nat) (g9 g47 g48 g49 g50 g51 g52 g53 g54 g55 g56 g57 : Value), a = ⟨#[.string s, undef, .pointer (some ⟨b1, 0, none⟩), .int .i64 0, .bool false, .string R, vm, .int .i64 ((R.size % 9 : Nat) : Int), .int .u64 ((val10 (((dgs l).drop p).take i) : Nat) : Int), g9, .string s, .int .i64 ((s.size : Nat) : Int), .bool false, undef, .string s, .int .i64 ((s.size : Nat) : Int), .bool true, .bool true, .string s, .int .u8 ((c.toNat : Nat) : Int), .bool false, .bool false, .string s, .bool false, undef, undef, .string s, .bool true, .bool false, .bool false, .bool false, .bool false, undef, undef, .bool false, .bool false, undef, .string R, .int .i64 ((R.size : Nat) : Int), .bool true, .string R, .int .i64 ((R.size : Nat) : Int), .int .i64 ((R.size % 9 : Nat) : Int), .int .i64 ((R.size % 9 : Nat) : Int), .bool false, .int .i64 ((R.size % 9 : Nat) : Int), .int .i64 ((i : Nat) : Int), g47, g48, g49, g50, g51, g52, g53, g54, g55, g56, g57, g58, g59, g60, g61, g62, g63, undef, undef, undef], []⟩ ∧ Env w' [fS vm (digs (val10 ((dgs l).take p))), fB b1 false (.slice none 0 0), fW w] ∧ mz = (R.size % 9) - i ∧ i ≤ (R.size % 9)) ((R.size % 9)) ⟨0, _, _, _, _, _, _, _, _, _, _, _, _, rfl, (Env.s (Env.b (Env.ww (Env.nil _) (E.2.2.1)) (E.2.1)) (E.1)), rfl, Nat.zero_le _⟩ ?_
       rintro m41 _ w41 ⟨i, g9, g47, g48, g49, g50, g51, g52, g53, g54, g55, g56, g57, rfl, E, hm41, hI41⟩
       by_cases hi : i = R.size % 9
       case pos =>
        refine wp_seq ?_
        -- region 16
        refine wp_region_lit ?_
        refine LV (v := .bool false) rfl (run_ltI (c := false) rfl rfl rfl (by rw [hi, decide_eq_false_iff_not]; omega)) ?_
        simp only [Act.put,q1,q2,q3]
        refine wpList_nil ?_
        change Code.wp _ _ _ _ _
        refine wp_seq ?_
        refine wp_cond_false rfl ?_
        refine wp_exit ?_
        change Code.wp _ _ _ _ _
        refine wp_seq ?_
        -- region 20
        refine wp_region_lit ?_
        refine LV (v := vm) rfl (run_move rfl rfl) ?_
        simp only [Act.put,q1,q2,q3]
        refine LV (v := .int .u64 ((val10 (((dgs l).drop p).take i) : Nat) : Int)) rfl (run_move rfl rfl) ?_
        simp only [Act.put,q1,q2,q3]
        have hcl : val10 (((dgs l).drop p).take i) < 1000000000 := chunk_lt (l := l) (p := p) hda (by omega)
        have hfl : (digs (val10 ((dgs l).take p))).length ≤ 1000000000 := take_fits hda (by omega)
        refine L1 rfl (Oper.wp_callS fn_integer_scaled rfl (scaled_sl _ (digs (val10 ((dgs l).take p))) 1000000000 _ _ (E.1) hfl (by decide) hcl) rfl E ?_)
        clear E
        intro w42 v42 d42 E
        clear d42
        simp only [Act.put,q1,q2,q3]
        refine LV (v := v42) rfl (run_assign rfl rfl) ?_
        simp only [Act.put,q1,q2,q3]
        refine wpList_nil ?_
        change Code.wp _ _ _ _ _
        -- region 21
        refine wp_region_lit ?_
        refine LV (v := .string R) rfl (run_move rfl rfl) ?_
        simp only [Act.put,q1,q2,q3]
        refine LV (v := .int .i64 ((R.size % 9 : Nat) : Int)) rfl (run_move rfl rfl) ?_
        simp only [Act.put,q1,q2,q3]
        refine LV (v := .string (R.extract (R.size % 9) R.size)) rfl (run_sliceS (j := (R.size % 9)) rfl Tryz.underlying9 rfl rfl rfl (by omega)) ?_
        simp only [Act.put,q1,q2,q3]
        refine LV (v := .string (R.extract (R.size % 9) R.size)) rfl (run_assign rfl rfl) ?_
        simp only [Act.put,q1,q2,q3]
        refine wpList_nil ?_
        skip
        have hS2 := E.1
        rw [val_digs, hi, chunk_add (l := l) (p := p) (n := R.size % 9) hI34.1 (by omega) (by omega) (by omega)] at hS2
        replace E := E.s hS2
        have hR2 : (R.extract (R.size % 9) R.size).data.toList = l.drop (p + (R.size % 9)) := by rw [str_drop R (R.size % 9) (by omega), hI34.2.1, List.drop_drop]
        have hR3 : (R.extract (R.size % 9) R.size).size + (R.size % 9) = R.size := by rw [← str_len, hR2, List.length_drop]; have := hI34.1; omega
        exact ⟨_, (by rw [hm34]; omega), p + (R.size % 9), R.extract (R.size % 9) R.size, v42, _, _, _, _, _, _, _, _, _, _, _, _, _, _, _, _, _, _, _, _, _, _, _, _, _, _, _, _, _, _, rfl, (Env.s (Env.b (Env.ww (Env.nil _) (E.2.2.2.2.1)) (E.2.2.2.1)) (E.1)), rfl, ⟨by have := hI34.1; omega, hR2, .inr (by omega)⟩⟩
       case neg =>
        have hi9 : i < (R.size % 9) := by omega
        obtain ⟨b, hb, hb2⟩ := str_get (s := R) (i := i) (by omega)
        have hb3 : l[p + i]? = some b := by rw [hI34.2.1, List.getElem?_drop] at hb2; exact hb2
        have hbd := hda b (List.mem_of_getElem? hb3)
        have hvl := dgs_lt (l := l) (p := p) (i := i) hda (by omega)
        refine wp_seq ?_
        -- region 16
        refine wp_region_lit ?_
        refine LV (v := .bool true) rfl (run_ltI (c := true) rfl rfl rfl (by rw [decide_eq_true_eq]; omega)) ?_
        simp only [Act.put,q1,q2,q3]
        refine wpList_nil ?_
        change Code.wp _ _ _ _ _
        refine wp_seq ?_
        refine wp_cond_true rfl ?_
        refine wp_skip ?_
        change Code.wp _ _ _ _ _
        refine wp_seq ?_
        refine wp_block ?_
        refine wp_seq ?_
        -- region 17
        refine wp_region_lit ?_
        refine LV (v := .int .i64 ((i : Nat) : Int)) rfl (run_move rfl rfl) ?_
        simp only [Act.put,q1,q2,q3]
        refine LV (v := .int .i64 ((i : Nat) : Int)) rfl (run_assign rfl rfl) ?_
        simp only [Act.put,q1,q2,q3]
        refine wpList_nil ?_
        change Code.wp _ _ _ _ _
        -- region 18
        refine wp_region_lit ?_
        refine LV (v := .int .u64 ((val10 (((dgs l).drop p).take i) : Nat) : Int)) rfl (run_move rfl rfl) ?_
        simp only [Act.put,q1,q2,q3]
        refine LV (v := .int .u64 ((10 * val10 (((dgs l).drop p).take i) : Nat) : Int)) rfl (run_mulI rfl rfl rfl (wrap_u64_nat (by omega) (by omega))) ?_
        simp only [Act.put,q1,q2,q3]
        refine LV (v := .string R) rfl (run_move rfl rfl) ?_
        simp only [Act.put,q1,q2,q3]
        refine LV (v := .int .i64 ((i : Nat) : Int)) rfl (run_move rfl rfl) ?_
        simp only [Act.put,q1,q2,q3]
        refine LV (v := .int .u8 ((b.toNat : Nat) : Int)) rfl (run_ixS (j := i) rfl Tryz.underlying9 rfl rfl rfl hb) ?_
        simp only [Act.put,q1,q2,q3]
        refine LV (v := .int .u8 ((b.toNat - 48 : Nat) : Int)) rfl (run_subI rfl rfl rfl (wrap_u8_nat (by omega) (by omega))) ?_
        simp only [Act.put,q1,q2,q3]
        refine LV (v := .int .u64 ((b.toNat - 48 : Nat) : Int)) rfl (run_convI rfl rfl (by rw [Tryz.underlying5]; rfl) Tryz.underlying66 (wrap_u64_nat (by omega) (by omega))) ?_
        simp only [Act.put,q1,q2,q3]
        have hvs := dgs_snoc (l := l) (p := p) (i := i) hb3
        refine LV (v := .int .u64 ((val10 (((dgs l).drop p).take (i + 1)) : Nat) : Int)) rfl (run_addI rfl rfl rfl (wrap_u64_nat (by omega) (by omega))) ?_
        simp only [Act.put,q1,q2,q3]
        refine LV (v := .int .u64 ((val10 (((dgs l).drop p).take (i + 1)) : Nat) : Int)) rfl (run_assign rfl rfl) ?_
        simp only [Act.put,q1,q2,q3]
        refine wpList_nil ?_
        change Code.wp _ _ _ _ _
        -- region 19
        refine wp_region_lit ?_
        refine LV (v := .int .i64 ((i + 1 : Nat) : Int)) rfl (run_addI rfl rfl rfl (by rw [IntWalk.i64_in _ (by omega)]; omega)) ?_
        simp only [Act.put,q1,q2,q3]
        refine LV (v := .int .i64 ((i + 1 : Nat) : Int)) rfl (run_move rfl rfl) ?_
        simp only [Act.put,q1,q2,q3]
        refine wpList_nil ?_
        exact ⟨_, (by omega), i + 1, _, _, _, _, _, _, _, _, _, _, _, _, rfl, (Env.s (Env.b (Env.ww (Env.nil _) (E.2.2.1)) (E.2.1)) (E.1)), rfl, (by omega)⟩
    case neg =>
     -- region 7
     refine wp_region_lit ?_
     refine LV (v := .string s) rfl (run_move rfl rfl) ?_
     simp only [Act.put,q1,q2,q3]
     refine L1 rfl (Oper.wp_callB fn_integer_decimal rfl (decimal_t s _ (by omega) (by simpa using hok) false) rfl E ?_)
     clear E
     intro w43 d43 E
     replace x1 := x1.below d43
     clear d43
     simp only [Act.put,q1,q2,q3]
     refine LV (v := .bool true) rfl (run_not (b := false) rfl rfl) ?_
     simp only [Act.put,q1,q2,q3]
     refine LV (v := .bool true) rfl (run_move rfl rfl) ?_
     simp only [Act.put,q1,q2,q3]
     refine L0 rfl ?_
     simp only [Act.put,q1,q2,q3]
     refine L0 rfl ?_
     simp only [Act.put,q1,q2,q3]
     refine L0 rfl ?_
     simp only [Act.put,q1,q2,q3]
     refine L0 rfl ?_
     simp only [Act.put,q1,q2,q3]
     refine L0 rfl ?_
     simp only [Act.put,q1,q2,q3]
     refine LV (v := .bool true) rfl (run_pick (b := true) rfl rfl rfl) ?_
     simp only [Act.put,q1,q2,q3]
     refine wpList_nil ?_
     change Code.wp _ _ _ _ _
     refine wp_cond_true rfl ?_
     refine wp_seq ?_
     -- region 8
     refine wp_region_lit ?_
     refine LV (v := .agg #[.bool false, .slice none 0 0]) rfl (run_buildI0 rfl) ?_
     simp only [Act.put,q1,q2,q3]
     replace E := E.i (zero_i _)
     refine L1 rfl (Oper.wp_store AgI rfl rfl rfl x1 rfl rfl (IsI.one (E.1)) ?_)
     intro w44 o44 y44
     replace E := (E.onl (x1.noW now0) ⟨trivial, okW (by omega), trivial⟩ o44).b y44
     clear x1 o44 y44
     simp only [Act.put]
     refine LV (v := .int .i64 3) rfl (run_assign rfl rfl) ?_
     simp only [Act.put,q1,q2,q3]
     refine wpList_nil ?_
     change Code.wp _ _ _ _ _
     refine wp_ret ?_
     have r45 := res_box AgI (E.1) rfl
     exact bodyPost_ret (v := .tuple #[.agg #[.bool false, .slice none 0 0], .int .i64 3]) (by simp [results, Tryz.results69, asAddr, r45]) rfl (RetPa.form (by omega) (parse_pos hneg hok) ⟨_, rfl, E.2.1, E.2.2.1⟩)
end Go.Proofs.YtndpjfhhigpbhaaGreat
