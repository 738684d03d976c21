/- The reference's Text and Parse of integers. (Printed by g_rtext.py.) -/
import Derived.Test.YtndpjfhhigpbhaaGreatRefA
import Derived.Test.YtndpjfhhigpbhaaGreatParse
namespace Go.Proofs.YtndpjfhhigpbhaaGreat
open Go.RowKit W
theorem rshortly_d (v : Value) (m d : Nat) (w : World) (h : Sl w v (digs m)) (hf : (digs m).length ≤ 1000000000) (hd : 0 < d) (hd2 : d < 4294967296) :
    Calls Tryz.prog 90 #[v, .int .u64 d] w (RetDs w (m / d) (m % d)) := by
  have := rshortly_sl v (digs m) d w h hf hd hd2
  rwa [val_digs] at this
/-- The lower digits D of n are written, the number m is left. -/
def TxI (n m : Nat) (D : List Nat) : Prop := m ≤ n ∧ Dg D ∧ ((0 < m ∧ dec n = dec m ++ D) ∨ (m = 0 ∧ dec n = D))
theorem TxI.start {n : Nat} (h : 0 < n) : TxI n n [] := ⟨Nat.le_refl _, (fun _ h => by cases h), .inl ⟨h, by simp⟩⟩
theorem TxI.step {n m : Nat} {D : List Nat} (h : TxI n m D) (hm : 0 < m) : TxI n (m / 10) (m % 10 :: D) := by
  obtain ⟨h1, h2, h3⟩ := h
  rcases h3 with ⟨_, h3⟩ | ⟨h3, _⟩
  · refine ⟨by omega, Dg_cons.2 ⟨by omega, h2⟩, ?_⟩
    by_cases h10 : m < 10
    · exact .inr ⟨by omega, by rw [h3, dec_lt m h10, Nat.mod_eq_of_lt h10]; rfl⟩
    · exact .inl ⟨by omega, by rw [h3, dec_ge m (by omega), List.append_assoc]; rfl⟩
  · omega
theorem TxI.len {n m : Nat} {D : List Nat} (h : TxI n m D) : D.length ≤ (dec n).length := by
  rcases h.2.2 with ⟨_, h⟩ | ⟨_, h⟩ <;> rw [h] <;> simp
theorem dec_fits {z : Int} {F : Nat} (h : Fits z F) (hF : 0 < F) : (dec z.natAbs).length ≤ 10 * F := by
  refine dec_length_le (by omega) ?_
  rw [Nat.pow_mul]
  exact Nat.lt_of_lt_of_le h.lt (Nat.pow_le_pow_left (by decide) _)
theorem bts_len (l : List Nat) : (bts l).length = l.length := by simp [bts]
theorem cat_bts {d : Nat} {D : List Nat} {R : ByteArray} (hd : d < 10) (h : R.data.toList = bts D) : (strOfNums [((48 + d : Nat) : Int)] ++ R).data.toList = bts (d :: D) := by
  have := bts_nums [d] (Dg_cons.2 ⟨hd, fun _ h => by cases h⟩)
  rw [ByteArray.data_append, Array.toList_append, h]
  simp only [List.map_cons, List.map_nil] at this
  rw [this]; rfl
theorem rtxt_neg {x : Int} {R : ByteArray} (h : x < 0) (hR : R.data.toList = bts (dec x.natAbs)) : (⟨#[45]⟩ : ByteArray) ++ R = txtS x := by
  apply ByteArray.ext
  apply Array.ext'
  rw [ByteArray.data_append, Array.toList_append, hR]
  simp [txtS, txt, h]
theorem rtxt_pos {x : Int} {R : ByteArray} (h : ¬ x < 0) (hR : R.data.toList = bts (dec x.natAbs)) : R = txtS x := by
  apply ByteArray.ext
  apply Array.ext'
  rw [hR]
  simp [txtS, txt, h]
theorem txt_0 {x : Int} (h : x = 0) : (⟨#[48]⟩ : ByteArray) = txtS x := by subst h; exact txt_zero.symm
theorem one_cell {w : World} {b T : Nat} {v : Int} (h : Bx w b T [.int .u8 v]) : ∀ i, i < 1 → w.cell? ⟨b, 0 + i, none⟩ = some (.int .u8 ([v].getD i 0)) := by
  intro i hi
  obtain rfl : i = 0 := by omega
  exact h.cell 0
theorem sz_bts {R : ByteArray} {D : List Nat} (h : R.data.toList = bts D) : R.size = D.length := by rw [← str_len, h, bts_len]
set_option maxRecDepth 100000 in
set_option maxHeartbeats 4000000 in
theorem RText_z  (va : Value) (x : Int) (w : World) (hva : IsI w va x) (Fx : Fits x 1000000000) :
    Calls Tryz.prog 65 #[va] w (RetT w x) := by
 have E := Env.start w
 obtain ⟨nva, sva, rfl, _, _⟩ := hva.sh
 replace E := E.i hva
 clear hva
 go_enter Tryz.func65, Tryz.ntmps65
 refine wp_seq ?_
 -- region 0
 refine RL ?_
 refine EF rfl (Oper.wp_box rfl rfl ?_)
 intro b1 w1 e1 z1 d1 x1
 have l1 : w.heap.size ≤ b1 := by rw [e1]; exact (E.2.1).size
 replace E := E.below d1
 clear e1 z1 d1
 replace E := E.b x1
 clear x1
 refine kw rfl ?_
 refine AC rfl rfl rfl rfl <| ?_
 simp only [q2,q3]
 refine WN ?_
 change Code.wp _ _ _ _ _
 refine wp_seq ?_
 refine wp_seq ?_
 by_cases hx0 : x = 0
 case pos =>
  -- region 1
  refine RL ?_
  refine V rfl rfl (run_fieldI1 rfl rfl) <| V rfl rfl (run_cell rfl isAgg_words rfl (E.1) rfl) <| ?_
  obtain ⟨ao3, cap3, hs3⟩ := IsI.slice (E.2.1)
  refine V (v := .int .i64 (((digs x.natAbs).length : Nat) : Int)) rfl rfl (run_len rfl hs3) <| V rfl rfl (run_eqI (c := true) rfl rfl rfl (len_eq0 hx0)) <| ?_
  simp only [q2,q3]
  refine WN ?_
  change Code.wp _ _ _ _ _
  refine wp_cond_true rfl ?_
  refine wp_seq ?_
  -- region 2
  refine RL ?_
  refine AC rfl rfl rfl rfl <| ?_
  simp only [q2,q3]
  refine WN ?_
  change Code.wp _ _ _ _ _
  refine wp_ret ?_
  exact bodyPost_ret (v := .string ⟨#[48]⟩) (by simp [results, Tryz.results65, asAddr]) rfl ⟨congrArg (fun s => Ending.returned (.string s)) (txt_0 hx0), E.2.2.1⟩
 case neg =>
  -- region 1
  refine RL ?_
  refine V rfl rfl (run_fieldI1 rfl rfl) <| V rfl rfl (run_cell rfl isAgg_words rfl (E.1) rfl) <| ?_
  obtain ⟨ao5, cap5, hs5⟩ := IsI.slice (E.2.1)
  refine V (v := .int .i64 (((digs x.natAbs).length : Nat) : Int)) rfl rfl (run_len rfl hs5) <| V rfl rfl (run_eqI (c := false) rfl rfl rfl (len_ne0 hx0)) <| ?_
  simp only [q2,q3]
  refine WN ?_
  change Code.wp _ _ _ _ _
  refine wp_cond_false rfl ?_
  refine wp_skip ?_
  change Code.wp _ _ _ _ _
  refine wp_seq ?_
  -- region 3
  refine RL ?_
  refine AC rfl rfl rfl rfl <| ?_
  simp only [q2,q3]
  refine WN ?_
  change Code.wp _ _ _ _ _
  refine wp_seq ?_
  -- region 4
  refine RL ?_
  refine V rfl rfl (run_fieldI1 rfl rfl) <| V rfl rfl (run_cell rfl isAgg_words rfl (E.1) rfl) <| A rfl rfl rfl rfl rfl <| ?_
  simp only [q2,q3]
  refine WN ?_
  change Code.wp _ _ _ _ _
  refine wp_seq ?_
  refine wp_block ?_
  replace E := E.s (IsI.sl (E.2.1))
  refine wp_loop_ghost (fun mz a w' => ∃ (m : Nat) (D : List Nat) (R : ByteArray) (vl : Value) (g5 g6 g13 g14 g15 g16 g17 g18 g19 g20 g21 g22 g23 g24 g25 g26 g27 g28 : Value), a = ⟨#[.agg #[.bool nva, sva], .pointer (some ⟨b1, 0, none⟩), .string ⟨#[]⟩, .string R, vl, g5, g6, .pointer (some ⟨b1, 1, none⟩), sva, .int .i64 (((digs x.natAbs).length : Nat) : Int), .bool false, .pointer (some ⟨b1, 1, none⟩), sva, g13, g14, g15, g16, g17, g18, g19, g20, g21, g22, g23, g24, g25, g26, g27, g28, undef, undef, undef, undef, undef], []⟩ ∧ Env w' [fS vl (digs m), fB b1 nva sva, fI (.agg #[.bool nva, sva]) x, fW w] ∧ mz = m ∧ TxI x.natAbs m D ∧ R.data.toList = bts D) (x.natAbs) ⟨x.natAbs, [], ⟨#[]⟩, sva, _, _, _, _, _, _, _, _, _, _, _, _, _, _, _, _, _, _, rfl, (Env.s (Env.b (Env.i (Env.ww (Env.nil _) (e3 E)) (E.2.2.1)) (E.2.1)) (E.1)), rfl, ⟨TxI.start (natp hx0), rfl⟩⟩ ?_
  rintro m6 _ w6 ⟨m, D, R, vl, g5, g6, g13, g14, g15, g16, g17, g18, g19, g20, g21, g22, g23, g24, g25, g26, g27, g28, rfl, E, hm6, hI6⟩
  obtain ⟨hI1, hI2⟩ := hI6
  by_cases hm : 0 < m
  case pos =>
   have hst := hI1.step hm
   have hml : (digs m).length ≤ 1000000000 := Nat.le_trans (digs_length_mono hI1.1) Fx
   have hsz : R.size ≤ 10000000000 := by rw [sz_bts hI2]; exact Nat.le_trans hI1.len (dec_fits Fx (by decide))
   have hm10 : m % 10 < 10 := Nat.mod_lt _ (by decide)
   refine wp_seq ?_
   refine wp_seq ?_
   -- region 5
   refine RL ?_
   refine M rfl rfl rfl rfl rfl <| ?_
   obtain ⟨ao7, cap7, hs7⟩ := Sl.shp (E.1)
   refine V (v := .int .i64 (((digs m).length : Nat) : Int)) rfl rfl (run_len rfl hs7) <| V rfl rfl (run_gtI (c := true) rfl rfl rfl (lenp hm)) <| ?_
   simp only [q2,q3]
   refine WN ?_
   change Code.wp _ _ _ _ _
   refine wp_cond_true rfl ?_
   refine wp_skip ?_
   change Code.wp _ _ _ _ _
   refine wp_block ?_
   refine wp_seq ?_
   -- region 6
   refine RL ?_
   refine M rfl rfl rfl rfl rfl <| ?_
   simp only [q2,q3]
   refine EF rfl (Oper.wp_callDs fn_eref01_shortly rfl (rshortly_d _ m 10 _ (E.1) hml (by decide) (by decide)) rfl E ?_)
   clear E
   intro w8 v8 d8 E
   clear d8
   refine kw rfl ?_
   refine M rfl rfl rfl rfl rfl <| V rfl rfl (run_extract (vs := [v8, .int .u64 (((m % 10) : Nat) : Int)]) rfl rfl rfl) <| V rfl rfl (run_extract (vs := [v8, .int .u64 (((m % 10) : Nat) : Int)]) rfl rfl rfl) <| A rfl rfl rfl rfl rfl <| ?_
   simp only [q2,q3]
   refine A rfl rfl rfl rfl rfl <| ?_
   simp only [q2,q3]
   refine WN ?_
   change Code.wp _ _ _ _ _
   refine wp_seq ?_
   -- region 7
   refine RL ?_
   refine M rfl rfl rfl rfl rfl <| V (v := .int .u64 ((48 + m % 10 : Nat) : Int)) rfl rfl (run_addI rfl rfl rfl (wrap_u64_nat (by omega) (by omega))) <| V (v := .int .u8 ((48 + m % 10 : Nat) : Int)) rfl rfl (run_convI rfl rfl (by rw [Tryz.underlying66]; rfl) Tryz.underlying5 (wrap_u8_nat (by omega) (by omega))) <| ?_
   simp only [q2,q3]
   refine EF rfl (Oper.wp_oneB rfl rfl E ?_)
   clear E
   intro w9 b9 d9 E
   clear d9
   refine kw rfl ?_
   refine V (v := .string (strOfNums [((48 + m % 10 : Nat) : Int)])) rfl rfl (run_str rfl Tryz.underlying85 Tryz.underlying5 Tryz.underlying9 rfl rfl (one_cell (E.1))) <| M rfl rfl rfl rfl rfl <| V (v := .string (strOfNums [((48 + m % 10 : Nat) : Int)] ++ R)) rfl rfl (run_cat rfl rfl rfl (by rw [strOfNums_size]; show 1 + _ ≤ _; omega)) <| A rfl rfl rfl rfl rfl <| ?_
   simp only [q2,q3]
   refine WN ?_
   change Code.wp _ _ _ _ _
   -- region 8
   refine RL ?_
   refine M rfl rfl rfl rfl rfl <| A rfl rfl rfl rfl rfl <| ?_
   simp only [q2,q3]
   refine WN ?_
   exact ⟨_, (by rw [hm6]; omega), m / 10, (m % 10 :: D), (strOfNums [((48 + m % 10 : Nat) : Int)] ++ R), v8, _, _, _, _, _, _, _, _, _, _, _, _, _, _, _, _, _, _, rfl, (Env.s (Env.b (Env.i (Env.ww (Env.nil _) (e5 E)) (e4 E)) (e3 E)) (E.2.1)), rfl, ⟨hst, cat_bts hm10 hI2⟩⟩
  case neg =>
   have hR : R.data.toList = bts (dec x.natAbs) := by rcases hI1.2.2 with ⟨h, _⟩ | ⟨_, h⟩; exact absurd h hm; rw [h]; exact hI2
   refine wp_seq ?_
   refine wp_seq ?_
   -- region 5
   refine RL ?_
   refine M rfl rfl rfl rfl rfl <| ?_
   obtain ⟨ao10, cap10, hs10⟩ := Sl.shp (E.1)
   refine V (v := .int .i64 (((digs m).length : Nat) : Int)) rfl rfl (run_len rfl hs10) <| V rfl rfl (run_gtI (c := false) rfl rfl rfl (lenz hm)) <| ?_
   simp only [q2,q3]
   refine WN ?_
   change Code.wp _ _ _ _ _
   refine wp_cond_false rfl ?_
   refine wp_exit ?_
   change Code.wp _ _ _ _ _
   refine wp_seq ?_
   refine wp_seq ?_
   by_cases hx : x < 0
   case pos =>
    obtain rfl : nva = true := (IsI.sign (E.2.2.1)).trans (decide_eq_true hx)
    -- region 9
    refine RL ?_
    refine V rfl rfl (run_fieldI0 rfl rfl) <| V rfl rfl (run_cell rfl isAgg_bool rfl (E.2.1) rfl) <| ?_
    simp only [q2,q3]
    refine WN ?_
    change Code.wp _ _ _ _ _
    refine wp_cond_true rfl ?_
    refine wp_seq ?_
    -- region 10
    refine RL ?_
    refine M rfl rfl rfl rfl rfl <| V (v := .string ((⟨#[45]⟩ : ByteArray) ++ R)) rfl rfl (run_cat rfl rfl rfl (by have h1 := sz_bts hR; have h2 := dec_fits Fx (by decide); show 1 + _ ≤ _; omega)) <| A rfl rfl rfl rfl rfl <| ?_
    simp only [q2,q3]
    refine WN ?_
    change Code.wp _ _ _ _ _
    refine wp_ret ?_
    exact bodyPost_ret (v := .string ((⟨#[45]⟩ : ByteArray) ++ R)) (by simp [results, Tryz.results65, asAddr]) rfl ⟨congrArg (fun s => Ending.returned (.string s)) (rtxt_neg hx hR), e3 E⟩
   case neg =>
    obtain rfl : nva = false := (IsI.sign (E.2.2.1)).trans (decide_eq_false hx)
    -- region 9
    refine RL ?_
    refine V rfl rfl (run_fieldI0 rfl rfl) <| V rfl rfl (run_cell rfl isAgg_bool rfl (E.2.1) rfl) <| ?_
    simp only [q2,q3]
    refine WN ?_
    change Code.wp _ _ _ _ _
    refine wp_cond_false rfl ?_
    refine wp_skip ?_
    change Code.wp _ _ _ _ _
    refine wp_seq ?_
    -- region 11
    refine RL ?_
    refine M rfl rfl rfl rfl rfl <| A rfl rfl rfl rfl rfl <| ?_
    simp only [q2,q3]
    refine WN ?_
    change Code.wp _ _ _ _ _
    refine wp_ret ?_
    exact bodyPost_ret (v := .string R) (by simp [results, Tryz.results65, asAddr]) rfl ⟨congrArg (fun s => Ending.returned (.string s)) (rtxt_pos hx hR), e3 E⟩
theorem run_neS {P : Program} {ρ : Operand → Value} {o : Oper} {w : World} {t t' : TypeId} {x y : Operand} {a b : ByteArray} {c : Bool} (ho : o.op = .binOp .neq t x y t') (hx : ρ x = .string a) (hy : ρ y = .string b) (hc : (a.data.toList != b.data.toList) = c) : (execOp ρ o).run P w = .ok (.value (.bool c)) w := by
  unfold execOp; rw [ho]
  subst hc
  simp only [hx, hy, eqGuard_at_string, binOp, Op.stringOp, Sem.run_bind, Sem.run_pure, Result.andThen_ok, ByteArray.toList_eq]
  rfl
end Go.Proofs.YtndpjfhhigpbhaaGreat
