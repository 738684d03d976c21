/- The reference's Text and Parse of integers. (Printed by g_rtext.py.) -/
import Derived.Test.YtndpjfhhigpbhaaRefA
import Derived.Test.YtndpjfhhigpbhaaParse
namespace Go.Proofs.Ytndpjfhhigpbhaa
open Go.RowKit W
theorem rshortly_d (v : Value) (m d : Nat) (w : World) (h : Sl w v (digs m)) (hf : (digs m).length ≤ 1000000000) (hd : 0 < d) (hd2 : d < 4294967296) :
    Calls Try.prog 100 #[v, .int .u64 d] w (RetDs w (m / d) (m % d)) := by
  have := rshortly_sl v (digs m) d w h hf hd hd2
  rwa [val_digs] at this
/-- The lower digits D of n are written, the number m is left. -/
def TxI (n m : Nat) (D : List Nat) : Prop := m ≤ n ∧ Dg D ∧ ((0 < m ∧ dec n = dec m ++ D) ∨ (m = 0 ∧ dec n = D))
theorem TxI.start {n : Nat} (h : 0 < n) : TxI n n [] := ⟨Nat.le_refl _, (fun _ h => by cases h), .inl ⟨h, by simp⟩⟩
theorem TxI.step {n m : Nat} {D : List Nat} (h : TxI n m D) (hm : 0 < m) : TxI n (m / 10) (m % 10 :: D) := by
  obtain ⟨h1, h2, h3⟩ := h
  rcases h3 with ⟨_, h3⟩ | ⟨h3, _⟩
  · refine ⟨by omega, Dg_cons.2 ⟨by omega, h2⟩, ?_⟩
    by_cases h10 : m < 10
    · exact .inr ⟨by omega, by rw [h3, dec_lt m h10, Nat.mod_eq_of_lt h10]; rfl⟩
    · exact .inl ⟨by omega, by rw [h3, dec_ge m (by omega), List.append_assoc]; rfl⟩
  · omega
theorem TxI.len {n m : Nat} {D : List Nat} (h : TxI n m D) : D.length ≤ (dec n).length := by
  rcases h.2.2 with ⟨_, h⟩ | ⟨_, h⟩ <;> rw [h] <;> simp
theorem dec_fits {z : Int} {F : Nat} (h : Fits z F) (hF : 0 < F) : (dec z.natAbs).length ≤ 10 * F := by
  refine dec_length_le (by omega) ?_
  rw [Nat.pow_mul]
  exact Nat.lt_of_lt_of_le h.lt (Nat.pow_le_pow_left (by decide) _)
theorem bts_len (l : List Nat) : (bts l).length = l.length := by simp [bts]
theorem cat_bts {d : Nat} {D : List Nat} {R : ByteArray} (hd : d < 10) (h : R.data.toList = bts D) : (strOfNums [((48 + d : Nat) : Int)] ++ R).data.toList = bts (d :: D) := by
  have := bts_nums [d] (Dg_cons.2 ⟨hd, fun _ h => by cases h⟩)
  rw [ByteArray.data_append, Array.toList_append, h]
  simp only [List.map_cons, List.map_nil] at this
  rw [this]; rfl
theorem rtxt_neg {x : Int} {R : ByteArray} (h : x < 0) (hR : R.data.toList = bts (dec x.natAbs)) : (⟨#[45]⟩ : ByteArray) ++ R = txtS x := by
  apply ByteArray.ext
  apply Array.ext'
  rw [ByteArray.data_append, Array.toList_append, hR]
  simp [txtS, txt, h]
theorem rtxt_pos {x : Int} {R : ByteArray} (h : ¬ x < 0) (hR : R.data.toList = bts (dec x.natAbs)) : R = txtS x := by
  apply ByteArray.ext
  apply Array.ext'
  rw [hR]
  simp [txtS, txt, h]
theorem txt_0 {x : Int} (h : x = 0) : (⟨#[48]⟩ : ByteArray) = txtS x := by subst h; exact txt_zero.symm
theorem one_cell {w : World} {b T : Nat} {v : Int} (h : Bx w b T [.int .u8 v]) : ∀ i, i < 1 → w.cell? ⟨b, 0 + i, none⟩ = some (.int .u8 ([v].getD i 0)) := by
  intro i hi
  obtain rfl : i = 0 := by omega
  exact h.cell 0
theorem sz_bts {R : ByteArray} {D : List Nat} (h : R.data.toList = bts D) : R.size = D.length := by rw [← str_len, h, bts_len]
set_option maxRecDepth 100000 in
set_option maxHeartbeats 4000000 in
theorem RText_z  (va : Value) (x : Int) (w : World) (hva : IsI w va x) (Fx : Fits x 1000000000) :
    Calls Try.prog 82 #[va] w (RetT w x) := by
 have E := Env.start w
 obtain ⟨nva, sva, rfl, _, _⟩ := hva.sh
 replace E := E.i hva
 clear hva
 go_enter Try.func82, Try.ntmps82
 refine wp_seq ?_
 -- region 0
 refine RL ?_
 refine EF rfl (Oper.wp_box rfl rfl ?_)
 intro b1 w1 e1 z1 d1 x1
 have l1 : w.heap.size ≤ b1 := by rw [e1]; exact (E.2.1).size
 replace E := E.below d1
 clear e1 z1 d1
 replace E := E.b x1
 clear x1
 refine kw rfl ?_
 refine AC rfl rfl rfl rfl <| ?_
 simp only [q2,q3]
 refine WN ?_
 change Code.wp _ _ _ _ _
 refine wp_seq ?_
 refine wp_seq ?_
 by_cases hx0 : x = 0
 case pos =>
  -- region 1
  refine RL ?_
  refine V rfl rfl (run_fieldI1 rfl rfl) <| V rfl rfl (run_cell rfl isAgg_words rfl (E.1) rfl) <| ?_
  obtain ⟨ao3, cap3, hs3⟩ := IsI.slice (E.2.1)
  refine V (v := .int .i64 (((digs x.natAbs).length : Nat) : Int)) rfl rfl (run_len rfl hs3) <| V rfl rfl (run_eqI (c := true) rfl rfl rfl (len_eq0 hx0)) <| ?_
  simp only [q2,q3]
  refine WN ?_
  change Code.wp _ _ _ _ _
  refine wp_cond_true rfl ?_
  refine wp_seq ?_
  -- region 2
  refine RL ?_
  refine AC rfl rfl rfl rfl <| ?_
  simp only [q2,q3]
  refine WN ?_
  change Code.wp _ _ _ _ _
  refine wp_ret ?_
  exact bodyPost_ret (v := .string ⟨#[48]⟩) (by simp [results, Try.results82, asAddr]) rfl ⟨congrArg (fun s => Ending.returned (.string s)) (txt_0 hx0), E.2.2.1⟩
 case neg =>
  -- region 1
  refine RL ?_
  refine V rfl rfl (run_fieldI1 rfl rfl) <| V rfl rfl (run_cell rfl isAgg_words rfl (E.1) rfl) <| ?_
  obtain ⟨ao5, cap5, hs5⟩ := IsI.slice (E.2.1)
  refine V (v := .int .i64 (((digs x.natAbs).length : Nat) : Int)) rfl rfl (run_len rfl hs5) <| V rfl rfl (run_eqI (c := false) rfl rfl rfl (len_ne0 hx0)) <| ?_
  simp only [q2,q3]
  refine WN ?_
  change Code.wp _ _ _ _ _
  refine wp_cond_false rfl ?_
  refine wp_skip ?_
  change Code.wp _ _ _ _ _
  refine wp_seq ?_
  -- region 3
  refine RL ?_
  refine AC rfl rfl rfl rfl <| ?_
  simp only [q2,q3]
  refine WN ?_
  change Code.wp _ _ _ _ _
  refine wp_seq ?_
  -- region 4
  refine RL ?_
  refine V rfl rfl (run_fieldI1 rfl rfl) <| V rfl rfl (run_cell rfl isAgg_words rfl (E.1) rfl) <| A rfl rfl rfl rfl rfl <| ?_
  simp only [q2,q3]
  refine WN ?_
  change Code.wp _ _ _ _ _
  refine wp_seq ?_
  refine wp_block ?_
  replace E := E.s (IsI.sl (E.2.1))
  refine wp_loop_ghost (fun mz a w' => ∃ (m : Nat) (D : List Nat) (R : ByteArray) (vl : Value) (g5 g6 g13 g14 g15 g16 g17 g18 g19 g20 g21 g22 g23 g24 g25 g26 g27 g28 : Value), a = ⟨#[.agg #[.bool nva, sva], .pointer (some ⟨b1, 0, none⟩), .string ⟨#[]⟩, .string R, vl, g5, g6, .pointer (some ⟨b1, 1, none⟩), sva, .int .i64 (((digs x.natAbs).length : Nat) : Int), .bool false, .pointer (some ⟨b1, 1, none⟩), sva, g13, g14, g15, g16, g17, g18, g19, g20, g21, g22, g23, g24, g25, g26, g27, g28, undef, undef, undef, undef, undef], []⟩ ∧ Env w' [fS vl (digs m), fB b1 nva sva, fI (.agg #[.bool nva, sva]) x, fW w] ∧ mz = m ∧ TxI x.natAbs m D ∧ R.data.toList = bts D) (x.natAbs) ⟨x.natAbs, [], ⟨#[]⟩, sva, _, _, _, _, _, _, _, _, _, _, _, _, _, _, _, _, _, _, rfl, (Env.s (Env.b (Env.i (Env.ww (Env.nil _) (e3 E)) (E.2.2.1)) (E.2.1)) (E.1)), rfl, ⟨TxI.start (natp hx0), rfl⟩⟩ ?_
  rintro m6 _ w6 ⟨m, D, R, vl, g5, g6, g13, g14, g15, g16, g17, g18, g19, g20, g21, g22, g23, g24, g25, g26, g27, g28, rfl, E, hm6, hI6⟩
  obtain ⟨hI1, hI2⟩ := hI6
  by_cases hm : 0 < m
  case pos =>
   have hst := hI1.step hm
   have hml : (digs m).length ≤ 1000000000 := Nat.le_trans (digs_length_mono hI1.1) Fx
   have hsz : R.size ≤ 10000000000 := by rw [sz_bts hI2]; exact Nat.le_trans hI1.len (dec_fits Fx (by decide))
   have hm10 : m % 10 < 10 := Nat.mod_lt _ (by decide)
   refine wp_seq ?_
   refine wp_seq ?_
   -- region 5
   refine RL ?_
   refine M rfl rfl rfl rfl rfl <| ?_
   obtain ⟨ao7, cap7, hs7⟩ := Sl.shp (E.1)
   refine V (v := .int .i64 (((digs m).length : Nat) : Int)) rfl rfl (run_len rfl hs7) <| V rfl rfl (run_gtI (c := true) rfl rfl rfl (lenp hm)) <| ?_
   simp only [q2,q3]
   refine WN ?_
   change Code.wp _ _ _ _ _
   refine wp_cond_true rfl ?_
   refine wp_skip ?_
   change Code.wp _ _ _ _ _
   refine wp_block ?_
   refine wp_seq ?_
   -- region 6
   refine RL ?_
   refine M rfl rfl rfl rfl rfl <| ?_
   simp only [q2,q3]
   refine EF rfl (Oper.wp_callDs fn_eref01_shortly rfl (rshortly_d _ m 10 _ (E.1) hml (by decide) (by decide)) rfl E ?_)
   clear E
   intro w8 v8 d8 E
   clear d8
   refine kw rfl ?_
   refine M rfl rfl rfl rfl rfl <| V rfl rfl (run_extract (vs := [v8, .int .u64 (((m % 10) : Nat) : Int)]) rfl rfl rfl) <| V rfl rfl (run_extract (vs := [v8, .int .u64 (((m % 10) : Nat) : Int)]) rfl rfl rfl) <| A rfl rfl rfl rfl rfl <| ?_
   simp only [q2,q3]
   refine A rfl rfl rfl rfl rfl <| ?_
   simp only [q2,q3]
   refine WN ?_
   change Code.wp _ _ _ _ _
   refine wp_seq ?_
   -- region 7
   refine RL ?_
   refine M rfl rfl rfl rfl rfl <| V (v := .int .u64 ((48 + m % 10 : Nat) : Int)) rfl rfl (run_addI rfl rfl rfl (wrap_u64_nat (by omega) (by omega))) <| V (v := .int .u8 ((48 + m % 10 : Nat) : Int)) rfl rfl (run_convI rfl rfl (by rw [Try.underlying76]; rfl) Try.underlying5 (wrap_u8_nat (by omega) (by omega))) <| ?_
   simp only [q2,q3]
   refine EF rfl (Oper.wp_oneB rfl rfl E ?_)
   clear E
   intro w9 b9 d9 E
   clear d9
   refine kw rfl ?_
   refine V (v := .string (strOfNums [((48 + m % 10 : Nat) : Int)])) rfl rfl (run_str rfl Try.underlying32 Try.underlying5 Try.underlying9 rfl rfl (one_cell (E.1))) <| M rfl rfl rfl rfl rfl <| V (v := .string (strOfNums [((48 + m % 10 : Nat) : Int)] ++ R)) rfl rfl (run_cat rfl rfl rfl (by rw [strOfNums_size]; show 1 + _ ≤ _; omega)) <| A rfl rfl rfl rfl rfl <| ?_
   simp only [q2,q3]
   refine WN ?_
   change Code.wp _ _ _ _ _
   -- region 8
   refine RL ?_
   refine M rfl rfl rfl rfl rfl <| A rfl rfl rfl rfl rfl <| ?_
   simp only [q2,q3]
   refine WN ?_
   exact ⟨_, (by rw [hm6]; omega), m / 10, (m % 10 :: D), (strOfNums [((48 + m % 10 : Nat) : Int)] ++ R), v8, _, _, _, _, _, _, _, _, _, _, _, _, _, _, _, _, _, _, rfl, (Env.s (Env.b (Env.i (Env.ww (Env.nil _) (e5 E)) (e4 E)) (e3 E)) (E.2.1)), rfl, ⟨hst, cat_bts hm10 hI2⟩⟩
  case neg =>
   have hR : R.data.toList = bts (dec x.natAbs) := by rcases hI1.2.2 with ⟨h, _⟩ | ⟨_, h⟩; exact absurd h hm; rw [h]; exact hI2
   refine wp_seq ?_
   refine wp_seq ?_
   -- region 5
   refine RL ?_
   refine M rfl rfl rfl rfl rfl <| ?_
   obtain ⟨ao10, cap10, hs10⟩ := Sl.shp (E.1)
   refine V (v := .int .i64 (((digs m).length : Nat) : Int)) rfl rfl (run_len rfl hs10) <| V rfl rfl (run_gtI (c := false) rfl rfl rfl (lenz hm)) <| ?_
   simp only [q2,q3]
   refine WN ?_
   change Code.wp _ _ _ _ _
   refine wp_cond_false rfl ?_
   refine wp_exit ?_
   change Code.wp _ _ _ _ _
   refine wp_seq ?_
   refine wp_seq ?_
   by_cases hx : x < 0
   case pos =>
    obtain rfl : nva = true := (IsI.sign (E.2.2.1)).trans (decide_eq_true hx)
    -- region 9
    refine RL ?_
    refine V rfl rfl (run_fieldI0 rfl rfl) <| V rfl rfl (run_cell rfl isAgg_bool rfl (E.2.1) rfl) <| ?_
    simp only [q2,q3]
    refine WN ?_
    change Code.wp _ _ _ _ _
    refine wp_cond_true rfl ?_
    refine wp_seq ?_
    -- region 10
    refine RL ?_
    refine M rfl rfl rfl rfl rfl <| V (v := .string ((⟨#[45]⟩ : ByteArray) ++ R)) rfl rfl (run_cat rfl rfl rfl (by have h1 := sz_bts hR; have h2 := dec_fits Fx (by decide); show 1 + _ ≤ _; omega)) <| A rfl rfl rfl rfl rfl <| ?_
    simp only [q2,q3]
    refine WN ?_
    change Code.wp _ _ _ _ _
    refine wp_ret ?_
    exact bodyPost_ret (v := .string ((⟨#[45]⟩ : ByteArray) ++ R)) (by simp [results, Try.results82, asAddr]) rfl ⟨congrArg (fun s => Ending.returned (.string s)) (rtxt_neg hx hR), e3 E⟩
   case neg =>
    obtain rfl : nva = false := (IsI.sign (E.2.2.1)).trans (decide_eq_false hx)
    -- region 9
    refine RL ?_
    refine V rfl rfl (run_fieldI0 rfl rfl) <| V rfl rfl (run_cell rfl isAgg_bool rfl (E.2.1) rfl) <| ?_
    simp only [q2,q3]
    refine WN ?_
    change Code.wp _ _ _ _ _
    refine wp_cond_false rfl ?_
    refine wp_skip ?_
    change Code.wp _ _ _ _ _
    refine wp_seq ?_
    -- region 11
    refine RL ?_
    refine M rfl rfl rfl rfl rfl <| A rfl rfl rfl rfl rfl <| ?_
    simp only [q2,q3]
    refine WN ?_
    change Code.wp _ _ _ _ _
    refine wp_ret ?_
    exact bodyPost_ret (v := .string R) (by simp [results, Try.results82, asAddr]) rfl ⟨congrArg (fun s => Ending.returned (.string s)) (rtxt_pos hx hR), e3 E⟩
theorem okDec_head0 {l : List UInt8} {b : UInt8} (h0 : l[0]? = some b) (hb : b.toNat = 48) (h1 : ¬ l = [48]) : okDec l = false := by
  by_cases hl : 1 < l.length
  · exact okDec_zero h0 hb hl
  · exfalso
    match l, h0, h1, hl with
    | [], h0, _, _ => simp at h0
    | [c], h0, h1, _ => simp at h0; subst h0; exact h1 (by rw [show c = 48 from UInt8.toNat_inj.1 hb])
    | _ :: _ :: _, _, _, hl => simp at hl
theorem parse_neg00 {l : List UInt8} {b : UInt8} (h : l.head? = some 45) (h0 : l.tail[0]? = some b) (hb : b.toNat = 48) : parseZ l = none := by
  by_cases h1 : l.tail = [48]
  · exact parse_neg0 h h1
  · exact parse_neg h (by rw [okDec_head0 h0 hb h1]; decide)
theorem not48 {l : List UInt8} {b : UInt8} (h0 : l[0]? = some b) (hb : ¬ b.toNat = 48) : ¬ l = [48] := by rintro rfl; simp at h0; subst h0; exact hb rfl
theorem dg_next {l : List UInt8} {i : Nat} {b : UInt8} (hb : l[i]? = some b) : val10 ((dgs l).take (i + 1)) = val10 ((dgs l).take i) * 10 + (b.toNat - 48) := by
  have := dgs_snoc (l := l) (p := 0) (i := i) (by rw [Nat.zero_add]; exact hb)
  rw [List.drop_zero] at this
  omega
theorem rtake_fits {l : List UInt8} {p : Nat} (h : ∀ j b, j < p → l[j]? = some b → 48 ≤ b.toNat ∧ b.toNat ≤ 57) (hp : p ≤ l.length) (hl : l.length ≤ 1000000) : (digs (val10 ((dgs l).take p))).length ≤ 1000000 := by
  have hD : Dg ((dgs l).take p) := by
    intro d hd
    obtain ⟨j, hj⟩ := List.getElem?_of_mem hd
    rw [List.getElem?_take] at hj
    split at hj
    · rename_i hjp
      unfold dgs at hj
      rw [List.getElem?_map] at hj
      cases e : l[j]? with
      | none => rw [e] at hj; simp at hj
      | some b =>
        rw [e] at hj; simp at hj
        have := h j b hjp e
        omega
    · simp at hj
  have h1 := val10_lt hD
  exact Nat.le_trans (digs_length_le (k := ((dgs l).take p).length) (Nat.lt_of_lt_of_le h1 (Nat.pow_le_pow_left (by decide) _))) (by rw [List.length_take, dgs_length]; omega)
theorem digs_le {k : Nat} (h : k < 4294967296) : (digs k).length ≤ 1000000000 := Nat.le_trans (digs_length_le (k := 1) (by omega)) (by decide)
theorem len_mul10 {m : Nat} (h : (digs m).length ≤ 1000000) : (digs (m * 10)).length ≤ 1000000000 := by
  have h1 := val_lt (Wd_digs m); rw [val_digs] at h1
  refine Nat.le_trans (digs_length_le (k := (digs m).length + 1) ?_) (by omega)
  rw [Nat.pow_succ]; omega
theorem run_neS {P : Program} {ρ : Operand → Value} {o : Oper} {w : World} {t t' : TypeId} {x y : Operand} {a b : ByteArray} {c : Bool} (ho : o.op = .binOp .neq t x y t') (hx : ρ x = .string a) (hy : ρ y = .string b) (hc : (a.data.toList != b.data.toList) = c) : (execOp ρ o).run P w = .ok (.value (.bool c)) w := by
  unfold execOp; rw [ho]
  subst hc
  simp only [hx, hy, eqGuard_at_string, binOp, Op.stringOp, Sem.run_bind, Sem.run_pure, Result.andThen_ok, ByteArray.toList_eq]
  rfl
theorem hn45 {l : List UInt8} (h : l.head? = some 45) : (l != (⟨#[48]⟩ : ByteArray).data.toList) = true := by
  rw [bne_iff_ne]; rintro rfl; exact absurd h (by decide)
set_option maxRecDepth 100000 in
set_option maxHeartbeats 4000000 in
theorem RParse_s (s : ByteArray)  (w : World)  (hs9 : s.size ≤ 1000000000) :
    Calls Try.prog 51 #[.string s] w (RetPa w s) := by
 have E := Env.start w
 go_enter Try.func51, Try.ntmps51
 refine wp_seq ?_
 -- region 0
 refine RL ?_
 refine EF rfl (Oper.wp_alloc AgI rfl ?_)
 intro b1 w1 e1 z1 d1 x1
 have l1 : w.heap.size ≤ b1 := by rw [e1]; exact (E.1).size
 replace E := E.below d1
 clear e1 z1 d1
 refine kw rfl ?_
 refine AC rfl rfl rfl rfl <| ?_
 simp only [q2,q3]
 refine WN ?_
 change Code.wp _ _ _ _ _
 refine wp_seq ?_
 refine wp_seq ?_
 by_cases hbig : 4000 < s.size
 case pos =>
  -- region 1
  refine RL ?_
  refine M rfl rfl rfl rfl rfl <| V (v := .int .i64 ((s.size : Nat) : Int)) rfl rfl (run_lenS rfl rfl) <| V rfl rfl (run_gtI (c := true) rfl rfl rfl (by rw [decide_eq_true_eq]; omega)) <| ?_
  simp only [q2,q3]
  refine WN ?_
  change Code.wp _ _ _ _ _
  refine wp_cond_true rfl ?_
  refine wp_seq ?_
  -- region 2
  refine RL ?_
  refine V (v := .agg #[.bool false, .slice none 0 0]) rfl rfl (run_buildI0 rfl) <| ?_
  replace E := E.i (zero_i _)
  simp only [q2,q3]
  refine EF rfl (Oper.wp_store AgI rfl rfl rfl x1 rfl rfl (IsI.one (E.1)) ?_)
  intro w3 o3 y3
  replace E := (E.onl (x1.noW now0) ⟨trivial, okW (by omega), trivial⟩ o3).b y3
  clear x1 o3 y3
  refine kn rfl ?_
  refine AC rfl rfl rfl rfl <| ?_
  simp only [q2,q3]
  refine WN ?_
  change Code.wp _ _ _ _ _
  refine wp_ret ?_
  have r4 := res_box AgI (E.1) rfl
  exact bodyPost_ret (v := .tuple #[.agg #[.bool false, .slice none 0 0], .int .i64 2]) (by simp [results, Try.results51, asAddr, r4]) rfl (RetPa.big (by omega) ⟨_, rfl, E.2.1, E.2.2.1⟩)
 case neg =>
  -- region 1
  refine RL ?_
  refine M rfl rfl rfl rfl rfl <| V (v := .int .i64 ((s.size : Nat) : Int)) rfl rfl (run_lenS rfl rfl) <| V rfl rfl (run_gtI (c := false) rfl rfl rfl (by rw [decide_eq_false_iff_not]; omega)) <| ?_
  simp only [q2,q3]
  refine WN ?_
  change Code.wp _ _ _ _ _
  refine wp_cond_false rfl ?_
  refine wp_skip ?_
  change Code.wp _ _ _ _ _
  refine wp_seq ?_
  -- region 3
  refine RL ?_
  refine M rfl rfl rfl rfl rfl <| A rfl rfl rfl rfl rfl <| ?_
  simp only [q2,q3]
  refine WN ?_
  change Code.wp _ _ _ _ _
  refine wp_seq ?_
  by_cases hs : s.size = 0
  case pos =>
   have hneg : ¬ s.data.toList.head? = some 45 := head_no (.inl (by rw [str_len]; exact hs))
   -- region 4
   refine RL ?_
   refine M rfl rfl rfl rfl rfl <| V (v := .int .i64 ((s.size : Nat) : Int)) rfl rfl (run_lenS rfl rfl) <| V rfl rfl (run_gtI (c := false) rfl rfl rfl (by rw [decide_eq_false_iff_not]; omega)) <| M rfl rfl rfl rfl rfl <| ?_
   simp only [q2,q3]
   refine L0C (by kernel_rfl) rfl <| L0C (by kernel_rfl) rfl <| L0C (by kernel_rfl) rfl <| V (v := .bool false) rfl rfl (run_pick (b := false) rfl rfl rfl) <| ?_
   simp only [q2,q3]
   refine A rfl rfl rfl rfl rfl <| ?_
   simp only [q2,q3]
   refine WN ?_
   change Code.wp _ _ _ _ _
   refine wp_seq ?_
   refine wp_seq ?_
   -- region 5
   refine RL ?_
   refine M rfl rfl rfl rfl rfl <| ?_
   simp only [q2,q3]
   refine WN ?_
   change Code.wp _ _ _ _ _
   refine wp_cond_false rfl ?_
   refine wp_skip ?_
   change Code.wp _ _ _ _ _
   refine wp_seq ?_
   refine wp_seq ?_
   have hdl : s.data.toList = s.data.toList := rfl
   have hdz : s.size ≤ 4000 := by omega
   obtain ⟨l, hl⟩ : ∃ l, l = s.data.toList := ⟨_, rfl⟩
   have hll : l.length = s.size := by rw [hl, str_len]
   by_cases hz : s.size = 0
   case pos =>
    -- region 7
    refine RL ?_
    refine M rfl rfl rfl rfl rfl <| V (v := .int .i64 ((s.size : Nat) : Int)) rfl rfl (run_lenS rfl rfl) <| V rfl rfl (run_eqI (c := true) rfl rfl rfl (by rw [hz]; rfl)) <| M rfl rfl rfl rfl rfl <| ?_
    simp only [q2,q3]
    refine L0C (by kernel_rfl) rfl <| L0C (by kernel_rfl) rfl <| L0C (by kernel_rfl) rfl <| L0C (by kernel_rfl) rfl <| ?_
    simp only [q2,q3]
    refine L0C (by kernel_rfl) rfl <| L0C (by kernel_rfl) rfl <| L0C (by kernel_rfl) rfl <| V (v := .bool true) rfl rfl (run_pick (b := true) rfl rfl rfl) <| ?_
    simp only [q2,q3]
    refine WN ?_
    change Code.wp _ _ _ _ _
    refine wp_cond_true rfl ?_
    refine wp_seq ?_
    -- region 8
    refine RL ?_
    refine V (v := .agg #[.bool false, .slice none 0 0]) rfl rfl (run_buildI0 rfl) <| ?_
    replace E := E.i (zero_i _)
    simp only [q2,q3]
    refine EF rfl (Oper.wp_store AgI rfl rfl rfl x1 rfl rfl (IsI.one (E.1)) ?_)
    intro w8 o8 y8
    replace E := (E.onl (x1.noW now0) ⟨trivial, okW (by omega), trivial⟩ o8).b y8
    clear x1 o8 y8
    refine kn rfl ?_
    refine AC rfl rfl rfl rfl <| ?_
    simp only [q2,q3]
    refine WN ?_
    change Code.wp _ _ _ _ _
    refine wp_ret ?_
    have r9 := res_box AgI (E.1) rfl
    exact bodyPost_ret (v := .tuple #[.agg #[.bool false, .slice none 0 0], .int .i64 3]) (by simp [results, Try.results51, asAddr, r9]) rfl (RetPa.form (by omega) (parse_pos hneg (by rw [← hl, okDec_empty (l := l) (by omega)]; decide)) ⟨_, rfl, E.2.1, E.2.2.1⟩)
   case neg =>
    obtain ⟨c2, hc3, hc4⟩ := str_get (i := 0) (s := s) (by omega)
    rw [← hl] at hc4
    by_cases h48 : c2.toNat = 48
    case pos =>
     by_cases h1 : l = [48]
     case pos =>
      have hok0 : ∀ b, l[0]? = some b → b.toNat = 48 → ¬ 1 < l.length := fun _ _ _ => by rw [h1]; decide
      -- region 7
      refine RL ?_
      refine M rfl rfl rfl rfl rfl <| V (v := .int .i64 ((s.size : Nat) : Int)) rfl rfl (run_lenS rfl rfl) <| V rfl rfl (run_eqI (c := false) rfl rfl rfl (by rw [beq_eq_false_iff_ne]; omega)) <| M rfl rfl rfl rfl rfl <| ?_
      simp only [q2,q3]
      refine M (by kernel_rfl) rfl rfl rfl rfl <| V (v := .int .u8 ((c2.toNat : Nat) : Int)) (by kernel_rfl) rfl (run_ixS (j := 0) rfl Try.underlying9 rfl rfl rfl hc3) <| V (by kernel_rfl) rfl (run_eqI (c := true) rfl rfl rfl (by rw [h48]; rfl)) <| M (by kernel_rfl) rfl rfl rfl rfl <| ?_
      simp only [q2,q3]
      refine M (by kernel_rfl) rfl rfl rfl rfl <| V (by kernel_rfl) rfl (run_neS (c := false) rfl rfl rfl (by rw [← hl, h1]; rfl)) <| V (v := .bool false) (by kernel_rfl) rfl (run_pick (b := true) rfl rfl rfl) <| V (v := .bool false) rfl rfl (run_pick (b := false) rfl rfl rfl) <| ?_
      simp only [q2,q3]
      refine WN ?_
      change Code.wp _ _ _ _ _
      refine wp_cond_false rfl ?_
      refine wp_skip ?_
      change Code.wp _ _ _ _ _
      refine wp_seq ?_
      -- region 9
      refine RL ?_
      refine EF rfl (Oper.wp_nilW rfl E ?_)
      clear E
      intro w11 v11 d11 E
      replace x1 := x1.below d11
      clear d11
      refine kw rfl ?_
      refine A rfl rfl rfl rfl rfl <| ?_
      simp only [q2,q3]
      refine WN ?_
      change Code.wp _ _ _ _ _
      refine wp_seq ?_
      refine wp_seq ?_
      -- region 10
      refine RL ?_
      refine AC rfl rfl rfl rfl <| ?_
      simp only [q2,q3]
      refine WN ?_
      change Code.wp _ _ _ _ _
      refine wp_block ?_
      replace E := E.b x1
      clear x1
      have hs12 := E.2.1
      rw [show (0 : Nat) = val10 ((dgs l).take 0) by rw [List.take_zero, val10_nil]] at hs12
      replace E := E.s hs12
      refine wp_loop_ghost (fun mz a w' => ∃ (i : Nat) (vm : Value) (g3 g8 g39 g40 g41 g42 g43 g44 g45 g46 g47 g48 g49 g50 g51 g52 g53 g54 g55 g56 g57 g58 g59 g60 g61 g62 : Value), a = ⟨#[.string s, undef, .pointer (some ⟨b1, 0, none⟩), g3, .string s, .bool false, vm, .int .i64 ((i : Nat) : Int), g8, .string s, .int .i64 ((s.size : Nat) : Int), .bool false, undef, .string s, .string s, .int .i64 ((s.size : Nat) : Int), .bool false, .bool false, undef, undef, undef, .bool false, .bool false, undef, undef, .string s, .int .i64 ((s.size : Nat) : Int), .bool false, .bool false, .string s, .int .u8 ((c2.toNat : Nat) : Int), .bool true, .bool true, .string s, .bool false, .bool false, .bool false, undef, v11, g39, g40, g41, g42, g43, g44, g45, g46, g47, g48, g49, g50, g51, g52, g53, g54, g55, g56, g57, g58, g59, g60, g61, g62, undef, undef, undef], []⟩ ∧ Env w' [fS vm (digs (val10 ((dgs l).take i))), fB b1 false (.slice none 0 0), fW w] ∧ mz = l.length - i ∧ (i ≤ l.length ∧ ∀ j b, j < i → l[j]? = some b → 48 ≤ b.toNat ∧ b.toNat ≤ 57)) (l.length) ⟨0, v11, _, _, _, _, _, _, _, _, _, _, _, _, _, _, _, _, _, _, _, _, _, _, _, _, _, _, rfl, (Env.s (Env.b (Env.ww (Env.nil _) (e3 E)) (E.2.1)) (E.1)), rfl, ⟨Nat.zero_le _, fun j b h => absurd h (Nat.not_lt_zero j)⟩⟩ ?_
      rintro m13 _ w13 ⟨i, vm, g3, g8, g39, g40, g41, g42, g43, g44, g45, g46, g47, g48, g49, g50, g51, g52, g53, g54, g55, g56, g57, g58, g59, g60, g61, g62, rfl, E, hm13, hI13⟩
      obtain ⟨hI1, hI2⟩ := hI13
      by_cases hi : i < l.length
      case pos =>
       obtain ⟨b, hb, hb2⟩ := str_get (i := i) (s := s) (by omega)
       rw [← hl] at hb2
       by_cases h1 : b.toNat < 48
       case pos =>
        refine wp_seq ?_
        refine wp_seq ?_
        -- region 11
        refine RL ?_
        refine M rfl rfl rfl rfl rfl <| M rfl rfl rfl rfl rfl <| V (v := .int .i64 ((s.size : Nat) : Int)) rfl rfl (run_lenS rfl rfl) <| V rfl rfl (run_ltI (c := true) rfl rfl rfl (by rw [decide_eq_true_eq]; omega)) <| ?_
        simp only [q2,q3]
        refine WN ?_
        change Code.wp _ _ _ _ _
        refine wp_cond_true rfl ?_
        refine wp_skip ?_
        change Code.wp _ _ _ _ _
        refine wp_seq ?_
        refine wp_block ?_
        refine wp_seq ?_
        -- region 13
        refine RL ?_
        refine M rfl rfl rfl rfl rfl <| M rfl rfl rfl rfl rfl <| V (v := .int .u8 ((b.toNat : Nat) : Int)) rfl rfl (run_ixS (j := i) rfl Try.underlying9 rfl rfl rfl hb) <| A rfl rfl rfl rfl rfl <| ?_
        simp only [q2,q3]
        refine WN ?_
        change Code.wp _ _ _ _ _
        refine wp_seq ?_
        refine wp_seq ?_
        -- region 14
        refine RL ?_
        refine M rfl rfl rfl rfl rfl <| V rfl rfl (run_ltI (c := true) rfl rfl rfl (by rw [decide_eq_true_eq]; omega)) <| M rfl rfl rfl rfl rfl <| L0C (by kernel_rfl) rfl <| ?_
        simp only [q2,q3]
        refine L0C (by kernel_rfl) rfl <| V (v := .bool true) rfl rfl (run_pick (b := true) rfl rfl rfl) <| ?_
        simp only [q2,q3]
        refine WN ?_
        change Code.wp _ _ _ _ _
        refine wp_cond_true rfl ?_
        refine wp_seq ?_
        -- region 15
        refine RL ?_
        refine V (v := .agg #[.bool false, .slice none 0 0]) rfl rfl (run_buildI0 rfl) <| ?_
        replace E := E.i (zero_i _)
        have x16 := E.2.2.1
        replace E := ((E.2.2.2).s (E.2.1)).i (E.1)
        simp only [q2,q3]
        refine EF rfl (Oper.wp_store AgI rfl rfl rfl x16 rfl rfl (IsI.one (E.1)) ?_)
        intro w15 o15 y15
        replace E := (E.onl (x16.noW now0) ⟨trivial, trivial, okW (by omega), trivial⟩ o15).b y15
        clear x16 o15 y15
        refine kn rfl ?_
        refine AC rfl rfl rfl rfl <| ?_
        simp only [q2,q3]
        refine WN ?_
        change Code.wp _ _ _ _ _
        refine wp_ret ?_
        have r17 := res_box AgI (E.1) rfl
        exact bodyPost_ret (v := .tuple #[.agg #[.bool false, .slice none 0 0], .int .i64 3]) (by simp [results, Try.results51, asAddr, r17]) rfl (RetPa.form (by omega) (parse_pos hneg (by rw [← hl, okDec_bad hb2 (.inl h1)]; decide)) ⟨_, rfl, E.2.1, e3 E⟩)
       case neg =>
        by_cases h2 : 57 < b.toNat
        case pos =>
         refine wp_seq ?_
         refine wp_seq ?_
         -- region 11
         refine RL ?_
         refine M rfl rfl rfl rfl rfl <| M rfl rfl rfl rfl rfl <| V (v := .int .i64 ((s.size : Nat) : Int)) rfl rfl (run_lenS rfl rfl) <| V rfl rfl (run_ltI (c := true) rfl rfl rfl (by rw [decide_eq_true_eq]; omega)) <| ?_
         simp only [q2,q3]
         refine WN ?_
         change Code.wp _ _ _ _ _
         refine wp_cond_true rfl ?_
         refine wp_skip ?_
         change Code.wp _ _ _ _ _
         refine wp_seq ?_
         refine wp_block ?_
         refine wp_seq ?_
         -- region 13
         refine RL ?_
         refine M rfl rfl rfl rfl rfl <| M rfl rfl rfl rfl rfl <| V (v := .int .u8 ((b.toNat : Nat) : Int)) rfl rfl (run_ixS (j := i) rfl Try.underlying9 rfl rfl rfl hb) <| A rfl rfl rfl rfl rfl <| ?_
         simp only [q2,q3]
         refine WN ?_
         change Code.wp _ _ _ _ _
         refine wp_seq ?_
         refine wp_seq ?_
         -- region 14
         refine RL ?_
         refine M rfl rfl rfl rfl rfl <| V rfl rfl (run_ltI (c := false) rfl rfl rfl (by rw [decide_eq_false_iff_not]; omega)) <| M rfl rfl rfl rfl rfl <| M (by kernel_rfl) rfl rfl rfl rfl <| ?_
         simp only [q2,q3]
         refine V (by kernel_rfl) rfl (run_gtI (c := true) rfl rfl rfl (by rw [decide_eq_true_eq]; omega)) <| V (v := .bool true) rfl rfl (run_pick (b := false) rfl rfl rfl) <| ?_
         simp only [q2,q3]
         refine WN ?_
         change Code.wp _ _ _ _ _
         refine wp_cond_true rfl ?_
         refine wp_seq ?_
         -- region 15
         refine RL ?_
         refine V (v := .agg #[.bool false, .slice none 0 0]) rfl rfl (run_buildI0 rfl) <| ?_
         replace E := E.i (zero_i _)
         have x20 := E.2.2.1
         replace E := ((E.2.2.2).s (E.2.1)).i (E.1)
         simp only [q2,q3]
         refine EF rfl (Oper.wp_store AgI rfl rfl rfl x20 rfl rfl (IsI.one (E.1)) ?_)
         intro w19 o19 y19
         replace E := (E.onl (x20.noW now0) ⟨trivial, trivial, okW (by omega), trivial⟩ o19).b y19
         clear x20 o19 y19
         refine kn rfl ?_
         refine AC rfl rfl rfl rfl <| ?_
         simp only [q2,q3]
         refine WN ?_
         change Code.wp _ _ _ _ _
         refine wp_ret ?_
         have r21 := res_box AgI (E.1) rfl
         exact bodyPost_ret (v := .tuple #[.agg #[.bool false, .slice none 0 0], .int .i64 3]) (by simp [results, Try.results51, asAddr, r21]) rfl (RetPa.form (by omega) (parse_pos hneg (by rw [← hl, okDec_bad hb2 (.inr h2)]; decide)) ⟨_, rfl, E.2.1, e3 E⟩)
        case neg =>
         have hfl := rtake_fits hI2 hI1 (by omega)
         refine wp_seq ?_
         refine wp_seq ?_
         -- region 11
         refine RL ?_
         refine M rfl rfl rfl rfl rfl <| M rfl rfl rfl rfl rfl <| V (v := .int .i64 ((s.size : Nat) : Int)) rfl rfl (run_lenS rfl rfl) <| V rfl rfl (run_ltI (c := true) rfl rfl rfl (by rw [decide_eq_true_eq]; omega)) <| ?_
         simp only [q2,q3]
         refine WN ?_
         change Code.wp _ _ _ _ _
         refine wp_cond_true rfl ?_
         refine wp_skip ?_
         change Code.wp _ _ _ _ _
         refine wp_seq ?_
         refine wp_block ?_
         refine wp_seq ?_
         -- region 13
         refine RL ?_
         refine M rfl rfl rfl rfl rfl <| M rfl rfl rfl rfl rfl <| V (v := .int .u8 ((b.toNat : Nat) : Int)) rfl rfl (run_ixS (j := i) rfl Try.underlying9 rfl rfl rfl hb) <| A rfl rfl rfl rfl rfl <| ?_
         simp only [q2,q3]
         refine WN ?_
         change Code.wp _ _ _ _ _
         refine wp_seq ?_
         refine wp_seq ?_
         -- region 14
         refine RL ?_
         refine M rfl rfl rfl rfl rfl <| V rfl rfl (run_ltI (c := false) rfl rfl rfl (by rw [decide_eq_false_iff_not]; omega)) <| M rfl rfl rfl rfl rfl <| M (by kernel_rfl) rfl rfl rfl rfl <| ?_
         simp only [q2,q3]
         refine V (by kernel_rfl) rfl (run_gtI (c := false) rfl rfl rfl (by rw [decide_eq_false_iff_not]; omega)) <| V (v := .bool false) rfl rfl (run_pick (b := false) rfl rfl rfl) <| ?_
         simp only [q2,q3]
         refine WN ?_
         change Code.wp _ _ _ _ _
         refine wp_cond_false rfl ?_
         refine wp_skip ?_
         change Code.wp _ _ _ _ _
         -- region 16
         refine RL ?_
         refine M rfl rfl rfl rfl rfl <| ?_
         simp only [q2,q3]
         refine EF rfl (Oper.wp_oneW (c := 10) rfl rfl (by decide) (by decide) E ?_)
         clear E
         intro w23 v23 d23 E
         clear d23
         refine kw rfl ?_
         simp only [q2,q3]
         refine EF rfl (Oper.wp_callS fn_eref01_times rfl (rtimes_d _ _ (val10 ((dgs l).take i)) 10 _ (E.2.1) (E.1) (Nat.le_trans hfl (by decide)) (digs_le (by decide))) rfl E ?_)
         clear E
         intro w24 v24 d24 E
         clear d24
         refine kw rfl ?_
         refine M rfl rfl rfl rfl rfl <| V (v := .int .u8 ((b.toNat - 48 : Nat) : Int)) rfl rfl (run_subI rfl rfl rfl (wrap_u8_nat (by omega) (by omega))) <| V (v := .int .u64 ((b.toNat - 48 : Nat) : Int)) rfl rfl (run_convI rfl rfl (by rw [Try.underlying5]; rfl) Try.underlying76 (wrap_u64_nat (by omega) (by omega))) <| ?_
         simp only [q2,q3]
         refine EF rfl (Oper.wp_callS fn_eref01_words rfl (rwords_sl (b.toNat - 48) _ (by omega)) rfl E ?_)
         clear E
         intro w25 v25 d25 E
         clear d25
         refine kw rfl ?_
         simp only [q2,q3]
         refine EF rfl (Oper.wp_callS fn_eref01_added rfl (radded_d _ _ ((val10 ((dgs l).take i)) * 10) (b.toNat - 48) _ (E.2.1) (E.1) (len_mul10 hfl) (digs_le (by omega))) rfl E ?_)
         clear E
         intro w26 v26 d26 E
         clear d26
         refine kw rfl ?_
         refine A rfl rfl rfl rfl rfl <| ?_
         simp only [q2,q3]
         refine WN ?_
         change Code.wp _ _ _ _ _
         -- region 12
         refine RL ?_
         refine M rfl rfl rfl rfl rfl <| V (v := .int .i64 ((i + 1 : Nat) : Int)) rfl rfl (run_addI rfl rfl rfl (by rw [IntWalk.i64_in _ (by omega)]; omega)) <| A rfl rfl rfl rfl rfl <| ?_
         simp only [q2,q3]
         refine WN ?_
         have hs27 := E.1
         rw [← dg_next hb2] at hs27
         replace E := E.s hs27
         exact ⟨_, (by rw [hm13]; omega), i + 1, v26, _, _, _, _, _, _, _, _, _, _, _, _, _, _, _, _, _, _, _, _, _, _, _, _, _, _, rfl, (Env.s (Env.b (Env.ww (Env.nil _) (e7 E)) (e6 E)) (E.1)), rfl, ⟨by omega, fun j b2 hj hb3 => by rcases Nat.lt_or_ge j i with h | h; exact hI2 j b2 h hb3; obtain rfl : j = i := (by omega); rw [hb2] at hb3; cases hb3; omega⟩⟩
      case neg =>
       obtain rfl : i = l.length := by omega
       have hok : okDec l = true := okDec_good (by omega) hok0 hI2
       refine wp_seq ?_
       refine wp_seq ?_
       -- region 11
       refine RL ?_
       refine M rfl rfl rfl rfl rfl <| M rfl rfl rfl rfl rfl <| V (v := .int .i64 ((s.size : Nat) : Int)) rfl rfl (run_lenS rfl rfl) <| V rfl rfl (run_ltI (c := false) rfl rfl rfl (by rw [decide_eq_false_iff_not]; omega)) <| ?_
       simp only [q2,q3]
       refine WN ?_
       change Code.wp _ _ _ _ _
       refine wp_cond_false rfl ?_
       refine wp_exit ?_
       change Code.wp _ _ _ _ _
       refine wp_seq ?_
       -- region 17
       refine RL ?_
       refine M rfl rfl rfl rfl rfl <| M rfl rfl rfl rfl rfl <| ?_
       simp only [q2,q3]
       refine EF rfl (Oper.wp_callI fn_eref01_made rfl (rmade_d false _ (val10 ((dgs l).take l.length)) (val10 (dgs l) : Int) _ (E.1) (by rw [dgs_take]; rfl)) rfl E ?_)
       clear E
       intro w29 n29 s29 d29 E
       clear d29
       refine kw rfl ?_
       have x31 := E.2.2.1
       replace E := ((E.2.2.2).s (E.2.1)).i (E.1)
       simp only [q2,q3]
       refine EF rfl (Oper.wp_store AgI rfl rfl rfl x31 rfl rfl (IsI.one (E.1)) ?_)
       intro w30 o30 y30
       replace E := (E.onl (x31.noW now0) ⟨trivial, trivial, okW (by omega), trivial⟩ o30).b y30
       clear x31 o30 y30
       refine kn rfl ?_
       refine AC rfl rfl rfl rfl <| ?_
       simp only [q2,q3]
       refine WN ?_
       change Code.wp _ _ _ _ _
       refine wp_ret ?_
       have r32 := res_box AgI (E.1) rfl
       exact bodyPost_ret (v := .tuple #[.agg #[.bool n29, s29], .int .i64 0]) (by simp [results, Try.results51, asAddr, r32]) rfl (RetPa.ok (by omega) (parse_posok hneg hl hok) ⟨_, rfl, E.2.1, e3 E⟩)
     case neg =>
      -- region 7
      refine RL ?_
      refine M rfl rfl rfl rfl rfl <| V (v := .int .i64 ((s.size : Nat) : Int)) rfl rfl (run_lenS rfl rfl) <| V rfl rfl (run_eqI (c := false) rfl rfl rfl (by rw [beq_eq_false_iff_ne]; omega)) <| M rfl rfl rfl rfl rfl <| ?_
      simp only [q2,q3]
      refine M (by kernel_rfl) rfl rfl rfl rfl <| V (v := .int .u8 ((c2.toNat : Nat) : Int)) (by kernel_rfl) rfl (run_ixS (j := 0) rfl Try.underlying9 rfl rfl rfl hc3) <| V (by kernel_rfl) rfl (run_eqI (c := true) rfl rfl rfl (by rw [h48]; rfl)) <| M (by kernel_rfl) rfl rfl rfl rfl <| ?_
      simp only [q2,q3]
      refine M (by kernel_rfl) rfl rfl rfl rfl <| V (by kernel_rfl) rfl (run_neS (c := true) rfl rfl rfl (by rw [bne_iff_ne, ← hl]; exact h1)) <| V (v := .bool true) (by kernel_rfl) rfl (run_pick (b := true) rfl rfl rfl) <| V (v := .bool true) rfl rfl (run_pick (b := false) rfl rfl rfl) <| ?_
      simp only [q2,q3]
      refine WN ?_
      change Code.wp _ _ _ _ _
      refine wp_cond_true rfl ?_
      refine wp_seq ?_
      -- region 8
      refine RL ?_
      refine V (v := .agg #[.bool false, .slice none 0 0]) rfl rfl (run_buildI0 rfl) <| ?_
      replace E := E.i (zero_i _)
      simp only [q2,q3]
      refine EF rfl (Oper.wp_store AgI rfl rfl rfl x1 rfl rfl (IsI.one (E.1)) ?_)
      intro w34 o34 y34
      replace E := (E.onl (x1.noW now0) ⟨trivial, okW (by omega), trivial⟩ o34).b y34
      clear x1 o34 y34
      refine kn rfl ?_
      refine AC rfl rfl rfl rfl <| ?_
      simp only [q2,q3]
      refine WN ?_
      change Code.wp _ _ _ _ _
      refine wp_ret ?_
      have r35 := res_box AgI (E.1) rfl
      exact bodyPost_ret (v := .tuple #[.agg #[.bool false, .slice none 0 0], .int .i64 3]) (by simp [results, Try.results51, asAddr, r35]) rfl (RetPa.form (by omega) (parse_pos hneg (by rw [← hl, okDec_head0 hc4 h48 h1]; decide)) ⟨_, rfl, E.2.1, E.2.2.1⟩)
    case neg =>
     have hok0 : ∀ b, l[0]? = some b → b.toNat = 48 → ¬ 1 < l.length := fun b hb h => absurd (by rw [hc4] at hb; cases hb; exact h) h48
     -- region 7
     refine RL ?_
     refine M rfl rfl rfl rfl rfl <| V (v := .int .i64 ((s.size : Nat) : Int)) rfl rfl (run_lenS rfl rfl) <| V rfl rfl (run_eqI (c := false) rfl rfl rfl (by rw [beq_eq_false_iff_ne]; omega)) <| M rfl rfl rfl rfl rfl <| ?_
     simp only [q2,q3]
     refine M (by kernel_rfl) rfl rfl rfl rfl <| V (v := .int .u8 ((c2.toNat : Nat) : Int)) (by kernel_rfl) rfl (run_ixS (j := 0) rfl Try.underlying9 rfl rfl rfl hc3) <| V (by kernel_rfl) rfl (run_eqI (c := false) rfl rfl rfl (by rw [beq_eq_false_iff_ne]; omega)) <| M (by kernel_rfl) rfl rfl rfl rfl <| ?_
     simp only [q2,q3]
     refine L0C (by kernel_rfl) rfl <| L0C (by kernel_rfl) rfl <| V (v := .bool false) (by kernel_rfl) rfl (run_pick (b := false) rfl rfl rfl) <| V (v := .bool false) rfl rfl (run_pick (b := false) rfl rfl rfl) <| ?_
     simp only [q2,q3]
     refine WN ?_
     change Code.wp _ _ _ _ _
     refine wp_cond_false rfl ?_
     refine wp_skip ?_
     change Code.wp _ _ _ _ _
     refine wp_seq ?_
     -- region 9
     refine RL ?_
     refine EF rfl (Oper.wp_nilW rfl E ?_)
     clear E
     intro w37 v37 d37 E
     replace x1 := x1.below d37
     clear d37
     refine kw rfl ?_
     refine A rfl rfl rfl rfl rfl <| ?_
     simp only [q2,q3]
     refine WN ?_
     change Code.wp _ _ _ _ _
     refine wp_seq ?_
     refine wp_seq ?_
     -- region 10
     refine RL ?_
     refine AC rfl rfl rfl rfl <| ?_
     simp only [q2,q3]
     refine WN ?_
     change Code.wp _ _ _ _ _
     refine wp_block ?_
     replace E := E.b x1
     clear x1
     have hs38 := E.2.1
     rw [show (0 : Nat) = val10 ((dgs l).take 0) by rw [List.take_zero, val10_nil]] at hs38
     replace E := E.s hs38
     refine wp_loop_ghost (fun mz a w' => ∃ (i : Nat) (vm : Value) (g3 g8 g39 g40 g41 g42 g43 g44 g45 g46 g47 g48 g49 g50 g51 g52 g53 g54 g55 g56 g57 g58 g59 g60 g61 g62 : Value), a = ⟨#[.string s, undef, .pointer (some ⟨b1, 0, none⟩), g3, .string s, .bool false, vm, .int .i64 ((i : Nat) : Int), g8, .string s, .int .i64 ((s.size : Nat) : Int), .bool false, undef, .string s, .string s, .int .i64 ((s.size : Nat) : Int), .bool false, .bool false, undef, undef, undef, .bool false, .bool false, undef, undef, .string s, .int .i64 ((s.size : Nat) : Int), .bool false, .bool false, .string s, .int .u8 ((c2.toNat : Nat) : Int), .bool false, .bool false, undef, undef, .bool false, .bool false, undef, v37, g39, g40, g41, g42, g43, g44, g45, g46, g47, g48, g49, g50, g51, g52, g53, g54, g55, g56, g57, g58, g59, g60, g61, g62, undef, undef, undef], []⟩ ∧ Env w' [fS vm (digs (val10 ((dgs l).take i))), fB b1 false (.slice none 0 0), fW w] ∧ mz = l.length - i ∧ (i ≤ l.length ∧ ∀ j b, j < i → l[j]? = some b → 48 ≤ b.toNat ∧ b.toNat ≤ 57)) (l.length) ⟨0, v37, _, _, _, _, _, _, _, _, _, _, _, _, _, _, _, _, _, _, _, _, _, _, _, _, _, _, rfl, (Env.s (Env.b (Env.ww (Env.nil _) (e3 E)) (E.2.1)) (E.1)), rfl, ⟨Nat.zero_le _, fun j b h => absurd h (Nat.not_lt_zero j)⟩⟩ ?_
     rintro m39 _ w39 ⟨i, vm, g3, g8, g39, g40, g41, g42, g43, g44, g45, g46, g47, g48, g49, g50, g51, g52, g53, g54, g55, g56, g57, g58, g59, g60, g61, g62, rfl, E, hm39, hI39⟩
     obtain ⟨hI1, hI2⟩ := hI39
     by_cases hi : i < l.length
     case pos =>
      obtain ⟨b, hb, hb2⟩ := str_get (i := i) (s := s) (by omega)
      rw [← hl] at hb2
      by_cases h1 : b.toNat < 48
      case pos =>
       refine wp_seq ?_
       refine wp_seq ?_
       -- region 11
       refine RL ?_
       refine M rfl rfl rfl rfl rfl <| M rfl rfl rfl rfl rfl <| V (v := .int .i64 ((s.size : Nat) : Int)) rfl rfl (run_lenS rfl rfl) <| V rfl rfl (run_ltI (c := true) rfl rfl rfl (by rw [decide_eq_true_eq]; omega)) <| ?_
       simp only [q2,q3]
       refine WN ?_
       change Code.wp _ _ _ _ _
       refine wp_cond_true rfl ?_
       refine wp_skip ?_
       change Code.wp _ _ _ _ _
       refine wp_seq ?_
       refine wp_block ?_
       refine wp_seq ?_
       -- region 13
       refine RL ?_
       refine M rfl rfl rfl rfl rfl <| M rfl rfl rfl rfl rfl <| V (v := .int .u8 ((b.toNat : Nat) : Int)) rfl rfl (run_ixS (j := i) rfl Try.underlying9 rfl rfl rfl hb) <| A rfl rfl rfl rfl rfl <| ?_
       simp only [q2,q3]
       refine WN ?_
       change Code.wp _ _ _ _ _
       refine wp_seq ?_
       refine wp_seq ?_
       -- region 14
       refine RL ?_
       refine M rfl rfl rfl rfl rfl <| V rfl rfl (run_ltI (c := true) rfl rfl rfl (by rw [decide_eq_true_eq]; omega)) <| M rfl rfl rfl rfl rfl <| L0C (by kernel_rfl) rfl <| ?_
       simp only [q2,q3]
       refine L0C (by kernel_rfl) rfl <| V (v := .bool true) rfl rfl (run_pick (b := true) rfl rfl rfl) <| ?_
       simp only [q2,q3]
       refine WN ?_
       change Code.wp _ _ _ _ _
       refine wp_cond_true rfl ?_
       refine wp_seq ?_
       -- region 15
       refine RL ?_
       refine V (v := .agg #[.bool false, .slice none 0 0]) rfl rfl (run_buildI0 rfl) <| ?_
       replace E := E.i (zero_i _)
       have x42 := E.2.2.1
       replace E := ((E.2.2.2).s (E.2.1)).i (E.1)
       simp only [q2,q3]
       refine EF rfl (Oper.wp_store AgI rfl rfl rfl x42 rfl rfl (IsI.one (E.1)) ?_)
       intro w41 o41 y41
       replace E := (E.onl (x42.noW now0) ⟨trivial, trivial, okW (by omega), trivial⟩ o41).b y41
       clear x42 o41 y41
       refine kn rfl ?_
       refine AC rfl rfl rfl rfl <| ?_
       simp only [q2,q3]
       refine WN ?_
       change Code.wp _ _ _ _ _
       refine wp_ret ?_
       have r43 := res_box AgI (E.1) rfl
       exact bodyPost_ret (v := .tuple #[.agg #[.bool false, .slice none 0 0], .int .i64 3]) (by simp [results, Try.results51, asAddr, r43]) rfl (RetPa.form (by omega) (parse_pos hneg (by rw [← hl, okDec_bad hb2 (.inl h1)]; decide)) ⟨_, rfl, E.2.1, e3 E⟩)
      case neg =>
       by_cases h2 : 57 < b.toNat
       case pos =>
        refine wp_seq ?_
        refine wp_seq ?_
        -- region 11
        refine RL ?_
        refine M rfl rfl rfl rfl rfl <| M rfl rfl rfl rfl rfl <| V (v := .int .i64 ((s.size : Nat) : Int)) rfl rfl (run_lenS rfl rfl) <| V rfl rfl (run_ltI (c := true) rfl rfl rfl (by rw [decide_eq_true_eq]; omega)) <| ?_
        simp only [q2,q3]
        refine WN ?_
        change Code.wp _ _ _ _ _
        refine wp_cond_true rfl ?_
        refine wp_skip ?_
        change Code.wp _ _ _ _ _
        refine wp_seq ?_
        refine wp_block ?_
        refine wp_seq ?_
        -- region 13
        refine RL ?_
        refine M rfl rfl rfl rfl rfl <| M rfl rfl rfl rfl rfl <| V (v := .int .u8 ((b.toNat : Nat) : Int)) rfl rfl (run_ixS (j := i) rfl Try.underlying9 rfl rfl rfl hb) <| A rfl rfl rfl rfl rfl <| ?_
        simp only [q2,q3]
        refine WN ?_
        change Code.wp _ _ _ _ _
        refine wp_seq ?_
        refine wp_seq ?_
        -- region 14
        refine RL ?_
        refine M rfl rfl rfl rfl rfl <| V rfl rfl (run_ltI (c := false) rfl rfl rfl (by rw [decide_eq_false_iff_not]; omega)) <| M rfl rfl rfl rfl rfl <| M (by kernel_rfl) rfl rfl rfl rfl <| ?_
        simp only [q2,q3]
        refine V (by kernel_rfl) rfl (run_gtI (c := true) rfl rfl rfl (by rw [decide_eq_true_eq]; omega)) <| V (v := .bool true) rfl rfl (run_pick (b := false) rfl rfl rfl) <| ?_
        simp only [q2,q3]
        refine WN ?_
        change Code.wp _ _ _ _ _
        refine wp_cond_true rfl ?_
        refine wp_seq ?_
        -- region 15
        refine RL ?_
        refine V (v := .agg #[.bool false, .slice none 0 0]) rfl rfl (run_buildI0 rfl) <| ?_
        replace E := E.i (zero_i _)
        have x46 := E.2.2.1
        replace E := ((E.2.2.2).s (E.2.1)).i (E.1)
        simp only [q2,q3]
        refine EF rfl (Oper.wp_store AgI rfl rfl rfl x46 rfl rfl (IsI.one (E.1)) ?_)
        intro w45 o45 y45
        replace E := (E.onl (x46.noW now0) ⟨trivial, trivial, okW (by omega), trivial⟩ o45).b y45
        clear x46 o45 y45
        refine kn rfl ?_
        refine AC rfl rfl rfl rfl <| ?_
        simp only [q2,q3]
        refine WN ?_
        change Code.wp _ _ _ _ _
        refine wp_ret ?_
        have r47 := res_box AgI (E.1) rfl
        exact bodyPost_ret (v := .tuple #[.agg #[.bool false, .slice none 0 0], .int .i64 3]) (by simp [results, Try.results51, asAddr, r47]) rfl (RetPa.form (by omega) (parse_pos hneg (by rw [← hl, okDec_bad hb2 (.inr h2)]; decide)) ⟨_, rfl, E.2.1, e3 E⟩)
       case neg =>
        have hfl := rtake_fits hI2 hI1 (by omega)
        refine wp_seq ?_
        refine wp_seq ?_
        -- region 11
        refine RL ?_
        refine M rfl rfl rfl rfl rfl <| M rfl rfl rfl rfl rfl <| V (v := .int .i64 ((s.size : Nat) : Int)) rfl rfl (run_lenS rfl rfl) <| V rfl rfl (run_ltI (c := true) rfl rfl rfl (by rw [decide_eq_true_eq]; omega)) <| ?_
        simp only [q2,q3]
        refine WN ?_
        change Code.wp _ _ _ _ _
        refine wp_cond_true rfl ?_
        refine wp_skip ?_
        change Code.wp _ _ _ _ _
        refine wp_seq ?_
        refine wp_block ?_
        refine wp_seq ?_
        -- region 13
        refine RL ?_
        refine M rfl rfl rfl rfl rfl <| M rfl rfl rfl rfl rfl <| V (v := .int .u8 ((b.toNat : Nat) : Int)) rfl rfl (run_ixS (j := i) rfl Try.underlying9 rfl rfl rfl hb) <| A rfl rfl rfl rfl rfl <| ?_
        simp only [q2,q3]
        refine WN ?_
        change Code.wp _ _ _ _ _
        refine wp_seq ?_
        refine wp_seq ?_
        -- region 14
        refine RL ?_
        refine M rfl rfl rfl rfl rfl <| V rfl rfl (run_ltI (c := false) rfl rfl rfl (by rw [decide_eq_false_iff_not]; omega)) <| M rfl rfl rfl rfl rfl <| M (by kernel_rfl) rfl rfl rfl rfl <| ?_
        simp only [q2,q3]
        refine V (by kernel_rfl) rfl (run_gtI (c := false) rfl rfl rfl (by rw [decide_eq_false_iff_not]; omega)) <| V (v := .bool false) rfl rfl (run_pick (b := false) rfl rfl rfl) <| ?_
        simp only [q2,q3]
        refine WN ?_
        change Code.wp _ _ _ _ _
        refine wp_cond_false rfl ?_
        refine wp_skip ?_
        change Code.wp _ _ _ _ _
        -- region 16
        refine RL ?_
        refine M rfl rfl rfl rfl rfl <| ?_
        simp only [q2,q3]
        refine EF rfl (Oper.wp_oneW (c := 10) rfl rfl (by decide) (by decide) E ?_)
        clear E
        intro w49 v49 d49 E
        clear d49
        refine kw rfl ?_
        simp only [q2,q3]
        refine EF rfl (Oper.wp_callS fn_eref01_times rfl (rtimes_d _ _ (val10 ((dgs l).take i)) 10 _ (E.2.1) (E.1) (Nat.le_trans hfl (by decide)) (digs_le (by decide))) rfl E ?_)
        clear E
        intro w50 v50 d50 E
        clear d50
        refine kw rfl ?_
        refine M rfl rfl rfl rfl rfl <| V (v := .int .u8 ((b.toNat - 48 : Nat) : Int)) rfl rfl (run_subI rfl rfl rfl (wrap_u8_nat (by omega) (by omega))) <| V (v := .int .u64 ((b.toNat - 48 : Nat) : Int)) rfl rfl (run_convI rfl rfl (by rw [Try.underlying5]; rfl) Try.underlying76 (wrap_u64_nat (by omega) (by omega))) <| ?_
        simp only [q2,q3]
        refine EF rfl (Oper.wp_callS fn_eref01_words rfl (rwords_sl (b.toNat - 48) _ (by omega)) rfl E ?_)
        clear E
        intro w51 v51 d51 E
        clear d51
        refine kw rfl ?_
        simp only [q2,q3]
        refine EF rfl (Oper.wp_callS fn_eref01_added rfl (radded_d _ _ ((val10 ((dgs l).take i)) * 10) (b.toNat - 48) _ (E.2.1) (E.1) (len_mul10 hfl) (digs_le (by omega))) rfl E ?_)
        clear E
        intro w52 v52 d52 E
        clear d52
        refine kw rfl ?_
        refine A rfl rfl rfl rfl rfl <| ?_
        simp only [q2,q3]
        refine WN ?_
        change Code.wp _ _ _ _ _
        -- region 12
        refine RL ?_
        refine M rfl rfl rfl rfl rfl <| V (v := .int .i64 ((i + 1 : Nat) : Int)) rfl rfl (run_addI rfl rfl rfl (by rw [IntWalk.i64_in _ (by omega)]; omega)) <| A rfl rfl rfl rfl rfl <| ?_
        simp only [q2,q3]
        refine WN ?_
        have hs53 := E.1
        rw [← dg_next hb2] at hs53
        replace E := E.s hs53
        exact ⟨_, (by rw [hm39]; omega), i + 1, v52, _, _, _, _, _, _, _, _, _, _, _, _, _, _, _, _, _, _, _, _, _, _, _, _, _, _, rfl, (Env.s (Env.b (Env.ww (Env.nil _) (e7 E)) (e6 E)) (E.1)), rfl, ⟨by omega, fun j b2 hj hb3 => by rcases Nat.lt_or_ge j i with h | h; exact hI2 j b2 h hb3; obtain rfl : j = i := (by omega); rw [hb2] at hb3; cases hb3; omega⟩⟩
     case neg =>
      obtain rfl : i = l.length := by omega
      have hok : okDec l = true := okDec_good (by omega) hok0 hI2
      refine wp_seq ?_
      refine wp_seq ?_
      -- region 11
      refine RL ?_
      refine M rfl rfl rfl rfl rfl <| M rfl rfl rfl rfl rfl <| V (v := .int .i64 ((s.size : Nat) : Int)) rfl rfl (run_lenS rfl rfl) <| V rfl rfl (run_ltI (c := false) rfl rfl rfl (by rw [decide_eq_false_iff_not]; omega)) <| ?_
      simp only [q2,q3]
      refine WN ?_
      change Code.wp _ _ _ _ _
      refine wp_cond_false rfl ?_
      refine wp_exit ?_
      change Code.wp _ _ _ _ _
      refine wp_seq ?_
      -- region 17
      refine RL ?_
      refine M rfl rfl rfl rfl rfl <| M rfl rfl rfl rfl rfl <| ?_
      simp only [q2,q3]
      refine EF rfl (Oper.wp_callI fn_eref01_made rfl (rmade_d false _ (val10 ((dgs l).take l.length)) (val10 (dgs l) : Int) _ (E.1) (by rw [dgs_take]; rfl)) rfl E ?_)
      clear E
      intro w55 n55 s55 d55 E
      clear d55
      refine kw rfl ?_
      have x57 := E.2.2.1
      replace E := ((E.2.2.2).s (E.2.1)).i (E.1)
      simp only [q2,q3]
      refine EF rfl (Oper.wp_store AgI rfl rfl rfl x57 rfl rfl (IsI.one (E.1)) ?_)
      intro w56 o56 y56
      replace E := (E.onl (x57.noW now0) ⟨trivial, trivial, okW (by omega), trivial⟩ o56).b y56
      clear x57 o56 y56
      refine kn rfl ?_
      refine AC rfl rfl rfl rfl <| ?_
      simp only [q2,q3]
      refine WN ?_
      change Code.wp _ _ _ _ _
      refine wp_ret ?_
      have r58 := res_box AgI (E.1) rfl
      exact bodyPost_ret (v := .tuple #[.agg #[.bool n55, s55], .int .i64 0]) (by simp [results, Try.results51, asAddr, r58]) rfl (RetPa.ok (by omega) (parse_posok hneg hl hok) ⟨_, rfl, E.2.1, e3 E⟩)
  case neg =>
   obtain ⟨c, hc, hc2⟩ := str_get (i := 0) (s := s) (by omega)
   by_cases h45 : c.toNat = 45
   case pos =>
    have hneg : s.data.toList.head? = some 45 := head_yes hc2 h45
    -- region 4
    refine RL ?_
    refine M rfl rfl rfl rfl rfl <| V (v := .int .i64 ((s.size : Nat) : Int)) rfl rfl (run_lenS rfl rfl) <| V rfl rfl (run_gtI (c := true) rfl rfl rfl (by rw [decide_eq_true_eq]; omega)) <| M rfl rfl rfl rfl rfl <| ?_
    simp only [q2,q3]
    refine M (by kernel_rfl) rfl rfl rfl rfl <| V (v := .int .u8 ((c.toNat : Nat) : Int)) (by kernel_rfl) rfl (run_ixS (j := 0) rfl Try.underlying9 rfl rfl rfl hc) <| V (by kernel_rfl) rfl (run_eqI (c := true) rfl rfl rfl (by rw [h45]; rfl)) <| V (v := .bool true) rfl rfl (run_pick (b := true) rfl rfl rfl) <| ?_
    simp only [q2,q3]
    refine A rfl rfl rfl rfl rfl <| ?_
    simp only [q2,q3]
    refine WN ?_
    change Code.wp _ _ _ _ _
    refine wp_seq ?_
    refine wp_seq ?_
    -- region 5
    refine RL ?_
    refine M rfl rfl rfl rfl rfl <| ?_
    simp only [q2,q3]
    refine WN ?_
    change Code.wp _ _ _ _ _
    refine wp_cond_true rfl ?_
    -- region 6
    refine RL ?_
    refine M rfl rfl rfl rfl rfl <| V (v := .string (s.extract 1 s.size)) rfl rfl (run_sliceS (j := 1) rfl Try.underlying9 rfl rfl rfl (by omega)) <| A rfl rfl rfl rfl rfl <| ?_
    simp only [q2,q3]
    refine WN ?_
    change Code.wp _ _ _ _ _
    refine wp_seq ?_
    refine wp_seq ?_
    have hdl : (s.extract 1 s.size).data.toList = s.data.toList.tail := by rw [str_drop s 1 (by omega)]; exact List.drop_one
    have hdz : (s.extract 1 s.size).size ≤ 4000 := by rw [← str_len, hdl, List.length_tail, str_len]; omega
    obtain ⟨l, hl⟩ : ∃ l, l = (s.extract 1 s.size).data.toList := ⟨_, rfl⟩
    have hll : l.length = (s.extract 1 s.size).size := by rw [hl, str_len]
    by_cases hz : (s.extract 1 s.size).size = 0
    case pos =>
     -- region 7
     refine RL ?_
     refine M rfl rfl rfl rfl rfl <| V (v := .int .i64 (((s.extract 1 s.size).size : Nat) : Int)) rfl rfl (run_lenS rfl rfl) <| V rfl rfl (run_eqI (c := true) rfl rfl rfl (by rw [hz]; rfl)) <| M rfl rfl rfl rfl rfl <| ?_
     simp only [q2,q3]
     refine L0C (by kernel_rfl) rfl <| L0C (by kernel_rfl) rfl <| L0C (by kernel_rfl) rfl <| L0C (by kernel_rfl) rfl <| ?_
     simp only [q2,q3]
     refine L0C (by kernel_rfl) rfl <| L0C (by kernel_rfl) rfl <| L0C (by kernel_rfl) rfl <| V (v := .bool true) rfl rfl (run_pick (b := true) rfl rfl rfl) <| ?_
     simp only [q2,q3]
     refine WN ?_
     change Code.wp _ _ _ _ _
     refine wp_cond_true rfl ?_
     refine wp_seq ?_
     -- region 8
     refine RL ?_
     refine V (v := .agg #[.bool false, .slice none 0 0]) rfl rfl (run_buildI0 rfl) <| ?_
     replace E := E.i (zero_i _)
     simp only [q2,q3]
     refine EF rfl (Oper.wp_store AgI rfl rfl rfl x1 rfl rfl (IsI.one (E.1)) ?_)
     intro w61 o61 y61
     replace E := (E.onl (x1.noW now0) ⟨trivial, okW (by omega), trivial⟩ o61).b y61
     clear x1 o61 y61
     refine kn rfl ?_
     refine AC rfl rfl rfl rfl <| ?_
     simp only [q2,q3]
     refine WN ?_
     change Code.wp _ _ _ _ _
     refine wp_ret ?_
     have r62 := res_box AgI (E.1) rfl
     exact bodyPost_ret (v := .tuple #[.agg #[.bool false, .slice none 0 0], .int .i64 3]) (by simp [results, Try.results51, asAddr, r62]) rfl (RetPa.form (by omega) (parse_neg hneg (by rw [← hdl, ← hl, okDec_empty (l := l) (by omega)]; decide)) ⟨_, rfl, E.2.1, E.2.2.1⟩)
    case neg =>
     obtain ⟨c2, hc3, hc4⟩ := str_get (i := 0) (s := (s.extract 1 s.size)) (by omega)
     rw [← hl] at hc4
     by_cases h48 : c2.toNat = 48
     case pos =>
      -- region 7
      refine RL ?_
      refine M rfl rfl rfl rfl rfl <| V (v := .int .i64 (((s.extract 1 s.size).size : Nat) : Int)) rfl rfl (run_lenS rfl rfl) <| V rfl rfl (run_eqI (c := false) rfl rfl rfl (by rw [beq_eq_false_iff_ne]; omega)) <| M rfl rfl rfl rfl rfl <| ?_
      simp only [q2,q3]
      refine M (by kernel_rfl) rfl rfl rfl rfl <| V (v := .int .u8 ((c2.toNat : Nat) : Int)) (by kernel_rfl) rfl (run_ixS (j := 0) rfl Try.underlying9 rfl rfl rfl hc3) <| V (by kernel_rfl) rfl (run_eqI (c := true) rfl rfl rfl (by rw [h48]; rfl)) <| M (by kernel_rfl) rfl rfl rfl rfl <| ?_
      simp only [q2,q3]
      refine M (by kernel_rfl) rfl rfl rfl rfl <| V (by kernel_rfl) rfl (run_neS (c := true) rfl rfl rfl (hn45 hneg)) <| V (v := .bool true) (by kernel_rfl) rfl (run_pick (b := true) rfl rfl rfl) <| V (v := .bool true) rfl rfl (run_pick (b := false) rfl rfl rfl) <| ?_
      simp only [q2,q3]
      refine WN ?_
      change Code.wp _ _ _ _ _
      refine wp_cond_true rfl ?_
      refine wp_seq ?_
      -- region 8
      refine RL ?_
      refine V (v := .agg #[.bool false, .slice none 0 0]) rfl rfl (run_buildI0 rfl) <| ?_
      replace E := E.i (zero_i _)
      simp only [q2,q3]
      refine EF rfl (Oper.wp_store AgI rfl rfl rfl x1 rfl rfl (IsI.one (E.1)) ?_)
      intro w64 o64 y64
      replace E := (E.onl (x1.noW now0) ⟨trivial, okW (by omega), trivial⟩ o64).b y64
      clear x1 o64 y64
      refine kn rfl ?_
      refine AC rfl rfl rfl rfl <| ?_
      simp only [q2,q3]
      refine WN ?_
      change Code.wp _ _ _ _ _
      refine wp_ret ?_
      have r65 := res_box AgI (E.1) rfl
      exact bodyPost_ret (v := .tuple #[.agg #[.bool false, .slice none 0 0], .int .i64 3]) (by simp [results, Try.results51, asAddr, r65]) rfl (RetPa.form (by omega) (parse_neg00 hneg (by rw [← hdl, ← hl]; exact hc4) h48) ⟨_, rfl, E.2.1, E.2.2.1⟩)
     case neg =>
      have hok0 : ∀ b, l[0]? = some b → b.toNat = 48 → ¬ 1 < l.length := fun b hb h => absurd (by rw [hc4] at hb; cases hb; exact h) h48
      -- region 7
      refine RL ?_
      refine M rfl rfl rfl rfl rfl <| V (v := .int .i64 (((s.extract 1 s.size).size : Nat) : Int)) rfl rfl (run_lenS rfl rfl) <| V rfl rfl (run_eqI (c := false) rfl rfl rfl (by rw [beq_eq_false_iff_ne]; omega)) <| M rfl rfl rfl rfl rfl <| ?_
      simp only [q2,q3]
      refine M (by kernel_rfl) rfl rfl rfl rfl <| V (v := .int .u8 ((c2.toNat : Nat) : Int)) (by kernel_rfl) rfl (run_ixS (j := 0) rfl Try.underlying9 rfl rfl rfl hc3) <| V (by kernel_rfl) rfl (run_eqI (c := false) rfl rfl rfl (by rw [beq_eq_false_iff_ne]; omega)) <| M (by kernel_rfl) rfl rfl rfl rfl <| ?_
      simp only [q2,q3]
      refine L0C (by kernel_rfl) rfl <| L0C (by kernel_rfl) rfl <| V (v := .bool false) (by kernel_rfl) rfl (run_pick (b := false) rfl rfl rfl) <| V (v := .bool false) rfl rfl (run_pick (b := false) rfl rfl rfl) <| ?_
      simp only [q2,q3]
      refine WN ?_
      change Code.wp _ _ _ _ _
      refine wp_cond_false rfl ?_
      refine wp_skip ?_
      change Code.wp _ _ _ _ _
      refine wp_seq ?_
      -- region 9
      refine RL ?_
      refine EF rfl (Oper.wp_nilW rfl E ?_)
      clear E
      intro w67 v67 d67 E
      replace x1 := x1.below d67
      clear d67
      refine kw rfl ?_
      refine A rfl rfl rfl rfl rfl <| ?_
      simp only [q2,q3]
      refine WN ?_
      change Code.wp _ _ _ _ _
      refine wp_seq ?_
      refine wp_seq ?_
      -- region 10
      refine RL ?_
      refine AC rfl rfl rfl rfl <| ?_
      simp only [q2,q3]
      refine WN ?_
      change Code.wp _ _ _ _ _
      refine wp_block ?_
      replace E := E.b x1
      clear x1
      have hs68 := E.2.1
      rw [show (0 : Nat) = val10 ((dgs l).take 0) by rw [List.take_zero, val10_nil]] at hs68
      replace E := E.s hs68
      refine wp_loop_ghost (fun mz a w' => ∃ (i : Nat) (vm : Value) (g3 g8 g39 g40 g41 g42 g43 g44 g45 g46 g47 g48 g49 g50 g51 g52 g53 g54 g55 g56 g57 g58 g59 g60 g61 g62 : Value), a = ⟨#[.string s, undef, .pointer (some ⟨b1, 0, none⟩), g3, .string (s.extract 1 s.size), .bool true, vm, .int .i64 ((i : Nat) : Int), g8, .string s, .int .i64 ((s.size : Nat) : Int), .bool false, undef, .string s, .string s, .int .i64 ((s.size : Nat) : Int), .bool true, .bool true, .string s, .int .u8 ((c.toNat : Nat) : Int), .bool true, .bool true, .bool true, .string s, .string (s.extract 1 s.size), .string (s.extract 1 s.size), .int .i64 (((s.extract 1 s.size).size : Nat) : Int), .bool false, .bool false, .string (s.extract 1 s.size), .int .u8 ((c2.toNat : Nat) : Int), .bool false, .bool false, undef, undef, .bool false, .bool false, undef, v67, g39, g40, g41, g42, g43, g44, g45, g46, g47, g48, g49, g50, g51, g52, g53, g54, g55, g56, g57, g58, g59, g60, g61, g62, undef, undef, undef], []⟩ ∧ Env w' [fS vm (digs (val10 ((dgs l).take i))), fB b1 false (.slice none 0 0), fW w] ∧ mz = l.length - i ∧ (i ≤ l.length ∧ ∀ j b, j < i → l[j]? = some b → 48 ≤ b.toNat ∧ b.toNat ≤ 57)) (l.length) ⟨0, v67, _, _, _, _, _, _, _, _, _, _, _, _, _, _, _, _, _, _, _, _, _, _, _, _, _, _, rfl, (Env.s (Env.b (Env.ww (Env.nil _) (e3 E)) (E.2.1)) (E.1)), rfl, ⟨Nat.zero_le _, fun j b h => absurd h (Nat.not_lt_zero j)⟩⟩ ?_
      rintro m69 _ w69 ⟨i, vm, g3, g8, g39, g40, g41, g42, g43, g44, g45, g46, g47, g48, g49, g50, g51, g52, g53, g54, g55, g56, g57, g58, g59, g60, g61, g62, rfl, E, hm69, hI69⟩
      obtain ⟨hI1, hI2⟩ := hI69
      by_cases hi : i < l.length
      case pos =>
       obtain ⟨b, hb, hb2⟩ := str_get (i := i) (s := (s.extract 1 s.size)) (by omega)
       rw [← hl] at hb2
       by_cases h1 : b.toNat < 48
       case pos =>
        refine wp_seq ?_
        refine wp_seq ?_
        -- region 11
        refine RL ?_
        refine M rfl rfl rfl rfl rfl <| M rfl rfl rfl rfl rfl <| V (v := .int .i64 (((s.extract 1 s.size).size : Nat) : Int)) rfl rfl (run_lenS rfl rfl) <| V rfl rfl (run_ltI (c := true) rfl rfl rfl (by rw [decide_eq_true_eq]; omega)) <| ?_
        simp only [q2,q3]
        refine WN ?_
        change Code.wp _ _ _ _ _
        refine wp_cond_true rfl ?_
        refine wp_skip ?_
        change Code.wp _ _ _ _ _
        refine wp_seq ?_
        refine wp_block ?_
        refine wp_seq ?_
        -- region 13
        refine RL ?_
        refine M rfl rfl rfl rfl rfl <| M rfl rfl rfl rfl rfl <| V (v := .int .u8 ((b.toNat : Nat) : Int)) rfl rfl (run_ixS (j := i) rfl Try.underlying9 rfl rfl rfl hb) <| A rfl rfl rfl rfl rfl <| ?_
        simp only [q2,q3]
        refine WN ?_
        change Code.wp _ _ _ _ _
        refine wp_seq ?_
        refine wp_seq ?_
        -- region 14
        refine RL ?_
        refine M rfl rfl rfl rfl rfl <| V rfl rfl (run_ltI (c := true) rfl rfl rfl (by rw [decide_eq_true_eq]; omega)) <| M rfl rfl rfl rfl rfl <| L0C (by kernel_rfl) rfl <| ?_
        simp only [q2,q3]
        refine L0C (by kernel_rfl) rfl <| V (v := .bool true) rfl rfl (run_pick (b := true) rfl rfl rfl) <| ?_
        simp only [q2,q3]
        refine WN ?_
        change Code.wp _ _ _ _ _
        refine wp_cond_true rfl ?_
        refine wp_seq ?_
        -- region 15
        refine RL ?_
        refine V (v := .agg #[.bool false, .slice none 0 0]) rfl rfl (run_buildI0 rfl) <| ?_
        replace E := E.i (zero_i _)
        have x72 := E.2.2.1
        replace E := ((E.2.2.2).s (E.2.1)).i (E.1)
        simp only [q2,q3]
        refine EF rfl (Oper.wp_store AgI rfl rfl rfl x72 rfl rfl (IsI.one (E.1)) ?_)
        intro w71 o71 y71
        replace E := (E.onl (x72.noW now0) ⟨trivial, trivial, okW (by omega), trivial⟩ o71).b y71
        clear x72 o71 y71
        refine kn rfl ?_
        refine AC rfl rfl rfl rfl <| ?_
        simp only [q2,q3]
        refine WN ?_
        change Code.wp _ _ _ _ _
        refine wp_ret ?_
        have r73 := res_box AgI (E.1) rfl
        exact bodyPost_ret (v := .tuple #[.agg #[.bool false, .slice none 0 0], .int .i64 3]) (by simp [results, Try.results51, asAddr, r73]) rfl (RetPa.form (by omega) (parse_neg hneg (by rw [← hdl, ← hl, okDec_bad hb2 (.inl h1)]; decide)) ⟨_, rfl, E.2.1, e3 E⟩)
       case neg =>
        by_cases h2 : 57 < b.toNat
        case pos =>
         refine wp_seq ?_
         refine wp_seq ?_
         -- region 11
         refine RL ?_
         refine M rfl rfl rfl rfl rfl <| M rfl rfl rfl rfl rfl <| V (v := .int .i64 (((s.extract 1 s.size).size : Nat) : Int)) rfl rfl (run_lenS rfl rfl) <| V rfl rfl (run_ltI (c := true) rfl rfl rfl (by rw [decide_eq_true_eq]; omega)) <| ?_
         simp only [q2,q3]
         refine WN ?_
         change Code.wp _ _ _ _ _
         refine wp_cond_true rfl ?_
         refine wp_skip ?_
         change Code.wp _ _ _ _ _
         refine wp_seq ?_
         refine wp_block ?_
         refine wp_seq ?_
         -- region 13
         refine RL ?_
         refine M rfl rfl rfl rfl rfl <| M rfl rfl rfl rfl rfl <| V (v := .int .u8 ((b.toNat : Nat) : Int)) rfl rfl (run_ixS (j := i) rfl Try.underlying9 rfl rfl rfl hb) <| A rfl rfl rfl rfl rfl <| ?_
         simp only [q2,q3]
         refine WN ?_
         change Code.wp _ _ _ _ _
         refine wp_seq ?_
         refine wp_seq ?_
         -- region 14
         refine RL ?_
         refine M rfl rfl rfl rfl rfl <| V rfl rfl (run_ltI (c := false) rfl rfl rfl (by rw [decide_eq_false_iff_not]; omega)) <| M rfl rfl rfl rfl rfl <| M (by kernel_rfl) rfl rfl rfl rfl <| ?_
         simp only [q2,q3]
         refine V (by kernel_rfl) rfl (run_gtI (c := true) rfl rfl rfl (by rw [decide_eq_true_eq]; omega)) <| V (v := .bool true) rfl rfl (run_pick (b := false) rfl rfl rfl) <| ?_
         simp only [q2,q3]
         refine WN ?_
         change Code.wp _ _ _ _ _
         refine wp_cond_true rfl ?_
         refine wp_seq ?_
         -- region 15
         refine RL ?_
         refine V (v := .agg #[.bool false, .slice none 0 0]) rfl rfl (run_buildI0 rfl) <| ?_
         replace E := E.i (zero_i _)
         have x76 := E.2.2.1
         replace E := ((E.2.2.2).s (E.2.1)).i (E.1)
         simp only [q2,q3]
         refine EF rfl (Oper.wp_store AgI rfl rfl rfl x76 rfl rfl (IsI.one (E.1)) ?_)
         intro w75 o75 y75
         replace E := (E.onl (x76.noW now0) ⟨trivial, trivial, okW (by omega), trivial⟩ o75).b y75
         clear x76 o75 y75
         refine kn rfl ?_
         refine AC rfl rfl rfl rfl <| ?_
         simp only [q2,q3]
         refine WN ?_
         change Code.wp _ _ _ _ _
         refine wp_ret ?_
         have r77 := res_box AgI (E.1) rfl
         exact bodyPost_ret (v := .tuple #[.agg #[.bool false, .slice none 0 0], .int .i64 3]) (by simp [results, Try.results51, asAddr, r77]) rfl (RetPa.form (by omega) (parse_neg hneg (by rw [← hdl, ← hl, okDec_bad hb2 (.inr h2)]; decide)) ⟨_, rfl, E.2.1, e3 E⟩)
        case neg =>
         have hfl := rtake_fits hI2 hI1 (by omega)
         refine wp_seq ?_
         refine wp_seq ?_
         -- region 11
         refine RL ?_
         refine M rfl rfl rfl rfl rfl <| M rfl rfl rfl rfl rfl <| V (v := .int .i64 (((s.extract 1 s.size).size : Nat) : Int)) rfl rfl (run_lenS rfl rfl) <| V rfl rfl (run_ltI (c := true) rfl rfl rfl (by rw [decide_eq_true_eq]; omega)) <| ?_
         simp only [q2,q3]
         refine WN ?_
         change Code.wp _ _ _ _ _
         refine wp_cond_true rfl ?_
         refine wp_skip ?_
         change Code.wp _ _ _ _ _
         refine wp_seq ?_
         refine wp_block ?_
         refine wp_seq ?_
         -- region 13
         refine RL ?_
         refine M rfl rfl rfl rfl rfl <| M rfl rfl rfl rfl rfl <| V (v := .int .u8 ((b.toNat : Nat) : Int)) rfl rfl (run_ixS (j := i) rfl Try.underlying9 rfl rfl rfl hb) <| A rfl rfl rfl rfl rfl <| ?_
         simp only [q2,q3]
         refine WN ?_
         change Code.wp _ _ _ _ _
         refine wp_seq ?_
         refine wp_seq ?_
         -- region 14
         refine RL ?_
         refine M rfl rfl rfl rfl rfl <| V rfl rfl (run_ltI (c := false) rfl rfl rfl (by rw [decide_eq_false_iff_not]; omega)) <| M rfl rfl rfl rfl rfl <| M (by kernel_rfl) rfl rfl rfl rfl <| ?_
         simp only [q2,q3]
         refine V (by kernel_rfl) rfl (run_gtI (c := false) rfl rfl rfl (by rw [decide_eq_false_iff_not]; omega)) <| V (v := .bool false) rfl rfl (run_pick (b := false) rfl rfl rfl) <| ?_
         simp only [q2,q3]
         refine WN ?_
         change Code.wp _ _ _ _ _
         refine wp_cond_false rfl ?_
         refine wp_skip ?_
         change Code.wp _ _ _ _ _
         -- region 16
         refine RL ?_
         refine M rfl rfl rfl rfl rfl <| ?_
         simp only [q2,q3]
         refine EF rfl (Oper.wp_oneW (c := 10) rfl rfl (by decide) (by decide) E ?_)
         clear E
         intro w79 v79 d79 E
         clear d79
         refine kw rfl ?_
         simp only [q2,q3]
         refine EF rfl (Oper.wp_callS fn_eref01_times rfl (rtimes_d _ _ (val10 ((dgs l).take i)) 10 _ (E.2.1) (E.1) (Nat.le_trans hfl (by decide)) (digs_le (by decide))) rfl E ?_)
         clear E
         intro w80 v80 d80 E
         clear d80
         refine kw rfl ?_
         refine M rfl rfl rfl rfl rfl <| V (v := .int .u8 ((b.toNat - 48 : Nat) : Int)) rfl rfl (run_subI rfl rfl rfl (wrap_u8_nat (by omega) (by omega))) <| V (v := .int .u64 ((b.toNat - 48 : Nat) : Int)) rfl rfl (run_convI rfl rfl (by rw [Try.underlying5]; rfl) Try.underlying76 (wrap_u64_nat (by omega) (by omega))) <| ?_
         simp only [q2,q3]
         refine EF rfl (Oper.wp_callS fn_eref01_words rfl (rwords_sl (b.toNat - 48) _ (by omega)) rfl E ?_)
         clear E
         intro w81 v81 d81 E
         clear d81
         refine kw rfl ?_
         simp only [q2,q3]
         refine EF rfl (Oper.wp_callS fn_eref01_added rfl (radded_d _ _ ((val10 ((dgs l).take i)) * 10) (b.toNat - 48) _ (E.2.1) (E.1) (len_mul10 hfl) (digs_le (by omega))) rfl E ?_)
         clear E
         intro w82 v82 d82 E
         clear d82
         refine kw rfl ?_
         refine A rfl rfl rfl rfl rfl <| ?_
         simp only [q2,q3]
         refine WN ?_
         change Code.wp _ _ _ _ _
         -- region 12
         refine RL ?_
         refine M rfl rfl rfl rfl rfl <| V (v := .int .i64 ((i + 1 : Nat) : Int)) rfl rfl (run_addI rfl rfl rfl (by rw [IntWalk.i64_in _ (by omega)]; omega)) <| A rfl rfl rfl rfl rfl <| ?_
         simp only [q2,q3]
         refine WN ?_
         have hs83 := E.1
         rw [← dg_next hb2] at hs83
         replace E := E.s hs83
         exact ⟨_, (by rw [hm69]; omega), i + 1, v82, _, _, _, _, _, _, _, _, _, _, _, _, _, _, _, _, _, _, _, _, _, _, _, _, _, _, rfl, (Env.s (Env.b (Env.ww (Env.nil _) (e7 E)) (e6 E)) (E.1)), rfl, ⟨by omega, fun j b2 hj hb3 => by rcases Nat.lt_or_ge j i with h | h; exact hI2 j b2 h hb3; obtain rfl : j = i := (by omega); rw [hb2] at hb3; cases hb3; omega⟩⟩
      case neg =>
       obtain rfl : i = l.length := by omega
       have hok : okDec l = true := okDec_good (by omega) hok0 hI2
       refine wp_seq ?_
       refine wp_seq ?_
       -- region 11
       refine RL ?_
       refine M rfl rfl rfl rfl rfl <| M rfl rfl rfl rfl rfl <| V (v := .int .i64 (((s.extract 1 s.size).size : Nat) : Int)) rfl rfl (run_lenS rfl rfl) <| V rfl rfl (run_ltI (c := false) rfl rfl rfl (by rw [decide_eq_false_iff_not]; omega)) <| ?_
       simp only [q2,q3]
       refine WN ?_
       change Code.wp _ _ _ _ _
       refine wp_cond_false rfl ?_
       refine wp_exit ?_
       change Code.wp _ _ _ _ _
       refine wp_seq ?_
       -- region 17
       refine RL ?_
       refine M rfl rfl rfl rfl rfl <| M rfl rfl rfl rfl rfl <| ?_
       simp only [q2,q3]
       refine EF rfl (Oper.wp_callI fn_eref01_made rfl (rmade_d true _ (val10 ((dgs l).take l.length)) (-(val10 (dgs l) : Int)) _ (E.1) (by rw [dgs_take]; rfl)) rfl E ?_)
       clear E
       intro w85 n85 s85 d85 E
       clear d85
       refine kw rfl ?_
       have x87 := E.2.2.1
       replace E := ((E.2.2.2).s (E.2.1)).i (E.1)
       simp only [q2,q3]
       refine EF rfl (Oper.wp_store AgI rfl rfl rfl x87 rfl rfl (IsI.one (E.1)) ?_)
       intro w86 o86 y86
       replace E := (E.onl (x87.noW now0) ⟨trivial, trivial, okW (by omega), trivial⟩ o86).b y86
       clear x87 o86 y86
       refine kn rfl ?_
       refine AC rfl rfl rfl rfl <| ?_
       simp only [q2,q3]
       refine WN ?_
       change Code.wp _ _ _ _ _
       refine wp_ret ?_
       have r88 := res_box AgI (E.1) rfl
       exact bodyPost_ret (v := .tuple #[.agg #[.bool n85, s85], .int .i64 0]) (by simp [results, Try.results51, asAddr, r88]) rfl (RetPa.ok (by omega) (parse_negok hneg (by rw [← hdl]; exact hl) hok (not48 hc4 h48)) ⟨_, rfl, E.2.1, e3 E⟩)
   case neg =>
    have hneg : ¬ s.data.toList.head? = some 45 := head_no (.inr ⟨c, hc2, h45⟩)
    -- region 4
    refine RL ?_
    refine M rfl rfl rfl rfl rfl <| V (v := .int .i64 ((s.size : Nat) : Int)) rfl rfl (run_lenS rfl rfl) <| V rfl rfl (run_gtI (c := true) rfl rfl rfl (by rw [decide_eq_true_eq]; omega)) <| M rfl rfl rfl rfl rfl <| ?_
    simp only [q2,q3]
    refine M (by kernel_rfl) rfl rfl rfl rfl <| V (v := .int .u8 ((c.toNat : Nat) : Int)) (by kernel_rfl) rfl (run_ixS (j := 0) rfl Try.underlying9 rfl rfl rfl hc) <| V (by kernel_rfl) rfl (run_eqI (c := false) rfl rfl rfl (by rw [beq_eq_false_iff_ne]; omega)) <| V (v := .bool false) rfl rfl (run_pick (b := true) rfl rfl rfl) <| ?_
    simp only [q2,q3]
    refine A rfl rfl rfl rfl rfl <| ?_
    simp only [q2,q3]
    refine WN ?_
    change Code.wp _ _ _ _ _
    refine wp_seq ?_
    refine wp_seq ?_
    -- region 5
    refine RL ?_
    refine M rfl rfl rfl rfl rfl <| ?_
    simp only [q2,q3]
    refine WN ?_
    change Code.wp _ _ _ _ _
    refine wp_cond_false rfl ?_
    refine wp_skip ?_
    change Code.wp _ _ _ _ _
    refine wp_seq ?_
    refine wp_seq ?_
    have hdl : s.data.toList = s.data.toList := rfl
    have hdz : s.size ≤ 4000 := by omega
    obtain ⟨l, hl⟩ : ∃ l, l = s.data.toList := ⟨_, rfl⟩
    have hll : l.length = s.size := by rw [hl, str_len]
    by_cases hz : s.size = 0
    case pos =>
     -- region 7
     refine RL ?_
     refine M rfl rfl rfl rfl rfl <| V (v := .int .i64 ((s.size : Nat) : Int)) rfl rfl (run_lenS rfl rfl) <| V rfl rfl (run_eqI (c := true) rfl rfl rfl (by rw [hz]; rfl)) <| M rfl rfl rfl rfl rfl <| ?_
     simp only [q2,q3]
     refine L0C (by kernel_rfl) rfl <| L0C (by kernel_rfl) rfl <| L0C (by kernel_rfl) rfl <| L0C (by kernel_rfl) rfl <| ?_
     simp only [q2,q3]
     refine L0C (by kernel_rfl) rfl <| L0C (by kernel_rfl) rfl <| L0C (by kernel_rfl) rfl <| V (v := .bool true) rfl rfl (run_pick (b := true) rfl rfl rfl) <| ?_
     simp only [q2,q3]
     refine WN ?_
     change Code.wp _ _ _ _ _
     refine wp_cond_true rfl ?_
     refine wp_seq ?_
     -- region 8
     refine RL ?_
     refine V (v := .agg #[.bool false, .slice none 0 0]) rfl rfl (run_buildI0 rfl) <| ?_
     replace E := E.i (zero_i _)
     simp only [q2,q3]
     refine EF rfl (Oper.wp_store AgI rfl rfl rfl x1 rfl rfl (IsI.one (E.1)) ?_)
     intro w91 o91 y91
     replace E := (E.onl (x1.noW now0) ⟨trivial, okW (by omega), trivial⟩ o91).b y91
     clear x1 o91 y91
     refine kn rfl ?_
     refine AC rfl rfl rfl rfl <| ?_
     simp only [q2,q3]
     refine WN ?_
     change Code.wp _ _ _ _ _
     refine wp_ret ?_
     have r92 := res_box AgI (E.1) rfl
     exact bodyPost_ret (v := .tuple #[.agg #[.bool false, .slice none 0 0], .int .i64 3]) (by simp [results, Try.results51, asAddr, r92]) rfl (RetPa.form (by omega) (parse_pos hneg (by rw [← hl, okDec_empty (l := l) (by omega)]; decide)) ⟨_, rfl, E.2.1, E.2.2.1⟩)
    case neg =>
     obtain ⟨c2, hc3, hc4⟩ := str_get (i := 0) (s := s) (by omega)
     rw [← hl] at hc4
     by_cases h48 : c2.toNat = 48
     case pos =>
      by_cases h1 : l = [48]
      case pos =>
       have hok0 : ∀ b, l[0]? = some b → b.toNat = 48 → ¬ 1 < l.length := fun _ _ _ => by rw [h1]; decide
       -- region 7
       refine RL ?_
       refine M rfl rfl rfl rfl rfl <| V (v := .int .i64 ((s.size : Nat) : Int)) rfl rfl (run_lenS rfl rfl) <| V rfl rfl (run_eqI (c := false) rfl rfl rfl (by rw [beq_eq_false_iff_ne]; omega)) <| M rfl rfl rfl rfl rfl <| ?_
       simp only [q2,q3]
       refine M (by kernel_rfl) rfl rfl rfl rfl <| V (v := .int .u8 ((c2.toNat : Nat) : Int)) (by kernel_rfl) rfl (run_ixS (j := 0) rfl Try.underlying9 rfl rfl rfl hc3) <| V (by kernel_rfl) rfl (run_eqI (c := true) rfl rfl rfl (by rw [h48]; rfl)) <| M (by kernel_rfl) rfl rfl rfl rfl <| ?_
       simp only [q2,q3]
       refine M (by kernel_rfl) rfl rfl rfl rfl <| V (by kernel_rfl) rfl (run_neS (c := false) rfl rfl rfl (by rw [← hl, h1]; rfl)) <| V (v := .bool false) (by kernel_rfl) rfl (run_pick (b := true) rfl rfl rfl) <| V (v := .bool false) rfl rfl (run_pick (b := false) rfl rfl rfl) <| ?_
       simp only [q2,q3]
       refine WN ?_
       change Code.wp _ _ _ _ _
       refine wp_cond_false rfl ?_
       refine wp_skip ?_
       change Code.wp _ _ _ _ _
       refine wp_seq ?_
       -- region 9
       refine RL ?_
       refine EF rfl (Oper.wp_nilW rfl E ?_)
       clear E
       intro w94 v94 d94 E
       replace x1 := x1.below d94
       clear d94
       refine kw rfl ?_
       refine A rfl rfl rfl rfl rfl <| ?_
       simp only [q2,q3]
       refine WN ?_
       change Code.wp _ _ _ _ _
       refine wp_seq ?_
       refine wp_seq ?_
       -- region 10
       refine RL ?_
       refine AC rfl rfl rfl rfl <| ?_
       simp only [q2,q3]
       refine WN ?_
       change Code.wp _ _ _ _ _
       refine wp_block ?_
       replace E := E.b x1
       clear x1
       have hs95 := E.2.1
       rw [show (0 : Nat) = val10 ((dgs l).take 0) by rw [List.take_zero, val10_nil]] at hs95
       replace E := E.s hs95
       refine wp_loop_ghost (fun mz a w' => ∃ (i : Nat) (vm : Value) (g3 g8 g39 g40 g41 g42 g43 g44 g45 g46 g47 g48 g49 g50 g51 g52 g53 g54 g55 g56 g57 g58 g59 g60 g61 g62 : Value), a = ⟨#[.string s, undef, .pointer (some ⟨b1, 0, none⟩), g3, .string s, .bool false, vm, .int .i64 ((i : Nat) : Int), g8, .string s, .int .i64 ((s.size : Nat) : Int), .bool false, undef, .string s, .string s, .int .i64 ((s.size : Nat) : Int), .bool true, .bool true, .string s, .int .u8 ((c.toNat : Nat) : Int), .bool false, .bool false, .bool false, undef, undef, .string s, .int .i64 ((s.size : Nat) : Int), .bool false, .bool false, .string s, .int .u8 ((c2.toNat : Nat) : Int), .bool true, .bool true, .string s, .bool false, .bool false, .bool false, undef, v94, g39, g40, g41, g42, g43, g44, g45, g46, g47, g48, g49, g50, g51, g52, g53, g54, g55, g56, g57, g58, g59, g60, g61, g62, undef, undef, undef], []⟩ ∧ Env w' [fS vm (digs (val10 ((dgs l).take i))), fB b1 false (.slice none 0 0), fW w] ∧ mz = l.length - i ∧ (i ≤ l.length ∧ ∀ j b, j < i → l[j]? = some b → 48 ≤ b.toNat ∧ b.toNat ≤ 57)) (l.length) ⟨0, v94, _, _, _, _, _, _, _, _, _, _, _, _, _, _, _, _, _, _, _, _, _, _, _, _, _, _, rfl, (Env.s (Env.b (Env.ww (Env.nil _) (e3 E)) (E.2.1)) (E.1)), rfl, ⟨Nat.zero_le _, fun j b h => absurd h (Nat.not_lt_zero j)⟩⟩ ?_
       rintro m96 _ w96 ⟨i, vm, g3, g8, g39, g40, g41, g42, g43, g44, g45, g46, g47, g48, g49, g50, g51, g52, g53, g54, g55, g56, g57, g58, g59, g60, g61, g62, rfl, E, hm96, hI96⟩
       obtain ⟨hI1, hI2⟩ := hI96
       by_cases hi : i < l.length
       case pos =>
        obtain ⟨b, hb, hb2⟩ := str_get (i := i) (s := s) (by omega)
        rw [← hl] at hb2
        by_cases h1 : b.toNat < 48
        case pos =>
         refine wp_seq ?_
         refine wp_seq ?_
         -- region 11
         refine RL ?_
         refine M rfl rfl rfl rfl rfl <| M rfl rfl rfl rfl rfl <| V (v := .int .i64 ((s.size : Nat) : Int)) rfl rfl (run_lenS rfl rfl) <| V rfl rfl (run_ltI (c := true) rfl rfl rfl (by rw [decide_eq_true_eq]; omega)) <| ?_
         simp only [q2,q3]
         refine WN ?_
         change Code.wp _ _ _ _ _
         refine wp_cond_true rfl ?_
         refine wp_skip ?_
         change Code.wp _ _ _ _ _
         refine wp_seq ?_
         refine wp_block ?_
         refine wp_seq ?_
         -- region 13
         refine RL ?_
         refine M rfl rfl rfl rfl rfl <| M rfl rfl rfl rfl rfl <| V (v := .int .u8 ((b.toNat : Nat) : Int)) rfl rfl (run_ixS (j := i) rfl Try.underlying9 rfl rfl rfl hb) <| A rfl rfl rfl rfl rfl <| ?_
         simp only [q2,q3]
         refine WN ?_
         change Code.wp _ _ _ _ _
         refine wp_seq ?_
         refine wp_seq ?_
         -- region 14
         refine RL ?_
         refine M rfl rfl rfl rfl rfl <| V rfl rfl (run_ltI (c := true) rfl rfl rfl (by rw [decide_eq_true_eq]; omega)) <| M rfl rfl rfl rfl rfl <| L0C (by kernel_rfl) rfl <| ?_
         simp only [q2,q3]
         refine L0C (by kernel_rfl) rfl <| V (v := .bool true) rfl rfl (run_pick (b := true) rfl rfl rfl) <| ?_
         simp only [q2,q3]
         refine WN ?_
         change Code.wp _ _ _ _ _
         refine wp_cond_true rfl ?_
         refine wp_seq ?_
         -- region 15
         refine RL ?_
         refine V (v := .agg #[.bool false, .slice none 0 0]) rfl rfl (run_buildI0 rfl) <| ?_
         replace E := E.i (zero_i _)
         have x99 := E.2.2.1
         replace E := ((E.2.2.2).s (E.2.1)).i (E.1)
         simp only [q2,q3]
         refine EF rfl (Oper.wp_store AgI rfl rfl rfl x99 rfl rfl (IsI.one (E.1)) ?_)
         intro w98 o98 y98
         replace E := (E.onl (x99.noW now0) ⟨trivial, trivial, okW (by omega), trivial⟩ o98).b y98
         clear x99 o98 y98
         refine kn rfl ?_
         refine AC rfl rfl rfl rfl <| ?_
         simp only [q2,q3]
         refine WN ?_
         change Code.wp _ _ _ _ _
         refine wp_ret ?_
         have r100 := res_box AgI (E.1) rfl
         exact bodyPost_ret (v := .tuple #[.agg #[.bool false, .slice none 0 0], .int .i64 3]) (by simp [results, Try.results51, asAddr, r100]) rfl (RetPa.form (by omega) (parse_pos hneg (by rw [← hl, okDec_bad hb2 (.inl h1)]; decide)) ⟨_, rfl, E.2.1, e3 E⟩)
        case neg =>
         by_cases h2 : 57 < b.toNat
         case pos =>
          refine wp_seq ?_
          refine wp_seq ?_
          -- region 11
          refine RL ?_
          refine M rfl rfl rfl rfl rfl <| M rfl rfl rfl rfl rfl <| V (v := .int .i64 ((s.size : Nat) : Int)) rfl rfl (run_lenS rfl rfl) <| V rfl rfl (run_ltI (c := true) rfl rfl rfl (by rw [decide_eq_true_eq]; omega)) <| ?_
          simp only [q2,q3]
          refine WN ?_
          change Code.wp _ _ _ _ _
          refine wp_cond_true rfl ?_
          refine wp_skip ?_
          change Code.wp _ _ _ _ _
          refine wp_seq ?_
          refine wp_block ?_
          refine wp_seq ?_
          -- region 13
          refine RL ?_
          refine M rfl rfl rfl rfl rfl <| M rfl rfl rfl rfl rfl <| V (v := .int .u8 ((b.toNat : Nat) : Int)) rfl rfl (run_ixS (j := i) rfl Try.underlying9 rfl rfl rfl hb) <| A rfl rfl rfl rfl rfl <| ?_
          simp only [q2,q3]
          refine WN ?_
          change Code.wp _ _ _ _ _
          refine wp_seq ?_
          refine wp_seq ?_
          -- region 14
          refine RL ?_
          refine M rfl rfl rfl rfl rfl <| V rfl rfl (run_ltI (c := false) rfl rfl rfl (by rw [decide_eq_false_iff_not]; omega)) <| M rfl rfl rfl rfl rfl <| M (by kernel_rfl) rfl rfl rfl rfl <| ?_
          simp only [q2,q3]
          refine V (by kernel_rfl) rfl (run_gtI (c := true) rfl rfl rfl (by rw [decide_eq_true_eq]; omega)) <| V (v := .bool true) rfl rfl (run_pick (b := false) rfl rfl rfl) <| ?_
          simp only [q2,q3]
          refine WN ?_
          change Code.wp _ _ _ _ _
          refine wp_cond_true rfl ?_
          refine wp_seq ?_
          -- region 15
          refine RL ?_
          refine V (v := .agg #[.bool false, .slice none 0 0]) rfl rfl (run_buildI0 rfl) <| ?_
          replace E := E.i (zero_i _)
          have x103 := E.2.2.1
          replace E := ((E.2.2.2).s (E.2.1)).i (E.1)
          simp only [q2,q3]
          refine EF rfl (Oper.wp_store AgI rfl rfl rfl x103 rfl rfl (IsI.one (E.1)) ?_)
          intro w102 o102 y102
          replace E := (E.onl (x103.noW now0) ⟨trivial, trivial, okW (by omega), trivial⟩ o102).b y102
          clear x103 o102 y102
          refine kn rfl ?_
          refine AC rfl rfl rfl rfl <| ?_
          simp only [q2,q3]
          refine WN ?_
          change Code.wp _ _ _ _ _
          refine wp_ret ?_
          have r104 := res_box AgI (E.1) rfl
          exact bodyPost_ret (v := .tuple #[.agg #[.bool false, .slice none 0 0], .int .i64 3]) (by simp [results, Try.results51, asAddr, r104]) rfl (RetPa.form (by omega) (parse_pos hneg (by rw [← hl, okDec_bad hb2 (.inr h2)]; decide)) ⟨_, rfl, E.2.1, e3 E⟩)
         case neg =>
          have hfl := rtake_fits hI2 hI1 (by omega)
          refine wp_seq ?_
          refine wp_seq ?_
          -- region 11
          refine RL ?_
          refine M rfl rfl rfl rfl rfl <| M rfl rfl rfl rfl rfl <| V (v := .int .i64 ((s.size : Nat) : Int)) rfl rfl (run_lenS rfl rfl) <| V rfl rfl (run_ltI (c := true) rfl rfl rfl (by rw [decide_eq_true_eq]; omega)) <| ?_
          simp only [q2,q3]
          refine WN ?_
          change Code.wp _ _ _ _ _
          refine wp_cond_true rfl ?_
          refine wp_skip ?_
          change Code.wp _ _ _ _ _
          refine wp_seq ?_
          refine wp_block ?_
          refine wp_seq ?_
          -- region 13
          refine RL ?_
          refine M rfl rfl rfl rfl rfl <| M rfl rfl rfl rfl rfl <| V (v := .int .u8 ((b.toNat : Nat) : Int)) rfl rfl (run_ixS (j := i) rfl Try.underlying9 rfl rfl rfl hb) <| A rfl rfl rfl rfl rfl <| ?_
          simp only [q2,q3]
          refine WN ?_
          change Code.wp _ _ _ _ _
          refine wp_seq ?_
          refine wp_seq ?_
          -- region 14
          refine RL ?_
          refine M rfl rfl rfl rfl rfl <| V rfl rfl (run_ltI (c := false) rfl rfl rfl (by rw [decide_eq_false_iff_not]; omega)) <| M rfl rfl rfl rfl rfl <| M (by kernel_rfl) rfl rfl rfl rfl <| ?_
          simp only [q2,q3]
          refine V (by kernel_rfl) rfl (run_gtI (c := false) rfl rfl rfl (by rw [decide_eq_false_iff_not]; omega)) <| V (v := .bool false) rfl rfl (run_pick (b := false) rfl rfl rfl) <| ?_
          simp only [q2,q3]
          refine WN ?_
          change Code.wp _ _ _ _ _
          refine wp_cond_false rfl ?_
          refine wp_skip ?_
          change Code.wp _ _ _ _ _
          -- region 16
          refine RL ?_
          refine M rfl rfl rfl rfl rfl <| ?_
          simp only [q2,q3]
          refine EF rfl (Oper.wp_oneW (c := 10) rfl rfl (by decide) (by decide) E ?_)
          clear E
          intro w106 v106 d106 E
          clear d106
          refine kw rfl ?_
          simp only [q2,q3]
          refine EF rfl (Oper.wp_callS fn_eref01_times rfl (rtimes_d _ _ (val10 ((dgs l).take i)) 10 _ (E.2.1) (E.1) (Nat.le_trans hfl (by decide)) (digs_le (by decide))) rfl E ?_)
          clear E
          intro w107 v107 d107 E
          clear d107
          refine kw rfl ?_
          refine M rfl rfl rfl rfl rfl <| V (v := .int .u8 ((b.toNat - 48 : Nat) : Int)) rfl rfl (run_subI rfl rfl rfl (wrap_u8_nat (by omega) (by omega))) <| V (v := .int .u64 ((b.toNat - 48 : Nat) : Int)) rfl rfl (run_convI rfl rfl (by rw [Try.underlying5]; rfl) Try.underlying76 (wrap_u64_nat (by omega) (by omega))) <| ?_
          simp only [q2,q3]
          refine EF rfl (Oper.wp_callS fn_eref01_words rfl (rwords_sl (b.toNat - 48) _ (by omega)) rfl E ?_)
          clear E
          intro w108 v108 d108 E
          clear d108
          refine kw rfl ?_
          simp only [q2,q3]
          refine EF rfl (Oper.wp_callS fn_eref01_added rfl (radded_d _ _ ((val10 ((dgs l).take i)) * 10) (b.toNat - 48) _ (E.2.1) (E.1) (len_mul10 hfl) (digs_le (by omega))) rfl E ?_)
          clear E
          intro w109 v109 d109 E
          clear d109
          refine kw rfl ?_
          refine A rfl rfl rfl rfl rfl <| ?_
          simp only [q2,q3]
          refine WN ?_
          change Code.wp _ _ _ _ _
          -- region 12
          refine RL ?_
          refine M rfl rfl rfl rfl rfl <| V (v := .int .i64 ((i + 1 : Nat) : Int)) rfl rfl (run_addI rfl rfl rfl (by rw [IntWalk.i64_in _ (by omega)]; omega)) <| A rfl rfl rfl rfl rfl <| ?_
          simp only [q2,q3]
          refine WN ?_
          have hs110 := E.1
          rw [← dg_next hb2] at hs110
          replace E := E.s hs110
          exact ⟨_, (by rw [hm96]; omega), i + 1, v109, _, _, _, _, _, _, _, _, _, _, _, _, _, _, _, _, _, _, _, _, _, _, _, _, _, _, rfl, (Env.s (Env.b (Env.ww (Env.nil _) (e7 E)) (e6 E)) (E.1)), rfl, ⟨by omega, fun j b2 hj hb3 => by rcases Nat.lt_or_ge j i with h | h; exact hI2 j b2 h hb3; obtain rfl : j = i := (by omega); rw [hb2] at hb3; cases hb3; omega⟩⟩
       case neg =>
        obtain rfl : i = l.length := by omega
        have hok : okDec l = true := okDec_good (by omega) hok0 hI2
        refine wp_seq ?_
        refine wp_seq ?_
        -- region 11
        refine RL ?_
        refine M rfl rfl rfl rfl rfl <| M rfl rfl rfl rfl rfl <| V (v := .int .i64 ((s.size : Nat) : Int)) rfl rfl (run_lenS rfl rfl) <| V rfl rfl (run_ltI (c := false) rfl rfl rfl (by rw [decide_eq_false_iff_not]; omega)) <| ?_
        simp only [q2,q3]
        refine WN ?_
        change Code.wp _ _ _ _ _
        refine wp_cond_false rfl ?_
        refine wp_exit ?_
        change Code.wp _ _ _ _ _
        refine wp_seq ?_
        -- region 17
        refine RL ?_
        refine M rfl rfl rfl rfl rfl <| M rfl rfl rfl rfl rfl <| ?_
        simp only [q2,q3]
        refine EF rfl (Oper.wp_callI fn_eref01_made rfl (rmade_d false _ (val10 ((dgs l).take l.length)) (val10 (dgs l) : Int) _ (E.1) (by rw [dgs_take]; rfl)) rfl E ?_)
        clear E
        intro w112 n112 s112 d112 E
        clear d112
        refine kw rfl ?_
        have x114 := E.2.2.1
        replace E := ((E.2.2.2).s (E.2.1)).i (E.1)
        simp only [q2,q3]
        refine EF rfl (Oper.wp_store AgI rfl rfl rfl x114 rfl rfl (IsI.one (E.1)) ?_)
        intro w113 o113 y113
        replace E := (E.onl (x114.noW now0) ⟨trivial, trivial, okW (by omega), trivial⟩ o113).b y113
        clear x114 o113 y113
        refine kn rfl ?_
        refine AC rfl rfl rfl rfl <| ?_
        simp only [q2,q3]
        refine WN ?_
        change Code.wp _ _ _ _ _
        refine wp_ret ?_
        have r115 := res_box AgI (E.1) rfl
        exact bodyPost_ret (v := .tuple #[.agg #[.bool n112, s112], .int .i64 0]) (by simp [results, Try.results51, asAddr, r115]) rfl (RetPa.ok (by omega) (parse_posok hneg hl hok) ⟨_, rfl, E.2.1, e3 E⟩)
      case neg =>
       -- region 7
       refine RL ?_
       refine M rfl rfl rfl rfl rfl <| V (v := .int .i64 ((s.size : Nat) : Int)) rfl rfl (run_lenS rfl rfl) <| V rfl rfl (run_eqI (c := false) rfl rfl rfl (by rw [beq_eq_false_iff_ne]; omega)) <| M rfl rfl rfl rfl rfl <| ?_
       simp only [q2,q3]
       refine M (by kernel_rfl) rfl rfl rfl rfl <| V (v := .int .u8 ((c2.toNat : Nat) : Int)) (by kernel_rfl) rfl (run_ixS (j := 0) rfl Try.underlying9 rfl rfl rfl hc3) <| V (by kernel_rfl) rfl (run_eqI (c := true) rfl rfl rfl (by rw [h48]; rfl)) <| M (by kernel_rfl) rfl rfl rfl rfl <| ?_
       simp only [q2,q3]
       refine M (by kernel_rfl) rfl rfl rfl rfl <| V (by kernel_rfl) rfl (run_neS (c := true) rfl rfl rfl (by rw [bne_iff_ne, ← hl]; exact h1)) <| V (v := .bool true) (by kernel_rfl) rfl (run_pick (b := true) rfl rfl rfl) <| V (v := .bool true) rfl rfl (run_pick (b := false) rfl rfl rfl) <| ?_
       simp only [q2,q3]
       refine WN ?_
       change Code.wp _ _ _ _ _
       refine wp_cond_true rfl ?_
       refine wp_seq ?_
       -- region 8
       refine RL ?_
       refine V (v := .agg #[.bool false, .slice none 0 0]) rfl rfl (run_buildI0 rfl) <| ?_
       replace E := E.i (zero_i _)
       simp only [q2,q3]
       refine EF rfl (Oper.wp_store AgI rfl rfl rfl x1 rfl rfl (IsI.one (E.1)) ?_)
       intro w117 o117 y117
       replace E := (E.onl (x1.noW now0) ⟨trivial, okW (by omega), trivial⟩ o117).b y117
       clear x1 o117 y117
       refine kn rfl ?_
       refine AC rfl rfl rfl rfl <| ?_
       simp only [q2,q3]
       refine WN ?_
       change Code.wp _ _ _ _ _
       refine wp_ret ?_
       have r118 := res_box AgI (E.1) rfl
       exact bodyPost_ret (v := .tuple #[.agg #[.bool false, .slice none 0 0], .int .i64 3]) (by simp [results, Try.results51, asAddr, r118]) rfl (RetPa.form (by omega) (parse_pos hneg (by rw [← hl, okDec_head0 hc4 h48 h1]; decide)) ⟨_, rfl, E.2.1, E.2.2.1⟩)
     case neg =>
      have hok0 : ∀ b, l[0]? = some b → b.toNat = 48 → ¬ 1 < l.length := fun b hb h => absurd (by rw [hc4] at hb; cases hb; exact h) h48
      -- region 7
      refine RL ?_
      refine M rfl rfl rfl rfl rfl <| V (v := .int .i64 ((s.size : Nat) : Int)) rfl rfl (run_lenS rfl rfl) <| V rfl rfl (run_eqI (c := false) rfl rfl rfl (by rw [beq_eq_false_iff_ne]; omega)) <| M rfl rfl rfl rfl rfl <| ?_
      simp only [q2,q3]
      refine M (by kernel_rfl) rfl rfl rfl rfl <| V (v := .int .u8 ((c2.toNat : Nat) : Int)) (by kernel_rfl) rfl (run_ixS (j := 0) rfl Try.underlying9 rfl rfl rfl hc3) <| V (by kernel_rfl) rfl (run_eqI (c := false) rfl rfl rfl (by rw [beq_eq_false_iff_ne]; omega)) <| M (by kernel_rfl) rfl rfl rfl rfl <| ?_
      simp only [q2,q3]
      refine L0C (by kernel_rfl) rfl <| L0C (by kernel_rfl) rfl <| V (v := .bool false) (by kernel_rfl) rfl (run_pick (b := false) rfl rfl rfl) <| V (v := .bool false) rfl rfl (run_pick (b := false) rfl rfl rfl) <| ?_
      simp only [q2,q3]
      refine WN ?_
      change Code.wp _ _ _ _ _
      refine wp_cond_false rfl ?_
      refine wp_skip ?_
      change Code.wp _ _ _ _ _
      refine wp_seq ?_
      -- region 9
      refine RL ?_
      refine EF rfl (Oper.wp_nilW rfl E ?_)
      clear E
      intro w120 v120 d120 E
      replace x1 := x1.below d120
      clear d120
      refine kw rfl ?_
      refine A rfl rfl rfl rfl rfl <| ?_
      simp only [q2,q3]
      refine WN ?_
      change Code.wp _ _ _ _ _
      refine wp_seq ?_
      refine wp_seq ?_
      -- region 10
      refine RL ?_
      refine AC rfl rfl rfl rfl <| ?_
      simp only [q2,q3]
      refine WN ?_
      change Code.wp _ _ _ _ _
      refine wp_block ?_
      replace E := E.b x1
      clear x1
      have hs121 := E.2.1
      rw [show (0 : Nat) = val10 ((dgs l).take 0) by rw [List.take_zero, val10_nil]] at hs121
      replace E := E.s hs121
      refine wp_loop_ghost (fun mz a w' => ∃ (i : Nat) (vm : Value) (g3 g8 g39 g40 g41 g42 g43 g44 g45 g46 g47 g48 g49 g50 g51 g52 g53 g54 g55 g56 g57 g58 g59 g60 g61 g62 : Value), a = ⟨#[.string s, undef, .pointer (some ⟨b1, 0, none⟩), g3, .string s, .bool false, vm, .int .i64 ((i : Nat) : Int), g8, .string s, .int .i64 ((s.size : Nat) : Int), .bool false, undef, .string s, .string s, .int .i64 ((s.size : Nat) : Int), .bool true, .bool true, .string s, .int .u8 ((c.toNat : Nat) : Int), .bool false, .bool false, .bool false, undef, undef, .string s, .int .i64 ((s.size : Nat) : Int), .bool false, .bool false, .string s, .int .u8 ((c2.toNat : Nat) : Int), .bool false, .bool false, undef, undef, .bool false, .bool false, undef, v120, g39, g40, g41, g42, g43, g44, g45, g46, g47, g48, g49, g50, g51, g52, g53, g54, g55, g56, g57, g58, g59, g60, g61, g62, undef, undef, undef], []⟩ ∧ Env w' [fS vm (digs (val10 ((dgs l).take i))), fB b1 false (.slice none 0 0), fW w] ∧ mz = l.length - i ∧ (i ≤ l.length ∧ ∀ j b, j < i → l[j]? = some b → 48 ≤ b.toNat ∧ b.toNat ≤ 57)) (l.length) ⟨0, v120, _, _, _, _, _, _, _, _, _, _, _, _, _, _, _, _, _, _, _, _, _, _, _, _, _, _, rfl, (Env.s (Env.b (Env.ww (Env.nil _) (e3 E)) (E.2.1)) (E.1)), rfl, ⟨Nat.zero_le _, fun j b h => absurd h (Nat.not_lt_zero j)⟩⟩ ?_
      rintro m122 _ w122 ⟨i, vm, g3, g8, g39, g40, g41, g42, g43, g44, g45, g46, g47, g48, g49, g50, g51, g52, g53, g54, g55, g56, g57, g58, g59, g60, g61, g62, rfl, E, hm122, hI122⟩
      obtain ⟨hI1, hI2⟩ := hI122
      by_cases hi : i < l.length
      case pos =>
       obtain ⟨b, hb, hb2⟩ := str_get (i := i) (s := s) (by omega)
       rw [← hl] at hb2
       by_cases h1 : b.toNat < 48
       case pos =>
        refine wp_seq ?_
        refine wp_seq ?_
        -- region 11
        refine RL ?_
        refine M rfl rfl rfl rfl rfl <| M rfl rfl rfl rfl rfl <| V (v := .int .i64 ((s.size : Nat) : Int)) rfl rfl (run_lenS rfl rfl) <| V rfl rfl (run_ltI (c := true) rfl rfl rfl (by rw [decide_eq_true_eq]; omega)) <| ?_
        simp only [q2,q3]
        refine WN ?_
        change Code.wp _ _ _ _ _
        refine wp_cond_true rfl ?_
        refine wp_skip ?_
        change Code.wp _ _ _ _ _
        refine wp_seq ?_
        refine wp_block ?_
        refine wp_seq ?_
        -- region 13
        refine RL ?_
        refine M rfl rfl rfl rfl rfl <| M rfl rfl rfl rfl rfl <| V (v := .int .u8 ((b.toNat : Nat) : Int)) rfl rfl (run_ixS (j := i) rfl Try.underlying9 rfl rfl rfl hb) <| A rfl rfl rfl rfl rfl <| ?_
        simp only [q2,q3]
        refine WN ?_
        change Code.wp _ _ _ _ _
        refine wp_seq ?_
        refine wp_seq ?_
        -- region 14
        refine RL ?_
        refine M rfl rfl rfl rfl rfl <| V rfl rfl (run_ltI (c := true) rfl rfl rfl (by rw [decide_eq_true_eq]; omega)) <| M rfl rfl rfl rfl rfl <| L0C (by kernel_rfl) rfl <| ?_
        simp only [q2,q3]
        refine L0C (by kernel_rfl) rfl <| V (v := .bool true) rfl rfl (run_pick (b := true) rfl rfl rfl) <| ?_
        simp only [q2,q3]
        refine WN ?_
        change Code.wp _ _ _ _ _
        refine wp_cond_true rfl ?_
        refine wp_seq ?_
        -- region 15
        refine RL ?_
        refine V (v := .agg #[.bool false, .slice none 0 0]) rfl rfl (run_buildI0 rfl) <| ?_
        replace E := E.i (zero_i _)
        have x125 := E.2.2.1
        replace E := ((E.2.2.2).s (E.2.1)).i (E.1)
        simp only [q2,q3]
        refine EF rfl (Oper.wp_store AgI rfl rfl rfl x125 rfl rfl (IsI.one (E.1)) ?_)
        intro w124 o124 y124
        replace E := (E.onl (x125.noW now0) ⟨trivial, trivial, okW (by omega), trivial⟩ o124).b y124
        clear x125 o124 y124
        refine kn rfl ?_
        refine AC rfl rfl rfl rfl <| ?_
        simp only [q2,q3]
        refine WN ?_
        change Code.wp _ _ _ _ _
        refine wp_ret ?_
        have r126 := res_box AgI (E.1) rfl
        exact bodyPost_ret (v := .tuple #[.agg #[.bool false, .slice none 0 0], .int .i64 3]) (by simp [results, Try.results51, asAddr, r126]) rfl (RetPa.form (by omega) (parse_pos hneg (by rw [← hl, okDec_bad hb2 (.inl h1)]; decide)) ⟨_, rfl, E.2.1, e3 E⟩)
       case neg =>
        by_cases h2 : 57 < b.toNat
        case pos =>
         refine wp_seq ?_
         refine wp_seq ?_
         -- region 11
         refine RL ?_
         refine M rfl rfl rfl rfl rfl <| M rfl rfl rfl rfl rfl <| V (v := .int .i64 ((s.size : Nat) : Int)) rfl rfl (run_lenS rfl rfl) <| V rfl rfl (run_ltI (c := true) rfl rfl rfl (by rw [decide_eq_true_eq]; omega)) <| ?_
         simp only [q2,q3]
         refine WN ?_
         change Code.wp _ _ _ _ _
         refine wp_cond_true rfl ?_
         refine wp_skip ?_
         change Code.wp _ _ _ _ _
         refine wp_seq ?_
         refine wp_block ?_
         refine wp_seq ?_
         -- region 13
         refine RL ?_
         refine M rfl rfl rfl rfl rfl <| M rfl rfl rfl rfl rfl <| V (v := .int .u8 ((b.toNat : Nat) : Int)) rfl rfl (run_ixS (j := i) rfl Try.underlying9 rfl rfl rfl hb) <| A rfl rfl rfl rfl rfl <| ?_
         simp only [q2,q3]
         refine WN ?_
         change Code.wp _ _ _ _ _
         refine wp_seq ?_
         refine wp_seq ?_
         -- region 14
         refine RL ?_
         refine M rfl rfl rfl rfl rfl <| V rfl rfl (run_ltI (c := false) rfl rfl rfl (by rw [decide_eq_false_iff_not]; omega)) <| M rfl rfl rfl rfl rfl <| M (by kernel_rfl) rfl rfl rfl rfl <| ?_
         simp only [q2,q3]
         refine V (by kernel_rfl) rfl (run_gtI (c := true) rfl rfl rfl (by rw [decide_eq_true_eq]; omega)) <| V (v := .bool true) rfl rfl (run_pick (b := false) rfl rfl rfl) <| ?_
         simp only [q2,q3]
         refine WN ?_
         change Code.wp _ _ _ _ _
         refine wp_cond_true rfl ?_
         refine wp_seq ?_
         -- region 15
         refine RL ?_
         refine V (v := .agg #[.bool false, .slice none 0 0]) rfl rfl (run_buildI0 rfl) <| ?_
         replace E := E.i (zero_i _)
         have x129 := E.2.2.1
         replace E := ((E.2.2.2).s (E.2.1)).i (E.1)
         simp only [q2,q3]
         refine EF rfl (Oper.wp_store AgI rfl rfl rfl x129 rfl rfl (IsI.one (E.1)) ?_)
         intro w128 o128 y128
         replace E := (E.onl (x129.noW now0) ⟨trivial, trivial, okW (by omega), trivial⟩ o128).b y128
         clear x129 o128 y128
         refine kn rfl ?_
         refine AC rfl rfl rfl rfl <| ?_
         simp only [q2,q3]
         refine WN ?_
         change Code.wp _ _ _ _ _
         refine wp_ret ?_
         have r130 := res_box AgI (E.1) rfl
         exact bodyPost_ret (v := .tuple #[.agg #[.bool false, .slice none 0 0], .int .i64 3]) (by simp [results, Try.results51, asAddr, r130]) rfl (RetPa.form (by omega) (parse_pos hneg (by rw [← hl, okDec_bad hb2 (.inr h2)]; decide)) ⟨_, rfl, E.2.1, e3 E⟩)
        case neg =>
         have hfl := rtake_fits hI2 hI1 (by omega)
         refine wp_seq ?_
         refine wp_seq ?_
         -- region 11
         refine RL ?_
         refine M rfl rfl rfl rfl rfl <| M rfl rfl rfl rfl rfl <| V (v := .int .i64 ((s.size : Nat) : Int)) rfl rfl (run_lenS rfl rfl) <| V rfl rfl (run_ltI (c := true) rfl rfl rfl (by rw [decide_eq_true_eq]; omega)) <| ?_
         simp only [q2,q3]
         refine WN ?_
         change Code.wp _ _ _ _ _
         refine wp_cond_true rfl ?_
         refine wp_skip ?_
         change Code.wp _ _ _ _ _
         refine wp_seq ?_
         refine wp_block ?_
         refine wp_seq ?_
         -- region 13
         refine RL ?_
         refine M rfl rfl rfl rfl rfl <| M rfl rfl rfl rfl rfl <| V (v := .int .u8 ((b.toNat : Nat) : Int)) rfl rfl (run_ixS (j := i) rfl Try.underlying9 rfl rfl rfl hb) <| A rfl rfl rfl rfl rfl <| ?_
         simp only [q2,q3]
         refine WN ?_
         change Code.wp _ _ _ _ _
         refine wp_seq ?_
         refine wp_seq ?_
         -- region 14
         refine RL ?_
         refine M rfl rfl rfl rfl rfl <| V rfl rfl (run_ltI (c := false) rfl rfl rfl (by rw [decide_eq_false_iff_not]; omega)) <| M rfl rfl rfl rfl rfl <| M (by kernel_rfl) rfl rfl rfl rfl <| ?_
         simp only [q2,q3]
         refine V (by kernel_rfl) rfl (run_gtI (c := false) rfl rfl rfl (by rw [decide_eq_false_iff_not]; omega)) <| V (v := .bool false) rfl rfl (run_pick (b := false) rfl rfl rfl) <| ?_
         simp only [q2,q3]
         refine WN ?_
         change Code.wp _ _ _ _ _
         refine wp_cond_false rfl ?_
         refine wp_skip ?_
         change Code.wp _ _ _ _ _
         -- region 16
         refine RL ?_
         refine M rfl rfl rfl rfl rfl <| ?_
         simp only [q2,q3]
         refine EF rfl (Oper.wp_oneW (c := 10) rfl rfl (by decide) (by decide) E ?_)
         clear E
         intro w132 v132 d132 E
         clear d132
         refine kw rfl ?_
         simp only [q2,q3]
         refine EF rfl (Oper.wp_callS fn_eref01_times rfl (rtimes_d _ _ (val10 ((dgs l).take i)) 10 _ (E.2.1) (E.1) (Nat.le_trans hfl (by decide)) (digs_le (by decide))) rfl E ?_)
         clear E
         intro w133 v133 d133 E
         clear d133
         refine kw rfl ?_
         refine M rfl rfl rfl rfl rfl <| V (v := .int .u8 ((b.toNat - 48 : Nat) : Int)) rfl rfl (run_subI rfl rfl rfl (wrap_u8_nat (by omega) (by omega))) <| V (v := .int .u64 ((b.toNat - 48 : Nat) : Int)) rfl rfl (run_convI rfl rfl (by rw [Try.underlying5]; rfl) Try.underlying76 (wrap_u64_nat (by omega) (by omega))) <| ?_
         simp only [q2,q3]
         refine EF rfl (Oper.wp_callS fn_eref01_words rfl (rwords_sl (b.toNat - 48) _ (by omega)) rfl E ?_)
         clear E
         intro w134 v134 d134 E
         clear d134
         refine kw rfl ?_
         simp only [q2,q3]
         refine EF rfl (Oper.wp_callS fn_eref01_added rfl (radded_d _ _ ((val10 ((dgs l).take i)) * 10) (b.toNat - 48) _ (E.2.1) (E.1) (len_mul10 hfl) (digs_le (by omega))) rfl E ?_)
         clear E
         intro w135 v135 d135 E
         clear d135
         refine kw rfl ?_
         refine A rfl rfl rfl rfl rfl <| ?_
         simp only [q2,q3]
         refine WN ?_
         change Code.wp _ _ _ _ _
         -- region 12
         refine RL ?_
         refine M rfl rfl rfl rfl rfl <| V (v := .int .i64 ((i + 1 : Nat) : Int)) rfl rfl (run_addI rfl rfl rfl (by rw [IntWalk.i64_in _ (by omega)]; omega)) <| A rfl rfl rfl rfl rfl <| ?_
         simp only [q2,q3]
         refine WN ?_
         have hs136 := E.1
         rw [← dg_next hb2] at hs136
         replace E := E.s hs136
         exact ⟨_, (by rw [hm122]; omega), i + 1, v135, _, _, _, _, _, _, _, _, _, _, _, _, _, _, _, _, _, _, _, _, _, _, _, _, _, _, rfl, (Env.s (Env.b (Env.ww (Env.nil _) (e7 E)) (e6 E)) (E.1)), rfl, ⟨by omega, fun j b2 hj hb3 => by rcases Nat.lt_or_ge j i with h | h; exact hI2 j b2 h hb3; obtain rfl : j = i := (by omega); rw [hb2] at hb3; cases hb3; omega⟩⟩
      case neg =>
       obtain rfl : i = l.length := by omega
       have hok : okDec l = true := okDec_good (by omega) hok0 hI2
       refine wp_seq ?_
       refine wp_seq ?_
       -- region 11
       refine RL ?_
       refine M rfl rfl rfl rfl rfl <| M rfl rfl rfl rfl rfl <| V (v := .int .i64 ((s.size : Nat) : Int)) rfl rfl (run_lenS rfl rfl) <| V rfl rfl (run_ltI (c := false) rfl rfl rfl (by rw [decide_eq_false_iff_not]; omega)) <| ?_
       simp only [q2,q3]
       refine WN ?_
       change Code.wp _ _ _ _ _
       refine wp_cond_false rfl ?_
       refine wp_exit ?_
       change Code.wp _ _ _ _ _
       refine wp_seq ?_
       -- region 17
       refine RL ?_
       refine M rfl rfl rfl rfl rfl <| M rfl rfl rfl rfl rfl <| ?_
       simp only [q2,q3]
       refine EF rfl (Oper.wp_callI fn_eref01_made rfl (rmade_d false _ (val10 ((dgs l).take l.length)) (val10 (dgs l) : Int) _ (E.1) (by rw [dgs_take]; rfl)) rfl E ?_)
       clear E
       intro w138 n138 s138 d138 E
       clear d138
       refine kw rfl ?_
       have x140 := E.2.2.1
       replace E := ((E.2.2.2).s (E.2.1)).i (E.1)
       simp only [q2,q3]
       refine EF rfl (Oper.wp_store AgI rfl rfl rfl x140 rfl rfl (IsI.one (E.1)) ?_)
       intro w139 o139 y139
       replace E := (E.onl (x140.noW now0) ⟨trivial, trivial, okW (by omega), trivial⟩ o139).b y139
       clear x140 o139 y139
       refine kn rfl ?_
       refine AC rfl rfl rfl rfl <| ?_
       simp only [q2,q3]
       refine WN ?_
       change Code.wp _ _ _ _ _
       refine wp_ret ?_
       have r141 := res_box AgI (E.1) rfl
       exact bodyPost_ret (v := .tuple #[.agg #[.bool n138, s138], .int .i64 0]) (by simp [results, Try.results51, asAddr, r141]) rfl (RetPa.ok (by omega) (parse_posok hneg hl hok) ⟨_, rfl, E.2.1, e3 E⟩)
end Go.Proofs.Ytndpjfhhigpbhaa
