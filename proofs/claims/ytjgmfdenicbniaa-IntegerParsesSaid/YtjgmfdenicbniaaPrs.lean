/- Walk: the law IntegerParses. (Printed by g_parses.py.) -/
import Derived.Test.YtjgmfdenicbniaaLawC
import Derived.Test.YtjgmfdenicbniaaKitC
import Derived.Test.YtjgmfdenicbniaaRefT
namespace Go.Proofs.Ytjgmfdenicbniaa
open Go.RowKit W
theorem eqI {w : World} {v : Value} {z z' : Int} (h : z = z') (f : IsI w v z) : IsI w v z' := h ▸ f
theorem abs_i {w : World} {n : Bool} {s : Value} {z : Int} (h : IsI w (.agg #[.bool n, s]) z) : IsI w (.agg #[.bool false, s]) (z.natAbs : Int) :=
  ⟨s, by rw [decide_eq_false (by omega)], by rw [Int.natAbs_natCast]; exact h.sl⟩
theorem run_buildIm {ρ : Operand → Value} {o : Oper} {w : World} {x : Operand} {v : Value} {ao : Option Addr} {n c : Nat} (ho : o.op = .build 24 #[(1, x)]) (hx : ρ x = v) (hv : v = .slice ao n c) : (execOp ρ o).run Try.prog w = .ok (.value (.agg #[.bool false, v])) w := by
  subst hv
  unfold execOp; rw [ho]
  have hi : (zeroValue 24).run Try.prog w = .ok (.agg #[.bool false, .slice none 0 0]) w := by kernel_rfl
  simp [go_sem, hi, hx]
theorem bne_f' {m n : Int} (h : m = n) : (m != n) = false := by subst h; simp
theorem RParse_none (s : ByteArray) (w : World) (hs : s.size ≤ 4000) (h : parseZ s.data.toList = none) : Calls Try.prog 30 #[.string s] w (RetZE w 0 3) := by
  refine (RParse_s s w (by omega)).mono ?_
  rintro e w' (⟨h1, _⟩ | ⟨_, _, hr⟩ | ⟨_, h2, _⟩)
  · omega
  · exact hr
  · rw [h] at h2; cases h2
theorem RParse_some (s : ByteArray) (z : Int) (w : World) (hs : s.size ≤ 4000) (h : parseZ s.data.toList = some z) : Calls Try.prog 30 #[.string s] w (RetZE w z 0) := by
  refine (RParse_s s w (by omega)).mono ?_
  rintro e w' (⟨h1, _⟩ | ⟨_, h2, _⟩ | ⟨_, h2, hr⟩)
  · omega
  · rw [h] at h2; cases h2
  · rw [h] at h2; cases h2; exact hr
theorem five_at (s : ByteArray) (h : ¬ 60 < s.size) {i : Nat} (hi : i < 5) : ∃ y : ByteArray, [s, (⟨#[45]⟩ : ByteArray) ++ s, (⟨#[48]⟩ : ByteArray) ++ s, s ++ (⟨#[55]⟩ : ByteArray), (⟨#[52]⟩ : ByteArray) ++ s][i]? = some y ∧ y.size ≤ 61 := by
  have e1 : (⟨#[45]⟩ : ByteArray).size = 1 := rfl
  have e2 : (⟨#[48]⟩ : ByteArray).size = 1 := rfl
  have e3 : (⟨#[55]⟩ : ByteArray).size = 1 := rfl
  have e4 : (⟨#[52]⟩ : ByteArray).size = 1 := rfl
  match i, hi with
  | 0, _ => exact ⟨_, rfl, by omega⟩
  | 1, _ => exact ⟨_, rfl, by rw [ByteArray.size_append]; omega⟩
  | 2, _ => exact ⟨_, rfl, by rw [ByteArray.size_append]; omega⟩
  | 3, _ => exact ⟨_, rfl, by rw [ByteArray.size_append]; omega⟩
  | 4, _ => exact ⟨_, rfl, by rw [ByteArray.size_append]; omega⟩
theorem five_cell {w : World} {b T i : Nat} {l : List ByteArray} {y : ByteArray} {cs : List Value} (hy : l[i]? = some y) (h : Bx w b T cs) (hcs : cs = l.map Value.string) : w.cell? ⟨b, 0 + i * 1, none⟩ = some (.string y) := by
  rw [Nat.zero_add, Nat.mul_one, h.cell, hcs, List.getElem?_map, hy]; rfl
theorem isAgg_str (w : World) : (isAgg 9).run Try.prog w = .ok false w := by simp [go_sem]
theorem run_lenSt {ρ : Operand → Value} {o : Oper} {w : World} {x : Operand} {ao : Option Addr} {n c : Nat} (ho : o.op = .call { callee := .builtin .len, args := #[x], argTypes := #[49] }) (hx : ρ x = .slice ao n c) : (execOp ρ o).run Try.prog w = .ok (.value (.int .i64 n)) w := by
  unfold execOp; rw [ho]; simp [hx, go_sem]
theorem u16_rem {n : Int} (h : 0 ≤ n) : n.tmod 100 = ((n.toNat % 100 : Nat) : Int) := by
  obtain ⟨k, rfl⟩ : ∃ k : Nat, n = (k : Int) := ⟨n.toNat, by omega⟩
  rw [Int.toNat_natCast]; exact tmod_nat k 100
theorem Oper.wp_str5 {o : Oper} {a : Act} {w : World} {K : Act → World → Prop} {Q : Exit → Act → World → Prop} {x0 x1 x2 x3 x4 : Operand} {s0 s1 s2 s3 s4 : ByteArray} (ho : o.op = .buildSlice 49 5 #[(0, x0), (1, x1), (2, x2), (3, x3), (4, x4)])
    (h0 : a.eval x0 = .string s0) (h1 : a.eval x1 = .string s1) (h2 : a.eval x2 = .string s2) (h3 : a.eval x3 = .string s3) (h4 : a.eval x4 = .string s4)
    (h : ∀ b w', b = w.heap.size → w'.heap.size = w.heap.size + 1 → Below w.heap.size w w' → Bx w' b 9 [.string s0, .string s1, .string s2, .string s3, .string s4] → K (a.put o.dst (.slice (some ⟨b, 0, none⟩) 5 5)) w') : o.wp Try.prog a w K Q := by
  have hr : ∀ ρ : Operand → Value, ρ x0 = .string s0 → ρ x1 = .string s1 → ρ x2 = .string s2 → ρ x3 = .string s3 → ρ x4 = .string s4 → (execOp ρ o).run Try.prog w = .ok (.value (.slice (some ⟨w.heap.size, 0, none⟩) 5 5)) (w.alloc (.cells #[.string s0, .string s1, .string s2, .string s3, .string s4] 9)) := by
    intro ρ h0 h1 h2 h3 h4
    unfold execOp; rw [ho]
    simp [go_sem, Instr.buildSlice, h0, h1, h2, h3, h4]
  have hb : Below w.heap.size w (w.alloc (.cells #[.string s0, .string s1, .string s2, .string s3, .string s4] 9)) := (Below.refl _ _).alloc (Nat.le_refl _) _
  exact Oper.wp_of_val (hr _ h0 h1 h2 h3 h4) (h _ _ rfl (by simp) hb (bx_alloc w _ [.string s0, .string s1, .string s2, .string s3, .string s4]))
set_option maxRecDepth 100000 in
set_option maxHeartbeats 8000000 in
theorem prs_t (s : ByteArray) (n : Int)  (w : World)  (hn0 : 0 ≤ n) (_hn1 : n ≤ 65535) :
    Calls Try.prog 9 #[.string s, .int .u16 n] w (RetB w true) := by
 have E := Env.start w
 go_enter Try.func9, Try.ntmps9
 refine wp_seq ?_
 -- region 0
 refine RL ?_
 refine AC rfl rfl rfl rfl <| ?_
 simp only [q2,q3]
 refine WN ?_
 change Code.wp _ _ _ _ _
 refine wp_seq ?_
 -- region 1
 refine RL ?_
 refine EF rfl (Oper.wp_callB fn_elaw01_sanity rfl (sanity_t _) rfl E ?_)
 clear E
 intro w1 d1 E
 clear d1
 refine kw rfl ?_
 refine A rfl rfl rfl rfl rfl <| ?_
 simp only [q2,q3]
 refine WN ?_
 change Code.wp _ _ _ _ _
 refine wp_seq ?_
 refine wp_seq ?_
 -- region 2
 refine RL ?_
 refine M rfl rfl rfl rfl rfl <| V (v := .bool false) rfl rfl (run_not (b := true) rfl rfl) <| ?_
 simp only [q2,q3]
 refine WN ?_
 change Code.wp _ _ _ _ _
 refine wp_cond_false rfl ?_
 refine wp_skip ?_
 change Code.wp _ _ _ _ _
 refine wp_seq ?_
 refine wp_seq ?_
 by_cases h60 : 60 < s.size
 case pos =>
  -- region 4
  refine RL ?_
  refine M rfl rfl rfl rfl rfl <| V (v := .int .i64 ((s.size : Nat) : Int)) rfl rfl (run_lenS rfl rfl) <| V rfl rfl (run_gtI (c := true) rfl rfl rfl (by rw [decide_eq_true_eq]; omega)) <| ?_
  simp only [q2,q3]
  refine WN ?_
  change Code.wp _ _ _ _ _
  refine wp_cond_true rfl ?_
  refine wp_seq ?_
  -- region 5
  refine RL ?_
  refine M rfl rfl rfl rfl rfl <| A rfl rfl rfl rfl rfl <| ?_
  simp only [q2,q3]
  refine WN ?_
  change Code.wp _ _ _ _ _
  refine wp_ret ?_
  exact bodyPost_ret (v := .bool true) (by simp [results, Try.results9, asAddr]) rfl ⟨rfl, E.1⟩
 case neg =>
  -- region 4
  refine RL ?_
  refine M rfl rfl rfl rfl rfl <| V (v := .int .i64 ((s.size : Nat) : Int)) rfl rfl (run_lenS rfl rfl) <| V rfl rfl (run_gtI (c := false) rfl rfl rfl (by rw [decide_eq_false_iff_not]; omega)) <| ?_
  simp only [q2,q3]
  refine WN ?_
  change Code.wp _ _ _ _ _
  refine wp_cond_false rfl ?_
  refine wp_skip ?_
  change Code.wp _ _ _ _ _
  refine wp_seq ?_
  -- region 6
  refine RL ?_
  refine M rfl rfl rfl rfl rfl <| M rfl rfl rfl rfl rfl <| V (v := .string ((⟨#[45]⟩ : ByteArray) ++ s)) rfl rfl (run_cat rfl rfl rfl (by show 1 + _ ≤ _; omega)) <| M rfl rfl rfl rfl rfl <| ?_
  simp only [q2,q3]
  refine V (v := .string ((⟨#[48]⟩ : ByteArray) ++ s)) rfl rfl (run_cat rfl rfl rfl (by show 1 + _ ≤ _; omega)) <| M rfl rfl rfl rfl rfl <| V (v := .string (s ++ (⟨#[55]⟩ : ByteArray))) rfl rfl (run_cat rfl rfl rfl (by show _ + 1 ≤ _; omega)) <| M rfl rfl rfl rfl rfl <| ?_
  simp only [q2,q3]
  refine V (v := .string ((⟨#[52]⟩ : ByteArray) ++ s)) rfl rfl (run_cat rfl rfl rfl (by show 1 + _ ≤ _; omega)) <| ?_
  simp only [q2,q3]
  refine EF rfl (Oper.wp_str5 rfl rfl rfl rfl rfl rfl ?_)
  intro b2 w2 e2 z2 d2 x2
  have l2 : w.heap.size ≤ b2 := by rw [e2]; exact (E.1).size
  replace E := E.below d2
  clear e2 z2 d2
  replace E := E.x x2
  clear x2
  refine kw rfl ?_
  refine A rfl rfl rfl rfl rfl <| ?_
  simp only [q2,q3]
  refine WN ?_
  change Code.wp _ _ _ _ _
  refine wp_seq ?_
  refine wp_seq ?_
  -- region 7
  refine RL ?_
  refine AC rfl rfl rfl rfl <| ?_
  simp only [q2,q3]
  refine WN ?_
  change Code.wp _ _ _ _ _
  refine wp_block ?_
  refine wp_loop_ghost (fun mz a w' => ∃ (i : Nat) (g4 g8 g9 g10 g11 g33 g34 g35 g36 g37 g38 g39 g40 g41 g42 g43 g44 g45 g46 g47 g48 g49 g50 g51 g52 g53 g54 g55 g56 g57 g58 g59 g60 g61 g62 g63 : Value), a = ⟨#[.string s, .int .u16 n, undef, undef, g4, .bool true, .slice (some ⟨b2, 0, none⟩) 5 5, .int .i64 ((i : Nat) : Int), g8, g9, g10, g11, undef, undef, undef, undef, .bool true, .bool true, .bool false, .string s, .int .i64 ((s.size : Nat) : Int), .bool false, undef, .string s, .string s, .string ((⟨#[45]⟩ : ByteArray) ++ s), .string s, .string ((⟨#[48]⟩ : ByteArray) ++ s), .string s, .string (s ++ (⟨#[55]⟩ : ByteArray)), .string s, .string ((⟨#[52]⟩ : ByteArray) ++ s), .slice (some ⟨b2, 0, none⟩) 5 5, g33, g34, g35, g36, g37, g38, g39, g40, g41, g42, g43, g44, g45, g46, g47, g48, g49, g50, g51, g52, g53, g54, g55, g56, g57, g58, g59, g60, g61, g62, g63, undef, undef, undef, undef, undef, undef, undef, undef, undef, undef, undef, undef, undef, undef, undef, undef, undef, undef, undef, undef, undef, undef, undef, undef, undef, undef, undef, undef, undef, undef, undef, undef], []⟩ ∧ Env w' [fX b2 (9) ([.string s, .string ((⟨#[45]⟩ : ByteArray) ++ s), .string ((⟨#[48]⟩ : ByteArray) ++ s), .string (s ++ (⟨#[55]⟩ : ByteArray)), .string ((⟨#[52]⟩ : ByteArray) ++ s)]), fW w] ∧ mz = 5 - i ∧ i ≤ 5) (5) ⟨0, _, _, _, _, _, _, _, _, _, _, _, _, _, _, _, _, _, _, _, _, _, _, _, _, _, _, _, _, _, _, _, _, _, _, _, _, rfl, (Env.x (Env.ww (Env.nil _) (E.2.1)) (E.1)), rfl, (by decide)⟩ ?_
  rintro m3 _ w3 ⟨i, g4, g8, g9, g10, g11, g33, g34, g35, g36, g37, g38, g39, g40, g41, g42, g43, g44, g45, g46, g47, g48, g49, g50, g51, g52, g53, g54, g55, g56, g57, g58, g59, g60, g61, g62, g63, rfl, E, hm3, hI3⟩
  by_cases hi : i < 5
  case pos =>
   obtain ⟨y, hy, hys⟩ := five_at s h60 hi
   rcases hp : parseZ y.data.toList with _ | z
   case none =>
    refine wp_seq ?_
    refine wp_seq ?_
    -- region 8
    refine RL ?_
    refine M rfl rfl rfl rfl rfl <| M rfl rfl rfl rfl rfl <| V (v := .int .i64 5) rfl rfl (run_lenSt rfl rfl) <| V rfl rfl (run_ltI (c := true) rfl rfl rfl (by rw [decide_eq_true_eq]; omega)) <| ?_
    simp only [q2,q3]
    refine WN ?_
    change Code.wp _ _ _ _ _
    refine wp_cond_true rfl ?_
    refine wp_skip ?_
    change Code.wp _ _ _ _ _
    refine wp_seq ?_
    refine wp_block ?_
    refine wp_seq ?_
    -- region 10
    refine RL ?_
    refine M rfl rfl rfl rfl rfl <| M rfl rfl rfl rfl rfl <| V (v := .pointer (some ⟨b2, 0 + i * 1, none⟩)) rfl rfl (run_idx (j := i) rfl Try.underlying49 (by kernel_rfl) rfl rfl rfl hi) <| V rfl rfl (run_loadC rfl isAgg_str rfl (five_cell hy (E.1) rfl)) <| ?_
    simp only [q2,q3]
    refine EF rfl (Oper.wp_callIE fn_integer_Parse rfl (Parse_none _ _ (by omega) hp) rfl E ?_)
    clear E
    intro w4 n4 s4 d4 E
    clear d4
    refine kw rfl ?_
    refine M rfl rfl rfl rfl rfl <| V rfl rfl (run_extract (vs := [.agg #[.bool n4, s4], .int .i64 3]) rfl rfl rfl) <| V rfl rfl (run_extract (vs := [.agg #[.bool n4, s4], .int .i64 3]) rfl rfl rfl) <| ?_
    simp only [q2,q3]
    refine EF rfl (Oper.wp_alloc AgI rfl ?_)
    intro b5 w5 e5 z5 d5 x5
    have l5_0 : b2 < b5 := by rw [e5]; exact Bx.lt (E.2.1)
    replace E := E.below d5
    clear e5 z5 d5
    refine kw rfl ?_
    simp only [q2,q3]
    refine EF rfl (Oper.wp_store AgI rfl rfl rfl x5 rfl rfl (IsI.one (E.1)) ?_)
    intro w6 o6 y6
    replace E := (E.onl (x5.noW now0) ⟨trivial, okX (by omega), okW (by omega), trivial⟩ o6).b y6
    clear x5 o6 y6
    refine kn rfl ?_
    refine A rfl rfl rfl rfl rfl <| ?_
    simp only [q2,q3]
    refine WN ?_
    change Code.wp _ _ _ _ _
    refine wp_seq ?_
    -- region 11
    refine RL ?_
    refine M rfl rfl rfl rfl rfl <| M rfl rfl rfl rfl rfl <| V (v := .pointer (some ⟨b2, 0 + i * 1, none⟩)) rfl rfl (run_idx (j := i) rfl Try.underlying49 (by kernel_rfl) rfl rfl rfl hi) <| V rfl rfl (run_loadC rfl isAgg_str rfl (five_cell hy (E.2.2.1) rfl)) <| ?_
    simp only [q2,q3]
    refine EF rfl (Oper.wp_callIE fn_eref01_Parse rfl (RParse_none _ _ (by omega) hp) rfl E ?_)
    clear E
    intro w7 n7 s7 d7 E
    clear d7
    refine kw rfl ?_
    refine M rfl rfl rfl rfl rfl <| V rfl rfl (run_extract (vs := [.agg #[.bool n7, s7], .int .i64 3]) rfl rfl rfl) <| V rfl rfl (run_extract (vs := [.agg #[.bool n7, s7], .int .i64 3]) rfl rfl rfl) <| ?_
    simp only [q2,q3]
    refine EF rfl (Oper.wp_alloc AgI rfl ?_)
    intro b8 w8 e8 z8 d8 x8
    have l8_0 : b5 < b8 := by rw [e8]; exact Bx.lt (E.2.1)
    replace E := E.below d8
    clear e8 z8 d8
    refine kw rfl ?_
    simp only [q2,q3]
    refine EF rfl (Oper.wp_store AgI rfl rfl rfl x8 rfl rfl (IsI.one (E.1)) ?_)
    intro w9 o9 y9
    replace E := (E.onl (x8.noW now0) ⟨trivial, okB (by omega), trivial, okX (by omega), okW (by omega), trivial⟩ o9).b y9
    clear x8 o9 y9
    refine kn rfl ?_
    refine A rfl rfl rfl rfl rfl <| ?_
    simp only [q2,q3]
    refine WN ?_
    change Code.wp _ _ _ _ _
    refine wp_seq ?_
    -- region 12
    refine RL ?_
    refine M rfl rfl rfl rfl rfl <| M rfl rfl rfl rfl rfl <| V rfl rfl (run_neI (c := false) rfl rfl rfl (by decide)) <| M rfl rfl rfl rfl rfl <| ?_
    simp only [q2,q3]
    refine V (by kernel_rfl) rfl (run_load_bx AgI rfl rfl (E.2.2.1) rfl) <| V (by kernel_rfl) rfl (run_load_bx AgI rfl rfl (E.1) rfl) <| ?_
    simp only [q2,q3]
    refine EF rfl (Oper.wp_callB fn_eref01_Same rfl (RSame_t _ _ 0 0 _ (e3 E) (E.2.1) rfl) rfl E ?_)
    clear E
    intro w10 d10 E
    clear d10
    refine kw rfl ?_
    refine V (v := .bool false) (by kernel_rfl) rfl (run_not (b := true) rfl rfl) <| V (v := .bool false) rfl rfl (run_pick (b := false) rfl rfl rfl) <| ?_
    simp only [q2,q3]
    refine WN ?_
    change Code.wp _ _ _ _ _
    refine wp_cond_false rfl ?_
    refine wp_skip ?_
    change Code.wp _ _ _ _ _
    -- region 9
    refine RL ?_
    refine M rfl rfl rfl rfl rfl <| V (v := .int .i64 ((i + 1 : Nat) : Int)) rfl rfl (run_addI rfl rfl rfl (wrap_nat (by omega) (by omega))) <| A rfl rfl rfl rfl rfl <| ?_
    simp only [q2,q3]
    refine WN ?_
    exact ⟨_, (by rw [hm3]; omega), i + 1, _, _, _, _, _, _, _, _, _, _, _, _, _, _, _, _, _, _, _, _, _, _, _, _, _, _, _, _, _, _, _, _, _, _, _, _, rfl, (Env.x (Env.ww (Env.nil _) (e5 E)) (e4 E)), rfl, (by omega)⟩
   case some =>
    refine wp_seq ?_
    refine wp_seq ?_
    -- region 8
    refine RL ?_
    refine M rfl rfl rfl rfl rfl <| M rfl rfl rfl rfl rfl <| V (v := .int .i64 5) rfl rfl (run_lenSt rfl rfl) <| V rfl rfl (run_ltI (c := true) rfl rfl rfl (by rw [decide_eq_true_eq]; omega)) <| ?_
    simp only [q2,q3]
    refine WN ?_
    change Code.wp _ _ _ _ _
    refine wp_cond_true rfl ?_
    refine wp_skip ?_
    change Code.wp _ _ _ _ _
    refine wp_seq ?_
    refine wp_block ?_
    refine wp_seq ?_
    -- region 10
    refine RL ?_
    refine M rfl rfl rfl rfl rfl <| M rfl rfl rfl rfl rfl <| V (v := .pointer (some ⟨b2, 0 + i * 1, none⟩)) rfl rfl (run_idx (j := i) rfl Try.underlying49 (by kernel_rfl) rfl rfl rfl hi) <| V rfl rfl (run_loadC rfl isAgg_str rfl (five_cell hy (E.1) rfl)) <| ?_
    simp only [q2,q3]
    refine EF rfl (Oper.wp_callIE fn_integer_Parse rfl (Parse_some _ z _ (by omega) hp) rfl E ?_)
    clear E
    intro w11 n11 s11 d11 E
    clear d11
    refine kw rfl ?_
    refine M rfl rfl rfl rfl rfl <| V rfl rfl (run_extract (vs := [.agg #[.bool n11, s11], .int .i64 0]) rfl rfl rfl) <| V rfl rfl (run_extract (vs := [.agg #[.bool n11, s11], .int .i64 0]) rfl rfl rfl) <| ?_
    simp only [q2,q3]
    refine EF rfl (Oper.wp_alloc AgI rfl ?_)
    intro b12 w12 e12 z12 d12 x12
    have l12_0 : b2 < b12 := by rw [e12]; exact Bx.lt (E.2.1)
    replace E := E.below d12
    clear e12 z12 d12
    refine kw rfl ?_
    simp only [q2,q3]
    refine EF rfl (Oper.wp_store AgI rfl rfl rfl x12 rfl rfl (IsI.one (E.1)) ?_)
    intro w13 o13 y13
    replace E := (E.onl (x12.noW now0) ⟨trivial, okX (by omega), okW (by omega), trivial⟩ o13).b y13
    clear x12 o13 y13
    refine kn rfl ?_
    refine A rfl rfl rfl rfl rfl <| ?_
    simp only [q2,q3]
    refine WN ?_
    change Code.wp _ _ _ _ _
    refine wp_seq ?_
    -- region 11
    refine RL ?_
    refine M rfl rfl rfl rfl rfl <| M rfl rfl rfl rfl rfl <| V (v := .pointer (some ⟨b2, 0 + i * 1, none⟩)) rfl rfl (run_idx (j := i) rfl Try.underlying49 (by kernel_rfl) rfl rfl rfl hi) <| V rfl rfl (run_loadC rfl isAgg_str rfl (five_cell hy (E.2.2.1) rfl)) <| ?_
    simp only [q2,q3]
    refine EF rfl (Oper.wp_callIE fn_eref01_Parse rfl (RParse_some _ z _ (by omega) hp) rfl E ?_)
    clear E
    intro w14 n14 s14 d14 E
    clear d14
    refine kw rfl ?_
    refine M rfl rfl rfl rfl rfl <| V rfl rfl (run_extract (vs := [.agg #[.bool n14, s14], .int .i64 0]) rfl rfl rfl) <| V rfl rfl (run_extract (vs := [.agg #[.bool n14, s14], .int .i64 0]) rfl rfl rfl) <| ?_
    simp only [q2,q3]
    refine EF rfl (Oper.wp_alloc AgI rfl ?_)
    intro b15 w15 e15 z15 d15 x15
    have l15_0 : b12 < b15 := by rw [e15]; exact Bx.lt (E.2.1)
    replace E := E.below d15
    clear e15 z15 d15
    refine kw rfl ?_
    simp only [q2,q3]
    refine EF rfl (Oper.wp_store AgI rfl rfl rfl x15 rfl rfl (IsI.one (E.1)) ?_)
    intro w16 o16 y16
    replace E := (E.onl (x15.noW now0) ⟨trivial, okB (by omega), trivial, okX (by omega), okW (by omega), trivial⟩ o16).b y16
    clear x15 o16 y16
    refine kn rfl ?_
    refine A rfl rfl rfl rfl rfl <| ?_
    simp only [q2,q3]
    refine WN ?_
    change Code.wp _ _ _ _ _
    refine wp_seq ?_
    -- region 12
    refine RL ?_
    refine M rfl rfl rfl rfl rfl <| M rfl rfl rfl rfl rfl <| V rfl rfl (run_neI (c := false) rfl rfl rfl (by decide)) <| M rfl rfl rfl rfl rfl <| ?_
    simp only [q2,q3]
    refine V (by kernel_rfl) rfl (run_load_bx AgI rfl rfl (E.2.2.1) rfl) <| V (by kernel_rfl) rfl (run_load_bx AgI rfl rfl (E.1) rfl) <| ?_
    simp only [q2,q3]
    refine EF rfl (Oper.wp_callB fn_eref01_Same rfl (RSame_t _ _ z z _ (e3 E) (E.2.1) rfl) rfl E ?_)
    clear E
    intro w17 d17 E
    clear d17
    refine kw rfl ?_
    refine V (v := .bool false) (by kernel_rfl) rfl (run_not (b := true) rfl rfl) <| V (v := .bool false) rfl rfl (run_pick (b := false) rfl rfl rfl) <| ?_
    simp only [q2,q3]
    refine WN ?_
    change Code.wp _ _ _ _ _
    refine wp_cond_false rfl ?_
    refine wp_skip ?_
    change Code.wp _ _ _ _ _
    -- region 9
    refine RL ?_
    refine M rfl rfl rfl rfl rfl <| V (v := .int .i64 ((i + 1 : Nat) : Int)) rfl rfl (run_addI rfl rfl rfl (wrap_nat (by omega) (by omega))) <| A rfl rfl rfl rfl rfl <| ?_
    simp only [q2,q3]
    refine WN ?_
    exact ⟨_, (by rw [hm3]; omega), i + 1, _, _, _, _, _, _, _, _, _, _, _, _, _, _, _, _, _, _, _, _, _, _, _, _, _, _, _, _, _, _, _, _, _, _, _, _, rfl, (Env.x (Env.ww (Env.nil _) (e5 E)) (e4 E)), rfl, (by omega)⟩
  case neg =>
   refine wp_seq ?_
   refine wp_seq ?_
   -- region 8
   refine RL ?_
   refine M rfl rfl rfl rfl rfl <| M rfl rfl rfl rfl rfl <| V (v := .int .i64 5) rfl rfl (run_lenSt rfl rfl) <| V rfl rfl (run_ltI (c := false) rfl rfl rfl (by rw [decide_eq_false_iff_not]; omega)) <| ?_
   simp only [q2,q3]
   refine WN ?_
   change Code.wp _ _ _ _ _
   refine wp_cond_false rfl ?_
   refine wp_exit ?_
   change Code.wp _ _ _ _ _
   refine wp_seq ?_
   -- region 14
   refine RL ?_
   refine M rfl rfl rfl rfl rfl <| A rfl rfl rfl rfl rfl <| ?_
   simp only [q2,q3]
   refine WN ?_
   change Code.wp _ _ _ _ _
   refine wp_seq ?_
   refine wp_seq ?_
   -- region 15
   refine RL ?_
   refine AC rfl rfl rfl rfl <| ?_
   simp only [q2,q3]
   refine WN ?_
   change Code.wp _ _ _ _ _
   refine wp_block ?_
   refine wp_loop_ghost (fun mz a w' => ∃ (k : Nat) (T : ByteArray) (g65 g66 g67 g68 g69 g70 g71 g72 g73 g74 : Value), a = ⟨#[.string s, .int .u16 n, undef, undef, g4, .bool true, .slice (some ⟨b2, 0, none⟩) 5 5, .int .i64 ((i : Nat) : Int), g8, g9, g10, g11, .string T, .int .i64 ((k : Nat) : Int), undef, undef, .bool true, .bool true, .bool false, .string s, .int .i64 ((s.size : Nat) : Int), .bool false, undef, .string s, .string s, .string ((⟨#[45]⟩ : ByteArray) ++ s), .string s, .string ((⟨#[48]⟩ : ByteArray) ++ s), .string s, .string (s ++ (⟨#[55]⟩ : ByteArray)), .string s, .string ((⟨#[52]⟩ : ByteArray) ++ s), .slice (some ⟨b2, 0, none⟩) 5 5, .int .i64 ((i : Nat) : Int), .slice (some ⟨b2, 0, none⟩) 5 5, .int .i64 5, .bool false, g37, g38, g39, g40, g41, g42, g43, g44, g45, g46, g47, g48, g49, g50, g51, g52, g53, g54, g55, g56, g57, g58, g59, g60, g61, g62, g63, .string s, g65, g66, g67, g68, g69, g70, g71, g72, g73, g74, undef, undef, undef, undef, undef, undef, undef, undef, undef, undef, undef, undef, undef, undef, undef, undef, undef, undef, undef, undef, undef], []⟩ ∧ Env w' [fX b2 (9) ([.string s, .string ((⟨#[45]⟩ : ByteArray) ++ s), .string ((⟨#[48]⟩ : ByteArray) ++ s), .string (s ++ (⟨#[55]⟩ : ByteArray)), .string ((⟨#[52]⟩ : ByteArray) ++ s)]), fW w] ∧ mz = 4001 + n.toNat % 100 - k ∧ (k ≤ 4001 + n.toNat % 100 ∧ T.size = s.size + k)) ((4001 + n.toNat % 100)) ⟨0, s, _, _, _, _, _, _, _, _, _, _, rfl, (Env.x (Env.ww (Env.nil _) (E.2.1)) (E.1)), rfl, ⟨Nat.zero_le _, rfl⟩⟩ ?_
   rintro m18 _ w18 ⟨k, T, g65, g66, g67, g68, g69, g70, g71, g72, g73, g74, rfl, E, hm18, hI18⟩
   obtain ⟨hJ1, hJ2⟩ := hI18
   by_cases hi2 : k < 4001 + n.toNat % 100
   case pos =>
    refine wp_seq ?_
    refine wp_seq ?_
    -- region 16
    refine RL ?_
    refine M rfl rfl rfl rfl rfl <| M rfl rfl rfl rfl rfl <| V (v := .int .u16 ((n.toNat % 100 : Nat) : Int)) rfl rfl (run_remI rfl rfl rfl (by decide) (u16_rem hn0)) <| V (v := .int .i64 ((n.toNat % 100 : Nat) : Int)) rfl rfl (run_convI rfl rfl (by rw [Try.underlying48]; rfl) Try.underlying3 (wrap_nat rfl (by omega))) <| ?_
    simp only [q2,q3]
    refine V (v := .int .i64 ((4001 + n.toNat % 100 : Nat) : Int)) rfl rfl (run_addI rfl rfl rfl (wrap_nat (by omega) (by omega))) <| V rfl rfl (run_ltI (c := true) rfl rfl rfl (by rw [decide_eq_true_eq]; omega)) <| ?_
    simp only [q2,q3]
    refine WN ?_
    change Code.wp _ _ _ _ _
    refine wp_cond_true rfl ?_
    refine wp_skip ?_
    change Code.wp _ _ _ _ _
    refine wp_seq ?_
    refine wp_block ?_
    -- region 18
    refine RL ?_
    refine M rfl rfl rfl rfl rfl <| V (v := .string (T ++ (⟨#[49]⟩ : ByteArray))) rfl rfl (run_cat rfl rfl rfl (by show _ + 1 ≤ _; omega)) <| A rfl rfl rfl rfl rfl <| ?_
    simp only [q2,q3]
    refine WN ?_
    change Code.wp _ _ _ _ _
    -- region 17
    refine RL ?_
    refine M rfl rfl rfl rfl rfl <| V (v := .int .i64 ((k + 1 : Nat) : Int)) rfl rfl (run_addI rfl rfl rfl (wrap_nat (by omega) (by omega))) <| A rfl rfl rfl rfl rfl <| ?_
    simp only [q2,q3]
    refine WN ?_
    exact ⟨_, (by rw [hm18]; omega), k + 1, (T ++ (⟨#[49]⟩ : ByteArray)), _, _, _, _, _, _, _, _, _, _, rfl, (Env.x (Env.ww (Env.nil _) (E.2.1)) (E.1)), rfl, ⟨by omega, by rw [ByteArray.size_append]; show _ + 1 = _; omega⟩⟩
   case neg =>
    refine wp_seq ?_
    refine wp_seq ?_
    -- region 16
    refine RL ?_
    refine M rfl rfl rfl rfl rfl <| M rfl rfl rfl rfl rfl <| V (v := .int .u16 ((n.toNat % 100 : Nat) : Int)) rfl rfl (run_remI rfl rfl rfl (by decide) (u16_rem hn0)) <| V (v := .int .i64 ((n.toNat % 100 : Nat) : Int)) rfl rfl (run_convI rfl rfl (by rw [Try.underlying48]; rfl) Try.underlying3 (wrap_nat rfl (by omega))) <| ?_
    simp only [q2,q3]
    refine V (v := .int .i64 ((4001 + n.toNat % 100 : Nat) : Int)) rfl rfl (run_addI rfl rfl rfl (wrap_nat (by omega) (by omega))) <| V rfl rfl (run_ltI (c := false) rfl rfl rfl (by rw [decide_eq_false_iff_not]; omega)) <| ?_
    simp only [q2,q3]
    refine WN ?_
    change Code.wp _ _ _ _ _
    refine wp_cond_false rfl ?_
    refine wp_exit ?_
    change Code.wp _ _ _ _ _
    refine wp_seq ?_
    -- region 19
    refine RL ?_
    refine M rfl rfl rfl rfl rfl <| ?_
    simp only [q2,q3]
    refine EF rfl (Oper.wp_callIE fn_integer_Parse rfl (Parse_big _ _ (by omega) (by omega)) rfl E ?_)
    clear E
    intro w19 n19 s19 d19 E
    clear d19
    refine kw rfl ?_
    refine M rfl rfl rfl rfl rfl <| V rfl rfl (run_extract (vs := [.agg #[.bool n19, s19], .int .i64 2]) rfl rfl rfl) <| V rfl rfl (run_extract (vs := [.agg #[.bool n19, s19], .int .i64 2]) rfl rfl rfl) <| ?_
    simp only [q2,q3]
    refine EF rfl (Oper.wp_alloc AgI rfl ?_)
    intro b20 w20 e20 z20 d20 x20
    have l20_0 : b2 < b20 := by rw [e20]; exact Bx.lt (E.2.1)
    replace E := E.below d20
    clear e20 z20 d20
    refine kw rfl ?_
    simp only [q2,q3]
    refine EF rfl (Oper.wp_store AgI rfl rfl rfl x20 rfl rfl (IsI.one (E.1)) ?_)
    intro w21 o21 y21
    replace E := (E.onl (x20.noW now0) ⟨trivial, okX (by omega), okW (by omega), trivial⟩ o21).b y21
    clear x20 o21 y21
    refine kn rfl ?_
    refine A rfl rfl rfl rfl rfl <| ?_
    simp only [q2,q3]
    refine WN ?_
    change Code.wp _ _ _ _ _
    refine wp_seq ?_
    obtain rfl : n19 = false := (IsI.sign (E.2.1)).trans rfl
    -- region 20
    refine RL ?_
    refine M rfl rfl rfl rfl rfl <| M rfl rfl rfl rfl rfl <| M (by kernel_rfl) rfl rfl rfl rfl <| V (by kernel_rfl) rfl (run_eqI (c := true) rfl rfl rfl (by decide)) <| ?_
    simp only [q2,q3]
    refine V (v := .bool true) rfl rfl (run_pick (b := true) rfl rfl rfl) <| M rfl rfl rfl rfl rfl <| V (by kernel_rfl) rfl (run_fieldI1 rfl rfl) <| V (by kernel_rfl) rfl (run_cell rfl isAgg_words rfl (E.1) rfl) <| ?_
    obtain ⟨ao22, cap22, hs22⟩ := IsI.slice (E.2.1)
    simp only [q2,q3]
    refine V (v := .int .i64 (((digs (0 : Int).natAbs).length : Nat) : Int)) (by kernel_rfl) rfl (run_len rfl hs22) <| V (by kernel_rfl) rfl (run_eqI (c := true) rfl rfl rfl (len_eq0 rfl)) <| V (v := .bool true) rfl rfl (run_pick (b := true) rfl rfl rfl) <| M rfl rfl rfl rfl rfl <| ?_
    simp only [q2,q3]
    refine V (by kernel_rfl) rfl (run_fieldI0 rfl rfl) <| V (by kernel_rfl) rfl (run_cell rfl isAgg_bool rfl (E.1) rfl) <| V (v := .bool true) (by kernel_rfl) rfl (run_not (b := false) rfl rfl) <| V (v := .bool true) rfl rfl (run_pick (b := true) rfl rfl rfl) <| ?_
    simp only [q2,q3]
    refine A rfl rfl rfl rfl rfl <| ?_
    simp only [q2,q3]
    refine WN ?_
    change Code.wp _ _ _ _ _
    refine wp_ret ?_
    exact bodyPost_ret (v := .bool true) (by simp [results, Try.results9, asAddr]) rfl ⟨rfl, e3 E⟩
end Go.Proofs.Ytjgmfdenicbniaa
