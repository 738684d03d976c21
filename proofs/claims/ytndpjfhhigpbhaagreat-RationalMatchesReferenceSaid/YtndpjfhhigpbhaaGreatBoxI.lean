/- Boxes of integers that are written: what is in them, carried from world to world. The kit's rules at integers in boxes. -/
import Derived.Test.YtndpjfhhigpbhaaGreatDivMod
import Derived.Test.YtndpjfhhigpbhaaGreatKit
namespace Go.Proofs.YtndpjfhhigpbhaaGreat
open Go.RowKit W
/-- The box at block r holds the integer z. -/
def BoxI (w : World) (r : Nat) (z : Int) : Prop := RBox w r ∧ ∃ n s, Box w r n s ∧ IsI w (.agg #[.bool n, s]) z
theorem BoxI.cells {w : World} {r : Nat} {z : Int} (h : BoxI w r z) : ∃ (ao : Option Addr) (cap : Nat), w.cell? ⟨r, 0, none⟩ = some (.bool (decide (z < 0))) ∧ w.cell? ⟨r, 1, none⟩ = some (.slice ao (digs z.natAbs).length cap) ∧
    IsI w (.agg #[.bool (decide (z < 0)), .slice ao (digs z.natAbs).length cap]) z ∧ w.frozen? ⟨r, 0, none⟩ = false ∧ w.frozen? ⟨r, 1, none⟩ = false := by
  obtain ⟨hr, n, s, hb, hz⟩ := h
  obtain ⟨ao, cap, e, _⟩ := hz.parts
  simp only [Value.agg.injEq, Array.mk.injEq, List.cons.injEq, Value.bool.injEq, and_true] at e
  obtain ⟨rfl, rfl⟩ := e
  exact ⟨ao, cap, hb.1, hb.2, hz, hr.2.1, hr.2.2⟩
theorem BoxI.lt {w : World} {r : Nat} {z : Int} (h : BoxI w r z) : r < w.heap.size := by
  obtain ⟨ao, cap, h0, _⟩ := h.cells
  exact block_lt h0
theorem BoxI.keep {w w1 : World} {r : Nat} {z : Int} (h : BoxI w r z) (hb : Below w.heap.size w w1) : BoxI w1 r z := by
  obtain ⟨hr, n, s, hb', hz⟩ := h
  exact ⟨hr.keep hb, n, s, hb'.keep hb, hz.below hb⟩
theorem BoxI.drewN {w : World} {r : Nat} {z : Int} (h : BoxI w r z) (q : Nat) : BoxI (w.drewN q) r z := h
theorem BoxI.other {w : World} {r r' : Nat} {z : Int} (h : BoxI w r z) (h' : RBox w r') (hne : r ≠ r') (n' : Bool) (s' : Value) : BoxI ((w.setCell ⟨r', 0, none⟩ (.bool n')).setCell ⟨r', 1, none⟩ s') r z := by
  obtain ⟨hr, n, s, hb, hz⟩ := h
  exact ⟨hr.other hne n' s', n, s, ⟨store_keep hb.1 hne, store_keep hb.2 hne⟩, hz.store h' n' s'⟩
theorem BoxI.put {w : World} {r : Nat} {z : Int} {n : Bool} {ao : Option Addr} {len cap : Nat} (hr : RBox w r) (hz : IsI w (.agg #[.bool n, .slice ao len cap]) z) :
    BoxI ((w.setCell ⟨r, 0, none⟩ (.bool n)).setCell ⟨r, 1, none⟩ (.slice ao len cap)) r z := by
  have hz' := hz.store hr n (.slice ao len cap)
  obtain ⟨⟨n0, ao0, len0, cap0, h0, h1⟩, h2, h3⟩ := hr
  have e0 : ((w.setCell ⟨r, 0, none⟩ (.bool n)).setCell ⟨r, 1, none⟩ (.slice ao len cap)).cell? ⟨r, 0, none⟩ = some (.bool n) := by
    simp [go_sem, h0]
  have e1 : ((w.setCell ⟨r, 0, none⟩ (.bool n)).setCell ⟨r, 1, none⟩ (.slice ao len cap)).cell? ⟨r, 1, none⟩ = some (.slice ao len cap) := by
    simp [go_sem, h1]
  exact ⟨⟨⟨n, ao, len, cap, e0, e1⟩, by simp [h2], by simp [h3]⟩, n, _, ⟨e0, e1⟩, hz'⟩
end Go.Proofs.YtndpjfhhigpbhaaGreat
namespace Go.Proofs.YtndpjfhhigpbhaaGreat
open Go.RowKit W
theorem q1 {α : Type} {l : List α} {i : Nat} {a : α} : l.toArray.setIfInBounds i a = (l.set i a).toArray := by simp
theorem q2 {α : Type} {x a : α} {l : List α} : (x :: l).set 0 a = a :: l := rfl
theorem q3 {α : Type} {x a : α} {l : List α} {n : Nat} : (x :: l).set (n + 1) a = x :: l.set n a := rfl
theorem AgI : Ag Tryz.prog 29 2 [.bool false, .slice none 0 0] := ⟨⟨_, Tryz.underlying29, rfl⟩, by kernel_rfl, rfl⟩
theorem svI (z : Int) : SV (fun w v => IsI w v z) where
  below := fun h hb => h.below hb
  onl := fun h hn hb => by
    obtain ⟨s, rfl, hs⟩ := h
    exact ⟨s, rfl, hs.onl hn hb⟩
/-- Value v stands for the integer z. -/
def fI (v : Value) (z : Int) : SF := fV (fun w v => IsI w v z) (svI z) v
/-- Box b holds the cells of an integer. -/
def fB (b : Nat) (n : Bool) (s : Value) : SF := fX b 29 [.bool n, s]
theorem IsI.sh {w : World} {v : Value} {z : Int} (h : IsI w v z) : ∃ n s, v = .agg #[.bool n, s] ∧ s.oneCell' = true ∧ (∀ k, s ≠ .int .u32 k) := by
  obtain ⟨s, rfl, hs⟩ := h
  obtain ⟨ao, cap, rfl, _⟩ := hs
  exact ⟨_, _, rfl, rfl, fun k h => by cases h⟩
theorem IsI.sign {w : World} {n : Bool} {s : Value} {z : Int} (h : IsI w (.agg #[.bool n, s]) z) : n = decide (z < 0) := by
  obtain ⟨t, e, _⟩ := h
  simp only [Value.agg.injEq, Array.mk.injEq, List.cons.injEq, Value.bool.injEq, and_true] at e
  exact e.1
theorem IsI.sl {w : World} {n : Bool} {s : Value} {z : Int} (h : IsI w (.agg #[.bool n, s]) z) : Sl w s (digs z.natAbs) := by
  obtain ⟨t, e, hs⟩ := h
  simp only [Value.agg.injEq, Array.mk.injEq, List.cons.injEq, Value.bool.injEq, and_true] at e
  rw [e.2]; exact hs
theorem IsI.slice {w : World} {n : Bool} {s : Value} {z : Int} (h : IsI w (.agg #[.bool n, s]) z) : ∃ ao cap, s = .slice ao (digs z.natAbs).length cap := by
  obtain ⟨ao, cap, rfl, _⟩ := h.sl
  exact ⟨ao, cap, rfl⟩
theorem one2 {n : Bool} {s : Value} (h : s.oneCell' = true) : ∀ v ∈ [.bool n, s], v.oneCell' = true := by
  intro v hv
  simp only [List.mem_cons, List.not_mem_nil, or_false] at hv
  rcases hv with rfl | rfl
  · rfl
  · exact h
theorem IsI.one {w : World} {n : Bool} {s : Value} {z : Int} (h : IsI w (.agg #[.bool n, s]) z) : ∀ v ∈ [.bool n, s], v.oneCell' = true := by
  obtain ⟨ao, cap, rfl⟩ := h.slice
  exact one2 rfl
theorem IsI.now {w : World} {n : Bool} {s : Value} {z : Int} (h : IsI w (.agg #[.bool n, s]) z) : noWs [.bool n, s] := by
  obtain ⟨ao, cap, rfl⟩ := h.slice
  intro c hc k e
  subst e
  simp at hc
theorem now0 : noWs [.bool false, .slice none 0 0] := by
  intro c hc k e
  subst e
  simp at hc
section
variable {w : World} {l : List SF}
theorem Env.i {v : Value} {z : Int} (E : Env w l) (h : IsI w v z) : Env w (fI v z :: l) := ⟨h, E⟩
theorem Env.b {b : Nat} {n : Bool} {s : Value} (E : Env w l) (h : Bx w b 29 [.bool n, s]) : Env w (fB b n s :: l) := ⟨h, E⟩
theorem Env.ww {w0 : World} (E : Env w l) (h : Below w0.heap.size w0 w) : Env w (fW w0 :: l) := ⟨h, E⟩
theorem svS (l : List Nat) : SV (fun w v => Sl w v l) where
  below := fun h hb => h.below hb
  onl := fun h hn hb => h.onl hn hb
/-- Value v is a slice that reads as the words l. -/
def fS (v : Value) (l : List Nat) : SF := fV (fun w v => Sl w v l) (svS l) v
theorem Env.s {v : Value} {L : List Nat} (E : Env w l) (h : Sl w v L) : Env w (fS v L :: l) := ⟨h, E⟩
theorem Env.nil (w : World) : Env w [] := trivial
theorem Env.get {f : SF} (E : Env w (f :: l)) : f.p w := E.1
end
section
variable {ρ : Operand → Value} {o : Oper} {w : World} {P : Program}
theorem run_move {x : Operand} {v : Value} (ho : o.op = .move x) (hx : ρ x = v) : (execOp ρ o).run P w = .ok (.value v) w := by
  unfold execOp; rw [ho]; simp [hx]
theorem run_assign {x : Operand} {v : Value} (ho : o.op = .assign x) (hx : ρ x = v) : (execOp ρ o).run P w = .ok (.value v) w := by
  unfold execOp; rw [ho]; simp [hx]
theorem run_not {t : TypeId} {x : Operand} {b : Bool} (ho : o.op = .unOp .not t x) (hx : ρ x = .bool b) : (execOp ρ o).run P w = .ok (.value (.bool !b)) w := by
  unfold execOp; rw [ho]; simp [hx, Op.unary]
theorem run_pick {c x y : Operand} {b : Bool} {v : Value} (ho : o.op = .pick c x y) (hc : ρ c = .bool b) (hx : (if b then ρ x else ρ y) = v) : (execOp ρ o).run P w = .ok (.value v) w := by
  unfold execOp; rw [ho]; simp [hc, asBool, hx]
theorem run_extract {t : Operand} {k : Nat} {vs : List Value} {v : Value} (ho : o.op = .extract t k) (hx : ρ t = .tuple vs.toArray) (hk : vs[k]? = some v) : (execOp ρ o).run P w = .ok (.value v) w := by
  unfold execOp; rw [ho]; simp [hx, Instr.extract, hk]
theorem run_fieldI0 {x : Operand} {b : Nat} (ho : o.op = .fieldAddr 29 x 0) (hx : ρ x = .pointer (some ⟨b, 0, none⟩)) : (execOp ρ o).run Tryz.prog w = .ok (.value (.pointer (some ⟨b, 0, none⟩))) w := by
  unfold execOp; rw [ho]
  simp [hx, go_sem]
theorem run_fieldI1 {x : Operand} {b : Nat} (ho : o.op = .fieldAddr 29 x 1) (hx : ρ x = .pointer (some ⟨b, 0, none⟩)) : (execOp ρ o).run Tryz.prog w = .ok (.value (.pointer (some ⟨b, 1, none⟩))) w := by
  unfold execOp; rw [ho]
  simp [hx, go_sem]
/-- A cell of a box is read, by its address. -/
theorem run_cell {T b i TB : Nat} {x : Operand} {cs : List Value} {v : Value} (ho : o.op = .load T x) (hT : ∀ w, (isAgg T).run P w = .ok false w) (hx : ρ x = .pointer (some ⟨b, i, none⟩)) (hb : Bx w b TB cs) (hi : cs[i]? = some v) :
    (execOp ρ o).run P w = .ok (.value v) w := by
  unfold execOp; rw [ho]
  have hc := (hb.cell i).trans hi
  simp [hx, Instr.loadAt, Instr.sureAddr, loadVar, hT, hc]
theorem isAgg_words (w : World) : (isAgg 27).run Tryz.prog w = .ok false w := by
  simp [go_sem]
theorem isAgg_bool (w : World) : (isAgg 4).run Tryz.prog w = .ok false w := by
  simp [go_sem]
theorem run_len {x : Operand} {ao : Option Addr} {n c : Nat} (ho : o.op = .call { callee := .builtin .len, args := #[x], argTypes := #[27] }) (hx : ρ x = .slice ao n c) : (execOp ρ o).run Tryz.prog w = .ok (.value (.int .i64 n)) w := by
  unfold execOp; rw [ho]; simp [hx, go_sem]
theorem run_eqI {t t' : TypeId} {k : IntKind} {x y : Operand} {m n : Int} {c : Bool} (ho : o.op = .binOp .eql t x y t') (hx : ρ x = .int k m) (hy : ρ y = .int k n) (hc : (m == n) = c) : (execOp ρ o).run P w = .ok (.value (.bool c)) w := by
  unfold execOp; rw [ho]; simp only [hx, hy, eqGuard_at_int, binOp_eql, hc]; rfl
theorem run_neI {t t' : TypeId} {k : IntKind} {x y : Operand} {m n : Int} {c : Bool} (ho : o.op = .binOp .neq t x y t') (hx : ρ x = .int k m) (hy : ρ y = .int k n) (hc : (m != n) = c) : (execOp ρ o).run P w = .ok (.value (.bool c)) w := by
  unfold execOp; rw [ho]; simp only [hx, hy, eqGuard_at_int, binOp_neq, hc]; rfl
theorem run_ltI {t t' : TypeId} {k : IntKind} {x y : Operand} {m n : Int} {c : Bool} (ho : o.op = .binOp .lss t x y t') (hx : ρ x = .int k m) (hy : ρ y = .int k n) (hc : decide (m < n) = c) : (execOp ρ o).run P w = .ok (.value (.bool c)) w := by
  unfold execOp; rw [ho]; simp only [hx, hy, eqGuard_at_int, binOp_lss, hc]; rfl
theorem run_leI {t t' : TypeId} {k : IntKind} {x y : Operand} {m n : Int} {c : Bool} (ho : o.op = .binOp .leq t x y t') (hx : ρ x = .int k m) (hy : ρ y = .int k n) (hc : decide (m ≤ n) = c) : (execOp ρ o).run P w = .ok (.value (.bool c)) w := by
  unfold execOp; rw [ho]; simp only [hx, hy, eqGuard_at_int, binOp_leq, hc]; rfl
theorem run_gtI {t t' : TypeId} {k : IntKind} {x y : Operand} {m n : Int} {c : Bool} (ho : o.op = .binOp .gtr t x y t') (hx : ρ x = .int k m) (hy : ρ y = .int k n) (hc : decide (m > n) = c) : (execOp ρ o).run P w = .ok (.value (.bool c)) w := by
  unfold execOp; rw [ho]; simp only [hx, hy, eqGuard_at_int, binOp_gtr, hc]; rfl
theorem run_geI {t t' : TypeId} {k : IntKind} {x y : Operand} {m n : Int} {c : Bool} (ho : o.op = .binOp .geq t x y t') (hx : ρ x = .int k m) (hy : ρ y = .int k n) (hc : decide (m ≥ n) = c) : (execOp ρ o).run P w = .ok (.value (.bool c)) w := by
  unfold execOp; rw [ho]; simp only [hx, hy, eqGuard_at_int, binOp_geq, hc]; rfl
theorem run_buildI0 (ho : o.op = .build 29 #[]) : (execOp ρ o).run Tryz.prog w = .ok (.value (.agg #[.bool false, .slice none 0 0])) w := by
  unfold execOp; rw [ho]
  have hi : (zeroValue 29).run Tryz.prog w = .ok (.agg #[.bool false, .slice none 0 0]) w := by kernel_rfl
  simp [go_sem, hi]
/-- What a result variable that lies in a box reads as. -/
theorem res_box {b n T : Nat} {cs zs : List Value} (hA : Ag P T n zs) (hb : Bx w b T cs) (hn : cs.length = n) : (loadVar T ⟨b, 0, none⟩).run P w = .ok (.agg cs.toArray) w := by
  obtain ⟨d, hd, hm⟩ := hA.u
  exact run_loadVar_row w b T T cs.toArray (0, 0) d hb hd (by cases d <;> simp_all) (by rw [hA.size]; simp [hn])
end
theorem okB {b b' : Nat} {n : Bool} {s : Value} (h : b ≠ b') : (fB b' n s).ok b := h
theorem okW {b : Nat} {w0 : World} (h : w0.heap.size ≤ b) : (fW w0).ok b := h
theorem Env.start (w : World) : Env w [fW w] := ⟨Below.refl _ _, trivial⟩
/-! ### how many words -/
theorem Fits.mono {z : Int} {m n : Nat} (h : Fits z m) (hmn : m ≤ n) : Fits z n := Nat.le_trans h hmn
theorem Fits.lt {z : Int} {m : Nat} (h : Fits z m) : z.natAbs < 4294967296 ^ m := by
  have h1 := val_lt (Wd_digs z.natAbs)
  rw [val_digs] at h1
  exact Nat.lt_of_lt_of_le h1 (Nat.pow_le_pow_right (by omega) h)
theorem Fits_lt {z : Int} {m : Nat} (h : z.natAbs < 4294967296 ^ m) : Fits z m := digs_length_le h
theorem Fits_lit {z : Int} (h : z.natAbs < 340282366920938463463374607431768211456) : Fits z 1000000000 := (Fits_lt (m := 4) (by simpa using h)).mono (by decide)
theorem Fits_neg {z : Int} {m : Nat} (h : Fits z m) : Fits (-z) m := by unfold Fits at *; rwa [Int.natAbs_neg]
theorem Fits_add {x y : Int} {m n k : Nat} (hx : Fits x m) (hy : Fits y n) (hm : m ≤ k) (hn : n ≤ k) : Fits (x + y) (k + 1) := by
  refine Fits_lt ?_
  have h1 := (hx.mono hm).lt
  have h2 := (hy.mono hn).lt
  have h3 := Int.natAbs_add_le x y
  rw [Nat.pow_succ]
  omega
theorem Fits_sub {x y : Int} {m n k : Nat} (hx : Fits x m) (hy : Fits y n) (hm : m ≤ k) (hn : n ≤ k) : Fits (x - y) (k + 1) := by
  rw [Int.sub_eq_add_neg]; exact Fits_add hx (Fits_neg hy) hm hn
theorem Fits_mul {x y : Int} {m n : Nat} (hx : Fits x m) (hy : Fits y n) : Fits (x * y) (m + n) := by
  refine Fits_lt ?_
  rw [Int.natAbs_mul, Nat.pow_add]
  exact Nat.mul_lt_mul'' hx.lt hy.lt
theorem len_eq0 {z : Int} (h : z = 0) : ((((digs z.natAbs).length : Nat) : Int) == 0) = true := by subst h; rw [Int.natAbs_zero, digs_zero]; rfl
theorem len_pos {z : Int} (h : z ≠ 0) : 0 < (digs z.natAbs).length := by
  rcases Nat.eq_zero_or_pos (digs z.natAbs).length with e | e
  · have := (digs_nil_iff z.natAbs).1 (List.eq_nil_of_length_eq_zero e); omega
  · exact e
theorem len_ne0 {z : Int} (h : z ≠ 0) : ((((digs z.natAbs).length : Nat) : Int) == 0) = false := by
  have := len_pos h
  rw [beq_eq_false_iff_ne]; omega
theorem len_gt0 {z : Int} (h : z ≠ 0) : decide ((((digs z.natAbs).length : Nat) : Int) > 0) = true := by
  have := len_pos h
  rw [decide_eq_true_eq]; omega
theorem len_ngt0 {z : Int} (h : z = 0) : decide ((((digs z.natAbs).length : Nat) : Int) > 0) = false := by subst h; rw [Int.natAbs_zero, digs_zero]; rfl
section
variable {P : Program} {o : Oper} {a : Act} {w : World} {K : Act → World → Prop} {Q : Exit → Act → World → Prop} {f : Nat} {args : List Operand} {tys : Array TypeId} {vs : List Value} {l : List SF}
theorem Oper.wp_callI {z : Int} (hf : Fn P f) (ho : o.op = .call { callee := .value (.func f), args := args.toArray, argTypes := tys }) (hc : Calls P f vs.toArray w (RetZ w z)) (hv : args.map a.eval = vs) (E : Env w l)
    (h : ∀ w' n s, Below w.heap.size w w' → Env w' (fI (.agg #[.bool n, s]) z :: l) → K (a.put o.dst (.agg #[.bool n, s])) w') : o.wp P a w K Q := by
  refine Oper.wp_call hf ho hc hv ?_
  rintro e w' ⟨v, rfl, hz, hb⟩
  obtain ⟨n, s, rfl, _⟩ := hz.sh
  exact ⟨_, rfl, h w' n s hb ⟨hz, E.below hb⟩⟩
theorem Oper.wp_callB {b : Bool} (hf : Fn P f) (ho : o.op = .call { callee := .value (.func f), args := args.toArray, argTypes := tys }) (hc : Calls P f vs.toArray w (RetB w b)) (hv : args.map a.eval = vs) (E : Env w l)
    (h : ∀ w', Below w.heap.size w w' → Env w' l → K (a.put o.dst (.bool b)) w') : o.wp P a w K Q := by
  refine Oper.wp_call hf ho hc hv ?_
  rintro e w' ⟨rfl, hb⟩
  exact ⟨_, rfl, h w' hb (E.below hb)⟩
theorem Oper.wp_callN {x : Int} (hf : Fn P f) (ho : o.op = .call { callee := .value (.func f), args := args.toArray, argTypes := tys }) (hc : Calls P f vs.toArray w (RetN w x)) (hv : args.map a.eval = vs) (E : Env w l)
    (h : ∀ w', Below w.heap.size w w' → Env w' l → K (a.put o.dst (.int .i64 x)) w') : o.wp P a w K Q := by
  refine Oper.wp_call hf ho hc hv ?_
  rintro e w' ⟨rfl, hb⟩
  exact ⟨_, rfl, h w' hb (E.below hb)⟩
theorem Oper.wp_callS {L : List Nat} (hf : Fn P f) (ho : o.op = .call { callee := .value (.func f), args := args.toArray, argTypes := tys }) (hc : Calls P f vs.toArray w (Ret w L)) (hv : args.map a.eval = vs) (E : Env w l)
    (h : ∀ w' v, Below w.heap.size w w' → Env w' (fS v L :: l) → K (a.put o.dst v) w') : o.wp P a w K Q := by
  refine Oper.wp_call hf ho hc hv ?_
  rintro e w' ⟨v, rfl, hs, hb⟩
  exact ⟨_, rfl, h w' v hb ⟨hs, E.below hb⟩⟩
theorem Oper.wp_callIE {z c : Int} (hf : Fn P f) (ho : o.op = .call { callee := .value (.func f), args := args.toArray, argTypes := tys }) (hc : Calls P f vs.toArray w (RetZE w z c)) (hv : args.map a.eval = vs) (E : Env w l)
    (h : ∀ w' n s, Below w.heap.size w w' → Env w' (fI (.agg #[.bool n, s]) z :: l) → K (a.put o.dst (.tuple #[.agg #[.bool n, s], .int .i64 c])) w') : o.wp P a w K Q := by
  refine Oper.wp_call hf ho hc hv ?_
  rintro e w' ⟨v, rfl, hz, hb⟩
  obtain ⟨n, s, rfl, _⟩ := hz.sh
  exact ⟨_, rfl, h w' n s hb ⟨hz, E.below hb⟩⟩
theorem Oper.wp_callIIE {q r c : Int} (hf : Fn P f) (ho : o.op = .call { callee := .value (.func f), args := args.toArray, argTypes := tys }) (hc : Calls P f vs.toArray w (RetDM w q r c)) (hv : args.map a.eval = vs) (E : Env w l)
    (h : ∀ w' n s m t, Below w.heap.size w w' → Env w' (fI (.agg #[.bool m, t]) r :: fI (.agg #[.bool n, s]) q :: l) → K (a.put o.dst (.tuple #[.agg #[.bool n, s], .agg #[.bool m, t], .int .i64 c])) w') : o.wp P a w K Q := by
  refine Oper.wp_call hf ho hc hv ?_
  rintro e w' ⟨v, u, rfl, hz, hr, hb⟩
  obtain ⟨n, s, rfl, _⟩ := hz.sh
  obtain ⟨m, t, rfl, _⟩ := hr.sh
  exact ⟨_, rfl, h w' n s m t hb ⟨hr, hz, E.below hb⟩⟩
theorem Oper.wp_callSm {x : Int} {b : Bool} (hf : Fn P f) (ho : o.op = .call { callee := .value (.func f), args := args.toArray, argTypes := tys }) (hc : Calls P f vs.toArray w (RetS w x b)) (hv : args.map a.eval = vs) (E : Env w l)
    (h : ∀ w', Below w.heap.size w w' → Env w' l → K (a.put o.dst (.tuple #[.int .i64 x, .bool b])) w') : o.wp P a w K Q := by
  refine Oper.wp_call hf ho hc hv ?_
  rintro e w' ⟨rfl, hb⟩
  exact ⟨_, rfl, h w' hb (E.below hb)⟩
end
theorem qput {Q : Exit → Act → World → Prop} (h : ∀ d v c a w, Q (.panic c) (a.put d v) w → Q (.panic c) a w) : ∀ d v c a w, Q (.panic c) (a.put d v) w → Q (.panic c) a w := h
theorem Act.put_defers' (a : Act) (d : Option Tmp) (v : Value) : (a.put d v).defers = a.defers := by cases d <;> rfl
end Go.Proofs.YtndpjfhhigpbhaaGreat
