/- Helping facts of BoxI; no other conditions. Helping facts of Ref1; no other conditions. Helping facts of TxtM; no other conditions. -/
import Derived.Test.YtmppigbbkjepiaaGreatDoorFnsS
namespace Go.Proofs.YtmppigbbkjepiaaGreatDoor
open Go.Proofs.Tryz
open Go.RowKit W
def BoxI (w : World) (r : Nat) (z : Int) : Prop := RBox w r ∧ ∃ n s, Box w r n s ∧ IsI w (.agg #[.bool n, s]) z
theorem BoxI.cells {w : World} {r : Nat} {z : Int} (h : BoxI w r z) : ∃ (ao : Option Addr) (cap : Nat), w.cell? ⟨r, 0, none⟩ = some (.bool (decide (z < 0))) ∧ w.cell? ⟨r, 1, none⟩ = some (.slice ao (CC z.natAbs).length cap) ∧
    IsI w (.agg #[.bool (decide (z < 0)), .slice ao (CC z.natAbs).length cap]) z ∧ w.frozen? ⟨r, 0, none⟩ = false ∧ w.frozen? ⟨r, 1, none⟩ = false := by
  obtain ⟨k, n, s, l, f⟩ := h
  obtain ⟨ao, cap, e, _⟩ := f.parts
  simp only [Value.agg.injEq, Array.mk.injEq, List.cons.injEq, Value.bool.injEq, and_true] at e
  obtain ⟨rfl, rfl⟩ := e
  exact ⟨ao, cap, l.1, l.2, f, k.2.1, k.2.2⟩
theorem BoxI.lt {w : World} {r : Nat} {z : Int} (h : BoxI w r z) : r < w.heap.size := by
  obtain ⟨k, f, e, _⟩ := h.cells
  exact dE e
theorem BoxI.keep {w w1 : World} {r : Nat} {z : Int} (h : BoxI w r z) (hb : Below w.heap.size w w1) : BoxI w1 r z := by
  obtain ⟨k, n, s, e, f⟩ := h
  exact ⟨k.keep hb, n, s, e.keep hb, f.below hb⟩
theorem BoxI.drewN {w : World} {r : Nat} {z : Int} (h : BoxI w r z) (q : Nat) : BoxI (w.drewN q) r z := h
theorem BoxI.other {w : World} {r r' : Nat} {z : Int} (h : BoxI w r z) (h' : RBox w r') (hne : r ≠ r') (n' : Bool) (s' : Value) : BoxI ((w.setCell ⟨r', 0, none⟩ (.bool n')).setCell ⟨r', 1, none⟩ s') r z := by
  obtain ⟨k, n, s, e, f⟩ := h
  exact ⟨k.other hne n' s', n, s, ⟨LR e.1 hne, LR e.2 hne⟩, f.store h' n' s'⟩
theorem BoxI.put {w : World} {r : Nat} {z : Int} {n : Bool} {ao : Option Addr} {len cap : Nat} (hr : RBox w r) (hz : IsI w (.agg #[.bool n, .slice ao len cap]) z) :
    BoxI ((w.setCell ⟨r, 0, none⟩ (.bool n)).setCell ⟨r, 1, none⟩ (.slice ao len cap)) r z := by
  have e := hz.store hr n (.slice ao len cap)
  obtain ⟨⟨t, q, f, h, p, o⟩, l, k⟩ := hr
  have e0 : ((w.setCell ⟨r, 0, none⟩ (.bool n)).setCell ⟨r, 1, none⟩ (.slice ao len cap)).cell? ⟨r, 0, none⟩ = some (.bool n) := by
    simp [go_sem, p]
  have e1 : ((w.setCell ⟨r, 0, none⟩ (.bool n)).setCell ⟨r, 1, none⟩ (.slice ao len cap)).cell? ⟨r, 1, none⟩ = some (.slice ao len cap) := by
    simp [go_sem, o]
  exact ⟨⟨⟨n, ao, len, cap, e0, e1⟩, by simp [l], by simp [k]⟩, n, _, ⟨e0, e1⟩, e⟩
end Go.Proofs.YtmppigbbkjepiaaGreatDoor
namespace Go.Proofs.YtmppigbbkjepiaaGreatDoor
open Go.Proofs.Tryz
open Go.RowKit W
theorem q1 {α : Type} {l : List α} {i : Nat} {a : α} : l.toArray.setIfInBounds i a = (l.set i a).toArray := by simp
theorem q2 {α : Type} {x a : α} {l : List α} : (x :: l).set 0 a = a :: l := rfl
theorem q3 {α : Type} {x a : α} {l : List α} {n : Nat} : (x :: l).set (n + 1) a = x :: l.set n a := rfl
theorem FU : Ag prog 62 2 [.bool false, .slice none 0 0] := ⟨⟨_, underlying62, rfl⟩, by kernel_rfl, rfl⟩
theorem svI (z : Int) : SV (fun w v => IsI w v z) where
  below := fun h hb => h.below hb
  onl := fun h hn hb => by
    obtain ⟨s, rfl, hs⟩ := h
    exact ⟨s, rfl, hs.onl hn hb⟩
def fI (v : Value) (z : Int) : SF := fV (fun w v => IsI w v z) (svI z) v
def fB (b : Nat) (n : Bool) (s : Value) : SF := fX b 62 [.bool n, s]
theorem IsI.sh {w : World} {v : Value} {z : Int} (h : IsI w v z) : ∃ n s, v = .agg #[.bool n, s] ∧ s.oneCell' = true ∧ (∀ k, s ≠ .int .u32 k) := by
  obtain ⟨s, rfl, e⟩ := h
  obtain ⟨l, f, rfl, _⟩ := e
  exact ⟨_, _, rfl, rfl, fun k h => by cases h⟩
theorem KV {w : World} {n : Bool} {s : Value} {z : Int} (h : IsI w (.agg #[.bool n, s]) z) : n = decide (z < 0) := by
  obtain ⟨t, e, _⟩ := h
  simp only [Value.agg.injEq, Array.mk.injEq, List.cons.injEq, Value.bool.injEq, and_true] at e
  exact e.1
theorem IsI.sl {w : World} {n : Bool} {s : Value} {z : Int} (h : IsI w (.agg #[.bool n, s]) z) : Sl w s (CC z.natAbs) := by
  obtain ⟨t, e, f⟩ := h
  simp only [Value.agg.injEq, Array.mk.injEq, List.cons.injEq, Value.bool.injEq, and_true] at e
  rw [e.2]; exact f
theorem IsI.slice {w : World} {n : Bool} {s : Value} {z : Int} (h : IsI w (.agg #[.bool n, s]) z) : ∃ ao cap, s = .slice ao (CC z.natAbs).length cap := by
  obtain ⟨ao, cap, rfl, _⟩ := h.sl
  exact ⟨ao, cap, rfl⟩
theorem one2 {n : Bool} {s : Value} (h : s.oneCell' = true) : ∀ v ∈ [.bool n, s], v.oneCell' = true := by
  intro v e
  simp only [List.mem_cons, List.not_mem_nil, or_false] at e
  rcases e with rfl | rfl
  · rfl
  · exact h
theorem IsI.one {w : World} {n : Bool} {s : Value} {z : Int} (h : IsI w (.agg #[.bool n, s]) z) : ∀ v ∈ [.bool n, s], v.oneCell' = true := by
  obtain ⟨f, e, rfl⟩ := h.slice
  exact one2 rfl
theorem IsI.now {w : World} {n : Bool} {s : Value} {z : Int} (h : IsI w (.agg #[.bool n, s]) z) : SJ [.bool n, s] := by
  obtain ⟨o, l, rfl⟩ := h.slice
  intro c f k e
  subst e
  simp at f
theorem FM : SJ [.bool false, .slice none 0 0] := by
  intro c f k e
  subst e
  simp at f
section
variable {w : World} {l : List SF}
theorem Env.i {v : Value} {z : Int} (E : Env w l) (h : IsI w v z) : Env w (fI v z :: l) := ⟨h, E⟩
theorem Env.b {b : Nat} {n : Bool} {s : Value} (E : Env w l) (h : Bx w b 62 [.bool n, s]) : Env w (fB b n s :: l) := ⟨h, E⟩
theorem Env.ww {w0 : World} (E : Env w l) (h : Below w0.heap.size w0 w) : Env w (fW w0 :: l) := ⟨h, E⟩
theorem svS (l : List Nat) : SV (fun w v => Sl w v l) where
  below := fun h hb => h.below hb
  onl := fun h hn hb => h.onl hn hb
def fS (v : Value) (l : List Nat) : SF := fV (fun w v => Sl w v l) (svS l) v
theorem Env.s {v : Value} {L : List Nat} (E : Env w l) (h : Sl w v L) : Env w (fS v L :: l) := ⟨h, E⟩
theorem Env.nil (w : World) : Env w [] := trivial
theorem Env.get {f : SF} (E : Env w (f :: l)) : f.p w := E.1
end
section
variable {ρ : Operand → Value} {o : Oper} {w : World} {P : Program}
theorem GE {x : Operand} {v : Value} (ho : o.op = .move x) (hx : ρ x = v) : (execOp ρ o).run P w = .ok (.value v) w := by
  unfold execOp; rw [ho]; simp [hx]
theorem KH {x : Operand} {v : Value} (ho : o.op = .assign x) (hx : ρ x = v) : (execOp ρ o).run P w = .ok (.value v) w := by
  unfold execOp; rw [ho]; simp [hx]
theorem UY {t : TypeId} {x : Operand} {b : Bool} (ho : o.op = .unOp .not t x) (hx : ρ x = .bool b) : (execOp ρ o).run P w = .ok (.value (.bool !b)) w := by
  unfold execOp; rw [ho]; simp [hx, Op.unary]
theorem Kh {c x y : Operand} {b : Bool} {v : Value} (ho : o.op = .pick c x y) (hc : ρ c = .bool b) (hx : (if b then ρ x else ρ y) = v) : (execOp ρ o).run P w = .ok (.value v) w := by
  unfold execOp; rw [ho]; simp [hc, asBool, hx]
theorem XA {t : Operand} {k : Nat} {vs : List Value} {v : Value} (ho : o.op = .extract t k) (hx : ρ t = .tuple vs.toArray) (hk : vs[k]? = some v) : (execOp ρ o).run P w = .ok (.value v) w := by
  unfold execOp; rw [ho]; simp [hx, Instr.extract, hk]
theorem tG {x : Operand} {b : Nat} (ho : o.op = .fieldAddr 62 x 0) (hx : ρ x = .pointer (some ⟨b, 0, none⟩)) : (execOp ρ o).run prog w = .ok (.value (.pointer (some ⟨b, 0, none⟩))) w := by
  unfold execOp; rw [ho]
  simp [hx, go_sem]
theorem tF {x : Operand} {b : Nat} (ho : o.op = .fieldAddr 62 x 1) (hx : ρ x = .pointer (some ⟨b, 0, none⟩)) : (execOp ρ o).run prog w = .ok (.value (.pointer (some ⟨b, 1, none⟩))) w := by
  unfold execOp; rw [ho]
  simp [hx, go_sem]
theorem CP {T b i TB : Nat} {x : Operand} {cs : List Value} {v : Value} (ho : o.op = .load T x) (hT : ∀ w, (isAgg T).run P w = .ok false w) (hx : ρ x = .pointer (some ⟨b, i, none⟩)) (hb : Bx w b TB cs) (hi : cs[i]? = some v) :
    (execOp ρ o).run P w = .ok (.value v) w := by
  unfold execOp; rw [ho]
  have e := (hb.cell i).trans hi
  simp [hx, Instr.loadAt, Instr.sureAddr, loadVar, hT, e]
theorem uL (w : World) : (isAgg 60).run prog w = .ok false w := by
  simp [go_sem]
theorem aJ (w : World) : (isAgg 4).run prog w = .ok false w := by
  simp [go_sem]
theorem ST {x : Operand} {ao : Option Addr} {n c : Nat} (ho : o.op = .call { callee := .builtin .len, args := #[x], argTypes := #[60] }) (hx : ρ x = .slice ao n c) : (execOp ρ o).run prog w = .ok (.value (.int .i64 n)) w := by
  unfold execOp; rw [ho]; simp [hx, go_sem]
theorem EW {t t' : TypeId} {k : IntKind} {x y : Operand} {m n : Int} {c : Bool} (ho : o.op = .binOp .eql t x y t') (hx : ρ x = .int k m) (hy : ρ y = .int k n) (hc : (m == n) = c) : (execOp ρ o).run P w = .ok (.value (.bool c)) w := by
  unfold execOp; rw [ho]; simp only [hx, hy, eqGuard_at_int, binOp_eql, hc]; rfl
theorem UZ {t t' : TypeId} {k : IntKind} {x y : Operand} {m n : Int} {c : Bool} (ho : o.op = .binOp .neq t x y t') (hx : ρ x = .int k m) (hy : ρ y = .int k n) (hc : (m != n) = c) : (execOp ρ o).run P w = .ok (.value (.bool c)) w := by
  unfold execOp; rw [ho]; simp only [hx, hy, eqGuard_at_int, binOp_neq, hc]; rfl
theorem PN {t t' : TypeId} {k : IntKind} {x y : Operand} {m n : Int} {c : Bool} (ho : o.op = .binOp .lss t x y t') (hx : ρ x = .int k m) (hy : ρ y = .int k n) (hc : decide (m < n) = c) : (execOp ρ o).run P w = .ok (.value (.bool c)) w := by
  unfold execOp; rw [ho]; simp only [hx, hy, eqGuard_at_int, binOp_lss, hc]; rfl
theorem PO {t t' : TypeId} {k : IntKind} {x y : Operand} {m n : Int} {c : Bool} (ho : o.op = .binOp .leq t x y t') (hx : ρ x = .int k m) (hy : ρ y = .int k n) (hc : decide (m ≤ n) = c) : (execOp ρ o).run P w = .ok (.value (.bool c)) w := by
  unfold execOp; rw [ho]; simp only [hx, hy, eqGuard_at_int, binOp_leq, hc]; rfl
theorem VB {t t' : TypeId} {k : IntKind} {x y : Operand} {m n : Int} {c : Bool} (ho : o.op = .binOp .gtr t x y t') (hx : ρ x = .int k m) (hy : ρ y = .int k n) (hc : decide (m > n) = c) : (execOp ρ o).run P w = .ok (.value (.bool c)) w := by
  unfold execOp; rw [ho]; simp only [hx, hy, eqGuard_at_int, binOp_gtr, hc]; rfl
theorem Px {t t' : TypeId} {k : IntKind} {x y : Operand} {m n : Int} {c : Bool} (ho : o.op = .binOp .geq t x y t') (hx : ρ x = .int k m) (hy : ρ y = .int k n) (hc : decide (m ≥ n) = c) : (execOp ρ o).run P w = .ok (.value (.bool c)) w := by
  unfold execOp; rw [ho]; simp only [hx, hy, eqGuard_at_int, binOp_geq, hc]; rfl
theorem tM (ho : o.op = .build 62 #[]) : (execOp ρ o).run prog w = .ok (.value (.agg #[.bool false, .slice none 0 0])) w := by
  unfold execOp; rw [ho]
  have e : (zeroValue 62).run prog w = .ok (.agg #[.bool false, .slice none 0 0]) w := by kernel_rfl
  simp [go_sem, e]
theorem CY {b n T : Nat} {cs zs : List Value} (hA : Ag P T n zs) (hb : Bx w b T cs) (hn : cs.length = n) : (loadVar T ⟨b, 0, none⟩).run P w = .ok (.agg cs.toArray) w := by
  obtain ⟨d, e, f⟩ := hA.u
  exact run_loadVar_row w b T T cs.toArray (0, 0) d hb e (by cases d <;> simp_all) (by rw [hA.size]; simp [hn])
end
theorem okB {b b' : Nat} {n : Bool} {s : Value} (h : b ≠ b') : (fB b' n s).ok b := h
theorem IS {b : Nat} {w0 : World} (h : w0.heap.size ≤ b) : (fW w0).ok b := h
theorem Env.start (w : World) : Env w [fW w] := ⟨Below.refl _ _, BX⟩
theorem Fits.mono {z : Int} {m n : Nat} (h : Fits z m) (hmn : m ≤ n) : Fits z n := Nat.le_trans h hmn
theorem Fits.lt {z : Int} {m : Nat} (h : Fits z m) : z.natAbs < 4294967296 ^ m := by
  have e := GI (FO z.natAbs)
  rw [CN] at e
  exact Nat.lt_of_lt_of_le e (Nat.pow_le_pow_right AA h)
theorem MO {z : Int} {m : Nat} (h : z.natAbs < 4294967296 ^ m) : Fits z m := IM h
theorem wF {z : Int} {m : Nat} (h : Fits z m) : Fits (-z) m := by unfold Fits at *; rwa [Int.natAbs_neg]
theorem dT {x y : Int} {m n k : Nat} (hx : Fits x m) (hy : Fits y n) (hm : m ≤ k) (hn : n ≤ k) : Fits (x + y) (k + 1) := by
  refine MO ?_
  have h := (hx.mono hm).lt
  have f := (hy.mono hn).lt
  have e := Int.natAbs_add_le x y
  rw [Nat.pow_succ]
  omega
theorem GK {x y : Int} {m n : Nat} (hx : Fits x m) (hy : Fits y n) : Fits (x * y) (m + n) := by
  refine MO ?_
  rw [Int.natAbs_mul, Nat.pow_add]
  exact Nat.mul_lt_mul'' hx.lt hy.lt
theorem Cj {z : Int} (h : z ≠ 0) : 0 < (CC z.natAbs).length := by
  rcases Nat.eq_zero_or_pos (CC z.natAbs).length with e | e
  · have := (FH z.natAbs).1 (List.eq_nil_of_length_eq_zero e); omega
  · exact e
theorem qX {z : Int} (h : z ≠ 0) : ((((CC z.natAbs).length : Nat) : Int) == 0) = false := by
  have := Cj h
  rw [beq_eq_false_iff_ne]; omega
section
variable {P : Program} {o : Oper} {a : Act} {w : World} {K : Act → World → Prop} {Q : Exit → Act → World → Prop} {f : Nat} {args : List Operand} {tys : Array TypeId} {vs : List Value} {l : List SF}
theorem CH {z : Int} (hf : Fn P f) (ho : o.op = .call { callee := .value (.func f), args := args.toArray, argTypes := tys }) (hc : Calls P f vs.toArray w (RetZ w z)) (hv : args.map a.eval = vs) (E : Env w l)
    (h : ∀ w' n s, Below w.heap.size w w' → Env w' (fI (.agg #[.bool n, s]) z :: l) → K (a.put o.dst (.agg #[.bool n, s])) w') : o.wp P a w K Q := by
  refine DB hf ho hc hv ?_
  rintro e w' ⟨v, rfl, k, p⟩
  obtain ⟨n, s, rfl, _⟩ := k.sh
  exact ⟨_, rfl, h w' n s p ⟨k, E.below p⟩⟩
theorem CA {b : Bool} (hf : Fn P f) (ho : o.op = .call { callee := .value (.func f), args := args.toArray, argTypes := tys }) (hc : Calls P f vs.toArray w (NP w b)) (hv : args.map a.eval = vs) (E : Env w l)
    (h : ∀ w', Below w.heap.size w w' → Env w' l → K (a.put o.dst (.bool b)) w') : o.wp P a w K Q := by
  refine DB hf ho hc hv ?_
  rintro e w' ⟨rfl, k⟩
  exact ⟨_, rfl, h w' k (E.below k)⟩
theorem CK {x : Int} (hf : Fn P f) (ho : o.op = .call { callee := .value (.func f), args := args.toArray, argTypes := tys }) (hc : Calls P f vs.toArray w (dK w x)) (hv : args.map a.eval = vs) (E : Env w l)
    (h : ∀ w', Below w.heap.size w w' → Env w' l → K (a.put o.dst (.int .i64 x)) w') : o.wp P a w K Q := by
  refine DB hf ho hc hv ?_
  rintro e w' ⟨rfl, k⟩
  exact ⟨_, rfl, h w' k (E.below k)⟩
theorem ER {L : List Nat} (hf : Fn P f) (ho : o.op = .call { callee := .value (.func f), args := args.toArray, argTypes := tys }) (hc : Calls P f vs.toArray w (Ae w L)) (hv : args.map a.eval = vs) (E : Env w l)
    (h : ∀ w' v, Below w.heap.size w w' → Env w' (fS v L :: l) → K (a.put o.dst v) w') : o.wp P a w K Q := by
  refine DB hf ho hc hv ?_
  rintro e w' ⟨v, rfl, p, k⟩
  exact ⟨_, rfl, h w' v k ⟨p, E.below k⟩⟩
theorem DO {z c : Int} (hf : Fn P f) (ho : o.op = .call { callee := .value (.func f), args := args.toArray, argTypes := tys }) (hc : Calls P f vs.toArray w (RetZE w z c)) (hv : args.map a.eval = vs) (E : Env w l)
    (h : ∀ w' n s, Below w.heap.size w w' → Env w' (fI (.agg #[.bool n, s]) z :: l) → K (a.put o.dst (.tuple #[.agg #[.bool n, s], .int .i64 c])) w') : o.wp P a w K Q := by
  refine DB hf ho hc hv ?_
  rintro e w' ⟨v, rfl, k, p⟩
  obtain ⟨n, s, rfl, _⟩ := k.sh
  exact ⟨_, rfl, h w' n s p ⟨k, E.below p⟩⟩
theorem iF {q r c : Int} (hf : Fn P f) (ho : o.op = .call { callee := .value (.func f), args := args.toArray, argTypes := tys }) (hc : Calls P f vs.toArray w (RetDM w q r c)) (hv : args.map a.eval = vs) (E : Env w l)
    (h : ∀ w' n s m t, Below w.heap.size w w' → Env w' (fI (.agg #[.bool m, t]) r :: fI (.agg #[.bool n, s]) q :: l) → K (a.put o.dst (.tuple #[.agg #[.bool n, s], .agg #[.bool m, t], .int .i64 c])) w') : o.wp P a w K Q := by
  refine DB hf ho hc hv ?_
  rintro e w' ⟨v, u, rfl, k, p, y⟩
  obtain ⟨n, s, rfl, _⟩ := k.sh
  obtain ⟨m, t, rfl, _⟩ := p.sh
  exact ⟨_, rfl, h w' n s m t y ⟨p, k, E.below y⟩⟩
theorem OV {x : Int} {b : Bool} (hf : Fn P f) (ho : o.op = .call { callee := .value (.func f), args := args.toArray, argTypes := tys }) (hc : Calls P f vs.toArray w (RetS w x b)) (hv : args.map a.eval = vs) (E : Env w l)
    (h : ∀ w', Below w.heap.size w w' → Env w' l → K (a.put o.dst (.tuple #[.int .i64 x, .bool b])) w') : o.wp P a w K Q := by
  refine DB hf ho hc hv ?_
  rintro e w' ⟨rfl, k⟩
  exact ⟨_, rfl, h w' k (E.below k)⟩
end
theorem WC (a : Act) (d : Option Tmp) (v : Value) : (a.put d v).defers = a.defers := by cases d <;> rfl
theorem AL {A B : Prop} (h : A) (e : B = A := by first | (simp only [q2,q3]; exact O) | exact O) : B := e.mpr h
theorem AM {A B : Prop} (h : A) (e : B = A := by simp only [Act.put,q1,q2,q3]; exact O) : B := e.mpr h
def BK (l : Array Value) : Operand → Option Value
  | .tmp t => l.toList[t]?
  | .const v => some v
  | _ => none
theorem BL {a : Act} {x : Operand} {v : Value} (h : BK a.tmps x = some v) : a.eval x = v := by
  cases x <;> simp_all [BK, Act.eval]
theorem BU {P : Program} {ops : Array Oper} {Q : Exit → Act → World → Prop} {rest : List Oper} {o : Oper} {a : Act} {w : World} {v : Value} {x : Operand} (hg : Region.wanted o (yielded ops a.tmps) = true) (g : o.op = .move x ∧ BK a.tmps x = some v) (h : wpList P ops Q rest (a.put o.dst v) w) : wpList P ops Q (o :: rest) a w := LV hg (GE g.1 (BL g.2)) h
theorem BV {P : Program} {ops : Array Oper} {Q : Exit → Act → World → Prop} {rest : List Oper} {o : Oper} {a : Act} {w : World} {v : Value} {x : Operand} (hg : Region.wanted o (yielded ops a.tmps) = true) (g : o.op = .assign x ∧ BK a.tmps x = some v) (h : wpList P ops Q rest (a.put o.dst v) w) : wpList P ops Q (o :: rest) a w := LV hg (KH g.1 (BL g.2)) h
end Go.Proofs.YtmppigbbkjepiaaGreatDoor
set_option maxHeartbeats 1000000
namespace Go.Proofs.YtmppigbbkjepiaaGreatDoor
open Go.Proofs.Tryz
open Go.RowKit W
theorem Fs (ao : Option Addr) (cap : Nat) (l : List Nat) (w : World) (hlc : l.length ≤ cap) (hcm : cap ≤ maxLen)
    (hc : ∀ i, i < l.length → ∃ b off, ao = some ⟨b, off, none⟩ ∧ w.cell? ⟨b, off + i, none⟩ = some (.int .u32 ↑(gd l i))) :
    Calls prog 149 #[.slice ao l.length cap] w fun e w' => e = .returned (.slice ao (FR l).length cap) ∧ w = w' := by
  have HC := Lib.hid hc
  clear hc
  unfold maxLen at hcm
  go_enter func149, ntmps149
  go_wp2
  go_loop [3] (fun n => ∃ k : Nat, k ≤ l.length ∧ Hid (FR (l.take k) = FR l) ∧ n = .int .i64 k) (fun n => (intOf n).toNat)
  case atStart => exact ⟨l.length, Nat.le_refl _, by rw [List.take_length]; rfl, rfl⟩
  case round =>
    obtain ⟨k, hk, ht, rfl⟩ := hrel
    by_cases hk0 : k = 0
    · subst hk0
      go_wp2
      go_ret
      have : FR l = [] := by rw [← ht.out]; rfl
      exact ⟨by rw [this]; rfl, rfl⟩
    · obtain ⟨j, rfl⟩ : ∃ j, k = j + 1 := ⟨k - 1, by omega⟩
      clear hk0
      obtain ⟨b, off, rfl, hc⟩ := HC.out j AA
      by_cases hz : gd l j = 0
      · rw [hz] at hc
        have HT : Hid (FR (l.take j) = FR l) := by rw [← ht.out, nF l j AA hz]; rfl
        clear hz ht
        go_wp2
        go_round
        case rel => exact ⟨j, by omega, HT, by go_num⟩
        case measure => simp [intOf]
      · have HT : (FR l).length = j + 1 := by rw [← ht.out]; exact nE l j AA hz
        have hz' : (((gd l j : Nat) : Int) == 0) = false := by simpa using hz
        go_wp2
        go_ret
        exact ⟨rfl, rfl⟩
theorem PW (v : Value) (l : List Nat) (w : World) (h : Sl w v l) :
    Calls prog 149 #[v] w fun e w' => w = w' ∧ ∃ v', e = .returned v' ∧ ∀ w2, Sl w2 v l → Sl w2 v' (CC (val l)) := by
  obtain ⟨u, k, rfl, H, q, p, z, G⟩ := h
  refine (Fs u k l w H q G).mono fun e w' ⟨he, hw⟩ => ⟨hw, _, he, ?_⟩
  rintro w2 ⟨J, t, I, P, N, L, kn, y⟩
  cases I
  rw [← TZ p]
  have B := IX l
  have f := jJ l
  refine ⟨u, k, O, by omega, q, by rw [f]; exact OT p _, z, fun i C => ?_⟩
  obtain ⟨b, o, F, D⟩ := y i AA
  refine ⟨b, o, F, ?_⟩
  rw [f, cR _ _ _ C]; exact D
theorem QZ (m : Nat) (w : World) (h : m < 18446744073709551616) :
    Calls prog 106 #[.int .u64 m] w (Ae w (CC m)) := by
  go_enter func106, ntmps106
  have l := nB m h
  have k := Lib.hid l
  clear l
  go_wp2_with fail
  refine (PW _ _ _ (iX w _ _ (m % 4294967296) (m / 4294967296) AA AA k.out.1)).mono ?_
  rintro e p ⟨rfl, o, rfl, f⟩
  have f := f _ (iX w ((m : Int) % 4294967296) ((m : Int) / 4294967296) (m % 4294967296) (m / 4294967296) AA AA k.out.1)
  rw [k.out.2] at f
  go_wp2
  go_ret
  exact ⟨o, rfl, f, (Below.refl _ _).alloc (Nat.le_refl _) _⟩
theorem qR (neg : Bool) (v : Value) (l : List Nat) (z : Int) (w : World) (h : Sl w v l) (hz : GY neg (val l) = z) :
    Calls prog 105 #[.bool neg, v] w (RetZ w z) := by
  subst hz
  have H := Lib.hid h
  clear h
  go_enter func105, ntmps105
  go_wp2_with fail
  refine (PW _ l _ (H.out.below ((Below.refl _ _).alloc (Nat.le_refl _) _))).mono ?_
  rintro e B ⟨rfl, C, rfl, k⟩
  obtain ⟨o, f, rfl, G, F, D, u, y⟩ := k w H.out
  have t := Lib.hid k
  clear k y u
  by_cases hz : val l = 0
  · have q : (CC (val l)).length = 0 := by rw [hz, DW]; rfl
    have p := Lib.hid hz
    clear hz q
    cases neg
    all_goals
      go_wp2
      refine AQ (v := .agg #[.bool false, .slice o (CC (val l)).length f]) (by first | (simp [results, results105, go_sem]; done) | (simp [results, results105, go_sem]; exact (FH _).2 p.out)) O ⟨_, O, ⟨.slice o (CC (val l)).length f, ?_, ?_⟩, (Below.refl _ _).alloc (Nat.le_refl _) _⟩
      · rw [p.out, eK]; rfl
      · rw [bL]
        exact t.out _ (H.out.below ((Below.refl _ _).alloc (Nat.le_refl _) _))
  · have q : (CC (val l)).length ≠ 0 := fun e => hz ((FH _).1 (List.eq_nil_of_length_eq_zero e))
    have p := Lib.hid hz
    clear hz q
    cases neg
    · go_wp2
      refine AQ (v := .agg #[.bool false, .slice o (CC (val l)).length f]) (by simp [results, results105, go_sem]) O ⟨_, O, ⟨.slice o (CC (val l)).length f, ?_, ?_⟩, (Below.refl _ _).alloc (Nat.le_refl _) _⟩
      · rw [pR _ _ p.out]
      · rw [bL]
        exact t.out _ (H.out.below ((Below.refl _ _).alloc (Nat.le_refl _) _))
    · go_wp2
      refine AQ (v := .agg #[.bool true, .slice o (CC (val l)).length f]) (by simp [results, results105, go_sem]; exact Nat.pos_of_ne_zero fun e => p.out ((FH _).1 (List.eq_nil_of_length_eq_zero e))) O ⟨_, O, ⟨.slice o (CC (val l)).length f, ?_, ?_⟩, (Below.refl _ _).alloc (Nat.le_refl _) _⟩
      · rw [pR _ _ p.out]
      · rw [bL]
        exact t.out _ (H.out.below ((Below.refl _ _).alloc (Nat.le_refl _) _))
end Go.Proofs.YtmppigbbkjepiaaGreatDoor
namespace Go.Proofs.YtmppigbbkjepiaaGreatDoor
open Go.Proofs.Tryz
open Go.RowKit W
theorem dN (n : Int) (w : World) (h1 : -9223372036854775808 ≤ n) (h2 : n ≤ 9223372036854775807) :
    Calls prog 58 #[.int .i64 n] w (RetZ w n) := by
  obtain ⟨W, G, a0, C, R⟩ := Dk w
  have T := Lib.hid R
  clear R
  by_cases hn : n < 0
  · obtain ⟨k, S⟩ : ∃ k : Nat, -(n + 1) = (k : Int) := ⟨(-(n + 1)).natAbs, by omega⟩
    have l : GY true (k + 1) = n := by simp [GY]; omega
    have P := Lib.hid l
    have a1 : k < 9223372036854775808 := by omega
    have HK := Lib.hid S
    clear l S
    go_enter func58, ntmps58
    go_upto_region 1 with fail
    rw [← G]
    clear G
    go_wp2_with fail
    rw [show -(n + 1) + 1 = ((k + 1 : Nat) : Int) by have := HK.out; omega]
    refine (QZ (k + 1) _ AA).mono ?_
    rintro e U ⟨Y, rfl, t, h⟩
    go_wp2_with fail
    obtain ⟨z, f⟩ : ∃ z : Int, z = n := ⟨_, rfl⟩
    rw [← f] at P ⊢
    have y := Lib.hid f
    clear f hn h1 h2
    refine (qR _ _ _ z _ t (by rw [CN]; exact P.out)).mono ?_
    rintro e H ⟨X, rfl, l, p⟩
    obtain ⟨u, q, rfl, I, _, _⟩ := l.parts
    have o := (T.out.keep h).keep p
    have B := Lib.hid o
    obtain ⟨⟨n0, N, D, F, L, J⟩, g2, g3⟩ := o
    have Q : Below w.heap.size w H := (C.trans (h.mono C.size)).trans (p.mono (Nat.le_trans C.size h.size))
    go_wp2_with fail
    refine AQ (v := .agg #[.bool (decide (z < 0)), .slice u (CC z.natAbs).length q]) ?_ O ((SY l B.out Q AA).eq y.out)
    simp [results, results58, go_sem, L, J]
  · obtain ⟨k, rfl⟩ : ∃ k : Nat, n = (k : Int) := ⟨n.natAbs, by omega⟩
    have l : GY false k = (k : Int) := rfl
    have P := Lib.hid l
    go_enter func58, ntmps58
    go_upto_region 1 with fail
    rw [← G]
    clear G
    go_wp2_with fail
    refine (QZ k _ AA).mono ?_
    rintro e U ⟨Y, rfl, t, h⟩
    go_wp2_with fail
    obtain ⟨z, f⟩ : ∃ z : Int, z = (k : Int) := ⟨_, rfl⟩
    rw [← f]
    refine (qR _ _ _ z _ t (by rw [CN, f]; rfl)).mono ?_
    have y := Lib.hid f
    clear f l
    rintro e H ⟨X, rfl, l, p⟩
    obtain ⟨u, q, rfl, I, _, _⟩ := l.parts
    have o := (T.out.keep h).keep p
    have B := Lib.hid o
    obtain ⟨⟨n0, N, D, F, L, J⟩, g2, g3⟩ := o
    have Q : Below w.heap.size w H := (C.trans (h.mono C.size)).trans (p.mono (Nat.le_trans C.size h.size))
    go_wp2_with fail
    refine AQ (v := .agg #[.bool (decide (z < 0)), .slice u (CC z.natAbs).length q]) ?_ O ((SY l B.out Q AA).eq y.out)
    simp [results, results58, go_sem, L, J]
end Go.Proofs.YtmppigbbkjepiaaGreatDoor
namespace Go.Proofs.YtmppigbbkjepiaaGreatDoor.W
def VG : Nat → Nat → List Nat
  | 0, _ => []
  | k + 1, c => VG k (c / 10) ++ [c % 10]
def DE (l : List Nat) : Nat := l.foldl (fun a d => 10 * a + d) 0
def Dg (l : List Nat) : Prop := ∀ d ∈ l, d < 10
def WM (n : Nat) : List Nat := if n < 10 then [n] else WM (n / 10) ++ [n % 10]
termination_by n
decreasing_by omega
theorem Dg_append {a b : List Nat} : Dg (a ++ b) ↔ Dg a ∧ Dg b := by
  simp only [Dg, List.mem_append]
  exact ⟨fun h => ⟨fun x e => h x (.inl e), fun x e => h x (.inr e)⟩, fun h x e => e.elim (h.1 x) (h.2 x)⟩
theorem Dg_cons {a : Nat} {b : List Nat} : Dg (a :: b) ↔ a < 10 ∧ Dg b := by simp [Dg]
theorem YJ : DE [] = 0 := rfl
theorem US (l : List Nat) (d : Nat) : DE (l ++ [d]) = 10 * DE l + d := by simp [DE]
theorem Rv (l : List Nat) : ∀ a : Nat, l.foldl (fun a d => 10 * a + d) a = a * 10 ^ l.length + DE l := by
  induction l with
  | nil => intro a; simp [DE]
  | cons d l ih =>
    intro a
    have h := ih (10 * a + d)
    have f := ih (10 * 0 + d)
    have e : DE (d :: l) = l.foldl (fun a d => 10 * a + d) (10 * 0 + d) := rfl
    rw [List.foldl_cons, h, e, f, List.length_cons, Nat.pow_succ]
    grind
theorem UT (a b : List Nat) : DE (a ++ b) = DE a * 10 ^ b.length + DE b := by
  show (a ++ b).foldl _ 0 = _
  rw [List.foldl_append, Rv b]; rfl
theorem jF (d : Nat) (l : List Nat) : DE (d :: l) = d * 10 ^ l.length + DE l := by
  have := UT [d] l
  simpa [DE] using this
theorem GZ : ∀ (k c : Nat), (VG k c).length = k
  | 0, _ => rfl
  | k + 1, c => by rw [VG, List.length_append, GZ k]; rfl
theorem Lm : ∀ (k c : Nat), Dg (VG k c)
  | 0, _ => fun _ h => by cases h
  | k + 1, c => by
    rw [VG, Dg_append, Dg_cons]
    exact ⟨Lm k _, by omega, fun _ h => by cases h⟩
theorem nD : ∀ (k c : Nat), c < 10 ^ k → DE (VG k c) = c
  | 0, c, h => by rw [Nat.pow_zero] at h; obtain rfl : c = 0 := by omega
                  rfl
  | k + 1, c, h => by
    rw [VG, US, nD k (c / 10) (by rw [Nat.pow_succ] at h; exact Nat.div_lt_of_lt_mul (by rw [Nat.mul_comm]; exact h))]
    omega
theorem jE {l : List Nat} (h : Dg l) : DE l < 10 ^ l.length := by
  induction l with
  | nil => simp [DE]
  | cons d l ih =>
    have e := Dg_cons.1 h
    have f := ih e.2
    rw [jF, List.length_cons, Nat.pow_succ]
    have : d * 10 ^ l.length ≤ 9 * 10 ^ l.length := Nat.mul_le_mul_right _ AA
    omega
theorem ON (n : Nat) (h : n < 10) : WM n = [n] := by rw [WM, if_pos h]
theorem TS (n : Nat) (h : 10 ≤ n) : WM n = WM (n / 10) ++ [n % 10] := by rw [WM, if_neg AA]
theorem OO (n : Nat) : Dg (WM n) := by
  induction n using Nat.strongRecOn with
  | ind n ih =>
    rcases Nat.lt_or_ge n 10 with h | h
    · rw [ON n h, Dg_cons]; exact ⟨h, fun _ h => by cases h⟩
    · rw [TS n h, Dg_append, Dg_cons]
      exact ⟨ih _ AA, by omega, fun _ h => by cases h⟩
theorem QY (n : Nat) : DE (WM n) = n := by
  induction n using Nat.strongRecOn with
  | ind n ih =>
    rcases Nat.lt_or_ge n 10 with h | h
    · rw [ON n h]; simp [DE]
    · rw [TS n h, US, ih _ AA]; omega
theorem rM (n : Nat) : WM n ≠ [] := by
  rcases Nat.lt_or_ge n 10 with h | h
  · rw [ON n h]; simp
  · rw [TS n h]; simp
def Cn (l : List Nat) : Prop := l ≠ [] ∧ (l.head? = some 0 → l.length = 1)
theorem Nn (n : Nat) (h : 0 < n) : (WM n).head? ≠ some 0 := by
  induction n using Nat.strongRecOn with
  | ind n ih =>
    rcases Nat.lt_or_ge n 10 with e | e
    · rw [ON n e]; simp; omega
    · rw [TS n e]
      have := ih (n / 10) AA AA
      have k := rM (n / 10)
      cases f : WM (n / 10) with
      | nil => exact absurd f k
      | cons a l => rw [f] at this; simpa using this
theorem Wu (n : Nat) : Cn (WM n) := by
  refine ⟨rM n, fun h => ?_⟩
  rcases Nat.eq_zero_or_pos n with e | e
  · subst e; rw [ON 0 AA]; rfl
  · exact absurd h (Nn n e)
theorem xC {l : List Nat} (h : l ≠ []) : ∃ a d, l = a ++ [d] := by
  rcases l.eq_nil_or_concat with e | ⟨a, d, e⟩
  · exact absurd e h
  · exact ⟨a, d, by rw [e, List.concat_eq_append]⟩
theorem zV : ∀ (k : Nat) (l : List Nat), l.length = k → Dg l → Cn l → l = WM (DE l)
  | 0, l, hk, _, hc => absurd (List.eq_nil_of_length_eq_zero hk) hc.1
  | k + 1, l, hk, hd, hc => by
    obtain ⟨a, d, rfl⟩ := xC hc.1
    have h1 := Dg_append.1 hd
    have hd1 : d < 10 := (Dg_cons.1 h1.2).1
    rw [US]
    by_cases ha : a = []
    · subst ha
      rw [YJ, ON _ AA]
      simp
    · have hca : Cn a := by
        refine ⟨ha, fun h => ?_⟩
        have := hc.2 (by cases a with | nil => exact absurd rfl ha | cons x a => simpa using h)
        rw [List.length_append, List.length_singleton] at this
        have : a.length = 0 := by omega
        exact absurd (List.eq_nil_of_length_eq_zero this) ha
      have f := zV k a (by simpa using hk) h1.1 hca
      have o : 0 < DE a := by
        rcases Nat.eq_zero_or_pos (DE a) with e | e
        · exfalso
          rw [e, ON 0 AA] at f
          subst f
          have := hc.2 AH
          simp at this
        · exact e
      rw [TS _ AA, show (10 * DE a + d) / 10 = DE a from by omega, show (10 * DE a + d) % 10 = d from by omega, ← f]
theorem Da {m n : Nat} (h : WM m = WM n) : m = n := by
  have := congrArg DE h
  rwa [QY, QY] at this
def LF : List Nat → List Nat
  | [] => []
  | 0 :: l => LF l
  | d :: l => d :: l
theorem Fa (l : List Nat) : DE (LF l) = DE l := by
  induction l with
  | nil => rfl
  | cons d l ih =>
    cases d with
    | zero => rw [LF, ih, jF]; omega
    | succ d => rfl
theorem Jq {l : List Nat} (h : Dg l) : Dg (LF l) := by
  induction l with
  | nil => exact h
  | cons d l ih =>
    cases d with
    | zero => exact ih (Dg_cons.1 h).2
    | succ d => exact h
theorem wY (l : List Nat) : (LF l).head? ≠ some 0 := by
  induction l with
  | nil => simp [LF]
  | cons d l ih =>
    cases d with
    | zero => exact ih
    | succ d => simp [LF]
theorem Fb {l : List Nat} (h : Dg l) (hp : 0 < DE l) : LF l = WM (DE l) := by
  have f := Fa l
  rw [← f]
  refine zV _ _ O (Jq h) ⟨fun e => ?_, fun e => absurd e (wY l)⟩
  rw [e] at f
  rw [← f] at hp
  exact absurd hp (by simp [DE])
theorem mS {n k : Nat} (hk : 0 < k) (h : n < 10 ^ k) : (WM n).length ≤ k := by
  induction k generalizing n with
  | zero => omega
  | succ k ih =>
    rcases Nat.lt_or_ge n 10 with l | l
    · rw [ON n l]; simp
    · rw [TS n l, List.length_append, List.length_singleton]
      have f : 0 < k := by
        rcases Nat.eq_zero_or_pos k with e | e
        · subst e; simp at h; omega
        · exact e
      have := ih f (n := n / 10) (by rw [Nat.pow_succ] at h; exact Nat.div_lt_of_lt_mul (by rw [Nat.mul_comm]; exact h))
      omega
def bB : List Nat → Nat
  | [] => 0
  | c :: l => c + 1000000000 * bB l
theorem Em (l : List Nat) (c : Nat) : bB (l ++ [c]) = bB l + 1000000000 ^ l.length * c := by
  induction l with
  | nil => simp [bB]
  | cons x l ih => rw [List.cons_append, bB, bB, ih, List.length_cons, Nat.pow_succ]; grind
theorem uR (l : List Nat) : (l.flatMap (VG 9)).length = 9 * l.length := by
  induction l with
  | nil => rfl
  | cons c l ih => rw [List.flatMap_cons, List.length_append, ih, GZ, List.length_cons]; omega
theorem Rw (l : List Nat) : Dg (l.flatMap (VG 9)) := by
  induction l with
  | nil => exact fun _ h => by cases h
  | cons c l ih => rw [List.flatMap_cons, Dg_append]; exact ⟨Lm _ _, ih⟩
theorem eT (l : List Nat) (c : Nat) : (l ++ [c]).flatMap (VG 9) = l.flatMap (VG 9) ++ VG 9 c := by simp
theorem wM (l : List Nat) (h : ∀ c ∈ l, c < 1000000000) : DE (l.reverse.flatMap (VG 9)) = bB l := by
  induction l with
  | nil => rfl
  | cons c l ih =>
    rw [List.reverse_cons, eT, UT, ih (fun x e => h x (by simp [e])), GZ, nD 9 c (h c AH), bB]
    omega
def aQ (l : List Nat) : List UInt8 := l.map fun d => UInt8.ofNat (48 + d)
def txt (z : Int) : List UInt8 := (if z < 0 then [45] else []) ++ aQ (WM z.natAbs)
def PB (z : Int) : ByteArray := ⟨(txt z).toArray⟩
theorem Dh {a b : List Nat} (ha : Dg a) (hb : Dg b) (h : aQ a = aQ b) : a = b := by
  induction a generalizing b with
  | nil => cases b with | nil => rfl | cons _ _ => simp [aQ] at h
  | cons x a ih =>
    cases b with
    | nil => simp [aQ] at h
    | cons y b =>
      have k := Dg_cons.1 ha
      have f := Dg_cons.1 hb
      simp only [aQ, List.map_cons, List.cons.injEq] at h
      have e := congrArg UInt8.toNat h.1
      rw [UInt8.toNat_ofNat', UInt8.toNat_ofNat'] at e
      obtain rfl : x = y := by omega
      rw [ih k.2 f.2 h.2]
theorem dD {l : List Nat} (h : Dg l) : (aQ l).head? ≠ some 45 := by
  cases l with
  | nil => simp [aQ]
  | cons d l =>
    have := (Dg_cons.1 h).1
    simp only [aQ, List.map_cons, List.head?_cons, Option.some.injEq, ne_eq]
    intro e
    have e := congrArg UInt8.toNat e
    rw [UInt8.toNat_ofNat'] at e
    have : (48 + d) % 2 ^ 8 = 48 + d := Nat.mod_eq_of_lt AA
    rw [this] at e
    have : (45 : UInt8).toNat = 45 := rfl
    omega
theorem bC {x y : Int} (h : txt x = txt y) : x = y := by
  unfold txt at h
  have l := dD (OO x.natAbs)
  have k := dD (OO y.natAbs)
  by_cases f : x < 0 <;> by_cases e : y < 0
  · rw [if_pos f, if_pos e] at h
    have := Da (Dh (OO _) (OO _) (by simpa using h))
    omega
  · rw [if_pos f, if_neg e] at h
    exfalso; apply k; simp only [List.nil_append] at h; rw [← h]; rfl
  · rw [if_neg f, if_pos e] at h
    exfalso; apply l; simp only [List.nil_append] at h; rw [h]; rfl
  · rw [if_neg f, if_neg e] at h
    have := Da (Dh (OO _) (OO _) (by simpa using h))
    omega
end Go.Proofs.YtmppigbbkjepiaaGreatDoor.W
