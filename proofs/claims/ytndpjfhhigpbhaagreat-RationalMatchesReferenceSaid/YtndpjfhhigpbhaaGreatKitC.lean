/- Short rules: one word an operation; frames as lists, brought to their plain form at a region's end. -/
import Derived.Test.YtndpjfhhigpbhaaGreatKitA
import Derived.Test.YtndpjfhhigpbhaaGreatBezD
namespace Go.Proofs.YtndpjfhhigpbhaaGreat
open Go.RowKit W
section
variable {P : Program} {ops : Array Oper} {Q : Exit → Act → World → Prop} {rest : List Oper} {o : Oper} {w : World} {l : List Value} {v : Value} {i : Nat}
theorem put_some (l : List Value) (i : Nat) (v : Value) (h : o.dst = some i) : Act.put ⟨l.toArray, []⟩ o.dst v = ⟨(l.set i v).toArray, []⟩ := by
  rw [h]; simp [Act.put]
theorem eval_tmp {x : Operand} {j : Nat} (hx : x = .tmp j) (h : l[j]? = some v) : Act.eval ⟨l.toArray, []⟩ x = v := by
  subst hx; simp [Act.eval, h]
/-- What an operand is in a frame that is a list. -/
def evl (l : List Value) : Operand → Value
  | .tmp t => (l[t]?).getD undef
  | .const v => v
  | .global g => .pointer (some ⟨g, 0, none⟩)
  | .func f => .func (.func f) #[] #[]
theorem eval_evl (l : List Value) : Act.eval ⟨l.toArray, []⟩ = evl l := by
  funext x
  cases x <;> simp [Act.eval, evl]
/-- The rest of a list of operations, from a frame that is a list: sealed, so that nobody looks inside. -/
structure WL (P : Program) (ops : Array Oper) (Q : Exit → Act → World → Prop) (rest : List Oper) (l : List Value) (w : World) : Prop where
  out : wpList P ops Q rest ⟨l.toArray, []⟩ w
/-- The same from whatever frame. -/
structure KW (P : Program) (ops : Array Oper) (Q : Exit → Act → World → Prop) (rest : List Oper) (a : Act) (w : World) : Prop where
  out : wpList P ops Q rest a w
theorem KW_eq (P : Program) (ops : Array Oper) (Q : Exit → Act → World → Prop) (rest : List Oper) : KW P ops Q rest = wpList P ops Q rest := by
  funext a w
  exact propext ⟨KW.out, KW.mk⟩
theorem kw (hd : o.dst = some i) (h : WL P ops Q rest (l.set i v) w) : KW P ops Q rest (Act.put ⟨l.toArray, []⟩ o.dst v) w := ⟨by rw [put_some l i v hd]; exact h.out⟩
theorem kn (hd : o.dst = none) (h : WL P ops Q rest l w) : KW P ops Q rest (Act.put ⟨l.toArray, []⟩ o.dst v) w := ⟨by rw [hd]; exact h.out⟩
theorem RL {id : Nat} (h : WL P ops Q ops.toList l w) : (Code.region id ops false).wp P Q ⟨l.toArray, []⟩ w := wp_region_lit h.out
theorem WN (h : Q .normal ⟨l.toArray, []⟩ w) : WL P ops Q [] l w := ⟨wpList_nil h⟩
/-- A quiet operation. -/
theorem V (hg : Region.wanted o (yielded ops l.toArray) = true) (hd : o.dst = some i) (hr : (execOp (evl l) o).run P w = .ok (.value v) w) (h : WL P ops Q rest (l.set i v) w) :
    WL P ops Q (o :: rest) l w := ⟨LV hg (by rw [eval_evl]; exact hr) (by rw [put_some l i v hd]; exact h.out)⟩
theorem M {x : Operand} {j : Nat} (hg : Region.wanted o (yielded ops l.toArray) = true) (hd : o.dst = some i) (ho : o.op = .move x) (hj : x = .tmp j) (hx : l[j]? = some v) (h : WL P ops Q rest (l.set i v) w) :
    WL P ops Q (o :: rest) l w := V hg hd (by rw [← eval_evl]; exact run_move ho (eval_tmp hj hx)) h
theorem A {x : Operand} {j : Nat} (hg : Region.wanted o (yielded ops l.toArray) = true) (hd : o.dst = some i) (ho : o.op = .assign x) (hj : x = .tmp j) (hx : l[j]? = some v) (h : WL P ops Q rest (l.set i v) w) :
    WL P ops Q (o :: rest) l w := V hg hd (by rw [← eval_evl]; exact run_assign ho (eval_tmp hj hx)) h
theorem AC {x : Operand} (hg : Region.wanted o (yielded ops l.toArray) = true) (hd : o.dst = some i) (ho : o.op = .assign x) (hj : x = .const v) (h : WL P ops Q rest (l.set i v) w) :
    WL P ops Q (o :: rest) l w := V hg hd (run_assign ho (by subst hj; rfl)) h
theorem L0C (hg : Region.wanted o (yielded ops l.toArray) = false) (hd : o.dst = some i) (h : WL P ops Q rest (l.set i undef) w) : WL P ops Q (o :: rest) l w :=
  ⟨L0 hg (by rw [put_some l i undef hd]; exact h.out)⟩
theorem EF (hg : Region.wanted o (yielded ops l.toArray) = true) (h : o.wp P ⟨l.toArray, []⟩ w (KW P ops Q rest) Q) : WL P ops Q (o :: rest) l w := ⟨L1 hg (by rw [← KW_eq]; exact h)⟩
end
section
variable {ρ : Operand → Value} {o : Oper} {w : World} {P : Program}
theorem run_minI {x y : Operand} {k : IntKind} {m n c : Int} {tys : Array TypeId} (ho : o.op = .call { callee := .builtin .min, args := #[x, y], argTypes := tys }) (hx : ρ x = .int k m) (hy : ρ y = .int k n) (hc : (if n < m then n else m) = c) :
    (execOp ρ o).run Tryz.prog w = .ok (.value (.int k c)) w := by
  subst hc; unfold execOp; rw [ho]; simp [hx, hy, go_sem]; rw [Int.min_def]; split <;> split <;> omega
theorem run_maxI {x y : Operand} {k : IntKind} {m n c : Int} {tys : Array TypeId} (ho : o.op = .call { callee := .builtin .max, args := #[x, y], argTypes := tys }) (hx : ρ x = .int k m) (hy : ρ y = .int k n) (hc : (if m < n then n else m) = c) :
    (execOp ρ o).run Tryz.prog w = .ok (.value (.int k c)) w := by
  subst hc; unfold execOp; rw [ho]; simp [hx, hy, go_sem]; rw [Int.max_def]; split <;> split <;> omega
theorem run_neB {t t' : TypeId} {x y : Operand} {a b c : Bool} (ho : o.op = .binOp .neq t x y t') (hT : P.underlying t = some .bool) (hx : ρ x = .bool a) (hy : ρ y = .bool b) (hc : (a != b) = c) : (execOp ρ o).run P w = .ok (.value (.bool c)) w := by
  unfold execOp; rw [ho]; subst hc; simp [hx, hy, go_sem, run_neq_bool _ _ _ _ hT]; cases a <;> cases b <;> rfl
theorem run_eqB {t t' : TypeId} {x y : Operand} {a b c : Bool} (ho : o.op = .binOp .eql t x y t') (hT : P.underlying t = some .bool) (hx : ρ x = .bool a) (hy : ρ y = .bool b) (hc : (a == b) = c) : (execOp ρ o).run P w = .ok (.value (.bool c)) w := by
  unfold execOp; rw [ho]; subst hc; simp [hx, hy, go_sem, run_eql_bool _ _ _ _ hT]
end
theorem wrap_nat {a : Nat} {X : Int} (hX : X = (a : Int)) (h : a < 9223372036854775808) : IntKind.i64.wrap X = (a : Int) := by subst hX; simp only [IntKind.wrap_i64]; omega
theorem wrap_i {X : Int} (h : -9223372036854775808 ≤ X ∧ X < 9223372036854775808) : IntKind.i64.wrap X = X := by simp only [IntKind.wrap_i64]; omega
theorem Sl.shp {w : World} {v : Value} {l : List Nat} (h : Sl w v l) : ∃ ao cap, v = .slice ao l.length cap := by
  obtain ⟨ao, cap, rfl, _⟩ := h
  exact ⟨ao, cap, rfl⟩
section
variable {P : Program} {o : Oper} {a : Act} {w : World} {K : Act → World → Prop} {Q : Exit → Act → World → Prop} {f : Nat} {args : List Operand} {tys : Array TypeId} {vs : List Value} {l : List SF}
theorem Oper.wp_callDv {q r : Nat} (hf : Fn P f) (ho : o.op = .call { callee := .value (.func f), args := args.toArray, argTypes := tys }) (hc : Calls P f vs.toArray w (RetDv w q r)) (hv : args.map a.eval = vs) (E : Env w l)
    (h : ∀ w' v u, Below w.heap.size w w' → Env w' (fS u (digs r) :: fS v (digs q) :: l) → K (a.put o.dst (.tuple #[v, u])) w') : o.wp P a w K Q := by
  refine Oper.wp_call hf ho hc hv ?_
  rintro e w' ⟨v, u, rfl, hz, hr, hb⟩
  exact ⟨_, rfl, h w' v u hb ⟨hr, hz, E.below hb⟩⟩
theorem Oper.wp_callU {n : Nat} (hf : Fn P f) (ho : o.op = .call { callee := .value (.func f), args := args.toArray, argTypes := tys }) (hc : Calls P f vs.toArray w (fun e w' => e = .returned (.int .u64 (n : Int)) ∧ w = w')) (hv : args.map a.eval = vs) (E : Env w l)
    (h : ∀ w', Below w.heap.size w w' → Env w' l → K (a.put o.dst (.int .u64 (n : Int))) w') : o.wp P a w K Q := by
  refine Oper.wp_call hf ho hc hv ?_
  rintro e w' ⟨rfl, rfl⟩
  exact ⟨_, rfl, h w (Below.refl _ _) E⟩
/-- []uint32{c}. -/
theorem Oper.wp_oneW {c : Nat} {X : Int} (ho : o.op = .buildSlice 27 1 #[(0, .const (.int .u32 X))]) (hX : X = (c : Int)) (hc : 0 < c) (hc2 : c < 4294967296) (E : Env w l)
    (h : ∀ w' v, Below w.heap.size w w' → Env w' (fS v (digs c) :: l) → K (a.put o.dst v) w') : o.wp Tryz.prog a w K Q := by
  obtain ⟨i0, hi, hz0, hz1, hz2⟩ := info_parts info27
  have hb : Below w.heap.size w (w.alloc (.cells #[.int .u32 X] 75)) := (Below.refl _ _).alloc (Nat.le_refl _) _
  have hd : digs c = [c] := by rw [digs_pos c hc, Nat.mod_eq_of_lt hc2, Nat.div_eq_of_lt hc2, digs_zero]
  have hs : Sl (w.alloc (.cells #[.int .u32 X] 75)) (.slice (some ⟨w.heap.size, 0, none⟩) 1 1) (digs c) := by rw [hd]; exact Sl_lit1 w X c hX hc2
  refine Oper.wp_of_val (v := .slice (some ⟨w.heap.size, 0, none⟩) 1 1) (w' := w.alloc (.cells #[.int .u32 X] 75)) ?_ (h _ _ hb ⟨hs, E.below hb⟩)
  unfold execOp; rw [ho]
  simp [Instr.buildSlice, go_sem]
/-- []uint32{}. -/
theorem Oper.wp_nilW (ho : o.op = .buildSlice 27 0 #[]) (E : Env w l)
    (h : ∀ w' v, Below w.heap.size w w' → Env w' (fS v (digs 0) :: l) → K (a.put o.dst v) w') : o.wp Tryz.prog a w K Q := by
  have hb : Below w.heap.size w (w.alloc (.cells #[] 75)) := (Below.refl _ _).alloc (Nat.le_refl _) _
  have hs : Sl (w.alloc (.cells #[] 75)) (.slice (some ⟨w.heap.size, 0, none⟩) 0 0) (digs 0) := by
    rw [digs_zero]
    exact ⟨_, 0, rfl, Nat.le_refl _, by unfold maxLen; omega, Wd_nil, (fun h => by cases h), fun i hi => absurd hi (by simp)⟩
  refine Oper.wp_of_val (v := .slice (some ⟨w.heap.size, 0, none⟩) 0 0) (w' := w.alloc (.cells #[] 75)) ?_ (h _ _ hb ⟨hs, E.below hb⟩)
  unfold execOp; rw [ho]
  simp [Instr.buildSlice, go_sem]
/-- []byte{c}. -/
theorem Oper.wp_oneB {x : Operand} {v : Int} (ho : o.op = .buildSlice 85 1 #[(0, x)]) (hx : a.eval x = .int .u8 v) (E : Env w l)
    (h : ∀ w' b, Below w.heap.size w w' → Env w' (fX b 5 [.int .u8 v] :: l) → K (a.put o.dst (.slice (some ⟨b, 0, none⟩) 1 1)) w') : o.wp Tryz.prog a w K Q := by
  have hr : ∀ ρ : Operand → Value, ρ x = .int .u8 v → (execOp ρ o).run Tryz.prog w = .ok (.value (.slice (some ⟨w.heap.size, 0, none⟩) 1 1)) (w.alloc (.cells #[.int .u8 v] 5)) := by
    intro ρ hx
    unfold execOp; rw [ho]
    simp [go_sem, Instr.buildSlice, hx]
  have hr := hr _ hx
  have hb : Below w.heap.size w (w.alloc (.cells #[.int .u8 v] 5)) := (Below.refl _ _).alloc (Nat.le_refl _) _
  exact Oper.wp_of_val hr (h _ _ hb ⟨bx_alloc w _ [.int .u8 v], E.below hb⟩)
end
section
variable {w : World} {f0 f1 f2 f3 f4 f5 f6 f7 f8 f9 f10 f11 f12 f13 f14 f15 f16 f17 f18 f19 f20 f21 f22 f23 f24 f25 f26 f27 f28 f29 : SF} {l : List SF}
theorem e0 (E : Env w (f0 :: l)) : f0.p w := E.1
theorem e1 (E : Env w (f0 :: f1 :: l)) : f1.p w := E.2.1
theorem e2 (E : Env w (f0 :: f1 :: f2 :: l)) : f2.p w := E.2.2.1
theorem e3 (E : Env w (f0 :: f1 :: f2 :: f3 :: l)) : f3.p w := E.2.2.2.1
theorem e4 (E : Env w (f0 :: f1 :: f2 :: f3 :: f4 :: l)) : f4.p w := E.2.2.2.2.1
theorem e5 (E : Env w (f0 :: f1 :: f2 :: f3 :: f4 :: f5 :: l)) : f5.p w := E.2.2.2.2.2.1
theorem e6 (E : Env w (f0 :: f1 :: f2 :: f3 :: f4 :: f5 :: f6 :: l)) : f6.p w := E.2.2.2.2.2.2.1
theorem e7 (E : Env w (f0 :: f1 :: f2 :: f3 :: f4 :: f5 :: f6 :: f7 :: l)) : f7.p w := E.2.2.2.2.2.2.2.1
theorem e8 (E : Env w (f0 :: f1 :: f2 :: f3 :: f4 :: f5 :: f6 :: f7 :: f8 :: l)) : f8.p w := E.2.2.2.2.2.2.2.2.1
theorem e9 (E : Env w (f0 :: f1 :: f2 :: f3 :: f4 :: f5 :: f6 :: f7 :: f8 :: f9 :: l)) : f9.p w := E.2.2.2.2.2.2.2.2.2.1
theorem e10 (E : Env w (f0 :: f1 :: f2 :: f3 :: f4 :: f5 :: f6 :: f7 :: f8 :: f9 :: f10 :: l)) : f10.p w := E.2.2.2.2.2.2.2.2.2.2.1
theorem e11 (E : Env w (f0 :: f1 :: f2 :: f3 :: f4 :: f5 :: f6 :: f7 :: f8 :: f9 :: f10 :: f11 :: l)) : f11.p w := E.2.2.2.2.2.2.2.2.2.2.2.1
theorem e12 (E : Env w (f0 :: f1 :: f2 :: f3 :: f4 :: f5 :: f6 :: f7 :: f8 :: f9 :: f10 :: f11 :: f12 :: l)) : f12.p w := E.2.2.2.2.2.2.2.2.2.2.2.2.1
theorem e13 (E : Env w (f0 :: f1 :: f2 :: f3 :: f4 :: f5 :: f6 :: f7 :: f8 :: f9 :: f10 :: f11 :: f12 :: f13 :: l)) : f13.p w := E.2.2.2.2.2.2.2.2.2.2.2.2.2.1
theorem e14 (E : Env w (f0 :: f1 :: f2 :: f3 :: f4 :: f5 :: f6 :: f7 :: f8 :: f9 :: f10 :: f11 :: f12 :: f13 :: f14 :: l)) : f14.p w := E.2.2.2.2.2.2.2.2.2.2.2.2.2.2.1
theorem e15 (E : Env w (f0 :: f1 :: f2 :: f3 :: f4 :: f5 :: f6 :: f7 :: f8 :: f9 :: f10 :: f11 :: f12 :: f13 :: f14 :: f15 :: l)) : f15.p w := E.2.2.2.2.2.2.2.2.2.2.2.2.2.2.2.1
theorem e16 (E : Env w (f0 :: f1 :: f2 :: f3 :: f4 :: f5 :: f6 :: f7 :: f8 :: f9 :: f10 :: f11 :: f12 :: f13 :: f14 :: f15 :: f16 :: l)) : f16.p w := E.2.2.2.2.2.2.2.2.2.2.2.2.2.2.2.2.1
theorem e17 (E : Env w (f0 :: f1 :: f2 :: f3 :: f4 :: f5 :: f6 :: f7 :: f8 :: f9 :: f10 :: f11 :: f12 :: f13 :: f14 :: f15 :: f16 :: f17 :: l)) : f17.p w := E.2.2.2.2.2.2.2.2.2.2.2.2.2.2.2.2.2.1
theorem e18 (E : Env w (f0 :: f1 :: f2 :: f3 :: f4 :: f5 :: f6 :: f7 :: f8 :: f9 :: f10 :: f11 :: f12 :: f13 :: f14 :: f15 :: f16 :: f17 :: f18 :: l)) : f18.p w := E.2.2.2.2.2.2.2.2.2.2.2.2.2.2.2.2.2.2.1
theorem e19 (E : Env w (f0 :: f1 :: f2 :: f3 :: f4 :: f5 :: f6 :: f7 :: f8 :: f9 :: f10 :: f11 :: f12 :: f13 :: f14 :: f15 :: f16 :: f17 :: f18 :: f19 :: l)) : f19.p w := E.2.2.2.2.2.2.2.2.2.2.2.2.2.2.2.2.2.2.2.1
theorem e20 (E : Env w (f0 :: f1 :: f2 :: f3 :: f4 :: f5 :: f6 :: f7 :: f8 :: f9 :: f10 :: f11 :: f12 :: f13 :: f14 :: f15 :: f16 :: f17 :: f18 :: f19 :: f20 :: l)) : f20.p w := E.2.2.2.2.2.2.2.2.2.2.2.2.2.2.2.2.2.2.2.2.1
theorem e21 (E : Env w (f0 :: f1 :: f2 :: f3 :: f4 :: f5 :: f6 :: f7 :: f8 :: f9 :: f10 :: f11 :: f12 :: f13 :: f14 :: f15 :: f16 :: f17 :: f18 :: f19 :: f20 :: f21 :: l)) : f21.p w := E.2.2.2.2.2.2.2.2.2.2.2.2.2.2.2.2.2.2.2.2.2.1
theorem e22 (E : Env w (f0 :: f1 :: f2 :: f3 :: f4 :: f5 :: f6 :: f7 :: f8 :: f9 :: f10 :: f11 :: f12 :: f13 :: f14 :: f15 :: f16 :: f17 :: f18 :: f19 :: f20 :: f21 :: f22 :: l)) : f22.p w := E.2.2.2.2.2.2.2.2.2.2.2.2.2.2.2.2.2.2.2.2.2.2.1
theorem e23 (E : Env w (f0 :: f1 :: f2 :: f3 :: f4 :: f5 :: f6 :: f7 :: f8 :: f9 :: f10 :: f11 :: f12 :: f13 :: f14 :: f15 :: f16 :: f17 :: f18 :: f19 :: f20 :: f21 :: f22 :: f23 :: l)) : f23.p w := E.2.2.2.2.2.2.2.2.2.2.2.2.2.2.2.2.2.2.2.2.2.2.2.1
theorem e24 (E : Env w (f0 :: f1 :: f2 :: f3 :: f4 :: f5 :: f6 :: f7 :: f8 :: f9 :: f10 :: f11 :: f12 :: f13 :: f14 :: f15 :: f16 :: f17 :: f18 :: f19 :: f20 :: f21 :: f22 :: f23 :: f24 :: l)) : f24.p w := E.2.2.2.2.2.2.2.2.2.2.2.2.2.2.2.2.2.2.2.2.2.2.2.2.1
theorem e25 (E : Env w (f0 :: f1 :: f2 :: f3 :: f4 :: f5 :: f6 :: f7 :: f8 :: f9 :: f10 :: f11 :: f12 :: f13 :: f14 :: f15 :: f16 :: f17 :: f18 :: f19 :: f20 :: f21 :: f22 :: f23 :: f24 :: f25 :: l)) : f25.p w := E.2.2.2.2.2.2.2.2.2.2.2.2.2.2.2.2.2.2.2.2.2.2.2.2.2.1
theorem e26 (E : Env w (f0 :: f1 :: f2 :: f3 :: f4 :: f5 :: f6 :: f7 :: f8 :: f9 :: f10 :: f11 :: f12 :: f13 :: f14 :: f15 :: f16 :: f17 :: f18 :: f19 :: f20 :: f21 :: f22 :: f23 :: f24 :: f25 :: f26 :: l)) : f26.p w := E.2.2.2.2.2.2.2.2.2.2.2.2.2.2.2.2.2.2.2.2.2.2.2.2.2.2.1
theorem e27 (E : Env w (f0 :: f1 :: f2 :: f3 :: f4 :: f5 :: f6 :: f7 :: f8 :: f9 :: f10 :: f11 :: f12 :: f13 :: f14 :: f15 :: f16 :: f17 :: f18 :: f19 :: f20 :: f21 :: f22 :: f23 :: f24 :: f25 :: f26 :: f27 :: l)) : f27.p w := E.2.2.2.2.2.2.2.2.2.2.2.2.2.2.2.2.2.2.2.2.2.2.2.2.2.2.2.1
theorem e28 (E : Env w (f0 :: f1 :: f2 :: f3 :: f4 :: f5 :: f6 :: f7 :: f8 :: f9 :: f10 :: f11 :: f12 :: f13 :: f14 :: f15 :: f16 :: f17 :: f18 :: f19 :: f20 :: f21 :: f22 :: f23 :: f24 :: f25 :: f26 :: f27 :: f28 :: l)) : f28.p w := E.2.2.2.2.2.2.2.2.2.2.2.2.2.2.2.2.2.2.2.2.2.2.2.2.2.2.2.2.1
theorem e29 (E : Env w (f0 :: f1 :: f2 :: f3 :: f4 :: f5 :: f6 :: f7 :: f8 :: f9 :: f10 :: f11 :: f12 :: f13 :: f14 :: f15 :: f16 :: f17 :: f18 :: f19 :: f20 :: f21 :: f22 :: f23 :: f24 :: f25 :: f26 :: f27 :: f28 :: f29 :: l)) : f29.p w := E.2.2.2.2.2.2.2.2.2.2.2.2.2.2.2.2.2.2.2.2.2.2.2.2.2.2.2.2.2.1
end
section
variable {P : Program} {md : Region.Mode} {ops : Array Oper} {Q : Exit → Act → World → Prop} {S1 S2 : World → Prop} {rest : List Nat} {o : Oper} {w : World} {l : List Value} {v : Value} {i k : Nat}
theorem SW (ho : ops[k]? = some o) (hp : isPure o = true) (ht : tight md ops [] k = true) (hg : Region.wanted o (yielded ops l.toArray) = true) (hd : o.dst = some i) (hr : ∀ w, S1 w → (execOp (evl l) o).run P w = .ok (.value v) w)
    (h : wpSched P md ops Q [] S1 S2 rest false ⟨(l.set i v).toArray, []⟩ w) : wpSched P md ops Q [] S1 S2 (k :: rest) false ⟨l.toArray, []⟩ w := SP ho hp ht hg (by rw [eval_evl]; exact hr) (by rw [put_some l i v hd]; exact h)
theorem SM {x : Operand} {j : Nat} (ho : ops[k]? = some o) (hp : isPure o = true) (ht : tight md ops [] k = true) (hg : Region.wanted o (yielded ops l.toArray) = true) (hd : o.dst = some i) (hop : o.op = .move x) (hj : x = .tmp j) (hx : l[j]? = some v)
    (h : wpSched P md ops Q [] S1 S2 rest false ⟨(l.set i v).toArray, []⟩ w) : wpSched P md ops Q [] S1 S2 (k :: rest) false ⟨l.toArray, []⟩ w := SW ho hp ht hg hd (fun _ _ => by rw [← eval_evl]; exact run_move hop (eval_tmp hj hx)) h
theorem SA {x : Operand} {j : Nat} (ho : ops[k]? = some o) (hp : isPure o = true) (ht : tight md ops [] k = true) (hg : Region.wanted o (yielded ops l.toArray) = true) (hd : o.dst = some i) (hop : o.op = .assign x) (hj : x = .tmp j) (hx : l[j]? = some v)
    (h : wpSched P md ops Q [] S1 S2 rest false ⟨(l.set i v).toArray, []⟩ w) : wpSched P md ops Q [] S1 S2 (k :: rest) false ⟨l.toArray, []⟩ w := SW ho hp ht hg hd (fun _ _ => by rw [← eval_evl]; exact run_assign hop (eval_tmp hj hx)) h
theorem SAC {x : Operand} (ho : ops[k]? = some o) (hp : isPure o = true) (ht : tight md ops [] k = true) (hg : Region.wanted o (yielded ops l.toArray) = true) (hd : o.dst = some i) (hop : o.op = .assign x) (hj : x = .const v)
    (h : wpSched P md ops Q [] S1 S2 rest false ⟨(l.set i v).toArray, []⟩ w) : wpSched P md ops Q [] S1 S2 (k :: rest) false ⟨l.toArray, []⟩ w := SW ho hp ht hg hd (fun _ _ => run_assign hop (by subst hj; rfl)) h
end
end Go.Proofs.YtndpjfhhigpbhaaGreat
