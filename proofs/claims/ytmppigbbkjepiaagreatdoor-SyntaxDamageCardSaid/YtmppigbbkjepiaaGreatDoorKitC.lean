/- Helping facts of KitC; no other conditions. -/
import Derived.Test.YtmppigbbkjepiaaGreatDoorTxtL
namespace Go.Proofs.YtmppigbbkjepiaaGreatDoor
open Go.Proofs.Tryz
open Go.RowKit W
section
variable {P : Program} {ops : Array Oper} {Q : Exit → Act → World → Prop} {rest : List Oper} {o : Oper} {w : World} {l : List Value} {v : Value} {i : Nat}
theorem OE (l : List Value) (i : Nat) (v : Value) (h : o.dst = some i) : Act.put ⟨l.toArray, []⟩ o.dst v = ⟨(l.set i v).toArray, []⟩ := by
  rw [h]; simp [Act.put]
theorem cY {x : Operand} {j : Nat} (hx : x = .tmp j) (h : l[j]? = some v) : Act.eval ⟨l.toArray, []⟩ x = v := by
  subst hx; simp [Act.eval, h]
def KL (l : List Value) : Operand → Value
  | .tmp t => (l[t]?).getD undef
  | .const v => v
  | .global g => .pointer (some ⟨g, 0, none⟩)
  | .func f => .func (.func f) #[] #[]
theorem KS (l : List Value) : Act.eval ⟨l.toArray, []⟩ = KL l := by
  funext x
  cases x <;> simp [Act.eval, KL]
structure WL (P : Program) (ops : Array Oper) (Q : Exit → Act → World → Prop) (rest : List Oper) (l : List Value) (w : World) : Prop where
  out : wpList P ops Q rest ⟨l.toArray, []⟩ w
structure KW (P : Program) (ops : Array Oper) (Q : Exit → Act → World → Prop) (rest : List Oper) (a : Act) (w : World) : Prop where
  out : wpList P ops Q rest a w
theorem KW_eq (P : Program) (ops : Array Oper) (Q : Exit → Act → World → Prop) (rest : List Oper) : KW P ops Q rest = wpList P ops Q rest := by
  funext a w
  exact propext ⟨KW.out, KW.mk⟩
theorem kw (hd : o.dst = some i) (h : WL P ops Q rest (l.set i v) w) : KW P ops Q rest (Act.put ⟨l.toArray, []⟩ o.dst v) w := ⟨by rw [OE l i v hd]; exact h.out⟩
theorem kn (hd : o.dst = none) (h : WL P ops Q rest l w) : KW P ops Q rest (Act.put ⟨l.toArray, []⟩ o.dst v) w := ⟨by rw [hd]; exact h.out⟩
theorem RL {id : Nat} (h : WL P ops Q ops.toList l w) : (Code.region id ops false).wp P Q ⟨l.toArray, []⟩ w := AR h.out
theorem WN (h : Q .normal ⟨l.toArray, []⟩ w) : WL P ops Q [] l w := ⟨AS h⟩
theorem V (hg : Region.wanted o (yielded ops l.toArray) = true) (hd : o.dst = some i) (hr : (execOp (KL l) o).run P w = .ok (.value v) w) (h : WL P ops Q rest (l.set i v) w) :
    WL P ops Q (o :: rest) l w := ⟨LV hg (by rw [KS]; exact hr) (by rw [OE l i v hd]; exact h.out)⟩
theorem M {x : Operand} {j : Nat} (hg : Region.wanted o (yielded ops l.toArray) = true) (hd : o.dst = some i) (ho : o.op = .move x) (hj : x = .tmp j) (hx : l[j]? = some v) (h : WL P ops Q rest (l.set i v) w) :
    WL P ops Q (o :: rest) l w := V hg hd (by rw [← KS]; exact GE ho (cY hj hx)) h
theorem A {x : Operand} {j : Nat} (hg : Region.wanted o (yielded ops l.toArray) = true) (hd : o.dst = some i) (ho : o.op = .assign x) (hj : x = .tmp j) (hx : l[j]? = some v) (h : WL P ops Q rest (l.set i v) w) :
    WL P ops Q (o :: rest) l w := V hg hd (by rw [← KS]; exact KH ho (cY hj hx)) h
theorem AC {x : Operand} (hg : Region.wanted o (yielded ops l.toArray) = true) (hd : o.dst = some i) (ho : o.op = .assign x) (hj : x = .const v) (h : WL P ops Q rest (l.set i v) w) :
    WL P ops Q (o :: rest) l w := V hg hd (KH ho (by subst hj; rfl)) h
theorem L0C (hg : Region.wanted o (yielded ops l.toArray) = false) (hd : o.dst = some i) (h : WL P ops Q rest (l.set i undef) w) : WL P ops Q (o :: rest) l w :=
  ⟨L0 hg (by rw [OE l i undef hd]; exact h.out)⟩
theorem EF (hg : Region.wanted o (yielded ops l.toArray) = true) (h : o.wp P ⟨l.toArray, []⟩ w (KW P ops Q rest) Q) : WL P ops Q (o :: rest) l w := ⟨L1 hg (by rw [← KW_eq]; exact h)⟩
end
section
variable {ρ : Operand → Value} {o : Oper} {w : World} {P : Program}
theorem Kl {x y : Operand} {k : IntKind} {m n c : Int} {tys : Array TypeId} (ho : o.op = .call { callee := .builtin .min, args := #[x, y], argTypes := tys }) (hx : ρ x = .int k m) (hy : ρ y = .int k n) (hc : (if n < m then n else m) = c) :
    (execOp ρ o).run prog w = .ok (.value (.int k c)) w := by
  subst hc; unfold execOp; rw [ho]; simp [hx, hy, go_sem]; rw [Int.min_def]; split <;> split <;> omega
theorem Km {x y : Operand} {k : IntKind} {m n c : Int} {tys : Array TypeId} (ho : o.op = .call { callee := .builtin .max, args := #[x, y], argTypes := tys }) (hx : ρ x = .int k m) (hy : ρ y = .int k n) (hc : (if m < n then n else m) = c) :
    (execOp ρ o).run prog w = .ok (.value (.int k c)) w := by
  subst hc; unfold execOp; rw [ho]; simp [hx, hy, go_sem]; rw [Int.max_def]; split <;> split <;> omega
theorem YR {t t' : TypeId} {x y : Operand} {a b c : Bool} (ho : o.op = .binOp .neq t x y t') (hT : P.underlying t = some .bool) (hx : ρ x = .bool a) (hy : ρ y = .bool b) (hc : (a != b) = c) : (execOp ρ o).run P w = .ok (.value (.bool c)) w := by
  unfold execOp; rw [ho]; subst hc; simp [hx, hy, go_sem, run_neq_bool _ _ _ _ hT]; cases a <;> cases b <;> rfl
theorem VD {t t' : TypeId} {x y : Operand} {a b c : Bool} (ho : o.op = .binOp .eql t x y t') (hT : P.underlying t = some .bool) (hx : ρ x = .bool a) (hy : ρ y = .bool b) (hc : (a == b) = c) : (execOp ρ o).run P w = .ok (.value (.bool c)) w := by
  unfold execOp; rw [ho]; subst hc; simp [hx, hy, go_sem, run_eql_bool _ _ _ _ hT]
end
theorem LM {a : Nat} {X : Int} (hX : X = (a : Int)) (h : a < 9223372036854775808) : IntKind.i64.wrap X = (a : Int) := by subst hX; simp only [IntKind.wrap_i64]; omega
theorem JK {X : Int} (h : -9223372036854775808 ≤ X ∧ X < 9223372036854775808) : IntKind.i64.wrap X = X := by simp only [IntKind.wrap_i64]; omega
theorem Sl.shp {w : World} {v : Value} {l : List Nat} (h : Sl w v l) : ∃ ao cap, v = .slice ao l.length cap := by
  obtain ⟨ao, cap, rfl, _⟩ := h
  exact ⟨ao, cap, rfl⟩
section
variable {P : Program} {o : Oper} {a : Act} {w : World} {K : Act → World → Prop} {Q : Exit → Act → World → Prop} {f : Nat} {args : List Operand} {tys : Array TypeId} {vs : List Value} {l : List SF}
theorem SG {q r : Nat} (hf : Fn P f) (ho : o.op = .call { callee := .value (.func f), args := args.toArray, argTypes := tys }) (hc : Calls P f vs.toArray w (Oq w q r)) (hv : args.map a.eval = vs) (E : Env w l)
    (h : ∀ w' v u, Below w.heap.size w w' → Env w' (fS u (CC r) :: fS v (CC q) :: l) → K (a.put o.dst (.tuple #[v, u])) w') : o.wp P a w K Q := by
  refine DB hf ho hc hv ?_
  rintro e w' ⟨v, u, rfl, p, t, k⟩
  exact ⟨_, rfl, h w' v u k ⟨t, p, E.below k⟩⟩
theorem rY {c : Nat} {X : Int} (ho : o.op = .buildSlice 60 1 #[(0, .const (.int .u32 X))]) (hX : X = (c : Int)) (hc : 0 < c) (hc2 : c < 4294967296) (E : Env w l)
    (h : ∀ w' v, Below w.heap.size w w' → Env w' (fS v (CC c) :: l) → K (a.put o.dst v) w') : o.wp prog a w K Q := by
  obtain ⟨u, y, p, k, f⟩ := info_parts rC
  have e : Below w.heap.size w (w.alloc (.cells #[.int .u32 X] 186)) := (Below.refl _ _).alloc (Nat.le_refl _) _
  have t : CC c = [c] := by rw [RY c hc, Nat.mod_eq_of_lt hc2, Nat.div_eq_of_lt hc2, DW]
  have q : Sl (w.alloc (.cells #[.int .u32 X] 186)) (.slice (some ⟨w.heap.size, 0, none⟩) 1 1) (CC c) := by rw [t]; exact Tl w X c hX hc2
  refine DI (v := .slice (some ⟨w.heap.size, 0, none⟩) 1 1) (w' := w.alloc (.cells #[.int .u32 X] 186)) ?_ (h _ _ e ⟨q, E.below e⟩)
  unfold execOp; rw [ho]
  simp [Instr.buildSlice, go_sem]
end
section
variable {w : World} {f0 f1 f2 f3 f4 f5 f6 f7 f8 f9 f10 f11 f12 f13 f14 f15 f16 f17 f18 f19 f20 f21 f22 f23 f24 f25 f26 f27 f28 f29 : SF} {l : List SF}
theorem e0 (E : Env w (f0 :: l)) : f0.p w := E.1
theorem e1 (E : Env w (f0 :: f1 :: l)) : f1.p w := E.2.1
theorem e2 (E : Env w (f0 :: f1 :: f2 :: l)) : f2.p w := E.2.2.1
theorem e3 (E : Env w (f0 :: f1 :: f2 :: f3 :: l)) : f3.p w := E.2.2.2.1
theorem e4 (E : Env w (f0 :: f1 :: f2 :: f3 :: f4 :: l)) : f4.p w := E.2.2.2.2.1
theorem e5 (E : Env w (f0 :: f1 :: f2 :: f3 :: f4 :: f5 :: l)) : f5.p w := E.2.2.2.2.2.1
theorem e6 (E : Env w (f0 :: f1 :: f2 :: f3 :: f4 :: f5 :: f6 :: l)) : f6.p w := E.2.2.2.2.2.2.1
theorem e7 (E : Env w (f0 :: f1 :: f2 :: f3 :: f4 :: f5 :: f6 :: f7 :: l)) : f7.p w := E.2.2.2.2.2.2.2.1
theorem e8 (E : Env w (f0 :: f1 :: f2 :: f3 :: f4 :: f5 :: f6 :: f7 :: f8 :: l)) : f8.p w := E.2.2.2.2.2.2.2.2.1
theorem e9 (E : Env w (f0 :: f1 :: f2 :: f3 :: f4 :: f5 :: f6 :: f7 :: f8 :: f9 :: l)) : f9.p w := E.2.2.2.2.2.2.2.2.2.1
theorem QM (E : Env w (f0 :: f1 :: f2 :: f3 :: f4 :: f5 :: f6 :: f7 :: f8 :: f9 :: f10 :: l)) : f10.p w := E.2.2.2.2.2.2.2.2.2.2.1
theorem QQ (E : Env w (f0 :: f1 :: f2 :: f3 :: f4 :: f5 :: f6 :: f7 :: f8 :: f9 :: f10 :: f11 :: l)) : f11.p w := E.2.2.2.2.2.2.2.2.2.2.2.1
theorem QP (E : Env w (f0 :: f1 :: f2 :: f3 :: f4 :: f5 :: f6 :: f7 :: f8 :: f9 :: f10 :: f11 :: f12 :: l)) : f12.p w := E.2.2.2.2.2.2.2.2.2.2.2.2.1
theorem TI (E : Env w (f0 :: f1 :: f2 :: f3 :: f4 :: f5 :: f6 :: f7 :: f8 :: f9 :: f10 :: f11 :: f12 :: f13 :: l)) : f13.p w := E.2.2.2.2.2.2.2.2.2.2.2.2.2.1
theorem iU (E : Env w (f0 :: f1 :: f2 :: f3 :: f4 :: f5 :: f6 :: f7 :: f8 :: f9 :: f10 :: f11 :: f12 :: f13 :: f14 :: l)) : f14.p w := E.2.2.2.2.2.2.2.2.2.2.2.2.2.2.1
theorem Iy (E : Env w (f0 :: f1 :: f2 :: f3 :: f4 :: f5 :: f6 :: f7 :: f8 :: f9 :: f10 :: f11 :: f12 :: f13 :: f14 :: f15 :: l)) : f15.p w := E.2.2.2.2.2.2.2.2.2.2.2.2.2.2.2.1
theorem e16 (E : Env w (f0 :: f1 :: f2 :: f3 :: f4 :: f5 :: f6 :: f7 :: f8 :: f9 :: f10 :: f11 :: f12 :: f13 :: f14 :: f15 :: f16 :: l)) : f16.p w := E.2.2.2.2.2.2.2.2.2.2.2.2.2.2.2.2.1
theorem sG (E : Env w (f0 :: f1 :: f2 :: f3 :: f4 :: f5 :: f6 :: f7 :: f8 :: f9 :: f10 :: f11 :: f12 :: f13 :: f14 :: f15 :: f16 :: f17 :: l)) : f17.p w := E.2.2.2.2.2.2.2.2.2.2.2.2.2.2.2.2.2.1
theorem e18 (E : Env w (f0 :: f1 :: f2 :: f3 :: f4 :: f5 :: f6 :: f7 :: f8 :: f9 :: f10 :: f11 :: f12 :: f13 :: f14 :: f15 :: f16 :: f17 :: f18 :: l)) : f18.p w := E.2.2.2.2.2.2.2.2.2.2.2.2.2.2.2.2.2.2.1
theorem e19 (E : Env w (f0 :: f1 :: f2 :: f3 :: f4 :: f5 :: f6 :: f7 :: f8 :: f9 :: f10 :: f11 :: f12 :: f13 :: f14 :: f15 :: f16 :: f17 :: f18 :: f19 :: l)) : f19.p w := E.2.2.2.2.2.2.2.2.2.2.2.2.2.2.2.2.2.2.2.1
theorem e20 (E : Env w (f0 :: f1 :: f2 :: f3 :: f4 :: f5 :: f6 :: f7 :: f8 :: f9 :: f10 :: f11 :: f12 :: f13 :: f14 :: f15 :: f16 :: f17 :: f18 :: f19 :: f20 :: l)) : f20.p w := E.2.2.2.2.2.2.2.2.2.2.2.2.2.2.2.2.2.2.2.2.1
theorem e21 (E : Env w (f0 :: f1 :: f2 :: f3 :: f4 :: f5 :: f6 :: f7 :: f8 :: f9 :: f10 :: f11 :: f12 :: f13 :: f14 :: f15 :: f16 :: f17 :: f18 :: f19 :: f20 :: f21 :: l)) : f21.p w := E.2.2.2.2.2.2.2.2.2.2.2.2.2.2.2.2.2.2.2.2.2.1
theorem Xv (E : Env w (f0 :: f1 :: f2 :: f3 :: f4 :: f5 :: f6 :: f7 :: f8 :: f9 :: f10 :: f11 :: f12 :: f13 :: f14 :: f15 :: f16 :: f17 :: f18 :: f19 :: f20 :: f21 :: f22 :: l)) : f22.p w := E.2.2.2.2.2.2.2.2.2.2.2.2.2.2.2.2.2.2.2.2.2.2.1
theorem Cv (E : Env w (f0 :: f1 :: f2 :: f3 :: f4 :: f5 :: f6 :: f7 :: f8 :: f9 :: f10 :: f11 :: f12 :: f13 :: f14 :: f15 :: f16 :: f17 :: f18 :: f19 :: f20 :: f21 :: f22 :: f23 :: l)) : f23.p w := E.2.2.2.2.2.2.2.2.2.2.2.2.2.2.2.2.2.2.2.2.2.2.2.1
theorem Nj (E : Env w (f0 :: f1 :: f2 :: f3 :: f4 :: f5 :: f6 :: f7 :: f8 :: f9 :: f10 :: f11 :: f12 :: f13 :: f14 :: f15 :: f16 :: f17 :: f18 :: f19 :: f20 :: f21 :: f22 :: f23 :: f24 :: l)) : f24.p w := E.2.2.2.2.2.2.2.2.2.2.2.2.2.2.2.2.2.2.2.2.2.2.2.2.1
theorem e25 (E : Env w (f0 :: f1 :: f2 :: f3 :: f4 :: f5 :: f6 :: f7 :: f8 :: f9 :: f10 :: f11 :: f12 :: f13 :: f14 :: f15 :: f16 :: f17 :: f18 :: f19 :: f20 :: f21 :: f22 :: f23 :: f24 :: f25 :: l)) : f25.p w := E.2.2.2.2.2.2.2.2.2.2.2.2.2.2.2.2.2.2.2.2.2.2.2.2.2.1
theorem e26 (E : Env w (f0 :: f1 :: f2 :: f3 :: f4 :: f5 :: f6 :: f7 :: f8 :: f9 :: f10 :: f11 :: f12 :: f13 :: f14 :: f15 :: f16 :: f17 :: f18 :: f19 :: f20 :: f21 :: f22 :: f23 :: f24 :: f25 :: f26 :: l)) : f26.p w := E.2.2.2.2.2.2.2.2.2.2.2.2.2.2.2.2.2.2.2.2.2.2.2.2.2.2.1
theorem e27 (E : Env w (f0 :: f1 :: f2 :: f3 :: f4 :: f5 :: f6 :: f7 :: f8 :: f9 :: f10 :: f11 :: f12 :: f13 :: f14 :: f15 :: f16 :: f17 :: f18 :: f19 :: f20 :: f21 :: f22 :: f23 :: f24 :: f25 :: f26 :: f27 :: l)) : f27.p w := E.2.2.2.2.2.2.2.2.2.2.2.2.2.2.2.2.2.2.2.2.2.2.2.2.2.2.2.1
theorem e28 (E : Env w (f0 :: f1 :: f2 :: f3 :: f4 :: f5 :: f6 :: f7 :: f8 :: f9 :: f10 :: f11 :: f12 :: f13 :: f14 :: f15 :: f16 :: f17 :: f18 :: f19 :: f20 :: f21 :: f22 :: f23 :: f24 :: f25 :: f26 :: f27 :: f28 :: l)) : f28.p w := E.2.2.2.2.2.2.2.2.2.2.2.2.2.2.2.2.2.2.2.2.2.2.2.2.2.2.2.2.1
theorem e29 (E : Env w (f0 :: f1 :: f2 :: f3 :: f4 :: f5 :: f6 :: f7 :: f8 :: f9 :: f10 :: f11 :: f12 :: f13 :: f14 :: f15 :: f16 :: f17 :: f18 :: f19 :: f20 :: f21 :: f22 :: f23 :: f24 :: f25 :: f26 :: f27 :: f28 :: f29 :: l)) : f29.p w := E.2.2.2.2.2.2.2.2.2.2.2.2.2.2.2.2.2.2.2.2.2.2.2.2.2.2.2.2.2.1
end
section
variable {P : Program} {md : Region.Mode} {ops : Array Oper} {Q : Exit → Act → World → Prop} {S1 S2 : World → Prop} {rest : List Nat} {o : Oper} {w : World} {l : List Value} {v : Value} {i k : Nat}
theorem SW (ho : ops[k]? = some o) (hp : JU o = true) (ht : VT md ops [] k = true) (hg : Region.wanted o (yielded ops l.toArray) = true) (hd : o.dst = some i) (hr : ∀ w, S1 w → (execOp (KL l) o).run P w = .ok (.value v) w)
    (h : DJ P md ops Q [] S1 S2 rest false ⟨(l.set i v).toArray, []⟩ w) : DJ P md ops Q [] S1 S2 (k :: rest) false ⟨l.toArray, []⟩ w := SP ho hp ht hg (by rw [KS]; exact hr) (by rw [OE l i v hd]; exact h)
theorem SM {x : Operand} {j : Nat} (ho : ops[k]? = some o) (hp : JU o = true) (ht : VT md ops [] k = true) (hg : Region.wanted o (yielded ops l.toArray) = true) (hd : o.dst = some i) (hop : o.op = .move x) (hj : x = .tmp j) (hx : l[j]? = some v)
    (h : DJ P md ops Q [] S1 S2 rest false ⟨(l.set i v).toArray, []⟩ w) : DJ P md ops Q [] S1 S2 (k :: rest) false ⟨l.toArray, []⟩ w := SW ho hp ht hg hd (fun _ _ => by rw [← KS]; exact GE hop (cY hj hx)) h
theorem SA {x : Operand} {j : Nat} (ho : ops[k]? = some o) (hp : JU o = true) (ht : VT md ops [] k = true) (hg : Region.wanted o (yielded ops l.toArray) = true) (hd : o.dst = some i) (hop : o.op = .assign x) (hj : x = .tmp j) (hx : l[j]? = some v)
    (h : DJ P md ops Q [] S1 S2 rest false ⟨(l.set i v).toArray, []⟩ w) : DJ P md ops Q [] S1 S2 (k :: rest) false ⟨l.toArray, []⟩ w := SW ho hp ht hg hd (fun _ _ => by rw [← KS]; exact KH hop (cY hj hx)) h
theorem SAC {x : Operand} (ho : ops[k]? = some o) (hp : JU o = true) (ht : VT md ops [] k = true) (hg : Region.wanted o (yielded ops l.toArray) = true) (hd : o.dst = some i) (hop : o.op = .assign x) (hj : x = .const v)
    (h : DJ P md ops Q [] S1 S2 rest false ⟨(l.set i v).toArray, []⟩ w) : DJ P md ops Q [] S1 S2 (k :: rest) false ⟨l.toArray, []⟩ w := SW ho hp ht hg hd (fun _ _ => KH hop (by subst hj; rfl)) h
end
theorem BB {P : Program} {ops : Array Oper} {Q : Exit → Act → World → Prop} {rest : List Oper} {o : Oper} {w : World} {l : List Value} {v : Value} {i : Nat} {x : Operand} {j : Nat} (g : Region.wanted o (yielded ops l.toArray) = true ∧ o.dst = some i ∧ o.op = .move x ∧ x = .tmp j ∧ l[j]? = some v) (h : WL P ops Q rest (l.set i v) w) : WL P ops Q (o :: rest) l w := M g.1 g.2.1 g.2.2.1 g.2.2.2.1 g.2.2.2.2 h
theorem BC {P : Program} {ops : Array Oper} {Q : Exit → Act → World → Prop} {rest : List Oper} {o : Oper} {w : World} {l : List Value} {v : Value} {i : Nat} {x : Operand} {j : Nat} (g : Region.wanted o (yielded ops l.toArray) = true ∧ o.dst = some i ∧ o.op = .assign x ∧ x = .tmp j ∧ l[j]? = some v) (h : WL P ops Q rest (l.set i v) w) : WL P ops Q (o :: rest) l w := A g.1 g.2.1 g.2.2.1 g.2.2.2.1 g.2.2.2.2 h
theorem BD {P : Program} {ops : Array Oper} {Q : Exit → Act → World → Prop} {rest : List Oper} {o : Oper} {w : World} {l : List Value} {v : Value} {i : Nat} {x : Operand} (g : Region.wanted o (yielded ops l.toArray) = true ∧ o.dst = some i ∧ o.op = .assign x ∧ x = .const v) (h : WL P ops Q rest (l.set i v) w) : WL P ops Q (o :: rest) l w := AC g.1 g.2.1 g.2.2.1 g.2.2.2 h
theorem BE {P : Program} {md : Region.Mode} {ops : Array Oper} {Q : Exit → Act → World → Prop} {S1 S2 : World → Prop} {rest : List Nat} {k : Nat} {o : Oper} {w : World} {l : List Value} {v : Value} {i : Nat} {x : Operand} {j : Nat} (g : ops[k]? = some o ∧ JU o = true ∧ VT md ops [] k = true ∧ Region.wanted o (yielded ops l.toArray) = true ∧ o.dst = some i ∧ o.op = .move x ∧ x = .tmp j ∧ l[j]? = some v) (h : DJ P md ops Q [] S1 S2 rest false ⟨(l.set i v).toArray, []⟩ w) : DJ P md ops Q [] S1 S2 (k :: rest) false ⟨l.toArray, []⟩ w := SM g.1 g.2.1 g.2.2.1 g.2.2.2.1 g.2.2.2.2.1 g.2.2.2.2.2.1 g.2.2.2.2.2.2.1 g.2.2.2.2.2.2.2 h
theorem BF {P : Program} {md : Region.Mode} {ops : Array Oper} {Q : Exit → Act → World → Prop} {S1 S2 : World → Prop} {rest : List Nat} {k : Nat} {o : Oper} {w : World} {l : List Value} {v : Value} {i : Nat} {x : Operand} {j : Nat} (g : ops[k]? = some o ∧ JU o = true ∧ VT md ops [] k = true ∧ Region.wanted o (yielded ops l.toArray) = true ∧ o.dst = some i ∧ o.op = .assign x ∧ x = .tmp j ∧ l[j]? = some v) (h : DJ P md ops Q [] S1 S2 rest false ⟨(l.set i v).toArray, []⟩ w) : DJ P md ops Q [] S1 S2 (k :: rest) false ⟨l.toArray, []⟩ w := SA g.1 g.2.1 g.2.2.1 g.2.2.2.1 g.2.2.2.2.1 g.2.2.2.2.2.1 g.2.2.2.2.2.2.1 g.2.2.2.2.2.2.2 h
def BI (l : List Value) : Operand → Option Value
  | .tmp t => l[t]?
  | .const v => some v
  | _ => none
theorem BJ {l : List Value} {x : Operand} {v : Value} (h : BI l x = some v) : KL l x = v := by
  cases x <;> simp_all [BI, KL]
theorem BM {P : Program} {ops : Array Oper} {Q : Exit → Act → World → Prop} {rest : List Oper} {o : Oper} {w : World} {l : List Value} {v : Value} {i : Nat} {c x y : Operand} (hg : Region.wanted o (yielded ops l.toArray) = true) (g : o.dst = some i ∧ o.op = .pick c x y ∧ KL l c = .bool true ∧ BI l x = some v) (h : WL P ops Q rest (l.set i v) w) : WL P ops Q (o :: rest) l w := V hg g.1 (Kh (b := true) g.2.1 g.2.2.1 (by simp only [if_true]; exact BJ g.2.2.2)) h
theorem BN {P : Program} {ops : Array Oper} {Q : Exit → Act → World → Prop} {rest : List Oper} {o : Oper} {w : World} {l : List Value} {i : Nat} {x : Operand} {t : TypeId} (hg : Region.wanted o (yielded ops l.toArray) = true) (g : o.dst = some i ∧ o.op = .unOp .not t x ∧ BI l x = some (.bool true)) (h : WL P ops Q rest (l.set i (.bool false)) w) : WL P ops Q (o :: rest) l w := V hg g.1 (UY (b := true) g.2.1 (BJ g.2.2)) h
theorem BO {P : Program} {md : Region.Mode} {ops : Array Oper} {Q : Exit → Act → World → Prop} {S1 S2 : World → Prop} {rest : List Nat} {k : Nat} {o : Oper} {w : World} {l : List Value} {v : Value} {i : Nat} {c x y : Operand} (hg : Region.wanted o (yielded ops l.toArray) = true) (g : ops[k]? = some o ∧ JU o = true ∧ VT md ops [] k = true ∧ o.dst = some i ∧ o.op = .pick c x y ∧ KL l c = .bool true ∧ BI l x = some v) (h : DJ P md ops Q [] S1 S2 rest false ⟨(l.set i v).toArray, []⟩ w) : DJ P md ops Q [] S1 S2 (k :: rest) false ⟨l.toArray, []⟩ w := SW g.1 g.2.1 g.2.2.1 hg g.2.2.2.1 (fun _ _ => Kh (b := true) g.2.2.2.2.1 g.2.2.2.2.2.1 (by simp only [if_true]; exact BJ g.2.2.2.2.2.2)) h
theorem BP {P : Program} {ops : Array Oper} {Q : Exit → Act → World → Prop} {rest : List Oper} {o : Oper} {w : World} {l : List Value} {v : Value} {i : Nat} {c x y : Operand} (hg : Region.wanted o (yielded ops l.toArray) = true) (g : o.dst = some i ∧ o.op = .pick c x y ∧ KL l c = .bool false ∧ BI l y = some v) (h : WL P ops Q rest (l.set i v) w) : WL P ops Q (o :: rest) l w := V hg g.1 (Kh (b := false) g.2.1 g.2.2.1 (by simp only [Bool.false_eq_true, if_false]; exact BJ g.2.2.2)) h
theorem BQ {P : Program} {ops : Array Oper} {Q : Exit → Act → World → Prop} {rest : List Oper} {o : Oper} {w : World} {l : List Value} {i : Nat} {x : Operand} {t : TypeId} (hg : Region.wanted o (yielded ops l.toArray) = true) (g : o.dst = some i ∧ o.op = .unOp .not t x ∧ BI l x = some (.bool false)) (h : WL P ops Q rest (l.set i (.bool true)) w) : WL P ops Q (o :: rest) l w := V hg g.1 (UY (b := false) g.2.1 (BJ g.2.2)) h
theorem BR {P : Program} {md : Region.Mode} {ops : Array Oper} {Q : Exit → Act → World → Prop} {S1 S2 : World → Prop} {rest : List Nat} {k : Nat} {o : Oper} {w : World} {l : List Value} {v : Value} {i : Nat} {c x y : Operand} (hg : Region.wanted o (yielded ops l.toArray) = true) (g : ops[k]? = some o ∧ JU o = true ∧ VT md ops [] k = true ∧ o.dst = some i ∧ o.op = .pick c x y ∧ KL l c = .bool false ∧ BI l y = some v) (h : DJ P md ops Q [] S1 S2 rest false ⟨(l.set i v).toArray, []⟩ w) : DJ P md ops Q [] S1 S2 (k :: rest) false ⟨l.toArray, []⟩ w := SW g.1 g.2.1 g.2.2.1 hg g.2.2.2.1 (fun _ _ => Kh (b := false) g.2.2.2.2.1 g.2.2.2.2.2.1 (by simp only [Bool.false_eq_true, if_false]; exact BJ g.2.2.2.2.2.2)) h
theorem BS {P : Program} {ops : Array Oper} {Q : Exit → Act → World → Prop} {rest : List Oper} {o : Oper} {w : World} {l : List Value} {v : Value} {i : Nat} {t : Operand} {k : Nat} {a : Array Value} (hg : Region.wanted o (yielded ops l.toArray) = true) (g : o.dst = some i ∧ o.op = .extract t k ∧ BI l t = some (.tuple a) ∧ a.toList[k]? = some v) (h : WL P ops Q rest (l.set i v) w) : WL P ops Q (o :: rest) l w := V hg g.1 (XA (vs := a.toList) g.2.1 (by rw [BJ g.2.2.1]) g.2.2.2) h
end Go.Proofs.YtmppigbbkjepiaaGreatDoor
