/- Helping facts of KitC; no other conditions. -/
import Derived.Test.YtmppigbbkjepiaaGreatDoorTxtL
namespace Go.Proofs.YtmppigbbkjepiaaGreatDoor
open Go.Proofs.Tryz
open Go.RowKit W
variable {P : Program} {Q : Exit -> Act -> World -> Prop} {S1 S2 : World -> Prop} {X m n : Int} {a b : Bool} {c x y : Operand} {i j k : Nat} {l : List Value} {md : Region.Mode} {o : Oper} {ops : Array Oper} {p : Prop} {rest : List Oper} {t t' : TypeId} {tys : Array TypeId} {v : Value} {w : World}
theorem YHz (h : p := by simp only [if_true, Bool.false_eq_true, if_false]; exact BJ g.2.2.2) : p := h
theorem Yud (h : p := by simp only [if_true, Bool.false_eq_true, if_false]; exact BJ g.2.2.2.2.2.2) : p := h
section
variable {P : Program} {ops : Array Oper} {Q : Exit -> Act -> World -> Prop} {rest : List Oper} {o : Oper} {w : World} {l : List Value} {v : Value} {i : Nat}
theorem OY (l : List Value) (i : Nat) (v : Value) (h : o.dst = some i) : Act.put ⟨l.toArray, []⟩ o.dst v = ⟨(l.set i v).toArray, []⟩ := by
 rw [h]; simp [Act.put]
theorem eZ (hx : x = .tmp j) (h : l[j]? = some v) : Act.eval ⟨l.toArray, []⟩ x = v := by
 subst hx; simp [Act.eval, h]
def LO (l : List Value) : Operand -> Value
 | .tmp t => (l[t]?).getD undef
 | .const v => v
 | .global g => .pointer (some ⟨g, 0, none⟩)
 | .func f => .func (.func f) #[] #[]
theorem PJ (l : List Value) : Act.eval ⟨l.toArray, []⟩ = LO l := by
 funext x
 cases x <;> simp [Act.eval, LO]
structure WL (P : Program) (ops : Array Oper) (Q : Exit -> Act -> World -> Prop) (rest : List Oper) (l : List Value) (w : World) : Prop where
 out : wpList P ops Q rest ⟨l.toArray, []⟩ w
structure KW (P : Program) (ops : Array Oper) (Q : Exit -> Act -> World -> Prop) (rest : List Oper) (a : Act) (w : World) : Prop where
 out : wpList P ops Q rest a w
theorem KW_eq (P : Program) (ops : Array Oper) (Q : Exit -> Act -> World -> Prop) (rest : List Oper) : KW P ops Q rest = wpList P ops Q rest := by
 funext a w
 exact propext ⟨KW.out, KW.mk⟩
theorem kw (hd : o.dst = some i) (h : WL P ops Q rest (l.set i v) w) : KW P ops Q rest (Act.put ⟨l.toArray, []⟩ o.dst v) w := ⟨by rw [OY l i v hd]; exact h.out⟩
theorem kn (hd : o.dst = none) (h : WL P ops Q rest l w) : KW P ops Q rest (Act.put ⟨l.toArray, []⟩ o.dst v) w := ⟨by rw [hd]; exact h.out⟩
theorem RL {id : Nat} (h : WL P ops Q ops.toList l w) : (Code.region id ops false).wp P Q ⟨l.toArray, []⟩ w := AR h.out
theorem WN (h : Q .normal ⟨l.toArray, []⟩ w) : WL P ops Q [] l w := ⟨AS h⟩
theorem V (hg : Region.wanted o (yielded ops l.toArray) = true) (hd : o.dst = some i) (hr : (execOp (LO l) o).run P w = .ok (.value v) w) (h : WL P ops Q rest (l.set i v) w) :
 WL P ops Q (o :: rest) l w := ⟨LV hg (by rw [PJ]; exact hr) (by rw [OY l i v hd]; exact h.out)⟩
theorem M (hg : Region.wanted o (yielded ops l.toArray) = true) (hd : o.dst = some i) (ho : o.op = .move x) (hj : x = .tmp j) (hx : l[j]? = some v) (h : WL P ops Q rest (l.set i v) w) :
 WL P ops Q (o :: rest) l w := V hg hd (by rw [<- PJ]; exact EV ho (eZ hj hx)) h
theorem A (hg : Region.wanted o (yielded ops l.toArray) = true) (hd : o.dst = some i) (ho : o.op = .assign x) (hj : x = .tmp j) (hx : l[j]? = some v) (h : WL P ops Q rest (l.set i v) w) :
 WL P ops Q (o :: rest) l w := V hg hd (by rw [<- PJ]; exact IF ho (eZ hj hx)) h
theorem AC (hg : Region.wanted o (yielded ops l.toArray) = true) (hd : o.dst = some i) (ho : o.op = .assign x) (hj : x = .const v) (h : WL P ops Q rest (l.set i v) w) :
 WL P ops Q (o :: rest) l w := V hg hd (IF ho (by subst hj; rfl)) h
theorem L0C (hg : Region.wanted o (yielded ops l.toArray) = false) (hd : o.dst = some i) (h : WL P ops Q rest (l.set i undef) w) : WL P ops Q (o :: rest) l w :=
 ⟨L0 hg (by rw [OY l i undef hd]; exact h.out)⟩
theorem EF (hg : Region.wanted o (yielded ops l.toArray) = true) (h : o.wp P ⟨l.toArray, []⟩ w (KW P ops Q rest) Q) : WL P ops Q (o :: rest) l w := ⟨L1 hg (by rw [<- KW_eq]; exact h)⟩
end
section
variable {ρ : Operand -> Value} {o : Oper} {w : World} {P : Program}
theorem vW {k : IntKind} {c : Int} (ho : o.op = .call { callee := .builtin .min, args := #[x, y], argTypes := tys }) (hx : ρ x = .int k m) (hy : ρ y = .int k n) (hc : (if n < m then n else m) = c) :
 (execOp ρ o).run prog w = .ok (.value (.int k c)) w := by
 subst hc; unfold execOp; rw [ho]; simp [hx, hy, go_sem]; rw [Int.min_def]; split <;> split <;> omega
theorem vX {k : IntKind} {c : Int} (ho : o.op = .call { callee := .builtin .max, args := #[x, y], argTypes := tys }) (hx : ρ x = .int k m) (hy : ρ y = .int k n) (hc : (if m < n then n else m) = c) :
 (execOp ρ o).run prog w = .ok (.value (.int k c)) w := by
 subst hc; unfold execOp; rw [ho]; simp [hx, hy, go_sem]; rw [Int.max_def]; split <;> split <;> omega
theorem kL {c : Bool} (ho : o.op = .binOp .neq t x y t') (hT : P.underlying t = some .bool) (hx : ρ x = .bool a) (hy : ρ y = .bool b) (hc : (a != b) = c) : (execOp ρ o).run P w = .ok (.value (.bool c)) w := by
 unfold execOp; rw [ho]; subst hc; simp [hx, hy, go_sem, run_neq_bool _ _ _ _ hT]; cases a <;> cases b <;> rfl
theorem sQ {c : Bool} (ho : o.op = .binOp .eql t x y t') (hT : P.underlying t = some .bool) (hx : ρ x = .bool a) (hy : ρ y = .bool b) (hc : (a == b) = c) : (execOp ρ o).run P w = .ok (.value (.bool c)) w := by
 unfold execOp; rw [ho]; subst hc; simp [hx, hy, go_sem, run_eql_bool _ _ _ _ hT]
end
theorem JP {a : Nat} (hX : X = (a : Int)) (h : a < 9223372036854775808) : IntKind.i64.wrap X = (a : Int) := by subst hX; simp only [IntKind.wrap_i64]; omega
theorem HI (h : -9223372036854775808 <= X /\ X < 9223372036854775808) : IntKind.i64.wrap X = X := by simp only [IntKind.wrap_i64]; omega
theorem Sl.shp {l : List Nat} (h : Sl w v l) : ∃ ao cap, v = .slice ao l.length cap := by
 obtain ⟨ao, cap, rfl, _⟩ := h
 exact ⟨ao, cap, rfl⟩
section
variable {P : Program} {o : Oper} {a : Act} {w : World} {K : Act -> World -> Prop} {Q : Exit -> Act -> World -> Prop} {f : Nat} {args : List Operand} {tys : Array TypeId} {vs : List Value} {l : List SF}
theorem TT {q r : Nat} (hf : Fn P f) (ho : o.op = .call { callee := .value (.func f), args := args.toArray, argTypes := tys }) (hc : Calls P f vs.toArray w (Rb w q r)) (hv : args.map a.eval = vs) (E : Env w l)
 (h : ∀ w' v u, Below w.heap.size w w' -> Env w' (fS u (CC r) :: fS v (CC q) :: l) -> K (a.put o.dst (.tuple #[v, u])) w') : o.wp P a w K Q := by
 refine DG hf ho hc hv ?_
 rintro e w' ⟨v, u, rfl, p, t, k⟩
 exact ⟨_, rfl, h w' v u k ⟨t, p, E.below k⟩⟩
theorem uU {c : Nat} (ho : o.op = .buildSlice 60 1 #[(0, .const (.int .u32 X))]) (hX : X = (c : Int)) (hc : 0 < c) (hc2 : c < 4294967296) (E : Env w l)
 (h : ∀ w' v, Below w.heap.size w w' -> Env w' (fS v (CC c) :: l) -> K (a.put o.dst v) w') : o.wp prog a w K Q := by
 obtain ⟨u, y, p, k, f⟩ := info_parts tT
 have e : Below w.heap.size w (w.alloc (.cells #[.int .u32 X] 186)) := (Below.refl _ _).alloc (Nat.le_refl _) _
 have t : CC c = [c] := by rw [TO c hc, Nat.mod_eq_of_lt hc2, Nat.div_eq_of_lt hc2, DX]
 have q : Sl (w.alloc (.cells #[.int .u32 X] 186)) (.slice (some ⟨w.heap.size, 0, none⟩) 1 1) (CC c) := by rw [t]; exact Wn w X c hX hc2
 refine DO (v := .slice (some ⟨w.heap.size, 0, none⟩) 1 1) (w' := w.alloc (.cells #[.int .u32 X] 186)) ?_ (h _ _ e ⟨q, E.below e⟩)
 unfold execOp; rw [ho]
 simp [Instr.buildSlice, go_sem]
theorem uV {v : Int} (ho : o.op = .buildSlice 42 1 #[(0, x)]) (hx : a.eval x = .int .u8 v) (E : Env w l)
 (h : ∀ w' b, Below w.heap.size w w' -> Env w' (fX b 5 [.int .u8 v] :: l) -> K (a.put o.dst (.slice (some ⟨b, 0, none⟩) 1 1)) w') : o.wp prog a w K Q := by
 have e : ∀ ρ : Operand -> Value, ρ x = .int .u8 v -> (execOp ρ o).run prog w = .ok (.value (.slice (some ⟨w.heap.size, 0, none⟩) 1 1)) (w.alloc (.cells #[.int .u8 v] 5)) := by
  intro ρ hx
  unfold execOp; rw [ho]
  simp [go_sem, Instr.buildSlice, hx]
 have e := e _ hx
 have f : Below w.heap.size w (w.alloc (.cells #[.int .u8 v] 5)) := (Below.refl _ _).alloc (Nat.le_refl _) _
 exact DO e (h _ _ f ⟨JD w _ [.int .u8 v], E.below f⟩)
end
section
variable {w : World} {f0 f1 f2 f3 f4 f5 f6 f7 f8 f9 f10 f11 f12 f13 f14 f15 f16 f17 f18 f19 f20 f21 f22 f23 f24 f25 f26 f27 f28 f29 : SF} {l : List SF}
theorem e0 (E : Env w (f0 :: l)) : f0.p w := E.1
theorem e1 (E : Env w (f0 :: f1 :: l)) : f1.p w := E.2.1
theorem e2 (E : Env w (f0 :: f1 :: f2 :: l)) : f2.p w := E.2.2.1
theorem e3 (E : Env w (f0 :: f1 :: f2 :: f3 :: l)) : f3.p w := E.2.2.2.1
theorem e4 (E : Env w (f0 :: f1 :: f2 :: f3 :: f4 :: l)) : f4.p w := E.2.2.2.2.1
theorem e5 (E : Env w (f0 :: f1 :: f2 :: f3 :: f4 :: f5 :: l)) : f5.p w := E.2.2.2.2.2.1
theorem e6 (E : Env w (f0 :: f1 :: f2 :: f3 :: f4 :: f5 :: f6 :: l)) : f6.p w := E.2.2.2.2.2.2.1
theorem e7 (E : Env w (f0 :: f1 :: f2 :: f3 :: f4 :: f5 :: f6 :: f7 :: l)) : f7.p w := E.2.2.2.2.2.2.2.1
theorem e8 (E : Env w (f0 :: f1 :: f2 :: f3 :: f4 :: f5 :: f6 :: f7 :: f8 :: l)) : f8.p w := E.2.2.2.2.2.2.2.2.1
theorem e9 (E : Env w (f0 :: f1 :: f2 :: f3 :: f4 :: f5 :: f6 :: f7 :: f8 :: f9 :: l)) : f9.p w := E.2.2.2.2.2.2.2.2.2.1
theorem RA (E : Env w (f0 :: f1 :: f2 :: f3 :: f4 :: f5 :: f6 :: f7 :: f8 :: f9 :: f10 :: l)) : f10.p w := E.2.2.2.2.2.2.2.2.2.2.1
theorem RJ (E : Env w (f0 :: f1 :: f2 :: f3 :: f4 :: f5 :: f6 :: f7 :: f8 :: f9 :: f10 :: f11 :: l)) : f11.p w := E.2.2.2.2.2.2.2.2.2.2.2.1
theorem UH (E : Env w (f0 :: f1 :: f2 :: f3 :: f4 :: f5 :: f6 :: f7 :: f8 :: f9 :: f10 :: f11 :: f12 :: l)) : f12.p w := E.2.2.2.2.2.2.2.2.2.2.2.2.1
theorem WP (E : Env w (f0 :: f1 :: f2 :: f3 :: f4 :: f5 :: f6 :: f7 :: f8 :: f9 :: f10 :: f11 :: f12 :: f13 :: l)) : f13.p w := E.2.2.2.2.2.2.2.2.2.2.2.2.2.1
theorem iI (E : Env w (f0 :: f1 :: f2 :: f3 :: f4 :: f5 :: f6 :: f7 :: f8 :: f9 :: f10 :: f11 :: f12 :: f13 :: f14 :: l)) : f14.p w := E.2.2.2.2.2.2.2.2.2.2.2.2.2.2.1
theorem Xm (E : Env w (f0 :: f1 :: f2 :: f3 :: f4 :: f5 :: f6 :: f7 :: f8 :: f9 :: f10 :: f11 :: f12 :: f13 :: f14 :: f15 :: l)) : f15.p w := E.2.2.2.2.2.2.2.2.2.2.2.2.2.2.2.1
theorem e16 (E : Env w (f0 :: f1 :: f2 :: f3 :: f4 :: f5 :: f6 :: f7 :: f8 :: f9 :: f10 :: f11 :: f12 :: f13 :: f14 :: f15 :: f16 :: l)) : f16.p w := E.2.2.2.2.2.2.2.2.2.2.2.2.2.2.2.2.1
theorem Xl (E : Env w (f0 :: f1 :: f2 :: f3 :: f4 :: f5 :: f6 :: f7 :: f8 :: f9 :: f10 :: f11 :: f12 :: f13 :: f14 :: f15 :: f16 :: f17 :: l)) : f17.p w := E.2.2.2.2.2.2.2.2.2.2.2.2.2.2.2.2.2.1
theorem Zv (E : Env w (f0 :: f1 :: f2 :: f3 :: f4 :: f5 :: f6 :: f7 :: f8 :: f9 :: f10 :: f11 :: f12 :: f13 :: f14 :: f15 :: f16 :: f17 :: f18 :: l)) : f18.p w := E.2.2.2.2.2.2.2.2.2.2.2.2.2.2.2.2.2.2.1
theorem e19 (E : Env w (f0 :: f1 :: f2 :: f3 :: f4 :: f5 :: f6 :: f7 :: f8 :: f9 :: f10 :: f11 :: f12 :: f13 :: f14 :: f15 :: f16 :: f17 :: f18 :: f19 :: l)) : f19.p w := E.2.2.2.2.2.2.2.2.2.2.2.2.2.2.2.2.2.2.2.1
theorem e20 (E : Env w (f0 :: f1 :: f2 :: f3 :: f4 :: f5 :: f6 :: f7 :: f8 :: f9 :: f10 :: f11 :: f12 :: f13 :: f14 :: f15 :: f16 :: f17 :: f18 :: f19 :: f20 :: l)) : f20.p w := E.2.2.2.2.2.2.2.2.2.2.2.2.2.2.2.2.2.2.2.2.1
theorem e21 (E : Env w (f0 :: f1 :: f2 :: f3 :: f4 :: f5 :: f6 :: f7 :: f8 :: f9 :: f10 :: f11 :: f12 :: f13 :: f14 :: f15 :: f16 :: f17 :: f18 :: f19 :: f20 :: f21 :: l)) : f21.p w := E.2.2.2.2.2.2.2.2.2.2.2.2.2.2.2.2.2.2.2.2.2.1
theorem Zu (E : Env w (f0 :: f1 :: f2 :: f3 :: f4 :: f5 :: f6 :: f7 :: f8 :: f9 :: f10 :: f11 :: f12 :: f13 :: f14 :: f15 :: f16 :: f17 :: f18 :: f19 :: f20 :: f21 :: f22 :: l)) : f22.p w := E.2.2.2.2.2.2.2.2.2.2.2.2.2.2.2.2.2.2.2.2.2.2.1
theorem Vi (E : Env w (f0 :: f1 :: f2 :: f3 :: f4 :: f5 :: f6 :: f7 :: f8 :: f9 :: f10 :: f11 :: f12 :: f13 :: f14 :: f15 :: f16 :: f17 :: f18 :: f19 :: f20 :: f21 :: f22 :: f23 :: l)) : f23.p w := E.2.2.2.2.2.2.2.2.2.2.2.2.2.2.2.2.2.2.2.2.2.2.2.1
theorem Vh (E : Env w (f0 :: f1 :: f2 :: f3 :: f4 :: f5 :: f6 :: f7 :: f8 :: f9 :: f10 :: f11 :: f12 :: f13 :: f14 :: f15 :: f16 :: f17 :: f18 :: f19 :: f20 :: f21 :: f22 :: f23 :: f24 :: l)) : f24.p w := E.2.2.2.2.2.2.2.2.2.2.2.2.2.2.2.2.2.2.2.2.2.2.2.2.1
theorem e25 (E : Env w (f0 :: f1 :: f2 :: f3 :: f4 :: f5 :: f6 :: f7 :: f8 :: f9 :: f10 :: f11 :: f12 :: f13 :: f14 :: f15 :: f16 :: f17 :: f18 :: f19 :: f20 :: f21 :: f22 :: f23 :: f24 :: f25 :: l)) : f25.p w := E.2.2.2.2.2.2.2.2.2.2.2.2.2.2.2.2.2.2.2.2.2.2.2.2.2.1
theorem e26 (E : Env w (f0 :: f1 :: f2 :: f3 :: f4 :: f5 :: f6 :: f7 :: f8 :: f9 :: f10 :: f11 :: f12 :: f13 :: f14 :: f15 :: f16 :: f17 :: f18 :: f19 :: f20 :: f21 :: f22 :: f23 :: f24 :: f25 :: f26 :: l)) : f26.p w := E.2.2.2.2.2.2.2.2.2.2.2.2.2.2.2.2.2.2.2.2.2.2.2.2.2.2.1
theorem e27 (E : Env w (f0 :: f1 :: f2 :: f3 :: f4 :: f5 :: f6 :: f7 :: f8 :: f9 :: f10 :: f11 :: f12 :: f13 :: f14 :: f15 :: f16 :: f17 :: f18 :: f19 :: f20 :: f21 :: f22 :: f23 :: f24 :: f25 :: f26 :: f27 :: l)) : f27.p w := E.2.2.2.2.2.2.2.2.2.2.2.2.2.2.2.2.2.2.2.2.2.2.2.2.2.2.2.1
theorem e28 (E : Env w (f0 :: f1 :: f2 :: f3 :: f4 :: f5 :: f6 :: f7 :: f8 :: f9 :: f10 :: f11 :: f12 :: f13 :: f14 :: f15 :: f16 :: f17 :: f18 :: f19 :: f20 :: f21 :: f22 :: f23 :: f24 :: f25 :: f26 :: f27 :: f28 :: l)) : f28.p w := E.2.2.2.2.2.2.2.2.2.2.2.2.2.2.2.2.2.2.2.2.2.2.2.2.2.2.2.2.1
theorem e29 (E : Env w (f0 :: f1 :: f2 :: f3 :: f4 :: f5 :: f6 :: f7 :: f8 :: f9 :: f10 :: f11 :: f12 :: f13 :: f14 :: f15 :: f16 :: f17 :: f18 :: f19 :: f20 :: f21 :: f22 :: f23 :: f24 :: f25 :: f26 :: f27 :: f28 :: f29 :: l)) : f29.p w := E.2.2.2.2.2.2.2.2.2.2.2.2.2.2.2.2.2.2.2.2.2.2.2.2.2.2.2.2.2.1
end
section
variable {P : Program} {md : Region.Mode} {ops : Array Oper} {Q : Exit -> Act -> World -> Prop} {S1 S2 : World -> Prop} {rest : List Nat} {o : Oper} {w : World} {l : List Value} {v : Value} {i k : Nat}
theorem SW (ho : ops[k]? = some o) (hp : KG o = true) (ht : WX md ops [] k = true) (hg : Region.wanted o (yielded ops l.toArray) = true) (hd : o.dst = some i) (hr : ∀ w, S1 w -> (execOp (LO l) o).run P w = .ok (.value v) w)
 (h : DM P md ops Q [] S1 S2 rest false ⟨(l.set i v).toArray, []⟩ w) : DM P md ops Q [] S1 S2 (k :: rest) false ⟨l.toArray, []⟩ w := SP ho hp ht hg (by rw [PJ]; exact hr) (by rw [OY l i v hd]; exact h)
theorem SM (ho : ops[k]? = some o) (hp : KG o = true) (ht : WX md ops [] k = true) (hg : Region.wanted o (yielded ops l.toArray) = true) (hd : o.dst = some i) (hop : o.op = .move x) (hj : x = .tmp j) (hx : l[j]? = some v)
 (h : DM P md ops Q [] S1 S2 rest false ⟨(l.set i v).toArray, []⟩ w) : DM P md ops Q [] S1 S2 (k :: rest) false ⟨l.toArray, []⟩ w := SW ho hp ht hg hd (fun _ _ => by rw [<- PJ]; exact EV hop (eZ hj hx)) h
theorem SA (ho : ops[k]? = some o) (hp : KG o = true) (ht : WX md ops [] k = true) (hg : Region.wanted o (yielded ops l.toArray) = true) (hd : o.dst = some i) (hop : o.op = .assign x) (hj : x = .tmp j) (hx : l[j]? = some v)
 (h : DM P md ops Q [] S1 S2 rest false ⟨(l.set i v).toArray, []⟩ w) : DM P md ops Q [] S1 S2 (k :: rest) false ⟨l.toArray, []⟩ w := SW ho hp ht hg hd (fun _ _ => by rw [<- PJ]; exact IF hop (eZ hj hx)) h
theorem SAC (ho : ops[k]? = some o) (hp : KG o = true) (ht : WX md ops [] k = true) (hg : Region.wanted o (yielded ops l.toArray) = true) (hd : o.dst = some i) (hop : o.op = .assign x) (hj : x = .const v)
 (h : DM P md ops Q [] S1 S2 rest false ⟨(l.set i v).toArray, []⟩ w) : DM P md ops Q [] S1 S2 (k :: rest) false ⟨l.toArray, []⟩ w := SW ho hp ht hg hd (fun _ _ => IF hop (by subst hj; rfl)) h
end
theorem BB (g : Region.wanted o (yielded ops l.toArray) = true /\ o.dst = some i /\ o.op = .move x /\ x = .tmp j /\ l[j]? = some v) (h : WL P ops Q rest (l.set i v) w) : WL P ops Q (o :: rest) l w := M g.1 g.2.1 g.2.2.1 g.2.2.2.1 g.2.2.2.2 h
theorem BC (g : Region.wanted o (yielded ops l.toArray) = true /\ o.dst = some i /\ o.op = .assign x /\ x = .tmp j /\ l[j]? = some v) (h : WL P ops Q rest (l.set i v) w) : WL P ops Q (o :: rest) l w := A g.1 g.2.1 g.2.2.1 g.2.2.2.1 g.2.2.2.2 h
theorem BD (g : Region.wanted o (yielded ops l.toArray) = true /\ o.dst = some i /\ o.op = .assign x /\ x = .const v) (h : WL P ops Q rest (l.set i v) w) : WL P ops Q (o :: rest) l w := AC g.1 g.2.1 g.2.2.1 g.2.2.2 h
theorem BE {rest : List Nat} (g : ops[k]? = some o /\ KG o = true /\ WX md ops [] k = true /\ Region.wanted o (yielded ops l.toArray) = true /\ o.dst = some i /\ o.op = .move x /\ x = .tmp j /\ l[j]? = some v) (h : DM P md ops Q [] S1 S2 rest false ⟨(l.set i v).toArray, []⟩ w) : DM P md ops Q [] S1 S2 (k :: rest) false ⟨l.toArray, []⟩ w := SM g.1 g.2.1 g.2.2.1 g.2.2.2.1 g.2.2.2.2.1 g.2.2.2.2.2.1 g.2.2.2.2.2.2.1 g.2.2.2.2.2.2.2 h
theorem BF {rest : List Nat} (g : ops[k]? = some o /\ KG o = true /\ WX md ops [] k = true /\ Region.wanted o (yielded ops l.toArray) = true /\ o.dst = some i /\ o.op = .assign x /\ x = .tmp j /\ l[j]? = some v) (h : DM P md ops Q [] S1 S2 rest false ⟨(l.set i v).toArray, []⟩ w) : DM P md ops Q [] S1 S2 (k :: rest) false ⟨l.toArray, []⟩ w := SA g.1 g.2.1 g.2.2.1 g.2.2.2.1 g.2.2.2.2.1 g.2.2.2.2.2.1 g.2.2.2.2.2.2.1 g.2.2.2.2.2.2.2 h
def BI (l : List Value) : Operand -> Option Value
 | .tmp t => l[t]?
 | .const v => some v
 | _ => none
theorem BJ (h : BI l x = some v) : LO l x = v := by
 cases x <;> simp_all [BI, LO]
theorem BM (hg : Region.wanted o (yielded ops l.toArray) = true) (g : o.dst = some i /\ o.op = .pick c x y /\ LO l c = .bool true /\ BI l x = some v) (h : WL P ops Q rest (l.set i v) w) : WL P ops Q (o :: rest) l w := V hg g.1 (Mi (b := true) g.2.1 g.2.2.1 YHz) h
theorem BN (hg : Region.wanted o (yielded ops l.toArray) = true) (g : o.dst = some i /\ o.op = .unOp .not t x /\ BI l x = some (.bool true)) (h : WL P ops Q rest (l.set i (.bool false)) w) : WL P ops Q (o :: rest) l w := V hg g.1 (dE (b := true) g.2.1 (BJ g.2.2)) h
theorem BO {rest : List Nat} (hg : Region.wanted o (yielded ops l.toArray) = true) (g : ops[k]? = some o /\ KG o = true /\ WX md ops [] k = true /\ o.dst = some i /\ o.op = .pick c x y /\ LO l c = .bool true /\ BI l x = some v) (h : DM P md ops Q [] S1 S2 rest false ⟨(l.set i v).toArray, []⟩ w) : DM P md ops Q [] S1 S2 (k :: rest) false ⟨l.toArray, []⟩ w := SW g.1 g.2.1 g.2.2.1 hg g.2.2.2.1 (fun _ _ => Mi (b := true) g.2.2.2.2.1 g.2.2.2.2.2.1 Yud) h
theorem BP (hg : Region.wanted o (yielded ops l.toArray) = true) (g : o.dst = some i /\ o.op = .pick c x y /\ LO l c = .bool false /\ BI l y = some v) (h : WL P ops Q rest (l.set i v) w) : WL P ops Q (o :: rest) l w := V hg g.1 (Mi (b := false) g.2.1 g.2.2.1 YHz) h
theorem BQ (hg : Region.wanted o (yielded ops l.toArray) = true) (g : o.dst = some i /\ o.op = .unOp .not t x /\ BI l x = some (.bool false)) (h : WL P ops Q rest (l.set i (.bool true)) w) : WL P ops Q (o :: rest) l w := V hg g.1 (dE (b := false) g.2.1 (BJ g.2.2)) h
theorem BR {rest : List Nat} (hg : Region.wanted o (yielded ops l.toArray) = true) (g : ops[k]? = some o /\ KG o = true /\ WX md ops [] k = true /\ o.dst = some i /\ o.op = .pick c x y /\ LO l c = .bool false /\ BI l y = some v) (h : DM P md ops Q [] S1 S2 rest false ⟨(l.set i v).toArray, []⟩ w) : DM P md ops Q [] S1 S2 (k :: rest) false ⟨l.toArray, []⟩ w := SW g.1 g.2.1 g.2.2.1 hg g.2.2.2.1 (fun _ _ => Mi (b := false) g.2.2.2.2.1 g.2.2.2.2.2.1 Yud) h
theorem BS {t : Operand} {a : Array Value} (hg : Region.wanted o (yielded ops l.toArray) = true) (g : o.dst = some i /\ o.op = .extract t k /\ BI l t = some (.tuple a) /\ a.toList[k]? = some v) (h : WL P ops Q rest (l.set i v) w) : WL P ops Q (o :: rest) l w := V hg g.1 (JR (vs := a.toList) g.2.1 (by rw [BJ g.2.2.1]) g.2.2.2) h
end Go.Proofs.YtmppigbbkjepiaaGreatDoor
