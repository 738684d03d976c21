/- Helping facts of KitC; no other conditions. Helping facts of Auto; no other conditions. Helping facts of ParM; no other conditions. Helping facts of Decim; no other conditions. -/
import Derived.Test.YtmppigbbkjepiaaGreatDoorTxtL
namespace Go.Proofs.YtmppigbbkjepiaaGreatDoor
open Go.Proofs.Tryz
open Go.RowKit W
variable {L : List SF} {P : Program} {Q : Exit -> Act -> World -> Prop} {S1 S2 : World -> Prop} {T a i id j k : Nat} {X m n : Int} {b : UInt8} {c x y : Operand} {cs : List Value} {l : List UInt8} {md : Region.Mode} {o : Oper} {ops : Array Oper} {p q : Prop} {rest : List Oper} {s : ByteArray} {t t' : TypeId} {tys : Array TypeId} {v : Value} {w w' : World}
theorem Y1g (h : p := by simp only [if_true, Bool.false_eq_true, if_false]; exact BJ g.2.2.2) : p := h
theorem YCK (h : p := by simp only [if_true, Bool.false_eq_true, if_false]; exact BJ g.2.2.2.2.2.2) : p := h
theorem ZRV (h : p := by
 refine zG ?_
 refine V (v := .int .u8 ↑b.toNat) O O (DK (j := i) O underlying9 O O O e) ?_
 exact ZLK
 ) : p := h
theorem ZLK (h : p := by
 refine zG ?_
 refine V (v := .int .u8 ↑b.toNat) O O (DK (j := i) O underlying9 O O O e) ?_
 refine zG ?_
 exact ⟨by rw [IU f AA], E.1⟩
 ) : p := h
section
variable {P : Program} {ops : Array Oper} {Q : Exit -> Act -> World -> Prop} {rest : List Oper} {o : Oper} {w : World} {l : List Value} {v : Value} {i : Nat}
theorem PR (l : List Value) (i : Nat) (v : Value) (h : o.dst = some i) : Act.put ⟨l.toArray, []⟩ o.dst v = ⟨(l.set i v).toArray, []⟩ := by
 rw [h]; simp [Act.put]
theorem gU (hx : x = .tmp j) (h : l[j]? = some v) : Act.eval ⟨l.toArray, []⟩ x = v := by
 subst hx; simp [Act.eval, h]
def MN (l : List Value) : Operand -> Value
 | .tmp t => (l[t]?).getD undef
 | .const v => v
 | .global g => .pointer (some ⟨g, 0, none⟩)
 | .func f => .func (.func f) #[] #[]
theorem QB (l : List Value) : Act.eval ⟨l.toArray, []⟩ = MN l := by
 funext x
 cases x <;> simp [Act.eval, MN]
structure WL (P : Program) (ops : Array Oper) (Q : Exit -> Act -> World -> Prop) (rest : List Oper) (l : List Value) (w : World) : Prop where
 out : wpList P ops Q rest ⟨l.toArray, []⟩ w
structure KW (P : Program) (ops : Array Oper) (Q : Exit -> Act -> World -> Prop) (rest : List Oper) (a : Act) (w : World) : Prop where
 out : wpList P ops Q rest a w
theorem KW_eq (P : Program) (ops : Array Oper) (Q : Exit -> Act -> World -> Prop) (rest : List Oper) : KW P ops Q rest = wpList P ops Q rest := by
 funext a w
 exact propext ⟨KW.out, KW.mk⟩
theorem kw (hd : o.dst = some i) (h : WL P ops Q rest (l.set i v) w) : KW P ops Q rest (Act.put ⟨l.toArray, []⟩ o.dst v) w := ⟨by rw [PR l i v hd]; exact h.out⟩
theorem kn (hd : o.dst = none) (h : WL P ops Q rest l w) : KW P ops Q rest (Act.put ⟨l.toArray, []⟩ o.dst v) w := ⟨by rw [hd]; exact h.out⟩
theorem RL (h : WL P ops Q ops.toList l w) : (Code.region id ops false).wp P Q ⟨l.toArray, []⟩ w := AR h.out
theorem WN (h : Q .normal ⟨l.toArray, []⟩ w) : WL P ops Q [] l w := ⟨AS h⟩
theorem V (hg : Region.wanted o (yielded ops l.toArray) = true) (hd : o.dst = some i) (hr : (execOp (MN l) o).run P w = .ok (.value v) w) (h : WL P ops Q rest (l.set i v) w) :
 WL P ops Q (o :: rest) l w := ⟨LV hg (by rw [QB]; exact hr) (by rw [PR l i v hd]; exact h.out)⟩
theorem M (hg : Region.wanted o (yielded ops l.toArray) = true) (hd : o.dst = some i) (ho : o.op = .move x) (hj : x = .tmp j) (hx : l[j]? = some v) (h : WL P ops Q rest (l.set i v) w) :
 WL P ops Q (o :: rest) l w := V hg hd (by rw [<- QB]; exact GP ho (gU hj hx)) h
theorem A (hg : Region.wanted o (yielded ops l.toArray) = true) (hd : o.dst = some i) (ho : o.op = .assign x) (hj : x = .tmp j) (hx : l[j]? = some v) (h : WL P ops Q rest (l.set i v) w) :
 WL P ops Q (o :: rest) l w := V hg hd (by rw [<- QB]; exact KX ho (gU hj hx)) h
theorem AC (hg : Region.wanted o (yielded ops l.toArray) = true) (hd : o.dst = some i) (ho : o.op = .assign x) (hj : x = .const v) (h : WL P ops Q rest (l.set i v) w) :
 WL P ops Q (o :: rest) l w := V hg hd (KX ho (by subst hj; rfl)) h
theorem L0C (hg : Region.wanted o (yielded ops l.toArray) = false) (hd : o.dst = some i) (h : WL P ops Q rest (l.set i undef) w) : WL P ops Q (o :: rest) l w :=
 ⟨L0 hg (by rw [PR l i undef hd]; exact h.out)⟩
theorem EF (hg : Region.wanted o (yielded ops l.toArray) = true) (h : o.wp P ⟨l.toArray, []⟩ w (KW P ops Q rest) Q) : WL P ops Q (o :: rest) l w := ⟨L1 hg (by rw [<- KW_eq]; exact h)⟩
end
section
variable {ρ : Operand -> Value} {o : Oper} {w : World} {P : Program}
theorem wW {k : IntKind} {c : Int} (ho : o.op = .call { callee := .builtin .min, args := #[x, y], argTypes := tys }) (hx : ρ x = .int k m) (hy : ρ y = .int k n) (hc : (if n < m then n else m) = c) :
 (execOp ρ o).run prog w = .ok (.value (.int k c)) w := by
 subst hc; unfold execOp; rw [ho]; simp [hx, hy, go_sem]; rw [Int.min_def]; split <;> split <;> omega
theorem wX {k : IntKind} {c : Int} (ho : o.op = .call { callee := .builtin .max, args := #[x, y], argTypes := tys }) (hx : ρ x = .int k m) (hy : ρ y = .int k n) (hc : (if m < n then n else m) = c) :
 (execOp ρ o).run prog w = .ok (.value (.int k c)) w := by
 subst hc; unfold execOp; rw [ho]; simp [hx, hy, go_sem]; rw [Int.max_def]; split <;> split <;> omega
theorem lO {a b c : Bool} (ho : o.op = .binOp .neq t x y t') (hT : P.underlying t = some .bool) (hx : ρ x = .bool a) (hy : ρ y = .bool b) (hc : (a != b) = c) : (execOp ρ o).run P w = .ok (.value (.bool c)) w := by
 unfold execOp; rw [ho]; subst hc; simp [hx, hy, go_sem, run_neq_bool _ _ _ _ hT]; cases a <;> cases b <;> rfl
theorem fL {a b c : Bool} (ho : o.op = .binOp .eql t x y t') (hT : P.underlying t = some .bool) (hx : ρ x = .bool a) (hy : ρ y = .bool b) (hc : (a == b) = c) : (execOp ρ o).run P w = .ok (.value (.bool c)) w := by
 unfold execOp; rw [ho]; subst hc; simp [hx, hy, go_sem, run_eql_bool _ _ _ _ hT]
end
theorem NC (hX : X = (a : Int)) (h : a < 9223372036854775808) : IntKind.i64.wrap X = (a : Int) := by subst hX; simp only [IntKind.wrap_i64]; omega
theorem MO (h : -9223372036854775808 <= X /\ X < 9223372036854775808) : IntKind.i64.wrap X = X := by simp only [IntKind.wrap_i64]; omega
theorem Sl.shp {l : List Nat} (h : Sl w v l) : ∃ ao cap, v = .slice ao l.length cap := by
 obtain ⟨ao, cap, rfl, _⟩ := h
 exact ⟨ao, cap, rfl⟩
section
variable {P : Program} {o : Oper} {a : Act} {w : World} {K : Act -> World -> Prop} {Q : Exit -> Act -> World -> Prop} {f : Nat} {args : List Operand} {tys : Array TypeId} {vs : List Value} {l : List SF}
theorem VJ {q r : Nat} (hf : Fn P f) (ho : o.op = .call { callee := .value (.func f), args := args.toArray, argTypes := tys }) (hc : Calls P f vs.toArray w (Sf w q r)) (hv : args.map a.eval = vs) (E : Env w l)
 (h : ∀ w' v u, Below w.heap.size w w' -> Env w' (fS u (CD r) :: fS v (CD q) :: l) -> K (a.put o.dst (.tuple #[v, u])) w') : o.wp P a w K Q := by
 refine CZ hf ho hc hv ?_
 rintro e w' ⟨v, u, rfl, p, t, k⟩
 exact ⟨_, rfl, h w' v u k ⟨t, p, E.below k⟩⟩
theorem RS {n : Nat} (hf : Fn P f) (ho : o.op = .call { callee := .value (.func f), args := args.toArray, argTypes := tys }) (hc : Calls P f vs.toArray w (fun e w' => e = .returned (.int .u64 (n : Int)) /\ w = w')) (hv : args.map a.eval = vs) (E : Env w l)
 (h : ∀ w', Below w.heap.size w w' -> Env w' l -> K (a.put o.dst (.int .u64 (n : Int))) w') : o.wp P a w K Q := by
 refine CZ hf ho hc hv ?_
 rintro e w' ⟨rfl, rfl⟩
 exact ⟨_, rfl, h w (Below.refl _ _) E⟩
theorem OF {c : Nat} (ho : o.op = .buildSlice 60 1 #[(0, .const (.int .u32 X))]) (hX : X = (c : Int)) (hc : 0 < c) (hc2 : c < 4294967296) (E : Env w l)
 (h : ∀ w' v, Below w.heap.size w w' -> Env w' (fS v (CD c) :: l) -> K (a.put o.dst v) w') : o.wp prog a w K Q := by
 obtain ⟨u, y, p, k, f⟩ := info_parts uU
 have e : Below w.heap.size w (w.alloc (.cells #[.int .u32 X] 186)) := (Below.refl _ _).alloc (Nat.le_refl _) _
 have t : CD c = [c] := by rw [VD c hc, Nat.mod_eq_of_lt hc2, Nat.div_eq_of_lt hc2, EG]
 have q : Sl (w.alloc (.cells #[.int .u32 X] 186)) (.slice (some ⟨w.heap.size, 0, none⟩) 1 1) (CD c) := by rw [t]; exact Xd w X c hX hc2
 refine DV (v := .slice (some ⟨w.heap.size, 0, none⟩) 1 1) (w' := w.alloc (.cells #[.int .u32 X] 186)) ?_ (h _ _ e ⟨q, E.below e⟩)
 unfold execOp; rw [ho]
 simp [Instr.buildSlice, go_sem]
theorem QK (ho : o.op = .buildSlice 60 0 #[]) (E : Env w l)
 (h : ∀ w' v, Below w.heap.size w w' -> Env w' (fS v (CD 0) :: l) -> K (a.put o.dst v) w') : o.wp prog a w K Q := by
 have e : Below w.heap.size w (w.alloc (.cells #[] 186)) := (Below.refl _ _).alloc (Nat.le_refl _) _
 have f : Sl (w.alloc (.cells #[] 186)) (.slice (some ⟨w.heap.size, 0, none⟩) 0 0) (CD 0) := by
  rw [EG]
  exact ⟨_, 0, rfl, Nat.le_refl _, by unfold maxLen; omega, WZ, (fun h => by cases h), fun i k => absurd k AH⟩
 refine DV (v := .slice (some ⟨w.heap.size, 0, none⟩) 0 0) (w' := w.alloc (.cells #[] 186)) ?_ (h _ _ e ⟨f, E.below e⟩)
 unfold execOp; rw [ho]
 simp [Instr.buildSlice, go_sem]
theorem vV {v : Int} (ho : o.op = .buildSlice 42 1 #[(0, x)]) (hx : a.eval x = .int .u8 v) (E : Env w l)
 (h : ∀ w' b, Below w.heap.size w w' -> Env w' (fX b 5 [.int .u8 v] :: l) -> K (a.put o.dst (.slice (some ⟨b, 0, none⟩) 1 1)) w') : o.wp prog a w K Q := by
 have e : ∀ ρ : Operand -> Value, ρ x = .int .u8 v -> (execOp ρ o).run prog w = .ok (.value (.slice (some ⟨w.heap.size, 0, none⟩) 1 1)) (w.alloc (.cells #[.int .u8 v] 5)) := by
  intro ρ hx
  unfold execOp; rw [ho]
  simp [go_sem, Instr.buildSlice, hx]
 have e := e _ hx
 have f : Below w.heap.size w (w.alloc (.cells #[.int .u8 v] 5)) := (Below.refl _ _).alloc (Nat.le_refl _) _
 exact DV e (h _ _ f ⟨KS w _ [.int .u8 v], E.below f⟩)
end
section
variable {w : World} {f0 f1 f2 f3 f4 f5 f6 f7 f8 f9 f10 f11 f12 f13 f14 f15 f16 f17 f18 f19 f20 f21 f22 f23 f24 f25 f26 f27 f28 f29 : SF} {l : List SF}
theorem e0 (E : Env w (f0 :: l)) : f0.p w := E.1
theorem e1 (E : Env w (f0 :: f1 :: l)) : f1.p w := E.2.1
theorem e2 (E : Env w (f0 :: f1 :: f2 :: l)) : f2.p w := E.2.2.1
theorem e3 (E : Env w (f0 :: f1 :: f2 :: f3 :: l)) : f3.p w := E.2.2.2.1
theorem e4 (E : Env w (f0 :: f1 :: f2 :: f3 :: f4 :: l)) : f4.p w := E.2.2.2.2.1
theorem e5 (E : Env w (f0 :: f1 :: f2 :: f3 :: f4 :: f5 :: l)) : f5.p w := E.2.2.2.2.2.1
theorem e6 (E : Env w (f0 :: f1 :: f2 :: f3 :: f4 :: f5 :: f6 :: l)) : f6.p w := E.2.2.2.2.2.2.1
theorem e7 (E : Env w (f0 :: f1 :: f2 :: f3 :: f4 :: f5 :: f6 :: f7 :: l)) : f7.p w := E.2.2.2.2.2.2.2.1
theorem e8 (E : Env w (f0 :: f1 :: f2 :: f3 :: f4 :: f5 :: f6 :: f7 :: f8 :: l)) : f8.p w := E.2.2.2.2.2.2.2.2.1
theorem e9 (E : Env w (f0 :: f1 :: f2 :: f3 :: f4 :: f5 :: f6 :: f7 :: f8 :: f9 :: l)) : f9.p w := E.2.2.2.2.2.2.2.2.2.1
theorem RD (E : Env w (f0 :: f1 :: f2 :: f3 :: f4 :: f5 :: f6 :: f7 :: f8 :: f9 :: f10 :: l)) : f10.p w := E.2.2.2.2.2.2.2.2.2.2.1
theorem RC (E : Env w (f0 :: f1 :: f2 :: f3 :: f4 :: f5 :: f6 :: f7 :: f8 :: f9 :: f10 :: f11 :: l)) : f11.p w := E.2.2.2.2.2.2.2.2.2.2.2.1
theorem WE (E : Env w (f0 :: f1 :: f2 :: f3 :: f4 :: f5 :: f6 :: f7 :: f8 :: f9 :: f10 :: f11 :: f12 :: l)) : f12.p w := E.2.2.2.2.2.2.2.2.2.2.2.2.1
theorem XX (E : Env w (f0 :: f1 :: f2 :: f3 :: f4 :: f5 :: f6 :: f7 :: f8 :: f9 :: f10 :: f11 :: f12 :: f13 :: l)) : f13.p w := E.2.2.2.2.2.2.2.2.2.2.2.2.2.1
theorem lB (E : Env w (f0 :: f1 :: f2 :: f3 :: f4 :: f5 :: f6 :: f7 :: f8 :: f9 :: f10 :: f11 :: f12 :: f13 :: f14 :: l)) : f14.p w := E.2.2.2.2.2.2.2.2.2.2.2.2.2.2.1
theorem Kq (E : Env w (f0 :: f1 :: f2 :: f3 :: f4 :: f5 :: f6 :: f7 :: f8 :: f9 :: f10 :: f11 :: f12 :: f13 :: f14 :: f15 :: l)) : f15.p w := E.2.2.2.2.2.2.2.2.2.2.2.2.2.2.2.1
theorem Dh (E : Env w (f0 :: f1 :: f2 :: f3 :: f4 :: f5 :: f6 :: f7 :: f8 :: f9 :: f10 :: f11 :: f12 :: f13 :: f14 :: f15 :: f16 :: l)) : f16.p w := E.2.2.2.2.2.2.2.2.2.2.2.2.2.2.2.2.1
theorem Vz (E : Env w (f0 :: f1 :: f2 :: f3 :: f4 :: f5 :: f6 :: f7 :: f8 :: f9 :: f10 :: f11 :: f12 :: f13 :: f14 :: f15 :: f16 :: f17 :: l)) : f17.p w := E.2.2.2.2.2.2.2.2.2.2.2.2.2.2.2.2.2.1
theorem e18 (E : Env w (f0 :: f1 :: f2 :: f3 :: f4 :: f5 :: f6 :: f7 :: f8 :: f9 :: f10 :: f11 :: f12 :: f13 :: f14 :: f15 :: f16 :: f17 :: f18 :: l)) : f18.p w := E.2.2.2.2.2.2.2.2.2.2.2.2.2.2.2.2.2.2.1
theorem e19 (E : Env w (f0 :: f1 :: f2 :: f3 :: f4 :: f5 :: f6 :: f7 :: f8 :: f9 :: f10 :: f11 :: f12 :: f13 :: f14 :: f15 :: f16 :: f17 :: f18 :: f19 :: l)) : f19.p w := E.2.2.2.2.2.2.2.2.2.2.2.2.2.2.2.2.2.2.2.1
theorem e20 (E : Env w (f0 :: f1 :: f2 :: f3 :: f4 :: f5 :: f6 :: f7 :: f8 :: f9 :: f10 :: f11 :: f12 :: f13 :: f14 :: f15 :: f16 :: f17 :: f18 :: f19 :: f20 :: l)) : f20.p w := E.2.2.2.2.2.2.2.2.2.2.2.2.2.2.2.2.2.2.2.2.1
theorem e21 (E : Env w (f0 :: f1 :: f2 :: f3 :: f4 :: f5 :: f6 :: f7 :: f8 :: f9 :: f10 :: f11 :: f12 :: f13 :: f14 :: f15 :: f16 :: f17 :: f18 :: f19 :: f20 :: f21 :: l)) : f21.p w := E.2.2.2.2.2.2.2.2.2.2.2.2.2.2.2.2.2.2.2.2.2.1
theorem A8 (E : Env w (f0 :: f1 :: f2 :: f3 :: f4 :: f5 :: f6 :: f7 :: f8 :: f9 :: f10 :: f11 :: f12 :: f13 :: f14 :: f15 :: f16 :: f17 :: f18 :: f19 :: f20 :: f21 :: f22 :: l)) : f22.p w := E.2.2.2.2.2.2.2.2.2.2.2.2.2.2.2.2.2.2.2.2.2.2.1
theorem Ls (E : Env w (f0 :: f1 :: f2 :: f3 :: f4 :: f5 :: f6 :: f7 :: f8 :: f9 :: f10 :: f11 :: f12 :: f13 :: f14 :: f15 :: f16 :: f17 :: f18 :: f19 :: f20 :: f21 :: f22 :: f23 :: l)) : f23.p w := E.2.2.2.2.2.2.2.2.2.2.2.2.2.2.2.2.2.2.2.2.2.2.2.1
theorem Vy (E : Env w (f0 :: f1 :: f2 :: f3 :: f4 :: f5 :: f6 :: f7 :: f8 :: f9 :: f10 :: f11 :: f12 :: f13 :: f14 :: f15 :: f16 :: f17 :: f18 :: f19 :: f20 :: f21 :: f22 :: f23 :: f24 :: l)) : f24.p w := E.2.2.2.2.2.2.2.2.2.2.2.2.2.2.2.2.2.2.2.2.2.2.2.2.1
theorem e25 (E : Env w (f0 :: f1 :: f2 :: f3 :: f4 :: f5 :: f6 :: f7 :: f8 :: f9 :: f10 :: f11 :: f12 :: f13 :: f14 :: f15 :: f16 :: f17 :: f18 :: f19 :: f20 :: f21 :: f22 :: f23 :: f24 :: f25 :: l)) : f25.p w := E.2.2.2.2.2.2.2.2.2.2.2.2.2.2.2.2.2.2.2.2.2.2.2.2.2.1
theorem A7 (E : Env w (f0 :: f1 :: f2 :: f3 :: f4 :: f5 :: f6 :: f7 :: f8 :: f9 :: f10 :: f11 :: f12 :: f13 :: f14 :: f15 :: f16 :: f17 :: f18 :: f19 :: f20 :: f21 :: f22 :: f23 :: f24 :: f25 :: f26 :: l)) : f26.p w := E.2.2.2.2.2.2.2.2.2.2.2.2.2.2.2.2.2.2.2.2.2.2.2.2.2.2.1
theorem e27 (E : Env w (f0 :: f1 :: f2 :: f3 :: f4 :: f5 :: f6 :: f7 :: f8 :: f9 :: f10 :: f11 :: f12 :: f13 :: f14 :: f15 :: f16 :: f17 :: f18 :: f19 :: f20 :: f21 :: f22 :: f23 :: f24 :: f25 :: f26 :: f27 :: l)) : f27.p w := E.2.2.2.2.2.2.2.2.2.2.2.2.2.2.2.2.2.2.2.2.2.2.2.2.2.2.2.1
theorem e28 (E : Env w (f0 :: f1 :: f2 :: f3 :: f4 :: f5 :: f6 :: f7 :: f8 :: f9 :: f10 :: f11 :: f12 :: f13 :: f14 :: f15 :: f16 :: f17 :: f18 :: f19 :: f20 :: f21 :: f22 :: f23 :: f24 :: f25 :: f26 :: f27 :: f28 :: l)) : f28.p w := E.2.2.2.2.2.2.2.2.2.2.2.2.2.2.2.2.2.2.2.2.2.2.2.2.2.2.2.2.1
theorem e29 (E : Env w (f0 :: f1 :: f2 :: f3 :: f4 :: f5 :: f6 :: f7 :: f8 :: f9 :: f10 :: f11 :: f12 :: f13 :: f14 :: f15 :: f16 :: f17 :: f18 :: f19 :: f20 :: f21 :: f22 :: f23 :: f24 :: f25 :: f26 :: f27 :: f28 :: f29 :: l)) : f29.p w := E.2.2.2.2.2.2.2.2.2.2.2.2.2.2.2.2.2.2.2.2.2.2.2.2.2.2.2.2.2.1
end
section
variable {P : Program} {md : Region.Mode} {ops : Array Oper} {Q : Exit -> Act -> World -> Prop} {S1 S2 : World -> Prop} {rest : List Nat} {o : Oper} {w : World} {l : List Value} {v : Value} {i k : Nat}
theorem SW (ho : ops[k]? = some o) (hp : LH o = true) (ht : ZE md ops [] k = true) (hg : Region.wanted o (yielded ops l.toArray) = true) (hd : o.dst = some i) (hr : ∀ w, S1 w -> (execOp (MN l) o).run P w = .ok (.value v) w)
 (h : DT P md ops Q [] S1 S2 rest false ⟨(l.set i v).toArray, []⟩ w) : DT P md ops Q [] S1 S2 (k :: rest) false ⟨l.toArray, []⟩ w := SP ho hp ht hg (by rw [QB]; exact hr) (by rw [PR l i v hd]; exact h)
theorem SM (ho : ops[k]? = some o) (hp : LH o = true) (ht : ZE md ops [] k = true) (hg : Region.wanted o (yielded ops l.toArray) = true) (hd : o.dst = some i) (hop : o.op = .move x) (hj : x = .tmp j) (hx : l[j]? = some v)
 (h : DT P md ops Q [] S1 S2 rest false ⟨(l.set i v).toArray, []⟩ w) : DT P md ops Q [] S1 S2 (k :: rest) false ⟨l.toArray, []⟩ w := SW ho hp ht hg hd (fun _ _ => by rw [<- QB]; exact GP hop (gU hj hx)) h
theorem SA (ho : ops[k]? = some o) (hp : LH o = true) (ht : ZE md ops [] k = true) (hg : Region.wanted o (yielded ops l.toArray) = true) (hd : o.dst = some i) (hop : o.op = .assign x) (hj : x = .tmp j) (hx : l[j]? = some v)
 (h : DT P md ops Q [] S1 S2 rest false ⟨(l.set i v).toArray, []⟩ w) : DT P md ops Q [] S1 S2 (k :: rest) false ⟨l.toArray, []⟩ w := SW ho hp ht hg hd (fun _ _ => by rw [<- QB]; exact KX hop (gU hj hx)) h
theorem SAC (ho : ops[k]? = some o) (hp : LH o = true) (ht : ZE md ops [] k = true) (hg : Region.wanted o (yielded ops l.toArray) = true) (hd : o.dst = some i) (hop : o.op = .assign x) (hj : x = .const v)
 (h : DT P md ops Q [] S1 S2 rest false ⟨(l.set i v).toArray, []⟩ w) : DT P md ops Q [] S1 S2 (k :: rest) false ⟨l.toArray, []⟩ w := SW ho hp ht hg hd (fun _ _ => KX hop (by subst hj; rfl)) h
end
theorem BB {l : List Value} (g : Region.wanted o (yielded ops l.toArray) = true /\ o.dst = some i /\ o.op = .move x /\ x = .tmp j /\ l[j]? = some v) (h : WL P ops Q rest (l.set i v) w) : WL P ops Q (o :: rest) l w := M g.1 g.2.1 g.2.2.1 g.2.2.2.1 g.2.2.2.2 h
theorem BC {l : List Value} (g : Region.wanted o (yielded ops l.toArray) = true /\ o.dst = some i /\ o.op = .assign x /\ x = .tmp j /\ l[j]? = some v) (h : WL P ops Q rest (l.set i v) w) : WL P ops Q (o :: rest) l w := A g.1 g.2.1 g.2.2.1 g.2.2.2.1 g.2.2.2.2 h
theorem BD {l : List Value} (g : Region.wanted o (yielded ops l.toArray) = true /\ o.dst = some i /\ o.op = .assign x /\ x = .const v) (h : WL P ops Q rest (l.set i v) w) : WL P ops Q (o :: rest) l w := AC g.1 g.2.1 g.2.2.1 g.2.2.2 h
theorem BE {rest : List Nat} {l : List Value} (g : ops[k]? = some o /\ LH o = true /\ ZE md ops [] k = true /\ Region.wanted o (yielded ops l.toArray) = true /\ o.dst = some i /\ o.op = .move x /\ x = .tmp j /\ l[j]? = some v) (h : DT P md ops Q [] S1 S2 rest false ⟨(l.set i v).toArray, []⟩ w) : DT P md ops Q [] S1 S2 (k :: rest) false ⟨l.toArray, []⟩ w := SM g.1 g.2.1 g.2.2.1 g.2.2.2.1 g.2.2.2.2.1 g.2.2.2.2.2.1 g.2.2.2.2.2.2.1 g.2.2.2.2.2.2.2 h
theorem BF {rest : List Nat} {l : List Value} (g : ops[k]? = some o /\ LH o = true /\ ZE md ops [] k = true /\ Region.wanted o (yielded ops l.toArray) = true /\ o.dst = some i /\ o.op = .assign x /\ x = .tmp j /\ l[j]? = some v) (h : DT P md ops Q [] S1 S2 rest false ⟨(l.set i v).toArray, []⟩ w) : DT P md ops Q [] S1 S2 (k :: rest) false ⟨l.toArray, []⟩ w := SA g.1 g.2.1 g.2.2.1 g.2.2.2.1 g.2.2.2.2.1 g.2.2.2.2.2.1 g.2.2.2.2.2.2.1 g.2.2.2.2.2.2.2 h
def BI (l : List Value) : Operand -> Option Value
 | .tmp t => l[t]?
 | .const v => some v
 | _ => none
theorem BJ {l : List Value} (h : BI l x = some v) : MN l x = v := by
 cases x <;> simp_all [BI, MN]
theorem BM {l : List Value} (hg : Region.wanted o (yielded ops l.toArray) = true) (g : o.dst = some i /\ o.op = .pick c x y /\ MN l c = .bool true /\ BI l x = some v) (h : WL P ops Q rest (l.set i v) w) : WL P ops Q (o :: rest) l w := V hg g.1 (Nn (b := true) g.2.1 g.2.2.1 Y1g) h
theorem BN {l : List Value} (hg : Region.wanted o (yielded ops l.toArray) = true) (g : o.dst = some i /\ o.op = .unOp .not t x /\ BI l x = some (.bool true)) (h : WL P ops Q rest (l.set i (.bool false)) w) : WL P ops Q (o :: rest) l w := V hg g.1 (YM (b := true) g.2.1 (BJ g.2.2)) h
theorem BO {rest : List Nat} {l : List Value} (hg : Region.wanted o (yielded ops l.toArray) = true) (g : ops[k]? = some o /\ LH o = true /\ ZE md ops [] k = true /\ o.dst = some i /\ o.op = .pick c x y /\ MN l c = .bool true /\ BI l x = some v) (h : DT P md ops Q [] S1 S2 rest false ⟨(l.set i v).toArray, []⟩ w) : DT P md ops Q [] S1 S2 (k :: rest) false ⟨l.toArray, []⟩ w := SW g.1 g.2.1 g.2.2.1 hg g.2.2.2.1 (fun _ _ => Nn (b := true) g.2.2.2.2.1 g.2.2.2.2.2.1 YCK) h
theorem BP {l : List Value} (hg : Region.wanted o (yielded ops l.toArray) = true) (g : o.dst = some i /\ o.op = .pick c x y /\ MN l c = .bool false /\ BI l y = some v) (h : WL P ops Q rest (l.set i v) w) : WL P ops Q (o :: rest) l w := V hg g.1 (Nn (b := false) g.2.1 g.2.2.1 Y1g) h
theorem BQ {l : List Value} (hg : Region.wanted o (yielded ops l.toArray) = true) (g : o.dst = some i /\ o.op = .unOp .not t x /\ BI l x = some (.bool false)) (h : WL P ops Q rest (l.set i (.bool true)) w) : WL P ops Q (o :: rest) l w := V hg g.1 (YM (b := false) g.2.1 (BJ g.2.2)) h
theorem BR {rest : List Nat} {l : List Value} (hg : Region.wanted o (yielded ops l.toArray) = true) (g : ops[k]? = some o /\ LH o = true /\ ZE md ops [] k = true /\ o.dst = some i /\ o.op = .pick c x y /\ MN l c = .bool false /\ BI l y = some v) (h : DT P md ops Q [] S1 S2 rest false ⟨(l.set i v).toArray, []⟩ w) : DT P md ops Q [] S1 S2 (k :: rest) false ⟨l.toArray, []⟩ w := SW g.1 g.2.1 g.2.2.1 hg g.2.2.2.1 (fun _ _ => Nn (b := false) g.2.2.2.2.1 g.2.2.2.2.2.1 YCK) h
theorem BS {l : List Value} {t : Operand} {a : Array Value} (hg : Region.wanted o (yielded ops l.toArray) = true) (g : o.dst = some i /\ o.op = .extract t k /\ BI l t = some (.tuple a) /\ a.toList[k]? = some v) (h : WL P ops Q rest (l.set i v) w) : WL P ops Q (o :: rest) l w := V hg g.1 (PF (vs := a.toList) g.2.1 (by rw [BJ g.2.2.1]) g.2.2.2) h
section
variable {P : Program} {ops : Array Oper} {Q : Exit -> Act -> World -> Prop} {rest : List Oper} {o : Oper} {w : World} {l : List Value} {v : Value} {i : Nat}
def KA (l : List Value) : Operand -> Option Value
 | .tmp t => l[t]?
 | .const v => some v
 | _ => none
theorem CQ (h : KA l x = some v) : MN l x = v := by
 cases x <;> simp_all [KA, MN]
def Lq (ops : Array Oper) (l : List Value) (o : Oper) : Option Bool :=
 match o.guard with
 | none => some true
 | some (j, b) =>
   match ops[j]? with
   | some q =>
     match q.dst with
     | some d =>
       match l[d]? with
       | some (.bool c) => some (c == b)
       | some (.tuple _) => some false
       | _ => none
     | none => none
   | none => none
theorem YT {c : Bool} (h : Lq ops l o = some c) : Region.wanted o (yielded ops l.toArray) = c := by
 unfold Lq at h
 unfold Region.wanted
 split at h
 . rename_i e; rw [e]; simpa using h
 rename_i j b e
 rw [e]; simp only
 split at h
 . rename_i q e2
   split at h
   . rename_i d e3
     split at h
     . rename_i c' e4
       have hy : yielded ops l.toArray j = some c' := by simp [yielded, e2, e3, e4]
       rw [hy]
       simp at h; subst h
       cases c' <;> cases b <;> rfl
     . rename_i e4
       have hy : yielded ops l.toArray j = none := by simp [yielded, e2, e3, e4]
       rw [hy]
       simp at h; subst h; rfl
     cases h
   cases h
 cases h
theorem gV (hr : (execOp (MN l) o).run P w = .ok (.value v) w) (hd : o.dst = some i) (hg : Lq ops l o = some true) (h : WL P ops Q rest (l.set i v) w) : WL P ops Q (o :: rest) l w := V (YT hg) hd hr h
theorem Xt (hg : Lq ops l o = some false) (hd : o.dst = some i) (h : WL P ops Q rest (l.set i undef) w) : WL P ops Q (o :: rest) l w := L0C (YT hg) hd h
theorem isWL (h : WL P ops Q (o :: rest) l w) : WL P ops Q (o :: rest) l w := h
theorem isKW {a : Act} (h : KW P ops Q rest a w) : KW P ops Q rest a w := h
theorem Qf {x y : Code} {a : Act} (h : (Code.cond c x y).wp P Q a w) : (Code.cond c x y).wp P Q a w := h
end
section
variable {P : Program} {md : Region.Mode} {ops : Array Oper} {Q : Exit -> Act -> World -> Prop} {S1 S2 : World -> Prop} {rest : List Nat} {o : Oper} {w : World} {l : List Value} {v : Value} {i k : Nat} {r : List Oper}
theorem zF (h : ops.toList.drop k = o :: r) : ops[k]? = some o := by
 have := congrArg List.head? h
 simpa [List.head?_drop] using this
theorem gS (ho : ops.toList.drop k = o :: r) (hr : ∀ w, S1 w -> (execOp (MN l) o).run P w = .ok (.value v) w) (hd : o.dst = some i) (hg : Lq ops l o = some true) (hp : LH o = true) (ht : ZE md ops [] k = true)
 (h : DT P md ops Q [] S1 S2 rest false ⟨(l.set i v).toArray, []⟩ w) : DT P md ops Q [] S1 S2 (k :: rest) false ⟨l.toArray, []⟩ w := SW (zF ho) hp ht (YT hg) hd hr h
theorem gS0 (ho : ops.toList.drop k = o :: r) (hg : Lq ops l o = some false) (hd : o.dst = some i) (hS : S1 w)
 (h : DT P md ops Q [] S1 S2 rest false ⟨(l.set i undef).toArray, []⟩ w) : DT P md ops Q [] S1 S2 (k :: rest) false ⟨l.toArray, []⟩ w := S0 (zF ho) (YT hg) hS (by rw [PR l i undef hd]; exact h)
theorem isS (h : DT P md ops Q [] S1 S2 (k :: rest) false ⟨l.toArray, []⟩ w) : DT P md ops Q [] S1 S2 (k :: rest) false ⟨l.toArray, []⟩ w := h
end
section
variable {P : Program} {md : Region.Mode} {ops : Array Oper} {Q : Exit -> Act -> World -> Prop} {S1 S2 : World -> Prop} {B : List Nat} {ph : Bool} {rest : List Nat} {w : World} {l : List Value} {v : Value} {i : Nat} {d : Option Nat}
theorem kS (hd : d = some i) (h : DT P md ops Q B S1 S2 rest ph ⟨(l.set i v).toArray, []⟩ w) : DT P md ops Q B S1 S2 rest ph (Act.put ⟨l.toArray, []⟩ d v) w := by subst hd; simpa [Act.put] using h
theorem kS0 (hd : d = none) (h : DT P md ops Q B S1 S2 rest ph ⟨l.toArray, []⟩ w) : DT P md ops Q B S1 S2 rest ph (Act.put ⟨l.toArray, []⟩ d v) w := by subst hd; exact h
theorem isSP (h : DT P md ops Q B S1 S2 rest ph (Act.put ⟨l.toArray, []⟩ d v) w) : DT P md ops Q B S1 S2 rest ph (Act.put ⟨l.toArray, []⟩ d v) w := h
end
section
variable {P : Program} {w : World} {l : List Value} {v : Value} {x y c t : Operand} {k : IntKind} {m n : Int} {b : Bool} {tt tt' ty : TypeId} {d : Option Nat} {ps : String} {af : Array Edge} {g : Option (Nat × Bool)}
theorem rMove (hx : KA l x = some v) : (execOp (MN l) ⟨d, .move x, ty, ps, af, g⟩).run P w = .ok (.value v) w := GP rfl (CQ hx)
theorem rAss (hx : KA l x = some v) : (execOp (MN l) ⟨d, .assign x, ty, ps, af, g⟩).run P w = .ok (.value v) w := KX rfl (CQ hx)
theorem rPick (hc : KA l c = some (.bool b)) (hx : KA l (cond b x y) = some v) : (execOp (MN l) ⟨d, .pick c x y, ty, ps, af, g⟩).run P w = .ok (.value v) w := Nn rfl (CQ hc) (by cases b <;> exact CQ hx)
theorem rExt {a : Array Value} (hx : KA l t = some (.tuple a)) (hk : a.toList[j]? = some v) : (execOp (MN l) ⟨d, .extract t j, ty, ps, af, g⟩).run P w = .ok (.value v) w := PF (vs := a.toList) rfl (by rw [CQ hx]) hk
theorem rNotT (hx : KA l x = some (.bool true)) : (execOp (MN l) ⟨d, .unOp .not tt x, ty, ps, af, g⟩).run P w = .ok (.value (.bool false)) w := YM rfl (CQ hx)
theorem rNotF (hx : KA l x = some (.bool false)) : (execOp (MN l) ⟨d, .unOp .not tt x, ty, ps, af, g⟩).run P w = .ok (.value (.bool true)) w := YM rfl (CQ hx)
theorem rLt (hx : KA l x = some (.int k m)) (hy : KA l y = some (.int k n)) (hc : decide (m < n) = b) : (execOp (MN l) ⟨d, .binOp .lss tt x y tt', ty, ps, af, g⟩).run P w = .ok (.value (.bool b)) w := HY rfl (CQ hx) (CQ hy) hc
theorem rLe (hx : KA l x = some (.int k m)) (hy : KA l y = some (.int k n)) (hc : decide (m <= n) = b) : (execOp (MN l) ⟨d, .binOp .leq tt x y tt', ty, ps, af, g⟩).run P w = .ok (.value (.bool b)) w := RI rfl (CQ hx) (CQ hy) hc
theorem rGt (hx : KA l x = some (.int k m)) (hy : KA l y = some (.int k n)) (hc : decide (m > n) = b) : (execOp (MN l) ⟨d, .binOp .gtr tt x y tt', ty, ps, af, g⟩).run P w = .ok (.value (.bool b)) w := EP rfl (CQ hx) (CQ hy) hc
theorem rGe (hx : KA l x = some (.int k m)) (hy : KA l y = some (.int k n)) (hc : decide (m >= n) = b) : (execOp (MN l) ⟨d, .binOp .geq tt x y tt', ty, ps, af, g⟩).run P w = .ok (.value (.bool b)) w := tO rfl (CQ hx) (CQ hy) hc
theorem rEq (hx : KA l x = some (.int k m)) (hy : KA l y = some (.int k n)) (hc : decide (m = n) = b) : (execOp (MN l) ⟨d, .binOp .eql tt x y tt', ty, ps, af, g⟩).run P w = .ok (.value (.bool b)) w := EK rfl (CQ hx) (CQ hy) (by rw [<- hc, Bool.eq_iff_iff]; simp)
theorem rNe (hx : KA l x = some (.int k m)) (hy : KA l y = some (.int k n)) (hc : decide (¬ m = n) = b) : (execOp (MN l) ⟨d, .binOp .neq tt x y tt', ty, ps, af, g⟩).run P w = .ok (.value (.bool b)) w := RH rfl (CQ hx) (CQ hy) (by rw [<- hc, Bool.eq_iff_iff]; simp)
theorem rInc (hx : KA l x = some (.int .i64 ↑a)) (hy : KA l y = some (.int .i64 1)) (h : a < 9223372036854775807) : (execOp (MN l) ⟨d, .binOp .add tt x y tt', ty, ps, af, g⟩).run P w = .ok (.value (.int .i64 ↑(a + 1))) w :=
 KM rfl (CQ hx) (CQ hy) (NC AA AA)
theorem rAddN {b : Nat} (hx : KA l x = some (.int .i64 ↑a)) (hy : KA l y = some (.int .i64 ↑b)) (h : a + b < 9223372036854775808) : (execOp (MN l) ⟨d, .binOp .add tt x y tt', ty, ps, af, g⟩).run P w = .ok (.value (.int .i64 ↑(a + b))) w :=
 KM rfl (CQ hx) (CQ hy) (NC AA h)
theorem rLenS (hx : KA l x = some (.string s)) : (execOp (MN l) ⟨d, .call { callee := .builtin .len, args := #[x], argTypes := #[9] }, ty, ps, af, g⟩).run prog w = .ok (.value (.int .i64 ↑s.size)) w := wY rfl (CQ hx)
section
variable {h j TB : Nat} {cs : List Value}
theorem Yz (hx : KA l x = some (.pointer (some ⟨h, j, none⟩))) (hb : Bx w h TB cs) (hi : cs[j]? = some v) : (execOp (MN l) ⟨d, .load 60 x, ty, ps, af, g⟩).run prog w = .ok (.value v) w := CR rfl yK (CQ hx) hb hi
theorem Za (hx : KA l x = some (.pointer (some ⟨h, j, none⟩))) (hb : Bx w h TB cs) (hi : cs[j]? = some v) : (execOp (MN l) ⟨d, .load 4 x, ty, ps, af, g⟩).run prog w = .ok (.value v) w := CR rfl dR (CQ hx) hb hi
theorem Yv (hx : KA l x = some (.pointer (some ⟨h, 0, none⟩))) (hb : Bx w h 62 cs) (hn : cs.length = 2) : (execOp (MN l) ⟨d, .load 62 x, ty, ps, af, g⟩).run prog w = .ok (.value (.agg cs.toArray)) w := CU EC rfl (CQ hx) hb hn
theorem rFI0 (hx : KA l x = some (.pointer (some ⟨h, 0, none⟩))) : (execOp (MN l) ⟨d, .fieldAddr 62 x 0, ty, ps, af, g⟩).run prog w = .ok (.value (.pointer (some ⟨h, 0, none⟩))) w := xC rfl (CQ hx)
theorem rFI1 (hx : KA l x = some (.pointer (some ⟨h, 0, none⟩))) : (execOp (MN l) ⟨d, .fieldAddr 62 x 1, ty, ps, af, g⟩).run prog w = .ok (.value (.pointer (some ⟨h, 1, none⟩))) w := wZ rfl (CQ hx)
end
end
section
variable {w : World} {f : SF} {L : List SF} {p : Prop}
theorem pe0 (E : Env w (f :: L)) : f.p w := E.1
theorem pe1 (h : Env w L -> p) (E : Env w (f :: L)) : p := h E.2
theorem peE (h : Env w L -> p) (E : Env w L) : p := h E
theorem peI (E : Env w L) (h : Env w L -> p) : p := h E
theorem peC (h : f.p w) (E : Env w L) : Env w (f :: L) := ⟨h, E⟩
end
section
variable {P : Program} {fn : Func} {w : World} {l : List Value} {i j k : Nat} {u v x : Value}
theorem rs1 (h : fn.results = #[.tmp i]) (hv : l[i]? = some v) : (results fn l.toArray).run P w = .ok v w := by
 unfold results; rw [h]; simp [hv]
theorem rs2 (h : fn.results = #[.tmp i, .tmp j]) (hv : l[i]? = some v) (hu : l[j]? = some u) : (results fn l.toArray).run P w = .ok (.tuple #[v, u]) w := by
 unfold results; rw [h]; simp [hv, hu]
theorem rs3 (h : fn.results = #[.tmp i, .tmp j, .tmp k]) (hv : l[i]? = some v) (hu : l[j]? = some u) (hx : l[k]? = some x) : (results fn l.toArray).run P w = .ok (.tuple #[v, u, x]) w := by
 unfold results; rw [h]; simp [hv, hu, hx]
theorem bR {R : Ending -> World -> Prop} (hR : R (.returned v) w) (hr : (results fn l.toArray).run P w = .ok v w := by first | exact rs1 rfl rfl | exact rs2 rfl rfl rfl | exact rs3 rfl rfl rfl rfl | fail) : bodyPost P fn R .ret ⟨l.toArray, []⟩ w := AQ hr rfl hR
end
theorem sE {l : List SF} {a : Act} {w : World} (E : Env w l) (σ : List Nat) (h : DT P .any ops Q [] (fun w => Env w l) (fun w => Env w l) σ false a w.drew) (hQ : ∀ d v c a w, Q (.panic c) (a.put d v) w -> Q (.panic c) a w := by intro d v c a w h; cases d <;> exact h) (hm : P.follows .mixedOrders = true := by kernel_rfl) (hs : Region.noSelect ops = true := by kernel_rfl) (hl : (σ.length == ops.size) = true := by kernel_rfl) (hk : TS .any ops [] (Array.replicate ops.size false) σ = true := by kernel_rfl) : (Code.region id ops true).wp P Q a w := Ia E σ hm hs hl hk hQ h
structure Hold (q : Prop) : Prop where
 out : q
theorem zA (h : p := by
 first
 | assumption
 | (refine peI (by first | exact hS | exact E | fail) ?_)
   repeat (first | exact pe0 | refine pe1 ?_)
   done
 | (refine peI (by first | exact E | fail) ?_)
   repeat (first | exact pe0 | refine pe1 ?_)
   done
 | fail) : p := h
theorem zB (h : p := by
 first
 | (with_reducible assumption)
 | (refine peI (by first | exact E | fail) ?_)
   repeat (first | (with_reducible exact pe0) | refine pe1 ?_)
   done
 | fail) : p := h
theorem zE (h : p := by
 repeat (first | (with_reducible exact Env.nil _) | refine peC (by first | exact zB | exact zA | fail) ?_)
 done) : p := h
theorem zQ (h : p := by first | (with_reducible exact jY) | ((with_reducible apply CY); omega) | ((with_reducible apply jX); omega) | fail) : p := h
theorem zK (h : p := by
 repeat (first
 | refine And.intro (by first
   | ((with_reducible apply GO); omega)
   | ((with_reducible apply okB); omega)
   | ((with_reducible apply OP); omega)
   | ((with_reducible apply TJ); omega)
   | ((with_reducible apply FV); exact zQ)
   | exact True.intro
   | ((with_reducible apply Jv); assumption; exact zQ)
   | ((with_reducible apply okAl); exact zA; omega; exact zQ)
   | ((with_reducible apply LA) <;> omega)
   | ((with_reducible apply Ju) <;> omega)
   | ((with_reducible apply okDf); omega)
   | ((with_reducible apply okM); omega)
   | ((with_reducible apply okI); omega)
   | fail) ?_
 | exact True.intro)
 done) : p := h
theorem zC (h : p := by first | exact decide_eq_true AA | exact decide_eq_false AA | fail) : p := h
theorem zR (h : p := by first
 | (with_reducible apply rMove); exact rfl
 | (with_reducible apply rAss); exact rfl
 | (with_reducible apply rPick); exact rfl; exact rfl
 | (with_reducible apply rExt); exact rfl; exact rfl
 | (with_reducible apply rNotT); exact rfl
 | (with_reducible apply rNotF); exact rfl
 | (with_reducible apply rLt); exact rfl; exact rfl; exact zC
 | (with_reducible apply rEq); exact rfl; exact rfl; exact zC
 | (with_reducible apply rNe); exact rfl; exact rfl; exact zC
 | (with_reducible apply rLe); exact rfl; exact rfl; exact zC
 | (with_reducible apply rGt); exact rfl; exact rfl; exact zC
 | (with_reducible apply rGe); exact rfl; exact rfl; exact zC
 | (with_reducible apply rInc); exact rfl; exact rfl; omega
 | (with_reducible apply rLenS); exact rfl
 | (with_reducible apply rAddN); exact rfl; exact rfl; omega
 | (with_reducible apply Yz); exact rfl; exact zA; exact rfl
 | (with_reducible apply Za); exact rfl; exact zA; exact rfl
 | (with_reducible apply Yv); exact rfl; exact zA; exact rfl
 | (with_reducible apply rFI0); exact rfl
 | (with_reducible apply rFI1); exact rfl
 | exact xJ rfl
 | fail) : p := h
theorem zS (k : q) (h : Hold q -> p := by
 intro hq
 first
 | (with_reducible refine isWL ?_)
   first
   | refine gV zR rfl rfl ?_
   | refine Xt rfl rfl ?_
   | fail
 | (with_reducible refine isKW ?_)
   first
   | refine kw rfl ?_
   | refine kn rfl ?_
   | fail
 | (with_reducible refine WN ?_)
   (try change Code.wp _ _ _ _ _)
 | (with_reducible refine AN ?_)
 | (with_reducible refine RL ?_)
 | (with_reducible refine Qf ?_)
   first
   | refine AO rfl ?_
   | refine AP rfl ?_
   | fail
 | (with_reducible refine isS ?_)
   first
   | refine gS rfl (fun w hS => zR) rfl rfl rfl rfl ?_
   | refine gS0 rfl rfl rfl (by first | exact E | exact E.2 | exact E.2.2 | exact E.2.2.2 | exact E.2.2.2.2 | exact E.2.2.2.2.2 | exact E.2.2.2.2.2.2 | fail) ?_
   | fail
 | (with_reducible refine isSP ?_)
   first
   | refine kS rfl ?_
   | refine kS0 rfl ?_
   | fail
 | (with_reducible refine SN ?_)
   (try change Code.wp _ _ _ _ _)
 | (with_reducible refine AU ?_)
   (try change Code.wp _ _ _ _ _)
 | (with_reducible refine AT ?_)
 | (with_reducible refine AX ?_)
   (try change Code.wp _ _ _ _ _)
 | (with_reducible refine AW ?_)
   (try refine bR ?_)
 | (fail_if_success (with_reducible change Code.wp _ _ _ _ _))
   change Code.wp _ _ _ _ _
 | fail
 exact hq.out) : p := h ⟨k⟩
theorem zG (k : q) (h : Hold q -> p := by
 intro hq
 repeat (refine zS ?_; (try (refine zS ?_; (try (refine zS ?_; (try refine zS ?_))))); (try simp only [q2,q3]))
 (try simp only [Act.put,q1,q2,q3])
 exact hq.out) : p := h ⟨k⟩
theorem zM (h : p := by first | (with_reducible exact EZ) | ((with_reducible apply IsI.now); exact zA) | fail) : p := h
theorem oB {b : Nat} {n : Bool} {s : Value} (E : Env w L) (x : Bx w b T cs) (o : Onl b w w') (y : Bx w' b 62 [.bool n, s]) (k : Ok b L := by exact zK) (h : UP cs := by exact zM) : Env w' (fB b n s :: L) := (E.onl (x.noW h) k o).b y
theorem oX {b T' : Nat} {ds : List Value} (E : Env w L) (x : Bx w b T cs) (o : Onl b w w') (y : Bx w' b T' ds) (k : Ok b L := by exact zK) (h : UP cs := by exact zM) : Env w' (fX b T' ds :: L) := (E.onl (x.noW h) k o).x y
def IC (l : List UInt8) : List Nat := l.map fun b => b.toNat - 48
def IP (l : List UInt8) : Bool := !l.isEmpty && !(l.head? == some 48 && decide (1 < l.length)) && l.all fun b => decide (48 <= b.toNat) && decide (b.toNat <= 57)
theorem SG (h : l.length = 0) : IP l = false := by
 rw [List.eq_nil_of_length_eq_zero h]; rfl
theorem nU (h0 : l[0]? = some b) (hb : b.toNat = 48) (h1 : 1 < l.length) : IP l = false := by
 have : b = 48 := UInt8.toNat_inj.1 (by rw [hb]; rfl)
 subst this
 unfold IP
 rw [List.head?_eq_getElem?, h0]
 simp [h1]
theorem IU (h : l[i]? = some b) (hb : b.toNat < 48 ∨ 57 < b.toNat) : IP l = false := by
 unfold IP
 have : (l.all fun b => decide (48 <= b.toNat) && decide (b.toNat <= 57)) = false := by
  rw [List.all_eq_false]
  refine ⟨b, List.mem_of_getElem? h, ?_⟩
  simp; omega
 rw [this, Bool.and_false]
theorem NK (h0 : 0 < l.length) (h1 : (∀ b, l[0]? = some b -> b.toNat = 48 -> ¬ 1 < l.length)) (h : ∀ i b, i < l.length -> l[i]? = some b -> 48 <= b.toNat /\ b.toNat <= 57) : IP l = true := by
 unfold IP
 have e1 : l.isEmpty = false := by cases l <;> simp at h0 ⊢
 have e2 : (l.head? == some 48 && decide (1 < l.length)) = false := by
  rw [Bool.and_eq_false_iff]
  by_cases e : l.head? = some 48
  . right
    rw [decide_eq_false_iff_not]
    exact h1 48 (by rw [<- List.head?_eq_getElem?]; exact e) rfl
  left; rw [beq_eq_false_iff_ne]; exact e
 have e3 : (l.all fun b => decide (48 <= b.toNat) && decide (b.toNat <= 57)) = true := by
  rw [List.all_eq_true]
  intro b k
  obtain ⟨i, f, rfl⟩ := List.getElem_of_mem k
  have := h i l[i] f (List.getElem?_eq_getElem f)
  simp; omega
 rw [e1, e2, e3]; rfl
theorem PH {l : List UInt8} (h : IP l = true) : ∀ b ∈ l, 48 <= b.toNat /\ b.toNat <= 57 := by
 unfold IP at h
 simp only [Bool.and_eq_true] at h
 intro b e
 have := List.all_eq_true.1 h.2 b e
 simpa using this
theorem bU (h : IP l = true) : 0 < l.length := by
 rcases Nat.eq_zero_or_pos l.length with e | e
 . rw [SG e] at h; cases h
 exact e
theorem A9 (h : IP l = true) : Dg (IC l) := by
 intro d e
 obtain ⟨b, f, rfl⟩ := List.mem_map.1 e
 have := PH h b f
 omega
theorem vG {l : List UInt8} (h : ∀ b ∈ l, 48 <= b.toNat /\ b.toNat <= 57) : ZQ (IC l) = l := by
 unfold ZQ IC
 rw [List.map_map]
 conv => rhs; rw [<- List.map_id l]
 apply List.map_congr_left
 intro b e
 have := h b e
 simp only [Function.comp, id]
 rw [show 48 + (b.toNat - 48) = b.toNat by omega]
 simp
theorem Wc {l : List Nat} (h : Dg l) : IC (ZQ l) = l := by
 unfold ZQ IC
 rw [List.map_map]
 conv => rhs; rw [<- List.map_id l]
 apply List.map_congr_left
 intro d e
 have := h d e
 simp only [Function.comp, id, UInt8.toNat_ofNat']
 omega
theorem B4 (h : IP l = true) : Cn (IC l) := by
 have k := bU h
 refine ⟨fun e => ?_, fun e => ?_⟩
 . have := congrArg List.length e
   simp [IC] at this
   subst this; simp at k
 unfold IP at h
 simp only [Bool.and_eq_true, Bool.not_eq_true', Bool.and_eq_false_iff] at h
 have o := h.1.2
 have q := List.all_eq_true.1 h.2
 cases l with
 | nil => simp at k
 | cons b l =>
   have p := q b AH
   simp only [Bool.and_eq_true, decide_eq_true_eq] at p
   simp only [IC, List.map_cons, List.head?_cons, Option.some.injEq] at e
   have f : b = 48 := UInt8.toNat_inj.1 (by show b.toNat = 48; omega)
   subst f
   simp at o
   simp [IC, o]
theorem vE (h : IP l = true) : IC l = YF (CX (IC l)) := Dn _ _ rfl (A9 h) (B4 h)
theorem Dr (n : Nat) : IP (ZQ (YF n)) = true := by
 have p := RE n
 have k := B5 n
 refine NK ?_ ?_ ?_
 . simp [ZQ, List.length_pos_iff.2 k.1]
 . intro b f t
   cases h : YF n with
   | nil => exact absurd h k.1
   | cons d l =>
     rw [h] at f p k
     simp only [ZQ, List.map_cons, List.getElem?_cons_zero, Option.some.injEq] at f
     have q := (Dg_cons.1 p).1
     have e := congrArg UInt8.toNat f
     rw [UInt8.toNat_ofNat'] at e
     have o : d = 0 := by omega
     have := k.2 (by simp [o])
     simp [ZQ] at this ⊢
     omega
 intro i b v f
 have u := List.mem_of_getElem? f
 obtain ⟨d, h, rfl⟩ := List.mem_map.1 u
 have := p d h
 rw [UInt8.toNat_ofNat']
 omega
def DN (l : List UInt8) : Option Int :=
 if l.head? = some 45 then (if IP l.tail = true /\ l.tail ≠ [48] then some (-(CX (IC l.tail) : Int)) else none)
 else if IP l = true then some (CX (IC l) : Int) else none
theorem Ih (h : IP l = true) (h0 : l ≠ [48]) : 0 < CX (IC l) := by
 rcases Nat.eq_zero_or_pos (CX (IC l)) with e | e
 . exfalso
   have k := vE h
   rw [e, QC 0 AA] at k
   have f := vG (PH h)
   rw [k] at f
   exact h0 f.symm
 exact e
theorem NI {z : Int} (h : DN l = some z) : txt z = l := by
 unfold DN at h
 by_cases f : l.head? = some 45
 . rw [if_pos f] at h
   by_cases e : IP l.tail = true /\ l.tail ≠ [48]
   . rw [if_pos e] at h
     simp only [Option.some.injEq] at h
     have o := Ih e.1 e.2
     have k : z < 0 := by omega
     unfold txt
     rw [if_pos k, show z.natAbs = CX (IC l.tail) by omega, <- vE e.1, vG (PH e.1)]
     cases l with
     | nil => simp at f
     | cons b l => simp at f ⊢; exact f.symm
   rw [if_neg e] at h; cases h
 rw [if_neg f] at h
 by_cases e : IP l = true
 . rw [if_pos e] at h
   simp only [Option.some.injEq] at h
   unfold txt
   rw [if_neg AA, show z.natAbs = CX (IC l) by omega, <- vE e, vG (PH e)]; rfl
 rw [if_neg e] at h; cases h
theorem XN (z : Int) : DN (txt z) = some z := by
 have q := pJ (RE z.natAbs)
 have p := Dr z.natAbs
 have h := Wc (RE z.natAbs)
 unfold DN txt
 by_cases o : z < 0
 . rw [if_pos o]
   have k : ZQ (YF z.natAbs) ≠ [48] := by
    intro e
    have e2 := congrArg IC e
    rw [h] at e2
    have e3 := congrArg CX e2
    rw [TW] at e3
    have : CX (IC [48]) = 0 := rfl
    omega
   have l : ([(45 : UInt8)] ++ ZQ (YF z.natAbs)).head? = some 45 := rfl
   have f : ([(45 : UInt8)] ++ ZQ (YF z.natAbs)).tail = ZQ (YF z.natAbs) := rfl
   rw [if_pos l, f, if_pos ⟨p, k⟩, h, TW]
   congr 1; omega
 rw [if_neg o, List.nil_append, if_neg q, if_pos p, h, TW]
 congr 1; omega
theorem dK (h : DN l = none) (z : Int) : txt z ≠ l := by
 rintro rfl; rw [XN] at h; cases h
theorem JV (h : i < s.size) : ∃ b, s[i]? = some b /\ s.data.toList[i]? = some b := by
 refine ⟨s[i], by simp [h], ?_⟩
 have e : i < s.data.size := h
 rw [Array.getElem?_toList, Array.getElem?_eq_getElem e]; rfl
theorem GE (s : ByteArray) : s.data.toList.length = s.size := by rw [Array.length_toList]; rfl
theorem XJ (s : ByteArray) (j : Nat) (_h : j <= s.size) : (s.extract j s.size).data.toList = s.data.toList.drop j := by
 have e : s.data.toList.length = s.size := GE s
 rw [ByteArray.data_extract, Array.toList_extract, List.extract_eq_take_drop]
 rw [List.take_of_length_le]
 rw [List.length_drop, e]
 exact Nat.le_refl _
theorem YO {ρ : Operand -> Value} {a b : ByteArray} {c : Bool} (ho : o.op = .binOp .eql t x y t') (hx : ρ x = .string a) (hy : ρ y = .string b) (hc : (a.data.toList == b.data.toList) = c) : (execOp ρ o).run P w = .ok (.value (.bool c)) w := by
 unfold execOp; rw [ho]
 simp only [hx, hy, eqGuard_at_string, binOp, Op.stringOp, Sem.run_bind, Sem.run_pure, Result.andThen_ok, ByteArray.toList_eq, hc]
theorem Iu (h : s.size = 0) : s = ⟨#[]⟩ := by
 apply ByteArray.ext
 exact Array.eq_empty_of_size_eq_zero h
theorem wO (h : s.size = 0) : (s.data.toList == (⟨#[]⟩ : ByteArray).data.toList) = true := by
 rw [beq_iff_eq, Iu h]
theorem YJ (h : ¬ s.size = 0) : (s.data.toList == (⟨#[]⟩ : ByteArray).data.toList) = false := by
 rw [beq_eq_false_iff_ne]; intro e; apply h; rw [<- GE, e]; rfl
theorem zT {b : UInt8} (h : ∀ j b, j < i -> l[j]? = some b -> 48 <= b.toNat /\ b.toNat <= 57) (hb : l[i]? = some b) (h1 : 48 <= b.toNat) (h2 : b.toNat <= 57) :
 ∀ j b, j < i + 1 -> l[j]? = some b -> 48 <= b.toNat /\ b.toNat <= 57 := by
 intro j c k f
 by_cases e : j = i
 . subst e; rw [hb] at f; cases f; exact ⟨h1, h2⟩
 exact h j c AA f
set_option maxRecDepth 100000 in
set_option maxHeartbeats 4000000 in
theorem Kv (s : ByteArray) (w : World) (hs9 : s.size <= 1000000) :
 Calls prog 173 #[.string s] w (LN w (IP s.data.toList)) := by
 have E := Env.start w
 go_enter func173, ntmps173
 by_cases N : s.size = 0
 . refine zG ?_
   refine V (v := .bool true) O O (YO O O O (wO N)) ?_
   refine zG ?_
   exact ⟨by rw [SG (by rw [GE]; exact N)], E.1⟩
 obtain ⟨c, Y, P⟩ := JV (i := 0) (s := s) AA
 by_cases R : c.toNat = 48
 case neg =>
  refine zG ?_
  refine V (v := .bool false) O O (YO O O O (YJ N)) ?_
  refine zG ?_
  refine V (v := .int .u8 ↑c.toNat) O O (DK (j := 0) O underlying9 O O O Y) ?_
  refine zG ?_
  refine wp_loop_ghost (fun X a U => ∃ (i : Nat) (T S G F D C B y u t q p o l k : Value), a = ⟨#[.string s, undef, T, S, .string s, .bool false, .bool false, .string s, .int .u8 ↑c.toNat, .bool false, .bool false, undef, undef, undef, .bool false, .bool false, .string s, .int .i64 ↑s.size, .int .i64 ↑i, G, F, D, C, B, y, u, t, q, p, o, l, k], []⟩ /\ Env U [fW w] /\ X = s.size - i /\ i <= s.size /\ ∀ j b, j < i -> s.data.toList[j]? = some b -> 48 <= b.toNat /\ b.toNat <= 57) (s.size) ⟨0, _, _, _, _, _, _, _, _, _, _, _, _, _, _, _, O, zE, O, ⟨Nat.zero_le _, fun j b H => absurd H (Nat.not_lt_zero _)⟩⟩ ?_
  rintro m2 _ w2 ⟨i, T, S, G, F, D, C, B, y, u, t, q, p, o, l, k, rfl, E, a1, J⟩
  by_cases hi : i = s.size
  . refine zG ?_
    exact ⟨by rw [NK (by rw [GE]; omega) (fun b e h => absurd (by rw [P] at e; cases e; exact h) R) (fun j b H e => J.2 j b (by rw [GE] at H; omega) e)], E.1⟩
  have I : i < s.size := by have := J.1; omega
  obtain ⟨b, e, f⟩ := JV I
  by_cases Q : b.toNat < 48
  . exact ZLK
  by_cases a0 : 57 < b.toNat
  . exact ZRV
  refine zG ?_
  refine V (v := .int .u8 ↑b.toNat) O O (DK (j := i) O underlying9 O O O e) ?_
  refine zG ?_
  refine V (v := .int .u8 ↑b.toNat) O O (DK (j := i) O underlying9 O O O e) ?_
  refine zG ?_
  exact ⟨_, AA, i + 1, _, _, _, _, _, _, _, _, _, _, _, _, _, _, _, rfl, zE, rfl, ⟨by omega, zT J.2 f AA AA⟩⟩
 by_cases h1 : 1 < s.size
 . refine zG ?_
   refine V (v := .bool false) O O (YO O O O (YJ N)) ?_
   refine zG ?_
   refine V (v := .int .u8 ↑c.toNat) O O (DK (j := 0) O underlying9 O O O Y) ?_
   refine zG ?_
   exact ⟨by rw [nU P R (by rw [GE]; exact h1)], E.1⟩
 refine zG ?_
 refine V (v := .bool false) O O (YO O O O (YJ N)) ?_
 refine zG ?_
 refine V (v := .int .u8 ↑c.toNat) O O (DK (j := 0) O underlying9 O O O Y) ?_
 refine zG ?_
 refine wp_loop_ghost (fun X a U => ∃ (i : Nat) (T S G F D C B y u t q p o l k : Value), a = ⟨#[.string s, undef, T, S, .string s, .bool false, .bool false, .string s, .int .u8 ↑c.toNat, .bool true, .bool true, .string s, .int .i64 ↑s.size, .bool false, .bool false, .bool false, .string s, .int .i64 ↑s.size, .int .i64 ↑i, G, F, D, C, B, y, u, t, q, p, o, l, k], []⟩ /\ Env U [fW w] /\ X = s.size - i /\ i <= s.size /\ ∀ j b, j < i -> s.data.toList[j]? = some b -> 48 <= b.toNat /\ b.toNat <= 57) (s.size) ⟨0, _, _, _, _, _, _, _, _, _, _, _, _, _, _, _, O, zE, O, ⟨Nat.zero_le _, fun j b H => absurd H (Nat.not_lt_zero _)⟩⟩ ?_
 rintro m1 _ w1 ⟨i, T, S, G, F, D, C, B, y, u, t, q, p, o, l, k, rfl, E, a2, L⟩
 by_cases hi : i = s.size
 . refine zG ?_
   exact ⟨by rw [NK (by rw [GE]; omega) (fun b e h => by rw [GE]; exact h1) (fun j b H e => L.2 j b (by rw [GE] at H; omega) e)], E.1⟩
 have I : i < s.size := by have := L.1; omega
 obtain ⟨b, e, f⟩ := JV I
 by_cases Q : b.toNat < 48
 . exact ZLK
 by_cases a0 : 57 < b.toNat
 . exact ZRV
 refine zG ?_
 refine V (v := .int .u8 ↑b.toNat) O O (DK (j := i) O underlying9 O O O e) ?_
 refine zG ?_
 refine V (v := .int .u8 ↑b.toNat) O O (DK (j := i) O underlying9 O O O e) ?_
 refine zG ?_
 exact ⟨_, AA, i + 1, _, _, _, _, _, _, _, _, _, _, _, _, _, _, _, rfl, zE, rfl, ⟨by omega, zT L.2 f AA AA⟩⟩
end Go.Proofs.YtmppigbbkjepiaaGreatDoor
