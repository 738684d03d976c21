/- Boxes of integers that are written: what is in them, carried from world to world. The kit's rules at integers in boxes. -/
import Derived.Test.YtmppigbbkjepiaaGreatDoorFnsS
namespace Go.Proofs.YtmppigbbkjepiaaGreatDoor
open Go.Proofs.Tryz
open Go.RowKit W
def BoxI (w : World) (r : Nat) (z : Int) : Prop := RBox w r ∧ ∃ n s, Box w r n s ∧ IsI w (.agg #[.bool n, s]) z
end Go.Proofs.YtmppigbbkjepiaaGreatDoor
namespace Go.Proofs.YtmppigbbkjepiaaGreatDoor
open Go.Proofs.Tryz
open Go.RowKit W
theorem q1 {α : Type} {l : List α} {i : Nat} {a : α} : l.toArray.setIfInBounds i a = (l.set i a).toArray := by simp
theorem q2 {α : Type} {x a : α} {l : List α} : (x :: l).set 0 a = a :: l := rfl
theorem q3 {α : Type} {x a : α} {l : List α} {n : Nat} : (x :: l).set (n + 1) a = x :: l.set n a := rfl
theorem FM : Ag prog 62 2 [.bool false, .slice none 0 0] := ⟨⟨_, underlying62, rfl⟩, by kernel_rfl, rfl⟩
theorem svI (z : Int) : SV (fun w v => IsI w v z) where
  below := fun h hb => h.below hb
  onl := fun h hn hb => by
    obtain ⟨s, rfl, hs⟩ := h
    exact ⟨s, rfl, hs.onl hn hb⟩
def fI (v : Value) (z : Int) : SF := fV (fun w v => IsI w v z) (svI z) v
def fB (b : Nat) (n : Bool) (s : Value) : SF := fX b 62 [.bool n, s]
theorem IsI.sh {w : World} {v : Value} {z : Int} (h : IsI w v z) : ∃ n s, v = .agg #[.bool n, s] ∧ s.oneCell' = true ∧ (∀ k, s ≠ .int .u32 k) := by
  obtain ⟨s, rfl, e⟩ := h
  obtain ⟨l, f, rfl, _⟩ := e
  exact ⟨_, _, rfl, rfl, fun k h => by cases h⟩
theorem FY {w : World} {n : Bool} {s : Value} {z : Int} (h : IsI w (.agg #[.bool n, s]) z) : n = decide (z < 0) := by
  obtain ⟨t, e, _⟩ := h
  simp only [Value.agg.injEq, Array.mk.injEq, List.cons.injEq, Value.bool.injEq, and_true] at e
  exact e.1
theorem IsI.sl {w : World} {n : Bool} {s : Value} {z : Int} (h : IsI w (.agg #[.bool n, s]) z) : Sl w s (CB z.natAbs) := by
  obtain ⟨t, e, f⟩ := h
  simp only [Value.agg.injEq, Array.mk.injEq, List.cons.injEq, Value.bool.injEq, and_true] at e
  rw [e.2]; exact f
theorem IsI.slice {w : World} {n : Bool} {s : Value} {z : Int} (h : IsI w (.agg #[.bool n, s]) z) : ∃ ao cap, s = .slice ao (CB z.natAbs).length cap := by
  obtain ⟨ao, cap, rfl, _⟩ := h.sl
  exact ⟨ao, cap, rfl⟩
theorem one2 {n : Bool} {s : Value} (h : s.oneCell' = true) : ∀ v ∈ [.bool n, s], v.oneCell' = true := by
  intro v e
  simp only [List.mem_cons, List.not_mem_nil, or_false] at e
  rcases e with rfl | rfl
  · rfl
  · exact h
theorem IsI.one {w : World} {n : Bool} {s : Value} {z : Int} (h : IsI w (.agg #[.bool n, s]) z) : ∀ v ∈ [.bool n, s], v.oneCell' = true := by
  obtain ⟨f, e, rfl⟩ := h.slice
  exact one2 rfl
theorem IsI.now {w : World} {n : Bool} {s : Value} {z : Int} (h : IsI w (.agg #[.bool n, s]) z) : VC [.bool n, s] := by
  obtain ⟨o, l, rfl⟩ := h.slice
  intro c f k e
  subst e
  simp at f
theorem CW : VC [.bool false, .slice none 0 0] := by
  intro c f k e
  subst e
  simp at f
section
variable {w : World} {l : List SF}
theorem Env.i {v : Value} {z : Int} (E : Env w l) (h : IsI w v z) : Env w (fI v z :: l) := ⟨h, E⟩
theorem Env.b {b : Nat} {n : Bool} {s : Value} (E : Env w l) (h : Bx w b 62 [.bool n, s]) : Env w (fB b n s :: l) := ⟨h, E⟩
theorem Env.ww {w0 : World} (E : Env w l) (h : Below w0.heap.size w0 w) : Env w (fW w0 :: l) := ⟨h, E⟩
theorem svS (l : List Nat) : SV (fun w v => Sl w v l) where
  below := fun h hb => h.below hb
  onl := fun h hn hb => h.onl hn hb
def fS (v : Value) (l : List Nat) : SF := fV (fun w v => Sl w v l) (svS l) v
theorem Env.s {v : Value} {L : List Nat} (E : Env w l) (h : Sl w v L) : Env w (fS v L :: l) := ⟨h, E⟩
theorem Env.nil (w : World) : Env w [] := trivial
theorem Env.get {f : SF} (E : Env w (f :: l)) : f.p w := E.1
end
section
variable {ρ : Operand → Value} {o : Oper} {w : World} {P : Program}
theorem GY {x : Operand} {v : Value} (ho : o.op = .move x) (hx : ρ x = v) : (execOp ρ o).run P w = .ok (.value v) w := by
  unfold execOp; rw [ho]; simp [hx]
theorem MT {x : Operand} {v : Value} (ho : o.op = .assign x) (hx : ρ x = v) : (execOp ρ o).run P w = .ok (.value v) w := by
  unfold execOp; rw [ho]; simp [hx]
theorem TR {t : TypeId} {x : Operand} {b : Bool} (ho : o.op = .unOp .not t x) (hx : ρ x = .bool b) : (execOp ρ o).run P w = .ok (.value (.bool !b)) w := by
  unfold execOp; rw [ho]; simp [hx, Op.unary]
theorem Ft {c x y : Operand} {b : Bool} {v : Value} (ho : o.op = .pick c x y) (hc : ρ c = .bool b) (hx : (if b then ρ x else ρ y) = v) : (execOp ρ o).run P w = .ok (.value v) w := by
  unfold execOp; rw [ho]; simp [hc, asBool, hx]
theorem VV {t : Operand} {k : Nat} {vs : List Value} {v : Value} (ho : o.op = .extract t k) (hx : ρ t = .tuple vs.toArray) (hk : vs[k]? = some v) : (execOp ρ o).run P w = .ok (.value v) w := by
  unfold execOp; rw [ho]; simp [hx, Instr.extract, hk]
theorem qS {x : Operand} {b : Nat} (ho : o.op = .fieldAddr 62 x 0) (hx : ρ x = .pointer (some ⟨b, 0, none⟩)) : (execOp ρ o).run prog w = .ok (.value (.pointer (some ⟨b, 0, none⟩))) w := by
  unfold execOp; rw [ho]
  simp [hx, go_sem]
theorem qR {x : Operand} {b : Nat} (ho : o.op = .fieldAddr 62 x 1) (hx : ρ x = .pointer (some ⟨b, 0, none⟩)) : (execOp ρ o).run prog w = .ok (.value (.pointer (some ⟨b, 1, none⟩))) w := by
  unfold execOp; rw [ho]
  simp [hx, go_sem]
theorem CR {T b i TB : Nat} {x : Operand} {cs : List Value} {v : Value} (ho : o.op = .load T x) (hT : ∀ w, (isAgg T).run P w = .ok false w) (hx : ρ x = .pointer (some ⟨b, i, none⟩)) (hb : Bx w b TB cs) (hi : cs[i]? = some v) :
    (execOp ρ o).run P w = .ok (.value v) w := by
  unfold execOp; rw [ho]
  have e := (hb.cell i).trans hi
  simp [hx, Instr.loadAt, Instr.sureAddr, loadVar, hT, e]
theorem sD (w : World) : (isAgg 60).run prog w = .ok false w := by
  simp [go_sem]
theorem ZF (w : World) : (isAgg 4).run prog w = .ok false w := by
  simp [go_sem]
theorem RM {x : Operand} {ao : Option Addr} {n c : Nat} (ho : o.op = .call { callee := .builtin .len, args := #[x], argTypes := #[60] }) (hx : ρ x = .slice ao n c) : (execOp ρ o).run prog w = .ok (.value (.int .i64 n)) w := by
  unfold execOp; rw [ho]; simp [hx, go_sem]
theorem GQ {t t' : TypeId} {k : IntKind} {x y : Operand} {m n : Int} {c : Bool} (ho : o.op = .binOp .eql t x y t') (hx : ρ x = .int k m) (hy : ρ y = .int k n) (hc : (m == n) = c) : (execOp ρ o).run P w = .ok (.value (.bool c)) w := by
  unfold execOp; rw [ho]; simp only [hx, hy, eqGuard_at_int, binOp_eql, hc]; rfl
theorem TS {t t' : TypeId} {k : IntKind} {x y : Operand} {m n : Int} {c : Bool} (ho : o.op = .binOp .neq t x y t') (hx : ρ x = .int k m) (hy : ρ y = .int k n) (hc : (m != n) = c) : (execOp ρ o).run P w = .ok (.value (.bool c)) w := by
  unfold execOp; rw [ho]; simp only [hx, hy, eqGuard_at_int, binOp_neq, hc]; rfl
theorem MD {t t' : TypeId} {k : IntKind} {x y : Operand} {m n : Int} {c : Bool} (ho : o.op = .binOp .lss t x y t') (hx : ρ x = .int k m) (hy : ρ y = .int k n) (hc : decide (m < n) = c) : (execOp ρ o).run P w = .ok (.value (.bool c)) w := by
  unfold execOp; rw [ho]; simp only [hx, hy, eqGuard_at_int, binOp_lss, hc]; rfl
theorem NJ {t t' : TypeId} {k : IntKind} {x y : Operand} {m n : Int} {c : Bool} (ho : o.op = .binOp .leq t x y t') (hx : ρ x = .int k m) (hy : ρ y = .int k n) (hc : decide (m ≤ n) = c) : (execOp ρ o).run P w = .ok (.value (.bool c)) w := by
  unfold execOp; rw [ho]; simp only [hx, hy, eqGuard_at_int, binOp_leq, hc]; rfl
theorem TV {t t' : TypeId} {k : IntKind} {x y : Operand} {m n : Int} {c : Bool} (ho : o.op = .binOp .gtr t x y t') (hx : ρ x = .int k m) (hy : ρ y = .int k n) (hc : decide (m > n) = c) : (execOp ρ o).run P w = .ok (.value (.bool c)) w := by
  unfold execOp; rw [ho]; simp only [hx, hy, eqGuard_at_int, binOp_gtr, hc]; rfl
theorem Ku {t t' : TypeId} {k : IntKind} {x y : Operand} {m n : Int} {c : Bool} (ho : o.op = .binOp .geq t x y t') (hx : ρ x = .int k m) (hy : ρ y = .int k n) (hc : decide (m ≥ n) = c) : (execOp ρ o).run P w = .ok (.value (.bool c)) w := by
  unfold execOp; rw [ho]; simp only [hx, hy, eqGuard_at_int, binOp_geq, hc]; rfl
theorem qZ (ho : o.op = .build 62 #[]) : (execOp ρ o).run prog w = .ok (.value (.agg #[.bool false, .slice none 0 0])) w := by
  unfold execOp; rw [ho]
  have e : (zeroValue 62).run prog w = .ok (.agg #[.bool false, .slice none 0 0]) w := by kernel_rfl
  simp [go_sem, e]
theorem CY {b n T : Nat} {cs zs : List Value} (hA : Ag P T n zs) (hb : Bx w b T cs) (hn : cs.length = n) : (loadVar T ⟨b, 0, none⟩).run P w = .ok (.agg cs.toArray) w := by
  obtain ⟨d, e, f⟩ := hA.u
  exact run_loadVar_row w b T T cs.toArray (0, 0) d hb e (by cases d <;> simp_all) (by rw [hA.size]; simp [hn])
end
theorem okB {b b' : Nat} {n : Bool} {s : Value} (h : b ≠ b') : (fB b' n s).ok b := h
theorem JD {b : Nat} {w0 : World} (h : w0.heap.size ≤ b) : (fW w0).ok b := h
theorem Env.start (w : World) : Env w [fW w] := ⟨Below.refl _ _, BW⟩
theorem Fits.mono {z : Int} {m n : Nat} (h : Fits z m) (hmn : m ≤ n) : Fits z n := Nat.le_trans h hmn
theorem Fits.lt {z : Int} {m : Nat} (h : Fits z m) : z.natAbs < 4294967296 ^ m := by
  have e := GA (FQ z.natAbs)
  rw [CK] at e
  exact Nat.lt_of_lt_of_le e (Nat.pow_le_pow_right Z h)
theorem LU {z : Int} {m : Nat} (h : z.natAbs < 4294967296 ^ m) : Fits z m := IH h
theorem tS {z : Int} {m : Nat} (h : Fits z m) : Fits (-z) m := by unfold Fits at *; rwa [Int.natAbs_neg]
theorem bY {x y : Int} {m n k : Nat} (hx : Fits x m) (hy : Fits y n) (hm : m ≤ k) (hn : n ≤ k) : Fits (x + y) (k + 1) := by
  refine LU ?_
  have h := (hx.mono hm).lt
  have f := (hy.mono hn).lt
  have e := Int.natAbs_add_le x y
  rw [Nat.pow_succ]
  omega
theorem FZ {x y : Int} {m n : Nat} (hx : Fits x m) (hy : Fits y n) : Fits (x * y) (m + n) := by
  refine LU ?_
  rw [Int.natAbs_mul, Nat.pow_add]
  exact Nat.mul_lt_mul'' hx.lt hy.lt
theorem yY {z : Int} (h : z ≠ 0) : 0 < (CB z.natAbs).length := by
  rcases Nat.eq_zero_or_pos (CB z.natAbs).length with e | e
  · have := (ET z.natAbs).1 (List.eq_nil_of_length_eq_zero e); omega
  · exact e
theorem oR {z : Int} (h : z ≠ 0) : ((((CB z.natAbs).length : Nat) : Int) == 0) = false := by
  have := yY h
  rw [beq_eq_false_iff_ne]; omega
section
variable {P : Program} {o : Oper} {a : Act} {w : World} {K : Act → World → Prop} {Q : Exit → Act → World → Prop} {f : Nat} {args : List Operand} {tys : Array TypeId} {vs : List Value} {l : List SF}
theorem CG {z : Int} (hf : Fn P f) (ho : o.op = .call { callee := .value (.func f), args := args.toArray, argTypes := tys }) (hc : Calls P f vs.toArray w (RetZ w z)) (hv : args.map a.eval = vs) (E : Env w l)
    (h : ∀ w' n s, Below w.heap.size w w' → Env w' (fI (.agg #[.bool n, s]) z :: l) → K (a.put o.dst (.agg #[.bool n, s])) w') : o.wp P a w K Q := by
  refine DB hf ho hc hv ?_
  rintro e w' ⟨v, rfl, k, p⟩
  obtain ⟨n, s, rfl, _⟩ := k.sh
  exact ⟨_, rfl, h w' n s p ⟨k, E.below p⟩⟩
theorem BY {b : Bool} (hf : Fn P f) (ho : o.op = .call { callee := .value (.func f), args := args.toArray, argTypes := tys }) (hc : Calls P f vs.toArray w (JO w b)) (hv : args.map a.eval = vs) (E : Env w l)
    (h : ∀ w', Below w.heap.size w w' → Env w' l → K (a.put o.dst (.bool b)) w') : o.wp P a w K Q := by
  refine DB hf ho hc hv ?_
  rintro e w' ⟨rfl, k⟩
  exact ⟨_, rfl, h w' k (E.below k)⟩
theorem CH {x : Int} (hf : Fn P f) (ho : o.op = .call { callee := .value (.func f), args := args.toArray, argTypes := tys }) (hc : Calls P f vs.toArray w (XY w x)) (hv : args.map a.eval = vs) (E : Env w l)
    (h : ∀ w', Below w.heap.size w w' → Env w' l → K (a.put o.dst (.int .i64 x)) w') : o.wp P a w K Q := by
  refine DB hf ho hc hv ?_
  rintro e w' ⟨rfl, k⟩
  exact ⟨_, rfl, h w' k (E.below k)⟩
theorem EH {L : List Nat} (hf : Fn P f) (ho : o.op = .call { callee := .value (.func f), args := args.toArray, argTypes := tys }) (hc : Calls P f vs.toArray w (wU w L)) (hv : args.map a.eval = vs) (E : Env w l)
    (h : ∀ w' v, Below w.heap.size w w' → Env w' (fS v L :: l) → K (a.put o.dst v) w') : o.wp P a w K Q := by
  refine DB hf ho hc hv ?_
  rintro e w' ⟨v, rfl, p, k⟩
  exact ⟨_, rfl, h w' v k ⟨p, E.below k⟩⟩
theorem DP {z c : Int} (hf : Fn P f) (ho : o.op = .call { callee := .value (.func f), args := args.toArray, argTypes := tys }) (hc : Calls P f vs.toArray w (bM w z c)) (hv : args.map a.eval = vs) (E : Env w l)
    (h : ∀ w' n s, Below w.heap.size w w' → Env w' (fI (.agg #[.bool n, s]) z :: l) → K (a.put o.dst (.tuple #[.agg #[.bool n, s], .int .i64 c])) w') : o.wp P a w K Q := by
  refine DB hf ho hc hv ?_
  rintro e w' ⟨v, rfl, k, p⟩
  obtain ⟨n, s, rfl, _⟩ := k.sh
  exact ⟨_, rfl, h w' n s p ⟨k, E.below p⟩⟩
theorem fK {q r c : Int} (hf : Fn P f) (ho : o.op = .call { callee := .value (.func f), args := args.toArray, argTypes := tys }) (hc : Calls P f vs.toArray w (Ox w q r c)) (hv : args.map a.eval = vs) (E : Env w l)
    (h : ∀ w' n s m t, Below w.heap.size w w' → Env w' (fI (.agg #[.bool m, t]) r :: fI (.agg #[.bool n, s]) q :: l) → K (a.put o.dst (.tuple #[.agg #[.bool n, s], .agg #[.bool m, t], .int .i64 c])) w') : o.wp P a w K Q := by
  refine DB hf ho hc hv ?_
  rintro e w' ⟨v, u, rfl, k, p, y⟩
  obtain ⟨n, s, rfl, _⟩ := k.sh
  obtain ⟨m, t, rfl, _⟩ := p.sh
  exact ⟨_, rfl, h w' n s m t y ⟨p, k, E.below y⟩⟩
theorem NX {x : Int} {b : Bool} (hf : Fn P f) (ho : o.op = .call { callee := .value (.func f), args := args.toArray, argTypes := tys }) (hc : Calls P f vs.toArray w (RetS w x b)) (hv : args.map a.eval = vs) (E : Env w l)
    (h : ∀ w', Below w.heap.size w w' → Env w' l → K (a.put o.dst (.tuple #[.int .i64 x, .bool b])) w') : o.wp P a w K Q := by
  refine DB hf ho hc hv ?_
  rintro e w' ⟨rfl, k⟩
  exact ⟨_, rfl, h w' k (E.below k)⟩
end
theorem UY (a : Act) (d : Option Tmp) (v : Value) : (a.put d v).defers = a.defers := by cases d <;> rfl
theorem AK {A B : Prop} (h : A) (e : B = A := by first | (simp only [q2,q3]; exact O) | exact O) : B := e.mpr h
theorem AL {A B : Prop} (h : A) (e : B = A := by simp only [Act.put,q1,q2,q3]; exact O) : B := e.mpr h
def BJ (l : Array Value) : Operand → Option Value
  | .tmp t => l.toList[t]?
  | .const v => some v
  | _ => none
theorem BK {a : Act} {x : Operand} {v : Value} (h : BJ a.tmps x = some v) : a.eval x = v := by
  cases x <;> simp_all [BJ, Act.eval]
theorem BT {P : Program} {ops : Array Oper} {Q : Exit → Act → World → Prop} {rest : List Oper} {o : Oper} {a : Act} {w : World} {v : Value} {x : Operand} (hg : Region.wanted o (yielded ops a.tmps) = true) (g : o.op = .move x ∧ BJ a.tmps x = some v) (h : wpList P ops Q rest (a.put o.dst v) w) : wpList P ops Q (o :: rest) a w := LV hg (GY g.1 (BK g.2)) h
theorem BU {P : Program} {ops : Array Oper} {Q : Exit → Act → World → Prop} {rest : List Oper} {o : Oper} {a : Act} {w : World} {v : Value} {x : Operand} (hg : Region.wanted o (yielded ops a.tmps) = true) (g : o.op = .assign x ∧ BJ a.tmps x = some v) (h : wpList P ops Q rest (a.put o.dst v) w) : wpList P ops Q (o :: rest) a w := LV hg (MT g.1 (BK g.2)) h
end Go.Proofs.YtmppigbbkjepiaaGreatDoor
