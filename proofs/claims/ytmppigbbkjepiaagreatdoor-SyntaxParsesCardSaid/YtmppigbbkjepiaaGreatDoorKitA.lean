/- Helping facts of BoxI; no other conditions. Helping facts of Ref1; no other conditions. Helping facts of KitA; no other conditions. -/
import Derived.Test.YtmppigbbkjepiaaGreatDoorFnsS
import Derived.Lib.ConvBytes
namespace Go.Proofs.YtmppigbbkjepiaaGreatDoor
open Go.Proofs.Tryz
open Go.RowKit W
variable {A B p : Prop} {G : Value -> Prop} {J m z : Int} {L : List Nat} {P : Program} {Q : Exit -> Act -> World -> Prop} {T TB b' base cap e j len n off r size sz : Nat} {a : Act} {ao : Option Addr} {c : Bool} {cs xs zs : List Value} {k kk : IntKind} {l : List SF} {o : Oper} {ops : Array Oper} {rest : List Oper} {src t t' : TypeId} {v : Value} {w w' w0 : World} {y : Operand} {α : Type}
theorem Z8Z (h : p := by
 rintro e H ⟨X, rfl, l, p⟩
 obtain ⟨u, q, rfl, I, _, _⟩ := l.parts
 have o := (T.out.keep h).keep p
 have B := Lib.hid o
 obtain ⟨⟨n0, N, D, F, L, J⟩, g2, g3⟩ := o
 have Q : Below w.heap.size w H := (C.trans (h.mono C.size)).trans (p.mono (Nat.le_trans C.size h.size))
 go_wp2_with fail
 refine AQ (v := .agg #[.bool (decide (z < 0)), .slice u (CD z.natAbs).length q]) ?_ O ((VR l B.out Q AA).eq y.out)
 simp [results, results58, go_sem, L, J]
 ) : p := h
theorem ZSU (h : p := by
 go_enter func150, ntmps150
 go_upto_region 1 with fail
 rw [<- h]
 clear h
 go_wp2_with fail
 go_ret
 exact ⟨rfl, p⟩
 ) : p := h
theorem ZC3 (h : p := by
 refine CZ hf ho hc hv ?_
 rintro e w' ⟨rfl, k⟩
 exact ⟨_, rfl, h w' k (E.below k)⟩
 ) : p := h
theorem Zrs (h : p := by
 refine CZ hf ho hc hv ?_
 rintro e w' ⟨v, rfl, k, p⟩
 obtain ⟨n, s, rfl, _⟩ := k.sh
 exact ⟨_, rfl, h w' n s p ⟨k, E.below p⟩⟩
 ) : p := h
def BoxI (w : World) (r : Nat) (z : Int) : Prop := RBox w r /\ ∃ n s, Box w r n s /\ IsI w (.agg #[.bool n, s]) z
theorem BoxI.cells (h : BoxI w r z) : ∃ (ao : Option Addr) (cap : Nat), w.cell? ⟨r, 0, none⟩ = some (.bool (decide (z < 0))) /\ w.cell? ⟨r, 1, none⟩ = some (.slice ao (CD z.natAbs).length cap) /\
 IsI w (.agg #[.bool (decide (z < 0)), .slice ao (CD z.natAbs).length cap]) z /\ w.frozen? ⟨r, 0, none⟩ = false /\ w.frozen? ⟨r, 1, none⟩ = false := by
 obtain ⟨k, n, s, l, f⟩ := h
 obtain ⟨ao, cap, e, _⟩ := f.parts
 simp only [Value.agg.injEq, Array.mk.injEq, List.cons.injEq, Value.bool.injEq, and_true] at e
 obtain ⟨rfl, rfl⟩ := e
 exact ⟨ao, cap, l.1, l.2, f, k.2.1, k.2.2⟩
theorem BoxI.lt (h : BoxI w r z) : r < w.heap.size := by
 obtain ⟨k, f, e, _⟩ := h.cells
 exact hH e
theorem BoxI.keep {w1 : World} (h : BoxI w r z) (hb : Below w.heap.size w w1) : BoxI w1 r z := by
 obtain ⟨k, n, s, e, f⟩ := h
 exact ⟨k.keep hb, n, s, e.keep hb, f.below hb⟩
theorem BoxI.drewN (h : BoxI w r z) (q : Nat) : BoxI (w.drewN q) r z := h
theorem BoxI.other {r' : Nat} (h : BoxI w r z) (h' : RBox w r') (hne : r ≠ r') (n' : Bool) (s' : Value) : BoxI ((w.setCell ⟨r', 0, none⟩ (.bool n')).setCell ⟨r', 1, none⟩ s') r z := by
 obtain ⟨k, n, s, e, f⟩ := h
 exact ⟨k.other hne n' s', n, s, ⟨NH e.1 hne, NH e.2 hne⟩, f.store h' n' s'⟩
theorem BoxI.put {n : Bool} (hr : RBox w r) (hz : IsI w (.agg #[.bool n, .slice ao len cap]) z) :
 BoxI ((w.setCell ⟨r, 0, none⟩ (.bool n)).setCell ⟨r, 1, none⟩ (.slice ao len cap)) r z := by
 have e := hz.store hr n (.slice ao len cap)
 obtain ⟨⟨t, q, f, h, p, o⟩, l, k⟩ := hr
 have e0 : ((w.setCell ⟨r, 0, none⟩ (.bool n)).setCell ⟨r, 1, none⟩ (.slice ao len cap)).cell? ⟨r, 0, none⟩ = some (.bool n) := by
  simp [go_sem, p]
 have e1 : ((w.setCell ⟨r, 0, none⟩ (.bool n)).setCell ⟨r, 1, none⟩ (.slice ao len cap)).cell? ⟨r, 1, none⟩ = some (.slice ao len cap) := by
  simp [go_sem, o]
 exact ⟨⟨⟨n, ao, len, cap, e0, e1⟩, by simp [l], by simp [k]⟩, n, _, ⟨e0, e1⟩, e⟩
theorem q1 {l : List α} {i : Nat} {a : α} : l.toArray.setIfInBounds i a = (l.set i a).toArray := by simp
theorem q2 {x a : α} {l : List α} : (x :: l).set 0 a = a :: l := rfl
theorem q3 {x a : α} {l : List α} : (x :: l).set (n + 1) a = x :: l.set n a := rfl
theorem EC : Ag prog 62 2 [.bool false, .slice none 0 0] := ⟨⟨_, underlying62, rfl⟩, by kernel_rfl, rfl⟩
theorem svI (z : Int) : SV (fun w v => IsI w v z) where
 below := fun h hb => h.below hb
 onl := fun h hn hb => by
  obtain ⟨s, rfl, hs⟩ := h
  exact ⟨s, rfl, hs.onl hn hb⟩
def fI (v : Value) (z : Int) : SF := fV (fun w v => IsI w v z) (svI z) v
def fB (b : Nat) (n : Bool) (s : Value) : SF := fX b 62 [.bool n, s]
theorem IsI.sh (h : IsI w v z) : ∃ n s, v = .agg #[.bool n, s] /\ s.oneCell' = true /\ (∀ k, s ≠ .int .u32 k) := by
 obtain ⟨s, rfl, e⟩ := h
 obtain ⟨l, f, rfl, _⟩ := e
 exact ⟨_, _, rfl, rfl, fun k h => by cases h⟩
theorem GD {n : Bool} {s : Value} (h : IsI w (.agg #[.bool n, s]) z) : n = decide (z < 0) := by
 obtain ⟨t, e, _⟩ := h
 simp only [Value.agg.injEq, Array.mk.injEq, List.cons.injEq, Value.bool.injEq, and_true] at e
 exact e.1
theorem IsI.sl {n : Bool} {s : Value} (h : IsI w (.agg #[.bool n, s]) z) : Sl w s (CD z.natAbs) := by
 obtain ⟨t, e, f⟩ := h
 simp only [Value.agg.injEq, Array.mk.injEq, List.cons.injEq, Value.bool.injEq, and_true] at e
 rw [e.2]; exact f
theorem IsI.slice {n : Bool} {s : Value} (h : IsI w (.agg #[.bool n, s]) z) : ∃ ao cap, s = .slice ao (CD z.natAbs).length cap := by
 obtain ⟨ao, cap, rfl, _⟩ := h.sl
 exact ⟨ao, cap, rfl⟩
theorem one2 {n : Bool} {s : Value} (h : s.oneCell' = true) : ∀ v ∈ [.bool n, s], v.oneCell' = true := by
 intro v e
 simp only [List.mem_cons, List.not_mem_nil, or_false] at e
 rcases e with rfl | rfl
 . rfl
 exact h
theorem IsI.one {n : Bool} {s : Value} (h : IsI w (.agg #[.bool n, s]) z) : ∀ v ∈ [.bool n, s], v.oneCell' = true := by
 obtain ⟨f, e, rfl⟩ := h.slice
 exact one2 rfl
theorem IsI.now {n : Bool} {s : Value} (h : IsI w (.agg #[.bool n, s]) z) : UP [.bool n, s] := by
 obtain ⟨o, l, rfl⟩ := h.slice
 intro c f k e
 subst e
 simp at f
theorem EZ : UP [.bool false, .slice none 0 0] := by
 intro c f k e
 subst e
 simp at f
section
variable {w : World} {l : List SF}
theorem Env.i (E : Env w l) (h : IsI w v z) : Env w (fI v z :: l) := ⟨h, E⟩
theorem Env.b {b : Nat} {n : Bool} {s : Value} (E : Env w l) (h : Bx w b 62 [.bool n, s]) : Env w (fB b n s :: l) := ⟨h, E⟩
theorem Env.ww (E : Env w l) (h : Below w0.heap.size w0 w) : Env w (fW w0 :: l) := ⟨h, E⟩
theorem svS (l : List Nat) : SV (fun w v => Sl w v l) where
 below := fun h hb => h.below hb
 onl := fun h hn hb => h.onl hn hb
def fS (v : Value) (l : List Nat) : SF := fV (fun w v => Sl w v l) (svS l) v
theorem Env.s (E : Env w l) (h : Sl w v L) : Env w (fS v L :: l) := ⟨h, E⟩
theorem Env.nil (w : World) : Env w [] := trivial
theorem Env.get {f : SF} (E : Env w (f :: l)) : f.p w := E.1
end
section
variable {ρ : Operand -> Value} {o : Oper} {w : World} {P : Program}
theorem GP {x : Operand} (ho : o.op = .move x) (hx : ρ x = v) : (execOp ρ o).run P w = .ok (.value v) w := by
 unfold execOp; rw [ho]; simp [hx]
theorem KX {x : Operand} (ho : o.op = .assign x) (hx : ρ x = v) : (execOp ρ o).run P w = .ok (.value v) w := by
 unfold execOp; rw [ho]; simp [hx]
theorem YM {x : Operand} {b : Bool} (ho : o.op = .unOp .not t x) (hx : ρ x = .bool b) : (execOp ρ o).run P w = .ok (.value (.bool !b)) w := by
 unfold execOp; rw [ho]; simp [hx, Op.unary]
theorem Nn {c x : Operand} {b : Bool} (ho : o.op = .pick c x y) (hc : ρ c = .bool b) (hx : (if b then ρ x else ρ y) = v) : (execOp ρ o).run P w = .ok (.value v) w := by
 unfold execOp; rw [ho]; simp [hc, asBool, hx]
theorem PF {t : Operand} {k : Nat} {vs : List Value} (ho : o.op = .extract t k) (hx : ρ t = .tuple vs.toArray) (hk : vs[k]? = some v) : (execOp ρ o).run P w = .ok (.value v) w := by
 unfold execOp; rw [ho]; simp [hx, Instr.extract, hk]
theorem xC {x : Operand} {b : Nat} (ho : o.op = .fieldAddr 62 x 0) (hx : ρ x = .pointer (some ⟨b, 0, none⟩)) : (execOp ρ o).run prog w = .ok (.value (.pointer (some ⟨b, 0, none⟩))) w := by
 unfold execOp; rw [ho]
 simp [hx, go_sem]
theorem wZ {x : Operand} {b : Nat} (ho : o.op = .fieldAddr 62 x 1) (hx : ρ x = .pointer (some ⟨b, 0, none⟩)) : (execOp ρ o).run prog w = .ok (.value (.pointer (some ⟨b, 1, none⟩))) w := by
 unfold execOp; rw [ho]
 simp [hx, go_sem]
theorem CR {b i : Nat} {x : Operand} (ho : o.op = .load T x) (hT : ∀ w, (isAgg T).run P w = .ok false w) (hx : ρ x = .pointer (some ⟨b, i, none⟩)) (hb : Bx w b TB cs) (hi : cs[i]? = some v) :
 (execOp ρ o).run P w = .ok (.value v) w := by
 unfold execOp; rw [ho]
 have e := (hb.cell i).trans hi
 simp [hx, Instr.loadAt, Instr.sureAddr, loadVar, hT, e]
theorem yK (w : World) : (isAgg 60).run prog w = .ok false w := by
 simp [go_sem]
theorem dR (w : World) : (isAgg 4).run prog w = .ok false w := by
 simp [go_sem]
theorem KL {x : Operand} {c : Nat} (ho : o.op = .call { callee := .builtin .len, args := #[x], argTypes := #[60] }) (hx : ρ x = .slice ao n c) : (execOp ρ o).run prog w = .ok (.value (.int .i64 n)) w := by
 unfold execOp; rw [ho]; simp [hx, go_sem]
theorem EK {x : Operand} {n : Int} (ho : o.op = .binOp .eql t x y t') (hx : ρ x = .int k m) (hy : ρ y = .int k n) (hc : (m == n) = c) : (execOp ρ o).run P w = .ok (.value (.bool c)) w := by
 unfold execOp; rw [ho]; simp only [hx, hy, eqGuard_at_int, binOp_eql, hc]; rfl
theorem RH {x : Operand} {n : Int} (ho : o.op = .binOp .neq t x y t') (hx : ρ x = .int k m) (hy : ρ y = .int k n) (hc : (m != n) = c) : (execOp ρ o).run P w = .ok (.value (.bool c)) w := by
 unfold execOp; rw [ho]; simp only [hx, hy, eqGuard_at_int, binOp_neq, hc]; rfl
theorem HY {x : Operand} {n : Int} (ho : o.op = .binOp .lss t x y t') (hx : ρ x = .int k m) (hy : ρ y = .int k n) (hc : decide (m < n) = c) : (execOp ρ o).run P w = .ok (.value (.bool c)) w := by
 unfold execOp; rw [ho]; simp only [hx, hy, eqGuard_at_int, binOp_lss, hc]; rfl
theorem RI {x : Operand} {n : Int} (ho : o.op = .binOp .leq t x y t') (hx : ρ x = .int k m) (hy : ρ y = .int k n) (hc : decide (m <= n) = c) : (execOp ρ o).run P w = .ok (.value (.bool c)) w := by
 unfold execOp; rw [ho]; simp only [hx, hy, eqGuard_at_int, binOp_leq, hc]; rfl
theorem EP {x : Operand} {n : Int} (ho : o.op = .binOp .gtr t x y t') (hx : ρ x = .int k m) (hy : ρ y = .int k n) (hc : decide (m > n) = c) : (execOp ρ o).run P w = .ok (.value (.bool c)) w := by
 unfold execOp; rw [ho]; simp only [hx, hy, eqGuard_at_int, binOp_gtr, hc]; rfl
theorem tO {x : Operand} {n : Int} (ho : o.op = .binOp .geq t x y t') (hx : ρ x = .int k m) (hy : ρ y = .int k n) (hc : decide (m >= n) = c) : (execOp ρ o).run P w = .ok (.value (.bool c)) w := by
 unfold execOp; rw [ho]; simp only [hx, hy, eqGuard_at_int, binOp_geq, hc]; rfl
theorem xJ (ho : o.op = .build 62 #[]) : (execOp ρ o).run prog w = .ok (.value (.agg #[.bool false, .slice none 0 0])) w := by
 unfold execOp; rw [ho]
 have e : (zeroValue 62).run prog w = .ok (.agg #[.bool false, .slice none 0 0]) w := by kernel_rfl
 simp [go_sem, e]
theorem CL {b : Nat} (hA : Ag P T n zs) (hb : Bx w b T cs) (hn : cs.length = n) : (loadVar T ⟨b, 0, none⟩).run P w = .ok (.agg cs.toArray) w := by
 obtain ⟨d, e, f⟩ := hA.u
 exact run_loadVar_row w b T T cs.toArray (0, 0) d hb e (by cases d <;> simp_all) (by rw [hA.size]; simp [hn])
end
theorem okB {b : Nat} {n : Bool} {s : Value} (h : b ≠ b') : (fB b' n s).ok b := h
theorem OP {b : Nat} (h : w0.heap.size <= b) : (fW w0).ok b := h
theorem Env.start (w : World) : Env w [fW w] := ⟨Below.refl _ _, BX⟩
theorem Fits.mono {m : Nat} (h : Fits z m) (hmn : m <= n) : Fits z n := Nat.le_trans h hmn
theorem Fits.lt {m : Nat} (h : Fits z m) : z.natAbs < 4294967296 ^ m := by
 have e := GV (GF z.natAbs)
 rw [CO] at e
 exact Nat.lt_of_lt_of_le e (Nat.pow_le_pow_right AA h)
theorem NB {m : Nat} (h : z.natAbs < 4294967296 ^ m) : Fits z m := GJ h
theorem Ax {m : Nat} (h : Fits z m) : Fits (-z) m := by unfold Fits at *; rwa [Int.natAbs_neg]
theorem iO {x y : Int} {m k : Nat} (hx : Fits x m) (hy : Fits y n) (hm : m <= k) (hn : n <= k) : Fits (x + y) (k + 1) := by
 refine NB ?_
 have h := (hx.mono hm).lt
 have f := (hy.mono hn).lt
 have e := Int.natAbs_add_le x y
 rw [Nat.pow_succ]
 omega
theorem IB {x y : Int} {m : Nat} (hx : Fits x m) (hy : Fits y n) : Fits (x * y) (m + n) := by
 refine NB ?_
 rw [Int.natAbs_mul, Nat.pow_add]
 exact Nat.mul_lt_mul'' hx.lt hy.lt
theorem Vg (h : z = 0) : ((((CD z.natAbs).length : Nat) : Int) == 0) = true := by subst h; rw [Int.natAbs_zero, EG]; rfl
theorem Gf (h : z ≠ 0) : 0 < (CD z.natAbs).length := by
 rcases Nat.eq_zero_or_pos (CD z.natAbs).length with e | e
 . have := (FY z.natAbs).1 (List.eq_nil_of_length_eq_zero e); omega
 exact e
theorem mC (h : z ≠ 0) : ((((CD z.natAbs).length : Nat) : Int) == 0) = false := by
 have := Gf h
 rw [beq_eq_false_iff_ne]; omega
section
variable {P : Program} {o : Oper} {a : Act} {w : World} {K : Act -> World -> Prop} {Q : Exit -> Act -> World -> Prop} {f : Nat} {args : List Operand} {tys : Array TypeId} {vs : List Value} {l : List SF}
theorem CH (hf : Fn P f) (ho : o.op = .call { callee := .value (.func f), args := args.toArray, argTypes := tys }) (hc : Calls P f vs.toArray w (RetZ w z)) (hv : args.map a.eval = vs) (E : Env w l)
 (h : ∀ w' n s, Below w.heap.size w w' -> Env w' (fI (.agg #[.bool n, s]) z :: l) -> K (a.put o.dst (.agg #[.bool n, s])) w') : o.wp P a w K Q := by
 exact Zrs
theorem CA {b : Bool} (hf : Fn P f) (ho : o.op = .call { callee := .value (.func f), args := args.toArray, argTypes := tys }) (hc : Calls P f vs.toArray w (LN w b)) (hv : args.map a.eval = vs) (E : Env w l)
 (h : ∀ w', Below w.heap.size w w' -> Env w' l -> K (a.put o.dst (.bool b)) w') : o.wp P a w K Q := by
 exact ZC3
theorem CB {x : Int} (hf : Fn P f) (ho : o.op = .call { callee := .value (.func f), args := args.toArray, argTypes := tys }) (hc : Calls P f vs.toArray w (VI w x)) (hv : args.map a.eval = vs) (E : Env w l)
 (h : ∀ w', Below w.heap.size w w' -> Env w' l -> K (a.put o.dst (.int .i64 x)) w') : o.wp P a w K Q := by
 exact ZC3
theorem DA (hf : Fn P f) (ho : o.op = .call { callee := .value (.func f), args := args.toArray, argTypes := tys }) (hc : Calls P f vs.toArray w (Dv w L)) (hv : args.map a.eval = vs) (E : Env w l)
 (h : ∀ w' v, Below w.heap.size w w' -> Env w' (fS v L :: l) -> K (a.put o.dst v) w') : o.wp P a w K Q := by
 refine CZ hf ho hc hv ?_
 rintro e w' ⟨v, rfl, p, k⟩
 exact ⟨_, rfl, h w' v k ⟨p, E.below k⟩⟩
theorem CP {c : Int} (hf : Fn P f) (ho : o.op = .call { callee := .value (.func f), args := args.toArray, argTypes := tys }) (hc : Calls P f vs.toArray w (RetZE w z c)) (hv : args.map a.eval = vs) (E : Env w l)
 (h : ∀ w' n s, Below w.heap.size w w' -> Env w' (fI (.agg #[.bool n, s]) z :: l) -> K (a.put o.dst (.tuple #[.agg #[.bool n, s], .int .i64 c])) w') : o.wp P a w K Q := by
 exact Zrs
theorem lG {q r c : Int} (hf : Fn P f) (ho : o.op = .call { callee := .value (.func f), args := args.toArray, argTypes := tys }) (hc : Calls P f vs.toArray w (RetDM w q r c)) (hv : args.map a.eval = vs) (E : Env w l)
 (h : ∀ w' n s m t, Below w.heap.size w w' -> Env w' (fI (.agg #[.bool m, t]) r :: fI (.agg #[.bool n, s]) q :: l) -> K (a.put o.dst (.tuple #[.agg #[.bool n, s], .agg #[.bool m, t], .int .i64 c])) w') : o.wp P a w K Q := by
 refine CZ hf ho hc hv ?_
 rintro e w' ⟨v, u, rfl, k, p, y⟩
 obtain ⟨n, s, rfl, _⟩ := k.sh
 obtain ⟨m, t, rfl, _⟩ := p.sh
 exact ⟨_, rfl, h w' n s m t y ⟨p, k, E.below y⟩⟩
theorem GK {x : Int} {b : Bool} (hf : Fn P f) (ho : o.op = .call { callee := .value (.func f), args := args.toArray, argTypes := tys }) (hc : Calls P f vs.toArray w (RetS w x b)) (hv : args.map a.eval = vs) (E : Env w l)
 (h : ∀ w', Below w.heap.size w w' -> Env w' l -> K (a.put o.dst (.tuple #[.int .i64 x, .bool b])) w') : o.wp P a w K Q := by
 exact ZC3
end
theorem ZM (a : Act) (d : Option Tmp) (v : Value) : (a.put d v).defers = a.defers := by cases d <;> rfl
theorem AL (h : A) (e : B = A := by first | (simp only [q2,q3]; exact O) | exact O) : B := e.mpr h
theorem AM (h : A) (e : B = A := by simp only [Act.put,q1,q2,q3]; exact O) : B := e.mpr h
def BK (l : Array Value) : Operand -> Option Value
 | .tmp t => l.toList[t]?
 | .const v => some v
 | _ => none
theorem BL {x : Operand} (h : BK a.tmps x = some v) : a.eval x = v := by
 cases x <;> simp_all [BK, Act.eval]
theorem BU {x : Operand} (hg : Region.wanted o (yielded ops a.tmps) = true) (g : o.op = .move x /\ BK a.tmps x = some v) (h : wpList P ops Q rest (a.put o.dst v) w) : wpList P ops Q (o :: rest) a w := LV hg (GP g.1 (BL g.2)) h
theorem BV {x : Operand} (hg : Region.wanted o (yielded ops a.tmps) = true) (g : o.op = .assign x /\ BK a.tmps x = some v) (h : wpList P ops Q rest (a.put o.dst v) w) : wpList P ops Q (o :: rest) a w := LV hg (KX g.1 (BL g.2)) h
set_option maxHeartbeats 1000000
theorem Jg (ao : Option Addr) (cap : Nat) (l : List Nat) (w : World) (hlc : l.length <= cap) (hcm : cap <= maxLen)
 (hc : ∀ i, i < l.length -> ∃ b off, ao = some ⟨b, off, none⟩ /\ w.cell? ⟨b, off + i, none⟩ = some (.int .u32 ↑(gd l i))) :
 Calls prog 149 #[.slice ao l.length cap] w fun e w' => e = .returned (.slice ao (GN l).length cap) /\ w = w' := by
 have HC := Lib.hid hc
 clear hc
 unfold maxLen at hcm
 go_enter func149, ntmps149
 go_wp2
 go_loop [3] (fun n => ∃ k : Nat, k <= l.length /\ Hid (GN (l.take k) = GN l) /\ n = .int .i64 k) (fun n => (intOf n).toNat)
 case atStart => exact ⟨l.length, Nat.le_refl _, by rw [List.take_length]; rfl, rfl⟩
 case round =>
  obtain ⟨k, hk, ht, rfl⟩ := hrel
  by_cases hk0 : k = 0
  . subst hk0
    go_wp2
    go_ret
    have : GN l = [] := by rw [<- ht.out]; rfl
    exact ⟨by rw [this]; rfl, rfl⟩
  obtain ⟨j, rfl⟩ : ∃ j, k = j + 1 := ⟨k - 1, by omega⟩
  clear hk0
  obtain ⟨b, off, rfl, hc⟩ := HC.out j AA
  by_cases hz : gd l j = 0
  . rw [hz] at hc
    have HT : Hid (GN (l.take j) = GN l) := by rw [<- ht.out, rE l j AA hz]; rfl
    clear hz ht
    go_wp2
    go_round
    case rel => exact ⟨j, by omega, HT, by go_num⟩
    case measure => simp [intOf]
  have HT : (GN l).length = j + 1 := by rw [<- ht.out]; exact rD l j AA hz
  have hz' : (((gd l j : Nat) : Int) == 0) = false := by simpa using hz
  go_wp2
  go_ret
  exact ⟨rfl, rfl⟩
theorem RY (v : Value) (l : List Nat) (w : World) (h : Sl w v l) :
 Calls prog 149 #[v] w fun e w' => w = w' /\ ∃ v', e = .returned v' /\ ∀ w2, Sl w2 v l -> Sl w2 v' (CD (val l)) := by
 obtain ⟨u, k, rfl, I, q, p, B, H⟩ := h
 refine (Jg u k l w I q H).mono fun e w' ⟨he, hw⟩ => ⟨hw, _, he, ?_⟩
 rintro w2 ⟨L, t, J, Q, P, N, kn, y⟩
 cases J
 rw [<- XH p]
 have C := KB l
 have f := mZ l
 refine ⟨u, k, O, by omega, q, by rw [f]; exact QG p _, B, fun i D => ?_⟩
 obtain ⟨b, o, G, F⟩ := y i AA
 refine ⟨b, o, G, ?_⟩
 rw [f, gM _ _ _ D]; exact F
theorem LF (m : Nat) (w : World) (h : m < 18446744073709551616) :
 Calls prog 106 #[.int .u64 m] w (Dv w (CD m)) := by
 go_enter func106, ntmps106
 have l := qX m h
 have k := Lib.hid l
 clear l
 go_wp2_with fail
 refine (RY _ _ _ (mM w _ _ (m % 4294967296) (m / 4294967296) AA AA k.out.1)).mono ?_
 rintro e p ⟨rfl, o, rfl, f⟩
 have f := f _ (mM w ((m : Int) % 4294967296) ((m : Int) / 4294967296) (m % 4294967296) (m / 4294967296) AA AA k.out.1)
 rw [k.out.2] at f
 go_wp2
 go_ret
 exact ⟨o, rfl, f, (Below.refl _ _).alloc (Nat.le_refl _) _⟩
theorem uL (neg : Bool) (v : Value) (l : List Nat) (z : Int) (w : World) (h : Sl w v l) (hz : IV neg (val l) = z) :
 Calls prog 105 #[.bool neg, v] w (RetZ w z) := by
 subst hz
 have H := Lib.hid h
 clear h
 go_enter func105, ntmps105
 go_wp2_with fail
 refine (RY _ l _ (H.out.below ((Below.refl _ _).alloc (Nat.le_refl _) _))).mono ?_
 rintro e B ⟨rfl, C, rfl, k⟩
 obtain ⟨o, f, rfl, G, F, D, u, y⟩ := k w H.out
 have t := Lib.hid k
 clear k y u
 by_cases hz : val l = 0
 . have q : (CD (val l)).length = 0 := by rw [hz, EG]; rfl
   have p := Lib.hid hz
   clear hz q
   cases neg
   all_goals
    go_wp2
    refine AQ (v := .agg #[.bool false, .slice o (CD (val l)).length f]) (by first | (simp [results, results105, go_sem]; done) | (simp [results, results105, go_sem]; exact (FY _).2 p.out)) O ⟨_, O, ⟨.slice o (CD (val l)).length f, ?_, ?_⟩, (Below.refl _ _).alloc (Nat.le_refl _) _⟩
    . rw [p.out, iU]; rfl
    rw [fE]
    exact t.out _ (H.out.below ((Below.refl _ _).alloc (Nat.le_refl _) _))
 have q : (CD (val l)).length ≠ 0 := fun e => hz ((FY _).1 (List.eq_nil_of_length_eq_zero e))
 have p := Lib.hid hz
 clear hz q
 cases neg
 . go_wp2
   refine AQ (v := .agg #[.bool false, .slice o (CD (val l)).length f]) (by simp [results, results105, go_sem]) O ⟨_, O, ⟨.slice o (CD (val l)).length f, ?_, ?_⟩, (Below.refl _ _).alloc (Nat.le_refl _) _⟩
   . rw [tL _ _ p.out]
   rw [fE]
   exact t.out _ (H.out.below ((Below.refl _ _).alloc (Nat.le_refl _) _))
 go_wp2
 refine AQ (v := .agg #[.bool true, .slice o (CD (val l)).length f]) (by simp [results, results105, go_sem]; exact Nat.pos_of_ne_zero fun e => p.out ((FY _).1 (List.eq_nil_of_length_eq_zero e))) O ⟨_, O, ⟨.slice o (CD (val l)).length f, ?_, ?_⟩, (Below.refl _ _).alloc (Nat.le_refl _) _⟩
 . rw [tL _ _ p.out]
 rw [fE]
 exact t.out _ (H.out.below ((Below.refl _ _).alloc (Nat.le_refl _) _))
theorem OM (n : Int) (w : World) (h1 : -9223372036854775808 <= n) (h2 : n <= 9223372036854775807) :
 Calls prog 58 #[.int .i64 n] w (RetZ w n) := by
 obtain ⟨W, G, a0, C, R⟩ := Hj w
 have T := Lib.hid R
 clear R
 by_cases hn : n < 0
 . obtain ⟨k, S⟩ : ∃ k : Nat, -(n + 1) = (k : Int) := ⟨(-(n + 1)).natAbs, by omega⟩
   have l : IV true (k + 1) = n := by simp [IV]; omega
   have P := Lib.hid l
   have a1 : k < 9223372036854775808 := by omega
   have HK := Lib.hid S
   clear l S
   go_enter func58, ntmps58
   go_upto_region 1 with fail
   rw [<- G]
   clear G
   go_wp2_with fail
   rw [show -(n + 1) + 1 = ((k + 1 : Nat) : Int) by have := HK.out; omega]
   refine (LF (k + 1) _ AA).mono ?_
   rintro e U ⟨Y, rfl, t, h⟩
   go_wp2_with fail
   obtain ⟨z, f⟩ : ∃ z : Int, z = n := ⟨_, rfl⟩
   rw [<- f] at P ⊢
   have y := Lib.hid f
   clear f hn h1 h2
   refine (uL _ _ _ z _ t (by rw [CO]; exact P.out)).mono ?_
   exact Z8Z
 obtain ⟨k, rfl⟩ : ∃ k : Nat, n = (k : Int) := ⟨n.natAbs, by omega⟩
 have l : IV false k = (k : Int) := rfl
 have P := Lib.hid l
 go_enter func58, ntmps58
 go_upto_region 1 with fail
 rw [<- G]
 clear G
 go_wp2_with fail
 refine (LF k _ AA).mono ?_
 rintro e U ⟨Y, rfl, t, h⟩
 go_wp2_with fail
 obtain ⟨z, f⟩ : ∃ z : Int, z = (k : Int) := ⟨_, rfl⟩
 rw [<- f]
 refine (uL _ _ _ z _ t (by rw [CO, f]; rfl)).mono ?_
 have y := Lib.hid f
 clear f l
 exact Z8Z
theorem Dw (n : Bool) (s : Value) (l : List Nat) (w : World) (ha : Sl w s l) :
 Calls prog 150 #[.agg #[.bool n, s]] w (LN w (MP n l)) := by
 obtain ⟨J, u, rfl, N, I, H, C, v⟩ := ha
 have L := Lib.hid v
 clear v C H
 unfold maxLen at I
 obtain ⟨W, h, B, p, q⟩ := mJ w n (.slice J l.length u)
 have Q := q.1
 have P := q.2
 clear q
 by_cases f : l.length = 0
 . have e : MP n l = !n := by unfold MP; rw [if_pos f]
   rw [e]
   have G : ((l.length : Int) == 0) = true := by rw [f]; rfl
   clear e f
   exact ZSU
 obtain ⟨k, o⟩ : ∃ k, l.length = k + 1 := ⟨l.length - 1, by omega⟩
 have G : ((l.length : Int) == 0) = false := by rw [beq_eq_false_iff_ne]; omega
 obtain ⟨b, y, rfl, t⟩ := L.out k AA
 have t := DB t p
 have D : (l.length : Int) - 1 = (k : Int) := by omega
 by_cases hg : gd l k = 0
 . have e : MP n l = false := by unfold MP; rw [if_neg f, o, Nat.add_sub_cancel, hg]; rfl
   rw [e]
   rw [hg] at t
   clear e f o hg
   exact ZSU
 have e : MP n l = true := by unfold MP; rw [if_neg f, o, Nat.add_sub_cancel]; exact decide_eq_true hg
 rw [e]
 have F : (((gd l k : Nat) : Int) != 0) = true := by rw [bne_iff_ne]; omega
 clear e f o hg
 exact ZSU
theorem Bd (x : Int) : MP (decide (x < 0)) (CD x.natAbs) = true := by
 unfold MP
 by_cases h : (CD x.natAbs).length = 0
 . rw [if_pos h]
   have := (YZ x).1 AA
   subst this; rfl
 rw [if_neg h]
 have f : 0 < x.natAbs := by
  rcases Nat.eq_zero_or_pos x.natAbs with e | e
  . rw [e, EG] at h; exact absurd rfl h
  exact e
 obtain ⟨l, y, e1, e2, _⟩ := XY x.natAbs f
 rw [e1, List.length_append, List.length_singleton, Nat.add_sub_cancel, MD _ _ _ (Nat.le_refl _), Nat.sub_self]
 exact decide_eq_true (by show y ≠ 0; omega)
theorem iE (va : Value) (x : Int) (w : World) (ha : IsI w va x) :
 Calls prog 150 #[va] w (LN w true) := by
 obtain ⟨s, rfl, e⟩ := ha
 have := Dw (decide (x < 0)) s _ w e
 rwa [Bd] at this
section
variable {ρ : Operand -> Value} {o : Oper} {w : World} {P : Program} {k : IntKind} {t t' : TypeId} {x y : Operand} {m n c : Int}
theorem KM (ho : o.op = .binOp .add t x y t') (hx : ρ x = .int k m) (hy : ρ y = .int k n) (hc : k.wrap (m + n) = c) : (execOp ρ o).run P w = .ok (.value (.int k c)) w := by
 unfold execOp; rw [ho]; simp only [hx, hy, eqGuard_at_int, binOp_add, Op.intArith, hc]; rfl
theorem FM (ho : o.op = .binOp .sub t x y t') (hx : ρ x = .int k m) (hy : ρ y = .int k n) (hc : k.wrap (m - n) = c) : (execOp ρ o).run P w = .ok (.value (.int k c)) w := by
 unfold execOp; rw [ho]; simp only [hx, hy, eqGuard_at_int, binOp_sub, Op.intArith, hc]; rfl
theorem fH (ho : o.op = .binOp .mul t x y t') (hx : ρ x = .int k m) (hy : ρ y = .int k n) (hc : k.wrap (m * n) = c) : (execOp ρ o).run P w = .ok (.value (.int k c)) w := by
 unfold execOp; rw [ho]; simp only [hx, hy, eqGuard_at_int, binOp_mul, Op.intArith, hc]; rfl
theorem Nl (ho : o.op = .binOp .quo t x y t') (hx : ρ x = .int k m) (hy : ρ y = .int k n) (hn : n ≠ 0) (hc : k.wrap (m.tdiv n) = c) : (execOp ρ o).run P w = .ok (.value (.int k c)) w := by
 unfold execOp; rw [ho]; simp only [hx, hy, eqGuard_at_int, binOp_quo, Op.intDiv, if_neg hn, hc]; rfl
theorem FD (ho : o.op = .binOp .rem t x y t') (hx : ρ x = .int k m) (hy : ρ y = .int k n) (hn : n ≠ 0) (hc : m.tmod n = c) : (execOp ρ o).run P w = .ok (.value (.int k c)) w := by
 unfold execOp; rw [ho]; simp only [hx, hy, eqGuard_at_int, binOp_rem, Op.intDiv, if_neg hn, hc]; rfl
theorem FI {dst : TypeId} {d : IntKind} (ho : o.op = .convert src dst x) (hx : ρ x = .int k m) (hs : (P.underlying src).isSome = true) (hd : P.underlying dst = some (.int d)) (hc : d.wrap m = c) : (execOp ρ o).run P w = .ok (.value (.int d c)) w := by
 have e : P.intKind dst = d := by unfold Program.intKind; rw [hd]
 have := run_convert_int (P := P) w src dst k m hs (by rw [hd, e])
 rw [e, hc] at this
 unfold execOp; rw [ho]
 simp [hx, this]
theorem VP {b : Nat} (ho : o.op = .indexAddr T x y) (hT : P.underlying T = some (.slice e)) (hs : (P.info? e).map (·.size) = some sz)
 (hx : ρ x = .slice (some ⟨b, off, none⟩) len cap) (hy : ρ y = .int kk J) (hJ : J = (j : Int)) (hj : j < len) : (execOp ρ o).run P w = .ok (.value (.pointer (some ⟨b, off + j * sz, none⟩))) w := by
 subst hJ
 unfold execOp; rw [ho]
 cases f : P.info? e with
 | none => simp [f] at hs
 | some i =>
   simp [f] at hs
   simp [hx, hy, Instr.indexAt, asIntOf, run_underlying hT, sizeOf, typeInfo, f, hs, hj, Addr.add_lit]
theorem EV {b : Nat} (ho : o.op = .indexAddr T x y) (hT : P.underlying T = some (.array len e)) (hs : (P.info? e).map (·.size) = some sz)
 (hx : ρ x = .pointer (some ⟨b, off, none⟩)) (hy : ρ y = .int kk J) (hJ : J = (j : Int)) (hj : j < len) : (execOp ρ o).run P w = .ok (.value (.pointer (some ⟨b, off + j * sz, none⟩))) w := by
 subst hJ
 unfold execOp; rw [ho]
 cases f : P.info? e with
 | none => simp [f] at hs
 | some i =>
   simp [f] at hs
   simp [hx, hy, Instr.indexAt, Instr.sureAddr, asIntOf, run_underlying hT, sizeOf, typeInfo, f, hs, hj, Addr.add_lit]
theorem GH {T : TypeId} {b i : Nat} (ho : o.op = .load T x) (hT : ∀ w, (isAgg T).run P w = .ok false w) (hx : ρ x = .pointer (some ⟨b, i, none⟩)) (hc : w.cell? ⟨b, i, none⟩ = some v) :
 (execOp ρ o).run P w = .ok (.value v) w := by
 unfold execOp; rw [ho]
 simp [hx, Instr.loadAt, Instr.sureAddr, loadVar, hT, hc]
theorem DK {T : TypeId} {s : ByteArray} {b : UInt8} (ho : o.op = .index T x y) (hT : P.underlying T = some .string) (hx : ρ x = .string s) (hy : ρ y = .int kk J) (hJ : J = (j : Int)) (hb : s[j]? = some b) :
 (execOp ρ o).run P w = .ok (.value (.int .u8 b.toNat)) w := by
 subst hJ
 unfold execOp; rw [ho]
 simp [hx, hy, Instr.index, asIntOf, run_underlying hT, hb]
theorem wY {s : ByteArray} (ho : o.op = .call { callee := .builtin .len, args := #[x], argTypes := #[9] }) (hx : ρ x = .string s) : (execOp ρ o).run prog w = .ok (.value (.int .i64 (s.size : Nat))) w := by
 unfold execOp; rw [ho]; simp [hx, go_sem]
theorem ID {T : TypeId} {s : ByteArray} (ho : o.op = .slice T x (some y) none none) (hT : P.underlying T = some .string) (hx : ρ x = .string s) (hy : ρ y = .int kk J) (hJ : J = (j : Int)) (hj : j <= s.size) :
 (execOp ρ o).run P w = .ok (.value (.string (s.extract j s.size))) w := by
 subst hJ
 unfold execOp; rw [ho]
 simp [hx, hy, Instr.sliceAt, Instr.slice, run_underlying hT, Instr.sliceBounds, Instr.sliceBound, asIntOf, hj]
theorem lN {e : TypeId} {b : Nat} {xs : List Int} (ho : o.op = .convert src t x) (hs : P.underlying src = some (.slice e)) (he : P.underlying e = some (.int .u8)) (ht : P.underlying t = some .string)
 (hx : ρ x = .slice (some ⟨b, off, none⟩) len cap) (hlen : xs.length = len) (hc : ∀ i, i < len -> w.cell? ⟨b, off + i, none⟩ = some (.int .u8 (xs.getD i 0))) :
 (execOp ρ o).run P w = .ok (.value (.string (strOfNums xs))) w := by
 unfold execOp; rw [ho]
 have := run_convert_bytes_arg (P := P) (w := w) src e hs he b off len cap xs hlen hc t ht
 simp [hx, this]
theorem VQ {a b : ByteArray} (ho : o.op = .binOp .add t x y t') (hx : ρ x = .string a) (hy : ρ y = .string b) (hs : a.size + b.size <= 9223372036854775807) : (execOp ρ o).run P w = .ok (.value (.string (a ++ b))) w := by
 unfold execOp; rw [ho]
 have := run_string_add_sum (P := P) w a b hs
 simp [hx, hy, eqGuard_at_string, binOp, this]
end
def RowG (w : World) (base e size : Nat) (G : Value -> Prop) (v : Value) (n : Nat) (xs : List Value) : Prop :=
 xs.length = n * size /\ ((v = .slice none 0 0 /\ n = 0) ∨
  ∃ g cap cur, v = .slice (some ⟨g, 0, none⟩) n cap /\ base <= g /\ w.heap[g]? = some (.cells cur e (0, 0)) /\ n <= cap /\ cap <= maxLen /\ cur.size = cap * size /\ cur.toList.take (n * size) = xs /\ ∀ u ∈ cur.toList, G u)
theorem RowG.own (h : RowG w base e size G v n xs) : w.ownsRow base e size v n xs := by
 obtain ⟨B, f⟩ := h
 refine ⟨B, ?_⟩
 rcases f with f | ⟨g, l, k, u, hg, y, t, q, p, o, _⟩
 . exact .inl f
 exact .inr ⟨g, l, k, u, hg, y, t, q, p, o⟩
theorem RowG.below (h : RowG w base e size G v n xs) (hb : Below w.heap.size w w') : RowG w' base e size G v n xs := by
 obtain ⟨q, f⟩ := h
 refine ⟨q, ?_⟩
 rcases f with f | ⟨g, l, k, p, hg, o, r⟩
 . exact .inl f
 exact .inr ⟨g, l, k, p, hg, (hb.block g (Array.getElem?_eq_some_iff.1 o).1).trans o, r⟩
theorem RowG.onl {b : Nat} (h : RowG w base e size G v n xs) (ho : v.ownBlock ≠ some b) (hb : Onl b w w') : RowG w' base e size G v n xs := by
 obtain ⟨p, f⟩ := h
 refine ⟨p, ?_⟩
 rcases f with f | ⟨g, l, k, rfl, hg, o, r⟩
 . exact .inl f
 refine .inr ⟨g, l, k, rfl, hg, ?_, r⟩
 rw [hb.block g (fun e => ho (by rw [<- e]; rfl))]; exact o
theorem RowG.blk {g : Nat} (h : RowG w base e size G v n xs) (hg : v.ownBlock = some g) : base <= g /\ g < w.heap.size := World.ownsRow.lt h.own g hg
theorem RowG.noW {g : Nat} (h : RowG w base e size G v n xs) (hg : v.ownBlock = some g) (hG : ∀ k, ¬ G (.int .u32 k)) : Av w g := by
 rcases h.2 with ⟨rfl, _⟩ | ⟨q, t, f, rfl, _, p, _, _, _, _, r⟩
 . simp [Value.ownBlock] at hg
 simp only [Value.ownBlock, Option.some.injEq] at hg
 subst hg
 intro o k l
 rw [cell_of_row w q o f e (0, 0) p] at l
 exact hG k (r _ (Array.mem_toList_iff.2 (Array.mem_of_getElem? l)))
theorem bB (w : World) (base e size : Nat) (G : Value -> Prop) : RowG w base e size G (.slice none 0 0) 0 [] := ⟨by simp, .inl ⟨rfl, rfl⟩⟩
theorem RowG.shape (h : RowG w base e size G v n xs) : ∃ ao cap, v = .slice ao n cap := by
 rcases h.2 with ⟨rfl, rfl⟩ | ⟨g, cap, _, rfl, _⟩
 . exact ⟨_, _, rfl⟩
 exact ⟨_, _, rfl⟩
theorem RowG.pos (h : RowG w base e size G v n xs) (hn : n ≠ 0) : ∃ g cap, v = .slice (some ⟨g, 0, none⟩) n cap /\ n <= cap /\ cap <= maxLen := by
 rcases h.2 with ⟨rfl, l⟩ | ⟨g, cap, _, rfl, _, _, k, f, _⟩
 . exact absurd l hn
 exact ⟨g, cap, rfl, k, f⟩
theorem RowG.cell {g : Nat} {u : Value} (h : RowG w base e size G (.slice (some ⟨g, 0, none⟩) n cap) n xs) (hj : xs[j]? = some u) : w.cell? ⟨g, j, none⟩ = some u := by
 have f : j < n * size := by rw [<- h.1]; exact (List.getElem?_eq_some_iff.1 hj).1
 rw [World.ownsRow.cellAt h.own j f, hj]
theorem TR (base : Nat) (t ty e : TypeId) (i : TypeInfo) (z : Value) (size bytes : Nat) (ht : P.underlying t = some (.slice e)) (hi : P.info? e = some i) (hz : i.zero = some z)
 (hsize : i.size = size) (hby : i.bytes = bytes) (hzs : z.cells.size = size) (hsz : 0 < size) (G : Value -> Prop) (hGz : ∀ u ∈ z.cells.toList, G u)
 (v : Value) (n : Nat) (xs : List Value) (hown : RowG w base e size G v n xs)
 (a : Addr) (m c : Nat) (news : List Value) (hl : news.length = m * size) (hnews : ∀ j u, news[j]? = some u -> w.cell? (a.add j) = some u) (h1 : ∀ u ∈ news, u.oneCell' = true) (hGn : ∀ u ∈ news, G u)
 (h63 : n + m <= maxLen) (hbytes : (n + m) * bytes <= 140737488355328) (hbase : base <= w.heap.size) :
 ∃ v' w', (Builtin.append_ #[t, t] ty #[v, .slice (some a) m c]).run P w = .ok v' w' /\ RowG w' base e size G v' (n + m) (xs ++ news) /\
  ((Below w.heap.size w w' /\ (m ≠ 0 -> v'.ownBlock = some w.heap.size)) ∨ (∃ g, v.ownBlock = some g /\ v'.ownBlock = some g /\ Onl g w w')) := by
 subst hsize
 subst hby
 have N : n + m <= 9223372036854775807 := by simp only [maxLen] at h63; omega
 have p : (xs ++ news).length = (n + m) * i.size := by rw [List.length_append, hown.1, hl, Nat.add_mul]
 have grown : ∀ (k : Nat), k < n + m -> (∀ u ∈ xs, G u) ->
  RowG (w.drew.alloc (.cells (xs.toArray ++ news.toArray ++ Builtin.zeroCells z.cells (grownCap w (n + m) k e - (n + m))) e)) base e i.size G
   (.slice (some ⟨w.heap.size, 0, none⟩) (n + m) (grownCap w (n + m) k e)) (n + m) (xs ++ news) := by
  intro k ho T
  have Q := grownCap_ge w (n + m) k e
  have F : grownCap w (n + m) k e <= maxLen := grownCap_le_maxLen w (n + m) k e h63
  refine ⟨p, .inr ⟨w.heap.size, _, _, O, hbase, heap_alloc_new w.drew _, Q, F, ?_, ?_, ?_⟩⟩
  . simp only [Array.size_append, List.size_toArray, size_zeroCells, hzs, hown.1, hl, <- Nat.add_mul]
    congr 1
    omega
  . simp only [Array.toList_append, List.append_assoc]
    rw [<- List.append_assoc, <- p]
    exact List.take_left
  intro u f
  simp only [Array.toList_append, List.mem_append] at f
  rcases f with (f | f) | f
  . exact T u f
  . exact hGn u f
  refine hGz u ?_
  unfold Builtin.zeroCells at f
  simp only [Array.toList_map, List.mem_map] at f
  obtain ⟨j, _, rfl⟩ := f
  by_cases U : j % z.cells.size < z.cells.size
  . simp [U]
  exfalso; exact U (Nat.mod_lt _ AA)
 have C : ∀ o : Obj, Below w.heap.size w (w.drew.alloc o) := fun o => ((Below.refl _ _).drew).alloc (Nat.le_refl _) o
 rcases hown.2 with ⟨rfl, rfl⟩ | ⟨g, y, I, rfl, S, hg, Y, F, R, q, H⟩
 . have X : xs = [] := List.eq_nil_of_length_eq_zero (by simpa using hown.1)
   subst X
   by_cases hm : m = 0
   . subst hm
     have hn : news = [] := List.eq_nil_of_length_eq_zero (by simpa using hl)
     subst hn
     refine ⟨.slice none 0 0, w, ?_, bB w base e i.size G, .inl ⟨Below.refl _ _, fun h => absurd O h⟩⟩
     simp [Builtin.append_, run_underlying ht, sizeOf, typeInfo, hi, Builtin.lenOf, Builtin.firstCells, loadCells, loadCellsFrom]
   have J := run_append_nil (P := P) w t ty e i z ht hi hz a m c news hl hnews AA AA (by have hb := hbytes; simp only [Nat.zero_add] at hb; omega)
   have B := grown 0 AA (by intro u f; cases f)
   simp only [Nat.zero_add, List.nil_append, Array.empty_append] at B ⊢
   exact ⟨_, _, J, B, .inl ⟨C _, fun _ => rfl⟩⟩
 by_cases l : n + m <= y
 . have L : n * i.size + news.length <= I.size := by rw [hl, R, <- Nat.add_mul]; exact Nat.mul_le_mul_right _ l
   have J := run_append_room (P := P) w t ty e i ht hi g n y I hg a m c news hl hnews h1 l L
   refine ⟨_, _, J, ⟨p, .inr ⟨g, y, _, O, S, setRow_heap w g I _ e _ hg, l, F, ?_, ?_, ?_⟩⟩, .inr ⟨g, O, O, NJ _ _ _⟩⟩
   . simp only [List.size_toArray, List.length_append, List.length_take, List.length_drop, Array.length_toList]
     omega
   . rw [q, <- p]
     exact List.take_left
   intro u f
   simp only [List.mem_append] at f
   rcases f with (f | f) | f
   . exact H u (List.mem_of_mem_take f)
   . exact hGn u f
   exact H u (List.mem_of_mem_drop f)
 have D : ∀ j u, xs[j]? = some u -> w.cell? ((⟨g, 0, none⟩ : Addr).add j) = some u := hown.own.cells (g := g) rfl
 have J := run_append_grow (P := P) w t ty e i z ht hi hz ⟨g, 0, none⟩ n y xs hown.1 D a m c news hl hnews AA AA (growslice_fits AA hbytes)
 have B := grown y AA (fun u f => H u (by rw [<- q] at f; exact List.mem_of_mem_take f))
 exact ⟨_, _, J, B, .inl ⟨C _, fun _ => rfl⟩⟩
def fG (base e size : Nat) (G : Value -> Prop) (v : Value) (n : Nat) (xs : List Value) : SF := ⟨fun w => RowG w base e size G v n xs, fun c => v.ownBlock ≠ some c, fun h hb => h.below hb, fun h _ ho hb => h.onl ho hb⟩
theorem Env.g (E : Env w l) (h : RowG w base e size G v n xs) : Env w (fG base e size G v n xs :: l) := ⟨h, E⟩
theorem Env.x {b : Nat} (E : Env w l) (h : Bx w b T cs) : Env w (fX b T cs :: l) := ⟨h, E⟩
theorem okG {b : Nat} (h : v.ownBlock ≠ some b) : (fG base e size G v n xs).ok b := h
theorem GO {b : Nat} (h : b ≠ b') : (fX b' T cs).ok b := h
def dO (v : Value) : Prop := ∃ k, v = .int .u8 k
theorem Gh (k : Int) : ¬ dO (.int .u32 k) := by rintro ⟨j, h⟩; simp at h
theorem ZL {K : Act -> World -> Prop} (s x : Operand) (t : TypeId)
 (ho : o.op = .call { callee := .builtin .append, args := #[s, x], argTypes := #[t, t] })
 (base : Nat) (e : TypeId) (i : TypeInfo) (z : Value) (size bytes : Nat) (ht : P.underlying t = some (.slice e)) (hi : P.info? e = some i) (hz : i.zero = some z)
 (hsize : i.size = size) (hby : i.bytes = bytes) (hzs : z.cells.size = size) (hsz : 0 < size) (G : Value -> Prop) (hGz : ∀ u ∈ z.cells.toList, G u) (hGw : ∀ k, ¬ G (.int .u32 k)) (v : Value) (n : Nat) (xs : List Value) (hs : a.eval s = v) (hown : RowG w base e size G v n xs) (E : Env w l) (hok : ∀ g, v.ownBlock = some g -> base <= g -> Ok g l)
 (ad : Addr) (m c : Nat) (news : List Value) (hx : a.eval x = .slice (some ad) m c) (hl : news.length = m * size) (hnews : ∀ j u, news[j]? = some u -> w.cell? (ad.add j) = some u) (h1 : ∀ u ∈ news, u.oneCell' = true) (hGn : ∀ u ∈ news, G u)
 (h63 : n + m <= maxLen) (hbytes : (n + m) * bytes <= 140737488355328) (hbase : base <= w.heap.size)
 (h : ∀ v' w', Env w' (fG base e size G v' (n + m) (xs ++ news) :: l) -> K (a.put o.dst v') w') : o.wp P a w K Q := by
 obtain ⟨v', w', p, q, f⟩ := TR (P := P) (w := w) base t o.type e i z size bytes ht hi hz hsize hby hzs hsz G hGz v n xs hown ad m c news hl hnews h1 hGn h63 hbytes hbase
 unfold Oper.wp execOp
 simp only [ho, resolve, invoke, builtin, Sem.run_bind, Sem.run_pure, Result.andThen_ok, List.map_toArray, List.map_cons, List.map_nil, hs, hx, p]
 refine h v' w' ⟨q, ?_⟩
 rcases f with ⟨f, _⟩ | ⟨g, hg, _, f⟩
 . exact E.below f
 exact E.onl (hown.noW hg hGw) (hok g hg (hown.blk hg).1) f
section
variable {P : Program} {o : Oper} {a : Act} {w : World} {K : Act -> World -> Prop} {Q : Exit -> Act -> World -> Prop}
theorem CI {b i : Nat} {x : Operand} (ho : o.op = .store T x y) (hsz : (P.info? T).map (·.size) = some 1) (hv : v.oneCell' = true) (hx : a.eval x = .pointer (some ⟨b, i, none⟩)) (hy : a.eval y = v)
 (hb : Bx w b TB cs) (hi : i < cs.length) (h : ∀ w', Onl b w w' -> Bx w' b TB (cs.set i v) -> K (a.put o.dst undef) w') : o.wp P a w K Q := by
 have l : v.cells = #[v] := by cases v <;> first | rfl | (simp [Value.oneCell'] at hv)
 have f := run_storeCells_at (P := P) b i TB [v] 0 cs.toArray w hb (by simp; omega) (by simpa using hv)
 simp only [Nat.add_zero, List.length_singleton] at f
 have e : (List.take i cs ++ [v] ++ List.drop (i + 1) cs) = cs.set i v := by
  rw [List.set_eq_take_append_cons_drop, if_pos hi]; simp
 rw [e] at f
 unfold Oper.wp execOp
 cases k : P.info? T with
 | none => simp [k] at hsz
 | some inf =>
   simp [k] at hsz
   simp only [ho, hx, hy, Instr.storeAt, Instr.sureAddr, Sem.run_bind, Sem.run_pure, Result.andThen_ok, storeVar, l, sizeOf, typeInfo]
   simp [k, hsz, f, Oper.upon]
   exact h _ (NJ _ _ _) (XZ hb _)
theorem sL : ∀ (cs : List Value) (k : Nat) (acc : List Value), acc.length = k + cs.length -> (cs.zipIdx k).foldl (fun (a : Array Value) (x : Value × Nat) => a.setIfInBounds (0 + x.2) x.1) acc.toArray = (acc.take k ++ cs).toArray
 | [], k, acc, h => by simp at h; simp [<- h]
 | c :: cs, k, acc, h => by
   rw [List.length_cons] at h
   rw [List.zipIdx_cons, List.foldl_cons]
   have e : acc.toArray.setIfInBounds (0 + k) c = (acc.set k c).toArray := by simp
   rw [e, sL cs (k + 1) (acc.set k c) (by simp; omega)]
   have hk : k < (acc.set k c).length := by simp; omega
   rw [List.take_succ_eq_append_getElem hk, List.take_set_of_le (Nat.le_refl _)]
   simp
theorem DW {x : Operand} (hT : P.underlying T = some (.slice e)) (hA : Ag P e n zs) (hn : cs.length = n) (hn0 : 0 < n) (hn1 : n <= 16777216) (ho : o.op = .buildSlice T 1 #[(0, x)]) (hx : a.eval x = .agg cs.toArray)
 (h : ∀ b w', b = w.heap.size -> w'.heap.size = w.heap.size + 1 -> Below w.heap.size w w' -> Bx w' b e cs -> K (a.put o.dst (.slice (some ⟨b, 0, none⟩) 1 1)) w') : o.wp P a w K Q := by
 have f := hA.i
 refine DV (v := .slice (some ⟨w.heap.size, 0, none⟩) 1 1) (w' := w.alloc (.cells cs.toArray e)) ?_ (h _ _ O AH ((Below.refl _ _).alloc (Nat.le_refl _) _) (KS w e cs))
 unfold execOp; rw [ho]
 cases k : P.info? e with
 | none => simp [k] at f
 | some inf =>
   simp [k] at f
   have u := hA.l
   simp [Instr.buildSlice, run_underlying hT, sizeOf, typeInfo, k, f.2, hx, Value.cells, newRow, newObj, zeroValue, f.1, show ¬ (2 ^ 24 < n) by omega, show ¬ n = 0 by omega]
   have p := sL cs 0 (List.map (fun x => zs[x % zs.length]?.getD default) (List.range n)) (by simp [hn])
   rw [List.take_zero, List.nil_append] at p
   have q : Instr.fill (fun i => some (i * n, n)) (Array.map (fun x => zs[x % zs.length]?.getD default) (Array.range n)) [(0, Value.agg cs.toArray)] = some cs.toArray := by
    have t : Array.map (fun x => zs[x % zs.length]?.getD default) (Array.range n) = (List.map (fun x => zs[x % zs.length]?.getD default) (List.range n)).toArray := by
     apply Array.ext <;> simp
    rw [t]
    simp only [Instr.fill, Value.cells]
    simp [hn]
    simpa using p
   rw [q]
   simp
   rfl
end
end Go.Proofs.YtmppigbbkjepiaaGreatDoor
