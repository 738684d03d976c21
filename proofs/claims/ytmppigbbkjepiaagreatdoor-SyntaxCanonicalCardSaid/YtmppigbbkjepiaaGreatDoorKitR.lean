/- Rules for operations on structs, rows and strings. (Printed by g_kitr.py.) -/
import Derived.Test.YtmppigbbkjepiaaGreatDoorKitP
namespace Go.Proofs.YtmppigbbkjepiaaGreatDoor
open Go.Proofs.Tryz
open Go.RowKit W
theorem JI {ρ : Operand → Value} {o : Oper} {w : World} {x : Operand} {b i j : Nat} (ho : o.op = .fieldAddr 88 x 0) (hx : ρ x = .pointer (some ⟨b, i, none⟩)) (hj : i + 0 = j) : (execOp ρ o).run prog w = .ok (.value (.pointer (some ⟨b, j, none⟩))) w := by
  subst hj
  unfold execOp; rw [ho]
  simp [hx, go_sem]
theorem TE {ρ : Operand → Value} {o : Oper} {w : World} {x : Operand} {b i j : Nat} (ho : o.op = .fieldAddr 88 x 1) (hx : ρ x = .pointer (some ⟨b, i, none⟩)) (hj : i + 4 = j) : (execOp ρ o).run prog w = .ok (.value (.pointer (some ⟨b, j, none⟩))) w := by
  subst hj
  unfold execOp; rw [ho]
  simp [hx, go_sem]
theorem eM {ρ : Operand → Value} {o : Oper} {w : World} {x : Operand} {b i j : Nat} (ho : o.op = .fieldAddr 64 x 0) (hx : ρ x = .pointer (some ⟨b, i, none⟩)) (hj : i + 0 = j) : (execOp ρ o).run prog w = .ok (.value (.pointer (some ⟨b, j, none⟩))) w := by
  subst hj
  unfold execOp; rw [ho]
  simp [hx, go_sem]
theorem eL {ρ : Operand → Value} {o : Oper} {w : World} {x : Operand} {b i j : Nat} (ho : o.op = .fieldAddr 64 x 1) (hx : ρ x = .pointer (some ⟨b, i, none⟩)) (hj : i + 2 = j) : (execOp ρ o).run prog w = .ok (.value (.pointer (some ⟨b, j, none⟩))) w := by
  subst hj
  unfold execOp; rw [ho]
  simp [hx, go_sem]
theorem VU {ρ : Operand → Value} {o : Oper} {w : World} {x : Operand} {b i j : Nat} (ho : o.op = .fieldAddr 83 x 0) (hx : ρ x = .pointer (some ⟨b, i, none⟩)) (hj : i + 0 = j) : (execOp ρ o).run prog w = .ok (.value (.pointer (some ⟨b, j, none⟩))) w := by
  subst hj
  unfold execOp; rw [ho]
  simp [hx, go_sem]
theorem VT {ρ : Operand → Value} {o : Oper} {w : World} {x : Operand} {b i j : Nat} (ho : o.op = .fieldAddr 83 x 1) (hx : ρ x = .pointer (some ⟨b, i, none⟩)) (hj : i + 1 = j) : (execOp ρ o).run prog w = .ok (.value (.pointer (some ⟨b, j, none⟩))) w := by
  subst hj
  unfold execOp; rw [ho]
  simp [hx, go_sem]
theorem YV {ρ : Operand → Value} {o : Oper} {w : World} {x : Operand} {b i j : Nat} (ho : o.op = .fieldAddr 48 x 0) (hx : ρ x = .pointer (some ⟨b, i, none⟩)) (hj : i + 0 = j) : (execOp ρ o).run prog w = .ok (.value (.pointer (some ⟨b, j, none⟩))) w := by
  subst hj
  unfold execOp; rw [ho]
  simp [hx, go_sem]
theorem YU {ρ : Operand → Value} {o : Oper} {w : World} {x : Operand} {b i j : Nat} (ho : o.op = .fieldAddr 48 x 1) (hx : ρ x = .pointer (some ⟨b, i, none⟩)) (hj : i + 1 = j) : (execOp ρ o).run prog w = .ok (.value (.pointer (some ⟨b, j, none⟩))) w := by
  subst hj
  unfold execOp; rw [ho]
  simp [hx, go_sem]
theorem YT {ρ : Operand → Value} {o : Oper} {w : World} {x : Operand} {b i j : Nat} (ho : o.op = .fieldAddr 48 x 2) (hx : ρ x = .pointer (some ⟨b, i, none⟩)) (hj : i + 2 = j) : (execOp ρ o).run prog w = .ok (.value (.pointer (some ⟨b, j, none⟩))) w := by
  subst hj
  unfold execOp; rw [ho]
  simp [hx, go_sem]
theorem YS {ρ : Operand → Value} {o : Oper} {w : World} {x : Operand} {b i j : Nat} (ho : o.op = .fieldAddr 48 x 3) (hx : ρ x = .pointer (some ⟨b, i, none⟩)) (hj : i + 3 = j) : (execOp ρ o).run prog w = .ok (.value (.pointer (some ⟨b, j, none⟩))) w := by
  subst hj
  unfold execOp; rw [ho]
  simp [hx, go_sem]
theorem VA {ρ : Operand → Value} {o : Oper} {w : World} {x : Operand} {b i j : Nat} (ho : o.op = .fieldAddr 115 x 0) (hx : ρ x = .pointer (some ⟨b, i, none⟩)) (hj : i + 0 = j) : (execOp ρ o).run prog w = .ok (.value (.pointer (some ⟨b, j, none⟩))) w := by
  subst hj
  unfold execOp; rw [ho]
  simp [hx, go_sem]
theorem UZ {ρ : Operand → Value} {o : Oper} {w : World} {x : Operand} {b i j : Nat} (ho : o.op = .fieldAddr 115 x 1) (hx : ρ x = .pointer (some ⟨b, i, none⟩)) (hj : i + 4 = j) : (execOp ρ o).run prog w = .ok (.value (.pointer (some ⟨b, j, none⟩))) w := by
  subst hj
  unfold execOp; rw [ho]
  simp [hx, go_sem]
theorem TD {ρ : Operand → Value} {o : Oper} {w : World} {x : Operand} {b i j : Nat} (ho : o.op = .fieldAddr 105 x 0) (hx : ρ x = .pointer (some ⟨b, i, none⟩)) (hj : i + 0 = j) : (execOp ρ o).run prog w = .ok (.value (.pointer (some ⟨b, j, none⟩))) w := by
  subst hj
  unfold execOp; rw [ho]
  simp [hx, go_sem]
theorem TC {ρ : Operand → Value} {o : Oper} {w : World} {x : Operand} {b i j : Nat} (ho : o.op = .fieldAddr 105 x 1) (hx : ρ x = .pointer (some ⟨b, i, none⟩)) (hj : i + 1 = j) : (execOp ρ o).run prog w = .ok (.value (.pointer (some ⟨b, j, none⟩))) w := by
  subst hj
  unfold execOp; rw [ho]
  simp [hx, go_sem]
theorem LB (w : World) : (isAgg 28).run prog w = .ok false w := by simp [go_sem]
theorem jE (w : World) : (isAgg 30).run prog w = .ok false w := by simp [go_sem]
theorem mJ (w : World) : (isAgg 9).run prog w = .ok false w := by simp [go_sem]
theorem cJ (w : World) : (isAgg 46).run prog w = .ok false w := by simp [go_sem]
theorem JQ (w : World) : (isAgg 32).run prog w = .ok false w := by simp [go_sem]
theorem dT (w : World) : (isAgg 22).run prog w = .ok false w := by simp [go_sem]
theorem dS (w : World) : (isAgg 41).run prog w = .ok false w := by simp [go_sem]
theorem dU (w : World) : (isAgg 42).run prog w = .ok false w := by simp [go_sem]
section
variable {ρ : Operand → Value} {o : Oper} {w : World}
theorem iF {x y : Operand} {n m : Bool} {s u : Value} {M : List Nat} (ho : o.op = .build 88 #[(0, x), (1, y)]) (hx : ρ x = .agg #[.bool n, s, .bool m, u]) (hy : ρ y = .agg (GN M).toArray) (hM : ER M) :
    (execOp ρ o).run prog w = .ok (.value (.agg (HY n s m u M).toArray)) w := by
  unfold execOp; rw [ho]
  have k : (zeroValue 88).run prog w = .ok (.agg #[.bool false, .slice none 0 0, .bool false, .slice none 0 0, .int .i64 0, .int .i64 0, .int .i64 0, .int .i64 0, .int .i64 0, .int .i64 0, .int .i64 0, .int .i64 0]) w := by kernel_rfl
  obtain ⟨l, _⟩ := hM
  match M, l with
  | [a, b, c, d, e, f, g, h], _ => simp [go_sem, k, hx, hy, GN, HY]
theorem dI {x : Operand} {n m : Bool} {s u : Value} (ho : o.op = .build 88 #[(0, x)]) (hx : ρ x = .agg #[.bool n, s, .bool m, u]) :
    (execOp ρ o).run prog w = .ok (.value (.agg (HY n s m u zeroM).toArray)) w := by
  unfold execOp; rw [ho]
  have e : (zeroValue 88).run prog w = .ok (.agg #[.bool false, .slice none 0 0, .bool false, .slice none 0 0, .int .i64 0, .int .i64 0, .int .i64 0, .int .i64 0, .int .i64 0, .int .i64 0, .int .i64 0, .int .i64 0]) w := by kernel_rfl
  simp [go_sem, e, hx, GN, HY, zeroM]
theorem qU (ho : o.op = .build 88 #[]) :
    (execOp ρ o).run prog w = .ok (.value (.agg (HY false (.slice none 0 0) false (.slice none 0 0) zeroM).toArray)) w := by
  unfold execOp; rw [ho]
  have e : (zeroValue 88).run prog w = .ok (.agg #[.bool false, .slice none 0 0, .bool false, .slice none 0 0, .int .i64 0, .int .i64 0, .int .i64 0, .int .i64 0, .int .i64 0, .int .i64 0, .int .i64 0, .int .i64 0]) w := by kernel_rfl
  simp [go_sem, e, GN, HY, zeroM]
theorem qY (ho : o.op = .build 67 #[]) : (execOp ρ o).run prog w = .ok (.value (.agg (GN zeroM).toArray)) w := by
  unfold execOp; rw [ho]
  have e : (zeroValue 67).run prog w = .ok (.agg #[.int .i64 0, .int .i64 0, .int .i64 0, .int .i64 0, .int .i64 0, .int .i64 0, .int .i64 0, .int .i64 0]) w := by kernel_rfl
  simp [go_sem, e, GN, zeroM]
theorem TX {x y : Operand} {id : Int} {ao : Option Addr} {n c : Nat} (ho : o.op = .build 83 #[(0, x), (1, y)]) (hx : ρ x = .int .i64 id) (hy : ρ y = .slice ao n c) :
    (execOp ρ o).run prog w = .ok (.value (.agg #[.int .i64 id, .slice ao n c])) w := by
  unfold execOp; rw [ho]
  have e : (zeroValue 83).run prog w = .ok (.agg #[.int .i64 0, .slice none 0 0]) w := by kernel_rfl
  simp [go_sem, e, hx, hy]
theorem rA (ho : o.op = .build 83 #[]) : (execOp ρ o).run prog w = .ok (.value (.agg #[.int .i64 0, .slice none 0 0])) w := by
  unfold execOp; rw [ho]
  have e : (zeroValue 83).run prog w = .ok (.agg #[.int .i64 0, .slice none 0 0]) w := by kernel_rfl
  simp [go_sem, e]
theorem qW (ho : o.op = .build 48 #[]) : (execOp ρ o).run prog w = .ok (.value (.agg #[.slice none 0 0, .slice none 0 0, .slice none 0 0, .int .i64 0])) w := by
  unfold execOp; rw [ho]
  simp [go_sem]
theorem OU {x y : Operand} {ao : Option Addr} {k c : Nat} {n : Int} (ho : o.op = .build 48 #[(0, x), (3, y)]) (hx : ρ x = .slice ao k c) (hy : ρ y = .int .i64 n) : (execOp ρ o).run prog w = .ok (.value (.agg #[.slice ao k c, .slice none 0 0, .slice none 0 0, .int .i64 n])) w := by
  unfold execOp; rw [ho]
  simp [go_sem, hx, hy]
theorem nU (ho : o.op = .build 115 #[]) : (execOp ρ o).run prog w = .ok (.value (.agg #[.slice none 0 0, .slice none 0 0, .slice none 0 0, .int .i64 0, .int .i64 0])) w := by
  unfold execOp; rw [ho]
  have e : (zeroValue 115).run prog w = .ok (.agg #[.slice none 0 0, .slice none 0 0, .slice none 0 0, .int .i64 0, .int .i64 0]) w := by kernel_rfl
  simp [go_sem, e]
theorem Fz {T t : TypeId} {P : Program} {x : Operand} {ao : Option Addr} {n c : Nat} (ho : o.op = .call { callee := .builtin .len, args := #[x], argTypes := #[T] }) (hT : P.underlying T = some (.slice t)) (hx : ρ x = .slice ao n c) : (execOp ρ o).run P w = .ok (.value (.int .i64 n)) w := by
  unfold execOp; rw [ho]
  simp [hx, Builtin.lenOf, go_sem, hT]
theorem Gc {P : Program} {x y : Operand} {t t' : TypeId} {a b : Bs} (ho : o.op = .binOp .add t x y t') (hx : ρ x = .string (bs a)) (hy : ρ y = .string (bs b)) (hs : a.length + b.length ≤ 9223372036854775807) : (execOp ρ o).run P w = .ok (.value (.string (bs (a ++ b)))) w := by
  rw [← Rp]; exact fQ ho hx hy (by rw [FH, FH]; exact hs)
theorem JY {P : Program} {t t' : TypeId} {x y : Operand} {a b : Bs} {c : Bool} (ho : o.op = .binOp .eql t x y t') (hx : ρ x = .string (bs a)) (hy : ρ y = .string (bs b)) (hc : (a == b) = c) : (execOp ρ o).run P w = .ok (.value (.bool c)) w :=
  TW ho hx hy (by rw [FI, FI]; exact hc)
theorem GX {P : Program} {t t' : TypeId} {x y : Operand} {a b : Bs} {c : Bool} (ho : o.op = .binOp .neq t x y t') (hx : ρ x = .string (bs a)) (hy : ρ y = .string (bs b)) (hc : (a != b) = c) : (execOp ρ o).run P w = .ok (.value (.bool c)) w :=
  Ks ho hx hy (by rw [FI, FI]; exact hc)
theorem Gb {x : Operand} {a : Bs} (ho : o.op = .call { callee := .builtin .len, args := #[x], argTypes := #[9] }) (hx : ρ x = .string (bs a)) : (execOp ρ o).run prog w = .ok (.value (.int .i64 ↑a.length)) w := by
  have := qQ (w := w) ho hx
  rwa [FH] at this
theorem wN (a : Bs) (j : Nat) : (bs a)[j]? = a[j]? := by
  have e := FH a
  by_cases h : j < a.length
  · rw [List.getElem?_eq_getElem h, getElem?_pos (bs a) j Z]
    congr 1
  · rw [List.getElem?_eq_none Z, getElem?_neg (bs a) j Z]
theorem Kt {P : Program} {T : TypeId} {x y : Operand} {a : Bs} {j : Nat} {J : Int} {kk : IntKind} {b : UInt8} (ho : o.op = .index T x y) (hT : P.underlying T = some .string) (hx : ρ x = .string (bs a)) (hy : ρ y = .int kk J) (hJ : J = (j : Int)) (hb : a[j]? = some b) :
    (execOp ρ o).run P w = .ok (.value (.int .u8 ↑b.toNat)) w :=
  GP ho hT hx hy hJ (by rw [wN]; exact hb)
def xS (ao : Option Addr) (k : Nat) (same : Bool) : Option Addr := if same then ao else ao.map (·.add k)
theorem HI {P : Program} {T e sz len cap i : Nat} {ao ao' : Option Addr} {x y : Operand} {J : Int} (ho : o.op = .slice T x (some y) none none) (hT : P.underlying T = some (.slice e)) (hs : (P.info? e).map (·.size) = some sz) (hx : ρ x = .slice ao len cap) (hy : ρ y = .int .i64 J) (hJ : J = (i : Int)) (hi : i ≤ len)
    (ha : xS ao (i * sz) (decide (cap = i)) = ao') : (execOp ρ o).run P w = .ok (.value (.slice ao' (len - i) (cap - i))) w := by
  subst hJ ha
  unfold execOp; rw [ho]
  cases f : P.info? e with
  | none => simp [f] at hs
  | some inf =>
    simp [f] at hs
    simp [hx, hy, Instr.sliceAt, Instr.slice, run_underlying hT, Instr.sliceBounds, Instr.sliceBound, asIntOf, sizeOf, typeInfo, f, hs, hi, xS]
theorem dH {P : Program} {T e sz len cap i : Nat} {ao : Option Addr} {x y : Operand} {J : Int} (ho : o.op = .slice T x none (some y) none) (hT : P.underlying T = some (.slice e)) (hs : (P.info? e).map (·.size) = some sz) (hx : ρ x = .slice ao len cap) (hy : ρ y = .int .i64 J) (hJ : J = (i : Int)) (hi : i ≤ cap) :
    (execOp ρ o).run P w = .ok (.value (.slice ao i cap)) w := by
  subst hJ
  unfold execOp; rw [ho]
  cases f : P.info? e with
  | none => simp [f] at hs
  | some inf =>
    simp [f] at hs
    simp [hx, hy, Instr.sliceAt, Instr.slice, run_underlying hT, Instr.sliceBounds, Instr.sliceBound, asIntOf, sizeOf, typeInfo, f, hi, Addr.add]
end
theorem CX : VC [] := fun c hc => by cases hc
theorem CE {v : Value} {l : List Value} (h : ∀ k, v ≠ .int .u32 k) (hl : VC l) : VC (v :: l) := by
  intro c f k e
  rcases List.mem_cons.1 f with rfl | f
  · exact h k e
  · exact hl c f k e
theorem EX : ∀ v ∈ ([] : List Value), v.oneCell' = true := fun c hc => by cases hc
theorem CM {v : Value} {l : List Value} (h : v.oneCell' = true) (hl : ∀ u ∈ l, u.oneCell' = true) : ∀ u ∈ v :: l, u.oneCell' = true := by
  intro c e
  rcases List.mem_cons.1 e with rfl | e
  · exact h
  · exact hl c e
theorem Acc.nw {α : Type} {e : El α} {t base : Nat} {S : Nat → Prop} {w : World} {v : Value} {l : List α} (h : Acc e t base S w v l) : ∀ k, v ≠ .int .u32 k := by
  obtain ⟨o, f, rfl⟩ := h.shp
  intro k e; cases e
theorem Kv (a b c d e : Value) : ∀ (j : Nat) x, [a, b, c, d][j]? = some x → [a, b, c, d, e][0 + j]? = some x := by
  intro j x h
  rw [Nat.zero_add]
  match j, h with
  | 0, h | 1, h | 2, h | 3, h => exact h
  | j + 4, h => simp at h
theorem uG {n m : Bool} {s u : Value} {M : List Nat} (h : ER M) {i : Nat} (hi : i < 8) : (HY n s m u M)[4 + i * 1]? = some (.int .i64 ↑(me M i)) := by
  have := FL h hi
  rw [Nat.zero_add] at this
  rw [Nat.add_comm]; exact this
theorem xP {n m : Bool} {s u : Value} {M : List Nat} {i e : Nat} : (HY n s m u M).set (4 + i * 1) (.int .i64 ↑e) = HY n s m u (M.set i e) := by
  rw [Nat.add_comm, Nat.mul_one]
  unfold HY GN
  simp [List.map_set]
theorem nS {P : Program} {ρ : Operand → Value} {o : Oper} {w : World} {x : Operand} {a : Addr} (ho : o.op = .nilCheck x) (hx : ρ x = .pointer (some a)) : (execOp ρ o).run P w = .ok (.value (.pointer (some a))) w := by
  unfold execOp; rw [ho]; simp [hx, go_sem]
theorem lR : (prog.info? 3).map (·.size) = some 1 := by kernel_rfl
theorem MB {α : Type} {e : El α} {S : Nat → Prop} {w : World} {ao : Option Addr} {n cap : Nat} {l : List α} (h : IsR e S w (.slice ao n cap) l) {i : Nat} (hi : i ≤ l.length) {ao' : Option Addr} (ha : xS ao (i * e.sz) (decide (cap = i)) = ao') : IsR e S w (.slice ao' (n - i) (cap - i)) (l.drop i) := by
  subst ha
  obtain ⟨z, o, p, C, B, t⟩ := h
  cases p
  refine ⟨_, cap - i, by rw [List.length_drop], by rw [List.length_drop]; omega, by omega, fun j x k => ?_⟩
  rw [List.getElem?_drop] at k
  have q := (List.getElem?_eq_some_iff.1 k).1
  obtain ⟨y, f, cs, v, u, e3, e4⟩ := t (i + j) x k
  subst v
  refine ⟨y, f + i * e.sz, cs, ?_, u, by rw [Nat.add_assoc, ← Nat.add_mul]; exact e3, e4⟩
  unfold xS
  rw [decide_eq_false Z, if_neg AG]
  simp [Addr.add_mid]
section
variable {P : Program} {o : Oper} {a : Act} {w : World} {K : Act → World → Prop} {Q : Exit → Act → World → Prop}
theorem bU {T t bytes : Nat} {α : Type} {e : El α} (R : RowT e T t bytes) (ho : o.op = .buildSlice T 0 #[])
    (h : ∀ b w', b = w.heap.size → w'.heap.size = w.heap.size + 1 → Below w.heap.size w w' → Bx w' b t [] → K (a.put o.dst (.slice (some ⟨b, 0, none⟩) 0 0)) w') : o.wp prog a w K Q := by
  obtain ⟨i, z, k, l, e3, e4, e5, e6⟩ := R.info
  refine DT (v := .slice (some ⟨w.heap.size, 0, none⟩) 0 0) (w' := w.alloc (.cells #[] t)) ?_ (h _ _ O AG ((Below.refl _ _).alloc (Nat.le_refl _) _) (JZ w t []))
  unfold execOp; rw [ho]
  have f : Array.map (fun _ : Nat => (default : Value)) (Array.range 0) = #[] := by simp
  simp [Instr.buildSlice, run_underlying R.ht, sizeOf, typeInfo, k, Instr.fill, newRow, newObj, f]
  rfl
theorem JB {x : Operand} {s : ByteArray} (ho : o.op = .buildSlice 30 1 #[(0, x)]) (hx : a.eval x = .string s)
    (h : ∀ b w', b = w.heap.size → w'.heap.size = w.heap.size + 1 → Below w.heap.size w w' → Bx w' b 9 [.string s] → K (a.put o.dst (.slice (some ⟨b, 0, none⟩) 1 1)) w') : o.wp prog a w K Q := by
  refine DT (v := .slice (some ⟨w.heap.size, 0, none⟩) 1 1) (w' := w.alloc (.cells #[.string s] 9)) ?_ (h _ _ O AG ((Below.refl _ _).alloc (Nat.le_refl _) _) (JZ w _ [.string s]))
  unfold execOp; rw [ho]
  have f : ∀ w, (zeroValue 9).run prog w = .ok (.string ByteArray.empty) w := fun w => by kernel_rfl
  have k : ∀ w, (sizeOf 9).run prog w = .ok 1 w := fun w => by kernel_rfl
  have l : Instr.fill (fun i => some (i * 1, 1)) #[(default : Value)] [(0, Value.string s)] = some #[.string s] := rfl
  have e : Instr.fill (fun i => some (i * 1, 1)) #[Value.string ByteArray.empty] [(0, Value.string s)] = some #[.string s] := rfl
  have p : ∀ z : Value, Array.map (fun _ : Nat => z) (Array.range 1) = #[z] := fun z => by rw [show Array.range 1 = #[0] by decide]; simp
  simp only [Nat.mul_one] at l e
  simp [Instr.buildSlice, run_underlying underlying30, k, f, hx, Value.cells, Nat.mod_one, p, e, newRow, newObj]
  rfl
theorem JN {T : Nat} {z : Value} (hz : (P.info? T).map (fun i => i.zero) = some (some z)) (hc : z.cells = #[z]) (ho : o.op = .alloc T)
    (h : ∀ b w', b = w.heap.size → w'.heap.size = w.heap.size + 1 → Below w.heap.size w w' → Bx w' b T [z] → K (a.put o.dst (.pointer (some ⟨b, 0, none⟩))) w') : o.wp P a w K Q := by
  refine DT (v := .pointer (some ⟨w.heap.size, 0, none⟩)) (w' := w.alloc (.cells #[z] T)) ?_ (h _ _ O AG ((Below.refl _ _).alloc (Nat.le_refl _) _) (JZ w T [z]))
  unfold execOp; rw [ho]
  cases e : P.info? T with
  | none => simp [e] at hz
  | some i =>
    simp [e] at hz
    simp [Instr.alloc, zeroValue, typeInfo, e, hz, newVar, newRow, Sem.run_bind, hc, newObj]
    rfl
theorem pP {T : Nat} {x : Operand} {v : Value} (ho : o.op = .box T x) (hx : a.eval x = v) (hc : v.cells = #[v])
    (h : ∀ b w', b = w.heap.size → w'.heap.size = w.heap.size + 1 → Below w.heap.size w w' → Bx w' b T [v] → K (a.put o.dst (.pointer (some ⟨b, 0, none⟩))) w') : o.wp P a w K Q := by
  refine DT (v := .pointer (some ⟨w.heap.size, 0, none⟩)) (w' := w.alloc (.cells #[v] T)) ?_ (h _ _ O AG ((Below.refl _ _).alloc (Nat.le_refl _) _) (JZ w T [v]))
  unfold execOp; rw [ho]
  simp [Instr.box, hx, newVar, newRow, hc, newObj]
  rfl
theorem LI {T b i n TB : Nat} {zs : List Value} {x y : Operand} {cs ds cs' : List Value} (hA : Ag P T n zs) (ho : o.op = .store T x y) (hx : a.eval x = .pointer (some ⟨b, i, none⟩)) (hy : a.eval y = .agg ds.toArray)
    (hb : Bx w b TB cs) (hd : ds.length = n) (hi : i + n ≤ cs.length) (h1 : ∀ v ∈ ds, v.oneCell' = true) (hcs : cs.take i ++ ds ++ cs.drop (i + n) = cs')
    (h : ∀ w', Onl b w w' → Bx w' b TB cs' → K (a.put o.dst undef) w') : o.wp P a w K Q := by
  subst hcs
  have e := hA.size
  have k := run_storeCells_at (P := P) b i TB ds 0 cs.toArray w hb (by simp; omega) h1
  simp only [Nat.add_zero, hd] at k
  unfold Oper.wp execOp
  cases f : P.info? T with
  | none => simp [f] at e
  | some inf =>
    simp [f] at e
    simp only [ho, hx, hy, Instr.storeAt, Instr.sureAddr, Sem.run_bind, Sem.run_pure, Result.andThen_ok, storeVar, Value.cells, sizeOf, typeInfo]
    simp [f, e, hd, k, Oper.upon]
    exact h _ (MV _ _ _) (by simpa using XT hb _)
end
def Ji (w0 : World) (F : World → Value → Prop) (e : Ending) (w' : World) : Prop := ∃ v, e = .returned v ∧ F w' v ∧ Below w0.heap.size w0 w'
section
variable {P : Program} {o : Oper} {a : Act} {w : World} {K : Act → World → Prop} {Q : Exit → Act → World → Prop} {f : Nat} {args : List Operand} {tys : Array TypeId} {vs : List Value} {l : List SF}
theorem DN {F : World → Value → Prop} (hf : Fn P f) (ho : o.op = .call { callee := .value (.func f), args := args.toArray, argTypes := tys }) (hc : Calls P f vs.toArray w (Ji w F)) (hv : args.map a.eval = vs) (E : Env w l)
    (h : ∀ w' v, Below w.heap.size w w' → F w' v → Env w' l → K (a.put o.dst v) w') : o.wp P a w K Q := by
  refine DB hf ho hc hv ?_
  rintro e w' ⟨v, rfl, p, k⟩
  exact ⟨_, rfl, h w' v k p (E.below k)⟩
end
def NewP (w0 : World) (p : List Tm) (w' : World) (v : Value) : Prop := IsR KG (GL w0.heap.size w'.heap.size) w' v p
def tJ (w0 : World) (p : List Tm) : Ending → World → Prop := Ji w0 (NewP w0 p)
def Sc (w0 : World) (p : List Tm) (c : Int) : Ending → World → Prop := Ji w0 fun w' v => ∃ u, v = .tuple #[u, .int .i64 c] ∧ NewP w0 p w' u
def Ow (w0 : World) (r : Rd) : Ending → World → Prop := Ji w0 fun w' v => ∃ u, v = .tuple #[u, .int .i64 ↑r.2.1, .int .i64 ↑r.2.2] ∧ NewP w0 r.1 w' u
theorem RD {w : World} {L : List SF} {f : SF} (E : Env w L) (h : f.p w) : Env w (f :: L) := ⟨h, E⟩
theorem UO {b o c : Nat} {cs : List Value} (h : c ≠ b) : (fC b o cs).ok c := h
theorem EC {α : Type} {e : El α} {S : Nat → Prop} {v : Value} {l : List α} {c : Nat} (h : ¬ S c) : (fR e S v l).ok c := h
theorem DM (w : World) : ∀ k, DI w.heap.size k → k < w.heap.size := fun _ h => h
theorem RW (w : World) : ∀ k, VF k → k < w.heap.size := fun _ g => g.elim
theorem Lv {a b : Nat} : ∀ k, VF k → GL a b k := fun _ g => g.elim
theorem pS {w0 w1 w2 w3 : World} {p : List Tm} {v : Value} (h : (fR KG (GL w1.heap.size w2.heap.size) v p).p w3) (h1 : w0.heap.size ≤ w1.heap.size) : NewP w0 p w3 v := h.1.mono fun k hk => ⟨Nat.le_trans h1 hk.1, h.2 k hk⟩
theorem kK {w0 w : World} {base : Nat} {v : Value} {p : List Tm} (h : Acc KG 88 base VF w v p) (hb : w0.heap.size ≤ base) : NewP w0 p w v := h.row Lv fun _ h1 h2 _ => ⟨Nat.le_trans hb h1, h2⟩
end Go.Proofs.YtmppigbbkjepiaaGreatDoor
