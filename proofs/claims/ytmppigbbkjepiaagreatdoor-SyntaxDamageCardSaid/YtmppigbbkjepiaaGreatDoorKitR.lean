/- Helping facts of KitR; no other conditions. -/
import Derived.Test.YtmppigbbkjepiaaGreatDoorKitP
import Derived.Test.YtmppigbbkjepiaaGreatDoorSynR
namespace Go.Proofs.YtmppigbbkjepiaaGreatDoor
open Go.Proofs.Tryz
open Go.RowKit W
theorem JT {ρ : Operand → Value} {o : Oper} {w : World} {x : Operand} {b i j : Nat} (ho : o.op = .fieldAddr 88 x 0) (hx : ρ x = .pointer (some ⟨b, i, none⟩)) (hj : i + 0 = j) : (execOp ρ o).run prog w = .ok (.value (.pointer (some ⟨b, j, none⟩))) w := by
  subst hj
  unfold execOp; rw [ho]
  simp [hx, go_sem]
theorem UE {ρ : Operand → Value} {o : Oper} {w : World} {x : Operand} {b i j : Nat} (ho : o.op = .fieldAddr 88 x 1) (hx : ρ x = .pointer (some ⟨b, i, none⟩)) (hj : i + 4 = j) : (execOp ρ o).run prog w = .ok (.value (.pointer (some ⟨b, j, none⟩))) w := by
  subst hj
  unfold execOp; rw [ho]
  simp [hx, go_sem]
theorem gU {ρ : Operand → Value} {o : Oper} {w : World} {x : Operand} {b i j : Nat} (ho : o.op = .fieldAddr 64 x 0) (hx : ρ x = .pointer (some ⟨b, i, none⟩)) (hj : i + 0 = j) : (execOp ρ o).run prog w = .ok (.value (.pointer (some ⟨b, j, none⟩))) w := by
  subst hj
  unfold execOp; rw [ho]
  simp [hx, go_sem]
theorem gT {ρ : Operand → Value} {o : Oper} {w : World} {x : Operand} {b i j : Nat} (ho : o.op = .fieldAddr 64 x 1) (hx : ρ x = .pointer (some ⟨b, i, none⟩)) (hj : i + 2 = j) : (execOp ρ o).run prog w = .ok (.value (.pointer (some ⟨b, j, none⟩))) w := by
  subst hj
  unfold execOp; rw [ho]
  simp [hx, go_sem]
theorem WZ {ρ : Operand → Value} {o : Oper} {w : World} {x : Operand} {b i j : Nat} (ho : o.op = .fieldAddr 83 x 0) (hx : ρ x = .pointer (some ⟨b, i, none⟩)) (hj : i + 0 = j) : (execOp ρ o).run prog w = .ok (.value (.pointer (some ⟨b, j, none⟩))) w := by
  subst hj
  unfold execOp; rw [ho]
  simp [hx, go_sem]
theorem WY {ρ : Operand → Value} {o : Oper} {w : World} {x : Operand} {b i j : Nat} (ho : o.op = .fieldAddr 83 x 1) (hx : ρ x = .pointer (some ⟨b, i, none⟩)) (hj : i + 1 = j) : (execOp ρ o).run prog w = .ok (.value (.pointer (some ⟨b, j, none⟩))) w := by
  subst hj
  unfold execOp; rw [ho]
  simp [hx, go_sem]
theorem ZX {ρ : Operand → Value} {o : Oper} {w : World} {x : Operand} {b i j : Nat} (ho : o.op = .fieldAddr 48 x 0) (hx : ρ x = .pointer (some ⟨b, i, none⟩)) (hj : i + 0 = j) : (execOp ρ o).run prog w = .ok (.value (.pointer (some ⟨b, j, none⟩))) w := by
  subst hj
  unfold execOp; rw [ho]
  simp [hx, go_sem]
theorem ZW {ρ : Operand → Value} {o : Oper} {w : World} {x : Operand} {b i j : Nat} (ho : o.op = .fieldAddr 48 x 1) (hx : ρ x = .pointer (some ⟨b, i, none⟩)) (hj : i + 1 = j) : (execOp ρ o).run prog w = .ok (.value (.pointer (some ⟨b, j, none⟩))) w := by
  subst hj
  unfold execOp; rw [ho]
  simp [hx, go_sem]
theorem ZV {ρ : Operand → Value} {o : Oper} {w : World} {x : Operand} {b i j : Nat} (ho : o.op = .fieldAddr 48 x 2) (hx : ρ x = .pointer (some ⟨b, i, none⟩)) (hj : i + 2 = j) : (execOp ρ o).run prog w = .ok (.value (.pointer (some ⟨b, j, none⟩))) w := by
  subst hj
  unfold execOp; rw [ho]
  simp [hx, go_sem]
theorem RJ {ρ : Operand → Value} {o : Oper} {w : World} {x : Operand} {b i j : Nat} (ho : o.op = .fieldAddr 48 x 3) (hx : ρ x = .pointer (some ⟨b, i, none⟩)) (hj : i + 3 = j) : (execOp ρ o).run prog w = .ok (.value (.pointer (some ⟨b, j, none⟩))) w := by
  subst hj
  unfold execOp; rw [ho]
  simp [hx, go_sem]
theorem WE {ρ : Operand → Value} {o : Oper} {w : World} {x : Operand} {b i j : Nat} (ho : o.op = .fieldAddr 115 x 0) (hx : ρ x = .pointer (some ⟨b, i, none⟩)) (hj : i + 0 = j) : (execOp ρ o).run prog w = .ok (.value (.pointer (some ⟨b, j, none⟩))) w := by
  subst hj
  unfold execOp; rw [ho]
  simp [hx, go_sem]
theorem WD {ρ : Operand → Value} {o : Oper} {w : World} {x : Operand} {b i j : Nat} (ho : o.op = .fieldAddr 115 x 1) (hx : ρ x = .pointer (some ⟨b, i, none⟩)) (hj : i + 4 = j) : (execOp ρ o).run prog w = .ok (.value (.pointer (some ⟨b, j, none⟩))) w := by
  subst hj
  unfold execOp; rw [ho]
  simp [hx, go_sem]
theorem IH {ρ : Operand → Value} {o : Oper} {w : World} {x : Operand} {b i j : Nat} (ho : o.op = .fieldAddr 24 x 0) (hx : ρ x = .pointer (some ⟨b, i, none⟩)) (hj : i + 0 = j) : (execOp ρ o).run prog w = .ok (.value (.pointer (some ⟨b, j, none⟩))) w := by
  subst hj
  unfold execOp; rw [ho]
  simp [hx, go_sem]
theorem ZU {ρ : Operand → Value} {o : Oper} {w : World} {x : Operand} {b i j : Nat} (ho : o.op = .fieldAddr 44 x 0) (hx : ρ x = .pointer (some ⟨b, i, none⟩)) (hj : i + 0 = j) : (execOp ρ o).run prog w = .ok (.value (.pointer (some ⟨b, j, none⟩))) w := by
  subst hj
  unfold execOp; rw [ho]
  simp [hx, go_sem]
theorem KG {ρ : Operand → Value} {o : Oper} {w : World} {x : Operand} {b i j : Nat} (ho : o.op = .fieldAddr 44 x 1) (hx : ρ x = .pointer (some ⟨b, i, none⟩)) (hj : i + 1 = j) : (execOp ρ o).run prog w = .ok (.value (.pointer (some ⟨b, j, none⟩))) w := by
  subst hj
  unfold execOp; rw [ho]
  simp [hx, go_sem]
theorem KE {ρ : Operand → Value} {o : Oper} {w : World} {x : Operand} {b i j : Nat} (ho : o.op = .fieldAddr 44 x 2) (hx : ρ x = .pointer (some ⟨b, i, none⟩)) (hj : i + 2 = j) : (execOp ρ o).run prog w = .ok (.value (.pointer (some ⟨b, j, none⟩))) w := by
  subst hj
  unfold execOp; rw [ho]
  simp [hx, go_sem]
theorem UD {ρ : Operand → Value} {o : Oper} {w : World} {x : Operand} {b i j : Nat} (ho : o.op = .fieldAddr 105 x 0) (hx : ρ x = .pointer (some ⟨b, i, none⟩)) (hj : i + 0 = j) : (execOp ρ o).run prog w = .ok (.value (.pointer (some ⟨b, j, none⟩))) w := by
  subst hj
  unfold execOp; rw [ho]
  simp [hx, go_sem]
theorem UC {ρ : Operand → Value} {o : Oper} {w : World} {x : Operand} {b i j : Nat} (ho : o.op = .fieldAddr 105 x 1) (hx : ρ x = .pointer (some ⟨b, i, none⟩)) (hj : i + 1 = j) : (execOp ρ o).run prog w = .ok (.value (.pointer (some ⟨b, j, none⟩))) w := by
  subst hj
  unfold execOp; rw [ho]
  simp [hx, go_sem]
theorem MA (w : World) : (isAgg 28).run prog w = .ok false w := by simp [go_sem]
theorem aI (w : World) : (isAgg 30).run prog w = .ok false w := by simp [go_sem]
theorem oL (w : World) : (isAgg 9).run prog w = .ok false w := by simp [go_sem]
theorem eP (w : World) : (isAgg 46).run prog w = .ok false w := by simp [go_sem]
theorem KB (w : World) : (isAgg 32).run prog w = .ok false w := by simp [go_sem]
theorem gK (w : World) : (isAgg 22).run prog w = .ok false w := by simp [go_sem]
theorem XL (w : World) : (isAgg 41).run prog w = .ok false w := by simp [go_sem]
theorem gL (w : World) : (isAgg 42).run prog w = .ok false w := by simp [go_sem]
section
variable {ρ : Operand → Value} {o : Oper} {w : World}
theorem ZY {x y : Operand} {n m : Bool} {s u : Value} {M : List Nat} (ho : o.op = .build 88 #[(0, x), (1, y)]) (hx : ρ x = .agg #[.bool n, s, .bool m, u]) (hy : ρ y = .agg (GP M).toArray) (hM : EK M) :
    (execOp ρ o).run prog w = .ok (.value (.agg (HY n s m u M).toArray)) w := by
  unfold execOp; rw [ho]
  have k : (zeroValue 88).run prog w = .ok (.agg #[.bool false, .slice none 0 0, .bool false, .slice none 0 0, .int .i64 0, .int .i64 0, .int .i64 0, .int .i64 0, .int .i64 0, .int .i64 0, .int .i64 0, .int .i64 0]) w := by kernel_rfl
  obtain ⟨l, _⟩ := hM
  match M, l with
  | [a, b, c, d, e, f, g, h], _ => simp [go_sem, k, hx, hy, GP, HY]
theorem fY {x : Operand} {n m : Bool} {s u : Value} (ho : o.op = .build 88 #[(0, x)]) (hx : ρ x = .agg #[.bool n, s, .bool m, u]) :
    (execOp ρ o).run prog w = .ok (.value (.agg (HY n s m u zeroM).toArray)) w := by
  unfold execOp; rw [ho]
  have e : (zeroValue 88).run prog w = .ok (.agg #[.bool false, .slice none 0 0, .bool false, .slice none 0 0, .int .i64 0, .int .i64 0, .int .i64 0, .int .i64 0, .int .i64 0, .int .i64 0, .int .i64 0, .int .i64 0]) w := by kernel_rfl
  simp [go_sem, e, hx, GP, HY, zeroM]
theorem tH (ho : o.op = .build 88 #[]) :
    (execOp ρ o).run prog w = .ok (.value (.agg (HY false (.slice none 0 0) false (.slice none 0 0) zeroM).toArray)) w := by
  unfold execOp; rw [ho]
  have e : (zeroValue 88).run prog w = .ok (.agg #[.bool false, .slice none 0 0, .bool false, .slice none 0 0, .int .i64 0, .int .i64 0, .int .i64 0, .int .i64 0, .int .i64 0, .int .i64 0, .int .i64 0, .int .i64 0]) w := by kernel_rfl
  simp [go_sem, e, GP, HY, zeroM]
theorem tL (ho : o.op = .build 67 #[]) : (execOp ρ o).run prog w = .ok (.value (.agg (GP zeroM).toArray)) w := by
  unfold execOp; rw [ho]
  have e : (zeroValue 67).run prog w = .ok (.agg #[.int .i64 0, .int .i64 0, .int .i64 0, .int .i64 0, .int .i64 0, .int .i64 0, .int .i64 0, .int .i64 0]) w := by kernel_rfl
  simp [go_sem, e, GP, zeroM]
theorem RK {x y : Operand} {id : Int} {ao : Option Addr} {n c : Nat} (ho : o.op = .build 83 #[(0, x), (1, y)]) (hx : ρ x = .int .i64 id) (hy : ρ y = .slice ao n c) :
    (execOp ρ o).run prog w = .ok (.value (.agg #[.int .i64 id, .slice ao n c])) w := by
  unfold execOp; rw [ho]
  have e : (zeroValue 83).run prog w = .ok (.agg #[.int .i64 0, .slice none 0 0]) w := by kernel_rfl
  simp [go_sem, e, hx, hy]
theorem tN (ho : o.op = .build 83 #[]) : (execOp ρ o).run prog w = .ok (.value (.agg #[.int .i64 0, .slice none 0 0])) w := by
  unfold execOp; rw [ho]
  have e : (zeroValue 83).run prog w = .ok (.agg #[.int .i64 0, .slice none 0 0]) w := by kernel_rfl
  simp [go_sem, e]
theorem tJ (ho : o.op = .build 48 #[]) : (execOp ρ o).run prog w = .ok (.value (.agg #[.slice none 0 0, .slice none 0 0, .slice none 0 0, .int .i64 0])) w := by
  unfold execOp; rw [ho]
  simp [go_sem]
theorem NQ {x y : Operand} {ao : Option Addr} {k c : Nat} {n : Int} (ho : o.op = .build 48 #[(0, x), (3, y)]) (hx : ρ x = .slice ao k c) (hy : ρ y = .int .i64 n) : (execOp ρ o).run prog w = .ok (.value (.agg #[.slice ao k c, .slice none 0 0, .slice none 0 0, .int .i64 n])) w := by
  unfold execOp; rw [ho]
  simp [go_sem, hx, hy]
theorem pW (ho : o.op = .build 115 #[]) : (execOp ρ o).run prog w = .ok (.value (.agg #[.slice none 0 0, .slice none 0 0, .slice none 0 0, .int .i64 0, .int .i64 0])) w := by
  unfold execOp; rw [ho]
  have e : (zeroValue 115).run prog w = .ok (.agg #[.slice none 0 0, .slice none 0 0, .slice none 0 0, .int .i64 0, .int .i64 0]) w := by kernel_rfl
  simp [go_sem, e]
theorem Kn {T t : TypeId} {P : Program} {x : Operand} {ao : Option Addr} {n c : Nat} (ho : o.op = .call { callee := .builtin .len, args := #[x], argTypes := #[T] }) (hT : P.underlying T = some (.slice t)) (hx : ρ x = .slice ao n c) : (execOp ρ o).run P w = .ok (.value (.int .i64 n)) w := by
  unfold execOp; rw [ho]
  simp [hx, Builtin.lenOf, go_sem, hT]
theorem Kr {P : Program} {x y : Operand} {t t' : TypeId} {a b : Bs} (ho : o.op = .binOp .add t x y t') (hx : ρ x = .string (bs a)) (hy : ρ y = .string (bs b)) (hs : a.length + b.length ≤ 9223372036854775807) : (execOp ρ o).run P w = .ok (.value (.string (bs (a ++ b)))) w := by
  rw [← Wz]; exact iI ho hx hy (by rw [EX, EX]; exact hs)
theorem MU {P : Program} {t t' : TypeId} {x y : Operand} {a b : Bs} {c : Bool} (ho : o.op = .binOp .eql t x y t') (hx : ρ x = .string (bs a)) (hy : ρ y = .string (bs b)) (hc : (a == b) = c) : (execOp ρ o).run P w = .ok (.value (.bool c)) w :=
  VC ho hx hy (by rw [FL, FL]; exact hc)
theorem GR {P : Program} {t t' : TypeId} {x y : Operand} {a b : Bs} {c : Bool} (ho : o.op = .binOp .neq t x y t') (hx : ρ x = .string (bs a)) (hy : ρ y = .string (bs b)) (hc : (a != b) = c) : (execOp ρ o).run P w = .ok (.value (.bool c)) w :=
  Pv ho hx hy (by rw [FL, FL]; exact hc)
theorem Kp {x : Operand} {a : Bs} (ho : o.op = .call { callee := .builtin .len, args := #[x], argTypes := #[9] }) (hx : ρ x = .string (bs a)) : (execOp ρ o).run prog w = .ok (.value (.int .i64 ↑a.length)) w := by
  have := tE (w := w) ho hx
  rwa [EX] at this
theorem eL {P : Program} {T : TypeId} {x y : Operand} {a : Bs} {j : Nat} {J : Int} {kk : IntKind} (ho : o.op = .slice T x (some y) none none) (hT : P.underlying T = some .string) (hx : ρ x = .string (bs a)) (hy : ρ y = .int kk J) (hJ : J = (j : Int)) (hj : j ≤ a.length) :
    (execOp ρ o).run P w = .ok (.value (.string (bs (a.drop j)))) w := by
  have := PC (w := w) ho hT hx hy hJ (by rw [EX]; exact hj)
  rw [vM, EX, List.take_of_length_le (Nat.le_refl _)] at this
  exact this
theorem UB {P : Program} {T : TypeId} {x y : Operand} {a : Bs} {j : Nat} {J : Int} {kk : IntKind} (ho : o.op = .slice T x none (some y) none) (hT : P.underlying T = some .string) (hx : ρ x = .string (bs a)) (hy : ρ y = .int kk J) (hJ : J = (j : Int)) (hj : j ≤ a.length) :
    (execOp ρ o).run P w = .ok (.value (.string (bs (a.take j)))) w := by
  have := xH (w := w) ho hT hx hy hJ (by rw [EX]; exact hj)
  rw [vM, List.drop_zero] at this
  exact this
theorem Ob (a : Bs) (j : Nat) : (bs a)[j]? = a[j]? := by
  have e := EX a
  by_cases h : j < a.length
  · rw [List.getElem?_eq_getElem h, getElem?_pos (bs a) j AA]
    congr 1
  · rw [List.getElem?_eq_none AA, getElem?_neg (bs a) j AA]
theorem Pw {P : Program} {T : TypeId} {x y : Operand} {a : Bs} {j : Nat} {J : Int} {kk : IntKind} {b : UInt8} (ho : o.op = .index T x y) (hT : P.underlying T = some .string) (hx : ρ x = .string (bs a)) (hy : ρ y = .int kk J) (hJ : J = (j : Int)) (hb : a[j]? = some b) :
    (execOp ρ o).run P w = .ok (.value (.int .u8 ↑b.toNat)) w :=
  GW ho hT hx hy hJ (by rw [Ob]; exact hb)
def Bc (ao : Option Addr) (k : Nat) (same : Bool) : Option Addr := if same then ao else ao.map (·.add k)
theorem ID {P : Program} {T e sz len cap i : Nat} {ao ao' : Option Addr} {x y : Operand} {J : Int} (ho : o.op = .slice T x (some y) none none) (hT : P.underlying T = some (.slice e)) (hs : (P.info? e).map (·.size) = some sz) (hx : ρ x = .slice ao len cap) (hy : ρ y = .int .i64 J) (hJ : J = (i : Int)) (hi : i ≤ len)
    (ha : Bc ao (i * sz) (decide (cap = i)) = ao') : (execOp ρ o).run P w = .ok (.value (.slice ao' (len - i) (cap - i))) w := by
  subst hJ ha
  unfold execOp; rw [ho]
  cases f : P.info? e with
  | none => simp [f] at hs
  | some inf =>
    simp [f] at hs
    simp [hx, hy, Instr.sliceAt, Instr.slice, run_underlying hT, Instr.sliceBounds, Instr.sliceBound, asIntOf, sizeOf, typeInfo, f, hs, hi, Bc]
theorem WW {P : Program} {T e sz len cap i : Nat} {ao : Option Addr} {x y : Operand} {J : Int} (ho : o.op = .slice T x none (some y) none) (hT : P.underlying T = some (.slice e)) (hs : (P.info? e).map (·.size) = some sz) (hx : ρ x = .slice ao len cap) (hy : ρ y = .int .i64 J) (hJ : J = (i : Int)) (hi : i ≤ cap) :
    (execOp ρ o).run P w = .ok (.value (.slice ao i cap)) w := by
  subst hJ
  unfold execOp; rw [ho]
  cases f : P.info? e with
  | none => simp [f] at hs
  | some inf =>
    simp [f] at hs
    simp [hx, hy, Instr.sliceAt, Instr.slice, run_underlying hT, Instr.sliceBounds, Instr.sliceBound, asIntOf, sizeOf, typeInfo, f, hi, Addr.add]
end
theorem EB : SJ [] := fun c hc => by cases hc
theorem CL {v : Value} {l : List Value} (h : ∀ k, v ≠ .int .u32 k) (hl : SJ l) : SJ (v :: l) := by
  intro c f k e
  rcases List.mem_cons.1 f with rfl | f
  · exact h k e
  · exact hl c f k e
theorem ED : ∀ v ∈ ([] : List Value), v.oneCell' = true := fun c hc => by cases hc
theorem CG {v : Value} {l : List Value} (h : v.oneCell' = true) (hl : ∀ u ∈ l, u.oneCell' = true) : ∀ u ∈ v :: l, u.oneCell' = true := by
  intro c e
  rcases List.mem_cons.1 e with rfl | e
  · exact h
  · exact hl c e
theorem Acc.nw {α : Type} {e : El α} {t base : Nat} {S : Nat → Prop} {w : World} {v : Value} {l : List α} (h : Acc e t base S w v l) : ∀ k, v ≠ .int .u32 k := by
  obtain ⟨o, f, rfl⟩ := h.shp
  intro k e; cases e
theorem Pz (a b c d e : Value) : ∀ (j : Nat) x, [a, b, c, d][j]? = some x → [a, b, c, d, e][0 + j]? = some x := by
  intro j x h
  rw [Nat.zero_add]
  match j, h with
  | 0, h | 1, h | 2, h | 3, h => exact h
  | j + 4, h => simp at h
theorem wR {n m : Bool} {s u : Value} {M : List Nat} (h : EK M) {i : Nat} (hi : i < 8) : (HY n s m u M)[4 + i * 1]? = some (.int .i64 ↑(me M i)) := by
  have := GA h hi
  rw [Nat.zero_add] at this
  rw [Nat.add_comm]; exact this
theorem Ax {n m : Bool} {s u : Value} {M : List Nat} {i e : Nat} : (HY n s m u M).set (4 + i * 1) (.int .i64 ↑e) = HY n s m u (M.set i e) := by
  rw [Nat.add_comm, Nat.mul_one]
  unfold HY GP
  simp [List.map_set]
theorem pV {P : Program} {ρ : Operand → Value} {o : Oper} {w : World} {x : Operand} {a : Addr} (ho : o.op = .nilCheck x) (hx : ρ x = .pointer (some a)) : (execOp ρ o).run P w = .ok (.value (.pointer (some a))) w := by
  unfold execOp; rw [ho]; simp [hx, go_sem]
theorem nP : (prog.info? 3).map (·.size) = some 1 := by kernel_rfl
theorem NB {α : Type} {e : El α} {S : Nat → Prop} {w : World} {ao : Option Addr} {n cap : Nat} {l : List α} (h : IsR e S w (.slice ao n cap) l) {i : Nat} (hi : i ≤ l.length) {ao' : Option Addr} (ha : Bc ao (i * e.sz) (decide (cap = i)) = ao') : IsR e S w (.slice ao' (n - i) (cap - i)) (l.drop i) := by
  subst ha
  obtain ⟨v, o, p, z, y, t⟩ := h
  cases p
  refine ⟨_, cap - i, by rw [List.length_drop], by rw [List.length_drop]; omega, by omega, fun j x k => ?_⟩
  rw [List.getElem?_drop] at k
  have q := (List.getElem?_eq_some_iff.1 k).1
  obtain ⟨u, f, cs, e1, e2, e3, e4⟩ := t (i + j) x k
  subst e1
  refine ⟨u, f + i * e.sz, cs, ?_, e2, by rw [Nat.add_assoc, ← Nat.add_mul]; exact e3, e4⟩
  unfold Bc
  rw [decide_eq_false AA, if_neg AH]
  simp [Addr.add_mid]
section
variable {P : Program} {o : Oper} {a : Act} {w : World} {K : Act → World → Prop} {Q : Exit → Act → World → Prop}
theorem VR {T t bytes : Nat} {α : Type} {e : El α} (R : RowT e T t bytes) (ho : o.op = .buildSlice T 0 #[])
    (h : ∀ b w', b = w.heap.size → w'.heap.size = w.heap.size + 1 → Below w.heap.size w w' → Bx w' b t [] → K (a.put o.dst (.slice (some ⟨b, 0, none⟩) 0 0)) w') : o.wp prog a w K Q := by
  obtain ⟨i, z, e1, e2, e3, e4, e5, e6⟩ := R.info
  refine DI (v := .slice (some ⟨w.heap.size, 0, none⟩) 0 0) (w' := w.alloc (.cells #[] t)) ?_ (h _ _ O AH ((Below.refl _ _).alloc (Nat.le_refl _) _) (HO w t []))
  unfold execOp; rw [ho]
  have f : Array.map (fun _ : Nat => (default : Value)) (Array.range 0) = #[] := by simp
  simp [Instr.buildSlice, run_underlying R.ht, sizeOf, typeInfo, e1, Instr.fill, newRow, newObj, f]
  rfl
theorem JJ {x : Operand} {s : ByteArray} (ho : o.op = .buildSlice 30 1 #[(0, x)]) (hx : a.eval x = .string s)
    (h : ∀ b w', b = w.heap.size → w'.heap.size = w.heap.size + 1 → Below w.heap.size w w' → Bx w' b 9 [.string s] → K (a.put o.dst (.slice (some ⟨b, 0, none⟩) 1 1)) w') : o.wp prog a w K Q := by
  refine DI (v := .slice (some ⟨w.heap.size, 0, none⟩) 1 1) (w' := w.alloc (.cells #[.string s] 9)) ?_ (h _ _ O AH ((Below.refl _ _).alloc (Nat.le_refl _) _) (HO w _ [.string s]))
  unfold execOp; rw [ho]
  have f : ∀ w, (zeroValue 9).run prog w = .ok (.string ByteArray.empty) w := fun w => by kernel_rfl
  have k : ∀ w, (sizeOf 9).run prog w = .ok 1 w := fun w => by kernel_rfl
  have l : Instr.fill (fun i => some (i * 1, 1)) #[(default : Value)] [(0, Value.string s)] = some #[.string s] := rfl
  have e : Instr.fill (fun i => some (i * 1, 1)) #[Value.string ByteArray.empty] [(0, Value.string s)] = some #[.string s] := rfl
  have p : ∀ z : Value, Array.map (fun _ : Nat => z) (Array.range 1) = #[z] := fun z => by rw [show Array.range 1 = #[0] by decide]; simp
  simp only [Nat.mul_one] at l e
  simp [Instr.buildSlice, run_underlying underlying30, k, f, hx, Value.cells, Nat.mod_one, p, e, newRow, newObj]
  rfl
theorem JY {T : Nat} {z : Value} (hz : (P.info? T).map (fun i => i.zero) = some (some z)) (hc : z.cells = #[z]) (ho : o.op = .alloc T)
    (h : ∀ b w', b = w.heap.size → w'.heap.size = w.heap.size + 1 → Below w.heap.size w w' → Bx w' b T [z] → K (a.put o.dst (.pointer (some ⟨b, 0, none⟩))) w') : o.wp P a w K Q := by
  refine DI (v := .pointer (some ⟨w.heap.size, 0, none⟩)) (w' := w.alloc (.cells #[z] T)) ?_ (h _ _ O AH ((Below.refl _ _).alloc (Nat.le_refl _) _) (HO w T [z]))
  unfold execOp; rw [ho]
  cases e : P.info? T with
  | none => simp [e] at hz
  | some i =>
    simp [e] at hz
    simp [Instr.alloc, zeroValue, typeInfo, e, hz, newVar, newRow, Sem.run_bind, hc, newObj]
    rfl
theorem sA {T : Nat} {x : Operand} {v : Value} (ho : o.op = .box T x) (hx : a.eval x = v) (hc : v.cells = #[v])
    (h : ∀ b w', b = w.heap.size → w'.heap.size = w.heap.size + 1 → Below w.heap.size w w' → Bx w' b T [v] → K (a.put o.dst (.pointer (some ⟨b, 0, none⟩))) w') : o.wp P a w K Q := by
  refine DI (v := .pointer (some ⟨w.heap.size, 0, none⟩)) (w' := w.alloc (.cells #[v] T)) ?_ (h _ _ O AH ((Below.refl _ _).alloc (Nat.le_refl _) _) (HO w T [v]))
  unfold execOp; rw [ho]
  simp [Instr.box, hx, newVar, newRow, hc, newObj]
  rfl
theorem MD {T b i n TB : Nat} {zs : List Value} {x y : Operand} {cs ds cs' : List Value} (hA : Ag P T n zs) (ho : o.op = .store T x y) (hx : a.eval x = .pointer (some ⟨b, i, none⟩)) (hy : a.eval y = .agg ds.toArray)
    (hb : Bx w b TB cs) (hd : ds.length = n) (hi : i + n ≤ cs.length) (h1 : ∀ v ∈ ds, v.oneCell' = true) (hcs : cs.take i ++ ds ++ cs.drop (i + n) = cs')
    (h : ∀ w', Onl b w w' → Bx w' b TB cs' → K (a.put o.dst undef) w') : o.wp P a w K Q := by
  subst hcs
  have e := hA.size
  have k := run_storeCells_at (P := P) b i TB ds 0 cs.toArray w hb (by simp; omega) h1
  simp only [Nat.add_zero, hd] at k
  unfold Oper.wp execOp
  cases f : P.info? T with
  | none => simp [f] at e
  | some inf =>
    simp [f] at e
    simp only [ho, hx, hy, Instr.storeAt, Instr.sureAddr, Sem.run_bind, Sem.run_pure, Result.andThen_ok, storeVar, Value.cells, sizeOf, typeInfo]
    simp [f, e, hd, k, Oper.upon]
    exact h _ (LX _ _ _) (by simpa using UM hb _)
end
def Ad (w0 : World) (F : World → Value → Prop) (e : Ending) (w' : World) : Prop := ∃ v, e = .returned v ∧ F w' v ∧ Below w0.heap.size w0 w'
section
variable {P : Program} {o : Oper} {a : Act} {w : World} {K : Act → World → Prop} {Q : Exit → Act → World → Prop} {f : Nat} {args : List Operand} {tys : Array TypeId} {vs : List Value} {l : List SF}
theorem CW {F : World → Value → Prop} (hf : Fn P f) (ho : o.op = .call { callee := .value (.func f), args := args.toArray, argTypes := tys }) (hc : Calls P f vs.toArray w (Ad w F)) (hv : args.map a.eval = vs) (E : Env w l)
    (h : ∀ w' v, Below w.heap.size w w' → F w' v → Env w' l → K (a.put o.dst v) w') : o.wp P a w K Q := by
  refine DB hf ho hc hv ?_
  rintro e w' ⟨v, rfl, p, k⟩
  exact ⟨_, rfl, h w' v k p (E.below k)⟩
end
def NewP (w0 : World) (p : List Tm) (w' : World) (v : Value) : Prop := IsR JP (DX w0.heap.size w'.heap.size) w' v p
def vV (w0 : World) (p : List Tm) : Ending → World → Prop := Ad w0 (NewP w0 p)
def Xl (w0 : World) (p : List Tm) (c : Int) : Ending → World → Prop := Ad w0 fun w' v => ∃ u, v = .tuple #[u, .int .i64 c] ∧ NewP w0 p w' u
def Ul (w0 : World) (r : Rd) : Ending → World → Prop := Ad w0 fun w' v => ∃ u, v = .tuple #[u, .int .i64 ↑r.2.1, .int .i64 ↑r.2.2] ∧ NewP w0 r.1 w' u
theorem GB {w : World} {L : List SF} {f : SF} (E : Env w L) (h : f.p w) : Env w (f :: L) := ⟨h, E⟩
theorem SI {b o c : Nat} {cs : List Value} (h : c ≠ b) : (fC b o cs).ok c := h
theorem DR {α : Type} {e : El α} {S : Nat → Prop} {v : Value} {l : List α} {c : Nat} (h : ¬ S c) : (fR e S v l).ok c := h
theorem IsR.low {α : Type} {e : El α} {S : Nat → Prop} {w : World} {v : Value} {l : List α} (h : (fR e S v l).p w) : IsR e (DD w.heap.size) w v l := h.1.mono h.2
theorem DK (w : World) : ∀ k, DD w.heap.size k → k < w.heap.size := fun _ h => h
theorem TH (w : World) : ∀ k, WI k → k < w.heap.size := fun _ g => g.elim
theorem Rb {a b : Nat} : ∀ k, WI k → DX a b k := fun _ g => g.elim
theorem NewP.up {w0 w1 w2 w3 : World} {p : List Tm} {v : Value} (h : (fR JP (DX w1.heap.size w2.heap.size) v p).p w3) (h1 : w0.heap.size ≤ w1.heap.size) : NewP w0 p w3 v := h.1.mono fun k hk => ⟨Nat.le_trans h1 hk.1, h.2 k hk⟩
theorem mB {w0 w : World} {base : Nat} {v : Value} {p : List Tm} (h : Acc JP 88 base WI w v p) (hb : w0.heap.size ≤ base) : NewP w0 p w v := h.row Rb fun _ h1 h2 _ => ⟨Nat.le_trans hb h1, h2⟩
end Go.Proofs.YtmppigbbkjepiaaGreatDoor
