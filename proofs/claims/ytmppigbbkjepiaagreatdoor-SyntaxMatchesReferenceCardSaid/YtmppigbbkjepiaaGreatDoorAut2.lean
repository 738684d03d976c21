/- Helping facts of KitR; no other conditions. Helping facts of Aut2; no other conditions. -/
import Derived.Test.YtmppigbbkjepiaaGreatDoorSynR
namespace Go.Proofs.YtmppigbbkjepiaaGreatDoor
open Go.Proofs.Tryz
open Go.RowKit W
variable {J : Int} {L : List SF} {M : List Nat} {P : Program} {S : Nat -> Prop} {T a b base c cap e i j len sz : Nat} {ao ao' : Option Addr} {cs ds l : List Value} {m n : Bool} {o : Oper} {p q : Prop} {s u v : Value} {t t' : TypeId} {w w' w0 : World} {x y : Operand} {α : Type} {ρ : Operand -> Value}
theorem IU (ho : o.op = .fieldAddr 88 x 0) (hx : ρ x = .pointer (some ⟨b, i, none⟩)) (hj : i + 0 = j) : (execOp ρ o).run prog w = .ok (.value (.pointer (some ⟨b, j, none⟩))) w := by
 subst hj
 unfold execOp; rw [ho]
 simp [hx, go_sem]
theorem PY (ho : o.op = .fieldAddr 88 x 1) (hx : ρ x = .pointer (some ⟨b, i, none⟩)) (hj : i + 4 = j) : (execOp ρ o).run prog w = .ok (.value (.pointer (some ⟨b, j, none⟩))) w := by
 subst hj
 unfold execOp; rw [ho]
 simp [hx, go_sem]
theorem jP (ho : o.op = .fieldAddr 64 x 0) (hx : ρ x = .pointer (some ⟨b, i, none⟩)) (hj : i + 0 = j) : (execOp ρ o).run prog w = .ok (.value (.pointer (some ⟨b, j, none⟩))) w := by
 subst hj
 unfold execOp; rw [ho]
 simp [hx, go_sem]
theorem jO (ho : o.op = .fieldAddr 64 x 1) (hx : ρ x = .pointer (some ⟨b, i, none⟩)) (hj : i + 2 = j) : (execOp ρ o).run prog w = .ok (.value (.pointer (some ⟨b, j, none⟩))) w := by
 subst hj
 unfold execOp; rw [ho]
 simp [hx, go_sem]
theorem YH (ho : o.op = .fieldAddr 83 x 0) (hx : ρ x = .pointer (some ⟨b, i, none⟩)) (hj : i + 0 = j) : (execOp ρ o).run prog w = .ok (.value (.pointer (some ⟨b, j, none⟩))) w := by
 subst hj
 unfold execOp; rw [ho]
 simp [hx, go_sem]
theorem YG (ho : o.op = .fieldAddr 83 x 1) (hx : ρ x = .pointer (some ⟨b, i, none⟩)) (hj : i + 1 = j) : (execOp ρ o).run prog w = .ok (.value (.pointer (some ⟨b, j, none⟩))) w := by
 subst hj
 unfold execOp; rw [ho]
 simp [hx, go_sem]
theorem bJ (ho : o.op = .fieldAddr 48 x 0) (hx : ρ x = .pointer (some ⟨b, i, none⟩)) (hj : i + 0 = j) : (execOp ρ o).run prog w = .ok (.value (.pointer (some ⟨b, j, none⟩))) w := by
 subst hj
 unfold execOp; rw [ho]
 simp [hx, go_sem]
theorem bI (ho : o.op = .fieldAddr 48 x 1) (hx : ρ x = .pointer (some ⟨b, i, none⟩)) (hj : i + 1 = j) : (execOp ρ o).run prog w = .ok (.value (.pointer (some ⟨b, j, none⟩))) w := by
 subst hj
 unfold execOp; rw [ho]
 simp [hx, go_sem]
theorem bH (ho : o.op = .fieldAddr 48 x 2) (hx : ρ x = .pointer (some ⟨b, i, none⟩)) (hj : i + 2 = j) : (execOp ρ o).run prog w = .ok (.value (.pointer (some ⟨b, j, none⟩))) w := by
 subst hj
 unfold execOp; rw [ho]
 simp [hx, go_sem]
theorem TA (ho : o.op = .fieldAddr 48 x 3) (hx : ρ x = .pointer (some ⟨b, i, none⟩)) (hj : i + 3 = j) : (execOp ρ o).run prog w = .ok (.value (.pointer (some ⟨b, j, none⟩))) w := by
 subst hj
 unfold execOp; rw [ho]
 simp [hx, go_sem]
theorem XN (ho : o.op = .fieldAddr 115 x 0) (hx : ρ x = .pointer (some ⟨b, i, none⟩)) (hj : i + 0 = j) : (execOp ρ o).run prog w = .ok (.value (.pointer (some ⟨b, j, none⟩))) w := by
 subst hj
 unfold execOp; rw [ho]
 simp [hx, go_sem]
theorem XM (ho : o.op = .fieldAddr 115 x 1) (hx : ρ x = .pointer (some ⟨b, i, none⟩)) (hj : i + 4 = j) : (execOp ρ o).run prog w = .ok (.value (.pointer (some ⟨b, j, none⟩))) w := by
 subst hj
 unfold execOp; rw [ho]
 simp [hx, go_sem]
theorem IX (ho : o.op = .fieldAddr 24 x 0) (hx : ρ x = .pointer (some ⟨b, i, none⟩)) (hj : i + 0 = j) : (execOp ρ o).run prog w = .ok (.value (.pointer (some ⟨b, j, none⟩))) w := by
 subst hj
 unfold execOp; rw [ho]
 simp [hx, go_sem]
theorem bG (ho : o.op = .fieldAddr 44 x 0) (hx : ρ x = .pointer (some ⟨b, i, none⟩)) (hj : i + 0 = j) : (execOp ρ o).run prog w = .ok (.value (.pointer (some ⟨b, j, none⟩))) w := by
 subst hj
 unfold execOp; rw [ho]
 simp [hx, go_sem]
theorem KQ (ho : o.op = .fieldAddr 44 x 1) (hx : ρ x = .pointer (some ⟨b, i, none⟩)) (hj : i + 1 = j) : (execOp ρ o).run prog w = .ok (.value (.pointer (some ⟨b, j, none⟩))) w := by
 subst hj
 unfold execOp; rw [ho]
 simp [hx, go_sem]
theorem KP (ho : o.op = .fieldAddr 44 x 2) (hx : ρ x = .pointer (some ⟨b, i, none⟩)) (hj : i + 2 = j) : (execOp ρ o).run prog w = .ok (.value (.pointer (some ⟨b, j, none⟩))) w := by
 subst hj
 unfold execOp; rw [ho]
 simp [hx, go_sem]
theorem XP (ho : o.op = .fieldAddr 56 x 0) (hx : ρ x = .pointer (some ⟨b, i, none⟩)) (hj : i + 0 = j) : (execOp ρ o).run prog w = .ok (.value (.pointer (some ⟨b, j, none⟩))) w := by
 subst hj
 unfold execOp; rw [ho]
 simp [hx, go_sem]
theorem XO (ho : o.op = .fieldAddr 56 x 1) (hx : ρ x = .pointer (some ⟨b, i, none⟩)) (hj : i + 1 = j) : (execOp ρ o).run prog w = .ok (.value (.pointer (some ⟨b, j, none⟩))) w := by
 subst hj
 unfold execOp; rw [ho]
 simp [hx, go_sem]
theorem VC (ho : o.op = .fieldAddr 105 x 0) (hx : ρ x = .pointer (some ⟨b, i, none⟩)) (hj : i + 0 = j) : (execOp ρ o).run prog w = .ok (.value (.pointer (some ⟨b, j, none⟩))) w := by
 subst hj
 unfold execOp; rw [ho]
 simp [hx, go_sem]
theorem VB (ho : o.op = .fieldAddr 105 x 1) (hx : ρ x = .pointer (some ⟨b, i, none⟩)) (hj : i + 1 = j) : (execOp ρ o).run prog w = .ok (.value (.pointer (some ⟨b, j, none⟩))) w := by
 subst hj
 unfold execOp; rw [ho]
 simp [hx, go_sem]
theorem MN (w : World) : (isAgg 28).run prog w = .ok false w := by simp [go_sem]
theorem nJ (w : World) : (isAgg 30).run prog w = .ok false w := by simp [go_sem]
theorem rF (w : World) : (isAgg 9).run prog w = .ok false w := by simp [go_sem]
theorem hZ (w : World) : (isAgg 46).run prog w = .ok false w := by simp [go_sem]
theorem KO (w : World) : (isAgg 32).run prog w = .ok false w := by simp [go_sem]
theorem jG (w : World) : (isAgg 22).run prog w = .ok false w := by simp [go_sem]
theorem YU (w : World) : (isAgg 41).run prog w = .ok false w := by simp [go_sem]
theorem jH (w : World) : (isAgg 42).run prog w = .ok false w := by simp [go_sem]
section
variable {ρ : Operand -> Value} {o : Oper} {w : World}
theorem bK (ho : o.op = .build 88 #[(0, x), (1, y)]) (hx : ρ x = .agg #[.bool n, s, .bool m, u]) (hy : ρ y = .agg (GK M).toArray) (hM : EG M) :
 (execOp ρ o).run prog w = .ok (.value (.agg (IJ n s m u M).toArray)) w := by
 unfold execOp; rw [ho]
 have k : (zeroValue 88).run prog w = .ok (.agg #[.bool false, .slice none 0 0, .bool false, .slice none 0 0, .int .i64 0, .int .i64 0, .int .i64 0, .int .i64 0, .int .i64 0, .int .i64 0, .int .i64 0, .int .i64 0]) w := by kernel_rfl
 obtain ⟨l, _⟩ := hM
 match M, l with
 | [a, b, c, d, e, f, g, h], _ => simp [go_sem, k, hx, hy, GK, IJ]
theorem iU (ho : o.op = .build 88 #[(0, x)]) (hx : ρ x = .agg #[.bool n, s, .bool m, u]) :
 (execOp ρ o).run prog w = .ok (.value (.agg (IJ n s m u zeroM).toArray)) w := by
 unfold execOp; rw [ho]
 have e : (zeroValue 88).run prog w = .ok (.agg #[.bool false, .slice none 0 0, .bool false, .slice none 0 0, .int .i64 0, .int .i64 0, .int .i64 0, .int .i64 0, .int .i64 0, .int .i64 0, .int .i64 0, .int .i64 0]) w := by kernel_rfl
 simp [go_sem, e, hx, GK, IJ, zeroM]
theorem wB (ho : o.op = .build 88 #[]) :
 (execOp ρ o).run prog w = .ok (.value (.agg (IJ false (.slice none 0 0) false (.slice none 0 0) zeroM).toArray)) w := by
 unfold execOp; rw [ho]
 have e : (zeroValue 88).run prog w = .ok (.agg #[.bool false, .slice none 0 0, .bool false, .slice none 0 0, .int .i64 0, .int .i64 0, .int .i64 0, .int .i64 0, .int .i64 0, .int .i64 0, .int .i64 0, .int .i64 0]) w := by kernel_rfl
 simp [go_sem, e, GK, IJ, zeroM]
theorem wG (ho : o.op = .build 67 #[]) : (execOp ρ o).run prog w = .ok (.value (.agg (GK zeroM).toArray)) w := by
 unfold execOp; rw [ho]
 have e : (zeroValue 67).run prog w = .ok (.agg #[.int .i64 0, .int .i64 0, .int .i64 0, .int .i64 0, .int .i64 0, .int .i64 0, .int .i64 0, .int .i64 0]) w := by kernel_rfl
 simp [go_sem, e, GK, zeroM]
theorem TC {id : Int} {n : Nat} (ho : o.op = .build 83 #[(0, x), (1, y)]) (hx : ρ x = .int .i64 id) (hy : ρ y = .slice ao n c) :
 (execOp ρ o).run prog w = .ok (.value (.agg #[.int .i64 id, .slice ao n c])) w := by
 unfold execOp; rw [ho]
 have e : (zeroValue 83).run prog w = .ok (.agg #[.int .i64 0, .slice none 0 0]) w := by kernel_rfl
 simp [go_sem, e, hx, hy]
theorem wI (ho : o.op = .build 83 #[]) : (execOp ρ o).run prog w = .ok (.value (.agg #[.int .i64 0, .slice none 0 0])) w := by
 unfold execOp; rw [ho]
 have e : (zeroValue 83).run prog w = .ok (.agg #[.int .i64 0, .slice none 0 0]) w := by kernel_rfl
 simp [go_sem, e]
theorem wD (ho : o.op = .build 48 #[]) : (execOp ρ o).run prog w = .ok (.value (.agg #[.slice none 0 0, .slice none 0 0, .slice none 0 0, .int .i64 0])) w := by
 unfold execOp; rw [ho]
 simp [go_sem]
theorem OI {k : Nat} {n : Int} (ho : o.op = .build 48 #[(0, x), (3, y)]) (hx : ρ x = .slice ao k c) (hy : ρ y = .int .i64 n) : (execOp ρ o).run prog w = .ok (.value (.agg #[.slice ao k c, .slice none 0 0, .slice none 0 0, .int .i64 n])) w := by
 unfold execOp; rw [ho]
 simp [go_sem, hx, hy]
theorem sR (ho : o.op = .build 115 #[]) : (execOp ρ o).run prog w = .ok (.value (.agg #[.slice none 0 0, .slice none 0 0, .slice none 0 0, .int .i64 0, .int .i64 0])) w := by
 unfold execOp; rw [ho]
 have e : (zeroValue 115).run prog w = .ok (.agg #[.slice none 0 0, .slice none 0 0, .slice none 0 0, .int .i64 0, .int .i64 0]) w := by kernel_rfl
 simp [go_sem, e]
theorem Mm {T : TypeId} {n : Nat} (ho : o.op = .call { callee := .builtin .len, args := #[x], argTypes := #[T] }) (hT : P.underlying T = some (.slice t)) (hx : ρ x = .slice ao n c) : (execOp ρ o).run P w = .ok (.value (.int .i64 n)) w := by
 unfold execOp; rw [ho]
 simp [hx, Builtin.lenOf, go_sem, hT]
theorem Mp {a b : Bs} (ho : o.op = .binOp .add t x y t') (hx : ρ x = .string (bs a)) (hy : ρ y = .string (bs b)) (hs : a.length + b.length <= 9223372036854775807) : (execOp ρ o).run P w = .ok (.value (.string (bs (a ++ b)))) w := by
 rw [<- A7]; exact TY ho hx hy (by rw [GA, GA]; exact hs)
theorem FT {a b : Bs} {c : Bool} (ho : o.op = .binOp .eql t x y t') (hx : ρ x = .string (bs a)) (hy : ρ y = .string (bs b)) (hc : (a == b) = c) : (execOp ρ o).run P w = .ok (.value (.bool c)) w :=
 VZ ho hx hy (by rw [FW, FW]; exact hc)
theorem HJ {a b : Bs} {c : Bool} (ho : o.op = .binOp .neq t x y t') (hx : ρ x = .string (bs a)) (hy : ρ y = .string (bs b)) (hc : (a != b) = c) : (execOp ρ o).run P w = .ok (.value (.bool c)) w :=
 Su ho hx hy (by rw [FW, FW]; exact hc)
theorem Mo {a : Bs} (ho : o.op = .call { callee := .builtin .len, args := #[x], argTypes := #[9] }) (hx : ρ x = .string (bs a)) : (execOp ρ o).run prog w = .ok (.value (.int .i64 ↑a.length)) w := by
 have := vY (w := w) ho hx
 rwa [GA] at this
theorem Qo (a : Bs) (j : Nat) : (bs a)[j]? = a[j]? := by
 have e := GA a
 by_cases h : j < a.length
 . rw [List.getElem?_eq_getElem h, getElem?_pos (bs a) j AA]
   congr 1
 rw [List.getElem?_eq_none AA, getElem?_neg (bs a) j AA]
theorem Sv {T : TypeId} {a : Bs} {kk : IntKind} {b : UInt8} (ho : o.op = .index T x y) (hT : P.underlying T = some .string) (hx : ρ x = .string (bs a)) (hy : ρ y = .int kk J) (hJ : J = (j : Int)) (hb : a[j]? = some b) :
 (execOp ρ o).run P w = .ok (.value (.int .u8 ↑b.toNat)) w :=
 IC ho hT hx hy hJ (by rw [Qo]; exact hb)
def Dy (ao : Option Addr) (k : Nat) (same : Bool) : Option Addr := if same then ao else ao.map (·.add k)
theorem IQ (ho : o.op = .slice T x (some y) none none) (hT : P.underlying T = some (.slice e)) (hs : (P.info? e).map (·.size) = some sz) (hx : ρ x = .slice ao len cap) (hy : ρ y = .int .i64 J) (hJ : J = (i : Int)) (hi : i <= len)
 (ha : Dy ao (i * sz) (decide (cap = i)) = ao') : (execOp ρ o).run P w = .ok (.value (.slice ao' (len - i) (cap - i))) w := by
 subst hJ ha
 unfold execOp; rw [ho]
 cases f : P.info? e with
 | none => simp [f] at hs
 | some inf =>
   simp [f] at hs
   simp [hx, hy, Instr.sliceAt, Instr.slice, run_underlying hT, Instr.sliceBounds, Instr.sliceBound, asIntOf, sizeOf, typeInfo, f, hs, hi, Dy]
theorem QQ (ho : o.op = .slice T x none (some y) none) (hT : P.underlying T = some (.slice e)) (hs : (P.info? e).map (·.size) = some sz) (hx : ρ x = .slice ao len cap) (hy : ρ y = .int .i64 J) (hJ : J = (i : Int)) (hi : i <= cap) :
 (execOp ρ o).run P w = .ok (.value (.slice ao i cap)) w := by
 subst hJ
 unfold execOp; rw [ho]
 cases f : P.info? e with
 | none => simp [f] at hs
 | some inf =>
   simp [f] at hs
   simp [hx, hy, Instr.sliceAt, Instr.slice, run_underlying hT, Instr.sliceBounds, Instr.sliceBound, asIntOf, sizeOf, typeInfo, f, hi, Addr.add]
end
theorem EE : TU [] := fun c hc => by cases hc
theorem CL (h : ∀ k, v ≠ .int .u32 k) (hl : TU l) : TU (v :: l) := by
 intro c f k e
 rcases List.mem_cons.1 f with rfl | f
 . exact h k e
 exact hl c f k e
theorem EK : ∀ v ∈ ([] : List Value), v.oneCell' = true := fun c hc => by cases hc
theorem CK {v : Value} {l : List Value} (h : v.oneCell' = true) (hl : ∀ u ∈ l, u.oneCell' = true) : ∀ u ∈ v :: l, u.oneCell' = true := by
 intro c e
 rcases List.mem_cons.1 e with rfl | e
 . exact h
 exact hl c e
theorem Acc.nw {e : El α} {t : Nat} {l : List α} (h : Acc e t base S w v l) : ∀ k, v ≠ .int .u32 k := by
 obtain ⟨o, f, rfl⟩ := h.shp
 intro k e; cases e
theorem Sw (a b c d e : Value) : ∀ (j : Nat) x, [a, b, c, d][j]? = some x -> [a, b, c, d, e][0 + j]? = some x := by
 intro j x h
 rw [Nat.zero_add]
 match j, h with
 | 0, h | 1, h | 2, h | 3, h => exact h
 | j + 4, h => simp at h
theorem Ah (h : EG M) (hi : i < 8) : (IJ n s m u M)[4 + i * 1]? = some (.int .i64 ↑(me M i)) := by
 have := EJ h hi
 rw [Nat.zero_add] at this
 rw [Nat.add_comm]; exact this
theorem Du : (IJ n s m u M).set (4 + i * 1) (.int .i64 ↑e) = IJ n s m u (M.set i e) := by
 rw [Nat.add_comm, Nat.mul_one]
 unfold IJ GK
 simp [List.map_set]
theorem sO {a : Addr} (ho : o.op = .nilCheck x) (hx : ρ x = .pointer (some a)) : (execOp ρ o).run P w = .ok (.value (.pointer (some a))) w := by
 unfold execOp; rw [ho]; simp [hx, go_sem]
theorem qI : (prog.info? 3).map (·.size) = some 1 := by kernel_rfl
theorem NQ {e : El α} {n : Nat} {l : List α} (h : IsR e S w (.slice ao n cap) l) (hi : i <= l.length) (ha : Dy ao (i * e.sz) (decide (cap = i)) = ao') : IsR e S w (.slice ao' (n - i) (cap - i)) (l.drop i) := by
 subst ha
 obtain ⟨v, o, p, z, y, t⟩ := h
 cases p
 refine ⟨_, cap - i, by rw [List.length_drop], by rw [List.length_drop]; omega, by omega, fun j x k => ?_⟩
 rw [List.getElem?_drop] at k
 have q := (List.getElem?_eq_some_iff.1 k).1
 obtain ⟨u, f, cs, e1, e2, e3, e4⟩ := t (i + j) x k
 subst e1
 refine ⟨u, f + i * e.sz, cs, ?_, e2, by rw [Nat.add_assoc, <- Nat.add_mul]; exact e3, e4⟩
 unfold Dy
 rw [decide_eq_false AA, if_neg AH]
 simp [Addr.add_mid]
section
variable {P : Program} {o : Oper} {a : Act} {w : World} {K : Act -> World -> Prop} {Q : Exit -> Act -> World -> Prop}
theorem PS {t bytes : Nat} {e : El α} (R : RowT e T t bytes) (ho : o.op = .buildSlice T 0 #[])
 (h : ∀ b w', b = w.heap.size -> w'.heap.size = w.heap.size + 1 -> Below w.heap.size w w' -> Bx w' b t [] -> K (a.put o.dst (.slice (some ⟨b, 0, none⟩) 0 0)) w') : o.wp prog a w K Q := by
 obtain ⟨i, z, e1, e2, e3, e4, e5, e6⟩ := R.info
 refine DO (v := .slice (some ⟨w.heap.size, 0, none⟩) 0 0) (w' := w.alloc (.cells #[] t)) ?_ (h _ _ O AH ((Below.refl _ _).alloc (Nat.le_refl _) _) (JD w t []))
 unfold execOp; rw [ho]
 have f : Array.map (fun _ : Nat => (default : Value)) (Array.range 0) = #[] := by simp
 simp [Instr.buildSlice, run_underlying R.ht, sizeOf, typeInfo, e1, Instr.fill, newRow, newObj, f]
 rfl
theorem JX {s : ByteArray} (ho : o.op = .buildSlice 30 1 #[(0, x)]) (hx : a.eval x = .string s)
 (h : ∀ b w', b = w.heap.size -> w'.heap.size = w.heap.size + 1 -> Below w.heap.size w w' -> Bx w' b 9 [.string s] -> K (a.put o.dst (.slice (some ⟨b, 0, none⟩) 1 1)) w') : o.wp prog a w K Q := by
 refine DO (v := .slice (some ⟨w.heap.size, 0, none⟩) 1 1) (w' := w.alloc (.cells #[.string s] 9)) ?_ (h _ _ O AH ((Below.refl _ _).alloc (Nat.le_refl _) _) (JD w _ [.string s]))
 unfold execOp; rw [ho]
 have f : ∀ w, (zeroValue 9).run prog w = .ok (.string ByteArray.empty) w := fun w => by kernel_rfl
 have k : ∀ w, (sizeOf 9).run prog w = .ok 1 w := fun w => by kernel_rfl
 have l : Instr.fill (fun i => some (i * 1, 1)) #[(default : Value)] [(0, Value.string s)] = some #[.string s] := rfl
 have e : Instr.fill (fun i => some (i * 1, 1)) #[Value.string ByteArray.empty] [(0, Value.string s)] = some #[.string s] := rfl
 have p : ∀ z : Value, Array.map (fun _ : Nat => z) (Array.range 1) = #[z] := fun z => by rw [show Array.range 1 = #[0] by decide]; simp
 simp only [Nat.mul_one] at l e
 simp [Instr.buildSlice, run_underlying underlying30, k, f, hx, Value.cells, Nat.mod_one, p, e, newRow, newObj]
 rfl
theorem KK {z : Value} (hz : (P.info? T).map (fun i => i.zero) = some (some z)) (hc : z.cells = #[z]) (ho : o.op = .alloc T)
 (h : ∀ b w', b = w.heap.size -> w'.heap.size = w.heap.size + 1 -> Below w.heap.size w w' -> Bx w' b T [z] -> K (a.put o.dst (.pointer (some ⟨b, 0, none⟩))) w') : o.wp P a w K Q := by
 refine DO (v := .pointer (some ⟨w.heap.size, 0, none⟩)) (w' := w.alloc (.cells #[z] T)) ?_ (h _ _ O AH ((Below.refl _ _).alloc (Nat.le_refl _) _) (JD w T [z]))
 unfold execOp; rw [ho]
 cases e : P.info? T with
 | none => simp [e] at hz
 | some i =>
   simp [e] at hz
   simp [Instr.alloc, zeroValue, typeInfo, e, hz, newVar, newRow, Sem.run_bind, hc, newObj]
   rfl
theorem uW (ho : o.op = .box T x) (hx : a.eval x = v) (hc : v.cells = #[v])
 (h : ∀ b w', b = w.heap.size -> w'.heap.size = w.heap.size + 1 -> Below w.heap.size w w' -> Bx w' b T [v] -> K (a.put o.dst (.pointer (some ⟨b, 0, none⟩))) w') : o.wp P a w K Q := by
 refine DO (v := .pointer (some ⟨w.heap.size, 0, none⟩)) (w' := w.alloc (.cells #[v] T)) ?_ (h _ _ O AH ((Below.refl _ _).alloc (Nat.le_refl _) _) (JD w T [v]))
 unfold execOp; rw [ho]
 simp [Instr.box, hx, newVar, newRow, hc, newObj]
 rfl
theorem MU {n TB : Nat} {zs : List Value} {ds cs' : List Value} (hA : Ag P T n zs) (ho : o.op = .store T x y) (hx : a.eval x = .pointer (some ⟨b, i, none⟩)) (hy : a.eval y = .agg ds.toArray)
 (hb : Bx w b TB cs) (hd : ds.length = n) (hi : i + n <= cs.length) (h1 : ∀ v ∈ ds, v.oneCell' = true) (hcs : cs.take i ++ ds ++ cs.drop (i + n) = cs')
 (h : ∀ w', Onl b w w' -> Bx w' b TB cs' -> K (a.put o.dst undef) w') : o.wp P a w K Q := by
 subst hcs
 have e := hA.size
 have k := run_storeCells_at (P := P) b i TB ds 0 cs.toArray w hb (by simp; omega) h1
 simp only [Nat.add_zero, hd] at k
 unfold Oper.wp execOp
 cases f : P.info? T with
 | none => simp [f] at e
 | some inf =>
   simp [f] at e
   simp only [ho, hx, hy, Instr.storeAt, Instr.sureAddr, Sem.run_bind, Sem.run_pure, Result.andThen_ok, storeVar, Value.cells, sizeOf, typeInfo]
   simp [f, e, hd, k, Oper.upon]
   exact h _ (OD _ _ _) (by simpa using aJ hb _)
end
def uN (w0 : World) (F : World -> Value -> Prop) (e : Ending) (w' : World) : Prop := ∃ v, e = .returned v /\ F w' v /\ Below w0.heap.size w0 w'
section
variable {P : Program} {o : Oper} {a : Act} {w : World} {K : Act -> World -> Prop} {Q : Exit -> Act -> World -> Prop} {f : Nat} {args : List Operand} {tys : Array TypeId} {vs : List Value} {l : List SF}
theorem CZ {F : World -> Value -> Prop} (hf : Fn P f) (ho : o.op = .call { callee := .value (.func f), args := args.toArray, argTypes := tys }) (hc : Calls P f vs.toArray w (uN w F)) (hv : args.map a.eval = vs) (E : Env w l)
 (h : ∀ w' v, Below w.heap.size w w' -> F w' v -> Env w' l -> K (a.put o.dst v) w') : o.wp P a w K Q := by
 refine DG hf ho hc hv ?_
 rintro e w' ⟨v, rfl, p, k⟩
 exact ⟨_, rfl, h w' v k p (E.below k)⟩
end
def NewP (w0 : World) (p : List Tm) (w' : World) (v : Value) : Prop := IsR JL (EY w0.heap.size w'.heap.size) w' v p
def yT (w0 : World) (p : List Tm) : Ending -> World -> Prop := uN w0 (NewP w0 p)
def C5 (w0 : World) (p : List Tm) (c : Int) : Ending -> World -> Prop := uN w0 fun w' v => ∃ u, v = .tuple #[u, .int .i64 c] /\ NewP w0 p w' u
def Xo (w0 : World) (r : Rd) : Ending -> World -> Prop := uN w0 fun w' v => ∃ u, v = .tuple #[u, .int .i64 ↑r.2.1, .int .i64 ↑r.2.2] /\ NewP w0 r.1 w' u
theorem GJ {f : SF} (E : Env w L) (h : f.p w) : Env w (f :: L) := ⟨h, E⟩
theorem QU {o : Nat} (h : c ≠ b) : (fC b o cs).ok c := h
theorem DP {e : El α} {l : List α} (h : ¬ S c) : (fR e S v l).ok c := h
theorem IsR.low {e : El α} {l : List α} (h : (fR e S v l).p w) : IsR e (CX w.heap.size) w v l := h.1.mono h.2
theorem DF (w : World) : ∀ k, CX w.heap.size k -> k < w.heap.size := fun _ h => h
theorem QL (w : World) : ∀ k, VH k -> k < w.heap.size := fun _ g => g.elim
theorem Ty : ∀ k, VH k -> EY a b k := fun _ g => g.elim
theorem NewP.up {w1 w2 w3 : World} {p : List Tm} (h : (fR JL (EY w1.heap.size w2.heap.size) v p).p w3) (h1 : w0.heap.size <= w1.heap.size) : NewP w0 p w3 v := h.1.mono fun k hk => ⟨Nat.le_trans h1 hk.1, h.2 k hk⟩
theorem oW {p : List Tm} (h : Acc JL 88 base VH w v p) (hb : w0.heap.size <= base) : NewP w0 p w v := h.row Ty fun _ h1 h2 _ => ⟨Nat.le_trans hb h1, h2⟩
section
variable {P : Program} {w : World} {l : List Value} {v : Value} {x y c t : Operand} {k : IntKind} {m n : Int} {b : Bool} {tt tt' ty T : TypeId} {d : Option Nat} {ps : String} {af : Array Edge} {g : Option (Nat × Bool)}
theorem rLenB {a : Bs} (hx : JM l x = some (.string (bs a))) : (execOp (LO l) ⟨d, .call { callee := .builtin .len, args := #[x], argTypes := #[9] }, ty, ps, af, g⟩).run prog w = .ok (.value (.int .i64 ↑a.length)) w := Mo rfl (CQ hx)
theorem rLenR {T t : TypeId} {n c : Nat} (hT : P.underlying T = some (.slice t)) (hx : JM l x = some (.slice ao n c)) : (execOp (LO l) ⟨d, .call { callee := .builtin .len, args := #[x], argTypes := #[T] }, ty, ps, af, g⟩).run P w = .ok (.value (.int .i64 ↑n)) w := Mm rfl hT (CQ hx)
theorem rNil {a : Addr} (hx : JM l x = some (.pointer (some a))) : (execOp (LO l) ⟨d, .nilCheck x, ty, ps, af, g⟩).run P w = .ok (.value (.pointer (some a))) w := sO rfl (CQ hx)
theorem rCat {a b : Bs} (hx : JM l x = some (.string (bs a))) (hy : JM l y = some (.string (bs b))) (hs : a.length + b.length <= 9223372036854775807) : (execOp (LO l) ⟨d, .binOp .add tt x y tt', ty, ps, af, g⟩).run P w = .ok (.value (.string (bs (a ++ b)))) w := Mp rfl (CQ hx) (CQ hy) hs
theorem rIxB {a : Bs} {b : UInt8} (hx : JM l x = some (.string (bs a))) (hy : JM l y = some (.int k ((j : Nat) : Int))) (hb : a[j]? = some b) : (execOp (LO l) ⟨d, .index 9 x y, ty, ps, af, g⟩).run prog w = .ok (.value (.int .u8 ↑b.toNat)) w := Sv rfl underlying9 (CQ hx) (CQ hy) rfl hb
theorem rIdxM {h o : Nat} (hx : JM l x = some (.pointer (some ⟨h, o, none⟩))) (hy : JM l y = some (.int .i64 ↑j)) (hj : j < 8) : (execOp (LO l) ⟨d, .indexAddr 67 x y, ty, ps, af, g⟩).run prog w = .ok (.value (.pointer (some ⟨h, o + j * 1, none⟩))) w := EA (j := j) rfl underlying67 Z (CQ hx) (CQ hy) rfl hj
section
variable {h j o TB : Nat} {cs : List Value}
theorem Td (hx : JM l x = some (.pointer (some ⟨h, j, none⟩))) (hb : Bx w h TB cs) (hi : cs[j]? = some v) : (execOp (LO l) ⟨d, .load 28 x, ty, ps, af, g⟩).run prog w = .ok (.value v) w := CP rfl MN (CQ hx) hb hi
theorem Ta (hx : JM l x = some (.pointer (some ⟨h, a, none⟩))) (hb : (fC h o cs).p w) (ha : a = o + j) (hi : cs[j]? = some v) : (execOp (LO l) ⟨d, .load 28 x, ty, ps, af, g⟩).run prog w = .ok (.value v) w := by subst ha; exact FX rfl MN (CQ hx) (hb.1 j _ hi)
theorem Tc (hx : JM l x = some (.pointer (some ⟨h, j, none⟩))) (hb : Bx w h TB cs) (hi : cs[j]? = some v) : (execOp (LO l) ⟨d, .load 30 x, ty, ps, af, g⟩).run prog w = .ok (.value v) w := CP rfl nJ (CQ hx) hb hi
theorem Sz (hx : JM l x = some (.pointer (some ⟨h, a, none⟩))) (hb : (fC h o cs).p w) (ha : a = o + j) (hi : cs[j]? = some v) : (execOp (LO l) ⟨d, .load 30 x, ty, ps, af, g⟩).run prog w = .ok (.value v) w := by subst ha; exact FX rfl nJ (CQ hx) (hb.1 j _ hi)
theorem Yo (hx : JM l x = some (.pointer (some ⟨h, j, none⟩))) (hb : Bx w h TB cs) (hi : cs[j]? = some v) : (execOp (LO l) ⟨d, .load 9 x, ty, ps, af, g⟩).run prog w = .ok (.value v) w := CP rfl rF (CQ hx) hb hi
theorem Yj (hx : JM l x = some (.pointer (some ⟨h, a, none⟩))) (hb : (fC h o cs).p w) (ha : a = o + j) (hi : cs[j]? = some v) : (execOp (LO l) ⟨d, .load 9 x, ty, ps, af, g⟩).run prog w = .ok (.value v) w := by subst ha; exact FX rfl rF (CQ hx) (hb.1 j _ hi)
theorem Yq (hx : JM l x = some (.pointer (some ⟨h, j, none⟩))) (hb : Bx w h TB cs) (hi : cs[j]? = some v) : (execOp (LO l) ⟨d, .load 46 x, ty, ps, af, g⟩).run prog w = .ok (.value v) w := CP rfl hZ (CQ hx) hb hi
theorem Yl (hx : JM l x = some (.pointer (some ⟨h, a, none⟩))) (hb : (fC h o cs).p w) (ha : a = o + j) (hi : cs[j]? = some v) : (execOp (LO l) ⟨d, .load 46 x, ty, ps, af, g⟩).run prog w = .ok (.value v) w := by subst ha; exact FX rfl hZ (CQ hx) (hb.1 j _ hi)
theorem Ng (hx : JM l x = some (.pointer (some ⟨h, j, none⟩))) (hb : Bx w h TB cs) (hi : cs[j]? = some v) : (execOp (LO l) ⟨d, .load 32 x, ty, ps, af, g⟩).run prog w = .ok (.value v) w := CP rfl KO (CQ hx) hb hi
theorem Nb (hx : JM l x = some (.pointer (some ⟨h, a, none⟩))) (hb : (fC h o cs).p w) (ha : a = o + j) (hi : cs[j]? = some v) : (execOp (LO l) ⟨d, .load 32 x, ty, ps, af, g⟩).run prog w = .ok (.value v) w := by subst ha; exact FX rfl KO (CQ hx) (hb.1 j _ hi)
theorem Yp (hx : JM l x = some (.pointer (some ⟨h, j, none⟩))) (hb : Bx w h TB cs) (hi : cs[j]? = some v) : (execOp (LO l) ⟨d, .load 3 x, ty, ps, af, g⟩).run prog w = .ok (.value v) w := CP rfl CW (CQ hx) hb hi
theorem Yk (hx : JM l x = some (.pointer (some ⟨h, a, none⟩))) (hb : (fC h o cs).p w) (ha : a = o + j) (hi : cs[j]? = some v) : (execOp (LO l) ⟨d, .load 3 x, ty, ps, af, g⟩).run prog w = .ok (.value v) w := by subst ha; exact FX rfl CW (CQ hx) (hb.1 j _ hi)
theorem Te (hx : JM l x = some (.pointer (some ⟨h, j, none⟩))) (hb : Bx w h TB cs) (hi : cs[j]? = some v) : (execOp (LO l) ⟨d, .load 4 x, ty, ps, af, g⟩).run prog w = .ok (.value v) w := CP rfl bW (CQ hx) hb hi
theorem Tb (hx : JM l x = some (.pointer (some ⟨h, a, none⟩))) (hb : (fC h o cs).p w) (ha : a = o + j) (hi : cs[j]? = some v) : (execOp (LO l) ⟨d, .load 4 x, ty, ps, af, g⟩).run prog w = .ok (.value v) w := by subst ha; exact FX rfl bW (CQ hx) (hb.1 j _ hi)
theorem Nh (hx : JM l x = some (.pointer (some ⟨h, j, none⟩))) (hb : Bx w h TB cs) (hi : cs[j]? = some v) : (execOp (LO l) ⟨d, .load 42 x, ty, ps, af, g⟩).run prog w = .ok (.value v) w := CP rfl jH (CQ hx) hb hi
theorem Nc (hx : JM l x = some (.pointer (some ⟨h, a, none⟩))) (hb : (fC h o cs).p w) (ha : a = o + j) (hi : cs[j]? = some v) : (execOp (LO l) ⟨d, .load 42 x, ty, ps, af, g⟩).run prog w = .ok (.value v) w := by subst ha; exact FX rfl jH (CQ hx) (hb.1 j _ hi)
theorem Nf (hx : JM l x = some (.pointer (some ⟨h, j, none⟩))) (hb : Bx w h TB cs) (hi : cs[j]? = some v) : (execOp (LO l) ⟨d, .load 22 x, ty, ps, af, g⟩).run prog w = .ok (.value v) w := CP rfl jG (CQ hx) hb hi
theorem Na (hx : JM l x = some (.pointer (some ⟨h, a, none⟩))) (hb : (fC h o cs).p w) (ha : a = o + j) (hi : cs[j]? = some v) : (execOp (LO l) ⟨d, .load 22 x, ty, ps, af, g⟩).run prog w = .ok (.value v) w := by subst ha; exact FX rfl jG (CQ hx) (hb.1 j _ hi)
theorem Nd (hx : JM l x = some (.pointer (some ⟨h, j, none⟩))) (hb : Bx w h TB cs) (hi : cs[j]? = some v) : (execOp (LO l) ⟨d, .load 41 x, ty, ps, af, g⟩).run prog w = .ok (.value v) w := CP rfl YU (CQ hx) hb hi
theorem Mz (hx : JM l x = some (.pointer (some ⟨h, a, none⟩))) (hb : (fC h o cs).p w) (ha : a = o + j) (hi : cs[j]? = some v) : (execOp (LO l) ⟨d, .load 41 x, ty, ps, af, g⟩).run prog w = .ok (.value v) w := by subst ha; exact FX rfl YU (CQ hx) (hb.1 j _ hi)
theorem rL_R (hx : JM l x = some (.pointer (some ⟨h, 0, none⟩))) (hb : Bx w h 64 cs) (hn : cs.length = 4) : (execOp (LO l) ⟨d, .load 64 x, ty, ps, af, g⟩).run prog w = .ok (.value (.agg cs.toArray)) w := CY GP rfl (CQ hx) hb hn
theorem rL_E (hx : JM l x = some (.pointer (some ⟨h, 0, none⟩))) (hb : Bx w h 83 cs) (hn : cs.length = 2) : (execOp (LO l) ⟨d, .load 83 x, ty, ps, af, g⟩).run prog w = .ok (.value (.agg cs.toArray)) w := CY NH rfl (CQ hx) hb hn
theorem rL_Sy (hx : JM l x = some (.pointer (some ⟨h, 0, none⟩))) (hb : Bx w h 48 cs) (hn : cs.length = 4) : (execOp (LO l) ⟨d, .load 48 x, ty, ps, af, g⟩).run prog w = .ok (.value (.agg cs.toArray)) w := CY OU rfl (CQ hx) hb hn
theorem rL_T (hx : JM l x = some (.pointer (some ⟨h, 0, none⟩))) (hb : Bx w h 88 cs) (hn : cs.length = 12) : (execOp (LO l) ⟨d, .load 88 x, ty, ps, af, g⟩).run prog w = .ok (.value (.agg cs.toArray)) w := CY KL rfl (CQ hx) hb hn
theorem rL_M (hx : JM l x = some (.pointer (some ⟨h, 0, none⟩))) (hb : Bx w h 67 cs) (hn : cs.length = 8) : (execOp (LO l) ⟨d, .load 67 x, ty, ps, af, g⟩).run prog w = .ok (.value (.agg cs.toArray)) w := CY QN rfl (CQ hx) hb hn
theorem pD (hx : JM l x = some (.pointer (some ⟨h, j, none⟩))) (hj : j + 0 = o) : (execOp (LO l) ⟨d, .fieldAddr 88 x 0, ty, ps, af, g⟩).run prog w = .ok (.value (.pointer (some ⟨h, o, none⟩))) w := IU rfl (CQ hx) hj
theorem pC (hx : JM l x = some (.pointer (some ⟨h, j, none⟩))) (hj : j + 4 = o) : (execOp (LO l) ⟨d, .fieldAddr 88 x 1, ty, ps, af, g⟩).run prog w = .ok (.value (.pointer (some ⟨h, o, none⟩))) w := PY rfl (CQ hx) hj
theorem sW (hx : JM l x = some (.pointer (some ⟨h, j, none⟩))) (hj : j + 0 = o) : (execOp (LO l) ⟨d, .fieldAddr 64 x 0, ty, ps, af, g⟩).run prog w = .ok (.value (.pointer (some ⟨h, o, none⟩))) w := jP rfl (CQ hx) hj
theorem sV (hx : JM l x = some (.pointer (some ⟨h, j, none⟩))) (hj : j + 2 = o) : (execOp (LO l) ⟨d, .fieldAddr 64 x 1, ty, ps, af, g⟩).run prog w = .ok (.value (.pointer (some ⟨h, o, none⟩))) w := jO rfl (CQ hx) hj
theorem dN (hx : JM l x = some (.pointer (some ⟨h, j, none⟩))) (hj : j + 0 = o) : (execOp (LO l) ⟨d, .fieldAddr 83 x 0, ty, ps, af, g⟩).run prog w = .ok (.value (.pointer (some ⟨h, o, none⟩))) w := YH rfl (CQ hx) hj
theorem dM (hx : JM l x = some (.pointer (some ⟨h, j, none⟩))) (hj : j + 1 = o) : (execOp (LO l) ⟨d, .fieldAddr 83 x 1, ty, ps, af, g⟩).run prog w = .ok (.value (.pointer (some ⟨h, o, none⟩))) w := YG rfl (CQ hx) hj
theorem jT (hx : JM l x = some (.pointer (some ⟨h, j, none⟩))) (hj : j + 0 = o) : (execOp (LO l) ⟨d, .fieldAddr 48 x 0, ty, ps, af, g⟩).run prog w = .ok (.value (.pointer (some ⟨h, o, none⟩))) w := bJ rfl (CQ hx) hj
theorem jS (hx : JM l x = some (.pointer (some ⟨h, j, none⟩))) (hj : j + 1 = o) : (execOp (LO l) ⟨d, .fieldAddr 48 x 1, ty, ps, af, g⟩).run prog w = .ok (.value (.pointer (some ⟨h, o, none⟩))) w := bI rfl (CQ hx) hj
theorem jR (hx : JM l x = some (.pointer (some ⟨h, j, none⟩))) (hj : j + 2 = o) : (execOp (LO l) ⟨d, .fieldAddr 48 x 2, ty, ps, af, g⟩).run prog w = .ok (.value (.pointer (some ⟨h, o, none⟩))) w := bH rfl (CQ hx) hj
theorem jQ (hx : JM l x = some (.pointer (some ⟨h, j, none⟩))) (hj : j + 3 = o) : (execOp (LO l) ⟨d, .fieldAddr 48 x 3, ty, ps, af, g⟩).run prog w = .ok (.value (.pointer (some ⟨h, o, none⟩))) w := TA rfl (CQ hx) hj
theorem bO (hx : JM l x = some (.pointer (some ⟨h, j, none⟩))) (hj : j + 0 = o) : (execOp (LO l) ⟨d, .fieldAddr 115 x 0, ty, ps, af, g⟩).run prog w = .ok (.value (.pointer (some ⟨h, o, none⟩))) w := XN rfl (CQ hx) hj
theorem bN (hx : JM l x = some (.pointer (some ⟨h, j, none⟩))) (hj : j + 4 = o) : (execOp (LO l) ⟨d, .fieldAddr 115 x 1, ty, ps, af, g⟩).run prog w = .ok (.value (.pointer (some ⟨h, o, none⟩))) w := XM rfl (CQ hx) hj
theorem YM (hx : JM l x = some (.pointer (some ⟨h, j, none⟩))) (hj : j + 0 = o) : (execOp (LO l) ⟨d, .fieldAddr 105 x 0, ty, ps, af, g⟩).run prog w = .ok (.value (.pointer (some ⟨h, o, none⟩))) w := VC rfl (CQ hx) hj
theorem YL (hx : JM l x = some (.pointer (some ⟨h, j, none⟩))) (hj : j + 1 = o) : (execOp (LO l) ⟨d, .fieldAddr 105 x 1, ty, ps, af, g⟩).run prog w = .ok (.value (.pointer (some ⟨h, o, none⟩))) w := VB rfl (CQ hx) hj
end
end
theorem okAl {e : El α} {t : Nat} {L : List α} (h : (fA e t base S v L).p w) (hc : c < base) (hs : ¬ S c) : (fA e t base S v L).ok c := NK (fun g => by have := (Acc.lt h.1 g).1; omega) hs
theorem zU (h : p := by first | exact underlying28 | exact underlying30 | exact underlying46 | exact underlying42 | exact underlying60 | exact underlying152 | exact underlying22 | exact underlying41 | fail) : p := h
theorem zO (h : a = b + c := by first | exact (Nat.add_zero _).symm | exact rfl | fail) : a = b + c := h
theorem yR (h : p := by first
 | (with_reducible apply rLenB); exact rfl
 | exact zR
 | (with_reducible apply rLenR); exact zU; exact rfl
 | (with_reducible apply rNil); exact rfl
 | (with_reducible apply rCat); exact rfl; exact rfl; (try simp only [List.length_append, List.length_cons, List.length_nil]); omega
 | (with_reducible apply rIxB); exact rfl; exact rfl; assumption
 | (with_reducible apply rIdxM); exact rfl; exact rfl; omega
 | (with_reducible apply Td); exact rfl; exact zA; exact rfl
 | (with_reducible apply Ta); exact rfl; exact zA; exact zO; exact rfl
 | (with_reducible apply Tc); exact rfl; exact zA; exact rfl
 | (with_reducible apply Sz); exact rfl; exact zA; exact zO; exact rfl
 | (with_reducible apply Yo); exact rfl; exact zA; exact rfl
 | (with_reducible apply Yj); exact rfl; exact zA; exact zO; exact rfl
 | (with_reducible apply Yq); exact rfl; exact zA; exact rfl
 | (with_reducible apply Yl); exact rfl; exact zA; exact zO; exact rfl
 | (with_reducible apply Ng); exact rfl; exact zA; exact rfl
 | (with_reducible apply Nb); exact rfl; exact zA; exact zO; exact rfl
 | (with_reducible apply Yp); exact rfl; exact zA; exact rfl
 | (with_reducible apply Yk); exact rfl; exact zA; exact zO; exact rfl
 | (with_reducible apply Te); exact rfl; exact zA; exact rfl
 | (with_reducible apply Tb); exact rfl; exact zA; exact zO; exact rfl
 | (with_reducible apply Nh); exact rfl; exact zA; exact rfl
 | (with_reducible apply Nc); exact rfl; exact zA; exact zO; exact rfl
 | (with_reducible apply Nf); exact rfl; exact zA; exact rfl
 | (with_reducible apply Na); exact rfl; exact zA; exact zO; exact rfl
 | (with_reducible apply Nd); exact rfl; exact zA; exact rfl
 | (with_reducible apply Mz); exact rfl; exact zA; exact zO; exact rfl
 | (with_reducible apply rL_R); exact rfl; exact zA; exact rfl
 | (with_reducible apply rL_E); exact rfl; exact zA; exact rfl
 | (with_reducible apply rL_Sy); exact rfl; exact zA; exact rfl
 | (with_reducible apply rL_T); exact rfl; exact zA; first | exact rfl | exact CM (by assumption) | exact DC (by assumption) | fail
 | (with_reducible apply rL_M); exact rfl; exact zA; first | exact rfl | exact CM (by assumption) | exact DC (by assumption) | fail
 | (with_reducible apply pD); exact rfl; exact rfl
 | (with_reducible apply pC); exact rfl; exact rfl
 | (with_reducible apply sW); exact rfl; exact rfl
 | (with_reducible apply sV); exact rfl; exact rfl
 | (with_reducible apply dN); exact rfl; exact rfl
 | (with_reducible apply dM); exact rfl; exact rfl
 | (with_reducible apply jT); exact rfl; exact rfl
 | (with_reducible apply jS); exact rfl; exact rfl
 | (with_reducible apply jR); exact rfl; exact rfl
 | (with_reducible apply jQ); exact rfl; exact rfl
 | (with_reducible apply bO); exact rfl; exact rfl
 | (with_reducible apply bN); exact rfl; exact rfl
 | (with_reducible apply YM); exact rfl; exact rfl
 | (with_reducible apply YL); exact rfl; exact rfl
 | exact wB rfl
 | exact wG rfl
 | exact wI rfl
 | exact wD rfl
 | exact sR rfl
 | fail) : p := h
section
variable {Q : Exit -> Act -> World -> Prop} {ops : Array Oper} {rest : List Oper} {md : Region.Mode} {S1 S2 : World -> Prop} {sch : List Nat} {r : List Oper} {o : Oper} {w : World} {l : List Value} {i q : Nat} {ao : Option Addr} {b off len cap j : Nat} {x y : Operand}
theorem lH (ho : o.op = .indexAddr 28 x y) (hx : JM l x = some (.slice ao len cap)) (hao : ao = some ⟨b, off, none⟩) (hy : JM l y = some (.int .i64 ↑j)) (hj : j < len) (h : WL prog ops Q rest (l.set i (.pointer (some ⟨b, off + j * 12, none⟩))) w) (hd : o.dst = some i := by first | exact rfl | fail) (hg : Kt ops l o = some true := by first | exact rfl | fail) : WL prog ops Q (o :: rest) l w := gV (MG ho underlying28 Z (CQ hx) hao (CQ hy) rfl hj) hd hg h
theorem kD (hq : ops.toList.drop q = o :: r) (ho : o.op = .indexAddr 28 x y) (hx : JM l x = some (.slice ao len cap)) (hao : ao = some ⟨b, off, none⟩) (hy : JM l y = some (.int .i64 ↑j)) (hj : j < len) (h : DM prog md ops Q [] S1 S2 sch false ⟨(l.set i (.pointer (some ⟨b, off + j * 12, none⟩))).toArray, []⟩ w) (hd : o.dst = some i := by first | exact rfl | fail) (hg : Kt ops l o = some true := by first | exact rfl | fail) (hp : KG o = true := by first | exact rfl | fail) (ht : WX md ops [] q = true := by first | exact rfl | fail) : DM prog md ops Q [] S1 S2 (q :: sch) false ⟨l.toArray, []⟩ w := gS hq (fun _ _ => MG ho underlying28 Z (CQ hx) hao (CQ hy) rfl hj) hd hg hp ht h
theorem fY (ho : o.op = .indexAddr 30 x y) (hx : JM l x = some (.slice ao len cap)) (hao : ao = some ⟨b, off, none⟩) (hy : JM l y = some (.int .i64 ↑j)) (hj : j < len) (h : WL prog ops Q rest (l.set i (.pointer (some ⟨b, off + j * 1, none⟩))) w) (hd : o.dst = some i := by first | exact rfl | fail) (hg : Kt ops l o = some true := by first | exact rfl | fail) : WL prog ops Q (o :: rest) l w := gV (MG ho underlying30 Z (CQ hx) hao (CQ hy) rfl hj) hd hg h
theorem Wh (hq : ops.toList.drop q = o :: r) (ho : o.op = .indexAddr 30 x y) (hx : JM l x = some (.slice ao len cap)) (hao : ao = some ⟨b, off, none⟩) (hy : JM l y = some (.int .i64 ↑j)) (hj : j < len) (h : DM prog md ops Q [] S1 S2 sch false ⟨(l.set i (.pointer (some ⟨b, off + j * 1, none⟩))).toArray, []⟩ w) (hd : o.dst = some i := by first | exact rfl | fail) (hg : Kt ops l o = some true := by first | exact rfl | fail) (hp : KG o = true := by first | exact rfl | fail) (ht : WX md ops [] q = true := by first | exact rfl | fail) : DM prog md ops Q [] S1 S2 (q :: sch) false ⟨l.toArray, []⟩ w := gS hq (fun _ _ => MG ho underlying30 Z (CQ hx) hao (CQ hy) rfl hj) hd hg hp ht h
theorem vA (ho : o.op = .indexAddr 46 x y) (hx : JM l x = some (.slice ao len cap)) (hao : ao = some ⟨b, off, none⟩) (hy : JM l y = some (.int .i64 ↑j)) (hj : j < len) (h : WL prog ops Q rest (l.set i (.pointer (some ⟨b, off + j * 2, none⟩))) w) (hd : o.dst = some i := by first | exact rfl | fail) (hg : Kt ops l o = some true := by first | exact rfl | fail) : WL prog ops Q (o :: rest) l w := gV (MG ho underlying46 Z (CQ hx) hao (CQ hy) rfl hj) hd hg h
theorem RO (hq : ops.toList.drop q = o :: r) (ho : o.op = .indexAddr 46 x y) (hx : JM l x = some (.slice ao len cap)) (hao : ao = some ⟨b, off, none⟩) (hy : JM l y = some (.int .i64 ↑j)) (hj : j < len) (h : DM prog md ops Q [] S1 S2 sch false ⟨(l.set i (.pointer (some ⟨b, off + j * 2, none⟩))).toArray, []⟩ w) (hd : o.dst = some i := by first | exact rfl | fail) (hg : Kt ops l o = some true := by first | exact rfl | fail) (hp : KG o = true := by first | exact rfl | fail) (ht : WX md ops [] q = true := by first | exact rfl | fail) : DM prog md ops Q [] S1 S2 (q :: sch) false ⟨l.toArray, []⟩ w := gS hq (fun _ _ => MG ho underlying46 Z (CQ hx) hao (CQ hy) rfl hj) hd hg hp ht h
end
theorem yS (k : q) (h : Hold q -> p := by
 intro hq
 first
 | (with_reducible refine isWL ?_)
   first
   | refine gV yR rfl rfl ?_
   | refine Xh rfl rfl ?_
   | fail
 | (with_reducible refine isKW ?_)
   first
   | refine kw rfl ?_
   | refine kn rfl ?_
   | fail
 | (with_reducible refine WN ?_)
   (try change Code.wp _ _ _ _ _)
 | (with_reducible refine AN ?_)
 | (with_reducible refine RL ?_)
 | (with_reducible refine Pe ?_)
   first
   | refine AO rfl ?_
   | refine AP rfl ?_
   | fail
 | (with_reducible refine isS ?_)
   first
   | refine gS rfl (fun w hS => yR) rfl rfl rfl rfl ?_
   | refine gS0 rfl rfl rfl (by first | exact E | exact E.2 | exact E.2.2 | exact E.2.2.2 | exact E.2.2.2.2 | exact E.2.2.2.2.2 | exact E.2.2.2.2.2.2 | fail) ?_
   | fail
 | (with_reducible refine isSP ?_)
   first
   | refine kS rfl ?_
   | refine kS0 rfl ?_
   | fail
 | (with_reducible refine SN ?_)
   (try change Code.wp _ _ _ _ _)
 | (with_reducible refine AU ?_)
   (try change Code.wp _ _ _ _ _)
 | (with_reducible refine AT ?_)
 | (with_reducible refine AX ?_)
   (try change Code.wp _ _ _ _ _)
 | (with_reducible refine AW ?_)
   (try refine bR ?_)
 | (fail_if_success (with_reducible change Code.wp _ _ _ _ _))
   change Code.wp _ _ _ _ _
 | fail
 exact hq.out) : p := h ⟨k⟩
theorem yG (k : q) (h : Hold q -> p := by
 intro hq
 repeat (refine yS ?_; (try (refine yS ?_; (try (refine yS ?_; (try refine yS ?_))))); (try simp only [q2,q3]))
 (try simp only [Act.put,q1,q2,q3])
 exact hq.out) : p := h ⟨k⟩
theorem nwA {e : El α} {t : Nat} {L : List α} (h : (fA e t base S v L).p w) : ∀ k, v ≠ .int .u32 k := Acc.nw h.1
theorem zSet (h : p := by first | exact zQ | exact hS2r | exact hSr | exact hS2e _ hg | exact hS2n _ hg | exact hSe _ hg | exact hSn _ hg | exact (fun h => by have := hS2l _ h; omega) | exact (fun h => by have := hS2T _ h; omega) | exact (fun h => by have := hSl _ h; omega) | exact (fun h => by have := hST2 _ h; omega) | fail) : p := h
theorem zL (h : p := by
 repeat (first
 | exact True.intro
 | refine And.intro (by first
   | exact True.intro
   | ((with_reducible apply CT); omega)
   | ((with_reducible apply okB); omega)
   | ((with_reducible apply IK); omega)
   | ((with_reducible apply QU); omega)
   | ((with_reducible apply DP); exact zSet)
   | ((with_reducible apply NK); assumption; exact zSet)
   | ((with_reducible apply okAl); exact zA; omega; exact zSet)
   | ((with_reducible apply EP) <;> omega)
   | ((with_reducible apply LS) <;> omega)
   | ((with_reducible apply okDf); omega)
   | ((with_reducible apply okM); omega)
   | ((with_reducible apply okI); omega)
   | ((with_reducible apply tC); omega)
   | ((with_reducible apply okRd); omega)
   | ((with_reducible apply okTw); omega)
   | ((with_reducible apply okSv); omega)
   | ((with_reducible apply okSy); omega)
   | assumption
   | ((with_reducible apply HH); omega)
   | exact hkA _ hg
   | fail) ?_)
 done) : p := h
theorem zN (h : p := by first
 | exact zM
 | ((with_reducible apply QC) <;> exact zM)
 | ((with_reducible apply SK) <;> exact zM)
 | exact SK (M := zeroM) FV FV
 | (repeat (first | (with_reducible exact EE) | refine CL (by first | assumption | simp | ((with_reducible refine nwA (e := ?_) (t := ?_) (base := ?_) (S := ?_) (L := ?_) (w := ?_) ?_); exact zA) | fail) ?_)); done
 | fail) : p := h
theorem oC (E : Env w L) (x : Bx w b T cs) (o : Onl b w w') (y : Bx w' b 62 [.bool n, s]) (k : Ok b L := by exact zL) (h : TU cs := by exact zN) : Env w' (fB b n s :: L) := (E.onl (x.noW h) k o).b y
theorem oY {T' : Nat} (E : Env w L) (x : Bx w b T cs) (o : Onl b w w') (y : Bx w' b T' ds) (k : Ok b L := by exact zL) (h : TU cs := by exact zN) : Env w' (fX b T' ds :: L) := (E.onl (x.noW h) k o).x y
end Go.Proofs.YtmppigbbkjepiaaGreatDoor
