/- A small kit of rules for code that computes with structs in boxes: facts that last, kept in one list; one rule an operation. -/
import Derived.Test.YtndpjfhhigpbhaaGreatMem
import Derived.OrdersHeld
import Derived.Deep.MidRow
import Derived.Laws.CopyRow
namespace Go.Proofs.YtndpjfhhigpbhaaGreat
open Go.RowKit W
/-! ### boxes: blocks that are known whole -/
/-- Block b is a box of type T with the cells cs; it may be written. -/
def Bx (w : World) (b T : Nat) (cs : List Value) : Prop := w.heap[b]? = some (.cells cs.toArray T (0, 0))
/-- The world differs in block b alone. -/
structure Onl (b : Nat) (w w' : World) : Prop where
  os : w'.os = w.os
  tape : w'.tape = w.tape
  output : w'.output = w.output
  size : w'.heap.size = w.heap.size
  block : ∀ k, k ≠ b → w'.heap[k]? = w.heap[k]?
/-- Block b holds no word of 32 bits. -/
def NoW (w : World) (b : Nat) : Prop := ∀ o n, w.cell? ⟨b, o, none⟩ ≠ some (.int .u32 n)
def noWs (cs : List Value) : Prop := ∀ c ∈ cs, ∀ n, c ≠ .int .u32 n
theorem Bx.lt {w : World} {b T : Nat} {cs : List Value} (h : Bx w b T cs) : b < w.heap.size := by
  unfold Bx at h
  exact (Array.getElem?_eq_some_iff.1 h).1
theorem Bx.cell {w : World} {b T : Nat} {cs : List Value} (h : Bx w b T cs) (i : Nat) : w.cell? ⟨b, i, none⟩ = cs[i]? := by
  rw [cell_of_row w b i cs.toArray T (0, 0) h]; simp
theorem Bx.free {w : World} {b T : Nat} {cs : List Value} (h : Bx w b T cs) (i : Nat) : w.frozen? ⟨b, i, none⟩ = false := by
  unfold Bx at h
  unfold World.frozen?
  simp [h]
theorem Bx.noW {w : World} {b T : Nat} {cs : List Value} (h : Bx w b T cs) (hn : noWs cs) : NoW w b := by
  intro o n e
  rw [h.cell] at e
  exact hn _ (List.mem_of_getElem? e) n rfl
theorem Bx.below {w w' : World} {b T : Nat} {cs : List Value} (h : Bx w b T cs) (hb : Below w.heap.size w w') : Bx w' b T cs := by
  have := hb.block b h.lt
  unfold Bx at *
  rw [this]; exact h
theorem Bx.onl {w w' : World} {b c T : Nat} {cs : List Value} (h : Bx w b T cs) (hne : c ≠ b) (hb : Onl c w w') : Bx w' b T cs := by
  unfold Bx at *
  rw [hb.block b (fun e => hne e.symm)]; exact h
theorem Onl.below {b B : Nat} {w0 w w' : World} (h : Below B w0 w) (hb : Onl b w w') (hle : B ≤ b) : Below B w0 w' :=
  h.trans ⟨hb.os, hb.tape, hb.output, Nat.le_of_eq hb.size.symm, fun k hk => hb.block k (by omega)⟩
theorem Below.drewN {B : Nat} {w w' : World} (h : Below B w w') (q : Nat) : Below B w (w'.drewN q) := h.trans ⟨rfl, rfl, rfl, Nat.le_refl _, fun _ _ => rfl⟩
theorem Sl.onl {w w' : World} {v : Value} {l : List Nat} {b : Nat} (h : Sl w v l) (hn : NoW w b) (hb : Onl b w w') : Sl w' v l := by
  obtain ⟨ao, cap, rfl, g1, g2, g3, gn, g4⟩ := h
  refine ⟨ao, cap, rfl, g1, g2, g3, gn, fun i hi => ?_⟩
  obtain ⟨c, off, e1, e2⟩ := g4 i hi
  refine ⟨c, off, e1, ?_⟩
  have hne : c ≠ b := fun e => hn _ _ (by rw [← e]; exact e2)
  rw [World.cell?_of_block (w := w) (hb.block c hne)]; exact e2
/-! ### facts that last -/
/-- A fact on the world that lasts where memory is made, and where a box is written (if it is none that ok bars). -/
structure SF where
  p : World → Prop
  ok : Nat → Prop
  below : ∀ {w w' : World}, p w → Below w.heap.size w w' → p w'
  onl : ∀ {w w' : World} {b : Nat}, p w → NoW w b → ok b → Onl b w w' → p w'
/-- A list of facts. -/
def Env (w : World) : List SF → Prop
  | [] => True
  | f :: l => f.p w ∧ Env w l
/-- The list bears a store to box b. -/
def Ok (b : Nat) : List SF → Prop
  | [] => True
  | f :: l => f.ok b ∧ Ok b l
theorem Env.below {w w' : World} : ∀ {l : List SF}, Env w l → Below w.heap.size w w' → Env w' l
  | [], _, _ => trivial
  | f :: _, h, hb => ⟨f.below h.1 hb, Env.below h.2 hb⟩
theorem Env.onl {w w' : World} {b : Nat} : ∀ {l : List SF}, Env w l → NoW w b → Ok b l → Onl b w w' → Env w' l
  | [], _, _, _, _ => trivial
  | f :: _, h, hn, ho, hb => ⟨f.onl h.1 hn ho.1 hb, Env.onl h.2 hn ho.2 hb⟩
theorem Env.drew {w : World} {l : List SF} (h : Env w l) : Env w.drew l := h.below ((Below.refl _ _).drew)
theorem Env.drewN {w : World} {l : List SF} (h : Env w l) (q : Nat) : Env (w.drewN q) l := h.below (Below.drewN (Below.refl _ _) q)
/-- A property of values that lasts. -/
structure SV (p : World → Value → Prop) : Prop where
  below : ∀ {w w' : World} {v : Value}, p w v → Below w.heap.size w w' → p w' v
  onl : ∀ {w w' : World} {v : Value} {b : Nat}, p w v → NoW w b → Onl b w w' → p w' v
def fV (p : World → Value → Prop) (hp : SV p) (v : Value) : SF := ⟨fun w => p w v, fun _ => True, fun h hb => hp.below h hb, fun h hn _ hb => hp.onl h hn hb⟩
/-- Box b has these cells. -/
def fX (b T : Nat) (cs : List Value) : SF := ⟨fun w => Bx w b T cs, fun c => c ≠ b, fun h hb => h.below hb, fun h _ ho hb => h.onl ho hb⟩
/-- Of the world w0 all is as it was. -/
def fW (w0 : World) : SF := ⟨fun w => Below w0.heap.size w0 w, fun c => w0.heap.size ≤ c, fun h hb => h.trans (hb.mono h.size), fun h _ ho hb => hb.below h ho⟩
section
variable {P : Program} {o : Oper} {a : Act} {w : World} {K : Act → World → Prop} {Q : Exit → Act → World → Prop}
/-- What a type of structs is. -/
structure Ag (P : Program) (T n : Nat) (zs : List Value) : Prop where
  u : ∃ d, P.underlying T = some d ∧ (match d with | .struct _ | .array _ _ => true | _ => false) = true
  i : (P.info? T).map (fun i => (i.zero, i.size)) = some (some (.agg zs.toArray), n)
  l : zs.length = n
theorem Ag.size {T n : Nat} {zs : List Value} (h : Ag P T n zs) : (P.info? T).map (·.size) = some n := by
  have := h.i
  cases hq : P.info? T with
  | none => simp [hq] at this
  | some i => simp [hq] at this ⊢; exact this.2
theorem Ag.isAgg {T n : Nat} {zs : List Value} (h : Ag P T n zs) (w : World) : (isAgg T).run P w = .ok true w := by
  obtain ⟨d, hd, hm⟩ := h.u
  unfold Go.isAgg
  rw [Sem.run_bind, run_underlying hd w]
  cases d <;> simp_all
theorem Oper.wp_of_val {v : Value} {w' : World} (h : (execOp a.eval o).run P w = .ok (.value v) w') (hK : K (a.put o.dst v) w') : o.wp P a w K Q := by
  unfold Oper.wp; rw [h]; exact hK
theorem Oper.wp_move {x : Operand} {v : Value} (ho : o.op = .move x) (hx : a.eval x = v) (h : K (a.put o.dst v) w) : o.wp P a w K Q := by
  refine Oper.wp_of_val (v := v) (w' := w) ?_ h
  unfold execOp; rw [ho]; simp [hx]
theorem Oper.wp_assign {x : Operand} {v : Value} (ho : o.op = .assign x) (hx : a.eval x = v) (h : K (a.put o.dst v) w) : o.wp P a w K Q := by
  refine Oper.wp_of_val (v := v) (w' := w) ?_ h
  unfold execOp; rw [ho]; simp [hx]
theorem Oper.wp_load {T b n : Nat} {x : Operand} {cs zs : List Value} (hA : Ag P T n zs) (ho : o.op = .load T x) (hx : a.eval x = .pointer (some ⟨b, 0, none⟩)) (hb : Bx w b T cs) (hn : cs.length = n)
    (h : K (a.put o.dst (.agg cs.toArray)) w) : o.wp P a w K Q := by
  obtain ⟨d, hd, hm⟩ := hA.u
  exact wp_load_row T x ho b hx T cs.toArray (0, 0) d hb hd (by cases d <;> simp_all) (by rw [hA.size]; simp [hn]) h
theorem run_load_bx {ρ : Operand → Value} {T b n : Nat} {x : Operand} {cs zs : List Value} (hA : Ag P T n zs) (ho : o.op = .load T x) (hx : ρ x = .pointer (some ⟨b, 0, none⟩)) (hb : Bx w b T cs) (hn : cs.length = n) :
    (execOp ρ o).run P w = .ok (.value (.agg cs.toArray)) w := by
  obtain ⟨d, hd, hm⟩ := hA.u
  unfold execOp
  simp only [ho, hx, Instr.loadAt, Instr.sureAddr, Sem.run_bind, Sem.run_pure, Result.andThen_ok, run_loadVar_row w b T T cs.toArray (0, 0) d hb hd (by cases d <;> simp_all) (by rw [hA.size]; simp [hn])]
theorem bx_alloc (w : World) (T : Nat) (cs : List Value) : Bx (w.alloc (.cells cs.toArray T)) w.heap.size T cs := by
  unfold Bx World.alloc; simp
theorem Oper.wp_alloc {T n : Nat} {zs : List Value} (hA : Ag P T n zs) (ho : o.op = .alloc T)
    (h : ∀ b w', b = w.heap.size → w'.heap.size = w.heap.size + 1 → Below w.heap.size w w' → Bx w' b T zs → K (a.put o.dst (.pointer (some ⟨b, 0, none⟩))) w') : o.wp P a w K Q := by
  have hi := hA.i
  refine Oper.wp_of_val (v := .pointer (some ⟨w.heap.size, 0, none⟩)) (w' := w.alloc (.cells zs.toArray T)) ?_ (h _ _ rfl (by simp) ((Below.refl _ _).alloc (Nat.le_refl _) _) (bx_alloc w T zs))
  unfold execOp; rw [ho]
  cases hq : P.info? T with
  | none => simp [hq] at hi
  | some i =>
    simp [hq] at hi
    simp [Instr.alloc, zeroValue, typeInfo, hq, hi.1, newVar, newRow, Sem.run_bind, Value.cells, newObj]
    rfl
theorem Oper.wp_box {T : Nat} {x : Operand} {cs : List Value} (ho : o.op = .box T x) (hx : a.eval x = .agg cs.toArray)
    (h : ∀ b w', b = w.heap.size → w'.heap.size = w.heap.size + 1 → Below w.heap.size w w' → Bx w' b T cs → K (a.put o.dst (.pointer (some ⟨b, 0, none⟩))) w') : o.wp P a w K Q := by
  refine Oper.wp_of_val (v := .pointer (some ⟨w.heap.size, 0, none⟩)) (w' := w.alloc (.cells cs.toArray T)) ?_ (h _ _ rfl (by simp) ((Below.refl _ _).alloc (Nat.le_refl _) _) (bx_alloc w T cs))
  unfold execOp; rw [ho]
  simp [Instr.box, hx, newVar, newRow, Value.cells, newObj]
  rfl
theorem heap_setRow_other (w : World) (b k : Nat) (c : Array Value) (h : k ≠ b) : (w.setRow b c).heap[k]? = w.heap[k]? := by
  show (w.heap.modify b _)[k]? = _
  rw [Array.getElem?_modify, if_neg (fun e => h e.symm)]
theorem onl_setRow (w : World) (b : Nat) (c : Array Value) : Onl b w (w.setRow b c) :=
  ⟨rfl, rfl, rfl, by simp [World.setRow], fun k hk => heap_setRow_other w b k c hk⟩
theorem bx_setRow {w : World} {b T : Nat} {cs : List Value} (h : Bx w b T cs) (ds : List Value) : Bx (w.setRow b ds.toArray) b T ds := by
  unfold Bx at *
  exact setRow_heap w b cs.toArray ds.toArray T (0, 0) h
theorem run_store_bx {ρ : Operand → Value} {T b n : Nat} {x y : Operand} {cs ds zs : List Value} (hA : Ag P T n zs) (ho : o.op = .store T x y) (hx : ρ x = .pointer (some ⟨b, 0, none⟩)) (hy : ρ y = .agg ds.toArray)
    (hb : Bx w b T cs) (hn : cs.length = n) (hd : ds.length = n) (h1 : ∀ v ∈ ds, v.oneCell' = true) :
    (execOp ρ o).run P w = .ok .skip (w.setRow b ds.toArray) := by
  have hs := hA.size
  have hr := run_storeCells_at (P := P) b 0 T ds 0 cs.toArray w hb (by simp; omega) h1
  simp only [Nat.zero_add, List.take_zero, List.nil_append, Nat.add_zero] at hr
  rw [List.drop_of_length_le (show cs.toArray.toList.length ≤ ds.length by rw [List.toList_toArray]; omega), List.append_nil] at hr
  unfold execOp
  cases hq : P.info? T with
  | none => simp [hq] at hs
  | some i =>
    simp [hq] at hs
    simp only [ho, hx, hy, Instr.storeAt, Instr.sureAddr, Sem.run_bind, Sem.run_pure, Result.andThen_ok, storeVar, Value.cells, sizeOf, typeInfo]
    simp [hq, hs, hd, hr]
theorem Oper.wp_store {T b n : Nat} {x y : Operand} {cs ds zs : List Value} (hA : Ag P T n zs) (ho : o.op = .store T x y) (hx : a.eval x = .pointer (some ⟨b, 0, none⟩)) (hy : a.eval y = .agg ds.toArray)
    (hb : Bx w b T cs) (hn : cs.length = n) (hd : ds.length = n) (h1 : ∀ v ∈ ds, v.oneCell' = true)
    (h : ∀ w', Onl b w w' → Bx w' b T ds → K (a.put o.dst undef) w') : o.wp P a w K Q := by
  unfold Oper.wp
  rw [run_store_bx hA ho hx hy hb hn hd h1]
  exact h _ (onl_setRow _ _ _) (bx_setRow hb _)
/-- A function with a body. -/
def Fn (P : Program) (f : Nat) : Prop := ∃ fn, P.funcs[f]? = some fn ∧ (fn.name == "runtime.NumGoroutine") = false ∧ fn.body.isNone = false
theorem Fn.run {f : Nat} (h : Fn P f) (args : Array Value) (w : World) : (callFunc f args).run P w = .ok (.enter f args) w := by
  obtain ⟨fn, h1, h2, h3⟩ := h
  have e1 : fn.name ≠ "runtime.NumGoroutine" := by simpa using h2
  have e2 : fn.body ≠ none := by intro e; rw [e] at h3; simp at h3
  simp [callFunc, h1, e1, e2]
theorem Oper.wp_call {f : Nat} {args : List Operand} {tys : Array TypeId} {vs : List Value} {R : Ending → World → Prop} (hf : Fn P f) (ho : o.op = .call { callee := .value (.func f), args := args.toArray, argTypes := tys })
    (hc : Calls P f vs.toArray w R) (hv : args.map a.eval = vs) (h : ∀ e w', R e w' → ∃ v, e = .returned v ∧ K (a.put o.dst v) w') : o.wp P a w K Q := by
  subst hv
  unfold Oper.wp execOp
  simp only [ho, resolve, Act.eval, Deferred.ofValue, Sem.run_bind, Sem.run_pure, Result.andThen_ok, invoke, List.map_toArray]
  simp only [Array.append_empty, Array.empty_append, hf.run, Oper.upon]
  refine Calls.mono hc fun e w' hR => ?_
  obtain ⟨v, rfl, hK⟩ := h e w' hR
  exact hK
end
/-- A cut: what holds behind a piece of code. -/
theorem wp_cut {P : Program} {c : Code} {a : Act} {w : World} {Q : Exit → Act → World → Prop} (I : Act → World → Prop) (h1 : c.wp P (Exit.then I Q) a w) (h2 : ∀ a w, I a w → Q .normal a w) : c.wp P Q a w := by
  refine Code.wp_mono ?_ h1
  intro e a w h
  cases e <;> first | exact h2 _ _ h | exact h
section
variable {P : Program} {ops : Array Oper} {rest : List Oper} {o : Oper} {a : Act} {w : World} {Q : Exit → Act → World → Prop}
theorem L1 (hg : Region.wanted o (yielded ops a.tmps) = true) (h : o.wp P a w (wpList P ops Q rest) Q) : wpList P ops Q (o :: rest) a w := by
  unfold wpList; rw [if_pos hg]; exact .inl h
theorem L0 (hg : Region.wanted o (yielded ops a.tmps) = false) (h : wpList P ops Q rest (a.put o.dst undef) w) : wpList P ops Q (o :: rest) a w := by
  unfold wpList; rw [if_neg (by simp [hg])]; exact h
theorem LV {v : Value} (hg : Region.wanted o (yielded ops a.tmps) = true) (hr : (execOp a.eval o).run P w = .ok (.value v) w) (h : wpList P ops Q rest (a.put o.dst v) w) : wpList P ops Q (o :: rest) a w :=
  L1 hg (Oper.wp_of_val hr h)
end
section
variable {P : Program} {ops : Array Oper} {Q : Exit → Act → World → Prop} {md : Region.Mode}
def isPure (o : Oper) : Bool := match o.op with
  | .alloc _ | .box .. | .buildSlice .. | .insert .. | .store .. | .ready _ | .waits _ | .makeInterface .. | .makeFunc .. | .makeMap .. | .makeChan .. | .makeSlice .. | .mapUpdate .. | .mapEntry .. | .entryStore .. | .range .. | .next .. | .entry .. | .typeAssert .. | .go _ | .defer _ | .panic _ | .send .. | .recv .. | .select .. => false
  | .call c => (match c.callee with | .builtin .len => true | _ => false)
  | _ => true
/-- Has one of the operations of B come up? -/
def anyOf (B : List Nat) (L : Array Bool) : Bool := B.any fun k => L.getD k false
/-- Number k waits for number i, over at most n edges. -/
def reach (md : Region.Mode) (ops : Array Oper) (i : Nat) : Nat → Nat → Bool
  | 0, _ => false
  | n + 1, k => match ops[k]? with
    | some o => o.after.toList.any fun e => Region.binds md e && (e.on == i || reach md ops i n e.on)
    | none => false
/-- Every operation of B waits for number i. -/
def tight (md : Region.Mode) (ops : Array Oper) (B : List Nat) (i : Nat) : Bool := B.all fun k => reach md ops i 3 k
/-- What has come up holds all that it waits for. -/
def Closed (md : Region.Mode) (ops : Array Oper) (L : Array Bool) : Prop := ∀ k o, ops[k]? = some o → L.getD k false = true → ∀ e ∈ o.after, Region.binds md e = true → L.getD e.on false = true
theorem reach_listed {L : Array Bool} {i : Nat} (hc : Closed md ops L) : ∀ (n k : Nat) (o : Oper), ops[k]? = some o → (∀ e ∈ o.after, Region.binds md e = true → L.getD e.on false = true) → reach md ops i n k = true → L.getD i false = true
  | 0, _, _, _, _, h => by cases h
  | n + 1, k, o, ho, hall, h => by
    simp only [reach, ho] at h
    obtain ⟨e, he, hbe⟩ := List.any_eq_true.1 h
    rw [Bool.and_eq_true, Bool.or_eq_true, beq_iff_eq] at hbe
    have h1 := hall e (Array.mem_toList_iff.1 he) hbe.1
    rcases hbe.2 with h2 | h2
    · rw [← h2]; exact h1
    · cases hk : ops[e.on]? with
      | none =>
        cases n with
        | zero => cases h2
        | succ n => simp [reach, hk] at h2
      | some o' => exact reach_listed hc n e.on o' hk (hc _ _ hk h1) h2
theorem Closed.set {L : Array Bool} {i : Nat} (hc : Closed md ops L) (hr : i ∈ Region.ready md ops L) : Closed md ops (L.setIfInBounds i true) := by
  intro k o ho hk e he hb
  by_cases hki : k = i
  · subst hki
    obtain ⟨_, o', ho', hall⟩ := mem_ready.1 hr
    rw [ho] at ho'
    cases ho'
    exact getD_set_true (hall e he hb)
  · rw [getD_set_ne false (fun h => hki h.symm)] at hk
    exact getD_set_true (hc k o ho hk e he hb)
/-- What holds: S1 before the operations of B, S2 from the first of them on. -/
def SL (B : List Nat) (S1 S2 : World → Prop) (L : Array Bool) (w : World) : Prop := if anyOf B L = true then S2 w else S1 w
/-- Whatever order is picked, and S holds behind every operation. -/
def wpAnyG (P : Program) (md : Region.Mode) (ops : Array Oper) (Q : Exit → Act → World → Prop) (S : Array Bool → World → Prop) : Nat → Array Bool → Act → World → Prop
  | 0, L, a, w => Region.ready md ops L = [] ∧ Q .normal a w
  | f + 1, L, a, w => (Region.ready md ops L = [] → Q .normal a w) ∧ ∀ i ∈ Region.ready md ops L, wpOp P ops Q i (fun a' w' => S (L.setIfInBounds i true) w' ∧ wpAnyG P md ops Q S f (L.setIfInBounds i true) a' w') a w
theorem wpAny_of_G {S : Array Bool → World → Prop} : ∀ (f : Nat) (L : Array Bool) (a : Act) (w : World), wpAnyG P md ops Q S f L a w → wpAny P md ops Q f L a w
  | 0, _, _, _, h => h
  | f + 1, _, _, _, h => ⟨h.1, fun i hi => wpOp_mono (fun a' w' h' => wpAny_of_G f _ a' w' h'.2) (h.2 i hi)⟩
theorem anyOf_set {B : List Nat} {L : Array Bool} {i : Nat} (h : i ∉ B) : anyOf B (L.setIfInBounds i true) = anyOf B L := by
  unfold anyOf
  rw [Bool.eq_iff_iff, List.any_eq_true, List.any_eq_true]
  constructor <;> rintro ⟨k, hk, h1⟩ <;> refine ⟨k, hk, ?_⟩
  · rwa [getD_set_ne false (fun e : i = k => h (by rw [e]; exact hk))] at h1
  · rwa [getD_set_ne false (fun e : i = k => h (by rw [e]; exact hk))]
/-- A quiet operation may be taken first. -/
theorem wpAnyG_first {B : List Nat} {S1 S2 T : World → Prop} {i : Nat} {oi : Oper} {v : Value} (hi : ops[i]? = some oi) (hsel : ∀ (j : Nat) (o : Oper) cs b, ops[j]? = some o → o.op ≠ .select cs b)
    (hQ : ∀ c a w, Q (.panic c) (a.put oi.dst v) w → Q (.panic c) a w) (hB : i ∉ B) (h12 : ∀ w, S1 w → S2 w)
    (tg : Bool) (hT1 : tg = true → T = S1 ∧ tight md ops B i = true) (hT2 : tg = false → T = S2) :
    ∀ (f : Nat) (L : Array Bool) (a : Act) (w : World), Closed md ops L → (tg = true → anyOf B L = false) →
      (∀ j oj, ops[j]? = some oj → j ≠ i → L.getD j true = false → (∀ e ∈ oj.after, Region.binds md e = true → e.on ≠ i) → oi.apart ops oj = true) →
      i ∈ Region.ready md ops L → YieldsIf P ops T oi v a → T w → SL B S1 S2 L w →
      wpAnyG P md ops Q (SL B S1 S2) f (L.setIfInBounds i true) (a.put oi.dst v) w → wpAnyG P md ops Q (SL B S1 S2) (f + 1) L a w := by
  intro f
  induction f with
  | zero =>
    intro L a w _ _ _ hr hy hTw hS H
    refine ⟨fun h => (by rw [h] at hr; cases hr), fun j hj => ?_⟩
    by_cases hji : j = i
    · subst hji
      exact hy.wpOp hi hTw ⟨by unfold SL; rw [anyOf_set hB]; exact hS, H⟩
    · have := ready_mono hj hji
      rw [H.1] at this
      cases this
  | succ f ih =>
    intro L a w hcl hph hfree hr hy hTw hS H
    refine ⟨fun h => (by rw [h] at hr; cases hr), fun j hj => ?_⟩
    by_cases hji : j = i
    · subst hji; exact hy.wpOp hi hTw ⟨by unfold SL; rw [anyOf_set hB]; exact hS, H⟩
    · have h1 := H.2 j (ready_mono hj hji)
      obtain ⟨hjun, oj, hoj, hall⟩ := mem_ready.1 hj
      have hnot : ∀ e ∈ oj.after, Region.binds md e = true → e.on ≠ i := fun e he hb heq => by
        have h1 := hall e he hb
        have h0 := (mem_ready.1 hr).1
        rw [heq] at h1
        rcases Nat.lt_or_ge i L.size with h' | h'
        · simp [h'] at h0 h1; rw [h0] at h1; cases h1
        · simp [Array.getElem?_eq_none h'] at h1
      have hph' : tg = true → anyOf B (L.setIfInBounds j true) = false := fun htg => by
        have hjB : j ∉ B := fun hjb => by
          have h5 := reach_listed hcl 3 j oj hoj hall (List.all_eq_true.1 (hT1 htg).2 j hjb)
          have h0 := (mem_ready.1 hr).1
          rcases Nat.lt_or_ge i L.size with h' | h'
          · simp [h'] at h0 h5; rw [h0] at h5; cases h5
          · simp [Array.getElem?_eq_none h'] at h5
        rw [anyOf_set hjB]; exact hph htg
      have h2 := wpOp_putIf hoj (hfree j oj hoj hji hjun hnot) (fun cs b => hsel i oi cs b hi) (fun cs b => hsel j oj cs b hoj) hQ hy h1
      have hfree' : ∀ k ok, ops[k]? = some ok → k ≠ i → (L.setIfInBounds j true).getD k true = false →
          (∀ e ∈ ok.after, Region.binds md e = true → e.on ≠ i) → oi.apart ops ok = true := fun k ok hk hki hun hno => by
        refine hfree k ok hk hki ?_ hno
        by_cases hjk : j = k
        · subst hjk; exact hjun
        · rw [getD_set_ne true hjk] at hun; exact hun
      refine wpOp_mono (fun a' w' h3 => ?_) h2
      obtain ⟨hy', hS', hR'⟩ := h3
      rw [Array.setIfInBounds_comm _ _ (Ne.symm hji)] at hS'
      have hS'' : SL B S1 S2 (L.setIfInBounds j true) w' := by
        unfold SL at hS' ⊢
        rwa [anyOf_set hB] at hS'
      have hTw' : T w' := by
        cases tg with
        | true =>
          have := hph' rfl
          unfold SL at hS''
          rw [this] at hS''
          rw [(hT1 rfl).1]; simpa using hS''
        | false =>
          rw [hT2 rfl]
          unfold SL at hS''
          split at hS''
          · exact hS''
          · exact h12 _ hS''
      refine ⟨hS'', ih (L.setIfInBounds j true) a' w' (hcl.set hj) hph' hfree' (ready_mono hr (Ne.symm hji)) hy' hTw' hS'' ?_⟩
      rw [Array.setIfInBounds_comm _ _ hji]
      exact hR'
/-- The walk in the order of a list of numbers. ph: has an operation of B come up? -/
def wpSched (P : Program) (md : Region.Mode) (ops : Array Oper) (Q : Exit → Act → World → Prop) (B : List Nat) (S1 S2 : World → Prop) : List Nat → Bool → Act → World → Prop
  | [], _, a, w => Q .normal a w
  | i :: rest, ph, a, w => match ops[i]? with
    | none => False
    | some o => if isPure o = true then
        ∃ v, YieldsIf P ops (if (!ph && tight md ops B i) = true then S1 else S2) o v a ∧ wpSched P md ops Q B S1 S2 rest ph (a.put o.dst v) w
      else wpOp P ops Q i (fun a' w' => (if (ph || B.contains i) = true then S2 w' else S1 w') ∧ wpSched P md ops Q B S1 S2 rest (ph || B.contains i) a' w') a w
def okSched (md : Region.Mode) (ops : Array Oper) (B : List Nat) : Array Bool → List Nat → Bool
  | L, [] => Region.ready md ops L == []
  | L, i :: rest => (match ops[i]? with
    | none => false
    | some o => if isPure o then !B.contains i && Region.free md ops L i && (Region.ready md ops L).contains i else Region.ready md ops L == [i]) && okSched md ops B (L.setIfInBounds i true) rest
theorem wpSched_sound {B : List Nat} {S1 S2 : World → Prop} (hs : Region.noSelect ops = true) (hQ : ∀ d v c a w, Q (.panic c) (a.put d v) w → Q (.panic c) a w) (h12 : ∀ w, S1 w → S2 w) :
    ∀ (l : List Nat) (L : Array Bool) (ph : Bool) (a : Act) (w : World), Closed md ops L → L.size = ops.size → anyOf B L = ph → okSched md ops B L l = true → (if ph = true then S2 w else S1 w) →
      wpSched P md ops Q B S1 S2 l ph a w → wpAnyG P md ops Q (SL B S1 S2) l.length L a w
  | [], L, ph, a, w, _, _, _, hk, _, h => by
    simp only [okSched, beq_iff_eq] at hk
    exact ⟨hk, h⟩
  | i :: rest, L, ph, a, w, hcl, hsz, hph, hk, hS, h => by
    simp only [okSched, Bool.and_eq_true] at hk
    obtain ⟨h1, h2⟩ := hk
    simp only [wpSched] at h
    cases ho : ops[i]? with
    | none => simp [ho] at h1
    | some o =>
      simp only [ho] at h1 h
      have hlt : i < ops.size := (Array.getElem?_eq_some_iff.1 ho).1
      by_cases hp : isPure o = true
      · rw [if_pos hp] at h1 h
        rw [Bool.and_eq_true, Bool.and_eq_true] at h1
        obtain ⟨⟨hb, hf⟩, hr⟩ := h1
        have hb' : i ∉ B := by simpa using hb
        obtain ⟨v, hy, hrest⟩ := h
        have hSL : SL B S1 S2 L w := by unfold SL; rw [hph]; exact hS
        have hrec := wpSched_sound hs hQ h12 rest (L.setIfInBounds i true) ph (a.put o.dst v) w (hcl.set (by simpa using hr)) (by simpa using hsz) (by rw [anyOf_set hb']; exact hph) h2 hS hrest
        refine wpAnyG_first ho (Region.noSelect_spec hs) (hQ o.dst v) hb' h12 (!ph && tight md ops B i) (fun htg => ?_) (fun htg => ?_) rest.length L a w hcl (fun htg => ?_) (Region.free_spec ho hf) (by simpa using hr) hy ?_ hSL hrec
        · rw [if_pos htg]; rw [Bool.and_eq_true] at htg; exact ⟨rfl, htg.2⟩
        · rw [if_neg (by simp [htg])]
        · rw [Bool.and_eq_true] at htg
          rw [hph]; simpa using htg.1
        · split
          · rename_i htg
            rw [Bool.and_eq_true] at htg
            have : ph = false := by simpa using htg.1
            rw [this] at hS; simpa using hS
          · split at hS
            · exact hS
            · exact h12 _ hS
      · rw [if_neg hp] at h1 h
        rw [beq_iff_eq] at h1
        refine ⟨fun h0 => (by rw [h1] at h0; cases h0), fun j hj => ?_⟩
        obtain rfl : j = i := by rw [h1] at hj; simpa using hj
        have hany : anyOf B (L.setIfInBounds j true) = (ph || B.contains j) := by
          by_cases hjB : j ∈ B
          · have : B.contains j = true := by simpa using hjB
            rw [this, Bool.or_true]
            unfold anyOf
            refine List.any_eq_true.2 ⟨j, hjB, ?_⟩
            simp [hsz, hlt]
          · have : B.contains j = false := by simpa using hjB
            rw [this, Bool.or_false, anyOf_set hjB]; exact hph
        refine wpOp_mono (fun a' w' h' => ⟨?_, wpSched_sound hs hQ h12 rest _ _ a' w' (hcl.set hj) (by simpa using hsz) hany h2 h'.1 h'.2⟩) h
        unfold SL
        rw [hany]
        exact h'.1
theorem wp_sched {id : Nat} {a : Act} {w : World} {S1 S2 : World → Prop} (B : List Nat) (l : List Nat) (hm : P.follows .mixedOrders = true) (hs : Region.noSelect ops = true) (hl : l.length = ops.size)
    (hk : okSched .any ops B (Array.replicate ops.size false) l = true) (h12 : ∀ w, S1 w → S2 w) (hS : S1 w.drew)
    (hQ : ∀ d v c a w, Q (.panic c) (a.put d v) w → Q (.panic c) a w) (h : wpSched P .any ops Q B S1 S2 l false a w.drew) : (Code.region id ops true).wp P Q a w := by
  refine wp_region_any hm (wpAny_of_G (S := SL B S1 S2) _ _ _ _ ?_)
  have := wpSched_sound hs hQ h12 l (Array.replicate ops.size false) false a w.drew (by
    intro k o ho hk
    have : k < ops.size := (Array.getElem?_eq_some_iff.1 ho).1
    simp [this] at hk) (by simp) (by
    unfold anyOf
    rw [List.any_eq_false]
    intro k _
    by_cases hk : k < ops.size <;> simp [hk]) hk (by simpa using hS) h
  rw [hl] at this
  exact this
theorem wp_schedE {l : List SF} {id : Nat} {a : Act} {w : World} (E : Env w l) (σ : List Nat) (hm : P.follows .mixedOrders = true) (hs : Region.noSelect ops = true) (hl : (σ.length == ops.size) = true)
    (hk : okSched .any ops [] (Array.replicate ops.size false) σ = true)
    (hQ : ∀ d v c a w, Q (.panic c) (a.put d v) w → Q (.panic c) a w) (h : wpSched P .any ops Q [] (fun w => Env w l) (fun w => Env w l) σ false a w.drew) : (Code.region id ops true).wp P Q a w :=
  wp_sched [] σ hm hs (by simpa using hl) hk (fun _ h => h) E.drew hQ h
theorem wp_schedB {l l2 : List SF} {id : Nat} {a : Act} {w : World} (E : Env w l) (h12 : ∀ w, Env w l → Env w l2) (B σ : List Nat) (hm : P.follows .mixedOrders = true) (hs : Region.noSelect ops = true) (hl : (σ.length == ops.size) = true)
    (hk : okSched .any ops B (Array.replicate ops.size false) σ = true)
    (hQ : ∀ d v c a w, Q (.panic c) (a.put d v) w → Q (.panic c) a w) (h : wpSched P .any ops Q B (fun w => Env w l) (fun w => Env w l2) σ false a w.drew) : (Code.region id ops true).wp P Q a w :=
  wp_sched B σ hm hs (by simpa using hl) hk h12 E.drew hQ h
theorem wp_heldE {l : List SF} {id : Nat} {a : Act} {w : World} (hm : P.follows .mixedOrders = true) (L : Array Bool) (n : Nat) (hL : L = Array.replicate ops.size false) (hn : n = ops.size)
    (h : wpAnyH P .any ops Q (fun w => Env w l) n L a w.drew) : (Code.region id ops true).wp P Q a w := by
  subst hL hn
  exact wp_region_held hm h
section
variable {S : World → Prop} {L : Array Bool} {f i j k : Nat} {o : Oper} {a : Act} {w : World}
/-- A quiet operation is taken first. -/
theorem HP {v : Value} (ho : ops[i]? = some o) (hk : (Region.noSelect ops && Region.free md ops L i && (Region.ready md ops L).contains i) = true)
    (hQ : ∀ c a w, Q (.panic c) (a.put o.dst v) w → Q (.panic c) a w) (hg : Region.wanted o (yielded ops a.tmps) = true) (hv : ∀ w, S w → (execOp a.eval o).run P w = .ok (.value v) w) (hS : S w)
    (h : wpAnyH P md ops Q S f (L.setIfInBounds i true) (a.put o.dst v) w) : wpAnyH P md ops Q S (f + 1) L a w := by
  rw [Bool.and_eq_true, Bool.and_eq_true] at hk
  exact wpAnyH_take ho hk.1.1 hk.1.2 hk.2 hQ (.inl ⟨hg, hv⟩) hS h
theorem H1 (hr : Region.ready md ops L = [i]) (h : wpOp P ops Q i (fun a' w' => S w' ∧ wpAnyH P md ops Q S f (L.setIfInBounds i true) a' w') a w) : wpAnyH P md ops Q S (f + 1) L a w :=
  wpAnyH_all hr (by simp) fun x hx => by
    obtain rfl : x = i := by simpa using hx
    exact h
theorem H2 (hr : Region.ready md ops L = [i, j]) (h : wpOp P ops Q i (fun a' w' => S w' ∧ wpAnyH P md ops Q S f (L.setIfInBounds i true) a' w') a w)
    (h' : wpOp P ops Q j (fun a' w' => S w' ∧ wpAnyH P md ops Q S f (L.setIfInBounds j true) a' w') a w) : wpAnyH P md ops Q S (f + 1) L a w :=
  wpAnyH_all hr (by simp) fun x hx => by
    simp only [List.mem_cons, List.not_mem_nil, or_false] at hx
    rcases hx with rfl | rfl
    · exact h
    · exact h'
theorem H3 (hr : Region.ready md ops L = [i, j, k]) (h : wpOp P ops Q i (fun a' w' => S w' ∧ wpAnyH P md ops Q S f (L.setIfInBounds i true) a' w') a w)
    (h' : wpOp P ops Q j (fun a' w' => S w' ∧ wpAnyH P md ops Q S f (L.setIfInBounds j true) a' w') a w)
    (h'' : wpOp P ops Q k (fun a' w' => S w' ∧ wpAnyH P md ops Q S f (L.setIfInBounds k true) a' w') a w) : wpAnyH P md ops Q S (f + 1) L a w :=
  wpAnyH_all hr (by simp) fun x hx => by
    simp only [List.mem_cons, List.not_mem_nil, or_false] at hx
    rcases hx with rfl | rfl | rfl
    · exact h
    · exact h'
    · exact h''
/-- An operation that has effects. -/
theorem HE (ho : ops[i]? = some o) (hg : Region.wanted o (yielded ops a.tmps) = true)
    (h : o.wp P a w (fun a' w' => S w' ∧ wpAnyH P md ops Q S f (L.setIfInBounds i true) a' w') Q) : wpOp P ops Q i (fun a' w' => S w' ∧ wpAnyH P md ops Q S f (L.setIfInBounds i true) a' w') a w := by
  unfold wpOp
  simp only [ho]
  rw [if_pos hg]
  exact .inl h
theorem HN (hr : Region.ready md ops L = []) (h : Q .normal a w) : wpAnyH P md ops Q S f L a w := wpAnyH_done hr h f
end
variable {B : List Nat} {S1 S2 : World → Prop} {i : Nat} {rest : List Nat} {o : Oper} {a : Act} {w : World} {ph : Bool}
/-- A quiet operation while no operation of B has come up, all of which wait for it. -/
theorem SP {v : Value} (ho : ops[i]? = some o) (hp : isPure o = true) (ht : tight md ops B i = true) (hg : Region.wanted o (yielded ops a.tmps) = true) (hr : ∀ w, S1 w → (execOp a.eval o).run P w = .ok (.value v) w)
    (h : wpSched P md ops Q B S1 S2 rest false (a.put o.dst v) w) : wpSched P md ops Q B S1 S2 (i :: rest) false a w := by
  simp only [wpSched, ho]
  rw [if_pos hp]
  refine ⟨v, .inl ⟨hg, ?_⟩, h⟩
  rw [ht]; exact hr
/-- A quiet operation under S2. -/
theorem SQ {v : Value} (h12 : ∀ w, S1 w → S2 w) (ho : ops[i]? = some o) (hp : isPure o = true) (hg : Region.wanted o (yielded ops a.tmps) = true) (hr : ∀ w, S2 w → (execOp a.eval o).run P w = .ok (.value v) w)
    (h : wpSched P md ops Q B S1 S2 rest ph (a.put o.dst v) w) : wpSched P md ops Q B S1 S2 (i :: rest) ph a w := by
  simp only [wpSched, ho]
  rw [if_pos hp]
  refine ⟨v, .inl ⟨hg, ?_⟩, h⟩
  intro w hw
  split at hw
  · exact hr w (h12 w hw)
  · exact hr w hw
/-- An operation that is not wanted (B is empty). -/
theorem S0 (ho : ops[i]? = some o) (hg : Region.wanted o (yielded ops a.tmps) = false) (hS : S1 w)
    (h : wpSched P md ops Q [] S1 S2 rest false (a.put o.dst undef) w) : wpSched P md ops Q [] S1 S2 (i :: rest) false a w := by
  simp only [wpSched, ho]
  split
  · exact ⟨undef, .inr ⟨hg, rfl⟩, h⟩
  · unfold wpOp
    simp only [ho]
    rw [if_neg (by simp [hg])]
    exact ⟨hS, h⟩
/-- An operation that has effects, before those of B. -/
theorem S1a (ho : ops[i]? = some o) (hp : isPure o = false) (hg : Region.wanted o (yielded ops a.tmps) = true) (hB : B.contains i = false)
    (h : o.wp P a w (fun a' w' => S1 w' ∧ wpSched P md ops Q B S1 S2 rest false a' w') Q) : wpSched P md ops Q B S1 S2 (i :: rest) false a w := by
  simp only [wpSched, ho]
  rw [if_neg (by simp [hp])]
  unfold wpOp
  simp only [ho, hB]
  rw [if_pos hg]
  exact .inl h
/-- An operation that has effects, of B or behind one. -/
theorem S1b (ho : ops[i]? = some o) (hp : isPure o = false) (hg : Region.wanted o (yielded ops a.tmps) = true) (hB : (ph || B.contains i) = true)
    (h : o.wp P a w (fun a' w' => S2 w' ∧ wpSched P md ops Q B S1 S2 rest true a' w') Q) : wpSched P md ops Q B S1 S2 (i :: rest) ph a w := by
  simp only [wpSched, ho]
  rw [if_neg (by simp [hp])]
  unfold wpOp
  simp only [ho, hB]
  rw [if_pos hg]
  exact .inl h
theorem SN (h : Q .normal a w) : wpSched P md ops Q B S1 S2 [] ph a w := h
end
theorem Bx.drew {w : World} {b T : Nat} {cs : List Value} (h : Bx w b T cs) : Bx w.drew b T cs := h
end Go.Proofs.YtndpjfhhigpbhaaGreat
