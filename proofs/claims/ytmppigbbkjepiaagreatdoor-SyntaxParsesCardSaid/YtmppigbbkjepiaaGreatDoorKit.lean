/- Helping facts of Kit; no other conditions. -/
import Derived.Test.YtmppigbbkjepiaaGreatDoorApi
import Derived.OrdersHeld
import Derived.Deep.MidRow
import Derived.Laws.CopyRow
namespace Go.Proofs.YtmppigbbkjepiaaGreatDoor
open Go.RowKit W
variable {B T b f i id n : Nat} {L : Array Bool} {S1 S2 : World -> Prop} {cs zs : List Value} {v : Value} {w w' : World} {x y : Operand} {ρ : Operand -> Value}
theorem ZQa {p : Prop} (h : p := by
 simp only [DT, ho]
 rw [if_neg (by simp [hp])]
 unfold wpOp
 simp only [ho, hB]
 rw [if_pos hg]
 exact .inl h
 ) : p := h
def CJ : List Value -> Nat -> Value
 | [], _ => undef
 | v :: _, 0 => v
 | _ :: l, n + 1 => CJ l n
def gr (f : List Value) (k : Nat) : Nat -> List Value -> List Value
 | 0, l => l
 | n + 1, l => CJ f k :: gr f (k + 1) n l
def Bx (w : World) (b T : Nat) (cs : List Value) : Prop := w.heap[b]? = some (.cells cs.toArray T (0, 0))
structure Onl (b : Nat) (w w' : World) : Prop where
 os : w'.os = w.os
 tape : w'.tape = w.tape
 output : w'.output = w.output
 size : w'.heap.size = w.heap.size
 block : ∀ k, k ≠ b -> w'.heap[k]? = w.heap[k]?
def Av (w : World) (b : Nat) : Prop := ∀ o n, w.cell? ⟨b, o, none⟩ ≠ some (.int .u32 n)
def UP (cs : List Value) : Prop := ∀ c ∈ cs, ∀ n, c ≠ .int .u32 n
theorem Bx.lt (h : Bx w b T cs) : b < w.heap.size := by
 unfold Bx at h
 exact (Array.getElem?_eq_some_iff.1 h).1
theorem Bx.cell (h : Bx w b T cs) (i : Nat) : w.cell? ⟨b, i, none⟩ = cs[i]? := by
 rw [cell_of_row w b i cs.toArray T (0, 0) h]; simp
theorem Bx.free (h : Bx w b T cs) (i : Nat) : w.frozen? ⟨b, i, none⟩ = false := by
 unfold Bx at h
 unfold World.frozen?
 simp [h]
theorem Bx.noW (h : Bx w b T cs) (hn : UP cs) : Av w b := by
 intro o n e
 rw [h.cell] at e
 exact hn _ (List.mem_of_getElem? e) n rfl
theorem Bx.below (h : Bx w b T cs) (hb : Below w.heap.size w w') : Bx w' b T cs := by
 have := hb.block b h.lt
 unfold Bx at *
 rw [this]; exact h
theorem Bx.onl {c : Nat} (h : Bx w b T cs) (hne : c ≠ b) (hb : Onl c w w') : Bx w' b T cs := by
 unfold Bx at *
 rw [hb.block b (fun e => hne e.symm)]; exact h
theorem Onl.below {w0 : World} (h : Below B w0 w) (hb : Onl b w w') (hle : B <= b) : Below B w0 w' :=
 h.trans ⟨hb.os, hb.tape, hb.output, Nat.le_of_eq hb.size.symm, fun k hk => hb.block k AA⟩
theorem Below.drewN (h : Below B w w') (q : Nat) : Below B w (w'.drewN q) := h.trans ⟨rfl, rfl, rfl, Nat.le_refl _, fun _ _ => rfl⟩
theorem Sl.onl {l : List Nat} (h : Sl w v l) (hn : Av w b) (hb : Onl b w w') : Sl w' v l := by
 obtain ⟨C, o, rfl, B, y, u, q, t⟩ := h
 refine ⟨C, o, O, B, y, u, q, fun i p => ?_⟩
 obtain ⟨c, f, e1, e2⟩ := t i p
 refine ⟨c, f, e1, ?_⟩
 have k : c ≠ b := fun e => hn _ _ (by rw [<- e]; exact e2)
 rw [World.cell?_of_block (w := w) (hb.block c k)]; exact e2
structure SF where
 p : World -> Prop
 ok : Nat -> Prop
 below : ∀ {w w' : World}, p w -> Below w.heap.size w w' -> p w'
 onl : ∀ {w w' : World} {b : Nat}, p w -> Av w b -> ok b -> Onl b w w' -> p w'
def Env (w : World) : List SF -> Prop
 | [] => True
 | f :: l => f.p w /\ Env w l
def Ok (b : Nat) : List SF -> Prop
 | [] => True
 | f :: l => f.ok b /\ Ok b l
theorem Env.below {w w' : World} : ∀ {l : List SF}, Env w l -> Below w.heap.size w w' -> Env w' l
 | [], _, _ => trivial
 | f :: _, h, hb => ⟨f.below h.1 hb, Env.below h.2 hb⟩
theorem Env.onl {w w' : World} {b : Nat} : ∀ {l : List SF}, Env w l -> Av w b -> Ok b l -> Onl b w w' -> Env w' l
 | [], _, _, _, _ => trivial
 | f :: _, h, hn, ho, hb => ⟨f.onl h.1 hn ho.1 hb, Env.onl h.2 hn ho.2 hb⟩
theorem Env.drew {l : List SF} (h : Env w l) : Env w.drew l := h.below ((Below.refl _ _).drew)
theorem Env.drewN {l : List SF} (h : Env w l) (q : Nat) : Env (w.drewN q) l := h.below (Below.drewN (Below.refl _ _) q)
structure SV (p : World -> Value -> Prop) : Prop where
 below : ∀ {w w' : World} {v : Value}, p w v -> Below w.heap.size w w' -> p w' v
 onl : ∀ {w w' : World} {v : Value} {b : Nat}, p w v -> Av w b -> Onl b w w' -> p w' v
def fV (p : World -> Value -> Prop) (hp : SV p) (v : Value) : SF := ⟨fun w => p w v, fun _ => True, fun h hb => hp.below h hb, fun h hn _ hb => hp.onl h hn hb⟩
def fX (b T : Nat) (cs : List Value) : SF := ⟨fun w => Bx w b T cs, fun c => c ≠ b, fun h hb => h.below hb, fun h _ ho hb => h.onl ho hb⟩
def fW (w0 : World) : SF := ⟨fun w => Below w0.heap.size w0 w, fun c => w0.heap.size <= c, fun h hb => h.trans (hb.mono h.size), fun h _ ho hb => hb.below h ho⟩
section
variable {P : Program} {o : Oper} {a : Act} {w : World} {K : Act -> World -> Prop} {Q : Exit -> Act -> World -> Prop}
structure Ag (P : Program) (T n : Nat) (zs : List Value) : Prop where
 u : ∃ d, P.underlying T = some d /\ (match d with | .struct _ | .array _ _ => true | _ => false) = true
 i : (P.info? T).map (fun i => (i.zero, i.size)) = some (some (.agg zs.toArray), n)
 l : zs.length = n
theorem Ag.size (h : Ag P T n zs) : (P.info? T).map (·.size) = some n := by
 have := h.i
 cases e : P.info? T with
 | none => simp [e] at this
 | some i => simp [e] at this ⊢; exact this.2
theorem DV (h : (execOp a.eval o).run P w = .ok (.value v) w') (hK : K (a.put o.dst v) w') : o.wp P a w K Q := by
 unfold Oper.wp; rw [h]; exact hK
theorem CU (hA : Ag P T n zs) (ho : o.op = .load T x) (hx : ρ x = .pointer (some ⟨b, 0, none⟩)) (hb : Bx w b T cs) (hn : cs.length = n) :
 (execOp ρ o).run P w = .ok (.value (.agg cs.toArray)) w := by
 obtain ⟨d, e, f⟩ := hA.u
 unfold execOp
 simp only [ho, hx, Instr.loadAt, Instr.sureAddr, Sem.run_bind, Sem.run_pure, Result.andThen_ok, run_loadVar_row w b T T cs.toArray (0, 0) d hb e (by cases d <;> simp_all) (by rw [hA.size]; simp [hn])]
theorem KS (w : World) (T : Nat) (cs : List Value) : Bx (w.alloc (.cells cs.toArray T)) w.heap.size T cs := by
 unfold Bx World.alloc; simp
theorem BZ (hA : Ag P T n zs) (ho : o.op = .alloc T)
 (h : ∀ b w', b = w.heap.size -> w'.heap.size = w.heap.size + 1 -> Below w.heap.size w w' -> Bx w' b T zs -> K (a.put o.dst (.pointer (some ⟨b, 0, none⟩))) w') : o.wp P a w K Q := by
 have f := hA.i
 refine DV (v := .pointer (some ⟨w.heap.size, 0, none⟩)) (w' := w.alloc (.cells zs.toArray T)) ?_ (h _ _ O AH ((Below.refl _ _).alloc (Nat.le_refl _) _) (KS w T zs))
 unfold execOp; rw [ho]
 cases e : P.info? T with
 | none => simp [e] at f
 | some i =>
   simp [e] at f
   simp [Instr.alloc, zeroValue, typeInfo, e, f.1, newVar, newRow, Sem.run_bind, Value.cells, newObj]
   rfl
theorem CM (ho : o.op = .box T x) (hx : a.eval x = .agg cs.toArray)
 (h : ∀ b w', b = w.heap.size -> w'.heap.size = w.heap.size + 1 -> Below w.heap.size w w' -> Bx w' b T cs -> K (a.put o.dst (.pointer (some ⟨b, 0, none⟩))) w') : o.wp P a w K Q := by
 refine DV (v := .pointer (some ⟨w.heap.size, 0, none⟩)) (w' := w.alloc (.cells cs.toArray T)) ?_ (h _ _ O AH ((Below.refl _ _).alloc (Nat.le_refl _) _) (KS w T cs))
 unfold execOp; rw [ho]
 simp [Instr.box, hx, newVar, newRow, Value.cells, newObj]
 rfl
theorem gL (w : World) (b k : Nat) (c : Array Value) (h : k ≠ b) : (w.setRow b c).heap[k]? = w.heap[k]? := by
 show (w.heap.modify b _)[k]? = _
 rw [Array.getElem?_modify, if_neg (fun e => h e.symm)]
theorem NJ (w : World) (b : Nat) (c : Array Value) : Onl b w (w.setRow b c) :=
 ⟨rfl, rfl, rfl, by simp [World.setRow], fun k hk => gL w b k c hk⟩
theorem XZ {w : World} (h : Bx w b T cs) (ds : List Value) : Bx (w.setRow b ds.toArray) b T ds := by
 unfold Bx at *
 exact setRow_heap w b cs.toArray ds.toArray T (0, 0) h
theorem tM {ds : List Value} (hA : Ag P T n zs) (ho : o.op = .store T x y) (hx : ρ x = .pointer (some ⟨b, 0, none⟩)) (hy : ρ y = .agg ds.toArray)
 (hb : Bx w b T cs) (hn : cs.length = n) (hd : ds.length = n) (h1 : ∀ v ∈ ds, v.oneCell' = true) :
 (execOp ρ o).run P w = .ok .skip (w.setRow b ds.toArray) := by
 have e := hA.size
 have f := run_storeCells_at (P := P) b 0 T ds 0 cs.toArray w hb (by simp; omega) h1
 simp only [Nat.zero_add, List.take_zero, List.nil_append, Nat.add_zero] at f
 rw [List.drop_of_length_le (show cs.toArray.toList.length <= ds.length by rw [List.toList_toArray]; omega), List.append_nil] at f
 unfold execOp
 cases h : P.info? T with
 | none => simp [h] at e
 | some i =>
   simp [h] at e
   simp only [ho, hx, hy, Instr.storeAt, Instr.sureAddr, Sem.run_bind, Sem.run_pure, Result.andThen_ok, storeVar, Value.cells, sizeOf, typeInfo]
   simp [h, e, hd, f]
theorem BY {ds : List Value} (hA : Ag P T n zs) (ho : o.op = .store T x y) (hx : a.eval x = .pointer (some ⟨b, 0, none⟩)) (hy : a.eval y = .agg ds.toArray)
 (hb : Bx w b T cs) (hn : cs.length = n) (hd : ds.length = n) (h1 : ∀ v ∈ ds, v.oneCell' = true)
 (h : ∀ w', Onl b w w' -> Bx w' b T ds -> K (a.put o.dst undef) w') : o.wp P a w K Q := by
 unfold Oper.wp
 rw [tM hA ho hx hy hb hn hd h1]
 exact h _ (NJ _ _ _) (XZ hb _)
def Fn (P : Program) (f : Nat) : Prop := ∃ fn, P.funcs[f]? = some fn /\ (fn.name == "runtime.NumGoroutine") = false /\ fn.body.isNone = false
theorem Fn.run (h : Fn P f) (args : Array Value) (w : World) : (callFunc f args).run P w = .ok (.enter f args) w := by
 obtain ⟨l, p, o, k⟩ := h
 have e1 : l.name ≠ "runtime.NumGoroutine" := by simpa using o
 have e2 : l.body ≠ none := by intro e; rw [e] at k; simp at k
 simp [callFunc, p, e1, e2]
theorem CZ {f : Nat} {args : List Operand} {tys : Array TypeId} {vs : List Value} {R : Ending -> World -> Prop} (hf : Fn P f) (ho : o.op = .call { callee := .value (.func f), args := args.toArray, argTypes := tys })
 (hc : Calls P f vs.toArray w R) (hv : args.map a.eval = vs) (h : ∀ e w', R e w' -> ∃ v, e = .returned v /\ K (a.put o.dst v) w') : o.wp P a w K Q := by
 subst hv
 unfold Oper.wp execOp
 simp only [ho, resolve, Act.eval, Deferred.ofValue, Sem.run_bind, Sem.run_pure, Result.andThen_ok, invoke, List.map_toArray]
 simp only [Array.append_empty, Array.empty_append, hf.run, Oper.upon]
 refine Calls.mono hc fun e w' k => ?_
 obtain ⟨v, rfl, l⟩ := h e w' k
 exact l
end
theorem mT {P : Program} {c : Code} {a : Act} {w : World} {Q : Exit -> Act -> World -> Prop} (I : Act -> World -> Prop) (h1 : c.wp P (Exit.then I Q) a w) (h2 : ∀ a w, I a w -> Q .normal a w) : c.wp P Q a w := by
 refine Code.wp_mono ?_ h1
 intro e a w h
 cases e <;> first | exact h2 _ _ h | exact h
section
variable {P : Program} {ops : Array Oper} {rest : List Oper} {o : Oper} {a : Act} {w : World} {Q : Exit -> Act -> World -> Prop}
theorem L1 (hg : Region.wanted o (yielded ops a.tmps) = true) (h : o.wp P a w (wpList P ops Q rest) Q) : wpList P ops Q (o :: rest) a w := by
 unfold wpList; rw [if_pos hg]; exact .inl h
theorem L0 (hg : Region.wanted o (yielded ops a.tmps) = false) (h : wpList P ops Q rest (a.put o.dst undef) w) : wpList P ops Q (o :: rest) a w := by
 unfold wpList; rw [if_neg (by simp [hg])]; exact h
theorem LV (hg : Region.wanted o (yielded ops a.tmps) = true) (hr : (execOp a.eval o).run P w = .ok (.value v) w) (h : wpList P ops Q rest (a.put o.dst v) w) : wpList P ops Q (o :: rest) a w :=
 L1 hg (DV hr h)
end
section
variable {P : Program} {ops : Array Oper} {Q : Exit -> Act -> World -> Prop} {md : Region.Mode}
def LH (o : Oper) : Bool := match o.op with
 | .alloc _ | .box .. | .buildSlice .. | .insert .. | .store .. | .ready _ | .waits _ | .makeInterface .. | .makeFunc .. | .makeMap .. | .makeChan .. | .makeSlice .. | .mapUpdate .. | .mapEntry .. | .entryStore .. | .range .. | .next .. | .entry .. | .typeAssert .. | .go _ | .defer _ | .panic _ | .send .. | .recv .. | .select .. => false
 | .call c => (match c.callee with | .builtin .len => true | _ => false)
 | _ => true
def aY (B : List Nat) (L : Array Bool) : Bool := B.any fun k => L.getD k false
def xN (md : Region.Mode) (ops : Array Oper) (i : Nat) : Nat -> Nat -> Bool
 | 0, _ => false
 | n + 1, k => match ops[k]? with
   | some o => o.after.toList.any fun e => Region.binds md e && (e.on == i || xN md ops i n e.on)
   | none => false
def ZE (md : Region.Mode) (ops : Array Oper) (B : List Nat) (i : Nat) : Bool := B.all fun k => xN md ops i 3 k
def Closed (md : Region.Mode) (ops : Array Oper) (L : Array Bool) : Prop := ∀ k o, ops[k]? = some o -> L.getD k false = true -> ∀ e ∈ o.after, Region.binds md e = true -> L.getD e.on false = true
theorem fQ {L : Array Bool} {i : Nat} (hc : Closed md ops L) : ∀ (n k : Nat) (o : Oper), ops[k]? = some o -> (∀ e ∈ o.after, Region.binds md e = true -> L.getD e.on false = true) -> xN md ops i n k = true -> L.getD i false = true
 | 0, _, _, _, _, h => by cases h
 | n + 1, k, o, ho, hall, h => by
   simp only [xN, ho] at h
   obtain ⟨e, he, hbe⟩ := List.any_eq_true.1 h
   rw [Bool.and_eq_true, Bool.or_eq_true, beq_iff_eq] at hbe
   have h1 := hall e (Array.mem_toList_iff.1 he) hbe.1
   rcases hbe.2 with h2 | h2
   . rw [<- h2]; exact h1
   cases hk : ops[e.on]? with
   | none =>
     cases n with
     | zero => cases h2
     | succ n => simp [xN, hk] at h2
   | some o' => exact fQ hc n e.on o' hk (hc _ _ hk h1) h2
theorem Closed.set (hc : Closed md ops L) (hr : i ∈ Region.ready md ops L) : Closed md ops (L.setIfInBounds i true) := by
 intro k o q t e u v
 by_cases l : k = i
 . subst l
   obtain ⟨_, y, f, p⟩ := mem_ready.1 hr
   rw [q] at f
   cases f
   exact getD_set_true (p e u v)
 rw [getD_set_ne false (fun h => l h.symm)] at t
 exact getD_set_true (hc k o q t e u v)
def SL (B : List Nat) (S1 S2 : World -> Prop) (L : Array Bool) (w : World) : Prop := if aY B L = true then S2 w else S1 w
def mU (P : Program) (md : Region.Mode) (ops : Array Oper) (Q : Exit -> Act -> World -> Prop) (S : Array Bool -> World -> Prop) : Nat -> Array Bool -> Act -> World -> Prop
 | 0, L, a, w => Region.ready md ops L = [] /\ Q .normal a w
 | f + 1, L, a, w => (Region.ready md ops L = [] -> Q .normal a w) /\ ∀ i ∈ Region.ready md ops L, wpOp P ops Q i (fun a' w' => S (L.setIfInBounds i true) w' /\ mU P md ops Q S f (L.setIfInBounds i true) a' w') a w
theorem cW {S : Array Bool -> World -> Prop} : ∀ (f : Nat) (L : Array Bool) (a : Act) (w : World), mU P md ops Q S f L a w -> wpAny P md ops Q f L a w
 | 0, _, _, _, h => h
 | f + 1, _, _, _, h => ⟨h.1, fun i hi => wpOp_mono (fun a' w' h' => cW f _ a' w' h'.2) (h.2 i hi)⟩
theorem UC {B : List Nat} (h : i ∉ B) : aY B (L.setIfInBounds i true) = aY B L := by
 unfold aY
 rw [Bool.eq_iff_iff, List.any_eq_true, List.any_eq_true]
 constructor <;> rintro ⟨k, f, l⟩ <;> refine ⟨k, f, ?_⟩
 . rwa [getD_set_ne false (fun e : i = k => h (by rw [e]; exact f))] at l
 rwa [getD_set_ne false (fun e : i = k => h (by rw [e]; exact f))]
theorem tF {B : List Nat} {T : World -> Prop} {oi : Oper} (hi : ops[i]? = some oi) (hsel : ∀ (j : Nat) (o : Oper) cs b, ops[j]? = some o -> o.op ≠ .select cs b)
 (hQ : ∀ c a w, Q (.panic c) (a.put oi.dst v) w -> Q (.panic c) a w) (hB : i ∉ B) (h12 : ∀ w, S1 w -> S2 w)
 (tg : Bool) (hT1 : tg = true -> T = S1 /\ ZE md ops B i = true) (hT2 : tg = false -> T = S2) :
 ∀ (f : Nat) (L : Array Bool) (a : Act) (w : World), Closed md ops L -> (tg = true -> aY B L = false) ->
  (∀ j oj, ops[j]? = some oj -> j ≠ i -> L.getD j true = false -> (∀ e ∈ oj.after, Region.binds md e = true -> e.on ≠ i) -> oi.apart ops oj = true) ->
  i ∈ Region.ready md ops L -> YieldsIf P ops T oi v a -> T w -> SL B S1 S2 L w ->
  mU P md ops Q (SL B S1 S2) f (L.setIfInBounds i true) (a.put oi.dst v) w -> mU P md ops Q (SL B S1 S2) (f + 1) L a w := by
 intro f
 induction f with
 | zero =>
   intro L a w _ _ _ y hy G hS H
   refine ⟨fun h => (by rw [h] at y; cases y), fun j hj => ?_⟩
   by_cases p : j = i
   . subst p
     exact hy.wpOp hi G ⟨by unfold SL; rw [UC hB]; exact hS, H⟩
   have := ready_mono hj p
   rw [H.1] at this
   cases this
 | succ f ih =>
   intro L a w a0 a3 q y hy G hS H
   refine ⟨fun h => (by rw [h] at y; cases y), fun j hj => ?_⟩
   by_cases p : j = i
   . subst p; exact hy.wpOp hi G ⟨by unfold SL; rw [UC hB]; exact hS, H⟩
   have J := H.2 j (ready_mono hj p)
   obtain ⟨D, oj, t, F⟩ := mem_ready.1 hj
   have X : ∀ e ∈ oj.after, Region.binds md e = true -> e.on ≠ i := fun e he hb a8 => by
    have J := F e he hb
    have h0 := (mem_ready.1 y).1
    rw [a8] at J
    rcases Nat.lt_or_ge i L.size with N | N
    . simp [N] at h0 J; rw [h0] at J; cases J
    simp [Array.getElem?_eq_none N] at J
   have C : tg = true -> aY B (L.setIfInBounds j true) = false := fun U => by
    have a7 : j ∉ B := fun a6 => by
     have h5 := fQ a0 3 j oj t F (List.all_eq_true.1 (hT1 U).2 j a6)
     have h0 := (mem_ready.1 y).1
     rcases Nat.lt_or_ge i L.size with N | N
     . simp [N] at h0 h5; rw [h0] at h5; cases h5
     simp [Array.getElem?_eq_none N] at h5
    rw [UC a7]; exact a3 U
   have h2 := wpOp_putIf t (q j oj t p D X) (fun cs b => hsel i oi cs b hi) (fun cs b => hsel j oj cs b t) hQ hy J
   have u : ∀ k R, ops[k]? = some R -> k ≠ i -> (L.setIfInBounds j true).getD k true = false ->
    (∀ e ∈ R.after, Region.binds md e = true -> e.on ≠ i) -> oi.apart ops R = true := fun k R hk a5 S a4 => by
    refine q k R hk a5 ?_ a4
    by_cases Y : j = k
    . subst Y; exact D
    rw [getD_set_ne true Y] at S; exact S
   refine wpOp_mono (fun a' w' h3 => ?_) h2
   obtain ⟨a2, I, a9⟩ := h3
   rw [Array.setIfInBounds_comm _ _ (Ne.symm p)] at I
   have l : SL B S1 S2 (L.setIfInBounds j true) w' := by
    unfold SL at I ⊢
    rwa [UC hB] at I
   have a1 : T w' := by
    cases tg with
    | true =>
      have := C rfl
      unfold SL at l
      rw [this] at l
      rw [(hT1 rfl).1]; simpa using l
    | false =>
      rw [hT2 rfl]
      unfold SL at l
      split at l
      . exact l
      exact h12 _ l
   refine ⟨l, ih (L.setIfInBounds j true) a' w' (a0.set hj) C u (ready_mono y (Ne.symm p)) a2 a1 l ?_⟩
   rw [Array.setIfInBounds_comm _ _ p]
   exact a9
def DT (P : Program) (md : Region.Mode) (ops : Array Oper) (Q : Exit -> Act -> World -> Prop) (B : List Nat) (S1 S2 : World -> Prop) : List Nat -> Bool -> Act -> World -> Prop
 | [], _, a, w => Q .normal a w
 | i :: rest, ph, a, w => match ops[i]? with
   | none => False
   | some o => if LH o = true then
      ∃ v, YieldsIf P ops (if (!ph && ZE md ops B i) = true then S1 else S2) o v a /\ DT P md ops Q B S1 S2 rest ph (a.put o.dst v) w
     else wpOp P ops Q i (fun a' w' => (if (ph || B.contains i) = true then S2 w' else S1 w') /\ DT P md ops Q B S1 S2 rest (ph || B.contains i) a' w') a w
def TS (md : Region.Mode) (ops : Array Oper) (B : List Nat) : Array Bool -> List Nat -> Bool
 | L, [] => Region.ready md ops L == []
 | L, i :: rest => (match ops[i]? with
   | none => false
   | some o => if LH o then !B.contains i && Region.free md ops L i && (Region.ready md ops L).contains i else Region.ready md ops L == [i]) && TS md ops B (L.setIfInBounds i true) rest
theorem RG {B : List Nat} {S1 S2 : World -> Prop} (hs : Region.noSelect ops = true) (hQ : ∀ d v c a w, Q (.panic c) (a.put d v) w -> Q (.panic c) a w) (h12 : ∀ w, S1 w -> S2 w) :
 ∀ (l : List Nat) (L : Array Bool) (ph : Bool) (a : Act) (w : World), Closed md ops L -> L.size = ops.size -> aY B L = ph -> TS md ops B L l = true -> (if ph = true then S2 w else S1 w) ->
  DT P md ops Q B S1 S2 l ph a w -> mU P md ops Q (SL B S1 S2) l.length L a w
 | [], L, ph, a, w, _, _, _, hk, _, h => by
   simp only [TS, beq_iff_eq] at hk
   exact ⟨hk, h⟩
 | i :: rest, L, ph, a, w, hcl, hsz, hph, hk, hS, h => by
   simp only [TS, Bool.and_eq_true] at hk
   obtain ⟨h1, h2⟩ := hk
   simp only [DT] at h
   cases ho : ops[i]? with
   | none => simp [ho] at h1
   | some o =>
     simp only [ho] at h1 h
     have hlt : i < ops.size := (Array.getElem?_eq_some_iff.1 ho).1
     by_cases hp : LH o = true
     . rw [if_pos hp] at h1 h
       rw [Bool.and_eq_true, Bool.and_eq_true] at h1
       obtain ⟨⟨hb, hf⟩, hr⟩ := h1
       have hb' : i ∉ B := by simpa using hb
       obtain ⟨v, hy, hrest⟩ := h
       have hSL : SL B S1 S2 L w := by unfold SL; rw [hph]; exact hS
       have hrec := RG hs hQ h12 rest (L.setIfInBounds i true) ph (a.put o.dst v) w (hcl.set (by simpa using hr)) (by simpa using hsz) (by rw [UC hb']; exact hph) h2 hS hrest
       refine tF ho (Region.noSelect_spec hs) (hQ o.dst v) hb' h12 (!ph && ZE md ops B i) (fun htg => ?_) (fun htg => ?_) rest.length L a w hcl (fun htg => ?_) (Region.free_spec ho hf) (by simpa using hr) hy ?_ hSL hrec
       . rw [if_pos htg]; rw [Bool.and_eq_true] at htg; exact ⟨rfl, htg.2⟩
       . rw [if_neg (by simp [htg])]
       . rw [Bool.and_eq_true] at htg
         rw [hph]; simpa using htg.1
       split
       . rename_i htg
         rw [Bool.and_eq_true] at htg
         have : ph = false := by simpa using htg.1
         rw [this] at hS; simpa using hS
       split at hS
       . exact hS
       exact h12 _ hS
     rw [if_neg hp] at h1 h
     rw [beq_iff_eq] at h1
     refine ⟨fun h0 => (by rw [h1] at h0; cases h0), fun j hj => ?_⟩
     obtain rfl : j = i := by rw [h1] at hj; simpa using hj
     have hany : aY B (L.setIfInBounds j true) = (ph || B.contains j) := by
      by_cases e : j ∈ B
      . have : B.contains j = true := by simpa using e
        rw [this, Bool.or_true]
        unfold aY
        refine List.any_eq_true.2 ⟨j, e, ?_⟩
        simp [hsz, hlt]
      have : B.contains j = false := by simpa using e
      rw [this, Bool.or_false, UC e]; exact hph
     refine wpOp_mono (fun p k f => ⟨?_, RG hs hQ h12 rest _ _ p k (hcl.set hj) (by simpa using hsz) hany h2 f.1 f.2⟩) h
     unfold SL
     rw [hany]
     exact f.1
theorem wB {a : Act} {w : World} (B : List Nat) (l : List Nat) (hm : P.follows .mixedOrders = true) (hs : Region.noSelect ops = true) (hl : l.length = ops.size)
 (hk : TS .any ops B (Array.replicate ops.size false) l = true) (h12 : ∀ w, S1 w -> S2 w) (hS : S1 w.drew)
 (hQ : ∀ d v c a w, Q (.panic c) (a.put d v) w -> Q (.panic c) a w) (h : DT P .any ops Q B S1 S2 l false a w.drew) : (Code.region id ops true).wp P Q a w := by
 refine wp_region_any hm (cW (S := SL B S1 S2) _ _ _ _ ?_)
 have := RG hs hQ h12 l (Array.replicate ops.size false) false a w.drew (by
  intro k o e hk
  have : k < ops.size := (Array.getElem?_eq_some_iff.1 e).1
  simp [this] at hk) AH (by
  unfold aY
  rw [List.any_eq_false]
  intro k _
  by_cases hk : k < ops.size <;> simp [hk]) hk (by simpa using hS) h
 rw [hl] at this
 exact this
theorem Ia {l : List SF} {a : Act} {w : World} (E : Env w l) (σ : List Nat) (hm : P.follows .mixedOrders = true) (hs : Region.noSelect ops = true) (hl : (σ.length == ops.size) = true)
 (hk : TS .any ops [] (Array.replicate ops.size false) σ = true)
 (hQ : ∀ d v c a w, Q (.panic c) (a.put d v) w -> Q (.panic c) a w) (h : DT P .any ops Q [] (fun w => Env w l) (fun w => Env w l) σ false a w.drew) : (Code.region id ops true).wp P Q a w :=
 wB [] σ hm hs (by simpa using hl) hk (fun _ h => h) E.drew hQ h
theorem XE {l l2 : List SF} {a : Act} {w : World} (E : Env w l) (h12 : ∀ w, Env w l -> Env w l2) (B σ : List Nat) (hm : P.follows .mixedOrders = true) (hs : Region.noSelect ops = true) (hl : (σ.length == ops.size) = true)
 (hk : TS .any ops B (Array.replicate ops.size false) σ = true)
 (hQ : ∀ d v c a w, Q (.panic c) (a.put d v) w -> Q (.panic c) a w) (h : DT P .any ops Q B (fun w => Env w l) (fun w => Env w l2) σ false a w.drew) : (Code.region id ops true).wp P Q a w :=
 wB B σ hm hs (by simpa using hl) hk h12 E.drew hQ h
section
variable {S : World -> Prop} {L : Array Bool} {f i j k : Nat} {o : Oper} {a : Act} {w : World}
theorem HP (ho : ops[i]? = some o) (hk : (Region.noSelect ops && Region.free md ops L i && (Region.ready md ops L).contains i) = true)
 (hQ : ∀ c a w, Q (.panic c) (a.put o.dst v) w -> Q (.panic c) a w) (hg : Region.wanted o (yielded ops a.tmps) = true) (hv : ∀ w, S w -> (execOp a.eval o).run P w = .ok (.value v) w) (hS : S w)
 (h : wpAnyH P md ops Q S f (L.setIfInBounds i true) (a.put o.dst v) w) : wpAnyH P md ops Q S (f + 1) L a w := by
 rw [Bool.and_eq_true, Bool.and_eq_true] at hk
 exact wpAnyH_take ho hk.1.1 hk.1.2 hk.2 hQ (.inl ⟨hg, hv⟩) hS h
theorem H1 (hr : Region.ready md ops L = [i]) (h : wpOp P ops Q i (fun a' w' => S w' /\ wpAnyH P md ops Q S f (L.setIfInBounds i true) a' w') a w) : wpAnyH P md ops Q S (f + 1) L a w :=
 wpAnyH_all hr AH fun x hx => by
  obtain rfl : x = i := by simpa using hx
  exact h
theorem HE (ho : ops[i]? = some o) (hg : Region.wanted o (yielded ops a.tmps) = true)
 (h : o.wp P a w (fun a' w' => S w' /\ wpAnyH P md ops Q S f (L.setIfInBounds i true) a' w') Q) : wpOp P ops Q i (fun a' w' => S w' /\ wpAnyH P md ops Q S f (L.setIfInBounds i true) a' w') a w := by
 unfold wpOp
 simp only [ho]
 rw [if_pos hg]
 exact .inl h
theorem HN (hr : Region.ready md ops L = []) (h : Q .normal a w) : wpAnyH P md ops Q S f L a w := wpAnyH_done hr h f
end
variable {B : List Nat} {S1 S2 : World -> Prop} {i : Nat} {rest : List Nat} {o : Oper} {a : Act} {w : World} {ph : Bool}
theorem SP (ho : ops[i]? = some o) (hp : LH o = true) (ht : ZE md ops B i = true) (hg : Region.wanted o (yielded ops a.tmps) = true) (hr : ∀ w, S1 w -> (execOp a.eval o).run P w = .ok (.value v) w)
 (h : DT P md ops Q B S1 S2 rest false (a.put o.dst v) w) : DT P md ops Q B S1 S2 (i :: rest) false a w := by
 simp only [DT, ho]
 rw [if_pos hp]
 refine ⟨v, .inl ⟨hg, ?_⟩, h⟩
 rw [ht]; exact hr
theorem S0 (ho : ops[i]? = some o) (hg : Region.wanted o (yielded ops a.tmps) = false) (hS : S1 w)
 (h : DT P md ops Q [] S1 S2 rest false (a.put o.dst undef) w) : DT P md ops Q [] S1 S2 (i :: rest) false a w := by
 simp only [DT, ho]
 split
 . exact ⟨undef, .inr ⟨hg, rfl⟩, h⟩
 unfold wpOp
 simp only [ho]
 rw [if_neg (by simp [hg])]
 exact ⟨hS, h⟩
theorem GG (ho : ops[i]? = some o) (hp : LH o = false) (hg : Region.wanted o (yielded ops a.tmps) = true) (hB : B.contains i = false)
 (h : o.wp P a w (fun a' w' => S1 w' /\ DT P md ops Q B S1 S2 rest false a' w') Q) : DT P md ops Q B S1 S2 (i :: rest) false a w := by
 exact ZQa
theorem S1b (ho : ops[i]? = some o) (hp : LH o = false) (hg : Region.wanted o (yielded ops a.tmps) = true) (hB : (ph || B.contains i) = true)
 (h : o.wp P a w (fun a' w' => S2 w' /\ DT P md ops Q B S1 S2 rest true a' w') Q) : DT P md ops Q B S1 S2 (i :: rest) ph a w := by
 exact ZQa
theorem SN (h : Q .normal a w) : DT P md ops Q B S1 S2 [] ph a w := h
end
theorem Bx.drew (h : Bx w b T cs) : Bx w.drew b T cs := h
section
variable {w : World} {f0 f1 f2 f3 f4 f5 f6 f7 f8 f9 : SF} {l k : List SF}
theorem YE (E : Env w (f0 :: l)) : Env w l := E.2
theorem Wa (h : Env w l -> Env w k) (E : Env w (f0 :: l)) : Env w (f0 :: k) := ⟨E.1, h E.2⟩
theorem NQ (h : Env w l -> Env w k) (E : Env w (f0 :: f1 :: f2 :: f3 :: f4 :: l)) : Env w (f0 :: f1 :: f2 :: f3 :: f4 :: k) := Wa (Wa (Wa (Wa (Wa h)))) E
theorem QP (E : Env w (f0 :: f1 :: l)) : Env w (f0 :: l) := Wa YE E
theorem VC (E : Env w (f0 :: f1 :: f2 :: l)) : Env w (f0 :: f1 :: l) := Wa QP E
theorem qC (E : Env w (f0 :: f1 :: f2 :: f3 :: l)) : Env w (f0 :: f1 :: f2 :: l) := Wa VC E
theorem jI (E : Env w (f0 :: f1 :: f2 :: f3 :: f4 :: l)) : Env w (f0 :: f1 :: f2 :: f3 :: l) := Wa qC E
theorem Lu (E : Env w (f0 :: f1 :: f2 :: f3 :: f4 :: f5 :: l)) : Env w (f0 :: f1 :: f2 :: f3 :: f4 :: l) := NQ YE E
theorem dW (E : Env w (f0 :: f1 :: f2 :: f3 :: f4 :: f5 :: f6 :: l)) : Env w (f0 :: f1 :: f2 :: f3 :: f4 :: f5 :: l) := NQ QP E
theorem dl7 (E : Env w (f0 :: f1 :: f2 :: f3 :: f4 :: f5 :: f6 :: f7 :: l)) : Env w (f0 :: f1 :: f2 :: f3 :: f4 :: f5 :: f6 :: l) := NQ VC E
theorem dl8 (E : Env w (f0 :: f1 :: f2 :: f3 :: f4 :: f5 :: f6 :: f7 :: f8 :: l)) : Env w (f0 :: f1 :: f2 :: f3 :: f4 :: f5 :: f6 :: f7 :: l) := NQ qC E
theorem Wb (E : Env w (f0 :: f1 :: f2 :: f3 :: f4 :: f5 :: f6 :: f7 :: f8 :: f9 :: l)) : Env w (f0 :: f1 :: f2 :: f3 :: f4 :: f5 :: f6 :: f7 :: f8 :: l) := NQ jI E
end
end Go.Proofs.YtmppigbbkjepiaaGreatDoor
