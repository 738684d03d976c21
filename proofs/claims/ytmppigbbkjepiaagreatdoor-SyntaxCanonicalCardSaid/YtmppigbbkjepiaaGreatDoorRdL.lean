/- The blocks of a row of the function's own. From a call's contract to the statement: arguments that are read, and read as before. From a call's contract to the statement, for chapter 44: what the listed variables give; a world for the witness. In a round of a range over a function: every operation goes as everywhere. The words of a text, as an iterator: package syntax's words. Reading a polynomial  -/
import Derived.Test.YtmppigbbkjepiaaGreatDoorRows
import Derived.ProofKit
import Derived.Lib.SmallJoins
import Derived.Carry
import Derived.Test.YtmppigbbkjepiaaGreatDoorCards
import Derived.Test.YtmppigbbkjepiaaGreatDoorTie
import Derived.WalkKit
import Derived.OpenShut
import Derived.Deep.DeepHandedRow
import Derived.Lib.LaidTab
import Derived.HandedShaped
import Derived.Test.YtmppigbbkjepiaaGreatDoorRead2
import Derived.RangeFuncNested
import Derived.RangeFuncBound
import Derived.RangeFuncCalls
import Derived.RangeFuncLeaves
import Derived.Shelf.Abstract
import Derived.Shelf.RegionOpen
import Derived.OwnWalkIn
import Derived.TacticsInMore
import Derived.LoopNIn
import Derived.LoopIn
import Derived.OrdersIn
namespace Go.Proofs.YtmppigbbkjepiaaGreatDoor
theorem Acc.own {α : Type} {e : El α} {t base : Nat} {S : Nat → Prop} {w : World} {v : Value} {l : List α} (h : Acc e t base S w v l) : ∀ g, v.ownBlock = some g → ¬ S g := by
  obtain ⟨_, _, _, f⟩ := h; exact f
end Go.Proofs.YtmppigbbkjepiaaGreatDoor
namespace Go.Proofs.YtmppigbbkjepiaaGreatDoor
open Go.Proofs.Tryz
open Go.ChangeShapes Go.WideShapes Go.ChangeAt Go.RowKit Go.Joins W
theorem Tryz.own : ownKnob prog.godebug = none := by kernel_rfl
theorem Tryz.laidOut : laidOutB prog = true := by kernel_rfl
theorem YA {H : Type} {enc : TypeId × Value → H} {W W' : World} (hb : Below W.heap.size W W') : ∀ {ts : List TypeId} {vs : List Value} {ds : List (DataW H)} {ps : List MemPlace},
    DataW.TrodAll enc prog W 0 (fun _ => true) true ts vs ds ps → (∀ t ∈ ts, prog.readableRec t = true ∧ t < prog.types.size) → (∀ x ∈ ps, x.block < W.heap.size) →
    DataW.TrodAll enc prog W' 0 (fun b => decide (b < W.heap.size)) true ts vs ds ps
  | [], [], [], _, h, _, _ => h
  | t :: ts, v :: vs, d :: ds, ps, h, hr, hlt => by
    obtain ⟨p, q, h1, h2, rfl⟩ := h
    refine ⟨p, q, Below.trod Tryz.laidOut (hr t AG).1 (hr t AG).2 h1 hb (fun x hx => hlt x (List.mem_append_left _ hx)), YA hb h2 (fun t ht => hr t (List.mem_cons_of_mem _ ht)) (fun x hx => hlt x (List.mem_append_right _ hx)), O⟩
  | [], _ :: _, _, _, h, _, _ => absurd h (by simp [DataW.TrodAll])
  | [], [], _ :: _, _, h, _, _ => absurd h (by simp [DataW.TrodAll])
  | _ :: _, [], _, _, h, _, _ => absurd h (by simp [DataW.TrodAll])
  | _ :: _, _ :: _, [], _, h, _, _ => absurd h (by simp [DataW.TrodAll])
end Go.Proofs.YtmppigbbkjepiaaGreatDoor
namespace Go.Proofs.YtmppigbbkjepiaaGreatDoor
open Go.Proofs.Tryz
open Go.ChangeShapes Go.WideShapes Go.ChangeAt Go.RowKit Go.Joins W
def lst44 : List (String × DataW Unit) := [("math/bits.deBruijn32tab", Rows.laid_math_bits_deBruijn32tab), ("math/bits.deBruijn64tab", Rows.laid_math_bits_deBruijn64tab), ("internal/strconv.uint64pow10", Rows.laid_internal_strconv_uint64pow10), ("unicode/utf8.acceptRanges", Rows.laid_unicode_utf8_acceptRanges), ("unicode/utf8.first", Rows.laid_unicode_utf8_first)]
theorem Gu : (prog.globals[1]?).map (·.type) = some 222 := by kernel_rfl
theorem Ds : prog.cellsOf 222 = 20 := by kernel_rfl
theorem Dr : prog.cellsOf 161 = 1 := by kernel_rfl
theorem Glob.of {W : World} (h : laidMetH prog lst44 W) (hsh : W.ShapedOpen prog) : Glob W := by
  have f := h.filter (fun x => x.1 == "internal/strconv.uint64pow10")
  have e : (lst44.filter fun x => x.1 == "internal/strconv.uint64pow10") = [("internal/strconv.uint64pow10", Lib.tabData .u64 Lib.pow10Tab)] := by kernel_rfl
  rw [e] at f
  exact ⟨Lib.tabIs_of_head (rest := []) WF Gu underlying222 underlying161 Dr Ds f,
    Go.Proofs.cell_of_shapedOpen_int (zero := #[.int .i64 0]) (t := 3) hsh (of_decide_eq_true I) I rfl I I underlying3⟩
def litV : DataW Unit → List Value
  | .lit (.int k z) => [.int k z]
  | .agg l => l.flatMap fun d => match d with
    | .lit (.int k z) => [.int k z]
    | _ => []
  | _ => []
def tabV : DataW Unit → Array Value
  | .agg l => (l.flatMap litV).toArray
  | _ => #[]
def Hm (d : DataW Unit) : Obj → Obj
  | .cells _ t frozen => .cells (tabV d) t frozen
  | o => o
noncomputable def laidWorld (os : Os) : World :=
  { World.holding prog os ⟨#[], #[], []⟩ with heap := (((((World.holding prog os ⟨#[], #[], []⟩).heap.modify 1 (Hm Rows.laid_internal_strconv_uint64pow10)).modify 2 (Hm Rows.laid_unicode_utf8_first)).modify 3 (Hm Rows.laid_unicode_utf8_acceptRanges)).modify 4 (Hm Rows.laid_math_bits_deBruijn32tab)).modify 5 (Hm Rows.laid_math_bits_deBruijn64tab) }
end Go.Proofs.YtmppigbbkjepiaaGreatDoor
namespace Go.Proofs.YtmppigbbkjepiaaGreatDoor
open Go.RowKit W
def Mf : Op → Bool
  | .defer _ => true
  | _ => false
def aQ (ops : Array Oper) : Bool := ops.toList.all fun o => !Mf o.op
theorem iV {ops : Array Oper} (h : aQ ops = true) {o : Oper} (ho : o ∈ ops.toList) (c : Call) : o.op ≠ .defer c := by
  intro e
  have := List.all_eq_true.1 h o ho
  rw [e] at this; cases this
section
variable {P : Program} {r n : Nat} {ops : Array Oper} {Q : Exit → Act → World → Prop} {a : Act} {w : World}
theorem Ch {m : Nat} {row : String} {args : Array Value} {R : Value → World → Prop} (h : Rows P row args w R) : RowsIn Fence.wide m P row args w R :=
  fun c cs _ => let ⟨v, w', r, s⟩ := h c cs; ⟨v, w', r, stepsIn_wide.2 s⟩
theorem yL {o : Oper} {K : Act → World → Prop} (hd : ∀ c, o.op ≠ .defer c) (h : o.wp P a w K Q) : o.wpIn (Fence.wide.inRound r) n P a w K Q := by
  refine ⟨fun _ _ => trivial, ?_⟩
  show o.uponIn _ n P a K Q ((o.semAt (some r) a.eval).run P w)
  rw [Oper.semAt_some r _ _ hd]
  unfold Oper.wp Oper.upon at h
  revert h
  generalize (execOp a.eval o).run P w = res
  intro h
  cases res with
  | ok nx w' =>
    cases nx <;> first | exact h | exact h.elim | exact ⟨(fun e => by cases e), CallsIn.inRound r (callsIn_wide.2 h)⟩ | exact ⟨(fun e => by cases e), Ch h⟩
  | halt s w' => cases s <;> first | exact h | exact h.elim
theorem oN (hd : aQ ops = true) (hq : ¬ LetsOut Q) : ∀ {l : List Oper} {a : Act} {w : World}, (∀ o ∈ l, o ∈ ops.toList) → wpList P ops Q l a w → wpListIn (Fence.wide.inRound r) n P ops Q l a w
  | [], _, _, _, h => h
  | o :: l, a, w, hl, h => by
    have hod := iV hd (hl o AG)
    unfold wpListIn
    unfold wpList at h
    split
    · rename_i hw
      rw [if_pos hw] at h
      rcases h with h | ⟨_, h⟩
      · have : wpList P ops Q l = fun a w => wpList P ops Q l a w := rfl
        exact yL hod (Oper.wp_mono (fun a w h => oN hd hq (fun o ho => hl o (by simp [ho])) h) h)
      · exact absurd h hq
    · rename_i hw
      rw [if_neg hw] at h
      exact ⟨fun _ _ => trivial, oN hd hq (fun o ho => hl o (by simp [ho])) h⟩
theorem XZ {id : Nat} {l : List Value} (hd : aQ ops = true) (hq : ¬ LetsOut Q) (h : WL P ops Q ops.toList l w) : (Code.region id ops false).wpIn (Fence.wide.inRound r) n P Q ⟨l.toArray, []⟩ w :=
  wpIn_region_list (oN hd hq (fun _ h => h) h.out)
theorem pH (hd : aQ ops = true) (hq : ¬ LetsOut Q) {md : Region.Mode} : ∀ (f : Nat) (L : Array Bool) (a : Act) (w : World), wpAny P md ops Q f L a w → wpAnyIn (Fence.wide.inRound r) n P md ops Q f L a w
  | 0, _, _, _, h => h
  | f + 1, L, a, w, h => by
    refine ⟨h.1, fun i hi => ?_⟩
    have h2 := h.2 i hi
    unfold wpOpIn
    unfold wpOp at h2
    cases ho : ops[i]? with
    | none => rw [ho] at h2; exact pH hd hq f _ a w h2
    | some o =>
      rw [ho] at h2
      simp only at h2 ⊢
      have hod := iV hd (Array.mem_toList_iff.2 (Array.mem_of_getElem? ho))
      split
      · rename_i hw
        rw [if_pos hw] at h2
        rcases h2 with h2 | ⟨_, h2⟩
        · exact yL hod (Oper.wp_mono (fun a w h => pH hd hq f _ a w h) h2)
        · exact absurd h2 hq
      · rename_i hw
        rw [if_neg hw] at h2
        exact ⟨fun _ _ => trivial, pH hd hq f _ _ w h2⟩
theorem MQ {l : List SF} {id : Nat} (hd : aQ ops = true) (hq : ¬ LetsOut Q) (E : Env w l) (σ : List Nat) (hm : P.follows .mixedOrders = true) (hs : Region.noSelect ops = true) (hl : (σ.length == ops.size) = true)
    (hk : PX .any ops [] (Array.replicate ops.size false) σ = true)
    (hQ : ∀ d v c a w, Q (.panic c) (a.put d v) w → Q (.panic c) a w) (h : DJ P .any ops Q [] (fun w => Env w l) (fun w => Env w l) σ false a w.drew) : (Code.region id ops true).wpIn (Fence.wide.inRound r) n P Q a w := by
  refine wpIn_region_any hm (pH hd hq _ _ _ _ (YM (S := SL [] (fun w => Env w l) (fun w => Env w l)) _ _ _ _ ?_))
  have e : σ.length = ops.size := by simpa using hl
  have := OM hs hQ (fun _ h => h) σ (Array.replicate ops.size false) false a w.drew (by
    intro k o f hk
    have : k < ops.size := (Array.getElem?_eq_some_iff.1 f).1
    simp [this] at hk) AG (by
    unfold WS
    rw [List.any_eq_false]
    intro k _
    by_cases hk : k < ops.size <;> simp [hk]) hk (by simpa using E.drew) h
  rw [e] at this
  exact this
end
def Id (W : World) : SF := ⟨fun w => KeepsOthers W w, fun c => ∀ o, W.heap[c]? = some o → o.isCells = true,
  fun h hb => ⟨Nat.le_trans h.size hb.size, fun k o hk ho => (hb.block k (Array.getElem?_eq_some_iff.1 (h.same k o hk ho)).1).trans (h.same k o hk ho)⟩,
  fun h _ hc hb => ⟨by rw [hb.size]; exact h.size, fun k o hk ho => by
    refine (hb.block k fun e => ?_).trans (h.same k o hk ho)
    subst e
    rw [hc o hk] at ho; cases ho⟩⟩
theorem Env.ko {W : World} {L : List SF} (E : Env W L) : Env W (Id W :: L) := ⟨KeepsOthers.refl W, E⟩
theorem mB {W : World} {b T : Nat} {cs : List Value} (h : Bx W b T cs) : (Id W).ok b := fun o e => by unfold Bx at h; rw [h] at e; cases e; rfl
theorem GG {W : World} {c : Nat} (h : W.heap.size ≤ c) : (Id W).ok c := fun o e => by rw [Array.getElem?_eq_none h] at e; cases e
theorem Oi {α : Type} {e : El α} {W : World} {t base : Nat} {v : Value} {l : List α} (h : Acc e t base VF W v l) {g : Nat} (hg : v.ownBlock = some g) : (Id W).ok g := by
  intro o f
  obtain ⟨y, p, _⟩ := h
  rcases p.2 with ⟨rfl, _⟩ | ⟨z, u, q, rfl, _, k, _⟩
  · simp [Value.ownBlock] at hg
  · simp [Value.ownBlock] at hg
    subst hg
    rw [k] at f; cases f; rfl
theorem Env.turn {W W' : World} {L : List SF} {row : Option Nat} (E : Env W L) (hg : W.grownBy W' row) (hr : ∀ r, row = some r → ∃ o : Obj, W.heap[r]? = some o ∧ o.isCells = false) (hok : ∀ r, row = some r → Ok r L) : Env W' L := by
  cases row with
  | none => exact E.below ⟨hg.os, hg.tape, hg.output, hg.size, fun k f => hg.block k f AG⟩
  | some r =>
    obtain ⟨o, u, y⟩ := hr r rfl
    have h : r < W.heap.size := (Array.getElem?_eq_some_iff.1 u).1
    obtain ⟨p, q⟩ : ∃ p, W'.heap[r]? = some p := ⟨_, Array.getElem?_eq_getElem (Nat.lt_of_lt_of_le h hg.size)⟩
    have t : wZ W r := by
      intro j k e
      unfold World.cell? at e
      rw [u] at e
      cases o <;> simp_all [Obj.isCells]
    have l : Onl r W (W.putObj r p) := ⟨rfl, rfl, rfl, by simp, fun k f => World.putObj_heap_other (fun e => f e)⟩
    have v := E.onl t (hok r rfl) l
    refine v.below ⟨hg.os, hg.tape, hg.output, by rw [l.size]; exact hg.size, fun k f => ?_⟩
    rw [l.size] at f
    by_cases e : k = r
    · subst e; rw [q, World.putObj_heap_same h]
    · rw [hg.block k f (by simpa using e)]; exact (l.block k e).symm
end Go.Proofs.YtmppigbbkjepiaaGreatDoor
namespace Go.Proofs.YtmppigbbkjepiaaGreatDoor
open Go.Proofs.Tryz
open Go.RowKit Go.Shelf W
attribute [local go_sem] Oper.semAt_some
def cB : Nat → List Bs → List (Nat × Bs)
  | _, [] => []
  | k, x :: r => (k, x) :: cB (k + x.length + 1) r
abbrev Wd := { x : Nat × Bs // x.1 ≤ 4000 ∧ x.2.length ≤ 4000 }
def wdE (x : Wd) : Array Value := #[.int .i64 ↑x.1.1, .string (bs x.1.2)]
def eK (l : List Wd) : List (Nat × Bs) := l.map (·.1)
theorem JG (l : List Wd) (x : Wd) : eK (l ++ [x]) = eK l ++ [x.1] := by unfold eK; rw [List.map_append]; rfl
theorem JX (l : List Wd) : (eK l).length = l.length := List.length_map _
def keepB (sb : Nat) (W W' : World) : Prop := ∀ k, k < 2 ∨ k = sb → W'.heap[k]? = W.heap[k]?
theorem Glob.blocks {w w' : World} (h : Glob w) (h0 : w'.heap[0]? = w.heap[0]?) (h1 : w'.heap[1]? = w.heap[1]?) : Glob w' := by
  refine ⟨?_, ?_⟩
  · have f := h.pow
    unfold Lib.TabIs World.var? at *
    rw [WF] at *
    simp only [Option.bind_some] at *
    rw [h1]; exact f
  · obtain ⟨m, e⟩ := h.max
    exact ⟨m, (World.cell?_of_block h0).trans e⟩
theorem Glob.keepB {w w' : World} {sb : Nat} (h : Glob w) (hk : keepB sb w w') : Glob w' := h.blocks (hk 0 (.inl AD)) (hk 1 (.inl AD))
theorem Glob.below {w w' : World} (h : Glob w) (hb : Below w.heap.size w w') : Glob w' := h.blocks (hb.block 0 (Nat.lt_of_lt_of_le AD h.two)) (hb.block 1 (Nat.lt_of_lt_of_le AD h.two))
theorem Kc (s : Bs) (w : World) : Calls prog 40 #[.string (bs s)] w fun e w' => e = .returned (.func (.func 85) #[] #[.pointer (some ⟨w.heap.size, 0, none⟩)]) ∧ w' = w.alloc (.cells #[.string (bs s)] 9) := by
  go_enter func40, ntmps40
  go_wp2
  go_ret
  exact ⟨rfl, rfl⟩
set_option maxRecDepth 100000 in
set_option maxHeartbeats 400000 in
theorem Bc (n : Nat) (hn : 1 ≤ n) (l sb : Nat) (s : Bs) (hs : s.length ≤ 4000) (J Jx : List Wd → World → Prop) (W : World) (hJ : AbidesFrom W.heap.size J) (_ : AbidesFrom W.heap.size Jx)
    (hY : ∀ pre x W, J pre W → pre.length < (cB 0 (EN 32 s)).length → YieldAt Fence.wide (n - 1) prog l (wdE x) W fun e W' =>
      (e = .returned (.bool true) ∧ J (pre ++ [x]) W' ∧ keepB sb W W') ∨ (e = .returned (.bool false) ∧ Jx (pre ++ [x]) W'))
    (hB : Bx W sb 9 [.string (bs s)]) (hG : Glob W) (h0 : J [] W) :
    CallsIn Fence.wide n prog 85 #[.func (.yield l) #[] #[], .pointer (some ⟨sb, 0, none⟩)] W fun e W' => (∃ v, e = .returned v) ∧
      ((∃ ys, eK ys = cB 0 (EN 32 s) ∧ J ys W') ∨ (∃ pre, eK pre <+: cB 0 (EN 32 s) ∧ Jx pre W')) := by
  refine callsIn_of_wp func85 O trivial ?_ O
  simp only [ntmps85, List.size_toArray, List.length_cons, List.length_nil, Nat.reduceAdd, Nat.reduceSub, Array.replicate_succ, Array.replicate_zero, List.push_toArray, List.append_toArray, List.nil_append, List.cons_append]
  gi_wp2
  gi_loopw [3] (fun i wr => ∃ (k : Nat) (pre : List Wd), k ≤ s.length ∧ i = .int .i64 ↑k ∧ cB 0 (EN 32 s) = eK pre ++ cB k (EN 32 (s.drop k)) ∧ J pre wr ∧ Bx wr sb 9 [.string (bs s)] ∧ Glob wr)
    (fun i _ => s.length + 1 - (intOf i).toNat)
  case atStart => exact ⟨0, [], Nat.zero_le _, rfl, by simp [eK], h0, hB, hG⟩
  case round =>
    obtain ⟨k, pre, hk, rfl, hpre, hJs, hBw, hGw⟩ := hrel
    have hc : wr.cell? ⟨sb, 0, none⟩ = some (.string (bs s)) := by rw [hBw.cell]; rfl
    have hex : (bs s).extract k (bs s).size = bs (s.drop k) := by rw [Iy, FH, List.take_of_length_le (Nat.le_refl _)]
    have hln : (s.drop k).length ≤ 1000000 := by rw [List.length_drop]; omega
    cases hcut : LX 32 (s.drop k) with
    | none =>
      have hcall := ZP (s.drop k) 32 wr hln hGw hcut
      have hspl : EN 32 (s.drop k) = [s.drop k] := iB 32 (cutB_none.1 hcut)
      rw [hspl] at hpre
      gi_wp2
      refine ⟨BW, (callsIn_wide.2 hcall).mono ?_⟩
      rintro e w1 ⟨rfl, hb1⟩
      have hJ1 : J pre w1 := hJ pre wr w1 none hJs ⟨hb1.os, hb1.tape, hb1.output, hb1.size, fun j hj _ => hb1.block j hj⟩ (fun r e => by cases e)
      have hB1 : Bx w1 sb 9 [.string (bs s)] := hBw.below hb1
      obtain ⟨fn, tmps, assign, body, hy, hR⟩ := hY pre ⟨(k, s.drop k), by simp only; omega, by simp only [List.length_drop]; omega⟩ w1 hJ1 (by rw [hpre]; simp [cB, JX])
      dsimp only [wdE] at hy
      gi_wp2
      refine hR.mono ?_
      rintro e W3 (⟨rfl, hJ3, hk3⟩ | ⟨rfl, hJx3⟩)
      · gi_wp2
        refine AP (results_none O _ _ _) O ?_
        exact ⟨⟨_, rfl⟩, .inl ⟨_, by rw [hpre, JG]; rfl, hJ3⟩⟩
      · gi_wp2
        refine AP (results_none O _ _ _) O ?_
        exact ⟨⟨_, rfl⟩, .inr ⟨_, ⟨[], by rw [hpre, JG]; simp [cB]⟩, hJx3⟩⟩
    | some p =>
      obtain ⟨x, y⟩ := p
      obtain ⟨hxy, hx32⟩ := cutB_some.1 hcut
      have hcall := ZO (s.drop k) 32 x y wr hln hGw hcut
      have hspl : EN 32 (s.drop k) = x :: EN 32 y := by rw [hxy, nN 32 hx32]
      have hdl : (s.drop k).length = x.length + 1 + y.length := by rw [hxy]; simp; omega
      rw [List.length_drop] at hdl
      have hy2 : y = s.drop (k + x.length + 1) := by
        have h1 : s.drop (k + (x.length + 1)) = (s.drop k).drop (x.length + 1) := by rw [List.drop_drop]
        rw [Nat.add_assoc, h1, hxy, show x ++ 32 :: y = (x ++ [32]) ++ y by simp, show x.length + 1 = (x ++ [(32 : UInt8)]).length by simp, List.drop_left]
      rw [hspl] at hpre
      have HY2 := Lib.hid hy2
      clear hy2 hxy hspl hcut
      gi_wp2
      refine ⟨BW, (callsIn_wide.2 hcall).mono ?_⟩
      rintro e w1 ⟨rfl, hb1⟩
      have hJ1 : J pre w1 := hJ pre wr w1 none hJs ⟨hb1.os, hb1.tape, hb1.output, hb1.size, fun j hj _ => hb1.block j hj⟩ (fun r e => by cases e)
      have hB1 : Bx w1 sb 9 [.string (bs s)] := hBw.below hb1
      obtain ⟨fn, tmps, assign, body, hy, hR⟩ := hY pre ⟨(k, x), by simp only; omega, by simp only; omega⟩ w1 hJ1 (by rw [hpre]; simp [cB, JX])
      dsimp only [wdE] at hy
      gi_wp2
      refine hR.mono ?_
      have hbx : (bs x).size = x.length := FH x
      have hw1 : IntKind.i64.wrap (((x.length : Nat) : Int) + 1) = ((x.length + 1 : Nat) : Int) := ST Z Z
      have hw2 : IntKind.i64.wrap (((k : Nat) : Int) + ((x.length + 1 : Nat) : Int)) = ((k + x.length + 1 : Nat) : Int) := ST Z Z
      rintro e W3 (⟨rfl, hJ3, hk3⟩ | ⟨rfl, hJx3⟩)
      · have hB3 : Bx W3 sb 9 [.string (bs s)] := by unfold Bx; rw [hk3 sb (.inr rfl)]; exact hB1
        gi_wp2
        have h2 : y = s.drop (k + x.length + 1) := HY2
        refine ⟨⟨k + x.length + 1, pre ++ [⟨(k, x), _⟩], by omega, O, ?_, hJ3, hB3, (hGw.below hb1).keepB hk3⟩, by simp only [intOf]; omega⟩
        rw [hpre, JG, ← h2]; simp [cB]
      · gi_wp2
        refine AP (results_none O _ _ _) O ?_
        exact ⟨⟨_, rfl⟩, .inr ⟨_, ⟨cB (k + x.length + 1) (EN 32 y), by rw [hpre, JG]; simp [cB]⟩, hJx3⟩⟩
theorem pY (sb : Nat) (s : Bs) (hs : s.length ≤ 4000) (n : Nat) (hn : 1 ≤ n) (w : World) (hB : Bx w sb 9 [.string (bs s)]) (hG : Glob w) :
    SeqStopsK Fence.wide n prog 85 #[.pointer (some ⟨sb, 0, none⟩)] wdE (keepB sb) (fun xs => eK xs = cB 0 (EN 32 s)) (fun pre => eK pre <+: cB 0 (EN 32 s)) (cB 0 (EN 32 s)).length w := by
  intro l J p W f k e h o
  exact Bc n hn l sb s hs J p W k e h (hB.below f) (hG.below f) o
theorem Mc {sb : Nat} {A B C : World} (h : keepB sb A B) (g : keepB sb B C) : keepB sb A C := fun k hk => (g k hk).trans (h k hk)
theorem Md {sb : Nat} {w : World} (h : sb < w.heap.size) (h2 : 2 ≤ w.heap.size) (W : World) (l : Nat) (o o' : Obj) (hl : w.heap.size ≤ l) (_ : W.heap[l]? = some o) (_ : o.isCells = false) (_ : o.isWalk = false) : keepB sb W (W.putObj l o') :=
  fun _ hk => World.putObj_heap_other Z
end Go.Proofs.YtmppigbbkjepiaaGreatDoor
namespace Go.Proofs.YtmppigbbkjepiaaGreatDoor
open W
abbrev cZ := Bool × List Tm
def GK (l : List Bs) (i : Nat) (st : cZ) (w : Bs) : Option cZ :=
  if i % 2 = 1 then (if w = [43] ∨ w = [45] then some (decide (w = [45]), st.2) else none)
  else match cG l (PQ i st.1 w).1 with
    | none => none
    | some (c, m) => if i ≠ 0 ∧ 0 ≤ EU m (iZ st.2) then none else some (false, st.2 ++ [(Bw (PQ i st.1 w).2 c, m)])
def pW (l : List Bs) : Nat → cZ → List Bs → Option cZ
  | _, st, [] => some st
  | i, st, w :: ws => match GK l i st w with
    | none => none
    | some st' => pW l (i + 1) st' ws
theorem QM {l : List Bs} : ∀ {ws : List Bs} {i : Nat} {st st' : cZ} {w : Bs}, pW l i st ws = some st' → pW l i st (ws ++ [w]) = GK l (i + ws.length) st' w
  | [], i, st, st', w, h => by
    simp only [pW, Option.some.injEq] at h
    subst h
    simp only [List.nil_append, pW, List.length_nil, Nat.add_zero]
    cases GK l i st w <;> rfl
  | x :: ws, i, st, st', w, h => by
    simp only [pW] at h
    simp only [List.cons_append, pW]
    cases hx : GK l i st x with
    | none => rw [hx] at h; cases h
    | some st2 =>
      rw [hx] at h
      simp only at h ⊢
      rw [QM h, List.length_cons]
      congr 1; omega
theorem Mj {l : List Bs} {i at_ : Nat} {neg : Bool} {p : List Tm} {w : Bs} {ws : List Bs} {st : cZ} (h : GK l i (neg, p) w = some st) : OW l (w :: ws) i at_ neg p = OW l ws (i + 1) (at_ + w.length + 1) st.1 st.2 := by
  unfold GK at h
  rw [OW]
  by_cases k : i % 2 = 1
  · rw [if_pos k] at h ⊢
    by_cases e : w = [43] ∨ w = [45]
    · rw [if_pos e] at h ⊢
      simp only [Option.some.injEq] at h; subst h; rfl
    · rw [if_neg e] at h; cases h
  · rw [if_neg k] at h ⊢
    cases f : cG l (PQ i neg w).1 with
    | none => simp [f] at h
    | some t =>
      obtain ⟨c, m⟩ := t
      simp only [f] at h ⊢
      split at h
      · cases h
      · rename_i hc
        rw [if_neg hc]
        simp only [Option.some.injEq] at h; subst h; rfl
theorem Mk {l : List Bs} {i at_ : Nat} {neg : Bool} {p : List Tm} {w : Bs} {ws : List Bs} (h : GK l i (neg, p) w = none) : OW l (w :: ws) i at_ neg p = ([], at_, 440) := by
  unfold GK at h
  rw [OW]
  by_cases f : i % 2 = 1
  · rw [if_pos f] at h ⊢
    by_cases e : w = [43] ∨ w = [45]
    · rw [if_pos e] at h; cases h
    · rw [if_neg e]
  · rw [if_neg f] at h ⊢
    cases k : cG l (PQ i neg w).1 with
    | none => simp
    | some t =>
      obtain ⟨c, m⟩ := t
      simp only [k] at h ⊢
      split at h
      · rename_i hc; rw [if_pos hc]
      · cases h
def sP (k : Nat) (ws : List Bs) : Nat := k + (ws.map fun w => w.length + 1).sum
theorem vZ {l : List Bs} : ∀ {ws rest : List Bs} {i at_ : Nat} {neg : Bool} {p : List Tm} {st : cZ}, pW l i (neg, p) ws = some st → OW l (ws ++ rest) i at_ neg p = OW l rest (i + ws.length) (sP at_ ws) st.1 st.2
  | [], rest, i, at_, neg, p, st, h => by
    simp only [pW, Option.some.injEq] at h
    subst h
    simp [sP]
  | w :: ws, rest, i, at_, neg, p, st, h => by
    simp only [pW] at h
    cases hx : GK l i (neg, p) w with
    | none => rw [hx] at h; cases h
    | some st2 =>
      rw [hx] at h
      simp only [List.cons_append]
      rw [Mj hx, vZ (neg := st2.1) (p := st2.2) h]
      congr 1
      · simp only [List.length_cons]; omega
      · simp only [sP, List.map_cons, List.sum_cons]; omega
theorem nF : ∀ (k : Nat) (ws : List Bs), (cB k ws).map (·.2) = ws
  | _, [] => rfl
  | k, w :: ws => by simp only [cB, List.map_cons]; rw [nF]
theorem Bd {k : Nat} {ws : List Bs} {a : List (Nat × Bs)} {x : Nat × Bs} {r : List (Nat × Bs)} (h : a ++ x :: r = cB k ws) : ws = a.map (·.2) ++ x.2 :: r.map (·.2) ∧ x.1 = sP k (a.map (·.2)) := by
  induction a generalizing k ws with
  | nil =>
    cases ws with
    | nil => simp [cB] at h
    | cons w ws =>
      simp only [List.nil_append, cB, List.cons.injEq] at h
      obtain ⟨rfl, rfl⟩ := h
      simp [nF, sP]
  | cons y a ih =>
    cases ws with
    | nil => simp [cB] at h
    | cons w ws =>
      simp only [List.cons_append, cB, List.cons.injEq] at h
      obtain ⟨rfl, h⟩ := h
      obtain ⟨f, e⟩ := ih h
      refine ⟨by simp only [List.map_cons, List.cons_append]; rw [← f], ?_⟩
      rw [e]; simp only [sP, List.map_cons, List.sum_cons]; omega
theorem Mp (b : UInt8) (s : Bs) : sP 0 (EN b s) = s.length + 1 := by
  unfold sP
  rw [vV b (OC b s), jA]; omega
section
variable {l : List Bs} {s : Bs}
theorem lU (h1 : DS 8 l = true) (h2 : ¬ 4000 < s.length) (h3 : s ≠ [48]) : EV l s = OW l (EN 32 s) 0 0 false [] := by
  unfold EV
  rw [if_neg (by rw [h1]; decide), if_neg h2, if_neg h3]
theorem Gf (h1 : DS 8 l = true) (h2 : ¬ 4000 < s.length) (h3 : s ≠ [48]) {a r : List (Nat × Bs)} {x : Nat × Bs} {st : cZ} (hw : a ++ x :: r = cB 0 (EN 32 s)) (hf : pW l 0 (false, []) (a.map (·.2)) = some st) (hx : GK l a.length st x.2 = none) : EV l s = ([], x.1, 440) := by
  obtain ⟨f, e⟩ := Bd hw
  rw [lU h1 h2 h3, f, vZ hf, e, List.length_map, Nat.zero_add]
  exact Mk hx
theorem rD (h1 : DS 8 l = true) (h2 : ¬ 4000 < s.length) (h3 : s ≠ [48]) {a : List (Nat × Bs)} {st : cZ} (hw : a = cB 0 (EN 32 s)) (hf : pW l 0 (false, []) (a.map (·.2)) = some st) : EV l s = if a.length % 2 = 0 then ([], s.length + 1, 440) else (st.2, 0, 0) := by
  have e : a.map (·.2) = EN 32 s := by rw [hw, nF]
  have := vZ (rest := []) (at_ := 0) hf
  rw [List.append_nil] at this
  rw [lU h1 h2 h3, ← e, this, e, Mp]
  have f : (EN 32 s).length = a.length := by rw [← e, List.length_map]
  simp only [OW, Nat.zero_add, f]
end
theorem Ir {L : List Bs} {n : Nat} (hn : n ≤ 4000) (h : ∀ x ∈ L, x.length ≤ n) : FitQ (KK L).1 4000 := by
  have e : FitQ 1 4000 := ⟨(LU (m := 4) AD : Fits 1 4).mono AD, (LU (m := 4) AD : Fits 1 4).mono AD⟩
  cases L with
  | nil => exact e
  | cons a r =>
    unfold KK
    simp only
    cases f : PG a with
    | none => exact e
    | some c => exact iS (Nat.le_trans (h a AG) hn) f
theorem fZ {l : List Bs} {w : Bs} {c : Rat} {m : List Nat} (hw : w.length ≤ 4000) (h : cG l w = some (c, m)) : FitQ c 4000 := by
  unfold cG at h
  have f := Ir hw (fun x (hx : x ∈ EN 42 w) => XG hx)
  cases e : GS l (KK (EN 42 w)).2 zeroM with
  | none => simp [e] at h
  | some m' =>
    simp only [e] at h
    split at h
    · simp only [Option.some.injEq, Prod.mk.injEq] at h
      rw [← h.1]; exact f
    · cases h
theorem Io {i : Nat} {neg : Bool} {w : Bs} : (PQ i neg w).1.length ≤ w.length := by
  unfold PQ
  split
  · split
    · simp
    · exact Nat.le_refl _
  · exact Nat.le_refl _
section
open Go.RowKit
variable {P : Program} {Q : Exit → Act → World → Prop} {ops : Array Oper}
theorem cV {n : Nat} {fn : Func} {R : Ending → World → Prop} {a : Act} {w : World} {v : Value} (hr : (results fn a.tmps).run P w = .ok v w) (hd : a.defers = []) (hR : R (.returned v) w) : bodyPostM Fence.wide n P fn R .ret a w := by
  show LeavesInM Fence.wide n P fn a.tmps R a.defers .returning w
  rw [hd]
  exact ⟨v, hr, hR⟩
theorem ZK {n D : Nat} {fn : Func} {R : Ending → World → Prop} {a : Act} {w : World} {v : Value} (hk : w.heap[D]? = some (.deferred (some []))) (hd : a.defers = [{ target := .collected D, args := #[] }])
    (hr : (results fn a.tmps).run P (w.putObj D (.deferred none)) = .ok v (w.putObj D (.deferred none))) (hR : R (.returned v) (w.putObj D (.deferred none))) : bodyPostM Fence.wide n P fn R .ret a w := by
  show LeavesInM Fence.wide n P fn a.tmps R a.defers .returning w
  rw [hd]
  exact ⟨by simp, .inl ⟨D, _, rfl, run_takeDeferred hk, v, hr, hR⟩⟩
def Qd (ds : List Deferred) (Q : Exit → Act → World → Prop) : Exit → Act → World → Prop := fun e a w => Q e ⟨a.tmps, a.defers ++ ds⟩ w
theorem Lq {ds : List Deferred} {o : Oper} {a : Act} {w : World} {K K' : Act → World → Prop} (hK : ∀ a w, K' a w → K ⟨a.tmps, a.defers ++ ds⟩ w) (h : o.wp P a w K' (Qd ds Q)) : o.wp P ⟨a.tmps, a.defers ++ ds⟩ w K Q := by
  have l : ∀ (d : Option Nat) (v : Value) (x : Act), (⟨x.tmps, x.defers ++ ds⟩ : Act).put d v = ⟨(x.put d v).tmps, (x.put d v).defers ++ ds⟩ := fun d v x => by cases d <;> rfl
  unfold Oper.wp Oper.upon at *
  have q : (⟨a.tmps, a.defers ++ ds⟩ : Act).eval = a.eval := by funext x; cases x <;> rfl
  rw [q]
  revert h
  generalize (execOp a.eval o).run P w = res
  intro h
  cases res with
  | ok nx w' =>
    cases nx with
    | value v => simp only at h ⊢; rw [l]; exact hK _ _ h
    | skip => simp only at h ⊢; rw [l]; exact hK _ _ h
    | defer d =>
      simp only at h ⊢
      have := l o.dst undef { a with defers := d :: a.defers }
      rw [show ({ tmps := a.tmps, defers := d :: (a.defers ++ ds) } : Act) = ⟨({ a with defers := d :: a.defers } : Act).tmps, ({ a with defers := d :: a.defers } : Act).defers ++ ds⟩ from rfl, this]
      exact hK _ _ h
    | enter f args =>
      refine Calls.mono h ?_
      intro e p k
      cases e with
      | returned v => simp only at k ⊢; rw [l]; exact hK _ _ k
      | panicked c => exact k
      | outgrown => obtain ⟨x, y, g⟩ := k; exact ⟨_, y, g⟩
    | row row args =>
      refine Rows.mono h ?_
      intro v p k
      rw [l]; exact hK _ _ k
    | _ => exact h
  | halt s w' => cases s <;> exact h
theorem oO {ds : List Deferred} : ∀ {l : List Oper} {a : Act} {w : World}, wpList P ops (Qd ds Q) l a w → wpList P ops Q l ⟨a.tmps, a.defers ++ ds⟩ w
  | [], _, _, h => h
  | o :: l, a, w, h => by
    unfold wpList at h ⊢
    split at h
    · rename_i hw
      rw [if_pos hw]
      rcases h with h | ⟨h1, x, y, h2⟩
      · exact .inl (Lq (fun a w g => oO g) h)
      · exact .inr ⟨by
          have he : (⟨a.tmps, a.defers ++ ds⟩ : Act).eval = a.eval := by funext x; cases x <;> rfl
          unfold Oper.asks at *; rw [he]; exact h1, _, y, h2⟩
    · rename_i hw
      rw [if_neg hw]
      have := oO h
      cases hd : o.dst <;> (rw [hd] at this; exact this)
theorem RLd {id : Nat} {l : List Value} {ds : List Deferred} {w : World} (h : WL P ops (Qd ds Q) ops.toList l w) : (Code.region id ops false).wp P Q ⟨l.toArray, ds⟩ w := AQ (oO h.out)
end
end Go.Proofs.YtmppigbbkjepiaaGreatDoor
