/- Helping facts of KitS; no other conditions. Helping facts of Iter; no other conditions. Helping facts of RdL; no other conditions. -/
import Derived.Test.YtmppigbbkjepiaaGreatDoorRead2
import Derived.RangeFuncNested
import Derived.RangeFuncBound
import Derived.RangeFuncCalls
import Derived.RangeFuncLeaves
import Derived.Shelf.Abstract
import Derived.Shelf.RegionOpen
import Derived.OwnWalkIn
import Derived.TacticsInMore
import Derived.LoopNIn
import Derived.LoopIn
import Derived.OrdersIn
namespace Go.Proofs.YtmppigbbkjepiaaGreatDoor
open Go.RowKit W
def Ro : Op → Bool
  | .defer _ => true
  | _ => false
def cC (ops : Array Oper) : Bool := ops.toList.all fun o => !Ro o.op
theorem kN {ops : Array Oper} (h : cC ops = true) {o : Oper} (ho : o ∈ ops.toList) (c : Call) : o.op ≠ .defer c := by
  intro e
  have := List.all_eq_true.1 h o ho
  rw [e] at this; cases this
section
variable {P : Program} {r n : Nat} {ops : Array Oper} {Q : Exit → Act → World → Prop} {a : Act} {w : World}
theorem Fv {m : Nat} {row : String} {args : Array Value} {R : Value → World → Prop} (h : Rows P row args w R) : RowsIn Fence.wide m P row args w R :=
  fun c cs _ => let ⟨v, w', r, s⟩ := h c cs; ⟨v, w', r, stepsIn_wide.2 s⟩
theorem Bz {o : Oper} {K : Act → World → Prop} (hd : ∀ c, o.op ≠ .defer c) (h : o.wp P a w K Q) : o.wpIn (Fence.wide.inRound r) n P a w K Q := by
  refine ⟨fun _ _ => trivial, ?_⟩
  show o.uponIn _ n P a K Q ((o.semAt (some r) a.eval).run P w)
  rw [Oper.semAt_some r _ _ hd]
  unfold Oper.wp Oper.upon at h
  revert h
  generalize (execOp a.eval o).run P w = res
  intro h
  cases res with
  | ok nx w' =>
    cases nx <;> first | exact h | exact h.elim | exact ⟨(fun e => by cases e), CallsIn.inRound r (callsIn_wide.2 h)⟩ | exact ⟨(fun e => by cases e), Fv h⟩
  | halt s w' => cases s <;> first | exact h | exact h.elim
theorem qS (hd : cC ops = true) (hq : ¬ LetsOut Q) : ∀ {l : List Oper} {a : Act} {w : World}, (∀ o ∈ l, o ∈ ops.toList) → wpList P ops Q l a w → wpListIn (Fence.wide.inRound r) n P ops Q l a w
  | [], _, _, _, h => h
  | o :: l, a, w, hl, h => by
    have hod := kN hd (hl o AH)
    unfold wpListIn
    unfold wpList at h
    split
    · rename_i hw
      rw [if_pos hw] at h
      rcases h with h | ⟨_, h⟩
      · have : wpList P ops Q l = fun a w => wpList P ops Q l a w := rfl
        exact Bz hod (Oper.wp_mono (fun a w h => qS hd hq (fun o ho => hl o (by simp [ho])) h) h)
      · exact absurd h hq
    · rename_i hw
      rw [if_neg hw] at h
      exact ⟨fun _ _ => trivial, qS hd hq (fun o ho => hl o (by simp [ho])) h⟩
theorem ZF {id : Nat} {l : List Value} (hd : cC ops = true) (hq : ¬ LetsOut Q) (h : WL P ops Q ops.toList l w) : (Code.region id ops false).wpIn (Fence.wide.inRound r) n P Q ⟨l.toArray, []⟩ w :=
  wpIn_region_list (qS hd hq (fun _ h => h) h.out)
theorem rS (hd : cC ops = true) (hq : ¬ LetsOut Q) {md : Region.Mode} : ∀ (f : Nat) (L : Array Bool) (a : Act) (w : World), wpAny P md ops Q f L a w → wpAnyIn (Fence.wide.inRound r) n P md ops Q f L a w
  | 0, _, _, _, h => h
  | f + 1, L, a, w, h => by
    refine ⟨h.1, fun i hi => ?_⟩
    have h2 := h.2 i hi
    unfold wpOpIn
    unfold wpOp at h2
    cases ho : ops[i]? with
    | none => rw [ho] at h2; exact rS hd hq f _ a w h2
    | some o =>
      rw [ho] at h2
      simp only at h2 ⊢
      have hod := kN hd (Array.mem_toList_iff.2 (Array.mem_of_getElem? ho))
      split
      · rename_i hw
        rw [if_pos hw] at h2
        rcases h2 with h2 | ⟨_, h2⟩
        · exact Bz hod (Oper.wp_mono (fun a w h => rS hd hq f _ a w h) h2)
        · exact absurd h2 hq
      · rename_i hw
        rw [if_neg hw] at h2
        exact ⟨fun _ _ => trivial, rS hd hq f _ _ w h2⟩
theorem NJ {l : List SF} {id : Nat} (hd : cC ops = true) (hq : ¬ LetsOut Q) (E : Env w l) (σ : List Nat) (hm : P.follows .mixedOrders = true) (hs : Region.noSelect ops = true) (hl : (σ.length == ops.size) = true)
    (hk : QV .any ops [] (Array.replicate ops.size false) σ = true)
    (hQ : ∀ d v c a w, Q (.panic c) (a.put d v) w → Q (.panic c) a w) (h : DJ P .any ops Q [] (fun w => Env w l) (fun w => Env w l) σ false a w.drew) : (Code.region id ops true).wpIn (Fence.wide.inRound r) n P Q a w := by
  refine wpIn_region_any hm (rS hd hq _ _ _ _ (ZO (S := SL [] (fun w => Env w l) (fun w => Env w l)) _ _ _ _ ?_))
  have e : σ.length = ops.size := by simpa using hl
  have := PL hs hQ (fun _ h => h) σ (Array.replicate ops.size false) false a w.drew (by
    intro k o f hk
    have : k < ops.size := (Array.getElem?_eq_some_iff.1 f).1
    simp [this] at hk) AH (by
    unfold XY
    rw [List.any_eq_false]
    intro k _
    by_cases hk : k < ops.size <;> simp [hk]) hk (by simpa using E.drew) h
  rw [e] at this
  exact this
end
def Nc (W : World) : SF := ⟨fun w => KeepsOthers W w, fun c => ∀ o, W.heap[c]? = some o → o.isCells = true,
  fun h hb => ⟨Nat.le_trans h.size hb.size, fun k o hk ho => (hb.block k (Array.getElem?_eq_some_iff.1 (h.same k o hk ho)).1).trans (h.same k o hk ho)⟩,
  fun h _ hc hb => ⟨by rw [hb.size]; exact h.size, fun k o hk ho => by
    refine (hb.block k fun e => ?_).trans (h.same k o hk ho)
    subst e
    rw [hc o hk] at ho; cases ho⟩⟩
theorem Env.ko {W : World} {L : List SF} (E : Env W L) : Env W (Nc W :: L) := ⟨KeepsOthers.refl W, E⟩
theorem oA {W : World} {b T : Nat} {cs : List Value} (h : Bx W b T cs) : (Nc W).ok b := fun o e => by unfold Bx at h; rw [h] at e; cases e; rfl
theorem GO {W : World} {c : Nat} (h : W.heap.size ≤ c) : (Nc W).ok c := fun o e => by rw [Array.getElem?_eq_none h] at e; cases e
theorem Uc {α : Type} {e : El α} {W : World} {t base : Nat} {v : Value} {l : List α} (h : Acc e t base WI W v l) {g : Nat} (hg : v.ownBlock = some g) : (Nc W).ok g := by
  intro o f
  obtain ⟨y, p, _⟩ := h
  rcases p.2 with ⟨rfl, _⟩ | ⟨z, u, q, rfl, _, k, _⟩
  · simp [Value.ownBlock] at hg
  · simp [Value.ownBlock] at hg
    subst hg
    rw [k] at f; cases f; rfl
theorem Env.turn {W W' : World} {L : List SF} {row : Option Nat} (E : Env W L) (hg : W.grownBy W' row) (hr : ∀ r, row = some r → ∃ o : Obj, W.heap[r]? = some o ∧ o.isCells = false) (hok : ∀ r, row = some r → Ok r L) : Env W' L := by
  cases row with
  | none => exact E.below ⟨hg.os, hg.tape, hg.output, hg.size, fun k f => hg.block k f AH⟩
  | some r =>
    obtain ⟨o, u, y⟩ := hr r rfl
    have h : r < W.heap.size := (Array.getElem?_eq_some_iff.1 u).1
    obtain ⟨p, q⟩ : ∃ p, W'.heap[r]? = some p := ⟨_, Array.getElem?_eq_getElem (Nat.lt_of_lt_of_le h hg.size)⟩
    have t : wK W r := by
      intro j k e
      unfold World.cell? at e
      rw [u] at e
      cases o <;> simp_all [Obj.isCells]
    have l : Onl r W (W.putObj r p) := ⟨rfl, rfl, rfl, by simp, fun k f => World.putObj_heap_other (fun e => f e)⟩
    have v := E.onl t (hok r rfl) l
    refine v.below ⟨hg.os, hg.tape, hg.output, by rw [l.size]; exact hg.size, fun k f => ?_⟩
    rw [l.size] at f
    by_cases e : k = r
    · subst e; rw [q, World.putObj_heap_same h]
    · rw [hg.block k f (by simpa using e)]; exact (l.block k e).symm
end Go.Proofs.YtmppigbbkjepiaaGreatDoor
namespace Go.Proofs.YtmppigbbkjepiaaGreatDoor
open Go.Proofs.Tryz
open Go.RowKit Go.Shelf W
attribute [local go_sem] Oper.semAt_some
def dX : Nat → List Bs → List (Nat × Bs)
  | _, [] => []
  | k, x :: r => (k, x) :: dX (k + x.length + 1) r
abbrev Wd := { x : Nat × Bs // x.1 ≤ 4000 ∧ x.2.length ≤ 4000 }
def wdE (x : Wd) : Array Value := #[.int .i64 ↑x.1.1, .string (bs x.1.2)]
def gR (l : List Wd) : List (Nat × Bs) := l.map (·.1)
theorem JR (l : List Wd) (x : Wd) : gR (l ++ [x]) = gR l ++ [x.1] := by unfold gR; rw [List.map_append]; rfl
theorem KQ (l : List Wd) : (gR l).length = l.length := List.length_map _
def keepB (sb : Nat) (W W' : World) : Prop := ∀ k, k < 2 ∨ k = sb → W'.heap[k]? = W.heap[k]?
theorem Glob.blocks {w w' : World} (h : Glob w) (h0 : w'.heap[0]? = w.heap[0]?) (h1 : w'.heap[1]? = w.heap[1]?) : Glob w' := by
  refine ⟨?_, ?_⟩
  · have f := h.pow
    unfold Lib.TabIs World.var? at *
    rw [XM] at *
    simp only [Option.bind_some] at *
    rw [h1]; exact f
  · obtain ⟨m, e⟩ := h.max
    exact ⟨m, (World.cell?_of_block h0).trans e⟩
theorem Glob.keepB {w w' : World} {sb : Nat} (h : Glob w) (hk : keepB sb w w') : Glob w' := h.blocks (hk 0 (.inl AE)) (hk 1 (.inl AE))
theorem Glob.below {w w' : World} (h : Glob w) (hb : Below w.heap.size w w') : Glob w' := h.blocks (hb.block 0 (Nat.lt_of_lt_of_le AE h.two)) (hb.block 1 (Nat.lt_of_lt_of_le AE h.two))
theorem Pg (s : Bs) (w : World) : Calls prog 40 #[.string (bs s)] w fun e w' => e = .returned (.func (.func 85) #[] #[.pointer (some ⟨w.heap.size, 0, none⟩)]) ∧ w' = w.alloc (.cells #[.string (bs s)] 9) := by
  go_enter func40, ntmps40
  go_wp2
  go_ret
  exact ⟨rfl, rfl⟩
set_option maxRecDepth 100000 in
set_option maxHeartbeats 400000 in
theorem Ei (n : Nat) (hn : 1 ≤ n) (l sb : Nat) (s : Bs) (hs : s.length ≤ 4000) (J Jx : List Wd → World → Prop) (W : World) (hJ : AbidesFrom W.heap.size J) (_ : AbidesFrom W.heap.size Jx)
    (hY : ∀ pre x W, J pre W → pre.length < (dX 0 (EM 32 s)).length → YieldAt Fence.wide (n - 1) prog l (wdE x) W fun e W' =>
      (e = .returned (.bool true) ∧ J (pre ++ [x]) W' ∧ keepB sb W W') ∨ (e = .returned (.bool false) ∧ Jx (pre ++ [x]) W'))
    (hB : Bx W sb 9 [.string (bs s)]) (hG : Glob W) (h0 : J [] W) :
    CallsIn Fence.wide n prog 85 #[.func (.yield l) #[] #[], .pointer (some ⟨sb, 0, none⟩)] W fun e W' => (∃ v, e = .returned v) ∧
      ((∃ ys, gR ys = dX 0 (EM 32 s) ∧ J ys W') ∨ (∃ pre, gR pre <+: dX 0 (EM 32 s) ∧ Jx pre W')) := by
  refine callsIn_of_wp func85 O trivial ?_ O
  simp only [ntmps85, List.size_toArray, List.length_cons, List.length_nil, Nat.reduceAdd, Nat.reduceSub, Array.replicate_succ, Array.replicate_zero, List.push_toArray, List.append_toArray, List.nil_append, List.cons_append]
  gi_wp2
  gi_loopw [3] (fun i wr => ∃ (k : Nat) (pre : List Wd), k ≤ s.length ∧ i = .int .i64 ↑k ∧ dX 0 (EM 32 s) = gR pre ++ dX k (EM 32 (s.drop k)) ∧ J pre wr ∧ Bx wr sb 9 [.string (bs s)] ∧ Glob wr)
    (fun i _ => s.length + 1 - (intOf i).toNat)
  case atStart => exact ⟨0, [], Nat.zero_le _, rfl, by simp [gR], h0, hB, hG⟩
  case round =>
    obtain ⟨k, pre, hk, rfl, hpre, hJs, hBw, hGw⟩ := hrel
    have hc : wr.cell? ⟨sb, 0, none⟩ = some (.string (bs s)) := by rw [hBw.cell]; rfl
    have hex : (bs s).extract k (bs s).size = bs (s.drop k) := by rw [vM, EX, List.take_of_length_le (Nat.le_refl _)]
    have hln : (s.drop k).length ≤ 1000000 := by rw [List.length_drop]; omega
    cases hcut : MQ 32 (s.drop k) with
    | none =>
      have hcall := aW (s.drop k) 32 wr hln hGw hcut
      have hspl : EM 32 (s.drop k) = [s.drop k] := bH 32 (cutB_none.1 hcut)
      rw [hspl] at hpre
      gi_wp2
      refine ⟨BX, (callsIn_wide.2 hcall).mono ?_⟩
      rintro e w1 ⟨rfl, hb1⟩
      have hJ1 : J pre w1 := hJ pre wr w1 none hJs ⟨hb1.os, hb1.tape, hb1.output, hb1.size, fun j hj _ => hb1.block j hj⟩ (fun r e => by cases e)
      have hB1 : Bx w1 sb 9 [.string (bs s)] := hBw.below hb1
      obtain ⟨fn, tmps, assign, body, hy, hR⟩ := hY pre ⟨(k, s.drop k), by simp only; omega, by simp only [List.length_drop]; omega⟩ w1 hJ1 (by rw [hpre]; simp [dX, KQ])
      dsimp only [wdE] at hy
      gi_wp2
      refine hR.mono ?_
      rintro e W3 (⟨rfl, hJ3, hk3⟩ | ⟨rfl, hJx3⟩)
      · gi_wp2
        refine AQ (results_none O _ _ _) O ?_
        exact ⟨⟨_, rfl⟩, .inl ⟨_, by rw [hpre, JR]; rfl, hJ3⟩⟩
      · gi_wp2
        refine AQ (results_none O _ _ _) O ?_
        exact ⟨⟨_, rfl⟩, .inr ⟨_, ⟨[], by rw [hpre, JR]; simp [dX]⟩, hJx3⟩⟩
    | some p =>
      obtain ⟨x, y⟩ := p
      obtain ⟨hxy, hx32⟩ := cutB_some.1 hcut
      have hcall := aV (s.drop k) 32 x y wr hln hGw hcut
      have hspl : EM 32 (s.drop k) = x :: EM 32 y := by rw [hxy, bI 32 hx32]
      have hdl : (s.drop k).length = x.length + 1 + y.length := by rw [hxy]; simp; omega
      rw [List.length_drop] at hdl
      have hy2 : y = s.drop (k + x.length + 1) := by
        have h1 : s.drop (k + (x.length + 1)) = (s.drop k).drop (x.length + 1) := by rw [List.drop_drop]
        rw [Nat.add_assoc, h1, hxy, show x ++ 32 :: y = (x ++ [32]) ++ y by simp, show x.length + 1 = (x ++ [(32 : UInt8)]).length by simp, List.drop_left]
      rw [hspl] at hpre
      have HY2 := Lib.hid hy2
      clear hy2 hxy hspl hcut
      gi_wp2
      refine ⟨BX, (callsIn_wide.2 hcall).mono ?_⟩
      rintro e w1 ⟨rfl, hb1⟩
      have hJ1 : J pre w1 := hJ pre wr w1 none hJs ⟨hb1.os, hb1.tape, hb1.output, hb1.size, fun j hj _ => hb1.block j hj⟩ (fun r e => by cases e)
      have hB1 : Bx w1 sb 9 [.string (bs s)] := hBw.below hb1
      obtain ⟨fn, tmps, assign, body, hy, hR⟩ := hY pre ⟨(k, x), by simp only; omega, by simp only; omega⟩ w1 hJ1 (by rw [hpre]; simp [dX, KQ])
      dsimp only [wdE] at hy
      gi_wp2
      refine hR.mono ?_
      have hbx : (bs x).size = x.length := EX x
      have hw1 : IntKind.i64.wrap (((x.length : Nat) : Int) + 1) = ((x.length + 1 : Nat) : Int) := LM AA AA
      have hw2 : IntKind.i64.wrap (((k : Nat) : Int) + ((x.length + 1 : Nat) : Int)) = ((k + x.length + 1 : Nat) : Int) := LM AA AA
      rintro e W3 (⟨rfl, hJ3, hk3⟩ | ⟨rfl, hJx3⟩)
      · have hB3 : Bx W3 sb 9 [.string (bs s)] := by unfold Bx; rw [hk3 sb (.inr rfl)]; exact hB1
        gi_wp2
        have h2 : y = s.drop (k + x.length + 1) := HY2
        refine ⟨⟨k + x.length + 1, pre ++ [⟨(k, x), _⟩], by omega, O, ?_, hJ3, hB3, (hGw.below hb1).keepB hk3⟩, by simp only [intOf]; omega⟩
        rw [hpre, JR, ← h2]; simp [dX]
      · gi_wp2
        refine AQ (results_none O _ _ _) O ?_
        exact ⟨⟨_, rfl⟩, .inr ⟨_, ⟨dX (k + x.length + 1) (EM 32 y), by rw [hpre, JR]; simp [dX]⟩, hJx3⟩⟩
theorem sJ (sb : Nat) (s : Bs) (hs : s.length ≤ 4000) (n : Nat) (hn : 1 ≤ n) (w : World) (hB : Bx w sb 9 [.string (bs s)]) (hG : Glob w) :
    SeqStopsK Fence.wide n prog 85 #[.pointer (some ⟨sb, 0, none⟩)] wdE (keepB sb) (fun xs => gR xs = dX 0 (EM 32 s)) (fun pre => gR pre <+: dX 0 (EM 32 s)) (dX 0 (EM 32 s)).length w := by
  intro l J p W f k e h o
  exact Ei n hn l sb s hs J p W k e h (hB.below f) (hG.below f) o
theorem Rl {sb : Nat} {A B C : World} (h : keepB sb A B) (g : keepB sb B C) : keepB sb A C := fun k hk => (g k hk).trans (h k hk)
theorem Rm {sb : Nat} {w : World} (h : sb < w.heap.size) (h2 : 2 ≤ w.heap.size) (W : World) (l : Nat) (o o' : Obj) (hl : w.heap.size ≤ l) (_ : W.heap[l]? = some o) (_ : o.isCells = false) (_ : o.isWalk = false) : keepB sb W (W.putObj l o') :=
  fun _ hk => World.putObj_heap_other AA
end Go.Proofs.YtmppigbbkjepiaaGreatDoor
namespace Go.Proofs.YtmppigbbkjepiaaGreatDoor
open W
abbrev fE := Bool × List Tm
def GS (l : List Bs) (i : Nat) (st : fE) (w : Bs) : Option fE :=
  if i % 2 = 1 then (if w = [43] ∨ w = [45] then some (decide (w = [45]), st.2) else none)
  else match ZZ l (OA i st.1 w).1 with
    | none => none
    | some (c, m) => if i ≠ 0 ∧ 0 ≤ EI m (cJ st.2) then none else some (false, st.2 ++ [(xF (OA i st.1 w).2 c, m)])
def sF (l : List Bs) : Nat → fE → List Bs → Option fE
  | _, st, [] => some st
  | i, st, w :: ws => match GS l i st w with
    | none => none
    | some st' => sF l (i + 1) st' ws
theorem RM {l : List Bs} : ∀ {ws : List Bs} {i : Nat} {st st' : fE} {w : Bs}, sF l i st ws = some st' → sF l i st (ws ++ [w]) = GS l (i + ws.length) st' w
  | [], i, st, st', w, h => by
    simp only [sF, Option.some.injEq] at h
    subst h
    simp only [List.nil_append, sF, List.length_nil, Nat.add_zero]
    cases GS l i st w <;> rfl
  | x :: ws, i, st, st', w, h => by
    simp only [sF] at h
    simp only [List.cons_append, sF]
    cases hx : GS l i st x with
    | none => rw [hx] at h; cases h
    | some st2 =>
      rw [hx] at h
      simp only at h ⊢
      rw [RM h, List.length_cons]
      congr 1; omega
theorem Rt {l : List Bs} {i at_ : Nat} {neg : Bool} {p : List Tm} {w : Bs} {ws : List Bs} {st : fE} (h : GS l i (neg, p) w = some st) : PF l (w :: ws) i at_ neg p = PF l ws (i + 1) (at_ + w.length + 1) st.1 st.2 := by
  unfold GS at h
  rw [PF]
  by_cases k : i % 2 = 1
  · rw [if_pos k] at h ⊢
    by_cases e : w = [43] ∨ w = [45]
    · rw [if_pos e] at h ⊢
      simp only [Option.some.injEq] at h; subst h; rfl
    · rw [if_neg e] at h; cases h
  · rw [if_neg k] at h ⊢
    cases f : ZZ l (OA i neg w).1 with
    | none => simp [f] at h
    | some t =>
      obtain ⟨c, m⟩ := t
      simp only [f] at h ⊢
      split at h
      · cases h
      · rename_i hc
        rw [if_neg hc]
        simp only [Option.some.injEq] at h; subst h; rfl
theorem Ru {l : List Bs} {i at_ : Nat} {neg : Bool} {p : List Tm} {w : Bs} {ws : List Bs} (h : GS l i (neg, p) w = none) : PF l (w :: ws) i at_ neg p = ([], at_, 440) := by
  unfold GS at h
  rw [PF]
  by_cases f : i % 2 = 1
  · rw [if_pos f] at h ⊢
    by_cases e : w = [43] ∨ w = [45]
    · rw [if_pos e] at h; cases h
    · rw [if_neg e]
  · rw [if_neg f] at h ⊢
    cases k : ZZ l (OA i neg w).1 with
    | none => simp
    | some t =>
      obtain ⟨c, m⟩ := t
      simp only [k] at h ⊢
      split at h
      · rename_i hc; rw [if_pos hc]
      · cases h
def uV (k : Nat) (ws : List Bs) : Nat := k + (ws.map fun w => w.length + 1).sum
theorem zD {l : List Bs} : ∀ {ws rest : List Bs} {i at_ : Nat} {neg : Bool} {p : List Tm} {st : fE}, sF l i (neg, p) ws = some st → PF l (ws ++ rest) i at_ neg p = PF l rest (i + ws.length) (uV at_ ws) st.1 st.2
  | [], rest, i, at_, neg, p, st, h => by
    simp only [sF, Option.some.injEq] at h
    subst h
    simp [uV]
  | w :: ws, rest, i, at_, neg, p, st, h => by
    simp only [sF] at h
    cases hx : GS l i (neg, p) w with
    | none => rw [hx] at h; cases h
    | some st2 =>
      rw [hx] at h
      simp only [List.cons_append]
      rw [Rt hx, zD (neg := st2.1) (p := st2.2) h]
      congr 1
      · simp only [List.length_cons]; omega
      · simp only [uV, List.map_cons, List.sum_cons]; omega
theorem pI : ∀ (k : Nat) (ws : List Bs), (dX k ws).map (·.2) = ws
  | _, [] => rfl
  | k, w :: ws => by simp only [dX, List.map_cons]; rw [pI]
theorem Ej {k : Nat} {ws : List Bs} {a : List (Nat × Bs)} {x : Nat × Bs} {r : List (Nat × Bs)} (h : a ++ x :: r = dX k ws) : ws = a.map (·.2) ++ x.2 :: r.map (·.2) ∧ x.1 = uV k (a.map (·.2)) := by
  induction a generalizing k ws with
  | nil =>
    cases ws with
    | nil => simp [dX] at h
    | cons w ws =>
      simp only [List.nil_append, dX, List.cons.injEq] at h
      obtain ⟨rfl, rfl⟩ := h
      simp [pI, uV]
  | cons y a ih =>
    cases ws with
    | nil => simp [dX] at h
    | cons w ws =>
      simp only [List.cons_append, dX, List.cons.injEq] at h
      obtain ⟨rfl, h⟩ := h
      obtain ⟨f, e⟩ := ih h
      refine ⟨by simp only [List.map_cons, List.cons_append]; rw [← f], ?_⟩
      rw [e]; simp only [uV, List.map_cons, List.sum_cons]; omega
theorem Rz (b : UInt8) (s : Bs) : uV 0 (EM b s) = s.length + 1 := by
  unfold uV
  rw [Mi b (NK b s), kV]; omega
section
variable {l : List Bs} {s : Bs}
theorem nS (h1 : DF 8 l = true) (h2 : ¬ 4000 < s.length) (h3 : s ≠ [48]) : FC l s = PF l (EM 32 s) 0 0 false [] := by
  unfold FC
  rw [if_neg (by rw [h1]; decide), if_neg h2, if_neg h3]
theorem Ku (h1 : DF 8 l = true) (h2 : ¬ 4000 < s.length) (h3 : s ≠ [48]) {a r : List (Nat × Bs)} {x : Nat × Bs} {st : fE} (hw : a ++ x :: r = dX 0 (EM 32 s)) (hf : sF l 0 (false, []) (a.map (·.2)) = some st) (hx : GS l a.length st x.2 = none) : FC l s = ([], x.1, 440) := by
  obtain ⟨e1, e2⟩ := Ej hw
  rw [nS h1 h2 h3, e1, zD hf, e2, List.length_map, Nat.zero_add]
  exact Ru hx
theorem tP (h1 : DF 8 l = true) (h2 : ¬ 4000 < s.length) (h3 : s ≠ [48]) {a : List (Nat × Bs)} {st : fE} (hw : a = dX 0 (EM 32 s)) (hf : sF l 0 (false, []) (a.map (·.2)) = some st) : FC l s = if a.length % 2 = 0 then ([], s.length + 1, 440) else (st.2, 0, 0) := by
  have e : a.map (·.2) = EM 32 s := by rw [hw, pI]
  have := zD (rest := []) (at_ := 0) hf
  rw [List.append_nil] at this
  rw [nS h1 h2 h3, ← e, this, e, Rz]
  have f : (EM 32 s).length = a.length := by rw [← e, List.length_map]
  simp only [PF, Nat.zero_add, f]
end
theorem Nv {L : List Bs} {n : Nat} (hn : n ≤ 4000) (h : ∀ x ∈ L, x.length ≤ n) : FitQ (IB L).1 4000 := by
  have e : FitQ 1 4000 := ⟨(MO (m := 4) AE : Fits 1 4).mono AE, (MO (m := 4) AE : Fits 1 4).mono AE⟩
  cases L with
  | nil => exact e
  | cons a r =>
    unfold IB
    simp only
    cases f : LW a with
    | none => exact e
    | some c => exact kJ (Nat.le_trans (h a AH) hn) f
theorem iL {l : List Bs} {w : Bs} {c : Rat} {m : List Nat} (hw : w.length ≤ 4000) (h : ZZ l w = some (c, m)) : FitQ c 4000 := by
  unfold ZZ at h
  have f := Nv hw (fun x (hx : x ∈ EM 42 w) => YO hx)
  cases e : FY l (IB (EM 42 w)).2 zeroM with
  | none => simp [e] at h
  | some m' =>
    simp only [e] at h
    split at h
    · simp only [Option.some.injEq, Prod.mk.injEq] at h
      rw [← h.1]; exact f
    · cases h
theorem Ns {i : Nat} {neg : Bool} {w : Bs} : (OA i neg w).1.length ≤ w.length := by
  unfold OA
  split
  · split
    · simp
    · exact Nat.le_refl _
  · exact Nat.le_refl _
section
open Go.RowKit
variable {P : Program} {Q : Exit → Act → World → Prop} {ops : Array Oper}
theorem eZ {n : Nat} {fn : Func} {R : Ending → World → Prop} {a : Act} {w : World} {v : Value} (hr : (results fn a.tmps).run P w = .ok v w) (hd : a.defers = []) (hR : R (.returned v) w) : bodyPostM Fence.wide n P fn R .ret a w := by
  show LeavesInM Fence.wide n P fn a.tmps R a.defers .returning w
  rw [hd]
  exact ⟨v, hr, hR⟩
theorem aR {n D : Nat} {fn : Func} {R : Ending → World → Prop} {a : Act} {w : World} {v : Value} (hk : w.heap[D]? = some (.deferred (some []))) (hd : a.defers = [{ target := .collected D, args := #[] }])
    (hr : (results fn a.tmps).run P (w.putObj D (.deferred none)) = .ok v (w.putObj D (.deferred none))) (hR : R (.returned v) (w.putObj D (.deferred none))) : bodyPostM Fence.wide n P fn R .ret a w := by
  show LeavesInM Fence.wide n P fn a.tmps R a.defers .returning w
  rw [hd]
  exact ⟨by simp, .inl ⟨D, _, rfl, run_takeDeferred hk, v, hr, hR⟩⟩
def Qd (ds : List Deferred) (Q : Exit → Act → World → Prop) : Exit → Act → World → Prop := fun e a w => Q e ⟨a.tmps, a.defers ++ ds⟩ w
theorem Qv {ds : List Deferred} {o : Oper} {a : Act} {w : World} {K K' : Act → World → Prop} (hK : ∀ a w, K' a w → K ⟨a.tmps, a.defers ++ ds⟩ w) (h : o.wp P a w K' (Qd ds Q)) : o.wp P ⟨a.tmps, a.defers ++ ds⟩ w K Q := by
  have l : ∀ (d : Option Nat) (v : Value) (x : Act), (⟨x.tmps, x.defers ++ ds⟩ : Act).put d v = ⟨(x.put d v).tmps, (x.put d v).defers ++ ds⟩ := fun d v x => by cases d <;> rfl
  unfold Oper.wp Oper.upon at *
  have q : (⟨a.tmps, a.defers ++ ds⟩ : Act).eval = a.eval := by funext x; cases x <;> rfl
  rw [q]
  revert h
  generalize (execOp a.eval o).run P w = res
  intro h
  cases res with
  | ok nx w' =>
    cases nx with
    | value v => simp only at h ⊢; rw [l]; exact hK _ _ h
    | skip => simp only at h ⊢; rw [l]; exact hK _ _ h
    | defer d =>
      simp only at h ⊢
      have := l o.dst undef { a with defers := d :: a.defers }
      rw [show ({ tmps := a.tmps, defers := d :: (a.defers ++ ds) } : Act) = ⟨({ a with defers := d :: a.defers } : Act).tmps, ({ a with defers := d :: a.defers } : Act).defers ++ ds⟩ from rfl, this]
      exact hK _ _ h
    | enter f args =>
      refine Calls.mono h ?_
      intro e p k
      cases e with
      | returned v => simp only at k ⊢; rw [l]; exact hK _ _ k
      | panicked c => exact k
      | outgrown => obtain ⟨x, y, g⟩ := k; exact ⟨_, y, g⟩
    | row row args =>
      refine Rows.mono h ?_
      intro v p k
      rw [l]; exact hK _ _ k
    | _ => exact h
  | halt s w' => cases s <;> exact h
theorem qU {ds : List Deferred} : ∀ {l : List Oper} {a : Act} {w : World}, wpList P ops (Qd ds Q) l a w → wpList P ops Q l ⟨a.tmps, a.defers ++ ds⟩ w
  | [], _, _, h => h
  | o :: l, a, w, h => by
    unfold wpList at h ⊢
    split at h
    · rename_i hw
      rw [if_pos hw]
      rcases h with h | ⟨h1, x, y, h2⟩
      · exact .inl (Qv (fun a w g => qU g) h)
      · exact .inr ⟨by
          have he : (⟨a.tmps, a.defers ++ ds⟩ : Act).eval = a.eval := by funext x; cases x <;> rfl
          unfold Oper.asks at *; rw [he]; exact h1, _, y, h2⟩
    · rename_i hw
      rw [if_neg hw]
      have := qU h
      cases hd : o.dst <;> (rw [hd] at this; exact this)
theorem RLd {id : Nat} {l : List Value} {ds : List Deferred} {w : World} (h : WL P ops (Qd ds Q) ops.toList l w) : (Code.region id ops false).wp P Q ⟨l.toArray, ds⟩ w := AR (qU h.out)
end
end Go.Proofs.YtmppigbbkjepiaaGreatDoor
