/- Helping facts of KitU; no other conditions. Helping facts of KitV; no other conditions. -/
import Derived.Test.YtmppigbbkjepiaaGreatDoorTxtS
import Derived.Test.YtmppigbbkjepiaaGreatDoorRead3
import Derived.Deep.Upon
namespace Go.Proofs.YtmppigbbkjepiaaGreatDoor
open Go.Proofs.Tryz
open Go.RowKit W
def fBe {n : Nat} {w0 : World} (hn : n ≤ w0.heap.size) : SF := ⟨fun w => Below n w0 w, fun c => n ≤ c, fun h hb => h.trans (hb.mono (Nat.le_trans hn h.size)), fun h _ ho hb => hb.below h ho⟩
theorem YH {n : Nat} {w0 : World} (hn : n ≤ w0.heap.size) : Env w0 [fBe hn] := ⟨Below.refl _ _, BX⟩
theorem Env.be {n : Nat} {w0 w : World} {hn : n ≤ w0.heap.size} {L : List SF} (E : Env w L) (h : Below n w0 w) : Env w (fBe hn :: L) := ⟨h, E⟩
theorem qI {n c : Nat} {w0 : World} {hn : n ≤ w0.heap.size} (h : n ≤ c) : (fBe hn).ok c := h
theorem Acc.below {α : Type} {e : El α} {t base : Nat} {S : Nat → Prop} {w w' : World} {v : Value} {l : List α} (h : Acc e t base S w v l) (hS : ∀ k, S k → k < w.heap.size) (hb : Below w.heap.size w w') : Acc e t base S w' v l := ((fA e t base S v l).below ⟨h, hS⟩ hb).1
theorem Acc.onl {α : Type} {e : El α} {t base : Nat} {S : Nat → Prop} {w w' : World} {v : Value} {l : List α} {b : Nat} (h : Acc e t base S w v l) (hS : ∀ k, S k → k < w.heap.size) (hn : wK w b) (h1 : v.ownBlock ≠ some b) (h2 : ¬ S b) (hb : Onl b w w') : Acc e t base S w' v l := ((fA e t base S v l).onl ⟨h, hS⟩ hn ⟨h1, h2⟩ hb).1
structure Two (r : Nat) (S : Nat → Prop) (w : World) (vv ve vn : Value) (vars : List Bs) (eqs neqs : List En) : Prop where
  vars : IsR elS S w vv vars
  eqs : Acc NY 83 (r + 1) S w ve eqs
  neqs : Acc NY 83 (r + 1) S w vn neqs
  apart : ∀ g, ve.ownBlock = some g → vn.ownBlock = some g → False
  set : ∀ k, S k → r < k ∧ k < w.heap.size
theorem Two.lt {r : Nat} {S : Nat → Prop} {w : World} {vv ve vn : Value} {vars : List Bs} {eqs neqs : List En} (h : Two r S w vv ve vn vars eqs neqs) : ∀ k, S k → k < w.heap.size := fun k hk => (h.set k hk).2
theorem Two.below {r : Nat} {S : Nat → Prop} {w w' : World} {vv ve vn : Value} {vars : List Bs} {eqs neqs : List En} (h : Two r S w vv ve vn vars eqs neqs) (hb : Below w.heap.size w w') : Two r S w' vv ve vn vars eqs neqs :=
  ⟨h.vars.keep (Keep.below hb h.lt), h.eqs.below h.lt hb, h.neqs.below h.lt hb, h.apart, fun k hk => ⟨(h.set k hk).1, Nat.lt_of_lt_of_le (h.lt k hk) hb.size⟩⟩
theorem Two.onl {r b : Nat} {S : Nat → Prop} {w w' : World} {vv ve vn : Value} {vars : List Bs} {eqs neqs : List En} (h : Two r S w vv ve vn vars eqs neqs) (hn : wK w b) (hlt : b ≤ r) (hb : Onl b w w') : Two r S w' vv ve vn vars eqs neqs := by
  have f : ¬ S b := fun g => by have := (h.set b g).1; omega
  have e : ∀ {v : Value} {l : List En}, Acc NY 83 (r + 1) S w v l → v.ownBlock ≠ some b := fun p g => by have := (p.lt g).1; omega
  exact ⟨h.vars.keep (Keep.onl hn hb f), h.eqs.onl h.lt hn (e h.eqs) f hb, h.neqs.onl h.lt hn (e h.neqs) f hb, h.apart, fun k o => ⟨(h.set k o).1, by rw [hb.size]; exact h.lt k o⟩⟩
def RdrAt (r : Nat) (w : World) (st : Rs) : Prop := ∃ S vv ve vn, Bx w r 115 [vv, ve, vn, .int .i64 ↑st.next, .int .i64 ↑st.last] ∧ Two r S w vv ve vn st.vars st.eqs st.neqs
theorem RdrAt.below {r : Nat} {w w' : World} {st : Rs} (h : RdrAt r w st) (hb : Below w.heap.size w w') : RdrAt r w' st := by
  obtain ⟨S, e, k, f, o, l⟩ := h
  exact ⟨S, e, k, f, o.below hb, l.below hb⟩
theorem RdrAt.onl {r b : Nat} {w w' : World} {st : Rs} (h : RdrAt r w st) (hn : wK w b) (hlt : b < r) (hb : Onl b w w') : RdrAt r w' st := by
  obtain ⟨S, e, k, f, o, l⟩ := h
  exact ⟨S, e, k, f, o.onl AA hb, l.onl hn AA hb⟩
theorem RdrAt.lt {r : Nat} {w : World} {st : Rs} (h : RdrAt r w st) : r < w.heap.size := by
  obtain ⟨S, f, l, k, e, o⟩ := h
  exact e.lt
def fRd (r : Nat) (st : Rs) : SF := ⟨fun w => RdrAt r w st, fun c => c < r, fun h hb => h.below hb, fun h hn ho hb => h.onl hn ho hb⟩
theorem Env.rd {w : World} {L : List SF} {r : Nat} {st : Rs} (E : Env w L) (h : RdrAt r w st) : Env w (fRd r st :: L) := ⟨h, E⟩
theorem okRd {r c : Nat} {st : Rs} (h : c < r) : (fRd r st).ok c := h
def Um (r : Nat) (w : World) : Option Rs → Bool → Prop
  | some st, b => b = true ∧ RdrAt r w st
  | none, b => b = false
def gN (r : Nat) (w0 : World) (o : Option Rs) (e : Ending) (w' : World) : Prop := ∃ b, e = .returned (.bool b) ∧ Below r w0 w' ∧ Um r w' o b
theorem OW {P : Program} {f r : Nat} {o : Oper} {a : Act} {w : World} {K : Act → World → Prop} {Q : Exit → Act → World → Prop} {args : List Operand} {tys : Array TypeId} {vs : List Value} {res : Option Rs} (hf : Fn P f)
    (ho : o.op = .call { callee := .value (.func f), args := args.toArray, argTypes := tys }) (hc : Calls P f vs.toArray w (gN r w res)) (hv : args.map a.eval = vs)
    (h : ∀ w' b, Below r w w' → Um r w' res b → K (a.put o.dst (.bool b)) w') : o.wp P a w K Q := by
  refine DB hf ho hc hv ?_
  rintro e w' ⟨b, rfl, l, k⟩
  exact ⟨_, rfl, h w' b l k⟩
theorem QW {α : Type} {e : El α} {T t bytes : Nat} (R : RowT e T t bytes) {o : Oper} {a : Act} {w : World} {K : Act → World → Prop} {Q : Exit → Act → World → Prop} {s y : Operand}
    (ho : o.op = .call { callee := .builtin .append, args := #[s, y], argTypes := #[T, T] }) {base : Nat} {S : Nat → Prop} {L : List SF} {v : Value} {l : List α} (hs : a.eval s = v) (hA : Acc e t base S w v l) (hS : ∀ k, S k → k < w.heap.size)
    (E : Env w L) (hok : ∀ g, v.ownBlock = some g → base ≤ g → g < w.heap.size → Ok g L) {nb : Nat} {cs : List Value} {x : α} (hy : a.eval y = .slice (some ⟨nb, 0, none⟩) 1 1) (hb : Bx w nb t cs) (hx : e.p S w cs x)
    (h63 : l.length + 1 ≤ maxLen) (hby : (l.length + 1) * bytes ≤ 140737488355328) (hbase : base ≤ w.heap.size)
    (h : ∀ v' w', (∀ c, c < w.heap.size → v.ownBlock ≠ some c → v'.ownBlock ≠ some c) → Env w' (fA e t base S v' (l ++ [x]) :: L) → K (a.put o.dst v') w') : o.wp prog a w K Q := by
  obtain ⟨X, F, h2, h3⟩ := hA
  obtain ⟨i, z, e1, e2, e3, e4, e5, e6⟩ := R.info
  have N := e.len hx
  obtain ⟨v', w', hr, g2, q⟩ := QU (P := prog) (w := w) base T o.type t i z e.sz bytes R.ht e1 e2 e3 e4 e5 R.pos Gn e6 v l.length X F ⟨nb, 0, none⟩ 1 1 cs (by rw [N, Nat.one_mul])
    (fun j u B => by
      have : (⟨nb, 0, none⟩ : Addr).add j = ⟨nb, j, none⟩ := by unfold Addr.add; split <;> simp_all
      rw [this, hb.cell]; exact B) (e.one hx) (fun u B k => e.nw hx u B k) h63 hby hbase
  unfold Oper.wp execOp
  simp only [ho, resolve, invoke, builtin, Sem.run_bind, Sem.run_pure, Result.andThen_ok, List.map_toArray, List.map_cons, List.map_nil, hs, hy, hr]
  have U : Keep S w w' := by
    rcases q with ⟨q, _⟩ | ⟨g, f, _, q⟩
    · exact Keep.below q hS
    · exact Keep.onl (F.noW f pG) q (h3 g f)
  have Y : w.heap.size ≤ w'.heap.size := by
    rcases q with ⟨q, _⟩ | ⟨g, f, _, q⟩
    · exact q.size
    · exact Nat.le_of_eq q.size.symm
  have H : ∀ g, v'.ownBlock = some g → ¬ S g := by
    intro g f
    rcases q with ⟨_, g4⟩ | ⟨g', D, C, _⟩
    · rw [g4 AA] at f
      simp only [Option.some.injEq] at f
      intro hs; have := hS g hs; omega
    · rw [C] at f; simp only [Option.some.injEq] at f; subst f; exact h3 g' D
  have I : ∀ c, c < w.heap.size → v.ownBlock ≠ some c → v'.ownBlock ≠ some c := by
    intro c hc a0 f
    rcases q with ⟨_, g4⟩ | ⟨g', D, C, _⟩
    · rw [g4 AA] at f
      simp only [Option.some.injEq] at f
      omega
    · rw [C] at f; simp only [Option.some.injEq] at f; subst f; exact a0 D
  have G : Acc e t base S w' v' (l ++ [x]) := by
    refine ⟨X ++ cs, by rw [List.length_append]; exact g2, fun j u B => ?_, H⟩
    by_cases hj : j < l.length
    · rw [List.getElem?_append_left hj] at B
      rw [sT F.1 cs hj]
      exact e.keep (h2 j u B) U
    · have a1 : j = l.length := by
        have := (List.getElem?_eq_some_iff.1 B).1
        simp at this; omega
      subst a1
      simp at B
      subst B
      have J : l.length * e.sz = X.length := F.1.symm
      rw [J, List.drop_left, List.take_of_length_le (by rw [N]; exact Nat.le_refl _)]
      exact e.keep hx U
  refine h v' w' I ⟨⟨G, fun k U => Nat.lt_of_lt_of_le (hS k U) Y⟩, ?_⟩
  rcases q with ⟨q, _⟩ | ⟨g, f, _, q⟩
  · exact E.below q
  · exact E.onl (F.noW f pG) (hok g f (F.blk f).1 (F.blk f).2) q
theorem IQ {P : Program} {f : Nat} {o : Oper} {a : Act} {w : World} {K : Act → World → Prop} {Q : Exit → Act → World → Prop} {args : List Operand} {tys : Array TypeId} {vs : List Value} {L : List SF} {r : Rd} (hf : Fn P f)
    (ho : o.op = .call { callee := .value (.func f), args := args.toArray, argTypes := tys }) (hc : Calls P f vs.toArray w (Ul w r)) (hv : args.map a.eval = vs) (E : Env w L)
    (h : ∀ w' u, Below w.heap.size w w' → NewP w r.1 w' u → Env w' L → K (a.put o.dst (.tuple #[u, .int .i64 ↑r.2.1, .int .i64 ↑r.2.2])) w') : o.wp P a w K Q := by
  refine DB hf ho hc hv ?_
  rintro e w' ⟨_, rfl, ⟨u, rfl, l⟩, k⟩
  exact ⟨_, rfl, h w' u k l (E.below k)⟩
def NewSy (w0 : World) (s : Sy) (w' : World) (v : Value) : Prop := ∃ vv ve vn, v = .agg #[vv, ve, vn, .int .i64 ↑s.next] ∧ IsR elS (DX w0.heap.size w'.heap.size) w' vv s.vars ∧ IsR NY (DX w0.heap.size w'.heap.size) w' ve s.eqs ∧ IsR NY (DX w0.heap.size w'.heap.size) w' vn s.neqs
def Oo (w0 : World) (r : Ps) (e : Ending) (w' : World) : Prop := ∃ v, e = .returned (.tuple #[v, .int .i64 ↑r.2.1, .int .i64 ↑r.2.2]) ∧ NewSy w0 r.1 w' v ∧ Below w0.heap.size w0 w'
theorem NewSy.zero (w0 w' : World) : NewSy w0 Ii w' (.agg #[.slice none 0 0, .slice none 0 0, .slice none 0 0, .int .i64 0]) := ⟨_, _, _, rfl, IsR.nil _ _ _, IsR.nil _ _ _, IsR.nil _ _ _⟩
theorem Two.sy {r : Nat} {S : Nat → Prop} {w0 w : World} {vv ve vn : Value} {s : Sy} (h : Two r S w vv ve vn s.vars s.eqs s.neqs) (hr : w0.heap.size ≤ r) : NewSy w0 s w (.agg #[vv, ve, vn, .int .i64 ↑s.next]) :=
  have hS : ∀ k, S k → DX w0.heap.size w.heap.size k := fun k hk => ⟨by have := (h.set k hk).1; omega, h.lt k hk⟩
  ⟨vv, ve, vn, rfl, h.vars.mono hS, h.eqs.row hS (fun k h1 h2 _ => ⟨by omega, h2⟩), h.neqs.row hS (fun k h1 h2 _ => ⟨by omega, h2⟩)⟩
end Go.Proofs.YtmppigbbkjepiaaGreatDoor
namespace Go.Proofs.YtmppigbbkjepiaaGreatDoor
open Go.Proofs.Tryz
open Go.RowKit W
theorem Acc.le {α : Type} {e : El α} {t base : Nat} {S : Nat → Prop} {w : World} {v : Value} {l : List α} (h : Acc e t base S w v l) : ∃ ao cap, v = .slice ao l.length cap ∧ l.length ≤ cap := by
  obtain ⟨q, ⟨u, f⟩, _, _⟩ := h
  rcases f with ⟨rfl, k⟩ | ⟨g, cap, p, rfl, F, D, o, C, B, z, y⟩
  · exact ⟨none, 0, by rw [k], by omega⟩
  · exact ⟨_, cap, rfl, o⟩
theorem sB {o : Oper} {a : Act} {w : World} {K : Act → World → Prop} {Q : Exit → Act → World → Prop} {s y : Operand}
    (ho : o.op = .call { callee := .builtin .append, args := #[s, y], argTypes := #[30, 30] }) {base : Nat} {S S2 : Nat → Prop} {L : List SF} {v u : Value} {l l2 : List Bs} (hs : a.eval s = v) (hA : Acc elS 9 base S w v l) (hS : ∀ k, S k → k < w.heap.size)
    (E : Env w L) (hok : ∀ g, v.ownBlock = some g → base ≤ g → g < w.heap.size → Ok g L) (hy : a.eval y = u) (hR : IsR elS S2 w u l2)
    (h63 : l.length + l2.length ≤ maxLen) (hby : (l.length + l2.length) * 16 ≤ 140737488355328) (hbase : base ≤ w.heap.size)
    (h : ∀ v' w', Env w' (fA elS 9 base S v' (l ++ l2) :: L) → K (a.put o.dst v') w') : o.wp prog a w K Q := by
  have a0 := hA
  obtain ⟨i, z, e1, e2, e3, e4, e5, e6⟩ := RT_S.info
  by_cases D : l2 = []
  · subst D
    obtain ⟨ao, a1, rfl, U⟩ := hA.le
    obtain ⟨B, f, rfl, _, _⟩ := hR.shp
    have G : Src prog i.size 30 (.slice B 0 f) 0 [] w := by
      cases B with
      | none => exact Src.ofNil w RT_S.ht f
      | some ad => exact Src.ofSlice w RT_S.ht ad 0 f [] AH (fun j u p => by simp at p) (fun u p => by cases p)
    have T := run_append_nothing (P := prog) w 30 30 o.type 9 i RT_S.ht e1 ao l.length a1 U (.slice B 0 f) G
    unfold Oper.wp execOp
    simp only [ho, resolve, invoke, builtin, Sem.run_bind, Sem.run_pure, Result.andThen_ok, List.map_toArray, List.map_cons, List.map_nil, hs, hy, List.length_nil, T]
    exact h _ w ⟨⟨by rw [List.append_nil]; exact a0, hS⟩, E⟩
  · obtain ⟨B, f, rfl, _, _⟩ := hR.shp
    obtain ⟨_, _, _, b, C, rfl, a3, hc⟩ := YX hR D
    obtain ⟨F, J, h2, h3⟩ := hA
    obtain ⟨v', w', T, g2, t⟩ := QU (P := prog) (w := w) base 30 o.type 9 i z 1 16 RT_S.ht e1 e2 e3 e4 e5 AE Gn e6 v l.length F J ⟨b, C, none⟩ l2.length f (l2.map fun x => Value.string (bs x)) AH
      (fun j u p => by
        have : (⟨b, C, none⟩ : Addr).add j = ⟨b, C + j, none⟩ := by unfold Addr.add; split <;> simp_all
        rw [this]
        rw [List.getElem?_map] at p
        cases N : l2[j]? with
        | none => simp [N] at p
        | some x => simp [N] at p; subst p; exact hc j x N) (fun u p => by
        obtain ⟨x, _, rfl⟩ := List.mem_map.1 p; rfl) (fun u p k => by
        obtain ⟨x, _, rfl⟩ := List.mem_map.1 p
        intro e; cases e) h63 hby hbase
    unfold Oper.wp execOp
    simp only [ho, resolve, invoke, builtin, Sem.run_bind, Sem.run_pure, Result.andThen_ok, List.map_toArray, List.map_cons, List.map_nil, hs, hy, T]
    have R : w.heap.size ≤ w'.heap.size := by
      rcases t with ⟨t, _⟩ | ⟨g, q, _, t⟩
      · exact t.size
      · exact Nat.le_of_eq t.size.symm
    have I : ∀ g, v'.ownBlock = some g → ¬ S g := by
      intro g q
      rcases t with ⟨_, g4⟩ | ⟨g', Y, X, _⟩
      · rw [g4 (by intro e; exact D (List.eq_nil_of_length_eq_zero e))] at q
        simp only [Option.some.injEq] at q
        intro hs; have := hS g hs; omega
      · rw [X] at q; simp only [Option.some.injEq] at q; subst q; exact h3 g' Y
    have H : Acc elS 9 base S w' v' (l ++ l2) := by
      refine ⟨F ++ l2.map fun x => Value.string (bs x), by rw [List.length_append]; exact g2, fun j u p => ?_, I⟩
      have a2 : F.length = l.length := by rw [J.1]; exact Nat.mul_one _
      show ((F ++ l2.map fun x => Value.string (bs x)).drop (j * 1)).take 1 = [.string (bs u)]
      rw [Nat.mul_one]
      by_cases hj : j < l.length
      · rw [List.getElem?_append_left hj] at p
        have h4 : ((F.drop (j * 1)).take 1) = [.string (bs u)] := h2 j u p
        rw [Nat.mul_one] at h4
        rw [List.drop_append_of_le_length AA, List.take_append_of_le_length (by rw [List.length_drop]; omega)]; exact h4
      · rw [List.getElem?_append_right AA] at p
        rw [show j = F.length + (j - l.length) by omega, ← List.drop_drop, List.drop_left]
        obtain ⟨q1, q2⟩ := List.getElem?_eq_some_iff.1 p
        rw [List.drop_eq_getElem_cons (by simpa using q1)]
        simp [q2]
    refine h v' w' ⟨⟨H, fun k hk => Nat.lt_of_lt_of_le (hS k hk) R⟩, ?_⟩
    rcases t with ⟨t, _⟩ | ⟨g, q, _, t⟩
    · exact E.below t
    · exact E.onl (J.noW q pG) (hok g q (J.blk q).1 (J.blk q).2) t
def UL (vars : List Bs) (l : List (Bool × En)) : Bs := l.flatMap fun e => QC vars e ++ [10]
theorem yU (b : UInt8) : ∀ l : List Bs, jn b (l ++ [[]]) = l.flatMap fun x => x ++ [b]
  | [] => rfl
  | x :: l => by
    rw [List.cons_append, KK b x AH, yU b l, List.flatMap_cons]; simp
theorem pM (s : Sy) : SH s = UQ s.vars ++ 10 :: (UL s.vars (LY s.eqs s.neqs) ++ (ZK s.next ++ [10])) := by
  unfold SH QF
  rw [yU]
  simp only [List.flatMap_cons, List.flatMap_append, List.flatMap_nil, List.append_nil]
  unfold UL
  rw [List.flatMap_map]; simp
theorem zJ (vars : List Bs) (l : List (Bool × En)) (e : Bool × En) : UL vars (l ++ [e]) = UL vars l ++ (QC vars e ++ [10]) := by unfold UL; simp
structure PrTo (s : Sy) (i k : Nat) (done : List (Bool × En)) : Prop where
  eq : done ++ LY (s.eqs.drop i) (s.neqs.drop k) = LY s.eqs s.neqs
  short : ZL s.vars done = false
theorem PrTo.zero (s : Sy) : PrTo s 0 0 [] := ⟨by simp, rfl⟩
theorem UK {α : Type} {l : List α} {i : Nat} {x : α} (h : l[i]? = some x) : l.drop i = x :: l.drop (i + 1) := by
  obtain ⟨f, e⟩ := List.getElem?_eq_some_iff.1 h
  rw [List.drop_eq_getElem_cons f, e]
theorem oJ (vars : List Bs) (a b : List (Bool × En)) : ZL vars (a ++ b) = (ZL vars a || ZL vars b) := by unfold ZL; simp
def aH (s : Sy) (i k : Nat) (e : Bool × En) : Prop := (e.1 = false ∧ s.eqs[i]? = some e.2 ∧ (¬ k < s.neqs.length ∨ ∃ f, s.neqs[k]? = some f ∧ e.2.1 < f.1)) ∨ (e.1 = true ∧ s.neqs[k]? = some e.2 ∧ (¬ i < s.eqs.length ∨ ∃ f, s.eqs[i]? = some f ∧ ¬ f.1 < e.2.1))
theorem uB {s : Sy} {i k : Nat} {e : Bool × En} (h : aH s i k e) : LY (s.eqs.drop i) (s.neqs.drop k) = e :: LY (s.eqs.drop (if e.1 then i else i + 1)) (s.neqs.drop (if e.1 then k + 1 else k)) := by
  obtain ⟨b, x⟩ := e
  rcases h with ⟨rfl, o, l⟩ | ⟨rfl, o, l⟩
  · simp only at o l ⊢
    rw [UK o]
    rcases l with l | ⟨f, l, p⟩
    · rw [List.drop_eq_nil_of_le (by omega : s.neqs.length ≤ k), LY]; simp [List.drop_eq_nil_of_le (by omega : s.neqs.length ≤ k)]
    · rw [UK l, LY, if_pos p]; simp [UK l]
  · simp only at o l ⊢
    rw [UK o]
    rcases l with l | ⟨f, l, p⟩
    · rw [List.drop_eq_nil_of_le (by omega : s.eqs.length ≤ i), LY]; simp [List.drop_eq_nil_of_le (by omega : s.eqs.length ≤ i)]
    · rw [UK l, LY, if_neg p]; simp [UK l]
theorem PrTo.step {s : Sy} {i k : Nat} {done : List (Bool × En)} {e : Bool × En} (h : PrTo s i k done) (hn : aH s i k e) (hl : ¬ 4000 < (DQ s.vars e.2.2).length) : PrTo s (if e.1 then i else i + 1) (if e.1 then k + 1 else k) (done ++ [e]) := by
  refine ⟨?_, ?_⟩
  · have := h.eq; rw [uB hn] at this; rw [← this]; simp
  · rw [oJ, h.short]; unfold ZL; simp; omega
theorem PrTo.long {s : Sy} {i k : Nat} {done : List (Bool × En)} {e : Bool × En} (h : PrTo s i k done) (hs : JN s = true) (hn : aH s i k e) (hl : 4000 < (DQ s.vars e.2.2).length) : RN s = ([], 2) := by
  unfold RN
  rw [if_neg (by rw [hs]; simp), if_pos]
  rw [← h.eq, uB hn, oJ]
  have : ZL s.vars (e :: LY (s.eqs.drop (if e.1 then i else i + 1)) (s.neqs.drop (if e.1 then k + 1 else k))) = true := by unfold ZL; simp [hl]
  rw [this]; simp
theorem PrTo.full {s : Sy} {i k : Nat} {done : List (Bool × En)} (h : PrTo s i k done) (hs : JN s = true) (hi : ¬ i < s.eqs.length) (hk : ¬ k < s.neqs.length) : done = LY s.eqs s.neqs ∧ RN s = (SH s, 0) := by
  have e := h.eq
  rw [List.drop_eq_nil_of_le AA, List.drop_eq_nil_of_le AA, LY, List.append_nil] at e
  refine ⟨e, ?_⟩
  unfold RN
  rw [if_neg (by rw [hs]; simp), if_neg (by rw [← e, h.short]; simp)]
theorem Vz {s : Sy} (h : JN s = false) : RN s = ([], 320) := by unfold RN; rw [if_pos h]
theorem wT {s : Sy} (h : JN s = true) : DF 4 s.vars = true ∧ s.eqs.length ≤ 12 ∧ s.neqs.length ≤ 12 ∧ 1 ≤ s.next ∧ s.next ≤ 1000000 ∧ (∀ e, e ∈ s.eqs ∨ e ∈ s.neqs → e.1 ≤ 1000000 ∧ MB s.vars.length e.2 = true) := by
  unfold JN at h
  simp only [Bool.and_eq_true, decide_eq_true_eq] at h
  obtain ⟨⟨⟨⟨⟨p, o⟩, l⟩, k⟩, a5⟩, q⟩ := h
  unfold JO at k a5
  simp only [Bool.and_eq_true, decide_eq_true_eq, List.all_eq_true] at k a5
  refine ⟨p, k.1.1, a5.1.1, o, l, fun e f => ?_⟩
  rcases f with f | f
  · have := k.1.2 e f; exact ⟨by omega, this.2⟩
  · have := a5.1.2 e f; exact ⟨by omega, this.2⟩
theorem RE {n : Nat} (h : n ≤ 1000000) : (txt ((n : Nat) : Int)).length ≤ 7 := by
  unfold txt
  rw [if_neg AA, List.nil_append, Df, Int.natAbs_natCast]
  exact pD AE AA
theorem aZ {vars : List Bs} (h : DF 4 vars = true) : (UQ vars).length ≤ 60 := by
  have p := Mj 32 (vaB :: vars)
  have u := IY h
  have o : ∀ v ∈ vars, v.length ≤ 12 := fun v e => kY (FV h v e)
  have k : ∀ l : List Bs, (∀ v ∈ l, v.length ≤ 12) → (l.map fun x => x.length + 1).sum ≤ 13 * l.length := by
    intro l
    induction l with
    | nil => intro _; simp
    | cons x l ih =>
      intro e
      have := ih (fun v f => e v (by simp [f]))
      have := e x AH
      simp only [List.map_cons, List.sum_cons, List.length_cons]; omega
  have t := k vars o
  have q : (UQ vars).length ≤ (vaB.length + 1) + (vars.map fun x => x.length + 1).sum := by
    unfold UQ; refine Nat.le_trans p ?_; simp
  have : vaB.length = 4 := rfl
  omega
theorem uU {vars : List Bs} {e : Bool × En} (h : e.2.1 ≤ 1000000) (hl : ¬ 4000 < (DQ vars e.2.2).length) : (QC vars e).length ≤ 4020 := by
  have l := RE h
  unfold QC
  have k : (mR e.1).length ≤ 5 := by cases e.1 <;> decide
  have f : colB.length = 2 := rfl
  simp only [List.length_append]; omega
theorem bF {s : Sy} (h : SyOk s) : (SH s).length ≤ 99000 := by
  obtain ⟨y, o⟩ := h
  obtain ⟨z, I, H, G, a5, p⟩ := wT y
  have D := aZ z
  have u : ∀ l : List (Bool × En), (∀ e ∈ l, (QC s.vars e).length ≤ 4020) → (UL s.vars l).length ≤ 4021 * l.length := by
    intro l
    induction l with
    | nil => intro _; simp [UL]
    | cons x l ih =>
      intro k
      have := ih (fun v f => k v (by simp [f]))
      have F := k x AH
      unfold UL at this ⊢
      rw [List.flatMap_cons, List.length_append, List.length_append]
      simp only [List.length_cons, List.length_nil]; omega
  have t := u (LY s.eqs s.neqs) (fun e q => by
    rcases mrg_in.1 q with ⟨_, g⟩ | ⟨_, g⟩
    · exact uU (p _ (.inl g)).1 (by have := (o _ (.inl g)).2; omega)
    · exact uU (p _ (.inr g)).1 (by have := (o _ (.inr g)).2; omega))
  rw [cF _ _ _ (Nat.le_refl _)] at t
  have C := RE a5
  rw [pM]
  simp only [List.length_append, List.length_cons, List.length_nil]
  have B : (ZK s.next).length ≤ 12 := by unfold ZK; rw [List.length_append]; have : nxB.length = 5 := rfl; omega
  omega
end Go.Proofs.YtmppigbbkjepiaaGreatDoor
