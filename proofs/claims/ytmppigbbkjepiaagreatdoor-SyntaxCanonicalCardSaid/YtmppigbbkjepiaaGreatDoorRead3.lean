/- Reading a polynomial. (Printed by g_read3.py.) -/
import Derived.Test.YtmppigbbkjepiaaGreatDoorRdL
namespace Go.Proofs.YtmppigbbkjepiaaGreatDoor
open Go.Proofs.Tryz
open Go.RowKit W
attribute [local go_sem] Oper.semAt_some
theorem IK {T b : Nat} {v : Value} {w : World} (hT : ∀ w, (isAgg T).run prog w = .ok false w) (hb : Bx w b T [v]) : (loadVar T ⟨b, 0, none⟩).run prog w = .ok v w := by
  have e : w.cell? ⟨b, 0, none⟩ = some v := by rw [hb.cell]; rfl
  simp [loadVar, hT, e]
theorem IL {A : World} {r b T : Nat} {cs : List Value} (h : Bx A b T cs) (hr : ∃ o : Obj, A.heap[r]? = some o ∧ o.isCells = false) : (fX b T cs).ok r := by
  obtain ⟨o, f, k⟩ := hr
  refine CS fun e => ?_
  subst e
  unfold Bx at h
  rw [h] at f; cases f; cases k
theorem Hc {α : Type} {e : El α} {A : World} {r t base : Nat} {v : Value} {l : List α} (h : Acc e t base VF A v l) (hr : ∃ o : Obj, A.heap[r]? = some o ∧ o.isCells = false) : (fA e t base VF v l).ok r := by
  obtain ⟨o, k, f⟩ := hr
  refine PC (fun e => ?_) FW
  have := Oi h e o k
  rw [this] at f; cases f
def kbS (sb : Nat) : Nat → Prop := fun k => k < 2 ∨ k = sb
def fKB (W : World) (sb : Nat) : SF := fD (kbS sb) (keepB sb W) (fun _ _ h hk => fun k hs => (hk.block k hs).trans (h k hs))
theorem KL {W : World} {sb c : Nat} (h : 2 ≤ c) (h2 : c ≠ sb) : (fKB W sb).ok c := by rintro (g | g); omega; exact h2 g
theorem Env.kb {W : World} {sb : Nat} {L : List SF} (E : Env W L) (h : sb < W.heap.size) (h2 : 2 ≤ W.heap.size) : Env W (fKB W sb :: L) := ⟨⟨fun _ _ => rfl, fun k hk => by rcases hk with g | g <;> omega⟩, E⟩
def fDf (D : Nat) : SF := fD (fun k => k = D) (fun w => w.heap[D]? = some (.deferred (some []))) (fun _ _ h hk => (hk.block D rfl).trans h)
theorem okDf {D c : Nat} (h : c ≠ D) : (fDf D).ok c := h
theorem Env.df {W : World} {D : Nat} {L : List SF} (E : Env W L) (h : W.heap[D]? = some (.deferred (some []))) : Env W (fDf D :: L) := ⟨⟨h, fun k hk => by subst hk; exact (Array.getElem?_eq_some_iff.1 h).1⟩, E⟩
theorem EW {W : World} {D : Nat} (h : W.heap[D]? = some (.deferred (some []))) : ∃ o : Obj, W.heap[D]? = some o ∧ o.isCells = false := ⟨_, h, rfl⟩
theorem Env.put {W : World} {D : Nat} {L : List SF} (E : Env W L) (h : W.heap[D]? = some (.deferred (some []))) (hok : Ok D L) : Env (W.putObj D (.deferred none)) L := E.turn (grownBy_putObj' W D _) (fun r e => by cases e; exact EW h) (fun r e => by cases e; exact hok)
theorem xN (a : Nat) : ((a : Nat) : Int).tmod 2 = ((a % 2 : Nat) : Int) := (Int.ofNat_tmod a 2).symm
theorem Po {l : List Bs} {s : Bs} (h : DS 8 l = false) : EV l s = ([], 0, 1) := by unfold EV; rw [if_pos h]
theorem Pn {l : List Bs} {s : Bs} (h : DS 8 l = true) (h2 : 4000 < s.length) : EV l s = ([], 0, 2) := by unfold EV; rw [if_neg (by rw [h]; decide), if_pos h2]
theorem Pm {l : List Bs} {s : Bs} (h : DS 8 l = true) (h2 : s = [48]) : EV l s = ([], 0, 0) := by unfold EV; subst h2; rw [if_neg (by rw [h]; decide), if_neg AD, if_pos rfl]
theorem Fa {l : List Bs} {i : Nat} {st st' : cZ} {w : Bs} (h : GK l i st w = some st') : st'.2.length = st.2.length + (if i % 2 = 1 then 0 else 1) := by
  unfold GK at h
  split at h
  · rename_i hi
    rw [if_pos hi]
    split at h
    · simp only [Option.some.injEq] at h; subst h; rfl
    · cases h
  · rename_i hi
    rw [if_neg hi]
    cases e : cG l (PQ i st.1 w).1 with
    | none => simp [e] at h
    | some t =>
      obtain ⟨c, m⟩ := t
      simp only [e] at h
      split at h
      · cases h
      · simp only [Option.some.injEq] at h; subst h; simp
theorem Fs {l : List Bs} : ∀ {ws : List Bs} {i : Nat} {st st' : cZ}, pW l i st ws = some st' → i % 2 = 0 → st.2.length = i / 2 → st'.2.length = (i + ws.length + 1) / 2
  | ws, i, st, st', h, hi, hl => by
    have key : ∀ (ws : List Bs) (i : Nat) (st : cZ), pW l i st ws = some st' → st.2.length = (i + 1) / 2 → st'.2.length = (i + ws.length + 1) / 2 := by
      intro ws
      induction ws with
      | nil => intro i st h hl; simp only [pW, Option.some.injEq] at h; subst h; simpa using hl
      | cons w ws ih =>
        intro i st h hl
        simp only [pW] at h
        cases e : GK l i st w with
        | none => rw [e] at h; cases h
        | some st2 =>
          rw [e] at h
          have := ih (i + 1) st2 h (by have := Fa e; split at this <;> omega)
          simp only [List.length_cons]; omega
    exact key ws i st h Z
theorem xI : ∀ (k : Nat) (ws : List Bs), (cB k ws).length = ws.length
  | _, [] => rfl
  | k, w :: ws => by simp only [cB, List.length_cons]; rw [xI]
section
variable {l : List Bs} {i : Nat} {nd : Bool} {p : List Tm} {wd : Bs}
theorem Kp (h : i % 2 = 1) (hw : wd = [43]) : GK l i (nd, p) wd = some (false, p) := by unfold GK; rw [if_pos h, if_pos (.inl hw)]; subst hw; rfl
theorem Fj (h : i % 2 = 1) (hw : wd = [45]) : GK l i (nd, p) wd = some (true, p) := by unfold GK; rw [if_pos h, if_pos (.inr hw)]; subst hw; rfl
theorem Pl (h : i % 2 = 1) (h1 : ¬ wd = [43]) (h2 : ¬ wd = [45]) : GK l i (nd, p) wd = none := by unfold GK; rw [if_pos h, if_neg (by rintro (g | g); exact h1 g; exact h2 g)]
theorem uF {cw : Bs} {sg : Bool} (h : ¬ i % 2 = 1) (hcs : PQ i nd wd = (cw, sg)) (hr : cG l cw = none) : GK l i (nd, p) wd = none := by unfold GK; rw [if_neg h]; simp only [hcs, hr]
theorem Kg {cw : Bs} {sg : Bool} {c : Rat} {m : List Nat} (h : ¬ i % 2 = 1) (hcs : PQ i nd wd = (cw, sg)) (hr : cG l cw = some (c, m)) (h0 : ¬ i = 0) (hc : 0 ≤ EU m (iZ p)) : GK l i (nd, p) wd = none := by unfold GK; rw [if_neg h]; simp only [hcs, hr]; rw [if_pos ⟨h0, hc⟩]
theorem xO {cw : Bs} {sg : Bool} {c : Rat} {m : List Nat} (h : ¬ i % 2 = 1) (hcs : PQ i nd wd = (cw, sg)) (hr : cG l cw = some (c, m)) (h0 : i = 0 ∨ ¬ 0 ≤ EU m (iZ p)) : GK l i (nd, p) wd = some (false, p ++ [(Bw sg c, m)]) := by unfold GK; rw [if_neg h]; simp only [hcs, hr]; rw [if_neg (by rintro ⟨g1, g2⟩; rcases h0 with g | g; exact g1 g; exact g g2)]
theorem cut_1 (h : i = 0) (hh : wd.head? = some 45) : PQ i nd wd = (wd.tail, true) := by unfold PQ; rw [if_pos h, if_pos hh]
theorem cut_2 (h : i = 0) (hh : ¬ wd.head? = some 45) : PQ i nd wd = (wd, false) := by unfold PQ; rw [if_pos h, if_neg hh]
theorem cut_3 (h : ¬ i = 0) : PQ i nd wd = (wd, nd) := by unfold PQ; rw [if_neg h]
theorem Hn {c : Rat} {m : List Nat} (h : p[p.length - 1]? = some (c, m)) : iZ p = m := by unfold iZ; rw [List.getLast?_eq_getElem?, h]; rfl
end
theorem xF (wd : Bs) (w : World) (h : wd.head? = some 45) : Calls prog 41 #[.string (bs wd), .string (bs [45])] w (FX w (.tuple #[.string (bs wd.tail), .bool true])) := by
  have := SE wd [45] w
  cases wd with
  | nil => cases h
  | cons a r =>
    simp at h; subst h
    have f : Lib.trimPrefix (45 :: r) [45] = r := by simp [Lib.trimPrefix, Lib.hasPrefix]
    have e : Lib.hasPrefix (45 :: r) [45] = true := by simp [Lib.hasPrefix]
    rwa [f, e] at this
theorem Ed (wd : Bs) (w : World) (h : ¬ wd.head? = some 45) : Calls prog 41 #[.string (bs wd), .string (bs [45])] w (FX w (.tuple #[.string (bs wd), .bool false])) := by
  have := SE wd [45] w
  have e : Lib.hasPrefix wd [45] = false := by
    cases wd with
    | nil => rfl
    | cons a r => simp at h; simp [Lib.hasPrefix, List.isPrefixOf]; exact fun g => h g.symm
  have f : Lib.trimPrefix wd [45] = wd := by simp [Lib.trimPrefix, e]
  rwa [f, e] at this
theorem lD {o : Oper} {a : Act} {w : World} {K : Act → World → Prop} {Q : Exit → Act → World → Prop} {y : Operand} {tys : Array TypeId} {s : Bs}
    (ho : o.op = .call { callee := .value (.func 40), args := [y].toArray, argTypes := tys }) (hy : a.eval y = .string (bs s))
    (h : ∀ b w', b = w.heap.size → w'.heap.size = w.heap.size + 1 → Below w.heap.size w w' → Bx w' b 9 [.string (bs s)] → K (a.put o.dst (.func (.func 85) #[] #[.pointer (some ⟨b, 0, none⟩)])) w') : o.wp prog a w K Q := by
  refine DB ⟨_, func40, by kernel_rfl, O⟩ ho (Kc s w) (by simp [hy]) ?_
  rintro e w' ⟨rfl, rfl⟩
  exact ⟨_, rfl, h _ _ rfl AG ((Below.refl _ _).alloc (Nat.le_refl _) _) (JZ w 9 [.string (bs s)])⟩
theorem SO {P : Program} {f : Nat} {o : Oper} {a : Act} {w : World} {K : Act → World → Prop} {Q : Exit → Act → World → Prop} {args : List Operand} {tys : Array TypeId} {vs : List Value} {L : List SF} {c : Rat} {mm : List Nat} (hf : Fn P f)
    (ho : o.op = .call { callee := .value (.func f), args := args.toArray, argTypes := tys }) (hc : Calls P f vs.toArray w (Jk w (some (c, mm)))) (hv : args.map a.eval = vs) (E : Env w L)
    (h : ∀ w' n s m u, Below w.heap.size w w' → Env w' (fI (.agg #[.bool n, s]) c.num :: fI (.agg #[.bool m, u]) ((c.den : Nat) : Int) :: L) → K (a.put o.dst (.tuple #[.agg (HY n s m u mm).toArray, .bool true])) w') : o.wp P a w K Q := by
  refine DB hf ho hc hv ?_
  rintro e w' ⟨n, s, m, u, rfl, p, l, k⟩
  exact ⟨_, rfl, h w' n s m u k (((E.below k).i l).i p)⟩
theorem SR {P : Program} {f : Nat} {o : Oper} {a : Act} {w : World} {K : Act → World → Prop} {Q : Exit → Act → World → Prop} {args : List Operand} {tys : Array TypeId} {vs : List Value} {L : List SF} (hf : Fn P f)
    (ho : o.op = .call { callee := .value (.func f), args := args.toArray, argTypes := tys }) (hc : Calls P f vs.toArray w (Jk w none)) (hv : args.map a.eval = vs) (E : Env w L)
    (h : ∀ w', Below w.heap.size w w' → Env w' L → K (a.put o.dst (.tuple #[.agg (HY false (.slice none 0 0) false (.slice none 0 0) zeroM).toArray, .bool false])) w') : o.wp P a w K Q := by
  refine DB hf ho hc hv ?_
  rintro e w' ⟨rfl, k⟩
  exact ⟨_, rfl, h w' k (E.below k)⟩
set_option maxRecDepth 100000 in
set_option maxHeartbeats 8000000 in
theorem kD (s : Bs) (vl : Value) (l : List Bs) (w : World) (hRl : IsR elS (DI w.heap.size) w vl l) (hLl : l.length ≤ 1000000) (hs : s.length ≤ 1000000) (hG : Glob w) :
    Calls prog 13 #[.string (bs s), vl] w (Ow w (EV l s)) := by
 have E := Env.start w
 obtain ⟨aa, X, rfl, a2, n9⟩ := hRl.shp
 replace E := E.r hRl (DM _)
 clear hRl
 have nk := hG.two
 replace E := E.gl hG
 refine callsIn_wide.1 (callsIn_of_wp_marks (n := 5) func13 O trivial (wpIn_wide.2 ?_) O)
 simp only [ntmps13, List.size_toArray, List.length_cons, List.length_nil, Nat.reduceAdd, Nat.reduceSub, Array.replicate_succ, Array.replicate_zero, List.push_toArray, List.append_toArray, List.nil_append, List.cons_append]
 refine yG ?_
 refine EF O (pP (v := .slice aa l.length X) O O O ?_)
 intro b1 w1 im z1 d1 x1
 have l1 : w.heap.size ≤ b1 := by rw [im]; exact E.2.2.1.size
 replace E := (E.below d1).x x1
 clear im z1 d1 x1
 refine yG ?_
 refine EF O (JN (z := .slice none 0 0) I O O ?_)
 intro b2 w2 il z2 d2 U
 have l8 : b1 < b2 := by rw [il]; exact Bx.lt E.1
 replace E := E.below d2
 clear il z2 d2
 refine yG ?_
 refine EF O (JN (z := .int .i64 0) I O O ?_)
 intro b3 w3 ik z3 d3 Q
 have l7 : b2 < b3 := by rw [ik]; exact Bx.lt (U)
 replace E := E.below d3
 replace U := Bx.below U d3
 clear ik z3 d3
 refine yG ?_
 refine EF O (JN (z := .int .i64 0) I O O ?_)
 intro b4 w4 ij z4 d4 H
 have l6 : b3 < b4 := by rw [ij]; exact Bx.lt (Q)
 replace E := E.below d4
 replace U := Bx.below U d4
 replace Q := Bx.below Q d4
 clear ij z4 d4
 by_cases hV : DS 8 l = true
 case neg =>
  refine yG ?_
  refine EF O (BY JL O (CQ (DF hV) (WE _ l _ (BV E.2.2.1) hLl)) O E ?_)
  clear E
  intro kk aw E
  replace U := U.below aw
  replace Q := Q.below aw
  replace H := H.below aw
  clear aw
  refine yG ?_
  refine EF O (CF (v := .slice none 0 0) O I O O O U AG ?_)
  intro kj ai ch
  replace E := (E.onl (U.noW (CE AG CX)) zK ai).x (cs := [.slice none 0 0]) ch
  replace Q := Bx.onl Q Z ai
  replace H := Bx.onl H Z ai
  clear U ai ch
  refine yG ?_
  refine EF O (CF (v := .int .i64 0) O I O O O Q AG ?_)
  intro ki bn cg
  replace E := (E.onl (Q.noW (CE AG CX)) zK bn).x (cs := [.int .i64 0]) cg
  replace H := Bx.onl H Z bn
  clear Q bn cg
  refine yG ?_
  refine EF O (CF (v := .int .i64 1) O I O O O H AG ?_)
  intro kh cv cf
  replace E := (E.onl (H.noW (CE AG CX)) zK cv).x (cs := [.int .i64 1]) cf
  clear H cv cf
  have gh := IK LB E.2.2.1
  have gg := IK DD E.2.1
  have ge := IK JQ E.1
  refine yG ?_
  exact cV (v := .tuple #[.slice none 0 0, .int .i64 0, .int .i64 1]) (by simp [results, results13, asAddr, gh, gg, ge]) rfl (by rw [show EV l s = ([], 0, 1) from Po (DF hV)]; exact ⟨_, rfl, ⟨_, rfl, IsR.nil _ _ _⟩, e6 E⟩)
 refine yG ?_
 refine EF O (BY JL O (CQ hV (WE _ l _ (BV E.2.2.1) hLl)) O E ?_)
 clear E
 intro w5 d5 E
 replace U := U.below d5
 replace Q := Q.below d5
 replace H := H.below d5
 clear d5
 by_cases nb : ((s.length : Nat) : Int) > 4000
 case pos =>
  refine yG ?_
  refine EF O (CF (v := .slice none 0 0) O I O O O U AG ?_)
  intro w6 o6 y6
  replace E := (E.onl (U.noW (CE AG CX)) zK o6).x (cs := [.slice none 0 0]) y6
  replace Q := Bx.onl Q Z o6
  replace H := Bx.onl H Z o6
  clear U o6 y6
  refine yG ?_
  refine EF O (CF (v := .int .i64 0) O I O O O Q AG ?_)
  intro w7 o7 y7
  replace E := (E.onl (Q.noW (CE AG CX)) zK o7).x (cs := [.int .i64 0]) y7
  replace H := Bx.onl H Z o7
  clear Q o7 y7
  refine yG ?_
  refine EF O (CF (v := .int .i64 2) O I O O O H AG ?_)
  intro w8 o8 y8
  replace E := (E.onl (H.noW (CE AG CX)) zK o8).x (cs := [.int .i64 2]) y8
  clear H o8 y8
  have r9 := IK LB E.2.2.1
  have jy := IK DD E.2.1
  have jx := IK JQ E.1
  refine yG ?_
  exact cV (v := .tuple #[.slice none 0 0, .int .i64 0, .int .i64 2]) (by simp [results, results13, asAddr, r9, jy, jx]) rfl (by rw [show EV l s = ([], 0, 2) from Pn hV Z]; exact ⟨_, rfl, ⟨_, rfl, IsR.nil _ _ _⟩, e6 E⟩)
 have ag : ¬ 4000 < s.length := by omega
 by_cases b0 : s = [48]
 case pos =>
  refine yG ?_
  refine V O O (JY (a := s) (b := [48]) (c := true) O O O (by rw [beq_iff_eq]; exact b0)) ?_
  refine yG ?_
  refine EF O (CF (v := .slice none 0 0) O I O O O U AG ?_)
  intro n2 c0 g3
  replace E := (E.onl (U.noW (CE AG CX)) zK c0).x (cs := [.slice none 0 0]) g3
  replace Q := Bx.onl Q Z c0
  replace H := Bx.onl H Z c0
  clear U c0 g3
  refine yG ?_
  refine EF O (CF (v := .int .i64 0) O I O O O Q AG ?_)
  intro n1 ev g2
  replace E := (E.onl (Q.noW (CE AG CX)) zK ev).x (cs := [.int .i64 0]) g2
  replace H := Bx.onl H Z ev
  clear Q ev g2
  refine yG ?_
  refine EF O (CF (v := .int .i64 0) O I O O O H AG ?_)
  intro n0 ht g1
  replace E := (E.onl (H.noW (CE AG CX)) zK ht).x (cs := [.int .i64 0]) g1
  clear H ht g1
  have jw := IK LB E.2.2.1
  have jv := IK DD E.2.1
  have ju := IK JQ E.1
  refine yG ?_
  exact cV (v := .tuple #[.slice none 0 0, .int .i64 0, .int .i64 0]) (by simp [results, results13, asAddr, jw, jv, ju]) rfl (by rw [show EV l s = ([], 0, 0) from Pm hV b0]; exact ⟨_, rfl, ⟨_, rfl, IsR.nil _ _ _⟩, e6 E⟩)
 refine yG ?_
 refine V O O (JY (a := s) (b := [48]) (c := false) O O O (by rw [beq_eq_false_iff_ne]; exact b0)) ?_
 refine yG ?_
 refine EF O (JN (z := .slice none 0 0) I O O ?_)
 intro ae mz di jq bx Y
 have ka : b4 < ae := by rw [di]; exact Bx.lt (H)
 replace E := E.below bx
 replace U := Bx.below U bx
 replace Q := Bx.below Q bx
 replace H := Bx.below H bx
 clear di jq bx
 refine yG ?_
 refine EF O (JN (z := .int .i64 0) I O O ?_)
 intro ad my dh jp b7 ep
 have k9 : ae < ad := by rw [dh]; exact Bx.lt (Y)
 replace E := E.below b7
 replace U := Bx.below U b7
 replace Q := Bx.below Q b7
 replace H := Bx.below H b7
 replace Y := Bx.below Y b7
 clear dh jp b7
 refine yG ?_
 refine EF O (CF (v := .int .i64 0) O I O O O ep AG ?_)
 intro mx ay g0
 replace E := (E.onl (ep.noW (CE AG CX)) zK ay).x (cs := [.int .i64 0]) g0
 replace U := Bx.onl U Z ay
 replace Q := Bx.onl Q Z ay
 replace H := Bx.onl H Z ay
 replace Y := Bx.onl Y Z ay
 clear ep ay g0
 refine yG ?_
 refine EF O (JN (z := .bool false) I O O ?_)
 intro ac mw dg jo b6 eo
 have k8 : ad < ac := by rw [dg]; exact Bx.lt E.1
 replace E := E.below b6
 replace U := Bx.below U b6
 replace Q := Bx.below Q b6
 replace H := Bx.below H b6
 replace Y := Bx.below Y b6
 clear dg jo b6
 refine yG ?_
 refine EF O (CF (v := .bool false) O I O O O eo AG ?_)
 intro mv ax fz
 replace E := (E.onl (eo.noW (CE AG CX)) zK ax).x (cs := [.bool false]) fz
 replace U := Bx.onl U Z ax
 replace Q := Bx.onl Q Z ax
 replace H := Bx.onl H Z ax
 replace Y := Bx.onl Y Z ax
 clear eo ax fz
 refine yG ?_
 refine EF O (lD (s := s) O O ?_)
 intro T g7 de jm b5 g6
 have k7 : ac < T := by rw [de]; exact Bx.lt E.1
 replace E := E.below b5
 replace U := Bx.below U b5
 replace Q := Bx.below Q b5
 replace H := Bx.below H b5
 replace Y := Bx.below Y b5
 clear de jm b5
 replace E := E.x g6
 clear g6
 replace E := E.x U
 clear U
 replace E := E.x Q
 clear Q
 replace E := E.x H
 clear H
 replace E := E.x Y
 clear Y
 obtain ⟨q, G⟩ : ∃ n, n = g7.heap.size := ⟨_, rfl⟩
 have ke : w.heap.size ≤ q := by rw [G]; exact (PP E).size
 have ih : ae < q := by rw [G]; exact Bx.lt E.1
 have ig : b4 < q := by rw [G]; exact Bx.lt E.2.1
 have ie : b3 < q := by rw [G]; exact Bx.lt E.2.2.1
 have id : b2 < q := by rw [G]; exact Bx.lt (e3 E)
 have ic : T < q := by rw [G]; exact Bx.lt (e4 E)
 have ib : ac < q := by rw [G]; exact Bx.lt (e5 E)
 have ia : ad < q := by rw [G]; exact Bx.lt (e6 E)
 have i9 : b1 < q := by rw [G]; exact Bx.lt (e7 E)
 replace E := (E.sz (Nat.le_of_eq G)).a (Acc.nil KG 88 q VF _) (RW _)
 clear G
 obtain ⟨B0, ah⟩ : ∃ n, n = g7.heap.size := ⟨_, rfl⟩
 have n7 : w.heap.size ≤ B0 := by rw [ah]; exact (XX E).size
 have lf : b4 < B0 := by rw [ah]; exact Bx.lt (e3 E)
 have ld : b3 < B0 := by rw [ah]; exact Bx.lt (e4 E)
 have lc : b2 < B0 := by rw [ah]; exact Bx.lt (e5 E)
 have la : T < B0 := by rw [ah]; exact Bx.lt (e6 E)
 refine yG ?_
 refine (wpIn_wide (n := 5)).1 ?_
 refine wpIn_rangeFunc_ownF O AD (gf := 85) (lb := #[.pointer (some ⟨T, 0, none⟩)]) O trivial (enters_of func85 I O) (pY T s Z 4 AD _ (e6 E) (PP E).1) Mc (Md Z Z) (Below.refl _ _) (fun _ => rfl)
   (fun t W => ∃ (ng nd : Bool) (p : List Tm) (vr : Value), pW l 0 (false, []) ((eK t).map (·.2)) = some (nd, p) ∧ (t.length % 2 = 0 → ng = nd) ∧ t.length ≤ 4001 ∧ Env W [fA KG 88 q VF vr p, Kb q, fX ae (28) ([vr]), fX b4 (32) ([.int .i64 0]), fX b3 (3) ([.int .i64 0]), fX b2 (28) ([.slice none 0 0]), fX T (9) ([.string (bs s)]), fX ac (4) ([.bool ng]), fX ad (3) ([.int .i64 ((t.length : Nat) : Int)]), fX b1 (30) ([.slice aa l.length X]), fGl, fR elS (DI w.heap.size) (.slice aa l.length X) l, fW w])
   (fun c t W => c = .ret ∧ ∃ (a5 : List Wd) (x : Wd) (st : cZ), t = a5 ++ [x] ∧ pW l 0 (false, []) ((eK a5).map (·.2)) = some st ∧ GK l a5.length st x.1.2 = none ∧ Env W [fX b2 (28) ([.slice none 0 0]), fX b3 (3) ([.int .i64 ↑x.1.1]), fX b4 (32) ([.int .i64 440]), fW w])
   (fun t A B row hs y hr => by obtain ⟨ng, nd, p, vr, q1, q2, q3, E⟩ := hs; exact ⟨ng, nd, p, vr, q1, q2, q3, E.turn y (fun r e => (hr r e).2) (fun r e => by have L := (hr r e).1; have J := (hr r e).2; exact ⟨Hc E.1.1 J, BW, IL E.2.2.1 J, IL (e3 E) J, IL (e4 E) J, IL (e5 E) J, IL (e6 E) J, IL (e7 E) J, IL (e8 E) J, IL (e9 E) J, EA Z, EC (CN Z), JD Z, BW⟩)⟩)
   (fun c t A B row hs y hr => by obtain ⟨q0, a5, x, st, q1, q2, q3, E⟩ := hs; exact ⟨q0, a5, x, st, q1, q2, q3, E.turn y (fun r e => (hr r e).2) (fun r e => by have L := (hr r e).1; have J := (hr r e).2; exact ⟨IL E.1 J, IL E.2.1 J, IL E.2.2.1 J, JD Z, BW⟩)⟩)
   ⟨false, false, [], .slice none 0 0, rfl, fun _ => rfl, by simp, zE⟩
   (fun x => { tmps := #[.string (bs s), .slice aa l.length X, undef, .pointer (some ⟨b1, 0, none⟩), .pointer (some ⟨b2, 0, none⟩), .pointer (some ⟨b3, 0, none⟩), .pointer (some ⟨b4, 0, none⟩), .pointer (some ⟨ae, 0, none⟩), .pointer (some ⟨ad, 0, none⟩), .pointer (some ⟨ac, 0, none⟩), .int .i64 ((x.1.1 : Nat) : Int), .string (bs x.1.2), undef, undef, .slice aa l.length X, .bool true, .bool false, .string (bs s), .int .i64 ↑s.length, .bool false, .string (bs s), .bool false, .string (bs s), .func (.func 85) #[] #[.pointer (some ⟨T, 0, none⟩)], .int .i64 ((x.1.1 : Nat) : Int), .string (bs x.1.2), undef, undef, undef, undef, undef, undef, undef, undef, undef, undef, undef, undef, undef, undef, undef, undef, undef, undef, undef, undef, undef, undef, undef, undef, undef, undef, undef, undef, undef, undef, undef, undef, undef, undef, undef, undef, undef, undef, undef, undef, undef, undef, undef, undef, undef, undef, undef, undef, undef, undef, undef, undef, undef, undef, undef, undef, undef, undef, undef, undef, undef, undef, undef], defers := [] }) ?assign ?body ?done ?stop
 case assign =>
  intro r x W K hK
  unfold wdE
  gi_wp2
  exact hK
 case body =>
  rintro r t ⟨⟨P, wd⟩, af, a0⟩ W ⟨ng, nd, p, vr, L, J, kc, E⟩ l9
  change Code.wpIn _ _ _ _ _ ⟨#[.string (bs s), .slice aa l.length X, undef, .pointer (some ⟨b1, 0, none⟩), .pointer (some ⟨b2, 0, none⟩), .pointer (some ⟨b3, 0, none⟩), .pointer (some ⟨b4, 0, none⟩), .pointer (some ⟨ae, 0, none⟩), .pointer (some ⟨ad, 0, none⟩), .pointer (some ⟨ac, 0, none⟩), .int .i64 ↑P, .string (bs wd), undef, undef, .slice aa l.length X, .bool true, .bool false, .string (bs s), .int .i64 ↑s.length, .bool false, .string (bs s), .bool false, .string (bs s), .func (.func 85) #[] #[.pointer (some ⟨T, 0, none⟩)], .int .i64 ↑P, .string (bs wd), undef, undef, undef, undef, undef, undef, undef, undef, undef, undef, undef, undef, undef, undef, undef, undef, undef, undef, undef, undef, undef, undef, undef, undef, undef, undef, undef, undef, undef, undef, undef, undef, undef, undef, undef, undef, undef, undef, undef, undef, undef, undef, undef, undef, undef, undef, undef, undef, undef, undef, undef, undef, undef, undef, undef, undef, undef, undef, undef, undef, undef, undef, undef], []⟩ _
  replace af : P ≤ 4000 := af
  replace a0 : wd.length ≤ 4000 := a0
  have n8 : p.length = (t.length + 1) / 2 := by have := Fs L rfl rfl; simpa [JX] using this
  have na : (cB 0 (EN 32 s)).length ≤ 4001 := by rw [xI]; have := VN 32 s; omega
  have a1 : p.length ≤ 4001 := by omega
  have kf : 2 ≤ W.heap.size := (PP E).1.two
  have nj : (Id W).ok ae := mB E.2.2.1
  have ni : (Id W).ok b4 := mB (e3 E)
  have nh : (Id W).ok b3 := mB (e4 E)
  have nf : (Id W).ok b2 := mB (e5 E)
  have ne : (Id W).ok ac := mB (e7 E)
  have nc : (Id W).ok ad := mB (e8 E)
  have f : ∀ g, vr.ownBlock = some g → (Id W).ok g := fun g y => Oi E.1.1 y
  have kd := Bx.lt (e6 E)
  replace E := ((E.ko).kb (sb := T) kd kf).sz (Nat.le_refl W.heap.size)
  refine wpIn_block ?_
  refine wpIn_seq ?_
  refine XZ I (fun ⟨_, _, h⟩ => h) ?_
  have en := RG E
  refine yG ?_
  replace E := Sn (Sn So) E
  refine yG ?_
  refine EF O (CF (v := .int .i64 ↑(t.length + 1)) O I O O O en AG ?_)
  intro mu hq fy
  replace E := (E.onl (en.noW (CE AG CX)) ⟨BW, KL Z Z, (by first | assumption | exact GG Z | exact f _ y), PC (fun h => by have := (Acc.lt (e3 E).1 h).1; omega) FW, BW, CS Z, CS Z, CS Z, CS Z, CS Z, CS Z, CS Z, EA Z, EC (CN Z), JD Z, BW⟩ hq).x (cs := [.int .i64 ↑(t.length + 1)]) fy
  clear en hq fy
  refine yG ?_
  change Code.wpIn _ _ _ _ _ _ _
  refine wpIn_seq ?_
  refine wpIn_seq ?_
  by_cases R : t.length % 2 = 1
  case pos =>
   refine XZ I (fun ⟨_, _, h⟩ => h) ?_
   refine yG ?_
   refine V (v := .int .i64 ↑((t.length + 1) % 2)) O O (FB O O O AD (xN _)) ?_
   refine yG ?_
   change Code.wpIn _ _ _ _ _ _ _
   refine wpIn_cond_true O ?_
   refine wpIn_seq ?_
   refine wpIn_seq ?_
   by_cases a6 : wd = [43]
   case pos =>
    refine XZ I (fun ⟨_, _, h⟩ => h) ?_
    refine yG ?_
    refine V O O (GX (a := wd) (b := [43]) (c := false) O O O (by rw [bne_eq_false_iff_eq]; exact a6)) ?_
    refine yG ?_
    change Code.wpIn _ _ _ _ _ _ _
    refine wpIn_cond_false O ?_
    refine wpIn_skip ?_
    change Code.wpIn _ _ _ _ _ _ _
    refine wpIn_seq ?_
    refine XZ I (fun ⟨_, _, h⟩ => h) ?_
    refine yG ?_
    refine V O O (JY (a := wd) (b := [45]) (c := false) O O O (by rw [beq_eq_false_iff_ne]; rw [a6]; decide)) ?_
    have em := RG E
    replace E := Sn (Sn So) E
    refine yG ?_
    refine EF O (CF (v := .bool false) O I O O O em AG ?_)
    intro mt hp fx
    replace E := (E.onl (em.noW (CE AG CX)) ⟨CS Z, BW, KL Z Z, (by first | assumption | exact GG Z | exact f _ y), PC (fun h => by have := (Acc.lt (e4 E).1 h).1; omega) FW, BW, CS Z, CS Z, CS Z, CS Z, CS Z, CS Z, EA Z, EC (CN Z), JD Z, BW⟩ hp).x (cs := [.bool false]) fx
    clear em hp fx
    refine yG ?_
    change Code.wpIn _ _ _ _ _ _ _
    refine wpIn_exit ?_
    show KeepsOthers _ _ ∧ keepB _ _ _ ∧ _
    exact ⟨e4 E, (e3 E).1, false, false, p, vr, by rw [JG, List.map_append, List.map_cons, List.map_nil, QM L, List.length_map, JX, Nat.zero_add]; exact Kp R a6, fun _ => rfl, (by simp; omega), (by rw [List.length_append]; exact zE)⟩
   by_cases ab : wd = [45]
   case pos =>
    refine XZ I (fun ⟨_, _, h⟩ => h) ?_
    refine yG ?_
    refine V O O (GX (a := wd) (b := [43]) (c := true) O O O (by rw [bne_iff_ne]; exact a6)) ?_
    refine yG ?_
    refine V I O (GX (a := wd) (b := [45]) (c := false) O O O (by rw [bne_eq_false_iff_eq]; exact ab)) ?_
    refine yG ?_
    change Code.wpIn _ _ _ _ _ _ _
    refine wpIn_cond_false O ?_
    refine wpIn_skip ?_
    change Code.wpIn _ _ _ _ _ _ _
    refine wpIn_seq ?_
    refine XZ I (fun ⟨_, _, h⟩ => h) ?_
    refine yG ?_
    refine V O O (JY (a := wd) (b := [45]) (c := true) O O O (by rw [beq_iff_eq]; exact ab)) ?_
    have el := RG E
    replace E := Sn (Sn So) E
    refine yG ?_
    refine EF O (CF (v := .bool true) O I O O O el AG ?_)
    intro ms ho fw
    replace E := (E.onl (el.noW (CE AG CX)) ⟨CS Z, BW, KL Z Z, (by first | assumption | exact GG Z | exact f _ y), PC (fun h => by have := (Acc.lt (e4 E).1 h).1; omega) FW, BW, CS Z, CS Z, CS Z, CS Z, CS Z, CS Z, EA Z, EC (CN Z), JD Z, BW⟩ ho).x (cs := [.bool true]) fw
    clear el ho fw
    refine yG ?_
    change Code.wpIn _ _ _ _ _ _ _
    refine wpIn_exit ?_
    show KeepsOthers _ _ ∧ keepB _ _ _ ∧ _
    exact ⟨e4 E, (e3 E).1, true, true, p, vr, by rw [JG, List.map_append, List.map_cons, List.map_nil, QM L, List.length_map, JX, Nat.zero_add]; exact Fj R ab, fun _ => rfl, (by simp; omega), (by rw [List.length_append]; exact zE)⟩
   refine XZ I (fun ⟨_, _, h⟩ => h) ?_
   refine yG ?_
   refine V O O (GX (a := wd) (b := [43]) (c := true) O O O (by rw [bne_iff_ne]; exact a6)) ?_
   refine yG ?_
   refine V I O (GX (a := wd) (b := [45]) (c := true) O O O (by rw [bne_iff_ne]; exact ab)) ?_
   refine yG ?_
   change Code.wpIn _ _ _ _ _ _ _
   refine wpIn_cond_true O ?_
   refine wpIn_seq ?_
   refine XZ I (fun ⟨_, _, h⟩ => h) ?_
   have ek := e9 E
   refine yG ?_
   replace E := dl9 E
   refine yG ?_
   refine EF O (CF (v := .slice none 0 0) O I O O O ek AG ?_)
   intro mr hn fv
   replace E := (E.onl (ek.noW (CE AG CX)) ⟨CS Z, BW, KL Z Z, (by first | assumption | exact GG Z | exact f _ y), PC (fun h => by have := (Acc.lt (e4 E).1 h).1; omega) FW, BW, CS Z, CS Z, CS Z, CS Z, CS Z, CS Z, EA Z, EC (CN Z), JD Z, BW⟩ hn).x (cs := [.slice none 0 0]) fv
   clear ek hn fv
   have ej := e9 E
   refine yG ?_
   replace E := dl9 E
   refine EF O (CF (v := .int .i64 ↑P) O I O O O ej AG ?_)
   intro mq hm fu
   replace E := (E.onl (ej.noW (CE AG CX)) ⟨CS Z, CS Z, BW, KL Z Z, (by first | assumption | exact GG Z | exact f _ y), PC (fun h => by have := (Acc.lt (e5 E).1 h).1; omega) FW, BW, CS Z, CS Z, CS Z, CS Z, CS Z, EA Z, EC (CN Z), JD Z, BW⟩ hm).x (cs := [.int .i64 ↑P]) fu
   clear ej hm fu
   have ei := e9 E
   refine yG ?_
   replace E := dl9 E
   refine EF O (CF (v := .int .i64 440) O I O O O ei AG ?_)
   intro mp hl ft
   replace E := (E.onl (ei.noW (CE AG CX)) ⟨CS Z, CS Z, CS Z, BW, KL Z Z, (by first | assumption | exact GG Z | exact f _ y), PC (fun h => by have := (Acc.lt (e6 E).1 h).1; omega) FW, BW, CS Z, CS Z, CS Z, CS Z, EA Z, EC (CN Z), JD Z, BW⟩ hl).x (cs := [.int .i64 440]) ft
   clear ei hl ft
   refine yG ?_
   change Code.wpIn _ _ _ _ _ _ _
   refine wpIn_ret ?_
   show KeepsOthers _ _ ∧ _
   exact ⟨(e6 E), rfl, t, ⟨(P, wd), af, a0⟩, (nd, p), rfl, L, Pl R a6 ab, zE⟩
  refine XZ I (fun ⟨_, _, h⟩ => h) ?_
  refine yG ?_
  refine V (v := .int .i64 ↑((t.length + 1) % 2)) O O (FB O O O AD (xN _)) ?_
  refine yG ?_
  change Code.wpIn _ _ _ _ _ _ _
  refine wpIn_cond_false O ?_
  refine wpIn_skip ?_
  change Code.wpIn _ _ _ _ _ _ _
  refine wpIn_seq ?_
  refine wpIn_seq ?_
  by_cases az : t.length = 0
  case neg =>
   refine XZ I (fun ⟨_, _, h⟩ => h) ?_
   refine yG ?_
   change Code.wpIn _ _ _ _ _ _ _
   refine wpIn_cond_false O ?_
   refine wpIn_skip ?_
   change Code.wpIn _ _ _ _ _ _ _
   refine wpIn_seq ?_
   have a4 := cut_3 (nd := nd) (wd := wd) az
   have a2 : (wd).length ≤ 4000 := by have := a0; first | exact a0 | (rw [List.length_tail]; omega)
   by_cases u : cG l wd = none
   case pos =>
    refine XZ I (fun ⟨_, _, h⟩ => h) ?_
    refine yG ?_
    refine EF O (SR GD O (by rw [← u]; exact OE wd _ l _ (BV (kX E)) a2 hV (VE E).1) O E ?_)
    clear E
    intro lr _ E
    refine yG ?_
    refine EF O (CA JW O ?_)
    intro ca lq ap jf ip dv
    have c1 : (vr : Value).ownBlock ≠ some ca := fun h => by have := (Acc.lt (e4 E).1 h).2; omega
    have k2 : T < ca := by rw [ap]; exact Bx.lt (PP E)
    have j3 : W.heap.size ≤ ca := by rw [ap]; exact CU E.2.1
    have j2 : q ≤ ca := by rw [ap]; exact CU (e5 E)
    replace E := E.below ip
    clear ap jf ip
    refine yG ?_
    refine EF O (BX JW O O O dv (by first | rfl | exact CJ DC) (CJ DC) (FT (M := zeroM) NG NG) ?_)
    intro lp h3 fd
    replace E := (E.onl (dv.noW (FR (M := zeroM) CW CW)) ⟨CS Z, BW, KL Z Z, (by first | assumption | exact GG Z | exact f _ y), PC c1 FW, BW, CS Z, CS Z, CS Z, CS Z, CS Z, CS Z, CS Z, EA Z, EC (CN Z), JD Z, BW⟩ h3).x (cs := (HY false (.slice none 0 0) false (.slice none 0 0) zeroM)) fd
    clear dv h3 fd
    refine yG ?_
    change Code.wpIn _ _ _ _ _ _ _
    refine wpIn_seq ?_
    refine wpIn_seq ?_
    refine MQ I (fun ⟨_, _, h⟩ => h) E ([0, 1, 2, 3, 4, 5, 6, 7, 8, 9, 10, 11, 12, 13, 14, 15, 16, 17, 18]) I I I I AE ?_
    replace E := E.drew
    refine yG ?_
    change Code.wpIn _ _ _ _ _ _ _
    refine wpIn_cond_true O ?_
    refine wpIn_seq ?_
    refine XZ I (fun ⟨_, _, h⟩ => h) ?_
    have du := PP E
    refine yG ?_
    replace E := Sn (Sn Sp) E
    refine yG ?_
    refine EF O (CF (v := .slice none 0 0) O I O O O du AG ?_)
    intro lo h0 fc
    replace E := (E.onl (du.noW (CE AG CX)) ⟨CS Z, CS Z, BW, KL Z Z, (by first | assumption | exact GG Z | exact f _ y), PC (fun h => by have := (Acc.lt (e5 E).1 h).1; omega) FW, BW, CS Z, CS Z, CS Z, CS Z, CS Z, CS Z, EA Z, EC (CN Z), JD Z, BW⟩ h0).x (cs := [.slice none 0 0]) fc
    clear du h0 fc
    have dt := PP E
    refine yG ?_
    replace E := Sn (Sn Sp) E
    refine EF O (CF (v := .int .i64 ↑P) O I O O O dt AG ?_)
    intro ln gz fb
    replace E := (E.onl (dt.noW (CE AG CX)) ⟨CS Z, CS Z, CS Z, BW, KL Z Z, (by first | assumption | exact GG Z | exact f _ y), PC (fun h => by have := (Acc.lt (e6 E).1 h).1; omega) FW, BW, CS Z, CS Z, CS Z, CS Z, CS Z, EA Z, EC (CN Z), JD Z, BW⟩ gz).x (cs := [.int .i64 ↑P]) fb
    clear dt gz fb
    have ds := PP E
    refine yG ?_
    replace E := Sn (Sn Sp) E
    refine EF O (CF (v := .int .i64 440) O I O O O ds AG ?_)
    intro lm gy fa
    replace E := (E.onl (ds.noW (CE AG CX)) ⟨CS Z, CS Z, CS Z, CS Z, BW, KL Z Z, (by first | assumption | exact GG Z | exact f _ y), PC (fun h => by have := (Acc.lt (e7 E).1 h).1; omega) FW, BW, CS Z, CS Z, CS Z, CS Z, EA Z, EC (CN Z), JD Z, BW⟩ gy).x (cs := [.int .i64 440]) fa
    clear ds gy fa
    refine yG ?_
    change Code.wpIn _ _ _ _ _ _ _
    refine wpIn_ret ?_
    show KeepsOthers _ _ ∧ _
    exact ⟨(e7 E), rfl, t, ⟨(P, wd), af, a0⟩, (nd, p), rfl, L, uF R a4 u, zE⟩
   obtain ⟨⟨c, mm⟩, u⟩ := Option.ne_none_iff_exists'.1 u
   have c8 := fZ a2 u
   obtain ⟨N, i2⟩ := iJ u
   refine XZ I (fun ⟨_, _, h⟩ => h) ?_
   refine yG ?_
   refine EF O (SO (c := c) (mm := mm) GD O (by rw [← u]; exact OE wd _ l _ (BV (kX E)) a2 hV (VE E).1) O E ?_)
   clear E
   intro ll hw ga hy g8 _ E
   refine yG ?_
   refine EF O (CA JW O ?_)
   intro c9 lk ao je io dr
   have a3 : (vr : Value).ownBlock ≠ some c9 := fun h => by have := (Acc.lt (e6 E).1 h).2; omega
   have k1 : T < c9 := by rw [ao]; exact Bx.lt (XX E)
   have j1 : W.heap.size ≤ c9 := by rw [ao]; exact CU (e3 E)
   have j0 : q ≤ c9 := by rw [ao]; exact CU (e7 E)
   replace E := E.below io
   clear ao je io
   refine yG ?_
   refine EF O (BX JW O O O dr (by first | rfl | exact CJ DC) (CJ N) (FT (M := mm) (IsI.one E.1) (IsI.one E.2.1)) ?_)
   intro jr gx f9
   replace E := (E.onl (dr.noW (FR (M := zeroM) CW CW)) ⟨BW, BW, CS Z, BW, KL Z Z, (by first | assumption | exact GG Z | exact f _ y), PC a3 FW, BW, CS Z, CS Z, CS Z, CS Z, CS Z, CS Z, CS Z, EA Z, EC (CN Z), JD Z, BW⟩ gx).x (cs := (HY hw ga hy g8 mm)) f9
   clear dr gx f9
   refine yG ?_
   change Code.wpIn _ _ _ _ _ _ _
   refine wpIn_seq ?_
   refine wpIn_seq ?_
   obtain ⟨dn, bz, rfl⟩ := Acc.shp (e7 E).1
   obtain ⟨i4, bu⟩ : ∃ n, n = jr.heap.size := ⟨_, rfl⟩
   have db := pV (e7 E).1
   rw [← bu] at db
   replace E := E.r (e := KG) (S := DI i4) db (fun k g => by rw [← bu]; exact g)
   obtain ⟨⟨nl, f3⟩, ak⟩ : ∃ x, p[p.length - 1]? = some x := ⟨_, List.getElem?_eq_getElem (show p.length - 1 < p.length by omega)⟩
   obtain ⟨gc, l4, _, da, ii, i8, ⟨n5, n4, n6, n3, rfl, i3, i7, al⟩⟩ := IsR.at E.1.1 ak
   have i5 : gc < _ := E.1.2 _ ii
   replace E := ((E.c i8 i5).i i3).i i7
   have f1 := Hn ak
   skip
   by_cases f2 : 0 ≤ EU mm f3
   case pos =>
    refine MQ I (fun ⟨_, _, h⟩ => h) E ([0, 1, 2, 3, 4, 5, 6, 7, 8, 9, 10, 11, 12, 13, 14, 15, 16, 17, 18]) I I I I AE ?_
    replace E := E.drew
    refine yG ?_
    refine SW O O O I O (fun w hS => CD PR O O (Cs.sub (Bx.cs (e4 hS)) 4 (DR _ _ _ _ _)) (DA N)) ?_
    refine yG ?_
    refine SW (v := .int .i64 ↑(p.length - 1)) O O O I O (fun w hS => GJ O O O (by rw [JC Z]; omega)) ?_
    refine yG ?_
    refine fE O O O da O (List.getElem?_eq_some_iff.1 ak).1 ?_
    refine yG ?_
    refine SW O O O I O (fun w hS => CD PR O O (Cs.sub ((hS.2.2.1).1) 4 (DR _ _ _ _ _)) (DA al)) ?_
    refine yG ?_
    refine JF (o := ⟨some 68, _, _, _, _, _⟩) O O O O (CH PJ O (xE mm f3 _ N al) O E ?_)
    clear E
    intro lj _ E
    refine ⟨E, ?_⟩
    refine yG ?_
    change Code.wpIn _ _ _ _ _ _ _
    refine wpIn_cond_true O ?_
    refine wpIn_seq ?_
    replace E := Su E
    replace E := Sq E
    refine XZ I (fun ⟨_, _, h⟩ => h) ?_
    have dq := kX E
    refine yG ?_
    replace E := Sn (Sn Sr) E
    refine yG ?_
    refine EF O (CF (v := .slice none 0 0) O I O O O dq AG ?_)
    intro li gw f8
    replace E := (E.onl (dq.noW (CE AG CX)) ⟨BW, BW, CS Z, BW, BW, CS Z, BW, KL Z Z, (by first | assumption | exact GG Z | exact f _ y), PC (fun h => by have := (Acc.lt (e9 E).1 h).1; omega) FW, BW, CS Z, CS Z, CS Z, CS Z, CS Z, CS Z, EA Z, EC (CN Z), JD Z, BW⟩ gw).x (cs := [.slice none 0 0]) f8
    clear dq gw f8
    have dp := kX E
    refine yG ?_
    replace E := Sn (Sn Sr) E
    refine EF O (CF (v := .int .i64 ↑P) O I O O O dp AG ?_)
    intro lh gv f7
    replace E := (E.onl (dp.noW (CE AG CX)) ⟨CS Z, BW, BW, CS Z, BW, BW, CS Z, BW, KL Z Z, (by first | assumption | exact GG Z | exact f _ y), PC (fun h => by have := (Acc.lt (PP E).1 h).1; omega) FW, BW, CS Z, CS Z, CS Z, CS Z, CS Z, EA Z, EC (CN Z), JD Z, BW⟩ gv).x (cs := [.int .i64 ↑P]) f7
    clear dp gv f7
    have bi := kX E
    refine yG ?_
    replace E := Sn (Sn Sr) E
    refine EF O (CF (v := .int .i64 440) O I O O O bi AG ?_)
    intro lg gu f6
    replace E := (E.onl (bi.noW (CE AG CX)) ⟨CS Z, CS Z, BW, BW, CS Z, BW, BW, CS Z, BW, KL Z Z, (by first | assumption | exact GG Z | exact f _ y), PC (fun h => by have := (Acc.lt (RG E).1 h).1; omega) FW, BW, CS Z, CS Z, CS Z, CS Z, EA Z, EC (CN Z), JD Z, BW⟩ gu).x (cs := [.int .i64 440]) f6
    clear bi gu f6
    refine yG ?_
    change Code.wpIn _ _ _ _ _ _ _
    refine wpIn_ret ?_
    show KeepsOthers _ _ ∧ _
    exact ⟨(RG E), rfl, t, ⟨(P, wd), af, a0⟩, (nd, p), rfl, L, Kg R a4 u az (by rw [f1]; exact f2), zE⟩
   refine MQ I (fun ⟨_, _, h⟩ => h) E ([0, 1, 2, 3, 4, 5, 6, 7, 8, 9, 10, 11, 12, 13, 14, 15, 16, 17, 18]) I I I I AE ?_
   replace E := E.drew
   refine yG ?_
   refine SW O O O I O (fun w hS => CD PR O O (Cs.sub (Bx.cs (e4 hS)) 4 (DR _ _ _ _ _)) (DA N)) ?_
   refine yG ?_
   refine SW (v := .int .i64 ↑(p.length - 1)) O O O I O (fun w hS => GJ O O O (by rw [JC Z]; omega)) ?_
   refine yG ?_
   refine fE O O O da O (List.getElem?_eq_some_iff.1 ak).1 ?_
   refine yG ?_
   refine SW O O O I O (fun w hS => CD PR O O (Cs.sub ((hS.2.2.1).1) 4 (DR _ _ _ _ _)) (DA al)) ?_
   refine yG ?_
   refine JF (o := ⟨some 68, _, _, _, _, _⟩) O O O O (CH PJ O (xE mm f3 _ N al) O E ?_)
   clear E
   intro l3 _ E
   refine ⟨E, ?_⟩
   refine yG ?_
   change Code.wpIn _ _ _ _ _ _ _
   refine wpIn_cond_false O ?_
   refine wpIn_skip ?_
   change Code.wpIn _ _ _ _ _ _ _
   refine wpIn_seq ?_
   refine wpIn_seq ?_
   replace E := Su E
   replace E := Sq E
   by_cases c6 : ng = true
   case neg =>
    have f0 : nd = false := by rw [← J Z]; exact DF c6
    subst f0
    refine XZ I (fun ⟨_, _, h⟩ => h) ?_
    refine yG ?_
    change Code.wpIn _ _ _ _ _ _ _
    refine wpIn_cond_false (congrArg Value.bool (DF c6)) ?_
    refine wpIn_skip ?_
    change Code.wpIn _ _ _ _ _ _ _
    skip
    refine XZ I (fun ⟨_, _, h⟩ => h) ?_
    refine yG ?_
    refine EF O (DY (cs := (HY hw ga hy g8 mm)) underlying28 JW (CJ N) AD AD O O ?_)
    intro dl kv bv f4 dj ct
    have bo : ((.slice dn (p).length bz) : Value).ownBlock ≠ some dl := fun h => by have := (Acc.lt (e9 E).1 h).2; omega
    have i0 : q ≤ dl := by rw [bv]; exact CU (PP E)
    replace E := (E.below dj).x ct
    clear bv f4 dj ct
    have a8 := PP E
    have ew := Acc.nw a8.1
    refine yG ?_
    replace E := Sn (Sn Sp) E
    refine EF O (FJ (x := (c, mm)) fF O (l := p) O a8.1 a8.2 E (fun g y h1 h2 => ⟨CS (fun e => bo (e ▸ y)), BW, BW, CS (fun e => a3 (e ▸ y)), BW, BW, CS Z, BW, KL Z Z, (by first | assumption | exact GG Z | exact f _ y), BW, CS Z, CS Z, CS Z, CS Z, CS Z, CS Z, CS Z, EA Z, EC (CN Z), JD Z, BW⟩) O E.1 (⟨_, _, _, _, O, e4 E, e5 E, N⟩) (by have := a1; unfold maxLen; omega) (by have := a1; omega) (CU (PP E)) ?_)
    clear E a8
    intro bj ku E
    have bf := XX E
    refine yG ?_
    replace E := Sn (Sn Sq) E
    refine yG ?_
    refine EF O (CF (v := bj) O I (Acc.one E.1.1) O O bf AG ?_)
    intro kt d7 cp
    replace E := (E.onl (bf.noW (CE ew CX)) ⟨PC (fun h => by have := (Acc.lt E.1.1 h).1; omega) FW, CS Z, BW, BW, CS Z, BW, BW, CS Z, BW, KL Z Z, (by first | assumption | exact GG Z | exact f _ y), BW, CS Z, CS Z, CS Z, CS Z, CS Z, CS Z, EA Z, EC (CN Z), JD Z, BW⟩ d7).x (cs := [bj]) cp
    clear bf d7 cp
    refine yG ?_
    show KeepsOthers _ _ ∧ keepB _ _ _ ∧ _
    exact ⟨RG E, (PP E).1, ng, false, (p ++ [(c, mm)]), bj, by rw [JG, List.map_append, List.map_cons, List.map_nil, QM L, List.length_map, JX, Nat.zero_add]; exact xO R a4 u (.inr (by rw [f1]; exact f2)), fun hh => by simp at hh; omega, (by simp; omega), (by rw [List.length_append]; exact zE)⟩
   have f0 : nd = true := by rw [← J Z]; exact c6
   subst f0
   refine XZ I (fun ⟨_, _, h⟩ => h) ?_
   refine yG ?_
   change Code.wpIn _ _ _ _ _ _ _
   refine wpIn_cond_true (congrArg Value.bool c6) ?_
   refine XZ I (fun ⟨_, _, h⟩ => h) ?_
   refine yG ?_
   refine V O O (CD GI O O (Cs.sub (Bx.cs E.2.2.1) 0 (EK _ _ _ _ _)) O) ?_
   refine yG ?_
   refine EF O (CZ ML O (Aw _ _ _ _ c _ (e3 E) (e4 E) (FitQ.mono c8 AD)) O E ?_)
   clear E
   intro l2 bq bm br bl _ E
   have bh := e4 E
   refine yG ?_
   replace E := Sr E
   refine yG ?_
   refine EF O (LI (cs' := (HY bq bm br bl mm)) GI O O O bh O (by rw [CJ N]; decide) (LM (IsI.one E.2.1) (IsI.one E.1)) O ?_)
   intro l0 d9 cr
   replace E := (E.onl (bh.noW (FR (M := mm) (IsI.now (e4 E)) (IsI.now (e5 E)))) ⟨BW, BW, BW, BW, BW, BW, CS Z, BW, KL Z Z, (by first | assumption | exact GG Z | exact f _ y), PC a3 FW, BW, CS Z, CS Z, CS Z, CS Z, CS Z, CS Z, CS Z, EA Z, EC (CN Z), JD Z, BW⟩ d9).x (cs := (HY bq bm br bl mm)) cr
   clear bh d9 cr
   refine yG ?_
   change Code.wpIn _ _ _ _ _ _ _
   skip
   refine XZ I (fun ⟨_, _, h⟩ => h) ?_
   refine yG ?_
   refine EF O (DY (cs := (HY bq bm br bl mm)) underlying28 JW (CJ N) AD AD O O ?_)
   intro dm kz bw f5 dk cu
   have bp : ((.slice dn (p).length bz) : Value).ownBlock ≠ some dm := fun h => by have := (Acc.lt (RG E).1 h).2; omega
   have i1 : q ≤ dm := by rw [bw]; exact CU (XX E)
   replace E := (E.below dk).x cu
   clear bw f5 dk cu
   have a9 := XX E
   have ex := Acc.nw a9.1
   refine yG ?_
   replace E := Sn (Sn Sq) E
   refine EF O (FJ (x := ((-c), mm)) fF O (l := p) O a9.1 a9.2 E (fun g y h1 h2 => ⟨CS (fun e => bp (e ▸ y)), CS (fun e => a3 (e ▸ y)), BW, BW, BW, BW, BW, BW, CS Z, BW, KL Z Z, (by first | assumption | exact GG Z | exact f _ y), BW, CS Z, CS Z, CS Z, CS Z, CS Z, CS Z, CS Z, EA Z, EC (CN Z), JD Z, BW⟩) O E.1 (⟨_, _, _, _, O, e3 E, E.2.2.1, N⟩) (by have := a1; unfold maxLen; omega) (by have := a1; omega) (CU (XX E)) ?_)
   clear E a9
   intro bk ky E
   have bg := kX E
   refine yG ?_
   replace E := Sn (Sn Sr) E
   refine yG ?_
   refine EF O (CF (v := bk) O I (Acc.one E.1.1) O O bg AG ?_)
   intro kx d8 cq
   replace E := (E.onl (bg.noW (CE ex CX)) ⟨PC (fun h => by have := (Acc.lt E.1.1 h).1; omega) FW, CS Z, CS Z, BW, BW, BW, BW, BW, BW, CS Z, BW, KL Z Z, (by first | assumption | exact GG Z | exact f _ y), BW, CS Z, CS Z, CS Z, CS Z, CS Z, CS Z, EA Z, EC (CN Z), JD Z, BW⟩ d8).x (cs := [bk]) cq
   clear bg d8 cq
   refine yG ?_
   show KeepsOthers _ _ ∧ keepB _ _ _ ∧ _
   exact ⟨VE E, (XX E).1, ng, false, (p ++ [((-c), mm)]), bk, by rw [JG, List.map_append, List.map_cons, List.map_nil, QM L, List.length_map, JX, Nat.zero_add]; exact xO R a4 u (.inr (by rw [f1]; exact f2)), fun hh => by simp at hh; omega, (by simp; omega), (by rw [List.length_append]; exact zE)⟩
  refine XZ I (fun ⟨_, _, h⟩ => h) ?_
  refine yG ?_
  change Code.wpIn _ _ _ _ _ _ _
  refine wpIn_cond_true O ?_
  by_cases c7 : wd.head? = some 45
  case neg =>
   have a4 := cut_2 (nd := nd) az c7
   refine XZ I (fun ⟨_, _, h⟩ => h) ?_
   refine yG ?_
   refine EF O (BZ IZ O (Ed wd _ c7) O E ?_)
   clear E
   intro m6 _ E
   have e2 := RG E
   refine yG ?_
   replace E := Sn (Sn So) E
   refine yG ?_
   refine EF O (CF (v := .bool false) O I O O O e2 AG ?_)
   intro m5 ha fk
   replace E := (E.onl (e2.noW (CE AG CX)) ⟨CS Z, BW, KL Z Z, (by first | assumption | exact GG Z | exact f _ y), PC (fun h => by have := (Acc.lt (e4 E).1 h).1; omega) FW, BW, CS Z, CS Z, CS Z, CS Z, CS Z, CS Z, EA Z, EC (CN Z), JD Z, BW⟩ ha).x (cs := [.bool false]) fk
   clear e2 ha fk
   refine yG ?_
   change Code.wpIn _ _ _ _ _ _ _
   refine wpIn_seq ?_
   have a2 : (wd).length ≤ 4000 := by have := a0; first | exact a0 | (rw [List.length_tail]; omega)
   by_cases u : cG l wd = none
   case pos =>
    refine XZ I (fun ⟨_, _, h⟩ => h) ?_
    refine yG ?_
    refine EF O (SR GD O (by rw [← u]; exact OE wd _ l _ (BV (kX E)) a2 hV (VE E).1) O E ?_)
    clear E
    intro m4 _ E
    refine yG ?_
    refine EF O (CA JW O ?_)
    intro cc m3 ar ji iu e1
    have c3 : (vr : Value).ownBlock ≠ some cc := fun h => by have := (Acc.lt (e5 E).1 h).2; omega
    have k4 : T < cc := by rw [ar]; exact Bx.lt (RG E)
    have j8 : W.heap.size ≤ cc := by rw [ar]; exact CU E.2.2.1
    have j7 : q ≤ cc := by rw [ar]; exact CU (e6 E)
    replace E := E.below iu
    clear ar ji iu
    refine yG ?_
    refine EF O (BX JW O O O e1 (by first | rfl | exact CJ DC) (CJ DC) (FT (M := zeroM) NG NG) ?_)
    intro m2 h9 fj
    replace E := (E.onl (e1.noW (FR (M := zeroM) CW CW)) ⟨CS Z, CS Z, BW, KL Z Z, (by first | assumption | exact GG Z | exact f _ y), PC c3 FW, BW, CS Z, CS Z, CS Z, CS Z, CS Z, CS Z, EA Z, EC (CN Z), JD Z, BW⟩ h9).x (cs := (HY false (.slice none 0 0) false (.slice none 0 0) zeroM)) fj
    clear e1 h9 fj
    refine yG ?_
    change Code.wpIn _ _ _ _ _ _ _
    refine wpIn_seq ?_
    refine wpIn_seq ?_
    refine MQ I (fun ⟨_, _, h⟩ => h) E ([0, 1, 2, 3, 4, 5, 6, 7, 8, 9, 10, 11, 12, 13, 14, 15, 16, 17, 18]) I I I I AE ?_
    replace E := E.drew
    refine yG ?_
    change Code.wpIn _ _ _ _ _ _ _
    refine wpIn_cond_true O ?_
    refine wpIn_seq ?_
    refine XZ I (fun ⟨_, _, h⟩ => h) ?_
    have e0 := RG E
    refine yG ?_
    replace E := Sn (Sn So) E
    refine yG ?_
    refine EF O (CF (v := .slice none 0 0) O I O O O e0 AG ?_)
    intro m1 h8 fi
    replace E := (E.onl (e0.noW (CE AG CX)) ⟨CS Z, CS Z, CS Z, BW, KL Z Z, (by first | assumption | exact GG Z | exact f _ y), PC (fun h => by have := (Acc.lt (e6 E).1 h).1; omega) FW, BW, CS Z, CS Z, CS Z, CS Z, CS Z, EA Z, EC (CN Z), JD Z, BW⟩ h8).x (cs := [.slice none 0 0]) fi
    clear e0 h8 fi
    have dz := RG E
    refine yG ?_
    replace E := Sn (Sn So) E
    refine EF O (CF (v := .int .i64 ↑P) O I O O O dz AG ?_)
    intro m0 h7 fh
    replace E := (E.onl (dz.noW (CE AG CX)) ⟨CS Z, CS Z, CS Z, CS Z, BW, KL Z Z, (by first | assumption | exact GG Z | exact f _ y), PC (fun h => by have := (Acc.lt (e7 E).1 h).1; omega) FW, BW, CS Z, CS Z, CS Z, CS Z, EA Z, EC (CN Z), JD Z, BW⟩ h7).x (cs := [.int .i64 ↑P]) fh
    clear dz h7 fh
    have dy := RG E
    refine yG ?_
    replace E := Sn (Sn So) E
    refine EF O (CF (v := .int .i64 440) O I O O O dy AG ?_)
    intro lz h6 fg
    replace E := (E.onl (dy.noW (CE AG CX)) ⟨CS Z, CS Z, CS Z, CS Z, CS Z, BW, KL Z Z, (by first | assumption | exact GG Z | exact f _ y), PC (fun h => by have := (Acc.lt (e8 E).1 h).1; omega) FW, BW, CS Z, CS Z, CS Z, EA Z, EC (CN Z), JD Z, BW⟩ h6).x (cs := [.int .i64 440]) fg
    clear dy h6 fg
    refine yG ?_
    change Code.wpIn _ _ _ _ _ _ _
    refine wpIn_ret ?_
    show KeepsOthers _ _ ∧ _
    exact ⟨(e8 E), rfl, t, ⟨(P, wd), af, a0⟩, (nd, p), rfl, L, uF R a4 u, zE⟩
   obtain ⟨⟨c, mm⟩, u⟩ := Option.ne_none_iff_exists'.1 u
   have c8 := fZ a2 u
   obtain ⟨N, i2⟩ := iJ u
   refine XZ I (fun ⟨_, _, h⟩ => h) ?_
   refine yG ?_
   refine EF O (SO (c := c) (mm := mm) GD O (by rw [← u]; exact OE wd _ l _ (BV (kX E)) a2 hV (VE E).1) O E ?_)
   clear E
   intro ly hx gb hz g9 _ E
   refine yG ?_
   refine EF O (CA JW O ?_)
   intro cb lx aq jh ir dx
   have aj : (vr : Value).ownBlock ≠ some cb := fun h => by have := (Acc.lt (e7 E).1 h).2; omega
   have k3 : T < cb := by rw [aq]; exact Bx.lt (VE E)
   have j6 : W.heap.size ≤ cb := by rw [aq]; exact CU (e4 E)
   have j5 : q ≤ cb := by rw [aq]; exact CU (e8 E)
   replace E := E.below ir
   clear aq jh ir
   refine yG ?_
   refine EF O (BX JW O O O dx (by first | rfl | exact CJ DC) (CJ N) (FT (M := mm) (IsI.one E.1) (IsI.one E.2.1)) ?_)
   intro lw h5 ff
   replace E := (E.onl (dx.noW (FR (M := zeroM) CW CW)) ⟨BW, BW, CS Z, CS Z, BW, KL Z Z, (by first | assumption | exact GG Z | exact f _ y), PC aj FW, BW, CS Z, CS Z, CS Z, CS Z, CS Z, CS Z, EA Z, EC (CN Z), JD Z, BW⟩ h5).x (cs := (HY hx gb hz g9 mm)) ff
   clear dx h5 ff
   refine yG ?_
   change Code.wpIn _ _ _ _ _ _ _
   refine wpIn_seq ?_
   refine wpIn_seq ?_
   refine MQ I (fun ⟨_, _, h⟩ => h) E ([0, 1, 2, 3, 4, 5, 6, 7, 8, 9, 10, 11, 12, 13, 14, 15, 16, 17, 18]) I I I I AE ?_
   replace E := E.drew
   refine yG ?_
   change Code.wpIn _ _ _ _ _ _ _
   refine wpIn_cond_false O ?_
   refine wpIn_skip ?_
   change Code.wpIn _ _ _ _ _ _ _
   refine wpIn_seq ?_
   refine wpIn_seq ?_
   refine XZ I (fun ⟨_, _, h⟩ => h) ?_
   refine yG ?_
   change Code.wpIn _ _ _ _ _ _ _
   refine wpIn_cond_false O ?_
   refine wpIn_skip ?_
   change Code.wpIn _ _ _ _ _ _ _
   skip
   refine XZ I (fun ⟨_, _, h⟩ => h) ?_
   refine yG ?_
   refine EF O (DY (cs := (HY hx gb hz g9 mm)) underlying28 JW (CJ N) AD AD O O ?_)
   intro iy lv dc jg iq g4
   have c2 : (vr : Value).ownBlock ≠ some iy := fun h => by have := (Acc.lt (e8 E).1 h).2; omega
   have j4 : q ≤ iy := by rw [dc]; exact CU (e9 E)
   replace E := (E.below iq).x g4
   clear dc jg iq g4
   have am := e9 E
   have hu := Acc.nw am.1
   refine yG ?_
   replace E := dl9 E
   refine EF O (FJ (x := (c, mm)) fF O (l := p) O am.1 am.2 E (fun g y h1 h2 => ⟨CS (fun e => c2 (e ▸ y)), CS (fun e => aj (e ▸ y)), BW, BW, CS Z, CS Z, BW, KL Z Z, (by first | assumption | exact GG Z | exact f _ y), BW, CS Z, CS Z, CS Z, CS Z, CS Z, CS Z, EA Z, EC (CN Z), JD Z, BW⟩) O E.1 (⟨_, _, _, _, O, E.2.2.1, e3 E, N⟩) (by have := a1; unfold maxLen; omega) (by have := a1; omega) (CU (e9 E)) ?_)
   clear E am
   intro er lu E
   have dw := RG E
   refine yG ?_
   replace E := Sn (Sn So) E
   refine yG ?_
   refine EF O (CF (v := er) O I (Acc.one E.1.1) O O dw AG ?_)
   intro ls h4 fe
   replace E := (E.onl (dw.noW (CE hu CX)) ⟨PC (fun h => by have := (Acc.lt E.1.1 h).1; omega) FW, CS Z, CS Z, BW, BW, CS Z, CS Z, BW, KL Z Z, (by first | assumption | exact GG Z | exact f _ y), BW, CS Z, CS Z, CS Z, CS Z, CS Z, EA Z, EC (CN Z), JD Z, BW⟩ h4).x (cs := [er]) fe
   clear dw h4 fe
   refine yG ?_
   show KeepsOthers _ _ ∧ keepB _ _ _ ∧ _
   exact ⟨PP E, (e9 E).1, false, false, (p ++ [(c, mm)]), er, by rw [JG, List.map_append, List.map_cons, List.map_nil, QM L, List.length_map, JX, Nat.zero_add]; exact xO R a4 u (.inl az), fun hh => by simp at hh; omega, (by simp; omega), (by rw [List.length_append]; exact zE)⟩
  have a4 := cut_1 (nd := nd) az c7
  refine XZ I (fun ⟨_, _, h⟩ => h) ?_
  refine yG ?_
  refine EF O (BZ IZ O (xF wd _ c7) O E ?_)
  clear E
  intro mo _ E
  have eh := RG E
  refine yG ?_
  replace E := Sn (Sn So) E
  refine yG ?_
  refine EF O (CF (v := .bool true) O I O O O eh AG ?_)
  intro mn hk fs
  replace E := (E.onl (eh.noW (CE AG CX)) ⟨CS Z, BW, KL Z Z, (by first | assumption | exact GG Z | exact f _ y), PC (fun h => by have := (Acc.lt (e4 E).1 h).1; omega) FW, BW, CS Z, CS Z, CS Z, CS Z, CS Z, CS Z, EA Z, EC (CN Z), JD Z, BW⟩ hk).x (cs := [.bool true]) fs
  clear eh hk fs
  refine yG ?_
  change Code.wpIn _ _ _ _ _ _ _
  refine wpIn_seq ?_
  have a2 : (wd.tail).length ≤ 4000 := by have := a0; first | exact a0 | (rw [List.length_tail]; omega)
  by_cases u : cG l wd.tail = none
  case pos =>
   refine XZ I (fun ⟨_, _, h⟩ => h) ?_
   refine yG ?_
   refine EF O (SR GD O (by rw [← u]; exact OE wd.tail _ l _ (BV (kX E)) a2 hV (VE E).1) O E ?_)
   clear E
   intro ml _ E
   refine yG ?_
   refine EF O (CA JW O ?_)
   intro ce mk av jl ix eg
   have c5 : (vr : Value).ownBlock ≠ some ce := fun h => by have := (Acc.lt (e5 E).1 h).2; omega
   have k6 : T < ce := by rw [av]; exact Bx.lt (RG E)
   have jd : W.heap.size ≤ ce := by rw [av]; exact CU E.2.2.1
   have jc : q ≤ ce := by rw [av]; exact CU (e6 E)
   replace E := E.below ix
   clear av jl ix
   refine yG ?_
   refine EF O (BX JW O O O eg (by first | rfl | exact CJ DC) (CJ DC) (FT (M := zeroM) NG NG) ?_)
   intro mj hj fr
   replace E := (E.onl (eg.noW (FR (M := zeroM) CW CW)) ⟨CS Z, CS Z, BW, KL Z Z, (by first | assumption | exact GG Z | exact f _ y), PC c5 FW, BW, CS Z, CS Z, CS Z, CS Z, CS Z, CS Z, EA Z, EC (CN Z), JD Z, BW⟩ hj).x (cs := (HY false (.slice none 0 0) false (.slice none 0 0) zeroM)) fr
   clear eg hj fr
   refine yG ?_
   change Code.wpIn _ _ _ _ _ _ _
   refine wpIn_seq ?_
   refine wpIn_seq ?_
   refine MQ I (fun ⟨_, _, h⟩ => h) E ([0, 1, 2, 3, 4, 5, 6, 7, 8, 9, 10, 11, 12, 13, 14, 15, 16, 17, 18]) I I I I AE ?_
   replace E := E.drew
   refine yG ?_
   change Code.wpIn _ _ _ _ _ _ _
   refine wpIn_cond_true O ?_
   refine wpIn_seq ?_
   refine XZ I (fun ⟨_, _, h⟩ => h) ?_
   have ef := RG E
   refine yG ?_
   replace E := Sn (Sn So) E
   refine yG ?_
   refine EF O (CF (v := .slice none 0 0) O I O O O ef AG ?_)
   intro mi hi fq
   replace E := (E.onl (ef.noW (CE AG CX)) ⟨CS Z, CS Z, CS Z, BW, KL Z Z, (by first | assumption | exact GG Z | exact f _ y), PC (fun h => by have := (Acc.lt (e6 E).1 h).1; omega) FW, BW, CS Z, CS Z, CS Z, CS Z, CS Z, EA Z, EC (CN Z), JD Z, BW⟩ hi).x (cs := [.slice none 0 0]) fq
   clear ef hi fq
   have ee := RG E
   refine yG ?_
   replace E := Sn (Sn So) E
   refine EF O (CF (v := .int .i64 ↑P) O I O O O ee AG ?_)
   intro mh hf fp
   replace E := (E.onl (ee.noW (CE AG CX)) ⟨CS Z, CS Z, CS Z, CS Z, BW, KL Z Z, (by first | assumption | exact GG Z | exact f _ y), PC (fun h => by have := (Acc.lt (e7 E).1 h).1; omega) FW, BW, CS Z, CS Z, CS Z, CS Z, EA Z, EC (CN Z), JD Z, BW⟩ hf).x (cs := [.int .i64 ↑P]) fp
   clear ee hf fp
   have ed := RG E
   refine yG ?_
   replace E := Sn (Sn So) E
   refine EF O (CF (v := .int .i64 440) O I O O O ed AG ?_)
   intro mg he fo
   replace E := (E.onl (ed.noW (CE AG CX)) ⟨CS Z, CS Z, CS Z, CS Z, CS Z, BW, KL Z Z, (by first | assumption | exact GG Z | exact f _ y), PC (fun h => by have := (Acc.lt (e8 E).1 h).1; omega) FW, BW, CS Z, CS Z, CS Z, EA Z, EC (CN Z), JD Z, BW⟩ he).x (cs := [.int .i64 440]) fo
   clear ed he fo
   refine yG ?_
   change Code.wpIn _ _ _ _ _ _ _
   refine wpIn_ret ?_
   show KeepsOthers _ _ ∧ _
   exact ⟨(e8 E), rfl, t, ⟨(P, wd), af, a0⟩, (nd, p), rfl, L, uF R a4 u, zE⟩
  obtain ⟨⟨c, mm⟩, u⟩ := Option.ne_none_iff_exists'.1 u
  have c8 := fZ a2 u
  obtain ⟨N, i2⟩ := iJ u
  refine XZ I (fun ⟨_, _, h⟩ => h) ?_
  refine yG ?_
  refine EF O (SO (c := c) (mm := mm) GD O (by rw [← u]; exact OE wd.tail _ l _ (BV (kX E)) a2 hV (VE E).1) O E ?_)
  clear E
  intro mf jz jt k0 js _ E
  refine yG ?_
  refine EF O (CA JW O ?_)
  intro cd md au jk iw ec
  have a7 : (vr : Value).ownBlock ≠ some cd := fun h => by have := (Acc.lt (e7 E).1 h).2; omega
  have k5 : T < cd := by rw [au]; exact Bx.lt (VE E)
  have jb : W.heap.size ≤ cd := by rw [au]; exact CU (e4 E)
  have ja : q ≤ cd := by rw [au]; exact CU (e8 E)
  replace E := E.below iw
  clear au jk iw
  refine yG ?_
  refine EF O (BX JW O O O ec (by first | rfl | exact CJ DC) (CJ N) (FT (M := mm) (IsI.one E.1) (IsI.one E.2.1)) ?_)
  intro mc hd fn
  replace E := (E.onl (ec.noW (FR (M := zeroM) CW CW)) ⟨BW, BW, CS Z, CS Z, BW, KL Z Z, (by first | assumption | exact GG Z | exact f _ y), PC a7 FW, BW, CS Z, CS Z, CS Z, CS Z, CS Z, CS Z, EA Z, EC (CN Z), JD Z, BW⟩ hd).x (cs := (HY jz jt k0 js mm)) fn
  clear ec hd fn
  refine yG ?_
  change Code.wpIn _ _ _ _ _ _ _
  refine wpIn_seq ?_
  refine wpIn_seq ?_
  refine MQ I (fun ⟨_, _, h⟩ => h) E ([0, 1, 2, 3, 4, 5, 6, 7, 8, 9, 10, 11, 12, 13, 14, 15, 16, 17, 18]) I I I I AE ?_
  replace E := E.drew
  refine yG ?_
  change Code.wpIn _ _ _ _ _ _ _
  refine wpIn_cond_false O ?_
  refine wpIn_skip ?_
  change Code.wpIn _ _ _ _ _ _ _
  refine wpIn_seq ?_
  refine wpIn_seq ?_
  refine XZ I (fun ⟨_, _, h⟩ => h) ?_
  refine yG ?_
  change Code.wpIn _ _ _ _ _ _ _
  refine wpIn_cond_true O ?_
  refine XZ I (fun ⟨_, _, h⟩ => h) ?_
  refine yG ?_
  refine V O O (CD GI O O (Cs.sub (Bx.cs E.1) 0 (EK _ _ _ _ _)) O) ?_
  refine yG ?_
  refine EF O (CZ ML O (Aw _ _ _ _ c _ E.2.1 E.2.2.1 (FitQ.mono c8 AD)) O E ?_)
  clear E
  intro mb ey eu ez et _ E
  have eb := E.2.2.1
  refine yG ?_
  replace E := Sq E
  refine yG ?_
  refine EF O (LI (cs' := (HY ey eu ez et mm)) GI O O O eb O (by rw [CJ N]; decide) (LM (IsI.one E.2.1) (IsI.one E.1)) O ?_)
  intro ma hc fm
  replace E := (E.onl (eb.noW (FR (M := mm) (IsI.now E.2.2.1) (IsI.now (e3 E)))) ⟨BW, BW, BW, BW, CS Z, CS Z, BW, KL Z Z, (by first | assumption | exact GG Z | exact f _ y), PC a7 FW, BW, CS Z, CS Z, CS Z, CS Z, CS Z, CS Z, EA Z, EC (CN Z), JD Z, BW⟩ hc).x (cs := (HY ey eu ez et mm)) fm
  clear eb hc fm
  refine yG ?_
  change Code.wpIn _ _ _ _ _ _ _
  skip
  refine XZ I (fun ⟨_, _, h⟩ => h) ?_
  refine yG ?_
  refine EF O (DY (cs := (HY ey eu ez et mm)) underlying28 JW (CJ N) AD AD O O ?_)
  intro iz m9 dd jj iv g5
  have c4 : (vr : Value).ownBlock ≠ some iz := fun h => by have := (Acc.lt (PP E).1 h).2; omega
  have j9 : q ≤ iz := by rw [dd]; exact CU (RG E)
  replace E := (E.below iv).x g5
  clear dd jj iv g5
  have an := RG E
  have hv := Acc.nw an.1
  refine yG ?_
  replace E := Sn (Sn So) E
  refine EF O (FJ (x := ((-c), mm)) fF O (l := p) O an.1 an.2 E (fun g y h1 h2 => ⟨CS (fun e => c4 (e ▸ y)), CS (fun e => a7 (e ▸ y)), BW, BW, BW, BW, CS Z, CS Z, BW, KL Z Z, (by first | assumption | exact GG Z | exact f _ y), BW, CS Z, CS Z, CS Z, CS Z, CS Z, CS Z, EA Z, EC (CN Z), JD Z, BW⟩) O E.1 (⟨_, _, _, _, O, e3 E, E.2.2.1, N⟩) (by have := a1; unfold maxLen; omega) (by have := a1; omega) (CU (RG E)) ?_)
  clear E an
  intro es m8 E
  have ea := VE E
  refine yG ?_
  replace E := Sn (Sn Su) E
  refine yG ?_
  refine EF O (CF (v := es) O I (Acc.one E.1.1) O O ea AG ?_)
  intro m7 hb fl
  replace E := (E.onl (ea.noW (CE hv CX)) ⟨PC (fun h => by have := (Acc.lt E.1.1 h).1; omega) FW, CS Z, CS Z, BW, BW, BW, BW, CS Z, CS Z, BW, KL Z Z, (by first | assumption | exact GG Z | exact f _ y), BW, CS Z, CS Z, CS Z, CS Z, CS Z, EA Z, EC (CN Z), JD Z, BW⟩ hb).x (cs := [es]) fl
  clear ea hb fl
  refine yG ?_
  show KeepsOthers _ _ ∧ keepB _ _ _ ∧ _
  exact ⟨XX E, (RG E).1, true, false, (p ++ [((-c), mm)]), es, by rw [JG, List.map_append, List.map_cons, List.map_nil, QM L, List.length_map, JX, Nat.zero_add]; exact xO R a4 u (.inl az), fun hh => by simp at hh; omega, (by simp; omega), (by rw [List.length_append]; exact zE)⟩
 case done =>
  rintro D xs W hD hS ⟨ng, nd, p, vr, L, J, kc, E⟩ hK
  change Code.wp _ _ _ ⟨#[.string (bs s), .slice aa l.length X, undef, .pointer (some ⟨b1, 0, none⟩), .pointer (some ⟨b2, 0, none⟩), .pointer (some ⟨b3, 0, none⟩), .pointer (some ⟨b4, 0, none⟩), .pointer (some ⟨ae, 0, none⟩), .pointer (some ⟨ad, 0, none⟩), .pointer (some ⟨ac, 0, none⟩), undef, undef, undef, undef, .slice aa l.length X, .bool true, .bool false, .string (bs s), .int .i64 ↑s.length, .bool false, .string (bs s), .bool false, .string (bs s), .func (.func 85) #[] #[.pointer (some ⟨T, 0, none⟩)], undef, undef, undef, undef, undef, undef, undef, undef, undef, undef, undef, undef, undef, undef, undef, undef, undef, undef, undef, undef, undef, undef, undef, undef, undef, undef, undef, undef, undef, undef, undef, undef, undef, undef, undef, undef, undef, undef, undef, undef, undef, undef, undef, undef, undef, undef, undef, undef, undef, undef, undef, undef, undef, undef, undef, undef, undef, undef, undef, undef, undef, undef, undef, undef, undef], [{ target := .collected D, args := #[] }]⟩ _
  replace E := E.df hK
  rw [← ah] at hD
  obtain ⟨t, rfl⟩ : ∃ t, t = xs := ⟨_, rfl⟩
  by_cases i6 : t.length % 2 = 0
  case neg =>
   refine yG ?_
   refine RLd ?_
   refine yG ?_
   refine V (v := .int .i64 ↑(t.length % 2)) O O (FB O O O AD (xN _)) ?_
   refine yG ?_
   refine RLd ?_
   have ba := e6 E
   refine yG ?_
   replace E := Ss E
   refine yG ?_
   refine EF O (CF (v := vr) O I (Acc.one E.2.1.1) O O ba AG ?_)
   intro kp cy ck
   replace E := (E.onl (ba.noW (CE AG CX)) zK cy).x (cs := [vr]) ck
   clear ba cy ck
   have b9 := e6 E
   refine yG ?_
   replace E := Ss E
   refine EF O (CF (v := .int .i64 0) O I O O O b9 AG ?_)
   intro km cx cj
   replace E := (E.onl (b9.noW (CE AG CX)) zK cx).x (cs := [.int .i64 0]) cj
   clear b9 cx cj
   have b8 := e6 E
   refine yG ?_
   replace E := Ss E
   refine EF O (CF (v := .int .i64 0) O I O O O b8 AG ?_)
   intro kl cw ci
   replace E := (E.onl (b8.noW (CE AG CX)) zK cw).x (cs := [.int .i64 0]) ci
   clear b8 cw ci
   have C := (e3 E).1
   refine yG ?_
   replace E := Su E
   replace E := E.put C ⟨IL E.1 (EW C), IL E.2.1 (EW C), IL E.2.2.1 (EW C), Hc (e3 E).1 (EW C), BW, IL (e5 E) (EW C), IL (e6 E) (EW C), IL (e7 E) (EW C), IL (e8 E) (EW C), IL (e9 E) (EW C), EA Z, EC (CN Z), JD Z, BW⟩
   have gp := IK LB E.2.2.1
   have gn := IK DD E.2.1
   have gm := IK JQ E.1
   exact ZK (v := .tuple #[vr, .int .i64 0, .int .i64 0]) C rfl (by simp [results, results13, asAddr, gp, gn, gm]) (by rw [show EV l s = (p, 0, 0) from by rw [rD hV ag b0 hS L, if_neg (by rw [JX]; exact i6)]]; exact ⟨_, rfl, ⟨_, rfl, kK (e3 E).1 Z⟩, XX E⟩)
  refine yG ?_
  refine RLd ?_
  refine yG ?_
  refine V (v := .int .i64 ↑(t.length % 2)) O O (FB O O O AD (xN _)) ?_
  refine yG ?_
  refine RLd ?_
  have bd := e6 E
  refine yG ?_
  replace E := Ss E
  refine yG ?_
  refine EF O (CF (v := .slice none 0 0) O I O O O bd AG ?_)
  intro ks d6 co
  replace E := (E.onl (bd.noW (CE AG CX)) zK d6).x (cs := [.slice none 0 0]) co
  clear bd d6 co
  have bc := e6 E
  refine yG ?_
  replace E := Ss E
  refine EF O (CF (v := .int .i64 ↑(s.length + 1)) O I O O O bc AG ?_)
  intro kr d0 cn
  replace E := (E.onl (bc.noW (CE AG CX)) zK d0).x (cs := [.int .i64 ↑(s.length + 1)]) cn
  clear bc d0 cn
  have bb := e6 E
  refine yG ?_
  replace E := Ss E
  refine EF O (CF (v := .int .i64 440) O I O O O bb AG ?_)
  intro kq cz cm
  replace E := (E.onl (bb.noW (CE AG CX)) zK cz).x (cs := [.int .i64 440]) cm
  clear bb cz cm
  have F := (e3 E).1
  refine yG ?_
  replace E := Su E
  replace E := E.put F ⟨IL E.1 (EW F), IL E.2.1 (EW F), IL E.2.2.1 (EW F), Hc (e3 E).1 (EW F), BW, IL (e5 E) (EW F), IL (e6 E) (EW F), IL (e7 E) (EW F), IL (e8 E) (EW F), IL (e9 E) (EW F), EA Z, EC (CN Z), JD Z, BW⟩
  have gs := IK LB E.2.2.1
  have gr := IK DD E.2.1
  have gq := IK JQ E.1
  exact ZK (v := .tuple #[.slice none 0 0, .int .i64 ↑(s.length + 1), .int .i64 440]) F rfl (by simp [results, results13, asAddr, gs, gr, gq]) (by rw [show EV l s = ([], s.length + 1, 440) from by rw [rD hV ag b0 hS L, if_pos (by rw [JX]; exact i6)]]; exact ⟨_, rfl, ⟨_, rfl, IsR.nil _ _ _⟩, XX E⟩)
 case stop =>
  rintro D c t W hD kg ⟨rfl, a5, x, st, rfl, L, J, E⟩ hK
  rw [← ah] at hD
  refine wpIn_ret ?_
  obtain ⟨l5, bt⟩ := kg
  rw [JG, List.append_assoc] at bt
  replace E := E.put hK ⟨IL E.1 (EW hK), IL E.2.1 (EW hK), IL E.2.2.1 (EW hK), JD Z, BW⟩
  have gk := IK LB E.1
  have gj := IK DD E.2.1
  have gi := IK JQ E.2.2.1
  exact ZK (v := .tuple #[.slice none 0 0, .int .i64 ↑x.1.1, .int .i64 440]) hK rfl (by simp [results, results13, asAddr, gk, gj, gi]) (by rw [show EV l s = ([], x.1.1, 440) from Gf hV ag b0 bt L (by rw [JX]; exact J)]; exact ⟨_, rfl, ⟨_, rfl, IsR.nil _ _ _⟩, e3 E⟩)
end Go.Proofs.YtmppigbbkjepiaaGreatDoor
