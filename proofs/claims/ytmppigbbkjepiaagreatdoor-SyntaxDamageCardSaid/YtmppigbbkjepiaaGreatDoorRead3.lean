/- Helping facts of Read3; no other conditions. -/
import Derived.Test.YtmppigbbkjepiaaGreatDoorRdL
namespace Go.Proofs.YtmppigbbkjepiaaGreatDoor
open Go.Proofs.Tryz
open Go.RowKit W
attribute [local go_sem] Oper.semAt_some
theorem IR {T b : Nat} {v : Value} {w : World} (hT : ∀ w, (isAgg T).run prog w = .ok false w) (hb : Bx w b T [v]) : (loadVar T ⟨b, 0, none⟩).run prog w = .ok v w := by
  have e : w.cell? ⟨b, 0, none⟩ = some v := by rw [hb.cell]; rfl
  simp [loadVar, hT, e]
theorem IT {A : World} {r b T : Nat} {cs : List Value} (h : Bx A b T cs) (hr : ∃ o : Obj, A.heap[r]? = some o ∧ o.isCells = false) : (fX b T cs).ok r := by
  obtain ⟨o, f, k⟩ := hr
  refine CQ fun e => ?_
  subst e
  unfold Bx at h
  rw [h] at f; cases f; cases k
theorem Lp {α : Type} {e : El α} {A : World} {r t base : Nat} {v : Value} {l : List α} (h : Acc e t base WI A v l) (hr : ∃ o : Obj, A.heap[r]? = some o ∧ o.isCells = false) : (fA e t base WI v l).ok r := by
  obtain ⟨o, k, f⟩ := hr
  refine MT (fun e => ?_) GH
  have := Uc h e o k
  rw [this] at f; cases f
def kbS (sb : Nat) : Nat → Prop := fun k => k < 2 ∨ k = sb
def fKB (W : World) (sb : Nat) : SF := fD (kbS sb) (keepB sb W) (fun _ _ h hk => fun k hs => (hk.block k hs).trans (h k hs))
theorem LC {W : World} {sb c : Nat} (h : 2 ≤ c) (h2 : c ≠ sb) : (fKB W sb).ok c := by rintro (g | g); omega; exact h2 g
theorem Env.kb {W : World} {sb : Nat} {L : List SF} (E : Env W L) (h : sb < W.heap.size) (h2 : 2 ≤ W.heap.size) : Env W (fKB W sb :: L) := ⟨⟨fun _ _ => rfl, fun k hk => by rcases hk with g | g <;> omega⟩, E⟩
def fDf (D : Nat) : SF := fD (fun k => k = D) (fun w => w.heap[D]? = some (.deferred (some []))) (fun _ _ h hk => (hk.block D rfl).trans h)
theorem okDf {D c : Nat} (h : c ≠ D) : (fDf D).ok c := h
theorem Env.df {W : World} {D : Nat} {L : List SF} (E : Env W L) (h : W.heap[D]? = some (.deferred (some []))) : Env W (fDf D :: L) := ⟨⟨h, fun k hk => by subst hk; exact (Array.getElem?_eq_some_iff.1 h).1⟩, E⟩
theorem FK {W : World} {D : Nat} (h : W.heap[D]? = some (.deferred (some []))) : ∃ o : Obj, W.heap[D]? = some o ∧ o.isCells = false := ⟨_, h, rfl⟩
theorem Env.put {W : World} {D : Nat} {L : List SF} (E : Env W L) (h : W.heap[D]? = some (.deferred (some []))) (hok : Ok D L) : Env (W.putObj D (.deferred none)) L := E.turn (grownBy_putObj' W D _) (fun r e => by cases e; exact FK h) (fun r e => by cases e; exact hok)
theorem Av (a : Nat) : ((a : Nat) : Int).tmod 2 = ((a % 2 : Nat) : Int) := (Int.ofNat_tmod a 2).symm
theorem Vf {l : List Bs} {s : Bs} (h : DF 8 l = false) : FC l s = ([], 0, 1) := by unfold FC; rw [if_pos h]
theorem Ve {l : List Bs} {s : Bs} (h : DF 8 l = true) (h2 : 4000 < s.length) : FC l s = ([], 0, 2) := by unfold FC; rw [if_neg (by rw [h]; decide), if_pos h2]
theorem Vd {l : List Bs} {s : Bs} (h : DF 8 l = true) (h2 : s = [48]) : FC l s = ([], 0, 0) := by unfold FC; subst h2; rw [if_neg (by rw [h]; decide), if_neg AE, if_pos rfl]
theorem Jr {l : List Bs} {i : Nat} {st st' : fE} {w : Bs} (h : GS l i st w = some st') : st'.2.length = st.2.length + (if i % 2 = 1 then 0 else 1) := by
  unfold GS at h
  split at h
  · rename_i hi
    rw [if_pos hi]
    split at h
    · simp only [Option.some.injEq] at h; subst h; rfl
    · cases h
  · rename_i hi
    rw [if_neg hi]
    cases e : ZZ l (OA i st.1 w).1 with
    | none => simp [e] at h
    | some t =>
      obtain ⟨c, m⟩ := t
      simp only [e] at h
      split at h
      · cases h
      · simp only [Option.some.injEq] at h; subst h; simp
theorem Kg {l : List Bs} : ∀ {ws : List Bs} {i : Nat} {st st' : fE}, sF l i st ws = some st' → i % 2 = 0 → st.2.length = i / 2 → st'.2.length = (i + ws.length + 1) / 2
  | ws, i, st, st', h, hi, hl => by
    have key : ∀ (ws : List Bs) (i : Nat) (st : fE), sF l i st ws = some st' → st.2.length = (i + 1) / 2 → st'.2.length = (i + ws.length + 1) / 2 := by
      intro ws
      induction ws with
      | nil => intro i st h hl; simp only [sF, Option.some.injEq] at h; subst h; simpa using hl
      | cons w ws ih =>
        intro i st h hl
        simp only [sF] at h
        cases e : GS l i st w with
        | none => rw [e] at h; cases h
        | some st2 =>
          rw [e] at h
          have := ih (i + 1) st2 h (by have := Jr e; split at this <;> omega)
          simp only [List.length_cons]; omega
    exact key ws i st h AA
theorem An : ∀ (k : Nat) (ws : List Bs), (dX k ws).length = ws.length
  | _, [] => rfl
  | k, w :: ws => by simp only [dX, List.length_cons]; rw [An]
section
variable {l : List Bs} {i : Nat} {nd : Bool} {p : List Tm} {wd : Bs}
theorem Pr (h : i % 2 = 1) (hw : wd = [43]) : GS l i (nd, p) wd = some (false, p) := by unfold GS; rw [if_pos h, if_pos (.inl hw)]; subst hw; rfl
theorem Jz (h : i % 2 = 1) (hw : wd = [45]) : GS l i (nd, p) wd = some (true, p) := by unfold GS; rw [if_pos h, if_pos (.inr hw)]; subst hw; rfl
theorem Vc (h : i % 2 = 1) (h1 : ¬ wd = [43]) (h2 : ¬ wd = [45]) : GS l i (nd, p) wd = none := by unfold GS; rw [if_pos h, if_neg (by rintro (g | g); exact h1 g; exact h2 g)]
theorem wQ {cw : Bs} {sg : Bool} (h : ¬ i % 2 = 1) (hcs : OA i nd wd = (cw, sg)) (hr : ZZ l cw = none) : GS l i (nd, p) wd = none := by unfold GS; rw [if_neg h]; simp only [hcs, hr]
theorem Pk {cw : Bs} {sg : Bool} {c : Rat} {m : List Nat} (h : ¬ i % 2 = 1) (hcs : OA i nd wd = (cw, sg)) (hr : ZZ l cw = some (c, m)) (h0 : ¬ i = 0) (hc : 0 ≤ EI m (cJ p)) : GS l i (nd, p) wd = none := by unfold GS; rw [if_neg h]; simp only [hcs, hr]; rw [if_pos ⟨h0, hc⟩]
theorem Aw {cw : Bs} {sg : Bool} {c : Rat} {m : List Nat} (h : ¬ i % 2 = 1) (hcs : OA i nd wd = (cw, sg)) (hr : ZZ l cw = some (c, m)) (h0 : i = 0 ∨ ¬ 0 ≤ EI m (cJ p)) : GS l i (nd, p) wd = some (false, p ++ [(xF sg c, m)]) := by unfold GS; rw [if_neg h]; simp only [hcs, hr]; rw [if_neg (by rintro ⟨g1, g2⟩; rcases h0 with g | g; exact g1 g; exact g g2)]
theorem cut_1 (h : i = 0) (hh : wd.head? = some 45) : OA i nd wd = (wd.tail, true) := by unfold OA; rw [if_pos h, if_pos hh]
theorem cut_2 (h : i = 0) (hh : ¬ wd.head? = some 45) : OA i nd wd = (wd, false) := by unfold OA; rw [if_pos h, if_neg hh]
theorem cut_3 (h : ¬ i = 0) : OA i nd wd = (wd, nd) := by unfold OA; rw [if_neg h]
theorem Mg {c : Rat} {m : List Nat} (h : p[p.length - 1]? = some (c, m)) : cJ p = m := by unfold cJ; rw [List.getLast?_eq_getElem?, h]; rfl
end
theorem Al (wd : Bs) (w : World) (h : wd.head? = some 45) : Calls prog 41 #[.string (bs wd), .string (bs [45])] w (GJ w (.tuple #[.string (bs wd.tail), .bool true])) := by
  have := TN wd [45] w
  cases wd with
  | nil => cases h
  | cons a r =>
    simp at h; subst h
    have e1 : Lib.trimPrefix (45 :: r) [45] = r := by simp [Lib.trimPrefix, Lib.hasPrefix]
    have e2 : Lib.hasPrefix (45 :: r) [45] = true := by simp [Lib.hasPrefix]
    rwa [e1, e2] at this
theorem Iu (wd : Bs) (w : World) (h : ¬ wd.head? = some 45) : Calls prog 41 #[.string (bs wd), .string (bs [45])] w (GJ w (.tuple #[.string (bs wd), .bool false])) := by
  have := TN wd [45] w
  have e2 : Lib.hasPrefix wd [45] = false := by
    cases wd with
    | nil => rfl
    | cons a r => simp at h; simp [Lib.hasPrefix, List.isPrefixOf]; exact fun g => h g.symm
  have e1 : Lib.trimPrefix wd [45] = wd := by simp [Lib.trimPrefix, e2]
  rwa [e1, e2] at this
theorem mW {o : Oper} {a : Act} {w : World} {K : Act → World → Prop} {Q : Exit → Act → World → Prop} {y : Operand} {tys : Array TypeId} {s : Bs}
    (ho : o.op = .call { callee := .value (.func 40), args := [y].toArray, argTypes := tys }) (hy : a.eval y = .string (bs s))
    (h : ∀ b w', b = w.heap.size → w'.heap.size = w.heap.size + 1 → Below w.heap.size w w' → Bx w' b 9 [.string (bs s)] → K (a.put o.dst (.func (.func 85) #[] #[.pointer (some ⟨b, 0, none⟩)])) w') : o.wp prog a w K Q := by
  refine DB ⟨_, func40, by kernel_rfl, O⟩ ho (Pg s w) (by simp [hy]) ?_
  rintro e w' ⟨rfl, rfl⟩
  exact ⟨_, rfl, h _ _ rfl AH ((Below.refl _ _).alloc (Nat.le_refl _) _) (HO w 9 [.string (bs s)])⟩
theorem TT {P : Program} {f : Nat} {o : Oper} {a : Act} {w : World} {K : Act → World → Prop} {Q : Exit → Act → World → Prop} {args : List Operand} {tys : Array TypeId} {vs : List Value} {L : List SF} {c : Rat} {mm : List Nat} (hf : Fn P f)
    (ho : o.op = .call { callee := .value (.func f), args := args.toArray, argTypes := tys }) (hc : Calls P f vs.toArray w (Ot w (some (c, mm)))) (hv : args.map a.eval = vs) (E : Env w L)
    (h : ∀ w' n s m u, Below w.heap.size w w' → Env w' (fI (.agg #[.bool n, s]) c.num :: fI (.agg #[.bool m, u]) ((c.den : Nat) : Int) :: L) → K (a.put o.dst (.tuple #[.agg (HY n s m u mm).toArray, .bool true])) w') : o.wp P a w K Q := by
  refine DB hf ho hc hv ?_
  rintro e w' ⟨n, s, m, u, rfl, p, l, k⟩
  exact ⟨_, rfl, h w' n s m u k (((E.below k).i l).i p)⟩
theorem TU {P : Program} {f : Nat} {o : Oper} {a : Act} {w : World} {K : Act → World → Prop} {Q : Exit → Act → World → Prop} {args : List Operand} {tys : Array TypeId} {vs : List Value} {L : List SF} (hf : Fn P f)
    (ho : o.op = .call { callee := .value (.func f), args := args.toArray, argTypes := tys }) (hc : Calls P f vs.toArray w (Ot w none)) (hv : args.map a.eval = vs) (E : Env w L)
    (h : ∀ w', Below w.heap.size w w' → Env w' L → K (a.put o.dst (.tuple #[.agg (HY false (.slice none 0 0) false (.slice none 0 0) zeroM).toArray, .bool false])) w') : o.wp P a w K Q := by
  refine DB hf ho hc hv ?_
  rintro e w' ⟨rfl, k⟩
  exact ⟨_, rfl, h w' k (E.below k)⟩
set_option maxRecDepth 100000 in
set_option maxHeartbeats 8000000 in
theorem aT (s : Bs) (vl : Value) (l : List Bs) (w : World) (hRl : IsR elS (DD w.heap.size) w vl l) (hLl : l.length ≤ 1000000) (hs : s.length ≤ 1000000) (hG : Glob w) :
    Calls prog 13 #[.string (bs s), vl] w (Ul w (FC l s)) := by
 have E := Env.start w
 obtain ⟨aa, U, rfl, a1, nh⟩ := hRl.shp
 replace E := E.r hRl (DK _)
 clear hRl
 have nq := hG.two
 replace E := E.gl hG
 refine callsIn_wide.1 (callsIn_of_wp_marks (n := 5) func13 O trivial (wpIn_wide.2 ?_) O)
 simp only [ntmps13, List.size_toArray, List.length_cons, List.length_nil, Nat.reduceAdd, Nat.reduceSub, Array.replicate_succ, Array.replicate_zero, List.push_toArray, List.append_toArray, List.nil_append, List.cons_append]
 refine yG ?_
 refine EF O (sA (v := .slice aa l.length U) O O O ?_)
 intro b1 w1 iv z1 d1 x1
 have l1 : w.heap.size ≤ b1 := by rw [iv]; exact E.2.2.1.size
 replace E := (E.below d1).x x1
 clear iv z1 d1 x1
 refine yG ?_
 refine EF O (JY (z := .slice none 0 0) Z O O ?_)
 intro b2 w2 iu z2 d2 T
 have lg : b1 < b2 := by rw [iu]; exact Bx.lt E.1
 replace E := E.below d2
 clear iu z2 d2
 refine yG ?_
 refine EF O (JY (z := .int .i64 0) Z O O ?_)
 intro b3 w3 ir z3 d3 P
 have lf : b2 < b3 := by rw [ir]; exact Bx.lt (T)
 replace E := E.below d3
 replace T := Bx.below T d3
 clear ir z3 d3
 refine yG ?_
 refine EF O (JY (z := .int .i64 0) Z O O ?_)
 intro b4 w4 iq z4 d4 H
 have ld : b3 < b4 := by rw [iq]; exact Bx.lt (P)
 replace E := E.below d4
 replace T := Bx.below T d4
 replace P := Bx.below P d4
 clear iq z4 d4
 by_cases hV : DF 8 l = true
 case neg =>
  refine yG ?_
  refine EF O (CA JV O (CU (ET hV) (XK _ l _ (BW E.2.2.1) hLl)) O E ?_)
  clear E
  intro ks aw E
  replace T := T.below aw
  replace P := P.below aw
  replace H := H.below aw
  clear aw
  refine yG ?_
  refine EF O (CF (v := .slice none 0 0) O Z O O O T AH ?_)
  intro kr ai ci
  replace E := oY E T ai ci (ds := [.slice none 0 0])
  replace P := Bx.onl P AA ai
  replace H := Bx.onl H AA ai
  clear T ai ci
  refine yG ?_
  refine EF O (CF (v := .int .i64 0) O Z O O O P AH ?_)
  intro kq bn ch
  replace E := oY E P bn ch (ds := [.int .i64 0])
  replace H := Bx.onl H AA bn
  clear P bn ch
  refine yG ?_
  refine EF O (CF (v := .int .i64 1) O Z O O O H AH ?_)
  intro kp cw cg
  replace E := oY E H cw cg (ds := [.int .i64 1])
  clear H cw cg
  have gn := IR MA E.2.2.1
  have gm := IR DA E.2.1
  have gk := IR KB E.1
  refine yG ?_
  exact eZ (v := .tuple #[.slice none 0 0, .int .i64 0, .int .i64 1]) (by simp [results, results13, asAddr, gn, gm, gk]) rfl (by rw [show FC l s = ([], 0, 1) from Vf (ET hV)]; exact ⟨_, rfl, ⟨_, rfl, IsR.nil _ _ _⟩, e6 E⟩)
 refine yG ?_
 refine EF O (CA JV O (CU hV (XK _ l _ (BW E.2.2.1) hLl)) O E ?_)
 clear E
 intro w5 d5 E
 replace T := T.below d5
 replace P := P.below d5
 replace H := H.below d5
 clear d5
 by_cases nj : ((s.length : Nat) : Int) > 4000
 case pos =>
  refine yG ?_
  refine EF O (CF (v := .slice none 0 0) O Z O O O T AH ?_)
  intro w6 o6 y6
  replace E := oY E T o6 y6 (ds := [.slice none 0 0])
  replace P := Bx.onl P AA o6
  replace H := Bx.onl H AA o6
  clear T o6 y6
  refine yG ?_
  refine EF O (CF (v := .int .i64 0) O Z O O O P AH ?_)
  intro w7 o7 y7
  replace E := oY E P o7 y7 (ds := [.int .i64 0])
  replace H := Bx.onl H AA o7
  clear P o7 y7
  refine yG ?_
  refine EF O (CF (v := .int .i64 2) O Z O O O H AH ?_)
  intro w8 o8 y8
  replace E := oY E H o8 y8 (ds := [.int .i64 2])
  clear H o8 y8
  have r9 := IR MA E.2.2.1
  have k4 := IR DA E.2.1
  have k3 := IR KB E.1
  refine yG ?_
  exact eZ (v := .tuple #[.slice none 0 0, .int .i64 0, .int .i64 2]) (by simp [results, results13, asAddr, r9, k4, k3]) rfl (by rw [show FC l s = ([], 0, 2) from Ve hV AA]; exact ⟨_, rfl, ⟨_, rfl, IsR.nil _ _ _⟩, e6 E⟩)
 have ag : ¬ 4000 < s.length := by omega
 by_cases b0 : s = [48]
 case pos =>
  refine yG ?_
  refine V O O (MU (a := s) (b := [48]) (c := true) O O O (by rw [beq_iff_eq]; exact b0)) ?_
  refine yG ?_
  refine EF O (CF (v := .slice none 0 0) O Z O O O T AH ?_)
  intro n8 c1 g8
  replace E := oY E T c1 g8 (ds := [.slice none 0 0])
  replace P := Bx.onl P AA c1
  replace H := Bx.onl H AA c1
  clear T c1 g8
  refine yG ?_
  refine EF O (CF (v := .int .i64 0) O Z O O O P AH ?_)
  intro n7 f0 g7
  replace E := oY E P f0 g7 (ds := [.int .i64 0])
  replace H := Bx.onl H AA f0
  clear P f0 g7
  refine yG ?_
  refine EF O (CF (v := .int .i64 0) O Z O O O H AH ?_)
  intro n6 hz g6
  replace E := oY E H hz g6 (ds := [.int .i64 0])
  clear H hz g6
  have k2 := IR MA E.2.2.1
  have k1 := IR DA E.2.1
  have k0 := IR KB E.1
  refine yG ?_
  exact eZ (v := .tuple #[.slice none 0 0, .int .i64 0, .int .i64 0]) (by simp [results, results13, asAddr, k2, k1, k0]) rfl (by rw [show FC l s = ([], 0, 0) from Vd hV b0]; exact ⟨_, rfl, ⟨_, rfl, IsR.nil _ _ _⟩, e6 E⟩)
 refine yG ?_
 refine V O O (MU (a := s) (b := [48]) (c := false) O O O (by rw [beq_eq_false_iff_ne]; exact b0)) ?_
 refine yG ?_
 refine EF O (JY (z := .slice none 0 0) Z O O ?_)
 intro ae n5 dj jw bx X
 have kh : b4 < ae := by rw [dj]; exact Bx.lt (H)
 replace E := E.below bx
 replace T := Bx.below T bx
 replace P := Bx.below P bx
 replace H := Bx.below H bx
 clear dj jw bx
 refine yG ?_
 refine EF O (JY (z := .int .i64 0) Z O O ?_)
 intro ad n4 di jv b7 ev
 have kg : ae < ad := by rw [di]; exact Bx.lt (X)
 replace E := E.below b7
 replace T := Bx.below T b7
 replace P := Bx.below P b7
 replace H := Bx.below H b7
 replace X := Bx.below X b7
 clear di jv b7
 refine yG ?_
 refine EF O (CF (v := .int .i64 0) O Z O O O ev AH ?_)
 intro n3 ay g5
 replace E := oY E ev ay g5 (ds := [.int .i64 0])
 replace T := Bx.onl T AA ay
 replace P := Bx.onl P AA ay
 replace H := Bx.onl H AA ay
 replace X := Bx.onl X AA ay
 clear ev ay g5
 refine yG ?_
 refine EF O (JY (z := .bool false) Z O O ?_)
 intro ac n2 dh ju b6 eu
 have kf : ad < ac := by rw [dh]; exact Bx.lt E.1
 replace E := E.below b6
 replace T := Bx.below T b6
 replace P := Bx.below P b6
 replace H := Bx.below H b6
 replace X := Bx.below X b6
 clear dh ju b6
 refine yG ?_
 refine EF O (CF (v := .bool false) O Z O O O eu AH ?_)
 intro n1 ax g4
 replace E := oY E eu ax g4 (ds := [.bool false])
 replace T := Bx.onl T AA ax
 replace P := Bx.onl P AA ax
 replace H := Bx.onl H AA ax
 replace X := Bx.onl X AA ax
 clear eu ax g4
 refine yG ?_
 refine EF O (mW (s := s) O O ?_)
 intro R gc dg jt b5 gb
 have ke : ac < R := by rw [dg]; exact Bx.lt E.1
 replace E := E.below b5
 replace T := Bx.below T b5
 replace P := Bx.below P b5
 replace H := Bx.below H b5
 replace X := Bx.below X b5
 clear dg jt b5
 replace E := E.x gb
 clear gb
 replace E := E.x T
 clear T
 replace E := E.x P
 clear P
 replace E := E.x H
 clear H
 replace E := E.x X
 clear X
 obtain ⟨q, G⟩ : ∃ n, n = gc.heap.size := ⟨_, rfl⟩
 have kk : w.heap.size ≤ q := by rw [G]; exact (QM E).size
 have io : ae < q := by rw [G]; exact Bx.lt E.1
 have im : b4 < q := by rw [G]; exact Bx.lt E.2.1
 have il : b3 < q := by rw [G]; exact Bx.lt E.2.2.1
 have ik : b2 < q := by rw [G]; exact Bx.lt (e3 E)
 have ij : R < q := by rw [G]; exact Bx.lt (e4 E)
 have ii : ac < q := by rw [G]; exact Bx.lt (e5 E)
 have ih : ad < q := by rw [G]; exact Bx.lt (e6 E)
 have ig : b1 < q := by rw [G]; exact Bx.lt (e7 E)
 replace E := (E.sz (Nat.le_of_eq G)).a (Acc.nil JP 88 q WI _) (TH _)
 clear G
 obtain ⟨B0, ah⟩ : ∃ n, n = gc.heap.size := ⟨_, rfl⟩
 have ne : w.heap.size ≤ B0 := by rw [ah]; exact (QP E).size
 have ll : b4 < B0 := by rw [ah]; exact Bx.lt (e3 E)
 have lk : b3 < B0 := by rw [ah]; exact Bx.lt (e4 E)
 have lj : b2 < B0 := by rw [ah]; exact Bx.lt (e5 E)
 have li : R < B0 := by rw [ah]; exact Bx.lt (e6 E)
 refine yG ?_
 refine (wpIn_wide (n := 5)).1 ?_
 refine wpIn_rangeFunc_ownF O AE (gf := 85) (lb := #[.pointer (some ⟨R, 0, none⟩)]) O trivial (enters_of func85 Z O) (sJ R s AA 4 AE _ (e6 E) (QM E).1) Rl (Rm AA AA) (Below.refl _ _) (fun _ => rfl)
   (fun t W => ∃ (ng nd : Bool) (p : List Tm) (vr : Value), sF l 0 (false, []) ((gR t).map (·.2)) = some (nd, p) ∧ (t.length % 2 = 0 → ng = nd) ∧ t.length ≤ 4001 ∧ Env W [fA JP 88 q WI vr p, oZ q, fX ae (28) ([vr]), fX b4 (32) ([.int .i64 0]), fX b3 (3) ([.int .i64 0]), fX b2 (28) ([.slice none 0 0]), fX R (9) ([.string (bs s)]), fX ac (4) ([.bool ng]), fX ad (3) ([.int .i64 ((t.length : Nat) : Int)]), fX b1 (30) ([.slice aa l.length U]), fGl, fR elS (DD w.heap.size) (.slice aa l.length U) l, fW w])
   (fun c t W => c = .ret ∧ ∃ (a4 : List Wd) (x : Wd) (st : fE), t = a4 ++ [x] ∧ sF l 0 (false, []) ((gR a4).map (·.2)) = some st ∧ GS l a4.length st x.1.2 = none ∧ Env W [fX b2 (28) ([.slice none 0 0]), fX b3 (3) ([.int .i64 ↑x.1.1]), fX b4 (32) ([.int .i64 440]), fW w])
   (fun t A B row hs y hr => by obtain ⟨ng, nd, p, vr, q1, q2, q3, E⟩ := hs; exact ⟨ng, nd, p, vr, q1, q2, q3, E.turn y (fun r e => (hr r e).2) (fun r e => by have J := (hr r e).1; have I := (hr r e).2; exact ⟨Lp E.1.1 I, BX, IT E.2.2.1 I, IT (e3 E) I, IT (e4 E) I, IT (e5 E) I, IT (e6 E) I, IT (e7 E) I, IT (e8 E) I, IT (e9 E) I, EG AA, DR (CJ AA), IS AA, BX⟩)⟩)
   (fun c t A B row hs y hr => by obtain ⟨q0, a4, x, st, q1, q2, q3, E⟩ := hs; exact ⟨q0, a4, x, st, q1, q2, q3, E.turn y (fun r e => (hr r e).2) (fun r e => by have J := (hr r e).1; have I := (hr r e).2; exact ⟨IT E.1 I, IT E.2.1 I, IT E.2.2.1 I, IS AA, BX⟩)⟩)
   ⟨false, false, [], .slice none 0 0, rfl, fun _ => rfl, by simp, zE⟩
   (fun x => { tmps := #[.string (bs s), .slice aa l.length U, undef, .pointer (some ⟨b1, 0, none⟩), .pointer (some ⟨b2, 0, none⟩), .pointer (some ⟨b3, 0, none⟩), .pointer (some ⟨b4, 0, none⟩), .pointer (some ⟨ae, 0, none⟩), .pointer (some ⟨ad, 0, none⟩), .pointer (some ⟨ac, 0, none⟩), .int .i64 ((x.1.1 : Nat) : Int), .string (bs x.1.2), undef, undef, .slice aa l.length U, .bool true, .bool false, .string (bs s), .int .i64 ↑s.length, .bool false, .string (bs s), .bool false, .string (bs s), .func (.func 85) #[] #[.pointer (some ⟨R, 0, none⟩)], .int .i64 ((x.1.1 : Nat) : Int), .string (bs x.1.2), undef, undef, undef, undef, undef, undef, undef, undef, undef, undef, undef, undef, undef, undef, undef, undef, undef, undef, undef, undef, undef, undef, undef, undef, undef, undef, undef, undef, undef, undef, undef, undef, undef, undef, undef, undef, undef, undef, undef, undef, undef, undef, undef, undef, undef, undef, undef, undef, undef, undef, undef, undef, undef, undef, undef, undef, undef, undef, undef, undef, undef, undef, undef], defers := [] }) ?assign ?body ?done ?stop
 case assign =>
  intro r x W K hK
  unfold wdE
  gi_wp2
  exact hK
 case body =>
  rintro r t ⟨⟨N, wd⟩, af, Y⟩ W ⟨ng, nd, p, vr, J, I, ki, E⟩ lh
  change Code.wpIn _ _ _ _ _ ⟨#[.string (bs s), .slice aa l.length U, undef, .pointer (some ⟨b1, 0, none⟩), .pointer (some ⟨b2, 0, none⟩), .pointer (some ⟨b3, 0, none⟩), .pointer (some ⟨b4, 0, none⟩), .pointer (some ⟨ae, 0, none⟩), .pointer (some ⟨ad, 0, none⟩), .pointer (some ⟨ac, 0, none⟩), .int .i64 ↑N, .string (bs wd), undef, undef, .slice aa l.length U, .bool true, .bool false, .string (bs s), .int .i64 ↑s.length, .bool false, .string (bs s), .bool false, .string (bs s), .func (.func 85) #[] #[.pointer (some ⟨R, 0, none⟩)], .int .i64 ↑N, .string (bs wd), undef, undef, undef, undef, undef, undef, undef, undef, undef, undef, undef, undef, undef, undef, undef, undef, undef, undef, undef, undef, undef, undef, undef, undef, undef, undef, undef, undef, undef, undef, undef, undef, undef, undef, undef, undef, undef, undef, undef, undef, undef, undef, undef, undef, undef, undef, undef, undef, undef, undef, undef, undef, undef, undef, undef, undef, undef, undef, undef, undef, undef, undef, undef], []⟩ _
  replace af : N ≤ 4000 := af
  replace Y : wd.length ≤ 4000 := Y
  have nf : p.length = (t.length + 1) / 2 := by have := Kg J rfl rfl; simpa [KQ] using this
  have ni : (dX 0 (EM 32 s)).length ≤ 4001 := by rw [An]; have := WR 32 s; omega
  have a0 : p.length ≤ 4001 := by omega
  have kl : 2 ≤ W.heap.size := (QM E).1.two
  have np : (Nc W).ok ae := oA E.2.2.1
  have no : (Nc W).ok b4 := oA (e3 E)
  have nn : (Nc W).ok b3 := oA (e4 E)
  have nm : (Nc W).ok b2 := oA (e5 E)
  have nl : (Nc W).ok ac := oA (e7 E)
  have nk : (Nc W).ok ad := oA (e8 E)
  have f : ∀ g, vr.ownBlock = some g → (Nc W).ok g := fun g y => Uc E.1.1 y
  have kj := Bx.lt (e6 E)
  replace E := ((E.ko).kb (sb := R) kj kl).sz (Nat.le_refl W.heap.size)
  refine wpIn_block ?_
  refine wpIn_seq ?_
  refine ZF Z (fun ⟨_, _, h⟩ => h) ?_
  have et := QQ E
  refine yG ?_
  replace E := NZ (NZ XQ) E
  refine yG ?_
  refine EF O (CF (v := .int .i64 ↑(t.length + 1)) O Z O O O et AH ?_)
  intro n0 hy g3
  replace E := (E.onl (et.noW (CL AH EB)) ⟨BX, LC AA AA, (by first | assumption | exact GO AA | exact f _ y), MT (fun h => by have := (Acc.lt (e3 E).1 h).1; omega) GH, BX, CQ AA, CQ AA, CQ AA, CQ AA, CQ AA, CQ AA, CQ AA, EG AA, DR (CJ AA), IS AA, BX⟩ hy).x (cs := [.int .i64 ↑(t.length + 1)]) g3
  clear et hy g3
  refine yG ?_
  change Code.wpIn _ _ _ _ _ _ _
  refine wpIn_seq ?_
  refine wpIn_seq ?_
  by_cases Q : t.length % 2 = 1
  case pos =>
   refine ZF Z (fun ⟨_, _, h⟩ => h) ?_
   refine yG ?_
   refine V (v := .int .i64 ↑((t.length + 1) % 2)) O O (DZ O O O AE (Av _)) ?_
   refine yG ?_
   change Code.wpIn _ _ _ _ _ _ _
   refine wpIn_cond_true O ?_
   refine wpIn_seq ?_
   refine wpIn_seq ?_
   by_cases a6 : wd = [43]
   case pos =>
    refine ZF Z (fun ⟨_, _, h⟩ => h) ?_
    refine yG ?_
    refine V O O (GR (a := wd) (b := [43]) (c := false) O O O (by rw [bne_eq_false_iff_eq]; exact a6)) ?_
    refine yG ?_
    change Code.wpIn _ _ _ _ _ _ _
    refine wpIn_cond_false O ?_
    refine wpIn_skip ?_
    change Code.wpIn _ _ _ _ _ _ _
    refine wpIn_seq ?_
    refine ZF Z (fun ⟨_, _, h⟩ => h) ?_
    refine yG ?_
    refine V O O (MU (a := wd) (b := [45]) (c := false) O O O (by rw [beq_eq_false_iff_ne]; rw [a6]; decide)) ?_
    have es := QQ E
    replace E := NZ (NZ XQ) E
    refine yG ?_
    refine EF O (CF (v := .bool false) O Z O O O es AH ?_)
    intro mz hx g2
    replace E := (E.onl (es.noW (CL AH EB)) ⟨CQ AA, BX, LC AA AA, (by first | assumption | exact GO AA | exact f _ y), MT (fun h => by have := (Acc.lt (e4 E).1 h).1; omega) GH, BX, CQ AA, CQ AA, CQ AA, CQ AA, CQ AA, CQ AA, EG AA, DR (CJ AA), IS AA, BX⟩ hx).x (cs := [.bool false]) g2
    clear es hx g2
    refine yG ?_
    change Code.wpIn _ _ _ _ _ _ _
    refine wpIn_exit ?_
    show KeepsOthers _ _ ∧ keepB _ _ _ ∧ _
    exact ⟨e4 E, (e3 E).1, false, false, p, vr, by rw [JR, List.map_append, List.map_cons, List.map_nil, RM J, List.length_map, KQ, Nat.zero_add]; exact Pr Q a6, fun _ => rfl, (by simp; omega), (by rw [List.length_append]; exact zE)⟩
   by_cases ab : wd = [45]
   case pos =>
    refine ZF Z (fun ⟨_, _, h⟩ => h) ?_
    refine yG ?_
    refine V O O (GR (a := wd) (b := [43]) (c := true) O O O (by rw [bne_iff_ne]; exact a6)) ?_
    refine yG ?_
    refine V Z O (GR (a := wd) (b := [45]) (c := false) O O O (by rw [bne_eq_false_iff_eq]; exact ab)) ?_
    refine yG ?_
    change Code.wpIn _ _ _ _ _ _ _
    refine wpIn_cond_false O ?_
    refine wpIn_skip ?_
    change Code.wpIn _ _ _ _ _ _ _
    refine wpIn_seq ?_
    refine ZF Z (fun ⟨_, _, h⟩ => h) ?_
    refine yG ?_
    refine V O O (MU (a := wd) (b := [45]) (c := true) O O O (by rw [beq_iff_eq]; exact ab)) ?_
    have er := QQ E
    replace E := NZ (NZ XQ) E
    refine yG ?_
    refine EF O (CF (v := .bool true) O Z O O O er AH ?_)
    intro my hw g1
    replace E := (E.onl (er.noW (CL AH EB)) ⟨CQ AA, BX, LC AA AA, (by first | assumption | exact GO AA | exact f _ y), MT (fun h => by have := (Acc.lt (e4 E).1 h).1; omega) GH, BX, CQ AA, CQ AA, CQ AA, CQ AA, CQ AA, CQ AA, EG AA, DR (CJ AA), IS AA, BX⟩ hw).x (cs := [.bool true]) g1
    clear er hw g1
    refine yG ?_
    change Code.wpIn _ _ _ _ _ _ _
    refine wpIn_exit ?_
    show KeepsOthers _ _ ∧ keepB _ _ _ ∧ _
    exact ⟨e4 E, (e3 E).1, true, true, p, vr, by rw [JR, List.map_append, List.map_cons, List.map_nil, RM J, List.length_map, KQ, Nat.zero_add]; exact Jz Q ab, fun _ => rfl, (by simp; omega), (by rw [List.length_append]; exact zE)⟩
   refine ZF Z (fun ⟨_, _, h⟩ => h) ?_
   refine yG ?_
   refine V O O (GR (a := wd) (b := [43]) (c := true) O O O (by rw [bne_iff_ne]; exact a6)) ?_
   refine yG ?_
   refine V Z O (GR (a := wd) (b := [45]) (c := true) O O O (by rw [bne_iff_ne]; exact ab)) ?_
   refine yG ?_
   change Code.wpIn _ _ _ _ _ _ _
   refine wpIn_cond_true O ?_
   refine wpIn_seq ?_
   refine ZF Z (fun ⟨_, _, h⟩ => h) ?_
   have ep := e9 E
   refine yG ?_
   replace E := dl9 E
   refine yG ?_
   refine EF O (CF (v := .slice none 0 0) O Z O O O ep AH ?_)
   intro mx hv g0
   replace E := (E.onl (ep.noW (CL AH EB)) ⟨CQ AA, BX, LC AA AA, (by first | assumption | exact GO AA | exact f _ y), MT (fun h => by have := (Acc.lt (e4 E).1 h).1; omega) GH, BX, CQ AA, CQ AA, CQ AA, CQ AA, CQ AA, CQ AA, EG AA, DR (CJ AA), IS AA, BX⟩ hv).x (cs := [.slice none 0 0]) g0
   clear ep hv g0
   have eo := e9 E
   refine yG ?_
   replace E := dl9 E
   refine EF O (CF (v := .int .i64 ↑N) O Z O O O eo AH ?_)
   intro mw hu fz
   replace E := (E.onl (eo.noW (CL AH EB)) ⟨CQ AA, CQ AA, BX, LC AA AA, (by first | assumption | exact GO AA | exact f _ y), MT (fun h => by have := (Acc.lt (e5 E).1 h).1; omega) GH, BX, CQ AA, CQ AA, CQ AA, CQ AA, CQ AA, EG AA, DR (CJ AA), IS AA, BX⟩ hu).x (cs := [.int .i64 ↑N]) fz
   clear eo hu fz
   have en := e9 E
   refine yG ?_
   replace E := dl9 E
   refine EF O (CF (v := .int .i64 440) O Z O O O en AH ?_)
   intro mv ht fy
   replace E := (E.onl (en.noW (CL AH EB)) ⟨CQ AA, CQ AA, CQ AA, BX, LC AA AA, (by first | assumption | exact GO AA | exact f _ y), MT (fun h => by have := (Acc.lt (e6 E).1 h).1; omega) GH, BX, CQ AA, CQ AA, CQ AA, CQ AA, EG AA, DR (CJ AA), IS AA, BX⟩ ht).x (cs := [.int .i64 440]) fy
   clear en ht fy
   refine yG ?_
   change Code.wpIn _ _ _ _ _ _ _
   refine wpIn_ret ?_
   show KeepsOthers _ _ ∧ _
   exact ⟨(e6 E), rfl, t, ⟨(N, wd), af, Y⟩, (nd, p), rfl, J, Vc Q a6 ab, zE⟩
  refine ZF Z (fun ⟨_, _, h⟩ => h) ?_
  refine yG ?_
  refine V (v := .int .i64 ↑((t.length + 1) % 2)) O O (DZ O O O AE (Av _)) ?_
  refine yG ?_
  change Code.wpIn _ _ _ _ _ _ _
  refine wpIn_cond_false O ?_
  refine wpIn_skip ?_
  change Code.wpIn _ _ _ _ _ _ _
  refine wpIn_seq ?_
  refine wpIn_seq ?_
  by_cases az : t.length = 0
  case neg =>
   refine ZF Z (fun ⟨_, _, h⟩ => h) ?_
   refine yG ?_
   change Code.wpIn _ _ _ _ _ _ _
   refine wpIn_cond_false O ?_
   refine wpIn_skip ?_
   change Code.wpIn _ _ _ _ _ _ _
   refine wpIn_seq ?_
   have a3 := cut_3 (nd := nd) (wd := wd) az
   have a1 : (wd).length ≤ 4000 := by have := Y; first | exact Y | (rw [List.length_tail]; omega)
   by_cases u : ZZ l wd = none
   case pos =>
    refine ZF Z (fun ⟨_, _, h⟩ => h) ?_
    refine yG ?_
    refine EF O (TU GM O (by rw [← u]; exact PE wd _ l _ (BW (iU E)) a1 hV (TI E).1) O E ?_)
    clear E
    intro ly _ E
    refine yG ?_
    refine EF O (CB KP O ?_)
    intro cb lx ap jl ix dx
    have c2 : (vr : Value).ownBlock ≠ some cb := fun h => by have := (Acc.lt (e4 E).1 h).2; omega
    have k8 : R < cb := by rw [ap]; exact Bx.lt (QM E)
    have j9 : W.heap.size ≤ cb := by rw [ap]; exact CR E.2.1
    have j8 : q ≤ cb := by rw [ap]; exact CR (e5 E)
    replace E := E.below ix
    clear ap jl ix
    refine yG ?_
    refine EF O (BY KP O O O dx (by first | rfl | exact CM CZ) (CM CZ) (GD (M := zeroM) NX NX) ?_)
    intro lw h9 fi
    replace E := (E.onl (dx.noW (RF (M := zeroM) FM FM)) ⟨CQ AA, BX, LC AA AA, (by first | assumption | exact GO AA | exact f _ y), MT c2 GH, BX, CQ AA, CQ AA, CQ AA, CQ AA, CQ AA, CQ AA, CQ AA, EG AA, DR (CJ AA), IS AA, BX⟩ h9).x (cs := (HY false (.slice none 0 0) false (.slice none 0 0) zeroM)) fi
    clear dx h9 fi
    refine yG ?_
    change Code.wpIn _ _ _ _ _ _ _
    refine wpIn_seq ?_
    refine wpIn_seq ?_
    refine NJ Z (fun ⟨_, _, h⟩ => h) E ([0, 1, 2, 3, 4, 5, 6, 7, 8, 9, 10, 11, 12, 13, 14, 15, 16, 17, 18]) Z Z Z Z AF ?_
    replace E := E.drew
    refine yG ?_
    change Code.wpIn _ _ _ _ _ _ _
    refine wpIn_cond_true O ?_
    refine wpIn_seq ?_
    refine ZF Z (fun ⟨_, _, h⟩ => h) ?_
    have dw := QM E
    refine yG ?_
    replace E := NZ (NZ WJ) E
    refine yG ?_
    refine EF O (CF (v := .slice none 0 0) O Z O O O dw AH ?_)
    intro lv h8 fh
    replace E := (E.onl (dw.noW (CL AH EB)) ⟨CQ AA, CQ AA, BX, LC AA AA, (by first | assumption | exact GO AA | exact f _ y), MT (fun h => by have := (Acc.lt (e5 E).1 h).1; omega) GH, BX, CQ AA, CQ AA, CQ AA, CQ AA, CQ AA, CQ AA, EG AA, DR (CJ AA), IS AA, BX⟩ h8).x (cs := [.slice none 0 0]) fh
    clear dw h8 fh
    have dv := QM E
    refine yG ?_
    replace E := NZ (NZ WJ) E
    refine EF O (CF (v := .int .i64 ↑N) O Z O O O dv AH ?_)
    intro lu h7 fg
    replace E := (E.onl (dv.noW (CL AH EB)) ⟨CQ AA, CQ AA, CQ AA, BX, LC AA AA, (by first | assumption | exact GO AA | exact f _ y), MT (fun h => by have := (Acc.lt (e6 E).1 h).1; omega) GH, BX, CQ AA, CQ AA, CQ AA, CQ AA, CQ AA, EG AA, DR (CJ AA), IS AA, BX⟩ h7).x (cs := [.int .i64 ↑N]) fg
    clear dv h7 fg
    have du := QM E
    refine yG ?_
    replace E := NZ (NZ WJ) E
    refine EF O (CF (v := .int .i64 440) O Z O O O du AH ?_)
    intro ls h6 ff
    replace E := (E.onl (du.noW (CL AH EB)) ⟨CQ AA, CQ AA, CQ AA, CQ AA, BX, LC AA AA, (by first | assumption | exact GO AA | exact f _ y), MT (fun h => by have := (Acc.lt (e7 E).1 h).1; omega) GH, BX, CQ AA, CQ AA, CQ AA, CQ AA, EG AA, DR (CJ AA), IS AA, BX⟩ h6).x (cs := [.int .i64 440]) ff
    clear du h6 ff
    refine yG ?_
    change Code.wpIn _ _ _ _ _ _ _
    refine wpIn_ret ?_
    show KeepsOthers _ _ ∧ _
    exact ⟨(e7 E), rfl, t, ⟨(N, wd), af, Y⟩, (nd, p), rfl, J, wQ Q a3 u, zE⟩
   obtain ⟨⟨c, mm⟩, u⟩ := Option.ne_none_iff_exists'.1 u
   have c9 := iL a1 u
   obtain ⟨L, i8⟩ := jU u
   refine ZF Z (fun ⟨_, _, h⟩ => h) ?_
   refine yG ?_
   refine EF O (TT (c := c) (mm := mm) GM O (by rw [← u]; exact PE wd _ l _ (BW (iU E)) a1 hV (TI E).1) O E ?_)
   clear E
   intro lr i2 gh i4 ge _ E
   refine yG ?_
   refine EF O (CB KP O ?_)
   intro ca lq ao jk iw dt
   have a2 : (vr : Value).ownBlock ≠ some ca := fun h => by have := (Acc.lt (e6 E).1 h).2; omega
   have k7 : R < ca := by rw [ao]; exact Bx.lt (QP E)
   have j7 : W.heap.size ≤ ca := by rw [ao]; exact CR (e3 E)
   have j6 : q ≤ ca := by rw [ao]; exact CR (e7 E)
   replace E := E.below iw
   clear ao jk iw
   refine yG ?_
   refine EF O (BY KP O O O dt (by first | rfl | exact CM CZ) (CM L) (GD (M := mm) (IsI.one E.1) (IsI.one E.2.1)) ?_)
   intro jx h5 fe
   replace E := (E.onl (dt.noW (RF (M := zeroM) FM FM)) ⟨BX, BX, CQ AA, BX, LC AA AA, (by first | assumption | exact GO AA | exact f _ y), MT a2 GH, BX, CQ AA, CQ AA, CQ AA, CQ AA, CQ AA, CQ AA, CQ AA, EG AA, DR (CJ AA), IS AA, BX⟩ h5).x (cs := (HY i2 gh i4 ge mm)) fe
   clear dt h5 fe
   refine yG ?_
   change Code.wpIn _ _ _ _ _ _ _
   refine wpIn_seq ?_
   refine wpIn_seq ?_
   obtain ⟨dp, c0, rfl⟩ := Acc.shp (e7 E).1
   obtain ⟨ia, bu⟩ : ∃ n, n = jx.heap.size := ⟨_, rfl⟩
   have dc := Acc.low (e7 E).1
   rw [← bu] at dc
   replace E := E.r (e := JP) (S := DD ia) dc (fun k g => by rw [← bu]; exact g)
   obtain ⟨⟨nr, f8⟩, ak⟩ : ∃ x, p[p.length - 1]? = some x := ⟨_, List.getElem?_eq_getElem (show p.length - 1 < p.length by omega)⟩
   obtain ⟨gj, la, _, db, ip, ie, ⟨nb, na, nc, n9, rfl, i9, id, al⟩⟩ := IsR.at E.1.1 ak
   have ib : gj < _ := E.1.2 _ ip
   replace E := ((E.c ie ib).i i9).i id
   have f6 := Mg ak
   skip
   by_cases f7 : 0 ≤ EI mm f8
   case pos =>
    refine NJ Z (fun ⟨_, _, h⟩ => h) E ([0, 1, 2, 3, 4, 5, 6, 7, 8, 9, 10, 11, 12, 13, 14, 15, 16, 17, 18]) Z Z Z Z AF ?_
    replace E := E.drew
    refine yG ?_
    refine SW O O O Z O (fun w hS => CD QX O O (Cs.sub (Bx.cs (e4 hS)) 4 (DY _ _ _ _ _)) (DC L)) ?_
    refine yG ?_
    refine SW (v := .int .i64 ↑(p.length - 1)) O O O Z O (fun w hS => JC O O O (by rw [JK AA]; omega)) ?_
    refine yG ?_
    refine lS O O O db O (List.getElem?_eq_some_iff.1 ak).1 ?_
    refine yG ?_
    refine SW O O O Z O (fun w hS => CD QX O O (Cs.sub ((hS.2.2.1).1) 4 (DY _ _ _ _ _)) (DC al)) ?_
    refine yG ?_
    refine JM (o := ⟨some 68, _, _, _, _, _⟩) O O O O (CK QH O (Ak mm f8 _ L al) O E ?_)
    clear E
    intro lp _ E
    refine ⟨E, ?_⟩
    refine yG ?_
    change Code.wpIn _ _ _ _ _ _ _
    refine wpIn_cond_true O ?_
    refine wpIn_seq ?_
    replace E := Iz E
    replace E := mC E
    refine ZF Z (fun ⟨_, _, h⟩ => h) ?_
    have dr := iU E
    refine yG ?_
    replace E := NZ (NZ pC) E
    refine yG ?_
    refine EF O (CF (v := .slice none 0 0) O Z O O O dr AH ?_)
    intro lo h4 fd
    replace E := (E.onl (dr.noW (CL AH EB)) ⟨BX, BX, CQ AA, BX, BX, CQ AA, BX, LC AA AA, (by first | assumption | exact GO AA | exact f _ y), MT (fun h => by have := (Acc.lt (e9 E).1 h).1; omega) GH, BX, CQ AA, CQ AA, CQ AA, CQ AA, CQ AA, CQ AA, EG AA, DR (CJ AA), IS AA, BX⟩ h4).x (cs := [.slice none 0 0]) fd
    clear dr h4 fd
    have dq := iU E
    refine yG ?_
    replace E := NZ (NZ pC) E
    refine EF O (CF (v := .int .i64 ↑N) O Z O O O dq AH ?_)
    intro ln h3 fc
    replace E := (E.onl (dq.noW (CL AH EB)) ⟨CQ AA, BX, BX, CQ AA, BX, BX, CQ AA, BX, LC AA AA, (by first | assumption | exact GO AA | exact f _ y), MT (fun h => by have := (Acc.lt (QM E).1 h).1; omega) GH, BX, CQ AA, CQ AA, CQ AA, CQ AA, CQ AA, EG AA, DR (CJ AA), IS AA, BX⟩ h3).x (cs := [.int .i64 ↑N]) fc
    clear dq h3 fc
    have bi := iU E
    refine yG ?_
    replace E := NZ (NZ pC) E
    refine EF O (CF (v := .int .i64 440) O Z O O O bi AH ?_)
    intro lm h0 fb
    replace E := (E.onl (bi.noW (CL AH EB)) ⟨CQ AA, CQ AA, BX, BX, CQ AA, BX, BX, CQ AA, BX, LC AA AA, (by first | assumption | exact GO AA | exact f _ y), MT (fun h => by have := (Acc.lt (QQ E).1 h).1; omega) GH, BX, CQ AA, CQ AA, CQ AA, CQ AA, EG AA, DR (CJ AA), IS AA, BX⟩ h0).x (cs := [.int .i64 440]) fb
    clear bi h0 fb
    refine yG ?_
    change Code.wpIn _ _ _ _ _ _ _
    refine wpIn_ret ?_
    show KeepsOthers _ _ ∧ _
    exact ⟨(QQ E), rfl, t, ⟨(N, wd), af, Y⟩, (nd, p), rfl, J, Pk Q a3 u az (by rw [f6]; exact f7), zE⟩
   refine NJ Z (fun ⟨_, _, h⟩ => h) E ([0, 1, 2, 3, 4, 5, 6, 7, 8, 9, 10, 11, 12, 13, 14, 15, 16, 17, 18]) Z Z Z Z AF ?_
   replace E := E.drew
   refine yG ?_
   refine SW O O O Z O (fun w hS => CD QX O O (Cs.sub (Bx.cs (e4 hS)) 4 (DY _ _ _ _ _)) (DC L)) ?_
   refine yG ?_
   refine SW (v := .int .i64 ↑(p.length - 1)) O O O Z O (fun w hS => JC O O O (by rw [JK AA]; omega)) ?_
   refine yG ?_
   refine lS O O O db O (List.getElem?_eq_some_iff.1 ak).1 ?_
   refine yG ?_
   refine SW O O O Z O (fun w hS => CD QX O O (Cs.sub ((hS.2.2.1).1) 4 (DY _ _ _ _ _)) (DC al)) ?_
   refine yG ?_
   refine JM (o := ⟨some 68, _, _, _, _, _⟩) O O O O (CK QH O (Ak mm f8 _ L al) O E ?_)
   clear E
   intro l9 _ E
   refine ⟨E, ?_⟩
   refine yG ?_
   change Code.wpIn _ _ _ _ _ _ _
   refine wpIn_cond_false O ?_
   refine wpIn_skip ?_
   change Code.wpIn _ _ _ _ _ _ _
   refine wpIn_seq ?_
   refine wpIn_seq ?_
   replace E := Iz E
   replace E := mC E
   by_cases c7 : ng = true
   case neg =>
    have f5 : nd = false := by rw [← I AA]; exact ET c7
    subst f5
    refine ZF Z (fun ⟨_, _, h⟩ => h) ?_
    refine yG ?_
    change Code.wpIn _ _ _ _ _ _ _
    refine wpIn_cond_false (congrArg Value.bool (ET c7)) ?_
    refine wpIn_skip ?_
    change Code.wpIn _ _ _ _ _ _ _
    skip
    refine ZF Z (fun ⟨_, _, h⟩ => h) ?_
    refine yG ?_
    refine EF O (DT (cs := (HY i2 gh i4 ge mm)) underlying28 KP (CM L) AE AE O O ?_)
    intro dm l3 bv f9 dk cu
    have bo : ((.slice dp (p).length c0) : Value).ownBlock ≠ some dm := fun h => by have := (Acc.lt (e9 E).1 h).2; omega
    have i6 : q ≤ dm := by rw [bv]; exact CR (QM E)
    replace E := (E.below dk).x cu
    clear bv f9 dk cu
    have a8 := QM E
    have f1 := Acc.nw a8.1
    refine yG ?_
    replace E := NZ (NZ WJ) E
    refine EF O (FQ (x := (c, mm)) fF O (l := p) O a8.1 a8.2 E (fun g y h1 h2 => ⟨CQ (fun e => bo (e ▸ y)), BX, BX, CQ (fun e => a2 (e ▸ y)), BX, BX, CQ AA, BX, LC AA AA, (by first | assumption | exact GO AA | exact f _ y), BX, CQ AA, CQ AA, CQ AA, CQ AA, CQ AA, CQ AA, CQ AA, EG AA, DR (CJ AA), IS AA, BX⟩) O E.1 (⟨_, _, _, _, O, e4 E, e5 E, L⟩) (by have := a0; unfold maxLen; omega) (by have := a0; omega) (CR (QM E)) ?_)
    clear E a8
    intro bj l2 E
    have bf := QP E
    refine yG ?_
    replace E := NZ (NZ mC) E
    refine yG ?_
    refine EF O (CF (v := bj) O Z (Acc.one E.1.1) O O bf AH ?_)
    intro l0 d8 cq
    replace E := (E.onl (bf.noW (CL f1 EB)) ⟨MT (fun h => by have := (Acc.lt E.1.1 h).1; omega) GH, CQ AA, BX, BX, CQ AA, BX, BX, CQ AA, BX, LC AA AA, (by first | assumption | exact GO AA | exact f _ y), BX, CQ AA, CQ AA, CQ AA, CQ AA, CQ AA, CQ AA, EG AA, DR (CJ AA), IS AA, BX⟩ d8).x (cs := [bj]) cq
    clear bf d8 cq
    refine yG ?_
    show KeepsOthers _ _ ∧ keepB _ _ _ ∧ _
    exact ⟨QQ E, (QM E).1, ng, false, (p ++ [(c, mm)]), bj, by rw [JR, List.map_append, List.map_cons, List.map_nil, RM J, List.length_map, KQ, Nat.zero_add]; exact Aw Q a3 u (.inr (by rw [f6]; exact f7)), fun hh => by simp at hh; omega, (by simp; omega), (by rw [List.length_append]; exact zE)⟩
   have f5 : nd = true := by rw [← I AA]; exact c7
   subst f5
   refine ZF Z (fun ⟨_, _, h⟩ => h) ?_
   refine yG ?_
   change Code.wpIn _ _ _ _ _ _ _
   refine wpIn_cond_true (congrArg Value.bool c7) ?_
   refine ZF Z (fun ⟨_, _, h⟩ => h) ?_
   refine yG ?_
   refine V O O (CD GV O O (Cs.sub (Bx.cs E.2.2.1) 0 (FG _ _ _ _ _)) O) ?_
   refine yG ?_
   refine EF O (CV NH O (Eb _ _ _ _ c _ (e3 E) (e4 E) (FitQ.mono c9 AE)) O E ?_)
   clear E
   intro l8 bq bm br bl _ E
   have bh := e4 E
   refine yG ?_
   replace E := pC E
   refine yG ?_
   refine EF O (MD (cs' := (HY bq bm br bl mm)) GV O O O bh O (by rw [CM L]; decide) (MH (IsI.one E.2.1) (IsI.one E.1)) O ?_)
   intro l7 da ct
   replace E := (E.onl (bh.noW (RF (M := mm) (IsI.now (e4 E)) (IsI.now (e5 E)))) ⟨BX, BX, BX, BX, BX, BX, CQ AA, BX, LC AA AA, (by first | assumption | exact GO AA | exact f _ y), MT a2 GH, BX, CQ AA, CQ AA, CQ AA, CQ AA, CQ AA, CQ AA, CQ AA, EG AA, DR (CJ AA), IS AA, BX⟩ da).x (cs := (HY bq bm br bl mm)) ct
   clear bh da ct
   refine yG ?_
   change Code.wpIn _ _ _ _ _ _ _
   skip
   refine ZF Z (fun ⟨_, _, h⟩ => h) ?_
   refine yG ?_
   refine EF O (DT (cs := (HY bq bm br bl mm)) underlying28 KP (CM L) AE AE O O ?_)
   intro dn l6 bw fa dl cv
   have bp : ((.slice dp (p).length c0) : Value).ownBlock ≠ some dn := fun h => by have := (Acc.lt (QQ E).1 h).2; omega
   have i7 : q ≤ dn := by rw [bw]; exact CR (QP E)
   replace E := (E.below dl).x cv
   clear bw fa dl cv
   have a9 := QP E
   have f2 := Acc.nw a9.1
   refine yG ?_
   replace E := NZ (NZ mC) E
   refine EF O (FQ (x := ((-c), mm)) fF O (l := p) O a9.1 a9.2 E (fun g y h1 h2 => ⟨CQ (fun e => bp (e ▸ y)), CQ (fun e => a2 (e ▸ y)), BX, BX, BX, BX, BX, BX, CQ AA, BX, LC AA AA, (by first | assumption | exact GO AA | exact f _ y), BX, CQ AA, CQ AA, CQ AA, CQ AA, CQ AA, CQ AA, CQ AA, EG AA, DR (CJ AA), IS AA, BX⟩) O E.1 (⟨_, _, _, _, O, e3 E, E.2.2.1, L⟩) (by have := a0; unfold maxLen; omega) (by have := a0; omega) (CR (QP E)) ?_)
   clear E a9
   intro bk l5 E
   have bg := iU E
   refine yG ?_
   replace E := NZ (NZ pC) E
   refine yG ?_
   refine EF O (CF (v := bk) O Z (Acc.one E.1.1) O O bg AH ?_)
   intro l4 d9 cr
   replace E := (E.onl (bg.noW (CL f2 EB)) ⟨MT (fun h => by have := (Acc.lt E.1.1 h).1; omega) GH, CQ AA, CQ AA, BX, BX, BX, BX, BX, BX, CQ AA, BX, LC AA AA, (by first | assumption | exact GO AA | exact f _ y), BX, CQ AA, CQ AA, CQ AA, CQ AA, CQ AA, CQ AA, EG AA, DR (CJ AA), IS AA, BX⟩ d9).x (cs := [bk]) cr
   clear bg d9 cr
   refine yG ?_
   show KeepsOthers _ _ ∧ keepB _ _ _ ∧ _
   exact ⟨TI E, (QP E).1, ng, false, (p ++ [((-c), mm)]), bk, by rw [JR, List.map_append, List.map_cons, List.map_nil, RM J, List.length_map, KQ, Nat.zero_add]; exact Aw Q a3 u (.inr (by rw [f6]; exact f7)), fun hh => by simp at hh; omega, (by simp; omega), (by rw [List.length_append]; exact zE)⟩
  refine ZF Z (fun ⟨_, _, h⟩ => h) ?_
  refine yG ?_
  change Code.wpIn _ _ _ _ _ _ _
  refine wpIn_cond_true O ?_
  by_cases c8 : wd.head? = some 45
  case neg =>
   have a3 := cut_2 (nd := nd) az c8
   refine ZF Z (fun ⟨_, _, h⟩ => h) ?_
   refine yG ?_
   refine EF O (BZ JH O (Iu wd _ c8) O E ?_)
   clear E
   intro mc _ E
   have ee := QQ E
   refine yG ?_
   replace E := NZ (NZ XQ) E
   refine yG ?_
   refine EF O (CF (v := .bool false) O Z O O O ee AH ?_)
   intro mb hi fp
   replace E := (E.onl (ee.noW (CL AH EB)) ⟨CQ AA, BX, LC AA AA, (by first | assumption | exact GO AA | exact f _ y), MT (fun h => by have := (Acc.lt (e4 E).1 h).1; omega) GH, BX, CQ AA, CQ AA, CQ AA, CQ AA, CQ AA, CQ AA, EG AA, DR (CJ AA), IS AA, BX⟩ hi).x (cs := [.bool false]) fp
   clear ee hi fp
   refine yG ?_
   change Code.wpIn _ _ _ _ _ _ _
   refine wpIn_seq ?_
   have a1 : (wd).length ≤ 4000 := by have := Y; first | exact Y | (rw [List.length_tail]; omega)
   by_cases u : ZZ l wd = none
   case pos =>
    refine ZF Z (fun ⟨_, _, h⟩ => h) ?_
    refine yG ?_
    refine EF O (TU GM O (by rw [← u]; exact PE wd _ l _ (BW (iU E)) a1 hV (TI E).1) O E ?_)
    clear E
    intro ma _ E
    refine yG ?_
    refine EF O (CB KP O ?_)
    intro cd m9 ar jp j0 ed
    have c4 : (vr : Value).ownBlock ≠ some cd := fun h => by have := (Acc.lt (e5 E).1 h).2; omega
    have ka : R < cd := by rw [ar]; exact Bx.lt (QQ E)
    have je : W.heap.size ≤ cd := by rw [ar]; exact CR E.2.2.1
    have jd : q ≤ cd := by rw [ar]; exact CR (e6 E)
    replace E := E.below j0
    clear ar jp j0
    refine yG ?_
    refine EF O (BY KP O O O ed (by first | rfl | exact CM CZ) (CM CZ) (GD (M := zeroM) NX NX) ?_)
    intro m8 hf fo
    replace E := (E.onl (ed.noW (RF (M := zeroM) FM FM)) ⟨CQ AA, CQ AA, BX, LC AA AA, (by first | assumption | exact GO AA | exact f _ y), MT c4 GH, BX, CQ AA, CQ AA, CQ AA, CQ AA, CQ AA, CQ AA, EG AA, DR (CJ AA), IS AA, BX⟩ hf).x (cs := (HY false (.slice none 0 0) false (.slice none 0 0) zeroM)) fo
    clear ed hf fo
    refine yG ?_
    change Code.wpIn _ _ _ _ _ _ _
    refine wpIn_seq ?_
    refine wpIn_seq ?_
    refine NJ Z (fun ⟨_, _, h⟩ => h) E ([0, 1, 2, 3, 4, 5, 6, 7, 8, 9, 10, 11, 12, 13, 14, 15, 16, 17, 18]) Z Z Z Z AF ?_
    replace E := E.drew
    refine yG ?_
    change Code.wpIn _ _ _ _ _ _ _
    refine wpIn_cond_true O ?_
    refine wpIn_seq ?_
    refine ZF Z (fun ⟨_, _, h⟩ => h) ?_
    have ec := QQ E
    refine yG ?_
    replace E := NZ (NZ XQ) E
    refine yG ?_
    refine EF O (CF (v := .slice none 0 0) O Z O O O ec AH ?_)
    intro m7 he fn
    replace E := (E.onl (ec.noW (CL AH EB)) ⟨CQ AA, CQ AA, CQ AA, BX, LC AA AA, (by first | assumption | exact GO AA | exact f _ y), MT (fun h => by have := (Acc.lt (e6 E).1 h).1; omega) GH, BX, CQ AA, CQ AA, CQ AA, CQ AA, CQ AA, EG AA, DR (CJ AA), IS AA, BX⟩ he).x (cs := [.slice none 0 0]) fn
    clear ec he fn
    have eb := QQ E
    refine yG ?_
    replace E := NZ (NZ XQ) E
    refine EF O (CF (v := .int .i64 ↑N) O Z O O O eb AH ?_)
    intro m6 hd fm
    replace E := (E.onl (eb.noW (CL AH EB)) ⟨CQ AA, CQ AA, CQ AA, CQ AA, BX, LC AA AA, (by first | assumption | exact GO AA | exact f _ y), MT (fun h => by have := (Acc.lt (e7 E).1 h).1; omega) GH, BX, CQ AA, CQ AA, CQ AA, CQ AA, EG AA, DR (CJ AA), IS AA, BX⟩ hd).x (cs := [.int .i64 ↑N]) fm
    clear eb hd fm
    have ea := QQ E
    refine yG ?_
    replace E := NZ (NZ XQ) E
    refine EF O (CF (v := .int .i64 440) O Z O O O ea AH ?_)
    intro m5 hc fl
    replace E := (E.onl (ea.noW (CL AH EB)) ⟨CQ AA, CQ AA, CQ AA, CQ AA, CQ AA, BX, LC AA AA, (by first | assumption | exact GO AA | exact f _ y), MT (fun h => by have := (Acc.lt (e8 E).1 h).1; omega) GH, BX, CQ AA, CQ AA, CQ AA, EG AA, DR (CJ AA), IS AA, BX⟩ hc).x (cs := [.int .i64 440]) fl
    clear ea hc fl
    refine yG ?_
    change Code.wpIn _ _ _ _ _ _ _
    refine wpIn_ret ?_
    show KeepsOthers _ _ ∧ _
    exact ⟨(e8 E), rfl, t, ⟨(N, wd), af, Y⟩, (nd, p), rfl, J, wQ Q a3 u, zE⟩
   obtain ⟨⟨c, mm⟩, u⟩ := Option.ne_none_iff_exists'.1 u
   have c9 := iL a1 u
   obtain ⟨L, i8⟩ := jU u
   refine ZF Z (fun ⟨_, _, h⟩ => h) ?_
   refine yG ?_
   refine EF O (TT (c := c) (mm := mm) GM O (by rw [← u]; exact PE wd _ l _ (BW (iU E)) a1 hV (TI E).1) O E ?_)
   clear E
   intro m4 i3 gi i5 gg _ E
   refine yG ?_
   refine EF O (CB KP O ?_)
   intro cc m3 aq jo iz dz
   have aj : (vr : Value).ownBlock ≠ some cc := fun h => by have := (Acc.lt (e7 E).1 h).2; omega
   have k9 : R < cc := by rw [aq]; exact Bx.lt (TI E)
   have jc : W.heap.size ≤ cc := by rw [aq]; exact CR (e4 E)
   have jb : q ≤ cc := by rw [aq]; exact CR (e8 E)
   replace E := E.below iz
   clear aq jo iz
   refine yG ?_
   refine EF O (BY KP O O O dz (by first | rfl | exact CM CZ) (CM L) (GD (M := mm) (IsI.one E.1) (IsI.one E.2.1)) ?_)
   intro m2 hb fk
   replace E := (E.onl (dz.noW (RF (M := zeroM) FM FM)) ⟨BX, BX, CQ AA, CQ AA, BX, LC AA AA, (by first | assumption | exact GO AA | exact f _ y), MT aj GH, BX, CQ AA, CQ AA, CQ AA, CQ AA, CQ AA, CQ AA, EG AA, DR (CJ AA), IS AA, BX⟩ hb).x (cs := (HY i3 gi i5 gg mm)) fk
   clear dz hb fk
   refine yG ?_
   change Code.wpIn _ _ _ _ _ _ _
   refine wpIn_seq ?_
   refine wpIn_seq ?_
   refine NJ Z (fun ⟨_, _, h⟩ => h) E ([0, 1, 2, 3, 4, 5, 6, 7, 8, 9, 10, 11, 12, 13, 14, 15, 16, 17, 18]) Z Z Z Z AF ?_
   replace E := E.drew
   refine yG ?_
   change Code.wpIn _ _ _ _ _ _ _
   refine wpIn_cond_false O ?_
   refine wpIn_skip ?_
   change Code.wpIn _ _ _ _ _ _ _
   refine wpIn_seq ?_
   refine wpIn_seq ?_
   refine ZF Z (fun ⟨_, _, h⟩ => h) ?_
   refine yG ?_
   change Code.wpIn _ _ _ _ _ _ _
   refine wpIn_cond_false O ?_
   refine wpIn_skip ?_
   change Code.wpIn _ _ _ _ _ _ _
   skip
   refine ZF Z (fun ⟨_, _, h⟩ => h) ?_
   refine yG ?_
   refine EF O (DT (cs := (HY i3 gi i5 gg mm)) underlying28 KP (CM L) AE AE O O ?_)
   intro j4 m1 dd jm iy g9
   have c3 : (vr : Value).ownBlock ≠ some j4 := fun h => by have := (Acc.lt (e8 E).1 h).2; omega
   have ja : q ≤ j4 := by rw [dd]; exact CR (e9 E)
   replace E := (E.below iy).x g9
   clear dd jm iy g9
   have am := e9 E
   have i0 := Acc.nw am.1
   refine yG ?_
   replace E := dl9 E
   refine EF O (FQ (x := (c, mm)) fF O (l := p) O am.1 am.2 E (fun g y h1 h2 => ⟨CQ (fun e => c3 (e ▸ y)), CQ (fun e => aj (e ▸ y)), BX, BX, CQ AA, CQ AA, BX, LC AA AA, (by first | assumption | exact GO AA | exact f _ y), BX, CQ AA, CQ AA, CQ AA, CQ AA, CQ AA, CQ AA, EG AA, DR (CJ AA), IS AA, BX⟩) O E.1 (⟨_, _, _, _, O, E.2.2.1, e3 E, L⟩) (by have := a0; unfold maxLen; omega) (by have := a0; omega) (CR (e9 E)) ?_)
   clear E am
   intro ew m0 E
   have dy := QQ E
   refine yG ?_
   replace E := NZ (NZ XQ) E
   refine yG ?_
   refine EF O (CF (v := ew) O Z (Acc.one E.1.1) O O dy AH ?_)
   intro lz ha fj
   replace E := (E.onl (dy.noW (CL i0 EB)) ⟨MT (fun h => by have := (Acc.lt E.1.1 h).1; omega) GH, CQ AA, CQ AA, BX, BX, CQ AA, CQ AA, BX, LC AA AA, (by first | assumption | exact GO AA | exact f _ y), BX, CQ AA, CQ AA, CQ AA, CQ AA, CQ AA, EG AA, DR (CJ AA), IS AA, BX⟩ ha).x (cs := [ew]) fj
   clear dy ha fj
   refine yG ?_
   show KeepsOthers _ _ ∧ keepB _ _ _ ∧ _
   exact ⟨QM E, (e9 E).1, false, false, (p ++ [(c, mm)]), ew, by rw [JR, List.map_append, List.map_cons, List.map_nil, RM J, List.length_map, KQ, Nat.zero_add]; exact Aw Q a3 u (.inl az), fun hh => by simp at hh; omega, (by simp; omega), (by rw [List.length_append]; exact zE)⟩
  have a3 := cut_1 (nd := nd) az c8
  refine ZF Z (fun ⟨_, _, h⟩ => h) ?_
  refine yG ?_
  refine EF O (BZ JH O (Al wd _ c8) O E ?_)
  clear E
  intro mu _ E
  have em := QQ E
  refine yG ?_
  replace E := NZ (NZ XQ) E
  refine yG ?_
  refine EF O (CF (v := .bool true) O Z O O O em AH ?_)
  intro mt hq fx
  replace E := (E.onl (em.noW (CL AH EB)) ⟨CQ AA, BX, LC AA AA, (by first | assumption | exact GO AA | exact f _ y), MT (fun h => by have := (Acc.lt (e4 E).1 h).1; omega) GH, BX, CQ AA, CQ AA, CQ AA, CQ AA, CQ AA, CQ AA, EG AA, DR (CJ AA), IS AA, BX⟩ hq).x (cs := [.bool true]) fx
  clear em hq fx
  refine yG ?_
  change Code.wpIn _ _ _ _ _ _ _
  refine wpIn_seq ?_
  have a1 : (wd.tail).length ≤ 4000 := by have := Y; first | exact Y | (rw [List.length_tail]; omega)
  by_cases u : ZZ l wd.tail = none
  case pos =>
   refine ZF Z (fun ⟨_, _, h⟩ => h) ?_
   refine yG ?_
   refine EF O (TU GM O (by rw [← u]; exact PE wd.tail _ l _ (BW (iU E)) a1 hV (TI E).1) O E ?_)
   clear E
   intro ms _ E
   refine yG ?_
   refine EF O (CB KP O ?_)
   intro cf mr av js j3 el
   have c6 : (vr : Value).ownBlock ≠ some cf := fun h => by have := (Acc.lt (e5 E).1 h).2; omega
   have kd : R < cf := by rw [av]; exact Bx.lt (QQ E)
   have jj : W.heap.size ≤ cf := by rw [av]; exact CR E.2.2.1
   have ji : q ≤ cf := by rw [av]; exact CR (e6 E)
   replace E := E.below j3
   clear av js j3
   refine yG ?_
   refine EF O (BY KP O O O el (by first | rfl | exact CM CZ) (CM CZ) (GD (M := zeroM) NX NX) ?_)
   intro mq hp fw
   replace E := (E.onl (el.noW (RF (M := zeroM) FM FM)) ⟨CQ AA, CQ AA, BX, LC AA AA, (by first | assumption | exact GO AA | exact f _ y), MT c6 GH, BX, CQ AA, CQ AA, CQ AA, CQ AA, CQ AA, CQ AA, EG AA, DR (CJ AA), IS AA, BX⟩ hp).x (cs := (HY false (.slice none 0 0) false (.slice none 0 0) zeroM)) fw
   clear el hp fw
   refine yG ?_
   change Code.wpIn _ _ _ _ _ _ _
   refine wpIn_seq ?_
   refine wpIn_seq ?_
   refine NJ Z (fun ⟨_, _, h⟩ => h) E ([0, 1, 2, 3, 4, 5, 6, 7, 8, 9, 10, 11, 12, 13, 14, 15, 16, 17, 18]) Z Z Z Z AF ?_
   replace E := E.drew
   refine yG ?_
   change Code.wpIn _ _ _ _ _ _ _
   refine wpIn_cond_true O ?_
   refine wpIn_seq ?_
   refine ZF Z (fun ⟨_, _, h⟩ => h) ?_
   have ek := QQ E
   refine yG ?_
   replace E := NZ (NZ XQ) E
   refine yG ?_
   refine EF O (CF (v := .slice none 0 0) O Z O O O ek AH ?_)
   intro mp ho fv
   replace E := (E.onl (ek.noW (CL AH EB)) ⟨CQ AA, CQ AA, CQ AA, BX, LC AA AA, (by first | assumption | exact GO AA | exact f _ y), MT (fun h => by have := (Acc.lt (e6 E).1 h).1; omega) GH, BX, CQ AA, CQ AA, CQ AA, CQ AA, CQ AA, EG AA, DR (CJ AA), IS AA, BX⟩ ho).x (cs := [.slice none 0 0]) fv
   clear ek ho fv
   have ej := QQ E
   refine yG ?_
   replace E := NZ (NZ XQ) E
   refine EF O (CF (v := .int .i64 ↑N) O Z O O O ej AH ?_)
   intro mo hn fu
   replace E := (E.onl (ej.noW (CL AH EB)) ⟨CQ AA, CQ AA, CQ AA, CQ AA, BX, LC AA AA, (by first | assumption | exact GO AA | exact f _ y), MT (fun h => by have := (Acc.lt (e7 E).1 h).1; omega) GH, BX, CQ AA, CQ AA, CQ AA, CQ AA, EG AA, DR (CJ AA), IS AA, BX⟩ hn).x (cs := [.int .i64 ↑N]) fu
   clear ej hn fu
   have ei := QQ E
   refine yG ?_
   replace E := NZ (NZ XQ) E
   refine EF O (CF (v := .int .i64 440) O Z O O O ei AH ?_)
   intro mn hm ft
   replace E := (E.onl (ei.noW (CL AH EB)) ⟨CQ AA, CQ AA, CQ AA, CQ AA, CQ AA, BX, LC AA AA, (by first | assumption | exact GO AA | exact f _ y), MT (fun h => by have := (Acc.lt (e8 E).1 h).1; omega) GH, BX, CQ AA, CQ AA, CQ AA, EG AA, DR (CJ AA), IS AA, BX⟩ hm).x (cs := [.int .i64 440]) ft
   clear ei hm ft
   refine yG ?_
   change Code.wpIn _ _ _ _ _ _ _
   refine wpIn_ret ?_
   show KeepsOthers _ _ ∧ _
   exact ⟨(e8 E), rfl, t, ⟨(N, wd), af, Y⟩, (nd, p), rfl, J, wQ Q a3 u, zE⟩
  obtain ⟨⟨c, mm⟩, u⟩ := Option.ne_none_iff_exists'.1 u
  have c9 := iL a1 u
  obtain ⟨L, i8⟩ := jU u
  refine ZF Z (fun ⟨_, _, h⟩ => h) ?_
  refine yG ?_
  refine EF O (TT (c := c) (mm := mm) GM O (by rw [← u]; exact PE wd.tail _ l _ (BW (iU E)) a1 hV (TI E).1) O E ?_)
  clear E
  intro ml k5 jz k6 jy _ E
  refine yG ?_
  refine EF O (CB KP O ?_)
  intro ce mk au jr j2 eh
  have a7 : (vr : Value).ownBlock ≠ some ce := fun h => by have := (Acc.lt (e7 E).1 h).2; omega
  have kc : R < ce := by rw [au]; exact Bx.lt (TI E)
  have jh : W.heap.size ≤ ce := by rw [au]; exact CR (e4 E)
  have jg : q ≤ ce := by rw [au]; exact CR (e8 E)
  replace E := E.below j2
  clear au jr j2
  refine yG ?_
  refine EF O (BY KP O O O eh (by first | rfl | exact CM CZ) (CM L) (GD (M := mm) (IsI.one E.1) (IsI.one E.2.1)) ?_)
  intro mj hl fs
  replace E := (E.onl (eh.noW (RF (M := zeroM) FM FM)) ⟨BX, BX, CQ AA, CQ AA, BX, LC AA AA, (by first | assumption | exact GO AA | exact f _ y), MT a7 GH, BX, CQ AA, CQ AA, CQ AA, CQ AA, CQ AA, CQ AA, EG AA, DR (CJ AA), IS AA, BX⟩ hl).x (cs := (HY k5 jz k6 jy mm)) fs
  clear eh hl fs
  refine yG ?_
  change Code.wpIn _ _ _ _ _ _ _
  refine wpIn_seq ?_
  refine wpIn_seq ?_
  refine NJ Z (fun ⟨_, _, h⟩ => h) E ([0, 1, 2, 3, 4, 5, 6, 7, 8, 9, 10, 11, 12, 13, 14, 15, 16, 17, 18]) Z Z Z Z AF ?_
  replace E := E.drew
  refine yG ?_
  change Code.wpIn _ _ _ _ _ _ _
  refine wpIn_cond_false O ?_
  refine wpIn_skip ?_
  change Code.wpIn _ _ _ _ _ _ _
  refine wpIn_seq ?_
  refine wpIn_seq ?_
  refine ZF Z (fun ⟨_, _, h⟩ => h) ?_
  refine yG ?_
  change Code.wpIn _ _ _ _ _ _ _
  refine wpIn_cond_true O ?_
  refine ZF Z (fun ⟨_, _, h⟩ => h) ?_
  refine yG ?_
  refine V O O (CD GV O O (Cs.sub (Bx.cs E.1) 0 (FG _ _ _ _ _)) O) ?_
  refine yG ?_
  refine EF O (CV NH O (Eb _ _ _ _ c _ E.2.1 E.2.2.1 (FitQ.mono c9 AE)) O E ?_)
  clear E
  intro mi f3 ez f4 ey _ E
  have eg := E.2.2.1
  refine yG ?_
  replace E := mC E
  refine yG ?_
  refine EF O (MD (cs' := (HY f3 ez f4 ey mm)) GV O O O eg O (by rw [CM L]; decide) (MH (IsI.one E.2.1) (IsI.one E.1)) O ?_)
  intro mh hk fr
  replace E := (E.onl (eg.noW (RF (M := mm) (IsI.now E.2.2.1) (IsI.now (e3 E)))) ⟨BX, BX, BX, BX, CQ AA, CQ AA, BX, LC AA AA, (by first | assumption | exact GO AA | exact f _ y), MT a7 GH, BX, CQ AA, CQ AA, CQ AA, CQ AA, CQ AA, CQ AA, EG AA, DR (CJ AA), IS AA, BX⟩ hk).x (cs := (HY f3 ez f4 ey mm)) fr
  clear eg hk fr
  refine yG ?_
  change Code.wpIn _ _ _ _ _ _ _
  skip
  refine ZF Z (fun ⟨_, _, h⟩ => h) ?_
  refine yG ?_
  refine EF O (DT (cs := (HY f3 ez f4 ey mm)) underlying28 KP (CM L) AE AE O O ?_)
  intro j5 mg de jq j1 ga
  have c5 : (vr : Value).ownBlock ≠ some j5 := fun h => by have := (Acc.lt (QM E).1 h).2; omega
  have jf : q ≤ j5 := by rw [de]; exact CR (QQ E)
  replace E := (E.below j1).x ga
  clear de jq j1 ga
  have an := QQ E
  have i1 := Acc.nw an.1
  refine yG ?_
  replace E := NZ (NZ XQ) E
  refine EF O (FQ (x := ((-c), mm)) fF O (l := p) O an.1 an.2 E (fun g y h1 h2 => ⟨CQ (fun e => c5 (e ▸ y)), CQ (fun e => a7 (e ▸ y)), BX, BX, BX, BX, CQ AA, CQ AA, BX, LC AA AA, (by first | assumption | exact GO AA | exact f _ y), BX, CQ AA, CQ AA, CQ AA, CQ AA, CQ AA, CQ AA, EG AA, DR (CJ AA), IS AA, BX⟩) O E.1 (⟨_, _, _, _, O, e3 E, E.2.2.1, L⟩) (by have := a0; unfold maxLen; omega) (by have := a0; omega) (CR (QQ E)) ?_)
  clear E an
  intro ex mf E
  have ef := TI E
  refine yG ?_
  replace E := NZ (NZ Iz) E
  refine yG ?_
  refine EF O (CF (v := ex) O Z (Acc.one E.1.1) O O ef AH ?_)
  intro md hj fq
  replace E := (E.onl (ef.noW (CL i1 EB)) ⟨MT (fun h => by have := (Acc.lt E.1.1 h).1; omega) GH, CQ AA, CQ AA, BX, BX, BX, BX, CQ AA, CQ AA, BX, LC AA AA, (by first | assumption | exact GO AA | exact f _ y), BX, CQ AA, CQ AA, CQ AA, CQ AA, CQ AA, EG AA, DR (CJ AA), IS AA, BX⟩ hj).x (cs := [ex]) fq
  clear ef hj fq
  refine yG ?_
  show KeepsOthers _ _ ∧ keepB _ _ _ ∧ _
  exact ⟨QP E, (QQ E).1, true, false, (p ++ [((-c), mm)]), ex, by rw [JR, List.map_append, List.map_cons, List.map_nil, RM J, List.length_map, KQ, Nat.zero_add]; exact Aw Q a3 u (.inl az), fun hh => by simp at hh; omega, (by simp; omega), (by rw [List.length_append]; exact zE)⟩
 case done =>
  rintro D xs W hD hS ⟨ng, nd, p, vr, J, I, ki, E⟩ hK
  change Code.wp _ _ _ ⟨#[.string (bs s), .slice aa l.length U, undef, .pointer (some ⟨b1, 0, none⟩), .pointer (some ⟨b2, 0, none⟩), .pointer (some ⟨b3, 0, none⟩), .pointer (some ⟨b4, 0, none⟩), .pointer (some ⟨ae, 0, none⟩), .pointer (some ⟨ad, 0, none⟩), .pointer (some ⟨ac, 0, none⟩), undef, undef, undef, undef, .slice aa l.length U, .bool true, .bool false, .string (bs s), .int .i64 ↑s.length, .bool false, .string (bs s), .bool false, .string (bs s), .func (.func 85) #[] #[.pointer (some ⟨R, 0, none⟩)], undef, undef, undef, undef, undef, undef, undef, undef, undef, undef, undef, undef, undef, undef, undef, undef, undef, undef, undef, undef, undef, undef, undef, undef, undef, undef, undef, undef, undef, undef, undef, undef, undef, undef, undef, undef, undef, undef, undef, undef, undef, undef, undef, undef, undef, undef, undef, undef, undef, undef, undef, undef, undef, undef, undef, undef, undef, undef, undef, undef, undef, undef, undef, undef, undef], [{ target := .collected D, args := #[] }]⟩ _
  replace E := E.df hK
  rw [← ah] at hD
  obtain ⟨t, rfl⟩ : ∃ t, t = xs := ⟨_, rfl⟩
  by_cases ic : t.length % 2 = 0
  case neg =>
   refine yG ?_
   refine RLd ?_
   refine yG ?_
   refine V (v := .int .i64 ↑(t.length % 2)) O O (DZ O O O AE (Av _)) ?_
   refine yG ?_
   refine RLd ?_
   have ba := e6 E
   refine yG ?_
   replace E := uY E
   refine yG ?_
   refine EF O (CF (v := vr) O Z (Acc.one E.2.1.1) O O ba AH ?_)
   intro kv cz cm
   replace E := oY E ba cz cm (ds := [vr])
   clear ba cz cm
   have b9 := e6 E
   refine yG ?_
   replace E := uY E
   refine EF O (CF (v := .int .i64 0) O Z O O O b9 AH ?_)
   intro ku cy ck
   replace E := oY E b9 cy ck (ds := [.int .i64 0])
   clear b9 cy ck
   have b8 := e6 E
   refine yG ?_
   replace E := uY E
   refine EF O (CF (v := .int .i64 0) O Z O O O b8 AH ?_)
   intro kt cx cj
   replace E := oY E b8 cx cj (ds := [.int .i64 0])
   clear b8 cx cj
   have C := (e3 E).1
   refine yG ?_
   replace E := Iz E
   replace E := E.put C ⟨IT E.1 (FK C), IT E.2.1 (FK C), IT E.2.2.1 (FK C), Lp (e3 E).1 (FK C), BX, IT (e5 E) (FK C), IT (e6 E) (FK C), IT (e7 E) (FK C), IT (e8 E) (FK C), IT (e9 E) (FK C), EG AA, DR (CJ AA), IS AA, BX⟩
   have gw := IR MA E.2.2.1
   have gv := IR DA E.2.1
   have gu := IR KB E.1
   exact aR (v := .tuple #[vr, .int .i64 0, .int .i64 0]) C rfl (by simp [results, results13, asAddr, gw, gv, gu]) (by rw [show FC l s = (p, 0, 0) from by rw [tP hV ag b0 hS J, if_neg (by rw [KQ]; exact ic)]]; exact ⟨_, rfl, ⟨_, rfl, mB (e3 E).1 AA⟩, QP E⟩)
  refine yG ?_
  refine RLd ?_
  refine yG ?_
  refine V (v := .int .i64 ↑(t.length % 2)) O O (DZ O O O AE (Av _)) ?_
  refine yG ?_
  refine RLd ?_
  have bd := e6 E
  refine yG ?_
  replace E := uY E
  refine yG ?_
  refine EF O (CF (v := .slice none 0 0) O Z O O O bd AH ?_)
  intro kz d7 cp
  replace E := oY E bd d7 cp (ds := [.slice none 0 0])
  clear bd d7 cp
  have bc := e6 E
  refine yG ?_
  replace E := uY E
  refine EF O (CF (v := .int .i64 ↑(s.length + 1)) O Z O O O bc AH ?_)
  intro ky d6 co
  replace E := oY E bc d6 co (ds := [.int .i64 ↑(s.length + 1)])
  clear bc d6 co
  have bb := e6 E
  refine yG ?_
  replace E := uY E
  refine EF O (CF (v := .int .i64 440) O Z O O O bb AH ?_)
  intro kx d0 cn
  replace E := oY E bb d0 cn (ds := [.int .i64 440])
  clear bb d0 cn
  have F := (e3 E).1
  refine yG ?_
  replace E := Iz E
  replace E := E.put F ⟨IT E.1 (FK F), IT E.2.1 (FK F), IT E.2.2.1 (FK F), Lp (e3 E).1 (FK F), BX, IT (e5 E) (FK F), IT (e6 E) (FK F), IT (e7 E) (FK F), IT (e8 E) (FK F), IT (e9 E) (FK F), EG AA, DR (CJ AA), IS AA, BX⟩
  have gz := IR MA E.2.2.1
  have gy := IR DA E.2.1
  have gx := IR KB E.1
  exact aR (v := .tuple #[.slice none 0 0, .int .i64 ↑(s.length + 1), .int .i64 440]) F rfl (by simp [results, results13, asAddr, gz, gy, gx]) (by rw [show FC l s = ([], s.length + 1, 440) from by rw [tP hV ag b0 hS J, if_pos (by rw [KQ]; exact ic)]]; exact ⟨_, rfl, ⟨_, rfl, IsR.nil _ _ _⟩, QP E⟩)
 case stop =>
  rintro D c t W hD km ⟨rfl, a4, x, st, rfl, J, I, E⟩ hK
  rw [← ah] at hD
  refine wpIn_ret ?_
  obtain ⟨lc, bt⟩ := km
  rw [JR, List.append_assoc] at bt
  replace E := E.put hK ⟨IT E.1 (FK hK), IT E.2.1 (FK hK), IT E.2.2.1 (FK hK), IS AA, BX⟩
  have gs := IR MA E.1
  have gq := IR DA E.2.1
  have gp := IR KB E.2.2.1
  exact aR (v := .tuple #[.slice none 0 0, .int .i64 ↑x.1.1, .int .i64 440]) hK rfl (by simp [results, results13, asAddr, gs, gq, gp]) (by rw [show FC l s = ([], x.1.1, 440) from Ku hV ag b0 bt J (by rw [KQ]; exact I)]; exact ⟨_, rfl, ⟨_, rfl, IsR.nil _ _ _⟩, e3 E⟩)
end Go.Proofs.YtmppigbbkjepiaaGreatDoor
