/- Helping facts of Read3; no other conditions. -/
import Derived.Test.YtmppigbbkjepiaaGreatDoorRdL
namespace Go.Proofs.YtmppigbbkjepiaaGreatDoor
open Go.Proofs.Tryz
open Go.RowKit W
variable {A W w : World} {D T b r sb : Nat} {K : Act -> World -> Prop} {L : List SF} {P : Program} {Q : Exit -> Act -> World -> Prop} {a : Act} {args : List Operand} {c : Rat} {m : List Nat} {o : Oper} {p : Prop} {sg : Bool} {tys : Array TypeId} {v : Value} {vs : List Value}
theorem Y7R (h : p := by have := X; omega) : p := h
theorem YpG (h : p := by rw [<- t]; exact QA wd.tail _ l _ (BW (iI E)) Y hV (WP E).1) : p := h
theorem Yir (h : p := by simp; omega) : p := h
theorem Yjk (h : p := by have := X; unfold maxLen; omega) : p := h
theorem Y60 (h : p := by first | rfl | exact CM DH) : p := h
theorem YIr (h : p := by first | assumption | exact HH AA | exact hkA _ hg) : p := h
theorem YIt (h : p := by rw [<- t]; exact QA wd _ l _ (BW (iI E)) Y hV (WP E).1) : p := h
theorem YwF (h : p := by rw [List.length_append]; exact zE) : p := h
theorem YLY (h : p := by simp [results, results13, asAddr, r1, r2, r3]) : p := h
theorem ZXa (h : p := by
 clear E
 intro m8 _ E
 refine yG ?_
 refine EF O (CB KL O ?_)
 intro c8 m7 an ji ip dy
 have iy : (vr : Value).ownBlock ≠ some c8 := fun h => by have := (Acc.lt (e5 E).1 h).2; omega
 have k6 : P < c8 := by rw [an]; exact Bx.lt (RJ E)
 have j8 : W.heap.size <= c8 := by rw [an]; exact CR E.2.2.1
 have j7 : f <= c8 := by rw [an]; exact CR (e6 E)
 replace E := E.below ip
 clear an ji ip
 refine yG ?_
 refine EF O (BY KL O O O dy Y60 (CM DH) (GM (M := zeroM) OQ OQ) ?_)
 intro m6 h8 fh
 replace E := oY E dy h8 fh (ds := (IJ false (.slice none 0 0) false (.slice none 0 0) zeroM))
 clear dy h8 fh
 refine yG ?_
 change Code.wpIn _ _ _ _ _ _ _
 refine wpIn_seq ?_
 refine wpIn_seq ?_
 refine OC Z (fun ⟨_, _, h⟩ => h) E ([0, 1, 2, 3, 4, 5, 6, 7, 8, 9, 10, 11, 12, 13, 14, 15, 16, 17, 18]) Z Z Z Z AF ?_
 replace E := E.drew
 refine yG ?_
 change Code.wpIn _ _ _ _ _ _ _
 refine wpIn_cond_true O ?_
 refine wpIn_seq ?_
 refine aP Z (fun ⟨_, _, h⟩ => h) ?_
 have dx := RJ E
 refine yG ?_
 replace E := OS (OS XS) E
 refine yG ?_
 refine EF O (CG (v := .slice none 0 0) O Z O O O dx AH ?_)
 intro m5 h7 fg
 replace E := oY E dx h7 fg (ds := [.slice none 0 0])
 clear dx h7 fg
 have dw := RJ E
 refine yG ?_
 replace E := OS (OS XS) E
 refine EF O (CG (v := .int .i64 ↑J) O Z O O O dw AH ?_)
 intro m4 h6 ff
 replace E := oY E dw h6 ff (ds := [.int .i64 ↑J])
 clear dw h6 ff
 have dv := RJ E
 refine yG ?_
 replace E := OS (OS XS) E
 refine EF O (CG (v := .int .i64 440) O Z O O O dv AH ?_)
 intro m3 h5 fe
 replace E := oY E dv h5 fe (ds := [.int .i64 440])
 clear dv h5 fe
 refine yG ?_
 change Code.wpIn _ _ _ _ _ _ _
 refine wpIn_ret ?_
 show KeepsOthers _ _ /\ _
 exact ⟨(e8 E), rfl, q, ⟨(J, wd), ab, U⟩, (nd, p), rfl, H, Af N a0 t, zE⟩
 ) : p := h
attribute [local go_sem] Oper.semAt_some
theorem JI {w : World} (hT : ∀ w, (isAgg T).run prog w = .ok false w) (hb : Bx w b T [v]) : (loadVar T ⟨b, 0, none⟩).run prog w = .ok v w := by
 have e : w.cell? ⟨b, 0, none⟩ = some v := by rw [hb.cell]; rfl
 simp [loadVar, hT, e]
theorem JJ {cs : List Value} (h : Bx A b T cs) (hr : ∃ o : Obj, A.heap[r]? = some o /\ o.isCells = false) : (fX b T cs).ok r := by
 obtain ⟨o, f, k⟩ := hr
 refine CT fun e => ?_
 subst e
 unfold Bx at h
 rw [h] at f; cases f; cases k
theorem Nt {α : Type} {e : El α} {t base : Nat} {l : List α} (h : Acc e t base VH A v l) (hr : ∃ o : Obj, A.heap[r]? = some o /\ o.isCells = false) : (fA e t base VH v l).ok r := by
 obtain ⟨o, k, f⟩ := hr
 refine NK (fun e => ?_) GI
 have := Xf h e o k
 rw [this] at f; cases f
def kbS (sb : Nat) : Nat -> Prop := fun k => k < 2 ∨ k = sb
def fKB (W : World) (sb : Nat) : SF := fD (kbS sb) (keepB sb W) (fun _ _ h hk => fun k hs => (hk.block k hs).trans (h k hs))
theorem LS {c : Nat} (h : 2 <= c) (h2 : c ≠ sb) : (fKB W sb).ok c := by rintro (g | g); omega; exact h2 g
theorem Env.kb (E : Env W L) (h : sb < W.heap.size) (h2 : 2 <= W.heap.size) : Env W (fKB W sb :: L) := ⟨⟨fun _ _ => rfl, fun k hk => by rcases hk with g | g <;> omega⟩, E⟩
def fDf (D : Nat) : SF := fD (fun k => k = D) (fun w => w.heap[D]? = some (.deferred (some []))) (fun _ _ h hk => (hk.block D rfl).trans h)
theorem okDf {c : Nat} (h : c ≠ D) : (fDf D).ok c := h
theorem Env.df (E : Env W L) (h : W.heap[D]? = some (.deferred (some []))) : Env W (fDf D :: L) := ⟨⟨h, fun k hk => by subst hk; exact (Array.getElem?_eq_some_iff.1 h).1⟩, E⟩
theorem FU (h : W.heap[D]? = some (.deferred (some []))) : ∃ o : Obj, W.heap[D]? = some o /\ o.isCells = false := ⟨_, h, rfl⟩
theorem Env.put (E : Env W L) (h : W.heap[D]? = some (.deferred (some []))) (hok : Ok D L) : Env (W.putObj D (.deferred none)) L := E.turn (grownBy_putObj' W D _) (fun r e => by cases e; exact FU h) (fun r e => by cases e; exact hok)
theorem Ds (a : Nat) : ((a : Nat) : Int).tmod 2 = ((a % 2 : Nat) : Int) := (Int.ofNat_tmod a 2).symm
theorem Yf {l : List Bs} {s : Bs} (h : DL 8 l = false) : GO l s = ([], 0, 1) := by unfold GO; rw [if_pos h]
theorem Ye {l : List Bs} {s : Bs} (h : DL 8 l = true) (h2 : 4000 < s.length) : GO l s = ([], 0, 2) := by unfold GO; rw [if_neg (by rw [h]; decide), if_pos h2]
theorem Yd {l : List Bs} {s : Bs} (h : DL 8 l = true) (h2 : s = [48]) : GO l s = ([], 0, 0) := by unfold GO; subst h2; rw [if_neg (by rw [h]; decide), if_neg AE, if_pos rfl]
theorem Lp {l : List Bs} {i : Nat} {st st' : iM} {w : Bs} (h : HO l i st w = some st') : st'.2.length = st.2.length + (if i % 2 = 1 then 0 else 1) := by
 unfold HO at h
 split at h
 . rename_i hi
   rw [if_pos hi]
   split at h
   . simp only [Option.some.injEq] at h; subst h; rfl
   cases h
 rename_i hi
 rw [if_neg hi]
 cases e : bL l (OT i st.1 w).1 with
 | none => simp [e] at h
 | some t =>
   obtain ⟨c, m⟩ := t
   simp only [e] at h
   split at h
   . cases h
   simp only [Option.some.injEq] at h; subst h; simp
theorem Mh {l : List Bs} : ∀ {ws : List Bs} {i : Nat} {st st' : iM}, uZ l i st ws = some st' -> i % 2 = 0 -> st.2.length = i / 2 -> st'.2.length = (i + ws.length + 1) / 2
 | ws, i, st, st', h, hi, hl => by
   have key : ∀ (ws : List Bs) (i : Nat) (st : iM), uZ l i st ws = some st' -> st.2.length = (i + 1) / 2 -> st'.2.length = (i + ws.length + 1) / 2 := by
    intro ws
    induction ws with
    | nil => intro i st h hl; simp only [uZ, Option.some.injEq] at h; subst h; simpa using hl
    | cons w ws ih =>
      intro i st h hl
      simp only [uZ] at h
      cases e : HO l i st w with
      | none => rw [e] at h; cases h
      | some st2 =>
        rw [e] at h
        have := ih (i + 1) st2 h (by have := Lp e; split at this <;> omega)
        simp only [List.length_cons]; omega
   exact key ws i st h AA
theorem Dm : ∀ (k : Nat) (ws : List Bs), (gQ k ws).length = ws.length
 | _, [] => rfl
 | k, w :: ws => by simp only [gQ, List.length_cons]; rw [Dm]
section
variable {l : List Bs} {i : Nat} {nd : Bool} {p : List Tm} {wd : Bs}
theorem Sq (h : i % 2 = 1) (hw : wd = [43]) : HO l i (nd, p) wd = some (false, p) := by unfold HO; rw [if_pos h, if_pos (.inl hw)]; subst hw; rfl
theorem Lz (h : i % 2 = 1) (hw : wd = [45]) : HO l i (nd, p) wd = some (true, p) := by unfold HO; rw [if_pos h, if_pos (.inr hw)]; subst hw; rfl
theorem Yc (h : i % 2 = 1) (h1 : ¬ wd = [43]) (h2 : ¬ wd = [45]) : HO l i (nd, p) wd = none := by unfold HO; rw [if_pos h, if_neg (by rintro (g | g); exact h1 g; exact h2 g)]
theorem Af {cw : Bs} (h : ¬ i % 2 = 1) (hcs : OT i nd wd = (cw, sg)) (hr : bL l cw = none) : HO l i (nd, p) wd = none := by unfold HO; rw [if_neg h]; simp only [hcs, hr]
theorem Sg {cw : Bs} (h : ¬ i % 2 = 1) (hcs : OT i nd wd = (cw, sg)) (hr : bL l cw = some (c, m)) (h0 : ¬ i = 0) (hc : 0 <= ES m (eL p)) : HO l i (nd, p) wd = none := by unfold HO; rw [if_neg h]; simp only [hcs, hr]; rw [if_pos ⟨h0, hc⟩]
theorem Dt {cw : Bs} (h : ¬ i % 2 = 1) (hcs : OT i nd wd = (cw, sg)) (hr : bL l cw = some (c, m)) (h0 : i = 0 ∨ ¬ 0 <= ES m (eL p)) : HO l i (nd, p) wd = some (false, p ++ [(Av sg c, m)]) := by unfold HO; rw [if_neg h]; simp only [hcs, hr]; rw [if_neg (by rintro ⟨g1, g2⟩; rcases h0 with g | g; exact g1 g; exact g g2)]
theorem cut_1 (h : i = 0) (hh : wd.head? = some 45) : OT i nd wd = (wd.tail, true) := by unfold OT; rw [if_pos h, if_pos hh]
theorem cut_2 (h : i = 0) (hh : ¬ wd.head? = some 45) : OT i nd wd = (wd, false) := by unfold OT; rw [if_pos h, if_neg hh]
theorem cut_3 (h : ¬ i = 0) : OT i nd wd = (wd, nd) := by unfold OT; rw [if_neg h]
theorem Ox (h : p[p.length - 1]? = some (c, m)) : eL p = m := by unfold eL; rw [List.getLast?_eq_getElem?, h]; rfl
end
theorem Dk (wd : Bs) (w : World) (h : wd.head? = some 45) : Calls prog 41 #[.string (bs wd), .string (bs [45])] w (FI w (.tuple #[.string (bs wd.tail), .bool true])) := by
 have := UN wd [45] w
 cases wd with
 | nil => cases h
 | cons a r =>
   simp at h; subst h
   have e1 : Lib.trimPrefix (45 :: r) [45] = r := by simp [Lib.trimPrefix, Lib.hasPrefix]
   have e2 : Lib.hasPrefix (45 :: r) [45] = true := by simp [Lib.hasPrefix]
   rwa [e1, e2] at this
theorem Kr (wd : Bs) (w : World) (h : ¬ wd.head? = some 45) : Calls prog 41 #[.string (bs wd), .string (bs [45])] w (FI w (.tuple #[.string (bs wd), .bool false])) := by
 have := UN wd [45] w
 have e2 : Lib.hasPrefix wd [45] = false := by
  cases wd with
  | nil => rfl
  | cons a r => simp at h; simp [Lib.hasPrefix, List.isPrefixOf]; exact fun g => h g.symm
 have e1 : Lib.trimPrefix wd [45] = wd := by simp [Lib.trimPrefix, e2]
 rwa [e1, e2] at this
theorem pT {y : Operand} {s : Bs}
 (ho : o.op = .call { callee := .value (.func 40), args := [y].toArray, argTypes := tys }) (hy : a.eval y = .string (bs s))
 (h : ∀ b w', b = w.heap.size -> w'.heap.size = w.heap.size + 1 -> Below w.heap.size w w' -> Bx w' b 9 [.string (bs s)] -> K (a.put o.dst (.func (.func 85) #[] #[.pointer (some ⟨b, 0, none⟩)])) w') : o.wp prog a w K Q := by
 refine DG ⟨_, func40, by kernel_rfl, O⟩ ho (Sa s w) (by simp [hy]) ?_
 rintro e w' ⟨rfl, rfl⟩
 exact ⟨_, rfl, h _ _ rfl AH ((Below.refl _ _).alloc (Nat.le_refl _) _) (JD w 9 [.string (bs s)])⟩
theorem UU {f : Nat} {mm : List Nat} (hf : Fn P f)
 (ho : o.op = .call { callee := .value (.func f), args := args.toArray, argTypes := tys }) (hc : Calls P f vs.toArray w (Rc w (some (c, mm)))) (hv : args.map a.eval = vs) (E : Env w L)
 (h : ∀ w' n s m u, Below w.heap.size w w' -> Env w' (fI (.agg #[.bool n, s]) c.num :: fI (.agg #[.bool m, u]) ((c.den : Nat) : Int) :: L) -> K (a.put o.dst (.tuple #[.agg (IJ n s m u mm).toArray, .bool true])) w') : o.wp P a w K Q := by
 refine DG hf ho hc hv ?_
 rintro e w' ⟨n, s, m, u, rfl, p, l, k⟩
 exact ⟨_, rfl, h w' n s m u k (((E.below k).i l).i p)⟩
theorem UV {f : Nat} (hf : Fn P f)
 (ho : o.op = .call { callee := .value (.func f), args := args.toArray, argTypes := tys }) (hc : Calls P f vs.toArray w (Rc w none)) (hv : args.map a.eval = vs) (E : Env w L)
 (h : ∀ w', Below w.heap.size w w' -> Env w' L -> K (a.put o.dst (.tuple #[.agg (IJ false (.slice none 0 0) false (.slice none 0 0) zeroM).toArray, .bool false])) w') : o.wp P a w K Q := by
 refine DG hf ho hc hv ?_
 rintro e w' ⟨rfl, k⟩
 exact ⟨_, rfl, h w' k (E.below k)⟩
set_option maxRecDepth 100000 in
set_option maxHeartbeats 8000000 in
theorem uO (s : Bs) (vl : Value) (l : List Bs) (w : World) (hRl : IsR elS (CX w.heap.size) w vl l) (hLl : l.length <= 1000000) (hs : s.length <= 1000000) (hG : Glob w) :
 Calls prog 13 #[.string (bs s), vl] w (Xo w (GO l s)) := by
 have E := Env.start w
 obtain ⟨a6, R, rfl, Y, ne⟩ := hRl.shp
 replace E := E.r hRl (DF _)
 clear hRl
 have no := hG.two
 replace E := E.gl hG
 refine callsIn_wide.1 (callsIn_of_wp_marks (n := 5) func13 O trivial (wpIn_wide.2 ?_) O)
 simp only [ntmps13, List.size_toArray, List.length_cons, List.length_nil, Nat.reduceAdd, Nat.reduceSub, Array.replicate_succ, Array.replicate_zero, List.push_toArray, List.append_toArray, List.nil_append, List.cons_append]
 refine yG ?_
 refine EF O (uW (v := .slice a6 l.length R) O O O ?_)
 intro b1 w1 ij z1 d1 x1
 have l1 : w.heap.size <= b1 := by rw [ij]; exact E.2.2.1.size
 replace E := (E.below d1).x x1
 clear ij z1 d1 x1
 refine yG ?_
 refine EF O (KK (z := .slice none 0 0) Z O O ?_)
 intro b2 w2 ii z2 d2 Q
 have ld : b1 < b2 := by rw [ii]; exact Bx.lt E.1
 replace E := E.below d2
 clear ii z2 d2
 refine yG ?_
 refine EF O (KK (z := .int .i64 0) Z O O ?_)
 intro b3 w3 ih z3 d3 L
 have lc : b2 < b3 := by rw [ih]; exact Bx.lt (Q)
 replace E := E.below d3
 replace Q := Bx.below Q d3
 clear ih z3 d3
 refine yG ?_
 refine EF O (KK (z := .int .i64 0) Z O O ?_)
 intro b4 w4 ig z4 d4 F
 have la : b3 < b4 := by rw [ig]; exact Bx.lt (L)
 replace E := E.below d4
 replace Q := Bx.below Q d4
 replace L := Bx.below L d4
 clear ig z4 d4
 by_cases hV : DL 8 l = true
 case neg =>
  refine yG ?_
  refine EF O (CA KH O (CU (DE hV) (YT _ l _ (BW E.2.2.1) hLl)) O E ?_)
  clear E
  intro km aq E
  replace Q := Q.below aq
  replace L := L.below aq
  replace F := F.below aq
  clear aq
  refine yG ?_
  refine EF O (CG (v := .slice none 0 0) O Z O O O Q AH ?_)
  intro kl ae cd
  replace E := oY E Q ae cd (ds := [.slice none 0 0])
  replace L := Bx.onl L AA ae
  replace F := Bx.onl F AA ae
  clear Q ae cd
  refine yG ?_
  refine EF O (CG (v := .int .i64 0) O Z O O O L AH ?_)
  intro kk bj cc
  replace E := oY E L bj cc (ds := [.int .i64 0])
  replace F := Bx.onl F AA bj
  clear L bj cc
  refine yG ?_
  refine EF O (CG (v := .int .i64 1) O Z O O O F AH ?_)
  intro kj cq cb
  replace E := oY E F cq cb (ds := [.int .i64 1])
  clear F cq cb
  have r1 := JI MN E.2.2.1
  have r2 := JI CW E.2.1
  have r3 := JI KO E.1
  refine yG ?_
  exact iL (v := .tuple #[.slice none 0 0, .int .i64 0, .int .i64 1]) YLY rfl (by rw [show GO l s = ([], 0, 1) from Yf (DE hV)]; exact ⟨_, rfl, ⟨_, rfl, IsR.nil _ _ _⟩, e6 E⟩)
 refine yG ?_
 refine EF O (CA KH O (CU hV (YT _ l _ (BW E.2.2.1) hLl)) O E ?_)
 clear E
 intro w5 d5 E
 replace Q := Q.below d5
 replace L := L.below d5
 replace F := F.below d5
 clear d5
 by_cases nh : ((s.length : Nat) : Int) > 4000
 case pos =>
  refine yG ?_
  refine EF O (CG (v := .slice none 0 0) O Z O O O Q AH ?_)
  intro w6 o6 y6
  replace E := oY E Q o6 y6 (ds := [.slice none 0 0])
  replace L := Bx.onl L AA o6
  replace F := Bx.onl F AA o6
  clear Q o6 y6
  refine yG ?_
  refine EF O (CG (v := .int .i64 0) O Z O O O L AH ?_)
  intro w7 o7 y7
  replace E := oY E L o7 y7 (ds := [.int .i64 0])
  replace F := Bx.onl F AA o7
  clear L o7 y7
  refine yG ?_
  refine EF O (CG (v := .int .i64 2) O Z O O O F AH ?_)
  intro w8 o8 y8
  replace E := oY E F o8 y8 (ds := [.int .i64 2])
  clear F o8 y8
  have r1 := JI MN E.2.2.1
  have r2 := JI CW E.2.1
  have r3 := JI KO E.1
  refine yG ?_
  exact iL (v := .tuple #[.slice none 0 0, .int .i64 0, .int .i64 2]) YLY rfl (by rw [show GO l s = ([], 0, 2) from Ye hV AA]; exact ⟨_, rfl, ⟨_, rfl, IsR.nil _ _ _⟩, e6 E⟩)
 have ac : ¬ 4000 < s.length := by omega
 by_cases aw : s = [48]
 case pos =>
  refine yG ?_
  refine V O O (FT (a := s) (b := [48]) (c := true) O O O (by rw [beq_iff_eq]; exact aw)) ?_
  refine yG ?_
  refine EF O (CG (v := .slice none 0 0) O Z O O O Q AH ?_)
  intro n6 bv g1
  replace E := oY E Q bv g1 (ds := [.slice none 0 0])
  replace L := Bx.onl L AA bv
  replace F := Bx.onl F AA bv
  clear Q bv g1
  refine yG ?_
  refine EF O (CG (v := .int .i64 0) O Z O O O L AH ?_)
  intro n5 ev g0
  replace E := oY E L ev g0 (ds := [.int .i64 0])
  replace F := Bx.onl F AA ev
  clear L ev g0
  refine yG ?_
  refine EF O (CG (v := .int .i64 0) O Z O O O F AH ?_)
  intro n4 hq fz
  replace E := oY E F hq fz (ds := [.int .i64 0])
  clear F hq fz
  have r1 := JI MN E.2.2.1
  have r2 := JI CW E.2.1
  have r3 := JI KO E.1
  refine yG ?_
  exact iL (v := .tuple #[.slice none 0 0, .int .i64 0, .int .i64 0]) YLY rfl (by rw [show GO l s = ([], 0, 0) from Yd hV aw]; exact ⟨_, rfl, ⟨_, rfl, IsR.nil _ _ _⟩, e6 E⟩)
 refine yG ?_
 refine V O O (FT (a := s) (b := [48]) (c := false) O O O (by rw [beq_eq_false_iff_ne]; exact aw)) ?_
 refine yG ?_
 refine EF O (KK (z := .slice none 0 0) Z O O ?_)
 intro aa n3 dd jq bt T
 have kd : b4 < aa := by rw [dd]; exact Bx.lt (F)
 replace E := E.below bt
 replace Q := Bx.below Q bt
 replace L := Bx.below L bt
 replace F := Bx.below F bt
 clear dd jq bt
 refine yG ?_
 refine EF O (KK (z := .int .i64 0) Z O O ?_)
 intro a9 n2 dc jp az ep
 have kc : aa < a9 := by rw [dc]; exact Bx.lt (T)
 replace E := E.below az
 replace Q := Bx.below Q az
 replace L := Bx.below L az
 replace F := Bx.below F az
 replace T := Bx.below T az
 clear dc jp az
 refine yG ?_
 refine EF O (CG (v := .int .i64 0) O Z O O O ep AH ?_)
 intro n1 au fy
 replace E := oY E ep au fy (ds := [.int .i64 0])
 replace Q := Bx.onl Q AA au
 replace L := Bx.onl L AA au
 replace F := Bx.onl F AA au
 replace T := Bx.onl T AA au
 clear ep au fy
 refine yG ?_
 refine EF O (KK (z := .bool false) Z O O ?_)
 intro a8 n0 db jo ay eo
 have ka : a9 < a8 := by rw [db]; exact Bx.lt E.1
 replace E := E.below ay
 replace Q := Bx.below Q ay
 replace L := Bx.below L ay
 replace F := Bx.below F ay
 replace T := Bx.below T ay
 clear db jo ay
 refine yG ?_
 refine EF O (CG (v := .bool false) O Z O O O eo AH ?_)
 intro mz ar fx
 replace E := oY E eo ar fx (ds := [.bool false])
 replace Q := Bx.onl Q AA ar
 replace L := Bx.onl L AA ar
 replace F := Bx.onl F AA ar
 replace T := Bx.onl T AA ar
 clear eo ar fx
 refine yG ?_
 refine EF O (pT (s := s) O O ?_)
 intro P g5 da jm ax g4
 have k9 : a8 < P := by rw [da]; exact Bx.lt E.1
 replace E := E.below ax
 replace Q := Bx.below Q ax
 replace L := Bx.below L ax
 replace F := Bx.below F ax
 replace T := Bx.below T ax
 clear da jm ax
 replace E := E.x g4
 clear g4
 replace E := E.x Q
 clear Q
 replace E := E.x L
 clear L
 replace E := E.x F
 clear F
 replace E := E.x T
 clear T
 obtain ⟨f, C⟩ : ∃ n, n = g5.heap.size := ⟨_, rfl⟩
 have kg : w.heap.size <= f := by rw [C]; exact (RA E).size
 have id : aa < f := by rw [C]; exact Bx.lt E.1
 have ic : b4 < f := by rw [C]; exact Bx.lt E.2.1
 have ib : b3 < f := by rw [C]; exact Bx.lt E.2.2.1
 have ia : b2 < f := by rw [C]; exact Bx.lt (e3 E)
 have i9 : P < f := by rw [C]; exact Bx.lt (e4 E)
 have i8 : a8 < f := by rw [C]; exact Bx.lt (e5 E)
 have i7 : a9 < f := by rw [C]; exact Bx.lt (e6 E)
 have i6 : b1 < f := by rw [C]; exact Bx.lt (e7 E)
 replace E := (E.sz (Nat.le_of_eq C)).a (Acc.nil JL 88 f VH _) (QL _)
 clear C
 obtain ⟨B0, ad⟩ : ∃ n, n = g5.heap.size := ⟨_, rfl⟩
 have nb : w.heap.size <= B0 := by rw [ad]; exact (UH E).size
 have lj : b4 < B0 := by rw [ad]; exact Bx.lt (e3 E)
 have li : b3 < B0 := by rw [ad]; exact Bx.lt (e4 E)
 have lh : b2 < B0 := by rw [ad]; exact Bx.lt (e5 E)
 have lg : P < B0 := by rw [ad]; exact Bx.lt (e6 E)
 refine yG ?_
 refine (wpIn_wide (n := 5)).1 ?_
 refine wpIn_rangeFunc_ownF O AE (gf := 85) (lb := #[.pointer (some ⟨P, 0, none⟩)]) O trivial (enters_of func85 Z O) (vC P s AA 4 AE _ (e6 E) (RA E).1) Uh (Ui AA AA) (Below.refl _ _) (fun _ => rfl)
  (fun q W => ∃ (ng nd : Bool) (p : List Tm) (vr : Value), uZ l 0 (false, []) ((jN q).map (·.2)) = some (nd, p) /\ (q.length % 2 = 0 -> ng = nd) /\ q.length <= 4001 /\ Env W [fA JL 88 f VH vr p, rO f, fX aa (28) ([vr]), fX b4 (32) ([.int .i64 0]), fX b3 (3) ([.int .i64 0]), fX b2 (28) ([.slice none 0 0]), fX P (9) ([.string (bs s)]), fX a8 (4) ([.bool ng]), fX a9 (3) ([.int .i64 ((q.length : Nat) : Int)]), fX b1 (30) ([.slice a6 l.length R]), fGl, fR elS (CX w.heap.size) (.slice a6 l.length R) l, fW w])
  (fun c q W => c = .ret /\ ∃ (a1 : List Wd) (x : Wd) (st : iM), q = a1 ++ [x] /\ uZ l 0 (false, []) ((jN a1).map (·.2)) = some st /\ HO l a1.length st x.1.2 = none /\ Env W [fX b2 (28) ([.slice none 0 0]), fX b3 (3) ([.int .i64 ↑x.1.1]), fX b4 (32) ([.int .i64 440]), fW w])
  (fun q A B row hs hg hr => by obtain ⟨ng, nd, p, vr, q1, q2, q3, E⟩ := hs; exact ⟨ng, nd, p, vr, q1, q2, q3, E.turn hg (fun r e => (hr r e).2) (fun r e => by have H := (hr r e).1; have G := (hr r e).2; exact ⟨Nt E.1.1 G, BX, JJ E.2.2.1 G, JJ (e3 E) G, JJ (e4 E) G, JJ (e5 E) G, JJ (e6 E) G, JJ (e7 E) G, JJ (e8 E) G, JJ (e9 E) G, EP AA, DP (CJ AA), IK AA, BX⟩)⟩)
  (fun c q A B row hs hg hr => by obtain ⟨q0, a1, x, st, q1, q2, q3, E⟩ := hs; exact ⟨q0, a1, x, st, q1, q2, q3, E.turn hg (fun r e => (hr r e).2) (fun r e => by have H := (hr r e).1; have G := (hr r e).2; exact ⟨JJ E.1 G, JJ E.2.1 G, JJ E.2.2.1 G, IK AA, BX⟩)⟩)
  ⟨false, false, [], .slice none 0 0, rfl, fun _ => rfl, by simp, zE⟩
  (fun x => { tmps := #[.string (bs s), .slice a6 l.length R, undef, .pointer (some ⟨b1, 0, none⟩), .pointer (some ⟨b2, 0, none⟩), .pointer (some ⟨b3, 0, none⟩), .pointer (some ⟨b4, 0, none⟩), .pointer (some ⟨aa, 0, none⟩), .pointer (some ⟨a9, 0, none⟩), .pointer (some ⟨a8, 0, none⟩), .int .i64 ((x.1.1 : Nat) : Int), .string (bs x.1.2), undef, undef, .slice a6 l.length R, .bool true, .bool false, .string (bs s), .int .i64 ↑s.length, .bool false, .string (bs s), .bool false, .string (bs s), .func (.func 85) #[] #[.pointer (some ⟨P, 0, none⟩)], .int .i64 ((x.1.1 : Nat) : Int), .string (bs x.1.2), undef, undef, undef, undef, undef, undef, undef, undef, undef, undef, undef, undef, undef, undef, undef, undef, undef, undef, undef, undef, undef, undef, undef, undef, undef, undef, undef, undef, undef, undef, undef, undef, undef, undef, undef, undef, undef, undef, undef, undef, undef, undef, undef, undef, undef, undef, undef, undef, undef, undef, undef, undef, undef, undef, undef, undef, undef, undef, undef, undef, undef, undef, undef], defers := [] }) ?assign ?body ?done ?stop
 case assign =>
  intro r x W K hK
  unfold wdE
  gi_wp2
  exact hK
 case body =>
  rintro r q ⟨⟨J, wd⟩, ab, U⟩ W ⟨ng, nd, p, vr, H, G, ke, E⟩ lf
  change Code.wpIn _ _ _ _ _ ⟨#[.string (bs s), .slice a6 l.length R, undef, .pointer (some ⟨b1, 0, none⟩), .pointer (some ⟨b2, 0, none⟩), .pointer (some ⟨b3, 0, none⟩), .pointer (some ⟨b4, 0, none⟩), .pointer (some ⟨aa, 0, none⟩), .pointer (some ⟨a9, 0, none⟩), .pointer (some ⟨a8, 0, none⟩), .int .i64 ↑J, .string (bs wd), undef, undef, .slice a6 l.length R, .bool true, .bool false, .string (bs s), .int .i64 ↑s.length, .bool false, .string (bs s), .bool false, .string (bs s), .func (.func 85) #[] #[.pointer (some ⟨P, 0, none⟩)], .int .i64 ↑J, .string (bs wd), undef, undef, undef, undef, undef, undef, undef, undef, undef, undef, undef, undef, undef, undef, undef, undef, undef, undef, undef, undef, undef, undef, undef, undef, undef, undef, undef, undef, undef, undef, undef, undef, undef, undef, undef, undef, undef, undef, undef, undef, undef, undef, undef, undef, undef, undef, undef, undef, undef, undef, undef, undef, undef, undef, undef, undef, undef, undef, undef, undef, undef, undef, undef], []⟩ _
  replace ab : J <= 4000 := ab
  replace U : wd.length <= 4000 := U
  have nc : p.length = (q.length + 1) / 2 := by have := Mh H rfl rfl; simpa [LB] using this
  have nf : (gQ 0 (FG 32 s)).length <= 4001 := by rw [Dm]; have := XZ 32 s; omega
  have X : p.length <= 4001 := by omega
  have kh : 2 <= W.heap.size := (RA E).1.two
  have nn : (Py W).ok aa := qV E.2.2.1
  have nm : (Py W).ok b4 := qV (e3 E)
  have nl : (Py W).ok b3 := qV (e4 E)
  have nk : (Py W).ok b2 := qV (e5 E)
  have nj : (Py W).ok a8 := qV (e7 E)
  have ni : (Py W).ok a9 := qV (e8 E)
  have hkA : ∀ g, vr.ownBlock = some g -> (Py W).ok g := fun g hg => Xf E.1.1 hg
  have kf := Bx.lt (e6 E)
  replace E := ((E.ko).kb (sb := P) kf kh).sz (Nat.le_refl W.heap.size)
  refine wpIn_block ?_
  refine wpIn_seq ?_
  refine aP Z (fun ⟨_, _, h⟩ => h) ?_
  have en := RJ E
  refine yG ?_
  replace E := OS (OS XS) E
  refine yG ?_
  refine EF O (CG (v := .int .i64 ↑(q.length + 1)) O Z O O O en AH ?_)
  intro my hp fw
  replace E := oY E en hp fw (ds := [.int .i64 ↑(q.length + 1)])
  clear en hp fw
  refine yG ?_
  change Code.wpIn _ _ _ _ _ _ _
  refine wpIn_seq ?_
  refine wpIn_seq ?_
  by_cases N : q.length % 2 = 1
  case pos =>
   refine aP Z (fun ⟨_, _, h⟩ => h) ?_
   refine yG ?_
   refine V (v := .int .i64 ↑((q.length + 1) % 2)) O O (EC O O O AE (Ds _)) ?_
   refine yG ?_
   change Code.wpIn _ _ _ _ _ _ _
   refine wpIn_cond_true O ?_
   refine wpIn_seq ?_
   refine wpIn_seq ?_
   by_cases a2 : wd = [43]
   case pos =>
    refine aP Z (fun ⟨_, _, h⟩ => h) ?_
    refine yG ?_
    refine V O O (HJ (a := wd) (b := [43]) (c := false) O O O (by rw [bne_eq_false_iff_eq]; exact a2)) ?_
    refine yG ?_
    change Code.wpIn _ _ _ _ _ _ _
    refine wpIn_cond_false O ?_
    refine wpIn_skip ?_
    change Code.wpIn _ _ _ _ _ _ _
    refine wpIn_seq ?_
    refine aP Z (fun ⟨_, _, h⟩ => h) ?_
    refine yG ?_
    refine V O O (FT (a := wd) (b := [45]) (c := false) O O O (by rw [beq_eq_false_iff_ne]; rw [a2]; decide)) ?_
    have em := RJ E
    replace E := OS (OS XS) E
    refine yG ?_
    refine EF O (CG (v := .bool false) O Z O O O em AH ?_)
    intro mx ho fv
    replace E := oY E em ho fv (ds := [.bool false])
    clear em ho fv
    refine yG ?_
    change Code.wpIn _ _ _ _ _ _ _
    refine wpIn_exit ?_
    show KeepsOthers _ _ /\ keepB _ _ _ /\ _
    exact ⟨e4 E, (e3 E).1, false, false, p, vr, by rw [KC, List.map_append, List.map_cons, List.map_nil, TF H, List.length_map, LB, Nat.zero_add]; exact Sq N a2, fun _ => rfl, Yir, YwF⟩
   by_cases a7 : wd = [45]
   case pos =>
    refine aP Z (fun ⟨_, _, h⟩ => h) ?_
    refine yG ?_
    refine V O O (HJ (a := wd) (b := [43]) (c := true) O O O (by rw [bne_iff_ne]; exact a2)) ?_
    refine yG ?_
    refine V Z O (HJ (a := wd) (b := [45]) (c := false) O O O (by rw [bne_eq_false_iff_eq]; exact a7)) ?_
    refine yG ?_
    change Code.wpIn _ _ _ _ _ _ _
    refine wpIn_cond_false O ?_
    refine wpIn_skip ?_
    change Code.wpIn _ _ _ _ _ _ _
    refine wpIn_seq ?_
    refine aP Z (fun ⟨_, _, h⟩ => h) ?_
    refine yG ?_
    refine V O O (FT (a := wd) (b := [45]) (c := true) O O O (by rw [beq_iff_eq]; exact a7)) ?_
    have el := RJ E
    replace E := OS (OS XS) E
    refine yG ?_
    refine EF O (CG (v := .bool true) O Z O O O el AH ?_)
    intro mw hn fu
    replace E := oY E el hn fu (ds := [.bool true])
    clear el hn fu
    refine yG ?_
    change Code.wpIn _ _ _ _ _ _ _
    refine wpIn_exit ?_
    show KeepsOthers _ _ /\ keepB _ _ _ /\ _
    exact ⟨e4 E, (e3 E).1, true, true, p, vr, by rw [KC, List.map_append, List.map_cons, List.map_nil, TF H, List.length_map, LB, Nat.zero_add]; exact Lz N a7, fun _ => rfl, Yir, YwF⟩
   refine aP Z (fun ⟨_, _, h⟩ => h) ?_
   refine yG ?_
   refine V O O (HJ (a := wd) (b := [43]) (c := true) O O O (by rw [bne_iff_ne]; exact a2)) ?_
   refine yG ?_
   refine V Z O (HJ (a := wd) (b := [45]) (c := true) O O O (by rw [bne_iff_ne]; exact a7)) ?_
   refine yG ?_
   change Code.wpIn _ _ _ _ _ _ _
   refine wpIn_cond_true O ?_
   refine wpIn_seq ?_
   refine aP Z (fun ⟨_, _, h⟩ => h) ?_
   have ek := e9 E
   refine yG ?_
   replace E := dl9 E
   refine yG ?_
   refine EF O (CG (v := .slice none 0 0) O Z O O O ek AH ?_)
   intro mv hm ft
   replace E := oY E ek hm ft (ds := [.slice none 0 0])
   clear ek hm ft
   have ej := e9 E
   refine yG ?_
   replace E := dl9 E
   refine EF O (CG (v := .int .i64 ↑J) O Z O O O ej AH ?_)
   intro mu hl fs
   replace E := oY E ej hl fs (ds := [.int .i64 ↑J])
   clear ej hl fs
   have ei := e9 E
   refine yG ?_
   replace E := dl9 E
   refine EF O (CG (v := .int .i64 440) O Z O O O ei AH ?_)
   intro mt hk fr
   replace E := oY E ei hk fr (ds := [.int .i64 440])
   clear ei hk fr
   refine yG ?_
   change Code.wpIn _ _ _ _ _ _ _
   refine wpIn_ret ?_
   show KeepsOthers _ _ /\ _
   exact ⟨(e6 E), rfl, q, ⟨(J, wd), ab, U⟩, (nd, p), rfl, H, Yc N a2 a7, zE⟩
  refine aP Z (fun ⟨_, _, h⟩ => h) ?_
  refine yG ?_
  refine V (v := .int .i64 ↑((q.length + 1) % 2)) O O (EC O O O AE (Ds _)) ?_
  refine yG ?_
  change Code.wpIn _ _ _ _ _ _ _
  refine wpIn_cond_false O ?_
  refine wpIn_skip ?_
  change Code.wpIn _ _ _ _ _ _ _
  refine wpIn_seq ?_
  refine wpIn_seq ?_
  by_cases av : q.length = 0
  case neg =>
   refine aP Z (fun ⟨_, _, h⟩ => h) ?_
   refine yG ?_
   change Code.wpIn _ _ _ _ _ _ _
   refine wpIn_cond_false O ?_
   refine wpIn_skip ?_
   change Code.wpIn _ _ _ _ _ _ _
   refine wpIn_seq ?_
   have a0 := cut_3 (nd := nd) (wd := wd) av
   have Y : (wd).length <= 4000 := by have := U; first | exact U | (rw [List.length_tail]; omega)
   by_cases t : bL l wd = none
   case pos =>
    refine aP Z (fun ⟨_, _, h⟩ => h) ?_
    refine yG ?_
    refine EF O (UV GW O YIt O E ?_)
    clear E
    intro lw _ E
    refine yG ?_
    refine EF O (CB KL O ?_)
    intro c6 lv al jf il dr
    have ix : (vr : Value).ownBlock ≠ some c6 := fun h => by have := (Acc.lt (e4 E).1 h).2; omega
    have k4 : P < c6 := by rw [al]; exact Bx.lt (RA E)
    have j3 : W.heap.size <= c6 := by rw [al]; exact CR E.2.1
    have j2 : f <= c6 := by rw [al]; exact CR (e5 E)
    replace E := E.below il
    clear al jf il
    refine yG ?_
    refine EF O (BY KL O O O dr Y60 (CM DH) (GM (M := zeroM) OQ OQ) ?_)
    intro lu h0 fb
    replace E := oY E dr h0 fb (ds := (IJ false (.slice none 0 0) false (.slice none 0 0) zeroM))
    clear dr h0 fb
    refine yG ?_
    change Code.wpIn _ _ _ _ _ _ _
    refine wpIn_seq ?_
    refine wpIn_seq ?_
    refine OC Z (fun ⟨_, _, h⟩ => h) E ([0, 1, 2, 3, 4, 5, 6, 7, 8, 9, 10, 11, 12, 13, 14, 15, 16, 17, 18]) Z Z Z Z AF ?_
    replace E := E.drew
    refine yG ?_
    change Code.wpIn _ _ _ _ _ _ _
    refine wpIn_cond_true O ?_
    refine wpIn_seq ?_
    refine aP Z (fun ⟨_, _, h⟩ => h) ?_
    have dq := RA E
    refine yG ?_
    replace E := OS (OS VI) E
    refine yG ?_
    refine EF O (CG (v := .slice none 0 0) O Z O O O dq AH ?_)
    intro ls gz fa
    replace E := oY E dq gz fa (ds := [.slice none 0 0])
    clear dq gz fa
    have dp := RA E
    refine yG ?_
    replace E := OS (OS VI) E
    refine EF O (CG (v := .int .i64 ↑J) O Z O O O dp AH ?_)
    intro lr gy f9
    replace E := oY E dp gy f9 (ds := [.int .i64 ↑J])
    clear dp gy f9
    have dn := RA E
    refine yG ?_
    replace E := OS (OS VI) E
    refine EF O (CG (v := .int .i64 440) O Z O O O dn AH ?_)
    intro lq gx f8
    replace E := oY E dn gx f8 (ds := [.int .i64 440])
    clear dn gx f8
    refine yG ?_
    change Code.wpIn _ _ _ _ _ _ _
    refine wpIn_ret ?_
    show KeepsOthers _ _ /\ _
    exact ⟨(e7 E), rfl, q, ⟨(J, wd), ab, U⟩, (nd, p), rfl, H, Af N a0 t, zE⟩
   obtain ⟨⟨c, mm⟩, t⟩ := Option.ne_none_iff_exists'.1 t
   have c4 := kQ Y t
   obtain ⟨I, hz⟩ := mL t
   refine aP Z (fun ⟨_, _, h⟩ => h) ?_
   refine yG ?_
   refine EF O (UU (c := c) (mm := mm) GW O YIt O E ?_)
   clear E
   intro lp ht g8 hv g6 _ E
   refine yG ?_
   refine EF O (CB KL O ?_)
   intro c5 lo ak je ik dm
   have af : (vr : Value).ownBlock ≠ some c5 := fun h => by have := (Acc.lt (e6 E).1 h).2; omega
   have k3 : P < c5 := by rw [ak]; exact Bx.lt (UH E)
   have j1 : W.heap.size <= c5 := by rw [ak]; exact CR (e3 E)
   have j0 : f <= c5 := by rw [ak]; exact CR (e7 E)
   replace E := E.below ik
   clear ak je ik
   refine yG ?_
   refine EF O (BY KL O O O dm Y60 (CM I) (GM (M := mm) (IsI.one E.1) (IsI.one E.2.1)) ?_)
   intro jr gw f7
   replace E := oY E dm gw f7 (ds := (IJ ht g8 hv g6 mm))
   clear dm gw f7
   refine yG ?_
   change Code.wpIn _ _ _ _ _ _ _
   refine wpIn_seq ?_
   refine wpIn_seq ?_
   obtain ⟨dj, bu, rfl⟩ := Acc.shp (e7 E).1
   obtain ⟨i1, bp⟩ : ∃ n, n = jr.heap.size := ⟨_, rfl⟩
   have d7 := Acc.low (e7 E).1
   rw [<- bp] at d7
   replace E := E.r (e := JL) (S := CX i1) d7 (fun k g => by rw [<- bp]; exact g)
   obtain ⟨⟨np, f1⟩, ag⟩ : ∃ x, p[p.length - 1]? = some x := ⟨_, List.getElem?_eq_getElem (show p.length - 1 < p.length by omega)⟩
   obtain ⟨ga, l6, _, d6, ie, i5, ⟨n9, n8, na, n7, rfl, i0, i4, ah⟩⟩ := IsR.at E.1.1 ag
   have i2 : ga < _ := E.1.2 _ ie
   replace E := ((E.c i5 i2).i i0).i i4
   have ez := Ox ag
   skip
   by_cases f0 : 0 <= ES mm f1
   case pos =>
    refine OC Z (fun ⟨_, _, h⟩ => h) E ([0, 1, 2, 3, 4, 5, 6, 7, 8, 9, 10, 11, 12, 13, 14, 15, 16, 17, 18]) Z Z Z Z AF ?_
    replace E := E.drew
    refine yG ?_
    refine SW O O O Z O (fun w hS => CD QN O O (Cs.sub (Bx.cs (e4 hS)) 4 (DU _ _ _ _ _)) (DC I)) ?_
    refine yG ?_
    refine SW (v := .int .i64 ↑(p.length - 1)) O O O Z O (fun w hS => GN O O O (by rw [HI AA]; omega)) ?_
    refine yG ?_
    refine kD O O O d6 O (List.getElem?_eq_some_iff.1 ag).1 ?_
    refine yG ?_
    refine SW O O O Z O (fun w hS => CD QN O O (Cs.sub ((hS.2.2.1).1) 4 (DU _ _ _ _ _)) (DC ah)) ?_
    refine yG ?_
    refine GZ (o := ⟨some 68, _, _, _, _, _⟩) O O O O (CE RD O (Dj mm f1 _ I ah) O E ?_)
    clear E
    intro ln _ E
    refine ⟨E, ?_⟩
    refine yG ?_
    change Code.wpIn _ _ _ _ _ _ _
    refine wpIn_cond_true O ?_
    refine wpIn_seq ?_
    replace E := Fk E
    replace E := kB E
    refine aP Z (fun ⟨_, _, h⟩ => h) ?_
    have dl := iI E
    refine yG ?_
    replace E := OS (OS rR) E
    refine yG ?_
    refine EF O (CG (v := .slice none 0 0) O Z O O O dl AH ?_)
    intro lm gv f6
    replace E := oY E dl gv f6 (ds := [.slice none 0 0])
    clear dl gv f6
    have dk := iI E
    refine yG ?_
    replace E := OS (OS rR) E
    refine EF O (CG (v := .int .i64 ↑J) O Z O O O dk AH ?_)
    intro ll gu f5
    replace E := oY E dk gu f5 (ds := [.int .i64 ↑J])
    clear dk gu f5
    have bd := iI E
    refine yG ?_
    replace E := OS (OS rR) E
    refine EF O (CG (v := .int .i64 440) O Z O O O bd AH ?_)
    intro lk gs f4
    replace E := oY E bd gs f4 (ds := [.int .i64 440])
    clear bd gs f4
    refine yG ?_
    change Code.wpIn _ _ _ _ _ _ _
    refine wpIn_ret ?_
    show KeepsOthers _ _ /\ _
    exact ⟨(RJ E), rfl, q, ⟨(J, wd), ab, U⟩, (nd, p), rfl, H, Sg N a0 t av (by rw [ez]; exact f0), zE⟩
   refine OC Z (fun ⟨_, _, h⟩ => h) E ([0, 1, 2, 3, 4, 5, 6, 7, 8, 9, 10, 11, 12, 13, 14, 15, 16, 17, 18]) Z Z Z Z AF ?_
   replace E := E.drew
   refine yG ?_
   refine SW O O O Z O (fun w hS => CD QN O O (Cs.sub (Bx.cs (e4 hS)) 4 (DU _ _ _ _ _)) (DC I)) ?_
   refine yG ?_
   refine SW (v := .int .i64 ↑(p.length - 1)) O O O Z O (fun w hS => GN O O O (by rw [HI AA]; omega)) ?_
   refine yG ?_
   refine kD O O O d6 O (List.getElem?_eq_some_iff.1 ag).1 ?_
   refine yG ?_
   refine SW O O O Z O (fun w hS => CD QN O O (Cs.sub ((hS.2.2.1).1) 4 (DU _ _ _ _ _)) (DC ah)) ?_
   refine yG ?_
   refine GZ (o := ⟨some 68, _, _, _, _, _⟩) O O O O (CE RD O (Dj mm f1 _ I ah) O E ?_)
   clear E
   intro l5 _ E
   refine ⟨E, ?_⟩
   refine yG ?_
   change Code.wpIn _ _ _ _ _ _ _
   refine wpIn_cond_false O ?_
   refine wpIn_skip ?_
   change Code.wpIn _ _ _ _ _ _ _
   refine wpIn_seq ?_
   refine wpIn_seq ?_
   replace E := Fk E
   replace E := kB E
   by_cases c2 : ng = true
   case neg =>
    have ey : nd = false := by rw [<- G AA]; exact DE c2
    subst ey
    refine aP Z (fun ⟨_, _, h⟩ => h) ?_
    refine yG ?_
    change Code.wpIn _ _ _ _ _ _ _
    refine wpIn_cond_false (congrArg Value.bool (DE c2)) ?_
    refine wpIn_skip ?_
    change Code.wpIn _ _ _ _ _ _ _
    skip
    refine aP Z (fun ⟨_, _, h⟩ => h) ?_
    refine yG ?_
    refine EF O (DZ (cs := (IJ ht g8 hv g6 mm)) underlying28 KL (CM I) AE AE O O ?_)
    intro dh ky bq f2 de co
    have bk : ((.slice dj (p).length bu) : Value).ownBlock ≠ some dh := fun h => by have := (Acc.lt (e9 E).1 h).2; omega
    have hx : f <= dh := by rw [bq]; exact CR (RA E)
    replace E := (E.below de).x co
    clear bq f2 de co
    have a3 := RA E
    have jz := Acc.nw a3.1
    refine yG ?_
    replace E := OS (OS VI) E
    refine EF O (EM (x := (c, mm)) iN O (l := p) O a3.1 a3.2 E (fun g hg h1 h2 => ⟨CT (fun e => bk (e ▸ hg)), BX, BX, CT (fun e => af (e ▸ hg)), BX, BX, CT AA, BX, LS AA AA, YIr, BX, CT AA, CT AA, CT AA, CT AA, CT AA, CT AA, CT AA, EP AA, DP (CJ AA), IK AA, BX⟩) O E.1 (⟨_, _, _, _, O, e4 E, e5 E, I⟩) Yjk Y7R (CR (RA E)) ?_)
    clear E a3
    intro bf kx E
    have ba := UH E
    refine yG ?_
    replace E := OS (OS kB) E
    refine yG ?_
    refine EF O (CG (v := bf) O Z (Acc.one E.1.1) O O ba AH ?_)
    intro kv cy ck
    replace E := oY E ba cy ck (ds := [bf])
    clear ba cy ck
    refine yG ?_
    show KeepsOthers _ _ /\ keepB _ _ _ /\ _
    exact ⟨RJ E, (RA E).1, ng, false, (p ++ [(c, mm)]), bf, by rw [KC, List.map_append, List.map_cons, List.map_nil, TF H, List.length_map, LB, Nat.zero_add]; exact Dt N a0 t (.inr (by rw [ez]; exact f0)), fun hh => by simp at hh; omega, Yir, YwF⟩
   have ey : nd = true := by rw [<- G AA]; exact c2
   subst ey
   refine aP Z (fun ⟨_, _, h⟩ => h) ?_
   refine yG ?_
   change Code.wpIn _ _ _ _ _ _ _
   refine wpIn_cond_true (congrArg Value.bool c2) ?_
   refine aP Z (fun ⟨_, _, h⟩ => h) ?_
   refine yG ?_
   refine V O O (CD GP O O (Cs.sub (Bx.cs E.2.2.1) 0 (EI _ _ _ _ _)) O) ?_
   refine yG ?_
   refine EF O (CV NX O (Gz _ _ _ _ c _ (e3 E) (e4 E) (FitQ.mono c4 AE)) O E ?_)
   clear E
   intro l4 bm bi bn bh _ E
   have bc := e4 E
   refine yG ?_
   replace E := rR E
   refine yG ?_
   refine EF O (MU (cs' := (IJ bm bi bn bh mm)) GP O O O bc O (by rw [CM I]; decide) (LR (IsI.one E.2.1) (IsI.one E.1)) O ?_)
   intro l3 d0 cn
   replace E := oY E bc d0 cn (ds := (IJ bm bi bn bh mm))
   clear bc d0 cn
   refine yG ?_
   change Code.wpIn _ _ _ _ _ _ _
   skip
   refine aP Z (fun ⟨_, _, h⟩ => h) ?_
   refine yG ?_
   refine EF O (DZ (cs := (IJ bm bi bn bh mm)) underlying28 KL (CM I) AE AE O O ?_)
   intro di l2 br f3 dg cp
   have bl : ((.slice dj (p).length bu) : Value).ownBlock ≠ some di := fun h => by have := (Acc.lt (RJ E).1 h).2; omega
   have hy : f <= di := by rw [br]; exact CR (UH E)
   replace E := (E.below dg).x cp
   clear br f3 dg cp
   have a4 := UH E
   have k0 := Acc.nw a4.1
   refine yG ?_
   replace E := OS (OS kB) E
   refine EF O (EM (x := ((-c), mm)) iN O (l := p) O a4.1 a4.2 E (fun g hg h1 h2 => ⟨CT (fun e => bl (e ▸ hg)), CT (fun e => af (e ▸ hg)), BX, BX, BX, BX, BX, BX, CT AA, BX, LS AA AA, YIr, BX, CT AA, CT AA, CT AA, CT AA, CT AA, CT AA, CT AA, EP AA, DP (CJ AA), IK AA, BX⟩) O E.1 (⟨_, _, _, _, O, e3 E, E.2.2.1, I⟩) Yjk Y7R (CR (UH E)) ?_)
   clear E a4
   intro bg l0 E
   have bb := iI E
   refine yG ?_
   replace E := OS (OS rR) E
   refine yG ?_
   refine EF O (CG (v := bg) O Z (Acc.one E.1.1) O O bb AH ?_)
   intro kz cz cm
   replace E := oY E bb cz cm (ds := [bg])
   clear bb cz cm
   refine yG ?_
   show KeepsOthers _ _ /\ keepB _ _ _ /\ _
   exact ⟨WP E, (UH E).1, ng, false, (p ++ [((-c), mm)]), bg, by rw [KC, List.map_append, List.map_cons, List.map_nil, TF H, List.length_map, LB, Nat.zero_add]; exact Dt N a0 t (.inr (by rw [ez]; exact f0)), fun hh => by simp at hh; omega, Yir, YwF⟩
  refine aP Z (fun ⟨_, _, h⟩ => h) ?_
  refine yG ?_
  change Code.wpIn _ _ _ _ _ _ _
  refine wpIn_cond_true O ?_
  by_cases c3 : wd.head? = some 45
  case neg =>
   have a0 := cut_2 (nd := nd) av c3
   refine aP Z (fun ⟨_, _, h⟩ => h) ?_
   refine yG ?_
   refine EF O (BZ JV O (Kr wd _ c3) O E ?_)
   clear E
   intro ma _ E
   have dz := RJ E
   refine yG ?_
   replace E := OS (OS XS) E
   refine yG ?_
   refine EF O (CG (v := .bool false) O Z O O O dz AH ?_)
   intro m9 h9 fi
   replace E := oY E dz h9 fi (ds := [.bool false])
   clear dz h9 fi
   refine yG ?_
   change Code.wpIn _ _ _ _ _ _ _
   refine wpIn_seq ?_
   have Y : (wd).length <= 4000 := by have := U; first | exact U | (rw [List.length_tail]; omega)
   by_cases t : bL l wd = none
   . refine aP Z (fun ⟨_, _, h⟩ => h) ?_
     refine yG ?_
     refine EF O (UV GW O YIt O E ?_)
     exact ZXa
   obtain ⟨⟨c, mm⟩, t⟩ := Option.ne_none_iff_exists'.1 t
   have c4 := kQ Y t
   obtain ⟨I, hz⟩ := mL t
   refine aP Z (fun ⟨_, _, h⟩ => h) ?_
   refine yG ?_
   refine EF O (UU (c := c) (mm := mm) GW O YIt O E ?_)
   clear E
   intro m2 hu g9 hw g7 _ E
   refine yG ?_
   refine EF O (CB KL O ?_)
   intro c7 m1 am jh io du
   have bx : (vr : Value).ownBlock ≠ some c7 := fun h => by have := (Acc.lt (e7 E).1 h).2; omega
   have k5 : P < c7 := by rw [am]; exact Bx.lt (WP E)
   have j6 : W.heap.size <= c7 := by rw [am]; exact CR (e4 E)
   have j5 : f <= c7 := by rw [am]; exact CR (e8 E)
   replace E := E.below io
   clear am jh io
   refine yG ?_
   refine EF O (BY KL O O O du Y60 (CM I) (GM (M := mm) (IsI.one E.1) (IsI.one E.2.1)) ?_)
   intro m0 h4 fd
   replace E := oY E du h4 fd (ds := (IJ hu g9 hw g7 mm))
   clear du h4 fd
   refine yG ?_
   change Code.wpIn _ _ _ _ _ _ _
   refine wpIn_seq ?_
   refine wpIn_seq ?_
   refine OC Z (fun ⟨_, _, h⟩ => h) E ([0, 1, 2, 3, 4, 5, 6, 7, 8, 9, 10, 11, 12, 13, 14, 15, 16, 17, 18]) Z Z Z Z AF ?_
   replace E := E.drew
   refine yG ?_
   change Code.wpIn _ _ _ _ _ _ _
   refine wpIn_cond_false O ?_
   refine wpIn_skip ?_
   change Code.wpIn _ _ _ _ _ _ _
   refine wpIn_seq ?_
   refine wpIn_seq ?_
   refine aP Z (fun ⟨_, _, h⟩ => h) ?_
   refine yG ?_
   change Code.wpIn _ _ _ _ _ _ _
   refine wpIn_cond_false O ?_
   refine wpIn_skip ?_
   change Code.wpIn _ _ _ _ _ _ _
   skip
   refine aP Z (fun ⟨_, _, h⟩ => h) ?_
   refine yG ?_
   refine EF O (DZ (cs := (IJ hu g9 hw g7 mm)) underlying28 KL (CM I) AE AE O O ?_)
   intro iv lz d8 jg im g2
   have bw : (vr : Value).ownBlock ≠ some iv := fun h => by have := (Acc.lt (e8 E).1 h).2; omega
   have j4 : f <= iv := by rw [d8]; exact CR (e9 E)
   replace E := (E.below im).x g2
   clear d8 jg im g2
   have ai := e9 E
   have l8 := Acc.nw ai.1
   refine yG ?_
   replace E := dl9 E
   refine EF O (EM (x := (c, mm)) iN O (l := p) O ai.1 ai.2 E (fun g hg h1 h2 => ⟨CT (fun e => bw (e ▸ hg)), CT (fun e => bx (e ▸ hg)), BX, BX, CT AA, CT AA, BX, LS AA AA, YIr, BX, CT AA, CT AA, CT AA, CT AA, CT AA, CT AA, EP AA, DP (CJ AA), IK AA, BX⟩) O E.1 (⟨_, _, _, _, O, E.2.2.1, e3 E, I⟩) Yjk Y7R (CR (e9 E)) ?_)
   clear E ai
   intro er ly E
   have dt := RJ E
   refine yG ?_
   replace E := OS (OS XS) E
   refine yG ?_
   refine EF O (CG (v := er) O Z (Acc.one E.1.1) O O dt AH ?_)
   intro lx h3 fc
   replace E := oY E dt h3 fc (ds := [er])
   clear dt h3 fc
   refine yG ?_
   show KeepsOthers _ _ /\ keepB _ _ _ /\ _
   exact ⟨RA E, (e9 E).1, false, false, (p ++ [(c, mm)]), er, by rw [KC, List.map_append, List.map_cons, List.map_nil, TF H, List.length_map, LB, Nat.zero_add]; exact Dt N a0 t (.inl av), fun hh => by simp at hh; omega, Yir, YwF⟩
  have a0 := cut_1 (nd := nd) av c3
  refine aP Z (fun ⟨_, _, h⟩ => h) ?_
  refine yG ?_
  refine EF O (BZ JV O (Dk wd _ c3) O E ?_)
  clear E
  intro ms _ E
  have eh := RJ E
  refine yG ?_
  replace E := OS (OS XS) E
  refine yG ?_
  refine EF O (CG (v := .bool true) O Z O O O eh AH ?_)
  intro mr hj fq
  replace E := oY E eh hj fq (ds := [.bool true])
  clear eh hj fq
  refine yG ?_
  change Code.wpIn _ _ _ _ _ _ _
  refine wpIn_seq ?_
  have Y : (wd.tail).length <= 4000 := by have := U; first | exact U | (rw [List.length_tail]; omega)
  by_cases t : bL l wd.tail = none
  . refine aP Z (fun ⟨_, _, h⟩ => h) ?_
    refine yG ?_
    refine EF O (UV GW O YpG O E ?_)
    exact ZXa
  obtain ⟨⟨c, mm⟩, t⟩ := Option.ne_none_iff_exists'.1 t
  have c4 := kQ Y t
  obtain ⟨I, hz⟩ := mL t
  refine aP Z (fun ⟨_, _, h⟩ => h) ?_
  refine yG ?_
  refine EF O (UU (c := c) (mm := mm) GW O YpG O E ?_)
  clear E
  intro mj k1 jt k2 js _ E
  refine yG ?_
  refine EF O (CB KL O ?_)
  intro c9 mi ao jk ir ec
  have c1 : (vr : Value).ownBlock ≠ some c9 := fun h => by have := (Acc.lt (e7 E).1 h).2; omega
  have k7 : P < c9 := by rw [ao]; exact Bx.lt (WP E)
  have jb : W.heap.size <= c9 := by rw [ao]; exact CR (e4 E)
  have ja : f <= c9 := by rw [ao]; exact CR (e8 E)
  replace E := E.below ir
  clear ao jk ir
  refine yG ?_
  refine EF O (BY KL O O O ec Y60 (CM I) (GM (M := mm) (IsI.one E.1) (IsI.one E.2.1)) ?_)
  intro mh hc fl
  replace E := oY E ec hc fl (ds := (IJ k1 jt k2 js mm))
  clear ec hc fl
  refine yG ?_
  change Code.wpIn _ _ _ _ _ _ _
  refine wpIn_seq ?_
  refine wpIn_seq ?_
  refine OC Z (fun ⟨_, _, h⟩ => h) E ([0, 1, 2, 3, 4, 5, 6, 7, 8, 9, 10, 11, 12, 13, 14, 15, 16, 17, 18]) Z Z Z Z AF ?_
  replace E := E.drew
  refine yG ?_
  change Code.wpIn _ _ _ _ _ _ _
  refine wpIn_cond_false O ?_
  refine wpIn_skip ?_
  change Code.wpIn _ _ _ _ _ _ _
  refine wpIn_seq ?_
  refine wpIn_seq ?_
  refine aP Z (fun ⟨_, _, h⟩ => h) ?_
  refine yG ?_
  change Code.wpIn _ _ _ _ _ _ _
  refine wpIn_cond_true O ?_
  refine aP Z (fun ⟨_, _, h⟩ => h) ?_
  refine yG ?_
  refine V O O (CD GP O O (Cs.sub (Bx.cs E.1) 0 (EI _ _ _ _ _)) O) ?_
  refine yG ?_
  refine EF O (CV NX O (Gz _ _ _ _ c _ E.2.1 E.2.2.1 (FitQ.mono c4 AE)) O E ?_)
  clear E
  intro mg ew eu ex et _ E
  have eb := E.2.2.1
  refine yG ?_
  replace E := kB E
  refine yG ?_
  refine EF O (MU (cs' := (IJ ew eu ex et mm)) GP O O O eb O (by rw [CM I]; decide) (LR (IsI.one E.2.1) (IsI.one E.1)) O ?_)
  intro mf hb fk
  replace E := oY E eb hb fk (ds := (IJ ew eu ex et mm))
  clear eb hb fk
  refine yG ?_
  change Code.wpIn _ _ _ _ _ _ _
  skip
  refine aP Z (fun ⟨_, _, h⟩ => h) ?_
  refine yG ?_
  refine EF O (DZ (cs := (IJ ew eu ex et mm)) underlying28 KL (CM I) AE AE O O ?_)
  intro iw md d9 jj iq g3
  have c0 : (vr : Value).ownBlock ≠ some iw := fun h => by have := (Acc.lt (RA E).1 h).2; omega
  have j9 : f <= iw := by rw [d9]; exact CR (RJ E)
  replace E := (E.below iq).x g3
  clear d9 jj iq g3
  have aj := RJ E
  have l9 := Acc.nw aj.1
  refine yG ?_
  replace E := OS (OS XS) E
  refine EF O (EM (x := ((-c), mm)) iN O (l := p) O aj.1 aj.2 E (fun g hg h1 h2 => ⟨CT (fun e => c0 (e ▸ hg)), CT (fun e => c1 (e ▸ hg)), BX, BX, BX, BX, CT AA, CT AA, BX, LS AA AA, YIr, BX, CT AA, CT AA, CT AA, CT AA, CT AA, CT AA, EP AA, DP (CJ AA), IK AA, BX⟩) O E.1 (⟨_, _, _, _, O, e3 E, E.2.2.1, I⟩) Yjk Y7R (CR (RJ E)) ?_)
  clear E aj
  intro es mc E
  have ea := WP E
  refine yG ?_
  replace E := OS (OS Fk) E
  refine yG ?_
  refine EF O (CG (v := es) O Z (Acc.one E.1.1) O O ea AH ?_)
  intro mb ha fj
  replace E := oY E ea ha fj (ds := [es])
  clear ea ha fj
  refine yG ?_
  show KeepsOthers _ _ /\ keepB _ _ _ /\ _
  exact ⟨UH E, (RJ E).1, true, false, (p ++ [((-c), mm)]), es, by rw [KC, List.map_append, List.map_cons, List.map_nil, TF H, List.length_map, LB, Nat.zero_add]; exact Dt N a0 t (.inl av), fun hh => by simp at hh; omega, Yir, YwF⟩
 case done =>
  rintro D xs W hD hS ⟨ng, nd, p, vr, H, G, ke, E⟩ hK
  change Code.wp _ _ _ ⟨#[.string (bs s), .slice a6 l.length R, undef, .pointer (some ⟨b1, 0, none⟩), .pointer (some ⟨b2, 0, none⟩), .pointer (some ⟨b3, 0, none⟩), .pointer (some ⟨b4, 0, none⟩), .pointer (some ⟨aa, 0, none⟩), .pointer (some ⟨a9, 0, none⟩), .pointer (some ⟨a8, 0, none⟩), undef, undef, undef, undef, .slice a6 l.length R, .bool true, .bool false, .string (bs s), .int .i64 ↑s.length, .bool false, .string (bs s), .bool false, .string (bs s), .func (.func 85) #[] #[.pointer (some ⟨P, 0, none⟩)], undef, undef, undef, undef, undef, undef, undef, undef, undef, undef, undef, undef, undef, undef, undef, undef, undef, undef, undef, undef, undef, undef, undef, undef, undef, undef, undef, undef, undef, undef, undef, undef, undef, undef, undef, undef, undef, undef, undef, undef, undef, undef, undef, undef, undef, undef, undef, undef, undef, undef, undef, undef, undef, undef, undef, undef, undef, undef, undef, undef, undef, undef, undef, undef, undef], [{ target := .collected D, args := #[] }]⟩ _
  replace E := E.df hK
  rw [<- ad] at hD
  obtain ⟨q, rfl⟩ : ∃ q, q = xs := ⟨_, rfl⟩
  by_cases i3 : q.length % 2 = 0
  case neg =>
   refine yG ?_
   refine RLd ?_
   refine yG ?_
   refine V (v := .int .i64 ↑(q.length % 2)) O O (EC O O O AE (Ds _)) ?_
   refine yG ?_
   refine RLd ?_
   have b6 := e6 E
   refine yG ?_
   replace E := xY E
   refine yG ?_
   refine EF O (CG (v := vr) O Z (Acc.one E.2.1.1) O O b6 AH ?_)
   intro kr cu cg
   replace E := oY E b6 cu cg (ds := [vr])
   clear b6 cu cg
   have b5 := e6 E
   refine yG ?_
   replace E := xY E
   refine EF O (CG (v := .int .i64 0) O Z O O O b5 AH ?_)
   intro kq ct cf
   replace E := oY E b5 ct cf (ds := [.int .i64 0])
   clear b5 ct cf
   have b0 := e6 E
   refine yG ?_
   replace E := xY E
   refine EF O (CG (v := .int .i64 0) O Z O O O b0 AH ?_)
   intro kp cr ce
   replace E := oY E b0 cr ce (ds := [.int .i64 0])
   clear b0 cr ce
   have u := (e3 E).1
   refine yG ?_
   replace E := Fk E
   replace E := E.put u ⟨JJ E.1 (FU u), JJ E.2.1 (FU u), JJ E.2.2.1 (FU u), Nt (e3 E).1 (FU u), BX, JJ (e5 E) (FU u), JJ (e6 E) (FU u), JJ (e7 E) (FU u), JJ (e8 E) (FU u), JJ (e9 E) (FU u), EP AA, DP (CJ AA), IK AA, BX⟩
   have r1 := JI MN E.2.2.1
   have r2 := JI CW E.2.1
   have r3 := JI KO E.1
   exact cC (v := .tuple #[vr, .int .i64 0, .int .i64 0]) u rfl YLY (by rw [show GO l s = (p, 0, 0) from by rw [wK hV ac aw hS H, if_neg (by rw [LB]; exact i3)]]; exact ⟨_, rfl, ⟨_, rfl, oW (e3 E).1 AA⟩, UH E⟩)
  refine yG ?_
  refine RLd ?_
  refine yG ?_
  refine V (v := .int .i64 ↑(q.length % 2)) O O (EC O O O AE (Ds _)) ?_
  refine yG ?_
  refine RLd ?_
  have b9 := e6 E
  refine yG ?_
  replace E := xY E
  refine yG ?_
  refine EF O (CG (v := .slice none 0 0) O Z O O O b9 AH ?_)
  intro ku cx cj
  replace E := oY E b9 cx cj (ds := [.slice none 0 0])
  clear b9 cx cj
  have b8 := e6 E
  refine yG ?_
  replace E := xY E
  refine EF O (CG (v := .int .i64 ↑(s.length + 1)) O Z O O O b8 AH ?_)
  intro kt cw ci
  replace E := oY E b8 cw ci (ds := [.int .i64 ↑(s.length + 1)])
  clear b8 cw ci
  have b7 := e6 E
  refine yG ?_
  replace E := xY E
  refine EF O (CG (v := .int .i64 440) O Z O O O b7 AH ?_)
  intro ks cv ch
  replace E := oY E b7 cv ch (ds := [.int .i64 440])
  clear b7 cv ch
  have y := (e3 E).1
  refine yG ?_
  replace E := Fk E
  replace E := E.put y ⟨JJ E.1 (FU y), JJ E.2.1 (FU y), JJ E.2.2.1 (FU y), Nt (e3 E).1 (FU y), BX, JJ (e5 E) (FU y), JJ (e6 E) (FU y), JJ (e7 E) (FU y), JJ (e8 E) (FU y), JJ (e9 E) (FU y), EP AA, DP (CJ AA), IK AA, BX⟩
  have r1 := JI MN E.2.2.1
  have r2 := JI CW E.2.1
  have r3 := JI KO E.1
  exact cC (v := .tuple #[.slice none 0 0, .int .i64 ↑(s.length + 1), .int .i64 440]) y rfl YLY (by rw [show GO l s = ([], s.length + 1, 440) from by rw [wK hV ac aw hS H, if_pos (by rw [LB]; exact i3)]]; exact ⟨_, rfl, ⟨_, rfl, IsR.nil _ _ _⟩, UH E⟩)
 case stop =>
  rintro D c q W hD ki ⟨rfl, a1, x, st, rfl, H, G, E⟩ hK
  rw [<- ad] at hD
  refine wpIn_ret ?_
  obtain ⟨l7, bo⟩ := ki
  rw [KC, List.append_assoc] at bo
  replace E := E.put hK ⟨JJ E.1 (FU hK), JJ E.2.1 (FU hK), JJ E.2.2.1 (FU hK), IK AA, BX⟩
  have r1 := JI MN E.1
  have r2 := JI CW E.2.1
  have r3 := JI KO E.2.2.1
  exact cC (v := .tuple #[.slice none 0 0, .int .i64 ↑x.1.1, .int .i64 440]) hK rfl YLY (by rw [show GO l s = ([], x.1.1, 440) from Mv hV ac aw bo H (by rw [LB]; exact G)]; exact ⟨_, rfl, ⟨_, rfl, IsR.nil _ _ _⟩, e3 E⟩)
end Go.Proofs.YtmppigbbkjepiaaGreatDoor
