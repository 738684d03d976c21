/- Helping facts of Read3; no other conditions. -/
import Derived.Test.YtmppigbbkjepiaaGreatDoorRdL
namespace Go.Proofs.YtmppigbbkjepiaaGreatDoor
open Go.Proofs.Tryz
open Go.RowKit W
variable {A W w : World} {D T b r sb : Nat} {K : Act -> World -> Prop} {L : List SF} {P : Program} {Q : Exit -> Act -> World -> Prop} {a : Act} {args : List Operand} {c : Rat} {m : List Nat} {o : Oper} {p : Prop} {sg : Bool} {tys : Array TypeId} {v : Value} {vs : List Value}
theorem Y7R (h : p := by have := X; omega) : p := h
theorem YuQ (h : p := by rw [<- t]; exact QY wd.tail _ l _ (BW (lB E)) Y hV (XX E).1) : p := h
theorem Yir (h : p := by simp; omega) : p := h
theorem Yjk (h : p := by have := X; unfold maxLen; omega) : p := h
theorem Y9d (h : p := by first | rfl | exact CF CK) : p := h
theorem YH1 (h : p := by first | assumption | exact xU AA | exact hkA _ hg) : p := h
theorem YuX (h : p := by rw [<- t]; exact QY wd _ l _ (BW (lB E)) Y hV (XX E).1) : p := h
theorem YwF (h : p := by rw [List.length_append]; exact zE) : p := h
theorem YLY (h : p := by simp [results, results13, asAddr, r1, r2, r3]) : p := h
theorem ZrZ (h : p := by
 clear E
 intro m8 _ E
 refine yG ?_
 refine EF O (BZ FQ O ?_)
 intro c8 m7 am ji ip dy
 have iy : (vr : Value).ownBlock ≠ some c8 := fun h => by have := (Acc.lt (e5 E).1 h).2; omega
 have k6 : P < c8 := by rw [am]; exact Bx.lt (RC E)
 have j8 : W.heap.size <= c8 := by rw [am]; exact CS E.2.2.1
 have j7 : f <= c8 := by rw [am]; exact CS (e6 E)
 replace E := E.below ip
 clear am ji ip
 refine yG ?_
 refine EF O (BY FQ O O O dy Y9d (CF CK) (DO (M := zeroM) GB GB) ?_)
 intro m6 h8 fh
 replace E := oY E dy h8 fh (ds := (EW false (.slice none 0 0) false (.slice none 0 0) zeroM))
 clear dy h8 fh
 refine yG ?_
 change Code.wpIn _ _ _ _ _ _ _
 refine wpIn_seq ?_
 refine wpIn_seq ?_
 refine OX Z (fun ⟨_, _, h⟩ => h) E ([0, 1, 2, 3, 4, 5, 6, 7, 8, 9, 10, 11, 12, 13, 14, 15, 16, 17, 18]) Z Z Z Z AF ?_
 replace E := E.drew
 refine yG ?_
 change Code.wpIn _ _ _ _ _ _ _
 refine wpIn_cond_true O ?_
 refine wpIn_seq ?_
 refine cG Z (fun ⟨_, _, h⟩ => h) ?_
 have dx := RC E
 refine yG ?_
 replace E := NQ (NQ QP) E
 refine yG ?_
 refine EF O (CI (v := .slice none 0 0) O Z O O O dx AH ?_)
 intro m5 h7 fg
 replace E := oY E dx h7 fg (ds := [.slice none 0 0])
 clear dx h7 fg
 have dw := RC E
 refine yG ?_
 replace E := NQ (NQ QP) E
 refine EF O (CI (v := .int .i64 ↑J) O Z O O O dw AH ?_)
 intro m4 h6 ff
 replace E := oY E dw h6 ff (ds := [.int .i64 ↑J])
 clear dw h6 ff
 have dv := RC E
 refine yG ?_
 replace E := NQ (NQ QP) E
 refine EF O (CI (v := .int .i64 440) O Z O O O dv AH ?_)
 intro m3 h5 fe
 replace E := oY E dv h5 fe (ds := [.int .i64 440])
 clear dv h5 fe
 refine yG ?_
 change Code.wpIn _ _ _ _ _ _ _
 refine wpIn_ret ?_
 show KeepsOthers _ _ /\ _
 exact ⟨(e8 E), rfl, q, ⟨(J, wd), aa, U⟩, (nd, p), rfl, H, cZ N a0 t, zE⟩
 ) : p := h
attribute [local go_sem] Oper.semAt_some
theorem JW {w : World} (hT : ∀ w, (isAgg T).run prog w = .ok false w) (hb : Bx w b T [v]) : (loadVar T ⟨b, 0, none⟩).run prog w = .ok v w := by
 have e : w.cell? ⟨b, 0, none⟩ = some v := by rw [hb.cell]; rfl
 simp [loadVar, hT, e]
theorem JY {cs : List Value} (h : Bx A b T cs) (hr : ∃ o : Obj, A.heap[r]? = some o /\ o.isCells = false) : (fX b T cs).ok r := by
 obtain ⟨o, f, k⟩ := hr
 refine GO fun e => ?_
 subst e
 unfold Bx at h
 rw [h] at f; cases f; cases k
theorem Pj {α : Type} {e : El α} {t base : Nat} {l : List α} (h : Acc e t base WW A v l) (hr : ∃ o : Obj, A.heap[r]? = some o /\ o.isCells = false) : (fA e t base WW v l).ok r := by
 obtain ⟨o, k, f⟩ := hr
 refine Jv (fun e => ?_) jY
 have := Xr h e o k
 rw [this] at f; cases f
def kbS (sb : Nat) : Nat -> Prop := fun k => k < 2 ∨ k = sb
def fKB (W : World) (sb : Nat) : SF := fD (kbS sb) (keepB sb W) (fun _ _ h hk => fun k hs => (hk.block k hs).trans (h k hs))
theorem Ju {c : Nat} (h : 2 <= c) (h2 : c ≠ sb) : (fKB W sb).ok c := by rintro (g | g); omega; exact h2 g
theorem Env.kb (E : Env W L) (h : sb < W.heap.size) (h2 : 2 <= W.heap.size) : Env W (fKB W sb :: L) := ⟨⟨fun _ _ => rfl, fun k hk => by rcases hk with g | g <;> omega⟩, E⟩
def fDf (D : Nat) : SF := fD (fun k => k = D) (fun w => w.heap[D]? = some (.deferred (some []))) (fun _ _ h hk => (hk.block D rfl).trans h)
theorem okDf {c : Nat} (h : c ≠ D) : (fDf D).ok c := h
theorem Env.df (E : Env W L) (h : W.heap[D]? = some (.deferred (some []))) : Env W (fDf D :: L) := ⟨⟨h, fun k hk => by subst hk; exact (Array.getElem?_eq_some_iff.1 h).1⟩, E⟩
theorem GC (h : W.heap[D]? = some (.deferred (some []))) : ∃ o : Obj, W.heap[D]? = some o /\ o.isCells = false := ⟨_, h, rfl⟩
theorem Env.put (E : Env W L) (h : W.heap[D]? = some (.deferred (some []))) (hok : Ok D L) : Env (W.putObj D (.deferred none)) L := E.turn (grownBy_putObj' W D _) (fun r e => by cases e; exact GC h) (fun r e => by cases e; exact hok)
theorem jP (a : Nat) : ((a : Nat) : Int).tmod 2 = ((a % 2 : Nat) : Int) := (Int.ofNat_tmod a 2).symm
theorem Od {l : List Bs} {s : Bs} (h : DM 8 l = false) : EE l s = ([], 0, 1) := by unfold EE; rw [if_pos h]
theorem Cc {l : List Bs} {s : Bs} (h : DM 8 l = true) (h2 : 4000 < s.length) : EE l s = ([], 0, 2) := by unfold EE; rw [if_neg (by rw [h]; decide), if_pos h2]
theorem Oc {l : List Bs} {s : Bs} (h : DM 8 l = true) (h2 : s = [48]) : EE l s = ([], 0, 0) := by unfold EE; subst h2; rw [if_neg (by rw [h]; decide), if_neg AE, if_pos rfl]
theorem Mp {l : List Bs} {i : Nat} {st st' : cF} {w : Bs} (h : HJ l i st w = some st') : st'.2.length = st.2.length + (if i % 2 = 1 then 0 else 1) := by
 unfold HJ at h
 split at h
 . rename_i hi
   rw [if_pos hi]
   split at h
   . simp only [Option.some.injEq] at h; subst h; rfl
   cases h
 rename_i hi
 rw [if_neg hi]
 cases e : cO l (QR i st.1 w).1 with
 | none => simp [e] at h
 | some t =>
   obtain ⟨c, m⟩ := t
   simp only [e] at h
   split at h
   . cases h
   simp only [Option.some.injEq] at h; subst h; simp
theorem Nm {l : List Bs} : ∀ {ws : List Bs} {i : Nat} {st st' : cF}, kN l i st ws = some st' -> i % 2 = 0 -> st.2.length = i / 2 -> st'.2.length = (i + ws.length + 1) / 2
 | ws, i, st, st', h, hi, hl => by
   have key : ∀ (ws : List Bs) (i : Nat) (st : cF), kN l i st ws = some st' -> st.2.length = (i + 1) / 2 -> st'.2.length = (i + ws.length + 1) / 2 := by
    intro ws
    induction ws with
    | nil => intro i st h hl; simp only [kN, Option.some.injEq] at h; subst h; simpa using hl
    | cons w ws ih =>
      intro i st h hl
      simp only [kN] at h
      cases e : HJ l i st w with
      | none => rw [e] at h; cases h
      | some st2 =>
        rw [e] at h
        have := ih (i + 1) st2 h (by have := Mp e; split at this <;> omega)
        simp only [List.length_cons]; omega
   exact key ws i st h AA
theorem tG : ∀ (k : Nat) (ws : List Bs), (iQ k ws).length = ws.length
 | _, [] => rfl
 | k, w :: ws => by simp only [iQ, List.length_cons]; rw [tG]
section
variable {l : List Bs} {i : Nat} {nd : Bool} {p : List Tm} {wd : Bs}
theorem Ez (h : i % 2 = 1) (hw : wd = [43]) : HJ l i (nd, p) wd = some (false, p) := by unfold HJ; rw [if_pos h, if_pos (.inl hw)]; subst hw; rfl
theorem wT (h : i % 2 = 1) (hw : wd = [45]) : HJ l i (nd, p) wd = some (true, p) := by unfold HJ; rw [if_pos h, if_pos (.inr hw)]; subst hw; rfl
theorem Ng (h : i % 2 = 1) (h1 : ¬ wd = [43]) (h2 : ¬ wd = [45]) : HJ l i (nd, p) wd = none := by unfold HJ; rw [if_pos h, if_neg (by rintro (g | g); exact h1 g; exact h2 g)]
theorem cZ {cw : Bs} (h : ¬ i % 2 = 1) (hcs : QR i nd wd = (cw, sg)) (hr : cO l cw = none) : HJ l i (nd, p) wd = none := by unfold HJ; rw [if_neg h]; simp only [hcs, hr]
theorem Eo {cw : Bs} (h : ¬ i % 2 = 1) (hcs : QR i nd wd = (cw, sg)) (hr : cO l cw = some (c, m)) (h0 : ¬ i = 0) (hc : 0 <= FR m (oG p)) : HJ l i (nd, p) wd = none := by unfold HJ; rw [if_neg h]; simp only [hcs, hr]; rw [if_pos ⟨h0, hc⟩]
theorem eX {cw : Bs} (h : ¬ i % 2 = 1) (hcs : QR i nd wd = (cw, sg)) (hr : cO l cw = some (c, m)) (h0 : i = 0 ∨ ¬ 0 <= FR m (oG p)) : HJ l i (nd, p) wd = some (false, p ++ [(Iz sg c, m)]) := by unfold HJ; rw [if_neg h]; simp only [hcs, hr]; rw [if_neg (by rintro ⟨g1, g2⟩; rcases h0 with g | g; exact g1 g; exact g g2)]
theorem cut_1 (h : i = 0) (hh : wd.head? = some 45) : QR i nd wd = (wd.tail, true) := by unfold QR; rw [if_pos h, if_pos hh]
theorem Xz (h : i = 0) (hh : ¬ wd.head? = some 45) : QR i nd wd = (wd, false) := by unfold QR; rw [if_pos h, if_neg hh]
theorem Xy (h : ¬ i = 0) : QR i nd wd = (wd, nd) := by unfold QR; rw [if_neg h]
theorem yE (h : p[p.length - 1]? = some (c, m)) : oG p = m := by unfold oG; rw [List.getLast?_eq_getElem?, h]; rfl
end
theorem Eg (wd : Bs) (w : World) (h : wd.head? = some 45) : Calls prog 41 #[.string (bs wd), .string (bs [45])] w (GY w (.tuple #[.string (bs wd.tail), .bool true])) := by
 have := WJ wd [45] w
 cases wd with
 | nil => cases h
 | cons a r =>
   simp at h; subst h
   have e1 : Lib.trimPrefix (45 :: r) [45] = r := by simp [Lib.trimPrefix, Lib.hasPrefix]
   have e2 : Lib.hasPrefix (45 :: r) [45] = true := by simp [Lib.hasPrefix]
   rwa [e1, e2] at this
theorem Lo (wd : Bs) (w : World) (h : ¬ wd.head? = some 45) : Calls prog 41 #[.string (bs wd), .string (bs [45])] w (GY w (.tuple #[.string (bs wd), .bool false])) := by
 have := WJ wd [45] w
 have e2 : Lib.hasPrefix wd [45] = false := by
  cases wd with
  | nil => rfl
  | cons a r => simp at h; simp [Lib.hasPrefix, List.isPrefixOf]; exact fun g => h g.symm
 have e1 : Lib.trimPrefix wd [45] = wd := by simp [Lib.trimPrefix, e2]
 rwa [e1, e2] at this
theorem qR {y : Operand} {s : Bs}
 (ho : o.op = .call { callee := .value (.func 40), args := [y].toArray, argTypes := tys }) (hy : a.eval y = .string (bs s))
 (h : ∀ b w', b = w.heap.size -> w'.heap.size = w.heap.size + 1 -> Below w.heap.size w w' -> Bx w' b 9 [.string (bs s)] -> K (a.put o.dst (.func (.func 85) #[] #[.pointer (some ⟨b, 0, none⟩)])) w') : o.wp prog a w K Q := by
 refine CZ ⟨_, func40, by kernel_rfl, O⟩ ho (Sz s w) (by simp [hy]) ?_
 rintro e w' ⟨rfl, rfl⟩
 exact ⟨_, rfl, h _ _ rfl AH ((Below.refl _ _).alloc (Nat.le_refl _) _) (KS w 9 [.string (bs s)])⟩
theorem XB {f : Nat} {mm : List Nat} (hf : Fn P f)
 (ho : o.op = .call { callee := .value (.func f), args := args.toArray, argTypes := tys }) (hc : Calls P f vs.toArray w (Sg w (some (c, mm)))) (hv : args.map a.eval = vs) (E : Env w L)
 (h : ∀ w' n s m u, Below w.heap.size w w' -> Env w' (fI (.agg #[.bool n, s]) c.num :: fI (.agg #[.bool m, u]) ((c.den : Nat) : Int) :: L) -> K (a.put o.dst (.tuple #[.agg (EW n s m u mm).toArray, .bool true])) w') : o.wp P a w K Q := by
 refine CZ hf ho hc hv ?_
 rintro e w' ⟨n, s, m, u, rfl, p, l, k⟩
 exact ⟨_, rfl, h w' n s m u k (((E.below k).i l).i p)⟩
theorem XC {f : Nat} (hf : Fn P f)
 (ho : o.op = .call { callee := .value (.func f), args := args.toArray, argTypes := tys }) (hc : Calls P f vs.toArray w (Sg w none)) (hv : args.map a.eval = vs) (E : Env w L)
 (h : ∀ w', Below w.heap.size w w' -> Env w' L -> K (a.put o.dst (.tuple #[.agg (EW false (.slice none 0 0) false (.slice none 0 0) zeroM).toArray, .bool false])) w') : o.wp P a w K Q := by
 refine CZ hf ho hc hv ?_
 rintro e w' ⟨rfl, k⟩
 exact ⟨_, rfl, h w' k (E.below k)⟩
set_option maxRecDepth 100000 in
set_option maxHeartbeats 8000000 in
theorem jM (s : Bs) (vl : Value) (l : List Bs) (w : World) (hRl : IsR elS (DL w.heap.size) w vl l) (hLl : l.length <= 1000000) (hs : s.length <= 1000000) (hG : Glob w) :
 Calls prog 13 #[.string (bs s), vl] w (Se w (EE l s)) := by
 have E := Env.start w
 obtain ⟨a5, R, rfl, Y, ne⟩ := hRl.shp
 replace E := E.r hRl (DZ _)
 clear hRl
 have no := hG.two
 replace E := E.gl hG
 refine callsIn_wide.1 (callsIn_of_wp_marks (n := 5) func13 O trivial (wpIn_wide.2 ?_) O)
 simp only [ntmps13, List.size_toArray, List.length_cons, List.length_nil, Nat.reduceAdd, Nat.reduceSub, Array.replicate_succ, Array.replicate_zero, List.push_toArray, List.append_toArray, List.nil_append, List.cons_append]
 refine yG ?_
 refine EF O (vX (v := .slice a5 l.length R) O O O ?_)
 intro b1 w1 ij z1 d1 x1
 have l1 : w.heap.size <= b1 := by rw [ij]; exact E.2.2.1.size
 replace E := (E.below d1).x x1
 clear ij z1 d1 x1
 refine yG ?_
 refine EF O (LL (z := .slice none 0 0) Z O O ?_)
 intro b2 w2 ii z2 d2 Q
 have ld : b1 < b2 := by rw [ii]; exact Bx.lt E.1
 replace E := E.below d2
 clear ii z2 d2
 refine yG ?_
 refine EF O (LL (z := .int .i64 0) Z O O ?_)
 intro b3 w3 ih z3 d3 L
 have lc : b2 < b3 := by rw [ih]; exact Bx.lt (Q)
 replace E := E.below d3
 replace Q := Bx.below Q d3
 clear ih z3 d3
 refine yG ?_
 refine EF O (LL (z := .int .i64 0) Z O O ?_)
 intro b4 w4 ig z4 d4 F
 have la : b3 < b4 := by rw [ig]; exact Bx.lt (L)
 replace E := E.below d4
 replace Q := Bx.below Q d4
 replace L := Bx.below L d4
 clear ig z4 d4
 by_cases hV : DM 8 l = true
 case neg =>
  refine yG ?_
  refine EF O (CA LI O (CT (DY hV) (aN _ l _ (BW E.2.2.1) hLl)) O E ?_)
  clear E
  intro km ap E
  replace Q := Q.below ap
  replace L := L.below ap
  replace F := F.below ap
  clear ap
  refine yG ?_
  refine EF O (CI (v := .slice none 0 0) O Z O O O Q AH ?_)
  intro kl ad cd
  replace E := oY E Q ad cd (ds := [.slice none 0 0])
  replace L := Bx.onl L AA ad
  replace F := Bx.onl F AA ad
  clear Q ad cd
  refine yG ?_
  refine EF O (CI (v := .int .i64 0) O Z O O O L AH ?_)
  intro kk bj cc
  replace E := oY E L bj cc (ds := [.int .i64 0])
  replace F := Bx.onl F AA bj
  clear L bj cc
  refine yG ?_
  refine EF O (CI (v := .int .i64 1) O Z O O O F AH ?_)
  intro kj cq cb
  replace E := oY E F cq cb (ds := [.int .i64 1])
  clear F cq cb
  have r1 := JW NN E.2.2.1
  have r2 := JW CW E.2.1
  have r3 := JW LQ E.1
  refine yG ?_
  exact jL (v := .tuple #[.slice none 0 0, .int .i64 0, .int .i64 1]) YLY rfl (by rw [show EE l s = ([], 0, 1) from Od (DY hV)]; exact ⟨_, rfl, ⟨_, rfl, IsR.nil _ _ _⟩, e6 E⟩)
 refine yG ?_
 refine EF O (CA LI O (CT hV (aN _ l _ (BW E.2.2.1) hLl)) O E ?_)
 clear E
 intro w5 d5 E
 replace Q := Q.below d5
 replace L := L.below d5
 replace F := F.below d5
 clear d5
 by_cases nh : ((s.length : Nat) : Int) > 4000
 case pos =>
  refine yG ?_
  refine EF O (CI (v := .slice none 0 0) O Z O O O Q AH ?_)
  intro w6 o6 y6
  replace E := oY E Q o6 y6 (ds := [.slice none 0 0])
  replace L := Bx.onl L AA o6
  replace F := Bx.onl F AA o6
  clear Q o6 y6
  refine yG ?_
  refine EF O (CI (v := .int .i64 0) O Z O O O L AH ?_)
  intro w7 o7 y7
  replace E := oY E L o7 y7 (ds := [.int .i64 0])
  replace F := Bx.onl F AA o7
  clear L o7 y7
  refine yG ?_
  refine EF O (CI (v := .int .i64 2) O Z O O O F AH ?_)
  intro w8 o8 y8
  replace E := oY E F o8 y8 (ds := [.int .i64 2])
  clear F o8 y8
  have r1 := JW NN E.2.2.1
  have r2 := JW CW E.2.1
  have r3 := JW LQ E.1
  refine yG ?_
  exact jL (v := .tuple #[.slice none 0 0, .int .i64 0, .int .i64 2]) YLY rfl (by rw [show EE l s = ([], 0, 2) from Cc hV AA]; exact ⟨_, rfl, ⟨_, rfl, IsR.nil _ _ _⟩, e6 E⟩)
 have ab : ¬ 4000 < s.length := by omega
 by_cases av : s = [48]
 case pos =>
  refine yG ?_
  refine V O O (EO (a := s) (b := [48]) (c := true) O O O (by rw [beq_iff_eq]; exact av)) ?_
  refine yG ?_
  refine EF O (CI (v := .slice none 0 0) O Z O O O Q AH ?_)
  intro n6 bv g1
  replace E := oY E Q bv g1 (ds := [.slice none 0 0])
  replace L := Bx.onl L AA bv
  replace F := Bx.onl F AA bv
  clear Q bv g1
  refine yG ?_
  refine EF O (CI (v := .int .i64 0) O Z O O O L AH ?_)
  intro n5 ev g0
  replace E := oY E L ev g0 (ds := [.int .i64 0])
  replace F := Bx.onl F AA ev
  clear L ev g0
  refine yG ?_
  refine EF O (CI (v := .int .i64 0) O Z O O O F AH ?_)
  intro n4 hq fz
  replace E := oY E F hq fz (ds := [.int .i64 0])
  clear F hq fz
  have r1 := JW NN E.2.2.1
  have r2 := JW CW E.2.1
  have r3 := JW LQ E.1
  refine yG ?_
  exact jL (v := .tuple #[.slice none 0 0, .int .i64 0, .int .i64 0]) YLY rfl (by rw [show EE l s = ([], 0, 0) from Oc hV av]; exact ⟨_, rfl, ⟨_, rfl, IsR.nil _ _ _⟩, e6 E⟩)
 refine yG ?_
 refine V O O (EO (a := s) (b := [48]) (c := false) O O O (by rw [beq_eq_false_iff_ne]; exact av)) ?_
 refine yG ?_
 refine EF O (LL (z := .slice none 0 0) Z O O ?_)
 intro a9 n3 dd jq bt T
 have kd : b4 < a9 := by rw [dd]; exact Bx.lt (F)
 replace E := E.below bt
 replace Q := Bx.below Q bt
 replace L := Bx.below L bt
 replace F := Bx.below F bt
 clear dd jq bt
 refine yG ?_
 refine EF O (LL (z := .int .i64 0) Z O O ?_)
 intro a8 n2 dc jp ay ep
 have kc : a9 < a8 := by rw [dc]; exact Bx.lt (T)
 replace E := E.below ay
 replace Q := Bx.below Q ay
 replace L := Bx.below L ay
 replace F := Bx.below F ay
 replace T := Bx.below T ay
 clear dc jp ay
 refine yG ?_
 refine EF O (CI (v := .int .i64 0) O Z O O O ep AH ?_)
 intro n1 ar fy
 replace E := oY E ep ar fy (ds := [.int .i64 0])
 replace Q := Bx.onl Q AA ar
 replace L := Bx.onl L AA ar
 replace F := Bx.onl F AA ar
 replace T := Bx.onl T AA ar
 clear ep ar fy
 refine yG ?_
 refine EF O (LL (z := .bool false) Z O O ?_)
 intro a7 n0 db jo ax eo
 have ka : a8 < a7 := by rw [db]; exact Bx.lt E.1
 replace E := E.below ax
 replace Q := Bx.below Q ax
 replace L := Bx.below L ax
 replace F := Bx.below F ax
 replace T := Bx.below T ax
 clear db jo ax
 refine yG ?_
 refine EF O (CI (v := .bool false) O Z O O O eo AH ?_)
 intro mz aq fx
 replace E := oY E eo aq fx (ds := [.bool false])
 replace Q := Bx.onl Q AA aq
 replace L := Bx.onl L AA aq
 replace F := Bx.onl F AA aq
 replace T := Bx.onl T AA aq
 clear eo aq fx
 refine yG ?_
 refine EF O (qR (s := s) O O ?_)
 intro P g5 da jm aw g4
 have k9 : a7 < P := by rw [da]; exact Bx.lt E.1
 replace E := E.below aw
 replace Q := Bx.below Q aw
 replace L := Bx.below L aw
 replace F := Bx.below F aw
 replace T := Bx.below T aw
 clear da jm aw
 replace E := E.x g4
 clear g4
 replace E := E.x Q
 clear Q
 replace E := E.x L
 clear L
 replace E := E.x F
 clear F
 replace E := E.x T
 clear T
 obtain ⟨f, C⟩ : ∃ n, n = g5.heap.size := ⟨_, rfl⟩
 have kg : w.heap.size <= f := by rw [C]; exact (RD E).size
 have id : a9 < f := by rw [C]; exact Bx.lt E.1
 have ic : b4 < f := by rw [C]; exact Bx.lt E.2.1
 have ib : b3 < f := by rw [C]; exact Bx.lt E.2.2.1
 have ia : b2 < f := by rw [C]; exact Bx.lt (e3 E)
 have i9 : P < f := by rw [C]; exact Bx.lt (e4 E)
 have i8 : a7 < f := by rw [C]; exact Bx.lt (e5 E)
 have i7 : a8 < f := by rw [C]; exact Bx.lt (e6 E)
 have i6 : b1 < f := by rw [C]; exact Bx.lt (e7 E)
 replace E := (E.sz (Nat.le_of_eq C)).a (Acc.nil JQ 88 f WW _) (RO _)
 clear C
 obtain ⟨B0, ac⟩ : ∃ n, n = g5.heap.size := ⟨_, rfl⟩
 have nb : w.heap.size <= B0 := by rw [ac]; exact (WE E).size
 have lj : b4 < B0 := by rw [ac]; exact Bx.lt (e3 E)
 have li : b3 < B0 := by rw [ac]; exact Bx.lt (e4 E)
 have lh : b2 < B0 := by rw [ac]; exact Bx.lt (e5 E)
 have lg : P < B0 := by rw [ac]; exact Bx.lt (e6 E)
 refine yG ?_
 refine (wpIn_wide (n := 5)).1 ?_
 refine wpIn_rangeFunc_ownF O AE (gf := 85) (lb := #[.pointer (some ⟨P, 0, none⟩)]) O trivial (enters_of func85 Z O) (wC P s AA 4 AE _ (e6 E) (RD E).1) Vh (Vi AA AA) (Below.refl _ _) (fun _ => rfl)
  (fun q W => ∃ (ng nd : Bool) (p : List Tm) (vr : Value), kN l 0 (false, []) ((kK q).map (·.2)) = some (nd, p) /\ (q.length % 2 = 0 -> ng = nd) /\ q.length <= 4001 /\ Env W [fA JQ 88 f WW vr p, iR f, fX a9 (28) ([vr]), fX b4 (32) ([.int .i64 0]), fX b3 (3) ([.int .i64 0]), fX b2 (28) ([.slice none 0 0]), fX P (9) ([.string (bs s)]), fX a7 (4) ([.bool ng]), fX a8 (3) ([.int .i64 ((q.length : Nat) : Int)]), fX b1 (30) ([.slice a5 l.length R]), fGl, fR elS (DL w.heap.size) (.slice a5 l.length R) l, fW w])
  (fun c q W => c = .ret /\ ∃ (a1 : List Wd) (x : Wd) (st : cF), q = a1 ++ [x] /\ kN l 0 (false, []) ((kK a1).map (·.2)) = some st /\ HJ l a1.length st x.1.2 = none /\ Env W [fX b2 (28) ([.slice none 0 0]), fX b3 (3) ([.int .i64 ↑x.1.1]), fX b4 (32) ([.int .i64 440]), fW w])
  (fun q A B row hs hg hr => by obtain ⟨ng, nd, p, vr, q1, q2, q3, E⟩ := hs; exact ⟨ng, nd, p, vr, q1, q2, q3, E.turn hg (fun r e => (hr r e).2) (fun r e => by have H := (hr r e).1; have G := (hr r e).2; exact ⟨Pj E.1.1 G, BX, JY E.2.2.1 G, JY (e3 E) G, JY (e4 E) G, JY (e5 E) G, JY (e6 E) G, JY (e7 E) G, JY (e8 E) G, JY (e9 E) G, LA AA, FV (CY AA), OP AA, BX⟩)⟩)
  (fun c q A B row hs hg hr => by obtain ⟨q0, a1, x, st, q1, q2, q3, E⟩ := hs; exact ⟨q0, a1, x, st, q1, q2, q3, E.turn hg (fun r e => (hr r e).2) (fun r e => by have H := (hr r e).1; have G := (hr r e).2; exact ⟨JY E.1 G, JY E.2.1 G, JY E.2.2.1 G, OP AA, BX⟩)⟩)
  ⟨false, false, [], .slice none 0 0, rfl, fun _ => rfl, by simp, zE⟩
  (fun x => { tmps := #[.string (bs s), .slice a5 l.length R, undef, .pointer (some ⟨b1, 0, none⟩), .pointer (some ⟨b2, 0, none⟩), .pointer (some ⟨b3, 0, none⟩), .pointer (some ⟨b4, 0, none⟩), .pointer (some ⟨a9, 0, none⟩), .pointer (some ⟨a8, 0, none⟩), .pointer (some ⟨a7, 0, none⟩), .int .i64 ((x.1.1 : Nat) : Int), .string (bs x.1.2), undef, undef, .slice a5 l.length R, .bool true, .bool false, .string (bs s), .int .i64 ↑s.length, .bool false, .string (bs s), .bool false, .string (bs s), .func (.func 85) #[] #[.pointer (some ⟨P, 0, none⟩)], .int .i64 ((x.1.1 : Nat) : Int), .string (bs x.1.2), undef, undef, undef, undef, undef, undef, undef, undef, undef, undef, undef, undef, undef, undef, undef, undef, undef, undef, undef, undef, undef, undef, undef, undef, undef, undef, undef, undef, undef, undef, undef, undef, undef, undef, undef, undef, undef, undef, undef, undef, undef, undef, undef, undef, undef, undef, undef, undef, undef, undef, undef, undef, undef, undef, undef, undef, undef, undef, undef, undef, undef, undef, undef], defers := [] }) ?assign ?body ?done ?stop
 case assign =>
  intro r x W K hK
  unfold wdE
  gi_wp2
  exact hK
 case body =>
  rintro r q ⟨⟨J, wd⟩, aa, U⟩ W ⟨ng, nd, p, vr, H, G, ke, E⟩ lf
  change Code.wpIn _ _ _ _ _ ⟨#[.string (bs s), .slice a5 l.length R, undef, .pointer (some ⟨b1, 0, none⟩), .pointer (some ⟨b2, 0, none⟩), .pointer (some ⟨b3, 0, none⟩), .pointer (some ⟨b4, 0, none⟩), .pointer (some ⟨a9, 0, none⟩), .pointer (some ⟨a8, 0, none⟩), .pointer (some ⟨a7, 0, none⟩), .int .i64 ↑J, .string (bs wd), undef, undef, .slice a5 l.length R, .bool true, .bool false, .string (bs s), .int .i64 ↑s.length, .bool false, .string (bs s), .bool false, .string (bs s), .func (.func 85) #[] #[.pointer (some ⟨P, 0, none⟩)], .int .i64 ↑J, .string (bs wd), undef, undef, undef, undef, undef, undef, undef, undef, undef, undef, undef, undef, undef, undef, undef, undef, undef, undef, undef, undef, undef, undef, undef, undef, undef, undef, undef, undef, undef, undef, undef, undef, undef, undef, undef, undef, undef, undef, undef, undef, undef, undef, undef, undef, undef, undef, undef, undef, undef, undef, undef, undef, undef, undef, undef, undef, undef, undef, undef, undef, undef, undef, undef], []⟩ _
  replace aa : J <= 4000 := aa
  replace U : wd.length <= 4000 := U
  have nc : p.length = (q.length + 1) / 2 := by have := Nm H rfl rfl; simpa [MB] using this
  have nf : (iQ 0 (DI 32 s)).length <= 4001 := by rw [tG]; have := PP 32 s; omega
  have X : p.length <= 4001 := by omega
  have kh : 2 <= W.heap.size := (RD E).1.two
  have nn : (Qs W).ok a9 := rX E.2.2.1
  have nm : (Qs W).ok b4 := rX (e3 E)
  have nl : (Qs W).ok b3 := rX (e4 E)
  have nk : (Qs W).ok b2 := rX (e5 E)
  have nj : (Qs W).ok a7 := rX (e7 E)
  have ni : (Qs W).ok a8 := rX (e8 E)
  have hkA : ∀ g, vr.ownBlock = some g -> (Qs W).ok g := fun g hg => Xr E.1.1 hg
  have kf := Bx.lt (e6 E)
  replace E := ((E.ko).kb (sb := P) kf kh).sz (Nat.le_refl W.heap.size)
  refine wpIn_block ?_
  refine wpIn_seq ?_
  refine cG Z (fun ⟨_, _, h⟩ => h) ?_
  have en := RC E
  refine yG ?_
  replace E := NQ (NQ QP) E
  refine yG ?_
  refine EF O (CI (v := .int .i64 ↑(q.length + 1)) O Z O O O en AH ?_)
  intro my hp fw
  replace E := oY E en hp fw (ds := [.int .i64 ↑(q.length + 1)])
  clear en hp fw
  refine yG ?_
  change Code.wpIn _ _ _ _ _ _ _
  refine wpIn_seq ?_
  refine wpIn_seq ?_
  by_cases N : q.length % 2 = 1
  case pos =>
   refine cG Z (fun ⟨_, _, h⟩ => h) ?_
   refine yG ?_
   refine V (v := .int .i64 ↑((q.length + 1) % 2)) O O (FD O O O AE (jP _)) ?_
   refine yG ?_
   change Code.wpIn _ _ _ _ _ _ _
   refine wpIn_cond_true O ?_
   refine wpIn_seq ?_
   refine wpIn_seq ?_
   by_cases a2 : wd = [43]
   case pos =>
    refine cG Z (fun ⟨_, _, h⟩ => h) ?_
    refine yG ?_
    refine V O O (FG (a := wd) (b := [43]) (c := false) O O O (by rw [bne_eq_false_iff_eq]; exact a2)) ?_
    refine yG ?_
    change Code.wpIn _ _ _ _ _ _ _
    refine wpIn_cond_false O ?_
    refine wpIn_skip ?_
    change Code.wpIn _ _ _ _ _ _ _
    refine wpIn_seq ?_
    refine cG Z (fun ⟨_, _, h⟩ => h) ?_
    refine yG ?_
    refine V O O (EO (a := wd) (b := [45]) (c := false) O O O (by rw [beq_eq_false_iff_ne]; rw [a2]; decide)) ?_
    have em := RC E
    replace E := NQ (NQ QP) E
    refine yG ?_
    refine EF O (CI (v := .bool false) O Z O O O em AH ?_)
    intro mx ho fv
    replace E := oY E em ho fv (ds := [.bool false])
    clear em ho fv
    refine yG ?_
    change Code.wpIn _ _ _ _ _ _ _
    refine wpIn_exit ?_
    show KeepsOthers _ _ /\ keepB _ _ _ /\ _
    exact ⟨e4 E, (e3 E).1, false, false, p, vr, by rw [LC, List.map_append, List.map_cons, List.map_nil, SD H, List.length_map, MB, Nat.zero_add]; exact Ez N a2, fun _ => rfl, Yir, YwF⟩
   by_cases a6 : wd = [45]
   case pos =>
    refine cG Z (fun ⟨_, _, h⟩ => h) ?_
    refine yG ?_
    refine V O O (FG (a := wd) (b := [43]) (c := true) O O O (by rw [bne_iff_ne]; exact a2)) ?_
    refine yG ?_
    refine V Z O (FG (a := wd) (b := [45]) (c := false) O O O (by rw [bne_eq_false_iff_eq]; exact a6)) ?_
    refine yG ?_
    change Code.wpIn _ _ _ _ _ _ _
    refine wpIn_cond_false O ?_
    refine wpIn_skip ?_
    change Code.wpIn _ _ _ _ _ _ _
    refine wpIn_seq ?_
    refine cG Z (fun ⟨_, _, h⟩ => h) ?_
    refine yG ?_
    refine V O O (EO (a := wd) (b := [45]) (c := true) O O O (by rw [beq_iff_eq]; exact a6)) ?_
    have el := RC E
    replace E := NQ (NQ QP) E
    refine yG ?_
    refine EF O (CI (v := .bool true) O Z O O O el AH ?_)
    intro mw hn fu
    replace E := oY E el hn fu (ds := [.bool true])
    clear el hn fu
    refine yG ?_
    change Code.wpIn _ _ _ _ _ _ _
    refine wpIn_exit ?_
    show KeepsOthers _ _ /\ keepB _ _ _ /\ _
    exact ⟨e4 E, (e3 E).1, true, true, p, vr, by rw [LC, List.map_append, List.map_cons, List.map_nil, SD H, List.length_map, MB, Nat.zero_add]; exact wT N a6, fun _ => rfl, Yir, YwF⟩
   refine cG Z (fun ⟨_, _, h⟩ => h) ?_
   refine yG ?_
   refine V O O (FG (a := wd) (b := [43]) (c := true) O O O (by rw [bne_iff_ne]; exact a2)) ?_
   refine yG ?_
   refine V Z O (FG (a := wd) (b := [45]) (c := true) O O O (by rw [bne_iff_ne]; exact a6)) ?_
   refine yG ?_
   change Code.wpIn _ _ _ _ _ _ _
   refine wpIn_cond_true O ?_
   refine wpIn_seq ?_
   refine cG Z (fun ⟨_, _, h⟩ => h) ?_
   have ek := e9 E
   refine yG ?_
   replace E := Wb E
   refine yG ?_
   refine EF O (CI (v := .slice none 0 0) O Z O O O ek AH ?_)
   intro mv hm ft
   replace E := oY E ek hm ft (ds := [.slice none 0 0])
   clear ek hm ft
   have ej := e9 E
   refine yG ?_
   replace E := Wb E
   refine EF O (CI (v := .int .i64 ↑J) O Z O O O ej AH ?_)
   intro mu hl fs
   replace E := oY E ej hl fs (ds := [.int .i64 ↑J])
   clear ej hl fs
   have ei := e9 E
   refine yG ?_
   replace E := Wb E
   refine EF O (CI (v := .int .i64 440) O Z O O O ei AH ?_)
   intro mt hk fr
   replace E := oY E ei hk fr (ds := [.int .i64 440])
   clear ei hk fr
   refine yG ?_
   change Code.wpIn _ _ _ _ _ _ _
   refine wpIn_ret ?_
   show KeepsOthers _ _ /\ _
   exact ⟨(e6 E), rfl, q, ⟨(J, wd), aa, U⟩, (nd, p), rfl, H, Ng N a2 a6, zE⟩
  refine cG Z (fun ⟨_, _, h⟩ => h) ?_
  refine yG ?_
  refine V (v := .int .i64 ↑((q.length + 1) % 2)) O O (FD O O O AE (jP _)) ?_
  refine yG ?_
  change Code.wpIn _ _ _ _ _ _ _
  refine wpIn_cond_false O ?_
  refine wpIn_skip ?_
  change Code.wpIn _ _ _ _ _ _ _
  refine wpIn_seq ?_
  refine wpIn_seq ?_
  by_cases au : q.length = 0
  case neg =>
   refine cG Z (fun ⟨_, _, h⟩ => h) ?_
   refine yG ?_
   change Code.wpIn _ _ _ _ _ _ _
   refine wpIn_cond_false O ?_
   refine wpIn_skip ?_
   change Code.wpIn _ _ _ _ _ _ _
   refine wpIn_seq ?_
   have a0 := Xy (nd := nd) (wd := wd) au
   have Y : (wd).length <= 4000 := by have := U; first | exact U | (rw [List.length_tail]; omega)
   by_cases t : cO l wd = none
   case pos =>
    refine cG Z (fun ⟨_, _, h⟩ => h) ?_
    refine yG ?_
    refine EF O (XC II O YuX O E ?_)
    clear E
    intro lw _ E
    refine yG ?_
    refine EF O (BZ FQ O ?_)
    intro c6 lv ak jf il dr
    have ix : (vr : Value).ownBlock ≠ some c6 := fun h => by have := (Acc.lt (e4 E).1 h).2; omega
    have k4 : P < c6 := by rw [ak]; exact Bx.lt (RD E)
    have j3 : W.heap.size <= c6 := by rw [ak]; exact CS E.2.1
    have j2 : f <= c6 := by rw [ak]; exact CS (e5 E)
    replace E := E.below il
    clear ak jf il
    refine yG ?_
    refine EF O (BY FQ O O O dr Y9d (CF CK) (DO (M := zeroM) GB GB) ?_)
    intro lu h0 fb
    replace E := oY E dr h0 fb (ds := (EW false (.slice none 0 0) false (.slice none 0 0) zeroM))
    clear dr h0 fb
    refine yG ?_
    change Code.wpIn _ _ _ _ _ _ _
    refine wpIn_seq ?_
    refine wpIn_seq ?_
    refine OX Z (fun ⟨_, _, h⟩ => h) E ([0, 1, 2, 3, 4, 5, 6, 7, 8, 9, 10, 11, 12, 13, 14, 15, 16, 17, 18]) Z Z Z Z AF ?_
    replace E := E.drew
    refine yG ?_
    change Code.wpIn _ _ _ _ _ _ _
    refine wpIn_cond_true O ?_
    refine wpIn_seq ?_
    refine cG Z (fun ⟨_, _, h⟩ => h) ?_
    have dq := RD E
    refine yG ?_
    replace E := NQ (NQ YE) E
    refine yG ?_
    refine EF O (CI (v := .slice none 0 0) O Z O O O dq AH ?_)
    intro ls gz fa
    replace E := oY E dq gz fa (ds := [.slice none 0 0])
    clear dq gz fa
    have dp := RD E
    refine yG ?_
    replace E := NQ (NQ YE) E
    refine EF O (CI (v := .int .i64 ↑J) O Z O O O dp AH ?_)
    intro lr gy f9
    replace E := oY E dp gy f9 (ds := [.int .i64 ↑J])
    clear dp gy f9
    have dn := RD E
    refine yG ?_
    replace E := NQ (NQ YE) E
    refine EF O (CI (v := .int .i64 440) O Z O O O dn AH ?_)
    intro lq gx f8
    replace E := oY E dn gx f8 (ds := [.int .i64 440])
    clear dn gx f8
    refine yG ?_
    change Code.wpIn _ _ _ _ _ _ _
    refine wpIn_ret ?_
    show KeepsOthers _ _ /\ _
    exact ⟨(e7 E), rfl, q, ⟨(J, wd), aa, U⟩, (nd, p), rfl, H, cZ N a0 t, zE⟩
   obtain ⟨⟨c, mm⟩, t⟩ := Option.ne_none_iff_exists'.1 t
   have c4 := VT Y t
   obtain ⟨I, hz⟩ := YP t
   refine cG Z (fun ⟨_, _, h⟩ => h) ?_
   refine yG ?_
   refine EF O (XB (c := c) (mm := mm) II O YuX O E ?_)
   clear E
   intro lp ht g8 hv g6 _ E
   refine yG ?_
   refine EF O (BZ FQ O ?_)
   intro c5 lo aj je ik dm
   have ae : (vr : Value).ownBlock ≠ some c5 := fun h => by have := (Acc.lt (e6 E).1 h).2; omega
   have k3 : P < c5 := by rw [aj]; exact Bx.lt (WE E)
   have j1 : W.heap.size <= c5 := by rw [aj]; exact CS (e3 E)
   have j0 : f <= c5 := by rw [aj]; exact CS (e7 E)
   replace E := E.below ik
   clear aj je ik
   refine yG ?_
   refine EF O (BY FQ O O O dm Y9d (CF I) (DO (M := mm) (IsI.one E.1) (IsI.one E.2.1)) ?_)
   intro jr gw f7
   replace E := oY E dm gw f7 (ds := (EW ht g8 hv g6 mm))
   clear dm gw f7
   refine yG ?_
   change Code.wpIn _ _ _ _ _ _ _
   refine wpIn_seq ?_
   refine wpIn_seq ?_
   obtain ⟨dj, bu, rfl⟩ := Acc.shp (e7 E).1
   obtain ⟨i1, bp⟩ : ∃ n, n = jr.heap.size := ⟨_, rfl⟩
   have d7 := Acc.low (e7 E).1
   rw [<- bp] at d7
   replace E := E.r (e := JQ) (S := DL i1) d7 (fun k g => by rw [<- bp]; exact g)
   obtain ⟨⟨np, f1⟩, af⟩ : ∃ x, p[p.length - 1]? = some x := ⟨_, List.getElem?_eq_getElem (show p.length - 1 < p.length by omega)⟩
   obtain ⟨ga, l6, _, d6, ie, i5, ⟨n9, n8, na, n7, rfl, i0, i4, ag⟩⟩ := IsR.at E.1.1 af
   have i2 : ga < _ := E.1.2 _ ie
   replace E := ((E.c i5 i2).i i0).i i4
   have ez := yE af
   skip
   by_cases f0 : 0 <= FR mm f1
   case pos =>
    refine OX Z (fun ⟨_, _, h⟩ => h) E ([0, 1, 2, 3, 4, 5, 6, 7, 8, 9, 10, 11, 12, 13, 14, 15, 16, 17, 18]) Z Z Z Z AF ?_
    replace E := E.drew
    refine yG ?_
    refine SW O O O Z O (fun w hS => CE ST O O (Cs.sub (Bx.cs (e4 hS)) 4 (EH _ _ _ _ _)) (DG I)) ?_
    refine yG ?_
    refine SW (v := .int .i64 ↑(p.length - 1)) O O O Z O (fun w hS => FM O O O (by rw [MO AA]; omega)) ?_
    refine yG ?_
    refine lD O O O d6 O (List.getElem?_eq_some_iff.1 af).1 ?_
    refine yG ?_
    refine SW O O O Z O (fun w hS => CE ST O O (Cs.sub ((hS.2.2.1).1) 4 (EH _ _ _ _ _)) (DG ag)) ?_
    refine yG ?_
    refine GG (o := ⟨some 68, _, _, _, _, _⟩) O O O O (CB TC O (Ee mm f1 _ I ag) O E ?_)
    clear E
    intro ln _ E
    refine ⟨E, ?_⟩
    refine yG ?_
    change Code.wpIn _ _ _ _ _ _ _
    refine wpIn_cond_true O ?_
    refine wpIn_seq ?_
    replace E := qC E
    replace E := VC E
    refine cG Z (fun ⟨_, _, h⟩ => h) ?_
    have dl := lB E
    refine yG ?_
    replace E := NQ (NQ jI) E
    refine yG ?_
    refine EF O (CI (v := .slice none 0 0) O Z O O O dl AH ?_)
    intro lm gv f6
    replace E := oY E dl gv f6 (ds := [.slice none 0 0])
    clear dl gv f6
    have dk := lB E
    refine yG ?_
    replace E := NQ (NQ jI) E
    refine EF O (CI (v := .int .i64 ↑J) O Z O O O dk AH ?_)
    intro ll gu f5
    replace E := oY E dk gu f5 (ds := [.int .i64 ↑J])
    clear dk gu f5
    have bc := lB E
    refine yG ?_
    replace E := NQ (NQ jI) E
    refine EF O (CI (v := .int .i64 440) O Z O O O bc AH ?_)
    intro lk gs f4
    replace E := oY E bc gs f4 (ds := [.int .i64 440])
    clear bc gs f4
    refine yG ?_
    change Code.wpIn _ _ _ _ _ _ _
    refine wpIn_ret ?_
    show KeepsOthers _ _ /\ _
    exact ⟨(RC E), rfl, q, ⟨(J, wd), aa, U⟩, (nd, p), rfl, H, Eo N a0 t au (by rw [ez]; exact f0), zE⟩
   refine OX Z (fun ⟨_, _, h⟩ => h) E ([0, 1, 2, 3, 4, 5, 6, 7, 8, 9, 10, 11, 12, 13, 14, 15, 16, 17, 18]) Z Z Z Z AF ?_
   replace E := E.drew
   refine yG ?_
   refine SW O O O Z O (fun w hS => CE ST O O (Cs.sub (Bx.cs (e4 hS)) 4 (EH _ _ _ _ _)) (DG I)) ?_
   refine yG ?_
   refine SW (v := .int .i64 ↑(p.length - 1)) O O O Z O (fun w hS => FM O O O (by rw [MO AA]; omega)) ?_
   refine yG ?_
   refine lD O O O d6 O (List.getElem?_eq_some_iff.1 af).1 ?_
   refine yG ?_
   refine SW O O O Z O (fun w hS => CE ST O O (Cs.sub ((hS.2.2.1).1) 4 (EH _ _ _ _ _)) (DG ag)) ?_
   refine yG ?_
   refine GG (o := ⟨some 68, _, _, _, _, _⟩) O O O O (CB TC O (Ee mm f1 _ I ag) O E ?_)
   clear E
   intro l5 _ E
   refine ⟨E, ?_⟩
   refine yG ?_
   change Code.wpIn _ _ _ _ _ _ _
   refine wpIn_cond_false O ?_
   refine wpIn_skip ?_
   change Code.wpIn _ _ _ _ _ _ _
   refine wpIn_seq ?_
   refine wpIn_seq ?_
   replace E := qC E
   replace E := VC E
   by_cases c2 : ng = true
   case neg =>
    have ey : nd = false := by rw [<- G AA]; exact DY c2
    subst ey
    refine cG Z (fun ⟨_, _, h⟩ => h) ?_
    refine yG ?_
    change Code.wpIn _ _ _ _ _ _ _
    refine wpIn_cond_false (congrArg Value.bool (DY c2)) ?_
    refine wpIn_skip ?_
    change Code.wpIn _ _ _ _ _ _ _
    skip
    refine cG Z (fun ⟨_, _, h⟩ => h) ?_
    refine yG ?_
    refine EF O (DW (cs := (EW ht g8 hv g6 mm)) underlying28 FQ (CF I) AE AE O O ?_)
    intro dh ky bq f2 de co
    have bk : ((.slice dj (p).length bu) : Value).ownBlock ≠ some dh := fun h => by have := (Acc.lt (e9 E).1 h).2; omega
    have hx : f <= dh := by rw [bq]; exact CS (RD E)
    replace E := (E.below de).x co
    clear bq f2 de co
    have a3 := RD E
    have jz := Acc.nw a3.1
    refine yG ?_
    replace E := NQ (NQ YE) E
    refine EF O (EL (x := (c, mm)) ZA O (l := p) O a3.1 a3.2 E (fun g hg h1 h2 => ⟨GO (fun e => bk (e ▸ hg)), BX, BX, GO (fun e => ae (e ▸ hg)), BX, BX, GO AA, BX, Ju AA AA, YH1, BX, GO AA, GO AA, GO AA, GO AA, GO AA, GO AA, GO AA, LA AA, FV (CY AA), OP AA, BX⟩) O E.1 (⟨_, _, _, _, O, e4 E, e5 E, I⟩) Yjk Y7R (CS (RD E)) ?_)
    clear E a3
    intro bf kx E
    have b9 := WE E
    refine yG ?_
    replace E := NQ (NQ VC) E
    refine yG ?_
    refine EF O (CI (v := bf) O Z (Acc.one E.1.1) O O b9 AH ?_)
    intro kv cy ck
    replace E := oY E b9 cy ck (ds := [bf])
    clear b9 cy ck
    refine yG ?_
    show KeepsOthers _ _ /\ keepB _ _ _ /\ _
    exact ⟨RC E, (RD E).1, ng, false, (p ++ [(c, mm)]), bf, by rw [LC, List.map_append, List.map_cons, List.map_nil, SD H, List.length_map, MB, Nat.zero_add]; exact eX N a0 t (.inr (by rw [ez]; exact f0)), fun hh => by simp at hh; omega, Yir, YwF⟩
   have ey : nd = true := by rw [<- G AA]; exact c2
   subst ey
   refine cG Z (fun ⟨_, _, h⟩ => h) ?_
   refine yG ?_
   change Code.wpIn _ _ _ _ _ _ _
   refine wpIn_cond_true (congrArg Value.bool c2) ?_
   refine cG Z (fun ⟨_, _, h⟩ => h) ?_
   refine yG ?_
   refine V O O (CE EY O O (Cs.sub (Bx.cs E.2.2.1) 0 (EQ _ _ _ _ _)) O) ?_
   refine yG ?_
   refine EF O (CV OR O (Hx _ _ _ _ c _ (e3 E) (e4 E) (FitQ.mono c4 AE)) O E ?_)
   clear E
   intro l4 bm bi bn bh _ E
   have bb := e4 E
   refine yG ?_
   replace E := jI E
   refine yG ?_
   refine EF O (IS (cs' := (EW bm bi bn bh mm)) EY O O O bb O (by rw [CF I]; decide) (IF (IsI.one E.2.1) (IsI.one E.1)) O ?_)
   intro l3 d0 cn
   replace E := oY E bb d0 cn (ds := (EW bm bi bn bh mm))
   clear bb d0 cn
   refine yG ?_
   change Code.wpIn _ _ _ _ _ _ _
   skip
   refine cG Z (fun ⟨_, _, h⟩ => h) ?_
   refine yG ?_
   refine EF O (DW (cs := (EW bm bi bn bh mm)) underlying28 FQ (CF I) AE AE O O ?_)
   intro di l2 br f3 dg cp
   have bl : ((.slice dj (p).length bu) : Value).ownBlock ≠ some di := fun h => by have := (Acc.lt (RC E).1 h).2; omega
   have hy : f <= di := by rw [br]; exact CS (WE E)
   replace E := (E.below dg).x cp
   clear br f3 dg cp
   have a4 := WE E
   have k0 := Acc.nw a4.1
   refine yG ?_
   replace E := NQ (NQ VC) E
   refine EF O (EL (x := ((-c), mm)) ZA O (l := p) O a4.1 a4.2 E (fun g hg h1 h2 => ⟨GO (fun e => bl (e ▸ hg)), GO (fun e => ae (e ▸ hg)), BX, BX, BX, BX, BX, BX, GO AA, BX, Ju AA AA, YH1, BX, GO AA, GO AA, GO AA, GO AA, GO AA, GO AA, GO AA, LA AA, FV (CY AA), OP AA, BX⟩) O E.1 (⟨_, _, _, _, O, e3 E, E.2.2.1, I⟩) Yjk Y7R (CS (WE E)) ?_)
   clear E a4
   intro bg l0 E
   have ba := lB E
   refine yG ?_
   replace E := NQ (NQ jI) E
   refine yG ?_
   refine EF O (CI (v := bg) O Z (Acc.one E.1.1) O O ba AH ?_)
   intro kz cz cm
   replace E := oY E ba cz cm (ds := [bg])
   clear ba cz cm
   refine yG ?_
   show KeepsOthers _ _ /\ keepB _ _ _ /\ _
   exact ⟨XX E, (WE E).1, ng, false, (p ++ [((-c), mm)]), bg, by rw [LC, List.map_append, List.map_cons, List.map_nil, SD H, List.length_map, MB, Nat.zero_add]; exact eX N a0 t (.inr (by rw [ez]; exact f0)), fun hh => by simp at hh; omega, Yir, YwF⟩
  refine cG Z (fun ⟨_, _, h⟩ => h) ?_
  refine yG ?_
  change Code.wpIn _ _ _ _ _ _ _
  refine wpIn_cond_true O ?_
  by_cases c3 : wd.head? = some 45
  case neg =>
   have a0 := Xz (nd := nd) au c3
   refine cG Z (fun ⟨_, _, h⟩ => h) ?_
   refine yG ?_
   refine EF O (CC KR O (Lo wd _ c3) O E ?_)
   clear E
   intro ma _ E
   have dz := RC E
   refine yG ?_
   replace E := NQ (NQ QP) E
   refine yG ?_
   refine EF O (CI (v := .bool false) O Z O O O dz AH ?_)
   intro m9 h9 fi
   replace E := oY E dz h9 fi (ds := [.bool false])
   clear dz h9 fi
   refine yG ?_
   change Code.wpIn _ _ _ _ _ _ _
   refine wpIn_seq ?_
   have Y : (wd).length <= 4000 := by have := U; first | exact U | (rw [List.length_tail]; omega)
   by_cases t : cO l wd = none
   . refine cG Z (fun ⟨_, _, h⟩ => h) ?_
     refine yG ?_
     refine EF O (XC II O YuX O E ?_)
     exact ZrZ
   obtain ⟨⟨c, mm⟩, t⟩ := Option.ne_none_iff_exists'.1 t
   have c4 := VT Y t
   obtain ⟨I, hz⟩ := YP t
   refine cG Z (fun ⟨_, _, h⟩ => h) ?_
   refine yG ?_
   refine EF O (XB (c := c) (mm := mm) II O YuX O E ?_)
   clear E
   intro m2 hu g9 hw g7 _ E
   refine yG ?_
   refine EF O (BZ FQ O ?_)
   intro c7 m1 al jh io du
   have bx : (vr : Value).ownBlock ≠ some c7 := fun h => by have := (Acc.lt (e7 E).1 h).2; omega
   have k5 : P < c7 := by rw [al]; exact Bx.lt (XX E)
   have j6 : W.heap.size <= c7 := by rw [al]; exact CS (e4 E)
   have j5 : f <= c7 := by rw [al]; exact CS (e8 E)
   replace E := E.below io
   clear al jh io
   refine yG ?_
   refine EF O (BY FQ O O O du Y9d (CF I) (DO (M := mm) (IsI.one E.1) (IsI.one E.2.1)) ?_)
   intro m0 h4 fd
   replace E := oY E du h4 fd (ds := (EW hu g9 hw g7 mm))
   clear du h4 fd
   refine yG ?_
   change Code.wpIn _ _ _ _ _ _ _
   refine wpIn_seq ?_
   refine wpIn_seq ?_
   refine OX Z (fun ⟨_, _, h⟩ => h) E ([0, 1, 2, 3, 4, 5, 6, 7, 8, 9, 10, 11, 12, 13, 14, 15, 16, 17, 18]) Z Z Z Z AF ?_
   replace E := E.drew
   refine yG ?_
   change Code.wpIn _ _ _ _ _ _ _
   refine wpIn_cond_false O ?_
   refine wpIn_skip ?_
   change Code.wpIn _ _ _ _ _ _ _
   refine wpIn_seq ?_
   refine wpIn_seq ?_
   refine cG Z (fun ⟨_, _, h⟩ => h) ?_
   refine yG ?_
   change Code.wpIn _ _ _ _ _ _ _
   refine wpIn_cond_false O ?_
   refine wpIn_skip ?_
   change Code.wpIn _ _ _ _ _ _ _
   skip
   refine cG Z (fun ⟨_, _, h⟩ => h) ?_
   refine yG ?_
   refine EF O (DW (cs := (EW hu g9 hw g7 mm)) underlying28 FQ (CF I) AE AE O O ?_)
   intro iv lz d8 jg im g2
   have bw : (vr : Value).ownBlock ≠ some iv := fun h => by have := (Acc.lt (e8 E).1 h).2; omega
   have j4 : f <= iv := by rw [d8]; exact CS (e9 E)
   replace E := (E.below im).x g2
   clear d8 jg im g2
   have ah := e9 E
   have l8 := Acc.nw ah.1
   refine yG ?_
   replace E := Wb E
   refine EF O (EL (x := (c, mm)) ZA O (l := p) O ah.1 ah.2 E (fun g hg h1 h2 => ⟨GO (fun e => bw (e ▸ hg)), GO (fun e => bx (e ▸ hg)), BX, BX, GO AA, GO AA, BX, Ju AA AA, YH1, BX, GO AA, GO AA, GO AA, GO AA, GO AA, GO AA, LA AA, FV (CY AA), OP AA, BX⟩) O E.1 (⟨_, _, _, _, O, E.2.2.1, e3 E, I⟩) Yjk Y7R (CS (e9 E)) ?_)
   clear E ah
   intro er ly E
   have dt := RC E
   refine yG ?_
   replace E := NQ (NQ QP) E
   refine yG ?_
   refine EF O (CI (v := er) O Z (Acc.one E.1.1) O O dt AH ?_)
   intro lx h3 fc
   replace E := oY E dt h3 fc (ds := [er])
   clear dt h3 fc
   refine yG ?_
   show KeepsOthers _ _ /\ keepB _ _ _ /\ _
   exact ⟨RD E, (e9 E).1, false, false, (p ++ [(c, mm)]), er, by rw [LC, List.map_append, List.map_cons, List.map_nil, SD H, List.length_map, MB, Nat.zero_add]; exact eX N a0 t (.inl au), fun hh => by simp at hh; omega, Yir, YwF⟩
  have a0 := cut_1 (nd := nd) au c3
  refine cG Z (fun ⟨_, _, h⟩ => h) ?_
  refine yG ?_
  refine EF O (CC KR O (Eg wd _ c3) O E ?_)
  clear E
  intro ms _ E
  have eh := RC E
  refine yG ?_
  replace E := NQ (NQ QP) E
  refine yG ?_
  refine EF O (CI (v := .bool true) O Z O O O eh AH ?_)
  intro mr hj fq
  replace E := oY E eh hj fq (ds := [.bool true])
  clear eh hj fq
  refine yG ?_
  change Code.wpIn _ _ _ _ _ _ _
  refine wpIn_seq ?_
  have Y : (wd.tail).length <= 4000 := by have := U; first | exact U | (rw [List.length_tail]; omega)
  by_cases t : cO l wd.tail = none
  . refine cG Z (fun ⟨_, _, h⟩ => h) ?_
    refine yG ?_
    refine EF O (XC II O YuQ O E ?_)
    exact ZrZ
  obtain ⟨⟨c, mm⟩, t⟩ := Option.ne_none_iff_exists'.1 t
  have c4 := VT Y t
  obtain ⟨I, hz⟩ := YP t
  refine cG Z (fun ⟨_, _, h⟩ => h) ?_
  refine yG ?_
  refine EF O (XB (c := c) (mm := mm) II O YuQ O E ?_)
  clear E
  intro mj k1 jt k2 js _ E
  refine yG ?_
  refine EF O (BZ FQ O ?_)
  intro c9 mi an jk ir ec
  have c1 : (vr : Value).ownBlock ≠ some c9 := fun h => by have := (Acc.lt (e7 E).1 h).2; omega
  have k7 : P < c9 := by rw [an]; exact Bx.lt (XX E)
  have jb : W.heap.size <= c9 := by rw [an]; exact CS (e4 E)
  have ja : f <= c9 := by rw [an]; exact CS (e8 E)
  replace E := E.below ir
  clear an jk ir
  refine yG ?_
  refine EF O (BY FQ O O O ec Y9d (CF I) (DO (M := mm) (IsI.one E.1) (IsI.one E.2.1)) ?_)
  intro mh hc fl
  replace E := oY E ec hc fl (ds := (EW k1 jt k2 js mm))
  clear ec hc fl
  refine yG ?_
  change Code.wpIn _ _ _ _ _ _ _
  refine wpIn_seq ?_
  refine wpIn_seq ?_
  refine OX Z (fun ⟨_, _, h⟩ => h) E ([0, 1, 2, 3, 4, 5, 6, 7, 8, 9, 10, 11, 12, 13, 14, 15, 16, 17, 18]) Z Z Z Z AF ?_
  replace E := E.drew
  refine yG ?_
  change Code.wpIn _ _ _ _ _ _ _
  refine wpIn_cond_false O ?_
  refine wpIn_skip ?_
  change Code.wpIn _ _ _ _ _ _ _
  refine wpIn_seq ?_
  refine wpIn_seq ?_
  refine cG Z (fun ⟨_, _, h⟩ => h) ?_
  refine yG ?_
  change Code.wpIn _ _ _ _ _ _ _
  refine wpIn_cond_true O ?_
  refine cG Z (fun ⟨_, _, h⟩ => h) ?_
  refine yG ?_
  refine V O O (CE EY O O (Cs.sub (Bx.cs E.1) 0 (EQ _ _ _ _ _)) O) ?_
  refine yG ?_
  refine EF O (CV OR O (Hx _ _ _ _ c _ E.2.1 E.2.2.1 (FitQ.mono c4 AE)) O E ?_)
  clear E
  intro mg ew eu ex et _ E
  have eb := E.2.2.1
  refine yG ?_
  replace E := VC E
  refine yG ?_
  refine EF O (IS (cs' := (EW ew eu ex et mm)) EY O O O eb O (by rw [CF I]; decide) (IF (IsI.one E.2.1) (IsI.one E.1)) O ?_)
  intro mf hb fk
  replace E := oY E eb hb fk (ds := (EW ew eu ex et mm))
  clear eb hb fk
  refine yG ?_
  change Code.wpIn _ _ _ _ _ _ _
  skip
  refine cG Z (fun ⟨_, _, h⟩ => h) ?_
  refine yG ?_
  refine EF O (DW (cs := (EW ew eu ex et mm)) underlying28 FQ (CF I) AE AE O O ?_)
  intro iw md d9 jj iq g3
  have c0 : (vr : Value).ownBlock ≠ some iw := fun h => by have := (Acc.lt (RD E).1 h).2; omega
  have j9 : f <= iw := by rw [d9]; exact CS (RC E)
  replace E := (E.below iq).x g3
  clear d9 jj iq g3
  have ai := RC E
  have l9 := Acc.nw ai.1
  refine yG ?_
  replace E := NQ (NQ QP) E
  refine EF O (EL (x := ((-c), mm)) ZA O (l := p) O ai.1 ai.2 E (fun g hg h1 h2 => ⟨GO (fun e => c0 (e ▸ hg)), GO (fun e => c1 (e ▸ hg)), BX, BX, BX, BX, GO AA, GO AA, BX, Ju AA AA, YH1, BX, GO AA, GO AA, GO AA, GO AA, GO AA, GO AA, LA AA, FV (CY AA), OP AA, BX⟩) O E.1 (⟨_, _, _, _, O, e3 E, E.2.2.1, I⟩) Yjk Y7R (CS (RC E)) ?_)
  clear E ai
  intro es mc E
  have ea := XX E
  refine yG ?_
  replace E := NQ (NQ qC) E
  refine yG ?_
  refine EF O (CI (v := es) O Z (Acc.one E.1.1) O O ea AH ?_)
  intro mb ha fj
  replace E := oY E ea ha fj (ds := [es])
  clear ea ha fj
  refine yG ?_
  show KeepsOthers _ _ /\ keepB _ _ _ /\ _
  exact ⟨WE E, (RC E).1, true, false, (p ++ [((-c), mm)]), es, by rw [LC, List.map_append, List.map_cons, List.map_nil, SD H, List.length_map, MB, Nat.zero_add]; exact eX N a0 t (.inl au), fun hh => by simp at hh; omega, Yir, YwF⟩
 case done =>
  rintro D xs W hD hS ⟨ng, nd, p, vr, H, G, ke, E⟩ hK
  change Code.wp _ _ _ ⟨#[.string (bs s), .slice a5 l.length R, undef, .pointer (some ⟨b1, 0, none⟩), .pointer (some ⟨b2, 0, none⟩), .pointer (some ⟨b3, 0, none⟩), .pointer (some ⟨b4, 0, none⟩), .pointer (some ⟨a9, 0, none⟩), .pointer (some ⟨a8, 0, none⟩), .pointer (some ⟨a7, 0, none⟩), undef, undef, undef, undef, .slice a5 l.length R, .bool true, .bool false, .string (bs s), .int .i64 ↑s.length, .bool false, .string (bs s), .bool false, .string (bs s), .func (.func 85) #[] #[.pointer (some ⟨P, 0, none⟩)], undef, undef, undef, undef, undef, undef, undef, undef, undef, undef, undef, undef, undef, undef, undef, undef, undef, undef, undef, undef, undef, undef, undef, undef, undef, undef, undef, undef, undef, undef, undef, undef, undef, undef, undef, undef, undef, undef, undef, undef, undef, undef, undef, undef, undef, undef, undef, undef, undef, undef, undef, undef, undef, undef, undef, undef, undef, undef, undef, undef, undef, undef, undef, undef, undef], [{ target := .collected D, args := #[] }]⟩ _
  replace E := E.df hK
  rw [<- ac] at hD
  obtain ⟨q, rfl⟩ : ∃ q, q = xs := ⟨_, rfl⟩
  by_cases i3 : q.length % 2 = 0
  case neg =>
   refine yG ?_
   refine RLd ?_
   refine yG ?_
   refine V (v := .int .i64 ↑(q.length % 2)) O O (FD O O O AE (jP _)) ?_
   refine yG ?_
   refine RLd ?_
   have b5 := e6 E
   refine yG ?_
   replace E := dW E
   refine yG ?_
   refine EF O (CI (v := vr) O Z (Acc.one E.2.1.1) O O b5 AH ?_)
   intro kr cu cg
   replace E := oY E b5 cu cg (ds := [vr])
   clear b5 cu cg
   have b0 := e6 E
   refine yG ?_
   replace E := dW E
   refine EF O (CI (v := .int .i64 0) O Z O O O b0 AH ?_)
   intro kq ct cf
   replace E := oY E b0 ct cf (ds := [.int .i64 0])
   clear b0 ct cf
   have az := e6 E
   refine yG ?_
   replace E := dW E
   refine EF O (CI (v := .int .i64 0) O Z O O O az AH ?_)
   intro kp cr ce
   replace E := oY E az cr ce (ds := [.int .i64 0])
   clear az cr ce
   have u := (e3 E).1
   refine yG ?_
   replace E := qC E
   replace E := E.put u ⟨JY E.1 (GC u), JY E.2.1 (GC u), JY E.2.2.1 (GC u), Pj (e3 E).1 (GC u), BX, JY (e5 E) (GC u), JY (e6 E) (GC u), JY (e7 E) (GC u), JY (e8 E) (GC u), JY (e9 E) (GC u), LA AA, FV (CY AA), OP AA, BX⟩
   have r1 := JW NN E.2.2.1
   have r2 := JW CW E.2.1
   have r3 := JW LQ E.1
   exact dZ (v := .tuple #[vr, .int .i64 0, .int .i64 0]) u rfl YLY (by rw [show EE l s = (p, 0, 0) from by rw [nP hV ab av hS H, if_neg (by rw [MB]; exact i3)]]; exact ⟨_, rfl, ⟨_, rfl, qB (e3 E).1 AA⟩, WE E⟩)
  refine yG ?_
  refine RLd ?_
  refine yG ?_
  refine V (v := .int .i64 ↑(q.length % 2)) O O (FD O O O AE (jP _)) ?_
  refine yG ?_
  refine RLd ?_
  have b8 := e6 E
  refine yG ?_
  replace E := dW E
  refine yG ?_
  refine EF O (CI (v := .slice none 0 0) O Z O O O b8 AH ?_)
  intro ku cx cj
  replace E := oY E b8 cx cj (ds := [.slice none 0 0])
  clear b8 cx cj
  have b7 := e6 E
  refine yG ?_
  replace E := dW E
  refine EF O (CI (v := .int .i64 ↑(s.length + 1)) O Z O O O b7 AH ?_)
  intro kt cw ci
  replace E := oY E b7 cw ci (ds := [.int .i64 ↑(s.length + 1)])
  clear b7 cw ci
  have b6 := e6 E
  refine yG ?_
  replace E := dW E
  refine EF O (CI (v := .int .i64 440) O Z O O O b6 AH ?_)
  intro ks cv ch
  replace E := oY E b6 cv ch (ds := [.int .i64 440])
  clear b6 cv ch
  have y := (e3 E).1
  refine yG ?_
  replace E := qC E
  replace E := E.put y ⟨JY E.1 (GC y), JY E.2.1 (GC y), JY E.2.2.1 (GC y), Pj (e3 E).1 (GC y), BX, JY (e5 E) (GC y), JY (e6 E) (GC y), JY (e7 E) (GC y), JY (e8 E) (GC y), JY (e9 E) (GC y), LA AA, FV (CY AA), OP AA, BX⟩
  have r1 := JW NN E.2.2.1
  have r2 := JW CW E.2.1
  have r3 := JW LQ E.1
  exact dZ (v := .tuple #[.slice none 0 0, .int .i64 ↑(s.length + 1), .int .i64 440]) y rfl YLY (by rw [show EE l s = ([], s.length + 1, 440) from by rw [nP hV ab av hS H, if_pos (by rw [MB]; exact i3)]]; exact ⟨_, rfl, ⟨_, rfl, IsR.nil _ _ _⟩, WE E⟩)
 case stop =>
  rintro D c q W hD ki ⟨rfl, a1, x, st, rfl, H, G, E⟩ hK
  rw [<- ac] at hD
  refine wpIn_ret ?_
  obtain ⟨l7, bo⟩ := ki
  rw [LC, List.append_assoc] at bo
  replace E := E.put hK ⟨JY E.1 (GC hK), JY E.2.1 (GC hK), JY E.2.2.1 (GC hK), OP AA, BX⟩
  have r1 := JW NN E.1
  have r2 := JW CW E.2.1
  have r3 := JW LQ E.2.2.1
  exact dZ (v := .tuple #[.slice none 0 0, .int .i64 ↑x.1.1, .int .i64 440]) hK rfl YLY (by rw [show EE l s = ([], x.1.1, 440) from Ob hV ab av bo H (by rw [MB]; exact G)]; exact ⟨_, rfl, ⟨_, rfl, IsR.nil _ _ _⟩, e3 E⟩)
end Go.Proofs.YtmppigbbkjepiaaGreatDoor
