/- Helping facts of RRead3; no other conditions. -/
import Derived.Test.YtmppigbbkjepiaaGreatDoorRRead2
import Derived.Test.YtmppigbbkjepiaaGreatDoorRead3
namespace Go.Proofs.YtmppigbbkjepiaaGreatDoor
open Go.Proofs.Tryz
open Go.RowKit W
variable {K : Act -> World -> Prop} {L : List SF} {P : Program} {Q : Exit -> Act -> World -> Prop} {a : Act} {args : List Operand} {i : Nat} {nd : Bool} {o : Oper} {p : Prop} {tys : Array TypeId} {vs : List Value} {w : World}
theorem YSq (h : p := by have := H; omega) : p := h
theorem Y9s (h : p := by rw [<- f]; exact LR (y.drop 1) _ l _ (BW (e5 E)) G Q) : p := h
theorem YqV (h : p := by rw [a3]; omega) : p := h
theorem Yad (h : p := by have := H; unfold maxLen; omega) : p := h
theorem YA4 (h : p := by first | rfl | exact CF CK) : p := h
theorem YoZ (h : p := by rw [show EE l s = ([], D, 440) from by rw [bP Q C N u q (cZ B I f), <- F]]; exact ⟨_, rfl, ⟨_, rfl, IsR.nil _ _ _⟩, e9 E⟩) : p := h
theorem YJx (h : p := by rw [<- f]; exact LR y _ l _ (BW (e5 E)) G Q) : p := h
theorem ZRg (h : p := by
 have G : (y).length <= 4000 := by first | omega | (rw [List.length_drop]; omega)
 by_cases f : cO l y = none
 case pos =>
  refine yG ?_
  refine EF O (QJ FT O YJx O E ?_)
  intro w8 n8 s8 m8 u8 z8 y8 cx db d8 E
  refine yG ?_
  refine EF O (BZ FQ O ?_)
  intro b9 w9 dl z9 d9 x9
  have fj : (vr : Value).ownBlock ≠ some b9 := fun h => by have := (Acc.lt (e3 E).1 h).2; omega
  have l9 : w.heap.size <= b9 := by rw [dl]; exact (e8 E).size
  have fs : L.heap.size <= b9 := by rw [dl]; exact CS (e6 E)
  replace E := E.below d9
  refine yG ?_
  refine EF O (BY FQ O O O x9 YA4 (CF db) (DO (M := cx) (IsI.one E.1) (IsI.one E.2.1)) ?_)
  intro ic fi en
  replace E := oY E x9 fi en (ds := (EW n8 s8 m8 u8 cx))
  refine yG ?_
  refine sE E [0,1,2,3,4,5,6,7,8,9,10,11,12,13,14,15,16,17,18,19] ?_
  replace E := E.drew
  refine yG ?_
  exact YoZ
 obtain ⟨⟨c, mm⟩, f⟩ := Option.ne_none_iff_exists'.1 f
 have aj := VT G f
 obtain ⟨t, bv⟩ := YP f
 refine yG ?_
 refine EF O (QI (c := c) (mm := mm) FT O YJx O E ?_)
 intro ib cw cr d0 co jb E
 refine yG ?_
 refine EF O (BZ FQ O ?_)
 intro c9 ia bi h4 g6 ck
 have az : (vr : Value).ownBlock ≠ some c9 := fun h => by have := (Acc.lt (e3 E).1 h).2; omega
 have iq : w.heap.size <= c9 := by rw [bi]; exact (e8 E).size
 have ec : L.heap.size <= c9 := by rw [bi]; exact CS (e6 E)
 replace E := E.below g6
 refine yG ?_
 refine EF O (BY FQ O O O ck YA4 (CF t) (DO (M := mm) (IsI.one E.1) (IsI.one E.2.1)) ?_)
 intro i9 fh em
 replace E := oY E ck fh em (ds := (EW cw cr d0 co mm))
 obtain ⟨ap, a8, rfl⟩ := Acc.shp (e4 E).1
 refine yG ?_
 refine sE E [0,1,2,3,4,5,6,7,8,9,10,11,12,13,14,15,16,17,18,19] ?_
 replace E := E.drew
 have ah : nd = false := by rw [P] at u; simp only [List.take_zero, kN, Option.some.injEq, Prod.mk.injEq] at u; exact u.1.symm
 refine yG ?_
 refine AP (congrArg Value.bool ah) ?_
 have a0 := e4 E
 refine yG ?_
 replace E := jI E
 refine sE E [0,1,4,5,6,7,8,9,10,11,2,3,12,13,14] ?_
 replace E := E.drew
 replace a0 := (fA JQ 88 b3 (EM w3.heap.size L.heap.size) (.slice ap (p).length a8) p).below a0 ((Below.refl _ _).drew)
 refine yG ?_
 refine Af O O O a5 O (List.getElem?_eq_some_iff.1 q).1 ?_
 refine yG ?_
 refine GG (o := ⟨some 102, _, _, _, _, _⟩) O O O O (DW (cs := (EW cw cr d0 co mm)) underlying28 FQ (CF t) AE AE O O ?_)
 intro gb i8 gj h3 dr et
 have aw : ((.slice ap (p).length a8) : Value).ownBlock ≠ some gb := fun h => by have := (Acc.lt a0.1 h).2; omega
 replace E := E.below dr
 replace a0 := (fA JQ 88 b3 (EM w3.heap.size L.heap.size) (.slice ap (p).length a8) p).below a0 dr
 replace E := E.x et
 refine ⟨E.2, ?_⟩
 have ag := a0
 refine yG ?_
 refine GG (o := ⟨some 103, _, _, _, _, _⟩) O O O O (EL (x := (c, mm)) ZA O (l := p) O ag.1 ag.2 E (fun g hg h1 h2 => ⟨GO (fun e => aw (e ▸ hg)), GO (fun e => az (e ▸ hg)), BX, BX, TJ (by first | omega | exact (fun e => Acc.own ag.1 g hg (e ▸ ak))), BX, FV (Acc.own ag.1 g hg), BX, FV (CY AA), OP AA, BX⟩) O E.1 (⟨_, _, _, _, O, E.2.2.1, e3 E, t⟩) Yad YSq (CS (e5 E)) ?_)
 intro ez i7 E
 refine ⟨E.2.2, ?_⟩
 refine yG ?_
 exact ⟨_, YqV, (i + 1), false, D + y.length + 1, ez, p ++ [(c, mm)], _, O, O, zE, O, ⟨by omega, UI u q (eX B I f (.inl P)), by rw [a4, <- F], by (try simp only [List.length_append, List.length_cons, List.length_nil]); omega⟩⟩
 ) : p := h
theorem Z0x (h : p := by
 intro hn fk f5 fo f0 gq h5 b4 bw j5 E
 refine yG ?_
 refine EF O (BZ FQ O ?_)
 intro c4 hm bb gp g1 ce
 have dt : (vr : Value).ownBlock ≠ some c4 := fun h => by have := (Acc.lt (e3 E).1 h).2; omega
 have ik : w.heap.size <= c4 := by rw [bb]; exact (e8 E).size
 have dx : L.heap.size <= c4 := by rw [bb]; exact CS (e6 E)
 replace E := E.below g1
 refine yG ?_
 refine EF O (BY FQ O O O ce YA4 (CF bw) (DO (M := b4) (IsI.one E.1) (IsI.one E.2.1)) ?_)
 intro hl fb eg
 replace E := oY E ce fb eg (ds := (EW fk f5 fo f0 b4))
 refine yG ?_
 refine sE E [0,1,2,3,4,5,6,7,8,9,10,11,12,13,14,15,16,17,18,19] ?_
 replace E := E.drew
 refine yG ?_
 exact YoZ
 ) : p := h
theorem Kp (ws : List Bs) (x : Bs) : XW 0 (ws ++ [x]) = XW 0 ws + x.length + 1 := by unfold XW; simp; omega
theorem Ko (ws : List Bs) (i : Nat) : XW 0 (ws.take i) <= XW 0 ws := by
 have h : XW 0 ws = XW 0 (ws.take i) + ((ws.drop i).map fun w => w.length + 1).sum := by
  unfold XW
  conv => lhs; rw [<- List.take_append_drop i ws]
  rw [List.map_append, List.sum_append]; omega
 omega
theorem cmp_flip {a b : List Nat} : (0 <= FR a b) ↔ FR b a <= 0 := by rw [jJ a b]; omega
theorem C1 {wd : Bs} (h : i = 0) (hh : wd[0]? = some 45) : QR i nd wd = (wd.drop 1, true) := by
 cases wd with
 | nil => cases hh
 | cons a r => simp at hh; subst hh; unfold QR; rw [if_pos h]; rfl
theorem Rh {wd : Bs} (h : i = 0) (hh : ¬ wd[0]? = some 45) : QR i nd wd = (wd, false) := by
 refine Xz h ?_
 rw [List.head?_eq_getElem?]; exact hh
theorem bP {l : List Bs} {s : Bs} (h1 : DM 8 l = true) (h2 : ¬ 4000 < s.length) (h3 : ¬ s = [48]) {st : cF} {x : Bs} (hf : kN l 0 (false, []) ((DI 32 s).take i) = some st) (hx : (DI 32 s)[i]? = some x) (hb : HJ l i st x = none) : EE l s = ([], XW 0 ((DI 32 s).take i), 440) := by
 have f := (List.getElem?_eq_some_iff.1 hx)
 have h := f.1
 have e : DI 32 s = (DI 32 s).take i ++ x :: (DI 32 s).drop (i + 1) := by rw [<- f.2, <- List.drop_eq_getElem_cons, List.take_append_drop]
 rw [iW h1 h2 h3, e, uV hf, List.length_take, Nat.min_eq_left (Nat.le_of_lt f.1), Nat.zero_add, List.take_append_of_le_length (by rw [List.length_take]; omega), List.take_take, Nat.min_self]
 exact Gi hb
theorem Fc {l : List Bs} {s : Bs} (h1 : DM 8 l = true) (h2 : ¬ 4000 < s.length) (h3 : ¬ s = [48]) {st : cF} (hf : kN l 0 (false, []) (DI 32 s) = some st) : EE l s = if (DI 32 s).length % 2 = 0 then ([], s.length + 1, 440) else (st.2, 0, 0) := by
 have := nP (a := iQ 0 (DI 32 s)) h1 h2 h3 rfl (by rw [lH]; exact hf)
 rwa [tG] at this
theorem UI {l ws : List Bs} {st st' : cF} {x : Bs} (hf : kN l 0 (false, []) (ws.take i) = some st) (hx : ws[i]? = some x) (hs : HJ l i st x = some st') : kN l 0 (false, []) (ws.take (i + 1)) = some st' := by
 have e := (List.getElem?_eq_some_iff.1 hx).1
 rw [KK hx, SD hf, List.length_take, Nat.min_eq_left (Nat.le_of_lt e), Nat.zero_add]; exact hs
theorem QI {f : Nat} {c : Rat} {mm : List Nat} (hf : Fn P f)
 (ho : o.op = .call { callee := .value (.func f), args := args.toArray, argTypes := tys }) (hc : Calls P f vs.toArray w (Ak w (some (c, mm)))) (hv : args.map a.eval = vs) (E : Env w L)
 (h : ∀ w' n s m u, Below w.heap.size w w' -> Env w' (fI (.agg #[.bool n, s]) c.num :: fI (.agg #[.bool m, u]) ((c.den : Nat) : Int) :: L) -> K (a.put o.dst (.tuple #[.agg (EW n s m u mm).toArray, .bool true])) w') : o.wp P a w K Q := by
 refine CZ hf ho hc hv ?_
 rintro e w' ⟨n, s, m, u, rfl, p, l, k⟩
 exact ⟨_, rfl, h w' n s m u k (((E.below k).i l).i p)⟩
theorem QJ {f : Nat} (hf : Fn P f)
 (ho : o.op = .call { callee := .value (.func f), args := args.toArray, argTypes := tys }) (hc : Calls P f vs.toArray w (Ak w none)) (hv : args.map a.eval = vs) (E : Env w L)
 (h : ∀ w' n s m u z y mm, FC mm -> Below w.heap.size w w' -> Env w' (fI (.agg #[.bool n, s]) z :: fI (.agg #[.bool m, u]) y :: L) -> K (a.put o.dst (.tuple #[.agg (EW n s m u mm).toArray, .bool false])) w') : o.wp P a w K Q := by
 refine CZ hf ho hc hv ?_
 rintro e w' ⟨n, s, m, u, z, y, mm, rfl, l, q, p, k⟩
 exact ⟨_, rfl, h w' n s m u z y mm l k (((E.below k).i p).i q)⟩
set_option maxRecDepth 100000 in
set_option maxHeartbeats 8000000 in
theorem vM (s : Bs) (vl : Value) (l : List Bs) (w : World) (hRl : IsR elS (DL w.heap.size) w vl l) (hLl : l.length <= 1000000) (hs : s.length <= 1000000) :
 Calls prog 27 #[.string (bs s), vl] w (Se w (EE l s)) := by
 have E := Env.start w
 obtain ⟨ca, am, rfl, G, iv⟩ := hRl.shp
 replace E := E.r hRl (DZ _)
 go_enter func27, ntmps27
 by_cases Q : DM 8 l = true
 case neg =>
  refine yG ?_
  refine EF O (CA OS O (CT (DY Q) (iG _ l 8 _ (BW E.1) hLl)) O E ?_)
  intro h8 j0 E
  refine yG ?_
  exact (by rw [show EE l s = ([], 0, 1) from Od (DY Q)]; exact ⟨_, rfl, ⟨_, rfl, IsR.nil _ _ _⟩, E.2.1⟩)
 refine yG ?_
 refine EF O (CA OS O (CT Q (iG _ l 8 _ (BW E.1) hLl)) O E ?_)
 intro w1 d1 E
 by_cases iw : ((s.length : Nat) : Int) > 4000
 . refine yG ?_
   exact (by rw [show EE l s = ([], 0, 2) from Cc Q AA]; exact ⟨_, rfl, ⟨_, rfl, IsR.nil _ _ _⟩, E.2.1⟩)
 have C : ¬ 4000 < s.length := by omega
 by_cases N : s = [48]
 . refine yG ?_
   refine V O O (EO (a := s) (b := [48]) (c := true) O O O (by rw [beq_iff_eq]; exact N)) ?_
   refine yG ?_
   refine EF O (OG ZA O ?_)
   intro b2 w2 iz z2 d2 x2
   replace E := E.below d2
   replace E := E.x x2
   refine yG ?_
   exact (by rw [show EE l s = ([], 0, 0) from Oc Q N]; exact ⟨_, rfl, ⟨_, rfl, IsR.lit0 (w := w2) (b := b2)⟩, E.2.2.1⟩)
 refine yG ?_
 refine V O O (EO (a := s) (b := [48]) (c := false) O O O (by rw [beq_eq_false_iff_ne]; exact N)) ?_
 refine yG ?_
 refine EF O (OG ZA O ?_)
 intro b3 w3 fz z3 d3 x3
 have l3 : w.heap.size <= b3 := by rw [fz]; exact E.2.1.size
 replace E := E.below d3
 replace E := E.x x3
 have ed : b3 < w3.heap.size := Bx.lt E.1
 refine yG ?_
 refine EF O (DE KG O (wQ s _ AA) O E ?_)
 intro L v4 d4 f4 E
 replace E := E.sz (Nat.le_refl L.heap.size)
 obtain ⟨bp, bo, rfl, ge, _⟩ := f4.shp
 replace E := E.r (e := elS) (S := EM w3.heap.size L.heap.size) f4 (fun _ g => g.2)
 have x5 := E.2.2.1
 refine yG ?_
 replace E := VC E
 have fy := E.1.2
 replace E := (E.sz (Nat.le_of_lt (Bx.lt x5))).a (Acc.lit0 (e := JQ) (S := EM w3.heap.size L.heap.size) x5 (Nat.le_refl _) (jX AA)) fy
 have iu := PP 32 s
 have fw := Gw 32 s
 refine yG ?_
 refine wp_loop_ghost (fun mz a w' => ∃ (i : Nat) (nd : Bool) (D : Nat) (vr : Value) (p : List Tm) (al : List Value), al = a.tmps.toList /\ a = ⟨(.string (bs s) :: .slice ca l.length am :: gr al 2 5 (vr :: .slice bp ((DI 32 s).length) bo :: .int .i64 ↑D :: .bool nd :: .int .i64 ↑i :: gr al 12 3 (.slice ca l.length am :: .bool true :: .bool false :: .string (bs s) :: .int .i64 ↑s.length :: .bool false :: .string (bs s) :: .bool false :: undef :: .slice (some ⟨b3, 0, none⟩) 0 0 :: .string (bs s) :: .slice bp ((DI 32 s).length) bo :: gr al 27 91 []))).toArray, []⟩ /\ Env w' [fA JQ 88 b3 (EM w3.heap.size L.heap.size) vr p, iR b3, fR elS (EM w3.heap.size L.heap.size) (.slice bp ((DI 32 s).length) bo) (DI 32 s), iR L.heap.size, fR elS (DL w.heap.size) (.slice ca l.length am) l, fW w] /\ mz = ((DI 32 s).length) - i /\ (i <= (DI 32 s).length /\ kN l 0 (false, []) ((DI 32 s).take i) = some (nd, p) /\ D = XW 0 ((DI 32 s).take i) /\ p.length = (i + 1) / 2)) (((DI 32 s).length)) ⟨0, false, 0, (.slice (some ⟨b3, 0, none⟩) 0 0), [], _, O, O, zE, O, ⟨Nat.zero_le _, O, O, O⟩⟩ ?_
 rintro m6 _ w6 ⟨i, nd, D, vr, p, al, -, rfl, E, a3, dk⟩
 dsimp only [gr, Nat.reduceAdd]
 obtain ⟨dk, hJ⟩ := dk
 by_cases hi : i < (DI 32 s).length
 case neg =>
  obtain ⟨u, F, fv⟩ := hJ
  rw [List.take_of_length_le AA] at u F
  by_cases dd : (DI 32 s).length % 2 = 0
  . refine yG ?_
    refine V (v := .int .i64 ↑((DI 32 s).length % 2)) O O (FD O O O AE (jP _)) ?_
    refine yG ?_
    exact (by rw [show EE l s = ([], D, 440) from by rw [Fc Q C N u, if_pos dd, F, fw]]; exact ⟨_, rfl, ⟨_, rfl, IsR.nil _ _ _⟩, e5 E⟩)
  refine yG ?_
  refine V (v := .int .i64 ↑((DI 32 s).length % 2)) O O (FD O O O AE (jP _)) ?_
  refine yG ?_
  exact (by rw [show EE l s = (p, 0, 0) from by rw [Fc Q C N u, if_neg dd]]; exact ⟨_, rfl, ⟨_, rfl, E.1.1.row (fun k g => ⟨by have := g.1; omega, E.1.2 k g⟩) (fun _ h1 h2 _ => ⟨by omega, h2⟩)⟩, e5 E⟩)
 obtain ⟨y, q⟩ : ∃ x, (DI 32 s)[i]? = some x := ⟨_, List.getElem?_eq_getElem hi⟩
 obtain ⟨bn, ig, _, a5, di, fx, ft⟩ := IsR.at E.2.2.1.1 q
 obtain rfl := (show _ = [Value.string (bs y)] from ft)
 have fu : bn < _ := E.2.2.1.2 _ di
 replace E := E.c fx fu
 have ak : w3.heap.size <= bn /\ bn < L.heap.size := di
 obtain ⟨u, F, fv⟩ := hJ
 have ir := NV (List.mem_of_getElem? q)
 have iy := Ko (DI 32 s) (i + 1)
 have a4 : XW 0 ((DI 32 s).take (i + 1)) = XW 0 ((DI 32 s).take i) + y.length + 1 := by rw [KK q, Kp]
 have H : p.length <= 4001 := by omega
 by_cases B : i % 2 = 1
 case pos =>
  refine yG ?_
  refine OL O O a5 O (List.getElem?_eq_some_iff.1 q).1 ?_
  refine yG ?_
  refine V (v := .int .i64 ↑(i % 2)) O O (FD O O O AE (jP _)) ?_
  by_cases R : y = [43]
  . refine yG ?_
    refine V O O (FG (a := y) (b := [43]) (c := false) O O O (by rw [bne_eq_false_iff_eq]; exact R)) ?_
    refine yG ?_
    refine V O O (EO (a := y) (b := [45]) (c := false) O O O (by rw [beq_eq_false_iff_ne]; rw [R]; decide)) ?_
    refine yG ?_
    exact ⟨_, YqV, (i + 1), false, D + y.length + 1, vr, p, _, O, O, zE, O, ⟨by omega, UI u q (Ez B R), by rw [a4, <- F], by omega⟩⟩
  by_cases a2 : y = [45]
  case neg =>
   refine yG ?_
   refine V O O (FG (a := y) (b := [43]) (c := true) O O O (by rw [bne_iff_ne]; exact R)) ?_
   refine yG ?_
   refine V Z O (FG (a := y) (b := [45]) (c := true) O O O (by rw [bne_iff_ne]; exact a2)) ?_
   refine yG ?_
   exact (by rw [show EE l s = ([], D, 440) from by rw [bP Q C N u q (Ng B R a2), <- F]]; exact ⟨_, rfl, ⟨_, rfl, IsR.nil _ _ _⟩, e6 E⟩)
  refine yG ?_
  refine V O O (FG (a := y) (b := [43]) (c := true) O O O (by rw [bne_iff_ne]; exact R)) ?_
  refine yG ?_
  refine V Z O (FG (a := y) (b := [45]) (c := false) O O O (by rw [bne_eq_false_iff_eq]; exact a2)) ?_
  refine yG ?_
  refine V O O (EO (a := y) (b := [45]) (c := true) O O O (by rw [beq_iff_eq]; exact a2)) ?_
  refine yG ?_
  exact ⟨_, YqV, (i + 1), true, D + y.length + 1, vr, p, _, O, O, zE, O, ⟨by omega, UI u q (wT B a2), by rw [a4, <- F], by omega⟩⟩
 refine yG ?_
 refine OL O O a5 O (List.getElem?_eq_some_iff.1 q).1 ?_
 refine yG ?_
 refine V (v := .int .i64 ↑(i % 2)) O O (FD O O O AE (jP _)) ?_
 by_cases P : i = 0
 case neg =>
  have I := Xy (nd := nd) (wd := y) P
  have G : (y).length <= 4000 := by first | omega | (rw [List.length_drop]; omega)
  by_cases f : cO l y = none
  . refine yG ?_
    refine EF O (QJ FT O YJx O E ?_)
    exact Z0x
  obtain ⟨⟨c, mm⟩, f⟩ := Option.ne_none_iff_exists'.1 f
  have aj := VT G f
  obtain ⟨t, bv⟩ := YP f
  refine yG ?_
  refine EF O (QI (c := c) (mm := mm) FT O YJx O E ?_)
  intro hk cu cp cy cm j4 E
  refine yG ?_
  refine EF O (BZ FQ O ?_)
  intro c3 hj ba gn g0 cd
  have a9 : (vr : Value).ownBlock ≠ some c3 := fun h => by have := (Acc.lt (e3 E).1 h).2; omega
  have ij : w.heap.size <= c3 := by rw [ba]; exact (e8 E).size
  have dw : L.heap.size <= c3 := by rw [ba]; exact CS (e6 E)
  replace E := E.below g0
  refine yG ?_
  refine EF O (BY FQ O O O cd YA4 (CF t) (DO (M := mm) (IsI.one E.1) (IsI.one E.2.1)) ?_)
  intro eu fa ef
  replace E := oY E cd fa ef (ds := (EW cu cp cy cm mm))
  obtain ⟨a1, J, rfl⟩ := Acc.shp (e4 E).1
  obtain ⟨da, ai⟩ : ∃ n, n = eu.heap.size := ⟨_, rfl⟩
  have b8 := (e4 E).1.row (e4 E).2 (fun _ _ g _ => g)
  rw [<- ai] at b8
  replace E := E.r (e := JQ) (S := DL da) b8 (fun k g => by rw [<- ai]; exact g)
  obtain ⟨⟨jc, cb⟩, aa⟩ : ∃ x, p[p.length - 1]? = some x := ⟨_, List.getElem?_eq_getElem (show p.length - 1 < p.length by omega)⟩
  obtain ⟨ct, gc, _, b7, dj, dg, ⟨ih, ie, ii, id, rfl, d7, de, ab⟩⟩ := IsR.at E.1.1 aa
  have dc : ct < _ := E.1.2 _ dj
  replace E := ((E.c dg dc).i d7).i de
  have c1 := yE aa
  by_cases c2 : FR cb mm <= 0
  case pos =>
   refine yG ?_
   refine sE E [0,1,2,3,4,5,6,7,8,9,10,11,12,13,14,15,16,17,18,19] ?_
   replace E := E.drew
   refine yG ?_
   refine SW (v := .int .i64 ↑(p.length - 1)) O O O Z O (fun w hS => FM O O O (by rw [MO AA]; omega)) ?_
   refine lD O O O b7 O (List.getElem?_eq_some_iff.1 aa).1 ?_
   refine yG ?_
   refine SW O O O Z O (fun w hS => CE ST O O (Cs.sub ((hS.2.2.1).1) 4 (EH _ _ _ _ _)) (DG ab)) ?_
   refine yG ?_
   refine SW O O O Z O (fun w hS => CE ST O O (Cs.sub (Bx.cs (e4 hS)) 4 (EH _ _ _ _ _)) (DG t)) ?_
   refine yG ?_
   refine GG (o := ⟨some 90, _, _, _, _, _⟩) O O O O (CB IM O (TU cb mm _ ab t) O E ?_)
   intro hh j3 E
   refine ⟨E, ?_⟩
   refine yG ?_
   exact (by rw [show EE l s = ([], D, 440) from by rw [bP Q C N u q (Eo B I f P (by rw [c1]; exact cmp_flip.2 c2)), <- F]]; exact ⟨_, rfl, ⟨_, rfl, IsR.nil _ _ _⟩, XX E⟩)
  refine yG ?_
  refine sE E [0,1,2,3,4,5,6,7,8,9,10,11,12,13,14,15,16,17,18,19] ?_
  replace E := E.drew
  refine yG ?_
  refine SW (v := .int .i64 ↑(p.length - 1)) O O O Z O (fun w hS => FM O O O (by rw [MO AA]; omega)) ?_
  refine lD O O O b7 O (List.getElem?_eq_some_iff.1 aa).1 ?_
  refine yG ?_
  refine SW O O O Z O (fun w hS => CE ST O O (Cs.sub ((hS.2.2.1).1) 4 (EH _ _ _ _ _)) (DG ab)) ?_
  refine yG ?_
  refine SW O O O Z O (fun w hS => CE ST O O (Cs.sub (Bx.cs (e4 hS)) 4 (EH _ _ _ _ _)) (DG t)) ?_
  refine yG ?_
  refine GG (o := ⟨some 90, _, _, _, _, _⟩) O O O O (CB IM O (TU cb mm _ ab t) O E ?_)
  intro hf j2 E
  refine ⟨E, ?_⟩
  refine yG ?_
  replace E := qC E
  replace E := VC E
  by_cases d6 : nd = true
  case neg =>
   have d5 := DY d6
   subst d5
   have T := e6 E
   refine yG ?_
   replace E := dW E
   refine sE E [0,1,4,5,6,7,8,9,10,11,2,3,12,13,14] ?_
   replace E := E.drew
   replace T := (fA JQ 88 b3 (EM w3.heap.size L.heap.size) (.slice a1 (p).length J) p).below T ((Below.refl _ _).drew)
   refine yG ?_
   refine Af O O O a5 O (List.getElem?_eq_some_iff.1 q).1 ?_
   refine yG ?_
   refine GG (o := ⟨some 102, _, _, _, _, _⟩) O O O O (DW (cs := (EW cu cp cy cm mm)) underlying28 FQ (CF t) AE AE O O ?_)
   intro g7 ha gf gk dm eo
   have aq : ((.slice a1 (p).length J) : Value).ownBlock ≠ some g7 := fun h => by have := (Acc.lt T.1 h).2; omega
   replace E := E.below dm
   replace T := (fA JQ 88 b3 (EM w3.heap.size L.heap.size) (.slice a1 (p).length J) p).below T dm
   replace E := E.x eo
   refine ⟨E.2, ?_⟩
   have ac := T
   refine yG ?_
   refine GG (o := ⟨some 103, _, _, _, _, _⟩) O O O O (EL (x := (c, mm)) ZA O (l := p) O ac.1 ac.2 E (fun g hg h1 h2 => ⟨GO (fun e => aq (e ▸ hg)), BX, BX, GO (fun e => a9 (e ▸ hg)), BX, BX, TJ (by first | omega | exact (fun e => Acc.own ac.1 g hg (e ▸ ak))), BX, FV (Acc.own ac.1 g hg), BX, FV (CY AA), OP AA, BX⟩) O E.1 (⟨_, _, _, _, O, e4 E, e5 E, t⟩) Yad YSq (CS (e7 E)) ?_)
   intro ev h9 E
   refine ⟨E.2.2, ?_⟩
   refine yG ?_
   exact ⟨_, YqV, (i + 1), false, D + y.length + 1, ev, p ++ [(c, mm)], _, O, O, zE, O, ⟨by omega, UI u q (eX B I f (.inr (by rw [c1]; exact fun g => c2 (cmp_flip.1 g)))), by rw [a4, <- F], by (try simp only [List.length_append, List.length_cons, List.length_nil]); omega⟩⟩
  subst d6
  refine yG ?_
  refine V O O (CE EY O O (Cs.sub (Bx.cs E.2.2.1) 0 (EQ _ _ _ _ _)) O) ?_
  refine yG ?_
  refine EF O (CV WS O (Dy _ _ _ _ c _ (e3 E) (e4 E) (FitQ.mono aj AE)) O E ?_)
  intro he bq bl bt bj j1 E
  have cc := e4 E
  refine yG ?_
  replace E := jI E
  refine yG ?_
  refine EF O (IS (cs' := (EW bq bl bt bj mm)) EY O O O cc O (by rw [CF t]; decide) (IF (IsI.one E.2.1) (IsI.one E.1)) O ?_)
  intro hd f9 ee
  replace E := oY E cc f9 ee (ds := (EW bq bl bt bj mm))
  have U := e8 E
  refine yG ?_
  replace E := dl8 E
  refine sE E [0,1,4,5,6,7,8,9,10,11,2,3,12,13,14] ?_
  replace E := E.drew
  replace U := (fA JQ 88 b3 (EM w3.heap.size L.heap.size) (.slice a1 (p).length J) p).below U ((Below.refl _ _).drew)
  refine yG ?_
  refine Af O O O a5 O (List.getElem?_eq_some_iff.1 q).1 ?_
  refine yG ?_
  refine GG (o := ⟨some 102, _, _, _, _, _⟩) O O O O (DW (cs := (EW bq bl bt bj mm)) underlying28 FQ (CF t) AE AE O O ?_)
  intro g8 hc gg gm dn ep
  have ar : ((.slice a1 (p).length J) : Value).ownBlock ≠ some g8 := fun h => by have := (Acc.lt U.1 h).2; omega
  replace E := E.below dn
  replace U := (fA JQ 88 b3 (EM w3.heap.size L.heap.size) (.slice a1 (p).length J) p).below U dn
  replace E := E.x ep
  refine ⟨E.2, ?_⟩
  have ad := U
  refine yG ?_
  refine GG (o := ⟨some 103, _, _, _, _, _⟩) O O O O (EL (x := ((-c), mm)) ZA O (l := p) O ad.1 ad.2 E (fun g hg h1 h2 => ⟨GO (fun e => ar (e ▸ hg)), GO (fun e => a9 (e ▸ hg)), BX, BX, BX, BX, BX, BX, TJ (by first | omega | exact (fun e => Acc.own ad.1 g hg (e ▸ ak))), BX, FV (Acc.own ad.1 g hg), BX, FV (CY AA), OP AA, BX⟩) O E.1 (⟨_, _, _, _, O, e3 E, E.2.2.1, t⟩) Yad YSq (CS (e9 E)) ?_)
  intro ew hb E
  refine ⟨E.2.2, ?_⟩
  refine yG ?_
  exact ⟨_, YqV, (i + 1), false, D + y.length + 1, ew, p ++ [((-c), mm)], _, O, O, zE, O, ⟨by omega, UI u q (eX B I f (.inr (by rw [c1]; exact fun g => c2 (cmp_flip.1 g)))), by rw [a4, <- F], by (try simp only [List.length_append, List.length_cons, List.length_nil]); omega⟩⟩
 by_cases ix : y.length = 0
 . have I := Rh (nd := nd) (wd := y) P (by rw [List.getElem?_eq_none AA]; simp)
   exact ZRg
 obtain ⟨b0, dh⟩ : ∃ b, y[0]? = some b := ⟨_, List.getElem?_eq_getElem AA⟩
 by_cases b1 : b0 = 45
 case neg =>
  have I := Rh (nd := nd) (wd := y) P (by rw [dh]; exact fun g => b1 (Option.some.inj g))
  refine yG ?_
  refine V Z O (EK (c := false) O O O (by rw [beq_eq_false_iff_ne]; exact fun g => b1 (UInt8.toNat_inj.1 (by show b0.toNat = 45; omega)))) ?_
  exact ZRg
 have I := C1 (nd := nd) (wd := y) P (by rw [dh, b1])
 refine yG ?_
 refine V Z O (EK (c := true) O O O (by rw [beq_iff_eq, b1]; rfl)) ?_
 refine yG ?_
 refine sE E [0,1,2,3] ?_
 replace E := E.drew
 refine yG ?_
 refine SW (v := .string (bs (y.drop 1))) O O O O O (fun w hS => KD (a := y) (j := 1) O underlying9 O O O AA) ?_
 have G : (y.drop 1).length <= 4000 := by first | omega | (rw [List.length_drop]; omega)
 by_cases f : cO l (y.drop 1) = none
 . refine yG ?_
   refine EF O (QJ FT O Y9s O E ?_)
   exact Z0x
 obtain ⟨⟨c, mm⟩, f⟩ := Option.ne_none_iff_exists'.1 f
 have aj := VT G f
 obtain ⟨t, bv⟩ := YP f
 refine yG ?_
 refine EF O (QI (c := c) (mm := mm) FT O Y9s O E ?_)
 intro i3 fm f7 fq f2 j9 E
 refine yG ?_
 refine EF O (BZ FQ O ?_)
 intro c7 i2 bg gy g4 ci
 have ay : (vr : Value).ownBlock ≠ some c7 := fun h => by have := (Acc.lt (e3 E).1 h).2; omega
 have io : w.heap.size <= c7 := by rw [bg]; exact (e8 E).size
 have ea : L.heap.size <= c7 := by rw [bg]; exact CS (e6 E)
 replace E := E.below g4
 refine yG ?_
 refine EF O (BY FQ O O O ci YA4 (CF t) (DO (M := mm) (IsI.one E.1) (IsI.one E.2.1)) ?_)
 intro i1 ff ek
 replace E := oY E ci ff ek (ds := (EW fm f7 fq f2 mm))
 obtain ⟨ao, a7, rfl⟩ := Acc.shp (e4 E).1
 refine yG ?_
 refine sE E [0,1,2,3,4,5,6,7,8,9,10,11,12,13,14,15,16,17,18,19] ?_
 replace E := E.drew
 refine yG ?_
 refine V O O (CE EY O O (Cs.sub (Bx.cs E.1) 0 (EQ _ _ _ _ _)) O) ?_
 refine yG ?_
 refine EF O (CV WS O (Dy _ _ _ _ c _ E.2.1 E.2.2.1 (FitQ.mono aj AE)) O E ?_)
 intro i0 br bm bu bk j8 E
 have ch := E.2.2.1
 refine yG ?_
 replace E := VC E
 refine yG ?_
 refine EF O (IS (cs' := (EW br bm bu bk mm)) EY O O O ch O (by rw [CF t]; decide) (IF (IsI.one E.2.1) (IsI.one E.1)) O ?_)
 intro hz fe ej
 replace E := oY E ch fe ej (ds := (EW br bm bu bk mm))
 have Y := e6 E
 refine yG ?_
 replace E := dW E
 refine sE E [0,1,4,5,6,7,8,9,10,11,2,3,12,13,14] ?_
 replace E := E.drew
 replace Y := (fA JQ 88 b3 (EM w3.heap.size L.heap.size) (.slice ao (p).length a7) p).below Y ((Below.refl _ _).drew)
 refine yG ?_
 refine Af O O O a5 O (List.getElem?_eq_some_iff.1 q).1 ?_
 refine yG ?_
 refine GG (o := ⟨some 102, _, _, _, _, _⟩) O O O O (DW (cs := (EW br bm bu bk mm)) underlying28 FQ (CF t) AE AE O O ?_)
 intro ga hy gi gx dq es
 have av : ((.slice ao (p).length a7) : Value).ownBlock ≠ some ga := fun h => by have := (Acc.lt Y.1 h).2; omega
 replace E := E.below dq
 replace Y := (fA JQ 88 b3 (EM w3.heap.size L.heap.size) (.slice ao (p).length a7) p).below Y dq
 replace E := E.x es
 refine ⟨E.2, ?_⟩
 have af := Y
 refine yG ?_
 refine GG (o := ⟨some 103, _, _, _, _, _⟩) O O O O (EL (x := ((-c), mm)) ZA O (l := p) O af.1 af.2 E (fun g hg h1 h2 => ⟨GO (fun e => av (e ▸ hg)), GO (fun e => ay (e ▸ hg)), BX, BX, BX, BX, TJ (by first | omega | exact (fun e => Acc.own af.1 g hg (e ▸ ak))), BX, FV (Acc.own af.1 g hg), BX, FV (CY AA), OP AA, BX⟩) O E.1 (⟨_, _, _, _, O, e3 E, E.2.2.1, t⟩) Yad YSq (CS (e7 E)) ?_)
 intro ey hx E
 refine ⟨E.2.2, ?_⟩
 refine yG ?_
 exact ⟨_, YqV, (i + 1), false, D + y.length + 1, ey, p ++ [((-c), mm)], _, O, O, zE, O, ⟨by omega, UI u q (eX B I f (.inl P)), by rw [a4, <- F], by (try simp only [List.length_append, List.length_cons, List.length_nil]); omega⟩⟩
end Go.Proofs.YtmppigbbkjepiaaGreatDoor
