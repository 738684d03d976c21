/- Helping facts of Fnd; no other conditions. Helping facts of RPr; no other conditions. -/
import Derived.Test.YtmppigbbkjepiaaGreatDoorRTxt
import Derived.Test.YtmppigbbkjepiaaGreatDoorPrint
set_option maxHeartbeats 8000000
set_option maxRecDepth 100000
namespace Go.Proofs.YtmppigbbkjepiaaGreatDoor
open Go.Proofs.Tryz
open Go.RowKit W
variable {K : Act -> World -> Prop} {Q : Exit -> Act -> World -> Prop} {S : Nat -> Prop} {a : Act} {i id k : Nat} {n : Int} {o : Oper} {p : Prop} {w : World} {x : Operand}
theorem YlF (h : p := by have := y; omega) : p := h
theorem YzY (h : p := by simp [results, results65, asAddr, r1]) : p := h
theorem YkG (h : p := by have := y; unfold maxLen; omega) : p := h
theorem Ymn (h : p := by exact fun h => by have := hS _ h; omega) : p := h
def Zt : El Nat where
 sz := 1
 p := fun _ _ cs x => cs = [.int .i64 ((x : Nat) : Int)]
 keep := fun h _ => h
 mono := fun h _ => h
 len := fun h => by subst h; rfl
 one := fun h => by subst h; intro v hv; rw [List.mem_singleton] at hv; subst hv; rfl
 nw := fun h => by subst h; intro c hc k e; rw [List.mem_singleton] at hc; subst hc; cases e
theorem infoN : (prog.info? 3).map (fun i => (i.zero, i.size, i.bytes)) = some (some (.int .i64 0), 1, 8) := by kernel_rfl
theorem Rf : RowT Zt 126 3 8 := by
 obtain ⟨o, q, l, h, f⟩ := info_parts infoN
 exact ⟨underlying126, ⟨o, _, q, l, h, f, rfl, by intro u p k e; subst e; simp [Value.cells] at p⟩, by decide⟩
theorem Ml {ρ : Operand -> Value} (ho : o.op = .buildSlice 126 1 #[(0, x)]) (hx : ρ x = .int .i64 n) :
 (execOp ρ o).run prog w = .ok (.value (.slice (some ⟨w.heap.size, 0, none⟩) 1 1)) (w.alloc (.cells #[.int .i64 n] 3)) := by
 unfold execOp; rw [ho]
 simp [go_sem, Instr.buildSlice, hx]
theorem RV (ho : o.op = .buildSlice 126 1 #[(0, x)]) (hx : a.eval x = .int .i64 n)
 (h : ∀ b w', b = w.heap.size -> w'.heap.size = w.heap.size + 1 -> Below w.heap.size w w' -> Bx w' b 3 [.int .i64 n] -> K (a.put o.dst (.slice (some ⟨b, 0, none⟩) 1 1)) w') : o.wp prog a w K Q :=
 DO (Ml ho hx) (h _ _ rfl AH ((Below.refl _ _).alloc (Nat.le_refl _) _) (JD w _ [.int .i64 n]))
def Uq (q r : List En) : List Nat := (TH q r).map (·.2.1)
def pE (q r : List En) (i k : Nat) (done : List (Bool × En)) : Prop := TH q r = done ++ TH (q.drop i) (r.drop k)
theorem Oa {q r : List En} {done : List (Bool × En)} (h : pE q r i k done) : done.length <= q.length + r.length := by
 have e := congrArg List.length h
 rw [WD _ q r (Nat.le_refl _), List.length_append] at e; omega
theorem Oc {q r : List En} {done : List (Bool × En)} {e : En} (h : pE q r i k done) (hx : q[i]? = some e) (hc : ¬ k < r.length ∨ ∃ f, r[k]? = some f /\ e.1 < f.1) : pE q r (i + 1) k (done ++ [(false, e)]) := by
 have := dW (s := ⟨[], q, r, 0⟩) (i := i) (k := k) (e := (false, e)) (.inl ⟨rfl, hx, hc⟩)
 unfold pE at h ⊢
 simp only at this
 rw [this] at h; rw [h]; simp
theorem Nz {q r : List En} {done : List (Bool × En)} {e : En} (h : pE q r i k done) (hx : r[k]? = some e) (hc : ¬ i < q.length ∨ ∃ f, q[i]? = some f /\ ¬ f.1 < e.1) : pE q r i (k + 1) (done ++ [(true, e)]) := by
 have := dW (s := ⟨[], q, r, 0⟩) (i := i) (k := k) (e := (true, e)) (.inr ⟨rfl, hx, hc⟩)
 unfold pE at h ⊢
 simp only at this
 rw [this] at h; rw [h]; simp
theorem Ob {q r : List En} {done : List (Bool × En)} (h : pE q r i k done) (hi : ¬ i < q.length) (hk : ¬ k < r.length) : done.map (·.2.1) = Uq q r := by
 unfold pE at h; unfold Uq
 rw [h, List.drop_eq_nil_of_le AA, List.drop_eq_nil_of_le AA]; simp [TH]
def QX (q r : List En) (id : Nat) : Option (Bool × En) := match q.find? fun e => e.1 == id with
 | some e => some (false, e)
 | none => (r.find? fun e => e.1 == id).map fun e => (true, e)
theorem Zn {q r : List En} {e : En} (hx : q[i]? = some e) (h : e.1 = id) : QX (q.drop i) r id = some (false, e) := by unfold QX; rw [NP hx]; simp [h]
theorem Uy {q r : List En} {e : En} (hx : q[i]? = some e) (h : ¬ e.1 = id) : QX (q.drop i) r id = QX (q.drop (i + 1)) r id := by
 unfold QX; rw [NP hx, List.find?_cons_of_neg (by simpa using h)]
theorem Zm {r : List En} {e : En} (hx : r[i]? = some e) (h : e.1 = id) : QX [] (r.drop i) id = some (true, e) := by unfold QX; rw [NP hx]; simp [h]
theorem Ux {r : List En} {e : En} (hx : r[i]? = some e) (h : ¬ e.1 = id) : QX [] (r.drop i) id = QX [] (r.drop (i + 1)) id := by
 unfold QX; rw [NP hx]; simp [h]
theorem Pr {r : List En} (h : ¬ i < r.length) : QX [] (r.drop i) id = none := by unfold QX; rw [List.drop_eq_nil_of_le AA]; rfl
def Gw (S : Nat -> Prop) (w : World) (x : Bool × En) (e : Ending) (w' : World) : Prop := ∃ ao cap, e = .returned (.tuple #[.agg #[.int .i64 ↑x.2.1, .slice ao x.2.2.length cap], .bool x.1, .bool true]) /\ IsR JL S w' (.slice ao x.2.2.length cap) x.2.2 /\ Below w.heap.size w w'
theorem Mu {w' : World} {x y : Bool × En} {e : Ending} (h : y = x) (hr : Gw S w y e w') : Gw S w x e w' := h ▸ hr
theorem ZN {P : Program} {f : Nat} {args : List Operand} {tys : Array TypeId} {vs : List Value} {L : List SF} {x : Bool × En} (hf : Fn P f)
 (ho : o.op = .call { callee := .value (.func f), args := args.toArray, argTypes := tys }) (hc : Calls P f vs.toArray w (Gw S w x)) (hv : args.map a.eval = vs) (hS : ∀ k, S k -> k < w.heap.size) (E : Env w L)
 (h : ∀ w' ao cap, Below w.heap.size w w' -> Env w' (fR JL S (.slice ao x.2.2.length cap) x.2.2 :: L) -> K (a.put o.dst (.tuple #[.agg #[.int .i64 ↑x.2.1, .slice ao x.2.2.length cap], .bool x.1, .bool true])) w') : o.wp P a w K Q := by
 refine DG hf ho hc hv ?_
 rintro e w' ⟨ao, cap, rfl, p, l⟩
 exact ⟨_, rfl, h w' ao cap l ((E.below l).r p fun k q => Nat.lt_of_lt_of_le (hS k q) l.size)⟩
theorem Ids_q (vv : Value) (v : List Bs) (vq : Value) (q : List (Nat × List Tm)) (vr : Value) (r : List (Nat × List Tm)) (n : Nat) (w : World) (hRv : IsR elS (CX w.heap.size) w vv v) (hRq : IsR MS (CX w.heap.size) w vq q) (hRr : IsR MS (CX w.heap.size) w vr r) (hq : q.length <= 1000) (hr : r.length <= 1000) :
 Calls prog 64 #[.agg #[vv, vq, vr, .int .i64 ↑n]] w (uN w (fun w' x => IsR Zt (EY w.heap.size w'.heap.size) w' x (Uq q r))) := by
 have E := Env.start w
 obtain ⟨R, z, rfl, br, bl⟩ := hRv.shp
 replace E := E.r hRv (DF _)
 obtain ⟨U, C, rfl, bu, bn⟩ := hRq.shp
 replace E := E.r hRq (DF _)
 obtain ⟨T, B, rfl, bt, bm⟩ := hRr.shp
 replace E := E.r hRr (DF _)
 go_enter func64, ntmps64
 refine yG ?_
 refine EF O (CI (cs := [.slice R v.length z, .slice U q.length C, .slice T r.length B, .int .i64 ↑n]) O O ?_)
 intro b1 w1 az z1 d1 x1
 have l1 : w.heap.size <= b1 := by rw [az]; exact (e3 E).size
 replace E := E.below d1
 replace E := E.x x1
 refine yG ?_
 refine EF O (PS Rf O ?_)
 intro Q w2 ay z2 d2 x2
 have b6 : b1 < Q := by rw [ay]; exact Bx.lt E.1
 replace E := E.below d2
 replace E := E.x x2
 have x3 := E.1
 refine yG ?_
 replace E := VI E
 replace E := (E.sz (Nat.le_of_lt (Bx.lt x3))).a (Acc.lit0 (e := Zt) (S := VH) x3 (Nat.le_refl _) GI) (QL _)
 refine wp_loop_ghost (fun mz a w' => ∃ (i : Nat) (k : Nat) (done : List (Bool × En)) (Y : Value) (o : List Nat) (a6 : List Value), a6 = a.tmps.toList /\ a = ⟨(.agg #[.slice R v.length z, .slice U q.length C, .slice T r.length B, .int .i64 ↑n] :: .pointer (some ⟨b1, 0, none⟩) :: .slice none 0 0 :: Y :: .int .i64 ↑i :: .int .i64 ↑k :: .slice (some ⟨Q, 0, none⟩) 0 0 :: gr a6 7 62 []).toArray, []⟩ /\ Env w' [fA Zt 3 Q VH Y o, rO Q, fX b1 (48) ([.slice R v.length z, .slice U q.length C, .slice T r.length B, .int .i64 ↑n]), fR MS (CX w.heap.size) (.slice T r.length B) r, fR MS (CX w.heap.size) (.slice U q.length C) q, fR elS (CX w.heap.size) (.slice R v.length z) v, fW w] /\ mz = (q.length + r.length - (i + k)) /\ (i <= q.length /\ k <= r.length /\ pE q r i k done /\ o = done.map (·.2.1))) ((q.length + r.length)) ⟨0, 0, [], (.slice (some ⟨Q, 0, none⟩) 0 0), [], _, O, O, zE, O, ⟨Nat.zero_le _, Nat.zero_le _, O, O⟩⟩ ?_
 rintro m4 _ w4 ⟨i, k, done, Y, o, a6, -, rfl, E, N, ax⟩
 dsimp only [gr, Nat.reduceAdd]
 obtain ⟨bp, bo, hJ, hO⟩ := ax
 have bq := Oa hJ
 have y : o.length <= 1000000 := by rw [hO, List.length_map]; omega
 by_cases hi : i < q.length
 case neg =>
  by_cases hk : k < r.length
  case neg =>
   rw [Ob hJ hi hk] at hO
   refine yG ?_
   exact ⟨_, rfl, (by rw [<- hO]; exact E.1.1.row (fun k g => g.elim) (fun _ h1 h2 _ => ⟨by omega, h2⟩)), e6 E⟩
  obtain ⟨⟨f, pN⟩, p⟩ : ∃ x, r[k]? = some x := ⟨_, List.getElem?_eq_getElem hk⟩
  obtain ⟨D, am, _, G, H, a4, ⟨_, rfl, F⟩⟩ := IsR.at (e3 E).1 p
  obtain ⟨ao, an, rfl, ab, _⟩ := F.shp
  have a3 : D < _ := (e3 E).2 _ H
  replace E := (E.r F (e3 E).2).c a4 a3
  have aw : D < w.heap.size := H
  refine yG ?_
  refine sE E [0,1,2,3,4,5,6,7,8,9,10,11,12,13,14,15,16,17,18,19,20,21,22,23,24,25,26] ?_
  replace E := E.drew
  refine yG ?_
  refine vA O O G O (List.getElem?_eq_some_iff.1 p).1 ?_
  refine yG ?_
  refine EF O (RV (n := ((f : Nat) : Int)) O O ?_)
  intro a9 bc X ba b0 aj
  have L : (Y : Value).ownBlock ≠ some a9 := fun h => by have := (Acc.lt E.2.2.1.1 h).2; omega
  have bk : w.heap.size <= a9 := by rw [X]; exact (e8 E).size
  have ai : Q <= a9 := by rw [X]; exact CR (e3 E)
  replace E := E.below b0
  replace E := E.x aj
  have I := e3 E
  have b3 := Acc.nw I.1
  refine yG ?_
  replace E := Fk E
  refine EF O (EM (x := f) Rf O (l := o) O I.1 I.2 E (fun g hg h1 h2 => ⟨CT (fun e => L (e ▸ hg)), QU AA, DP (CJ AA), BX, CT AA, DP (CJ AA), DP (CJ AA), DP (CJ AA), IK AA, BX⟩) O E.1 (O) YkG YlF (CR (e3 E)) ?_)
  intro ak bb E
  refine yG ?_
  exact ⟨_, (by rw [N]; omega), i, (k + 1), (done ++ [(true, (f, pN))]), ak, o ++ [f], _, O, O, zE, O, ⟨by omega, by omega, Nz hJ p (.inl hi), by rw [hO, List.map_append]; rfl⟩⟩
 obtain ⟨⟨t, pQ⟩, u⟩ : ∃ x, q[i]? = some x := ⟨_, List.getElem?_eq_getElem hi⟩
 obtain ⟨aa, bf, _, P, ae, av, ⟨_, rfl, ac⟩⟩ := IsR.at (e4 E).1 u
 obtain ⟨bh, bg, rfl, b8, _⟩ := ac.shp
 have au : aa < _ := (e4 E).2 _ ae
 replace E := (E.r ac (e4 E).2).c av au
 have bv : aa < w.heap.size := ae
 by_cases hk : k < r.length
 case neg =>
  refine yG ?_
  refine sE E [0,1,2,3,4,5,6,7,8,9,10,11,12,13,14,15,16,17,18,19,20,21,22,23,24,25,26] ?_
  replace E := E.drew
  refine yG ?_
  refine vA O O P O (List.getElem?_eq_some_iff.1 u).1 ?_
  refine yG ?_
  refine EF O (RV (n := ((t : Nat) : Int)) O O ?_)
  intro b9 w9 af z9 d9 x9
  have a0 : (Y : Value).ownBlock ≠ some b9 := fun h => by have := (Acc.lt E.2.2.1.1 h).2; omega
  have l9 : w.heap.size <= b9 := by rw [af]; exact (e8 E).size
  have ap : Q <= b9 := by rw [af]; exact CR (e3 E)
  replace E := E.below d9
  replace E := E.x x9
  have J := e3 E
  have b4 := Acc.nw J.1
  refine yG ?_
  replace E := Fk E
  refine EF O (EM (x := t) Rf O (l := o) O J.1 J.2 E (fun g hg h1 h2 => ⟨CT (fun e => a0 (e ▸ hg)), QU AA, DP (CJ AA), BX, CT AA, DP (CJ AA), DP (CJ AA), DP (CJ AA), IK AA, BX⟩) O E.1 (O) YkG YlF (CR (e3 E)) ?_)
  intro al bd E
  refine yG ?_
  exact ⟨_, (by rw [N]; omega), (i + 1), k, (done ++ [(false, (t, pQ))]), al, o ++ [t], _, O, O, zE, O, ⟨by omega, by omega, Oc hJ u (.inl hk), by rw [hO, List.map_append]; rfl⟩⟩
 obtain ⟨⟨f, pN⟩, p⟩ : ∃ x, r[k]? = some x := ⟨_, List.getElem?_eq_getElem hk⟩
 obtain ⟨D, am, _, G, H, a4, ⟨_, rfl, F⟩⟩ := IsR.at (e5 E).1 p
 obtain ⟨ao, an, rfl, ab, _⟩ := F.shp
 have a3 : D < _ := (e5 E).2 _ H
 replace E := (E.r F (e5 E).2).c a4 a3
 have aw : D < w.heap.size := H
 by_cases ad : t < f
 case pos =>
  refine yG ?_
  refine sE E [0,1,2,3,4,5,6,7,8,9,10,11,12,13,14,15,16,17,18,19,20,21,22,23,24,25,26] ?_
  replace E := E.drew
  refine yG ?_
  refine RO O O O P O (List.getElem?_eq_some_iff.1 u).1 ?_
  refine yG ?_
  refine RO O O O G O (List.getElem?_eq_some_iff.1 p).1 ?_
  refine yG ?_
  refine vA O O P O (List.getElem?_eq_some_iff.1 u).1 ?_
  refine yG ?_
  refine EF O (RV (n := ((t : Nat) : Int)) O O ?_)
  intro b5 w5 ah z5 d5 x5
  have a2 : (Y : Value).ownBlock ≠ some b5 := fun h => by have := (Acc.lt (e4 E).1 h).2; omega
  have l5 : w.heap.size <= b5 := by rw [ah]; exact (RA E).size
  have ar : Q <= b5 := by rw [ah]; exact CR (e5 E)
  replace E := E.below d5
  replace E := E.x x5
  have a8 := e5 E
  have bj := Acc.nw a8.1
  refine yG ?_
  replace E := dl5 E
  refine EF O (EM (x := t) Rf O (l := o) O a8.1 a8.2 E (fun g hg h1 h2 => ⟨CT (fun e => a2 (e ▸ hg)), QU AA, DP (CJ AA), QU AA, DP (CJ AA), BX, CT AA, DP (CJ AA), DP (CJ AA), DP (CJ AA), IK AA, BX⟩) O E.1 (O) YkG YlF (CR (e5 E)) ?_)
  intro v6 w6 E
  refine yG ?_
  exact ⟨_, (by rw [N]; omega), (i + 1), k, (done ++ [(false, (t, pQ))]), v6, o ++ [t], _, O, O, zE, O, ⟨by omega, by omega, Oc hJ u (.inr ⟨_, p, ad⟩), by rw [hO, List.map_append]; rfl⟩⟩
 refine yG ?_
 refine sE E [0,1,2,3,4,5,6,7,8,9,10,11,12,13,14,15,16,17,18,19,20,21,22,23,24,25,26] ?_
 replace E := E.drew
 refine yG ?_
 refine RO O O O P O (List.getElem?_eq_some_iff.1 u).1 ?_
 refine yG ?_
 refine RO O O O G O (List.getElem?_eq_some_iff.1 p).1 ?_
 refine yG ?_
 refine vA O O G O (List.getElem?_eq_some_iff.1 p).1 ?_
 refine yG ?_
 refine EF O (RV (n := ((f : Nat) : Int)) O O ?_)
 intro b7 w7 ag z7 d7 x7
 have a1 : (Y : Value).ownBlock ≠ some b7 := fun h => by have := (Acc.lt (e4 E).1 h).2; omega
 have l7 : w.heap.size <= b7 := by rw [ag]; exact (RA E).size
 have aq : Q <= b7 := by rw [ag]; exact CR (e5 E)
 replace E := E.below d7
 replace E := E.x x7
 have a7 := e5 E
 have bi := Acc.nw a7.1
 refine yG ?_
 replace E := dl5 E
 refine EF O (EM (x := f) Rf O (l := o) O a7.1 a7.2 E (fun g hg h1 h2 => ⟨CT (fun e => a1 (e ▸ hg)), QU AA, DP (CJ AA), QU AA, DP (CJ AA), BX, CT AA, DP (CJ AA), DP (CJ AA), DP (CJ AA), IK AA, BX⟩) O E.1 (O) YkG YlF (CR (e5 E)) ?_)
 intro v8 w8 E
 refine yG ?_
 exact ⟨_, (by rw [N]; omega), i, (k + 1), (done ++ [(true, (f, pN))]), v8, o ++ [f], _, O, O, zE, O, ⟨by omega, by omega, Nz hJ p (.inr ⟨_, u, ad⟩), by rw [hO, List.map_append]; rfl⟩⟩
theorem Rr (x : Bool × En) (S : Nat -> Prop) (vv : Value) (v : List Bs) (vq : Value) (q : List (Nat × List Tm)) (vr : Value) (r : List (Nat × List Tm)) (n : Nat) (id : Nat) (w : World) (hRv : IsR elS S w vv v) (hRq : IsR MS S w vq q) (hRr : IsR MS S w vr r) (hS : ∀ k, S k -> k < w.heap.size) (hq : q.length <= 1000) (hr : r.length <= 1000) (hF : QX q r id = some x) :
 Calls prog 65 #[.agg #[vv, vq, vr, .int .i64 ↑n], .int .i64 ↑id] w (Gw S w x) := by
 have E := Env.start w
 obtain ⟨y, p, rfl, am, aj⟩ := hRv.shp
 replace E := E.r hRv hS
 obtain ⟨u, o, rfl, ao, al⟩ := hRq.shp
 replace E := E.r hRq hS
 obtain ⟨t, l, rfl, an, ak⟩ := hRr.shp
 replace E := E.r hRr hS
 go_enter func65, ntmps65
 refine yG ?_
 refine EF O (CI (cs := [.slice y v.length p, .slice u q.length o, .slice t r.length l, .int .i64 ↑n]) O O ?_)
 intro H w1 ae z1 d1 x1
 have l1 : w.heap.size <= H := by rw [ae]; exact (e3 E).size
 replace E := E.below d1
 replace E := E.x x1
 refine yG ?_
 refine EF O (CB NH O ?_)
 intro b2 w2 ad z2 d2 x2
 have af : H < b2 := by rw [ad]; exact Bx.lt E.1
 replace E := E.below d2
 replace E := E.x x2
 refine yG ?_
 refine wp_loop_ghost (fun mz a w' => ∃ (i : Nat) (f : List Value), f = a.tmps.toList /\ a = ⟨(.agg #[.slice y v.length p, .slice u q.length o, .slice t r.length l, .int .i64 ↑n] :: .int .i64 ↑id :: .pointer (some ⟨H, 0, none⟩) :: undef :: .pointer (some ⟨b2, 0, none⟩) :: (CF f 5) :: (CF f 6) :: .int .i64 ↑i :: undef :: gr f 9 20 (undef :: undef :: undef :: undef :: undef :: undef :: undef :: undef :: undef :: undef :: undef :: undef :: undef :: undef :: undef :: undef :: undef :: undef :: undef :: undef :: undef :: [])).toArray, []⟩ /\ Env w' [fX b2 (83) ([.int .i64 0, .slice none 0 0]), fX H (48) ([.slice y v.length p, .slice u q.length o, .slice t r.length l, .int .i64 ↑n]), fR MS S (.slice t r.length l) r, fR MS S (.slice u q.length o) q, fR elS S (.slice y v.length p) v, fW w] /\ mz = q.length - i /\ (i <= q.length /\ QX (q.drop i) r id = some x)) (q.length) ⟨0, _, O, O, zE, O, ⟨Nat.zero_le _, hF⟩⟩ ?_
 rintro m3 _ w3 ⟨i, f, -, rfl, E, a7, a4⟩
 dsimp only [gr, Nat.reduceAdd]
 obtain ⟨a4, G⟩ := a4
 by_cases hi : i < q.length
 case pos =>
  obtain ⟨⟨I, pQ⟩, z⟩ : ∃ x, q[i]? = some x := ⟨_, List.getElem?_eq_getElem hi⟩
  obtain ⟨Q, ai, _, L, a1, aa, ⟨_, rfl, Y⟩⟩ := IsR.at (e3 E).1 z
  obtain ⟨U, R, rfl, ag, _⟩ := Y.shp
  have a8 : Q < _ := (e3 E).2 _ a1
  replace E := (E.r Y (e3 E).2).c aa a8
  have ap : Q < w.heap.size := hS _ a1
  by_cases C : I = id
  case neg =>
   refine yG ?_
   refine vA O O L O (List.getElem?_eq_some_iff.1 z).1 ?_
   refine yG ?_
   exact ⟨_, (by rw [a7]; omega), (i + 1), _, O, O, zE, O, ⟨by omega, by rw [<- Uy z C]; exact G⟩⟩
  have J := Option.some.inj ((Zn z C).symm.trans G)
  refine yG ?_
  refine vA O O L O (List.getElem?_eq_some_iff.1 z).1 ?_
  refine yG ?_
  refine vA O O L O (List.getElem?_eq_some_iff.1 z).1 ?_
  refine yG ?_
  refine V O O (CD NH O O (E.1.1) O) ?_
  have x5 := E.2.2.1
  replace E := kB E
  refine yG ?_
  refine EF O (BY NH O O O x5 O O (CK O (CK O EK)) ?_)
  intro w4 o4 y4
  replace E := (E.onl (x5.noW (CL AH (CL AH EE))) ⟨QU AA, DP Ymn, CT AA, DP Ymn, DP Ymn, DP Ymn, IK AA, BX⟩ o4).x (cs := [.int .i64 ↑I, .slice U pQ.length R]) y4
  have r1 := DA NH E.1 rfl
  refine yG ?_
  exact AQ (v := .tuple #[.agg #[.int .i64 ↑I, .slice U pQ.length R], .bool false, .bool true]) YzY O (Mu J ⟨_, _, O, E.2.2.1.1, e7 E⟩)
 rw [List.drop_eq_nil_of_le AA] at G
 have ac := G
 refine yG ?_
 refine wp_loop_ghost (fun mz a w' => ∃ (j : Nat) (e : List Value), a = ⟨#[.agg #[.slice y v.length p, .slice u q.length o, .slice t r.length l, .int .i64 ↑n], .int .i64 ↑id, .pointer (some ⟨H, 0, none⟩), undef, .pointer (some ⟨b2, 0, none⟩), CF e 0, CF e 1, .int .i64 ↑i, .int .i64 ↑j, .int .i64 ↑i, .pointer (some ⟨H, 1, none⟩), .slice u q.length o, .int .i64 ↑q.length, .bool false, CF f 14, CF f 15, CF f 16, CF f 17, CF f 18, CF f 19, CF f 20, CF f 21, CF f 22, CF f 23, CF f 24, CF f 25, CF f 26, CF f 27, CF f 28, CF e 2, CF e 3, CF e 4, CF e 5, CF e 6, CF e 7, CF e 8, CF e 9, CF e 10, CF e 11, CF e 12, CF e 13, CF e 14, CF e 15, CF e 16, CF e 17, CF e 18, CF e 19, CF e 20, CF e 21, undef], []⟩ /\ Env w' [fX b2 (83) ([.int .i64 0, .slice none 0 0]), fX H (48) ([.slice y v.length p, .slice u q.length o, .slice t r.length l, .int .i64 ↑n]), fR MS S (.slice t r.length l) r, fR MS S (.slice u q.length o) q, fR elS S (.slice y v.length p) v, fW w] /\ mz = r.length - j /\ (j <= r.length /\ QX [] (r.drop j) id = some x)) (r.length) ⟨0, [CF f 5, CF f 6, undef, undef, undef, undef, undef, undef, undef, undef, undef, undef, undef, undef, undef, undef, undef, undef, undef, undef, undef, undef], O, zE, O, ⟨Nat.zero_le _, ac⟩⟩ ?_
 rintro m6 _ w6 ⟨j, e, rfl, E, a6, a3⟩
 obtain ⟨a3, G⟩ := a3
 by_cases hi : j < r.length
 case neg =>
  rw [Pr hi] at G
  cases G
 obtain ⟨⟨F, pN⟩, B⟩ : ∃ x, r[j]? = some x := ⟨_, List.getElem?_eq_getElem hi⟩
 obtain ⟨D, P, _, N, a2, ab, ⟨_, rfl, a0⟩⟩ := IsR.at E.2.2.1.1 B
 obtain ⟨X, T, rfl, ah, _⟩ := a0.shp
 have a9 : D < _ := E.2.2.1.2 _ a2
 replace E := (E.r a0 E.2.2.1.2).c ab a9
 have aq : D < w.heap.size := hS _ a2
 by_cases C : F = id
 case neg =>
  refine yG ?_
  refine vA O O N O (List.getElem?_eq_some_iff.1 B).1 ?_
  refine yG ?_
  exact ⟨_, (by rw [a6]; omega), (j + 1), [CF e 0, CF e 1, .int .i64 ↑j, .pointer (some ⟨H, 2, none⟩), .slice t r.length l, .int .i64 ↑r.length, .bool true, .int .i64 ↑j, .int .i64 ↑(j + 1), .pointer (some ⟨H, 2, none⟩), .slice t r.length l, .int .i64 ↑j, .pointer (some ⟨D, P + j * 2, none⟩), .pointer (some ⟨D, P + j * 2, none⟩), .int .i64 ↑F, .int .i64 ↑id, .bool false, CF e 17, CF e 18, CF e 19, CF e 20, CF e 21], O, zE, O, ⟨by omega, by rw [<- Ux B C]; exact G⟩⟩
 have J := Option.some.inj ((Zm B C).symm.trans G)
 refine yG ?_
 refine vA O O N O (List.getElem?_eq_some_iff.1 B).1 ?_
 refine yG ?_
 refine vA O O N O (List.getElem?_eq_some_iff.1 B).1 ?_
 refine yG ?_
 refine V O O (CD NH O O (E.1.1) O) ?_
 have x8 := E.2.2.1
 replace E := kB E
 refine yG ?_
 refine EF O (BY NH O O O x8 O O (CK O (CK O EK)) ?_)
 intro w7 o7 y7
 replace E := (E.onl (x8.noW (CL AH (CL AH EE))) ⟨QU AA, DP Ymn, CT AA, DP Ymn, DP Ymn, DP Ymn, IK AA, BX⟩ o7).x (cs := [.int .i64 ↑F, .slice X pN.length T]) y7
 have r1 := DA NH E.1 rfl
 refine yG ?_
 exact AQ (v := .tuple #[.agg #[.int .i64 ↑F, .slice X pN.length T], .bool true, .bool true]) YzY O (Mu J ⟨_, _, O, E.2.2.1.1, e7 E⟩)
theorem tW : ∀ {q : List En} {e : En}, (EL q).Pairwise (· < ·) -> e ∈ q -> q.find? (fun x => x.1 == e.1) = some e
 | x :: q, e, h, he => by
   unfold EL at h
   rw [List.map_cons, List.pairwise_cons] at h
   rcases List.mem_cons.1 he with rfl | he
   . exact List.find?_cons_of_pos AH
   have h1 := h.1 e.1 (List.mem_map.2 ⟨e, he, rfl⟩)
   rw [List.find?_cons_of_neg (by simp; omega)]
   exact tW h.2 he
theorem Pq {q : List En} (h : i ∉ EL q) : q.find? (fun x => x.1 == i) = none := by
 rw [List.find?_eq_none]
 intro x e f
 exact h (ids_in.2 ⟨x, e, by simpa using f⟩)
theorem Si {s : Sy} (h : GH s = true) : (EL s.eqs).Pairwise (· < ·) /\ (EL s.neqs).Pairwise (· < ·) /\ ∀ i ∈ EL s.eqs, i ∉ EL s.neqs := by
 unfold GH ID at h
 simp only [Bool.and_eq_true, decide_eq_true_eq] at h
 exact ⟨h.1.1.2.2, h.1.2.2, h.2⟩
theorem Pt {s : Sy} (h : GH s = true) {e : Bool × En} (he : e ∈ TH s.eqs s.neqs) : QX s.eqs s.neqs e.2.1 = some e := by
 obtain ⟨o, l, k⟩ := Si h
 obtain ⟨b, x⟩ := e
 unfold QX
 rcases mrg_in.1 he with ⟨rfl, g⟩ | ⟨rfl, g⟩
 . simp only at g ⊢; rw [tW o g]
 simp only at g ⊢
 rw [Pq (fun f => k _ f (ids_in.2 ⟨x, g, rfl⟩)), tW l g]; rfl
def fE (v : List Bs) (l : List (Bool × En)) : Bs := l.flatMap fun e => 10 :: PW v e
theorem rP (v : List Bs) (l : List (Bool × En)) (e : Bool × En) : fE v (l ++ [e]) = fE v l ++ 10 :: PW v e := by unfold fE; simp
theorem rQ (v : List Bs) : ∀ l : List (Bool × En), 10 :: RN v l = fE v l ++ [10]
 | [] => rfl
 | e :: l => by
   have := rQ v l
   unfold RN fE at this ⊢
   simp only [List.flatMap_cons, List.append_assoc, List.cons_append, List.nil_append, this]
theorem Yy (s : Sy) : (RP s.vars ++ fE s.vars (TH s.eqs s.neqs)) ++ [10, 110, 101, 120, 116, 32] ++ txt ((s.next : Nat) : Int) ++ [10] = mA s := by
 have h : ∀ X : Bs, 10 :: (RN s.vars (TH s.eqs s.neqs) ++ X) = (fE s.vars (TH s.eqs s.neqs) ++ [10]) ++ X := fun X => by rw [<- rQ]; rfl
 rw [sF, h]
 simp [dV, nxB]
theorem pr_ok {s : Sy} (h : GH s = true) (hs : ∀ e, e ∈ s.eqs ∨ e ∈ s.neqs -> (DS s.vars e.2).length <= 4000) : MH s = (mA s, 0) := by
 unfold MH
 rw [if_neg (by rw [h]; simp), if_neg]
 unfold YR
 simp only [List.any_eq_true, decide_eq_true_eq, not_exists, not_and]
 intro e f
 rcases mrg_in.1 f with ⟨_, g⟩ | ⟨_, g⟩
 . have := hs _ (.inl g); omega
 have := hs _ (.inr g); omega
theorem Kx (v : List Bs) (x : Bs) : RP (v ++ [x]) = RP v ++ [32] ++ x := by unfold RP; rw [<- List.cons_append]; exact tQ 32 _ x AH
set_option maxRecDepth 100000 in
set_option maxHeartbeats 8000000 in
theorem yX (vv : Value) (v : List Bs) (vq : Value) (q : List (Nat × List Tm)) (vr : Value) (r : List (Nat × List Tm)) (n : Nat) (w : World) (hRv : IsR elS (CX w.heap.size) w vv v) (hRq : IsR MS (CX w.heap.size) w vq q) (hRr : IsR MS (CX w.heap.size) w vr r) (hOq : PR q) (hOr : PR r) (hF : ∀ e, e ∈ q ∨ e ∈ r -> ∀ t ∈ e.2, FitQ t.1 100000) (hsh : ∀ e, e ∈ q ∨ e ∈ r -> (DS v e.2).length <= 4000) (hLv : v.length <= 1000) (hLq : q.length <= 1000) (hLr : r.length <= 1000) :
 Calls prog 26 #[.agg #[vv, vq, vr, .int .i64 ↑n]] w (FI w (.tuple #[.string (bs (MH ⟨v, q, r, n⟩).1), .int .i64 ↑((MH ⟨v, q, r, n⟩).2)])) := by
 have E := Env.start w
 obtain ⟨B, k, rfl, cw, cr⟩ := hRv.shp
 replace E := E.r hRv (DF _)
 obtain ⟨G, z, rfl, R, cu⟩ := hRq.shp
 replace E := E.r hRq (DF _)
 obtain ⟨F, y, rfl, cx, ct⟩ := hRr.shp
 replace E := E.r hRr (DF _)
 go_enter func26, ntmps26
 refine yG ?_
 refine EF O (CI (cs := [.slice B v.length k, .slice G q.length z, .slice F r.length y, .int .i64 ↑n]) O O ?_)
 intro X w1 c8 z1 d1 x1
 have l1 : w.heap.size <= X := by rw [c8]; exact (e3 E).size
 replace E := E.below d1
 replace E := E.x x1
 by_cases hV : GH ⟨v, q, r, n⟩ = true
 case neg =>
  refine yG ?_
  refine EF O (CA XC O (CU (DE hV) (yV _ v _ q _ r n w1 (BW (e3 E)) (BW E.2.2.1) (BW E.2.1) hOq hOr AA AA AA)) O E ?_)
  intro cd d5 E
  refine yG ?_
  exact ⟨NI (a := []) (n := 320) (Ni (DE hV)), e4 E⟩
 refine yG ?_
 refine EF O (CA XC O (CU hV (yV _ v _ q _ r n w1 (BW (e3 E)) (BW E.2.2.1) (BW E.2.1) hOq hOr AA AA AA)) O E ?_)
 intro w2 d2 E
 obtain ⟨a1, aw, au, bw, ay, b3⟩ := Aj hV
 refine yG ?_
 dsimp only at a1 aw au bw ay b3
 obtain ⟨L, hM⟩ : ∃ l, TH q r = l := ⟨_, rfl⟩
 have cv : L.length <= 24 := by rw [<- hM, WD _ q r (Nat.le_refl _)]; omega
 have cp := GR a1
 have bu := pr_ok hV (fun e he => hsh e he)
 have bb : X < w2.heap.size := Bx.lt E.1
 have c9 : w.heap.size <= w2.heap.size := (e4 E).size
 refine yG ?_
 refine EF O (CZ pF O ((by have R := Ids_q _ v _ q _ r n w2 (BW (e3 E)) (BW E.2.2.1) (BW E.2.1) AA AA; unfold Uq at R; rw [hM] at R; exact R)) O E ?_)
 intro w3 v3 d3 f3 E
 have z3 := d3.size
 replace E := E.sz (Nat.le_refl w3.heap.size)
 obtain ⟨J, I, rfl, ca, _⟩ := f3.shp
 replace E := E.r (e := Zt) (S := EY w2.heap.size w3.heap.size) f3 (fun _ g => g.2)
 refine yG ?_
 refine wp_loop_ghost (fun mz a w' => ∃ (i : Nat) (ot : Bs) (H : List Value), H = a.tmps.toList /\ a = ⟨(.agg #[.slice B v.length k, .slice G q.length z, .slice F r.length y, .int .i64 ↑n] :: .pointer (some ⟨X, 0, none⟩) :: .string (bs ([])) :: .int .i64 0 :: .string (bs ot) :: .slice J ((L.map (·.2.1)).length) I :: .int .i64 ↑i :: undef :: undef :: undef :: undef :: undef :: undef :: undef :: .agg #[.slice B v.length k, .slice G q.length z, .slice F r.length y, .int .i64 ↑n] :: .bool true :: .bool false :: .agg #[.slice B v.length k, .slice G q.length z, .slice F r.length y, .int .i64 ↑n] :: .slice J ((L.map (·.2.1)).length) I :: gr H 19 15 (undef :: undef :: undef :: undef :: undef :: undef :: undef :: undef :: undef :: undef :: undef :: undef :: undef :: undef :: undef :: undef :: undef :: undef :: undef :: undef :: undef :: undef :: undef :: undef :: undef :: undef :: undef :: undef :: undef :: undef :: undef :: undef :: undef :: undef :: undef :: undef :: undef :: undef :: undef :: undef :: undef :: undef :: undef :: undef :: undef :: undef :: [])).toArray, []⟩ /\ Env w' [fR Zt (EY w2.heap.size w3.heap.size) (.slice J ((L.map (·.2.1)).length) I) (L.map (·.2.1)), rO w3.heap.size, fX X (48) ([.slice B v.length k, .slice G q.length z, .slice F r.length y, .int .i64 ↑n]), fR MS (CX w.heap.size) (.slice F r.length y) r, fR MS (CX w.heap.size) (.slice G q.length z) q, fR elS (CX w.heap.size) (.slice B v.length k) v, fW w] /\ mz = v.length - i /\ (i <= v.length /\ ot = RP (v.take i) /\ ot.length <= 4 + i * 13)) (v.length) ⟨0, [118, 97, 114, 115], _, O, O, zE, O, ⟨Nat.zero_le _, O, by decide⟩⟩ ?_
 rintro m4 _ w4 ⟨i, ot, H, -, rfl, E, bx, b7⟩
 dsimp only [gr, Nat.reduceAdd]
 obtain ⟨b7, hJ⟩ := b7
 by_cases hi : i < v.length
 case pos =>
  obtain ⟨xV, a6⟩ : ∃ x, v[i]? = some x := ⟨_, List.getElem?_eq_getElem hi⟩
  obtain ⟨al, cn, _, c6, b5, c4, br⟩ := IsR.at (e5 E).1 a6
  obtain rfl := (show _ = [Value.string (bs xV)] from br)
  have c0 : al < _ := (e5 E).2 _ b5
  replace E := E.c c4 c0
  have cy : al < w.heap.size := b5
  have cq := eM (FJ a1 _ (List.mem_of_getElem? a6))
  have ah := hJ.2
  refine yG ?_
  refine fY O O c6 O (List.getElem?_eq_some_iff.1 a6).1 ?_
  refine yG ?_
  exact ⟨_, (by rw [bx]; omega), (i + 1), ((ot ++ ([32])) ++ xV), _, O, O, zE, O, ⟨by omega, by rw [JG a6, Kx, <- hJ.1], by simp only [List.length_append, List.length_cons, List.length_nil]; have := hJ.2; omega⟩⟩
 obtain ⟨U, ah⟩ := hJ
 rw [List.take_of_length_le AA] at U
 refine yG ?_
 refine wp_loop_ghost (fun mz a w' => ∃ (j : Nat) (T : Bs) (f : List Value), a = ⟨#[.agg #[.slice B v.length k, .slice G q.length z, .slice F r.length y, .int .i64 ↑n], .pointer (some ⟨X, 0, none⟩), CF f 0, CF f 1, .string (bs T), .slice J ((L.map (·.2.1)).length) I, .int .i64 ↑i, .int .i64 ↑j, CF f 2, CF f 3, CF f 4, CF f 5, CF f 6, CF f 7, .agg #[.slice B v.length k, .slice G q.length z, .slice F r.length y, .int .i64 ↑n], .bool true, .bool false, .agg #[.slice B v.length k, .slice G q.length z, .slice F r.length y, .int .i64 ↑n], .slice J ((L.map (·.2.1)).length) I, .int .i64 ↑i, .pointer (some ⟨X, 0, none⟩), .slice B v.length k, .int .i64 ↑v.length, .bool false, CF H 24, CF H 25, CF H 26, CF H 27, CF H 28, CF H 29, CF H 30, CF H 31, CF H 32, CF H 33, CF f 8, CF f 9, CF f 10, CF f 11, CF f 12, CF f 13, CF f 14, CF f 15, CF f 16, CF f 17, CF f 18, CF f 19, CF f 20, CF f 21, CF f 22, CF f 23, CF f 24, CF f 25, CF f 26, CF f 27, CF f 28, CF f 29, CF f 30, CF f 31, CF f 32, CF f 33, CF f 34, CF f 35, CF f 36, CF f 37, CF f 38, CF f 39, CF f 40, CF f 41, CF f 42, CF f 43, CF f 44, CF f 45, CF f 46, undef, undef, undef, undef, undef, undef, undef], []⟩ /\ Env w' [fR Zt (EY w2.heap.size w3.heap.size) (.slice J ((L.map (·.2.1)).length) I) (L.map (·.2.1)), rO w3.heap.size, fX X (48) ([.slice B v.length k, .slice G q.length z, .slice F r.length y, .int .i64 ↑n]), fR MS (CX w.heap.size) (.slice F r.length y) r, fR MS (CX w.heap.size) (.slice G q.length z) q, fR elS (CX w.heap.size) (.slice B v.length k) v, fW w] /\ mz = ((L.map (·.2.1)).length) - j /\ (j <= (L.map (·.2.1)).length /\ T = RP v ++ fE v (L.take j) /\ T.length <= 100 + j * 5000)) (((L.map (·.2.1)).length)) ⟨0, ot, [.string (bs ([])), .int .i64 0, undef, undef, undef, undef, undef, undef, undef, undef, undef, undef, undef, undef, undef, undef, undef, undef, undef, undef, undef, undef, undef, undef, undef, undef, undef, undef, undef, undef, undef, undef, undef, undef, undef, undef, undef, undef, undef, undef, undef, undef, undef, undef, undef, undef, undef], O, zE, O, ⟨Nat.zero_le _, by rw [U]; simp [fE], by omega⟩⟩ ?_
 rintro m5 _ w5 ⟨j, T, f, rfl, E, b0, ai⟩
 have cb : j <= 24 := by have := ai.1; rw [List.length_map] at this; omega
 obtain ⟨ai, hJ⟩ := ai
 by_cases hi : j < (L.map (·.2.1)).length
 case neg =>
  obtain ⟨U, ah⟩ := hJ
  have c3 := hi
  rw [List.length_map] at c3
  rw [List.take_of_length_le AA, <- hM] at U
  have ar := NL ay
  have co := XT a1
  refine yG ?_
  refine V O O (Mm O underlying126 O) ?_
  refine yG ?_
  refine EF O (BZ KI O (ZB n _ AA) O E ?_)
  intro ce d6 E
  refine yG ?_
  exact ⟨NI (n := 0) (bu.trans (by rw [U]; exact congrArg (fun x => (x, 0)) (Yy ⟨v, q, r, n⟩).symm)), e6 E⟩
 have c2 : j < L.length := by rw [List.length_map] at hi; exact hi
 obtain ⟨⟨b, u, p⟩, a7⟩ : ∃ e, L[j]? = some e := ⟨_, List.getElem?_eq_getElem c2⟩
 obtain ⟨xI, a2⟩ : ∃ x, (L.map (·.2.1))[j]? = some x := ⟨_, List.getElem?_eq_getElem hi⟩
 obtain ⟨Y, a4, _, b4, b6, c5, bt⟩ := IsR.at E.1.1 a2
 obtain rfl := (show _ = [Value.int .i64 ↑xI] from bt)
 have c1 : Y < _ := E.1.2 _ b6
 replace E := E.c c5 c1
 have cz : w2.heap.size <= Y /\ Y < w3.heap.size := b6
 have b2 : u = xI := by rw [List.getElem?_map, a7] at a2; exact Option.some.inj a2
 subst b2
 have az : (b, u, p) ∈ TH q r := by rw [hM]; exact List.mem_of_getElem? a7
 have ag := Pt (s := ⟨v, q, r, n⟩) hV az
 dsimp only at ag
 have a8 : (u, p) ∈ q ∨ (u, p) ∈ r := (mrg_in.1 az).imp (·.2) (·.2)
 obtain ⟨a0, a3⟩ := b3 _ a8
 have ax := hsh _ a8
 have af := hF _ a8
 obtain ⟨ae, _, bv⟩ := a8.elim (hOq _) (hOr _)
 dsimp only at a0 a3 ax af ae bv
 have a9 := nZ (vars := v) (e := (b, u, p)) a0 (show ¬ 4000 < (DS v p).length by omega)
 obtain ⟨U, ah⟩ := hJ
 cases b with
 | false =>
  have ba : w3.heap.size <= w5.heap.size := CR E.2.2.1
  have bc : X < w5.heap.size := Bx.lt (e3 E)
  have c7 : X < w5.heap.size := Bx.lt (e3 E)
  refine yG ?_
  refine V O O (Mm O underlying126 O) ?_
  refine yG ?_
  refine MV E [.op 0, .op 1, .op 2, .op 3, .op 4, .av 10, .op 5, .op 6, .op 7, .op 8, .op 9, .op 10] 3 (#[true, true, true, true, true, true, true, true, true, true, true, false, false, false]) Z Z Z Z AF AF ?_
  refine FP (v := .agg #[.slice B v.length k, .slice G q.length z, .slice F r.length y, .int .i64 ↑n]) O O O O O (fun w N => CD OU O O (Bx.cs (e3 N)) O) ?_
  refine FP (v := .slice J ((L.map (·.2.1)).length) I) O O O O O (fun w N => EV O O) ?_
  refine FP (v := .int .i64 ↑j) O O O O O (fun w N => EV O O) ?_
  refine FP (v := .pointer (some ⟨Y, a4 + j * 1, none⟩)) O O O O O (fun w N => MG (i := j) O underlying126 Z O b4 O O (List.getElem?_eq_some_iff.1 a2).1) ?_
  refine yG ?_
  refine FP (v := .int .i64 ↑u) O O O O O (fun w N => FX O CW O ((N.1).1 0 _ O)) ?_
  refine FA _ (RunF.alloc NH O O O) ?_
  refine yG ?_
  refine FE O O O O ?_
  intro ad E
  have bq : w.heap.size <= ad.heap.size := (e7 E).size
  have aq : w3.heap.size <= ad.heap.size := CR E.2.2.1
  have ap : X < ad.heap.size := Bx.lt (e3 E)
  refine ZN (S := CX w.heap.size) (x := (false, u, p)) YX O (Rr _ _ _ v _ q _ r n u _ (e6 E).1 (e5 E).1 (e4 E).1 (e5 E).2 AA AA ag) O (e5 E).2 E ?_
  intro w9 Q P d9 E
  have z9 := d9.size
  dsimp only at E
  refine kF2 d9 E O ?_
  refine FP (v := .tuple #[.agg #[.int .i64 ↑u, .slice Q p.length P], .bool false, .bool true]) O O O O O (fun w N => EV O O) ?_
  refine FP (v := .agg #[.int .i64 ↑u, .slice Q p.length P]) O O O O O (fun w N => JR (vs := [.agg #[.int .i64 ↑u, .slice Q p.length P], .bool false, .bool true]) O O O) ?_
  refine FP (v := .bool false) O O O O O (fun w N => JR (vs := [.agg #[.int .i64 ↑u, .slice Q p.length P], .bool false, .bool true]) O O O) ?_
  refine FP (v := .bool true) O O O O O (fun w N => JR (vs := [.agg #[.int .i64 ↑u, .slice Q p.length P], .bool false, .bool true]) O O O) ?_
  refine yG ?_
  refine FF O O ?_
  intro ab d4 bk
  have bo : X < ab := by omega
  simp only [List.mem_append, List.mem_range'_1, not_or, List.not_mem_nil, not_false_eq_true, true_and] at bk
  refine yG ?_
  intro cm E
  refine H1 (i := 11) Z ?_
  have ak := E.1
  replace E := VI E
  refine HE (o := ⟨none, _, _, _, _, _⟩) O O (BY NH O O O ak O O (CK O (CK O EK)) ?_)
  intro bi bm bg
  replace E := oY E ak bm bg (ds := [.int .i64 ↑u, .slice Q p.length P])
  refine ⟨E.2.2, ?_⟩
  refine yG ?_
  refine HP (i := 12) (o := ⟨some 9, _, _, _, _, _⟩) (v := .bool false) O Z (fun _ _ _ h => h) O (fun w N => IF O O) (E.2.2) ?_
  refine yG ?_
  refine HP (i := 13) (o := ⟨some 10, _, _, _, _, _⟩) (v := .bool true) O Z (fun _ _ _ h => h) O (fun w N => IF O O) (E.2.2) ?_
  refine yG ?_
  refine HN Z ?_
  refine yG ?_
  refine EF O (BZ TL O ((by have R := uP _ p _ v bi (BW E.2.1) (BW (e8 E)) ae af AA AA; rw [RZ a1 a3 AA] at R; exact R)) O E ?_)
  intro ck db E
  have ar := NL a0
  refine yG ?_
  refine EF O (BZ KI O (ZB u _ AA) O E ?_)
  intro cj da E
  refine yG ?_
  exact ⟨_, (by rw [b0]; omega), (j + 1), (((((T ++ ([10])) ++ (txt ((u : Nat) : Int))) ++ ([58, 32])) ++ (DS v p)) ++ ([32, 61, 32, 48])), [CF f 0, CF f 1, .pointer (some ⟨ab, 0, none⟩), .bool false, .bool true, .string (bs (DS v p)), .int .i64 ((0 : Nat) : Int), .string (bs ([32, 61, 32, 48])), .int .i64 ↑j, .slice J ((L.map (·.2.1)).length) I, .int .i64 ↑((L.map (·.2.1)).length), .bool true, .int .i64 ↑j, .int .i64 ↑(j + 1), .tuple #[.agg #[.int .i64 ↑u, .slice Q p.length P], .bool false, .bool true], .agg #[.slice B v.length k, .slice G q.length z, .slice F r.length y, .int .i64 ↑n], .slice J ((L.map (·.2.1)).length) I, .int .i64 ↑j, .pointer (some ⟨Y, a4 + j * 1, none⟩), .int .i64 ↑u, .tuple #[.agg #[.int .i64 ↑u, .slice Q p.length P], .bool false, .bool true], .agg #[.int .i64 ↑u, .slice Q p.length P], .bool false, .bool true, .tuple #[.string (bs (DS v p)), .int .i64 ((0 : Nat) : Int)], .pointer (some ⟨ab, 1, none⟩), .slice Q p.length P, .pointer (some ⟨X, 0, none⟩), .slice B v.length k, .tuple #[.string (bs (DS v p)), .int .i64 ((0 : Nat) : Int)], .string (bs (DS v p)), .int .i64 ((0 : Nat) : Int), .int .i64 ((0 : Nat) : Int), .bool false, CF f 34, .bool false, .string (bs T), .string (bs (T ++ ([10]))), .pointer (some ⟨ab, 0, none⟩), .int .i64 ↑u, .string (bs (txt ((u : Nat) : Int))), .string (bs ((T ++ ([10])) ++ (txt ((u : Nat) : Int)))), .string (bs (((T ++ ([10])) ++ (txt ((u : Nat) : Int))) ++ ([58, 32]))), .string (bs (DS v p)), .string (bs ((((T ++ ([10])) ++ (txt ((u : Nat) : Int))) ++ ([58, 32])) ++ (DS v p))), .string (bs ([32, 61, 32, 48])), .string (bs (((((T ++ ([10])) ++ (txt ((u : Nat) : Int))) ++ ([58, 32])) ++ (DS v p)) ++ ([32, 61, 32, 48])))], O, zE, O, ⟨by omega, by rw [JG a7, rP, U]; simp [PW, colB, pM, tZ], by simp only [List.length_append, List.length_cons, List.length_nil]; unfold PW at a9; simp only [List.length_append] at a9; omega⟩⟩
 | true =>
  have am : w3.heap.size <= w5.heap.size := CR E.2.2.1
  have b8 : X < w5.heap.size := Bx.lt (e3 E)
  have bd : X < w5.heap.size := Bx.lt (e3 E)
  refine yG ?_
  refine V O O (Mm O underlying126 O) ?_
  refine yG ?_
  refine MV E [.op 0, .op 1, .op 2, .op 3, .op 4, .av 10, .op 5, .op 6, .op 7, .op 8, .op 9, .op 10] 3 (#[true, true, true, true, true, true, true, true, true, true, true, false, false, false]) Z Z Z Z AF AF ?_
  refine FP (v := .agg #[.slice B v.length k, .slice G q.length z, .slice F r.length y, .int .i64 ↑n]) O O O O O (fun w N => CD OU O O (Bx.cs (e3 N)) O) ?_
  refine FP (v := .slice J ((L.map (·.2.1)).length) I) O O O O O (fun w N => EV O O) ?_
  refine FP (v := .int .i64 ↑j) O O O O O (fun w N => EV O O) ?_
  refine FP (v := .pointer (some ⟨Y, a4 + j * 1, none⟩)) O O O O O (fun w N => MG (i := j) O underlying126 Z O b4 O O (List.getElem?_eq_some_iff.1 a2).1) ?_
  refine yG ?_
  refine FP (v := .int .i64 ↑u) O O O O O (fun w N => FX O CW O ((N.1).1 0 _ O)) ?_
  refine FA _ (RunF.alloc NH O O O) ?_
  refine yG ?_
  refine FE O O O O ?_
  intro ac E
  have bp : w.heap.size <= ac.heap.size := (e7 E).size
  have ao : w3.heap.size <= ac.heap.size := CR E.2.2.1
  have an : X < ac.heap.size := Bx.lt (e3 E)
  refine ZN (S := CX w.heap.size) (x := (true, u, p)) YX O (Rr _ _ _ v _ q _ r n u _ (e6 E).1 (e5 E).1 (e4 E).1 (e5 E).2 AA AA ag) O (e5 E).2 E ?_
  intro ci D C b9 E
  have cc := b9.size
  dsimp only at E
  refine kF2 b9 E O ?_
  refine FP (v := .tuple #[.agg #[.int .i64 ↑u, .slice D p.length C], .bool true, .bool true]) O O O O O (fun w N => EV O O) ?_
  refine FP (v := .agg #[.int .i64 ↑u, .slice D p.length C]) O O O O O (fun w N => JR (vs := [.agg #[.int .i64 ↑u, .slice D p.length C], .bool true, .bool true]) O O O) ?_
  refine FP (v := .bool true) O O O O O (fun w N => JR (vs := [.agg #[.int .i64 ↑u, .slice D p.length C], .bool true, .bool true]) O O O) ?_
  refine FP (v := .bool true) O O O O O (fun w N => JR (vs := [.agg #[.int .i64 ↑u, .slice D p.length C], .bool true, .bool true]) O O O) ?_
  refine yG ?_
  refine FF O O ?_
  intro aa d0 bj
  have bn : X < aa := by omega
  simp only [List.mem_append, List.mem_range'_1, not_or, List.not_mem_nil, not_false_eq_true, true_and] at bj
  refine yG ?_
  intro ch E
  refine H1 (i := 11) Z ?_
  have aj := E.1
  replace E := VI E
  refine HE (o := ⟨none, _, _, _, _, _⟩) O O (BY NH O O O aj O O (CK O (CK O EK)) ?_)
  intro bh bl bf
  replace E := oY E aj bl bf (ds := [.int .i64 ↑u, .slice D p.length C])
  refine ⟨E.2.2, ?_⟩
  refine yG ?_
  refine HP (i := 12) (o := ⟨some 9, _, _, _, _, _⟩) (v := .bool true) O Z (fun _ _ _ h => h) O (fun w N => IF O O) (E.2.2) ?_
  refine yG ?_
  refine HP (i := 13) (o := ⟨some 10, _, _, _, _, _⟩) (v := .bool true) O Z (fun _ _ _ h => h) O (fun w N => IF O O) (E.2.2) ?_
  refine yG ?_
  refine HN Z ?_
  refine yG ?_
  refine EF O (BZ TL O ((by have R := uP _ p _ v bh (BW E.2.1) (BW (e8 E)) ae af AA AA; rw [RZ a1 a3 AA] at R; exact R)) O E ?_)
  intro cg d8 E
  have ar := NL a0
  refine yG ?_
  refine EF O (BZ KI O (ZB u _ AA) O E ?_)
  intro cf d7 E
  refine yG ?_
  exact ⟨_, (by rw [b0]; omega), (j + 1), (((((T ++ ([10])) ++ (txt ((u : Nat) : Int))) ++ ([58, 32])) ++ (DS v p)) ++ ([32, 33, 61, 32, 48])), [CF f 0, CF f 1, .pointer (some ⟨aa, 0, none⟩), .bool true, .bool true, .string (bs (DS v p)), .int .i64 ((0 : Nat) : Int), .string (bs ([32, 33, 61, 32, 48])), .int .i64 ↑j, .slice J ((L.map (·.2.1)).length) I, .int .i64 ↑((L.map (·.2.1)).length), .bool true, .int .i64 ↑j, .int .i64 ↑(j + 1), .tuple #[.agg #[.int .i64 ↑u, .slice D p.length C], .bool true, .bool true], .agg #[.slice B v.length k, .slice G q.length z, .slice F r.length y, .int .i64 ↑n], .slice J ((L.map (·.2.1)).length) I, .int .i64 ↑j, .pointer (some ⟨Y, a4 + j * 1, none⟩), .int .i64 ↑u, .tuple #[.agg #[.int .i64 ↑u, .slice D p.length C], .bool true, .bool true], .agg #[.int .i64 ↑u, .slice D p.length C], .bool true, .bool true, .tuple #[.string (bs (DS v p)), .int .i64 ((0 : Nat) : Int)], .pointer (some ⟨aa, 1, none⟩), .slice D p.length C, .pointer (some ⟨X, 0, none⟩), .slice B v.length k, .tuple #[.string (bs (DS v p)), .int .i64 ((0 : Nat) : Int)], .string (bs (DS v p)), .int .i64 ((0 : Nat) : Int), .int .i64 ((0 : Nat) : Int), .bool false, CF f 34, .bool true, .string (bs T), .string (bs (T ++ ([10]))), .pointer (some ⟨aa, 0, none⟩), .int .i64 ↑u, .string (bs (txt ((u : Nat) : Int))), .string (bs ((T ++ ([10])) ++ (txt ((u : Nat) : Int)))), .string (bs (((T ++ ([10])) ++ (txt ((u : Nat) : Int))) ++ ([58, 32]))), .string (bs (DS v p)), .string (bs ((((T ++ ([10])) ++ (txt ((u : Nat) : Int))) ++ ([58, 32])) ++ (DS v p))), .string (bs ([32, 33, 61, 32, 48])), .string (bs (((((T ++ ([10])) ++ (txt ((u : Nat) : Int))) ++ ([58, 32])) ++ (DS v p)) ++ ([32, 33, 61, 32, 48])))], O, zE, O, ⟨by omega, by rw [JG a7, rP, U]; simp [PW, colB, pM, qX], by simp only [List.length_append, List.length_cons, List.length_nil]; unfold PW at a9; simp only [List.length_append] at a9; omega⟩⟩
end Go.Proofs.YtmppigbbkjepiaaGreatDoor
