/- Helping facts of Made32; no other conditions. -/
import Derived.Test.YtmppigbbkjepiaaGreatDoorMade6
namespace Go.Proofs.YtmppigbbkjepiaaGreatDoor
open Go.Proofs.Tryz
open Go.RowKit W
variable {ao : Option Addr} {b c cap i next z : Nat} {p : Prop} {vv : Value} {w w' : World}
theorem YTC (h : p := by exact fun hm => by have := hm.1; omega) : p := h
theorem Y4b (h : p := by exact fun h => by have := (E.2.2.1.1.lt h).1; omega) : p := h
theorem YfH (h : p := by have := R g hg; omega) : p := h
theorem YeH (h : p := by have := T g hg; omega) : p := h
theorem Ydm (h : p := by first | exact hS2r | exact hS2e _ hg | exact hS2n _ hg | exact (fun h => by have := hS2l _ h; omega) | exact (fun h => by have := hS2T _ h; omega)) : p := h
theorem ZjX (h : p := by
 refine yG ?_
 refine V O O (KQ O O O) ?_
 obtain ⟨S, ve, vn, hX, P, bd, T, R, _, b9⟩ := E.1
 refine yG ?_
 replace E := VI E
 have hSr : ¬ S I := fun h => Nat.lt_irrefl _ (P.set _ h).1
 have hSl := P.lt
 have hSe := P.eqs.own
 have hSn := P.neqs.own
 have a7 := P.apart
 obtain ⟨_, F, D, _, a8⟩ := P
 have hST2 : ∀ k, S k -> I < k := fun k h => (a8 k h).1
 obtain ⟨L, C, rfl⟩ := F.shp
 obtain ⟨J, B, rfl⟩ := D.shp
 obtain ⟨rb, U⟩ : ∃ n, n = I + 1 := ⟨_, rfl⟩
 rw [<- U] at F D
 have al := hX.lt
 replace E := (((E.sz (show rb <= w6.heap.size by omega)).x hX).a F hSl).a D hSl
 have bj := e8 E
 refine yG ?_
 replace E := dl8 E
 refine yG ?_
 refine EF O (BY OU O O O bj O O (CK O (CK (Acc.one E.2.1.1) (CK (Acc.one E.1.1) (CK O EK)))) ?_)
 intro eu dc cw
 replace E := oY E bj dc cw (ds := [.slice (some ⟨G, 0, none⟩) n n, .slice L q.length C, .slice J r.length B, .int .i64 ↑nx])
 have r1 := DA OU E.1 rfl
 refine yG ?_
 exact AQ (v := .agg #[.slice (some ⟨G, 0, none⟩) n n, .slice L q.length C, .slice J r.length B, .int .i64 ↑nx]) (by simp [results, results16, asAddr, r1]) O ⟨_, O, ⟨n, i, q, r, nx, by omega, by omega, hJ, _, _, _, O, (e6 E).1.mono (fun k hk => ⟨by have := hk.1; omega, (e6 E).2 k hk⟩), (E.2.2.1.1.row (fun k hk => ⟨by have := hST2 k hk; omega, E.2.2.1.2 k hk⟩) (fun g h3 h4 _ => ⟨by omega, h4⟩)), (E.2.1.1.row (fun k hk => ⟨by have := hST2 k hk; omega, E.2.1.2 k hk⟩) (fun g h3 h4 _ => ⟨by omega, h4⟩))⟩, UH E⟩
 ) : p := h
theorem rE (w : World) : (isAgg 5).run prog w = .ok false w := by simp [go_sem]
theorem D3 : Ag prog 44 3 [.int .u8 0, .slice none 0 0, .slice none 0 0] := ⟨⟨_, underlying44, rfl⟩, by kernel_rfl, rfl⟩
theorem Ax {P : Program} {ρ : Operand -> Value} {o : Oper} {T e sz len : Nat} {x y z : Operand} (ho : o.op = .slice T x none (some y) (some z)) (hT : P.underlying T = some (.slice e)) (hs : (P.info? e).map (·.size) = some sz) (hx : ρ x = .slice ao len cap) (hy : ρ y = .int .i64 ↑i) (hz : ρ z = .int .i64 ↑i) (hi : i <= cap) :
 (execOp ρ o).run P w = .ok (.value (.slice ao i i)) w := by
 unfold execOp; rw [ho]
 cases f : P.info? e with
 | none => simp [f] at hs
 | some inf =>
   simp [f] at hs
   simp [hx, hy, hz, Instr.sliceAt, Instr.slice, run_underlying hT, Instr.sliceBounds, Instr.sliceBound, asIntOf, sizeOf, typeInfo, f, hi, Addr.add]
theorem Kn {α : Type} {e : El α} {S : Nat -> Prop} {n : Nat} {l : List α} (h : IsR e S w (.slice ao n cap) l) (hi : i <= l.length) (hm : i <= maxLen) : IsR e S w (.slice ao i i) (l.take i) := by
 obtain ⟨q, o, f, u, t, p⟩ := h.take hi
 simp only [Value.slice.injEq] at f
 obtain ⟨rfl, k, rfl⟩ := f
 exact ⟨ao, i, by rw [<- k], by rw [<- k]; exact Nat.le_refl _, hm, p⟩
def SyAt (b z : Nat) (vv : Value) (q r : List En) (next : Nat) (w : World) : Prop := ∃ S ve vn, Bx w b 48 [vv, ve, vn, .int .i64 ↑next] /\ Two b S w (.slice none 0 0) ve vn [] q r /\ (∀ k, S k -> k < z) /\ (∀ g, ve.ownBlock = some g -> g < z) /\ (∀ g, vn.ownBlock = some g -> g < z) /\ b < z /\ z <= w.heap.size
theorem SyAt.below {q r : List En} (h : SyAt b z vv q r next w) (hb : Below w.heap.size w w') : SyAt b z vv q r next w' := by
 obtain ⟨S, f, e, v, u, t, p, o, l, k⟩ := h
 exact ⟨S, f, e, v.below hb, u.below hb, t, p, o, l, Nat.le_trans k hb.size⟩
theorem SyAt.onl {q r : List En} (h : SyAt b z vv q r next w) (hn : zX w c) (hc : c < b ∨ z <= c) (ho : Onl c w w') : SyAt b z vv q r next w' := by
 obtain ⟨S, o, l, F, e, v, u, t, D, C⟩ := h
 have f : ¬ S c := by intro g; have := (e.set c g).1; have := v c g; omega
 have B : o.ownBlock ≠ some c := fun g => by have := (e.eqs.lt g).1; have := u c g; omega
 have y : l.ownBlock ≠ some c := fun g => by have := (e.neqs.lt g).1; have := t c g; omega
 exact ⟨S, o, l, F.onl AA ho, ⟨e.vars.keep (Keep.onl hn ho f), e.eqs.onl e.lt hn B f ho, e.neqs.onl e.lt hn y f ho, e.apart, fun k p => ⟨(e.set k p).1, by rw [ho.size]; exact e.lt k p⟩⟩, v, u, t, D, by rw [ho.size]; exact C⟩
def fSy (b z : Nat) (vv : Value) (q r : List En) (next : Nat) : SF := ⟨fun w => SyAt b z vv q r next w, fun c => c < b ∨ z <= c, fun h hb => h.below hb, fun h hn ho hb => h.onl hn ho hb⟩
theorem okSy {q r : List En} (h : c < b ∨ z <= c) : (fSy b z vv q r next).ok c := h
theorem Env.sy {L : List SF} {q r : List En} (E : Env w L) (h : SyAt b z vv q r next w) : Env w (fSy b z vv q r next :: L) := ⟨h, E⟩
theorem Wl {q r : List En} (h : SyAt b z vv q r next w) : w.cell? ⟨b, 3, none⟩ = some (.int .i64 ↑next) := by
 obtain ⟨S, k, f, e, _⟩ := h
 rw [e.cell]; rfl
theorem Wm {q r : List En} (h : SyAt b z vv q r next w) : b < z := by
 obtain ⟨S, k, f, _, _, _, _, _, e, _⟩ := h
 exact e
theorem SyAt.lt {q r : List En} (h : SyAt b z vv q r next w) : b < w.heap.size := by
 obtain ⟨S, k, f, e, _⟩ := h
 exact e.lt
theorem SyAt.zero (h : Bx w b 48 [vv, .slice none 0 0, .slice none 0 0, .int .i64 ↑next]) (h1 : b < z) (h2 : z <= w.heap.size) : SyAt b z vv [] [] next w :=
 ⟨VH, _, _, h, ⟨IsR.nil _ _ _, Acc.nil _ _ _ _ _, Acc.nil _ _ _ _ _, fun g hg => by simp [Value.ownBlock] at hg, fun k hk => hk.elim⟩, fun k hk => hk.elim, fun g hg => by simp [Value.ownBlock] at hg, fun g hg => by simp [Value.ownBlock] at hg, h1, h2⟩
def NewMs (w0 w' : World) (v : Value) : Prop := ∃ n i q r next, n <= 3 /\ i <= 6 /\ MadeS n i q r next /\ NewSy w0 ⟨nm3.take n, q, r, next⟩ w' v
set_option maxRecDepth 100000 in
set_option maxHeartbeats 8000000 in
theorem Rh (n0 : Nat) (vl vy : Value) (l : List (List (List Int))) (y : List Nat) (w : World) (_hn0 : n0 < 256) (hRl : IsR Rx (CX w.heap.size) w vl l) (hRy : IsR Ry (CX w.heap.size) w vy y) :
 Calls prog 16 #[.agg #[.int .u8 ↑n0, vl, vy]] w (uN w (NewMs w)) := by
 have E := Env.start w
 obtain ⟨a2, H, rfl, fj, fa⟩ := hRl.shp
 obtain ⟨ab, X, rfl, fi, f9⟩ := hRy.shp
 replace E := (E.r hRl (DF _)).r hRy (DF _)
 obtain ⟨n, hn⟩ : ∃ n, n0 % 4 = n := ⟨_, rfl⟩
 have f8 : n <= 3 := by omega
 go_enter func16, ntmps16
 refine yG ?_
 refine EF O (CI (cs := [.int .u8 ↑n0, .slice a2 l.length H, .slice ab y.length X]) O O ?_)
 intro b1 w1 eh z1 d1 x1
 have l1 : w.heap.size <= b1 := by rw [eh]; exact E.2.2.1.size
 replace E := E.below d1
 replace E := E.x x1
 refine yG ?_
 refine EF O (CB OU O ?_)
 intro b2 w2 eg z2 d2 x2
 have en : b1 < b2 := by rw [eg]; exact Bx.lt E.1
 replace E := E.below d2
 replace E := E.x x2
 have ep : b2 < w2.heap.size := Bx.lt E.1
 have f6 : w.heap.size <= w2.heap.size := (e4 E).size
 refine yG ?_
 refine EF O (uT (s := [120]) (t := [121, 95, 49]) (u := [90, 101, 100]) O O O O ?_)
 intro G w3 ei z3 d3 x3
 have dr : IsR elS (EY w2.heap.size w3.heap.size) w3 (.slice (some ⟨G, 0, none⟩) nm3.length 3) nm3 := gK (l := nm3) x3 ⟨Nat.le_of_eq ei.symm, by omega⟩ AE
 replace E := ((E.below d3).sz (Nat.le_refl w3.heap.size)).r dr (fun _ g => g.2)
 refine yG ?_
 refine V O O (bG O O O) ?_
 refine V O O (CP O rE O (e3 E) O) ?_
 refine V (v := .int .u8 ↑n) O O (EC O O O AE ((KE n0 4).trans (by rw [hn]))) ?_
 refine V (v := .int .i64 ↑n) O O (DR O O (by rw [underlying5]; rfl) underlying3 (JP O AA)) ?_
 refine yG ?_
 refine V (v := .slice (some ⟨G, 0, none⟩) n n) O O (Ax (i := n) (sz := 1) O underlying30 Z O O O AA) ?_
 replace E := E.r (e := elS) (S := EY w2.heap.size w3.heap.size) (Kn (i := n) E.1.1 (show n <= nm3.length by show n <= 3; omega) (by unfold maxLen; omega)) (E.1.2)
 refine yG ?_
 refine V (v := .agg #[.slice (some ⟨G, 0, none⟩) n n, .slice none 0 0, .slice none 0 0, .int .i64 1]) O O (OI O O O) ?_
 refine yG ?_
 refine EF O (CB OU O ?_)
 intro I w4 c8 z4 d4 x4
 have em : b2 < I := by rw [c8]; exact Bx.lt (e3 E)
 have dk : w3.heap.size <= I := by rw [c8]; exact CR E.2.2.1
 replace E := E.below d4
 refine yG ?_
 refine EF O (BY OU O O O x4 O O (CK O (CK O (CK O (CK O EK)))) ?_)
 intro w5 o5 y5
 replace E := oY E x4 o5 y5 (ds := [.slice (some ⟨G, 0, none⟩) n n, .slice none 0 0, .slice none 0 0, .int .i64 1])
 have ay : SyAt I w5.heap.size (.slice (some ⟨G, 0, none⟩) n n) [] [] 1 w5 := SyAt.zero (next := 1) E.1 (Bx.lt E.1) (Nat.le_refl _)
 obtain ⟨z0, ba⟩ : ∃ z, z = w5.heap.size := ⟨_, rfl⟩
 rw [<- ba] at ay
 have ed : I < z0 := by rw [ba]; exact Bx.lt E.1
 replace E := ((GJ (GJ (GJ (Env.x (Env.x (GJ (GJ (Env.ww (Env.nil _) (e8 E)) (e7 E)) (e6 E)) (e5 E)) (e4 E)) (e3 E)) E.2.2.1) E.2.1).sz (Nat.le_of_eq ba)).sy ay
 refine yG ?_
 refine wp_loop_ghost (fun mz a w' => ∃ (i : Nat) (z : Nat) (nx : Nat) (q : List En) (r : List En) (ao : List Value), ao = a.tmps.toList /\ a = ⟨(.agg #[.int .u8 ↑n0, .slice a2 l.length H, .slice ab y.length X] :: .pointer (some ⟨b1, 0, none⟩) :: .pointer (some ⟨b2, 0, none⟩) :: .slice (some ⟨G, 0, none⟩) nm3.length 3 :: .int .i64 ↑n :: .pointer (some ⟨I, 0, none⟩) :: .int .i64 ↑i :: (CF ao 7) :: (CF ao 8) :: .slice (some ⟨G, 0, none⟩) nm3.length 3 :: .pointer (some ⟨b1, 0, none⟩) :: .int .u8 ↑n0 :: .int .u8 ↑n :: .int .i64 ↑n :: .slice (some ⟨G, 0, none⟩) nm3.length 3 :: .int .i64 ↑n :: .int .i64 ↑n :: .slice (some ⟨G, 0, none⟩) n n :: .agg #[.slice (some ⟨G, 0, none⟩) n n, .slice none 0 0, .slice none 0 0, .int .i64 1] :: gr ao 19 58 []).toArray, []⟩ /\ Env w' [fSy I z (.slice (some ⟨G, 0, none⟩) n n) q r nx, rO z, fR elS (EY w2.heap.size w3.heap.size) (.slice (some ⟨G, 0, none⟩) n n) (nm3.take n), fR elS (EY w2.heap.size w3.heap.size) (.slice (some ⟨G, 0, none⟩) nm3.length 3) nm3, rO w3.heap.size, fX b2 (48) ([.slice none 0 0, .slice none 0 0, .slice none 0 0, .int .i64 0]), fX b1 (44) ([.int .u8 ↑n0, .slice a2 l.length H, .slice ab y.length X]), fR Ry (CX w.heap.size) (.slice ab y.length X) y, fR Rx (CX w.heap.size) (.slice a2 l.length H) l, fW w] /\ mz = 6 - i /\ (i <= 6 /\ i <= l.length /\ MadeS n i q r nx)) (6) ⟨0, z0, 1, [], [], _, O, O, zE, O, ⟨Nat.zero_le _, Nat.zero_le _, Jg n⟩⟩ ?_
 rintro m6 _ w6 ⟨i, z, nx, q, r, ao, -, rfl, E, c2, ee⟩
 dsimp only [gr, Nat.reduceAdd]
 obtain ⟨ff, fe, hJ⟩ := ee
 have fd := hJ.len
 have fc := hJ.hi
 have fb := hJ.lo
 by_cases dx : i < l.length
 case neg =>
  exact ZjX
 by_cases fh : i < 6
 case neg =>
  exact ZjX
 refine yG ?_
 refine V O O (KQ O O O) ?_
 refine V O O (CP O YU O (e6 E) O) ?_
 refine V (v := .int .i64 ((l.length : Nat) : Int)) O O (Mm (n := l.length) O underlying41 O) ?_
 try simp only [q2,q3]
 refine V O O (JH (c := true) O O O (by rw [decide_eq_true_eq]; omega)) ?_
 refine M O O O O O ?_
 refine M (by kernel_rfl) O O O O ?_
 refine V (by kernel_rfl) O (JH (c := true) O O O (by rw [decide_eq_true_eq]; omega)) ?_
 try simp only [q2,q3]
 refine V (v := .bool true) O O (Mi (b := true) O O O) ?_
 try simp only [q2,q3]
 refine WN ?_
 change Code.wp _ _ _ _ _
 refine wp_cond_true O ?_
 refine wp_skip ?_
 change Code.wp _ _ _ _ _
 refine wp_seq ?_
 refine wp_block ?_
 refine wp_seq ?_
 refine RL ?_
 refine AC O O O O ?_
 try simp only [q2,q3]
 refine WN ?_
 change Code.wp _ _ _ _ _
 refine wp_seq ?_
 refine Xt (fun a w' => ∃ (N : Nat) (gc : List Value), gc = a.tmps.toList /\ a = ⟨(.agg #[.int .u8 ↑n0, .slice a2 l.length H, .slice ab y.length X] :: .pointer (some ⟨b1, 0, none⟩) :: .pointer (some ⟨b2, 0, none⟩) :: .slice (some ⟨G, 0, none⟩) nm3.length 3 :: .int .i64 ↑n :: .pointer (some ⟨I, 0, none⟩) :: .int .i64 ↑i :: .int .i64 ↑N :: (CF gc 8) :: .slice (some ⟨G, 0, none⟩) nm3.length 3 :: .pointer (some ⟨b1, 0, none⟩) :: .int .u8 ↑n0 :: .int .u8 ↑n :: .int .i64 ↑n :: .slice (some ⟨G, 0, none⟩) nm3.length 3 :: .int .i64 ↑n :: .int .i64 ↑n :: .slice (some ⟨G, 0, none⟩) n n :: .agg #[.slice (some ⟨G, 0, none⟩) n n, .slice none 0 0, .slice none 0 0, .int .i64 1] :: .int .i64 ↑i :: .pointer (some ⟨b1, 1, none⟩) :: .slice a2 l.length H :: .int .i64 ↑l.length :: .bool true :: .bool true :: .int .i64 ↑i :: .bool true :: .bool true :: gr gc 28 49 []).toArray, []⟩ /\ N <= 3 /\ Env w' [fSy I z (.slice (some ⟨G, 0, none⟩) n n) q r nx, rO z, fR elS (EY w2.heap.size w3.heap.size) (.slice (some ⟨G, 0, none⟩) n n) (nm3.take n), fR elS (EY w2.heap.size w3.heap.size) (.slice (some ⟨G, 0, none⟩) nm3.length 3) nm3, rO w3.heap.size, fX b2 (48) ([.slice none 0 0, .slice none 0 0, .slice none 0 0, .int .i64 0]), fX b1 (44) ([.int .u8 ↑n0, .slice a2 l.length H, .slice ab y.length X]), fR Ry (CX w.heap.size) (.slice ab y.length X) y, fR Rx (CX w.heap.size) (.slice a2 l.length H) l, fW w]) ?_ ?_
 case refine_1 =>
  by_cases dq : 0 < y.length
  case neg =>
   refine yG ?_
   refine V O O (KP O O O) ?_
   refine yG ?_
   exact ⟨0, _, O, rfl, AA, zE⟩
  refine yG ?_
  refine V O O (KP O O O) ?_
  obtain ⟨j, hj⟩ : ∃ j, j = i % y.length := ⟨_, rfl⟩
  have dw : j < y.length := by rw [hj]; exact Nat.mod_lt _ dq
  obtain ⟨xB, c0⟩ : ∃ x, y[j]? = some x := ⟨_, List.getElem?_eq_getElem dw⟩
  obtain ⟨b8, db, _, ec, c6, ea, ⟨rfl, f7⟩⟩ := IsR.at (e7 E).1 c0
  have dv : b8 < _ := (e7 E).2 _ c6
  have fl : b8 < w.heap.size := c6
  replace E := E.c ea dv
  obtain ⟨N, dy⟩ : ∃ g : Nat, xB % 4 = g := ⟨_, rfl⟩
  have eo : N <= 3 := by omega
  refine yG ?_
  refine sE E [0,1,2,3,4,5,6,7,8,9,10,11] ?_
  replace E := E.drew
  refine SW O O O O O (fun w hS => KP O O O) ?_
  refine yG ?_
  refine SW O O O O O (fun w hS => KP O O O) ?_
  refine yG ?_
  refine SW (v := .int .i64 ↑j) O O O O O (fun w hS => EC O O O AA ((KE i y.length).trans (by rw [hj]))) ?_
  refine SW (v := .pointer (some ⟨b8, db + j * 1, none⟩)) O O O O O (fun w hS => MG (i := j) O underlying42 Z O ec O O (List.getElem?_eq_some_iff.1 c0).1) ?_
  refine yG ?_
  refine SW O O O O O (fun w hS => FX O rE O ((hS.1).1 0 _ O)) ?_
  refine SW (v := .int .u8 ↑N) O O O O O (fun w hS => EC O O O AE ((KE xB 4).trans (by rw [dy]))) ?_
  refine SW (v := .int .i64 ↑N) O O O O O (fun w hS => DR O O (by rw [underlying5]; rfl) underlying3 (JP O AA)) ?_
  refine yG ?_
  exact ⟨N, _, O, rfl, AA, zE⟩
 case refine_2 =>
  rintro _ w7 ⟨N, gc, -, rfl, az, E⟩
  dsimp only [gr, Nat.reduceAdd]
  obtain ⟨xW, bx⟩ : ∃ x, l[i]? = some x := ⟨_, List.getElem?_eq_getElem dx⟩
  obtain ⟨b7, da, _, eb, c5, dz, ⟨_, rfl, c1⟩⟩ := IsR.at (e8 E).1 bx
  obtain ⟨el, ca, rfl, _, _⟩ := c1.shp
  have du : b7 < _ := (e8 E).2 _ c5
  have fk : b7 < w.heap.size := c5
  replace E := (E.r c1 (e8 E).2).c dz du
  have f5 : z <= w7.heap.size := CR (e3 E)
  have ed := Wm E.2.2.1
  have cp : z <= w7.heap.size := CR (e3 E)
  have co : w3.heap.size <= w7.heap.size := CR (e6 E)
  have cu : b2 < w7.heap.size := Bx.lt (e7 E)
  have ct : b1 < w7.heap.size := Bx.lt (e8 E)
  have cv : w.heap.size <= w7.heap.size := (RJ E).size
  refine yG ?_
  refine MV E [.op 0, .op 1, .op 2, .op 3, .op 4, .op 5, .op 6, .op 7, .op 8, .op 9, .av 12, .op 10, .op 11, .op 12] 1 (#[true, true, true, true, true, true, true, true, true, true, true, true, true, false]) Z Z Z Z AF AF ?_
  refine FP (v := .pointer (some ⟨I, 3, none⟩)) O O O O O (fun w hS => TA O O O) ?_
  refine FP (v := .int .i64 ↑nx) O O O O O (fun w hS => FX O CW O (Wl (hS.2.2.1))) ?_
  refine FP (v := .int .i64 ↑N) O O O O O (fun w hS => EV O O) ?_
  refine FP (v := .int .i64 ↑(nx + N)) O O O O O (fun w hS => IY O O O (JP AA AA)) ?_
  refine yG ?_
  refine FP (v := .pointer (some ⟨b1, 1, none⟩)) O O O O O (fun w hS => KQ O O O) ?_
  refine FP (v := .slice a2 l.length H) O O O O O (fun w hS => CP O YU O (e8 hS) O) ?_
  refine FP (v := .int .i64 ↑i) O O O O O (fun w hS => EV O O) ?_
  refine FP (v := .pointer (some ⟨b7, da + i * 1, none⟩)) O O O O O (fun w hS => MG (i := i) O underlying41 Z O eb O O (List.getElem?_eq_some_iff.1 bx).1) ?_
  refine yG ?_
  refine FP (v := .agg #[.slice el xW.length ca]) O O O O O (fun w hS => CD Xr O O ((hS.1).1) O) ?_
  refine FP (v := .int .i64 ↑n) O O O O O (fun w hS => EV O O) ?_
  refine FA _ (RunF.alloc NH O O O) ?_
  have c4 : b2 < w7.heap.size := Bx.lt (e7 E)
  have c3 : b1 < w7.heap.size := Bx.lt (e8 E)
  have dn : w.heap.size <= w7.heap.size := (RJ E).size
  refine yG ?_
  refine FE O O O O ?_
  intro a3 E
  have dp : w.heap.size <= a3.heap.size := (RJ E).size
  have bw : z <= a3.heap.size := CR (e3 E)
  have bv : w3.heap.size <= a3.heap.size := CR (e6 E)
  have bu : b2 < a3.heap.size := Bx.lt (e7 E)
  have bt : b1 < a3.heap.size := Bx.lt (e8 E)
  refine CZ YY O (Gx _ xW n 2 3 _ (BW E.2.1) AA AE AE) O E ?_
  intro ae f3 c9 ef E
  have et := c9.size
  replace E := E.sz (Nat.le_refl ae.heap.size)
  obtain ⟨p, c7, b0⟩ := ef
  obtain ⟨a1, a0, rfl, dt, _⟩ := b0.shp
  replace E := E.r (e := JL) (S := EY a3.heap.size ae.heap.size) b0 (fun _ g => g.2)
  refine kF2 c9 E O ?_
  refine FP (v := .agg #[.int .i64 ↑(nx + N), .slice a1 p.length a0]) O O O O O (fun w hS => TC O O O) ?_
  refine yG ?_
  refine FF O O ?_
  intro bg fm d9
  have f4 : w.heap.size <= bg := by omega
  simp only [List.mem_append, List.mem_range'_1, not_or, List.not_mem_nil, not_false_eq_true, true_and] at d9
  refine yG ?_
  intro f2 E
  refine H1 (i := 13) Z ?_
  have bp := E.1
  replace E := VI E
  refine HE (o := ⟨none, _, _, _, _, _⟩) O O (BY NH O O O bp O O (CK O (CK O EK)) ?_)
  intro Y dj d6
  replace E := oY E bp dj d6 (ds := [.int .i64 ↑(nx + N), .slice a1 p.length a0])
  refine ⟨E.2.2.2, ?_⟩
  refine yG ?_
  refine HN Z ?_
  by_cases fg : i % 3 = 2
  case neg =>
   refine yG ?_
   refine V (v := .int .i64 ↑(i % 3)) O O (EC O O O AE (KE i 3)) ?_
   obtain ⟨S, ve, vn, hX, P, bd, T, R, _, b9⟩ := e5 E
   refine yG ?_
   replace E := dl5 E
   have hSr : ¬ S I := fun h => Nat.lt_irrefl _ (P.set _ h).1
   have hSl := P.lt
   have hSe := P.eqs.own
   have hSn := P.neqs.own
   have a7 := P.apart
   obtain ⟨_, F, D, _, a8⟩ := P
   have hST2 : ∀ k, S k -> I < k := fun k h => (a8 k h).1
   obtain ⟨L, C, rfl⟩ := F.shp
   obtain ⟨J, B, rfl⟩ := D.shp
   obtain ⟨rb, U⟩ : ∃ n, n = I + 1 := ⟨_, rfl⟩
   rw [<- U] at F D
   have al := hX.lt
   replace E := (((E.sz (show rb <= Y.heap.size by omega)).x hX).a F hSl).a D hSl
   obtain ⟨S2, Q⟩ : ∃ f, f = (fun k => S k ∨ EY a3.heap.size ae.heap.size k) := ⟨_, rfl⟩
   have an : Acc MS 83 rb S2 Y (.slice L q.length C) q := by rw [Q]; exact E.2.1.1.mono (fun _ => .inl) (fun g hg hs => hs.elim (hSe g hg) (fun hm => by have := T g hg; have := hm.1; omega))
   have am : Acc MS 83 rb S2 Y (.slice J r.length B) r := by rw [Q]; exact E.1.1.mono (fun _ => .inl) (fun g hg hs => hs.elim (hSn g hg) (fun hm => by have := R g hg; have := hm.1; omega))
   have bf : IsR JL S2 Y (.slice a1 p.length a0) p := by rw [Q]; exact (e5 E).1.mono (fun _ => .inr)
   have hS2r : ¬ S2 I := by rw [Q]; exact fun h => h.elim hSr YTC
   have hS2l : ∀ k, S2 k -> k < Y.heap.size := by rw [Q]; exact fun k h => h.elim (fun g => E.2.1.2 k g) (fun hm => (e5 E).2 k hm)
   have hS2T : ∀ k, S2 k -> I < k := by rw [Q]; exact fun k h => h.elim (fun g => hST2 k g) YTC
   have hS2e := an.own
   have hS2n := am.own
   replace E := (((((Env.x (GJ (Env.x (GJ (GJ (GJ (GJ (GJ (GJ (GJ (Env.x (Env.x (GJ (GJ (Env.ww (Env.nil _) (Xl E)) (e16 E)) (Xm E)) (iI E)) (WP E)) (UH E)) (RJ E)) (RA E)) (e9 E)) (e8 E)) (e7 E)) (e6 E)) (e4 E)) (e3 E)) E.2.2.1)).r bf hS2l)).a an hS2l).a am hS2l
   refine yG ?_
   refine EF O (DZ (cs := [.int .i64 ↑(nx + N), .slice a1 p.length a0]) underlying46 NH O AE AE O O ?_)
   intro a9 ey a4 er ej d7
   have cc : ((.slice J r.length B) : Value).ownBlock ≠ some a9 := fun h => by have := (Acc.lt E.1.1 h).2; omega
   have cb : ((.slice L q.length C) : Value).ownBlock ≠ some a9 := fun h => by have := (Acc.lt E.2.1.1 h).2; omega
   have dl : bg < a9 := by rw [a4]; exact Bx.lt (e5 E)
   have ci : rb <= a9 := by rw [a4]; exact CR (e4 E)
   have ch : ae.heap.size <= a9 := by rw [a4]; exact CR (e6 E)
   have cg : z <= a9 := by rw [a4]; exact CR (e9 E)
   have cf : w3.heap.size <= a9 := by rw [a4]; exact CR (UH E)
   replace E := E.below ej
   replace E := E.x d7
   have ac := E.2.2.1
   have bq := Acc.nw ac.1
   refine yG ?_
   replace E := kB E
   have bb := fun g hg => (E.2.1.1.lt (g := g) hg).2
   have cq := ac.1.own
   refine EF O (RW (x := (nx + N, p)) Wr O (l := q) O ac.1 ac.2 E (fun g hg h1 h2 => ⟨CT YeH, NK (fun h => a7 g hg h) Ydm, DP Ydm, CT YeH, BX, CT YeH, BX, QU AA, DP (CJ AA), BX, DP (NG YeH), DP (NG YeH), BX, CT YeH, CT YeH, DP (CJ AA), DP (CJ AA), IK AA, BX⟩) O E.1 (⟨_, O, E.2.2.1.1⟩) (by unfold maxLen; omega) AA (CR (e4 E)) ?_)
   intro af ex ap E
   have ar : ∀ g, (af : Value).ownBlock = some g -> ((.slice J r.length B) : Value).ownBlock = some g -> False := fun g h1 h2 => ap g (bb g h2) (fun h3 => a7 g h3 h2) h1
   have hS2e := E.1.1.own
   have ah : ∀ g, (af : Value).ownBlock = some g -> g ≠ I := fun g hg => by have := (E.1.1.lt hg).1; omega
   have bm := e4 E
   refine yG ?_
   replace E := rR E
   refine yG ?_
   refine EF O (CG (v := af) O Z (Acc.one E.1.1) O O bm AH ?_)
   intro ew dg cz
   replace E := (E.onl (bm.noW (CL AH (CL bq (CL (Acc.nw E.2.2.1.1) (CL AH EE))))) ⟨NK (fun h => ah _ h rfl) Ydm, CT AA, NK Y4b Ydm, DP Ydm, BX, CT AA, BX, QU AA, DP (CJ AA), BX, DP (NG AA), DP (NG AA), BX, CT AA, CT AA, DP (CJ AA), DP (CJ AA), IK AA, BX⟩ dg).x (cs := [.slice (some ⟨G, 0, none⟩) n n, af, .slice J r.length B, .int .i64 ↑nx]) cz
   have bl := E.1
   refine yG ?_
   replace E := VI E
   refine yG ?_
   refine EF O (CG (v := .int .i64 ↑(nx + N + 1)) O Z O O O bl AH ?_)
   intro b5 de cy
   replace E := (E.onl (bl.noW (CL AH (CL (Acc.nw E.1.1) (CL (Acc.nw E.2.2.1.1) (CL AH EE))))) ⟨NK (fun h => ah _ h rfl) Ydm, CT AA, NK Y4b Ydm, DP Ydm, BX, CT AA, BX, QU AA, DP (CJ AA), BX, DP (NG AA), DP (NG AA), BX, CT AA, CT AA, DP (CJ AA), DP (CJ AA), IK AA, BX⟩ de).x (cs := [.slice (some ⟨G, 0, none⟩) n n, af, .slice J r.length B, .int .i64 ↑(nx + N + 1)]) cy
   have aj : SyAt I b5.heap.size (.slice (some ⟨G, 0, none⟩) n n) (q ++ [(nx + N, p)]) r (nx + N + 1) b5 := ⟨S2, _, _, E.1, ⟨IsR.nil _ _ _, by rw [<- U]; exact E.2.1.1, by rw [<- U]; exact (e3 E).1, ar, fun k h => ⟨(hS2T k h), E.2.1.2 k h⟩⟩, fun k h => E.2.1.2 k h, fun g hg => (E.2.1.1.lt hg).2, fun g hg => ((e3 E).1.lt hg).2, Bx.lt E.1, Nat.le_refl _⟩
   obtain ⟨bh, aw⟩ : ∃ z, z = b5.heap.size := ⟨_, rfl⟩
   rw [<- aw] at aj
   refine yG ?_
   replace E := (E.sz (Nat.le_of_eq aw)).sy aj
   exact ⟨_, (by rw [c2]; omega), (i + 1), bh, (nx + N + 1), (q ++ [(nx + N, p)]), r, _, O, O, zE, O, ⟨by omega, by omega, hJ.eq az c7⟩⟩
  refine yG ?_
  refine V (v := .int .i64 ↑(i % 3)) O O (EC O O O AE (KE i 3)) ?_
  obtain ⟨S, ve, vn, hX, P, bd, T, R, _, b9⟩ := e5 E
  refine yG ?_
  replace E := dl5 E
  have hSr : ¬ S I := fun h => Nat.lt_irrefl _ (P.set _ h).1
  have hSl := P.lt
  have hSe := P.eqs.own
  have hSn := P.neqs.own
  have a7 := P.apart
  obtain ⟨_, F, D, _, a8⟩ := P
  have hST2 : ∀ k, S k -> I < k := fun k h => (a8 k h).1
  obtain ⟨L, C, rfl⟩ := F.shp
  obtain ⟨J, B, rfl⟩ := D.shp
  obtain ⟨rb, U⟩ : ∃ n, n = I + 1 := ⟨_, rfl⟩
  rw [<- U] at F D
  have al := hX.lt
  replace E := (((E.sz (show rb <= Y.heap.size by omega)).x hX).a F hSl).a D hSl
  obtain ⟨S2, Q⟩ : ∃ f, f = (fun k => S k ∨ EY a3.heap.size ae.heap.size k) := ⟨_, rfl⟩
  have an : Acc MS 83 rb S2 Y (.slice L q.length C) q := by rw [Q]; exact E.2.1.1.mono (fun _ => .inl) (fun g hg hs => hs.elim (hSe g hg) (fun hm => by have := T g hg; have := hm.1; omega))
  have am : Acc MS 83 rb S2 Y (.slice J r.length B) r := by rw [Q]; exact E.1.1.mono (fun _ => .inl) (fun g hg hs => hs.elim (hSn g hg) (fun hm => by have := R g hg; have := hm.1; omega))
  have bf : IsR JL S2 Y (.slice a1 p.length a0) p := by rw [Q]; exact (e5 E).1.mono (fun _ => .inr)
  have hS2r : ¬ S2 I := by rw [Q]; exact fun h => h.elim hSr YTC
  have hS2l : ∀ k, S2 k -> k < Y.heap.size := by rw [Q]; exact fun k h => h.elim (fun g => E.2.1.2 k g) (fun hm => (e5 E).2 k hm)
  have hS2T : ∀ k, S2 k -> I < k := by rw [Q]; exact fun k h => h.elim (fun g => hST2 k g) YTC
  have hS2e := an.own
  have hS2n := am.own
  replace E := (((((Env.x (GJ (Env.x (GJ (GJ (GJ (GJ (GJ (GJ (GJ (Env.x (Env.x (GJ (GJ (Env.ww (Env.nil _) (Xl E)) (e16 E)) (Xm E)) (iI E)) (WP E)) (UH E)) (RJ E)) (RA E)) (e9 E)) (e8 E)) (e7 E)) (e6 E)) (e4 E)) (e3 E)) E.2.2.1)).r bf hS2l)).a an hS2l).a am hS2l
  refine yG ?_
  refine EF O (DZ (cs := [.int .i64 ↑(nx + N), .slice a1 p.length a0]) underlying46 NH O AE AE O O ?_)
  intro aa f1 a6 es ek d8
  have ce : ((.slice J r.length B) : Value).ownBlock ≠ some aa := fun h => by have := (Acc.lt E.1.1 h).2; omega
  have cd : ((.slice L q.length C) : Value).ownBlock ≠ some aa := fun h => by have := (Acc.lt E.2.1.1 h).2; omega
  have dm : bg < aa := by rw [a6]; exact Bx.lt (e5 E)
  have cn : rb <= aa := by rw [a6]; exact CR (e4 E)
  have cm : ae.heap.size <= aa := by rw [a6]; exact CR (e6 E)
  have ck : z <= aa := by rw [a6]; exact CR (e9 E)
  have cj : w3.heap.size <= aa := by rw [a6]; exact CR (UH E)
  replace E := E.below ek
  replace E := E.x d8
  have ad := E.2.1
  have br := Acc.nw ad.1
  refine yG ?_
  replace E := XS E
  have bc := fun g hg => (E.2.1.1.lt (g := g) hg).2
  have cr := ad.1.own
  refine EF O (RW (x := (nx + N, p)) Wr O (l := r) O ad.1 ad.2 E (fun g hg h1 h2 => ⟨CT YfH, NK (fun h => (fun g h1 h2 => a7 g h2 h1) g hg h) Ydm, DP Ydm, CT YfH, BX, CT YfH, BX, QU AA, DP (CJ AA), BX, DP (NG YfH), DP (NG YfH), BX, CT YfH, CT YfH, DP (CJ AA), DP (CJ AA), IK AA, BX⟩) O E.1 (⟨_, O, E.2.2.1.1⟩) (by unfold maxLen; omega) AA (CR (e4 E)) ?_)
  intro ag f0 aq E
  have au : ∀ g, (ag : Value).ownBlock = some g -> ((.slice L q.length C) : Value).ownBlock = some g -> False := fun g h1 h2 => aq g (bc g h2) (fun h3 => (fun g h1 h2 => a7 g h2 h1) g h3 h2) h1
  have hS2n := E.1.1.own
  have ai : ∀ g, (ag : Value).ownBlock = some g -> g ≠ I := fun g hg => by have := (E.1.1.lt hg).1; omega
  have bo := e4 E
  refine yG ?_
  replace E := rR E
  refine yG ?_
  refine EF O (CG (v := ag) O Z (Acc.one E.1.1) O O bo AH ?_)
  intro ez di d5
  replace E := (E.onl (bo.noW (CL AH (CL (Acc.nw E.2.2.1.1) (CL br (CL AH EE))))) ⟨NK (fun h => ai _ h rfl) Ydm, CT AA, NK Y4b Ydm, DP Ydm, BX, CT AA, BX, QU AA, DP (CJ AA), BX, DP (NG AA), DP (NG AA), BX, CT AA, CT AA, DP (CJ AA), DP (CJ AA), IK AA, BX⟩ di).x (cs := [.slice (some ⟨G, 0, none⟩) n n, .slice L q.length C, ag, .int .i64 ↑nx]) d5
  have bn := E.1
  refine yG ?_
  replace E := VI E
  refine yG ?_
  refine EF O (CG (v := .int .i64 ↑(nx + N + 1)) O Z O O O bn AH ?_)
  intro b6 dh d0
  replace E := (E.onl (bn.noW (CL AH (CL (Acc.nw E.2.2.1.1) (CL (Acc.nw E.1.1) (CL AH EE))))) ⟨NK (fun h => ai _ h rfl) Ydm, CT AA, NK Y4b Ydm, DP Ydm, BX, CT AA, BX, QU AA, DP (CJ AA), BX, DP (NG AA), DP (NG AA), BX, CT AA, CT AA, DP (CJ AA), DP (CJ AA), IK AA, BX⟩ dh).x (cs := [.slice (some ⟨G, 0, none⟩) n n, .slice L q.length C, ag, .int .i64 ↑(nx + N + 1)]) d0
  have ak : SyAt I b6.heap.size (.slice (some ⟨G, 0, none⟩) n n) q (r ++ [(nx + N, p)]) (nx + N + 1) b6 := ⟨S2, _, _, E.1, ⟨IsR.nil _ _ _, by rw [<- U]; exact (e3 E).1, by rw [<- U]; exact E.2.1.1, (fun g h1 h2 => au g h2 h1), fun k h => ⟨(hS2T k h), (e3 E).2 k h⟩⟩, fun k h => (e3 E).2 k h, fun g hg => ((e3 E).1.lt hg).2, fun g hg => (E.2.1.1.lt hg).2, Bx.lt E.1, Nat.le_refl _⟩
  obtain ⟨bi, ax⟩ : ∃ z, z = b6.heap.size := ⟨_, rfl⟩
  rw [<- ax] at ak
  refine yG ?_
  replace E := (E.sz (Nat.le_of_eq ax)).sy ak
  exact ⟨_, (by rw [c2]; omega), (i + 1), bi, (nx + N + 1), q, (r ++ [(nx + N, p)]), _, O, O, zE, O, ⟨by omega, by omega, hJ.neq az c7⟩⟩
end Go.Proofs.YtmppigbbkjepiaaGreatDoor
