/- Helping facts of RParse; no other conditions. -/
import Derived.Test.YtmppigbbkjepiaaGreatDoorRPc
namespace Go.Proofs.YtmppigbbkjepiaaGreatDoor
open Go.Proofs.Tryz
open Go.RowKit W
variable {p : Prop}
theorem YlH (h : p := by exact fun hm => by have := hm.1; omega) : p := h
theorem Yy6 (h : p := by have := a3 g hg; omega) : p := h
theorem Yvj (h : p := by have := a4 g hg; omega) : p := h
theorem Ykx (h : p := by simp [results, results28, asAddr, r1]) : p := h
theorem YXy (h : p := by first | exact hS2r | exact hS2e _ hg | exact hS2n _ hg | exact (fun h => by have := hS2l _ h; omega) | exact (fun h => by have := hS2T _ h; omega)) : p := h
theorem ZXB (h : p := by
 have d2 := RC E
 refine yG ?_
 replace E := NQ (NQ QP) E
 refine yG ?_
 refine EF O (BY JK O O O d2 O O (CG O (CG O (CG O (CG O DP)))) ?_)
 intro hz g4 f7
 replace E := oY E d2 g4 f7 (ds := [.slice none 0 0, .slice none 0 0, .slice none 0 0, .int .i64 0])
 have r1 := CL JK E.1 rfl
 refine yG ?_
 exact AQ (v := .tuple #[.agg #[.slice none 0 0, .slice none 0 0, .slice none 0 0, .int .i64 0], .int .i64 ↑(i + 1), .int .i64 440]) Ykx O (OH (n := i + 1) (e := 440) (cQ a6 a2 (Ac hJ D au (of_decide_eq_true a7.symm) hJ.z)) (NewSy.zero _ _) (WE E))
 ) : p := h
theorem Z2a (h : p := by
 have cq := e9 E
 refine yG ?_
 replace E := Wb E
 refine yG ?_
 refine EF O (BY JK O O O cq O O (CG O (CG O (CG O (CG O DP)))) ?_)
 intro hk ft ew
 replace E := oY E cq ft ew (ds := [.slice none 0 0, .slice none 0 0, .slice none 0 0, .int .i64 0])
 have r1 := CL JK E.1 rfl
 refine yG ?_
 exact AQ (v := .tuple #[.agg #[.slice none 0 0, .slice none 0 0, .slice none 0 0, .int .i64 0], .int .i64 ↑(i + 1), .int .i64 440]) Ykx O (OH (n := i + 1) (e := 440) (cQ a6 a2 (Ac hJ D au (of_decide_eq_true a7.symm) hJ.z)) (NewSy.zero _ _) (RD E))
 ) : p := h
theorem ZhD (h : p := by
 have cx := XX E
 refine yG ?_
 replace E := NQ (NQ qC) E
 refine yG ?_
 refine EF O (BY JK O O O cx O O (CG O (CG O (CG O (CG O DP)))) ?_)
 intro hu fz f2
 replace E := oY E cx fz f2 (ds := [.slice none 0 0, .slice none 0 0, .slice none 0 0, .int .i64 0])
 have r1 := CL JK E.1 rfl
 refine yG ?_
 exact AQ (v := .tuple #[.agg #[.slice none 0 0, .slice none 0 0, .slice none 0 0, .int .i64 0], .int .i64 ↑(i + 1), .int .i64 440]) Ykx O (OH (n := i + 1) (e := 440) (cQ a6 a2 (Gv hJ D au ae a7 hP he (Rt bo))) (NewSy.zero _ _) (lB E))
 ) : p := h
set_option maxRecDepth 100000 in
set_option maxHeartbeats 8000000 in
theorem Xg (t : Bs) (w : World) :
 Calls prog 28 #[.string (bs t)] w (Hv w (HO t)) := by
 have E := Env.start w
 go_enter func28, ntmps28
 refine yG ?_
 refine EF O (BZ JK O ?_)
 intro b1 w1 gy z1 d1 x1
 have l1 : w.heap.size <= b1 := by rw [gy]; exact E.1.size
 replace E := E.below d1
 replace E := E.x x1
 by_cases a6 : 100000 < t.length
 case pos =>
  have x3 := E.1
  refine yG ?_
  replace E := YE E
  refine yG ?_
  refine EF O (BY JK O O O x3 O O (CG O (CG O (CG O (CG O DP)))) ?_)
  intro w2 o2 y2
  replace E := oY E x3 o2 y2 (ds := [.slice none 0 0, .slice none 0 0, .slice none 0 0, .int .i64 0])
  have r1 := CL JK E.1 rfl
  refine yG ?_
  exact AQ (v := .tuple #[.agg #[.slice none 0 0, .slice none 0 0, .slice none 0 0, .int .i64 0], .int .i64 0, .int .i64 2]) Ykx O (OH (n := 0) (e := 2) (Fi a6) (NewSy.zero _ _) E.2.1)
 obtain ⟨C, a2⟩ : ∃ l, DI 10 t = l := ⟨_, rfl⟩
 have gi := PP 10 t
 have dk := bN 10 t
 rw [a2] at gi dk
 have eo : b1 < w1.heap.size := Bx.lt E.1
 have h6 : w.heap.size <= w1.heap.size := E.2.1.size
 refine yG ?_
 refine EF O (DE KG O ((by have b4 := Mt t w1 AA; rw [a2] at b4; exact b4)) O E ?_)
 intro w5 v5 d5 f5 E
 have z5 := d5.size
 replace E := E.sz (Nat.le_refl w5.heap.size)
 obtain ⟨R, Q, rfl, h8, _⟩ := f5.shp
 replace E := E.r (e := elS) (S := EM w1.heap.size w5.heap.size) f5 (fun _ g => g.2)
 refine yG ?_
 refine EF O (BZ JK O ?_)
 intro J w6 dx z6 d6 x6
 have h5 : b1 < J := by rw [dx]; exact Bx.lt E.2.2.1
 have g9 : w5.heap.size <= J := by rw [dx]; exact CS E.2.1
 replace E := E.below d6
 refine yG ?_
 refine EF O (BY JK O O O x6 O O (CG O (CG O (CG O (CG O DP)))) ?_)
 intro w7 o7 y7
 replace E := oY E x6 o7 y7 (ds := [.slice none 0 0, .slice none 0 0, .slice none 0 0, .int .i64 0])
 refine yG ?_
 refine V (v := .int .i64 ↑(C.length - 1)) O O (FM O O O (NC AA AA)) ?_
 have bx : SyV J w7.heap.size eO w7 := SyV.zero E.1 (Bx.lt E.1) (Nat.le_refl _)
 have gh : w.heap.size <= J := by omega
 obtain ⟨z0, c5⟩ : ∃ z, z = w7.heap.size := ⟨_, rfl⟩
 rw [<- c5] at bx
 have h9 : J < z0 := by rw [c5]; exact Bx.lt E.1
 replace E := ((JD (JD (Env.x (Env.ww (Env.nil _) (e4 E)) (e3 E)) E.2.2.1) E.2.1).sz (Nat.le_of_eq c5)).sv bx
 refine yG ?_
 refine wp_loop_ghost (fun mz a w' => ∃ (i : Nat) (z : Nat) (q : Rs) (al : List Value), al = a.tmps.toList /\ a = ⟨(.string (bs t) :: undef :: .pointer (some ⟨b1, 0, none⟩) :: (CJ al 3) :: (CJ al 4) :: .slice R C.length Q :: .pointer (some ⟨J, 0, none⟩) :: .int .i64 ↑q.last :: (CJ al 8) :: .int .i64 ↑(C.length - 1) :: .int .i64 ↑i :: gr al 11 5 (.string (bs t) :: .int .i64 ↑t.length :: .bool false :: undef :: .string (bs t) :: .slice R C.length Q :: .agg #[.slice none 0 0, .slice none 0 0, .slice none 0 0, .int .i64 0] :: .slice R C.length Q :: .int .i64 ↑C.length :: .int .i64 ↑(C.length - 1) :: gr al 26 131 [])).toArray, []⟩ /\ Env w' [fSv J z q, iR z, fR elS (EM w1.heap.size w5.heap.size) (.slice R C.length Q) C, iR w5.heap.size, fX b1 (48) ([.slice none 0 0, .slice none 0 0, .slice none 0 0, .int .i64 0]), fW w] /\ mz = C.length - i /\ RdTo C i q) (C.length) ⟨0, z0, eO, _, O, O, zE, O, RdTo.zero dk⟩ ?_
 rintro m8 _ w8 ⟨i, z, q, al, -, rfl, E, bn, gw⟩
 dsimp only [gr, Nat.reduceAdd]
 have hJ := gw
 have ih := hJ.le
 have dt := hJ.bd
 have ia := dt.last
 have ie := SyV.bz E.1
 have h7 : z <= w8.heap.size := CS E.2.1
 obtain ⟨Y, D⟩ : ∃ x, C[i]? = some x := ⟨_, List.getElem?_eq_getElem (show i < C.length by omega)⟩
 obtain ⟨ad, ar, _, af, dr, gs, gj⟩ := IsR.at E.2.2.1.1 D
 obtain rfl := (show _ = [Value.string (bs Y)] from gj)
 have gq : ad < _ := E.2.2.1.2 _ dr
 replace E := E.c gs gq
 have ic : w1.heap.size <= ad /\ ad < w5.heap.size := dr
 have i4 : Y.length <= 100000 := by have h := NV (b := 10) (s := t) (by rw [a2]; exact List.mem_of_getElem? D); omega
 refine wp_seq ?_
 refine wp_seq ?_
 refine mT (fun a w' => ∃ (bb : Bool) (g6 : List Value), g6 = a.tmps.toList /\ a = ⟨(.string (bs t) :: undef :: .pointer (some ⟨b1, 0, none⟩) :: (CJ g6 3) :: (CJ g6 4) :: .slice R C.length Q :: .pointer (some ⟨J, 0, none⟩) :: .int .i64 ↑q.last :: (CJ g6 8) :: .int .i64 ↑(C.length - 1) :: .int .i64 ↑i :: gr g6 11 5 (.string (bs t) :: .int .i64 ↑t.length :: .bool false :: undef :: .string (bs t) :: .slice R C.length Q :: .agg #[.slice none 0 0, .slice none 0 0, .slice none 0 0, .int .i64 0] :: .slice R C.length Q :: .int .i64 ↑C.length :: .int .i64 ↑(C.length - 1) :: gr g6 26 15 (.bool bb :: gr g6 42 115 []))).toArray, []⟩ /\ (bb = true /\ (i + 1 = C.length -> ¬ Y = []) ∨ bb = false /\ i + 1 = C.length /\ Y = []) /\ Env w' [fC ad (ar + i * 1) [.string (bs Y)], fSv J z q, iR z, fR elS (EM w1.heap.size w5.heap.size) (.slice R C.length Q) C, iR w5.heap.size, fX b1 (48) ([.slice none 0 0, .slice none 0 0, .slice none 0 0, .int .i64 0]), fW w]) ?_ ?_
 case refine_1 =>
  by_cases cc : i + 1 < C.length
  . refine yG ?_
    exact ⟨true, _, O, rfl, .inl ⟨rfl, fun h => absurd h AA⟩, zE⟩
  by_cases bj : Y = []
  case neg =>
   refine yG ?_
   refine OL O O af O (List.getElem?_eq_some_iff.1 D).1 ?_
   refine yG ?_
   refine V Z O (FG (a := Y) (b := []) (c := true) O O O (by rw [bne_iff_ne]; exact bj)) ?_
   refine yG ?_
   exact ⟨true, _, O, rfl, .inl ⟨rfl, fun _ => bj⟩, zE⟩
  refine yG ?_
  refine OL O O af O (List.getElem?_eq_some_iff.1 D).1 ?_
  refine yG ?_
  refine V Z O (FG (a := Y) (b := []) (c := false) O O O (by rw [bne_eq_false_iff_eq]; exact bj)) ?_
  refine yG ?_
  exact ⟨false, _, O, rfl, .inr ⟨rfl, by omega, bj⟩, zE⟩
 case refine_2 =>
  rintro _ w9 ⟨bb, g6, -, rfl, gu, E⟩
  dsimp only [gr, Nat.reduceAdd]
  rcases gu with ⟨rfl, au⟩ | ⟨rfl, dl, dh⟩
  ·
   change Code.wp _ _ _ _ _
   refine wp_cond_true O ?_
   refine wp_skip ?_
   change Code.wp _ _ _ _ _
   refine wp_seq ?_
   refine wp_block ?_
   refine wp_seq ?_
   refine mT (fun a w' => ∃ (b0 : Bool) (g8 : List Value), g8 = a.tmps.toList /\ a = ⟨(.string (bs t) :: undef :: .pointer (some ⟨b1, 0, none⟩) :: (CJ g8 3) :: (CJ g8 4) :: .slice R C.length Q :: .pointer (some ⟨J, 0, none⟩) :: .int .i64 ↑q.last :: (CJ g8 8) :: .int .i64 ↑(C.length - 1) :: .int .i64 ↑i :: .bool b0 :: gr g8 12 4 (.string (bs t) :: .int .i64 ↑t.length :: .bool false :: undef :: .string (bs t) :: .slice R C.length Q :: .agg #[.slice none 0 0, .slice none 0 0, .slice none 0 0, .int .i64 0] :: .slice R C.length Q :: .int .i64 ↑C.length :: .int .i64 ↑(C.length - 1) :: gr g8 26 15 (.bool true :: gr g8 42 115 []))).toArray, []⟩ /\ b0 = decide (i + 1 = C.length ∨ 0 < q.next) /\ Env w' [fC ad (ar + i * 1) [.string (bs Y)], fSv J z q, iR z, fR elS (EM w1.heap.size w5.heap.size) (.slice R C.length Q) C, iR w5.heap.size, fX b1 (48) ([.slice none 0 0, .slice none 0 0, .slice none 0 0, .int .i64 0]), fW w]) ?_ ?_
   case refine_1 =>
    by_cases cc : i + 1 = C.length
    . refine yG ?_
      exact ⟨true, _, O, rfl, (decide_eq_true (.inl cc)).symm, zE⟩
    by_cases di : 0 < q.next
    . refine yG ?_
      refine V Z O (GH O CW O (SyV.nx E.2.1)) ?_
      refine yG ?_
      exact ⟨true, _, O, rfl, (decide_eq_true (.inr di)).symm, zE⟩
    refine yG ?_
    refine V Z O (GH O CW O (SyV.nx E.2.1)) ?_
    refine yG ?_
    exact ⟨false, _, O, rfl, (decide_eq_false (fun g => g.elim cc di)).symm, zE⟩
   case refine_2 =>
    rintro _ aq ⟨b0, g8, -, rfl, a7, E⟩
    dsimp only [gr, Nat.reduceAdd]
    by_cases ae : i = 0
    case pos =>
     obtain ⟨ok, c7⟩ : ∃ b, b = decide ((DI 32 Y).head? = some vaB /\ DM 4 (DI 32 Y).tail = true) := ⟨_, rfl⟩
     obtain ⟨vn, c6⟩ : ∃ l, (DI 32 Y).tail = l := ⟨_, rfl⟩
     have gf : z <= aq.heap.size := CS E.2.2.1
     refine yG ?_
     refine OL O O af O (List.getElem?_eq_some_iff.1 D).1 ?_
     have ge : w.heap.size <= aq.heap.size := (e6 E).size
     refine yG ?_
     refine EF O (pX cD O (by have b4 := Yl Y aq AA; rw [<- c7, c6] at b4; exact b4) O E ?_)
     intro a5 i2 h4 dw E
     have hd := h4.size
     replace E := E.sz (Nat.le_refl a5.heap.size)
     have dn := dw
     obtain ⟨ay, ax, rfl, gn, _⟩ := dw.shp
     replace E := E.r (e := elS) (S := EM aq.heap.size a5.heap.size) (show IsR elS (EM aq.heap.size a5.heap.size) a5 _ vn from dn) (fun _ g => g.2)
     obtain ⟨S, vv, ve, vn, hX, P, ba, a4, a3, _, az⟩ := e3 E
     refine yG ?_
     replace E := qC E
     have hSr : ¬ S J := fun h => Nat.lt_irrefl _ (P.set _ h).1
     have hSl := P.lt
     have hSe := P.eqs.own
     have hSn := P.neqs.own
     have a8 := P.apart
     obtain ⟨X, G, F, _, a9⟩ := P
     have hST2 : ∀ k, S k -> J < k := fun k h => (a9 k h).1
     obtain ⟨U, B, rfl, ak, b3⟩ := X.shp
     obtain ⟨N, y, rfl⟩ := G.shp
     obtain ⟨L, u, rfl⟩ := F.shp
     obtain ⟨rb, T⟩ : ∃ n, n = J + 1 := ⟨_, rfl⟩
     rw [<- T] at G F
     have ag := hX.lt
     replace E := ((((E.sz (show rb <= a5.heap.size by omega)).x hX).r X hSl).a G hSl).a F hSl
     obtain ⟨S2, a0⟩ : ∃ f, f = (fun k => S k ∨ EM aq.heap.size a5.heap.size k) := ⟨_, rfl⟩
     have cd : IsR elS S2 a5 (.slice U q.vars.length B) q.vars := by rw [a0]; exact E.2.2.1.1.mono (fun _ => .inl)
     have bf : Acc RB 83 rb S2 a5 (.slice N q.eqs.length y) q.eqs := by rw [a0]; exact E.2.1.1.mono (fun _ => .inl) (fun g hg hs => hs.elim (hSe g hg) (fun hm => by have := a4 g hg; have := hm.1; omega))
     have bc : Acc RB 83 rb S2 a5 (.slice L q.neqs.length u) q.neqs := by rw [a0]; exact E.1.1.mono (fun _ => .inl) (fun g hg hs => hs.elim (hSn g hg) (fun hm => by have := a3 g hg; have := hm.1; omega))
     have cf : IsR elS S2 a5 (.slice ay vn.length ax) vn := by rw [a0]; exact (e5 E).1.mono (fun _ => .inr)
     have hS2r : ¬ S2 J := by rw [a0]; exact fun h => h.elim hSr YlH
     have hS2l : ∀ k, S2 k -> k < a5.heap.size := by rw [a0]; exact fun k h => h.elim (fun g => E.2.1.2 k g) (fun hm => (e5 E).2 k hm)
     have hS2T : ∀ k, S2 k -> J < k := by rw [a0]; exact fun k h => h.elim (fun g => hST2 k g) YlH
     have hS2e := bf.own
     have hS2n := bc.own
     replace E := ((((((Env.x (JD (JD (JD (JD (JD (JD (Env.x (Env.ww (Env.nil _) (WE E)) (RC E)) (RD E)) (e9 E)) (e8 E)) (e7 E)) (e6 E)) (e4 E)) (e3 E))).r cd hS2l).r cf hS2l)).a bf hS2l).a bc hS2l
     have d4 := e4 E
     replace E := jI E
     refine EF O (CI (v := .slice ay vn.length ax) O Z O O O d4 AH ?_)
     intro c4 g7 f9
     replace E := oY E d4 g7 f9 (ds := [.slice ay vn.length ax, .slice N q.eqs.length y, .slice L q.neqs.length u, .int .i64 ↑q.next])
     cases b0 with
     | false =>
      have dj := of_decide_eq_false a7.symm
      have aa : i + 1 < C.length := by omega
      have bm : q.next = 0 := by omega
      cases ok with
      | false =>
       have b2 := qY ae hJ D aa c7
       rw [c6] at b2
       have d3 := RC E
       refine yG ?_
       replace E := NQ (NQ QP) E
       refine yG ?_
       refine EF O (BY JK O O O d3 O O (CG O (CG O (CG O (CG O DP)))) ?_)
       intro i0 g5 f8
       replace E := oY E d3 g5 f8 (ds := [.slice none 0 0, .slice none 0 0, .slice none 0 0, .int .i64 0])
       have r1 := CL JK E.1 rfl
       refine yG ?_
       exact AQ (v := .tuple #[.agg #[.slice none 0 0, .slice none 0 0, .slice none 0 0, .int .i64 0], .int .i64 ↑(i + 1), .int .i64 440]) Ykx O (OH (n := i + 1) (e := 440) (cQ a6 a2 (b2.2 O)) (NewSy.zero _ _) (WE E))
      | true =>
       have b2 := qY ae hJ D aa c7
       rw [c6] at b2
       have b9 : SyV J c4.heap.size (⟨vn, q.eqs, q.neqs, q.next, q.last⟩) c4 := ⟨S2, _, _, _, E.1, ⟨(e3 E).1, by rw [<- T]; exact E.2.2.1.1, by rw [<- T]; exact E.2.1.1, a8, fun k h => ⟨hS2T k h, E.2.2.1.2 k h⟩⟩, fun k h => E.2.2.1.2 k h, fun g hg => (E.2.2.1.1.lt hg).2, fun g hg => (E.2.1.1.lt hg).2, Bx.lt E.1, Nat.le_refl _⟩
       obtain ⟨cj, bw⟩ : ∃ z, z = c4.heap.size := ⟨_, rfl⟩
       rw [<- bw] at b9
       replace E := (E.sz (Nat.le_of_eq bw)).sv b9
       refine yG ?_
       exact ⟨_, (by rw [bn]; omega), (i + 1), cj, (⟨vn, q.eqs, q.neqs, q.next, q.last⟩), _, O, O, zE, O, b2.1 O⟩
     | true =>
      cases ok with
      | false =>
       exact ZXB
      | true =>
       exact ZXB
    cases hP : Lib.hasPrefix Y lW with
    | false =>
     refine yG ?_
     refine OL O O af O (List.getElem?_eq_some_iff.1 D).1 ?_
     refine yG ?_
     refine EF O (CA JI O (CT (show Lib.hasPrefix Y [110, 101, 120, 116, 32] = false from hP) (YA Y ([110, 101, 120, 116, 32]) _)) O E ?_)
     intro aj im E
     have gf : z <= aj.heap.size := CS E.2.2.1
     obtain ⟨dz, c0, SV, ak, gv, dq⟩ := D7 E.2.1
     have dp : ∀ k, SV k -> k < aj.heap.size := fun k h => by have := (dq k h).2; omega
     have ce : J < aj.heap.size := SyV.lt E.2.1
     have i8 := dt.vars
     replace E := (E.r gv dp).c ak ce
     have dc : z <= aj.heap.size := CS (e4 E)
     have db : w5.heap.size <= aj.heap.size := CS (e6 E)
     have du : b1 < aj.heap.size := Bx.lt (e7 E)
     have ep : w.heap.size <= aj.heap.size := (e8 E).size
     refine yG ?_
     refine QT E [.op 0, .op 1, .op 2, .op 3, .op 4, .op 5, .av 11, .op 6, .op 7, .op 8, .op 9, .op 10, .op 11] 3 (#[true, true, true, true, true, true, true, true, true, true, true, true, false, false, false]) Z Z Z Z AF AF ?_
     refine FP (v := .slice R C.length Q) O O O O O (fun w hS => GP O O) ?_
     refine FP (v := .int .i64 ↑i) O O O O O (fun w hS => GP O O) ?_
     refine FP (v := .pointer (some ⟨ad, ar + i * 1, none⟩)) O O O O O (fun w hS => SY (i := i) O underlying30 Z O af O O (List.getElem?_eq_some_iff.1 D).1) ?_
     refine FP (v := .string (bs Y)) O O O O O (fun w hS => GH O iZ O ((hS.2.2.1).1 0 _ O)) ?_
     refine yG ?_
     refine FP (v := .pointer (some ⟨J, 0, none⟩)) O O O O O (fun w hS => UJ O O O) ?_
     refine FP (v := .slice dz q.vars.length c0) O O O O O (fun w hS => GH O dQ O ((hS.1).1 0 _ O)) ?_
     refine FA _ (RunF.alloc LS O O O) ?_
     refine yG ?_
     refine FE O O O O ?_
     intro ab E
     have gg : w.heap.size <= ab.heap.size := (e8 E).size
     have dg : z <= ab.heap.size := CS (e4 E)
     have de : w5.heap.size <= ab.heap.size := CS (e6 E)
     have dd : b1 < ab.heap.size := Bx.lt (e7 E)
     refine pY (r := XV q.vars Y) dV O (eqn_r Y _ q.vars _ (BW E.2.1) AA AA) O E ?_
     intro ac i1 id p a1 ok dy dv i6 i5 he E
     have hc := dy.size
     have gc : w.heap.size <= ab.heap.size := by omega
     replace E := E.sz (Nat.le_refl ac.heap.size)
     have dm := dv
     obtain ⟨I, H, rfl, gm, _⟩ := dv.shp
     replace E := E.r (e := JQ) (S := EM ab.heap.size ac.heap.size) (show IsR JQ (EM ab.heap.size ac.heap.size) ac _ p from dm) (fun _ g => g.2)
     refine kF2 dy E O ?_
     refine FP (v := .tuple #[.agg #[.int .i64 ↑id, .slice I p.length H], .bool a1, .bool ok]) O O O O O (fun w hS => GP O O) ?_
     refine FP (v := .agg #[.int .i64 ↑id, .slice I p.length H]) O O O O O (fun w hS => PF (vs := [.agg #[.int .i64 ↑id, .slice I p.length H], .bool a1, .bool ok]) O O O) ?_
     refine FP (v := .bool a1) O O O O O (fun w hS => PF (vs := [.agg #[.int .i64 ↑id, .slice I p.length H], .bool a1, .bool ok]) O O O) ?_
     refine FP (v := .bool ok) O O O O O (fun w hS => PF (vs := [.agg #[.int .i64 ↑id, .slice I p.length H], .bool a1, .bool ok]) O O O) ?_
     refine yG ?_
     refine FF O O ?_
     intro bg ii fd
     have i3 : w.heap.size <= bg := by omega
     simp only [List.mem_append, List.mem_range'_1, not_or, List.not_mem_nil, not_false_eq_true, true_and] at fd
     refine yG ?_
     intro hx E
     refine H1 (i := 12) Z ?_
     have cz := E.1
     replace E := YE E
     refine HE (o := ⟨none, _, _, _, _, _⟩) O O (BY LS O O O cz O O (CG O (CG O DP)) ?_)
     intro fc g1 f4
     replace E := (E.onl (cz.noW (PS AH (PS AH uC))) ⟨FV (jX AA), BX, TJ AA, FV (fun h => by have := dq _ h; omega), TJ AA, okSv AA, BX, FV (jX AA), BX, GO AA, OP AA, BX⟩ g1).x (cs := [.int .i64 ↑id, .slice I p.length H]) f4
     refine ⟨E.2.2.2, ?_⟩
     refine yG ?_
     refine HP (i := 13) (o := ⟨some 14, _, _, _, _, _⟩) (v := .bool a1) O Z (fun _ _ _ h => h) O (fun w hS => KX O O) (E.2.2.2) ?_
     refine yG ?_
     refine HP (i := 14) (o := ⟨some 15, _, _, _, _, _⟩) (v := .bool ok) O Z (fun _ _ _ h => h) O (fun w hS => KX O O) (E.2.2.2) ?_
     refine yG ?_
     refine HN Z ?_
     change Code.wp _ _ _ _ _
     replace E := qC E
     replace E := qC E
     obtain ⟨S, vv, ve, vn, hX, P, ba, a4, a3, _, az⟩ := e4 E
     replace E := jI E
     have hSr : ¬ S J := fun h => Nat.lt_irrefl _ (P.set _ h).1
     have hSl := P.lt
     have hSe := P.eqs.own
     have hSn := P.neqs.own
     have a8 := P.apart
     obtain ⟨X, G, F, _, a9⟩ := P
     have hST2 : ∀ k, S k -> J < k := fun k h => (a9 k h).1
     obtain ⟨U, B, rfl, ak, b3⟩ := X.shp
     obtain ⟨N, y, rfl⟩ := G.shp
     obtain ⟨L, u, rfl⟩ := F.shp
     obtain ⟨rb, T⟩ : ∃ n, n = J + 1 := ⟨_, rfl⟩
     rw [<- T] at G F
     have ag := hX.lt
     replace E := ((((E.sz (show rb <= fc.heap.size by omega)).x hX).r X hSl).a G hSl).a F hSl
     obtain ⟨ib, i9⟩ := hJ.len
     refine wp_seq ?_
     refine mT (fun a w' => ∃ (bd : Bool) (gk : List Value), gk = a.tmps.toList /\ a = ⟨(.string (bs t) :: undef :: .pointer (some ⟨b1, 0, none⟩) :: (CJ gk 3) :: (CJ gk 4) :: .slice R C.length Q :: .pointer (some ⟨J, 0, none⟩) :: .int .i64 ↑q.last :: (CJ gk 8) :: .int .i64 ↑(C.length - 1) :: .int .i64 ↑i :: .bool bd :: (CJ gk 12) :: .pointer (some ⟨bg, 0, none⟩) :: .bool a1 :: .bool ok :: .string (bs t) :: .int .i64 ↑t.length :: .bool false :: undef :: .string (bs t) :: .slice R C.length Q :: .agg #[.slice none 0 0, .slice none 0 0, .slice none 0 0, .int .i64 0] :: .slice R C.length Q :: .int .i64 ↑C.length :: .int .i64 ↑(C.length - 1) :: gr gk 26 15 (.bool true :: gr gk 42 10 (.tuple #[.agg #[.int .i64 ↑id, .slice I p.length H], .bool a1, .bool ok] :: .slice R C.length Q :: .int .i64 ↑i :: .pointer (some ⟨ad, ar + i * 1, none⟩) :: .string (bs Y) :: .pointer (some ⟨J, 0, none⟩) :: .slice dz q.vars.length c0 :: .tuple #[.agg #[.int .i64 ↑id, .slice I p.length H], .bool a1, .bool ok] :: .agg #[.int .i64 ↑id, .slice I p.length H] :: .bool a1 :: .bool ok :: gr gk 63 45 (.bool false :: .int .i64 ↑i :: .bool false :: gr gk 111 14 (.bool false :: .slice R C.length Q :: .int .i64 ↑i :: .pointer (some ⟨ad, ar + i * 1, none⟩) :: .string (bs Y) :: .bool false :: gr gk 131 26 []))))).toArray, []⟩ /\ bd = bdB b0 ok id q a1 /\ Env w' [fA RB 83 rb S (.slice L q.neqs.length u) q.neqs, fA RB 83 rb S (.slice N q.eqs.length y) q.eqs, fR elS S (.slice U q.vars.length B) q.vars, fX J (48) ([.slice U q.vars.length B, .slice N q.eqs.length y, .slice L q.neqs.length u, .int .i64 ↑q.next]), iR rb, fX bg (83) ([.int .i64 ↑id, .slice I p.length H]), fR JQ (EM ab.heap.size ac.heap.size) (.slice I p.length H) p, iR ac.heap.size, fC ad (ar + i * 1) [.string (bs Y)], iR z, fR elS (EM w1.heap.size w5.heap.size) (.slice R C.length Q) C, iR w5.heap.size, fX b1 (48) ([.slice none 0 0, .slice none 0 0, .slice none 0 0, .int .i64 0]), fW w]) ?_ ?_
     case refine_1 =>
      cases b0 with
      | false =>
       cases ok with
       | false =>
        refine yG ?_
        exact ⟨true, _, O, rfl, (Ru (.inr (.inl rfl))), zE⟩
       | true =>
        by_cases gp : id <= q.last
        . refine yG ?_
          exact ⟨true, _, O, rfl, (Ru (.inr (.inr (.inl gp)))), zE⟩
        cases a1 with
        | false =>
         by_cases gx : q.eqs.length = 12
         . refine yG ?_
           exact ⟨true, _, O, rfl, (Ru (.inr (.inr (.inr (show 12 <= q.eqs.length by omega))))), zE⟩
         refine yG ?_
         exact ⟨false, _, O, rfl, (bd_f (fun g => by rcases g with g | g | g | g; cases g; cases g; omega; (have g2 : 12 <= q.eqs.length := g; omega))), zE⟩
        | true =>
         by_cases gx : q.neqs.length = 12
         . refine yG ?_
           exact ⟨true, _, O, rfl, (Ru (.inr (.inr (.inr (show 12 <= q.neqs.length by omega))))), zE⟩
         refine yG ?_
         exact ⟨false, _, O, rfl, (bd_f (fun g => by rcases g with g | g | g | g; cases g; cases g; omega; (have g2 : 12 <= q.neqs.length := g; omega))), zE⟩
      | true =>
       refine yG ?_
       exact ⟨true, _, O, rfl, (Ru (.inl rfl)), zE⟩
     case refine_2 =>
      rintro _ aw ⟨bd, gk, -, rfl, bo, E⟩
      dsimp only [gr, Nat.reduceAdd]
      obtain ⟨S2, a0⟩ : ∃ f, f = (fun k => S k ∨ EM ab.heap.size ac.heap.size k) := ⟨_, rfl⟩
      have cd : IsR elS S2 aw (.slice U q.vars.length B) q.vars := by rw [a0]; exact E.2.2.1.1.mono (fun _ => .inl)
      have bf : Acc RB 83 rb S2 aw (.slice N q.eqs.length y) q.eqs := by rw [a0]; exact E.2.1.1.mono (fun _ => .inl) (fun g hg hs => hs.elim (hSe g hg) (fun hm => by have := a4 g hg; have := hm.1; omega))
      have bc : Acc RB 83 rb S2 aw (.slice L q.neqs.length u) q.neqs := by rw [a0]; exact E.1.1.mono (fun _ => .inl) (fun g hg hs => hs.elim (hSn g hg) (fun hm => by have := a3 g hg; have := hm.1; omega))
      have cf : IsR JQ S2 aw (.slice I p.length H) p := by rw [a0]; exact (e6 E).1.mono (fun _ => .inr)
      have hS2r : ¬ S2 J := by rw [a0]; exact fun h => h.elim hSr YlH
      have hS2l : ∀ k, S2 k -> k < aw.heap.size := by rw [a0]; exact fun k h => h.elim (fun g => E.2.1.2 k g) (fun hm => (e6 E).2 k hm)
      have hS2T : ∀ k, S2 k -> J < k := by rw [a0]; exact fun k h => h.elim (fun g => hST2 k g) YlH
      have hS2e := bf.own
      have hS2n := bc.own
      refine yG ?_
      replace E := ((((((Env.x (JD (Env.x (JD (JD (JD (JD (JD (Env.x (Env.ww (Env.nil _) (XX E)) (WE E)) (RC E)) (RD E)) (e9 E)) (e8 E)) (e7 E)) (e5 E)) (e4 E)) (e3 E))).r cd hS2l).r cf hS2l)).a bf hS2l).a bc hS2l
      cases a1 with
      | false =>
       refine yG ?_
       refine EF O (DW (cs := [.int .i64 ↑id, .slice I p.length H]) underlying46 LS O AE AE O O ?_)
       intro an hw ai hb h0 fb
       have ed : ((.slice L q.neqs.length u) : Value).ownBlock ≠ some an := fun h => by have := (Acc.lt E.1.1 h).2; omega
       have ec : ((.slice N q.eqs.length y) : Value).ownBlock ≠ some an := fun h => by have := (Acc.lt E.2.1.1 h).2; omega
       have gb : bg < an := by rw [ai]; exact Bx.lt (e6 E)
       have el : rb <= an := by rw [ai]; exact CS (e5 E)
       have ek : ac.heap.size <= an := by rw [ai]; exact CS (e7 E)
       have ej : z <= an := by rw [ai]; exact CS (e9 E)
       have ei : w5.heap.size <= an := by rw [ai]; exact CS (RC E)
       replace E := E.below h0
       replace E := E.x fb
       have ap := E.2.2.1
       have da := Acc.nw ap.1
       refine yG ?_
       replace E := VC E
       have cb := fun g hg => (E.2.1.1.lt (g := g) hg).2
       have en := ap.1.own
       refine EF O (TV (x := (id, p)) Xf O (l := q.eqs) O ap.1 ap.2 E (fun g hg h1 h2 => ⟨GO Yvj, Jv (fun h => a8 g hg h) YXy, FV YXy, FV YXy, GO Yvj, BX, GO Yvj, BX, TJ AA, BX, FV (jX Yvj), BX, GO Yvj, OP AA, BX⟩) O E.1 (⟨_, O, E.2.2.1.1⟩) (by unfold maxLen; omega) AA (CS (e5 E)) ?_)
       intro bi hv bl E
       have bq : ∀ g, (bi : Value).ownBlock = some g -> ((.slice L q.neqs.length u) : Value).ownBlock = some g -> False := fun g h1 h2 => bl g (cb g h2) (fun h3 => a8 g h3 h2) h1
       have hS2e := E.1.1.own
       have c9 : ∀ g, (bi : Value).ownBlock = some g -> g ≠ J := fun g hg => by have := (E.1.1.lt hg).1; omega
       have cy := e5 E
       refine yG ?_
       replace E := Lu E
       refine yG ?_
       refine EF O (CI (v := bi) O Z (Acc.one E.1.1) O O cy AH ?_)
       intro c3 g0 f3
       replace E := (E.onl (cy.noW (PS AH (PS da (PS (Acc.nw E.2.2.1.1) (PS AH uC))))) ⟨Jv (fun h => c9 _ h rfl) YXy, GO AA, Jv (fun h => by have := (E.2.2.1.1.lt h).1; omega) YXy, FV YXy, FV YXy, BX, GO AA, BX, TJ AA, BX, FV (jX AA), BX, GO AA, OP AA, BX⟩ g0).x (cs := [.slice U q.vars.length B, bi, .slice L q.neqs.length u, .int .i64 ↑q.next]) f3
       cases bd with
       | false =>
        have b8 : SyV J c3.heap.size (q.add (false, id, p)) c3 := ⟨S2, _, _, _, E.1, ⟨(e5 E).1, by rw [<- T]; exact E.2.1.1, by rw [<- T]; exact (e3 E).1, bq, fun k h => ⟨hS2T k h, E.2.1.2 k h⟩⟩, fun k h => E.2.1.2 k h, fun g hg => (E.2.1.1.lt hg).2, fun g hg => ((e3 E).1.lt hg).2, Bx.lt E.1, Nat.le_refl _⟩
        obtain ⟨ci, bv⟩ : ∃ z, z = c3.heap.size := ⟨_, rfl⟩
        rw [<- bv] at b8
        refine yG ?_
        replace E := (E.sz (Nat.le_of_eq bv)).sv b8
        exact ⟨_, (by rw [bn]; omega), (i + 1), ci, (q.add (false, id, p)), _, O, O, zE, O, yZ hJ D ae a7 hP he ((Ya bo))⟩
       | true =>
        exact ZhD
      | true =>
       refine yG ?_
       refine EF O (DW (cs := [.int .i64 ↑id, .slice I p.length H]) underlying46 LS O AE AE O O ?_)
       intro am ht ah ha gz fa
       have eb : ((.slice L q.neqs.length u) : Value).ownBlock ≠ some am := fun h => by have := (Acc.lt E.1.1 h).2; omega
       have ea : ((.slice N q.eqs.length y) : Value).ownBlock ≠ some am := fun h => by have := (Acc.lt E.2.1.1 h).2; omega
       have ga : bg < am := by rw [ah]; exact Bx.lt (e6 E)
       have eh : rb <= am := by rw [ah]; exact CS (e5 E)
       have eg : ac.heap.size <= am := by rw [ah]; exact CS (e7 E)
       have ef : z <= am := by rw [ah]; exact CS (e9 E)
       have ee : w5.heap.size <= am := by rw [ah]; exact CS (RC E)
       replace E := E.below gz
       replace E := E.x fa
       have ao := E.2.1
       have d9 := Acc.nw ao.1
       refine yG ?_
       replace E := QP E
       have ca := fun g hg => (E.2.1.1.lt (g := g) hg).2
       have em := ao.1.own
       refine EF O (TV (x := (id, p)) Xf O (l := q.neqs) O ao.1 ao.2 E (fun g hg h1 h2 => ⟨GO Yy6, Jv (fun h => (fun g h1 h2 => a8 g h2 h1) g hg h) YXy, FV YXy, FV YXy, GO Yy6, BX, GO Yy6, BX, TJ AA, BX, FV (jX Yy6), BX, GO Yy6, OP AA, BX⟩) O E.1 (⟨_, O, E.2.2.1.1⟩) (by unfold maxLen; omega) AA (CS (e5 E)) ?_)
       intro bh hr bk E
       have bp : ∀ g, (bh : Value).ownBlock = some g -> ((.slice N q.eqs.length y) : Value).ownBlock = some g -> False := fun g h1 h2 => bk g (ca g h2) (fun h3 => (fun g h1 h2 => a8 g h2 h1) g h3 h2) h1
       have hS2n := E.1.1.own
       have c8 : ∀ g, (bh : Value).ownBlock = some g -> g ≠ J := fun g hg => by have := (E.1.1.lt hg).1; omega
       have cw := e5 E
       refine yG ?_
       replace E := Lu E
       refine yG ?_
       refine EF O (CI (v := bh) O Z (Acc.one E.1.1) O O cw AH ?_)
       intro c2 fy f1
       replace E := (E.onl (cw.noW (PS AH (PS (Acc.nw E.2.2.1.1) (PS d9 (PS AH uC))))) ⟨Jv (fun h => c8 _ h rfl) YXy, GO AA, Jv (fun h => by have := (E.2.2.1.1.lt h).1; omega) YXy, FV YXy, FV YXy, BX, GO AA, BX, TJ AA, BX, FV (jX AA), BX, GO AA, OP AA, BX⟩ fy).x (cs := [.slice U q.vars.length B, .slice N q.eqs.length y, bh, .int .i64 ↑q.next]) f1
       cases bd with
       | false =>
        have b7 : SyV J c2.heap.size (q.add (true, id, p)) c2 := ⟨S2, _, _, _, E.1, ⟨(e5 E).1, by rw [<- T]; exact (e3 E).1, by rw [<- T]; exact E.2.1.1, (fun g h1 h2 => bp g h2 h1), fun k h => ⟨hS2T k h, (e3 E).2 k h⟩⟩, fun k h => (e3 E).2 k h, fun g hg => ((e3 E).1.lt hg).2, fun g hg => (E.2.1.1.lt hg).2, Bx.lt E.1, Nat.le_refl _⟩
        obtain ⟨ch, bu⟩ : ∃ z, z = c2.heap.size := ⟨_, rfl⟩
        rw [<- bu] at b7
        refine yG ?_
        replace E := (E.sz (Nat.le_of_eq bu)).sv b7
        exact ⟨_, (by rw [bn]; omega), (i + 1), ch, (q.add (true, id, p)), _, O, O, zE, O, yZ hJ D ae a7 hP he ((Ya bo))⟩
       | true =>
        exact ZhD
    | true =>
     have ig : 5 <= Y.length := (List.isPrefixOf_iff_prefix.1 (show List.isPrefixOf lW Y = true from hP)).length_le
     refine yG ?_
     refine OL O O af O (List.getElem?_eq_some_iff.1 D).1 ?_
     refine yG ?_
     refine EF O (CA JI O (CT (show Lib.hasPrefix Y [110, 101, 120, 116, 32] = true from hP) (YA Y ([110, 101, 120, 116, 32]) _)) O E ?_)
     intro hp il E
     cases hm : EA ((q.last + 1 : Nat) : Int) ((1000000 : Nat) : Int) (Y.drop 5) with
     | none =>
      refine yG ?_
      refine OL O O af O (List.getElem?_eq_some_iff.1 D).1 ?_
      refine yG ?_
      refine V (v := .string (bs (Y.drop 5))) O O (KD (a := Y) (j := 5) O underlying9 O O O AA) ?_
      refine yG ?_
      refine EF O (CB DH O (UQ (Y.drop 5) (q.last + 1) 1000000 _ (by rw [List.length_drop]; omega) AE hm) O E ?_)
      intro d8 ik E
      cases b0 with
      | false =>
       have dj := of_decide_eq_false a7.symm
       have aa : i + 1 < C.length := by omega
       have bm : q.next = 0 := by omega
       obtain ⟨S, vv, ve, vn, hX, P, ba, a4, a3, _, az⟩ := E.2.1
       refine yG ?_
       replace E := QP E
       have hSr : ¬ S J := fun h => Nat.lt_irrefl _ (P.set _ h).1
       have hSl := P.lt
       have hSe := P.eqs.own
       have hSn := P.neqs.own
       have a8 := P.apart
       obtain ⟨X, G, F, _, a9⟩ := P
       have hST2 : ∀ k, S k -> J < k := fun k h => (a9 k h).1
       obtain ⟨U, B, rfl, ak, b3⟩ := X.shp
       obtain ⟨N, y, rfl⟩ := G.shp
       obtain ⟨L, u, rfl⟩ := F.shp
       obtain ⟨rb, T⟩ : ∃ n, n = J + 1 := ⟨_, rfl⟩
       rw [<- T] at G F
       have ag := hX.lt
       replace E := ((((E.sz (show rb <= d8.heap.size by omega)).x hX).r X hSl).a G hSl).a F hSl
       have cu := e3 E
       refine yG ?_
       replace E := qC E
       refine yG ?_
       refine EF O (CI (v := .int .i64 (-1)) O Z O O O cu AH ?_)
       intro ho fw ez
       replace E := oY E cu fw ez (ds := [.slice U q.vars.length B, .slice N q.eqs.length y, .slice L q.neqs.length u, .int .i64 (-1)])
       have ct := e9 E
       refine yG ?_
       replace E := Wb E
       refine yG ?_
       refine EF O (BY JK O O O ct O O (CG O (CG O (CG O (CG O DP)))) ?_)
       intro hn fv ey
       replace E := oY E ct fv ey (ds := [.slice none 0 0, .slice none 0 0, .slice none 0 0, .int .i64 0])
       have r1 := CL JK E.1 rfl
       refine yG ?_
       exact AQ (v := .tuple #[.agg #[.slice none 0 0, .slice none 0 0, .slice none 0 0, .int .i64 0], .int .i64 ↑(i + 1), .int .i64 440]) Ykx O (OH (n := i + 1) (e := 440) (cQ a6 a2 (Uw hJ D aa ae bm hP hm)) (NewSy.zero _ _) (RD E))
      | true =>
       obtain ⟨S, vv, ve, vn, hX, P, ba, a4, a3, _, az⟩ := E.2.1
       refine yG ?_
       replace E := QP E
       have hSr : ¬ S J := fun h => Nat.lt_irrefl _ (P.set _ h).1
       have hSl := P.lt
       have hSe := P.eqs.own
       have hSn := P.neqs.own
       have a8 := P.apart
       obtain ⟨X, G, F, _, a9⟩ := P
       have hST2 : ∀ k, S k -> J < k := fun k h => (a9 k h).1
       obtain ⟨U, B, rfl, ak, b3⟩ := X.shp
       obtain ⟨N, y, rfl⟩ := G.shp
       obtain ⟨L, u, rfl⟩ := F.shp
       obtain ⟨rb, T⟩ : ∃ n, n = J + 1 := ⟨_, rfl⟩
       rw [<- T] at G F
       have ag := hX.lt
       replace E := ((((E.sz (show rb <= d8.heap.size by omega)).x hX).r X hSl).a G hSl).a F hSl
       have cr := e3 E
       refine yG ?_
       replace E := qC E
       refine yG ?_
       refine EF O (CI (v := .int .i64 (-1)) O Z O O O cr AH ?_)
       intro hl fu ex
       replace E := oY E cr fu ex (ds := [.slice U q.vars.length B, .slice N q.eqs.length y, .slice L q.neqs.length u, .int .i64 (-1)])
       exact Z2a
     | some m =>
      refine yG ?_
      refine OL O O af O (List.getElem?_eq_some_iff.1 D).1 ?_
      refine yG ?_
      refine V (v := .string (bs (Y.drop 5))) O O (KD (a := Y) (j := 5) O underlying9 O O O AA) ?_
      refine yG ?_
      refine EF O (CB DH O (SH (Y.drop 5) (q.last + 1) 1000000 m _ (by rw [List.length_drop]; omega) AE hm) O E ?_)
      intro d7 ij E
      cases b0 with
      | false =>
       have dj := of_decide_eq_false a7.symm
       have aa : i + 1 < C.length := by omega
       have bm : q.next = 0 := by omega
       obtain ⟨S, vv, ve, vn, hX, P, ba, a4, a3, _, az⟩ := E.2.1
       refine yG ?_
       replace E := QP E
       have hSr : ¬ S J := fun h => Nat.lt_irrefl _ (P.set _ h).1
       have hSl := P.lt
       have hSe := P.eqs.own
       have hSn := P.neqs.own
       have a8 := P.apart
       obtain ⟨X, G, F, _, a9⟩ := P
       have hST2 : ∀ k, S k -> J < k := fun k h => (a9 k h).1
       obtain ⟨U, B, rfl, ak, b3⟩ := X.shp
       obtain ⟨N, y, rfl⟩ := G.shp
       obtain ⟨L, u, rfl⟩ := F.shp
       obtain ⟨rb, T⟩ : ∃ n, n = J + 1 := ⟨_, rfl⟩
       rw [<- T] at G F
       have ag := hX.lt
       replace E := ((((E.sz (show rb <= d7.heap.size by omega)).x hX).r X hSl).a G hSl).a F hSl
       have cp := e3 E
       refine yG ?_
       replace E := qC E
       refine yG ?_
       refine EF O (CI (v := .int .i64 ↑m) O Z O O O cp AH ?_)
       intro c1 fs ev
       replace E := oY E cp fs ev (ds := [.slice U q.vars.length B, .slice N q.eqs.length y, .slice L q.neqs.length u, .int .i64 ↑m])
       have b5 : SyV J c1.heap.size (⟨q.vars, q.eqs, q.neqs, m, q.last⟩) c1 := ⟨S, _, _, _, E.1, ⟨(e3 E).1, by rw [<- T]; exact E.2.2.1.1, by rw [<- T]; exact E.2.1.1, a8, fun k h => ⟨hST2 k h, E.2.2.1.2 k h⟩⟩, fun k h => E.2.2.1.2 k h, fun g hg => (E.2.2.1.1.lt hg).2, fun g hg => (E.2.1.1.lt hg).2, Bx.lt E.1, Nat.le_refl _⟩
       obtain ⟨cg, bt⟩ : ∃ z, z = c1.heap.size := ⟨_, rfl⟩
       rw [<- bt] at b5
       refine yG ?_
       replace E := (E.sz (Nat.le_of_eq bt)).sv b5
       exact ⟨_, (by rw [bn]; omega), (i + 1), cg, (⟨q.vars, q.eqs, q.neqs, m, q.last⟩), _, O, O, zE, O, Pl hJ D aa ae bm hP hm⟩
      | true =>
       obtain ⟨S, vv, ve, vn, hX, P, ba, a4, a3, _, az⟩ := E.2.1
       refine yG ?_
       replace E := QP E
       have hSr : ¬ S J := fun h => Nat.lt_irrefl _ (P.set _ h).1
       have hSl := P.lt
       have hSe := P.eqs.own
       have hSn := P.neqs.own
       have a8 := P.apart
       obtain ⟨X, G, F, _, a9⟩ := P
       have hST2 : ∀ k, S k -> J < k := fun k h => (a9 k h).1
       obtain ⟨U, B, rfl, ak, b3⟩ := X.shp
       obtain ⟨N, y, rfl⟩ := G.shp
       obtain ⟨L, u, rfl⟩ := F.shp
       obtain ⟨rb, T⟩ : ∃ n, n = J + 1 := ⟨_, rfl⟩
       rw [<- T] at G F
       have ag := hX.lt
       replace E := ((((E.sz (show rb <= d7.heap.size by omega)).x hX).r X hSl).a G hSl).a F hSl
       have co := e3 E
       refine yG ?_
       replace E := qC E
       refine yG ?_
       refine EF O (CI (v := .int .i64 ↑m) O Z O O O co AH ?_)
       intro hj fr eu
       replace E := oY E co fr eu (ds := [.slice U q.vars.length B, .slice N q.eqs.length y, .slice L q.neqs.length u, .int .i64 ↑m])
       exact Z2a
  ·
   by_cases i7 : q.next < 1
   case pos =>
    refine yG ?_
    refine V O O (GH O CW O (SyV.nx E.2.1)) ?_
    have cm := e5 E
    refine yG ?_
    replace E := Lu E
    refine yG ?_
    refine EF O (BY JK O O O cm O O (CG O (CG O (CG O (CG O DP)))) ?_)
    intro hh fp es
    replace E := oY E cm fp es (ds := [.slice none 0 0, .slice none 0 0, .slice none 0 0, .int .i64 0])
    have r1 := CL JK E.1 rfl
    refine yG ?_
    exact AQ (v := .tuple #[.agg #[.slice none 0 0, .slice none 0 0, .slice none 0 0, .int .i64 0], .int .i64 ↑(i + 1), .int .i64 440]) (by simp [results, results28, asAddr, r1]; omega) O (OH (n := i + 1) (e := 440) (cQ a6 a2 ((hJ.done D dl dh).trans (if_pos AA))) (NewSy.zero _ _) (e6 E))
   refine yG ?_
   refine V O O (GH O CW O (SyV.nx E.2.1)) ?_
   obtain ⟨S, vv, ve, vn, hX, br, _⟩ := E.2.1
   obtain ⟨U, B, rfl, _, _⟩ := br.vars.shp
   obtain ⟨N, y, rfl⟩ := br.eqs.shp
   obtain ⟨L, u, rfl⟩ := br.neqs.shp
   refine yG ?_
   replace E := (((JD (JD (JD (JD (Env.x (Env.ww (Env.nil _) (e6 E)) (e5 E)) (e4 E)) (e3 E)) E.2.2.1) E.1)).tw br).x hX
   have ck := e6 E
   refine yG ?_
   replace E := dW E
   refine yG ?_
   refine EF O (BY JK O O O ck O O (CG O (CG O (CG O (CG O DP)))) ?_)
   intro hf fo er
   replace E := oY E ck fo er (ds := [.slice U q.vars.length B, .slice N q.eqs.length y, .slice L q.neqs.length u, .int .i64 ↑q.next])
   have r1 := CL JK E.1 rfl
   refine yG ?_
   exact AQ (v := .tuple #[.agg #[.slice U q.vars.length B, .slice N q.eqs.length y, .slice L q.neqs.length u, .int .i64 ↑q.next], .int .i64 0, .int .i64 0]) Ykx O (OH (n := 0) (e := 0) (cQ a6 a2 ((hJ.done D dl dh).trans (if_neg AA))) (Two.row (s := Rs.sy q) E.2.2.1 gh O) (e7 E))
end Go.Proofs.YtmppigbbkjepiaaGreatDoor
