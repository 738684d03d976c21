/- Helping facts of Rdr2; no other conditions. Helping facts of Psys; no other conditions. -/
import Derived.Test.YtmppigbbkjepiaaGreatDoorRdr
set_option maxHeartbeats 8000000
set_option maxRecDepth 100000
namespace Go.Proofs.YtmppigbbkjepiaaGreatDoor
open Go.Proofs.Tryz
open Go.RowKit W
theorem TR : Fn prog 100 := ⟨_, func100, by kernel_rfl, rfl⟩
theorem SK : Fn prog 102 := ⟨_, func102, by kernel_rfl, rfl⟩
theorem MZ : Fn prog 53 := ⟨_, func53, by kernel_rfl, rfl⟩
theorem Uw (r : Nat) (vars : List Bs) (eqs neqs : List En) (next last : Nat) (t : Bs) (w : World) (hR : RdrAt r w ⟨vars, eqs, neqs, next, last⟩) (ht : t.length ≤ 1000000) (hG : Glob w) (hr2 : 2 ≤ r) (_ : vars.length ≤ 1000000) (_ : last ≤ 1000000) :
    Calls prog 100 #[.pointer (some ⟨r, 0, none⟩), .string (bs t)] w (gN r w (TX ⟨vars, eqs, neqs, next, last⟩ t)) := by
 obtain ⟨S, vv, ve, vn, hX, X⟩ := hR
 dsimp only at hX X
 have ab : r ≤ w.heap.size := Nat.le_of_lt hX.lt
 have Y : ¬ S r := fun h => Nat.lt_irrefl _ (X.set _ h).1
 have z := X.lt
 have H := X.eqs.own
 have G := X.neqs.own
 have ai := X.apart
 obtain ⟨a3, U, T, _, aj⟩ := X
 obtain ⟨aw, ao, rfl, av, ar⟩ := a3.shp
 obtain ⟨a9, N, rfl⟩ := U.shp
 obtain ⟨a8, L, rfl⟩ := T.shp
 obtain ⟨rb, P⟩ : ∃ n, n = r + 1 := ⟨_, rfl⟩
 rw [← P] at U T
 have E := YH ab
 replace E := ((((((E.gl hG).sz (show rb ≤ w.heap.size by have := hX.lt; omega)).x hX).r a3 z).a U z).a T z)
 go_enter func100, ntmps100
 obtain ⟨l, p⟩ : ∃ l, l = EM 32 t := ⟨_, rfl⟩
 have au : l.length ≤ 1000001 := by rw [p]; have := WR 32 t; omega
 have ag : 1 ≤ l.length := by rw [p]; exact List.length_pos_iff.2 (NK 32 t)
 have ae := fun g u => (E.2.1.1.lt (g := g) u).2
 have ad := fun g u => (E.1.1.lt (g := g) u).2
 have aq := Bx.lt (e3 E)
 refine yG ?_
 refine EF O (CW UI O ((by have a1 := Dw t 32 w AA (e5 E).1; rw [← p] at a1; exact a1)) O E ?_)
 intro w1 v1 d1 f1 E
 replace E := E.sz (Nat.le_refl w1.heap.size)
 obtain ⟨a0, o, rfl, an, _⟩ := f1.shp
 replace E := E.r (e := elS) (S := DX w.heap.size w1.heap.size) f1 (fun _ g => g.2)
 obtain ⟨q, a2⟩ : ∃ a, Bc a0 (1 * 1) (decide (o = 1)) = a := ⟨_, rfl⟩
 refine yG ?_
 refine V (v := .slice q (l.length - 1) (o - 1)) O O (ID (i := 1) O underlying30 Z O O O AA a2) ?_
 replace E := E.r (e := elS) (S := DX w.heap.size w1.heap.size) (NB E.1.1 AA a2) (E.1.2)
 have x4 := e6 E
 refine yG ?_
 replace E := uY E
 refine yG ?_
 refine EF O (CF (v := .slice q (l.length - 1) (o - 1)) O Z O O O x4 AH ?_)
 intro w3 o3 y3
 replace E := (E.onl (x4.noW (CL AH (CL (Acc.nw (e4 E).1) (CL (Acc.nw (e3 E).1) (CL AH (CL AH EB)))))) ⟨DR (MP AA), DR (MP AA), BX, MT (fun h => by have := (Acc.lt (e3 E).1 h).1; omega) (by first | exact Y | exact H _ u | exact G _ u | exact (fun h => by have := z _ h; omega)), MT (fun h => by have := (Acc.lt (e4 E).1 h).1; omega) (by first | exact Y | exact H _ u | exact G _ u | exact (fun h => by have := z _ h; omega)), DR (by first | exact Y | exact H _ u | exact G _ u | exact (fun h => by have := z _ h; omega)), BX, EG AA, qI AA, BX⟩ o3).x (cs := [.slice q (l.length - 1) (o - 1), .slice a9 eqs.length N, .slice a8 neqs.length L, .int .i64 ↑next, .int .i64 ↑last]) y3
 obtain ⟨x5, C⟩ : ∃ x, l[0]? = some x := ⟨_, List.getElem?_eq_getElem ag⟩
 obtain ⟨aa, ap, _, R, ak, ah, ac⟩ := IsR.at E.2.2.1.1 C
 obtain rfl := (show _ = [Value.string (bs x5)] from ac)
 have af : aa < _ := E.2.2.1.2 _ ak
 replace E := E.c ah af
 obtain ⟨S2, B⟩ : ∃ f, f = (fun k => S k ∨ DX w.heap.size w1.heap.size k) := ⟨_, rfl⟩
 have am : Acc NY 83 rb S2 w3 (.slice a9 eqs.length N) eqs := by rw [B]; exact (e6 E).1.mono (fun _ => .inl) (fun g u hs => hs.elim (H g u) (fun Q => by have := ae g u; have := Q.1; omega))
 have al : Acc NY 83 rb S2 w3 (.slice a8 neqs.length L) neqs := by rw [B]; exact (e5 E).1.mono (fun _ => .inl) (fun g u hs => hs.elim (G g u) (fun Q => by have := ad g u; have := Q.1; omega))
 have a7 : IsR elS S2 w3 (.slice q (l.length - 1) (o - 1)) (l.drop 1) := by rw [B]; exact E.2.2.1.1.mono (fun _ => .inr)
 have a6 : IsR elS S2 w3 (.slice a0 l.length o) l := by rw [B]; exact (e3 E).1.mono (fun _ => .inr)
 have y : ∀ k, S2 k → k < w3.heap.size := by rw [B]; exact fun k h => h.elim (fun g => (e6 E).2 k g) (fun Q => E.2.2.1.2 k Q)
 have a4 : ∀ k, S2 k → r < k := by rw [B]; exact fun k h => h.elim (fun g => (aj k g).1) (fun Q => by have := Q.1; omega)
 replace E := (((((((GB (Env.x (GB (GB (GB (GB (GB (Env.nil _) (QM E)) (e9 E)) (e8 E)) (e7 E)) (e4 E)) E.2.1) E.1)).r a7 y)).r a6 y)).a am y).a al y
 have J : (EM 32 t).head? = some x5 := by rw [← p, List.head?_eq_getElem?]; exact C
 have I : (EM 32 t).tail = l.drop 1 := by rw [← p, List.drop_one]
 by_cases D : x5 = vaB
 case neg =>
  refine yG ?_
  refine iD (j := 0) O O R O (List.getElem?_eq_some_iff.1 C).1 ?_
  refine yG ?_
  refine V O O (MU (a := x5) (b := [118, 97, 114, 115]) (c := false) O O O (by rw [beq_eq_false_iff_ne]; exact D)) ?_
  refine yG ?_
  exact (PD (Ut J D) (QM E))
 by_cases F : DF 4 (l.drop 1) = true
 case neg =>
  refine yG ?_
  refine iD (j := 0) O O R O (List.getElem?_eq_some_iff.1 C).1 ?_
  refine yG ?_
  refine V O O (MU (a := x5) (b := [118, 97, 114, 115]) (c := true) O O O (by rw [beq_iff_eq]; exact D)) ?_
  refine yG ?_
  refine V (v := .agg #[.slice q (l.length - 1) (o - 1), .slice none 0 0, .slice none 0 0, .int .i64 1]) Z O (NQ O O O) ?_
  refine yG ?_
  refine EF O (CA HH O (CU (bE (ET F)) (SD (.slice q (l.length - 1) (o - 1)) (l.drop 1) (.slice none 0 0) ([]) (.slice none 0 0) ([]) 1 _ (BW (e3 E)) (IsR.nil _ _ _) (IsR.nil _ _ _) MV MV (by simp only [List.length_drop]; omega))) O E ?_)
  intro w7 d7 E
  refine yG ?_
  exact (PD (Us I (ET F)) (QM E))
 refine yG ?_
 refine iD (j := 0) O O R O (List.getElem?_eq_some_iff.1 C).1 ?_
 refine yG ?_
 refine V O O (MU (a := x5) (b := [118, 97, 114, 115]) (c := true) O O O (by rw [beq_iff_eq]; exact D)) ?_
 refine yG ?_
 refine V (v := .agg #[.slice q (l.length - 1) (o - 1), .slice none 0 0, .slice none 0 0, .int .i64 1]) Z O (NQ O O O) ?_
 refine yG ?_
 refine EF O (CA HH O (CU (Jk F) (SD (.slice q (l.length - 1) (o - 1)) (l.drop 1) (.slice none 0 0) ([]) (.slice none 0 0) ([]) 1 _ (BW (e3 E)) (IsR.nil _ _ _) (IsR.nil _ _ _) MV MV (by simp only [List.length_drop]; omega))) O E ?_)
 intro w6 d6 E
 refine yG ?_
 exact (iK (Ur J D I F) (QM E) ⟨S2, _, _, _, e5 E, ⟨(e3 E).1, (by rw [← P]; exact E.2.1.1), (by rw [← P]; exact E.1.1), ai, fun k h => ⟨a4 k h, (e3 E).2 k h⟩⟩⟩)
theorem Lz (r : Nat) (n : Nat) (vars : List Bs) (eqs neqs : List En) (next last : Nat) (t : Bs) (w : World) (hR : RdrAt r w ⟨vars, eqs, neqs, next, last⟩) (ht : t.length ≤ 1000000) (hG : Glob w) (hr2 : 2 ≤ r) (hvl : vars.length ≤ 1000000) (hla : last ≤ 1000000) :
    Calls prog 53 #[.pointer (some ⟨r, 0, none⟩), .int .i64 ↑n, .string (bs t)] w (gN r w (FS n ⟨vars, eqs, neqs, next, last⟩ t)) := by
 obtain ⟨S, vv, ve, vn, hX, Q⟩ := hR
 dsimp only at hX Q
 have H : r ≤ w.heap.size := Nat.le_of_lt hX.lt
 have o : ¬ S r := fun h => Nat.lt_irrefl _ (Q.set _ h).1
 have f := Q.lt
 have q := Q.eqs.own
 have p := Q.neqs.own
 have L := Q.apart
 obtain ⟨X, P, N, _, R⟩ := Q
 obtain ⟨Y, D, rfl, a7, a6⟩ := X.shp
 obtain ⟨a1, G, rfl⟩ := P.shp
 obtain ⟨a0, F, rfl⟩ := N.shp
 obtain ⟨rb, l⟩ : ∃ n, n = r + 1 := ⟨_, rfl⟩
 rw [← l] at P N
 have E := YH H
 replace E := ((((((E.gl hG).sz (show rb ≤ w.heap.size by have := hX.lt; omega)).x hX).r X f).a P f).a N f)
 go_enter func53, ntmps53
 by_cases z : n = 1
 case pos =>
  refine yG ?_
  refine EF O (OW TR O (Uw r vars eqs neqs next last t _ ⟨S, _, _, _, e3 E, ⟨E.2.2.1.1, (by rw [← l]; exact E.2.1.1), (by rw [← l]; exact E.1.1), L, fun k h => ⟨(fun k h => (R k h).1) k h, E.2.2.1.2 k h⟩⟩⟩ ht (e5 E).1 hr2 hvl hla) O ?_)
  intro w1 b1 a4 J
  replace E := (Env.nil w1).be (hn := H) ((e6 E).trans a4)
  refine yG ?_
  exact ⟨b1, rfl, E.1, by rw [li_1 z]; exact J⟩
 by_cases C : next = 0
 case neg =>
  refine yG ?_
  exact (PD (li_2 z C) (e6 E))
 obtain ⟨u, U⟩ : ∃ a, Lib.trimPrefix t nxB = a := ⟨_, rfl⟩
 have a2 := Eu t nxB
 rw [U] at a2
 cases y : Lib.hasPrefix t nxB with
 | false =>
  refine yG ?_
  refine EF O (BZ JH O ((by have e := TN t ([110, 101, 120, 116, 32]) w; rw [(show Lib.trimPrefix t [110, 101, 120, 116, 32] = _ from U), (show Lib.hasPrefix t [110, 101, 120, 116, 32] = _ from y)] at e; exact e)) O E ?_)
  intro w2 d2 E
  refine yG ?_
  refine EF O (OW SK O (Ry r vars eqs neqs next last t _ ⟨S, _, _, _, e3 E, ⟨E.2.2.1.1, (by rw [← l]; exact E.2.1.1), (by rw [← l]; exact E.1.1), L, fun k h => ⟨(fun k h => (R k h).1) k h, E.2.2.1.2 k h⟩⟩⟩ ht (e5 E).1 hr2 hvl hla) O ?_)
  intro w3 b3 a3 I
  replace E := (Env.nil w3).be (hn := H) ((e6 E).trans a3)
  refine yG ?_
  exact ⟨b3, rfl, E.1, by rw [li_5 z C y]; exact I⟩
 | true =>
  refine yG ?_
  refine EF O (BZ JH O ((by have e := TN t ([110, 101, 120, 116, 32]) w; rw [(show Lib.trimPrefix t [110, 101, 120, 116, 32] = _ from U), (show Lib.hasPrefix t [110, 101, 120, 116, 32] = _ from y)] at e; exact e)) O E ?_)
  intro w4 d4 E
  cases B : FI ((last + 1 : Nat) : Int) 1000000 u with
  | none =>
   refine yG ?_
   refine EF O (BZ GT O ((by have e := OD u (last + 1) 1000000 w4 AA AE; rw [show cA (FI ((last + 1 : Nat) : Int) ((1000000 : Nat) : Int) u) = (0, false) from by rw [show FI ((last + 1 : Nat) : Int) ((1000000 : Nat) : Int) u = _ from B]; rfl] at e; exact e)) O E ?_)
   intro w5 d5 E
   have x7 := e3 E
   refine yG ?_
   replace E := Iz E
   refine yG ?_
   refine EF O (CF (v := .int .i64 ((0 : Nat) : Int)) O Z O O O x7 AH ?_)
   intro w6 o6 y6
   replace E := (E.onl (x7.noW (CL AH (CL (Acc.nw E.2.1.1) (CL (Acc.nw E.1.1) (CL AH (CL AH EB)))))) ⟨MT (fun h => by have := (Acc.lt E.1.1 h).1; omega) (by first | exact o | exact q _ hg | exact p _ hg | exact (fun h => by have := f _ h; omega)), MT (fun h => by have := (Acc.lt E.2.1.1 h).1; omega) (by first | exact o | exact q _ hg | exact p _ hg | exact (fun h => by have := f _ h; omega)), DR (by first | exact o | exact q _ hg | exact p _ hg | exact (fun h => by have := f _ h; omega)), BX, EG AA, qI AA, BX⟩ o6).x (cs := [.slice Y vars.length D, .slice a1 eqs.length G, .slice a0 neqs.length F, .int .i64 ((0 : Nat) : Int), .int .i64 ↑last]) y6
   refine yG ?_
   exact (PD (li_3 z C y U B) (e6 E))
  | some m =>
   refine yG ?_
   refine EF O (BZ GT O ((by have e := OD u (last + 1) 1000000 w4 AA AE; rw [show cA (FI ((last + 1 : Nat) : Int) ((1000000 : Nat) : Int) u) = (m, true) from by rw [show FI ((last + 1 : Nat) : Int) ((1000000 : Nat) : Int) u = _ from B]; rfl] at e; exact e)) O E ?_)
   intro w8 d8 E
   have T := e3 E
   refine yG ?_
   replace E := Iz E
   refine yG ?_
   refine EF O (CF (v := .int .i64 ↑m) O Z O O O T AH ?_)
   intro w9 o9 y9
   replace E := (E.onl (T.noW (CL AH (CL (Acc.nw E.2.1.1) (CL (Acc.nw E.1.1) (CL AH (CL AH EB)))))) ⟨MT (fun h => by have := (Acc.lt E.1.1 h).1; omega) (by first | exact o | exact q _ hg | exact p _ hg | exact (fun h => by have := f _ h; omega)), MT (fun h => by have := (Acc.lt E.2.1.1 h).1; omega) (by first | exact o | exact q _ hg | exact p _ hg | exact (fun h => by have := f _ h; omega)), DR (by first | exact o | exact q _ hg | exact p _ hg | exact (fun h => by have := f _ h; omega)), BX, EG AA, qI AA, BX⟩ o9).x (cs := [.slice Y vars.length D, .slice a1 eqs.length G, .slice a0 neqs.length F, .int .i64 ↑m, .int .i64 ↑last]) y9
   refine yG ?_
   exact (iK (li_4 z C y U B) (e6 E) ⟨S, _, _, _, E.1, ⟨(e3 E).1, (by rw [← l]; exact E.2.2.1.1), (by rw [← l]; exact E.2.1.1), L, fun k h => ⟨(fun k h => (R k h).1) k h, (e3 E).2 k h⟩⟩⟩)
end Go.Proofs.YtmppigbbkjepiaaGreatDoor
namespace Go.Proofs.YtmppigbbkjepiaaGreatDoor
open Go.Proofs.Tryz
open Go.RowKit W
theorem Bx.be {w w' : World} {b T n : Nat} {cs : List Value} (h : Bx w b T cs) (hb : b < n) (hw : Below n w w') : Bx w' b T cs := by
  unfold Bx at *; rw [hw.block b hb]; exact h
def fTw (r : Nat) (S : Nat → Prop) (vv ve vn : Value) (vars : List Bs) (eqs neqs : List En) : SF := ⟨fun w => Two r S w vv ve vn vars eqs neqs, fun c => c ≤ r, fun h hb => h.below hb, fun h hn ho hb => h.onl hn ho hb⟩
theorem Env.tw {w : World} {L : List SF} {r : Nat} {S : Nat → Prop} {vv ve vn : Value} {vars : List Bs} {eqs neqs : List En} (E : Env w L) (h : Two r S w vv ve vn vars eqs neqs) : Env w (fTw r S vv ve vn vars eqs neqs :: L) := ⟨h, E⟩
theorem okTw {r c : Nat} {S : Nat → Prop} {vv ve vn : Value} {vars : List Bs} {eqs neqs : List En} (h : c ≤ r) : (fTw r S vv ve vn vars eqs neqs).ok c := h
theorem Kv {r : Nat} {w : World} (h : Bx w r 115 [.slice none 0 0, .slice none 0 0, .slice none 0 0, .int .i64 0, .int .i64 0]) : RdrAt r w vU :=
  ⟨WI, _, _, _, h, ⟨IsR.nil _ _ _, Acc.nil _ _ _ _ _, Acc.nil _ _ _ _ _, fun g hg => by simp [Value.ownBlock] at hg, fun k hk => hk.elim⟩⟩
theorem RdrAt.box {r : Nat} {w : World} {st : Rs} (h : RdrAt r w st) : ∃ S aov lv cv aoe le ce aon ln cn, Bx w r 115 [.slice aov lv cv, .slice aoe le ce, .slice aon ln cn, .int .i64 ↑st.next, .int .i64 ↑st.last] ∧ Two r S w (.slice aov lv cv) (.slice aoe le ce) (.slice aon ln cn) st.vars st.eqs st.neqs := by
  obtain ⟨S, k, o, l, f, e⟩ := h
  obtain ⟨aov, cv, rfl, _⟩ := e.vars.shp
  obtain ⟨aoe, ce, rfl⟩ := e.eqs.shp
  obtain ⟨aon, cn, rfl⟩ := e.neqs.shp
  exact ⟨S, _, _, _, _, _, _, _, _, _, f, e⟩
theorem Two.row {r : Nat} {S : Nat → Prop} {w0 w : World} {vv ve vn : Value} {s : Sy} (h : Two r S w vv ve vn s.vars s.eqs s.neqs) (hr : w0.heap.size ≤ r) {n : Int} (hn : n = ((s.next : Nat) : Int)) : NewSy w0 s w (.agg #[vv, ve, vn, .int .i64 n]) := by subst hn; exact h.sy hr
theorem Qm {t : Bs} (h : 100000 < t.length) : FZ t = (Ii, 0, 2) := by unfold FZ; rw [if_pos h]
theorem Bq {t : Bs} {l1 rest : List Bs} {st : Rs} (h : ¬ 100000 < t.length) (hs : EM 10 t = l1 ++ rest) (hr : IV l1 0 vU = some st) (hne : rest ≠ []) : FZ t = oQ rest l1.length st := by
  unfold FZ; rw [if_neg h, hs, iS hr hne, Nat.zero_add]
theorem Qo {t : Bs} {l1 : List Bs} {st : Rs} (h : ¬ 100000 < t.length) (hs : EM 10 t = l1 ++ EM 10 []) (hr : IV l1 0 vU = some st) (h0 : st.next = 0) : FZ t = (Ii, l1.length + 1, 440) := by
  rw [Bq h hs hr (by simp [EM])]; simp [EM, oQ, h0]
theorem Qn {t : Bs} {l1 : List Bs} {st : Rs} (h : ¬ 100000 < t.length) (hs : EM 10 t = l1 ++ EM 10 []) (hr : IV l1 0 vU = some st) (h0 : ¬ st.next = 0) : FZ t = (st.sy, 0, 0) := by
  rw [Bq h hs hr (by simp [EM])]; simp [EM, oQ, h0]
theorem Ql {t tt : Bs} {l1 : List Bs} {st : Rs} (h : ¬ 100000 < t.length) (hs : EM 10 t = l1 ++ EM 10 tt) (hr : IV l1 0 vU = some st) (hne : ¬ tt = []) (hc : MQ 10 tt = none) : FZ t = (Ii, l1.length + 1, 440) := by
  rw [Bq h hs hr (NK _ _), bH 10 (cutB_none.1 hc)]; simp [oQ, hne]
theorem Bb {tt x y : Bs} (hc : MQ 10 tt = some (x, y)) : EM 10 tt = x :: EM 10 y := by
  obtain ⟨rfl, e⟩ := cutB_some.1 hc; exact bI 10 e
theorem Vw {t tt x y : Bs} {l1 : List Bs} {st : Rs} (h : ¬ 100000 < t.length) (hs : EM 10 t = l1 ++ EM 10 tt) (hr : IV l1 0 vU = some st) (hc : MQ 10 tt = some (x, y)) (hl : FS (l1.length + 1) st x = none) : FZ t = (Ii, l1.length + 1, 440) := by
  rw [Bq h hs hr (NK _ _), Bb hc]
  cases e : EM 10 y with
  | nil => exact absurd e (NK _ _)
  | cons a b => simp only [oQ, hl]
theorem Ty {t tt x y : Bs} {l1 : List Bs} {st st' : Rs} (hs : EM 10 t = l1 ++ EM 10 tt) (hr : IV l1 0 vU = some st) (hc : MQ 10 tt = some (x, y)) (hl : FS (l1.length + 1) st x = some st') : EM 10 t = (l1 ++ [x]) ++ EM 10 y ∧ IV (l1 ++ [x]) 0 vU = some st' := by
  refine ⟨by rw [hs, Bb hc]; simp, ?_⟩
  rw [jR hr]; simp only [IV, Nat.zero_add, hl]
theorem Vv {t tt : Bs} {l1 : List Bs} (hs : EM 10 t = l1 ++ EM 10 tt) : l1.length ≤ t.length := by
  have e := WR 10 t
  rw [hs, List.length_append] at e
  have := List.length_pos_iff.2 (NK 10 tt); omega
theorem kB {w0 w' : World} {r : Ps} {s : Sy} {n e : Nat} {v : Value} (h : r = (s, n, e)) (hv : NewSy w0 s w' v) (hb : Below w0.heap.size w0 w') : Oo w0 r (.returned (.tuple #[v, .int .i64 ↑n, .int .i64 ↑e])) w' := by subst h; exact ⟨v, rfl, hv, hb⟩
set_option maxRecDepth 100000 in
set_option maxHeartbeats 8000000 in
theorem YC (t : Bs) (w : World) (hG : Glob w) :
    Calls prog 18 #[.string (bs t)] w (Oo w (FZ t)) := by
 have E := Env.start w
 have ay := hG.two
 replace E := E.gl hG
 go_enter func18, ntmps18
 refine yG ?_
 refine EF O (CB LK O ?_)
 intro P w1 al z1 d1 y
 have p : w.heap.size ≤ P := by rw [al]; exact E.2.1.size
 replace E := E.below d1
 by_cases B : 100000 < t.length
 case pos =>
  refine yG ?_
  refine EF O (BY LK O O O y O O (CG O (CG O (CG O (CG O ED)))) ?_)
  intro w2 o2 y2
  replace E := oY E y o2 y2 (ds := [.slice none 0 0, .slice none 0 0, .slice none 0 0, .int .i64 0])
  have r3 := CY LK E.1 rfl
  refine yG ?_
  exact AQ (v := .tuple #[.agg #[.slice none 0 0, .slice none 0 0, .slice none 0 0, .int .i64 0], .int .i64 0, .int .i64 2]) (by simp [results, results18, asAddr, r3]) O (kB (n := 0) (e := 2) (Qm B) (NewSy.zero _ _) E.2.2.1)
 refine yG ?_
 refine EF O (CI (cs := [.slice none 0 0, .slice none 0 0, .slice none 0 0, .int .i64 0, .int .i64 0]) O O ?_)
 intro G w4 ak z4 d4 x4
 have ao : P < G := by rw [ak]; exact Bx.lt (y)
 replace E := E.below d4
 replace y := Bx.below y d4
 replace E := E.x x4
 replace E := E.x y
 have aw : w.heap.size ≤ P := by omega
 have X : P < G := by omega
 have N : w.heap.size ≤ G := by omega
 have x5 := E.2.1
 refine yG ?_
 replace E := XQ E
 replace E := E.rd (Kv x5)
 refine yG ?_
 refine wp_loop_ghost (fun mz a w' => ∃ (z : Bs) (p : List Bs) (k : Rs) (n0 : Nat) (f : List Value), f = a.tmps.toList ∧ a = ⟨#[.string (bs z), undef, .pointer (some ⟨P, 0, none⟩), CE f 3, CE f 4, .pointer (some ⟨G, 0, none⟩), .int .i64 ↑n0, CE f 7, CE f 8, CE f 9, .string (bs t), .int .i64 ↑t.length, .bool false, undef, .agg #[.slice none 0 0, .slice none 0 0, .slice none 0 0, .int .i64 0, .int .i64 0], .pointer (some ⟨G, 0, none⟩), CE f 16, CE f 17, CE f 18, CE f 19, CE f 20, CE f 21, CE f 22, CE f 23, CE f 24, CE f 25, CE f 26, CE f 27, CE f 28, CE f 29, CE f 30, CE f 31, CE f 32, CE f 33, CE f 34, CE f 35, CE f 36, CE f 37, undef, undef, undef, undef, undef, undef, undef, undef, undef, undef, undef, undef, undef], []⟩ ∧ Env w' [fRd G k, fX P (48) ([.slice none 0 0, .slice none 0 0, .slice none 0 0, .int .i64 0]), fGl, fW w] ∧ mz = z.length ∧ (EM 10 t = p ++ EM 10 z ∧ IV p 0 vU = some k ∧ z.length ≤ t.length ∧ n0 = p.length)) (t.length) ⟨t, [], vU, 0, _, O, O, zE, O, ⟨O, O, Nat.le_refl _, O⟩⟩ ?_
 rintro m6 _ w6 ⟨z, p, k, n0, f, -, rfl, E, ah, aj⟩
 obtain ⟨o, q, ax, Y⟩ := aj
 subst Y
 have ap := Vv o
 have L := xK Uk q
 by_cases I : z = []
 case pos =>
  refine yG ?_
  refine V O O (GR (a := z) (b := []) (c := false) O O O (by rw [bne_eq_false_iff_eq]; exact I)) ?_
  rw [I] at o
  obtain ⟨S, a1, lv, cv, a3, le, ce, a2, ln, cn, hX, ai⟩ := E.1.box
  replace E := (((Env.x (GB (Env.ww (Env.nil _) (e3 E)) E.2.2.1) E.2.1)).tw ai).x hX
  by_cases a0 : k.next = 0
  case pos =>
   have x8 := E.2.2.1
   refine yG ?_
   replace E := mC E
   refine yG ?_
   refine EF O (BY LK O O O x8 O O (CG O (CG O (CG O (CG O ED)))) ?_)
   intro w7 o7 y7
   replace E := (E.onl (x8.noW (CL AH (CL AH (CL AH (CL AH EB))))) ⟨CQ AA, okTw AA, EG AA, IS AA, BX⟩ o7).x (cs := [.slice none 0 0, .slice none 0 0, .slice none 0 0, .int .i64 0]) y7
   have r9 := CY LK E.1 rfl
   refine yG ?_
   exact AQ (v := .tuple #[.agg #[.slice none 0 0, .slice none 0 0, .slice none 0 0, .int .i64 0], .int .i64 ↑(p.length + 1), .int .i64 440]) (by simp [results, results18, asAddr, r9]) O (kB (n := p.length + 1) (e := 440) (Qo B o q a0) (NewSy.zero _ _) (e4 E))
  refine yG ?_
  refine V O O (CD LK O O (Cs.sub (Bx.cs E.1) 0 (Pz _ _ _ _ _)) O) ?_
  have T := E.2.2.1
  replace E := mC E
  refine yG ?_
  refine EF O (BY LK O O O T O O (CG O (CG O (CG O (CG O ED)))) ?_)
  intro av ae a7
  replace E := (E.onl (T.noW (CL AH (CL AH (CL AH (CL AH EB))))) ⟨CQ AA, okTw AA, EG AA, IS AA, BX⟩ ae).x (cs := [.slice a1 lv cv, .slice a3 le ce, .slice a2 ln cn, .int .i64 ↑k.next]) a7
  have ab := CY LK E.1 rfl
  refine yG ?_
  exact AQ (v := .tuple #[.agg #[.slice a1 lv cv, .slice a3 le ce, .slice a2 ln cn, .int .i64 ↑k.next], .int .i64 0, .int .i64 0]) (by simp [results, results18, asAddr, ab]) O (kB (n := 0) (e := 0) (Qn B o q a0) (Two.row (s := Rs.sy k) E.2.2.1 N O) (e4 E))
 refine yG ?_
 refine V O O (GR (a := z) (b := []) (c := true) O O O (by rw [bne_iff_ne]; exact I)) ?_
 cases u : MQ 10 z with
 | none =>
  refine yG ?_
  refine EF O (BZ IJ O ((by have h := wI z ([10]) w6 AA E.2.2.1.1; rw [vG u] at h; exact h)) O E ?_)
  intro au b0 E
  have R := E.2.1
  refine yG ?_
  replace E := XQ E
  refine yG ?_
  refine EF O (BY LK O O O R O O (CG O (CG O (CG O (CG O ED)))) ?_)
  intro ar ad a6
  replace E := (E.onl (R.noW (CL AH (CL AH (CL AH (CL AH EB))))) ⟨okRd AA, EG AA, IS AA, BX⟩ ad).x (cs := [.slice none 0 0, .slice none 0 0, .slice none 0 0, .int .i64 0]) a6
  have aa := CY LK E.1 rfl
  refine yG ?_
  exact AQ (v := .tuple #[.agg #[.slice none 0 0, .slice none 0 0, .slice none 0 0, .int .i64 0], .int .i64 ↑(p.length + 1), .int .i64 440]) (by simp [results, results18, asAddr, aa]) O (kB (n := p.length + 1) (e := 440) (Ql B o q I u) (NewSy.zero _ _) (e3 E))
 | some xy =>
  obtain ⟨y, y1⟩ := xy
  have af := (cutB_some.1 u).1
  have ag := congrArg List.length af
  simp only [List.length_append, List.length_cons] at ag
  refine yG ?_
  refine EF O (BZ IJ O ((by have h := wI z ([10]) w6 AA E.2.2.1.1; rw [vF u] at h; exact h)) O E ?_)
  intro H az E
  cases C : FS (p.length + 1) k y with
  | none =>
   refine yG ?_
   refine EF O (OW MZ O (by have h : Calls prog 53 _ H (gN G H (FS (p.length + 1) k y)) := Lz G _ k.vars k.eqs k.neqs k.next k.last y _ E.1 AA E.2.2.1.1 AA (by have := L.vars; omega) (by have := L.last; omega); rw [C] at h; exact h) O ?_)
   intro a8 an F J
   replace E := ((((Env.nil a8).ww ((e3 E).trans (F.mono N))).gl ((E.2.2.1.1).be AA F)).x (E.2.1.be X F))
   obtain rfl : an = false := J
   have Q := E.1
   refine yG ?_
   replace E := WJ E
   refine yG ?_
   refine EF O (BY LK O O O Q O O (CG O (CG O (CG O (CG O ED)))) ?_)
   intro aq ac a4
   replace E := oY E Q ac a4 (ds := [.slice none 0 0, .slice none 0 0, .slice none 0 0, .int .i64 0])
   have a9 := CY LK E.1 rfl
   refine yG ?_
   exact AQ (v := .tuple #[.agg #[.slice none 0 0, .slice none 0 0, .slice none 0 0, .int .i64 0], .int .i64 ↑(p.length + 1), .int .i64 440]) (by simp [results, results18, asAddr, a9]) O (kB (n := p.length + 1) (e := 440) (Vw B o q u C) (NewSy.zero _ _) E.2.2.1)
  | some st2 =>
   refine yG ?_
   refine EF O (OW MZ O (by have h : Calls prog 53 _ H (gN G H (FS (p.length + 1) k y)) := Lz G _ k.vars k.eqs k.neqs k.next k.last y _ E.1 AA E.2.2.1.1 AA (by have := L.vars; omega) (by have := L.last; omega); rw [C] at h; exact h) O ?_)
   intro U am D l
   replace E := ((((Env.nil U).ww ((e3 E).trans (D.mono N))).gl ((E.2.2.1.1).be AA D)).x (E.2.1.be X D))
   obtain ⟨rfl, l⟩ : am = true ∧ RdrAt G U st2 := l
   replace E := E.rd l
   refine yG ?_
   exact ⟨_, (by rw [ah]; omega), y1, (p ++ [y]), st2, (p.length + 1), _, O, O, zE, O, ⟨(Ty o q u C).1, (Ty o q u C).2, by omega, by simp⟩⟩
end Go.Proofs.YtmppigbbkjepiaaGreatDoor
