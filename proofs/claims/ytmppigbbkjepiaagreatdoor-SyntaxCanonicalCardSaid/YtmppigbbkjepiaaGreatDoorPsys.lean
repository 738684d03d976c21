/- The reader's methods vars and line. (Printed by g_rdr.py.) syntax.Parse. (Printed by g_psys.py.) -/
import Derived.Test.YtmppigbbkjepiaaGreatDoorRdr
set_option maxHeartbeats 8000000
set_option maxRecDepth 100000
namespace Go.Proofs.YtmppigbbkjepiaaGreatDoor
open Go.Proofs.Tryz
open Go.RowKit W
theorem SK : Fn prog 100 := ⟨_, func100, by kernel_rfl, rfl⟩
theorem RF : Fn prog 102 := ⟨_, func102, by kernel_rfl, rfl⟩
theorem MA : Fn prog 53 := ⟨_, func53, by kernel_rfl, rfl⟩
theorem Pf (r : Nat) (vars : List Bs) (eqs neqs : List En) (next last : Nat) (t : Bs) (w : World) (hR : RdrAt r w ⟨vars, eqs, neqs, next, last⟩) (ht : t.length ≤ 1000000) (hG : Glob w) (hr2 : 2 ≤ r) (_ : vars.length ≤ 1000000) (_ : last ≤ 1000000) :
    Calls prog 100 #[.pointer (some ⟨r, 0, none⟩), .string (bs t)] w (dW r w (VI ⟨vars, eqs, neqs, next, last⟩ t)) := by
 obtain ⟨S, vv, ve, vn, hX, hT⟩ := hR
 dsimp only at hX hT
 have ac : r ≤ w.heap.size := Nat.le_of_lt hX.lt
 have a2 : ¬ S r := fun h => Nat.lt_irrefl _ (hT.set _ h).1
 have z := hT.lt
 have L := hT.eqs.own
 have J := hT.neqs.own
 have aj := hT.apart
 obtain ⟨a1, H, G, _, ak⟩ := hT
 obtain ⟨av, an, rfl, au, aq⟩ := a1.shp
 obtain ⟨aa, U, rfl⟩ := H.shp
 obtain ⟨a9, T, rfl⟩ := G.shp
 obtain ⟨rb, X⟩ : ∃ n, n = r + 1 := ⟨_, rfl⟩
 rw [← X] at H G
 have E := XA ac
 replace E := ((((((E.gl hG).sz (show rb ≤ w.heap.size by have := hX.lt; omega)).x hX).r a1 z).a H z).a G z)
 clear hX a1 H G
 go_enter func100, ntmps100
 obtain ⟨l, p⟩ : ∃ l, l = EN 32 t := ⟨_, rfl⟩
 have ar : l.length ≤ 1000001 := by rw [p]; have := VN 32 t; omega
 have ah : 1 ≤ l.length := by rw [p]; exact List.length_pos_iff.2 (OC 32 t)
 have af := fun g u => (E.2.1.1.lt (g := g) u).2
 have ae := fun g u => (E.1.1.lt (g := g) u).2
 have ap := Bx.lt (e3 E)
 refine yG ?_
 refine EF O (DN TH O ((by have a4 := An t 32 w Z (e5 E).1; rw [← p] at a4; exact a4)) O E ?_)
 clear E
 intro w1 v1 _ f1 E
 replace E := E.sz (Nat.le_refl w1.heap.size)
 obtain ⟨a3, o, rfl, am, _⟩ := f1.shp
 replace E := E.r (e := elS) (S := GL w.heap.size w1.heap.size) f1 (fun _ g => g.2)
 obtain ⟨q, a5⟩ : ∃ a, xS a3 (1 * 1) (decide (o = 1)) = a := ⟨_, rfl⟩
 refine yG ?_
 refine V (v := .slice q (l.length - 1) (o - 1)) O O (HI (i := 1) O underlying30 I O O O Z a5) ?_
 replace E := E.r (e := elS) (S := GL w.heap.size w1.heap.size) (MB E.1.1 Z a5) (E.1.2)
 have x4 := e6 E
 refine yG ?_
 replace E := Ss E
 refine yG ?_
 refine EF O (CF (v := .slice q (l.length - 1) (o - 1)) O I O O O x4 AG ?_)
 intro w3 o3 y3
 replace E := (E.onl (x4.noW (CE AG (CE (Acc.nw (e4 E).1) (CE (Acc.nw (e3 E).1) (CE AG (CE AG CX)))))) ⟨EC (Hb Z), EC (Hb Z), BW, PC (fun h => by have := (Acc.lt (e3 E).1 h).1; omega) (by first | exact a2 | exact L _ u | exact J _ u | exact (fun h => by have := z _ h; omega)), PC (fun h => by have := (Acc.lt (e4 E).1 h).1; omega) (by first | exact a2 | exact L _ u | exact J _ u | exact (fun h => by have := z _ h; omega)), EC (by first | exact a2 | exact L _ u | exact J _ u | exact (fun h => by have := z _ h; omega)), BW, EA Z, oD Z, BW⟩ o3).x (cs := [.slice q (l.length - 1) (o - 1), .slice aa eqs.length U, .slice a9 neqs.length T, .int .i64 ↑next, .int .i64 ↑last]) y3
 clear x4 o3 y3
 obtain ⟨x5, C⟩ : ∃ x, l[0]? = some x := ⟨_, List.getElem?_eq_getElem ah⟩
 obtain ⟨ab, ao, _, a0, al, ai, ad⟩ := IsR.at E.2.2.1.1 C
 obtain rfl := (show _ = [Value.string (bs x5)] from ad)
 have ag : ab < _ := E.2.2.1.2 _ al
 replace E := E.c ai ag
 obtain ⟨S2, B⟩ : ∃ f, f = (fun k => S k ∨ GL w.heap.size w1.heap.size k) := ⟨_, rfl⟩
 have a8 : Acc NH 83 rb S2 w3 (.slice aa eqs.length U) eqs := by rw [B]; exact (e6 E).1.mono (fun _ => .inl) (fun g u hs => hs.elim (L g u) (fun Y => by have := af g u; have := Y.1; omega))
 have a7 : Acc NH 83 rb S2 w3 (.slice a9 neqs.length T) neqs := by rw [B]; exact (e5 E).1.mono (fun _ => .inl) (fun g u hs => hs.elim (J g u) (fun Y => by have := ae g u; have := Y.1; omega))
 have R : IsR elS S2 w3 (.slice q (l.length - 1) (o - 1)) (l.drop 1) := by rw [B]; exact E.2.2.1.1.mono (fun _ => .inr)
 have Q : IsR elS S2 w3 (.slice a3 l.length o) l := by rw [B]; exact (e3 E).1.mono (fun _ => .inr)
 have y : ∀ k, S2 k → k < w3.heap.size := by rw [B]; exact fun k h => h.elim (fun g => (e6 E).2 k g) (fun Y => E.2.2.1.2 k Y)
 have a6 : ∀ k, S2 k → r < k := by rw [B]; exact fun k h => h.elim (fun g => (ak k g).1) (fun Y => by have := Y.1; omega)
 replace E := (((((((RD (Env.x (RD (RD (RD (RD (RD (Env.nil _) (PP E)) (e9 E)) (e8 E)) (e7 E)) (e4 E)) E.2.1) E.1)).r R y)).r Q y)).a a8 y).a a7 y
 clear R Q a8 a7
 have P : (EN 32 t).head? = some x5 := by rw [← p, List.head?_eq_getElem?]; exact C
 have N : (EN 32 t).tail = l.drop 1 := by rw [← p, List.drop_one]
 by_cases D : x5 = vaB
 case neg =>
  refine yG ?_
  refine mZ (j := 0) O O a0 O (List.getElem?_eq_some_iff.1 C).1 ?_
  refine yG ?_
  refine V O O (JY (a := x5) (b := [118, 97, 114, 115]) (c := false) O O O (by rw [beq_eq_false_iff_ne]; exact D)) ?_
  refine yG ?_
  exact (OD (Pd P D) (PP E))
 by_cases F : DS 4 (l.drop 1) = true
 case neg =>
  refine yG ?_
  refine mZ (j := 0) O O a0 O (List.getElem?_eq_some_iff.1 C).1 ?_
  refine yG ?_
  refine V O O (JY (a := x5) (b := [118, 97, 114, 115]) (c := true) O O O (by rw [beq_iff_eq]; exact D)) ?_
  refine yG ?_
  refine V (v := .agg #[.slice q (l.length - 1) (o - 1), .slice none 0 0, .slice none 0 0, .int .i64 1]) I O (OU O O O) ?_
  refine yG ?_
  refine EF O (BY GU O (CQ (QG (DF F)) (QZ (.slice q (l.length - 1) (o - 1)) (l.drop 1) (.slice none 0 0) ([]) (.slice none 0 0) ([]) 1 _ (BV (e3 E)) (IsR.nil _ _ _) (IsR.nil _ _ _) LZ LZ (by simp only [List.length_drop]; omega))) O E ?_)
  clear E
  intro w7 _ E
  refine yG ?_
  exact (OD (Pc N (DF F)) (PP E))
 refine yG ?_
 refine mZ (j := 0) O O a0 O (List.getElem?_eq_some_iff.1 C).1 ?_
 refine yG ?_
 refine V O O (JY (a := x5) (b := [118, 97, 114, 115]) (c := true) O O O (by rw [beq_iff_eq]; exact D)) ?_
 refine yG ?_
 refine V (v := .agg #[.slice q (l.length - 1) (o - 1), .slice none 0 0, .slice none 0 0, .int .i64 1]) I O (OU O O O) ?_
 refine yG ?_
 refine EF O (BY GU O (CQ (Es F) (QZ (.slice q (l.length - 1) (o - 1)) (l.drop 1) (.slice none 0 0) ([]) (.slice none 0 0) ([]) 1 _ (BV (e3 E)) (IsR.nil _ _ _) (IsR.nil _ _ _) LZ LZ (by simp only [List.length_drop]; omega))) O E ?_)
 clear E
 intro w6 _ E
 refine yG ?_
 exact (fY (Pb P D N F) (PP E) ⟨S2, _, _, _, e5 E, ⟨(e3 E).1, (by rw [← X]; exact E.2.1.1), (by rw [← X]; exact E.1.1), aj, fun k h => ⟨a6 k h, (e3 E).2 k h⟩⟩⟩)
theorem Hk (r : Nat) (n : Nat) (vars : List Bs) (eqs neqs : List En) (next last : Nat) (t : Bs) (w : World) (hR : RdrAt r w ⟨vars, eqs, neqs, next, last⟩) (ht : t.length ≤ 1000000) (hG : Glob w) (hr2 : 2 ≤ r) (hvl : vars.length ≤ 1000000) (hla : last ≤ 1000000) :
    Calls prog 53 #[.pointer (some ⟨r, 0, none⟩), .int .i64 ↑n, .string (bs t)] w (dW r w (IP n ⟨vars, eqs, neqs, next, last⟩ t)) := by
 obtain ⟨S, vv, ve, vn, hX, U⟩ := hR
 dsimp only at hX U
 have N : r ≤ w.heap.size := Nat.le_of_lt hX.lt
 have o : ¬ S r := fun h => Nat.lt_irrefl _ (U.set _ h).1
 have f := U.lt
 have q := U.eqs.own
 have p := U.neqs.own
 have R := U.apart
 obtain ⟨T, F, D, _, X⟩ := U
 obtain ⟨a2, G, rfl, a7, a6⟩ := T.shp
 obtain ⟨a4, J, rfl⟩ := F.shp
 obtain ⟨a3, H, rfl⟩ := D.shp
 obtain ⟨rb, l⟩ : ∃ n, n = r + 1 := ⟨_, rfl⟩
 rw [← l] at F D
 have E := XA N
 replace E := ((((((E.gl hG).sz (show rb ≤ w.heap.size by have := hX.lt; omega)).x hX).r T f).a F f).a D f)
 clear hX T F D
 go_enter func53, ntmps53
 by_cases z : n = 1
 case pos =>
  refine yG ?_
  refine EF O (NY SK O (Pf r vars eqs neqs next last t _ ⟨S, _, _, _, e3 E, ⟨E.2.2.1.1, (by rw [← l]; exact E.2.1.1), (by rw [← l]; exact E.1.1), R, fun k h => ⟨(fun k h => (X k h).1) k h, E.2.2.1.2 k h⟩⟩⟩ ht (e5 E).1 hr2 hvl hla) O ?_)
  intro w1 b1 a1 Q
  replace E := (Env.nil w1).be (hn := N) ((e6 E).trans a1)
  clear a1
  refine yG ?_
  exact ⟨b1, rfl, E.1, by rw [li_1 z]; exact Q⟩
 by_cases C : next = 0
 case neg =>
  refine yG ?_
  exact (OD (li_2 z C) (e6 E))
 obtain ⟨u, Y⟩ : ∃ a, Lib.trimPrefix t vM = a := ⟨_, rfl⟩
 have a5 := Bi t vM
 rw [Y] at a5
 cases y : Lib.hasPrefix t vM with
 | false =>
  refine yG ?_
  refine EF O (BZ IZ O ((by have e := SE t ([110, 101, 120, 116, 32]) w; rw [(show Lib.trimPrefix t [110, 101, 120, 116, 32] = _ from Y), (show Lib.hasPrefix t [110, 101, 120, 116, 32] = _ from y)] at e; exact e)) O E ?_)
  clear E
  intro w2 _ E
  refine yG ?_
  refine EF O (NY RF O (Mo r vars eqs neqs next last t _ ⟨S, _, _, _, e3 E, ⟨E.2.2.1.1, (by rw [← l]; exact E.2.1.1), (by rw [← l]; exact E.1.1), R, fun k h => ⟨(fun k h => (X k h).1) k h, E.2.2.1.2 k h⟩⟩⟩ ht (e5 E).1 hr2 hvl hla) O ?_)
  intro w3 b3 a0 P
  replace E := (Env.nil w3).be (hn := N) ((e6 E).trans a0)
  clear a0
  refine yG ?_
  exact ⟨b3, rfl, E.1, by rw [li_5 z C y]; exact P⟩
 | true =>
  refine yG ?_
  refine EF O (BZ IZ O ((by have e := SE t ([110, 101, 120, 116, 32]) w; rw [(show Lib.trimPrefix t [110, 101, 120, 116, 32] = _ from Y), (show Lib.hasPrefix t [110, 101, 120, 116, 32] = _ from y)] at e; exact e)) O E ?_)
  clear E
  intro w4 _ E
  cases B : FC ((last + 1 : Nat) : Int) 1000000 u with
  | none =>
   refine yG ?_
   refine EF O (BZ GM O ((by have e := NK u (last + 1) 1000000 w4 Z AD; rw [show aP (FC ((last + 1 : Nat) : Int) ((1000000 : Nat) : Int) u) = (0, false) from by rw [show FC ((last + 1 : Nat) : Int) ((1000000 : Nat) : Int) u = _ from B]; rfl] at e; exact e)) O E ?_)
   clear E
   intro w5 _ E
   have x7 := e3 E
   refine yG ?_
   replace E := Su E
   refine yG ?_
   refine EF O (CF (v := .int .i64 ((0 : Nat) : Int)) O I O O O x7 AG ?_)
   intro w6 o6 y6
   replace E := (E.onl (x7.noW (CE AG (CE (Acc.nw E.2.1.1) (CE (Acc.nw E.1.1) (CE AG (CE AG CX)))))) ⟨PC (fun h => by have := (Acc.lt E.1.1 h).1; omega) (by first | exact o | exact q _ hg | exact p _ hg | exact (fun h => by have := f _ h; omega)), PC (fun h => by have := (Acc.lt E.2.1.1 h).1; omega) (by first | exact o | exact q _ hg | exact p _ hg | exact (fun h => by have := f _ h; omega)), EC (by first | exact o | exact q _ hg | exact p _ hg | exact (fun h => by have := f _ h; omega)), BW, EA Z, oD Z, BW⟩ o6).x (cs := [.slice a2 vars.length G, .slice a4 eqs.length J, .slice a3 neqs.length H, .int .i64 ((0 : Nat) : Int), .int .i64 ↑last]) y6
   clear x7 o6 y6
   refine yG ?_
   exact (OD (li_3 z C y Y B) (e6 E))
  | some m =>
   refine yG ?_
   refine EF O (BZ GM O ((by have e := NK u (last + 1) 1000000 w4 Z AD; rw [show aP (FC ((last + 1 : Nat) : Int) ((1000000 : Nat) : Int) u) = (m, true) from by rw [show FC ((last + 1 : Nat) : Int) ((1000000 : Nat) : Int) u = _ from B]; rfl] at e; exact e)) O E ?_)
   clear E
   intro w8 _ E
   have L := e3 E
   refine yG ?_
   replace E := Su E
   refine yG ?_
   refine EF O (CF (v := .int .i64 ↑m) O I O O O L AG ?_)
   intro w9 o9 y9
   replace E := (E.onl (L.noW (CE AG (CE (Acc.nw E.2.1.1) (CE (Acc.nw E.1.1) (CE AG (CE AG CX)))))) ⟨PC (fun h => by have := (Acc.lt E.1.1 h).1; omega) (by first | exact o | exact q _ hg | exact p _ hg | exact (fun h => by have := f _ h; omega)), PC (fun h => by have := (Acc.lt E.2.1.1 h).1; omega) (by first | exact o | exact q _ hg | exact p _ hg | exact (fun h => by have := f _ h; omega)), EC (by first | exact o | exact q _ hg | exact p _ hg | exact (fun h => by have := f _ h; omega)), BW, EA Z, oD Z, BW⟩ o9).x (cs := [.slice a2 vars.length G, .slice a4 eqs.length J, .slice a3 neqs.length H, .int .i64 ↑m, .int .i64 ↑last]) y9
   clear L o9 y9
   refine yG ?_
   exact (fY (li_4 z C y Y B) (e6 E) ⟨S, _, _, _, E.1, ⟨(e3 E).1, (by rw [← l]; exact E.2.2.1.1), (by rw [← l]; exact E.2.1.1), R, fun k h => ⟨(fun k h => (X k h).1) k h, (e3 E).2 k h⟩⟩⟩)
end Go.Proofs.YtmppigbbkjepiaaGreatDoor
namespace Go.Proofs.YtmppigbbkjepiaaGreatDoor
open Go.Proofs.Tryz
open Go.RowKit W
theorem Bx.be {w w' : World} {b T n : Nat} {cs : List Value} (h : Bx w b T cs) (hb : b < n) (hw : Below n w w') : Bx w' b T cs := by
  unfold Bx at *; rw [hw.block b hb]; exact h
def fTw (r : Nat) (S : Nat → Prop) (vv ve vn : Value) (vars : List Bs) (eqs neqs : List En) : SF := ⟨fun w => Two r S w vv ve vn vars eqs neqs, fun c => c ≤ r, fun h hb => h.below hb, fun h hn ho hb => h.onl hn ho hb⟩
theorem Env.tw {w : World} {L : List SF} {r : Nat} {S : Nat → Prop} {vv ve vn : Value} {vars : List Bs} {eqs neqs : List En} (E : Env w L) (h : Two r S w vv ve vn vars eqs neqs) : Env w (fTw r S vv ve vn vars eqs neqs :: L) := ⟨h, E⟩
theorem okTw {r c : Nat} {S : Nat → Prop} {vv ve vn : Value} {vars : List Bs} {eqs neqs : List En} (h : c ≤ r) : (fTw r S vv ve vn vars eqs neqs).ok c := h
theorem Gg {r : Nat} {w : World} (h : Bx w r 115 [.slice none 0 0, .slice none 0 0, .slice none 0 0, .int .i64 0, .int .i64 0]) : RdrAt r w wT :=
  ⟨VF, _, _, _, h, ⟨IsR.nil _ _ _, Acc.nil _ _ _ _ _, Acc.nil _ _ _ _ _, fun g hg => by simp [Value.ownBlock] at hg, fun k hk => hk.elim⟩⟩
theorem RdrAt.box {r : Nat} {w : World} {st : Rs} (h : RdrAt r w st) : ∃ S aov lv cv aoe le ce aon ln cn, Bx w r 115 [.slice aov lv cv, .slice aoe le ce, .slice aon ln cn, .int .i64 ↑st.next, .int .i64 ↑st.last] ∧ Two r S w (.slice aov lv cv) (.slice aoe le ce) (.slice aon ln cn) st.vars st.eqs st.neqs := by
  obtain ⟨S, k, o, l, f, e⟩ := h
  obtain ⟨aov, cv, rfl, _⟩ := e.vars.shp
  obtain ⟨aoe, ce, rfl⟩ := e.eqs.shp
  obtain ⟨aon, cn, rfl⟩ := e.neqs.shp
  exact ⟨S, _, _, _, _, _, _, _, _, _, f, e⟩
theorem Two.row {r : Nat} {S : Nat → Prop} {w0 w : World} {vv ve vn : Value} {s : Sy} (h : Two r S w vv ve vn s.vars s.eqs s.neqs) (hr : w0.heap.size ≤ r) {n : Int} (hn : n = ((s.next : Nat) : Int)) : NewSy w0 s w (.agg #[vv, ve, vn, .int .i64 n]) := by subst hn; exact h.sy hr
theorem Li {t : Bs} (h : 100000 < t.length) : GB t = (Dx, 0, 2) := by unfold GB; rw [if_pos h]
theorem yE {t : Bs} {l1 rest : List Bs} {st : Rs} (h : ¬ 100000 < t.length) (hs : EN 10 t = l1 ++ rest) (hr : KR l1 0 wT = some st) (hne : rest ≠ []) : GB t = sJ rest l1.length st := by
  unfold GB; rw [if_neg h, hs, zF hr hne, Nat.zero_add]
theorem Lk {t : Bs} {l1 : List Bs} {st : Rs} (h : ¬ 100000 < t.length) (hs : EN 10 t = l1 ++ EN 10 []) (hr : KR l1 0 wT = some st) (h0 : st.next = 0) : GB t = (Dx, l1.length + 1, 440) := by
  rw [yE h hs hr (by simp [EN])]; simp [EN, sJ, h0]
theorem Lj {t : Bs} {l1 : List Bs} {st : Rs} (h : ¬ 100000 < t.length) (hs : EN 10 t = l1 ++ EN 10 []) (hr : KR l1 0 wT = some st) (h0 : ¬ st.next = 0) : GB t = (st.sy, 0, 0) := by
  rw [yE h hs hr (by simp [EN])]; simp [EN, sJ, h0]
theorem Lh {t tt : Bs} {l1 : List Bs} {st : Rs} (h : ¬ 100000 < t.length) (hs : EN 10 t = l1 ++ EN 10 tt) (hr : KR l1 0 wT = some st) (hne : ¬ tt = []) (hc : LX 10 tt = none) : GB t = (Dx, l1.length + 1, 440) := by
  rw [yE h hs hr (OC _ _), iB 10 (cutB_none.1 hc)]; simp [sJ, hne]
theorem xR {tt x y : Bs} (hc : LX 10 tt = some (x, y)) : EN 10 tt = x :: EN 10 y := by
  obtain ⟨rfl, e⟩ := cutB_some.1 hc; exact nN 10 e
theorem Qh {t tt x y : Bs} {l1 : List Bs} {st : Rs} (h : ¬ 100000 < t.length) (hs : EN 10 t = l1 ++ EN 10 tt) (hr : KR l1 0 wT = some st) (hc : LX 10 tt = some (x, y)) (hl : IP (l1.length + 1) st x = none) : GB t = (Dx, l1.length + 1, 440) := by
  rw [yE h hs hr (OC _ _), xR hc]
  cases e : EN 10 y with
  | nil => exact absurd e (OC _ _)
  | cons a b => simp only [sJ, hl]
theorem Od {t tt x y : Bs} {l1 : List Bs} {st st' : Rs} (hs : EN 10 t = l1 ++ EN 10 tt) (hr : KR l1 0 wT = some st) (hc : LX 10 tt = some (x, y)) (hl : IP (l1.length + 1) st x = some st') : EN 10 t = (l1 ++ [x]) ++ EN 10 y ∧ KR (l1 ++ [x]) 0 wT = some st' := by
  refine ⟨by rw [hs, xR hc]; simp, ?_⟩
  rw [rB hr]; simp only [KR, Nat.zero_add, hl]
theorem Qg {t tt : Bs} {l1 : List Bs} (hs : EN 10 t = l1 ++ EN 10 tt) : l1.length ≤ t.length := by
  have e := VN 10 t
  rw [hs, List.length_append] at e
  have := List.length_pos_iff.2 (OC 10 tt); omega
theorem iO {w0 w' : World} {r : Ps} {s : Sy} {n e : Nat} {v : Value} (h : r = (s, n, e)) (hv : NewSy w0 s w' v) (hb : Below w0.heap.size w0 w') : Jh w0 r (.returned (.tuple #[v, .int .i64 ↑n, .int .i64 ↑e])) w' := by subst h; exact ⟨v, rfl, hv, hb⟩
set_option maxRecDepth 100000 in
set_option maxHeartbeats 8000000 in
theorem bQ (t : Bs) (w : World) (hG : Glob w) :
    Calls prog 18 #[.string (bs t)] w (Jh w (GB t)) := by
 have E := Env.start w
 have ay := hG.two
 replace E := E.gl hG
 go_enter func18, ntmps18
 refine yG ?_
 refine EF O (CA RE O ?_)
 intro U w1 aa z1 d1 q
 have p : w.heap.size ≤ U := by rw [aa]; exact E.2.1.size
 replace E := E.below d1
 clear aa z1 d1
 by_cases B : 100000 < t.length
 case pos =>
  refine yG ?_
  refine EF O (BX RE O O O q O O (CM O (CM O (CM O (CM O EX)))) ?_)
  intro w2 o2 y2
  replace E := (E.onl (q.noW (CE AG (CE AG (CE AG (CE AG CX))))) zK o2).x (cs := [.slice none 0 0, .slice none 0 0, .slice none 0 0, .int .i64 0]) y2
  clear q o2 y2
  have r3 := CY RE E.1 rfl
  refine yG ?_
  exact AP (v := .tuple #[.agg #[.slice none 0 0, .slice none 0 0, .slice none 0 0, .int .i64 0], .int .i64 0, .int .i64 2]) (by simp [results, results18, asAddr, r3]) O (iO (n := 0) (e := 2) (Li B) (NewSy.zero _ _) E.2.2.1)
 refine yG ?_
 refine EF O (CI (cs := [.slice none 0 0, .slice none 0 0, .slice none 0 0, .int .i64 0, .int .i64 0]) O O ?_)
 intro G w4 a9 z4 d4 x4
 have ao : U < G := by rw [a9]; exact Bx.lt (q)
 replace E := E.below d4
 replace q := Bx.below q d4
 clear a9 z4 d4
 replace E := E.x x4
 clear x4
 replace E := E.x q
 clear q
 have aw : w.heap.size ≤ U := by omega
 have a5 : U < G := by omega
 have T : w.heap.size ≤ G := by omega
 have x5 := E.2.1
 refine yG ?_
 replace E := So E
 replace E := E.rd (Gg x5)
 clear x5
 refine yG ?_
 refine wp_loop_ghost (fun mz a w' => ∃ (z : Bs) (p : List Bs) (k : Rs) (n0 : Nat) (f : List Value), f = a.tmps.toList ∧ a = ⟨#[.string (bs z), undef, .pointer (some ⟨U, 0, none⟩), CC f 3, CC f 4, .pointer (some ⟨G, 0, none⟩), .int .i64 ↑n0, CC f 7, CC f 8, CC f 9, .string (bs t), .int .i64 ↑t.length, .bool false, undef, .agg #[.slice none 0 0, .slice none 0 0, .slice none 0 0, .int .i64 0, .int .i64 0], .pointer (some ⟨G, 0, none⟩), CC f 16, CC f 17, CC f 18, CC f 19, CC f 20, CC f 21, CC f 22, CC f 23, CC f 24, CC f 25, CC f 26, CC f 27, CC f 28, CC f 29, CC f 30, CC f 31, CC f 32, CC f 33, CC f 34, CC f 35, CC f 36, CC f 37, undef, undef, undef, undef, undef, undef, undef, undef, undef, undef, undef, undef, undef], []⟩ ∧ Env w' [fRd G k, fX U (48) ([.slice none 0 0, .slice none 0 0, .slice none 0 0, .int .i64 0]), fGl, fW w] ∧ mz = z.length ∧ (EN 10 t = p ++ EN 10 z ∧ KR p 0 wT = some k ∧ z.length ≤ t.length ∧ n0 = p.length)) (t.length) ⟨t, [], wT, 0, _, O, O, zE, O, ⟨O, O, Nat.le_refl _, O⟩⟩ ?_
 rintro m6 _ w6 ⟨z, p, k, n0, f, -, rfl, E, ak, al⟩
 obtain ⟨o, u, ax, a6⟩ := al
 subst a6
 have ap := Qg o
 have N := uV Ov u
 by_cases J : z = []
 case pos =>
  refine yG ?_
  refine V O O (GX (a := z) (b := []) (c := false) O O O (by rw [bne_eq_false_iff_eq]; exact J)) ?_
  rw [J] at o
  obtain ⟨S, ab, lv, cv, ad, le, ce, ac, ln, cn, hX, a8⟩ := E.1.box
  replace E := (((Env.x (RD (Env.ww (Env.nil _) (e3 E)) E.2.2.1) E.2.1)).tw a8).x hX
  clear hX a8
  by_cases a7 : k.next = 0
  case pos =>
   have x8 := E.2.2.1
   refine yG ?_
   replace E := Sq E
   refine yG ?_
   refine EF O (BX RE O O O x8 O O (CM O (CM O (CM O (CM O EX)))) ?_)
   intro w7 o7 y7
   replace E := (E.onl (x8.noW (CE AG (CE AG (CE AG (CE AG CX))))) ⟨CS Z, okTw Z, EA Z, JD Z, BW⟩ o7).x (cs := [.slice none 0 0, .slice none 0 0, .slice none 0 0, .int .i64 0]) y7
   clear x8 o7 y7
   have r9 := CY RE E.1 rfl
   refine yG ?_
   exact AP (v := .tuple #[.agg #[.slice none 0 0, .slice none 0 0, .slice none 0 0, .int .i64 0], .int .i64 ↑(p.length + 1), .int .i64 440]) (by simp [results, results18, asAddr, r9]) O (iO (n := p.length + 1) (e := 440) (Lk B o u a7) (NewSy.zero _ _) (e4 E))
  refine yG ?_
  refine V O O (CD RE O O (Cs.sub (Bx.cs E.1) 0 (Kv _ _ _ _ _)) O) ?_
  have R := E.2.2.1
  replace E := Sq E
  refine yG ?_
  refine EF O (BX RE O O O R O O (CM O (CM O (CM O (CM O EX)))) ?_)
  intro av a4 a0
  replace E := (E.onl (R.noW (CE AG (CE AG (CE AG (CE AG CX))))) ⟨CS Z, okTw Z, EA Z, JD Z, BW⟩ a4).x (cs := [.slice ab lv cv, .slice ad le ce, .slice ac ln cn, .int .i64 ↑k.next]) a0
  clear R a4 a0
  have ah := CY RE E.1 rfl
  refine yG ?_
  exact AP (v := .tuple #[.agg #[.slice ab lv cv, .slice ad le ce, .slice ac ln cn, .int .i64 ↑k.next], .int .i64 0, .int .i64 0]) (by simp [results, results18, asAddr, ah]) O (iO (n := 0) (e := 0) (Lj B o u a7) (Two.row (s := Rs.sy k) E.2.2.1 T O) (e4 E))
 refine yG ?_
 refine V O O (GX (a := z) (b := []) (c := true) O O O (by rw [bne_iff_ne]; exact J)) ?_
 cases y : LX 10 z with
 | none =>
  refine yG ?_
  refine EF O (BZ ID O ((by have h := tV z ([10]) w6 Z E.2.2.1.1; rw [sZ y] at h; exact h)) O E ?_)
  clear E
  intro au _ E
  have Q := E.2.1
  refine yG ?_
  replace E := So E
  refine yG ?_
  refine EF O (BX RE O O O Q O O (CM O (CM O (CM O (CM O EX)))) ?_)
  intro ar a3 Y
  replace E := (E.onl (Q.noW (CE AG (CE AG (CE AG (CE AG CX))))) ⟨okRd Z, EA Z, JD Z, BW⟩ a3).x (cs := [.slice none 0 0, .slice none 0 0, .slice none 0 0, .int .i64 0]) Y
  clear Q a3 Y
  have ag := CY RE E.1 rfl
  refine yG ?_
  exact AP (v := .tuple #[.agg #[.slice none 0 0, .slice none 0 0, .slice none 0 0, .int .i64 0], .int .i64 ↑(p.length + 1), .int .i64 440]) (by simp [results, results18, asAddr, ag]) O (iO (n := p.length + 1) (e := 440) (Lh B o u J y) (NewSy.zero _ _) (e3 E))
 | some xy =>
  obtain ⟨q, y1⟩ := xy
  have ai := (cutB_some.1 y).1
  have aj := congrArg List.length ai
  simp only [List.length_append, List.length_cons] at aj
  refine yG ?_
  refine EF O (BZ ID O ((by have h := tV z ([10]) w6 Z E.2.2.1.1; rw [sY y] at h; exact h)) O E ?_)
  clear E
  intro H _ E
  cases C : IP (p.length + 1) k q with
  | none =>
   refine yG ?_
   refine EF O (NY MA O (by have h : Calls prog 53 _ H (dW G H (IP (p.length + 1) k q)) := Hk G _ k.vars k.eqs k.neqs k.next k.last q _ E.1 Z E.2.2.1.1 Z (by have := N.vars; omega) (by have := N.last; omega); rw [C] at h; exact h) O ?_)
   intro ae an F L
   replace E := ((((Env.nil ae).ww ((e3 E).trans (F.mono T))).gl ((E.2.2.1.1).be Z F)).x (E.2.1.be a5 F))
   obtain rfl : an = false := L
   have P := E.1
   refine yG ?_
   replace E := Sp E
   refine yG ?_
   refine EF O (BX RE O O O P O O (CM O (CM O (CM O (CM O EX)))) ?_)
   intro aq a2 X
   replace E := (E.onl (P.noW (CE AG (CE AG (CE AG (CE AG CX))))) zK a2).x (cs := [.slice none 0 0, .slice none 0 0, .slice none 0 0, .int .i64 0]) X
   clear P a2 X
   have af := CY RE E.1 rfl
   refine yG ?_
   exact AP (v := .tuple #[.agg #[.slice none 0 0, .slice none 0 0, .slice none 0 0, .int .i64 0], .int .i64 ↑(p.length + 1), .int .i64 440]) (by simp [results, results18, asAddr, af]) O (iO (n := p.length + 1) (e := 440) (Qh B o u y C) (NewSy.zero _ _) E.2.2.1)
  | some st2 =>
   refine yG ?_
   refine EF O (NY MA O (by have h : Calls prog 53 _ H (dW G H (IP (p.length + 1) k q)) := Hk G _ k.vars k.eqs k.neqs k.next k.last q _ E.1 Z E.2.2.1.1 Z (by have := N.vars; omega) (by have := N.last; omega); rw [C] at h; exact h) O ?_)
   intro a1 am D l
   replace E := ((((Env.nil a1).ww ((e3 E).trans (D.mono T))).gl ((E.2.2.1.1).be Z D)).x (E.2.1.be a5 D))
   obtain ⟨rfl, l⟩ : am = true ∧ RdrAt G a1 st2 := l
   replace E := E.rd l
   refine yG ?_
   exact ⟨_, (by rw [ak]; omega), y1, (p ++ [q]), st2, (p.length + 1), _, O, O, zE, O, ⟨(Od o u y C).1, (Od o u y C).2, by omega, by simp⟩⟩
end Go.Proofs.YtmppigbbkjepiaaGreatDoor
