/- Valid systems: package system's and the reference's; package syntax's isList. (Printed by g_sys.py.) -/
import Derived.Test.YtmppigbbkjepiaaGreatDoorAddP
set_option maxHeartbeats 8000000
set_option maxRecDepth 100000
namespace Go.Proofs.YtmppigbbkjepiaaGreatDoor
open Go.Proofs.Tryz
open Go.RowKit W
theorem sN {n : Nat} {p : List Tm} (h1 : EZ p < 2 ^ n) (h2 : RH p ≤ 12) : LW n p = true := by unfold LW; rw [decide_eq_true h1, decide_eq_true h2]; rfl
theorem gH {n : Nat} {p : List Tm} (h : ¬ EZ p < 2 ^ n ∨ ¬ RH p ≤ 12) : LW n p = false := by
  unfold LW
  rcases h with h | h
  · rw [decide_eq_false h]; rfl
  · rw [decide_eq_false h, Bool.and_false]
theorem VH (p : List Tm) : IntKind.i64.wrap ((EZ p : Nat) : Int) = ((EZ p : Nat) : Int) := by have := VJ p; exact ST rfl Z
theorem xG {n : Nat} (h : n ≤ 8) : IntKind.u64.wrap ((n : Nat) : Int) = ((n : Nat) : Int) := EJ rfl Z
theorem gY (p : List Tm) : EZ p < 2 ^ IntKind.i64.bits := Nat.lt_of_lt_of_le (VJ p) AD
theorem xL (p : List Tm) : EZ p < 2 ^ IntKind.u8.bits := VJ p
theorem Ii {p : Prop} [Decidable p] {b : Bool} (h : b = decide p) (hp : p) : b = true := by rw [h, decide_eq_true hp]
theorem Oq {p : Prop} [Decidable p] {b : Bool} (h : b = decide p) (hp : ¬ p) : b = false := by rw [h, decide_eq_false hp]
theorem oV (vp : Value) (p : List Tm) (n : Nat) (w : World) (hRp : IsR KG (DI w.heap.size) w vp p) (hp : GW p) (hF : ∀ t ∈ p, FitQ t.1 1000000) (hL : p.length ≤ 1000000) :
    Calls prog 95 #[vp, .int .i64 ↑n] w (JO w (LW n p)) := by
 have E := Env.start w
 obtain ⟨o, h, rfl, l, k⟩ := hRp.shp
 replace E := E.r hRp (DM _)
 clear hRp
 go_enter func95, ntmps95
 by_cases e : EZ p < 2 ^ n
 case neg =>
  refine yG ?_
  refine EF O (BY GZ O (WW _ p _ (BV E.1) hp hF hL) O E ?_)
  clear E
  intro u _ E
  refine yG ?_
  refine EF O (BZ IE O (bS _ p _ (BV E.1) hL) O E ?_)
  clear E
  intro q _ E
  refine yG ?_
  refine V (v := .int .i64 ↑(EZ p)) I O (ES O O O underlying3 (VH p)) ?_
  refine yG ?_
  refine V (v := .int .i64 ((EZ p / 2 ^ (min n IntKind.i64.bits) : Nat) : Int)) I O (VR (m := EZ p) (n := n) O O O O) ?_
  refine V I O (GQ (c := false) O O O (Oq (VP (gY p)) e)) ?_
  refine yG ?_
  exact ⟨CP (gH (.inl e)), E.2.1⟩
 by_cases f : RH p ≤ 12
 case pos =>
  refine yG ?_
  refine EF O (BY GZ O (WW _ p _ (BV E.1) hp hF hL) O E ?_)
  clear E
  intro F _ E
  refine yG ?_
  refine EF O (BZ IE O (bS _ p _ (BV E.1) hL) O E ?_)
  clear E
  intro D _ E
  refine yG ?_
  refine V (v := .int .i64 ↑(EZ p)) I O (ES O O O underlying3 (VH p)) ?_
  refine yG ?_
  refine V (v := .int .i64 ((EZ p / 2 ^ (min n IntKind.i64.bits) : Nat) : Int)) I O (VR (m := EZ p) (n := n) O O O O) ?_
  refine V I O (GQ (c := true) O O O (Ii (VP (gY p)) e)) ?_
  refine yG ?_
  refine EF O (BZ EB O (NF _ p _ (BV E.1) hL) O E ?_)
  clear E
  intro C _ E
  refine yG ?_
  exact ⟨CP (sN e f), E.2.1⟩
 refine yG ?_
 refine EF O (BY GZ O (WW _ p _ (BV E.1) hp hF hL) O E ?_)
 clear E
 intro B _ E
 refine yG ?_
 refine EF O (BZ IE O (bS _ p _ (BV E.1) hL) O E ?_)
 clear E
 intro z _ E
 refine yG ?_
 refine V (v := .int .i64 ↑(EZ p)) I O (ES O O O underlying3 (VH p)) ?_
 refine yG ?_
 refine V (v := .int .i64 ((EZ p / 2 ^ (min n IntKind.i64.bits) : Nat) : Int)) I O (VR (m := EZ p) (n := n) O O O O) ?_
 refine V I O (GQ (c := true) O O O (Ii (VP (gY p)) e)) ?_
 refine yG ?_
 refine EF O (BZ EB O (NF _ p _ (BV E.1) hL) O E ?_)
 clear E
 intro y _ E
 refine yG ?_
 exact ⟨CP (gH (.inr f)), E.2.1⟩
theorem XU (vp : Value) (p : List Tm) (n : Nat) (w : World) (hRp : IsR KG (DI w.heap.size) w vp p) (hp : GW p) (hF : ∀ t ∈ p, FitQ t.1 1000000) (hL : p.length ≤ 1000000) (hn : n ≤ 8) :
    Calls prog 117 #[vp, .int .i64 ↑n] w (JO w (LW n p)) := by
 have E := Env.start w
 obtain ⟨o, h, rfl, l, k⟩ := hRp.shp
 replace E := E.r hRp (DM _)
 clear hRp
 go_enter func117, ntmps117
 by_cases e : RH p ≤ 12
 case neg =>
  refine yG ?_
  refine EF O (BY PM O (dA _ p _ (BV E.1) hp hF hL) O E ?_)
  clear E
  intro u _ E
  refine yG ?_
  refine EF O (BZ OH O (ZM _ p _ (BV E.1) hL) O E ?_)
  clear E
  intro q _ E
  refine yG ?_
  exact ⟨CP (gH (.inr e)), E.2.1⟩
 by_cases f : EZ p < 2 ^ n
 case pos =>
  refine yG ?_
  refine EF O (BY PM O (dA _ p _ (BV E.1) hp hF hL) O E ?_)
  clear E
  intro F _ E
  refine yG ?_
  refine EF O (BZ OH O (ZM _ p _ (BV E.1) hL) O E ?_)
  clear E
  intro D _ E
  refine yG ?_
  refine EF O (BZ WJ O (tL _ p _ (BV E.1) hL) O E ?_)
  clear E
  intro C _ E
  refine yG ?_
  refine V (v := .int .i64 ↑(EZ p)) I O (ES O O O underlying3 (VH p)) ?_
  refine yG ?_
  refine V (v := .int .u64 ↑n) I O (ES O O O underlying39 (xG hn)) ?_
  refine V (v := .int .i64 ((2 ^ n : Nat) : Int)) I O (qO (n := n) O O O hn) ?_
  refine yG ?_
  exact ⟨CP (sN f e), E.2.1⟩
 refine yG ?_
 refine EF O (BY PM O (dA _ p _ (BV E.1) hp hF hL) O E ?_)
 clear E
 intro B _ E
 refine yG ?_
 refine EF O (BZ OH O (ZM _ p _ (BV E.1) hL) O E ?_)
 clear E
 intro z _ E
 refine yG ?_
 refine EF O (BZ WJ O (tL _ p _ (BV E.1) hL) O E ?_)
 clear E
 intro y _ E
 refine yG ?_
 refine V (v := .int .i64 ↑(EZ p)) I O (ES O O O underlying3 (VH p)) ?_
 refine yG ?_
 refine V (v := .int .u64 ↑n) I O (ES O O O underlying39 (xG hn)) ?_
 refine V (v := .int .i64 ((2 ^ n : Nat) : Int)) I O (qO (n := n) O O O hn) ?_
 refine yG ?_
 exact ⟨CP (gH (.inl f)), E.2.1⟩
theorem bL (vl : Value) (l : List (Nat × List Tm)) (n : Nat) (next : Nat) (w : World) (hRl : IsR NH (DI w.heap.size) w vl l) (hO : MZ l) (hn : n ≤ 8) (hL : l.length ≤ 1000000) :
    Calls prog 74 #[vl, .int .i64 ↑n, .int .i64 ↑next] w (JO w (IN n next l)) := by
 have E := Env.start w
 obtain ⟨B, t, rfl, bo, bn⟩ := hRl.shp
 replace E := E.r hRl (DM _)
 clear hRl
 go_enter func74, ntmps74
 by_cases hl : ((l.length : Nat) : Int) > 12
 case pos =>
  refine yG ?_
  exact ⟨CP (yW Z), E.2.1⟩
 refine yG ?_
 refine wp_loop_ghost (fun mz a w' => ∃ (i : Nat) (g6 b4 b3 b2 b1 b0 az ay ax aw av au ar aq ap ao an am al ak aj ai ah ag af ae ad ac ab aa a9 a8 a7 a6 a5 a4 a3 a2 a1 a0 Y X U T S R Q P N L : Value), a = ⟨#[.slice B l.length t, .int .i64 ↑n, .int .i64 ↑next, undef, undef, undef, g6, .int .i64 ↑i, .slice B l.length t, .int .i64 ↑l.length, .bool false, b4, b3, b2, b1, b0, az, ay, ax, aw, av, au, ar, aq, ap, ao, an, am, al, ak, aj, ai, ah, ag, af, ae, ad, ac, ab, aa, a9, a8, a7, a6, a5, a4, a3, a2, a1, a0, Y, X, U, T, S, R, Q, P, N, L], []⟩ ∧ Env w' [fR NH (DI w.heap.size) (.slice B l.length t) l, fW w] ∧ mz = l.length - i ∧ (i ≤ l.length ∧ dR n next l i)) (l.length) ⟨0, _, _, _, _, _, _, _, _, _, _, _, _, _, _, _, _, _, _, _, _, _, _, _, _, _, _, _, _, _, _, _, _, _, _, _, _, _, _, _, _, _, _, _, _, _, _, _, _, _, _, O, zE, O, ⟨Nat.zero_le _, iY _ _ _⟩⟩ ?_
 rintro m1 _ w1 ⟨i, g6, b4, b3, b2, b1, b0, az, ay, ax, aw, av, au, ar, aq, ap, ao, an, am, al, ak, aj, ai, ah, ag, af, ae, ad, ac, ab, aa, a9, a8, a7, a6, a5, a4, a3, a2, a1, a0, Y, X, U, T, S, R, Q, P, N, L, rfl, E, G, J⟩
 obtain ⟨J, hJ⟩ := J
 by_cases hi : i < l.length
 case neg =>
  refine yG ?_
  exact ⟨CP (yV hJ hi Z), E.2.1⟩
 obtain ⟨⟨y, C⟩, e⟩ : ∃ x, l[i]? = some x := ⟨_, List.getElem?_eq_getElem hi⟩
 obtain ⟨b6, bi, _, f, bd, bb, ⟨_, rfl, F⟩⟩ := IsR.at E.1.1 e
 obtain ⟨bm, bk, rfl, bg, _⟩ := F.shp
 have b9 : b6 < _ := E.1.2 _ bd
 replace E := (E.r F E.1.2).c bb b9
 have k := hO _ (List.mem_of_getElem? e)
 have p := e
 by_cases hs : ((y : Nat) : Int) < 1
 case pos =>
  refine yG ?_
  refine sE E [0,1,2,3,4,5,6,7,8,9,10,11,12,13,14,15,16,17,18,19,20,21,22,23,24,25,26,27,28,29,30,31,32,33,34,35,36,37,38,39,40,41,42] ?_
  replace E := E.drew
  refine yG ?_
  refine OB O O O f O (List.getElem?_eq_some_iff.1 e).1 ?_
  refine yG ?_
  exact ⟨CP (WC p (.inl Z)), e3 E⟩
 by_cases hg : ((y : Nat) : Int) ≥ ((next : Nat) : Int)
 case pos =>
  refine yG ?_
  refine sE E [0,1,2,3,4,5,6,7,8,9,10,11,12,13,14,15,16,17,18,19,20,21,22,23,24,25,26,27,28,29,30,31,32,33,34,35,36,37,38,39,40,41,42] ?_
  replace E := E.drew
  refine yG ?_
  refine OB O O O f O (List.getElem?_eq_some_iff.1 e).1 ?_
  refine yG ?_
  refine OB O O O f O (List.getElem?_eq_some_iff.1 e).1 ?_
  refine yG ?_
  exact ⟨CP (WC p (.inr (.inl Z))), e3 E⟩
 by_cases h0 : 0 < i
 case neg =>
  by_cases u : LW n C = true
  case neg =>
   refine yG ?_
   refine sE E [0,1,2,3,4,5,6,7,8,9,10,11,12,13,14,15,16,17,18,19,20,21,22,23,24,25,26,27,28,29,30,31,32,33,34,35,36,37,38,39,40,41,42] ?_
   replace E := E.drew
   refine yG ?_
   refine OB O O O f O (List.getElem?_eq_some_iff.1 e).1 ?_
   refine yG ?_
   refine OB O O O f O (List.getElem?_eq_some_iff.1 e).1 ?_
   refine yG ?_
   refine OB O O O f O (List.getElem?_eq_some_iff.1 e).1 ?_
   refine yG ?_
   refine JF (o := ⟨some 57, _, _, _, _, _⟩) O O O O (BY LQ O (CQ (DF u) (XU _ C n _ (BV E.2.1) k.1 k.2.1 k.2.2 hn)) O E ?_)
   clear E
   intro w7 _ E
   refine ⟨E, ?_⟩
   refine yG ?_
   exact ⟨CP (WC p (.inr (.inr (DF u)))), e3 E⟩
  refine yG ?_
  refine sE E [0,1,2,3,4,5,6,7,8,9,10,11,12,13,14,15,16,17,18,19,20,21,22,23,24,25,26,27,28,29,30,31,32,33,34,35,36,37,38,39,40,41,42] ?_
  replace E := E.drew
  refine yG ?_
  refine OB O O O f O (List.getElem?_eq_some_iff.1 e).1 ?_
  refine yG ?_
  refine OB O O O f O (List.getElem?_eq_some_iff.1 e).1 ?_
  refine yG ?_
  refine OB O O O f O (List.getElem?_eq_some_iff.1 e).1 ?_
  refine yG ?_
  refine JF (o := ⟨some 57, _, _, _, _, _⟩) O O O O (BY LQ O (CQ u (XU _ C n _ (BV E.2.1) k.1 k.2.1 k.2.2 hn)) O E ?_)
  clear E
  intro w6 _ E
  refine ⟨E, ?_⟩
  refine yG ?_
  exact ⟨_, (by rw [G]; omega), (i + 1), _, _, _, _, _, _, _, _, _, _, _, _, _, _, _, _, _, _, _, _, _, _, _, _, _, _, _, _, _, _, _, _, _, _, _, _, _, _, _, _, _, _, _, _, _, _, _, _, _, _, O, zE, O, ⟨by omega, UA hJ p Z Z u (fun h => absurd h Z)⟩⟩
 obtain ⟨⟨b7, p3⟩, q⟩ : ∃ x, l[i - 1]? = some x := ⟨_, List.getElem?_eq_getElem (show i - 1 < l.length by omega)⟩
 obtain ⟨b5, bh, _, z, bc, ba, ⟨_, rfl, D⟩⟩ := IsR.at E.2.2.1.1 q
 obtain ⟨bl, bj, rfl, bf, _⟩ := D.shp
 have b8 : b5 < _ := E.2.2.1.2 _ bc
 replace E := (E.r D E.2.2.1.2).c ba b8
 by_cases hq : ((b7 : Nat) : Int) ≥ ((y : Nat) : Int)
 case pos =>
  refine yG ?_
  refine sE E [0,1,2,3,4,5,6,7,8,9,10,11,12,13,14,15,16,17,18,19,20,21,22,23,24,25,26,27,28,29,30,31,32,33,34,35,36,37,38,39,40,41,42] ?_
  replace E := E.drew
  refine yG ?_
  refine OB O O O f O (List.getElem?_eq_some_iff.1 e).1 ?_
  refine yG ?_
  refine OB O O O f O (List.getElem?_eq_some_iff.1 e).1 ?_
  refine yG ?_
  refine SW (v := .int .i64 ↑(i - 1)) O O O I O (fun w hS => GJ O O O (by rw [JC Z]; omega)) ?_
  refine OB O O O z O (List.getElem?_eq_some_iff.1 q).1 ?_
  refine yG ?_
  refine OB O O O f O (List.getElem?_eq_some_iff.1 e).1 ?_
  refine yG ?_
  exact ⟨CP (oP p q Z Z), e5 E⟩
 by_cases u : LW n C = true
 case neg =>
  refine yG ?_
  refine sE E [0,1,2,3,4,5,6,7,8,9,10,11,12,13,14,15,16,17,18,19,20,21,22,23,24,25,26,27,28,29,30,31,32,33,34,35,36,37,38,39,40,41,42] ?_
  replace E := E.drew
  refine yG ?_
  refine OB O O O f O (List.getElem?_eq_some_iff.1 e).1 ?_
  refine yG ?_
  refine OB O O O f O (List.getElem?_eq_some_iff.1 e).1 ?_
  refine yG ?_
  refine SW (v := .int .i64 ↑(i - 1)) O O O I O (fun w hS => GJ O O O (by rw [JC Z]; omega)) ?_
  refine OB O O O z O (List.getElem?_eq_some_iff.1 q).1 ?_
  refine yG ?_
  refine OB O O O f O (List.getElem?_eq_some_iff.1 e).1 ?_
  refine yG ?_
  refine OB O O O f O (List.getElem?_eq_some_iff.1 e).1 ?_
  refine yG ?_
  refine JF (o := ⟨some 57, _, _, _, _, _⟩) O O O O (BY LQ O (CQ (DF u) (XU _ C n _ (BV (e3 E)) k.1 k.2.1 k.2.2 hn)) O E ?_)
  clear E
  intro w5 _ E
  refine ⟨E, ?_⟩
  refine yG ?_
  exact ⟨CP (WC p (.inr (.inr (DF u)))), e5 E⟩
 refine yG ?_
 refine sE E [0,1,2,3,4,5,6,7,8,9,10,11,12,13,14,15,16,17,18,19,20,21,22,23,24,25,26,27,28,29,30,31,32,33,34,35,36,37,38,39,40,41,42] ?_
 replace E := E.drew
 refine yG ?_
 refine OB O O O f O (List.getElem?_eq_some_iff.1 e).1 ?_
 refine yG ?_
 refine OB O O O f O (List.getElem?_eq_some_iff.1 e).1 ?_
 refine yG ?_
 refine SW (v := .int .i64 ↑(i - 1)) O O O I O (fun w hS => GJ O O O (by rw [JC Z]; omega)) ?_
 refine OB O O O z O (List.getElem?_eq_some_iff.1 q).1 ?_
 refine yG ?_
 refine OB O O O f O (List.getElem?_eq_some_iff.1 e).1 ?_
 refine yG ?_
 refine OB O O O f O (List.getElem?_eq_some_iff.1 e).1 ?_
 refine yG ?_
 refine JF (o := ⟨some 57, _, _, _, _, _⟩) O O O O (BY LQ O (CQ u (XU _ C n _ (BV (e3 E)) k.1 k.2.1 k.2.2 hn)) O E ?_)
 clear E
 intro w4 _ E
 refine ⟨E, ?_⟩
 refine yG ?_
 exact ⟨_, (by rw [G]; omega), (i + 1), _, _, _, _, _, _, _, _, _, _, _, _, _, _, _, _, _, _, _, _, _, _, _, _, _, _, _, _, _, _, _, _, _, _, _, _, _, _, _, _, _, _, _, _, _, _, _, _, _, _, O, zE, O, ⟨by omega, UA hJ p Z Z u (fun _ a b H => by rw [q] at H; cases H; omega)⟩⟩
end Go.Proofs.YtmppigbbkjepiaaGreatDoor
