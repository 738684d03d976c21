/- Systems as text: what the laws need of reading and printing. The reference's Same of systems. (Printed by g_same32.py.) Walk: the law SyntaxCanonical. (Printed by g_canon44.py.) -/
import Derived.Test.YtmppigbbkjepiaaGreatDoorLawS
namespace Go.Proofs.YtmppigbbkjepiaaGreatDoor
open Go.RowKit W
theorem vI {t : Bs} {s : Sy} {n : Nat} (h : GB t = (s, n, 0)) : MZ s.eqs ∧ MZ s.neqs := by
  unfold GB at h
  by_cases q : 100000 < t.length
  · rw [if_pos q] at h; simp at h
  · rw [if_neg q] at h
    obtain ⟨v, B, D, k, z, y, C⟩ := wA h
    have p : v ≠ [] := by
      rintro rfl
      simp only [KR, Option.some.injEq] at k
      subst k; exact z rfl
    have u := (xZ p k).1
    have l := uV Ov k
    subst y
    refine ⟨fun e f => ⟨(u.all false e f).2.2.1, fun t o => FitQ.mono ((l.fit false e f).1 t o) AD, by have := (l.fit false e f).2; omega⟩, fun e f => ⟨(u.all true e f).2.2.1, fun t o => FitQ.mono ((l.fit true e f).1 t o) AD, by have := (l.fit true e f).2; omega⟩⟩
theorem vD {s : Sy} (h : Nr s) : PF s = (qF s, 0) := by
  obtain ⟨l, f⟩ := h
  unfold PF
  rw [if_neg (by rw [l]; simp), if_neg]
  unfold YG
  simp only [List.any_eq_true, decide_eq_true_eq, not_exists, not_and]
  intro e k
  rcases mrg_in.1 k with ⟨_, g⟩ | ⟨_, g⟩
  · have := (f _ (.inl g)).2; omega
  · have := (f _ (.inr g)).2; omega
theorem Kk {s : Sy} (h : Nr s) : DS 4 s.vars = true ∧ s.vars.length ≤ 4 ∧ s.eqs.length ≤ 12 ∧ s.neqs.length ≤ 12 := by
  obtain ⟨e, k, f, _⟩ := Eu h.1
  exact ⟨e, KD e, k, f⟩
end Go.Proofs.YtmppigbbkjepiaaGreatDoor
set_option maxHeartbeats 8000000
set_option maxRecDepth 100000
namespace Go.Proofs.YtmppigbbkjepiaaGreatDoor
open Go.Proofs.Tryz
open Go.RowKit W
theorem Rr {a b c d : Prop} [Decidable a] [Decidable b] [Decidable c] [Decidable d] (h1 : a) (h2 : b) (h3 : c) (h4 : d) : decide (a ∧ b ∧ c ∧ d) = true := decide_eq_true ⟨h1, h2, h3, h4⟩
theorem jU {a b c d : Prop} [Decidable a] [Decidable b] [Decidable c] [Decidable d] (h : ¬ (a ∧ b ∧ c ∧ d)) : decide (a ∧ b ∧ c ∧ d) = false := decide_eq_false h
theorem QY (vq : Value) (q : List (Nat × List Tm)) (vr : Value) (r : List (Nat × List Tm)) (w : World) (hRq : IsR NH (DI w.heap.size) w vq q) (hRr : IsR NH (DI w.heap.size) w vr r) (hP : ∀ e ∈ q, e.2.length ≤ 1000000) (hL : q.length ≤ 1000000) :
    Calls prog 54 #[vq, vr] w (JO w (decide (q = r))) := by
 have E := Env.start w
 obtain ⟨F, u, rfl, ad, ab⟩ := hRq.shp
 replace E := E.r hRq (DM _)
 clear hRq
 obtain ⟨D, t, rfl, ac, aa⟩ := hRr.shp
 replace E := E.r hRr (DM _)
 clear hRr
 go_enter func54, ntmps54
 by_cases hl : q.length = r.length
 case neg =>
  refine yG ?_
  exact ⟨JS (decide_eq_false (vO hl)).symm, E.2.2.1⟩
 refine yG ?_
 refine wp_loop_ghost (fun mz a w' => ∃ (i : Nat) (f : List Value), f = a.tmps.toList ∧ a = ⟨#[.slice F q.length u, .slice D r.length t, undef, undef, CC f 4, .int .i64 ↑i, .slice F q.length u, .int .i64 ↑q.length, .slice D r.length t, .int .i64 ↑r.length, .bool false, CC f 11, CC f 12, CC f 13, CC f 14, CC f 15, CC f 16, CC f 17, CC f 18, CC f 19, CC f 20, CC f 21, CC f 22, CC f 23, CC f 24, CC f 25, CC f 26, CC f 27, CC f 28, CC f 29, CC f 30, CC f 31, CC f 32, CC f 33, CC f 34, CC f 35, CC f 36, CC f 37, CC f 38, CC f 39, CC f 40, CC f 41], []⟩ ∧ Env w' [fR NH (DI w.heap.size) (.slice D r.length t) r, fR NH (DI w.heap.size) (.slice F q.length u) q, fW w] ∧ mz = q.length - i ∧ (i ≤ q.length ∧ q.take i = r.take i)) (q.length) ⟨0, _, O, O, zE, O, ⟨Nat.zero_le _, O⟩⟩ ?_
 rintro m1 _ w1 ⟨i, f, -, rfl, E, S, L⟩
 obtain ⟨L, hJ⟩ := L
 by_cases hi : i < q.length
 case neg =>
  refine yG ?_
  exact ⟨JS (decide_eq_true (oY hl hJ hi)).symm, E.2.2.1⟩
 obtain ⟨⟨R, B⟩, h⟩ : ∃ x, q[i]? = some x := ⟨_, List.getElem?_eq_getElem hi⟩
 obtain ⟨P, a5, _, p, a1, Y, ⟨_, rfl, H⟩⟩ := IsR.at E.2.1.1 h
 obtain ⟨a9, a7, rfl, a3, _⟩ := H.shp
 have U : P < _ := E.2.1.2 _ a1
 replace E := (E.r H E.2.1.2).c Y U
 obtain ⟨⟨Q, z⟩, k⟩ : ∃ x, r[i]? = some x := ⟨_, List.getElem?_eq_getElem (show i < r.length by omega)⟩
 obtain ⟨N, a4, _, l, a0, X, ⟨_, rfl, G⟩⟩ := IsR.at E.2.2.1.1 k
 obtain ⟨a8, a6, rfl, a2, _⟩ := G.shp
 have T : N < _ := E.2.2.1.2 _ a0
 replace E := (E.r G E.2.2.1.2).c X T
 have C := hP _ (List.mem_of_getElem? h)
 dsimp only at C
 by_cases J : R = Q
 case neg =>
  refine yG ?_
  refine sE E [0,1,2,3,4,5,6,7,8,9,10,11,12,13,14,15,16,17,18,19,20,21,22,23,24] ?_
  replace E := E.drew
  refine yG ?_
  refine OB O O O p O (List.getElem?_eq_some_iff.1 h).1 ?_
  refine yG ?_
  refine OB O O O l O (List.getElem?_eq_some_iff.1 k).1 ?_
  refine yG ?_
  exact ⟨JS (decide_eq_false (yO h k (fun g => J (Prod.mk.inj g).1))).symm, e6 E⟩
 by_cases y : B = z
 case neg =>
  refine yG ?_
  refine sE E [0,1,2,3,4,5,6,7,8,9,10,11,12,13,14,15,16,17,18,19,20,21,22,23,24] ?_
  replace E := E.drew
  refine yG ?_
  refine OB O O O p O (List.getElem?_eq_some_iff.1 h).1 ?_
  refine yG ?_
  refine OB O O O l O (List.getElem?_eq_some_iff.1 k).1 ?_
  refine yG ?_
  refine OB O O O p O (List.getElem?_eq_some_iff.1 h).1 ?_
  refine yG ?_
  refine OB O O O l O (List.getElem?_eq_some_iff.1 k).1 ?_
  refine yG ?_
  refine JF (o := ⟨some 39, _, _, _, _, _⟩) O O O O (BY QT O (pM _ B _ z _ (BV (e3 E)) (BV E.2.1) C) O E ?_)
  clear E
  intro w3 _ E
  refine ⟨E, ?_⟩
  refine yG ?_
  refine SW (v := .bool (!(decide (B = z)))) O O O I O (fun w hS => TR (b := (decide (B = z))) O O) ?_
  refine yG ?_
  refine AN (congrArg Value.bool (by rw [decide_eq_false y]; rfl)) ?_
  refine yG ?_
  exact ⟨JS (decide_eq_false (yO h k (fun g => y (Prod.mk.inj g).2))).symm, e6 E⟩
 refine yG ?_
 refine sE E [0,1,2,3,4,5,6,7,8,9,10,11,12,13,14,15,16,17,18,19,20,21,22,23,24] ?_
 replace E := E.drew
 refine yG ?_
 refine OB O O O p O (List.getElem?_eq_some_iff.1 h).1 ?_
 refine yG ?_
 refine OB O O O l O (List.getElem?_eq_some_iff.1 k).1 ?_
 refine yG ?_
 refine OB O O O p O (List.getElem?_eq_some_iff.1 h).1 ?_
 refine yG ?_
 refine OB O O O l O (List.getElem?_eq_some_iff.1 k).1 ?_
 refine yG ?_
 refine JF (o := ⟨some 39, _, _, _, _, _⟩) O O O O (BY QT O (pM _ B _ z _ (BV (e3 E)) (BV E.2.1) C) O E ?_)
 clear E
 intro w2 _ E
 refine ⟨E, ?_⟩
 refine yG ?_
 refine SW (v := .bool (!(decide (B = z)))) O O O I O (fun w hS => TR (b := (decide (B = z))) O O) ?_
 refine yG ?_
 refine AO (congrArg Value.bool (by rw [decide_eq_true y]; rfl)) ?_
 refine yG ?_
 exact ⟨_, (by rw [S]; omega), (i + 1), _, O, O, zE, O, ⟨by omega, nH hJ h k (by rw [J, y])⟩⟩
theorem tH (vv : Value) (v : List Bs) (vq : Value) (q : List (Nat × List Tm)) (vr : Value) (r : List (Nat × List Tm)) (n : Nat) (vk : Value) (k : List Bs) (vy : Value) (y : List (Nat × List Tm)) (vz : Value) (z : List (Nat × List Tm)) (m : Nat) (w : World) (hRv : IsR elS (DI w.heap.size) w vv v) (hRq : IsR NH (DI w.heap.size) w vq q) (hRr : IsR NH (DI w.heap.size) w vr r) (hRk : IsR elS (DI w.heap.size) w vk k) (hRy : IsR NH (DI w.heap.size) w vy y) (hRz : IsR NH (DI w.heap.size) w vz z) (hPq : ∀ e ∈ q, e.2.length ≤ 1000000) (hPr : ∀ e ∈ r, e.2.length ≤ 1000000) (hLq : q.length ≤ 1000000) (hLr : r.length ≤ 1000000) (hLv : v.length ≤ 1000000) :
    Calls prog 19 #[.agg #[vv, vq, vr, .int .i64 ↑n], .agg #[vk, vy, vz, .int .i64 ↑m]] w (JO w (decide (v = k ∧ q = y ∧ r = z ∧ n = m))) := by
 have E := Env.start w
 obtain ⟨G, o, rfl, an, ah⟩ := hRv.shp
 replace E := E.r hRv (DM _)
 clear hRv
 obtain ⟨J, t, rfl, ap, aj⟩ := hRq.shp
 replace E := E.r hRq (DM _)
 clear hRq
 obtain ⟨H, p, rfl, ao, ai⟩ := hRr.shp
 replace E := E.r hRr (DM _)
 clear hRr
 obtain ⟨L, u, rfl, aq, ak⟩ := hRk.shp
 replace E := E.r hRk (DM _)
 clear hRk
 obtain ⟨F, l, rfl, am, ag⟩ := hRy.shp
 replace E := E.r hRy (DM _)
 clear hRy
 obtain ⟨D, h, rfl, al, af⟩ := hRz.shp
 replace E := E.r hRz (DM _)
 clear hRz
 go_enter func19, ntmps19
 refine yG ?_
 refine EF O (CI (cs := [.slice G v.length o, .slice J q.length t, .slice H r.length p, .int .i64 ↑n]) O O ?_)
 intro P w1 ac z1 d1 x1
 replace E := (E.below d1).x x1
 clear ac z1 d1 x1
 refine yG ?_
 refine EF O (CI (cs := [.slice L k.length u, .slice F y.length l, .slice D z.length h, .int .i64 ↑m]) O O ?_)
 intro N w2 ab z2 d2 x2
 replace E := (E.below d2).x x2
 clear ab z2 d2 x2
 by_cases hl : v.length = k.length
 case neg =>
  refine yG ?_
  exact ⟨JS (jU (fun g => vO hl g.1)).symm, e8 E⟩
 by_cases hn : n = m
 case neg =>
  refine yG ?_
  exact ⟨JS (jU (fun g => hn g.2.2.2)).symm, e8 E⟩
 by_cases Q : q = y
 case neg =>
  refine yG ?_
  refine EF O (BY IF O (CQ (decide_eq_false Q) (QY _ q _ y _ (BV (e6 E)) (BV (e3 E)) hPq hLq)) O E ?_)
  clear E
  intro w8 _ E
  refine yG ?_
  exact ⟨JS (jU (fun g => Q g.2.1)).symm, e8 E⟩
 by_cases Y : r = z
 case neg =>
  refine yG ?_
  refine EF O (BY IF O (CQ (decide_eq_true Q) (QY _ q _ y _ (BV (e6 E)) (BV (e3 E)) hPq hLq)) O E ?_)
  clear E
  intro w6 _ E
  refine yG ?_
  refine EF O (BY IF O (CQ (decide_eq_false Y) (QY _ r _ z _ (BV (e5 E)) (BV E.2.2.1) hPr hLr)) O E ?_)
  clear E
  intro w7 _ E
  refine yG ?_
  exact ⟨JS (jU (fun g => Y g.2.2.1)).symm, e8 E⟩
 refine yG ?_
 refine EF O (BY IF O (CQ (decide_eq_true Q) (QY _ q _ y _ (BV (e6 E)) (BV (e3 E)) hPq hLq)) O E ?_)
 clear E
 intro w3 _ E
 refine yG ?_
 refine EF O (BY IF O (CQ (decide_eq_true Y) (QY _ r _ z _ (BV (e5 E)) (BV E.2.2.1) hPr hLr)) O E ?_)
 clear E
 intro w4 _ E
 refine yG ?_
 refine wp_loop_ghost (fun mz a w' => ∃ (i : Nat) (f : List Value), f = a.tmps.toList ∧ a = ⟨#[.agg #[.slice G v.length o, .slice J q.length t, .slice H r.length p, .int .i64 ↑n], .agg #[.slice L k.length u, .slice F y.length l, .slice D z.length h, .int .i64 ↑m], .pointer (some ⟨P, 0, none⟩), .pointer (some ⟨N, 0, none⟩), CC f 4, .int .i64 ↑i, .pointer (some ⟨P, 0, none⟩), .slice G v.length o, .int .i64 ↑v.length, .pointer (some ⟨N, 0, none⟩), .slice L k.length u, .int .i64 ↑k.length, .bool false, .bool false, .pointer (some ⟨P, 3, none⟩), .int .i64 ↑n, .pointer (some ⟨N, 3, none⟩), .int .i64 ↑m, .bool false, .bool false, .bool false, .pointer (some ⟨P, 1, none⟩), .slice J q.length t, .pointer (some ⟨N, 1, none⟩), .slice F y.length l, .bool true, .bool false, .bool false, .bool false, .pointer (some ⟨P, 2, none⟩), .slice H r.length p, .pointer (some ⟨N, 2, none⟩), .slice D z.length h, .bool true, .bool false, .bool false, CC f 36, CC f 37, CC f 38, CC f 39, CC f 40, CC f 41, CC f 42, CC f 43, CC f 44, CC f 45, CC f 46, CC f 47, CC f 48, CC f 49, CC f 50, CC f 51, CC f 52, CC f 53], []⟩ ∧ Env w' [fX N (48) ([.slice L k.length u, .slice F y.length l, .slice D z.length h, .int .i64 ↑m]), fX P (48) ([.slice G v.length o, .slice J q.length t, .slice H r.length p, .int .i64 ↑n]), fR NH (DI w.heap.size) (.slice D z.length h) z, fR NH (DI w.heap.size) (.slice F y.length l) y, fR elS (DI w.heap.size) (.slice L k.length u) k, fR NH (DI w.heap.size) (.slice H r.length p) r, fR NH (DI w.heap.size) (.slice J q.length t) q, fR elS (DI w.heap.size) (.slice G v.length o) v, fW w] ∧ mz = v.length - i ∧ (i ≤ v.length ∧ v.take i = k.take i)) (v.length) ⟨0, _, O, O, zE, O, ⟨Nat.zero_le _, O⟩⟩ ?_
 rintro m5 _ w5 ⟨i, f, -, rfl, E, a4, T⟩
 obtain ⟨T, hJ⟩ := T
 by_cases hi : i < v.length
 case neg =>
  refine yG ?_
  exact ⟨JS (Rr (oY hl hJ hi) Q Y hn).symm, e8 E⟩
 obtain ⟨X, C⟩ : ∃ x, v[i]? = some x := ⟨_, List.getElem?_eq_getElem hi⟩
 obtain ⟨a1, ae, _, S, aa, a8, a3⟩ := IsR.at (e7 E).1 C
 obtain rfl := (show _ = [Value.string (bs X)] from a3)
 have a6 : a1 < _ := (e7 E).2 _ aa
 replace E := E.c a8 a6
 obtain ⟨U, B⟩ : ∃ x, k[i]? = some x := ⟨_, List.getElem?_eq_getElem (show i < k.length by omega)⟩
 obtain ⟨a0, ad, _, R, a9, a7, a2⟩ := IsR.at (e5 E).1 B
 obtain rfl := (show _ = [Value.string (bs U)] from a2)
 have a5 : a0 < _ := (e5 E).2 _ a9
 replace E := E.c a7 a5
 by_cases he : X = U
 case neg =>
  refine yG ?_
  refine sE E [0,1,2,3,4,5,6,7,8,9,10] ?_
  replace E := E.drew
  refine yG ?_
  refine Ot O O O S O (List.getElem?_eq_some_iff.1 C).1 ?_
  refine yG ?_
  refine Ot O O O R O (List.getElem?_eq_some_iff.1 B).1 ?_
  refine yG ?_
  refine SW O O O O O (fun w hS => GX (a := X) (b := U) (c := true) O O O (by rw [bne_iff_ne]; exact he)) ?_
  refine yG ?_
  exact ⟨JS (jU (fun g => yO C B he g.1)).symm, PP E⟩
 refine yG ?_
 refine sE E [0,1,2,3,4,5,6,7,8,9,10] ?_
 replace E := E.drew
 refine yG ?_
 refine Ot O O O S O (List.getElem?_eq_some_iff.1 C).1 ?_
 refine yG ?_
 refine Ot O O O R O (List.getElem?_eq_some_iff.1 B).1 ?_
 refine yG ?_
 refine SW O O O O O (fun w hS => GX (a := X) (b := U) (c := false) O O O (by rw [bne_eq_false_iff_eq]; exact he)) ?_
 refine yG ?_
 exact ⟨_, (by rw [a4]; omega), (i + 1), _, O, O, zE, O, ⟨by omega, nH hJ C B he⟩⟩
end Go.Proofs.YtmppigbbkjepiaaGreatDoor
namespace Go.Proofs.YtmppigbbkjepiaaGreatDoor
open Go.Proofs.Tryz
open Go.RowKit W
theorem Oa : DS 8 xyB = true := by decide +kernel
theorem wM {t : Bs} {p : List Tm} {n : Nat} (h : EV xyB t = (p, n, 0)) : n = 0 ∧ GW p ∧ QN xyB p = (t, 0) := by
  obtain ⟨_, o, l, f, k, e⟩ := RO h
  refine ⟨l, f, ?_⟩
  rw [iP Oa ((ZU f).2 k) (by rw [e]; omega), e]
theorem Dt {t : Bs} {p : List Tm} {n e : Nat} (h : EV xyB t = (p, n, e)) (he : ¬ e = 0) (hl : t.length ≤ 4000) : p = [] ∧ e = 440 ∧ n ≤ t.length + 1 := by
  obtain ⟨k, f⟩ := Cj h he
  refine ⟨k, ?_⟩
  rcases f with ⟨g, _⟩ | ⟨_, g, _⟩ | ⟨_, o, l⟩
  · rw [Oa] at g; cases g
  · omega
  · exact ⟨o, l⟩
theorem mW {u : Bs} {s : Sy} {m : Nat} (h : GB u = (s, m, 0)) : PF s = (u, 0) ∧ GO s = true ∧ MZ s.eqs ∧ MZ s.neqs ∧ s.vars.length ≤ 4 ∧ s.eqs.length ≤ 12 ∧ s.neqs.length ≤ 12 := by
  obtain ⟨_, _, e, l⟩ := rK h
  obtain ⟨k, f⟩ := vI h
  obtain ⟨_, q, p, o⟩ := Kk e
  exact ⟨by rw [vD e, l], e.1, k, f, q, p, o⟩
theorem mX {u : Bs} {v : List Bs} {q r : List En} {n m e : Nat} (h : GB u = (⟨v, q, r, n⟩, m, e)) (he : ¬ e = 0) (hl : u.length ≤ 4000) : e = 440 ∧ 0 < m ∧ v = [] ∧ q = [] ∧ r = [] ∧ n = 0 := by
  obtain ⟨f, k⟩ := Co h he
  simp only [Dx, Sy.mk.injEq] at f
  rcases k with ⟨g, _⟩ | ⟨_, l, o, _⟩
  · omega
  · exact ⟨l, by omega, f⟩
set_option maxRecDepth 100000 in
set_option maxHeartbeats 8000000 in
theorem cnn_t (t : Bs) (u : Bs) (w : World) (hG : Glob w) :
    Calls prog 9 #[.string (bs t), .string (bs u)] w (JO w true) := by
 have E := Env.start w
 have bz := hG.two
 replace E := E.gl hG
 go_enter func9, ntmps9
 refine yG ?_
 refine EF O (BY ZI O (wB _ E.1.1) O E ?_)
 clear E
 intro w1 _ E
 by_cases bv : 4000 < t.length
 case pos =>
  refine yG ?_
  exact ⟨rfl, E.2.1⟩
 by_cases bu : 4000 < u.length
 case pos =>
  refine yG ?_
  exact ⟨rfl, E.2.1⟩
 refine yG ?_
 refine EF O (UK (s := [120]) (t := [121]) O O O ?_)
 intro b2 U b4 z2 d2 x2
 have ac : IsR elS (GL w1.heap.size U.heap.size) U (.slice (some ⟨b2, 0, none⟩) xyB.length 2) xyB := bW (l := xyB) x2 ⟨Nat.le_of_eq b4.symm, by omega⟩ AD
 replace E := ((E.below d2).sz (Nat.le_refl U.heap.size)).r ac (fun _ g => g.2)
 clear ac x2
 obtain ⟨p, pos, er, G⟩ : ∃ a b c, EV xyB t = (a, b, c) := ⟨_, _, _, rfl⟩
 obtain ⟨ax, bw⟩ := XK G
 refine yG ?_
 refine EF O (LJ (r := (p, pos, er)) LC O (by have f := kD t _ xyB U (BV E.1) AD Z E.2.2.1.1; rw [G] at f; exact f) O E ?_)
 clear E
 intro T v3 _ f3 E
 replace E := E.sz (Nat.le_refl T.heap.size)
 have b3 := f3
 obtain ⟨bo, bn, rfl, bi, _⟩ := f3.shp
 skip
 replace E := E.r (e := KG) (S := GL U.heap.size T.heap.size) (show IsR KG (GL U.heap.size T.heap.size) T _ p from b3) (fun _ g => g.2)
 by_cases af : er = 0
 case neg =>
  obtain ⟨az, bx, ad⟩ := Dt G af Z
  have ae := congrArg List.length az
  rw [List.length_nil] at ae
  obtain ⟨⟨z, C, B, D⟩, m, ge, h⟩ : ∃ a b c, GB u = (a, b, c) := ⟨_, _, _, rfl⟩
  refine yG ?_
  refine EF O (NZ (r := (⟨z, C, B, D⟩, m, ge)) MH O (by have f := bQ u T (e4 E).1; rw [h] at f; exact f) O E ?_)
  clear E
  intro aa ak bd ah am bg aj al bf ai b5 H L J E
  dsimp only at H L J E
  subst H L J
  clear b5
  replace E := E.sz (Nat.le_refl aa.heap.size)
  refine yG ?_
  refine EF O (CA RE O ?_)
  intro R bl k aq ag a1
  have bt : w.heap.size ≤ R := by rw [k]; exact (e9 E).size
  have ap : aa.heap.size ≤ R := by rw [k]; exact CU E.1
  have ao : T.heap.size ≤ R := by rw [k]; exact CU (e5 E)
  have an : U.heap.size ≤ R := by rw [k]; exact CU (e7 E)
  replace E := E.below ag
  clear k aq ag
  refine yG ?_
  refine EF O (BX RE O O O a1 O O (CM O (CM O (CM O (CM O EX)))) ?_)
  intro a9 ab a8
  replace E := (E.onl (a1.noW (CE AG (CE AG (CE AG (CE AG CX))))) zK ab).x (cs := [.slice ak z.length ah, .slice am C.length aj, .slice al B.length ai, .int .i64 ↑D]) a8
  clear a1 ab a8
  by_cases N : ge = 0
  case neg =>
   obtain ⟨b1, b0, F, q, o, a2⟩ := mX h N Z
   refine yG ?_
   refine EF O (BY WH O (CQ (decide_eq_true ⟨F, q, o, a2⟩) (tH _ z _ C _ B D (.slice none 0 0) ([]) (.slice none 0 0) ([]) (.slice none 0 0) ([]) 0 a9 (BV E.2.2.1) (BV (e3 E)) (BV (e4 E)) (IsR.nil _ _ _) (IsR.nil _ _ _) (IsR.nil _ _ _) (fun e P => by rw [q] at P; cases P) (fun e P => by rw [o] at P; cases P) (by rw [q]; decide) (by rw [o]; decide) (by rw [F]; decide) )) O E ?_)
   clear E
   intro bj _ E
   refine yG ?_
   exact ⟨rfl, PP E⟩
  rw [N] at h
  obtain ⟨a3, a4, y, v, a5, a7, a6⟩ := mW h
  refine yG ?_
  dsimp only at y v a5 a7 a6
  refine yG ?_
  refine EF O (BZ PI O ((by have f := kG _ z _ C _ B D a9 (BV E.2.2.1) (BV (e3 E)) (BV (e4 E)) y v Z (e9 E).1; rw [a3] at f; exact f)) O E ?_)
  clear E
  intro ar _ E
  refine yG ?_
  refine V I O (JY (a := u) (b := u) (c := true) O O O AG) ?_
  refine yG ?_
  refine EF O (BY US O (CQ a4 (tK _ z _ C _ B D ar (BV E.2.2.1) (BV (e3 E)) (BV (e4 E)) y v Z Z Z)) O E ?_)
  clear E
  intro bk _ E
  refine yG ?_
  exact ⟨rfl, PP E⟩
 rw [af] at G
 obtain ⟨bh, ad, ay⟩ := wM G
 refine yG ?_
 refine EF O (BZ EP O ((by have f := RA _ p _ xyB T (BV E.1) (BV E.2.2.1) ad (fun t ht => FitQ.mono (ax t ht) AD) Z AD (e4 E).1; rw [ay] at f; exact f)) O E ?_)
 clear E
 intro w4 _ E
 refine yG ?_
 refine V I O (GX (a := t) (b := t) (c := false) O O O AG) ?_
 obtain ⟨⟨z, C, B, D⟩, m, ge, h⟩ : ∃ a b c, GB u = (a, b, c) := ⟨_, _, _, rfl⟩
 refine yG ?_
 refine EF O (NZ (r := (⟨z, C, B, D⟩, m, ge)) MH O (by have f := bQ u w4 (e4 E).1; rw [h] at f; exact f) O E ?_)
 clear E
 intro w5 ba bp b7 bc br b9 bb bq b8 d5 X a0 Y E
 dsimp only at X a0 Y E
 subst X a0 Y
 clear d5
 replace E := E.sz (Nat.le_refl w5.heap.size)
 refine yG ?_
 refine EF O (CA RE O ?_)
 intro b6 w6 Q z6 d6 x6
 have l6 : w.heap.size ≤ b6 := by rw [Q]; exact (e9 E).size
 have aw : w5.heap.size ≤ b6 := by rw [Q]; exact CU E.1
 have av : T.heap.size ≤ b6 := by rw [Q]; exact CU (e5 E)
 have au : U.heap.size ≤ b6 := by rw [Q]; exact CU (e7 E)
 replace E := E.below d6
 clear Q z6 d6
 refine yG ?_
 refine EF O (BX RE O O O x6 O O (CM O (CM O (CM O (CM O EX)))) ?_)
 intro w7 o7 y7
 replace E := (E.onl (x6.noW (CE AG (CE AG (CE AG (CE AG CX))))) zK o7).x (cs := [.slice ba z.length b7, .slice bc C.length b9, .slice bb B.length b8, .int .i64 ↑D]) y7
 clear x6 o7 y7
 by_cases N : ge = 0
 case neg =>
  obtain ⟨b1, b0, F, q, o, a2⟩ := mX h N Z
  refine yG ?_
  refine EF O (BY WH O (CQ (decide_eq_true ⟨F, q, o, a2⟩) (tH _ z _ C _ B D (.slice none 0 0) ([]) (.slice none 0 0) ([]) (.slice none 0 0) ([]) 0 w7 (BV E.2.2.1) (BV (e3 E)) (BV (e4 E)) (IsR.nil _ _ _) (IsR.nil _ _ _) (IsR.nil _ _ _) (fun e P => by rw [q] at P; cases P) (fun e P => by rw [o] at P; cases P) (by rw [q]; decide) (by rw [o]; decide) (by rw [F]; decide) )) O E ?_)
  clear E
  intro bm _ E
  refine yG ?_
  exact ⟨rfl, PP E⟩
 rw [N] at h
 obtain ⟨a3, a4, y, v, a5, a7, a6⟩ := mW h
 refine yG ?_
 dsimp only at y v a5 a7 a6
 refine yG ?_
 refine EF O (BZ PI O ((by have f := kG _ z _ C _ B D w7 (BV E.2.2.1) (BV (e3 E)) (BV (e4 E)) y v Z (e9 E).1; rw [a3] at f; exact f)) O E ?_)
 clear E
 intro w8 _ E
 refine yG ?_
 refine V I O (JY (a := u) (b := u) (c := true) O O O AG) ?_
 refine yG ?_
 refine EF O (BY US O (CQ a4 (tK _ z _ C _ B D w8 (BV E.2.2.1) (BV (e3 E)) (BV (e4 E)) y v Z Z Z)) O E ?_)
 clear E
 intro w9 _ E
 refine yG ?_
 exact ⟨rfl, PP E⟩
theorem cnn_s (s0 s1 : ByteArray) (w : World) (hG : Glob w) : Calls prog 9 #[.string s0, .string s1] w (JO w true) := by
  have h := cnn_t s0.data.toList s1.data.toList w hG
  rw [Ab, Ab] at h; exact h
end Go.Proofs.YtmppigbbkjepiaaGreatDoor
