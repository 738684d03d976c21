/- Valid systems: package system's Valid and the reference's; package syntax's isList. (Printed by g_sys.py.) -/
import Derived.Test.YtmppigbbkjepiaaGreatDoorSys
namespace Go.Proofs.YtmppigbbkjepiaaGreatDoor
open Go.Proofs.Tryz
open Go.RowKit W
theorem IsR.lit1 {α : Type} {e : El α} {b t : Nat} {w : World} {cs : List Value} {x : α} (hb : Bx w b t cs) (h : e.p (DI w.heap.size) w cs x) : IsR e (DI w.heap.size) w (.slice (some ⟨b, 0, none⟩) 1 1) [x] := by
  refine ⟨_, 1, O, Nat.le_refl _, by decide, fun i y f => ?_⟩
  cases i with
  | zero =>
    simp at f; subst f
    refine ⟨b, 0, cs, O, hb.lt, ?_, h⟩
    rw [Nat.zero_mul]; exact hb.cs
  | succ i => simp at f
theorem LZ : MZ [] := fun e h => by cases h
theorem nL (x : Bs) : GO ⟨[x], [], [], 1⟩ = QQ x := by simp [GO, DS, IN, EM]
def Ew (s : Sy) (j : Nat) (ids : List Nat) : Prop :=
  (j = 0 ∧ ids = []) ∨ (j = 1 ∧ ids = EM s.eqs ∧ IN s.vars.length s.next s.eqs = true) ∨
  (j = 2 ∧ IN s.vars.length s.next s.eqs = true ∧ IN s.vars.length s.next s.neqs = true ∧ ∀ i ∈ EM s.neqs, i ∉ EM s.eqs)
theorem Bk {s : Sy} {j : Nat} {l : List (Nat × List Tm)} {ids : List Nat} (h : yX s j l ids) (hl : IN s.vars.length s.next l = true) (hd : ∀ x ∈ EM l, x ∉ ids) : Ew s (j + 1) (ids ++ EM l) := by
  rcases h with ⟨rfl, rfl, rfl⟩ | ⟨rfl, rfl, rfl, h⟩
  · exact .inr (.inl ⟨rfl, rfl, hl⟩)
  · exact .inr (.inr ⟨rfl, h, hl, hd⟩)
theorem Ev {s : Sy} {j : Nat} {ids : List Nat} (h : Ew s j ids) (hj : ¬ j < 2) (h1 : DS 4 s.vars = true) (h2 : ¬ s.next < 1) (h3 : ¬ s.next > 1000000) : GO s = true := by
  rcases h with ⟨rfl, _⟩ | ⟨rfl, _⟩ | ⟨rfl, k, f, e⟩
  · omega
  · omega
  · exact nJ h1 h2 h3 k f e
theorem sG {ids ids2 : List Nat} {l : List (Nat × List Tm)} {i id : Nat} {p : List Tm} (h : ids2 = ids ++ EM (l.take i)) (hx : l[i]? = some (id, p)) : ids2 ++ [id] = ids ++ EM (l.take (i + 1)) := by rw [JR hx, OZ, h, List.append_assoc]
theorem jN {ids : List Nat} {l : List (Nat × List Tm)} {i id : Nat} {p : List Tm} (h : ∀ x ∈ EM (l.take i), x ∉ ids) (hx : l[i]? = some (id, p)) (hn : id ∉ ids) : ∀ x ∈ EM (l.take (i + 1)), x ∉ ids := by
  rw [JR hx, OZ]
  intro x e
  rcases List.mem_append.1 e with g | g
  · exact h x g
  · simp at g; subst g; exact hn
set_option maxRecDepth 100000 in
set_option maxHeartbeats 8000000 in
theorem QZ (vv : Value) (v : List Bs) (vq : Value) (q : List (Nat × List Tm)) (vr : Value) (r : List (Nat × List Tm)) (n : Nat) (w : World) (hRv : IsR elS (DI w.heap.size) w vv v) (hRq : IsR NH (DI w.heap.size) w vq q) (hRr : IsR NH (DI w.heap.size) w vr r) (hOq : MZ q) (hOr : MZ r) (hL : v.length ≤ 1000000) :
    Calls prog 47 #[.agg #[vv, vq, vr, .int .i64 ↑n]] w (JO w (GO ⟨v, q, r, n⟩)) := by
 have E := Env.start w
 obtain ⟨H, u, rfl, f1, ey⟩ := hRv.shp
 replace E := E.r hRv (DM _)
 clear hRv
 obtain ⟨P, C, rfl, f3, f0⟩ := hRq.shp
 replace E := E.r hRq (DM _)
 clear hRq
 obtain ⟨N, B, rfl, f2, ez⟩ := hRr.shp
 replace E := E.r hRr (DM _)
 clear hRr
 go_enter func47, ntmps47
 refine yG ?_
 refine EF O (CI (cs := [.slice H v.length u, .slice P q.length C, .slice N r.length B, .int .i64 ↑n]) O O ?_)
 intro Q w1 e1 z1 d1 x1
 have l1 : w.heap.size ≤ Q := by rw [e1]; exact (e3 E).size
 replace E := (E.below d1).x x1
 clear e1 z1 d1 x1
 by_cases ev : ((v.length : Nat) : Int) > 4
 case pos =>
  refine yG ?_
  exact ⟨CP (QG (s := (⟨v, q, r, n⟩ : Sy)) (iX (l := v) Z)), e4 E⟩
 by_cases ex : ((n : Nat) : Int) < 1
 case pos =>
  refine yG ?_
  exact ⟨CP (ZX (s := (⟨v, q, r, n⟩ : Sy)) (.inl (by simp only; omega))), e4 E⟩
 by_cases ew : ((n : Nat) : Int) > 1000000
 case pos =>
  refine yG ?_
  exact ⟨CP (ZX (s := (⟨v, q, r, n⟩ : Sy)) (.inr (by simp only; omega))), e4 E⟩
 refine yG ?_
 refine EF O (UW mkS O ?_)
 intro b2 w2 e2 z2 d2 x2
 have dm : Q < b2 := by rw [e2]; exact Bx.lt E.1
 replace E := E.below d2
 clear e2 z2 d2
 replace E := E.m x2
 clear x2
 refine yG ?_
 refine wp_loop_ghost (fun mz a w' => ∃ (k : Nat) (t : List Value), t = a.tmps.toList ∧ a = ⟨#[.agg #[.slice H v.length u, .slice P q.length C, .slice N r.length B, .int .i64 ↑n], .pointer (some ⟨Q, 0, none⟩), CC t 2, .map (some b2), undef, CC t 5, undef, undef, undef, undef, undef, .pointer (some ⟨Q, 0, none⟩), .slice H v.length u, .int .i64 ↑v.length, .bool false, .bool false, .pointer (some ⟨Q, 3, none⟩), .int .i64 ↑n, .bool false, .bool false, .bool false, .pointer (some ⟨Q, 3, none⟩), .int .i64 ↑n, .bool false, .bool false, .map (some b2), .pointer (some ⟨Q, 0, none⟩), .slice H v.length u, .int .i64 ↑v.length, .int .i64 ↑k, CC t 30, CC t 31, CC t 32, CC t 33, CC t 34, CC t 35, CC t 36, CC t 37, CC t 38, CC t 39, CC t 40, CC t 41, CC t 42, CC t 43, undef, undef, undef, undef, undef, undef, undef, undef, undef, undef, undef, undef, undef, undef, undef, undef, undef, undef, undef, undef, undef, undef, undef, undef, undef, undef, undef, undef, undef, undef, undef, undef, undef, undef, undef, undef, undef, undef, undef, undef, undef, undef, undef, undef, undef, undef, undef, undef, undef, undef, undef, undef, undef, undef, undef, undef, undef, undef, undef, undef, undef, undef, undef, undef], []⟩ ∧ Env w' [fM mkS b2 (v.take k), fX Q (48) ([.slice H v.length u, .slice P q.length C, .slice N r.length B, .int .i64 ↑n]), fR NH (DI w.heap.size) (.slice N r.length B) r, fR NH (DI w.heap.size) (.slice P q.length C) q, fR elS (DI w.heap.size) (.slice H v.length u) v, fW w] ∧ mz = v.length - k ∧ (k ≤ v.length ∧ aT v k)) (v.length) ⟨0, _, O, O, zE, O, ⟨Nat.zero_le _, ZB v⟩⟩ ?_
 rintro m3 _ w3 ⟨k, t, -, rfl, E, d5, c3⟩
 obtain ⟨c3, hJ⟩ := c3
 by_cases hi : k < v.length
 case pos =>
  obtain ⟨x4, a1⟩ : ∃ x, v[k]? = some x := ⟨_, List.getElem?_eq_getElem hi⟩
  obtain ⟨bg, er, _, au, c2, da, d0⟩ := IsR.at (e4 E).1 a1
  obtain rfl := (show _ = [Value.string (bs x4)] from d0)
  have d7 : bg < _ := (e4 E).2 _ c2
  replace E := E.c da d7
  have f4 : bg < w.heap.size := c2
  by_cases a7 : QQ x4 = true
  case neg =>
   refine yG ?_
   refine mZ O O au O (List.getElem?_eq_some_iff.1 a1).1 ?_
   refine yG ?_
   refine EF O (BY OG O (CQ (DF a7) (jD x4 _)) O E ?_)
   clear E
   intro w8 _ E
   refine yG ?_
   exact ⟨CP (QG (s := (⟨v, q, r, n⟩ : Sy)) (iW (l := v) a1 (DF a7))), e6 E⟩
  by_cases hd : x4 ∈ v.take k
  case pos =>
   refine yG ?_
   refine mZ O O au O (List.getElem?_eq_some_iff.1 a1).1 ?_
   refine yG ?_
   refine EF O (BY OG O (CQ a7 (jD x4 _)) O E ?_)
   clear E
   intro w5 _ E
   refine yG ?_
   refine V (v := .bool true) I O (JP Sk (b := b2) (ks := v.take k) (v := x4) (c := true) O O O E.2.1 (Af hd)) ?_
   refine yG ?_
   exact ⟨CP (QG (s := (⟨v, q, r, n⟩ : Sy)) (oM (l := v) a1 hd)), e6 E⟩
  refine yG ?_
  refine mZ O O au O (List.getElem?_eq_some_iff.1 a1).1 ?_
  refine yG ?_
  refine EF O (BY OG O (CQ a7 (jD x4 _)) O E ?_)
  clear E
  intro w6 _ E
  refine yG ?_
  refine V (v := .bool false) I O (JP Sk (b := b2) (ks := v.take k) (v := x4) (c := false) O O O E.2.1 (NU hd)) ?_
  have g7 := E.2.1
  refine yG ?_
  replace E := So E
  refine EF O (II Sk (ks := v.take k) (v := x4) O O O O g7 (NU hd) ?_)
  intro w7 o7 y7
  rw [← JR a1] at y7
  replace E := (E.onl (SetM.noW g7) zK o7).m y7
  clear g7 o7 y7
  refine yG ?_
  exact ⟨_, (by rw [d5]; omega), (k + 1), _, O, O, zE, O, ⟨by omega, ZC hJ a1 a7 hd⟩⟩
 have bv : DS 4 v = true := oL hJ hi Z
 refine yG ?_
 refine EF O (UW mkN O ?_)
 intro b9 w9 e9 z9 d9 x9
 have dl : b2 < b9 := by rw [e9]; exact SetM.lt E.1
 replace E := E.below d9
 clear e9 z9 d9
 replace E := E.m x9
 clear x9
 refine yG ?_
 refine EF O (tQ O O O ?_)
 intro L ep PP co ce bf
 have cz : b9 < L := by rw [PP]; exact SetM.lt E.1
 replace E := (E.below ce).x bf
 clear PP co ce bf
 refine yG ?_
 refine wp_loop_ghost (fun mz a w' => ∃ (j : Nat) (a0 : List Nat) (f : List Value), a = ⟨#[.agg #[.slice H v.length u, .slice P q.length C, .slice N r.length B, .int .i64 ↑n], .pointer (some ⟨Q, 0, none⟩), CC f 0, .map (some b2), undef, CC t 5, .map (some b9), undef, CC f 1, CC f 2, CC f 3, .pointer (some ⟨Q, 0, none⟩), .slice H v.length u, .int .i64 ↑v.length, .bool false, .bool false, .pointer (some ⟨Q, 3, none⟩), .int .i64 ↑n, .bool false, .bool false, .bool false, .pointer (some ⟨Q, 3, none⟩), .int .i64 ↑n, .bool false, .bool false, .map (some b2), .pointer (some ⟨Q, 0, none⟩), .slice H v.length u, .int .i64 ↑v.length, .int .i64 ↑k, .bool false, CC t 31, CC t 32, CC t 33, CC t 34, CC t 35, CC t 36, CC t 37, CC t 38, CC t 39, CC t 40, CC t 41, CC t 42, CC t 43, .map (some b9), .pointer (some ⟨Q, 1, none⟩), .slice P q.length C, .pointer (some ⟨Q, 2, none⟩), .slice N r.length B, .slice (some ⟨L, 0, none⟩) 2 2, .int .i64 2, .int .i64 ↑j, CC f 4, CC f 5, CC f 6, CC f 7, CC f 8, CC f 9, CC f 10, CC f 11, CC f 12, CC f 13, CC f 14, CC f 15, CC f 16, CC f 17, CC f 18, CC f 19, CC f 20, CC f 21, CC f 22, CC f 23, CC f 24, CC f 25, CC f 26, CC f 27, CC f 28, CC f 29, CC f 30, CC f 31, CC f 32, CC f 33, CC f 34, CC f 35, CC f 36, CC f 37, CC f 38, CC f 39, CC f 40, CC f 41, CC f 42, CC f 43, CC f 44, CC f 45, CC f 46, CC f 47, CC f 48, CC f 49, CC f 50, CC f 51, CC f 52, CC f 53, CC f 54, CC f 55, CC f 56, CC f 57, CC f 58, CC f 59], []⟩ ∧ Env w' [fX L (46) ([.slice P q.length C, .slice N r.length B]), fM mkN b9 a0, fM mkS b2 (v.take k), fX Q (48) ([.slice H v.length u, .slice P q.length C, .slice N r.length B, .int .i64 ↑n]), fR NH (DI w.heap.size) (.slice N r.length B) r, fR NH (DI w.heap.size) (.slice P q.length C) q, fR elS (DI w.heap.size) (.slice H v.length u) v, fW w] ∧ mz = 2 - j ∧ (j ≤ 2 ∧ Ew (⟨v, q, r, n⟩ : Sy) j a0)) (2) ⟨0, [], [CC t 2, undef, undef, undef, undef, undef, undef, undef, undef, undef, undef, undef, undef, undef, undef, undef, undef, undef, undef, undef, undef, undef, undef, undef, undef, undef, undef, undef, undef, undef, undef, undef, undef, undef, undef, undef, undef, undef, undef, undef, undef, undef, undef, undef, undef, undef, undef, undef, undef, undef, undef, undef, undef, undef, undef, undef, undef, undef, undef, undef], O, zE, O, ⟨Nat.zero_le _, .inl ⟨O, O⟩⟩⟩ ?_
 rintro eu _ cp ⟨j, a0, f, rfl, E, bu, ai⟩
 obtain ⟨ai, hJ⟩ := ai
 by_cases hi : j < 2
 case neg =>
  refine yG ?_
  exact ⟨CP (Ev (s := (⟨v, q, r, n⟩ : Sy)) hJ Z bv (by simp only; omega) (by simp only; omega)), e7 E⟩
 obtain ⟨aL, cL, R, d8, db, a2, hO⟩ : ∃ ao cap l, [Value.slice P q.length C, .slice N r.length B][j]? = some (.slice ao l.length cap) ∧ IsR NH (DI w.heap.size) cp (.slice ao l.length cap) l ∧ yX (⟨v, q, r, n⟩ : Sy) j l a0 ∧ MZ l := by
   rcases hJ with ⟨rfl, rfl⟩ | ⟨rfl, rfl, h⟩ | ⟨rfl, _⟩
   · exact ⟨P, C, q, rfl, (e5 E).1, .inl ⟨rfl, rfl, rfl⟩, hOq⟩
   · exact ⟨N, B, r, rfl, (e4 E).1, .inr ⟨rfl, rfl, rfl, h⟩, hOr⟩
   · omega
 replace E := E.r (e := NH) (S := DI w.heap.size) db ((e5 E).2)
 refine yG ?_
 refine V (v := .pointer (some ⟨L, 0 + j * 1, none⟩)) O O (TU (j := j) O underlying152 I O O O hi) ?_
 refine V O O (CR O cJ O E.2.1 (by rw [Nat.zero_add, Nat.mul_one]; exact d8)) ?_
 by_cases dn : ((R.length : Nat) : Int) > 12
 case pos =>
  refine yG ?_
  exact ⟨CP (TM (s := (⟨v, q, r, n⟩ : Sy)) a2 (yW Z)), e8 E⟩
 refine yG ?_
 refine wp_loop_ghost (fun mz a w' => ∃ (i : Nat) (z : List Nat) (o : List Value), a = ⟨#[.agg #[.slice H v.length u, .slice P q.length C, .slice N r.length B, .int .i64 ↑n], .pointer (some ⟨Q, 0, none⟩), CC o 0, .map (some b2), undef, CC t 5, .map (some b9), undef, .slice aL R.length cL, CC o 1, CC o 2, .pointer (some ⟨Q, 0, none⟩), .slice H v.length u, .int .i64 ↑v.length, .bool false, .bool false, .pointer (some ⟨Q, 3, none⟩), .int .i64 ↑n, .bool false, .bool false, .bool false, .pointer (some ⟨Q, 3, none⟩), .int .i64 ↑n, .bool false, .bool false, .map (some b2), .pointer (some ⟨Q, 0, none⟩), .slice H v.length u, .int .i64 ↑v.length, .int .i64 ↑k, .bool false, CC t 31, CC t 32, CC t 33, CC t 34, CC t 35, CC t 36, CC t 37, CC t 38, CC t 39, CC t 40, CC t 41, CC t 42, CC t 43, .map (some b9), .pointer (some ⟨Q, 1, none⟩), .slice P q.length C, .pointer (some ⟨Q, 2, none⟩), .slice N r.length B, .slice (some ⟨L, 0, none⟩) 2 2, .int .i64 2, .int .i64 ↑j, .bool true, .pointer (some ⟨L, 0 + j * 1, none⟩), .slice aL R.length cL, .slice aL R.length cL, .int .i64 ↑R.length, .bool false, .slice aL R.length cL, .int .i64 ↑R.length, .int .i64 ↑i, CC o 3, CC o 4, CC o 5, CC o 6, CC o 7, CC o 8, CC o 9, CC o 10, CC o 11, CC o 12, CC o 13, CC o 14, CC o 15, CC o 16, CC o 17, CC o 18, CC o 19, CC o 20, CC o 21, CC o 22, CC o 23, CC o 24, CC o 25, CC o 26, CC o 27, CC o 28, CC o 29, CC o 30, CC o 31, CC o 32, CC o 33, CC o 34, CC o 35, CC o 36, CC o 37, CC o 38, CC o 39, CC o 40, CC o 41, CC o 42, CC o 43, CC o 44, CC o 45, CC o 46, CC o 47, CC o 48, CC f 59], []⟩ ∧ Env w' [fR NH (DI w.heap.size) (.slice aL R.length cL) R, fX L (46) ([.slice P q.length C, .slice N r.length B]), fM mkN b9 z, fM mkS b2 (v.take k), fX Q (48) ([.slice H v.length u, .slice P q.length C, .slice N r.length B, .int .i64 ↑n]), fR NH (DI w.heap.size) (.slice N r.length B) r, fR NH (DI w.heap.size) (.slice P q.length C) q, fR elS (DI w.heap.size) (.slice H v.length u) v, fW w] ∧ mz = R.length - i ∧ (i ≤ R.length ∧ dR v.length n R i ∧ z = a0 ++ EM (R.take i) ∧ ∀ x ∈ EM (R.take i), x ∉ a0)) (R.length) ⟨0, a0, [CC f 0, CC f 2, CC f 3, CC f 13, CC f 14, CC f 15, CC f 16, CC f 17, CC f 18, CC f 19, CC f 20, CC f 21, CC f 22, CC f 23, CC f 24, CC f 25, CC f 26, CC f 27, CC f 28, CC f 29, CC f 30, CC f 31, CC f 32, CC f 33, CC f 34, CC f 35, CC f 36, CC f 37, CC f 38, CC f 39, CC f 40, CC f 41, CC f 42, CC f 43, CC f 44, CC f 45, CC f 46, CC f 47, CC f 48, CC f 49, CC f 50, CC f 51, CC f 52, CC f 53, CC f 54, CC f 55, CC f 56, CC f 57, CC f 58], O, zE, O, ⟨Nat.zero_le _, iY _ _ _, by simp [EM], fun x h => by simp [EM] at h⟩⟩ ?_
 rintro et _ eo ⟨i, z, o, rfl, E, ae, ah⟩
 obtain ⟨ah, Y⟩ := ah
 by_cases hi : i < R.length
 case neg =>
  have d6 := yV Y.1 hi Z
  rw [IA hi] at Y
  refine yG ?_
  exact ⟨_, (by rw [bu]; omega), (j + 1), z, [CC o 0, .slice aL R.length cL, CC o 1, CC o 2, .bool true, .pointer (some ⟨L, 0 + j * 1, none⟩), .slice aL R.length cL, .slice aL R.length cL, .int .i64 ↑R.length, .bool false, .slice aL R.length cL, .int .i64 ↑R.length, .int .i64 ↑i, .bool false, CC o 4, CC o 5, CC o 6, CC o 7, CC o 8, CC o 9, CC o 10, CC o 11, CC o 12, CC o 13, CC o 14, CC o 15, CC o 16, CC o 17, CC o 18, CC o 19, CC o 20, CC o 21, CC o 22, CC o 23, CC o 24, CC o 25, CC o 26, CC o 27, CC o 28, CC o 29, CC o 30, CC o 31, CC o 32, CC o 33, CC o 34, CC o 35, CC o 36, CC o 37, CC o 38, CC o 39, CC o 40, CC o 41, CC o 42, CC o 43, CC o 44, CC o 45, CC o 46, CC o 47, CC o 48, .int .i64 ↑(j + 1)], O, zE, O, ⟨by omega, Y.2.1 ▸ Bk a2 d6 Y.2.2⟩⟩
 obtain ⟨⟨p, G⟩, J⟩ : ∃ x, R[i]? = some x := ⟨_, List.getElem?_eq_getElem hi⟩
 obtain ⟨a6, aa, _, T, ag, c0, ⟨_, rfl, ad⟩⟩ := IsR.at E.1.1 J
 obtain ⟨F, D, rfl, d4, _⟩ := ad.shp
 have bx : a6 < _ := E.1.2 _ ag
 replace E := (E.r ad E.1.2).c c0 bx
 have dq : a6 < w.heap.size := ag
 have y := hO _ (List.mem_of_getElem? J)
 have U := J
 by_cases hs : ((p : Nat) : Int) < 1
 case pos =>
  refine yG ?_
  refine Ou O O T O (List.getElem?_eq_some_iff.1 J).1 ?_
  refine V O O (CD PB O O (E.1.1) O) ?_
  refine yG ?_
  refine EF O (CA PB O ?_)
  intro di en kX cn cd ar
  have cy : L < di := by rw [kX]; exact Bx.lt (e3 E)
  replace E := E.below cd
  clear kX cn cd
  refine yG ?_
  refine EF O (BX PB O O O ar O O (CM O (CM O EX)) ?_)
  intro em bt bd
  replace E := (E.onl (ar.noW (CE AG (CE AG CX))) zK bt).x (cs := [.int .i64 ↑p, .slice F G.length D]) bd
  clear ar bt bd
  refine yG ?_
  refine sE E [0,1,2,3,4,5,6,7,8,9,10,11,12,13,14,15,16,17,18,19,20,21,22,23,24,25,26,27,28,29,30] ?_
  replace E := E.drew
  refine yG ?_
  exact ⟨CP (TM (s := (⟨v, q, r, n⟩ : Sy)) a2 (WC U (.inl Z))), RG E⟩
 by_cases hg : ((p : Nat) : Int) ≥ ((n : Nat) : Int)
 case pos =>
  refine yG ?_
  refine Ou O O T O (List.getElem?_eq_some_iff.1 J).1 ?_
  refine V O O (CD PB O O (E.1.1) O) ?_
  refine yG ?_
  refine EF O (CA PB O ?_)
  intro dh el e16 cm cc aq
  have cx : L < dh := by rw [e16]; exact Bx.lt (e3 E)
  replace E := E.below cc
  clear e16 cm cc
  refine yG ?_
  refine EF O (BX PB O O O aq O O (CM O (CM O EX)) ?_)
  intro ek br bc
  replace E := (E.onl (aq.noW (CE AG (CE AG CX))) zK br).x (cs := [.int .i64 ↑p, .slice F G.length D]) bc
  clear aq br bc
  refine yG ?_
  refine sE E [0,1,2,3,4,5,6,7,8,9,10,11,12,13,14,15,16,17,18,19,20,21,22,23,24,25,26,27,28,29,30] ?_
  replace E := E.drew
  refine yG ?_
  exact ⟨CP (TM (s := (⟨v, q, r, n⟩ : Sy)) a2 (WC U (.inr (.inl (by simp only; omega))))), RG E⟩
 by_cases hd : p ∈ a0 ++ EM (R.take i)
 case pos =>
  refine yG ?_
  refine Ou O O T O (List.getElem?_eq_some_iff.1 J).1 ?_
  refine V O O (CD PB O O (E.1.1) O) ?_
  refine yG ?_
  refine EF O (CA PB O ?_)
  intro dg ej e18 ck cb ap
  have cw : L < dg := by rw [e18]; exact Bx.lt (e3 E)
  replace E := E.below cb
  clear e18 ck cb
  refine yG ?_
  refine EF O (BX PB O O O ap O O (CM O (CM O EX)) ?_)
  intro ei bq bb
  replace E := (E.onl (ap.noW (CE AG (CE AG CX))) zK bq).x (cs := [.int .i64 ↑p, .slice F G.length D]) bb
  clear ap bq bb
  refine yG ?_
  refine sE E [0,1,2,3,4,5,6,7,8,9,10,11,12,13,14,15,16,17,18,19,20,21,22,23,24,25,26,27,28,29,30] ?_
  replace E := E.drew
  refine yG ?_
  refine SW (v := .bool true) O O O I O (fun w hS => JP lF (b := b9) (ks := z) (v := p) (c := true) O O O (e5 hS) (Af (Y.2.1 ▸ hd))) ?_
  refine yG ?_
  exact ⟨CP (Ki (s := (⟨v, q, r, n⟩ : Sy)) a2 U hd), RG E⟩
 by_cases h0 : 0 < i
 case neg =>
  by_cases hf : LW v.length G = true
  case neg =>
   refine yG ?_
   refine Ou O O T O (List.getElem?_eq_some_iff.1 J).1 ?_
   refine V O O (CD PB O O (E.1.1) O) ?_
   refine yG ?_
   refine EF O (CA PB O ?_)
   intro dc du c4 cf c6 aj
   have cq : L < dc := by rw [c4]; exact Bx.lt (e3 E)
   replace E := E.below c6
   clear c4 cf c6
   refine yG ?_
   refine EF O (BX PB O O O aj O O (CM O (CM O EX)) ?_)
   intro dt bi b0
   replace E := (E.onl (aj.noW (CE AG (CE AG CX))) zK bi).x (cs := [.int .i64 ↑p, .slice F G.length D]) b0
   clear aj bi b0
   refine yG ?_
   refine sE E [0,1,2,3,4,5,6,7,8,9,10,11,12,13,14,15,16,17,18,19,20,21,22,23,24,25,26,27,28,29,30] ?_
   replace E := E.drew
   refine yG ?_
   refine SW (v := .bool false) O O O I O (fun w hS => JP lF (b := b9) (ks := z) (v := p) (c := false) O O O (e5 hS) (NU (fun g => hd (Y.2.1 ▸ g)))) ?_
   have av := e5 E
   refine yG ?_
   replace E := dl5 E
   refine EF O (II lF (ks := z) (v := p) O O O O av (NU (fun g => hd (Y.2.1 ▸ g))) ?_)
   intro ds bh az
   replace E := (E.onl (SetM.noW av) zK bh).m az
   clear av bh az
   refine yG ?_
   refine EF O (BY NP O (CQ (DF hf) (oV _ G v.length _ (BV (e3 E)) y.1 y.2.1 y.2.2)) O E ?_)
   clear E
   intro dr _ E
   refine yG ?_
   exact ⟨CP (TM (s := (⟨v, q, r, n⟩ : Sy)) a2 (WC U (.inr (.inr (DF hf))))), RG E⟩
  refine yG ?_
  refine Ou O O T O (List.getElem?_eq_some_iff.1 J).1 ?_
  refine V O O (CD PB O O (E.1.1) O) ?_
  refine yG ?_
  refine EF O (CA PB O ?_)
  intro a4 dy c5 cg c7 ak
  have cr : L < a4 := by rw [c5]; exact Bx.lt (e3 E)
  replace E := E.below c7
  clear c5 cg c7
  refine yG ?_
  refine EF O (BX PB O O O ak O O (CM O (CM O EX)) ?_)
  intro dx bk b4
  replace E := (E.onl (ak.noW (CE AG (CE AG CX))) zK bk).x (cs := [.int .i64 ↑p, .slice F G.length D]) b4
  clear ak bk b4
  refine yG ?_
  refine sE E [0,1,2,3,4,5,6,7,8,9,10,11,12,13,14,15,16,17,18,19,20,21,22,23,24,25,26,27,28,29,30] ?_
  replace E := E.drew
  refine yG ?_
  refine SW (v := .bool false) O O O I O (fun w hS => JP lF (b := b9) (ks := z) (v := p) (c := false) O O O (e5 hS) (NU (fun g => hd (Y.2.1 ▸ g)))) ?_
  have aw := e5 E
  refine yG ?_
  replace E := dl5 E
  refine EF O (II lF (ks := z) (v := p) O O O O aw (NU (fun g => hd (Y.2.1 ▸ g))) ?_)
  intro dw bj b3
  replace E := (E.onl (SetM.noW aw) zK bj).m b3
  clear aw bj b3
  refine yG ?_
  refine EF O (BY NP O (CQ hf (oV _ G v.length _ (BV (e3 E)) y.1 y.2.1 y.2.2)) O E ?_)
  clear E
  intro dv _ E
  refine yG ?_
  exact ⟨_, (by rw [ae]; omega), (i + 1), (z ++ [p]), [CC o 0, .int .i64 ↑i, .pointer (some ⟨a4, 0, none⟩), .bool true, .int .i64 ↑i, .pointer (some ⟨a6, aa + i * 2, none⟩), .agg #[.int .i64 ↑p, .slice F G.length D], .pointer (some ⟨a4, 0, none⟩), .int .i64 ↑p, .bool false, .bool false, .pointer (some ⟨a4, 0, none⟩), .int .i64 ↑p, .pointer (some ⟨Q, 3, none⟩), .int .i64 ↑n, .bool false, .bool false, .bool false, .map (some b9), .pointer (some ⟨a4, 0, none⟩), .int .i64 ↑p, .bool false, .bool false, .bool false, .int .i64 ↑i, .bool false, .bool false, undef, undef, undef, undef, undef, undef, undef, undef, undef, .bool false, .bool false, .map (some b9), .pointer (some ⟨a4, 0, none⟩), .int .i64 ↑p, .pointer (some ⟨a4, 1, none⟩), .slice F G.length D, .pointer (some ⟨Q, 0, none⟩), .slice H v.length u, .int .i64 ↑v.length, .bool true, .bool false, .int .i64 ↑(i + 1)], O, zE, O, ⟨by omega, UA Y.1 U Z Z hf (fun h => absurd h Z), sG Y.2.1 U, jN Y.2.2 U (fun g => hd (List.mem_append_left _ g))⟩⟩
 obtain ⟨⟨ab, es⟩, X⟩ : ∃ x, R[i - 1]? = some x := ⟨_, List.getElem?_eq_getElem (show i - 1 < R.length by omega)⟩
 obtain ⟨a5, a9, _, a8, af, bz, ⟨_, rfl, ac⟩⟩ := IsR.at E.2.2.1.1 X
 obtain ⟨dk, dj, rfl, d3, _⟩ := ac.shp
 have bw : a5 < _ := E.2.2.1.2 _ af
 replace E := (E.r ac E.2.2.1.2).c bz bw
 have dp : a5 < w.heap.size := af
 by_cases hq : ((p : Nat) : Int) ≤ ((ab : Nat) : Int)
 case pos =>
  refine yG ?_
  refine Ou O O T O (List.getElem?_eq_some_iff.1 J).1 ?_
  refine V O O (CD PB O O (E.2.2.1.1) O) ?_
  refine yG ?_
  refine EF O (CA PB O ?_)
  intro de eh e21 cj ca an
  have cv : L < de := by rw [e21]; exact Bx.lt (e5 E)
  replace E := E.below ca
  clear e21 cj ca
  refine yG ?_
  refine EF O (BX PB O O O an O O (CM O (CM O EX)) ?_)
  intro eg bp ba
  replace E := (E.onl (an.noW (CE AG (CE AG CX))) zK bp).x (cs := [.int .i64 ↑p, .slice F G.length D]) ba
  clear an bp ba
  refine yG ?_
  refine sE E [0,1,2,3,4,5,6,7,8,9,10,11,12,13,14,15,16,17,18,19,20,21,22,23,24,25,26,27,28,29,30] ?_
  replace E := E.drew
  refine yG ?_
  refine SW (v := .bool false) O O O I O (fun w hS => JP lF (b := b9) (ks := z) (v := p) (c := false) O O O (e7 hS) (NU (fun g => hd (Y.2.1 ▸ g)))) ?_
  refine yG ?_
  refine SW (v := .int .i64 ↑(i - 1)) O O O I O (fun w hS => GJ O O O (by rw [JC Z]; omega)) ?_
  refine OB O O O a8 O (List.getElem?_eq_some_iff.1 X).1 ?_
  refine yG ?_
  exact ⟨CP (TM (s := (⟨v, q, r, n⟩ : Sy)) a2 (oP U X Z Z)), VE E⟩
 by_cases hf : LW v.length G = true
 case neg =>
  refine yG ?_
  refine Ou O O T O (List.getElem?_eq_some_iff.1 J).1 ?_
  refine V O O (CD PB O O (E.2.2.1.1) O) ?_
  refine yG ?_
  refine EF O (CA PB O ?_)
  intro dd eb e27 ch c8 al
  have ct : L < dd := by rw [e27]; exact Bx.lt (e5 E)
  replace E := E.below c8
  clear e27 ch c8
  refine yG ?_
  refine EF O (BX PB O O O al O O (CM O (CM O EX)) ?_)
  intro ea bm b6
  replace E := (E.onl (al.noW (CE AG (CE AG CX))) zK bm).x (cs := [.int .i64 ↑p, .slice F G.length D]) b6
  clear al bm b6
  refine yG ?_
  refine sE E [0,1,2,3,4,5,6,7,8,9,10,11,12,13,14,15,16,17,18,19,20,21,22,23,24,25,26,27,28,29,30] ?_
  replace E := E.drew
  refine yG ?_
  refine SW (v := .bool false) O O O I O (fun w hS => JP lF (b := b9) (ks := z) (v := p) (c := false) O O O (e7 hS) (NU (fun g => hd (Y.2.1 ▸ g)))) ?_
  refine yG ?_
  refine SW (v := .int .i64 ↑(i - 1)) O O O I O (fun w hS => GJ O O O (by rw [JC Z]; omega)) ?_
  refine OB O O O a8 O (List.getElem?_eq_some_iff.1 X).1 ?_
  have ax := e7 E
  refine yG ?_
  replace E := dl7 E
  refine EF O (II lF (ks := z) (v := p) O O O O ax (NU (fun g => hd (Y.2.1 ▸ g))) ?_)
  intro e0 bl b5
  replace E := (E.onl (SetM.noW ax) zK bl).m b5
  clear ax bl b5
  refine yG ?_
  refine EF O (BY NP O (CQ (DF hf) (oV _ G v.length _ (BV (e5 E)) y.1 y.2.1 y.2.2)) O E ?_)
  clear E
  intro dz _ E
  refine yG ?_
  exact ⟨CP (TM (s := (⟨v, q, r, n⟩ : Sy)) a2 (WC U (.inr (.inr (DF hf))))), VE E⟩
 refine yG ?_
 refine Ou O O T O (List.getElem?_eq_some_iff.1 J).1 ?_
 refine V O O (CD PB O O (E.2.2.1.1) O) ?_
 refine yG ?_
 refine EF O (CA PB O ?_)
 intro a3 ef Mt ci c9 am
 have cu : L < a3 := by rw [Mt]; exact Bx.lt (e5 E)
 replace E := E.below c9
 clear Mt ci c9
 refine yG ?_
 refine EF O (BX PB O O O am O O (CM O (CM O EX)) ?_)
 intro ee bo b8
 replace E := (E.onl (am.noW (CE AG (CE AG CX))) zK bo).x (cs := [.int .i64 ↑p, .slice F G.length D]) b8
 clear am bo b8
 refine yG ?_
 refine sE E [0,1,2,3,4,5,6,7,8,9,10,11,12,13,14,15,16,17,18,19,20,21,22,23,24,25,26,27,28,29,30] ?_
 replace E := E.drew
 refine yG ?_
 refine SW (v := .bool false) O O O I O (fun w hS => JP lF (b := b9) (ks := z) (v := p) (c := false) O O O (e7 hS) (NU (fun g => hd (Y.2.1 ▸ g)))) ?_
 refine yG ?_
 refine SW (v := .int .i64 ↑(i - 1)) O O O I O (fun w hS => GJ O O O (by rw [JC Z]; omega)) ?_
 refine OB O O O a8 O (List.getElem?_eq_some_iff.1 X).1 ?_
 have ay := e7 E
 refine yG ?_
 replace E := dl7 E
 refine EF O (II lF (ks := z) (v := p) O O O O ay (NU (fun g => hd (Y.2.1 ▸ g))) ?_)
 intro ed bn b7
 replace E := (E.onl (SetM.noW ay) zK bn).m b7
 clear ay bn b7
 refine yG ?_
 refine EF O (BY NP O (CQ hf (oV _ G v.length _ (BV (e5 E)) y.1 y.2.1 y.2.2)) O E ?_)
 clear E
 intro ec _ E
 refine yG ?_
 exact ⟨_, (by rw [ae]; omega), (i + 1), (z ++ [p]), [CC o 0, .int .i64 ↑i, .pointer (some ⟨a3, 0, none⟩), .bool true, .int .i64 ↑i, .pointer (some ⟨a6, aa + i * 2, none⟩), .agg #[.int .i64 ↑p, .slice F G.length D], .pointer (some ⟨a3, 0, none⟩), .int .i64 ↑p, .bool false, .bool false, .pointer (some ⟨a3, 0, none⟩), .int .i64 ↑p, .pointer (some ⟨Q, 3, none⟩), .int .i64 ↑n, .bool false, .bool false, .bool false, .map (some b9), .pointer (some ⟨a3, 0, none⟩), .int .i64 ↑p, .bool false, .bool false, .bool false, .int .i64 ↑i, .bool true, .bool true, .pointer (some ⟨a3, 0, none⟩), .int .i64 ↑p, .slice aL R.length cL, .int .i64 ↑i, .int .i64 ↑(i - 1), .pointer (some ⟨a5, a9 + (i - 1) * 2, none⟩), .pointer (some ⟨a5, a9 + (i - 1) * 2, none⟩), .int .i64 ↑ab, .bool false, .bool false, .bool false, .map (some b9), .pointer (some ⟨a3, 0, none⟩), .int .i64 ↑p, .pointer (some ⟨a3, 1, none⟩), .slice F G.length D, .pointer (some ⟨Q, 0, none⟩), .slice H v.length u, .int .i64 ↑v.length, .bool true, .bool false, .int .i64 ↑(i + 1)], O, zE, O, ⟨by omega, UA Y.1 U Z Z hf (fun _ a b c1 => by rw [X] at c1; cases c1; omega), sG Y.2.1 U, jN Y.2.2 U (fun g => hd (List.mem_append_left _ g))⟩⟩
end Go.Proofs.YtmppigbbkjepiaaGreatDoor
