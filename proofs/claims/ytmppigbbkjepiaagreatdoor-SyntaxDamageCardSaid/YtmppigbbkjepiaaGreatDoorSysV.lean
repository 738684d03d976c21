/- Helping facts of SysV; no other conditions. -/
import Derived.Test.YtmppigbbkjepiaaGreatDoorSys
namespace Go.Proofs.YtmppigbbkjepiaaGreatDoor
open Go.Proofs.Tryz
open Go.RowKit W
theorem IsR.lit1 {α : Type} {e : El α} {b t : Nat} {w : World} {cs : List Value} {x : α} (hb : Bx w b t cs) (h : e.p (DD w.heap.size) w cs x) : IsR e (DD w.heap.size) w (.slice (some ⟨b, 0, none⟩) 1 1) [x] := by
  refine ⟨_, 1, O, Nat.le_refl _, by decide, fun i y f => ?_⟩
  cases i with
  | zero =>
    simp at f; subst f
    refine ⟨b, 0, cs, O, hb.lt, ?_, h⟩
    rw [Nat.zero_mul]; exact hb.cs
  | succ i => simp at f
theorem IsR.lit0 {α : Type} {e : El α} {b : Nat} {S : Nat → Prop} {w : World} : IsR e S w (.slice (some ⟨b, 0, none⟩) 0 0) ([] : List α) := ⟨_, 0, rfl, Nat.le_refl _, Nat.zero_le _, fun i x h => by simp at h⟩
theorem MV : SE [] := fun e h => by cases h
theorem pL (x : Bs) : JN ⟨[x], [], [], 1⟩ = LZ x := by simp [JN, DF, JO, FT]
def Jm (s : Sy) (j : Nat) (ids : List Nat) : Prop :=
  (j = 0 ∧ ids = []) ∨ (j = 1 ∧ ids = FT s.eqs ∧ JO s.vars.length s.next s.eqs = true) ∨
  (j = 2 ∧ JO s.vars.length s.next s.eqs = true ∧ JO s.vars.length s.next s.neqs = true ∧ ∀ i ∈ FT s.neqs, i ∉ FT s.eqs)
theorem Ey {s : Sy} {j : Nat} {l : List (Nat × List Tm)} {ids : List Nat} (h : Ci s j l ids) (hl : JO s.vars.length s.next l = true) (hd : ∀ x ∈ FT l, x ∉ ids) : Jm s (j + 1) (ids ++ FT l) := by
  rcases h with ⟨rfl, rfl, rfl⟩ | ⟨rfl, rfl, rfl, h⟩
  · exact .inr (.inl ⟨rfl, rfl, hl⟩)
  · exact .inr (.inr ⟨rfl, h, hl, hd⟩)
theorem Jl {s : Sy} {j : Nat} {ids : List Nat} (h : Jm s j ids) (hj : ¬ j < 2) (h1 : DF 4 s.vars = true) (h2 : ¬ s.next < 1) (h3 : ¬ s.next > 1000000) : JN s = true := by
  rcases h with ⟨rfl, _⟩ | ⟨rfl, _⟩ | ⟨rfl, k, f, e⟩
  · omega
  · omega
  · exact Ay h1 h2 h3 k f e
theorem uO {ids ids2 : List Nat} {l : List (Nat × List Tm)} {i id : Nat} {p : List Tm} (h : ids2 = ids ++ FT (l.take i)) (hx : l[i]? = some (id, p)) : ids2 ++ [id] = ids ++ FT (l.take (i + 1)) := by rw [MF hx, MX, h, List.append_assoc]
theorem vA {ids : List Nat} {l : List (Nat × List Tm)} {i id : Nat} {p : List Tm} (h : ∀ x ∈ FT (l.take i), x ∉ ids) (hx : l[i]? = some (id, p)) (hn : id ∉ ids) : ∀ x ∈ FT (l.take (i + 1)), x ∉ ids := by
  rw [MF hx, MX]
  intro x e
  rcases List.mem_append.1 e with g | g
  · exact h x g
  · simp at g; subst g; exact hn
set_option maxRecDepth 100000 in
set_option maxHeartbeats 8000000 in
theorem SD (vv : Value) (v : List Bs) (vq : Value) (q : List (Nat × List Tm)) (vr : Value) (r : List (Nat × List Tm)) (n : Nat) (w : World) (hRv : IsR elS (DD w.heap.size) w vv v) (hRq : IsR NY (DD w.heap.size) w vq q) (hRr : IsR NY (DD w.heap.size) w vr r) (hOq : SE q) (hOr : SE r) (hL : v.length ≤ 1000000) :
    Calls prog 47 #[.agg #[vv, vq, vr, .int .i64 ↑n]] w (NP w (JN ⟨v, q, r, n⟩)) := by
 have E := Env.start w
 obtain ⟨H, u, rfl, f8, f5⟩ := hRv.shp
 replace E := E.r hRv (DK _)
 obtain ⟨L, C, rfl, fa, f7⟩ := hRq.shp
 replace E := E.r hRq (DK _)
 obtain ⟨J, B, rfl, f9, f6⟩ := hRr.shp
 replace E := E.r hRr (DK _)
 go_enter func47, ntmps47
 refine yG ?_
 refine EF O (CI (cs := [.slice H v.length u, .slice L q.length C, .slice J r.length B, .int .i64 ↑n]) O O ?_)
 intro N w1 e1 z1 d1 x1
 have l1 : w.heap.size ≤ N := by rw [e1]; exact (e3 E).size
 replace E := E.below d1
 clear e1
 replace E := E.x x1
 by_cases f2 : ((v.length : Nat) : Int) > 4
 case pos =>
  refine yG ?_
  exact ⟨DN (bE (s := (⟨v, q, r, n⟩ : Sy)) (uG (l := v) AA)), e4 E⟩
 by_cases f4 : ((n : Nat) : Int) < 1
 case pos =>
  refine yG ?_
  exact ⟨DN (sU (s := (⟨v, q, r, n⟩ : Sy)) (.inl (by simp only; omega))), e4 E⟩
 by_cases f3 : ((n : Nat) : Int) > 1000000
 case pos =>
  refine yG ?_
  exact ⟨DN (sU (s := (⟨v, q, r, n⟩ : Sy)) (.inr (by simp only; omega))), e4 E⟩
 refine yG ?_
 refine EF O (VY mkS O ?_)
 intro b2 w2 e2 z2 d2 x2
 have di : N < b2 := by rw [e2]; exact Bx.lt E.1
 replace E := E.below d2
 clear e2
 replace E := E.m x2
 refine yG ?_
 refine wp_loop_ghost (fun mz a w' => ∃ (k : Nat) (t : List Value), t = a.tmps.toList ∧ a = ⟨#[.agg #[.slice H v.length u, .slice L q.length C, .slice J r.length B, .int .i64 ↑n], .pointer (some ⟨N, 0, none⟩), CE t 2, .map (some b2), undef, CE t 5, undef, undef, undef, undef, undef, .pointer (some ⟨N, 0, none⟩), .slice H v.length u, .int .i64 ↑v.length, .bool false, .bool false, .pointer (some ⟨N, 3, none⟩), .int .i64 ↑n, .bool false, .bool false, .bool false, .pointer (some ⟨N, 3, none⟩), .int .i64 ↑n, .bool false, .bool false, .map (some b2), .pointer (some ⟨N, 0, none⟩), .slice H v.length u, .int .i64 ↑v.length, .int .i64 ↑k, CE t 30, CE t 31, CE t 32, CE t 33, CE t 34, CE t 35, CE t 36, CE t 37, CE t 38, CE t 39, CE t 40, CE t 41, CE t 42, CE t 43, undef, undef, undef, undef, undef, undef, undef, undef, undef, undef, undef, undef, undef, undef, undef, undef, undef, undef, undef, undef, undef, undef, undef, undef, undef, undef, undef, undef, undef, undef, undef, undef, undef, undef, undef, undef, undef, undef, undef, undef, undef, undef, undef, undef, undef, undef, undef, undef, undef, undef, undef, undef, undef, undef, undef, undef, undef, undef, undef, undef, undef, undef, undef, undef], []⟩ ∧ Env w' [fM mkS b2 (v.take k), fX N (48) ([.slice H v.length u, .slice L q.length C, .slice J r.length B, .int .i64 ↑n]), fR NY (DD w.heap.size) (.slice J r.length B) r, fR NY (DD w.heap.size) (.slice L q.length C) q, fR elS (DD w.heap.size) (.slice H v.length u) v, fW w] ∧ mz = v.length - k ∧ (k ≤ v.length ∧ gG v k)) (v.length) ⟨0, _, O, O, zE, O, ⟨Nat.zero_le _, kP v⟩⟩ ?_
 rintro m3 _ w3 ⟨k, t, -, rfl, E, cm, b7⟩
 obtain ⟨b7, hJ⟩ := b7
 by_cases hi : k < v.length
 case pos =>
  obtain ⟨x4, a1⟩ : ∃ x, v[k]? = some x := ⟨_, List.getElem?_eq_getElem hi⟩
  obtain ⟨aw, ey, _, ak, b6, cq, ci⟩ := IsR.at (e4 E).1 a1
  obtain rfl := (show _ = [Value.string (bs x4)] from ci)
  have co : aw < _ := (e4 E).2 _ b6
  replace E := E.c cq co
  have fb : aw < w.heap.size := b6
  by_cases a8 : LZ x4 = true
  case neg =>
   refine yG ?_
   refine iD O O ak O (List.getElem?_eq_some_iff.1 a1).1 ?_
   refine yG ?_
   refine EF O (CA PH O (CU (ET a8) (kZ x4 _)) O E ?_)
   intro w8 d8 E
   refine yG ?_
   exact ⟨DN (bE (s := (⟨v, q, r, n⟩ : Sy)) (uF (l := v) a1 (ET a8))), e6 E⟩
  by_cases X : x4 ∈ v.take k
  case pos =>
   refine yG ?_
   refine iD O O ak O (List.getElem?_eq_some_iff.1 a1).1 ?_
   refine yG ?_
   refine EF O (CA PH O (CU a8 (kZ x4 _)) O E ?_)
   intro w5 d5 E
   refine yG ?_
   refine V (v := .bool true) Z O (KA Xt (b := b2) (ks := v.take k) (v := x4) (c := true) O O O E.2.1 (Dm X)) ?_
   refine yG ?_
   exact ⟨DN (bE (s := (⟨v, q, r, n⟩ : Sy)) (Cg (l := v) a1 X)), e6 E⟩
  refine yG ?_
  refine iD O O ak O (List.getElem?_eq_some_iff.1 a1).1 ?_
  refine yG ?_
  refine EF O (CA PH O (CU a8 (kZ x4 _)) O E ?_)
  intro w6 d6 E
  refine yG ?_
  refine V (v := .bool false) Z O (KA Xt (b := b2) (ks := v.take k) (v := x4) (c := false) O O O E.2.1 (OQ X)) ?_
  have g7 := E.2.1
  refine yG ?_
  replace E := XQ E
  refine EF O (IN Xt (ks := v.take k) (v := x4) O O O O g7 (OQ X) ?_)
  intro w7 o7 y7
  rw [← MF a1] at y7
  replace E := (E.onl (SetM.noW g7) zK o7).m y7
  refine yG ?_
  exact ⟨_, (by rw [cm]; omega), (k + 1), _, O, O, zE, O, ⟨by omega, kQ hJ a1 a8 X⟩⟩
 have ay : DF 4 v = true := Cf hJ hi AA
 refine yG ?_
 refine EF O (VY mkN O ?_)
 intro Y w9 e9 z9 d9 x9
 have dh : b2 < Y := by rw [e9]; exact SetM.lt E.1
 replace E := E.below d9
 clear e9
 replace E := E.m x9
 refine yG ?_
 refine EF O (wC O O O ?_)
 intro b10 ex QM dw d3 bt
 have ch : Y < b10 := by rw [QM]; exact SetM.lt E.1
 replace E := E.below d3
 clear QM
 replace E := E.x bt
 refine yG ?_
 refine wp_loop_ghost (fun mz a w' => ∃ (j : Nat) (a0 : List Nat) (f : List Value), a = ⟨#[.agg #[.slice H v.length u, .slice L q.length C, .slice J r.length B, .int .i64 ↑n], .pointer (some ⟨N, 0, none⟩), CE f 0, .map (some b2), undef, CE t 5, .map (some Y), undef, CE f 1, CE f 2, CE f 3, .pointer (some ⟨N, 0, none⟩), .slice H v.length u, .int .i64 ↑v.length, .bool false, .bool false, .pointer (some ⟨N, 3, none⟩), .int .i64 ↑n, .bool false, .bool false, .bool false, .pointer (some ⟨N, 3, none⟩), .int .i64 ↑n, .bool false, .bool false, .map (some b2), .pointer (some ⟨N, 0, none⟩), .slice H v.length u, .int .i64 ↑v.length, .int .i64 ↑k, .bool false, CE t 31, CE t 32, CE t 33, CE t 34, CE t 35, CE t 36, CE t 37, CE t 38, CE t 39, CE t 40, CE t 41, CE t 42, CE t 43, .map (some Y), .pointer (some ⟨N, 1, none⟩), .slice L q.length C, .pointer (some ⟨N, 2, none⟩), .slice J r.length B, .slice (some ⟨b10, 0, none⟩) 2 2, .int .i64 2, .int .i64 ↑j, CE f 4, CE f 5, CE f 6, CE f 7, CE f 8, CE f 9, CE f 10, CE f 11, CE f 12, CE f 13, CE f 14, CE f 15, CE f 16, CE f 17, CE f 18, CE f 19, CE f 20, CE f 21, CE f 22, CE f 23, CE f 24, CE f 25, CE f 26, CE f 27, CE f 28, CE f 29, CE f 30, CE f 31, CE f 32, CE f 33, CE f 34, CE f 35, CE f 36, CE f 37, CE f 38, CE f 39, CE f 40, CE f 41, CE f 42, CE f 43, CE f 44, CE f 45, CE f 46, CE f 47, CE f 48, CE f 49, CE f 50, CE f 51, CE f 52, CE f 53, CE f 54, CE f 55, CE f 56, CE f 57, CE f 58, CE f 59], []⟩ ∧ Env w' [fX b10 (46) ([.slice L q.length C, .slice J r.length B]), fM mkN Y a0, fM mkS b2 (v.take k), fX N (48) ([.slice H v.length u, .slice L q.length C, .slice J r.length B, .int .i64 ↑n]), fR NY (DD w.heap.size) (.slice J r.length B) r, fR NY (DD w.heap.size) (.slice L q.length C) q, fR elS (DD w.heap.size) (.slice H v.length u) v, fW w] ∧ mz = 2 - j ∧ (j ≤ 2 ∧ Jm (⟨v, q, r, n⟩ : Sy) j a0)) (2) ⟨0, [], [CE t 2, undef, undef, undef, undef, undef, undef, undef, undef, undef, undef, undef, undef, undef, undef, undef, undef, undef, undef, undef, undef, undef, undef, undef, undef, undef, undef, undef, undef, undef, undef, undef, undef, undef, undef, undef, undef, undef, undef, undef, undef, undef, undef, undef, undef, undef, undef, undef, undef, undef, undef, undef, undef, undef, undef, undef, undef, undef, undef, undef], O, zE, O, ⟨Nat.zero_le _, .inl ⟨O, O⟩⟩⟩ ?_
 rintro f1 _ bu ⟨j, a0, f, rfl, E, ax, aj⟩
 obtain ⟨aj, hJ⟩ := aj
 by_cases hi : j < 2
 case neg =>
  refine yG ?_
  exact ⟨DN (Jl (s := (⟨v, q, r, n⟩ : Sy)) hJ AA ay (by simp only; omega) (by simp only; omega)), e7 E⟩
 obtain ⟨aL, cL, P, cp, cr, a2, hO⟩ : ∃ ao cap l, [Value.slice L q.length C, .slice J r.length B][j]? = some (.slice ao l.length cap) ∧ IsR NY (DD w.heap.size) bu (.slice ao l.length cap) l ∧ Ci (⟨v, q, r, n⟩ : Sy) j l a0 ∧ SE l := by
   rcases hJ with ⟨rfl, rfl⟩ | ⟨rfl, rfl, h⟩ | ⟨rfl, _⟩
   · exact ⟨L, C, q, rfl, (e5 E).1, .inl ⟨rfl, rfl, rfl⟩, hOq⟩
   · exact ⟨J, B, r, rfl, (e4 E).1, .inr ⟨rfl, rfl, rfl, h⟩, hOr⟩
   · omega
 replace E := E.r (e := NY) (S := DD w.heap.size) cr ((e5 E).2)
 refine yG ?_
 refine V (v := .pointer (some ⟨b10, 0 + j * 1, none⟩)) O O (SX (j := j) O underlying152 Z O O O hi) ?_
 refine V O O (CP O eP O E.2.1 (by rw [Nat.zero_add, Nat.mul_one]; exact cp)) ?_
 by_cases dj : ((P.length : Nat) : Int) > 12
 case pos =>
  refine yG ?_
  exact ⟨DN (UU (s := (⟨v, q, r, n⟩ : Sy)) a2 (Ri AA)), e8 E⟩
 refine yG ?_
 refine wp_loop_ghost (fun mz a w' => ∃ (i : Nat) (z : List Nat) (o : List Value), a = ⟨#[.agg #[.slice H v.length u, .slice L q.length C, .slice J r.length B, .int .i64 ↑n], .pointer (some ⟨N, 0, none⟩), CE o 0, .map (some b2), undef, CE t 5, .map (some Y), undef, .slice aL P.length cL, CE o 1, CE o 2, .pointer (some ⟨N, 0, none⟩), .slice H v.length u, .int .i64 ↑v.length, .bool false, .bool false, .pointer (some ⟨N, 3, none⟩), .int .i64 ↑n, .bool false, .bool false, .bool false, .pointer (some ⟨N, 3, none⟩), .int .i64 ↑n, .bool false, .bool false, .map (some b2), .pointer (some ⟨N, 0, none⟩), .slice H v.length u, .int .i64 ↑v.length, .int .i64 ↑k, .bool false, CE t 31, CE t 32, CE t 33, CE t 34, CE t 35, CE t 36, CE t 37, CE t 38, CE t 39, CE t 40, CE t 41, CE t 42, CE t 43, .map (some Y), .pointer (some ⟨N, 1, none⟩), .slice L q.length C, .pointer (some ⟨N, 2, none⟩), .slice J r.length B, .slice (some ⟨b10, 0, none⟩) 2 2, .int .i64 2, .int .i64 ↑j, .bool true, .pointer (some ⟨b10, 0 + j * 1, none⟩), .slice aL P.length cL, .slice aL P.length cL, .int .i64 ↑P.length, .bool false, .slice aL P.length cL, .int .i64 ↑P.length, .int .i64 ↑i, CE o 3, CE o 4, CE o 5, CE o 6, CE o 7, CE o 8, CE o 9, CE o 10, CE o 11, CE o 12, CE o 13, CE o 14, CE o 15, CE o 16, CE o 17, CE o 18, CE o 19, CE o 20, CE o 21, CE o 22, CE o 23, CE o 24, CE o 25, CE o 26, CE o 27, CE o 28, CE o 29, CE o 30, CE o 31, CE o 32, CE o 33, CE o 34, CE o 35, CE o 36, CE o 37, CE o 38, CE o 39, CE o 40, CE o 41, CE o 42, CE o 43, CE o 44, CE o 45, CE o 46, CE o 47, CE o 48, CE f 59], []⟩ ∧ Env w' [fR NY (DD w.heap.size) (.slice aL P.length cL) P, fX b10 (46) ([.slice L q.length C, .slice J r.length B]), fM mkN Y z, fM mkS b2 (v.take k), fX N (48) ([.slice H v.length u, .slice L q.length C, .slice J r.length B, .int .i64 ↑n]), fR NY (DD w.heap.size) (.slice J r.length B) r, fR NY (DD w.heap.size) (.slice L q.length C) q, fR elS (DD w.heap.size) (.slice H v.length u) v, fW w] ∧ mz = P.length - i ∧ (i ≤ P.length ∧ kT v.length n P i ∧ z = a0 ++ FT (P.take i) ∧ ∀ x ∈ FT (P.take i), x ∉ a0)) (P.length) ⟨0, a0, [CE f 0, CE f 2, CE f 3, CE f 13, CE f 14, CE f 15, CE f 16, CE f 17, CE f 18, CE f 19, CE f 20, CE f 21, CE f 22, CE f 23, CE f 24, CE f 25, CE f 26, CE f 27, CE f 28, CE f 29, CE f 30, CE f 31, CE f 32, CE f 33, CE f 34, CE f 35, CE f 36, CE f 37, CE f 38, CE f 39, CE f 40, CE f 41, CE f 42, CE f 43, CE f 44, CE f 45, CE f 46, CE f 47, CE f 48, CE f 49, CE f 50, CE f 51, CE f 52, CE f 53, CE f 54, CE f 55, CE f 56, CE f 57, CE f 58], O, zE, O, ⟨Nat.zero_le _, yP _ _ _, by simp [FT], fun x h => by simp [FT] at h⟩⟩ ?_
 rintro f0 _ ew ⟨i, z, o, rfl, E, af, ai⟩
 obtain ⟨ai, U⟩ := ai
 by_cases hi : i < P.length
 case neg =>
  have cn := Rh U.1 hi AA
  rw [KZ hi] at U
  refine yG ?_
  exact ⟨_, (by rw [ax]; omega), (j + 1), z, [CE o 0, .slice aL P.length cL, CE o 1, CE o 2, .bool true, .pointer (some ⟨b10, 0 + j * 1, none⟩), .slice aL P.length cL, .slice aL P.length cL, .int .i64 ↑P.length, .bool false, .slice aL P.length cL, .int .i64 ↑P.length, .int .i64 ↑i, .bool false, CE o 4, CE o 5, CE o 6, CE o 7, CE o 8, CE o 9, CE o 10, CE o 11, CE o 12, CE o 13, CE o 14, CE o 15, CE o 16, CE o 17, CE o 18, CE o 19, CE o 20, CE o 21, CE o 22, CE o 23, CE o 24, CE o 25, CE o 26, CE o 27, CE o 28, CE o 29, CE o 30, CE o 31, CE o 32, CE o 33, CE o 34, CE o 35, CE o 36, CE o 37, CE o 38, CE o 39, CE o 40, CE o 41, CE o 42, CE o 43, CE o 44, CE o 45, CE o 46, CE o 47, CE o 48, .int .i64 ↑(j + 1)], O, zE, O, ⟨by omega, U.2.1 ▸ Ey a2 cn U.2.2⟩⟩
 obtain ⟨⟨p, G⟩, I⟩ : ∃ x, P[i]? = some x := ⟨_, List.getElem?_eq_getElem hi⟩
 obtain ⟨a7, ab, _, Q, ah, b4, ⟨_, rfl, ae⟩⟩ := IsR.at E.1.1 I
 obtain ⟨F, D, rfl, ck, _⟩ := ae.shp
 have b0 : a7 < _ := E.1.2 _ ah
 replace E := (E.r ae E.1.2).c b4 b0
 have dl : a7 < w.heap.size := ah
 have y := hO _ (List.mem_of_getElem? I)
 have R := I
 by_cases hs : ((p : Nat) : Int) < 1
 case pos =>
  refine yG ?_
  refine Uj O O Q O (List.getElem?_eq_some_iff.1 I).1 ?_
  refine V O O (CD OY O O (E.1.1) O) ?_
  refine yG ?_
  refine EF O (CB OY O ?_)
  intro dd ev iU dv d0 av
  have cg : b10 < dd := by rw [iU]; exact Bx.lt (e3 E)
  replace E := E.below d0
  clear iU
  refine yG ?_
  refine EF O (BY OY O O O av O O (CG O (CG O ED)) ?_)
  intro eu c8 br
  replace E := oY E av c8 br (ds := [.int .i64 ↑p, .slice F G.length D])
  refine yG ?_
  refine sE E [0,1,2,3,4,5,6,7,8,9,10,11,12,13,14,15,16,17,18,19,20,21,22,23,24,25,26,27,28,29,30] ?_
  replace E := E.drew
  refine yG ?_
  exact ⟨DN (UU (s := (⟨v, q, r, n⟩ : Sy)) a2 (qV R (.inl AA))), QQ E⟩
 by_cases hg : ((p : Nat) : Int) ≥ ((n : Nat) : Int)
 case pos =>
  refine yG ?_
  refine Uj O O Q O (List.getElem?_eq_some_iff.1 I).1 ?_
  refine V O O (CD OY O O (E.1.1) O) ?_
  refine yG ?_
  refine EF O (CB OY O ?_)
  intro dc et e16 du cz au
  have cf : b10 < dc := by rw [e16]; exact Bx.lt (e3 E)
  replace E := E.below cz
  clear e16
  refine yG ?_
  refine EF O (BY OY O O O au O O (CG O (CG O ED)) ?_)
  intro es c7 bq
  replace E := oY E au c7 bq (ds := [.int .i64 ↑p, .slice F G.length D])
  refine yG ?_
  refine sE E [0,1,2,3,4,5,6,7,8,9,10,11,12,13,14,15,16,17,18,19,20,21,22,23,24,25,26,27,28,29,30] ?_
  replace E := E.drew
  refine yG ?_
  exact ⟨DN (UU (s := (⟨v, q, r, n⟩ : Sy)) a2 (qV R (.inr (.inl (by simp only; omega))))), QQ E⟩
 by_cases X : p ∈ a0 ++ FT (P.take i)
 case pos =>
  refine yG ?_
  refine Uj O O Q O (List.getElem?_eq_some_iff.1 I).1 ?_
  refine V O O (CD OY O O (E.1.1) O) ?_
  refine yG ?_
  refine EF O (CB OY O ?_)
  intro db er e18 dt cy ar
  have ce : b10 < db := by rw [e18]; exact Bx.lt (e3 E)
  replace E := E.below cy
  clear e18
  refine yG ?_
  refine EF O (BY OY O O O ar O O (CG O (CG O ED)) ?_)
  intro ep c6 bp
  replace E := oY E ar c6 bp (ds := [.int .i64 ↑p, .slice F G.length D])
  refine yG ?_
  refine sE E [0,1,2,3,4,5,6,7,8,9,10,11,12,13,14,15,16,17,18,19,20,21,22,23,24,25,26,27,28,29,30] ?_
  replace E := E.drew
  refine yG ?_
  refine SW (v := .bool true) O O O Z O (fun w hS => KA mZ (b := Y) (ks := z) (v := p) (c := true) O O O (e5 hS) (Dm (U.2.1 ▸ X))) ?_
  refine yG ?_
  exact ⟨DN (Pm (s := (⟨v, q, r, n⟩ : Sy)) a2 R X), QQ E⟩
 by_cases h0 : 0 < i
 case neg =>
  by_cases hf : MB v.length G = true
  case neg =>
   refine yG ?_
   refine Uj O O Q O (List.getElem?_eq_some_iff.1 I).1 ?_
   refine V O O (CD OY O O (E.1.1) O) ?_
   refine yG ?_
   refine EF O (CB OY O ?_)
   intro d4 ea bd dm ct al
   have c9 : b10 < d4 := by rw [bd]; exact Bx.lt (e3 E)
   replace E := E.below ct
   clear bd
   refine yG ?_
   refine EF O (BY OY O O O al O O (CG O (CG O ED)) ?_)
   intro dz bw bh
   replace E := oY E al bw bh (ds := [.int .i64 ↑p, .slice F G.length D])
   refine yG ?_
   refine sE E [0,1,2,3,4,5,6,7,8,9,10,11,12,13,14,15,16,17,18,19,20,21,22,23,24,25,26,27,28,29,30] ?_
   replace E := E.drew
   refine yG ?_
   refine SW (v := .bool false) O O O Z O (fun w hS => KA mZ (b := Y) (ks := z) (v := p) (c := false) O O O (e5 hS) (OQ (fun g => X (U.2.1 ▸ g)))) ?_
   have b8 := e5 E
   refine yG ?_
   replace E := dl5 E
   refine EF O (IN mZ (ks := z) (v := p) O O O O b8 (OQ (fun g => X (U.2.1 ▸ g))) ?_)
   intro dy bv bg
   replace E := (E.onl (SetM.noW b8) zK bv).m bg
   refine yG ?_
   refine EF O (CA OI O (CU (ET hf) (rD _ G v.length _ (BW (e3 E)) y.1 y.2.1 y.2.2)) O E ?_)
   intro dx fc E
   refine yG ?_
   exact ⟨DN (UU (s := (⟨v, q, r, n⟩ : Sy)) a2 (qV R (.inr (.inr (ET hf))))), QQ E⟩
  refine yG ?_
  refine Uj O O Q O (List.getElem?_eq_some_iff.1 I).1 ?_
  refine V O O (CD OY O O (E.1.1) O) ?_
  refine yG ?_
  refine EF O (CB OY O ?_)
  intro a4 ee bf dn cu am
  have ca : b10 < a4 := by rw [bf]; exact Bx.lt (e3 E)
  replace E := E.below cu
  clear bf
  refine yG ?_
  refine EF O (BY OY O O O am O O (CG O (CG O ED)) ?_)
  intro ed c0 bj
  replace E := oY E am c0 bj (ds := [.int .i64 ↑p, .slice F G.length D])
  refine yG ?_
  refine sE E [0,1,2,3,4,5,6,7,8,9,10,11,12,13,14,15,16,17,18,19,20,21,22,23,24,25,26,27,28,29,30] ?_
  replace E := E.drew
  refine yG ?_
  refine SW (v := .bool false) O O O Z O (fun w hS => KA mZ (b := Y) (ks := z) (v := p) (c := false) O O O (e5 hS) (OQ (fun g => X (U.2.1 ▸ g)))) ?_
  have ba := e5 E
  refine yG ?_
  replace E := dl5 E
  refine EF O (IN mZ (ks := z) (v := p) O O O O ba (OQ (fun g => X (U.2.1 ▸ g))) ?_)
  intro ec bx bi
  replace E := (E.onl (SetM.noW ba) zK bx).m bi
  refine yG ?_
  refine EF O (CA OI O (CU hf (rD _ G v.length _ (BW (e3 E)) y.1 y.2.1 y.2.2)) O E ?_)
  intro eb fd E
  refine yG ?_
  exact ⟨_, (by rw [af]; omega), (i + 1), (z ++ [p]), [CE o 0, .int .i64 ↑i, .pointer (some ⟨a4, 0, none⟩), .bool true, .int .i64 ↑i, .pointer (some ⟨a7, ab + i * 2, none⟩), .agg #[.int .i64 ↑p, .slice F G.length D], .pointer (some ⟨a4, 0, none⟩), .int .i64 ↑p, .bool false, .bool false, .pointer (some ⟨a4, 0, none⟩), .int .i64 ↑p, .pointer (some ⟨N, 3, none⟩), .int .i64 ↑n, .bool false, .bool false, .bool false, .map (some Y), .pointer (some ⟨a4, 0, none⟩), .int .i64 ↑p, .bool false, .bool false, .bool false, .int .i64 ↑i, .bool false, .bool false, undef, undef, undef, undef, undef, undef, undef, undef, undef, .bool false, .bool false, .map (some Y), .pointer (some ⟨a4, 0, none⟩), .int .i64 ↑p, .pointer (some ⟨a4, 1, none⟩), .slice F G.length D, .pointer (some ⟨N, 0, none⟩), .slice H v.length u, .int .i64 ↑v.length, .bool true, .bool false, .int .i64 ↑(i + 1)], O, zE, O, ⟨by omega, kR U.1 R AA AA hf (fun h => absurd h AA), uO U.2.1 R, vA U.2.2 R (fun g => X (List.mem_append_left _ g))⟩⟩
 obtain ⟨⟨ac, ez⟩, T⟩ : ∃ x, P[i - 1]? = some x := ⟨_, List.getElem?_eq_getElem (show i - 1 < P.length by omega)⟩
 obtain ⟨a6, aa, _, a9, ag, b3, ⟨_, rfl, ad⟩⟩ := IsR.at E.2.2.1.1 T
 obtain ⟨dg, de, rfl, cj, _⟩ := ad.shp
 have az : a6 < _ := E.2.2.1.2 _ ag
 replace E := (E.r ad E.2.2.1.2).c b3 az
 have dk : a6 < w.heap.size := ag
 by_cases hq : ((p : Nat) : Int) ≤ ((ac : Nat) : Int)
 case pos =>
  refine yG ?_
  refine Uj O O Q O (List.getElem?_eq_some_iff.1 I).1 ?_
  refine V O O (CD OY O O (E.2.2.1.1) O) ?_
  refine yG ?_
  refine EF O (CB OY O ?_)
  intro da eo e21 dr cx aq
  have cd : b10 < da := by rw [e21]; exact Bx.lt (e5 E)
  replace E := E.below cx
  clear e21
  refine yG ?_
  refine EF O (BY OY O O O aq O O (CG O (CG O ED)) ?_)
  intro en c5 bo
  replace E := oY E aq c5 bo (ds := [.int .i64 ↑p, .slice F G.length D])
  refine yG ?_
  refine sE E [0,1,2,3,4,5,6,7,8,9,10,11,12,13,14,15,16,17,18,19,20,21,22,23,24,25,26,27,28,29,30] ?_
  replace E := E.drew
  refine yG ?_
  refine SW (v := .bool false) O O O Z O (fun w hS => KA mZ (b := Y) (ks := z) (v := p) (c := false) O O O (e7 hS) (OQ (fun g => X (U.2.1 ▸ g)))) ?_
  refine yG ?_
  refine SW (v := .int .i64 ↑(i - 1)) O O O Z O (fun w hS => JC O O O (by rw [JK AA]; omega)) ?_
  refine dI O O O a9 O (List.getElem?_eq_some_iff.1 T).1 ?_
  refine yG ?_
  exact ⟨DN (UU (s := (⟨v, q, r, n⟩ : Sy)) a2 (Ch R T AA AA)), TI E⟩
 by_cases hf : MB v.length G = true
 case neg =>
  refine yG ?_
  refine Uj O O Q O (List.getElem?_eq_some_iff.1 I).1 ?_
  refine V O O (CD OY O O (E.2.2.1.1) O) ?_
  refine yG ?_
  refine EF O (CB OY O ?_)
  intro d7 ei e27 dp cv an
  have cb : b10 < d7 := by rw [e27]; exact Bx.lt (e5 E)
  replace E := E.below cv
  clear e27
  refine yG ?_
  refine EF O (BY OY O O O an O O (CG O (CG O ED)) ?_)
  intro eh c2 bl
  replace E := oY E an c2 bl (ds := [.int .i64 ↑p, .slice F G.length D])
  refine yG ?_
  refine sE E [0,1,2,3,4,5,6,7,8,9,10,11,12,13,14,15,16,17,18,19,20,21,22,23,24,25,26,27,28,29,30] ?_
  replace E := E.drew
  refine yG ?_
  refine SW (v := .bool false) O O O Z O (fun w hS => KA mZ (b := Y) (ks := z) (v := p) (c := false) O O O (e7 hS) (OQ (fun g => X (U.2.1 ▸ g)))) ?_
  refine yG ?_
  refine SW (v := .int .i64 ↑(i - 1)) O O O Z O (fun w hS => JC O O O (by rw [JK AA]; omega)) ?_
  refine dI O O O a9 O (List.getElem?_eq_some_iff.1 T).1 ?_
  have bb := e7 E
  refine yG ?_
  replace E := dl7 E
  refine EF O (IN mZ (ks := z) (v := p) O O O O bb (OQ (fun g => X (U.2.1 ▸ g))) ?_)
  intro eg c1 bk
  replace E := (E.onl (SetM.noW bb) zK c1).m bk
  refine yG ?_
  refine EF O (CA OI O (CU (ET hf) (rD _ G v.length _ (BW (e5 E)) y.1 y.2.1 y.2.2)) O E ?_)
  intro ef fe E
  refine yG ?_
  exact ⟨DN (UU (s := (⟨v, q, r, n⟩ : Sy)) a2 (qV R (.inr (.inr (ET hf))))), TI E⟩
 refine yG ?_
 refine Uj O O Q O (List.getElem?_eq_some_iff.1 I).1 ?_
 refine V O O (CD OY O O (E.2.2.1.1) O) ?_
 refine yG ?_
 refine EF O (CB OY O ?_)
 intro a3 em Cv dq cw ap
 have cc : b10 < a3 := by rw [Cv]; exact Bx.lt (e5 E)
 replace E := E.below cw
 clear Cv
 refine yG ?_
 refine EF O (BY OY O O O ap O O (CG O (CG O ED)) ?_)
 intro el c4 bn
 replace E := oY E ap c4 bn (ds := [.int .i64 ↑p, .slice F G.length D])
 refine yG ?_
 refine sE E [0,1,2,3,4,5,6,7,8,9,10,11,12,13,14,15,16,17,18,19,20,21,22,23,24,25,26,27,28,29,30] ?_
 replace E := E.drew
 refine yG ?_
 refine SW (v := .bool false) O O O Z O (fun w hS => KA mZ (b := Y) (ks := z) (v := p) (c := false) O O O (e7 hS) (OQ (fun g => X (U.2.1 ▸ g)))) ?_
 refine yG ?_
 refine SW (v := .int .i64 ↑(i - 1)) O O O Z O (fun w hS => JC O O O (by rw [JK AA]; omega)) ?_
 refine dI O O O a9 O (List.getElem?_eq_some_iff.1 T).1 ?_
 have bc := e7 E
 refine yG ?_
 replace E := dl7 E
 refine EF O (IN mZ (ks := z) (v := p) O O O O bc (OQ (fun g => X (U.2.1 ▸ g))) ?_)
 intro ek c3 bm
 replace E := (E.onl (SetM.noW bc) zK c3).m bm
 refine yG ?_
 refine EF O (CA OI O (CU hf (rD _ G v.length _ (BW (e5 E)) y.1 y.2.1 y.2.2)) O E ?_)
 intro ej ff E
 refine yG ?_
 exact ⟨_, (by rw [af]; omega), (i + 1), (z ++ [p]), [CE o 0, .int .i64 ↑i, .pointer (some ⟨a3, 0, none⟩), .bool true, .int .i64 ↑i, .pointer (some ⟨a7, ab + i * 2, none⟩), .agg #[.int .i64 ↑p, .slice F G.length D], .pointer (some ⟨a3, 0, none⟩), .int .i64 ↑p, .bool false, .bool false, .pointer (some ⟨a3, 0, none⟩), .int .i64 ↑p, .pointer (some ⟨N, 3, none⟩), .int .i64 ↑n, .bool false, .bool false, .bool false, .map (some Y), .pointer (some ⟨a3, 0, none⟩), .int .i64 ↑p, .bool false, .bool false, .bool false, .int .i64 ↑i, .bool true, .bool true, .pointer (some ⟨a3, 0, none⟩), .int .i64 ↑p, .slice aL P.length cL, .int .i64 ↑i, .int .i64 ↑(i - 1), .pointer (some ⟨a6, aa + (i - 1) * 2, none⟩), .pointer (some ⟨a6, aa + (i - 1) * 2, none⟩), .int .i64 ↑ac, .bool false, .bool false, .bool false, .map (some Y), .pointer (some ⟨a3, 0, none⟩), .int .i64 ↑p, .pointer (some ⟨a3, 1, none⟩), .slice F G.length D, .pointer (some ⟨N, 0, none⟩), .slice H v.length u, .int .i64 ↑v.length, .bool true, .bool false, .int .i64 ↑(i + 1)], O, zE, O, ⟨by omega, kR U.1 R AA AA hf (fun _ a b b5 => by rw [T] at b5; cases b5; omega), uO U.2.1 R, vA U.2.2 R (fun g => X (List.mem_append_left _ g))⟩⟩
end Go.Proofs.YtmppigbbkjepiaaGreatDoor
