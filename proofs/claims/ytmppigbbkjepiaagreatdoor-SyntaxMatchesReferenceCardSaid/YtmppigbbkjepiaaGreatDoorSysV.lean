/- Helping facts of SysV; no other conditions. -/
import Derived.Test.YtmppigbbkjepiaaGreatDoorSys
namespace Go.Proofs.YtmppigbbkjepiaaGreatDoor
open Go.Proofs.Tryz
open Go.RowKit W
variable {b i id j : Nat} {ids : List Nat} {w : World} {α : Type}
theorem YtH {p : Prop} (h : p := by simp only; omega) : p := h
theorem IsR.lit1 {e : El α} {t : Nat} {cs : List Value} {x : α} (hb : Bx w b t cs) (h : e.p (CX w.heap.size) w cs x) : IsR e (CX w.heap.size) w (.slice (some ⟨b, 0, none⟩) 1 1) [x] := by
 refine ⟨_, 1, O, Nat.le_refl _, by decide, fun i y f => ?_⟩
 cases i with
 | zero =>
   simp at f; subst f
   refine ⟨b, 0, cs, O, hb.lt, ?_, h⟩
   rw [Nat.zero_mul]; exact hb.cs
 | succ i => simp at f
theorem IsR.lit0 {e : El α} {S : Nat -> Prop} : IsR e S w (.slice (some ⟨b, 0, none⟩) 0 0) ([] : List α) := ⟨_, 0, rfl, Nat.le_refl _, Nat.zero_le _, fun i x h => by simp at h⟩
theorem NM : PR [] := fun e h => by cases h
theorem sD (x : Bs) : GH ⟨[x], [], [], 1⟩ = LD x := by simp [GH, DL, ID, EL]
def Ll (s : Sy) (j : Nat) (ids : List Nat) : Prop :=
 (j = 0 /\ ids = []) ∨ (j = 1 /\ ids = EL s.eqs /\ ID s.vars.length s.next s.eqs = true) ∨
 (j = 2 /\ ID s.vars.length s.next s.eqs = true /\ ID s.vars.length s.next s.neqs = true /\ ∀ i ∈ EL s.neqs, i ∉ EL s.eqs)
theorem Hr {s : Sy} {l : List (Nat × List Tm)} (h : Ew s j l ids) (hl : ID s.vars.length s.next l = true) (hd : ∀ x ∈ EL l, x ∉ ids) : Ll s (j + 1) (ids ++ EL l) := by
 rcases h with ⟨rfl, rfl, rfl⟩ | ⟨rfl, rfl, rfl, h⟩
 . exact .inr (.inl ⟨rfl, rfl, hl⟩)
 exact .inr (.inr ⟨rfl, h, hl, hd⟩)
theorem Lk {s : Sy} (h : Ll s j ids) (hj : ¬ j < 2) (h1 : DL 4 s.vars = true) (h2 : ¬ s.next < 1) (h3 : ¬ s.next > 1000000) : GH s = true := by
 rcases h with ⟨rfl, _⟩ | ⟨rfl, _⟩ | ⟨rfl, k, f, e⟩
 . omega
 . omega
 exact sC h1 h2 h3 k f e
theorem xJ {ids2 : List Nat} {l : List (Nat × List Tm)} {p : List Tm} (h : ids2 = ids ++ EL (l.take i)) (hx : l[i]? = some (id, p)) : ids2 ++ [id] = ids ++ EL (l.take (i + 1)) := by rw [JG hx, QW, h, List.append_assoc]
theorem oA {l : List (Nat × List Tm)} {i : Nat} {p : List Tm} (h : ∀ x ∈ EL (l.take i), x ∉ ids) (hx : l[i]? = some (id, p)) (hn : id ∉ ids) : ∀ x ∈ EL (l.take (i + 1)), x ∉ ids := by
 rw [JG hx, QW]
 intro x e
 rcases List.mem_append.1 e with g | g
 . exact h x g
 simp at g; subst g; exact hn
set_option maxRecDepth 100000 in
set_option maxHeartbeats 8000000 in
theorem TR (vv : Value) (v : List Bs) (vq : Value) (q : List (Nat × List Tm)) (vr : Value) (r : List (Nat × List Tm)) (n : Nat) (w : World) (hRv : IsR elS (CX w.heap.size) w vv v) (hRq : IsR MS (CX w.heap.size) w vq q) (hRr : IsR MS (CX w.heap.size) w vr r) (hOq : PR q) (hOr : PR r) (hL : v.length <= 1000000) :
 Calls prog 47 #[.agg #[vv, vq, vr, .int .i64 ↑n]] w (LI w (GH ⟨v, q, r, n⟩)) := by
 have E := Env.start w
 obtain ⟨H, u, rfl, f8, f5⟩ := hRv.shp
 replace E := E.r hRv (DF _)
 obtain ⟨N, C, rfl, fa, f7⟩ := hRq.shp
 replace E := E.r hRq (DF _)
 obtain ⟨L, B, rfl, f9, f6⟩ := hRr.shp
 replace E := E.r hRr (DF _)
 go_enter func47, ntmps47
 refine yG ?_
 refine EF O (CI (cs := [.slice H v.length u, .slice N q.length C, .slice L r.length B, .int .i64 ↑n]) O O ?_)
 intro P w1 e1 z1 d1 x1
 have l1 : w.heap.size <= P := by rw [e1]; exact (e3 E).size
 replace E := E.below d1
 clear e1
 replace E := E.x x1
 by_cases f2 : ((v.length : Nat) : Int) > 4
 . refine yG ?_
   exact ⟨CS (SO (s := (⟨v, q, r, n⟩ : Sy)) (dZ (l := v) AA)), e4 E⟩
 by_cases f4 : ((n : Nat) : Int) < 1
 . refine yG ?_
   exact ⟨CS (cV (s := (⟨v, q, r, n⟩ : Sy)) (.inl YtH)), e4 E⟩
 by_cases f3 : ((n : Nat) : Int) > 1000000
 . refine yG ?_
   exact ⟨CS (cV (s := (⟨v, q, r, n⟩ : Sy)) (.inr YtH)), e4 E⟩
 refine yG ?_
 refine EF O (XJ mkS O ?_)
 intro b2 w2 e2 z2 d2 x2
 have di : P < b2 := by rw [e2]; exact Bx.lt E.1
 replace E := E.below d2
 clear e2
 replace E := E.m x2
 refine yG ?_
 refine wp_loop_ghost (fun mz a w' => ∃ (k : Nat) (t : List Value), t = a.tmps.toList /\ a = ⟨#[.agg #[.slice H v.length u, .slice N q.length C, .slice L r.length B, .int .i64 ↑n], .pointer (some ⟨P, 0, none⟩), CF t 2, .map (some b2), undef, CF t 5, undef, undef, undef, undef, undef, .pointer (some ⟨P, 0, none⟩), .slice H v.length u, .int .i64 ↑v.length, .bool false, .bool false, .pointer (some ⟨P, 3, none⟩), .int .i64 ↑n, .bool false, .bool false, .bool false, .pointer (some ⟨P, 3, none⟩), .int .i64 ↑n, .bool false, .bool false, .map (some b2), .pointer (some ⟨P, 0, none⟩), .slice H v.length u, .int .i64 ↑v.length, .int .i64 ↑k, CF t 30, CF t 31, CF t 32, CF t 33, CF t 34, CF t 35, CF t 36, CF t 37, CF t 38, CF t 39, CF t 40, CF t 41, CF t 42, CF t 43, undef, undef, undef, undef, undef, undef, undef, undef, undef, undef, undef, undef, undef, undef, undef, undef, undef, undef, undef, undef, undef, undef, undef, undef, undef, undef, undef, undef, undef, undef, undef, undef, undef, undef, undef, undef, undef, undef, undef, undef, undef, undef, undef, undef, undef, undef, undef, undef, undef, undef, undef, undef, undef, undef, undef, undef, undef, undef, undef, undef, undef, undef, undef, undef], []⟩ /\ Env w' [fM mkS b2 (v.take k), fX P (48) ([.slice H v.length u, .slice N q.length C, .slice L r.length B, .int .i64 ↑n]), fR MS (CX w.heap.size) (.slice L r.length B) r, fR MS (CX w.heap.size) (.slice N q.length C) q, fR elS (CX w.heap.size) (.slice H v.length u) v, fW w] /\ mz = v.length - k /\ (k <= v.length /\ aW v k)) (v.length) ⟨0, _, O, O, zE, O, ⟨Nat.zero_le _, WE v⟩⟩ ?_
 rintro m3 _ w3 ⟨k, t, -, rfl, E, cm, b7⟩
 obtain ⟨b7, hJ⟩ := b7
 by_cases hi : k < v.length
 case pos =>
  obtain ⟨x4, a1⟩ : ∃ x, v[k]? = some x := ⟨_, List.getElem?_eq_getElem hi⟩
  obtain ⟨aw, ey, _, ak, b6, cq, ci⟩ := IsR.at (e4 E).1 a1
  obtain rfl := (show _ = [Value.string (bs x4)] from ci)
  have co : aw < _ := (e4 E).2 _ b6
  replace E := E.c cq co
  have fb : aw < w.heap.size := b6
  by_cases a8 : LD x4 = true
  case neg =>
   refine yG ?_
   refine fY O O ak O (List.getElem?_eq_some_iff.1 a1).1 ?_
   refine yG ?_
   refine EF O (CA QE O (CU (DE a8) (nH x4 _)) O E ?_)
   intro w8 d8 E
   refine yG ?_
   exact ⟨CS (SO (s := (⟨v, q, r, n⟩ : Sy)) (dY (l := v) a1 (DE a8))), e6 E⟩
  by_cases Y : x4 ∈ v.take k
  . refine yG ?_
    refine fY O O ak O (List.getElem?_eq_some_iff.1 a1).1 ?_
    refine yG ?_
    refine EF O (CA QE O (CU a8 (nH x4 _)) O E ?_)
    intro w5 d5 E
    refine yG ?_
    refine V (v := .bool true) Z O (KN D2 (b := b2) (ks := v.take k) (v := x4) (c := true) O O O E.2.1 (Gf Y)) ?_
    refine yG ?_
    exact ⟨CS (SO (s := (⟨v, q, r, n⟩ : Sy)) (kX (l := v) a1 Y)), e6 E⟩
  refine yG ?_
  refine fY O O ak O (List.getElem?_eq_some_iff.1 a1).1 ?_
  refine yG ?_
  refine EF O (CA QE O (CU a8 (nH x4 _)) O E ?_)
  intro w6 d6 E
  refine yG ?_
  refine V (v := .bool false) Z O (KN D2 (b := b2) (ks := v.take k) (v := x4) (c := false) O O O E.2.1 (PN Y)) ?_
  have g7 := E.2.1
  refine yG ?_
  replace E := XS E
  refine EF O (JE D2 (ks := v.take k) (v := x4) O O O O g7 (PN Y) ?_)
  intro w7 o7 y7
  rw [<- JG a1] at y7
  replace E := (E.onl (SetM.noW g7) zK o7).m y7
  refine yG ?_
  exact ⟨_, (by rw [cm]; omega), (k + 1), _, O, O, zE, O, ⟨by omega, WF hJ a1 a8 Y⟩⟩
 have ay : DL 4 v = true := kW hJ hi AA
 refine yG ?_
 refine EF O (XJ mkN O ?_)
 intro b9 w9 e9 z9 d9 x9
 have dh : b2 < b9 := by rw [e9]; exact SetM.lt E.1
 replace E := E.below d9
 clear e9
 replace E := E.m x9
 refine yG ?_
 refine EF O (zI O O O ?_)
 intro J ex RA dw d3 bt
 have ch : b9 < J := by rw [RA]; exact SetM.lt E.1
 replace E := E.below d3
 clear RA
 replace E := E.x bt
 refine yG ?_
 refine wp_loop_ghost (fun mz a w' => ∃ (j : Nat) (a0 : List Nat) (f : List Value), a = ⟨#[.agg #[.slice H v.length u, .slice N q.length C, .slice L r.length B, .int .i64 ↑n], .pointer (some ⟨P, 0, none⟩), CF f 0, .map (some b2), undef, CF t 5, .map (some b9), undef, CF f 1, CF f 2, CF f 3, .pointer (some ⟨P, 0, none⟩), .slice H v.length u, .int .i64 ↑v.length, .bool false, .bool false, .pointer (some ⟨P, 3, none⟩), .int .i64 ↑n, .bool false, .bool false, .bool false, .pointer (some ⟨P, 3, none⟩), .int .i64 ↑n, .bool false, .bool false, .map (some b2), .pointer (some ⟨P, 0, none⟩), .slice H v.length u, .int .i64 ↑v.length, .int .i64 ↑k, .bool false, CF t 31, CF t 32, CF t 33, CF t 34, CF t 35, CF t 36, CF t 37, CF t 38, CF t 39, CF t 40, CF t 41, CF t 42, CF t 43, .map (some b9), .pointer (some ⟨P, 1, none⟩), .slice N q.length C, .pointer (some ⟨P, 2, none⟩), .slice L r.length B, .slice (some ⟨J, 0, none⟩) 2 2, .int .i64 2, .int .i64 ↑j, CF f 4, CF f 5, CF f 6, CF f 7, CF f 8, CF f 9, CF f 10, CF f 11, CF f 12, CF f 13, CF f 14, CF f 15, CF f 16, CF f 17, CF f 18, CF f 19, CF f 20, CF f 21, CF f 22, CF f 23, CF f 24, CF f 25, CF f 26, CF f 27, CF f 28, CF f 29, CF f 30, CF f 31, CF f 32, CF f 33, CF f 34, CF f 35, CF f 36, CF f 37, CF f 38, CF f 39, CF f 40, CF f 41, CF f 42, CF f 43, CF f 44, CF f 45, CF f 46, CF f 47, CF f 48, CF f 49, CF f 50, CF f 51, CF f 52, CF f 53, CF f 54, CF f 55, CF f 56, CF f 57, CF f 58, CF f 59], []⟩ /\ Env w' [fX J (46) ([.slice N q.length C, .slice L r.length B]), fM mkN b9 a0, fM mkS b2 (v.take k), fX P (48) ([.slice H v.length u, .slice N q.length C, .slice L r.length B, .int .i64 ↑n]), fR MS (CX w.heap.size) (.slice L r.length B) r, fR MS (CX w.heap.size) (.slice N q.length C) q, fR elS (CX w.heap.size) (.slice H v.length u) v, fW w] /\ mz = 2 - j /\ (j <= 2 /\ Ll (⟨v, q, r, n⟩ : Sy) j a0)) (2) ⟨0, [], [CF t 2, undef, undef, undef, undef, undef, undef, undef, undef, undef, undef, undef, undef, undef, undef, undef, undef, undef, undef, undef, undef, undef, undef, undef, undef, undef, undef, undef, undef, undef, undef, undef, undef, undef, undef, undef, undef, undef, undef, undef, undef, undef, undef, undef, undef, undef, undef, undef, undef, undef, undef, undef, undef, undef, undef, undef, undef, undef, undef, undef], O, zE, O, ⟨Nat.zero_le _, .inl ⟨O, O⟩⟩⟩ ?_
 rintro f1 _ bu ⟨j, a0, f, rfl, E, ax, aj⟩
 obtain ⟨aj, hJ⟩ := aj
 by_cases hi : j < 2
 case neg =>
  refine yG ?_
  exact ⟨CS (Lk (s := (⟨v, q, r, n⟩ : Sy)) hJ AA ay YtH YtH), e7 E⟩
 obtain ⟨aL, cL, Q, cp, cr, a2, hO⟩ : ∃ ao cap l, [Value.slice N q.length C, .slice L r.length B][j]? = some (.slice ao l.length cap) /\ IsR MS (CX w.heap.size) bu (.slice ao l.length cap) l /\ Ew (⟨v, q, r, n⟩ : Sy) j l a0 /\ PR l := by
  rcases hJ with ⟨rfl, rfl⟩ | ⟨rfl, rfl, h⟩ | ⟨rfl, _⟩
  . exact ⟨N, C, q, rfl, (e5 E).1, .inl ⟨rfl, rfl, rfl⟩, hOq⟩
  . exact ⟨L, B, r, rfl, (e4 E).1, .inr ⟨rfl, rfl, rfl, h⟩, hOr⟩
  omega
 replace E := E.r (e := MS) (S := CX w.heap.size) cr ((e5 E).2)
 refine yG ?_
 refine V (v := .pointer (some ⟨J, 0 + j * 1, none⟩)) O O (VY (j := j) O underlying152 Z O O O hi) ?_
 refine V O O (CP O hZ O E.2.1 (by rw [Nat.zero_add, Nat.mul_one]; exact cp)) ?_
 by_cases dj : ((Q.length : Nat) : Int) > 12
 . refine yG ?_
   exact ⟨CS (VS (s := (⟨v, q, r, n⟩ : Sy)) a2 (Ev AA)), e8 E⟩
 refine yG ?_
 refine wp_loop_ghost (fun mz a w' => ∃ (i : Nat) (z : List Nat) (o : List Value), a = ⟨#[.agg #[.slice H v.length u, .slice N q.length C, .slice L r.length B, .int .i64 ↑n], .pointer (some ⟨P, 0, none⟩), CF o 0, .map (some b2), undef, CF t 5, .map (some b9), undef, .slice aL Q.length cL, CF o 1, CF o 2, .pointer (some ⟨P, 0, none⟩), .slice H v.length u, .int .i64 ↑v.length, .bool false, .bool false, .pointer (some ⟨P, 3, none⟩), .int .i64 ↑n, .bool false, .bool false, .bool false, .pointer (some ⟨P, 3, none⟩), .int .i64 ↑n, .bool false, .bool false, .map (some b2), .pointer (some ⟨P, 0, none⟩), .slice H v.length u, .int .i64 ↑v.length, .int .i64 ↑k, .bool false, CF t 31, CF t 32, CF t 33, CF t 34, CF t 35, CF t 36, CF t 37, CF t 38, CF t 39, CF t 40, CF t 41, CF t 42, CF t 43, .map (some b9), .pointer (some ⟨P, 1, none⟩), .slice N q.length C, .pointer (some ⟨P, 2, none⟩), .slice L r.length B, .slice (some ⟨J, 0, none⟩) 2 2, .int .i64 2, .int .i64 ↑j, .bool true, .pointer (some ⟨J, 0 + j * 1, none⟩), .slice aL Q.length cL, .slice aL Q.length cL, .int .i64 ↑Q.length, .bool false, .slice aL Q.length cL, .int .i64 ↑Q.length, .int .i64 ↑i, CF o 3, CF o 4, CF o 5, CF o 6, CF o 7, CF o 8, CF o 9, CF o 10, CF o 11, CF o 12, CF o 13, CF o 14, CF o 15, CF o 16, CF o 17, CF o 18, CF o 19, CF o 20, CF o 21, CF o 22, CF o 23, CF o 24, CF o 25, CF o 26, CF o 27, CF o 28, CF o 29, CF o 30, CF o 31, CF o 32, CF o 33, CF o 34, CF o 35, CF o 36, CF o 37, CF o 38, CF o 39, CF o 40, CF o 41, CF o 42, CF o 43, CF o 44, CF o 45, CF o 46, CF o 47, CF o 48, CF f 59], []⟩ /\ Env w' [fR MS (CX w.heap.size) (.slice aL Q.length cL) Q, fX J (46) ([.slice N q.length C, .slice L r.length B]), fM mkN b9 z, fM mkS b2 (v.take k), fX P (48) ([.slice H v.length u, .slice N q.length C, .slice L r.length B, .int .i64 ↑n]), fR MS (CX w.heap.size) (.slice L r.length B) r, fR MS (CX w.heap.size) (.slice N q.length C) q, fR elS (CX w.heap.size) (.slice H v.length u) v, fW w] /\ mz = Q.length - i /\ (i <= Q.length /\ jE v.length n Q i /\ z = a0 ++ EL (Q.take i) /\ ∀ x ∈ EL (Q.take i), x ∉ a0)) (Q.length) ⟨0, a0, [CF f 0, CF f 2, CF f 3, CF f 13, CF f 14, CF f 15, CF f 16, CF f 17, CF f 18, CF f 19, CF f 20, CF f 21, CF f 22, CF f 23, CF f 24, CF f 25, CF f 26, CF f 27, CF f 28, CF f 29, CF f 30, CF f 31, CF f 32, CF f 33, CF f 34, CF f 35, CF f 36, CF f 37, CF f 38, CF f 39, CF f 40, CF f 41, CF f 42, CF f 43, CF f 44, CF f 45, CF f 46, CF f 47, CF f 48, CF f 49, CF f 50, CF f 51, CF f 52, CF f 53, CF f 54, CF f 55, CF f 56, CF f 57, CF f 58], O, zE, O, ⟨Nat.zero_le _, nD _ _ _, by simp [EL], fun x h => by simp [EL] at h⟩⟩ ?_
 rintro f0 _ ew ⟨i, z, o, rfl, E, af, ai⟩
 obtain ⟨ai, X⟩ := ai
 by_cases hi : i < Q.length
 case neg =>
  have cn := Eu X.1 hi AA
  rw [GQ hi] at X
  refine yG ?_
  exact ⟨_, (by rw [ax]; omega), (j + 1), z, [CF o 0, .slice aL Q.length cL, CF o 1, CF o 2, .bool true, .pointer (some ⟨J, 0 + j * 1, none⟩), .slice aL Q.length cL, .slice aL Q.length cL, .int .i64 ↑Q.length, .bool false, .slice aL Q.length cL, .int .i64 ↑Q.length, .int .i64 ↑i, .bool false, CF o 4, CF o 5, CF o 6, CF o 7, CF o 8, CF o 9, CF o 10, CF o 11, CF o 12, CF o 13, CF o 14, CF o 15, CF o 16, CF o 17, CF o 18, CF o 19, CF o 20, CF o 21, CF o 22, CF o 23, CF o 24, CF o 25, CF o 26, CF o 27, CF o 28, CF o 29, CF o 30, CF o 31, CF o 32, CF o 33, CF o 34, CF o 35, CF o 36, CF o 37, CF o 38, CF o 39, CF o 40, CF o 41, CF o 42, CF o 43, CF o 44, CF o 45, CF o 46, CF o 47, CF o 48, .int .i64 ↑(j + 1)], O, zE, O, ⟨by omega, X.2.1 ▸ Hr a2 cn X.2.2⟩⟩
 obtain ⟨⟨p, G⟩, I⟩ : ∃ x, Q[i]? = some x := ⟨_, List.getElem?_eq_getElem hi⟩
 obtain ⟨a7, ab, _, R, ah, b4, ⟨_, rfl, ae⟩⟩ := IsR.at E.1.1 I
 obtain ⟨F, D, rfl, ck, _⟩ := ae.shp
 have b0 : a7 < _ := E.1.2 _ ah
 replace E := (E.r ae E.1.2).c b4 b0
 have dl : a7 < w.heap.size := ah
 have y := hO _ (List.mem_of_getElem? I)
 have T := I
 by_cases hs : ((p : Nat) : Int) < 1
 case pos =>
  refine yG ?_
  refine vA O O R O (List.getElem?_eq_some_iff.1 I).1 ?_
  refine V O O (CD NH O O (E.1.1) O) ?_
  refine yG ?_
  refine EF O (CB NH O ?_)
  intro dd ev iI dv d0 av
  have cg : J < dd := by rw [iI]; exact Bx.lt (e3 E)
  replace E := E.below d0
  clear iI
  refine yG ?_
  refine EF O (BY NH O O O av O O (CK O (CK O EK)) ?_)
  intro eu c8 br
  replace E := oY E av c8 br (ds := [.int .i64 ↑p, .slice F G.length D])
  refine yG ?_
  refine sE E [0,1,2,3,4,5,6,7,8,9,10,11,12,13,14,15,16,17,18,19,20,21,22,23,24,25,26,27,28,29,30] ?_
  replace E := E.drew
  refine yG ?_
  exact ⟨CS (VS (s := (⟨v, q, r, n⟩ : Sy)) a2 (YS T (.inl AA))), RJ E⟩
 by_cases hg : ((p : Nat) : Int) >= ((n : Nat) : Int)
 case pos =>
  refine yG ?_
  refine vA O O R O (List.getElem?_eq_some_iff.1 I).1 ?_
  refine V O O (CD NH O O (E.1.1) O) ?_
  refine yG ?_
  refine EF O (CB NH O ?_)
  intro dc et e16 du cz au
  have cf : J < dc := by rw [e16]; exact Bx.lt (e3 E)
  replace E := E.below cz
  clear e16
  refine yG ?_
  refine EF O (BY NH O O O au O O (CK O (CK O EK)) ?_)
  intro es c7 bq
  replace E := oY E au c7 bq (ds := [.int .i64 ↑p, .slice F G.length D])
  refine yG ?_
  refine sE E [0,1,2,3,4,5,6,7,8,9,10,11,12,13,14,15,16,17,18,19,20,21,22,23,24,25,26,27,28,29,30] ?_
  replace E := E.drew
  refine yG ?_
  exact ⟨CS (VS (s := (⟨v, q, r, n⟩ : Sy)) a2 (YS T (.inr (.inl YtH)))), RJ E⟩
 by_cases Y : p ∈ a0 ++ EL (Q.take i)
 case pos =>
  refine yG ?_
  refine vA O O R O (List.getElem?_eq_some_iff.1 I).1 ?_
  refine V O O (CD NH O O (E.1.1) O) ?_
  refine yG ?_
  refine EF O (CB NH O ?_)
  intro db er Zv dt cy ar
  have ce : J < db := by rw [Zv]; exact Bx.lt (e3 E)
  replace E := E.below cy
  clear Zv
  refine yG ?_
  refine EF O (BY NH O O O ar O O (CK O (CK O EK)) ?_)
  intro ep c6 bp
  replace E := oY E ar c6 bp (ds := [.int .i64 ↑p, .slice F G.length D])
  refine yG ?_
  refine sE E [0,1,2,3,4,5,6,7,8,9,10,11,12,13,14,15,16,17,18,19,20,21,22,23,24,25,26,27,28,29,30] ?_
  replace E := E.drew
  refine yG ?_
  refine SW (v := .bool true) O O O Z O (fun w hS => KN pV (b := b9) (ks := z) (v := p) (c := true) O O O (e5 hS) (Gf (X.2.1 ▸ Y))) ?_
  refine yG ?_
  exact ⟨CS (Sk (s := (⟨v, q, r, n⟩ : Sy)) a2 T Y), RJ E⟩
 by_cases h0 : 0 < i
 case neg =>
  by_cases hf : LH v.length G = true
  case neg =>
   refine yG ?_
   refine vA O O R O (List.getElem?_eq_some_iff.1 I).1 ?_
   refine V O O (CD NH O O (E.1.1) O) ?_
   refine yG ?_
   refine EF O (CB NH O ?_)
   intro d4 ea bd dm ct al
   have c9 : J < d4 := by rw [bd]; exact Bx.lt (e3 E)
   replace E := E.below ct
   clear bd
   refine yG ?_
   refine EF O (BY NH O O O al O O (CK O (CK O EK)) ?_)
   intro dz bw bh
   replace E := oY E al bw bh (ds := [.int .i64 ↑p, .slice F G.length D])
   refine yG ?_
   refine sE E [0,1,2,3,4,5,6,7,8,9,10,11,12,13,14,15,16,17,18,19,20,21,22,23,24,25,26,27,28,29,30] ?_
   replace E := E.drew
   refine yG ?_
   refine SW (v := .bool false) O O O Z O (fun w hS => KN pV (b := b9) (ks := z) (v := p) (c := false) O O O (e5 hS) (PN (fun g => Y (X.2.1 ▸ g)))) ?_
   have b8 := e5 E
   refine yG ?_
   replace E := dl5 E
   refine EF O (JE pV (ks := z) (v := p) O O O O b8 (PN (fun g => Y (X.2.1 ▸ g))) ?_)
   intro dy bv bg
   replace E := (E.onl (SetM.noW b8) zK bv).m bg
   refine yG ?_
   refine EF O (CA PB O (CU (DE hf) (tV _ G v.length _ (BW (e3 E)) y.1 y.2.1 y.2.2)) O E ?_)
   intro dx fc E
   refine yG ?_
   exact ⟨CS (VS (s := (⟨v, q, r, n⟩ : Sy)) a2 (YS T (.inr (.inr (DE hf))))), RJ E⟩
  refine yG ?_
  refine vA O O R O (List.getElem?_eq_some_iff.1 I).1 ?_
  refine V O O (CD NH O O (E.1.1) O) ?_
  refine yG ?_
  refine EF O (CB NH O ?_)
  intro a4 ee bf dn cu am
  have ca : J < a4 := by rw [bf]; exact Bx.lt (e3 E)
  replace E := E.below cu
  clear bf
  refine yG ?_
  refine EF O (BY NH O O O am O O (CK O (CK O EK)) ?_)
  intro ed c0 bj
  replace E := oY E am c0 bj (ds := [.int .i64 ↑p, .slice F G.length D])
  refine yG ?_
  refine sE E [0,1,2,3,4,5,6,7,8,9,10,11,12,13,14,15,16,17,18,19,20,21,22,23,24,25,26,27,28,29,30] ?_
  replace E := E.drew
  refine yG ?_
  refine SW (v := .bool false) O O O Z O (fun w hS => KN pV (b := b9) (ks := z) (v := p) (c := false) O O O (e5 hS) (PN (fun g => Y (X.2.1 ▸ g)))) ?_
  have ba := e5 E
  refine yG ?_
  replace E := dl5 E
  refine EF O (JE pV (ks := z) (v := p) O O O O ba (PN (fun g => Y (X.2.1 ▸ g))) ?_)
  intro ec bx bi
  replace E := (E.onl (SetM.noW ba) zK bx).m bi
  refine yG ?_
  refine EF O (CA PB O (CU hf (tV _ G v.length _ (BW (e3 E)) y.1 y.2.1 y.2.2)) O E ?_)
  intro eb fd E
  refine yG ?_
  exact ⟨_, (by rw [af]; omega), (i + 1), (z ++ [p]), [CF o 0, .int .i64 ↑i, .pointer (some ⟨a4, 0, none⟩), .bool true, .int .i64 ↑i, .pointer (some ⟨a7, ab + i * 2, none⟩), .agg #[.int .i64 ↑p, .slice F G.length D], .pointer (some ⟨a4, 0, none⟩), .int .i64 ↑p, .bool false, .bool false, .pointer (some ⟨a4, 0, none⟩), .int .i64 ↑p, .pointer (some ⟨P, 3, none⟩), .int .i64 ↑n, .bool false, .bool false, .bool false, .map (some b9), .pointer (some ⟨a4, 0, none⟩), .int .i64 ↑p, .bool false, .bool false, .bool false, .int .i64 ↑i, .bool false, .bool false, undef, undef, undef, undef, undef, undef, undef, undef, undef, .bool false, .bool false, .map (some b9), .pointer (some ⟨a4, 0, none⟩), .int .i64 ↑p, .pointer (some ⟨a4, 1, none⟩), .slice F G.length D, .pointer (some ⟨P, 0, none⟩), .slice H v.length u, .int .i64 ↑v.length, .bool true, .bool false, .int .i64 ↑(i + 1)], O, zE, O, ⟨by omega, WH X.1 T AA AA hf (fun h => absurd h AA), xJ X.2.1 T, oA X.2.2 T (fun g => Y (List.mem_append_left _ g))⟩⟩
 obtain ⟨⟨ac, ez⟩, U⟩ : ∃ x, Q[i - 1]? = some x := ⟨_, List.getElem?_eq_getElem (show i - 1 < Q.length by omega)⟩
 obtain ⟨a6, aa, _, a9, ag, b3, ⟨_, rfl, ad⟩⟩ := IsR.at E.2.2.1.1 U
 obtain ⟨dg, de, rfl, cj, _⟩ := ad.shp
 have az : a6 < _ := E.2.2.1.2 _ ag
 replace E := (E.r ad E.2.2.1.2).c b3 az
 have dk : a6 < w.heap.size := ag
 by_cases hq : ((p : Nat) : Int) <= ((ac : Nat) : Int)
 case pos =>
  refine yG ?_
  refine vA O O R O (List.getElem?_eq_some_iff.1 I).1 ?_
  refine V O O (CD NH O O (E.2.2.1.1) O) ?_
  refine yG ?_
  refine EF O (CB NH O ?_)
  intro da eo e21 dr cx aq
  have cd : J < da := by rw [e21]; exact Bx.lt (e5 E)
  replace E := E.below cx
  clear e21
  refine yG ?_
  refine EF O (BY NH O O O aq O O (CK O (CK O EK)) ?_)
  intro en c5 bo
  replace E := oY E aq c5 bo (ds := [.int .i64 ↑p, .slice F G.length D])
  refine yG ?_
  refine sE E [0,1,2,3,4,5,6,7,8,9,10,11,12,13,14,15,16,17,18,19,20,21,22,23,24,25,26,27,28,29,30] ?_
  replace E := E.drew
  refine yG ?_
  refine SW (v := .bool false) O O O Z O (fun w hS => KN pV (b := b9) (ks := z) (v := p) (c := false) O O O (e7 hS) (PN (fun g => Y (X.2.1 ▸ g)))) ?_
  refine yG ?_
  refine SW (v := .int .i64 ↑(i - 1)) O O O Z O (fun w hS => GN O O O (by rw [HI AA]; omega)) ?_
  refine RO O O O a9 O (List.getElem?_eq_some_iff.1 U).1 ?_
  refine yG ?_
  exact ⟨CS (VS (s := (⟨v, q, r, n⟩ : Sy)) a2 (tN T U AA AA)), WP E⟩
 by_cases hf : LH v.length G = true
 case neg =>
  refine yG ?_
  refine vA O O R O (List.getElem?_eq_some_iff.1 I).1 ?_
  refine V O O (CD NH O O (E.2.2.1.1) O) ?_
  refine yG ?_
  refine EF O (CB NH O ?_)
  intro d7 ei e27 dp cv an
  have cb : J < d7 := by rw [e27]; exact Bx.lt (e5 E)
  replace E := E.below cv
  clear e27
  refine yG ?_
  refine EF O (BY NH O O O an O O (CK O (CK O EK)) ?_)
  intro eh c2 bl
  replace E := oY E an c2 bl (ds := [.int .i64 ↑p, .slice F G.length D])
  refine yG ?_
  refine sE E [0,1,2,3,4,5,6,7,8,9,10,11,12,13,14,15,16,17,18,19,20,21,22,23,24,25,26,27,28,29,30] ?_
  replace E := E.drew
  refine yG ?_
  refine SW (v := .bool false) O O O Z O (fun w hS => KN pV (b := b9) (ks := z) (v := p) (c := false) O O O (e7 hS) (PN (fun g => Y (X.2.1 ▸ g)))) ?_
  refine yG ?_
  refine SW (v := .int .i64 ↑(i - 1)) O O O Z O (fun w hS => GN O O O (by rw [HI AA]; omega)) ?_
  refine RO O O O a9 O (List.getElem?_eq_some_iff.1 U).1 ?_
  have bb := e7 E
  refine yG ?_
  replace E := dl7 E
  refine EF O (JE pV (ks := z) (v := p) O O O O bb (PN (fun g => Y (X.2.1 ▸ g))) ?_)
  intro eg c1 bk
  replace E := (E.onl (SetM.noW bb) zK c1).m bk
  refine yG ?_
  refine EF O (CA PB O (CU (DE hf) (tV _ G v.length _ (BW (e5 E)) y.1 y.2.1 y.2.2)) O E ?_)
  intro ef fe E
  refine yG ?_
  exact ⟨CS (VS (s := (⟨v, q, r, n⟩ : Sy)) a2 (YS T (.inr (.inr (DE hf))))), WP E⟩
 refine yG ?_
 refine vA O O R O (List.getElem?_eq_some_iff.1 I).1 ?_
 refine V O O (CD NH O O (E.2.2.1.1) O) ?_
 refine yG ?_
 refine EF O (CB NH O ?_)
 intro a3 em Vi dq cw ap
 have cc : J < a3 := by rw [Vi]; exact Bx.lt (e5 E)
 replace E := E.below cw
 clear Vi
 refine yG ?_
 refine EF O (BY NH O O O ap O O (CK O (CK O EK)) ?_)
 intro el c4 bn
 replace E := oY E ap c4 bn (ds := [.int .i64 ↑p, .slice F G.length D])
 refine yG ?_
 refine sE E [0,1,2,3,4,5,6,7,8,9,10,11,12,13,14,15,16,17,18,19,20,21,22,23,24,25,26,27,28,29,30] ?_
 replace E := E.drew
 refine yG ?_
 refine SW (v := .bool false) O O O Z O (fun w hS => KN pV (b := b9) (ks := z) (v := p) (c := false) O O O (e7 hS) (PN (fun g => Y (X.2.1 ▸ g)))) ?_
 refine yG ?_
 refine SW (v := .int .i64 ↑(i - 1)) O O O Z O (fun w hS => GN O O O (by rw [HI AA]; omega)) ?_
 refine RO O O O a9 O (List.getElem?_eq_some_iff.1 U).1 ?_
 have bc := e7 E
 refine yG ?_
 replace E := dl7 E
 refine EF O (JE pV (ks := z) (v := p) O O O O bc (PN (fun g => Y (X.2.1 ▸ g))) ?_)
 intro ek c3 bm
 replace E := (E.onl (SetM.noW bc) zK c3).m bm
 refine yG ?_
 refine EF O (CA PB O (CU hf (tV _ G v.length _ (BW (e5 E)) y.1 y.2.1 y.2.2)) O E ?_)
 intro ej ff E
 refine yG ?_
 exact ⟨_, (by rw [af]; omega), (i + 1), (z ++ [p]), [CF o 0, .int .i64 ↑i, .pointer (some ⟨a3, 0, none⟩), .bool true, .int .i64 ↑i, .pointer (some ⟨a7, ab + i * 2, none⟩), .agg #[.int .i64 ↑p, .slice F G.length D], .pointer (some ⟨a3, 0, none⟩), .int .i64 ↑p, .bool false, .bool false, .pointer (some ⟨a3, 0, none⟩), .int .i64 ↑p, .pointer (some ⟨P, 3, none⟩), .int .i64 ↑n, .bool false, .bool false, .bool false, .map (some b9), .pointer (some ⟨a3, 0, none⟩), .int .i64 ↑p, .bool false, .bool false, .bool false, .int .i64 ↑i, .bool true, .bool true, .pointer (some ⟨a3, 0, none⟩), .int .i64 ↑p, .slice aL Q.length cL, .int .i64 ↑i, .int .i64 ↑(i - 1), .pointer (some ⟨a6, aa + (i - 1) * 2, none⟩), .pointer (some ⟨a6, aa + (i - 1) * 2, none⟩), .int .i64 ↑ac, .bool false, .bool false, .bool false, .map (some b9), .pointer (some ⟨a3, 0, none⟩), .int .i64 ↑p, .pointer (some ⟨a3, 1, none⟩), .slice F G.length D, .pointer (some ⟨P, 0, none⟩), .slice H v.length u, .int .i64 ↑v.length, .bool true, .bool false, .int .i64 ↑(i + 1)], O, zE, O, ⟨by omega, WH X.1 T AA AA hf (fun _ a b b5 => by rw [U] at b5; cases b5; omega), xJ X.2.1 T, oA X.2.2 T (fun g => Y (List.mem_append_left _ g))⟩⟩
end Go.Proofs.YtmppigbbkjepiaaGreatDoor
