/- syntax.Print. (Printed by g_print.py.) -/
import Derived.Test.YtmppigbbkjepiaaGreatDoorPsys
namespace Go.Proofs.YtmppigbbkjepiaaGreatDoor
open Go.Proofs.Tryz
open Go.RowKit W
theorem Ll {s : Sy} {done : List (Bool × En)} {lr : Bs} (h : done = NN s.eqs s.neqs) (hl : lr = YN s.vars ++ 10 :: YJ s.vars done) : (lr ++ (vM ++ PE ((s.next : Nat) : Int) ++ [10])) = qF s := by
  subst hl h; rw [Kj]; unfold rR; simp
theorem gA {vars : List Bs} {done : List (Bool × En)} {lr : Bs} {e : Bool × En} (hl : lr = YN vars ++ 10 :: YJ vars done) {b : Bs} (hb : b = eY vars e ++ [10]) : lr ++ b = YN vars ++ 10 :: YJ vars (done ++ [e]) := by
  subst hl hb; rw [wF]; simp
theorem oB {l : List En} (h : MZ l) {i : Nat} {e : En} (hx : l[i]? = some e) : GW e.2 ∧ (∀ t ∈ e.2, FitQ t.1 1000000) ∧ e.2.length ≤ 1000000 := h e (List.mem_of_getElem? hx)
theorem bF {α : Type} {l : List α} {i : Nat} {x : α} (h : (l.drop i)[0]? = some x) : l[i]? = some x := by rw [List.getElem?_drop, Nat.add_zero] at h; exact h
theorem XL {l : List Bs} {p : List Tm} (h : DS 4 l = true) (h2 : LW l.length p = true) (h3 : ¬ 4000 < (FU l p).length) : QN l p = (FU l p, 0) := iP (sB h) (fits_iff.1 h2).1 h3
theorem aM {l : List Bs} {p : List Tm} (h : DS 4 l = true) (h2 : LW l.length p = true) (h3 : 4000 < (FU l p).length) : QN l p = ([], 2) := iQ (sB h) (fits_iff.1 h2).1 h3
set_option maxRecDepth 100000 in
set_option maxHeartbeats 8000000 in
theorem kG (vv : Value) (v : List Bs) (vq : Value) (q : List (Nat × List Tm)) (vr : Value) (r : List (Nat × List Tm)) (n : Nat) (w : World) (hRv : IsR elS (DI w.heap.size) w vv v) (hRq : IsR NH (DI w.heap.size) w vq q) (hRr : IsR NH (DI w.heap.size) w vr r) (hOq : MZ q) (hOr : MZ r) (hL : v.length ≤ 1000000) (hG : Glob w) :
    Calls prog 17 #[.agg #[vv, vq, vr, .int .i64 ↑n]] w (FX w (.tuple #[.string (bs (PF ⟨v, q, r, n⟩).1), .int .i64 ↑((PF ⟨v, q, r, n⟩).2)])) := by
 have E := Env.start w
 obtain ⟨a7, J, rfl, fj, fh⟩ := hRv.shp
 replace E := E.r hRv (DM _)
 clear hRv
 obtain ⟨a9, N, rfl, t, gx⟩ := hRq.shp
 replace E := E.r hRq (DM _)
 clear hRq
 obtain ⟨a8, L, rfl, h3, gw⟩ := hRr.shp
 replace E := E.r hRr (DM _)
 clear hRr
 have h4 := hG.two
 replace E := E.gl hG
 go_enter func17, ntmps17
 refine yG ?_
 refine EF O (CI (cs := [.slice a7 v.length J, .slice a9 q.length N, .slice a8 r.length L, .int .i64 ↑n]) O O ?_)
 intro b1 w1 db z1 d1 x1
 have l1 : w.heap.size ≤ b1 := by rw [db]; exact (e4 E).size
 replace E := (E.below d1).x x1
 clear db z1 d1 x1
 by_cases hV : GO ⟨v, q, r, n⟩ = true
 case neg =>
  refine yG ?_
  refine EF O (BY GU O (CQ (DF hV) (QZ (.slice a7 v.length J) v (.slice a9 q.length N) q (.slice a8 r.length L) r n _ (BV (e4 E)) (BV (e3 E)) (BV E.2.2.1) hOq hOr hL)) O E ?_)
  clear E
  intro fq _ E
  refine yG ?_
  exact ⟨SG (a := []) (n := 320) (Qk (DF hV)), e5 E⟩
 obtain ⟨D, fe, fd, fg, d4, ax⟩ := Eu hV
 refine yG ?_
 dsimp only at D fe fd fg d4 ax
 refine yG ?_
 refine EF O (BY GU O (CQ hV (QZ (.slice a7 v.length J) v (.slice a9 q.length N) q (.slice a8 r.length L) r n _ (BV (e4 E)) (BV (e3 E)) (BV E.2.2.1) hOq hOr hL)) O E ?_)
 clear E
 intro w2 _ E
 refine yG ?_
 refine EF O (CA Pa O ?_)
 intro b3 w3 da z3 d3 x3
 have fo : b1 < b3 := by rw [da]; exact Bx.lt E.1
 replace E := (E.below d3).x x3
 clear da z3 d3 x3
 obtain ⟨F, a6⟩ : ∃ n, n = w3.heap.size := ⟨_, rfl⟩
 have fp : w.heap.size ≤ F := by rw [a6]; exact (e6 E).size
 have ea : b3 < F := by rw [a6]; exact Bx.lt E.1
 have e2 : b1 < F := by rw [a6]; exact Bx.lt E.2.1
 replace E := (E.sz (Nat.le_of_eq a6)).a (Acc.nil elB 5 F VF _) (RW _)
 clear a6
 have gv : (jn 32 ([[118, 97, 114, 115]] ++ v)).length ≤ 60 := gR D
 refine yG ?_
 refine EF O (JB (s := (bs ([118, 97, 114, 115]))) O O ?_)
 intro b5 w5 c3 z5 d5 x5
 have fn : b3 < b5 := by rw [c3]; exact Bx.lt E.2.2.1
 have f4 : F ≤ b5 := by rw [c3]; exact CU E.2.1
 replace E := (E.below d5).x x5
 clear c3 z5 d5 x5
 have x7 := E.1
 refine yG ?_
 replace E := Sp E
 have d6 : b1 < b5 := by omega
 refine yG ?_
 refine EF O (pR (S := VF) O (l := [[118, 97, 114, 115]]) O (Acc.lit1 (e := elS) (base := b5) (S := VF) x7 (Nat.le_refl _) O FW) (RW _) E (fun g hg h1 h2 => ⟨PC (fun h => by simp [Value.ownBlock] at h) FW, BW, CS Z, CS Z, EA Z, EC (CN Z), EC (CN Z), EC (CN Z), JD Z, BW⟩) O (e7 E).1 (by have := fj; have := fh; unfold maxLen at *; simp only [List.length_cons, List.length_nil]; have := KD D; omega) (by have := KD D; simp only [List.length_cons, List.length_nil]; omega) (Nat.le_of_lt (Bx.lt x7)) ?_)
 clear E x7
 intro v6 w6 E
 refine yG ?_
 refine EF O (BZ MJ O (pU _ ([[118, 97, 114, 115]] ++ v) 32 _ (pV E.1.1) (by have := gR D; unfold YN vaB at this; simp only [List.cons_append, List.nil_append]; omega) (by have := KD D; simp only [List.cons_append, List.nil_append, List.length_cons]; omega)) O E ?_)
 clear E
 intro w8 _ E
 refine yG ?_
 replace E := Sp E
 have d9 := E.1
 replace E := Sp E
 have cq := E.2.1
 replace E := So E
 refine EF O (EG (s := (jn 32 ([[118, 97, 114, 115]] ++ v)) ++ ([10])) O O O cq d9.1 (.inl O) (by simp only [List.length_cons, List.length_nil, List.length_append]; omega) (CU E.1) E ⟨BW, CS Z, EA Z, EC (CN Z), EC (CN Z), EC (CN Z), JD Z, BW⟩ (fun g hg h1 h2 => ⟨BW, CS Z, EA Z, EC (CN Z), EC (CN Z), EC (CN Z), JD Z, BW⟩) ?_)
 clear E cq d9
 intro ex gj gs E
 refine yG ?_
 refine sE E [0,1,2,3,4,5] ?_
 replace E := E.drew
 refine yG ?_
 refine wp_loop_ghost (fun mz a w' => ∃ (i : Nat) (k : Nat) (done : List (Bool × En)) (a4 : Option Addr) (cE : Nat) (a3 : Option Addr) (cN : Nat) (pr : Value) (vr : Value) (lr : Bs) (f : List Value), f = a.tmps.toList ∧ a = ⟨#[.agg #[.slice a7 v.length J, .slice a9 q.length N, .slice a8 r.length L, .int .i64 ↑n], .pointer (some ⟨b1, 0, none⟩), CC f 2, CC f 3, .pointer (some ⟨b3, 0, none⟩), .slice a4 (q.length - i) cE, .slice a3 (r.length - k) cN, CC f 7, CC f 8, CC f 9, CC f 10, .agg #[.slice a7 v.length J, .slice a9 q.length N, .slice a8 r.length L, .int .i64 ↑n], .bool true, .bool false, .slice (some ⟨b5, 0, none⟩) 1 1, .pointer (some ⟨b1, 0, none⟩), .slice a7 v.length J, v6, .string (bs (jn 32 ([[118, 97, 114, 115]] ++ v))), .string (bs ((jn 32 ([[118, 97, 114, 115]] ++ v)) ++ ([10]))), .tuple #[.int .i64 ↑(((jn 32 ([[118, 97, 114, 115]] ++ v)) ++ ([10])).length), .nilIface], .pointer (some ⟨b1, 1, none⟩), .slice a9 q.length N, .pointer (some ⟨b1, 2, none⟩), .slice a8 r.length L, CC f 25, CC f 26, CC f 27, CC f 28, CC f 29, CC f 30, CC f 31, CC f 32, CC f 33, CC f 34, CC f 35, CC f 36, CC f 37, CC f 38, CC f 39, CC f 40, CC f 41, CC f 42, CC f 43, CC f 44, CC f 45, CC f 46, CC f 47, CC f 48, CC f 49, CC f 50, CC f 51, CC f 52, CC f 53, CC f 54, CC f 55, CC f 56, CC f 57, CC f 58, CC f 59, CC f 60, CC f 61, CC f 62, CC f 63, CC f 64, CC f 65, CC f 66, CC f 67, CC f 68, CC f 69, CC f 70, CC f 71, CC f 72, CC f 73, CC f 74, CC f 75, CC f 76, CC f 77, CC f 78, CC f 79, undef, undef, undef, undef, undef, undef, undef], []⟩ ∧ Env w' [fA elB 5 F VF vr lr, fX b3 (105) ([pr, vr]), fR NH (DI w.heap.size) (.slice a4 (q.length - i) cE) (q.drop i), fR NH (DI w.heap.size) (.slice a3 (r.length - k) cN) (r.drop k), Kb F, fX b1 (48) ([.slice a7 v.length J, .slice a9 q.length N, .slice a8 r.length L, .int .i64 ↑n]), fGl, fR elS (DI w.heap.size) (.slice a7 v.length J) v, fW w] ∧ mz = (q.length + r.length - (i + k)) ∧ (i ≤ q.length ∧ k ≤ r.length ∧ PrTo ⟨v, q, r, n⟩ i k done ∧ (pr = .pointer none ∨ pr = .pointer (some ⟨b3, 0, none⟩)) ∧ lr = YN v ++ 10 :: YJ v done ∧ lr.length ≤ 100 + (i + k) * 5000)) ((q.length + r.length)) ⟨0, 0, [], a9, N, a8, L, (.pointer (some ⟨b3, 0, none⟩)), ex, (([]) ++ ((jn 32 ([[118, 97, 114, 115]] ++ v)) ++ ([10]))), _, O, O, zE, O, ⟨Nat.zero_le _, Nat.zero_le _, PrTo.zero _, .inr O, by simp [YJ, YN, vaB], by have := gR D; unfold YN vaB at this; simp only [List.length_append, List.length_cons, List.length_nil, List.cons_append, List.nil_append] at this ⊢; omega⟩⟩ ?_
 rintro gu _ gi ⟨i, k, done, a4, cE, a3, cN, pr, vr, lr, f, -, rfl, E, ai, d8⟩
 obtain ⟨h0, gz, a0, aw, av, gy⟩ := d8
 by_cases hi : i < q.length
 case neg =>
  by_cases hk : k < r.length
  case neg =>
   obtain ⟨fi, ff⟩ := a0.full hV hi hk
   have a5 := VK d4
   refine yG ?_
   refine EF O (BZ IU O (dB n _ Z (e6 E).1) O E ?_)
   clear E
   intro fs _ E
   have bo := E.1
   refine yG ?_
   replace E := Sp E
   have ck := E.1
   replace E := Sp E
   refine EF O (EG (s := (([110, 101, 120, 116, 32]) ++ (PE ((n : Nat) : Int))) ++ ([10])) O O O ck bo.1 aw (by simp only [List.length_append, List.length_cons, List.length_nil]; omega) (CU E.2.2.1) E ⟨EC (CN Z), EC (CN Z), BW, CS Z, EA Z, EC (CN Z), JD Z, BW⟩ (fun g hg h1 h2 => ⟨EC (CN Z), EC (CN Z), BW, CS Z, EA Z, EC (CN Z), JD Z, BW⟩) ?_)
   clear E ck bo
   intro gk fr gm E
   refine yG ?_
   refine EF O (DB ⟨_, func51, by kernel_rfl, O⟩ O (tI (B := w.heap.size) E.2.1 E.1.1 (.inr O) Z Z (e8 E).size) O ?_)
   rintro _ ej ⟨rfl, fm⟩
   refine ⟨_, O, ?_⟩
   replace E : Env ej [fW w] := ⟨Below.trans (e8 E) fm, BW⟩
   refine yG ?_
   exact ⟨SG (a := lr ++ ((([110, 101, 120, 116, 32]) ++ (PE ((n : Nat) : Int))) ++ ([10]))) (n := 0) (by rw [ff, ← Ll fi av]; rfl), E.1⟩
  obtain ⟨⟨z, Q⟩, aq⟩ : ∃ x, (r.drop k)[0]? = some x := ⟨_, List.getElem?_eq_getElem (by rw [List.length_drop]; omega)⟩
  obtain ⟨ak, f3, _, a2, az, c2, ⟨_, rfl, au⟩⟩ := IsR.at (e3 E).1 aq
  obtain ⟨ao, am, rfl, d2, _⟩ := au.shp
  have c0 : ak < _ := (e3 E).2 _ az
  replace E := (E.r au (e3 E).2).c c2 c0
  have fl : ak < w.heap.size := az
  have H := bF aq
  have X : ZE ⟨v, q, r, n⟩ i k (true, z, Q) := .inr ⟨rfl, H, .inl hi⟩
  obtain ⟨R, U, T⟩ := oB hOr H
  obtain ⟨Y, C⟩ := ax (z, Q) (.inr (List.mem_of_getElem? H))
  by_cases p : 4000 < (FU v Q).length
  case pos =>
   refine yG ?_
   refine EF O (CA PB O ?_)
   intro c5 fy b2 ec dd ab
   have dq : (vr : Value).ownBlock ≠ some c5 := fun h => by have := (Acc.lt E.2.2.1.1 h).2; omega
   have f6 : b3 < c5 := by rw [b2]; exact Bx.lt (e3 E)
   have dv : F ≤ c5 := by rw [b2]; exact CU (e6 E)
   replace E := E.below dd
   clear b2 ec dd
   refine yG ?_
   refine sE E [0,1,2,3,4,5,6,7,8,9,10,11,12,13,14,15,16,17,18] ?_
   replace E := E.drew
   replace ab := Bx.drew ab
   refine yG ?_
   refine sE E [0,1,2,3,4,5,6,7] ?_
   replace E := E.drew
   replace ab := Bx.drew ab
   refine yG ?_
   refine OB (j := 0) O O O a2 O Z ?_
   refine SW O O O O O (fun w hS => CD PB O O ((hS.1).1) O) ?_
   obtain ⟨dl, bh⟩ : ∃ a, xS a3 (1 * 2) (decide (cN = 1)) = a := ⟨_, rfl⟩
   refine yG ?_
   refine SW (v := .slice dl ((r.length - k) - 1) (cN - 1)) O O O O O (fun w hS => HI (i := 1) O underlying46 I O O O (by first | omega | (rw [List.length_drop]; omega)) bh) ?_
   refine yG ?_
   refine JF (o := ⟨none, _, _, _, _, _⟩) O O O O (BX PB O O O ab O O (CM O (CM O EX)) ?_)
   intro el ct cd
   replace E := (E.onl (ab.noW (CE AG (CE AG CX))) zK ct).x (cs := [.int .i64 ↑z, .slice ao Q.length am]) cd
   clear ab ct cd
   refine ⟨E.2, ?_⟩
   refine yG ?_
   replace E := E.r (e := NH) (S := DI w.heap.size) (by have u := MB (e6 E).1 (by first | omega | (rw [List.length_drop]; omega)) bh; rw [List.drop_drop] at u; exact u) ((e6 E).2)
   refine yG ?_
   refine EF O (BZ EP O ((by have t := RA _ Q _ v el (BV (e3 E)) (BV (RG E)) R U T hL (PP E).1; rw [aM D C p] at t; exact t)) O E ?_)
   clear E
   intro fx _ E
   refine yG ?_
   exact ⟨SG (a := []) (n := 2) (a0.long hV X p), XX E⟩
  refine yG ?_
  refine EF O (CA PB O ?_)
  intro c4 fw b0 eb dc aa
  have bb : (vr : Value).ownBlock ≠ some c4 := fun h => by have := (Acc.lt E.2.2.1.1 h).2; omega
  have f5 : b3 < c4 := by rw [b0]; exact Bx.lt (e3 E)
  have du : F ≤ c4 := by rw [b0]; exact CU (e6 E)
  replace E := E.below dc
  clear b0 eb dc
  refine yG ?_
  refine sE E [0,1,2,3,4,5,6,7,8,9,10,11,12,13,14,15,16,17,18] ?_
  replace E := E.drew
  replace aa := Bx.drew aa
  refine yG ?_
  refine sE E [0,1,2,3,4,5,6,7] ?_
  replace E := E.drew
  replace aa := Bx.drew aa
  refine yG ?_
  refine OB (j := 0) O O O a2 O Z ?_
  refine SW O O O O O (fun w hS => CD PB O O ((hS.1).1) O) ?_
  obtain ⟨bu, bg⟩ : ∃ a, xS a3 (1 * 2) (decide (cN = 1)) = a := ⟨_, rfl⟩
  refine yG ?_
  refine SW (v := .slice bu ((r.length - k) - 1) (cN - 1)) O O O O O (fun w hS => HI (i := 1) O underlying46 I O O O (by first | omega | (rw [List.length_drop]; omega)) bg) ?_
  refine yG ?_
  refine JF (o := ⟨none, _, _, _, _, _⟩) O O O O (BX PB O O O aa O O (CM O (CM O EX)) ?_)
  intro ek cr cc
  replace E := (E.onl (aa.noW (CE AG (CE AG CX))) zK cr).x (cs := [.int .i64 ↑z, .slice ao Q.length am]) cc
  clear aa cr cc
  refine ⟨E.2, ?_⟩
  refine yG ?_
  replace E := E.r (e := NH) (S := DI w.heap.size) (by have u := MB (e6 E).1 (by first | omega | (rw [List.length_drop]; omega)) bg; rw [List.drop_drop] at u; exact u) ((e6 E).2)
  refine yG ?_
  refine EF O (BZ EP O ((by have t := RA _ Q _ v ek (BV (e3 E)) (BV (RG E)) R U T hL (PP E).1; rw [XL D C p] at t; exact t)) O E ?_)
  clear E
  intro fv _ E
  have a5 := VK Y
  refine yG ?_
  dsimp only at a5
  refine yG ?_
  refine EF O (BZ IU O (dB z _ Z (PP E).1) O E ?_)
  clear E
  intro fu _ E
  have bp := e4 E
  refine yG ?_
  replace E := Sr E
  have cm := e4 E
  replace E := Sr E
  have ey := Bx.lt E.2.1
  refine EF O (EG (s := (((PE ((z : Nat) : Int)) ++ ([58, 32])) ++ (FU v Q)) ++ ([32, 33, 61, 32, 48, 10])) O O O cm bp.1 aw (by simp only [List.length_append, List.length_cons, List.length_nil]; omega) (CU (e6 E)) E ⟨EC (CN Z), CS Z, UO Z, EC (CN Z), EC (CN Z), EC (CN Z), BW, CS Z, EA Z, EC (CN Z), JD Z, BW⟩ (fun g hg h1 h2 => ⟨EC (CN Z), CS (fun e => bb (e ▸ hg)), UO Z, EC (CN Z), EC (CN Z), EC (CN Z), BW, CS Z, EA Z, EC (CN Z), JD Z, BW⟩) ?_)
  clear E cm bp
  intro et ft gn E
  refine yG ?_
  exact ⟨_, (by rw [ai]; omega), i, (k + 1), (done ++ [(true, z, Q)]), a4, cE, bu, (cN - 1), (.pointer (some ⟨b3, 0, none⟩)), et, (lr ++ ((((PE ((z : Nat) : Int)) ++ ([58, 32])) ++ (FU v Q)) ++ ([32, 33, 61, 32, 48, 10]))), _, O, O, zE, O, ⟨by omega, by omega, a0.step X p, .inr O, gA (e := (true, z, Q)) av (by unfold eY wD; simp [PA, tX]), by (try simp only [List.length_append, List.length_cons, List.length_nil]); omega⟩⟩
 by_cases hk : k < r.length
 case neg =>
  obtain ⟨⟨y, P⟩, ap⟩ : ∃ x, (q.drop i)[0]? = some x := ⟨_, List.getElem?_eq_getElem (by rw [List.length_drop]; omega)⟩
  obtain ⟨aj, f2, _, a1, ay, c1, ⟨_, rfl, ar⟩⟩ := IsR.at E.2.2.1.1 ap
  obtain ⟨an, al, rfl, d0, _⟩ := ar.shp
  have bz : aj < _ := E.2.2.1.2 _ ay
  replace E := (E.r ar E.2.2.1.2).c c1 bz
  have fk : aj < w.heap.size := ay
  have G := bF ap
  have X : ZE ⟨v, q, r, n⟩ i k (false, y, P) := .inl ⟨rfl, G, .inl hk⟩
  obtain ⟨R, U, T⟩ := oB hOq G
  obtain ⟨Y, C⟩ := ax (y, P) (.inl (List.mem_of_getElem? G))
  by_cases p : 4000 < (FU v P).length
  case pos =>
   refine yG ?_
   refine EF O (CA PB O ?_)
   intro c7 g4 b6 ee dg ad
   have dr : (vr : Value).ownBlock ≠ some c7 := fun h => by have := (Acc.lt E.2.2.1.1 h).2; omega
   have f8 : b3 < c7 := by rw [b6]; exact Bx.lt (e3 E)
   have dx : F ≤ c7 := by rw [b6]; exact CU (e6 E)
   replace E := E.below dg
   clear b6 ee dg
   refine yG ?_
   refine sE E [0,1,2,3,4,5,6,7,8,9,10,11,12,13,14,15,16,17,18] ?_
   replace E := E.drew
   replace ad := Bx.drew ad
   refine yG ?_
   refine sE E [0,1,2,3,4,5,6,7] ?_
   replace E := E.drew
   replace ad := Bx.drew ad
   refine yG ?_
   refine OB (j := 0) O O O a1 O Z ?_
   refine SW O O O O O (fun w hS => CD PB O O ((hS.1).1) O) ?_
   obtain ⟨dm, bj⟩ : ∃ a, xS a4 (1 * 2) (decide (cE = 1)) = a := ⟨_, rfl⟩
   refine yG ?_
   refine SW (v := .slice dm ((q.length - i) - 1) (cE - 1)) O O O O O (fun w hS => HI (i := 1) O underlying46 I O O O (by first | omega | (rw [List.length_drop]; omega)) bj) ?_
   refine yG ?_
   refine JF (o := ⟨none, _, _, _, _, _⟩) O O O O (BX PB O O O ad O O (CM O (CM O EX)) ?_)
   intro en cv cf
   replace E := (E.onl (ad.noW (CE AG (CE AG CX))) zK cv).x (cs := [.int .i64 ↑y, .slice an P.length al]) cf
   clear ad cv cf
   refine ⟨E.2, ?_⟩
   refine yG ?_
   replace E := E.r (e := NH) (S := DI w.heap.size) (by have u := MB (e5 E).1 (by first | omega | (rw [List.length_drop]; omega)) bj; rw [List.drop_drop] at u; exact u) ((e5 E).2)
   refine yG ?_
   refine EF O (BZ EP O ((by have t := RA _ P _ v en (BV (e3 E)) (BV (RG E)) R U T hL (PP E).1; rw [aM D C p] at t; exact t)) O E ?_)
   clear E
   intro g3 _ E
   refine yG ?_
   exact ⟨SG (a := []) (n := 2) (a0.long hV X p), XX E⟩
  refine yG ?_
  refine EF O (CA PB O ?_)
  intro c6 g2 b4 ed de ac
  have bc : (vr : Value).ownBlock ≠ some c6 := fun h => by have := (Acc.lt E.2.2.1.1 h).2; omega
  have f7 : b3 < c6 := by rw [b4]; exact Bx.lt (e3 E)
  have dw : F ≤ c6 := by rw [b4]; exact CU (e6 E)
  replace E := E.below de
  clear b4 ed de
  refine yG ?_
  refine sE E [0,1,2,3,4,5,6,7,8,9,10,11,12,13,14,15,16,17,18] ?_
  replace E := E.drew
  replace ac := Bx.drew ac
  refine yG ?_
  refine sE E [0,1,2,3,4,5,6,7] ?_
  replace E := E.drew
  replace ac := Bx.drew ac
  refine yG ?_
  refine OB (j := 0) O O O a1 O Z ?_
  refine SW O O O O O (fun w hS => CD PB O O ((hS.1).1) O) ?_
  obtain ⟨bv, bi⟩ : ∃ a, xS a4 (1 * 2) (decide (cE = 1)) = a := ⟨_, rfl⟩
  refine yG ?_
  refine SW (v := .slice bv ((q.length - i) - 1) (cE - 1)) O O O O O (fun w hS => HI (i := 1) O underlying46 I O O O (by first | omega | (rw [List.length_drop]; omega)) bi) ?_
  refine yG ?_
  refine JF (o := ⟨none, _, _, _, _, _⟩) O O O O (BX PB O O O ac O O (CM O (CM O EX)) ?_)
  intro em cu ce
  replace E := (E.onl (ac.noW (CE AG (CE AG CX))) zK cu).x (cs := [.int .i64 ↑y, .slice an P.length al]) ce
  clear ac cu ce
  refine ⟨E.2, ?_⟩
  refine yG ?_
  replace E := E.r (e := NH) (S := DI w.heap.size) (by have u := MB (e5 E).1 (by first | omega | (rw [List.length_drop]; omega)) bi; rw [List.drop_drop] at u; exact u) ((e5 E).2)
  refine yG ?_
  refine EF O (BZ EP O ((by have t := RA _ P _ v em (BV (e3 E)) (BV (RG E)) R U T hL (PP E).1; rw [XL D C p] at t; exact t)) O E ?_)
  clear E
  intro g1 _ E
  have a5 := VK Y
  refine yG ?_
  dsimp only at a5
  refine yG ?_
  refine EF O (BZ IU O (dB y _ Z (PP E).1) O E ?_)
  clear E
  intro g0 _ E
  have bq := e4 E
  refine yG ?_
  replace E := Sr E
  have cn := e4 E
  replace E := Sr E
  have ez := Bx.lt E.2.1
  refine EF O (EG (s := (((PE ((y : Nat) : Int)) ++ ([58, 32])) ++ (FU v P)) ++ ([32, 61, 32, 48, 10])) O O O cn bq.1 aw (by simp only [List.length_append, List.length_cons, List.length_nil]; omega) (CU (e6 E)) E ⟨EC (CN Z), CS Z, UO Z, EC (CN Z), EC (CN Z), EC (CN Z), BW, CS Z, EA Z, EC (CN Z), JD Z, BW⟩ (fun g hg h1 h2 => ⟨EC (CN Z), CS (fun e => bc (e ▸ hg)), UO Z, EC (CN Z), EC (CN Z), EC (CN Z), BW, CS Z, EA Z, EC (CN Z), JD Z, BW⟩) ?_)
  clear E cn bq
  intro eu fz gp E
  refine yG ?_
  exact ⟨_, (by rw [ai]; omega), (i + 1), k, (done ++ [(false, y, P)]), bv, (cE - 1), a3, cN, (.pointer (some ⟨b3, 0, none⟩)), eu, (lr ++ ((((PE ((y : Nat) : Int)) ++ ([58, 32])) ++ (FU v P)) ++ ([32, 61, 32, 48, 10]))), _, O, O, zE, O, ⟨by omega, by omega, a0.step X p, .inr O, gA (e := (false, y, P)) av (by unfold eY wD; simp [PA, wC]), by (try simp only [List.length_append, List.length_cons, List.length_nil]); omega⟩⟩
 obtain ⟨⟨y, P⟩, ap⟩ : ∃ x, (q.drop i)[0]? = some x := ⟨_, List.getElem?_eq_getElem (by rw [List.length_drop]; omega)⟩
 obtain ⟨aj, f2, _, a1, ay, c1, ⟨_, rfl, ar⟩⟩ := IsR.at E.2.2.1.1 ap
 obtain ⟨an, al, rfl, d0, _⟩ := ar.shp
 have bz : aj < _ := E.2.2.1.2 _ ay
 replace E := (E.r ar E.2.2.1.2).c c1 bz
 have fk : aj < w.heap.size := ay
 have G := bF ap
 obtain ⟨⟨z, Q⟩, aq⟩ : ∃ x, (r.drop k)[0]? = some x := ⟨_, List.getElem?_eq_getElem (by rw [List.length_drop]; omega)⟩
 obtain ⟨ak, f3, _, a2, az, c2, ⟨_, rfl, au⟩⟩ := IsR.at (e5 E).1 aq
 obtain ⟨ao, am, rfl, d2, _⟩ := au.shp
 have c0 : ak < _ := (e5 E).2 _ az
 replace E := (E.r au (e5 E).2).c c2 c0
 have fl : ak < w.heap.size := az
 have H := bF aq
 by_cases d7 : y < z
 case pos =>
  have X : ZE ⟨v, q, r, n⟩ i k (false, y, P) := .inl ⟨rfl, G, .inr ⟨_, H, d7⟩⟩
  obtain ⟨R, U, T⟩ := oB hOq G
  obtain ⟨Y, C⟩ := ax (y, P) (.inl (List.mem_of_getElem? G))
  by_cases p : 4000 < (FU v P).length
  case pos =>
   refine yG ?_
   refine EF O (CA PB O ?_)
   intro cb gh ba ei dk ah
   have dt : (vr : Value).ownBlock ≠ some cb := fun h => by have := (Acc.lt (e4 E).1 h).2; omega
   have fc : b3 < cb := by rw [ba]; exact Bx.lt (e5 E)
   have e1 : F ≤ cb := by rw [ba]; exact CU (e8 E)
   replace E := E.below dk
   clear ba ei dk
   refine yG ?_
   refine sE E [0,1,2,3,4,5,6,7,8,9,10,11,12,13,14,15,16,17,18] ?_
   replace E := E.drew
   replace ah := Bx.drew ah
   refine yG ?_
   refine OB (j := 0) O O O a1 O Z ?_
   refine yG ?_
   refine OB (j := 0) O O O a2 O Z ?_
   refine yG ?_
   refine sE E [0,1,2,3,4,5,6,7] ?_
   replace E := E.drew
   replace ah := Bx.drew ah
   refine yG ?_
   refine OB (j := 0) O O O a1 O Z ?_
   refine SW O O O O O (fun w hS => CD PB O O ((hS.2.2.1).1) O) ?_
   obtain ⟨dp, bn⟩ : ∃ a, xS a4 (1 * 2) (decide (cE = 1)) = a := ⟨_, rfl⟩
   refine yG ?_
   refine SW (v := .slice dp ((q.length - i) - 1) (cE - 1)) O O O O O (fun w hS => HI (i := 1) O underlying46 I O O O (by first | omega | (rw [List.length_drop]; omega)) bn) ?_
   refine yG ?_
   refine JF (o := ⟨none, _, _, _, _, _⟩) O O O O (BX PB O O O ah O O (CM O (CM O EX)) ?_)
   intro es cz cj
   replace E := (E.onl (ah.noW (CE AG (CE AG CX))) zK cz).x (cs := [.int .i64 ↑y, .slice an P.length al]) cj
   clear ah cz cj
   refine ⟨E.2, ?_⟩
   refine yG ?_
   replace E := E.r (e := NH) (S := DI w.heap.size) (by have u := MB (e7 E).1 (by first | omega | (rw [List.length_drop]; omega)) bn; rw [List.drop_drop] at u; exact u) ((e7 E).2)
   refine yG ?_
   refine EF O (BZ EP O ((by have t := RA _ P _ v es (BV (e5 E)) (BV (VE E)) R U T hL (XX E).1; rw [aM D C p] at t; exact t)) O E ?_)
   clear E
   intro gg _ E
   refine yG ?_
   exact ⟨SG (a := []) (n := 2) (a0.long hV X p), kX E⟩
  refine yG ?_
  refine EF O (CA PB O ?_)
  intro ca gf b9 eh dj ag
  have bf : (vr : Value).ownBlock ≠ some ca := fun h => by have := (Acc.lt (e4 E).1 h).2; omega
  have fb : b3 < ca := by rw [b9]; exact Bx.lt (e5 E)
  have e0 : F ≤ ca := by rw [b9]; exact CU (e8 E)
  replace E := E.below dj
  clear b9 eh dj
  refine yG ?_
  refine sE E [0,1,2,3,4,5,6,7,8,9,10,11,12,13,14,15,16,17,18] ?_
  replace E := E.drew
  replace ag := Bx.drew ag
  refine yG ?_
  refine OB (j := 0) O O O a1 O Z ?_
  refine yG ?_
  refine OB (j := 0) O O O a2 O Z ?_
  refine yG ?_
  refine sE E [0,1,2,3,4,5,6,7] ?_
  replace E := E.drew
  replace ag := Bx.drew ag
  refine yG ?_
  refine OB (j := 0) O O O a1 O Z ?_
  refine SW O O O O O (fun w hS => CD PB O O ((hS.2.2.1).1) O) ?_
  obtain ⟨bx, bm⟩ : ∃ a, xS a4 (1 * 2) (decide (cE = 1)) = a := ⟨_, rfl⟩
  refine yG ?_
  refine SW (v := .slice bx ((q.length - i) - 1) (cE - 1)) O O O O O (fun w hS => HI (i := 1) O underlying46 I O O O (by first | omega | (rw [List.length_drop]; omega)) bm) ?_
  refine yG ?_
  refine JF (o := ⟨none, _, _, _, _, _⟩) O O O O (BX PB O O O ag O O (CM O (CM O EX)) ?_)
  intro er cy ci
  replace E := (E.onl (ag.noW (CE AG (CE AG CX))) zK cy).x (cs := [.int .i64 ↑y, .slice an P.length al]) ci
  clear ag cy ci
  refine ⟨E.2, ?_⟩
  refine yG ?_
  replace E := E.r (e := NH) (S := DI w.heap.size) (by have u := MB (e7 E).1 (by first | omega | (rw [List.length_drop]; omega)) bm; rw [List.drop_drop] at u; exact u) ((e7 E).2)
  refine yG ?_
  refine EF O (BZ EP O ((by have t := RA _ P _ v er (BV (e5 E)) (BV (VE E)) R U T hL (XX E).1; rw [XL D C p] at t; exact t)) O E ?_)
  clear E
  intro ge _ E
  have a5 := VK Y
  refine yG ?_
  dsimp only at a5
  refine yG ?_
  refine EF O (BZ IU O (dB y _ Z (XX E).1) O E ?_)
  clear E
  intro gc _ E
  have bt := e6 E
  refine yG ?_
  replace E := Ss E
  have cp := e6 E
  replace E := Ss E
  have f1 := Bx.lt E.2.1
  refine EF O (EG (s := (((PE ((y : Nat) : Int)) ++ ([58, 32])) ++ (FU v P)) ++ ([32, 61, 32, 48, 10])) O O O cp bt.1 aw (by simp only [List.length_append, List.length_cons, List.length_nil]; omega) (CU (e8 E)) E ⟨EC (CN Z), CS Z, UO Z, EC (CN Z), UO Z, EC (CN Z), EC (CN Z), EC (CN Z), BW, CS Z, EA Z, EC (CN Z), JD Z, BW⟩ (fun g hg h1 h2 => ⟨EC (CN Z), CS (fun e => bf (e ▸ hg)), UO Z, EC (CN Z), UO Z, EC (CN Z), EC (CN Z), EC (CN Z), BW, CS Z, EA Z, EC (CN Z), JD Z, BW⟩) ?_)
  clear E cp bt
  intro ew gb gr E
  refine yG ?_
  exact ⟨_, (by rw [ai]; omega), (i + 1), k, (done ++ [(false, y, P)]), bx, (cE - 1), a3, cN, (.pointer (some ⟨b3, 0, none⟩)), ew, (lr ++ ((((PE ((y : Nat) : Int)) ++ ([58, 32])) ++ (FU v P)) ++ ([32, 61, 32, 48, 10]))), _, O, O, zE, O, ⟨by omega, by omega, a0.step X p, .inr O, gA (e := (false, y, P)) av (by unfold eY wD; simp [PA, wC]), by (try simp only [List.length_append, List.length_cons, List.length_nil]); omega⟩⟩
 have X : ZE ⟨v, q, r, n⟩ i k (true, z, Q) := .inr ⟨rfl, H, .inr ⟨_, G, d7⟩⟩
 obtain ⟨R, U, T⟩ := oB hOr H
 obtain ⟨Y, C⟩ := ax (z, Q) (.inr (List.mem_of_getElem? H))
 by_cases p : 4000 < (FU v Q).length
 case pos =>
  refine yG ?_
  refine EF O (CA PB O ?_)
  intro c9 ga b8 eg di af
  have ds : (vr : Value).ownBlock ≠ some c9 := fun h => by have := (Acc.lt (e4 E).1 h).2; omega
  have fa : b3 < c9 := by rw [b8]; exact Bx.lt (e5 E)
  have dz : F ≤ c9 := by rw [b8]; exact CU (e8 E)
  replace E := E.below di
  clear b8 eg di
  refine yG ?_
  refine sE E [0,1,2,3,4,5,6,7,8,9,10,11,12,13,14,15,16,17,18] ?_
  replace E := E.drew
  replace af := Bx.drew af
  refine yG ?_
  refine OB (j := 0) O O O a1 O Z ?_
  refine yG ?_
  refine OB (j := 0) O O O a2 O Z ?_
  refine yG ?_
  refine sE E [0,1,2,3,4,5,6,7] ?_
  replace E := E.drew
  replace af := Bx.drew af
  refine yG ?_
  refine OB (j := 0) O O O a2 O Z ?_
  refine SW O O O O O (fun w hS => CD PB O O ((hS.1).1) O) ?_
  obtain ⟨dn, bl⟩ : ∃ a, xS a3 (1 * 2) (decide (cN = 1)) = a := ⟨_, rfl⟩
  refine yG ?_
  refine SW (v := .slice dn ((r.length - k) - 1) (cN - 1)) O O O O O (fun w hS => HI (i := 1) O underlying46 I O O O (by first | omega | (rw [List.length_drop]; omega)) bl) ?_
  refine yG ?_
  refine JF (o := ⟨none, _, _, _, _, _⟩) O O O O (BX PB O O O af O O (CM O (CM O EX)) ?_)
  intro ep cx ch
  replace E := (E.onl (af.noW (CE AG (CE AG CX))) zK cx).x (cs := [.int .i64 ↑z, .slice ao Q.length am]) ch
  clear af cx ch
  refine ⟨E.2, ?_⟩
  refine yG ?_
  replace E := E.r (e := NH) (S := DI w.heap.size) (by have u := MB (e8 E).1 (by first | omega | (rw [List.length_drop]; omega)) bl; rw [List.drop_drop] at u; exact u) ((e8 E).2)
  refine yG ?_
  refine EF O (BZ EP O ((by have t := RA _ Q _ v ep (BV (e3 E)) (BV (VE E)) R U T hL (XX E).1; rw [aM D C p] at t; exact t)) O E ?_)
  clear E
  intro g9 _ E
  refine yG ?_
  exact ⟨SG (a := []) (n := 2) (a0.long hV X p), kX E⟩
 refine yG ?_
 refine EF O (CA PB O ?_)
 intro c8 g8 b7 ef dh ae
 have bd : (vr : Value).ownBlock ≠ some c8 := fun h => by have := (Acc.lt (e4 E).1 h).2; omega
 have f9 : b3 < c8 := by rw [b7]; exact Bx.lt (e5 E)
 have dy : F ≤ c8 := by rw [b7]; exact CU (e8 E)
 replace E := E.below dh
 clear b7 ef dh
 refine yG ?_
 refine sE E [0,1,2,3,4,5,6,7,8,9,10,11,12,13,14,15,16,17,18] ?_
 replace E := E.drew
 replace ae := Bx.drew ae
 refine yG ?_
 refine OB (j := 0) O O O a1 O Z ?_
 refine yG ?_
 refine OB (j := 0) O O O a2 O Z ?_
 refine yG ?_
 refine sE E [0,1,2,3,4,5,6,7] ?_
 replace E := E.drew
 replace ae := Bx.drew ae
 refine yG ?_
 refine OB (j := 0) O O O a2 O Z ?_
 refine SW O O O O O (fun w hS => CD PB O O ((hS.1).1) O) ?_
 obtain ⟨bw, bk⟩ : ∃ a, xS a3 (1 * 2) (decide (cN = 1)) = a := ⟨_, rfl⟩
 refine yG ?_
 refine SW (v := .slice bw ((r.length - k) - 1) (cN - 1)) O O O O O (fun w hS => HI (i := 1) O underlying46 I O O O (by first | omega | (rw [List.length_drop]; omega)) bk) ?_
 refine yG ?_
 refine JF (o := ⟨none, _, _, _, _, _⟩) O O O O (BX PB O O O ae O O (CM O (CM O EX)) ?_)
 intro eo cw cg
 replace E := (E.onl (ae.noW (CE AG (CE AG CX))) zK cw).x (cs := [.int .i64 ↑z, .slice ao Q.length am]) cg
 clear ae cw cg
 refine ⟨E.2, ?_⟩
 refine yG ?_
 replace E := E.r (e := NH) (S := DI w.heap.size) (by have u := MB (e8 E).1 (by first | omega | (rw [List.length_drop]; omega)) bk; rw [List.drop_drop] at u; exact u) ((e8 E).2)
 refine yG ?_
 refine EF O (BZ EP O ((by have t := RA _ Q _ v eo (BV (e3 E)) (BV (VE E)) R U T hL (XX E).1; rw [XL D C p] at t; exact t)) O E ?_)
 clear E
 intro g7 _ E
 have a5 := VK Y
 refine yG ?_
 dsimp only at a5
 refine yG ?_
 refine EF O (BZ IU O (dB z _ Z (XX E).1) O E ?_)
 clear E
 intro g6 _ E
 have br := e6 E
 refine yG ?_
 replace E := Ss E
 have co := e6 E
 replace E := Ss E
 have f0 := Bx.lt E.2.1
 refine EF O (EG (s := (((PE ((z : Nat) : Int)) ++ ([58, 32])) ++ (FU v Q)) ++ ([32, 33, 61, 32, 48, 10])) O O O co br.1 aw (by simp only [List.length_append, List.length_cons, List.length_nil]; omega) (CU (e8 E)) E ⟨EC (CN Z), CS Z, UO Z, EC (CN Z), UO Z, EC (CN Z), EC (CN Z), EC (CN Z), BW, CS Z, EA Z, EC (CN Z), JD Z, BW⟩ (fun g hg h1 h2 => ⟨EC (CN Z), CS (fun e => bd (e ▸ hg)), UO Z, EC (CN Z), UO Z, EC (CN Z), EC (CN Z), EC (CN Z), BW, CS Z, EA Z, EC (CN Z), JD Z, BW⟩) ?_)
 clear E co br
 intro ev g5 gq E
 refine yG ?_
 exact ⟨_, (by rw [ai]; omega), i, (k + 1), (done ++ [(true, z, Q)]), a4, cE, bw, (cN - 1), (.pointer (some ⟨b3, 0, none⟩)), ev, (lr ++ ((((PE ((z : Nat) : Int)) ++ ([58, 32])) ++ (FU v Q)) ++ ([32, 33, 61, 32, 48, 10]))), _, O, O, zE, O, ⟨by omega, by omega, a0.step X p, .inr O, gA (e := (true, z, Q)) av (by unfold eY wD; simp [PA, tX]), by (try simp only [List.length_append, List.length_cons, List.length_nil]); omega⟩⟩
end Go.Proofs.YtmppigbbkjepiaaGreatDoor
