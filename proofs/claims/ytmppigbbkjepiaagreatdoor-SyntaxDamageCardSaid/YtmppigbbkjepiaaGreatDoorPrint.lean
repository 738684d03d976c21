/- Helping facts of Print; no other conditions. -/
import Derived.Test.YtmppigbbkjepiaaGreatDoorPsys
namespace Go.Proofs.YtmppigbbkjepiaaGreatDoor
open Go.Proofs.Tryz
open Go.RowKit W
theorem Qp {s : Sy} {done : List (Bool × En)} {lr : Bs} (h : done = LY s.eqs s.neqs) (hl : lr = UQ s.vars ++ 10 :: UL s.vars done) : (lr ++ (nxB ++ txt ((s.next : Nat) : Int) ++ [10])) = SH s := by
  subst hl h; rw [pM]; unfold ZK; simp
theorem iN {vars : List Bs} {done : List (Bool × En)} {lr : Bs} {e : Bool × En} (hl : lr = UQ vars ++ 10 :: UL vars done) {b : Bs} (hb : b = QC vars e ++ [10]) : lr ++ b = UQ vars ++ 10 :: UL vars (done ++ [e]) := by
  subst hl hb; rw [zJ]; simp
theorem qE {l : List En} (h : SE l) {i : Nat} {e : En} (hx : l[i]? = some e) : EJ e.2 ∧ (∀ t ∈ e.2, FitQ t.1 1000000) ∧ e.2.length ≤ 1000000 := h e (List.mem_of_getElem? hx)
theorem dA {α : Type} {l : List α} {i : Nat} {x : α} (h : (l.drop i)[0]? = some x) : l[i]? = some x := by rw [List.getElem?_drop, Nat.add_zero] at h; exact h
theorem YT {l : List Bs} {p : List Tm} (h : DF 4 l = true) (h2 : MB l.length p = true) (h3 : ¬ 4000 < (DQ l p).length) : RO l p = (DQ l p, 0) := kD (cO h) (fits_iff.1 h2).1 h3
theorem bW {l : List Bs} {p : List Tm} (h : DF 4 l = true) (h2 : MB l.length p = true) (h3 : 4000 < (DQ l p).length) : RO l p = ([], 2) := kE (cO h) (fits_iff.1 h2).1 h3
set_option maxRecDepth 100000 in
set_option maxHeartbeats 8000000 in
theorem lY (vv : Value) (v : List Bs) (vq : Value) (q : List (Nat × List Tm)) (vr : Value) (r : List (Nat × List Tm)) (n : Nat) (w : World) (hRv : IsR elS (DD w.heap.size) w vv v) (hRq : IsR NY (DD w.heap.size) w vq q) (hRr : IsR NY (DD w.heap.size) w vr r) (hOq : SE q) (hOr : SE r) (hL : v.length ≤ 1000000) (hG : Glob w) :
    Calls prog 17 #[.agg #[vv, vq, vr, .int .i64 ↑n]] w (GJ w (.tuple #[.string (bs (RN ⟨v, q, r, n⟩).1), .int .i64 ↑((RN ⟨v, q, r, n⟩).2)])) := by
 have E := Env.start w
 obtain ⟨a7, I, rfl, f8, f6⟩ := hRv.shp
 replace E := E.r hRv (DK _)
 obtain ⟨a9, L, rfl, t, h8⟩ := hRq.shp
 replace E := E.r hRq (DK _)
 obtain ⟨a8, J, rfl, hc, h7⟩ := hRr.shp
 replace E := E.r hRr (DK _)
 have hd := hG.two
 replace E := E.gl hG
 go_enter func17, ntmps17
 refine yG ?_
 refine EF O (CI (cs := [.slice a7 v.length I, .slice a9 q.length L, .slice a8 r.length J, .int .i64 ↑n]) O O ?_)
 intro b1 w1 fd z1 d1 x1
 have l1 : w.heap.size ≤ b1 := by rw [fd]; exact (e4 E).size
 replace E := E.below d1
 replace E := E.x x1
 by_cases hV : JN ⟨v, q, r, n⟩ = true
 case neg =>
  refine yG ?_
  refine EF O (CA HH O (CU (ET hV) (SD (.slice a7 v.length I) v (.slice a9 q.length L) q (.slice a8 r.length J) r n _ (BW (e4 E)) (BW (e3 E)) (BW E.2.2.1) hOq hOr hL)) O E ?_)
  intro fy he E
  refine yG ?_
  exact ⟨TO (a := []) (n := 320) (Vz (ET hV)), e5 E⟩
 obtain ⟨D, f3, f2, f5, ca, ay⟩ := wT hV
 refine yG ?_
 dsimp only at D f3 f2 f5 ca ay
 refine yG ?_
 refine EF O (CA HH O (CU hV (SD (.slice a7 v.length I) v (.slice a9 q.length L) q (.slice a8 r.length J) r n _ (BW (e4 E)) (BW (e3 E)) (BW E.2.2.1) hOq hOr hL)) O E ?_)
 intro w2 d2 E
 refine yG ?_
 refine EF O (CB Uo O ?_)
 intro b3 w3 fc z3 d3 x3
 have fo : b1 < b3 := by rw [fc]; exact Bx.lt E.1
 replace E := E.below d3
 replace E := E.x x3
 obtain ⟨F, ab⟩ : ∃ n, n = w3.heap.size := ⟨_, rfl⟩
 have fp : w.heap.size ≤ F := by rw [ab]; exact (e6 E).size
 have d7 : b3 < F := by rw [ab]; exact Bx.lt E.1
 have d6 : b1 < F := by rw [ab]; exact Bx.lt E.2.1
 replace E := (E.sz (Nat.le_of_eq ab)).a (Acc.nil elB 5 F WI _) (TH _)
 have h6 : (jn 32 ([[118, 97, 114, 115]] ++ v)).length ≤ 60 := aZ D
 refine yG ?_
 refine EF O (JJ (s := (bs ([118, 97, 114, 115]))) O O ?_)
 intro b5 w5 cj z5 d5 x5
 have fn : b3 < b5 := by rw [cj]; exact Bx.lt E.2.2.1
 have et : F ≤ b5 := by rw [cj]; exact CR E.2.1
 replace E := E.below d5
 replace E := E.x x5
 have x7 := E.1
 refine yG ?_
 replace E := WJ E
 have cb : b1 < b5 := by omega
 refine yG ?_
 refine EF O (sB (S := WI) O (l := [[118, 97, 114, 115]]) O (Acc.lit1 (e := elS) (base := b5) (S := WI) x7 (Nat.le_refl _) O GH) (TH _) E (fun g hg h1 h2 => ⟨MT (fun h => by simp [Value.ownBlock] at h) GH, BX, CQ AA, CQ AA, EG AA, DR (CJ AA), DR (CJ AA), DR (CJ AA), IS AA, BX⟩) O (e7 E).1 (by have := f8; have := f6; unfold maxLen at *; simp only [List.length_cons, List.length_nil]; have := IY D; omega) (by have := IY D; simp only [List.length_cons, List.length_nil]; omega) (Nat.le_of_lt (Bx.lt x7)) ?_)
 intro v6 w6 E
 refine yG ?_
 refine EF O (BZ NG O (sD _ ([[118, 97, 114, 115]] ++ v) 32 _ (Acc.low E.1.1) (by have := aZ D; unfold UQ vaB at this; simp only [List.cons_append, List.nil_append]; omega) (by have := IY D; simp only [List.cons_append, List.nil_append, List.length_cons]; omega)) O E ?_)
 intro w8 d8 E
 refine yG ?_
 replace E := WJ E
 have fb := E.1
 replace E := WJ E
 have dn := E.2.1
 replace E := XQ E
 refine EF O (EQ (s := (jn 32 ([[118, 97, 114, 115]] ++ v)) ++ ([10])) O O O dn fb.1 (.inl O) (by simp only [List.length_cons, List.length_nil, List.length_append]; omega) (CR E.1) E ⟨BX, CQ AA, EG AA, DR (CJ AA), DR (CJ AA), DR (CJ AA), IS AA, BX⟩ (fun g hg h1 h2 => ⟨BX, CQ AA, EG AA, DR (CJ AA), DR (CJ AA), DR (CJ AA), IS AA, BX⟩) ?_)
 intro ed gv h4 E
 refine yG ?_
 refine sE E [0,1,2,3,4,5] ?_
 replace E := E.drew
 refine yG ?_
 refine wp_loop_ghost (fun mz a w' => ∃ (i : Nat) (k : Nat) (done : List (Bool × En)) (a4 : Option Addr) (cE : Nat) (a3 : Option Addr) (cN : Nat) (pr : Value) (vr : Value) (lr : Bs) (f : List Value), f = a.tmps.toList ∧ a = ⟨#[.agg #[.slice a7 v.length I, .slice a9 q.length L, .slice a8 r.length J, .int .i64 ↑n], .pointer (some ⟨b1, 0, none⟩), CE f 2, CE f 3, .pointer (some ⟨b3, 0, none⟩), .slice a4 (q.length - i) cE, .slice a3 (r.length - k) cN, CE f 7, CE f 8, CE f 9, CE f 10, .agg #[.slice a7 v.length I, .slice a9 q.length L, .slice a8 r.length J, .int .i64 ↑n], .bool true, .bool false, .slice (some ⟨b5, 0, none⟩) 1 1, .pointer (some ⟨b1, 0, none⟩), .slice a7 v.length I, v6, .string (bs (jn 32 ([[118, 97, 114, 115]] ++ v))), .string (bs ((jn 32 ([[118, 97, 114, 115]] ++ v)) ++ ([10]))), .tuple #[.int .i64 ↑(((jn 32 ([[118, 97, 114, 115]] ++ v)) ++ ([10])).length), .nilIface], .pointer (some ⟨b1, 1, none⟩), .slice a9 q.length L, .pointer (some ⟨b1, 2, none⟩), .slice a8 r.length J, CE f 25, CE f 26, CE f 27, CE f 28, CE f 29, CE f 30, CE f 31, CE f 32, CE f 33, CE f 34, CE f 35, CE f 36, CE f 37, CE f 38, CE f 39, CE f 40, CE f 41, CE f 42, CE f 43, CE f 44, CE f 45, CE f 46, CE f 47, CE f 48, CE f 49, CE f 50, CE f 51, CE f 52, CE f 53, CE f 54, CE f 55, CE f 56, CE f 57, CE f 58, CE f 59, CE f 60, CE f 61, CE f 62, CE f 63, CE f 64, CE f 65, CE f 66, CE f 67, CE f 68, CE f 69, CE f 70, CE f 71, CE f 72, CE f 73, CE f 74, CE f 75, CE f 76, CE f 77, CE f 78, CE f 79, undef, undef, undef, undef, undef, undef, undef], []⟩ ∧ Env w' [fA elB 5 F WI vr lr, fX b3 (105) ([pr, vr]), fR NY (DD w.heap.size) (.slice a4 (q.length - i) cE) (q.drop i), fR NY (DD w.heap.size) (.slice a3 (r.length - k) cN) (r.drop k), oZ F, fX b1 (48) ([.slice a7 v.length I, .slice a9 q.length L, .slice a8 r.length J, .int .i64 ↑n]), fGl, fR elS (DD w.heap.size) (.slice a7 v.length I) v, fW w] ∧ mz = (q.length + r.length - (i + k)) ∧ (i ≤ q.length ∧ k ≤ r.length ∧ PrTo ⟨v, q, r, n⟩ i k done ∧ (pr = .pointer none ∨ pr = .pointer (some ⟨b3, 0, none⟩)) ∧ lr = UQ v ++ 10 :: UL v done ∧ lr.length ≤ 100 + (i + k) * 5000)) ((q.length + r.length)) ⟨0, 0, [], a9, L, a8, J, (.pointer (some ⟨b3, 0, none⟩)), ed, (([]) ++ ((jn 32 ([[118, 97, 114, 115]] ++ v)) ++ ([10]))), _, O, O, zE, O, ⟨Nat.zero_le _, Nat.zero_le _, PrTo.zero _, .inr O, by simp [UL, UQ, vaB], by have := aZ D; unfold UQ vaB at this; simp only [List.length_append, List.length_cons, List.length_nil, List.cons_append, List.nil_append] at this ⊢; omega⟩⟩ ?_
 rintro h5 _ gu ⟨i, k, done, a4, cE, a3, cN, pr, vr, lr, f, -, rfl, E, aa, cd⟩
 obtain ⟨hb, ha, a0, ax, aw, h9⟩ := cd
 by_cases hi : i < q.length
 case neg =>
  by_cases hk : k < r.length
  case neg =>
   obtain ⟨f7, f4⟩ := a0.full hV hi hk
   have a6 := RE ca
   refine yG ?_
   refine EF O (BZ IZ O (fH n _ AA (e6 E).1) O E ?_)
   intro g0 hf E
   have ce := E.1
   refine yG ?_
   replace E := WJ E
   have di := E.1
   replace E := WJ E
   refine EF O (EQ (s := (([110, 101, 120, 116, 32]) ++ (txt ((n : Nat) : Int))) ++ ([10])) O O O di ce.1 ax (by simp only [List.length_append, List.length_cons, List.length_nil]; omega) (CR E.2.2.1) E ⟨DR (CJ AA), DR (CJ AA), BX, CQ AA, EG AA, DR (CJ AA), IS AA, BX⟩ (fun g hg h1 h2 => ⟨DR (CJ AA), DR (CJ AA), BX, CQ AA, EG AA, DR (CJ AA), IS AA, BX⟩) ?_)
   intro gw fz gx E
   refine yG ?_
   refine EF O (DB ⟨_, func51, by kernel_rfl, O⟩ O (vT (B := w.heap.size) E.2.1 E.1.1 (.inr O) AA AA (e8 E).size) O ?_)
   rintro _ dp ⟨rfl, fe⟩
   refine ⟨_, O, ?_⟩
   replace E : Env dp [fW w] := ⟨Below.trans (e8 E) fe, BX⟩
   refine yG ?_
   exact ⟨TO (a := lr ++ ((([110, 101, 120, 116, 32]) ++ (txt ((n : Nat) : Int))) ++ ([10]))) (n := 0) (by rw [f4, ← Qp f7 aw]; rfl), E.1⟩
  obtain ⟨⟨z, P⟩, ar⟩ : ∃ x, (r.drop k)[0]? = some x := ⟨_, List.getElem?_eq_getElem (by rw [List.length_drop]; omega)⟩
  obtain ⟨al, ej, _, a2, b0, bx, ⟨_, rfl, av⟩⟩ := IsR.at (e3 E).1 ar
  obtain ⟨ap, an, rfl, c9, _⟩ := av.shp
  have bv : al < _ := (e3 E).2 _ b0
  replace E := (E.r av (e3 E).2).c bx bv
  have fa : al < w.heap.size := b0
  have H := dA ar
  have U : aH ⟨v, q, r, n⟩ i k (true, z, P) := .inr ⟨rfl, H, .inl hi⟩
  obtain ⟨Q, T, R⟩ := qE hOr H
  obtain ⟨X, C⟩ := ay (z, P) (.inr (List.mem_of_getElem? H))
  by_cases p : 4000 < (DQ v P).length
  case pos =>
   refine yG ?_
   refine EF O (CB OY O ?_)
   intro c1 g6 bi fr fg ad
   have cp : (vr : Value).ownBlock ≠ some c1 := fun h => by have := (Acc.lt E.2.2.1.1 h).2; omega
   have ev : b3 < c1 := by rw [bi]; exact Bx.lt (e3 E)
   have cv : F ≤ c1 := by rw [bi]; exact CR (e6 E)
   replace E := E.below fg
   refine yG ?_
   refine sE E [0,1,2,3,4,5,6,7,8,9,10,11,12,13,14,15,16,17,18] ?_
   replace E := E.drew
   replace ad := Bx.drew ad
   refine yG ?_
   refine sE E [0,1,2,3,4,5,6,7] ?_
   replace E := E.drew
   replace ad := Bx.drew ad
   refine yG ?_
   refine dI (j := 0) O O O a2 O AA ?_
   refine SW O O O O O (fun w Y => CD OY O O ((Y.1).1) O) ?_
   obtain ⟨ck, b9⟩ : ∃ a, Bc a3 (1 * 2) (decide (cN = 1)) = a := ⟨_, rfl⟩
   refine yG ?_
   refine SW (v := .slice ck ((r.length - k) - 1) (cN - 1)) O O O O O (fun w Y => ID (i := 1) O underlying46 Z O O O (by first | omega | (rw [List.length_drop]; omega)) b9) ?_
   refine yG ?_
   refine JM (o := ⟨none, _, _, _, _, _⟩) O O O O (BY OY O O O ad O O (CG O (CG O ED)) ?_)
   intro dr el da
   replace E := oY E ad el da (ds := [.int .i64 ↑z, .slice ap P.length an])
   refine ⟨E.2, ?_⟩
   refine yG ?_
   replace E := E.r (e := NY) (S := DD w.heap.size) (by have u := NB (e6 E).1 (by first | omega | (rw [List.length_drop]; omega)) b9; rw [List.drop_drop] at u; exact u) ((e6 E).2)
   refine yG ?_
   refine EF O (BZ EH O ((by have t := PK _ P _ v dr (BW (e3 E)) (BW (QQ E)) Q T R hL (QM E).1; rw [bW D C p] at t; exact t)) O E ?_)
   intro g5 hl E
   refine yG ?_
   exact ⟨TO (a := []) (n := 2) (a0.long hV U p), QP E⟩
  refine yG ?_
  refine EF O (CB OY O ?_)
  intro c0 g4 bh fq ff ac
  have b2 : (vr : Value).ownBlock ≠ some c0 := fun h => by have := (Acc.lt E.2.2.1.1 h).2; omega
  have eu : b3 < c0 := by rw [bh]; exact Bx.lt (e3 E)
  have cu : F ≤ c0 := by rw [bh]; exact CR (e6 E)
  replace E := E.below ff
  refine yG ?_
  refine sE E [0,1,2,3,4,5,6,7,8,9,10,11,12,13,14,15,16,17,18] ?_
  replace E := E.drew
  replace ac := Bx.drew ac
  refine yG ?_
  refine sE E [0,1,2,3,4,5,6,7] ?_
  replace E := E.drew
  replace ac := Bx.drew ac
  refine yG ?_
  refine dI (j := 0) O O O a2 O AA ?_
  refine SW O O O O O (fun w Y => CD OY O O ((Y.1).1) O) ?_
  obtain ⟨bp, b8⟩ : ∃ a, Bc a3 (1 * 2) (decide (cN = 1)) = a := ⟨_, rfl⟩
  refine yG ?_
  refine SW (v := .slice bp ((r.length - k) - 1) (cN - 1)) O O O O O (fun w Y => ID (i := 1) O underlying46 Z O O O (by first | omega | (rw [List.length_drop]; omega)) b8) ?_
  refine yG ?_
  refine JM (o := ⟨none, _, _, _, _, _⟩) O O O O (BY OY O O O ac O O (CG O (CG O ED)) ?_)
  intro dq ek d9
  replace E := oY E ac ek d9 (ds := [.int .i64 ↑z, .slice ap P.length an])
  refine ⟨E.2, ?_⟩
  refine yG ?_
  replace E := E.r (e := NY) (S := DD w.heap.size) (by have u := NB (e6 E).1 (by first | omega | (rw [List.length_drop]; omega)) b8; rw [List.drop_drop] at u; exact u) ((e6 E).2)
  refine yG ?_
  refine EF O (BZ EH O ((by have t := PK _ P _ v dq (BW (e3 E)) (BW (QQ E)) Q T R hL (QM E).1; rw [YT D C p] at t; exact t)) O E ?_)
  intro g3 hj E
  have a6 := RE X
  refine yG ?_
  dsimp only at a6
  refine yG ?_
  refine EF O (BZ IZ O (fH z _ AA (QM E).1) O E ?_)
  intro g2 hh E
  have cf := e4 E
  refine yG ?_
  replace E := pC E
  have dj := e4 E
  replace E := pC E
  have ee := Bx.lt E.2.1
  refine EF O (EQ (s := (((txt ((z : Nat) : Int)) ++ ([58, 32])) ++ (DQ v P)) ++ ([32, 33, 61, 32, 48, 10])) O O O dj cf.1 ax (by simp only [List.length_append, List.length_cons, List.length_nil]; omega) (CR (e6 E)) E ⟨DR (CJ AA), CQ AA, SI AA, DR (CJ AA), DR (CJ AA), DR (CJ AA), BX, CQ AA, EG AA, DR (CJ AA), IS AA, BX⟩ (fun g hg h1 h2 => ⟨DR (CJ AA), CQ (fun e => b2 (e ▸ hg)), SI AA, DR (CJ AA), DR (CJ AA), DR (CJ AA), BX, CQ AA, EG AA, DR (CJ AA), IS AA, BX⟩) ?_)
  intro dz g1 gy E
  refine yG ?_
  exact ⟨_, (by rw [aa]; omega), i, (k + 1), (done ++ [(true, z, P)]), a4, cE, bp, (cN - 1), (.pointer (some ⟨b3, 0, none⟩)), dz, (lr ++ ((((txt ((z : Nat) : Int)) ++ ([58, 32])) ++ (DQ v P)) ++ ([32, 33, 61, 32, 48, 10]))), _, O, O, zE, O, ⟨by omega, by omega, a0.step U p, .inr O, iN (e := (true, z, P)) aw (by unfold QC mR; simp [colB, oE]), by (try simp only [List.length_append, List.length_cons, List.length_nil]); omega⟩⟩
 by_cases hk : k < r.length
 case neg =>
  obtain ⟨⟨y, N⟩, aq⟩ : ∃ x, (q.drop i)[0]? = some x := ⟨_, List.getElem?_eq_getElem (by rw [List.length_drop]; omega)⟩
  obtain ⟨ak, ei, _, a1, az, bw, ⟨_, rfl, au⟩⟩ := IsR.at E.2.2.1.1 aq
  obtain ⟨ao, am, rfl, c8, _⟩ := au.shp
  have bu : ak < _ := E.2.2.1.2 _ az
  replace E := (E.r au E.2.2.1.2).c bw bu
  have f9 : ak < w.heap.size := az
  have G := dA aq
  have U : aH ⟨v, q, r, n⟩ i k (false, y, N) := .inl ⟨rfl, G, .inl hk⟩
  obtain ⟨Q, T, R⟩ := qE hOq G
  obtain ⟨X, C⟩ := ay (y, N) (.inl (List.mem_of_getElem? G))
  by_cases p : 4000 < (DQ v N).length
  case pos =>
   refine yG ?_
   refine EF O (CB OY O ?_)
   intro c3 gc bk ft fi af
   have cq : (vr : Value).ownBlock ≠ some c3 := fun h => by have := (Acc.lt E.2.2.1.1 h).2; omega
   have ex : b3 < c3 := by rw [bk]; exact Bx.lt (e3 E)
   have cx : F ≤ c3 := by rw [bk]; exact CR (e6 E)
   replace E := E.below fi
   refine yG ?_
   refine sE E [0,1,2,3,4,5,6,7,8,9,10,11,12,13,14,15,16,17,18] ?_
   replace E := E.drew
   replace af := Bx.drew af
   refine yG ?_
   refine sE E [0,1,2,3,4,5,6,7] ?_
   replace E := E.drew
   replace af := Bx.drew af
   refine yG ?_
   refine dI (j := 0) O O O a1 O AA ?_
   refine SW O O O O O (fun w Y => CD OY O O ((Y.1).1) O) ?_
   obtain ⟨cm, bb⟩ : ∃ a, Bc a4 (1 * 2) (decide (cE = 1)) = a := ⟨_, rfl⟩
   refine yG ?_
   refine SW (v := .slice cm ((q.length - i) - 1) (cE - 1)) O O O O O (fun w Y => ID (i := 1) O underlying46 Z O O O (by first | omega | (rw [List.length_drop]; omega)) bb) ?_
   refine yG ?_
   refine JM (o := ⟨none, _, _, _, _, _⟩) O O O O (BY OY O O O af O O (CG O (CG O ED)) ?_)
   intro du en dc
   replace E := oY E af en dc (ds := [.int .i64 ↑y, .slice ao N.length am])
   refine ⟨E.2, ?_⟩
   refine yG ?_
   replace E := E.r (e := NY) (S := DD w.heap.size) (by have u := NB (e5 E).1 (by first | omega | (rw [List.length_drop]; omega)) bb; rw [List.drop_drop] at u; exact u) ((e5 E).2)
   refine yG ?_
   refine EF O (BZ EH O ((by have t := PK _ N _ v du (BW (e3 E)) (BW (QQ E)) Q T R hL (QM E).1; rw [bW D C p] at t; exact t)) O E ?_)
   intro gb ho E
   refine yG ?_
   exact ⟨TO (a := []) (n := 2) (a0.long hV U p), QP E⟩
  refine yG ?_
  refine EF O (CB OY O ?_)
  intro c2 ga bj fs fh ae
  have b4 : (vr : Value).ownBlock ≠ some c2 := fun h => by have := (Acc.lt E.2.2.1.1 h).2; omega
  have ew : b3 < c2 := by rw [bj]; exact Bx.lt (e3 E)
  have cw : F ≤ c2 := by rw [bj]; exact CR (e6 E)
  replace E := E.below fh
  refine yG ?_
  refine sE E [0,1,2,3,4,5,6,7,8,9,10,11,12,13,14,15,16,17,18] ?_
  replace E := E.drew
  replace ae := Bx.drew ae
  refine yG ?_
  refine sE E [0,1,2,3,4,5,6,7] ?_
  replace E := E.drew
  replace ae := Bx.drew ae
  refine yG ?_
  refine dI (j := 0) O O O a1 O AA ?_
  refine SW O O O O O (fun w Y => CD OY O O ((Y.1).1) O) ?_
  obtain ⟨bq, ba⟩ : ∃ a, Bc a4 (1 * 2) (decide (cE = 1)) = a := ⟨_, rfl⟩
  refine yG ?_
  refine SW (v := .slice bq ((q.length - i) - 1) (cE - 1)) O O O O O (fun w Y => ID (i := 1) O underlying46 Z O O O (by first | omega | (rw [List.length_drop]; omega)) ba) ?_
  refine yG ?_
  refine JM (o := ⟨none, _, _, _, _, _⟩) O O O O (BY OY O O O ae O O (CG O (CG O ED)) ?_)
  intro dt em db
  replace E := oY E ae em db (ds := [.int .i64 ↑y, .slice ao N.length am])
  refine ⟨E.2, ?_⟩
  refine yG ?_
  replace E := E.r (e := NY) (S := DD w.heap.size) (by have u := NB (e5 E).1 (by first | omega | (rw [List.length_drop]; omega)) ba; rw [List.drop_drop] at u; exact u) ((e5 E).2)
  refine yG ?_
  refine EF O (BZ EH O ((by have t := PK _ N _ v dt (BW (e3 E)) (BW (QQ E)) Q T R hL (QM E).1; rw [YT D C p] at t; exact t)) O E ?_)
  intro g9 hn E
  have a6 := RE X
  refine yG ?_
  dsimp only at a6
  refine yG ?_
  refine EF O (BZ IZ O (fH y _ AA (QM E).1) O E ?_)
  intro g8 hm E
  have cg := e4 E
  refine yG ?_
  replace E := pC E
  have dk := e4 E
  replace E := pC E
  have ef := Bx.lt E.2.1
  refine EF O (EQ (s := (((txt ((y : Nat) : Int)) ++ ([58, 32])) ++ (DQ v N)) ++ ([32, 61, 32, 48, 10])) O O O dk cg.1 ax (by simp only [List.length_append, List.length_cons, List.length_nil]; omega) (CR (e6 E)) E ⟨DR (CJ AA), CQ AA, SI AA, DR (CJ AA), DR (CJ AA), DR (CJ AA), BX, CQ AA, EG AA, DR (CJ AA), IS AA, BX⟩ (fun g hg h1 h2 => ⟨DR (CJ AA), CQ (fun e => b4 (e ▸ hg)), SI AA, DR (CJ AA), DR (CJ AA), DR (CJ AA), BX, CQ AA, EG AA, DR (CJ AA), IS AA, BX⟩) ?_)
  intro ea g7 gz E
  refine yG ?_
  exact ⟨_, (by rw [aa]; omega), (i + 1), k, (done ++ [(false, y, N)]), bq, (cE - 1), a3, cN, (.pointer (some ⟨b3, 0, none⟩)), ea, (lr ++ ((((txt ((y : Nat) : Int)) ++ ([58, 32])) ++ (DQ v N)) ++ ([32, 61, 32, 48, 10]))), _, O, O, zE, O, ⟨by omega, by omega, a0.step U p, .inr O, iN (e := (false, y, N)) aw (by unfold QC mR; simp [colB, rH]), by (try simp only [List.length_append, List.length_cons, List.length_nil]); omega⟩⟩
 obtain ⟨⟨y, N⟩, aq⟩ : ∃ x, (q.drop i)[0]? = some x := ⟨_, List.getElem?_eq_getElem (by rw [List.length_drop]; omega)⟩
 obtain ⟨ak, ei, _, a1, az, bw, ⟨_, rfl, au⟩⟩ := IsR.at E.2.2.1.1 aq
 obtain ⟨ao, am, rfl, c8, _⟩ := au.shp
 have bu : ak < _ := E.2.2.1.2 _ az
 replace E := (E.r au E.2.2.1.2).c bw bu
 have f9 : ak < w.heap.size := az
 have G := dA aq
 obtain ⟨⟨z, P⟩, ar⟩ : ∃ x, (r.drop k)[0]? = some x := ⟨_, List.getElem?_eq_getElem (by rw [List.length_drop]; omega)⟩
 obtain ⟨al, ej, _, a2, b0, bx, ⟨_, rfl, av⟩⟩ := IsR.at (e5 E).1 ar
 obtain ⟨ap, an, rfl, c9, _⟩ := av.shp
 have bv : al < _ := (e5 E).2 _ b0
 replace E := (E.r av (e5 E).2).c bx bv
 have fa : al < w.heap.size := b0
 have H := dA ar
 by_cases cc : y < z
 case pos =>
  have U : aH ⟨v, q, r, n⟩ i k (false, y, N) := .inl ⟨rfl, G, .inr ⟨_, H, cc⟩⟩
  obtain ⟨Q, T, R⟩ := qE hOq G
  obtain ⟨X, C⟩ := ay (y, N) (.inl (List.mem_of_getElem? G))
  by_cases p : 4000 < (DQ v N).length
  case pos =>
   refine yG ?_
   refine EF O (CB OY O ?_)
   intro c7 gs bo fx fm aj
   have ct : (vr : Value).ownBlock ≠ some c7 := fun h => by have := (Acc.lt (e4 E).1 h).2; omega
   have f1 : b3 < c7 := by rw [bo]; exact Bx.lt (e5 E)
   have d4 : F ≤ c7 := by rw [bo]; exact CR (e8 E)
   replace E := E.below fm
   refine yG ?_
   refine sE E [0,1,2,3,4,5,6,7,8,9,10,11,12,13,14,15,16,17,18] ?_
   replace E := E.drew
   replace aj := Bx.drew aj
   refine yG ?_
   refine dI (j := 0) O O O a1 O AA ?_
   refine yG ?_
   refine dI (j := 0) O O O a2 O AA ?_
   refine yG ?_
   refine sE E [0,1,2,3,4,5,6,7] ?_
   replace E := E.drew
   replace aj := Bx.drew aj
   refine yG ?_
   refine dI (j := 0) O O O a1 O AA ?_
   refine SW O O O O O (fun w Y => CD OY O O ((Y.2.2.1).1) O) ?_
   obtain ⟨co, bg⟩ : ∃ a, Bc a4 (1 * 2) (decide (cE = 1)) = a := ⟨_, rfl⟩
   refine yG ?_
   refine SW (v := .slice co ((q.length - i) - 1) (cE - 1)) O O O O O (fun w Y => ID (i := 1) O underlying46 Z O O O (by first | omega | (rw [List.length_drop]; omega)) bg) ?_
   refine yG ?_
   refine JM (o := ⟨none, _, _, _, _, _⟩) O O O O (BY OY O O O aj O O (CG O (CG O ED)) ?_)
   intro dy es dh
   replace E := oY E aj es dh (ds := [.int .i64 ↑y, .slice ao N.length am])
   refine ⟨E.2, ?_⟩
   refine yG ?_
   replace E := E.r (e := NY) (S := DD w.heap.size) (by have u := NB (e7 E).1 (by first | omega | (rw [List.length_drop]; omega)) bg; rw [List.drop_drop] at u; exact u) ((e7 E).2)
   refine yG ?_
   refine EF O (BZ EH O ((by have t := PK _ N _ v dy (BW (e5 E)) (BW (TI E)) Q T R hL (QP E).1; rw [bW D C p] at t; exact t)) O E ?_)
   intro gq hu E
   refine yG ?_
   exact ⟨TO (a := []) (n := 2) (a0.long hV U p), iU E⟩
  refine yG ?_
  refine EF O (CB OY O ?_)
  intro c6 gp bn fw fl ai
  have b7 : (vr : Value).ownBlock ≠ some c6 := fun h => by have := (Acc.lt (e4 E).1 h).2; omega
  have f0 : b3 < c6 := by rw [bn]; exact Bx.lt (e5 E)
  have d0 : F ≤ c6 := by rw [bn]; exact CR (e8 E)
  replace E := E.below fl
  refine yG ?_
  refine sE E [0,1,2,3,4,5,6,7,8,9,10,11,12,13,14,15,16,17,18] ?_
  replace E := E.drew
  replace ai := Bx.drew ai
  refine yG ?_
  refine dI (j := 0) O O O a1 O AA ?_
  refine yG ?_
  refine dI (j := 0) O O O a2 O AA ?_
  refine yG ?_
  refine sE E [0,1,2,3,4,5,6,7] ?_
  replace E := E.drew
  replace ai := Bx.drew ai
  refine yG ?_
  refine dI (j := 0) O O O a1 O AA ?_
  refine SW O O O O O (fun w Y => CD OY O O ((Y.2.2.1).1) O) ?_
  obtain ⟨bt, bf⟩ : ∃ a, Bc a4 (1 * 2) (decide (cE = 1)) = a := ⟨_, rfl⟩
  refine yG ?_
  refine SW (v := .slice bt ((q.length - i) - 1) (cE - 1)) O O O O O (fun w Y => ID (i := 1) O underlying46 Z O O O (by first | omega | (rw [List.length_drop]; omega)) bf) ?_
  refine yG ?_
  refine JM (o := ⟨none, _, _, _, _, _⟩) O O O O (BY OY O O O ai O O (CG O (CG O ED)) ?_)
  intro dx er dg
  replace E := oY E ai er dg (ds := [.int .i64 ↑y, .slice ao N.length am])
  refine ⟨E.2, ?_⟩
  refine yG ?_
  replace E := E.r (e := NY) (S := DD w.heap.size) (by have u := NB (e7 E).1 (by first | omega | (rw [List.length_drop]; omega)) bf; rw [List.drop_drop] at u; exact u) ((e7 E).2)
  refine yG ?_
  refine EF O (BZ EH O ((by have t := PK _ N _ v dx (BW (e5 E)) (BW (TI E)) Q T R hL (QP E).1; rw [YT D C p] at t; exact t)) O E ?_)
  intro gn ht E
  have a6 := RE X
  refine yG ?_
  dsimp only at a6
  refine yG ?_
  refine EF O (BZ IZ O (fH y _ AA (QP E).1) O E ?_)
  intro gm hs E
  have ci := e6 E
  refine yG ?_
  replace E := uY E
  have dm := e6 E
  replace E := uY E
  have eh := Bx.lt E.2.1
  refine EF O (EQ (s := (((txt ((y : Nat) : Int)) ++ ([58, 32])) ++ (DQ v N)) ++ ([32, 61, 32, 48, 10])) O O O dm ci.1 ax (by simp only [List.length_append, List.length_cons, List.length_nil]; omega) (CR (e8 E)) E ⟨DR (CJ AA), CQ AA, SI AA, DR (CJ AA), SI AA, DR (CJ AA), DR (CJ AA), DR (CJ AA), BX, CQ AA, EG AA, DR (CJ AA), IS AA, BX⟩ (fun g hg h1 h2 => ⟨DR (CJ AA), CQ (fun e => b7 (e ▸ hg)), SI AA, DR (CJ AA), SI AA, DR (CJ AA), DR (CJ AA), DR (CJ AA), BX, CQ AA, EG AA, DR (CJ AA), IS AA, BX⟩) ?_)
  intro ec gk h3 E
  refine yG ?_
  exact ⟨_, (by rw [aa]; omega), (i + 1), k, (done ++ [(false, y, N)]), bt, (cE - 1), a3, cN, (.pointer (some ⟨b3, 0, none⟩)), ec, (lr ++ ((((txt ((y : Nat) : Int)) ++ ([58, 32])) ++ (DQ v N)) ++ ([32, 61, 32, 48, 10]))), _, O, O, zE, O, ⟨by omega, by omega, a0.step U p, .inr O, iN (e := (false, y, N)) aw (by unfold QC mR; simp [colB, rH]), by (try simp only [List.length_append, List.length_cons, List.length_nil]); omega⟩⟩
 have U : aH ⟨v, q, r, n⟩ i k (true, z, P) := .inr ⟨rfl, H, .inr ⟨_, G, cc⟩⟩
 obtain ⟨Q, T, R⟩ := qE hOr H
 obtain ⟨X, C⟩ := ay (z, P) (.inr (List.mem_of_getElem? H))
 by_cases p : 4000 < (DQ v P).length
 case pos =>
  refine yG ?_
  refine EF O (CB OY O ?_)
  intro c5 gj bm fv fk ah
  have cr : (vr : Value).ownBlock ≠ some c5 := fun h => by have := (Acc.lt (e4 E).1 h).2; omega
  have ez : b3 < c5 := by rw [bm]; exact Bx.lt (e5 E)
  have cz : F ≤ c5 := by rw [bm]; exact CR (e8 E)
  replace E := E.below fk
  refine yG ?_
  refine sE E [0,1,2,3,4,5,6,7,8,9,10,11,12,13,14,15,16,17,18] ?_
  replace E := E.drew
  replace ah := Bx.drew ah
  refine yG ?_
  refine dI (j := 0) O O O a1 O AA ?_
  refine yG ?_
  refine dI (j := 0) O O O a2 O AA ?_
  refine yG ?_
  refine sE E [0,1,2,3,4,5,6,7] ?_
  replace E := E.drew
  replace ah := Bx.drew ah
  refine yG ?_
  refine dI (j := 0) O O O a2 O AA ?_
  refine SW O O O O O (fun w Y => CD OY O O ((Y.1).1) O) ?_
  obtain ⟨cn, bd⟩ : ∃ a, Bc a3 (1 * 2) (decide (cN = 1)) = a := ⟨_, rfl⟩
  refine yG ?_
  refine SW (v := .slice cn ((r.length - k) - 1) (cN - 1)) O O O O O (fun w Y => ID (i := 1) O underlying46 Z O O O (by first | omega | (rw [List.length_drop]; omega)) bd) ?_
  refine yG ?_
  refine JM (o := ⟨none, _, _, _, _, _⟩) O O O O (BY OY O O O ah O O (CG O (CG O ED)) ?_)
  intro dw ep de
  replace E := oY E ah ep de (ds := [.int .i64 ↑z, .slice ap P.length an])
  refine ⟨E.2, ?_⟩
  refine yG ?_
  replace E := E.r (e := NY) (S := DD w.heap.size) (by have u := NB (e8 E).1 (by first | omega | (rw [List.length_drop]; omega)) bd; rw [List.drop_drop] at u; exact u) ((e8 E).2)
  refine yG ?_
  refine EF O (BZ EH O ((by have t := PK _ P _ v dw (BW (e3 E)) (BW (TI E)) Q T R hL (QP E).1; rw [bW D C p] at t; exact t)) O E ?_)
  intro gi hr E
  refine yG ?_
  exact ⟨TO (a := []) (n := 2) (a0.long hV U p), iU E⟩
 refine yG ?_
 refine EF O (CB OY O ?_)
 intro c4 gh bl fu fj ag
 have b6 : (vr : Value).ownBlock ≠ some c4 := fun h => by have := (Acc.lt (e4 E).1 h).2; omega
 have ey : b3 < c4 := by rw [bl]; exact Bx.lt (e5 E)
 have cy : F ≤ c4 := by rw [bl]; exact CR (e8 E)
 replace E := E.below fj
 refine yG ?_
 refine sE E [0,1,2,3,4,5,6,7,8,9,10,11,12,13,14,15,16,17,18] ?_
 replace E := E.drew
 replace ag := Bx.drew ag
 refine yG ?_
 refine dI (j := 0) O O O a1 O AA ?_
 refine yG ?_
 refine dI (j := 0) O O O a2 O AA ?_
 refine yG ?_
 refine sE E [0,1,2,3,4,5,6,7] ?_
 replace E := E.drew
 replace ag := Bx.drew ag
 refine yG ?_
 refine dI (j := 0) O O O a2 O AA ?_
 refine SW O O O O O (fun w Y => CD OY O O ((Y.1).1) O) ?_
 obtain ⟨br, bc⟩ : ∃ a, Bc a3 (1 * 2) (decide (cN = 1)) = a := ⟨_, rfl⟩
 refine yG ?_
 refine SW (v := .slice br ((r.length - k) - 1) (cN - 1)) O O O O O (fun w Y => ID (i := 1) O underlying46 Z O O O (by first | omega | (rw [List.length_drop]; omega)) bc) ?_
 refine yG ?_
 refine JM (o := ⟨none, _, _, _, _, _⟩) O O O O (BY OY O O O ag O O (CG O (CG O ED)) ?_)
 intro dv eo dd
 replace E := oY E ag eo dd (ds := [.int .i64 ↑z, .slice ap P.length an])
 refine ⟨E.2, ?_⟩
 refine yG ?_
 replace E := E.r (e := NY) (S := DD w.heap.size) (by have u := NB (e8 E).1 (by first | omega | (rw [List.length_drop]; omega)) bc; rw [List.drop_drop] at u; exact u) ((e8 E).2)
 refine yG ?_
 refine EF O (BZ EH O ((by have t := PK _ P _ v dv (BW (e3 E)) (BW (TI E)) Q T R hL (QP E).1; rw [YT D C p] at t; exact t)) O E ?_)
 intro gg hq E
 have a6 := RE X
 refine yG ?_
 dsimp only at a6
 refine yG ?_
 refine EF O (BZ IZ O (fH z _ AA (QP E).1) O E ?_)
 intro gf hp E
 have ch := e6 E
 refine yG ?_
 replace E := uY E
 have dl := e6 E
 replace E := uY E
 have eg := Bx.lt E.2.1
 refine EF O (EQ (s := (((txt ((z : Nat) : Int)) ++ ([58, 32])) ++ (DQ v P)) ++ ([32, 33, 61, 32, 48, 10])) O O O dl ch.1 ax (by simp only [List.length_append, List.length_cons, List.length_nil]; omega) (CR (e8 E)) E ⟨DR (CJ AA), CQ AA, SI AA, DR (CJ AA), SI AA, DR (CJ AA), DR (CJ AA), DR (CJ AA), BX, CQ AA, EG AA, DR (CJ AA), IS AA, BX⟩ (fun g hg h1 h2 => ⟨DR (CJ AA), CQ (fun e => b6 (e ▸ hg)), SI AA, DR (CJ AA), SI AA, DR (CJ AA), DR (CJ AA), DR (CJ AA), BX, CQ AA, EG AA, DR (CJ AA), IS AA, BX⟩) ?_)
 intro eb ge h0 E
 refine yG ?_
 exact ⟨_, (by rw [aa]; omega), i, (k + 1), (done ++ [(true, z, P)]), a4, cE, br, (cN - 1), (.pointer (some ⟨b3, 0, none⟩)), eb, (lr ++ ((((txt ((z : Nat) : Int)) ++ ([58, 32])) ++ (DQ v P)) ++ ([32, 33, 61, 32, 48, 10]))), _, O, O, zE, O, ⟨by omega, by omega, a0.step U p, .inr O, iN (e := (true, z, P)) aw (by unfold QC mR; simp [colB, oE]), by (try simp only [List.length_append, List.length_cons, List.length_nil]); omega⟩⟩
end Go.Proofs.YtmppigbbkjepiaaGreatDoor
