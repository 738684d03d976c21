/- Helping facts of Print; no other conditions. -/
import Derived.Test.YtmppigbbkjepiaaGreatDoorPsys
namespace Go.Proofs.YtmppigbbkjepiaaGreatDoor
open Go.Proofs.Tryz
open Go.RowKit W
variable {i : Nat} {p : Prop}
theorem YkK (h : p := by rw [List.length_drop]; omega) : p := h
theorem Ylw (h : p := by unfold PW pM; simp [colB, tZ, qX]) : p := h
theorem Yu2 (h : p := by simp only [List.length_append, List.length_cons, List.length_nil]; omega) : p := h
theorem YSX (h : p := by first | omega | (rw [List.length_drop]; omega)) : p := h
theorem Zcf (h : p := by
 intro g5 hl E
 refine yG ?_
 exact ⟨NI (a := []) (n := 2) (a0.long hV T f), UH E⟩
 ) : p := h
theorem ZQ8 (h : p := by
 intro gq hu E
 refine yG ?_
 exact ⟨NI (a := []) (n := 2) (a0.long hV T f), iI E⟩
 ) : p := h
theorem Tn {s : Sy} {done : List (Bool × En)} {lr : Bs} (h : done = TH s.eqs s.neqs) (hl : lr = RP s.vars ++ 10 :: RN s.vars done) : (lr ++ (nxB ++ txt ((s.next : Nat) : Int) ++ [10])) = mA s := by
 subst hl h; rw [sF]; unfold dV; simp
theorem kT {vars : List Bs} {done : List (Bool × En)} {lr : Bs} {e : Bool × En} (hl : lr = RP vars ++ 10 :: RN vars done) {b : Bs} (hb : b = PW vars e ++ [10]) : lr ++ b = RP vars ++ 10 :: RN vars (done ++ [e]) := by
 subst hl hb; rw [Co]; simp
theorem sZ {l : List En} (h : PR l) {e : En} (hx : l[i]? = some e) : ED e.2 /\ (∀ t ∈ e.2, FitQ t.1 1000000) /\ e.2.length <= 1000000 := h e (List.mem_of_getElem? hx)
theorem fH {α : Type} {l : List α} {x : α} (h : (l.drop i)[0]? = some x) : l[i]? = some x := by rw [List.getElem?_drop, Nat.add_zero] at h; exact h
theorem RZ {l : List Bs} {p : List Tm} (h : DL 4 l = true) (h2 : LH l.length p = true) (h3 : ¬ 4000 < (DS l p).length) : QT l p = (DS l p, 0) := mU (eO h) (fits_iff.1 h2).1 h3
theorem dO {l : List Bs} {p : List Tm} (h : DL 4 l = true) (h2 : LH l.length p = true) (h3 : 4000 < (DS l p).length) : QT l p = ([], 2) := bP (eO h) (fits_iff.1 h2).1 h3
set_option maxRecDepth 100000 in
set_option maxHeartbeats 8000000 in
theorem oU (vv : Value) (v : List Bs) (vq : Value) (q : List (Nat × List Tm)) (vr : Value) (r : List (Nat × List Tm)) (n : Nat) (w : World) (hRv : IsR elS (CX w.heap.size) w vv v) (hRq : IsR MS (CX w.heap.size) w vq q) (hRr : IsR MS (CX w.heap.size) w vr r) (hOq : PR q) (hOr : PR r) (hL : v.length <= 1000000) (hG : Glob w) :
 Calls prog 17 #[.agg #[vv, vq, vr, .int .i64 ↑n]] w (FI w (.tuple #[.string (bs (MH ⟨v, q, r, n⟩).1), .int .i64 ↑((MH ⟨v, q, r, n⟩).2)])) := by
 have E := Env.start w
 obtain ⟨a7, H, rfl, f8, f6⟩ := hRv.shp
 replace E := E.r hRv (DF _)
 obtain ⟨a9, J, rfl, p, h8⟩ := hRq.shp
 replace E := E.r hRq (DF _)
 obtain ⟨a8, I, rfl, hc, h7⟩ := hRr.shp
 replace E := E.r hRr (DF _)
 have hd := hG.two
 replace E := E.gl hG
 go_enter func17, ntmps17
 refine yG ?_
 refine EF O (CI (cs := [.slice a7 v.length H, .slice a9 q.length J, .slice a8 r.length I, .int .i64 ↑n]) O O ?_)
 intro b1 w1 fd z1 d1 x1
 have l1 : w.heap.size <= b1 := by rw [fd]; exact (e4 E).size
 replace E := E.below d1
 replace E := E.x x1
 by_cases hV : GH ⟨v, q, r, n⟩ = true
 case neg =>
  refine yG ?_
  refine EF O (CA IH O (CU (DE hV) (TR (.slice a7 v.length H) v (.slice a9 q.length J) q (.slice a8 r.length I) r n _ (BW (e4 E)) (BW (e3 E)) (BW E.2.2.1) hOq hOr hL)) O E ?_)
  intro fy he E
  refine yG ?_
  exact ⟨NI (a := []) (n := 320) (Ni (DE hV)), e5 E⟩
 obtain ⟨C, f3, f2, f5, ca, ay⟩ := Aj hV
 refine yG ?_
 dsimp only at C f3 f2 f5 ca ay
 refine yG ?_
 refine EF O (CA IH O (CU hV (TR (.slice a7 v.length H) v (.slice a9 q.length J) q (.slice a8 r.length I) r n _ (BW (e4 E)) (BW (e3 E)) (BW E.2.2.1) hOq hOr hL)) O E ?_)
 intro w2 d2 E
 refine yG ?_
 refine EF O (CB Xs O ?_)
 intro b3 w3 fc z3 d3 x3
 have fo : b1 < b3 := by rw [fc]; exact Bx.lt E.1
 replace E := E.below d3
 replace E := E.x x3
 obtain ⟨D, ab⟩ : ∃ n, n = w3.heap.size := ⟨_, rfl⟩
 have fp : w.heap.size <= D := by rw [ab]; exact (e6 E).size
 have d7 : b3 < D := by rw [ab]; exact Bx.lt E.1
 have d6 : b1 < D := by rw [ab]; exact Bx.lt E.2.1
 replace E := (E.sz (Nat.le_of_eq ab)).a (Acc.nil elB 5 D VH _) (QL _)
 have h6 : (jn 32 ([[118, 97, 114, 115]] ++ v)).length <= 60 := XT C
 refine yG ?_
 refine EF O (JX (s := (bs ([118, 97, 114, 115]))) O O ?_)
 intro b5 w5 cj z5 d5 x5
 have fn : b3 < b5 := by rw [cj]; exact Bx.lt E.2.2.1
 have et : D <= b5 := by rw [cj]; exact CR E.2.1
 replace E := E.below d5
 replace E := E.x x5
 have x7 := E.1
 refine yG ?_
 replace E := VI E
 have cb : b1 < b5 := by omega
 refine yG ?_
 refine EF O (gJ (S := VH) O (l := [[118, 97, 114, 115]]) O (Acc.lit1 (e := elS) (base := b5) (S := VH) x7 (Nat.le_refl _) O GI) (QL _) E (fun g hg h1 h2 => ⟨NK (fun h => by simp [Value.ownBlock] at h) GI, BX, CT AA, CT AA, EP AA, DP (CJ AA), DP (CJ AA), DP (CJ AA), IK AA, BX⟩) O (e7 E).1 (by have := f8; have := f6; unfold maxLen at *; simp only [List.length_cons, List.length_nil]; have := GR C; omega) (by have := GR C; simp only [List.length_cons, List.length_nil]; omega) (Nat.le_of_lt (Bx.lt x7)) ?_)
 intro v6 w6 E
 refine yG ?_
 refine EF O (BZ NW O (uY _ ([[118, 97, 114, 115]] ++ v) 32 _ (Acc.low E.1.1) (by have := XT C; unfold RP vaB at this; simp only [List.cons_append, List.nil_append]; omega) (by have := GR C; simp only [List.cons_append, List.nil_append, List.length_cons]; omega)) O E ?_)
 intro w8 d8 E
 refine yG ?_
 replace E := VI E
 have fb := E.1
 replace E := VI E
 have dn := E.2.1
 replace E := XS E
 refine EF O (FB (s := (jn 32 ([[118, 97, 114, 115]] ++ v)) ++ ([10])) O O O dn fb.1 (.inl O) (by simp only [List.length_cons, List.length_nil, List.length_append]; omega) (CR E.1) E ⟨BX, CT AA, EP AA, DP (CJ AA), DP (CJ AA), DP (CJ AA), IK AA, BX⟩ (fun g hg h1 h2 => ⟨BX, CT AA, EP AA, DP (CJ AA), DP (CJ AA), DP (CJ AA), IK AA, BX⟩) ?_)
 intro ed gv h4 E
 refine yG ?_
 refine sE E [0,1,2,3,4,5] ?_
 replace E := E.drew
 refine yG ?_
 refine wp_loop_ghost (fun mz a w' => ∃ (i : Nat) (k : Nat) (done : List (Bool × En)) (a4 : Option Addr) (cE : Nat) (a3 : Option Addr) (cN : Nat) (pr : Value) (vr : Value) (lr : Bs) (Y : List Value), Y = a.tmps.toList /\ a = ⟨(.agg #[.slice a7 v.length H, .slice a9 q.length J, .slice a8 r.length I, .int .i64 ↑n] :: .pointer (some ⟨b1, 0, none⟩) :: (CF Y 2) :: (CF Y 3) :: .pointer (some ⟨b3, 0, none⟩) :: .slice a4 (q.length - i) cE :: .slice a3 (r.length - k) cN :: gr Y 7 4 (.agg #[.slice a7 v.length H, .slice a9 q.length J, .slice a8 r.length I, .int .i64 ↑n] :: .bool true :: .bool false :: .slice (some ⟨b5, 0, none⟩) 1 1 :: .pointer (some ⟨b1, 0, none⟩) :: .slice a7 v.length H :: v6 :: .string (bs (jn 32 ([[118, 97, 114, 115]] ++ v))) :: .string (bs ((jn 32 ([[118, 97, 114, 115]] ++ v)) ++ ([10]))) :: .tuple #[.int .i64 ↑(((jn 32 ([[118, 97, 114, 115]] ++ v)) ++ ([10])).length), .nilIface] :: .pointer (some ⟨b1, 1, none⟩) :: .slice a9 q.length J :: .pointer (some ⟨b1, 2, none⟩) :: .slice a8 r.length I :: gr Y 25 62 [])).toArray, []⟩ /\ Env w' [fA elB 5 D VH vr lr, fX b3 (105) ([pr, vr]), fR MS (CX w.heap.size) (.slice a4 (q.length - i) cE) (q.drop i), fR MS (CX w.heap.size) (.slice a3 (r.length - k) cN) (r.drop k), rO D, fX b1 (48) ([.slice a7 v.length H, .slice a9 q.length J, .slice a8 r.length I, .int .i64 ↑n]), fGl, fR elS (CX w.heap.size) (.slice a7 v.length H) v, fW w] /\ mz = (q.length + r.length - (i + k)) /\ (i <= q.length /\ k <= r.length /\ PrTo ⟨v, q, r, n⟩ i k done /\ (pr = .pointer none ∨ pr = .pointer (some ⟨b3, 0, none⟩)) /\ lr = RP v ++ 10 :: RN v done /\ lr.length <= 100 + (i + k) * 5000)) ((q.length + r.length)) ⟨0, 0, [], a9, J, a8, I, (.pointer (some ⟨b3, 0, none⟩)), ed, (([]) ++ ((jn 32 ([[118, 97, 114, 115]] ++ v)) ++ ([10]))), _, O, O, zE, O, ⟨Nat.zero_le _, Nat.zero_le _, PrTo.zero _, .inr O, by simp [RN, RP, vaB], by have := XT C; unfold RP vaB at this; simp only [List.length_append, List.length_cons, List.length_nil, List.cons_append, List.nil_append] at this ⊢; omega⟩⟩ ?_
 rintro h5 _ gu ⟨i, k, done, a4, cE, a3, cN, pr, vr, lr, Y, -, rfl, E, aa, cd⟩
 dsimp only [gr, Nat.reduceAdd]
 obtain ⟨hb, ha, a0, ax, aw, h9⟩ := cd
 by_cases hi : i < q.length
 case neg =>
  by_cases hk : k < r.length
  case neg =>
   obtain ⟨f7, f4⟩ := a0.full hV hi hk
   have a6 := NL ca
   refine yG ?_
   refine EF O (BZ JO O (iO n _ AA (e6 E).1) O E ?_)
   intro g0 hf E
   have ce := E.1
   refine yG ?_
   replace E := VI E
   have di := E.1
   replace E := VI E
   refine EF O (FB (s := (([110, 101, 120, 116, 32]) ++ (txt ((n : Nat) : Int))) ++ ([10])) O O O di ce.1 ax Yu2 (CR E.2.2.1) E ⟨DP (CJ AA), DP (CJ AA), BX, CT AA, EP AA, DP (CJ AA), IK AA, BX⟩ (fun g hg h1 h2 => ⟨DP (CJ AA), DP (CJ AA), BX, CT AA, EP AA, DP (CJ AA), IK AA, BX⟩) ?_)
   intro gw fz gx E
   refine yG ?_
   refine EF O (DG ⟨_, func51, by kernel_rfl, O⟩ O (yQ (B := w.heap.size) E.2.1 E.1.1 (.inr O) AA AA (e8 E).size) O ?_)
   rintro _ dp ⟨rfl, fe⟩
   refine ⟨_, O, ?_⟩
   replace E : Env dp [fW w] := ⟨Below.trans (e8 E) fe, BX⟩
   refine yG ?_
   exact ⟨NI (a := lr ++ ((([110, 101, 120, 116, 32]) ++ (txt ((n : Nat) : Int))) ++ ([10]))) (n := 0) (by rw [f4, <- Tn f7 aw]; rfl), E.1⟩
  obtain ⟨⟨y, N⟩, ar⟩ : ∃ x, (r.drop k)[0]? = some x := ⟨_, List.getElem?_eq_getElem YkK⟩
  obtain ⟨al, ej, _, a2, b0, bx, ⟨_, rfl, av⟩⟩ := IsR.at (e3 E).1 ar
  obtain ⟨ap, an, rfl, c9, _⟩ := av.shp
  have bv : al < _ := (e3 E).2 _ b0
  replace E := (E.r av (e3 E).2).c bx bv
  have fa : al < w.heap.size := b0
  have G := fH ar
  have T : bV ⟨v, q, r, n⟩ i k (true, y, N) := .inr ⟨rfl, G, .inl hi⟩
  obtain ⟨P, R, Q⟩ := sZ hOr G
  obtain ⟨U, z⟩ := ay (y, N) (.inr (List.mem_of_getElem? G))
  by_cases f : 4000 < (DS v N).length
  case pos =>
   refine yG ?_
   refine EF O (CB NH O ?_)
   intro c1 g6 bi fr fg ad
   have cp : (vr : Value).ownBlock ≠ some c1 := fun h => by have := (Acc.lt E.2.2.1.1 h).2; omega
   have ev : b3 < c1 := by rw [bi]; exact Bx.lt (e3 E)
   have cv : D <= c1 := by rw [bi]; exact CR (e6 E)
   replace E := E.below fg
   refine yG ?_
   refine sE E [0,1,2,3,4,5,6,7,8,9,10,11,12,13,14,15,16,17,18] ?_
   replace E := E.drew
   replace ad := Bx.drew ad
   refine yG ?_
   refine sE E [0,1,2,3,4,5,6,7] ?_
   replace E := E.drew
   replace ad := Bx.drew ad
   refine yG ?_
   refine RO (j := 0) O O O a2 O AA ?_
   refine SW O O O O O (fun w X => CD NH O O ((X.1).1) O) ?_
   obtain ⟨ck, b9⟩ : ∃ a, Dy a3 (1 * 2) (decide (cN = 1)) = a := ⟨_, rfl⟩
   refine yG ?_
   refine SW (v := .slice ck ((r.length - k) - 1) (cN - 1)) O O O O O (fun w X => IQ (i := 1) O underlying46 Z O O O YSX b9) ?_
   refine yG ?_
   refine GZ (o := ⟨none, _, _, _, _, _⟩) O O O O (BY NH O O O ad O O (CK O (CK O EK)) ?_)
   intro dr el da
   replace E := oY E ad el da (ds := [.int .i64 ↑y, .slice ap N.length an])
   refine ⟨E.2, ?_⟩
   refine yG ?_
   replace E := E.r (e := MS) (S := CX w.heap.size) (by have t := NQ (e6 E).1 YSX b9; rw [List.drop_drop] at t; exact t) ((e6 E).2)
   refine yG ?_
   refine EF O (BZ FL O ((by have p := TS _ N _ v dr (BW (e3 E)) (BW (RJ E)) P R Q hL (RA E).1; rw [dO C z f] at p; exact p)) O E ?_)
   exact Zcf
  refine yG ?_
  refine EF O (CB NH O ?_)
  intro c0 g4 bh fq ff ac
  have b2 : (vr : Value).ownBlock ≠ some c0 := fun h => by have := (Acc.lt E.2.2.1.1 h).2; omega
  have eu : b3 < c0 := by rw [bh]; exact Bx.lt (e3 E)
  have cu : D <= c0 := by rw [bh]; exact CR (e6 E)
  replace E := E.below ff
  refine yG ?_
  refine sE E [0,1,2,3,4,5,6,7,8,9,10,11,12,13,14,15,16,17,18] ?_
  replace E := E.drew
  replace ac := Bx.drew ac
  refine yG ?_
  refine sE E [0,1,2,3,4,5,6,7] ?_
  replace E := E.drew
  replace ac := Bx.drew ac
  refine yG ?_
  refine RO (j := 0) O O O a2 O AA ?_
  refine SW O O O O O (fun w X => CD NH O O ((X.1).1) O) ?_
  obtain ⟨bp, b8⟩ : ∃ a, Dy a3 (1 * 2) (decide (cN = 1)) = a := ⟨_, rfl⟩
  refine yG ?_
  refine SW (v := .slice bp ((r.length - k) - 1) (cN - 1)) O O O O O (fun w X => IQ (i := 1) O underlying46 Z O O O YSX b8) ?_
  refine yG ?_
  refine GZ (o := ⟨none, _, _, _, _, _⟩) O O O O (BY NH O O O ac O O (CK O (CK O EK)) ?_)
  intro dq ek d9
  replace E := oY E ac ek d9 (ds := [.int .i64 ↑y, .slice ap N.length an])
  refine ⟨E.2, ?_⟩
  refine yG ?_
  replace E := E.r (e := MS) (S := CX w.heap.size) (by have t := NQ (e6 E).1 YSX b8; rw [List.drop_drop] at t; exact t) ((e6 E).2)
  refine yG ?_
  refine EF O (BZ FL O ((by have p := TS _ N _ v dq (BW (e3 E)) (BW (RJ E)) P R Q hL (RA E).1; rw [RZ C z f] at p; exact p)) O E ?_)
  intro g3 hj E
  have a6 := NL U
  refine yG ?_
  dsimp only at a6
  refine yG ?_
  refine EF O (BZ JO O (iO y _ AA (RA E).1) O E ?_)
  intro g2 hh E
  have cf := e4 E
  refine yG ?_
  replace E := rR E
  have dj := e4 E
  replace E := rR E
  have ee := Bx.lt E.2.1
  refine EF O (FB (s := (((txt ((y : Nat) : Int)) ++ ([58, 32])) ++ (DS v N)) ++ ([32, 33, 61, 32, 48, 10])) O O O dj cf.1 ax Yu2 (CR (e6 E)) E ⟨DP (CJ AA), CT AA, QU AA, DP (CJ AA), DP (CJ AA), DP (CJ AA), BX, CT AA, EP AA, DP (CJ AA), IK AA, BX⟩ (fun g hg h1 h2 => ⟨DP (CJ AA), CT (fun e => b2 (e ▸ hg)), QU AA, DP (CJ AA), DP (CJ AA), DP (CJ AA), BX, CT AA, EP AA, DP (CJ AA), IK AA, BX⟩) ?_)
  intro dz g1 gy E
  refine yG ?_
  exact ⟨_, (by rw [aa]; omega), i, (k + 1), (done ++ [(true, y, N)]), a4, cE, bp, (cN - 1), (.pointer (some ⟨b3, 0, none⟩)), dz, (lr ++ ((((txt ((y : Nat) : Int)) ++ ([58, 32])) ++ (DS v N)) ++ ([32, 33, 61, 32, 48, 10]))), _, O, O, zE, O, ⟨by omega, by omega, a0.step T f, .inr O, kT (e := (true, y, N)) aw Ylw, by (try simp only [List.length_append, List.length_cons, List.length_nil]); omega⟩⟩
 by_cases hk : k < r.length
 case neg =>
  obtain ⟨⟨u, L⟩, aq⟩ : ∃ x, (q.drop i)[0]? = some x := ⟨_, List.getElem?_eq_getElem YkK⟩
  obtain ⟨ak, ei, _, a1, az, bw, ⟨_, rfl, au⟩⟩ := IsR.at E.2.2.1.1 aq
  obtain ⟨ao, am, rfl, c8, _⟩ := au.shp
  have bu : ak < _ := E.2.2.1.2 _ az
  replace E := (E.r au E.2.2.1.2).c bw bu
  have f9 : ak < w.heap.size := az
  have F := fH aq
  have T : bV ⟨v, q, r, n⟩ i k (false, u, L) := .inl ⟨rfl, F, .inl hk⟩
  obtain ⟨P, R, Q⟩ := sZ hOq F
  obtain ⟨U, z⟩ := ay (u, L) (.inl (List.mem_of_getElem? F))
  by_cases f : 4000 < (DS v L).length
  case pos =>
   refine yG ?_
   refine EF O (CB NH O ?_)
   intro c3 gc bk ft fi af
   have cq : (vr : Value).ownBlock ≠ some c3 := fun h => by have := (Acc.lt E.2.2.1.1 h).2; omega
   have ex : b3 < c3 := by rw [bk]; exact Bx.lt (e3 E)
   have cx : D <= c3 := by rw [bk]; exact CR (e6 E)
   replace E := E.below fi
   refine yG ?_
   refine sE E [0,1,2,3,4,5,6,7,8,9,10,11,12,13,14,15,16,17,18] ?_
   replace E := E.drew
   replace af := Bx.drew af
   refine yG ?_
   refine sE E [0,1,2,3,4,5,6,7] ?_
   replace E := E.drew
   replace af := Bx.drew af
   refine yG ?_
   refine RO (j := 0) O O O a1 O AA ?_
   refine SW O O O O O (fun w X => CD NH O O ((X.1).1) O) ?_
   obtain ⟨cm, bb⟩ : ∃ a, Dy a4 (1 * 2) (decide (cE = 1)) = a := ⟨_, rfl⟩
   refine yG ?_
   refine SW (v := .slice cm ((q.length - i) - 1) (cE - 1)) O O O O O (fun w X => IQ (i := 1) O underlying46 Z O O O YSX bb) ?_
   refine yG ?_
   refine GZ (o := ⟨none, _, _, _, _, _⟩) O O O O (BY NH O O O af O O (CK O (CK O EK)) ?_)
   intro du en dc
   replace E := oY E af en dc (ds := [.int .i64 ↑u, .slice ao L.length am])
   refine ⟨E.2, ?_⟩
   refine yG ?_
   replace E := E.r (e := MS) (S := CX w.heap.size) (by have t := NQ (e5 E).1 YSX bb; rw [List.drop_drop] at t; exact t) ((e5 E).2)
   refine yG ?_
   refine EF O (BZ FL O ((by have p := TS _ L _ v du (BW (e3 E)) (BW (RJ E)) P R Q hL (RA E).1; rw [dO C z f] at p; exact p)) O E ?_)
   exact Zcf
  refine yG ?_
  refine EF O (CB NH O ?_)
  intro c2 ga bj fs fh ae
  have b4 : (vr : Value).ownBlock ≠ some c2 := fun h => by have := (Acc.lt E.2.2.1.1 h).2; omega
  have ew : b3 < c2 := by rw [bj]; exact Bx.lt (e3 E)
  have cw : D <= c2 := by rw [bj]; exact CR (e6 E)
  replace E := E.below fh
  refine yG ?_
  refine sE E [0,1,2,3,4,5,6,7,8,9,10,11,12,13,14,15,16,17,18] ?_
  replace E := E.drew
  replace ae := Bx.drew ae
  refine yG ?_
  refine sE E [0,1,2,3,4,5,6,7] ?_
  replace E := E.drew
  replace ae := Bx.drew ae
  refine yG ?_
  refine RO (j := 0) O O O a1 O AA ?_
  refine SW O O O O O (fun w X => CD NH O O ((X.1).1) O) ?_
  obtain ⟨bq, ba⟩ : ∃ a, Dy a4 (1 * 2) (decide (cE = 1)) = a := ⟨_, rfl⟩
  refine yG ?_
  refine SW (v := .slice bq ((q.length - i) - 1) (cE - 1)) O O O O O (fun w X => IQ (i := 1) O underlying46 Z O O O YSX ba) ?_
  refine yG ?_
  refine GZ (o := ⟨none, _, _, _, _, _⟩) O O O O (BY NH O O O ae O O (CK O (CK O EK)) ?_)
  intro dt em db
  replace E := oY E ae em db (ds := [.int .i64 ↑u, .slice ao L.length am])
  refine ⟨E.2, ?_⟩
  refine yG ?_
  replace E := E.r (e := MS) (S := CX w.heap.size) (by have t := NQ (e5 E).1 YSX ba; rw [List.drop_drop] at t; exact t) ((e5 E).2)
  refine yG ?_
  refine EF O (BZ FL O ((by have p := TS _ L _ v dt (BW (e3 E)) (BW (RJ E)) P R Q hL (RA E).1; rw [RZ C z f] at p; exact p)) O E ?_)
  intro g9 hn E
  have a6 := NL U
  refine yG ?_
  dsimp only at a6
  refine yG ?_
  refine EF O (BZ JO O (iO u _ AA (RA E).1) O E ?_)
  intro g8 hm E
  have cg := e4 E
  refine yG ?_
  replace E := rR E
  have dk := e4 E
  replace E := rR E
  have ef := Bx.lt E.2.1
  refine EF O (FB (s := (((txt ((u : Nat) : Int)) ++ ([58, 32])) ++ (DS v L)) ++ ([32, 61, 32, 48, 10])) O O O dk cg.1 ax Yu2 (CR (e6 E)) E ⟨DP (CJ AA), CT AA, QU AA, DP (CJ AA), DP (CJ AA), DP (CJ AA), BX, CT AA, EP AA, DP (CJ AA), IK AA, BX⟩ (fun g hg h1 h2 => ⟨DP (CJ AA), CT (fun e => b4 (e ▸ hg)), QU AA, DP (CJ AA), DP (CJ AA), DP (CJ AA), BX, CT AA, EP AA, DP (CJ AA), IK AA, BX⟩) ?_)
  intro ea g7 gz E
  refine yG ?_
  exact ⟨_, (by rw [aa]; omega), (i + 1), k, (done ++ [(false, u, L)]), bq, (cE - 1), a3, cN, (.pointer (some ⟨b3, 0, none⟩)), ea, (lr ++ ((((txt ((u : Nat) : Int)) ++ ([58, 32])) ++ (DS v L)) ++ ([32, 61, 32, 48, 10]))), _, O, O, zE, O, ⟨by omega, by omega, a0.step T f, .inr O, kT (e := (false, u, L)) aw Ylw, by (try simp only [List.length_append, List.length_cons, List.length_nil]); omega⟩⟩
 obtain ⟨⟨u, L⟩, aq⟩ : ∃ x, (q.drop i)[0]? = some x := ⟨_, List.getElem?_eq_getElem YkK⟩
 obtain ⟨ak, ei, _, a1, az, bw, ⟨_, rfl, au⟩⟩ := IsR.at E.2.2.1.1 aq
 obtain ⟨ao, am, rfl, c8, _⟩ := au.shp
 have bu : ak < _ := E.2.2.1.2 _ az
 replace E := (E.r au E.2.2.1.2).c bw bu
 have f9 : ak < w.heap.size := az
 have F := fH aq
 obtain ⟨⟨y, N⟩, ar⟩ : ∃ x, (r.drop k)[0]? = some x := ⟨_, List.getElem?_eq_getElem YkK⟩
 obtain ⟨al, ej, _, a2, b0, bx, ⟨_, rfl, av⟩⟩ := IsR.at (e5 E).1 ar
 obtain ⟨ap, an, rfl, c9, _⟩ := av.shp
 have bv : al < _ := (e5 E).2 _ b0
 replace E := (E.r av (e5 E).2).c bx bv
 have fa : al < w.heap.size := b0
 have G := fH ar
 by_cases cc : u < y
 case pos =>
  have T : bV ⟨v, q, r, n⟩ i k (false, u, L) := .inl ⟨rfl, F, .inr ⟨_, G, cc⟩⟩
  obtain ⟨P, R, Q⟩ := sZ hOq F
  obtain ⟨U, z⟩ := ay (u, L) (.inl (List.mem_of_getElem? F))
  by_cases f : 4000 < (DS v L).length
  case pos =>
   refine yG ?_
   refine EF O (CB NH O ?_)
   intro c7 gs bo fx fm aj
   have ct : (vr : Value).ownBlock ≠ some c7 := fun h => by have := (Acc.lt (e4 E).1 h).2; omega
   have f1 : b3 < c7 := by rw [bo]; exact Bx.lt (e5 E)
   have d4 : D <= c7 := by rw [bo]; exact CR (e8 E)
   replace E := E.below fm
   refine yG ?_
   refine sE E [0,1,2,3,4,5,6,7,8,9,10,11,12,13,14,15,16,17,18] ?_
   replace E := E.drew
   replace aj := Bx.drew aj
   refine yG ?_
   refine RO (j := 0) O O O a1 O AA ?_
   refine yG ?_
   refine RO (j := 0) O O O a2 O AA ?_
   refine yG ?_
   refine sE E [0,1,2,3,4,5,6,7] ?_
   replace E := E.drew
   replace aj := Bx.drew aj
   refine yG ?_
   refine RO (j := 0) O O O a1 O AA ?_
   refine SW O O O O O (fun w X => CD NH O O ((X.2.2.1).1) O) ?_
   obtain ⟨co, bg⟩ : ∃ a, Dy a4 (1 * 2) (decide (cE = 1)) = a := ⟨_, rfl⟩
   refine yG ?_
   refine SW (v := .slice co ((q.length - i) - 1) (cE - 1)) O O O O O (fun w X => IQ (i := 1) O underlying46 Z O O O YSX bg) ?_
   refine yG ?_
   refine GZ (o := ⟨none, _, _, _, _, _⟩) O O O O (BY NH O O O aj O O (CK O (CK O EK)) ?_)
   intro dy es dh
   replace E := oY E aj es dh (ds := [.int .i64 ↑u, .slice ao L.length am])
   refine ⟨E.2, ?_⟩
   refine yG ?_
   replace E := E.r (e := MS) (S := CX w.heap.size) (by have t := NQ (e7 E).1 YSX bg; rw [List.drop_drop] at t; exact t) ((e7 E).2)
   refine yG ?_
   refine EF O (BZ FL O ((by have p := TS _ L _ v dy (BW (e5 E)) (BW (WP E)) P R Q hL (UH E).1; rw [dO C z f] at p; exact p)) O E ?_)
   exact ZQ8
  refine yG ?_
  refine EF O (CB NH O ?_)
  intro c6 gp bn fw fl ai
  have b7 : (vr : Value).ownBlock ≠ some c6 := fun h => by have := (Acc.lt (e4 E).1 h).2; omega
  have f0 : b3 < c6 := by rw [bn]; exact Bx.lt (e5 E)
  have d0 : D <= c6 := by rw [bn]; exact CR (e8 E)
  replace E := E.below fl
  refine yG ?_
  refine sE E [0,1,2,3,4,5,6,7,8,9,10,11,12,13,14,15,16,17,18] ?_
  replace E := E.drew
  replace ai := Bx.drew ai
  refine yG ?_
  refine RO (j := 0) O O O a1 O AA ?_
  refine yG ?_
  refine RO (j := 0) O O O a2 O AA ?_
  refine yG ?_
  refine sE E [0,1,2,3,4,5,6,7] ?_
  replace E := E.drew
  replace ai := Bx.drew ai
  refine yG ?_
  refine RO (j := 0) O O O a1 O AA ?_
  refine SW O O O O O (fun w X => CD NH O O ((X.2.2.1).1) O) ?_
  obtain ⟨bt, bf⟩ : ∃ a, Dy a4 (1 * 2) (decide (cE = 1)) = a := ⟨_, rfl⟩
  refine yG ?_
  refine SW (v := .slice bt ((q.length - i) - 1) (cE - 1)) O O O O O (fun w X => IQ (i := 1) O underlying46 Z O O O YSX bf) ?_
  refine yG ?_
  refine GZ (o := ⟨none, _, _, _, _, _⟩) O O O O (BY NH O O O ai O O (CK O (CK O EK)) ?_)
  intro dx er dg
  replace E := oY E ai er dg (ds := [.int .i64 ↑u, .slice ao L.length am])
  refine ⟨E.2, ?_⟩
  refine yG ?_
  replace E := E.r (e := MS) (S := CX w.heap.size) (by have t := NQ (e7 E).1 YSX bf; rw [List.drop_drop] at t; exact t) ((e7 E).2)
  refine yG ?_
  refine EF O (BZ FL O ((by have p := TS _ L _ v dx (BW (e5 E)) (BW (WP E)) P R Q hL (UH E).1; rw [RZ C z f] at p; exact p)) O E ?_)
  intro gn ht E
  have a6 := NL U
  refine yG ?_
  dsimp only at a6
  refine yG ?_
  refine EF O (BZ JO O (iO u _ AA (UH E).1) O E ?_)
  intro gm hs E
  have ci := e6 E
  refine yG ?_
  replace E := xY E
  have dm := e6 E
  replace E := xY E
  have eh := Bx.lt E.2.1
  refine EF O (FB (s := (((txt ((u : Nat) : Int)) ++ ([58, 32])) ++ (DS v L)) ++ ([32, 61, 32, 48, 10])) O O O dm ci.1 ax Yu2 (CR (e8 E)) E ⟨DP (CJ AA), CT AA, QU AA, DP (CJ AA), QU AA, DP (CJ AA), DP (CJ AA), DP (CJ AA), BX, CT AA, EP AA, DP (CJ AA), IK AA, BX⟩ (fun g hg h1 h2 => ⟨DP (CJ AA), CT (fun e => b7 (e ▸ hg)), QU AA, DP (CJ AA), QU AA, DP (CJ AA), DP (CJ AA), DP (CJ AA), BX, CT AA, EP AA, DP (CJ AA), IK AA, BX⟩) ?_)
  intro ec gk h3 E
  refine yG ?_
  exact ⟨_, (by rw [aa]; omega), (i + 1), k, (done ++ [(false, u, L)]), bt, (cE - 1), a3, cN, (.pointer (some ⟨b3, 0, none⟩)), ec, (lr ++ ((((txt ((u : Nat) : Int)) ++ ([58, 32])) ++ (DS v L)) ++ ([32, 61, 32, 48, 10]))), _, O, O, zE, O, ⟨by omega, by omega, a0.step T f, .inr O, kT (e := (false, u, L)) aw Ylw, by (try simp only [List.length_append, List.length_cons, List.length_nil]); omega⟩⟩
 have T : bV ⟨v, q, r, n⟩ i k (true, y, N) := .inr ⟨rfl, G, .inr ⟨_, F, cc⟩⟩
 obtain ⟨P, R, Q⟩ := sZ hOr G
 obtain ⟨U, z⟩ := ay (y, N) (.inr (List.mem_of_getElem? G))
 by_cases f : 4000 < (DS v N).length
 case pos =>
  refine yG ?_
  refine EF O (CB NH O ?_)
  intro c5 gj bm fv fk ah
  have cr : (vr : Value).ownBlock ≠ some c5 := fun h => by have := (Acc.lt (e4 E).1 h).2; omega
  have ez : b3 < c5 := by rw [bm]; exact Bx.lt (e5 E)
  have cz : D <= c5 := by rw [bm]; exact CR (e8 E)
  replace E := E.below fk
  refine yG ?_
  refine sE E [0,1,2,3,4,5,6,7,8,9,10,11,12,13,14,15,16,17,18] ?_
  replace E := E.drew
  replace ah := Bx.drew ah
  refine yG ?_
  refine RO (j := 0) O O O a1 O AA ?_
  refine yG ?_
  refine RO (j := 0) O O O a2 O AA ?_
  refine yG ?_
  refine sE E [0,1,2,3,4,5,6,7] ?_
  replace E := E.drew
  replace ah := Bx.drew ah
  refine yG ?_
  refine RO (j := 0) O O O a2 O AA ?_
  refine SW O O O O O (fun w X => CD NH O O ((X.1).1) O) ?_
  obtain ⟨cn, bd⟩ : ∃ a, Dy a3 (1 * 2) (decide (cN = 1)) = a := ⟨_, rfl⟩
  refine yG ?_
  refine SW (v := .slice cn ((r.length - k) - 1) (cN - 1)) O O O O O (fun w X => IQ (i := 1) O underlying46 Z O O O YSX bd) ?_
  refine yG ?_
  refine GZ (o := ⟨none, _, _, _, _, _⟩) O O O O (BY NH O O O ah O O (CK O (CK O EK)) ?_)
  intro dw ep de
  replace E := oY E ah ep de (ds := [.int .i64 ↑y, .slice ap N.length an])
  refine ⟨E.2, ?_⟩
  refine yG ?_
  replace E := E.r (e := MS) (S := CX w.heap.size) (by have t := NQ (e8 E).1 YSX bd; rw [List.drop_drop] at t; exact t) ((e8 E).2)
  refine yG ?_
  refine EF O (BZ FL O ((by have p := TS _ N _ v dw (BW (e3 E)) (BW (WP E)) P R Q hL (UH E).1; rw [dO C z f] at p; exact p)) O E ?_)
  exact ZQ8
 refine yG ?_
 refine EF O (CB NH O ?_)
 intro c4 gh bl fu fj ag
 have b6 : (vr : Value).ownBlock ≠ some c4 := fun h => by have := (Acc.lt (e4 E).1 h).2; omega
 have ey : b3 < c4 := by rw [bl]; exact Bx.lt (e5 E)
 have cy : D <= c4 := by rw [bl]; exact CR (e8 E)
 replace E := E.below fj
 refine yG ?_
 refine sE E [0,1,2,3,4,5,6,7,8,9,10,11,12,13,14,15,16,17,18] ?_
 replace E := E.drew
 replace ag := Bx.drew ag
 refine yG ?_
 refine RO (j := 0) O O O a1 O AA ?_
 refine yG ?_
 refine RO (j := 0) O O O a2 O AA ?_
 refine yG ?_
 refine sE E [0,1,2,3,4,5,6,7] ?_
 replace E := E.drew
 replace ag := Bx.drew ag
 refine yG ?_
 refine RO (j := 0) O O O a2 O AA ?_
 refine SW O O O O O (fun w X => CD NH O O ((X.1).1) O) ?_
 obtain ⟨br, bc⟩ : ∃ a, Dy a3 (1 * 2) (decide (cN = 1)) = a := ⟨_, rfl⟩
 refine yG ?_
 refine SW (v := .slice br ((r.length - k) - 1) (cN - 1)) O O O O O (fun w X => IQ (i := 1) O underlying46 Z O O O YSX bc) ?_
 refine yG ?_
 refine GZ (o := ⟨none, _, _, _, _, _⟩) O O O O (BY NH O O O ag O O (CK O (CK O EK)) ?_)
 intro dv eo dd
 replace E := oY E ag eo dd (ds := [.int .i64 ↑y, .slice ap N.length an])
 refine ⟨E.2, ?_⟩
 refine yG ?_
 replace E := E.r (e := MS) (S := CX w.heap.size) (by have t := NQ (e8 E).1 YSX bc; rw [List.drop_drop] at t; exact t) ((e8 E).2)
 refine yG ?_
 refine EF O (BZ FL O ((by have p := TS _ N _ v dv (BW (e3 E)) (BW (WP E)) P R Q hL (UH E).1; rw [RZ C z f] at p; exact p)) O E ?_)
 intro gg hq E
 have a6 := NL U
 refine yG ?_
 dsimp only at a6
 refine yG ?_
 refine EF O (BZ JO O (iO y _ AA (UH E).1) O E ?_)
 intro gf hp E
 have ch := e6 E
 refine yG ?_
 replace E := xY E
 have dl := e6 E
 replace E := xY E
 have eg := Bx.lt E.2.1
 refine EF O (FB (s := (((txt ((y : Nat) : Int)) ++ ([58, 32])) ++ (DS v N)) ++ ([32, 33, 61, 32, 48, 10])) O O O dl ch.1 ax Yu2 (CR (e8 E)) E ⟨DP (CJ AA), CT AA, QU AA, DP (CJ AA), QU AA, DP (CJ AA), DP (CJ AA), DP (CJ AA), BX, CT AA, EP AA, DP (CJ AA), IK AA, BX⟩ (fun g hg h1 h2 => ⟨DP (CJ AA), CT (fun e => b6 (e ▸ hg)), QU AA, DP (CJ AA), QU AA, DP (CJ AA), DP (CJ AA), DP (CJ AA), BX, CT AA, EP AA, DP (CJ AA), IK AA, BX⟩) ?_)
 intro eb ge h0 E
 refine yG ?_
 exact ⟨_, (by rw [aa]; omega), i, (k + 1), (done ++ [(true, y, N)]), a4, cE, br, (cN - 1), (.pointer (some ⟨b3, 0, none⟩)), eb, (lr ++ ((((txt ((y : Nat) : Int)) ++ ([58, 32])) ++ (DS v N)) ++ ([32, 33, 61, 32, 48, 10]))), _, O, O, zE, O, ⟨by omega, by omega, a0.step T f, .inr O, kT (e := (true, y, N)) aw Ylw, by (try simp only [List.length_append, List.length_cons, List.length_nil]); omega⟩⟩
end Go.Proofs.YtmppigbbkjepiaaGreatDoor
