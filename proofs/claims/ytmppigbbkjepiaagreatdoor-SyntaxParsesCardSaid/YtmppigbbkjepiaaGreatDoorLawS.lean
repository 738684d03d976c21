/- Helping facts of Print; no other conditions. Helping facts of KitX; no other conditions. Helping facts of LawS; no other conditions. -/
import Derived.Test.YtmppigbbkjepiaaGreatDoorPsys
import Derived.Test.YtmppigbbkjepiaaGreatDoorRef6
namespace Go.Proofs.YtmppigbbkjepiaaGreatDoor
open Go.Proofs.Tryz
open Go.RowKit W
variable {a b i k n : Nat} {p : Prop} {x y : Operand}
theorem YL8 (h : p := by rw [List.length_drop]; omega) : p := h
theorem Yiu (h : p := by unfold lA YX; simp [JC, ZR, NL]) : p := h
theorem Ys2 (h : p := by simp only [List.length_append, List.length_cons, List.length_nil]; omega) : p := h
theorem Y9E (h : p := by first | omega | (rw [List.length_drop]; omega)) : p := h
theorem Zjg (h : p := by
 intro g6 hm E
 refine yG ?_
 exact ⟨WM (a := []) (n := 2) (a1.long hV U f), WE E⟩
 ) : p := h
theorem ZQO (h : p := by
 intro gs hv E
 refine yG ?_
 exact ⟨WM (a := []) (n := 2) (a1.long hV U f), lB E⟩
 ) : p := h
theorem Um {s : Sy} {done : List (Bool × En)} {lr : Bs} (h : done = SJ s.eqs s.neqs) (hl : lr = cX s.vars ++ 10 :: cU s.vars done) : (lr ++ (lW ++ txt ((s.next : Nat) : Int) ++ [10])) = Bk s := by
 subst hl h; rw [Tf]; unfold xX; simp
theorem lU {vars : List Bs} {done : List (Bool × En)} {lr : Bs} {e : Bool × En} (hl : lr = cX vars ++ 10 :: cU vars done) {b : Bs} (hb : b = lA vars e ++ [10]) : lr ++ b = cX vars ++ 10 :: cU vars (done ++ [e]) := by
 subst hl hb; rw [Dk]; simp
theorem uA {l : List En} (h : TH l) {e : En} (hx : l[i]? = some e) : JS e.2 /\ (∀ t ∈ e.2, FitQ t.1 1000000) /\ e.2.length <= 1000000 := h e (List.mem_of_getElem? hx)
theorem gW {α : Type} {l : List α} {x : α} (h : (l.drop i)[0]? = some x) : l[i]? = some x := by rw [List.getElem?_drop, Nat.add_zero] at h; exact h
theorem bT {l : List Bs} {p : List Tm} (h : DM 4 l = true) (h2 : PJ l.length p = true) (h3 : ¬ 4000 < (GR l p).length) : VV l p = (GR l p, 0) := xR (yI h) (fits_iff.1 h2).1 h3
theorem gA {l : List Bs} {p : List Tm} (h : DM 4 l = true) (h2 : PJ l.length p = true) (h3 : 4000 < (GR l p).length) : VV l p = ([], 2) := nS (yI h) (fits_iff.1 h2).1 h3
set_option maxRecDepth 100000 in
set_option maxHeartbeats 8000000 in
theorem Sm (vv : Value) (v : List Bs) (vq : Value) (q : List (Nat × List Tm)) (vr : Value) (r : List (Nat × List Tm)) (n : Nat) (w : World) (hRv : IsR elS (DL w.heap.size) w vv v) (hRq : IsR RB (DL w.heap.size) w vq q) (hRr : IsR RB (DL w.heap.size) w vr r) (hOq : TH q) (hOr : TH r) (hL : v.length <= 1000000) (hG : Glob w) :
 Calls prog 17 #[.agg #[vv, vq, vr, .int .i64 ↑n]] w (GY w (.tuple #[.string (bs (YQ ⟨v, q, r, n⟩).1), .int .i64 ↑((YQ ⟨v, q, r, n⟩).2)])) := by
 have E := Env.start w
 obtain ⟨a7, I, rfl, f9, f7⟩ := hRv.shp
 replace E := E.r hRv (DZ _)
 obtain ⟨a9, L, rfl, p, h9⟩ := hRq.shp
 replace E := E.r hRq (DZ _)
 obtain ⟨a8, J, rfl, hd, h8⟩ := hRr.shp
 replace E := E.r hRr (DZ _)
 have he := hG.two
 replace E := E.gl hG
 go_enter func17, ntmps17
 refine yG ?_
 refine EF O (CM (cs := [.slice a7 v.length I, .slice a9 q.length L, .slice a8 r.length J, .int .i64 ↑n]) O O ?_)
 intro b1 w1 fe z1 d1 x1
 have l1 : w.heap.size <= b1 := by rw [fe]; exact (e4 E).size
 replace E := E.below d1
 replace E := E.x x1
 by_cases hV : LD ⟨v, q, r, n⟩ = true
 case neg =>
  refine yG ?_
  refine EF O (CA IY O (CT (DY hV) (VH (.slice a7 v.length I) v (.slice a9 q.length L) q (.slice a8 r.length J) r n _ (BW (e4 E)) (BW (e3 E)) (BW E.2.2.1) hOq hOr hL)) O E ?_)
  intro fz hf E
  refine yG ?_
  exact ⟨WM (a := []) (n := 320) (Zl (DY hV)), e5 E⟩
 obtain ⟨D, f4, f3, f6, cb, ay⟩ := Mj hV
 refine yG ?_
 dsimp only at D f4 f3 f6 cb ay
 refine yG ?_
 refine EF O (CA IY O (CT hV (VH (.slice a7 v.length I) v (.slice a9 q.length L) q (.slice a8 r.length J) r n _ (BW (e4 E)) (BW (e3 E)) (BW E.2.2.1) hOq hOr hL)) O E ?_)
 intro w2 d2 E
 refine yG ?_
 refine EF O (BZ Yg O ?_)
 intro b3 w3 fd z3 d3 x3
 have fp : b1 < b3 := by rw [fd]; exact Bx.lt E.1
 replace E := E.below d3
 replace E := E.x x3
 obtain ⟨F, ab⟩ : ∃ n, n = w3.heap.size := ⟨_, rfl⟩
 have fq : w.heap.size <= F := by rw [ab]; exact (e6 E).size
 have d9 : b3 < F := by rw [ab]; exact Bx.lt E.1
 have d7 : b1 < F := by rw [ab]; exact Bx.lt E.2.1
 replace E := (E.sz (Nat.le_of_eq ab)).a (Acc.nil elB 5 F WW _) (RO _)
 have h7 : (jn 32 ([[118, 97, 114, 115]] ++ v)).length <= 60 := mV D
 refine yG ?_
 refine EF O (GZ (s := (bs ([118, 97, 114, 115]))) O O ?_)
 intro b5 w5 ck z5 d5 x5
 have fo : b3 < b5 := by rw [ck]; exact Bx.lt E.2.2.1
 have eu : F <= b5 := by rw [ck]; exact CS E.2.1
 replace E := E.below d5
 replace E := E.x x5
 have x7 := E.1
 refine yG ?_
 replace E := YE E
 have cc : b1 < b5 := by omega
 refine yG ?_
 refine EF O (iL (S := WW) O (l := [[118, 97, 114, 115]]) O (Acc.lit1 (e := elS) (base := b5) (S := WW) x7 (Nat.le_refl _) O jY) (RO _) E (fun g hg h1 h2 => ⟨Jv (fun h => by simp [Value.ownBlock] at h) jY, BX, GO AA, GO AA, LA AA, FV (CY AA), FV (CY AA), FV (CY AA), OP AA, BX⟩) O (e7 E).1 (by have := f9; have := f7; unfold maxLen at *; simp only [List.length_cons, List.length_nil]; have := IG D; omega) (by have := IG D; simp only [List.length_cons, List.length_nil]; omega) (Nat.le_of_lt (Bx.lt x7)) ?_)
 intro v6 w6 E
 refine yG ?_
 refine EF O (CC OQ O (wA _ ([[118, 97, 114, 115]] ++ v) 32 _ (Acc.low E.1.1) (by have := mV D; unfold cX vaB at this; simp only [List.cons_append, List.nil_append]; omega) (by have := IG D; simp only [List.cons_append, List.nil_append, List.length_cons]; omega)) O E ?_)
 intro w8 d8 E
 refine yG ?_
 replace E := YE E
 have fc := E.1
 replace E := YE E
 have dp := E.2.1
 replace E := QP E
 refine EF O (FJ (s := (jn 32 ([[118, 97, 114, 115]] ++ v)) ++ ([10])) O O O dp fc.1 (.inl O) (by simp only [List.length_cons, List.length_nil, List.length_append]; omega) (CS E.1) E ⟨BX, GO AA, LA AA, FV (CY AA), FV (CY AA), FV (CY AA), OP AA, BX⟩ (fun g hg h1 h2 => ⟨BX, GO AA, LA AA, FV (CY AA), FV (CY AA), FV (CY AA), OP AA, BX⟩) ?_)
 intro ee gw h5 E
 refine yG ?_
 refine sE E [0,1,2,3,4,5] ?_
 replace E := E.drew
 refine yG ?_
 refine wp_loop_ghost (fun mz a w' => ∃ (i : Nat) (k : Nat) (done : List (Bool × En)) (a5 : Option Addr) (cE : Nat) (a4 : Option Addr) (cN : Nat) (pr : Value) (vr : Value) (lr : Bs) (a0 : List Value), a0 = a.tmps.toList /\ a = ⟨(.agg #[.slice a7 v.length I, .slice a9 q.length L, .slice a8 r.length J, .int .i64 ↑n] :: .pointer (some ⟨b1, 0, none⟩) :: (CJ a0 2) :: (CJ a0 3) :: .pointer (some ⟨b3, 0, none⟩) :: .slice a5 (q.length - i) cE :: .slice a4 (r.length - k) cN :: gr a0 7 4 (.agg #[.slice a7 v.length I, .slice a9 q.length L, .slice a8 r.length J, .int .i64 ↑n] :: .bool true :: .bool false :: .slice (some ⟨b5, 0, none⟩) 1 1 :: .pointer (some ⟨b1, 0, none⟩) :: .slice a7 v.length I :: v6 :: .string (bs (jn 32 ([[118, 97, 114, 115]] ++ v))) :: .string (bs ((jn 32 ([[118, 97, 114, 115]] ++ v)) ++ ([10]))) :: .tuple #[.int .i64 ↑(((jn 32 ([[118, 97, 114, 115]] ++ v)) ++ ([10])).length), .nilIface] :: .pointer (some ⟨b1, 1, none⟩) :: .slice a9 q.length L :: .pointer (some ⟨b1, 2, none⟩) :: .slice a8 r.length J :: gr a0 25 62 [])).toArray, []⟩ /\ Env w' [fA elB 5 F WW vr lr, fX b3 (105) ([pr, vr]), fR RB (DL w.heap.size) (.slice a5 (q.length - i) cE) (q.drop i), fR RB (DL w.heap.size) (.slice a4 (r.length - k) cN) (r.drop k), iR F, fX b1 (48) ([.slice a7 v.length I, .slice a9 q.length L, .slice a8 r.length J, .int .i64 ↑n]), fGl, fR elS (DL w.heap.size) (.slice a7 v.length I) v, fW w] /\ mz = (q.length + r.length - (i + k)) /\ (i <= q.length /\ k <= r.length /\ PrTo ⟨v, q, r, n⟩ i k done /\ (pr = .pointer none ∨ pr = .pointer (some ⟨b3, 0, none⟩)) /\ lr = cX v ++ 10 :: cU v done /\ lr.length <= 100 + (i + k) * 5000)) ((q.length + r.length)) ⟨0, 0, [], a9, L, a8, J, (.pointer (some ⟨b3, 0, none⟩)), ee, (([]) ++ ((jn 32 ([[118, 97, 114, 115]] ++ v)) ++ ([10]))), _, O, O, zE, O, ⟨Nat.zero_le _, Nat.zero_le _, PrTo.zero _, .inr O, by simp [cU, cX, vaB], by have := mV D; unfold cX vaB at this; simp only [List.length_append, List.length_cons, List.length_nil, List.cons_append, List.nil_append] at this ⊢; omega⟩⟩ ?_
 rintro h6 _ gv ⟨i, k, done, a5, cE, a4, cN, pr, vr, lr, a0, -, rfl, E, aa, ce⟩
 dsimp only [gr, Nat.reduceAdd]
 obtain ⟨hc, hb, a1, ax, aw, ha⟩ := ce
 by_cases hi : i < q.length
 case neg =>
  by_cases hk : k < r.length
  case neg =>
   obtain ⟨f8, f5⟩ := a1.full hV hi hk
   have a6 := ZV cb
   refine yG ?_
   refine EF O (CC KE O (jN n _ AA (e6 E).1) O E ?_)
   intro g1 hh E
   have cf := E.1
   refine yG ?_
   replace E := YE E
   have dj := E.1
   replace E := YE E
   refine EF O (FJ (s := (([110, 101, 120, 116, 32]) ++ (txt ((n : Nat) : Int))) ++ ([10])) O O O dj cf.1 ax Ys2 (CS E.2.2.1) E ⟨FV (CY AA), FV (CY AA), BX, GO AA, LA AA, FV (CY AA), OP AA, BX⟩ (fun g hg h1 h2 => ⟨FV (CY AA), FV (CY AA), BX, GO AA, LA AA, FV (CY AA), OP AA, BX⟩) ?_)
   intro gx g0 gy E
   refine yG ?_
   refine EF O (CZ ⟨_, func51, by kernel_rfl, O⟩ O (Ah (B := w.heap.size) E.2.1 E.1.1 (.inr O) AA AA (e8 E).size) O ?_)
   rintro _ dq ⟨rfl, ff⟩
   refine ⟨_, O, ?_⟩
   replace E : Env dq [fW w] := ⟨Below.trans (e8 E) ff, BX⟩
   refine yG ?_
   exact ⟨WM (a := lr ++ ((([110, 101, 120, 116, 32]) ++ (txt ((n : Nat) : Int))) ++ ([10]))) (n := 0) (by rw [f5, <- Um f8 aw]; rfl), E.1⟩
  obtain ⟨⟨y, P⟩, ar⟩ : ∃ x, (r.drop k)[0]? = some x := ⟨_, List.getElem?_eq_getElem YL8⟩
  obtain ⟨al, ek, _, a3, b0, c0, ⟨_, rfl, av⟩⟩ := IsR.at (e3 E).1 ar
  obtain ⟨ap, an, rfl, ca, _⟩ := av.shp
  have bw : al < _ := (e3 E).2 _ b0
  replace E := (E.r av (e3 E).2).c c0 bw
  have fb : al < w.heap.size := b0
  have H := gW ar
  have U : dP ⟨v, q, r, n⟩ i k (true, y, P) := .inr ⟨rfl, H, .inl hi⟩
  obtain ⟨Q, T, R⟩ := uA hOr H
  obtain ⟨X, C⟩ := ay (y, P) (.inr (List.mem_of_getElem? H))
  by_cases f : 4000 < (GR v P).length
  case pos =>
   refine yG ?_
   refine EF O (BZ LS O ?_)
   intro c2 g7 bj fs fh ad
   have cq : (vr : Value).ownBlock ≠ some c2 := fun h => by have := (Acc.lt E.2.2.1.1 h).2; omega
   have ew : b3 < c2 := by rw [bj]; exact Bx.lt (e3 E)
   have cw : F <= c2 := by rw [bj]; exact CS (e6 E)
   replace E := E.below fh
   refine yG ?_
   refine sE E [0,1,2,3,4,5,6,7,8,9,10,11,12,13,14,15,16,17,18] ?_
   replace E := E.drew
   replace ad := Bx.drew ad
   refine yG ?_
   refine sE E [0,1,2,3,4,5,6,7] ?_
   replace E := E.drew
   replace ad := Bx.drew ad
   refine yG ?_
   refine iC (j := 0) O O O a3 O AA ?_
   refine SW O O O O O (fun w Y => CE LS O O ((Y.1).1) O) ?_
   obtain ⟨cm, b9⟩ : ∃ a, Ba a4 (1 * 2) (decide (cN = 1)) = a := ⟨_, rfl⟩
   refine yG ?_
   refine SW (v := .slice cm ((r.length - k) - 1) (cN - 1)) O O O O O (fun w Y => FK (i := 1) O underlying46 Z O O O Y9E b9) ?_
   refine yG ?_
   refine GG (o := ⟨none, _, _, _, _, _⟩) O O O O (BY LS O O O ad O O (CG O (CG O DP)) ?_)
   intro dt em db
   replace E := oY E ad em db (ds := [.int .i64 ↑y, .slice ap P.length an])
   refine ⟨E.2, ?_⟩
   refine yG ?_
   replace E := E.r (e := RB) (S := DL w.heap.size) (by have t := MF (e6 E).1 Y9E b9; rw [List.drop_drop] at t; exact t) ((e6 E).2)
   refine yG ?_
   refine EF O (CC GI O ((by have p := XA _ P _ v dt (BW (e3 E)) (BW (RC E)) Q T R hL (RD E).1; rw [gA D C f] at p; exact p)) O E ?_)
   exact Zjg
  refine yG ?_
  refine EF O (BZ LS O ?_)
  intro c1 g5 bi fr fg ac
  have b2 : (vr : Value).ownBlock ≠ some c1 := fun h => by have := (Acc.lt E.2.2.1.1 h).2; omega
  have ev : b3 < c1 := by rw [bi]; exact Bx.lt (e3 E)
  have cv : F <= c1 := by rw [bi]; exact CS (e6 E)
  replace E := E.below fg
  refine yG ?_
  refine sE E [0,1,2,3,4,5,6,7,8,9,10,11,12,13,14,15,16,17,18] ?_
  replace E := E.drew
  replace ac := Bx.drew ac
  refine yG ?_
  refine sE E [0,1,2,3,4,5,6,7] ?_
  replace E := E.drew
  replace ac := Bx.drew ac
  refine yG ?_
  refine iC (j := 0) O O O a3 O AA ?_
  refine SW O O O O O (fun w Y => CE LS O O ((Y.1).1) O) ?_
  obtain ⟨bq, b8⟩ : ∃ a, Ba a4 (1 * 2) (decide (cN = 1)) = a := ⟨_, rfl⟩
  refine yG ?_
  refine SW (v := .slice bq ((r.length - k) - 1) (cN - 1)) O O O O O (fun w Y => FK (i := 1) O underlying46 Z O O O Y9E b8) ?_
  refine yG ?_
  refine GG (o := ⟨none, _, _, _, _, _⟩) O O O O (BY LS O O O ac O O (CG O (CG O DP)) ?_)
  intro dr el da
  replace E := oY E ac el da (ds := [.int .i64 ↑y, .slice ap P.length an])
  refine ⟨E.2, ?_⟩
  refine yG ?_
  replace E := E.r (e := RB) (S := DL w.heap.size) (by have t := MF (e6 E).1 Y9E b8; rw [List.drop_drop] at t; exact t) ((e6 E).2)
  refine yG ?_
  refine EF O (CC GI O ((by have p := XA _ P _ v dr (BW (e3 E)) (BW (RC E)) Q T R hL (RD E).1; rw [bT D C f] at p; exact p)) O E ?_)
  intro g4 hl E
  have a6 := ZV X
  refine yG ?_
  dsimp only at a6
  refine yG ?_
  refine EF O (CC KE O (jN y _ AA (RD E).1) O E ?_)
  intro g3 hj E
  have cg := e4 E
  refine yG ?_
  replace E := jI E
  have dk := e4 E
  replace E := jI E
  have ef := Bx.lt E.2.1
  refine EF O (FJ (s := (((txt ((y : Nat) : Int)) ++ ([58, 32])) ++ (GR v P)) ++ ([32, 33, 61, 32, 48, 10])) O O O dk cg.1 ax Ys2 (CS (e6 E)) E ⟨FV (CY AA), GO AA, TJ AA, FV (CY AA), FV (CY AA), FV (CY AA), BX, GO AA, LA AA, FV (CY AA), OP AA, BX⟩ (fun g hg h1 h2 => ⟨FV (CY AA), GO (fun e => b2 (e ▸ hg)), TJ AA, FV (CY AA), FV (CY AA), FV (CY AA), BX, GO AA, LA AA, FV (CY AA), OP AA, BX⟩) ?_)
  intro ea g2 gz E
  refine yG ?_
  exact ⟨_, (by rw [aa]; omega), i, (k + 1), (done ++ [(true, y, P)]), a5, cE, bq, (cN - 1), (.pointer (some ⟨b3, 0, none⟩)), ea, (lr ++ ((((txt ((y : Nat) : Int)) ++ ([58, 32])) ++ (GR v P)) ++ ([32, 33, 61, 32, 48, 10]))), _, O, O, zE, O, ⟨by omega, by omega, a1.step U f, .inr O, lU (e := (true, y, P)) aw Yiu, by (try simp only [List.length_append, List.length_cons, List.length_nil]); omega⟩⟩
 by_cases hk : k < r.length
 case neg =>
  obtain ⟨⟨u, N⟩, aq⟩ : ∃ x, (q.drop i)[0]? = some x := ⟨_, List.getElem?_eq_getElem YL8⟩
  obtain ⟨ak, ej, _, a2, az, bx, ⟨_, rfl, au⟩⟩ := IsR.at E.2.2.1.1 aq
  obtain ⟨ao, am, rfl, c9, _⟩ := au.shp
  have bv : ak < _ := E.2.2.1.2 _ az
  replace E := (E.r au E.2.2.1.2).c bx bv
  have fa : ak < w.heap.size := az
  have G := gW aq
  have U : dP ⟨v, q, r, n⟩ i k (false, u, N) := .inl ⟨rfl, G, .inl hk⟩
  obtain ⟨Q, T, R⟩ := uA hOq G
  obtain ⟨X, C⟩ := ay (u, N) (.inl (List.mem_of_getElem? G))
  by_cases f : 4000 < (GR v N).length
  case pos =>
   refine yG ?_
   refine EF O (BZ LS O ?_)
   intro c4 ge bl fu fj af
   have cr : (vr : Value).ownBlock ≠ some c4 := fun h => by have := (Acc.lt E.2.2.1.1 h).2; omega
   have ey : b3 < c4 := by rw [bl]; exact Bx.lt (e3 E)
   have cy : F <= c4 := by rw [bl]; exact CS (e6 E)
   replace E := E.below fj
   refine yG ?_
   refine sE E [0,1,2,3,4,5,6,7,8,9,10,11,12,13,14,15,16,17,18] ?_
   replace E := E.drew
   replace af := Bx.drew af
   refine yG ?_
   refine sE E [0,1,2,3,4,5,6,7] ?_
   replace E := E.drew
   replace af := Bx.drew af
   refine yG ?_
   refine iC (j := 0) O O O a2 O AA ?_
   refine SW O O O O O (fun w Y => CE LS O O ((Y.1).1) O) ?_
   obtain ⟨cn, bb⟩ : ∃ a, Ba a5 (1 * 2) (decide (cE = 1)) = a := ⟨_, rfl⟩
   refine yG ?_
   refine SW (v := .slice cn ((q.length - i) - 1) (cE - 1)) O O O O O (fun w Y => FK (i := 1) O underlying46 Z O O O Y9E bb) ?_
   refine yG ?_
   refine GG (o := ⟨none, _, _, _, _, _⟩) O O O O (BY LS O O O af O O (CG O (CG O DP)) ?_)
   intro dv eo dd
   replace E := oY E af eo dd (ds := [.int .i64 ↑u, .slice ao N.length am])
   refine ⟨E.2, ?_⟩
   refine yG ?_
   replace E := E.r (e := RB) (S := DL w.heap.size) (by have t := MF (e5 E).1 Y9E bb; rw [List.drop_drop] at t; exact t) ((e5 E).2)
   refine yG ?_
   refine EF O (CC GI O ((by have p := XA _ N _ v dv (BW (e3 E)) (BW (RC E)) Q T R hL (RD E).1; rw [gA D C f] at p; exact p)) O E ?_)
   exact Zjg
  refine yG ?_
  refine EF O (BZ LS O ?_)
  intro c3 gb bk ft fi ae
  have b4 : (vr : Value).ownBlock ≠ some c3 := fun h => by have := (Acc.lt E.2.2.1.1 h).2; omega
  have ex : b3 < c3 := by rw [bk]; exact Bx.lt (e3 E)
  have cx : F <= c3 := by rw [bk]; exact CS (e6 E)
  replace E := E.below fi
  refine yG ?_
  refine sE E [0,1,2,3,4,5,6,7,8,9,10,11,12,13,14,15,16,17,18] ?_
  replace E := E.drew
  replace ae := Bx.drew ae
  refine yG ?_
  refine sE E [0,1,2,3,4,5,6,7] ?_
  replace E := E.drew
  replace ae := Bx.drew ae
  refine yG ?_
  refine iC (j := 0) O O O a2 O AA ?_
  refine SW O O O O O (fun w Y => CE LS O O ((Y.1).1) O) ?_
  obtain ⟨br, ba⟩ : ∃ a, Ba a5 (1 * 2) (decide (cE = 1)) = a := ⟨_, rfl⟩
  refine yG ?_
  refine SW (v := .slice br ((q.length - i) - 1) (cE - 1)) O O O O O (fun w Y => FK (i := 1) O underlying46 Z O O O Y9E ba) ?_
  refine yG ?_
  refine GG (o := ⟨none, _, _, _, _, _⟩) O O O O (BY LS O O O ae O O (CG O (CG O DP)) ?_)
  intro du en dc
  replace E := oY E ae en dc (ds := [.int .i64 ↑u, .slice ao N.length am])
  refine ⟨E.2, ?_⟩
  refine yG ?_
  replace E := E.r (e := RB) (S := DL w.heap.size) (by have t := MF (e5 E).1 Y9E ba; rw [List.drop_drop] at t; exact t) ((e5 E).2)
  refine yG ?_
  refine EF O (CC GI O ((by have p := XA _ N _ v du (BW (e3 E)) (BW (RC E)) Q T R hL (RD E).1; rw [bT D C f] at p; exact p)) O E ?_)
  intro ga ho E
  have a6 := ZV X
  refine yG ?_
  dsimp only at a6
  refine yG ?_
  refine EF O (CC KE O (jN u _ AA (RD E).1) O E ?_)
  intro g9 hn E
  have ch := e4 E
  refine yG ?_
  replace E := jI E
  have dl := e4 E
  replace E := jI E
  have eg := Bx.lt E.2.1
  refine EF O (FJ (s := (((txt ((u : Nat) : Int)) ++ ([58, 32])) ++ (GR v N)) ++ ([32, 61, 32, 48, 10])) O O O dl ch.1 ax Ys2 (CS (e6 E)) E ⟨FV (CY AA), GO AA, TJ AA, FV (CY AA), FV (CY AA), FV (CY AA), BX, GO AA, LA AA, FV (CY AA), OP AA, BX⟩ (fun g hg h1 h2 => ⟨FV (CY AA), GO (fun e => b4 (e ▸ hg)), TJ AA, FV (CY AA), FV (CY AA), FV (CY AA), BX, GO AA, LA AA, FV (CY AA), OP AA, BX⟩) ?_)
  intro eb g8 h0 E
  refine yG ?_
  exact ⟨_, (by rw [aa]; omega), (i + 1), k, (done ++ [(false, u, N)]), br, (cE - 1), a4, cN, (.pointer (some ⟨b3, 0, none⟩)), eb, (lr ++ ((((txt ((u : Nat) : Int)) ++ ([58, 32])) ++ (GR v N)) ++ ([32, 61, 32, 48, 10]))), _, O, O, zE, O, ⟨by omega, by omega, a1.step U f, .inr O, lU (e := (false, u, N)) aw Yiu, by (try simp only [List.length_append, List.length_cons, List.length_nil]); omega⟩⟩
 obtain ⟨⟨u, N⟩, aq⟩ : ∃ x, (q.drop i)[0]? = some x := ⟨_, List.getElem?_eq_getElem YL8⟩
 obtain ⟨ak, ej, _, a2, az, bx, ⟨_, rfl, au⟩⟩ := IsR.at E.2.2.1.1 aq
 obtain ⟨ao, am, rfl, c9, _⟩ := au.shp
 have bv : ak < _ := E.2.2.1.2 _ az
 replace E := (E.r au E.2.2.1.2).c bx bv
 have fa : ak < w.heap.size := az
 have G := gW aq
 obtain ⟨⟨y, P⟩, ar⟩ : ∃ x, (r.drop k)[0]? = some x := ⟨_, List.getElem?_eq_getElem YL8⟩
 obtain ⟨al, ek, _, a3, b0, c0, ⟨_, rfl, av⟩⟩ := IsR.at (e5 E).1 ar
 obtain ⟨ap, an, rfl, ca, _⟩ := av.shp
 have bw : al < _ := (e5 E).2 _ b0
 replace E := (E.r av (e5 E).2).c c0 bw
 have fb : al < w.heap.size := b0
 have H := gW ar
 by_cases cd : u < y
 case pos =>
  have U : dP ⟨v, q, r, n⟩ i k (false, u, N) := .inl ⟨rfl, G, .inr ⟨_, H, cd⟩⟩
  obtain ⟨Q, T, R⟩ := uA hOq G
  obtain ⟨X, C⟩ := ay (u, N) (.inl (List.mem_of_getElem? G))
  by_cases f : 4000 < (GR v N).length
  case pos =>
   refine yG ?_
   refine EF O (BZ LS O ?_)
   intro c8 gu bp fy fn aj
   have cu : (vr : Value).ownBlock ≠ some c8 := fun h => by have := (Acc.lt (e4 E).1 h).2; omega
   have f2 : b3 < c8 := by rw [bp]; exact Bx.lt (e5 E)
   have d6 : F <= c8 := by rw [bp]; exact CS (e8 E)
   replace E := E.below fn
   refine yG ?_
   refine sE E [0,1,2,3,4,5,6,7,8,9,10,11,12,13,14,15,16,17,18] ?_
   replace E := E.drew
   replace aj := Bx.drew aj
   refine yG ?_
   refine iC (j := 0) O O O a2 O AA ?_
   refine yG ?_
   refine iC (j := 0) O O O a3 O AA ?_
   refine yG ?_
   refine sE E [0,1,2,3,4,5,6,7] ?_
   replace E := E.drew
   replace aj := Bx.drew aj
   refine yG ?_
   refine iC (j := 0) O O O a2 O AA ?_
   refine SW O O O O O (fun w Y => CE LS O O ((Y.2.2.1).1) O) ?_
   obtain ⟨cp, bh⟩ : ∃ a, Ba a5 (1 * 2) (decide (cE = 1)) = a := ⟨_, rfl⟩
   refine yG ?_
   refine SW (v := .slice cp ((q.length - i) - 1) (cE - 1)) O O O O O (fun w Y => FK (i := 1) O underlying46 Z O O O Y9E bh) ?_
   refine yG ?_
   refine GG (o := ⟨none, _, _, _, _, _⟩) O O O O (BY LS O O O aj O O (CG O (CG O DP)) ?_)
   intro dz et di
   replace E := oY E aj et di (ds := [.int .i64 ↑u, .slice ao N.length am])
   refine ⟨E.2, ?_⟩
   refine yG ?_
   replace E := E.r (e := RB) (S := DL w.heap.size) (by have t := MF (e7 E).1 Y9E bh; rw [List.drop_drop] at t; exact t) ((e7 E).2)
   refine yG ?_
   refine EF O (CC GI O ((by have p := XA _ N _ v dz (BW (e5 E)) (BW (XX E)) Q T R hL (WE E).1; rw [gA D C f] at p; exact p)) O E ?_)
   exact ZQO
  refine yG ?_
  refine EF O (BZ LS O ?_)
  intro c7 gq bo fx fm ai
  have b7 : (vr : Value).ownBlock ≠ some c7 := fun h => by have := (Acc.lt (e4 E).1 h).2; omega
  have f1 : b3 < c7 := by rw [bo]; exact Bx.lt (e5 E)
  have d4 : F <= c7 := by rw [bo]; exact CS (e8 E)
  replace E := E.below fm
  refine yG ?_
  refine sE E [0,1,2,3,4,5,6,7,8,9,10,11,12,13,14,15,16,17,18] ?_
  replace E := E.drew
  replace ai := Bx.drew ai
  refine yG ?_
  refine iC (j := 0) O O O a2 O AA ?_
  refine yG ?_
  refine iC (j := 0) O O O a3 O AA ?_
  refine yG ?_
  refine sE E [0,1,2,3,4,5,6,7] ?_
  replace E := E.drew
  replace ai := Bx.drew ai
  refine yG ?_
  refine iC (j := 0) O O O a2 O AA ?_
  refine SW O O O O O (fun w Y => CE LS O O ((Y.2.2.1).1) O) ?_
  obtain ⟨bu, bg⟩ : ∃ a, Ba a5 (1 * 2) (decide (cE = 1)) = a := ⟨_, rfl⟩
  refine yG ?_
  refine SW (v := .slice bu ((q.length - i) - 1) (cE - 1)) O O O O O (fun w Y => FK (i := 1) O underlying46 Z O O O Y9E bg) ?_
  refine yG ?_
  refine GG (o := ⟨none, _, _, _, _, _⟩) O O O O (BY LS O O O ai O O (CG O (CG O DP)) ?_)
  intro dy es dh
  replace E := oY E ai es dh (ds := [.int .i64 ↑u, .slice ao N.length am])
  refine ⟨E.2, ?_⟩
  refine yG ?_
  replace E := E.r (e := RB) (S := DL w.heap.size) (by have t := MF (e7 E).1 Y9E bg; rw [List.drop_drop] at t; exact t) ((e7 E).2)
  refine yG ?_
  refine EF O (CC GI O ((by have p := XA _ N _ v dy (BW (e5 E)) (BW (XX E)) Q T R hL (WE E).1; rw [bT D C f] at p; exact p)) O E ?_)
  intro gp hu E
  have a6 := ZV X
  refine yG ?_
  dsimp only at a6
  refine yG ?_
  refine EF O (CC KE O (jN u _ AA (WE E).1) O E ?_)
  intro gn ht E
  have cj := e6 E
  refine yG ?_
  replace E := dW E
  have dn := e6 E
  replace E := dW E
  have ei := Bx.lt E.2.1
  refine EF O (FJ (s := (((txt ((u : Nat) : Int)) ++ ([58, 32])) ++ (GR v N)) ++ ([32, 61, 32, 48, 10])) O O O dn cj.1 ax Ys2 (CS (e8 E)) E ⟨FV (CY AA), GO AA, TJ AA, FV (CY AA), TJ AA, FV (CY AA), FV (CY AA), FV (CY AA), BX, GO AA, LA AA, FV (CY AA), OP AA, BX⟩ (fun g hg h1 h2 => ⟨FV (CY AA), GO (fun e => b7 (e ▸ hg)), TJ AA, FV (CY AA), TJ AA, FV (CY AA), FV (CY AA), FV (CY AA), BX, GO AA, LA AA, FV (CY AA), OP AA, BX⟩) ?_)
  intro ed gm h4 E
  refine yG ?_
  exact ⟨_, (by rw [aa]; omega), (i + 1), k, (done ++ [(false, u, N)]), bu, (cE - 1), a4, cN, (.pointer (some ⟨b3, 0, none⟩)), ed, (lr ++ ((((txt ((u : Nat) : Int)) ++ ([58, 32])) ++ (GR v N)) ++ ([32, 61, 32, 48, 10]))), _, O, O, zE, O, ⟨by omega, by omega, a1.step U f, .inr O, lU (e := (false, u, N)) aw Yiu, by (try simp only [List.length_append, List.length_cons, List.length_nil]); omega⟩⟩
 have U : dP ⟨v, q, r, n⟩ i k (true, y, P) := .inr ⟨rfl, H, .inr ⟨_, G, cd⟩⟩
 obtain ⟨Q, T, R⟩ := uA hOr H
 obtain ⟨X, C⟩ := ay (y, P) (.inr (List.mem_of_getElem? H))
 by_cases f : 4000 < (GR v P).length
 case pos =>
  refine yG ?_
  refine EF O (BZ LS O ?_)
  intro c6 gk bn fw fl ah
  have ct : (vr : Value).ownBlock ≠ some c6 := fun h => by have := (Acc.lt (e4 E).1 h).2; omega
  have f0 : b3 < c6 := by rw [bn]; exact Bx.lt (e5 E)
  have d0 : F <= c6 := by rw [bn]; exact CS (e8 E)
  replace E := E.below fl
  refine yG ?_
  refine sE E [0,1,2,3,4,5,6,7,8,9,10,11,12,13,14,15,16,17,18] ?_
  replace E := E.drew
  replace ah := Bx.drew ah
  refine yG ?_
  refine iC (j := 0) O O O a2 O AA ?_
  refine yG ?_
  refine iC (j := 0) O O O a3 O AA ?_
  refine yG ?_
  refine sE E [0,1,2,3,4,5,6,7] ?_
  replace E := E.drew
  replace ah := Bx.drew ah
  refine yG ?_
  refine iC (j := 0) O O O a3 O AA ?_
  refine SW O O O O O (fun w Y => CE LS O O ((Y.1).1) O) ?_
  obtain ⟨co, bf⟩ : ∃ a, Ba a4 (1 * 2) (decide (cN = 1)) = a := ⟨_, rfl⟩
  refine yG ?_
  refine SW (v := .slice co ((r.length - k) - 1) (cN - 1)) O O O O O (fun w Y => FK (i := 1) O underlying46 Z O O O Y9E bf) ?_
  refine yG ?_
  refine GG (o := ⟨none, _, _, _, _, _⟩) O O O O (BY LS O O O ah O O (CG O (CG O DP)) ?_)
  intro dx er dg
  replace E := oY E ah er dg (ds := [.int .i64 ↑y, .slice ap P.length an])
  refine ⟨E.2, ?_⟩
  refine yG ?_
  replace E := E.r (e := RB) (S := DL w.heap.size) (by have t := MF (e8 E).1 Y9E bf; rw [List.drop_drop] at t; exact t) ((e8 E).2)
  refine yG ?_
  refine EF O (CC GI O ((by have p := XA _ P _ v dx (BW (e3 E)) (BW (XX E)) Q T R hL (WE E).1; rw [gA D C f] at p; exact p)) O E ?_)
  exact ZQO
 refine yG ?_
 refine EF O (BZ LS O ?_)
 intro c5 gi bm fv fk ag
 have b6 : (vr : Value).ownBlock ≠ some c5 := fun h => by have := (Acc.lt (e4 E).1 h).2; omega
 have ez : b3 < c5 := by rw [bm]; exact Bx.lt (e5 E)
 have cz : F <= c5 := by rw [bm]; exact CS (e8 E)
 replace E := E.below fk
 refine yG ?_
 refine sE E [0,1,2,3,4,5,6,7,8,9,10,11,12,13,14,15,16,17,18] ?_
 replace E := E.drew
 replace ag := Bx.drew ag
 refine yG ?_
 refine iC (j := 0) O O O a2 O AA ?_
 refine yG ?_
 refine iC (j := 0) O O O a3 O AA ?_
 refine yG ?_
 refine sE E [0,1,2,3,4,5,6,7] ?_
 replace E := E.drew
 replace ag := Bx.drew ag
 refine yG ?_
 refine iC (j := 0) O O O a3 O AA ?_
 refine SW O O O O O (fun w Y => CE LS O O ((Y.1).1) O) ?_
 obtain ⟨bt, bc⟩ : ∃ a, Ba a4 (1 * 2) (decide (cN = 1)) = a := ⟨_, rfl⟩
 refine yG ?_
 refine SW (v := .slice bt ((r.length - k) - 1) (cN - 1)) O O O O O (fun w Y => FK (i := 1) O underlying46 Z O O O Y9E bc) ?_
 refine yG ?_
 refine GG (o := ⟨none, _, _, _, _, _⟩) O O O O (BY LS O O O ag O O (CG O (CG O DP)) ?_)
 intro dw ep de
 replace E := oY E ag ep de (ds := [.int .i64 ↑y, .slice ap P.length an])
 refine ⟨E.2, ?_⟩
 refine yG ?_
 replace E := E.r (e := RB) (S := DL w.heap.size) (by have t := MF (e8 E).1 Y9E bc; rw [List.drop_drop] at t; exact t) ((e8 E).2)
 refine yG ?_
 refine EF O (CC GI O ((by have p := XA _ P _ v dw (BW (e3 E)) (BW (XX E)) Q T R hL (WE E).1; rw [bT D C f] at p; exact p)) O E ?_)
 intro gh hr E
 have a6 := ZV X
 refine yG ?_
 dsimp only at a6
 refine yG ?_
 refine EF O (CC KE O (jN y _ AA (WE E).1) O E ?_)
 intro gg hq E
 have ci := e6 E
 refine yG ?_
 replace E := dW E
 have dm := e6 E
 replace E := dW E
 have eh := Bx.lt E.2.1
 refine EF O (FJ (s := (((txt ((y : Nat) : Int)) ++ ([58, 32])) ++ (GR v P)) ++ ([32, 33, 61, 32, 48, 10])) O O O dm ci.1 ax Ys2 (CS (e8 E)) E ⟨FV (CY AA), GO AA, TJ AA, FV (CY AA), TJ AA, FV (CY AA), FV (CY AA), FV (CY AA), BX, GO AA, LA AA, FV (CY AA), OP AA, BX⟩ (fun g hg h1 h2 => ⟨FV (CY AA), GO (fun e => b6 (e ▸ hg)), TJ AA, FV (CY AA), TJ AA, FV (CY AA), FV (CY AA), FV (CY AA), BX, GO AA, LA AA, FV (CY AA), OP AA, BX⟩) ?_)
 intro ec gf h3 E
 refine yG ?_
 exact ⟨_, (by rw [aa]; omega), i, (k + 1), (done ++ [(true, y, P)]), a5, cE, bt, (cN - 1), (.pointer (some ⟨b3, 0, none⟩)), ec, (lr ++ ((((txt ((y : Nat) : Int)) ++ ([58, 32])) ++ (GR v P)) ++ ([32, 33, 61, 32, 48, 10]))), _, O, O, zE, O, ⟨by omega, by omega, a1.step U f, .inr O, lU (e := (true, y, P)) aw Yiu, by (try simp only [List.length_append, List.length_cons, List.length_nil]); omega⟩⟩
section
variable {ρ : Operand -> Value} {o : Oper} {w : World}
theorem Nj {s t : ByteArray} (ho : o.op = .buildSlice 30 2 #[(0, x), (1, y)]) (hx : ρ x = .string s) (hy : ρ y = .string t) :
 (execOp ρ o).run prog w = .ok (.value (.slice (some ⟨w.heap.size, 0, none⟩) 2 2)) (w.alloc (.cells #[.string s, .string t] 9)) := by
 unfold execOp; rw [ho]
 simp [go_sem, Instr.buildSlice, hx, hy]
theorem jT (ho : o.op = .build 67 #[(0, x), (1, y)]) (hx : ρ x = .int .i64 ↑a) (hy : ρ y = .int .i64 ↑b) :
 (execOp ρ o).run prog w = .ok (.value (.agg (IQ [a, b, 0, 0, 0, 0, 0, 0]).toArray)) w := by
 unfold execOp; rw [ho]
 have e : (zeroValue 67).run prog w = .ok (.agg #[.int .i64 0, .int .i64 0, .int .i64 0, .int .i64 0, .int .i64 0, .int .i64 0, .int .i64 0, .int .i64 0]) w := by kernel_rfl
 simp [go_sem, e, hx, hy, IQ]
theorem xG {a b : Int} (ho : o.op = .build 79 #[(0, x), (1, y)]) (hx : ρ x = .int .i8 a) (hy : ρ y = .int .i8 b) :
 (execOp ρ o).run prog w = .ok (.value (.agg #[.int .i8 a, .int .i8 b, .int .u8 0])) w := by
 unfold execOp; rw [ho]
 have e : (zeroValue 79).run prog w = .ok (.agg #[.int .i8 0, .int .i8 0, .int .u8 0]) w := by kernel_rfl
 simp [go_sem, e, hx, hy]
theorem xE {z u : Operand} {ao bo co : Option Addr} {c k' c' k'' c'' : Nat} {n : Int} (ho : o.op = .build 48 #[(0, x), (1, y), (2, z), (3, u)]) (hx : ρ x = .slice ao k c) (hy : ρ y = .slice bo k' c') (hz : ρ z = .slice co k'' c'') (hu : ρ u = .int .i64 n) :
 (execOp ρ o).run prog w = .ok (.value (.agg #[.slice ao k c, .slice bo k' c', .slice co k'' c'', .int .i64 n])) w := by
 unfold execOp; rw [ho]
 simp [go_sem, hx, hy, hz, hu]
end
section
variable {o : Oper} {a : Act} {w : World} {K : Act -> World -> Prop} {Q : Exit -> Act -> World -> Prop}
theorem iJ {s t : Bs} (ho : o.op = .buildSlice 30 2 #[(0, x), (1, y)]) (hx : a.eval x = .string (bs s)) (hy : a.eval y = .string (bs t))
 (h : ∀ b w', b = w.heap.size -> w'.heap.size = w.heap.size + 1 -> Below w.heap.size w w' -> Bx w' b 9 [.string (bs s), .string (bs t)] -> K (a.put o.dst (.slice (some ⟨b, 0, none⟩) 2 2)) w') : o.wp prog a w K Q :=
 DV (Nj ho hx hy) (h _ _ rfl AH ((Below.refl _ _).alloc (Nat.le_refl _) _) (KS w _ [.string (bs s), .string (bs t)]))
end
theorem QM {P : Program} {f : Nat} {o : Oper} {a : Act} {w : World} {K : Act -> World -> Prop} {Q : Exit -> Act -> World -> Prop} {args : List Operand} {tys : Array TypeId} {vs : List Value} {L : List SF} {r : Ps} (hf : Fn P f)
 (ho : o.op = .call { callee := .value (.func f), args := args.toArray, argTypes := tys }) (hc : Calls P f vs.toArray w (Hv w r)) (hv : args.map a.eval = vs) (E : Env w L)
 (h : ∀ w' aov lv cv aoe le ce aon ln cn, Below w.heap.size w w' -> lv = r.1.vars.length -> le = r.1.eqs.length -> ln = r.1.neqs.length ->
   Env w' (fR elS (EM w.heap.size w'.heap.size) (.slice aov lv cv) r.1.vars :: fR RB (EM w.heap.size w'.heap.size) (.slice aoe le ce) r.1.eqs :: fR RB (EM w.heap.size w'.heap.size) (.slice aon ln cn) r.1.neqs :: L) ->
   K (a.put o.dst (.tuple #[.agg #[.slice aov lv cv, .slice aoe le ce, .slice aon ln cn, .int .i64 ↑r.1.next], .int .i64 ↑r.2.1, .int .i64 ↑r.2.2])) w') : o.wp P a w K Q := by
 refine CZ hf ho hc hv ?_
 rintro e w' ⟨_, rfl, ⟨t, v, u, rfl, q, p, l⟩, k⟩
 obtain ⟨aov, cv, rfl, _⟩ := q.shp
 obtain ⟨aoe, ce, rfl, _⟩ := p.shp
 obtain ⟨aon, cn, rfl, _⟩ := l.shp
 exact ⟨_, rfl, h w' _ _ _ _ _ _ _ _ _ k rfl rfl rfl ((((E.below k).r l (fun _ g => g.2)).r p (fun _ g => g.2)).r q (fun _ g => g.2))⟩
set_option maxHeartbeats 8000000
set_option maxRecDepth 100000
def xyB : List Bs := [[120], [121]]
def jR (c : Int) (a b : Nat) : List Tm := MQ ((c : Int) : Rat) [a, b, 0, 0, 0, 0, 0, 0] (OI ((1 : Int) : Rat))
def cJ (t : Bs) (n : Nat) : Bool := decide ((EE xyB t).1.length = 0) && (decide ((EE xyB t).2.1 = n) && decide ((EE xyB t).2.2 = 440))
theorem lK {t : Bs} {p : List Tm} {e : Nat} {b : Bool} (h : EE xyB t = (p, k, e)) (hb : b = (decide (p.length = 0) && (decide (k = n) && decide (e = 440)))) : Ending.returned (.bool b) = .returned (.bool (cJ t n)) := by
 unfold cJ; rw [h, hb]
theorem uH (ha : a <= 65535) (hb : b <= 65535) : FC [a, b, 0, 0, 0, 0, 0, 0] := by
 refine ⟨O, fun e f => ?_⟩
 simp only [List.mem_cons, List.not_mem_nil, or_false] at f
 omega
theorem rK {m : List Nat} (hm : FC m) (c : Rat) : ∀ t ∈ OI c, pO m t.2 := by
 intro t e
 unfold OI at e
 split at e
 . cases e
 simp at e; subst e
 intro i
 have := wN hm i
 show me m i + me zeroM i <= 65535; omega
theorem sM {c : Rat} (h : FitQ c n) : ∀ t ∈ OI c, FitQ t.1 n := by
 intro t e
 unfold OI at e
 split at e
 . cases e
 simp at e; subst e; exact h
theorem pE (c : Rat) : (OI c).length <= 1 := by unfold OI; split <;> simp
theorem Fr : FitQ ((1 : Int) : Rat) 4 := MG (k := 4) AE (EU AE AE)
def Br (p : List Tm) : Bool := p.all fun t => decide (t.1.num.natAbs < 1000) && decide (t.1.den < 1000)
theorem ML {p : List Tm} (h : Br p = true) (hn : 4 <= n) : ∀ t ∈ p, FitQ t.1 n := by
 intro t e
 unfold Br at h
 have := List.all_eq_true.1 h t e
 simp only [Bool.and_eq_true, decide_eq_true_eq] at this
 exact FitQ.mono ⟨EU AA AA, EU AA AA⟩ hn
theorem Qi : FitQ (JZ 1 2 0) 20 := ⟨(EU AK AK).mono AE, (EU AK AK).mono AE⟩
def eH : List Tm := [(mkRat 1 2, [1, 3, 0, 0, 0, 0, 0, 0])]
def eA : List Tm := [(-1, [2, 0, 0, 0, 0, 0, 0, 0])]
def eB : List Tm := [(-1, [2, 0, 0, 0, 0, 0, 0, 0]), (mkRat 1 2, [1, 3, 0, 0, 0, 0, 0, 0])]
def eC : List Tm := [(-1, [0, 1, 0, 0, 0, 0, 0, 0])]
def eD : List Tm := [(3, [0, 0, 0, 0, 0, 0, 0, 0])]
def eE : List Tm := [(-1, [0, 1, 0, 0, 0, 0, 0, 0]), (3, [0, 0, 0, 0, 0, 0, 0, 0])]
def Lr : List Tm := [(-1, [2, 0, 0, 0, 0, 0, 0, 0]), (mkRat 1 2, [1, 3, 0, 0, 0, 0, 0, 0]), (-1, [0, 1, 0, 0, 0, 0, 0, 0]), (3, [0, 0, 0, 0, 0, 0, 0, 0])]
def eF : List Tm := [(1, [2, 0, 0, 0, 0, 0, 0, 0])]
def eG : List Tm := [(1, [0, 1, 0, 0, 0, 0, 0, 0])]
def eI : List Tm := [(1, [2, 0, 0, 0, 0, 0, 0, 0]), (-1, [0, 1, 0, 0, 0, 0, 0, 0])]
def eJ : List Tm := [(1, [1, 0, 0, 0, 0, 0, 0, 0])]
def exT : Bs := [45, 120, 94, 50, 32, 43, 32, 49, 47, 50, 42, 120, 42, 121, 94, 51, 32, 45, 32, 121, 32, 43, 32, 51]
def exS : Bs := [118, 97, 114, 115, 32, 120, 32, 121, 10, 49, 58, 32, 120, 94, 50, 32, 45, 32, 121, 32, 61, 32, 48, 10, 51, 58, 32, 120, 32, 33, 61, 32, 48, 10, 110, 101, 120, 116, 32, 52, 10]
theorem eH_is : MQ (JZ 1 2 0) [1, 3, 0, 0, 0, 0, 0, 0] (OI ((1 : Int) : Rat)) = eH := by decide +kernel
theorem eA_is : jR (-1) 2 0 = eA := by decide +kernel
theorem eB_is : PB eA eH = eB := by decide +kernel
theorem eC_is : jR (-1) 0 1 = eC := by decide +kernel
theorem eD_is : jR 3 0 0 = eD := by decide +kernel
theorem eE_is : PB eC eD = eE := by decide +kernel
theorem A5 : PB eB eE = Lr := by decide +kernel
theorem eF_is : jR 1 2 0 = eF := by decide +kernel
theorem eG_is : jR 1 0 1 = eG := by decide +kernel
theorem eI_is : Yo eF eG = eI := by decide +kernel
theorem eJ_is : jR 1 1 0 = eJ := by decide +kernel
theorem A2 : VV xyB Lr = (exT, 0) := by decide +kernel
theorem Qt : EE xyB exT = (Lr, 0, 0) := by decide +kernel
theorem A1 : VV xyB [] = ([48], 0) := by decide +kernel
theorem A3 : YQ ⟨xyB, [(1, eI)], [(3, eJ)], 4⟩ = (exS, 0) := by decide +kernel
theorem Zk : (HO [110, 101, 120, 116, 32, 49, 10]).2 = (1, 440) := by decide +kernel
theorem Zj : (HO [118, 97, 114, 115, 32, 120, 10]).2 = (2, 440) := by decide +kernel
theorem A4 : JS Lr := (aD Qt).2.2.2.1
theorem Xq {p : List Tm} {t : Bs} (h : EE xyB t = (p, 0, 0)) : JS p := (aD h).2.2.2.1
theorem eI_ok : JS eI := Xq (t := [120, 94, 50, 32, 45, 32, 121]) AK
theorem eJ_ok : JS eJ := Xq (t := [120]) AK
theorem Zr : JS [] := ⟨fun t ht => (by cases ht), Ay⟩
theorem Xp {p : List Tm} (h : JS p) (hs : Br p = true) (hl : p.length <= 1000000) : TH [(n, p)] := by
 intro e f
 simp only [List.mem_cons, List.not_mem_nil, or_false] at f
 subst f; exact ⟨h, ML hs AE, hl⟩
theorem iT (c : Int) (a : Nat) (b : Nat) (w : World) (h1 : -9223372036854775808 <= c) (h2 : c <= 9223372036854775807) (ha : a <= 65535) (hb : b <= 65535) :
 Calls prog 31 #[.int .i64 c, .int .i64 ↑a, .int .i64 ↑b] w (Ai w (jR c a b)) := by
 have E := Env.start w
 go_enter func31, ntmps31
 refine yG ?_
 refine EF O (CV GM O (QH c _ h1 h2) O E ?_)
 intro G T Q X N d2 E
 have F : FitQ ((c : Int) : Rat) 4 := MG (k := 4) AE (EU h1 h2)
 refine yG ?_
 refine V (v := .agg (IQ ([a, b, 0, 0, 0, 0, 0, 0])).toArray) O O (jT (a := a) (b := b) O O O) ?_
 refine yG ?_
 refine EF O (CV GM O (QH 1 _ AE AE) O E ?_)
 intro u R P U L d4 E
 refine yG ?_
 refine EF O (DE UZ O (Ao _ _ _ _ ((1 : Int) : Rat) _ E.2.1 E.1) O E ?_)
 intro f I d5 t E
 replace E := E.sz (Nat.le_refl f.heap.size)
 obtain ⟨D, B, rfl, q, _⟩ := t.shp
 replace E := E.r (e := JQ) (S := EM u.heap.size f.heap.size) t (fun _ g => g.2)
 have o : w.heap.size <= f.heap.size := (e6 E).size
 refine yG ?_
 refine EF O (DE TF O (pU _ _ _ _ ((c : Int) : Rat) ([a, b, 0, 0, 0, 0, 0, 0]) _ (OI ((1 : Int) : Rat)) _ (e5 E) (e4 E) (uH ha hb) (BW E.1) (FitQ.mono F AE) (sM (FitQ.mono Fr AE)) (rK (uH ha hb) _) (Nat.le_trans (pE _) AE)) O E ?_)
 intro l H Y h E
 replace E := E.sz (Nat.le_refl l.heap.size)
 obtain ⟨J, rfl, h⟩ := h
 obtain ⟨C, y, rfl, p, _⟩ := h.shp
 replace E := E.r (e := JQ) (S := EM f.heap.size l.heap.size) h (fun _ g => g.2)
 refine yG ?_
 exact ⟨_, rfl, (by rw [show jR c a b = MQ ((c : Int) : Rat) [a, b, 0, 0, 0, 0, 0, 0] (OI ((1 : Int) : Rat)) from rfl]; exact vY E.1 AA), e8 E⟩
theorem YK (t : Bs) (n : Nat) (w : World) (ht : t.length <= 1000000) (hG : Glob w) :
 Calls prog 32 #[.string (bs t), .int .i64 ↑n] w (LN w (cJ t n)) := by
 have E := Env.start w
 replace E := E.gl hG
 go_enter func32, ntmps32
 obtain ⟨p, pos, G, f⟩ : ∃ a b c, EE xyB t = (a, b, c) := ⟨_, _, _, rfl⟩
 refine yG ?_
 refine EF O (iJ (s := [120]) (t := [121]) O O O ?_)
 intro N o C P L H
 have y : IsR elS (EM w.heap.size o.heap.size) o (.slice (some ⟨N, 0, none⟩) xyB.length 2) xyB := pZ (l := xyB) H ⟨Nat.le_of_eq C.symm, by omega⟩ AE
 replace E := ((E.below L).sz (Nat.le_refl o.heap.size)).r y (fun _ g => g.2)
 refine yG ?_
 refine EF O (HH (r := (p, pos, G)) LJ O (by have u := jM t _ xyB o (BW E.1) AE ht E.2.2.1.1; rw [f] at u; exact u) O E ?_)
 intro v Q R F E
 replace E := E.sz (Nat.le_refl v.heap.size)
 have B := F
 obtain ⟨J, I, rfl, D, _⟩ := F.shp
 skip
 replace E := E.r (e := JQ) (S := EM o.heap.size v.heap.size) (show IsR JQ (EM o.heap.size v.heap.size) v _ p from B) (fun _ g => g.2)
 by_cases h : p.length = 0
 case neg =>
  refine yG ?_
  exact ⟨lK f (by rw [decide_eq_false h]; simp), e5 E⟩
 by_cases k : pos = n
 case neg =>
  refine yG ?_
  exact ⟨lK f (by simp [h, k]), e5 E⟩
 by_cases q : G = 440
 . refine yG ?_
   exact ⟨lK f (by simp [h, k, q]), e5 E⟩
 refine yG ?_
 exact ⟨lK f (by simp [h, k, q]), e5 E⟩
theorem oW (w : World) (hG : Glob w) :
 Calls prog 10 #[] w (LN w true) := by
 have E := Env.start w
 have fs := hG.two
 replace E := E.gl hG
 go_enter func10, ntmps10
 refine yG ?_
 refine V (v := .agg #[.int .i8 1, .int .i8 2, .int .u8 0]) O O (xG O O O) ?_
 refine yG ?_
 refine EF O (CV oT O (E9 1 2 0 w AE AE AE AE AE) O E ?_)
 intro w2 n2 s2 m2 t2 d2 E
 have F1 : FitQ (JZ 1 2 0) 20 := Qi
 refine yG ?_
 refine V (v := .agg (IQ ([1, 3, 0, 0, 0, 0, 0, 0])).toArray) O O (jT (a := 1) (b := 3) O O O) ?_
 refine yG ?_
 refine EF O (CV GM O (QH 1 _ AE AE) O E ?_)
 intro w4 n4 s4 m4 t4 d4 E
 refine yG ?_
 refine EF O (DE UZ O (Ao _ _ _ _ ((1 : Int) : Rat) _ E.2.1 E.1) O E ?_)
 intro w5 v5 d5 f5 E
 replace E := E.sz (Nat.le_refl w5.heap.size)
 obtain ⟨fr, fm, rfl, ed, _⟩ := f5.shp
 replace E := E.r (e := JQ) (S := EM w4.heap.size w5.heap.size) f5 (fun _ g => g.2)
 refine yG ?_
 refine EF O (DE TF O ((by have f := pU _ _ _ _ (JZ 1 2 0) ([1, 3, 0, 0, 0, 0, 0, 0]) _ (OI ((1 : Int) : Rat)) _ (e5 E) (e4 E) (uH AE AE) (BW E.1) (FitQ.mono F1 AE) (sM (FitQ.mono Fr AE)) (rK (uH AE AE) _) (Nat.le_trans (pE _) AE); rw [eH_is] at f; exact f)) O E ?_)
 intro w6 v6 d6 f6 E
 replace E := E.sz (Nat.le_refl w6.heap.size)
 obtain ⟨u6, rfl, f6⟩ := f6
 obtain ⟨fq, fl, rfl, ec, _⟩ := f6.shp
 replace E := E.r (e := JQ) (S := EM w5.heap.size w6.heap.size) f6 (fun _ g => g.2)
 refine yG ?_
 refine EF O (DE LK O ((by have f := iT (-1) 2 0 w6 AE AE AE AE; rw [eA_is] at f; exact f)) O E ?_)
 intro w7 v7 d7 f7 E
 replace E := E.sz (Nat.le_refl w7.heap.size)
 obtain ⟨fp, fk, rfl, eb, _⟩ := f7.shp
 replace E := E.r (e := JQ) (S := EM w6.heap.size w7.heap.size) f7 (fun _ g => g.2)
 refine yG ?_
 refine EF O (DE RK O ((by have f := mQ _ eA _ eH w7 (BW E.1) (BW E.2.2.1) (ML (p := eA) AK AE) (ML (p := eH) AK AE) AE AE; rw [eB_is] at f; exact f)) O E ?_)
 intro Y v8 d8 f8 E
 replace E := E.sz (Nat.le_refl Y.heap.size)
 obtain ⟨fo, fj, rfl, ea, _⟩ := f8.shp
 replace E := E.r (e := JQ) (S := EM w7.heap.size Y.heap.size) f8 (fun _ g => g.2)
 refine yG ?_
 refine EF O (DE LK O ((by have f := iT (-1) 0 1 Y AE AE AE AE; rw [eC_is] at f; exact f)) O E ?_)
 intro X v9 d9 f9 E
 replace E := E.sz (Nat.le_refl X.heap.size)
 obtain ⟨fn, fi, rfl, dz, _⟩ := f9.shp
 replace E := E.r (e := JQ) (S := EM Y.heap.size X.heap.size) f9 (fun _ g => g.2)
 refine yG ?_
 refine EF O (DE LK O ((by have f := iT 3 0 0 X AE AE AE AE; rw [eD_is] at f; exact f)) O E ?_)
 intro H fh gb b5 E
 replace E := E.sz (Nat.le_refl H.heap.size)
 obtain ⟨dy, dr, rfl, db, _⟩ := b5.shp
 replace E := E.r (e := JQ) (S := EM X.heap.size H.heap.size) b5 (fun _ g => g.2)
 refine yG ?_
 refine EF O (DE RK O ((by have f := mQ _ eC _ eD H (BW E.2.2.1) (BW E.1) (ML (p := eC) AK AE) (ML (p := eD) AK AE) AE AE; rw [eE_is] at f; exact f)) O E ?_)
 intro G fg ga b4 E
 replace E := E.sz (Nat.le_refl G.heap.size)
 obtain ⟨dx, dq, rfl, da, _⟩ := b4.shp
 replace E := E.r (e := JQ) (S := EM H.heap.size G.heap.size) b4 (fun _ g => g.2)
 refine yG ?_
 refine EF O (DE RK O ((by have f := mQ _ eB _ eE G (BW (e6 E)) (BW E.1) (ML (p := eB) AK AE) (ML (p := eE) AK AE) AE AE; rw [A5] at f; exact f)) O E ?_)
 intro a1 ff g9 b3 E
 replace E := E.sz (Nat.le_refl a1.heap.size)
 obtain ⟨dw, dp, rfl, d3, _⟩ := b3.shp
 replace E := E.r (e := JQ) (S := EM G.heap.size a1.heap.size) b3 (fun _ g => g.2)
 refine yG ?_
 refine EF O (iJ (s := [120]) (t := [121]) O O O ?_)
 intro a2 F b7 em dk cm
 have ap : IsR elS (EM a1.heap.size F.heap.size) F (.slice (some ⟨a2, 0, none⟩) xyB.length 2) xyB := pZ (l := xyB) cm ⟨Nat.le_of_eq b7.symm, by omega⟩ AE
 replace E := ((E.below dk).sz (Nat.le_refl F.heap.size)).r ap (fun _ g => g.2)
 refine yG ?_
 refine EF O (CC GI O ((by have f := XA _ Lr _ xyB F (BW E.2.2.1) (BW E.1) A4 (ML (p := Lr) AK AE) AE AE (A8 E).1; rw [A2] at f; exact f)) O E ?_)
 intro L g8 E
 have cw : w.heap.size <= L.heap.size := (Ls E).size
 refine yG ?_
 refine EF O (HH (r := (Lr, 0, 0)) LJ O (by have f := jM exT _ xyB L (BW E.1) AE AE (A8 E).1; rw [Qt] at f; exact f) O E ?_)
 intro B fe dj b2 E
 have el := dj.size
 replace E := E.sz (Nat.le_refl B.heap.size)
 have av := b2
 obtain ⟨dv, dn, rfl, d1, _⟩ := b2.shp
 skip
 replace E := E.r (e := JQ) (S := EM L.heap.size B.heap.size) (show IsR JQ (EM L.heap.size B.heap.size) B _ Lr from av) (fun _ g => g.2)
 refine yG ?_
 refine EF O (CC GI O ((by have f := XA (.slice none 0 0) [] _ xyB B (IsR.nil _ _ _) (BW E.2.2.1) Zr (fun t ht => by cases ht) AE AE (Vy E).1; rw [A1] at f; exact f)) O E ?_)
 intro f4 g7 E
 refine yG ?_
 refine V Z O (FG (a := exT) (b := [45, 120, 94, 50, 32, 43, 32, 49, 47, 50, 42, 120, 42, 121, 94, 51, 32, 45, 32, 121, 32, 43, 32, 51]) (c := false) O O O AE) ?_
 refine yG ?_
 refine V Z O (FG (a := [48]) (b := [48]) (c := false) O O O AE) ?_
 refine yG ?_
 refine EF O (CA NO O (CT (show decide (Lr = Lr) = true by simp) (iI _ Lr _ Lr _ (BW (e4 E)) (BW E.1) AE)) O E ?_)
 intro f3 g6 E
 refine yG ?_
 refine EF O (CA JA O (CT (show cJ ([120, 32, 43, 32, 120, 94, 50]) 4 = true by decide +kernel) (YK ([120, 32, 43, 32, 120, 94, 50]) 4 _ AE (Vy E).1)) O E ?_)
 intro f2 g5 E
 refine yG ?_
 refine EF O (CA JA O (CT (show cJ ([120, 32, 43]) 4 = true by decide +kernel) (YK ([120, 32, 43]) 4 _ AE (Vy E).1)) O E ?_)
 intro f1 g4 E
 refine yG ?_
 refine EF O (CA JA O (CT (show cJ ([50, 42, 120, 32, 45, 32]) 6 = true by decide +kernel) (YK ([50, 42, 120, 32, 45, 32]) 6 _ AE (Vy E).1)) O E ?_)
 intro f0 g3 E
 refine yG ?_
 refine EF O (CA JA O (CT (show cJ ([49, 42, 120]) 0 = true by decide +kernel) (YK ([49, 42, 120]) 0 _ AE (Vy E).1)) O E ?_)
 intro ez g2 E
 refine yG ?_
 refine EF O (CA JA O (CT (show cJ ([121, 42, 120]) 0 = true by decide +kernel) (YK ([121, 42, 120]) 0 _ AE (Vy E).1)) O E ?_)
 intro ey g1 E
 refine yG ?_
 refine EF O (CA JA O (CT (show cJ ([120, 32, 32, 43, 32, 49]) 2 = true by decide +kernel) (YK ([120, 32, 32, 43, 32, 49]) 2 _ AE (Vy E).1)) O E ?_)
 intro ex g0 E
 refine yG ?_
 refine EF O (CA JA O (CT (show cJ ([45, 48]) 0 = true by decide +kernel) (YK ([45, 48]) 0 _ AE (Vy E).1)) O E ?_)
 intro a6 fz E
 refine yG ?_
 refine EF O (DE LK O ((by have f := iT 1 2 0 a6 AE AE AE AE; rw [eF_is] at f; exact f)) O E ?_)
 intro D fd fy b1 E
 replace E := E.sz (Nat.le_refl D.heap.size)
 obtain ⟨du, dm, rfl, d0, _⟩ := b1.shp
 replace E := E.r (e := JQ) (S := EM a6.heap.size D.heap.size) b1 (fun _ g => g.2)
 refine yG ?_
 refine EF O (DE LK O ((by have f := iT 1 0 1 D AE AE AE AE; rw [eG_is] at f; exact f)) O E ?_)
 intro C fc fx b0 E
 replace E := E.sz (Nat.le_refl C.heap.size)
 obtain ⟨dt, dl, rfl, cz, _⟩ := b0.shp
 replace E := E.r (e := JQ) (S := EM D.heap.size C.heap.size) b0 (fun _ g => g.2)
 refine yG ?_
 refine EF O (DE qJ O ((by have f := Xh _ eF _ eG C (BW E.2.2.1) (BW E.1) (ML (p := eF) AK AE) (ML (p := eG) AK AE) AE AE; rw [eI_is] at f; exact f)) O E ?_)
 intro J fb fw az E
 replace E := E.sz (Nat.le_refl J.heap.size)
 obtain ⟨U, R, rfl, cy, _⟩ := az.shp
 replace E := E.r (e := JQ) (S := EM C.heap.size J.heap.size) az (fun _ g => g.2)
 refine yG ?_
 refine V (v := .agg #[.int .i64 1, .slice U eI.length R]) O O (KV O O O) ?_
 refine yG ?_
 refine EF O (DW (cs := [.int .i64 1, .slice U eI.length R]) underlying46 LS O AE AE O O ?_)
 intro P a0 ee ek di ck
 replace E := E.below di
 replace E := E.x ck
 have aq : P < a0.heap.size := Bx.lt E.1
 refine yG ?_
 refine EF O (DE LK O ((by have f := iT 1 1 0 a0 AE AE AE AE; rw [eJ_is] at f; exact f)) O E ?_)
 intro I fa dh ay E
 have ej := dh.size
 replace E := E.sz (Nat.le_refl I.heap.size)
 obtain ⟨T, Q, rfl, cx, _⟩ := ay.shp
 replace E := E.r (e := JQ) (S := EM a0.heap.size I.heap.size) ay (fun _ g => g.2)
 refine yG ?_
 refine V (v := .agg #[.int .i64 3, .slice T eJ.length Q]) O O (KV O O O) ?_
 refine yG ?_
 refine EF O (DW (cs := [.int .i64 3, .slice T eJ.length Q]) underlying46 LS O AE AE O O ?_)
 intro N ew b6 ei dg cj
 have cv : P < N := by rw [b6]; exact Bx.lt E.2.2.1
 replace E := E.below dg
 replace E := E.x cj
 refine yG ?_
 refine V (v := .agg #[.slice (some ⟨a2, 0, none⟩) xyB.length 2, .slice (some ⟨P, 0, none⟩) 1 1, .slice (some ⟨N, 0, none⟩) 1 1, .int .i64 4]) O O (xE O O O O O) ?_
 refine yG ?_
 refine EF O (BZ JK O ?_)
 intro u ev o eh de a5
 have cu : N < u := by rw [o]; exact Bx.lt E.1
 have cf : I.heap.size <= u := by rw [o]; exact CS E.2.2.1
 have ce : J.heap.size <= u := by rw [o]; exact CS (e5 E)
 have cd : C.heap.size <= u := by rw [o]; exact CS (e7 E)
 have cc : D.heap.size <= u := by rw [o]; exact CS (e9 E)
 have cb : B.heap.size <= u := by rw [o]; exact CS (RC E)
 have ca : F.heap.size <= u := by rw [o]; exact CS (XX E)
 have c9 : G.heap.size <= u := by rw [o]; exact CS (Vz E)
 have c8 : H.heap.size <= u := by rw [o]; exact CS (e19 E)
 have c7 : X.heap.size <= u := by rw [o]; exact CS (e21 E)
 have ao : Y.heap.size <= u := by rw [o]; exact CS (Ls E)
 have an : w7.heap.size <= u := by rw [o]; exact CS (e25 E)
 have am : w6.heap.size <= u := by rw [o]; exact CS (e27 E)
 have al : w5.heap.size <= u := by rw [o]; exact CS (e29 E)
 replace E := E.below de
 refine yG ?_
 refine EF O (BY JK O O O a5 O O (CG O (CG O (CG O (CG O DP)))) ?_)
 intro cn cq ci
 replace E := oY E a5 cq ci (ds := [.slice (some ⟨a2, 0, none⟩) xyB.length 2, .slice (some ⟨P, 0, none⟩) 1 1, .slice (some ⟨N, 0, none⟩) 1 1, .int .i64 4])
 refine yG ?_
 refine EF O (CC kU O ((by have f := Sm _ xyB _ [(1, eI)] _ [(3, eJ)] 4 cn (BW (XX E)) (iM (e4 E) (Bx.lt (e4 E)) ⟨_, O, (BW (e5 E))⟩) (iM E.2.1 (Bx.lt E.2.1) ⟨_, O, (BW E.2.2.1)⟩) (Xp eI_ok AK AE) (Xp eJ_ok AK AE) AE E.2.2.2.2.2.2.2.2.2.2.2.2.2.2.2.2.2.2.2.2.2.2.2.2.2.2.2.2.2.2.2.2.2.2.2.1.1; rw [A3] at f; exact f)) O E ?_)
 intro eu fv E
 refine yG ?_
 refine EF O (QM TA O (pW ([110, 101, 120, 116, 32, 49, 10]) _ E.2.2.2.2.2.2.2.2.2.2.2.2.2.2.2.2.2.2.2.2.2.2.2.2.2.2.2.2.2.2.2.2.2.2.2.1.1) O E ?_)
 intro et bh a8 b9 bl ac bf bj aa bb fu _ _ _ E
 replace E := E.2.2.2
 skip
 obtain ⟨au, ax⟩ : (HO ([110, 101, 120, 116, 32, 49, 10])).2.1 = 1 /\ (HO ([110, 101, 120, 116, 32, 49, 10])).2.2 = 440 := by rw [Zk]; exact ⟨rfl, rfl⟩
 rw [au, ax]
 refine yG ?_
 refine EF O (BZ JK O ?_)
 intro q es k eg dd a4
 have ct : u < q := by rw [k]; exact Bx.lt E.1
 have c6 : I.heap.size <= q := by rw [k]; exact CS (e3 E)
 have c5 : J.heap.size <= q := by rw [k]; exact CS (e6 E)
 have c4 : C.heap.size <= q := by rw [k]; exact CS (e8 E)
 have c3 : D.heap.size <= q := by rw [k]; exact CS (RD E)
 have c2 : B.heap.size <= q := by rw [k]; exact CS (WE E)
 have c1 : F.heap.size <= q := by rw [k]; exact CS (lB E)
 have c0 : G.heap.size <= q := by rw [k]; exact CS (e18 E)
 have bx : H.heap.size <= q := by rw [k]; exact CS (e20 E)
 have bw : X.heap.size <= q := by rw [k]; exact CS (A8 E)
 have ak : Y.heap.size <= q := by rw [k]; exact CS (Vy E)
 have aj : w7.heap.size <= q := by rw [k]; exact CS (A7 E)
 have ai : w6.heap.size <= q := by rw [k]; exact CS (e28 E)
 have ah : w5.heap.size <= q := by rw [k]; exact CS E.2.2.2.2.2.2.2.2.2.2.2.2.2.2.2.2.2.2.2.2.2.2.2.2.2.2.2.2.2.2.1
 replace E := E.below dd
 refine yG ?_
 refine EF O (BY JK O O O a4 O O (CG O (CG O (CG O (CG O DP)))) ?_)
 intro er cp ch
 replace E := oY E a4 cp ch (ds := [.slice bh a8 b9, .slice bl ac bf, .slice bj aa bb, .int .i64 ↑((HO ([110, 101, 120, 116, 32, 49, 10])).1.next)])
 refine yG ?_
 refine EF O (QM TA O (pW ([118, 97, 114, 115, 32, 120, 10]) _ E.2.2.2.2.2.2.2.2.2.2.2.2.2.2.2.2.2.2.2.2.2.2.2.2.2.2.2.2.2.2.2.2.2.2.2.2.1.1) O E ?_)
 intro ep bg a7 b8 bk ab bc bi a9 ba ft _ _ _ E
 replace E := E.2.2.2
 skip
 obtain ⟨ar, aw⟩ : (HO ([118, 97, 114, 115, 32, 120, 10])).2.1 = 2 /\ (HO ([118, 97, 114, 115, 32, 120, 10])).2.2 = 440 := by rw [Zj]; exact ⟨rfl, rfl⟩
 rw [ar, aw]
 refine yG ?_
 refine EF O (BZ JK O ?_)
 intro y eo h ef dc a3
 have cr : q < y := by rw [h]; exact Bx.lt E.1
 have bv : I.heap.size <= y := by rw [h]; exact CS (e4 E)
 have bu : J.heap.size <= y := by rw [h]; exact CS (e7 E)
 have bt : C.heap.size <= y := by rw [h]; exact CS (e9 E)
 have br : D.heap.size <= y := by rw [h]; exact CS (RC E)
 have bq : B.heap.size <= y := by rw [h]; exact CS (XX E)
 have bp : F.heap.size <= y := by rw [h]; exact CS (Kq E)
 have bo : G.heap.size <= y := by rw [h]; exact CS (e19 E)
 have bn : H.heap.size <= y := by rw [h]; exact CS (e21 E)
 have bm : X.heap.size <= y := by rw [h]; exact CS (Ls E)
 have ag : Y.heap.size <= y := by rw [h]; exact CS (e25 E)
 have af : w7.heap.size <= y := by rw [h]; exact CS (e27 E)
 have ae : w6.heap.size <= y := by rw [h]; exact CS (e29 E)
 have ad : w5.heap.size <= y := by rw [h]; exact CS E.2.2.2.2.2.2.2.2.2.2.2.2.2.2.2.2.2.2.2.2.2.2.2.2.2.2.2.2.2.2.2.1
 replace E := E.below dc
 refine yG ?_
 refine EF O (BY JK O O O a3 O O (CG O (CG O (CG O (CG O DP)))) ?_)
 intro en co cg
 replace E := oY E a3 co cg (ds := [.slice bg a7 b8, .slice bk ab bc, .slice bi a9 ba, .int .i64 ↑((HO ([118, 97, 114, 115, 32, 120, 10])).1.next)])
 refine yG ?_
 refine V Z O (EO (a := exS) (b := [118, 97, 114, 115, 32, 120, 32, 121, 10, 49, 58, 32, 120, 94, 50, 32, 45, 32, 121, 32, 61, 32, 48, 10, 51, 58, 32, 120, 32, 33, 61, 32, 48, 10, 110, 101, 120, 116, 32, 52, 10]) (c := true) O O O AE) ?_
 refine yG ?_
 exact ⟨rfl, E.2.2.2.2.2.2.2.2.2.2.2.2.2.2.2.2.2.2.2.2.2.2.2.2.2.2.2.2.2.2.2.2.2.2.2.2.2.2.1⟩
end Go.Proofs.YtmppigbbkjepiaaGreatDoor
