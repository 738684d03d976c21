/- Helping facts of Mch; no other conditions. -/
import Derived.Test.YtmppigbbkjepiaaGreatDoorMade32
import Derived.Test.YtmppigbbkjepiaaGreatDoorRPr
namespace Go.Proofs.YtmppigbbkjepiaaGreatDoor
open Go.Proofs.Tryz
open Go.RowKit W
variable {c : Int} {n : Nat} {p : Prop}
theorem Ya1 (h : p := by rw [underlying45]; rfl) : p := h
theorem Zl8 (h : p := by
 intro d0 dy E
 refine yG ?_
 refine V O O (FT (a := tx) (b := tx) (c := true) O O O AH) ?_
 refine yG ?_
 refine V Z O (FT (a := tz) (b := tz) (c := true) O O O AH) ?_
 refine yG ?_
 exact ⟨rfl, e25 E⟩
 ) : p := h
def nL (c : Int) (n : Nat) : List Tm := JY ((c : Int) : Rat) [n, 0, 0, 0, 0, 0, 0, 0] (KY ((1 : Int) : Rat))
theorem Ja {m : List Nat} (h : EG m) : OR m zeroM 8 = m := by
 refine List.ext_getElem (by rw [NU, h.1]) fun i f k => ?_
 have e : i < 8 := by rw [NU] at f; exact f
 rw [<- QV f, <- QV k, hH m zeroM 8 e, if_pos e]
 have : ∀ j, j < 8 -> me zeroM j = 0 := by decide
 rw [this i e]; rfl
theorem Ur (hn : n <= 65535) : ED (nL c n) := by
 unfold nL
 by_cases h : ((c : Int) : Rat) = 0
 . rw [XX h]; exact Nv
 unfold JY KY
 rw [if_neg h, if_neg AE]
 simp only [List.map_cons, List.map_nil]
 rw [Ja (YP hn (Nat.zero_le _)), show ((c : Int) : Rat) * ((1 : Int) : Rat) = ((c : Int) : Rat) from Rat.mul_one _]
 exact PolyOk_cons.2 ⟨⟨h, YP hn (Nat.zero_le _)⟩, (by intro t e; cases e), ⟨fun t e => (by cases e), ZQ⟩⟩
theorem xL {c : Int} {n : Nat} (h1 : -70000 <= c) (h2 : c <= 70000) : ∀ t ∈ nL c n, FitQ t.1 9 := iG (a := 4) (b := 4) (IA (k := 4) AE (DY AA AA)) (aE dR) AE
theorem xK (c : Int) (n : Nat) : (nL c n).length <= 1 := Nat.le_trans (VR _ _ _) (WQ _)
theorem Oo {i next : Nat} {q r : List En} (h : MadeS n i q r next) (hn : n <= 3) : (∀ e, e ∈ q ∨ e ∈ r -> (DS (nm3.take n) e.2).length <= 4000) /\ (∀ e, e ∈ q ∨ e ∈ r -> ∀ t ∈ e.2, FitQ t.1 100000) := by
 have l := (Bu hn).1
 have f : ∀ e, e ∈ q ∨ e ∈ r -> MadeOk n 2 3 e.2 := fun e k => k.elim (fun g => (h.qe.all e g).2.2) (fun g => (h.re.all e g).2.2)
 exact ⟨fun e k => by have := (f e k).txt l AE AE AE; omega, fun e k => (f e k).fit AE AE⟩
theorem Lf (a b : Nat) : ((a : Nat) : Int).tdiv ((b : Nat) : Int) = ((a / b : Nat) : Int) := by rw [Int.tdiv_eq_ediv_of_nonneg AA]; rfl
set_option maxRecDepth 100000 in
set_option maxHeartbeats 8000000 in
theorem mch_t (va vl vy vn : Value) (la : List (List Int)) (n0 : Nat) (ll : List (List (List Int))) (ly : List Nat) (l : List Bs) (n : Nat) (w : World) (hRa : IsR elA (CX w.heap.size) w va la) (hn0 : n0 < 256) (hRl : IsR Rx (CX w.heap.size) w vl ll) (hRy : IsR Ry (CX w.heap.size) w vy ly) (hRn : IsR elS (CX w.heap.size) w vn l) (hnn : n < 65536) (hG : Glob w) :
 Calls prog 5 #[.agg #[va, .int .u8 ↑n0, vl, vy], vn, .int .u16 ↑n] w (LI w true) := by
 have E := Env.start w
 obtain ⟨U, u, rfl, dt, dm⟩ := hRa.shp
 obtain ⟨T, q, rfl, dr, dl⟩ := hRl.shp
 obtain ⟨R, o, rfl, dp, dj⟩ := hRy.shp
 obtain ⟨aj, Q, rfl, dq, dk⟩ := hRn.shp
 have dx := hG.two
 replace E := ((((E.r hRa (DF _)).r hRl (DF _)).r hRy (DF _)).r hRn (DF _)).gl hG
 go_enter func5, ntmps5
 refine yG ?_
 refine EF O (CI (cs := [.slice U la.length u, .int .u8 ↑n0, .slice T ll.length q, .slice R ly.length o]) O O ?_)
 intro X w1 c5 z1 d1 x1
 have l1 : w.heap.size <= X := by rw [c5]; exact (e5 E).size
 replace E := E.below d1
 replace E := E.x x1
 refine yG ?_
 refine EF O (CA bZ O (Ck _ E.2.1.1) O E ?_)
 intro w2 d2 E
 obtain ⟨D, ao⟩ : ∃ x, l.take 10 = x := ⟨_, rfl⟩
 have cu : D.length <= 10 := by rw [<- ao, List.length_take]; omega
 have bc : X < w2.heap.size := Bx.lt E.1
 have cm : w.heap.size <= w2.heap.size := (e6 E).size
 refine yG ?_
 refine EF O (CZ kA O ((by have f := Tw _ l w2 (BW E.2.2.1); rw [ao] at f; exact f)) O E ?_)
 intro w3 v3 d3 f3 E
 have z3 := d3.size
 replace E := E.sz (Nat.le_refl w3.heap.size)
 obtain ⟨af, ae, rfl, cr, _⟩ := f3.shp
 replace E := E.r (e := elS) (S := EY w2.heap.size w3.heap.size) f3 (fun _ g => g.2)
 refine yG ?_
 refine wp_loop_ghost (fun mz a w' => ∃ (i : Nat) (L : List Value), L = a.tmps.toList /\ a = ⟨(.agg #[.slice U la.length u, .int .u8 ↑n0, .slice T ll.length q, .slice R ly.length o] :: .slice aj l.length Q :: .int .u16 ↑n :: .pointer (some ⟨X, 0, none⟩) :: gr L 4 3 (.bool true :: .slice af D.length ae :: .int .i64 ↑i :: gr L 10 12 (.bool true :: .bool true :: .bool false :: .slice aj l.length Q :: .slice af D.length ae :: gr L 27 85 []))).toArray, []⟩ /\ Env w' [fR elS (EY w2.heap.size w3.heap.size) (.slice af D.length ae) D, rO w3.heap.size, fX X (56) ([.slice U la.length u, .int .u8 ↑n0, .slice T ll.length q, .slice R ly.length o]), fGl, fR elS (CX w.heap.size) (.slice aj l.length Q) l, fR Ry (CX w.heap.size) (.slice R ly.length o) ly, fR Rx (CX w.heap.size) (.slice T ll.length q) ll, fR elA (CX w.heap.size) (.slice U la.length u) la, fW w] /\ mz = D.length - i /\ (i <= D.length)) (D.length) ⟨0, _, O, O, zE, O, (Nat.zero_le _)⟩ ?_
 rintro m4 _ w4 ⟨i, L, -, rfl, E, c0, dw⟩
 dsimp only [gr, Nat.reduceAdd]
 by_cases hi : i < D.length
 case pos =>
  obtain ⟨xV, ag⟩ : ∃ x, D[i]? = some x := ⟨_, List.getElem?_eq_getElem hi⟩
  obtain ⟨ad, de, _, ax, ay, c3, bu⟩ := IsR.at E.1.1 ag
  obtain rfl := (show _ = [Value.string (bs xV)] from bu)
  have c1 : ad < _ := E.1.2 _ ay
  replace E := E.c c3 c1
  have du : w2.heap.size <= ad /\ ad < w3.heap.size := ay
  by_cases cn : 40 < xV.length
  . refine yG ?_
    refine fY O O ax O (List.getElem?_eq_some_iff.1 ag).1 ?_
    refine yG ?_
    exact ⟨rfl, e9 E⟩
  refine yG ?_
  refine fY O O ax O (List.getElem?_eq_some_iff.1 ag).1 ?_
  refine yG ?_
  exact ⟨_, (by rw [c0]; omega), (i + 1), _, O, O, zE, O, AA⟩
 refine yG ?_
 refine V O O (XP O O O) ?_
 refine V O O (CD Xr O O (Cs.sub (Bx.cs E.2.2.1) 0 (ds := [.slice U la.length u]) (fun j x e => by cases j with | zero => exact e | succ j => simp at e)) O) ?_
 have bb : X < w4.heap.size := Bx.lt E.2.2.1
 have ck : w.heap.size <= w4.heap.size := (e8 E).size
 refine yG ?_
 refine EF O (CZ YY O (Gx _ la 3 4 4 _ (BW (e7 E)) AE AE AE) O E ?_)
 intro w5 v5 d5 f5 E
 have z5 := d5.size
 replace E := E.sz (Nat.le_refl w5.heap.size)
 obtain ⟨p, I, b2⟩ := f5
 obtain ⟨dh, dg, rfl, cq, _⟩ := b2.shp
 replace E := E.r (e := JL) (S := EY w4.heap.size w5.heap.size) b2 (fun _ g => g.2)
 obtain ⟨c, hc⟩ : ∃ c : Int, c = ((n : Nat) : Int) - 300 := ⟨_, rfl⟩
 have aw : -70000 <= c := by omega
 have av : c <= 70000 := by omega
 refine yG ?_
 refine V (v := .int .i64 ↑n) O O (DR O O Ya1 underlying2 (JP O AA)) ?_
 refine V (v := .int .i64 c) O O (GN O O O (by rw [<- hc]; exact HI AA)) ?_
 refine yG ?_
 refine EF O (CV EN O (LJ c _ AA AA) O E ?_)
 intro w7 n7 s7 m7 t7 d7 E
 have F6 : FitQ ((c : Int) : Rat) 4 := IA (k := 4) AE (DY AA AA)
 refine yG ?_
 refine V (v := .int .i64 ↑n) O O (DR O O Ya1 underlying3 (JP O AA)) ?_
 refine V (v := .agg (GK ([n, 0, 0, 0, 0, 0, 0, 0])).toArray) O O (wF (a := n) O O) ?_
 refine yG ?_
 refine EF O (CV EN O (LJ 1 _ AE AE) O E ?_)
 intro w9 n9 s9 m9 t9 d9 E
 have F8 : FitQ ((1 : Int) : Rat) 4 := IA (k := 4) AE (DY AE AE)
 have au : X < w9.heap.size := Bx.lt (e8 E)
 have br : w.heap.size <= w9.heap.size := (iI E).size
 refine yG ?_
 refine EF O (CZ OE O (oT _ _ _ _ ((1 : Int) : Rat) _ E.2.1 E.1) O E ?_)
 intro C dc ca b4 E
 have cz := ca.size
 replace E := E.sz (Nat.le_refl C.heap.size)
 obtain ⟨cj, cg, rfl, bx, _⟩ := b4.shp
 replace E := E.r (e := JL) (S := EY w9.heap.size C.heap.size) b4 (fun _ g => g.2)
 have ar : X < C.heap.size := Bx.lt (RA E)
 have bq : w.heap.size <= C.heap.size := (e16 E).size
 refine yG ?_
 refine EF O (CZ NY O (gC _ _ _ _ ((c : Int) : Rat) ([n, 0, 0, 0, 0, 0, 0, 0]) _ (KY ((1 : Int) : Rat)) _ (e5 E) (e4 E) (YP AA (Nat.zero_le _)) (BW E.1) (FitQ.mono F6 AE) (aE (FitQ.mono dR AE)) (gT (YP AA (Nat.zero_le _)) _) (Nat.le_trans (WQ _) AE)) O E ?_)
 intro y db c9 a6 E
 have cy := c9.size
 replace E := E.sz (Nat.le_refl y.heap.size)
 obtain ⟨dd, rfl, a6⟩ := a6
 obtain ⟨ci, cf, rfl, bw, _⟩ := a6.shp
 replace E := E.r (e := JL) (S := EY C.heap.size y.heap.size) a6 (fun _ g => g.2)
 obtain ⟨pp, a1⟩ : ∃ x, KZ p (nL c n) = x := ⟨_, rfl⟩
 have az : ED pp := by rw [<- a1]; exact Gj I.ok (Ur AA)
 have b0 : ∀ t ∈ pp, FitQ t.1 100 := by rw [<- a1]; exact Uw (I.fit (j := 4) AE AE) (xL aw av) AE
 have dv : pp.length <= 10 := by rw [<- a1]; have h1 := oN p (nL c n); have h2 := xK c n; have h3 := I.len; omega
 have aq : X < y.heap.size := Bx.lt (UH E)
 have bp : w.heap.size <= y.heap.size := (Zv E).size
 refine yG ?_
 refine EF O (CZ LN O ((by have f := aM _ p _ (nL c n) y (BW (e8 E)) (BW E.1) (I.fit AE AE) (fun t ht => FitQ.mono (xL aw av t ht) AE) (by have := I.len; omega) (Nat.le_trans (xK _ _) AE); rw [a1] at f; exact f)) O E ?_)
 intro Y da c8 b3 E
 have cx := c8.size
 replace E := E.sz (Nat.le_refl Y.heap.size)
 obtain ⟨ch, ce, rfl, bv, _⟩ := b3.shp
 replace E := E.r (e := JL) (S := EY y.heap.size Y.heap.size) b3 (fun _ g => g.2)
 obtain ⟨tx, er, an⟩ : ∃ a b, QT D pp = (a, b) := ⟨_, _, rfl⟩
 refine yG ?_
 refine EF O (BZ FL O ((by have f := TS _ pp _ D Y (BW E.1) (BW (UH E)) az (fun t ht => FitQ.mono (b0 t ht) AE) AA AA (Xm E).1; rw [an] at f; exact f)) O E ?_)
 intro bk ed E
 refine yG ?_
 refine EF O (BZ TL O ((by have f := uP _ pp _ D bk (BW E.1) (BW (UH E)) az (fun t ht => FitQ.mono (b0 t ht) AE) AA AA; rw [an] at f; exact f)) O E ?_)
 intro G ec E
 refine yG ?_
 refine V O O (XO O O O) ?_
 refine V O O (CD D3 O O (Cs.sub (Bx.cs (iI E)) 1 (ds := [.int .u8 ↑n0, .slice T ll.length q, .slice R ly.length o]) (fun j x e => by rw [Nat.add_comm 1 j]; exact e)) O) ?_
 have ap : X < G.heap.size := Bx.lt (iI E)
 have bo : w.heap.size <= G.heap.size := (e20 E).size
 refine yG ?_
 refine EF O (CZ nT O (Rh n0 _ _ ll ly _ hn0 (BW (Zv E)) (BW (Xl E))) O E ?_)
 intro F d8 c7 c4 E
 have cw := c7.size
 replace E := E.sz (Nat.le_refl F.heap.size)
 obtain ⟨nn, ii, sq, sr, sn, ai, c2, J, cb, cd, cc, rfl, B, P, N⟩ := c4
 obtain ⟨sv, a0⟩ : ∃ l, nm3.take nn = l := ⟨_, rfl⟩
 have a2 := J.sy ai c2
 rw [a0] at a2
 have bt := (Bu ai).2
 rw [a0] at bt
 have dn := J.len
 have a4 := J.qe.pols
 have a3 := J.re.pols
 dsimp only at B P N
 rw [a0] at B
 obtain ⟨aa, a7, rfl, _, _⟩ := B.shp
 obtain ⟨ac, a9, rfl, _, _⟩ := P.shp
 obtain ⟨ab, a8, rfl, _, _⟩ := N.shp
 replace E := E.r (e := MS) (S := EY G.heap.size F.heap.size) N (fun _ g => g.2)
 replace E := E.r (e := MS) (S := EY G.heap.size F.heap.size) P (fun _ g => g.2)
 replace E := E.r (e := elS) (S := EY G.heap.size F.heap.size) B (fun _ g => g.2)
 have cp := Bi a2
 have ct := Bo a2
 have co := vM a2
 refine yG ?_
 refine EF O (CB OU O ?_)
 intro z d6 h cv c6 al
 have bn : X < z := by rw [h]; exact Bx.lt (Zv E)
 have ba : F.heap.size <= z := by rw [h]; exact CR (e3 E)
 have b9 : Y.heap.size <= z := by rw [h]; exact CR (e5 E)
 have b8 : y.heap.size <= z := by rw [h]; exact CR (e7 E)
 have b7 : C.heap.size <= z := by rw [h]; exact CR (e9 E)
 have b6 : w5.heap.size <= z := by rw [h]; exact CR (Xm E)
 have b5 : w3.heap.size <= z := by rw [h]; exact CR (Xl E)
 replace E := E.below c6
 refine yG ?_
 refine EF O (BY OU O O O al O O (CK O (CK O (CK O (CK O EK)))) ?_)
 intro bj bm bf
 replace E := oY E al bm bf (ds := [.slice aa sv.length a7, .slice ac sq.length a9, .slice ab sr.length a8, .int .i64 ↑sn])
 obtain ⟨ah, am⟩ := Oo J ai
 rw [a0] at ah
 by_cases di : n % 5 = 0
 case neg =>
  refine yG ?_
  refine V (v := .int .u16 ↑(n % 5)) O O (EC O O O AE (KE n 5)) ?_
  obtain ⟨tz, ez, H⟩ : ∃ a b, MH ⟨sv, sq, sr, sn⟩ = (a, b) := ⟨_, _, rfl⟩
  refine yG ?_
  refine EF O (BZ RC O ((by have f := oU _ sv _ sq _ sr sn bj (BW E.2.1) (BW E.2.2.1) (BW (e3 E)) a4 a3 AA (e20 E).1; rw [H] at f; exact f)) O E ?_)
  intro bg dz E
  refine yG ?_
  refine EF O (BZ XA O ((by have f := yX _ sv _ sq _ sr sn bg (BW E.2.1) (BW E.2.2.1) (BW (e3 E)) a4 a3 am ah AA AA AA; rw [H] at f; exact f)) O E ?_)
  exact Zl8
 refine yG ?_
 refine V (v := .int .u16 ↑(n % 5)) O O (EC O O O AE (KE n 5)) ?_
 refine yG ?_
 refine V (v := .int .i64 ↑n) O O (DR O O Ya1 underlying3 (JP O AA)) ?_
 refine V (v := .int .i64 ↑(n / 100)) O O (vV O O O AE (JP (Lf n 100) AA)) ?_
 have ak := E.1
 refine yG ?_
 replace E := VI E
 refine yG ?_
 refine EF O (CG (v := .int .i64 ↑(n / 100)) O Z O O O ak AH ?_)
 intro bi bl bd
 replace E := oY E ak bl bd (ds := [.slice aa sv.length a7, .slice ac sq.length a9, .slice ab sr.length a8, .int .i64 ↑(n / 100)])
 obtain ⟨tz, ez, H⟩ : ∃ a b, MH ⟨sv, sq, sr, n / 100⟩ = (a, b) := ⟨_, _, rfl⟩
 refine yG ?_
 refine EF O (BZ RC O ((by have f := oU _ sv _ sq _ sr (n / 100) bi (BW E.2.1) (BW E.2.2.1) (BW (e3 E)) a4 a3 AA (e20 E).1; rw [H] at f; exact f)) O E ?_)
 intro bh eb E
 refine yG ?_
 refine EF O (BZ XA O ((by have f := yX _ sv _ sq _ sr (n / 100) bh (BW E.2.1) (BW E.2.2.1) (BW (e3 E)) a4 a3 am ah AA AA AA; rw [H] at f; exact f)) O E ?_)
 exact Zl8
end Go.Proofs.YtmppigbbkjepiaaGreatDoor
