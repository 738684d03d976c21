/- Helping facts of RRead2; no other conditions. -/
import Derived.Test.YtmppigbbkjepiaaGreatDoorRRead1
namespace Go.Proofs.YtmppigbbkjepiaaGreatDoor
open Go.Proofs.Tryz
open Go.RowKit W
variable {c : Rat} {m n : Bool} {mm : List Nat} {p : Prop} {s u : Value} {v : Nat} {w' w0 : World}
theorem YdG (h : p := by first | exact (List.getElem?_eq_some_iff.1 ax).1 | exact P) : p := h
theorem Ycy (h : p := by rw [CF p.2]; omega) : p := h
theorem Y4v (h : p := by first | exact (List.getElem?_eq_some_iff.1 ay).1 | exact P) : p := h
theorem Y6s (h : p := by first | exact (List.getElem?_eq_some_iff.1 b4).1 | exact P) : p := h
theorem Y60 (h : p := by rw [<- bh]; exact Q) : p := h
theorem YkT (h : p := by rw [<- X]; exact h) : p := h
theorem Yus (h : p := by first | exact (List.getElem?_eq_some_iff.1 R).1 | exact P) : p := h
theorem Yuj (h : p := by first | exact (List.getElem?_eq_some_iff.1 T).1 | exact P) : p := h
theorem Y9m (h : p := by first | exact (List.getElem?_eq_some_iff.1 a2).1 | exact P) : p := h
theorem YHh (h : p := by first | exact (List.getElem?_eq_some_iff.1 a3).1 | exact P) : p := h
theorem YVn (h : p := by first | rfl | exact CF CK) : p := h
theorem YeW (h : p := by simp [results, results68, asAddr, r1]) : p := h
theorem Zdi (h : p := by
 refine yG ?_
 refine OL (j := 1) O O ae O Yuj ?_
 refine yG ?_
 refine EF O (CB DH O (MM a9 2 65535 _ AA AE) O E ?_)
 intro jf kk E
 refine yG ?_
 refine OL (j := 0) O O af O YHh ?_
 refine yG ?_
 refine EF O (CB DS O (ON _ l aa _ (BW (Kq E)) AA) O E ?_)
 intro je kj E
 exact ZDV
 ) : p := h
theorem ZhF (h : p := by
 refine yG ?_
 refine OL (j := 1) O O ac O Yus ?_
 refine yG ?_
 refine EF O (CB DH O (MM a6 2 65535 _ AA AE) O E ?_)
 intro id k4 E
 refine yG ?_
 refine OL (j := 0) O O ad O Y9m ?_
 refine yG ?_
 refine EF O (CB DS O (ON _ l a7 _ (BW (Dh E)) AA) O E ?_)
 intro ic k3 E
 exact ZNt
 ) : p := h
theorem ZDV (h : p := by
 have d0 := e6 E
 refine yG ?_
 replace E := dW E
 refine yG ?_
 refine EF O (BY FQ O O O d0 YVn (CF CK) (DO (M := zeroM) GB GB) ?_)
 intro jd g6 fm
 replace E := oY E d0 g6 fm (ds := (EW false (.slice none 0 0) false (.slice none 0 0) zeroM))
 have r1 := CL FQ E.1 (CF CK)
 refine yG ?_
 exact AQ (v := .tuple #[.agg (EW false (.slice none 0 0) false (.slice none 0 0) zeroM).toArray, .bool false]) YeW O (TI (KO y (GW p.1 N (XU AA))) CK (DF _) (DF _) (Dh E))
 ) : p := h
theorem ZNt (h : p := by
 have cq := e6 E
 refine yG ?_
 replace E := dW E
 refine yG ?_
 refine EF O (BY FQ O O O cq YVn (CF CK) (DO (M := zeroM) GB GB) ?_)
 intro ib fv fb
 replace E := oY E cq fv fb (ds := (EW false (.slice none 0 0) false (.slice none 0 0) zeroM))
 have r1 := CL FQ E.1 (CF CK)
 refine yG ?_
 exact AQ (v := .tuple #[.agg (EW false (.slice none 0 0) false (.slice none 0 0) zeroM).toArray, .bool false]) YeW O (TI (KO y (GW p.1 L (XU AA))) CK (DF _) (DF _) (Vz E))
 ) : p := h
theorem yX {x : Bs} (h : ¬ 1 < (DI 94 x).length) : KY 94 x = none /\ DI 94 x = [x] := by
 cases e : KY 94 x with
 | none => exact ⟨rfl, PO 94 (cutB_none.1 e)⟩
 | some p =>
   obtain ⟨a, d⟩ := p
   obtain ⟨rfl, f⟩ := cutB_some.1 e
   rw [YL 94 f] at h
   have := bN 94 d
   simp only [List.length_cons] at h; omega
theorem yW {x : Bs} (h : 1 < (DI 94 x).length) (h2 : ¬ 2 < (DI 94 x).length) : ∃ a d, KY 94 x = some (a, d) /\ DI 94 x = [a, d] := by
 cases f : KY 94 x with
 | none => rw [PO 94 (cutB_none.1 f)] at h; simp at h
 | some p =>
   obtain ⟨a, d⟩ := p
   obtain ⟨rfl, l⟩ := cutB_some.1 f
   refine ⟨a, d, O, ?_⟩
   rw [YL 94 l] at h2 ⊢
   have k : (94 : UInt8) ∉ d := by
    intro e
    have := UE 94 d
    have := List.count_pos_iff.2 e
    simp only [List.length_cons] at h2; omega
   rw [PO 94 k]
theorem XU {l : List Bs} {x : Bs} (h2 : 2 < (DI 94 x).length) : LP l x = none := by
 unfold LP
 cases h : KY 94 x with
 | none => rw [PO 94 (cutB_none.1 h)] at h2; simp at h2
 | some p =>
   obtain ⟨a, d⟩ := p
   obtain ⟨rfl, q⟩ := cutB_some.1 h
   rw [YL 94 q] at h2
   have f : (94 : UInt8) ∈ d := by
    by_cases e : (94 : UInt8) ∈ d
    . exact e
    rw [PO 94 e] at h2; simp at h2
   have o : EA 2 65535 d = none := by
    cases k : EA 2 65535 d with
    | none => rfl
    | some n =>
      have := (IW AE k).1
      rw [this] at f
      exact absurd f (Lz AE)
   simp only
   rw [o]
   cases l.idxOf? a <;> rfl
theorem rf_1 {l : List Bs} {x : Bs} (h : KY 94 x = none) (hv : l.idxOf? x = none) : LP l x = none := by unfold LP; simp only [h, hv]; rfl
theorem rf_2 {l : List Bs} {x : Bs} (h : KY 94 x = none) (hv : l.idxOf? x = some v) : LP l x = some (v, 1) := by unfold LP; simp only [h, hv]; rfl
theorem rf_3 {l : List Bs} {x a d : Bs} (h : KY 94 x = some (a, d)) (hv : l.idxOf? a = none) : LP l x = none := by unfold LP; simp only [h, hv]
theorem rf_4 {l : List Bs} {x a d : Bs} (h : KY 94 x = some (a, d)) (hv : l.idxOf? a = some v) (hn : EA 2 65535 d = none) : LP l x = none := by unfold LP; simp only [h, hv, hn]
theorem rf_5 {l : List Bs} {x a d : Bs} {n : Nat} (h : KY 94 x = some (a, d)) (hv : l.idxOf? a = some v) (hn : EA 2 65535 d = some n) : LP l x = some (v, n) := by unfold LP; simp only [h, hv, hn]
theorem OE (vl : Value) (l : List Bs) (x : Bs) (v : Nat) (w : World) (h : IsR elS (DL w.heap.size) w vl l) (hL : l.length <= 1000000) (hv : l.idxOf? x = some v) : Calls prog 107 #[vl, .string (bs x)] w (VI w ((v : Nat) : Int)) := by
 have := ON vl l x w h hL
 unfold aO at this
 rwa [hv] at this
theorem RR (vl : Value) (l : List Bs) (x : Bs) (w : World) (h : IsR elS (DL w.heap.size) w vl l) (hL : l.length <= 1000000) (hv : l.idxOf? x = none) : Calls prog 107 #[vl, .string (bs x)] w (VI w (-1)) := by
 have := ON vl l x w h hL
 unfold aO at this
 rwa [hv] at this
theorem UQ (s : Bs) (lo hi : Nat) (w : World) (hs : s.length <= 1000000) (hh : hi <= 1000000) (h : EA lo hi s = none) : Calls prog 72 #[.string (bs s), .int .i64 ↑lo, .int .i64 ↑hi] w (VI w (-1)) := by
 have := MM s lo hi w hs hh
 rwa [h] at this
theorem SH (s : Bs) (lo hi n : Nat) (w : World) (hs : s.length <= 1000000) (hh : hi <= 1000000) (h : EA lo hi s = some n) : Calls prog 72 #[.string (bs s), .int .i64 ↑lo, .int .i64 ↑hi] w (VI w ((n : Nat) : Int)) := by
 have := MM s lo hi w hs hh
 rwa [h] at this
theorem Ms (s : Bs) (w : World) (hs : s.length <= 1000000) : Calls prog 67 #[.string (bs s), .int .u8 42] w (pT w (qU w (DI 42 s))) := lM 42 s w hs
theorem wP (s : Bs) (w : World) (hs : s.length <= 1000000) : Calls prog 67 #[.string (bs s), .int .u8 94] w (pT w (qU w (DI 94 s))) := lM 94 s w hs
theorem wQ (s : Bs) (w : World) (hs : s.length <= 1000000) : Calls prog 67 #[.string (bs s), .int .u8 32] w (pT w (qU w (DI 32 s))) := lM 32 s w hs
theorem vN (s : Bs) (x : Rat) (w : World) (hs : s.length <= 4000) (h : OZ s = some x) : Calls prog 111 #[.string (bs s)] w (RetPE w x.num ((x.den : Nat) : Int) 0) := by
 refine (Am (bs s) w).mono fun e q o => ?_
 have k : bs s = NF x := by rw [aH h, sZ]
 rcases o with ⟨p, _⟩ | ⟨_, f, _⟩ | ⟨y, _, f, l⟩
 . rw [ES] at p; omega
 . exact absurd k (f x)
 have : x = y := wF (k.symm.trans f)
 subst this; exact l
theorem vO (s : Bs) (w : World) (hs : s.length <= 4000) (h : OZ s = none) : Calls prog 111 #[.string (bs s)] w (RetPE w 0 0 3) := by
 refine (Am (bs s) w).mono fun e p k => ?_
 rcases k with ⟨o, _⟩ | ⟨_, _, f⟩ | ⟨y, _, l, _⟩
 . rw [ES] at o; omega
 . exact f
 exact absurd (by rw [<- l, FO] : s = (NF y).data.toList) (jV h y)
def Ak (w0 : World) (o : Option Tm) (e : Ending) (w' : World) : Prop := match o with
 | none => ∃ n s m u z y mm, e = .returned (.tuple #[.agg (EW n s m u mm).toArray, .bool false]) /\ FC mm /\ IsI w' (.agg #[.bool n, s]) z /\ IsI w' (.agg #[.bool m, u]) y /\ Below w0.heap.size w0 w'
 | some t => ∃ n s m u, e = .returned (.tuple #[.agg (EW n s m u t.2).toArray, .bool true]) /\ IsI w' (.agg #[.bool n, s]) t.1.num /\ IsI w' (.agg #[.bool m, u]) ((t.1.den : Nat) : Int) /\ Below w0.heap.size w0 w'
theorem TI {o : Option Tm} {z y : Int} (h : o = none) (hm : FC mm) (h1 : IsI w' (.agg #[.bool n, s]) z) (h2 : IsI w' (.agg #[.bool m, u]) y) (hb : Below w0.heap.size w0 w') : Ak w0 o (.returned (.tuple #[.agg (EW n s m u mm).toArray, .bool false])) w' := by subst h; exact ⟨n, s, m, u, z, y, mm, rfl, hm, h1, h2, hb⟩
theorem Nz {o : Option Tm} (h : o = some (c, mm)) (h1 : IsI w' (.agg #[.bool n, s]) c.num) (h2 : IsI w' (.agg #[.bool m, u]) ((c.den : Nat) : Int)) (hb : Below w0.heap.size w0 w') : Ak w0 o (.returned (.tuple #[.agg (EW n s m u mm).toArray, .bool true])) w' := by subst h; exact ⟨n, s, m, u, rfl, h1, h2, hb⟩
theorem fY (h : 0 < c) : decide (OY c.num > 0) = true := by have := fZ h; rw [decide_eq_false_iff_not] at this; rw [decide_eq_true_eq]; omega
theorem rY (h : ¬ 0 < c) : decide (OY c.num > 0) = false := by have := nX h; rw [decide_eq_true_eq] at this; rw [decide_eq_false_iff_not]; omega
set_option maxRecDepth 100000 in
set_option maxHeartbeats 8000000 in
theorem LR (s : Bs) (vl : Value) (l : List Bs) (w : World) (hRl : IsR elS (DL w.heap.size) w vl l) (hs : s.length <= 4000) (hV : DM 8 l = true) :
 Calls prog 68 #[.string (bs s), vl] w (Ak w (cO l s)) := by
 have E := Env.start w
 obtain ⟨b6, ag, rfl, jp, jm⟩ := hRl.shp
 replace E := E.r hRl (DZ _)
 have jo := IG hV
 go_enter func68, ntmps68
 refine yG ?_
 refine EF O (BZ FQ O ?_)
 intro b1 w1 gq z1 d1 U
 have l1 : w.heap.size <= b1 := by rw [gq]; exact E.2.1.size
 replace E := E.below d1
 have f5 : b1 < w1.heap.size := Bx.lt (U)
 refine yG ?_
 refine EF O (DE KG O (Ms s _ AA) O E ?_)
 intro w2 v2 d2 f2 E
 replace U := U.below d2
 replace E := E.sz (Nat.le_refl w2.heap.size)
 obtain ⟨ah, G, rfl, hf, _⟩ := f2.shp
 replace E := E.r (e := elS) (S := EM w1.heap.size w2.heap.size) f2 (fun _ g => g.2)
 refine yG ?_
 refine EF O (CV GM O (QH 1 _ AE AE) O E ?_)
 intro w4 n4 s4 m4 t4 d4 E
 replace U := U.below d4
 have F3 : FitQ ((1 : Int) : Rat) 4 := MG (k := 4) AE (EU AE AE)
 refine yG ?_
 refine V (v := .agg (EW n4 s4 m4 t4 zeroM).toArray) O O (aB O O) ?_
 refine yG ?_
 refine EF O (BZ FQ O ?_)
 intro b5 w5 ew z5 d5 x5
 have he : b1 < b5 := by rw [ew]; exact Bx.lt (U)
 have g8 : w2.heap.size <= b5 := by rw [ew]; exact CS (e3 E)
 replace E := E.below d5
 replace U := Bx.below U d5
 refine yG ?_
 refine EF O (BY FQ O O O x5 YVn (CF CK) (DO (M := zeroM) (IsI.one E.2.1) (IsI.one E.1)) ?_)
 intro w6 o6 y6
 replace E := oY E x5 o6 y6 (ds := (EW n4 s4 m4 t4 zeroM))
 replace U := Bx.onl U AA o6
 have gc := bN 42 s
 have di := PP 42 s
 obtain ⟨x7, b4⟩ : ∃ x, (DI 42 s)[0]? = some x := ⟨_, List.getElem?_eq_getElem gc⟩
 obtain ⟨ao, bm, _, eo, es, gp, ge⟩ := IsR.at (e3 E).1 b4
 obtain rfl := (show _ = [Value.string (bs x7)] from ge)
 have gj : ao < _ := (e3 E).2 _ es
 replace E := E.c gp gj
 have jq : w1.heap.size <= ao /\ ao < w2.heap.size := es
 have jl := NV (List.mem_of_getElem? b4)
 by_cases hq : OZ x7 = none
 case pos =>
  refine yG ?_
  refine OL (j := 0) O O eo O Y6s ?_
  refine yG ?_
  refine EF O (QN ZI O (vO x7 _ AA hq) O E ?_)
  intro w8 n8 s8 m8 t8 d8 E
  replace U := U.below d8
  refine yG ?_
  refine EF O (BZ EY O ?_)
  intro b9 w9 ev z9 d9 x9
  have hd : b5 < b9 := by rw [ev]; exact Bx.lt (e3 E)
  have g7 : w2.heap.size <= b9 := by rw [ev]; exact CS (e7 E)
  replace E := E.below d9
  replace U := Bx.below U d9
  refine yG ?_
  refine EF O (BY EY O O O x9 O O (IF (IsI.one E.2.1) (IsI.one E.1)) ?_)
  intro jg dg fn
  replace E := oY E x9 dg fn
  replace U := Bx.onl U AA dg
  have y := sW b4 hq
  have gi : (DI 42 s).length <= s.length + 1 := by first | exact di | (rw [List.length_drop]; omega)
  have ca : (DI 42 s).length = (DI 42 s).length := rfl
  replace E := E.x U
  refine yG ?_
  refine wp_loop_ghost (fun mz a w' => ∃ (i : Nat) (t : List Nat) (an : List Value), an = a.tmps.toList /\ a = ⟨(.string (bs s) :: .slice b6 l.length ag :: undef :: undef :: .pointer (some ⟨b1, 0, none⟩) :: (CJ an 5) :: .slice ah ((DI 42 s).length) G :: .pointer (some ⟨b5, 0, none⟩) :: .pointer (some ⟨b9, 0, none⟩) :: .int .i64 3 :: .int .i64 ↑i :: gr an 11 3 (.string (bs s) :: .slice ah ((DI 42 s).length) G :: .agg #[.bool n4, s4, .bool m4, t4] :: .agg (EW n4 s4 m4 t4 zeroM).toArray :: .tuple #[.agg #[.bool n8, s8, .bool m8, t8], .int .i64 3] :: .slice ah ((DI 42 s).length) G :: .pointer (some ⟨ao, bm + 0 * 1, none⟩) :: .string (bs x7) :: .tuple #[.agg #[.bool n8, s8, .bool m8, t8], .int .i64 3] :: .agg #[.bool n8, s8, .bool m8, t8] :: .int .i64 3 :: .int .i64 3 :: .bool false :: undef :: undef :: undef :: undef :: gr an 31 39 (undef :: undef :: undef :: undef :: undef :: undef :: undef :: undef :: undef :: undef :: undef :: undef :: []))).toArray, []⟩ /\ Env w' [fX b5 (88) (EW n4 s4 m4 t4 t), fX b1 (88) (EW false (.slice none 0 0) false (.slice none 0 0) zeroM), fX b9 (64) ([.bool n8, s8, .bool m8, t8]), fI (.agg #[.bool m8, t8]) 0, fI (.agg #[.bool n8, s8]) 0, fC ao (bm + 0 * 1) [.string (bs x7)], fI (.agg #[.bool m4, t4]) ((((1 : Int) : Rat).den : Nat) : Int), fI (.agg #[.bool n4, s4]) (((1 : Int) : Rat).num), fR elS (EM w1.heap.size w2.heap.size) (.slice ah ((DI 42 s).length) G) (DI 42 s), iR w2.heap.size, fR elS (DL w.heap.size) (.slice b6 l.length ag) l, fW w] /\ mz = ((DI 42 s).length) - i /\ (i <= (DI 42 s).length /\ GX l ((DI 42 s).take i) zeroM = some t /\ FC t)) (((DI 42 s).length)) ⟨0, zeroM, _, O, O, zE, O, ⟨Nat.zero_le _, by simp [GX], CK⟩⟩ ?_
  rintro jk _ b3 ⟨i, t, an, -, rfl, E, bq, c6⟩
  dsimp only [gr, Nat.reduceAdd]
  obtain ⟨c6, p⟩ := c6
  by_cases P : i < (DI 42 s).length
  case neg =>
   rw [List.take_of_length_le AA] at p
   by_cases Y : 0 < ((1 : Int) : Rat)
   case neg =>
    have b0 := E.2.1
    refine yG ?_
    replace E := QP E
    refine sE E [0,1,2,3,4,5,6,7,9,8,10,11,12,13] ?_
    replace E := E.drew
    replace b0 := Bx.drew b0
    refine SW O O O O O (fun w u => CE FQ O O (Bx.cs (u.1)) (CF p.2)) ?_
    refine yG ?_
    refine SW O O O O O (fun w u => CE EY O O (Cs.sub (Bx.cs (u.1)) 0 (EQ _ _ _ _ _)) O) ?_
    refine yG ?_
    refine GG (o := ⟨some 73, _, _, _, _, _⟩) O O O O (CB ER O (NA _ _ _ _ ((1 : Int) : Rat) _ (e6 E) (e5 E)) O E ?_)
    intro ik gu E
    replace b0 := b0.below gu
    refine ⟨E, ?_⟩
    refine yG ?_
    refine SW O O O O O (fun w u => EP (c := false) O O O (rY Y)) ?_
    refine yG ?_
    refine GG (o := ⟨none, _, _, _, _, _⟩) O O O O (BY FQ O O O b0 YVn (CF p.2) (DO (M := t) (IsI.one (e6 E)) (IsI.one (e5 E))) ?_)
    intro ij fw fe
    replace E := oY E b0 fw fe (ds := (EW n4 s4 m4 t4 t))
    refine ⟨E.2, ?_⟩
    have r1 := CL FQ E.1 (CF p.2)
    refine yG ?_
    exact AQ (v := .tuple #[.agg (EW n4 s4 m4 t4 t).toArray, .bool false]) YeW O (TI (RZ y p.1 (fun g => Y g.1)) p.2 (e7 E) (e6 E) (RC E))
   have bk := aZ Y
   by_cases ai : GA l (PC ((1 : Int) : Rat)) t = s
   case pos =>
    have ak := E.2.1
    refine yG ?_
    replace E := QP E
    refine sE E [0,1,2,3,4,5,6,7,9,8,10,11,12,13] ?_
    replace E := E.drew
    replace ak := Bx.drew ak
    refine SW O O O O O (fun w u => CE FQ O O (Bx.cs (u.1)) (CF p.2)) ?_
    refine yG ?_
    refine SW O O O O O (fun w u => CE EY O O (Cs.sub (Bx.cs (u.1)) 0 (EQ _ _ _ _ _)) O) ?_
    refine yG ?_
    refine GG (o := ⟨some 73, _, _, _, _, _⟩) O O O O (CB ER O (NA _ _ _ _ ((1 : Int) : Rat) _ (e6 E) (e5 E)) O E ?_)
    intro ir gy E
    replace ak := ak.below gy
    refine ⟨E, ?_⟩
    refine yG ?_
    refine SW O O O O O (fun w u => EP (c := true) O O O (fY Y)) ?_
    refine yG ?_
    refine SW O O O Z O (fun w u => CE FQ O O (Bx.cs (u.1)) (CF p.2)) ?_
    refine yG ?_
    refine GG (o := ⟨some 78, _, _, _, _, _⟩) O O O O (CC PY O (lI _ _ _ _ ((1 : Int) : Rat) t _ l _ (e6 E) (e5 E) p.2 (BW (e9 E)) (FitQ.mono F3 AE) hV) O E ?_)
    intro iq gx E
    replace ak := ak.below gx
    refine ⟨E, ?_⟩
    refine yG ?_
    refine SW O O O Z O (fun w u => EO (a := GA l (PC ((1 : Int) : Rat)) t) (b := s) (c := true) O O O (by rw [beq_iff_eq]; exact ai)) ?_
    refine yG ?_
    refine GG (o := ⟨none, _, _, _, _, _⟩) O O O O (BY FQ O O O ak YVn (CF p.2) (DO (M := t) (IsI.one (e6 E)) (IsI.one (e5 E))) ?_)
    intro ip fy fg
    replace E := oY E ak fy fg (ds := (EW n4 s4 m4 t4 t))
    refine ⟨E.2, ?_⟩
    have r1 := CL FQ E.1 (CF p.2)
    refine yG ?_
    exact AQ (v := .tuple #[.agg (EW n4 s4 m4 t4 t).toArray, .bool true]) YeW O (Nz (lT y p.1 Y (by have := ai; rwa [bk] at this)) (e7 E) (e6 E) (RC E))
   have aj := E.2.1
   refine yG ?_
   replace E := QP E
   refine sE E [0,1,2,3,4,5,6,7,9,8,10,11,12,13] ?_
   replace E := E.drew
   replace aj := Bx.drew aj
   refine SW O O O O O (fun w u => CE FQ O O (Bx.cs (u.1)) (CF p.2)) ?_
   refine yG ?_
   refine SW O O O O O (fun w u => CE EY O O (Cs.sub (Bx.cs (u.1)) 0 (EQ _ _ _ _ _)) O) ?_
   refine yG ?_
   refine GG (o := ⟨some 73, _, _, _, _, _⟩) O O O O (CB ER O (NA _ _ _ _ ((1 : Int) : Rat) _ (e6 E) (e5 E)) O E ?_)
   intro io gw E
   replace aj := aj.below gw
   refine ⟨E, ?_⟩
   refine yG ?_
   refine SW O O O O O (fun w u => EP (c := true) O O O (fY Y)) ?_
   refine yG ?_
   refine SW O O O Z O (fun w u => CE FQ O O (Bx.cs (u.1)) (CF p.2)) ?_
   refine yG ?_
   refine GG (o := ⟨some 78, _, _, _, _, _⟩) O O O O (CC PY O (lI _ _ _ _ ((1 : Int) : Rat) t _ l _ (e6 E) (e5 E) p.2 (BW (e9 E)) (FitQ.mono F3 AE) hV) O E ?_)
   intro im gv E
   replace aj := aj.below gv
   refine ⟨E, ?_⟩
   refine yG ?_
   refine SW O O O Z O (fun w u => EO (a := GA l (PC ((1 : Int) : Rat)) t) (b := s) (c := false) O O O (by rw [beq_eq_false_iff_ne]; exact ai)) ?_
   refine yG ?_
   refine GG (o := ⟨none, _, _, _, _, _⟩) O O O O (BY FQ O O O aj YVn (CF p.2) (DO (M := t) (IsI.one (e6 E)) (IsI.one (e5 E))) ?_)
   intro il fx ff
   replace E := oY E aj fx ff (ds := (EW n4 s4 m4 t4 t))
   refine ⟨E.2, ?_⟩
   have r1 := CL FQ E.1 (CF p.2)
   refine yG ?_
   exact AQ (v := .tuple #[.agg (EW n4 s4 m4 t4 t).toArray, .bool false]) YeW O (TI (RZ y p.1 (fun g => ai (by rw [bk]; exact g.2))) p.2 (e7 E) (e6 E) (RC E))
  obtain ⟨a5, N⟩ : ∃ x, (DI 42 s)[i]? = some x := ⟨_, List.getElem?_eq_getElem (show i < (DI 42 s).length by rw [ca]; exact P)⟩
  obtain ⟨bg, ha, _, er, c4, en, dr⟩ := IsR.at (e8 E).1 N
  obtain rfl := (show _ = [Value.string (bs a5)] from dr)
  have ee : bg < _ := (e8 E).2 _ c4
  replace E := E.c en ee
  have ho : w1.heap.size <= bg /\ bg < w2.heap.size := c4
  have c8 := List.mem_of_getElem? N
  have dh : a5.length <= s.length := NV (c8)
  have am := bN 94 a5
  refine yG ?_
  refine OL O O er O (by first | exact (List.getElem?_eq_some_iff.1 N).1 | exact P) ?_
  have dw : b5 < b3.heap.size := Bx.lt E.2.1
  have dv : b1 < b3.heap.size := Bx.lt E.2.2.1
  refine yG ?_
  refine EF O (DE KG O (wP a5 _ AA) O E ?_)
  intro ba ji kl eu E
  replace E := E.sz (Nat.le_refl ba.heap.size)
  obtain ⟨hc, hb, rfl, gg, _⟩ := eu.shp
  replace E := E.r (e := elS) (S := EM b3.heap.size ba.heap.size) eu (fun _ g => g.2)
  by_cases gn : 1 < (DI 94 a5).length
  case neg =>
   obtain ⟨bj, c9⟩ := yX (by omega : ¬ 1 < (DI 94 a5).length)
   obtain ⟨b7, ay⟩ : ∃ x, (DI 94 a5)[0]? = some x := ⟨_, List.getElem?_eq_getElem am⟩
   obtain ⟨bb, h7, _, bu, c1, ek, dn⟩ := IsR.at E.1.1 ay
   obtain rfl := (show _ = [Value.string (bs b7)] from dn)
   have eb : bb < _ := E.1.2 _ c1
   replace E := E.c ek eb
   have hl : b3.heap.size <= bb /\ bb < ba.heap.size := c1
   have X : b7 = a5 := by have := ay; rw [c9] at this; simpa using this.symm
   by_cases h : l.idxOf? b7 = none
   case pos =>
    refine yG ?_
    refine OL (j := 0) O O bu O Y4v ?_
    refine yG ?_
    refine EF O (CB DS O (RR _ l b7 _ (BW (lB E)) AA h) O E ?_)
    intro ix k7 E
    have cu := e5 E
    refine yG ?_
    replace E := Lu E
    refine yG ?_
    refine EF O (BY FQ O O O cu YVn (CF CK) (DO (M := zeroM) GB GB) ?_)
    intro iw g0 fh
    replace E := oY E cu g0 fh (ds := (EW false (.slice none 0 0) false (.slice none 0 0) zeroM))
    have r1 := CL FQ E.1 (CF CK)
    refine yG ?_
    exact AQ (v := .tuple #[.agg (EW false (.slice none 0 0) false (.slice none 0 0) zeroM).toArray, .bool false]) YeW O (TI (KO y (GW p.1 N (rf_1 bj YkT))) CK (DF _) (DF _) (Kq E))
   obtain ⟨v, h⟩ := Option.ne_none_iff_exists'.1 h
   have a8 := rf_2 bj YkT
   have ap := UM a8
   have aq := aM (v := v) p.2 ap.2.2
   refine yG ?_
   refine OL (j := 0) O O bu O Y4v ?_
   refine yG ?_
   refine EF O (CB DS O (OE _ l b7 v _ (BW (lB E)) AA h) O E ?_)
   intro iv k6 E
   refine yG ?_
   have ct := e4 E
   refine yG ?_
   replace E := jI E
   refine yG ?_
   refine EF O (CI (v := .int .i64 ((1 : Nat) : Int)) O TX O O O ct Ycy ?_)
   intro iu fz cd
   rw [bL] at cd
   replace E := oY E ct fz cd (ds := (EW n4 s4 m4 t4 (t.set v 1)))
   refine yG ?_
   exact ⟨_, (by rw [bq]; omega), (i + 1), (t.set v 1), _, O, O, zE, O, ⟨by omega, PG p.1 N a8, aq⟩⟩
  obtain ⟨aa, a3⟩ : ∃ x, (DI 94 a5)[0]? = some x := ⟨_, List.getElem?_eq_getElem am⟩
  obtain ⟨bf, h9, _, af, c3, em, dq⟩ := IsR.at E.1.1 a3
  obtain rfl := (show _ = [Value.string (bs aa)] from dq)
  have ed : bf < _ := E.1.2 _ c3
  replace E := E.c em ed
  have hn : b3.heap.size <= bf /\ bf < ba.heap.size := c3
  obtain ⟨a9, T⟩ : ∃ x, (DI 94 a5)[1]? = some x := ⟨_, List.getElem?_eq_getElem AA⟩
  obtain ⟨bc, h8, _, ae, c2, el, dp⟩ := IsR.at E.2.1.1 T
  obtain rfl := (show _ = [Value.string (bs a9)] from dp)
  have ec : bc < _ := E.2.1.2 _ c2
  replace E := E.c el ec
  have hm : b3.heap.size <= bc /\ bc < ba.heap.size := c2
  have gk := NV (List.mem_of_getElem? T)
  by_cases gm : 2 < (DI 94 a5).length
  case pos =>
   by_cases gb : (aO l aa) < 0
   . exact Zdi
   by_cases ga : (Ka (EA (2 : Nat) (65535 : Nat) a9)) < 1
   . exact Zdi
   refine yG ?_
   refine OL (j := 1) O O ae O Yuj ?_
   refine yG ?_
   refine EF O (CB DH O (MM a9 2 65535 _ AA AE) O E ?_)
   intro j9 kg E
   refine yG ?_
   refine OL (j := 0) O O af O YHh ?_
   refine yG ?_
   refine EF O (CB DS O (ON _ l aa _ (BW (Kq E)) AA) O E ?_)
   intro j8 kf E
   refine yG ?_
   exact ZDV
  obtain ⟨a, d, ar, bi⟩ := yW (by omega : 1 < (DI 94 a5).length) AA
  have X : aa = a := by have := a3; rw [bi] at this; simpa using this.symm
  have bh : a9 = d := by have := T; rw [bi] at this; simpa using this.symm
  by_cases h : l.idxOf? aa = none
  case pos =>
   refine yG ?_
   refine OL (j := 1) O O ae O Yuj ?_
   refine yG ?_
   refine EF O (CB DH O (MM a9 2 65535 _ AA AE) O E ?_)
   intro j6 ke E
   refine yG ?_
   refine OL (j := 0) O O af O YHh ?_
   refine yG ?_
   refine EF O (CB DS O (RR _ l aa _ (BW (Kq E)) AA h) O E ?_)
   intro j5 kd E
   have cx := e6 E
   refine yG ?_
   replace E := dW E
   refine yG ?_
   refine EF O (BY FQ O O O cx YVn (CF CK) (DO (M := zeroM) GB GB) ?_)
   intro j4 g3 fj
   replace E := oY E cx g3 fj (ds := (EW false (.slice none 0 0) false (.slice none 0 0) zeroM))
   have r1 := CL FQ E.1 (CF CK)
   refine yG ?_
   exact AQ (v := .tuple #[.agg (EW false (.slice none 0 0) false (.slice none 0 0) zeroM).toArray, .bool false]) YeW O (TI (KO y (GW p.1 N (rf_3 ar YkT))) CK (DF _) (DF _) (Dh E))
  obtain ⟨v, h⟩ := Option.ne_none_iff_exists'.1 h
  by_cases Q : EA (2 : Nat) (65535 : Nat) a9 = none
  case pos =>
   refine yG ?_
   refine OL (j := 1) O O ae O Yuj ?_
   refine yG ?_
   refine EF O (CB DH O (UQ a9 2 65535 _ AA AE Q) O E ?_)
   intro j3 kc E
   refine yG ?_
   refine OL (j := 0) O O af O YHh ?_
   refine yG ?_
   refine EF O (CB DS O (OE _ l aa v _ (BW (Kq E)) AA h) O E ?_)
   intro j2 ka E
   refine yG ?_
   have cw := e6 E
   refine yG ?_
   replace E := dW E
   refine yG ?_
   refine EF O (BY FQ O O O cw YVn (CF CK) (DO (M := zeroM) GB GB) ?_)
   intro j1 g2 fi
   replace E := oY E cw g2 fi (ds := (EW false (.slice none 0 0) false (.slice none 0 0) zeroM))
   have r1 := CL FQ E.1 (CF CK)
   refine yG ?_
   exact AQ (v := .tuple #[.agg (EW false (.slice none 0 0) false (.slice none 0 0) zeroM).toArray, .bool false]) YeW O (TI (KO y (GW p.1 N (rf_4 ar YkT Y60))) CK (DF _) (DF _) (Dh E))
  obtain ⟨n, Q⟩ := Option.ne_none_iff_exists'.1 Q
  have gh := (IW AE Q).2.1
  have a8 := rf_5 ar YkT Y60
  have ap := UM a8
  have aq := aM (v := v) p.2 ap.2.2
  refine yG ?_
  refine OL (j := 1) O O ae O Yuj ?_
  refine yG ?_
  refine EF O (CB DH O (SH a9 2 65535 n _ AA AE Q) O E ?_)
  intro j0 k9 E
  refine yG ?_
  refine OL (j := 0) O O af O YHh ?_
  refine yG ?_
  refine EF O (CB DS O (OE _ l aa v _ (BW (Kq E)) AA h) O E ?_)
  intro iz k8 E
  refine yG ?_
  have cv := e5 E
  refine yG ?_
  replace E := Lu E
  refine yG ?_
  refine EF O (CI (v := .int .i64 ↑n) O TX O O O cv Ycy ?_)
  intro iy g1 ce
  rw [bL] at ce
  replace E := oY E cv g1 ce (ds := (EW n4 s4 m4 t4 (t.set v n)))
  refine yG ?_
  exact ⟨_, (by rw [bq]; omega), (i + 1), (t.set v n), _, O, O, zE, O, ⟨by omega, PG p.1 N a8, aq⟩⟩
 obtain ⟨c, hq⟩ := Option.ne_none_iff_exists'.1 hq
 have ef := dL AA hq
 refine yG ?_
 refine OL (j := 0) O O eo O Y6s ?_
 refine yG ?_
 refine EF O (QN ZI O (vN x7 c _ AA hq) O E ?_)
 intro ii I C J B gs E
 replace U := U.below gs
 refine yG ?_
 refine EF O (BZ EY O ?_)
 intro bn ih c7 hp ex cr
 have g9 : b5 < bn := by rw [c7]; exact Bx.lt (e3 E)
 have f4 : w2.heap.size <= bn := by rw [c7]; exact CS (e7 E)
 replace E := E.below ex
 replace U := Bx.below U ex
 refine yG ?_
 refine EF O (BY EY O O O cr O O (IF (IsI.one E.2.1) (IsI.one E.1)) ?_)
 intro ig db fd
 replace E := oY E cr db fd
 replace U := Bx.onl U AA db
 have bl := e4 E
 refine yG ?_
 replace E := jI E
 refine sE E [0,1,2,3,4,5] ?_
 replace E := E.drew
 replace U := Bx.drew U
 replace bl := Bx.drew bl
 obtain ⟨a4, bt⟩ : ∃ a, Ba ah (1 * 1) (decide (G = 1)) = a := ⟨_, rfl⟩
 refine yG ?_
 refine SW (v := .slice a4 (((DI 42 s).length) - 1) (G - 1)) O O O O O (fun w u => FK (i := 1) O underlying30 Z O O O AA bt) ?_
 refine yG ?_
 refine GG (o := ⟨none, _, _, _, _, _⟩) O O O O (IS (cs' := (EW I C J B zeroM)) EY O O O bl O (by rw [CF CK]; decide) (IF (IsI.one E.2.2.1) (IsI.one E.2.1)) O ?_)
 intro ie da fc
 replace E := oY E bl da fc (ds := (EW I C J B zeroM))
 replace U := Bx.onl U AA da
 refine ⟨E.2, ?_⟩
 refine yG ?_
 replace E := E.r (e := elS) (S := EM w1.heap.size w2.heap.size) (MF (e7 E).1 AA bt) ((e7 E).2)
 have y := sV b4 hq
 have gi : ((DI 42 s).drop 1).length <= s.length + 1 := by first | exact di | (rw [List.length_drop]; omega)
 have ca : ((DI 42 s).drop 1).length = ((DI 42 s).length) - 1 := List.length_drop
 replace E := E.x U
 refine yG ?_
 refine wp_loop_ghost (fun mz a w' => ∃ (i : Nat) (t : List Nat) (f : List Value), a = ⟨#[.string (bs s), .slice b6 l.length ag, undef, undef, .pointer (some ⟨b1, 0, none⟩), CJ f 0, .slice a4 (((DI 42 s).length) - 1) (G - 1), .pointer (some ⟨b5, 0, none⟩), .pointer (some ⟨bn, 0, none⟩), .int .i64 0, .int .i64 ↑i, CJ f 1, CJ f 2, CJ f 3, .string (bs s), .slice ah ((DI 42 s).length) G, .agg #[.bool n4, s4, .bool m4, t4], .agg (EW n4 s4 m4 t4 zeroM).toArray, .tuple #[.agg #[.bool I, C, .bool J, B], .int .i64 0], .slice ah ((DI 42 s).length) G, .pointer (some ⟨ao, bm + 0 * 1, none⟩), .string (bs x7), .tuple #[.agg #[.bool I, C, .bool J, B], .int .i64 0], .agg #[.bool I, C, .bool J, B], .int .i64 0, .int .i64 0, .bool true, .agg #[.bool I, C, .bool J, B], .slice ah ((DI 42 s).length) G, .slice a4 (((DI 42 s).length) - 1) (G - 1), .pointer (some ⟨b5, 0, none⟩), CJ f 4, CJ f 5, CJ f 6, CJ f 7, CJ f 8, CJ f 9, CJ f 10, CJ f 11, CJ f 12, CJ f 13, CJ f 14, CJ f 15, CJ f 16, CJ f 17, CJ f 18, CJ f 19, CJ f 20, CJ f 21, CJ f 22, CJ f 23, CJ f 24, CJ f 25, CJ f 26, CJ f 27, CJ f 28, CJ f 29, CJ f 30, CJ f 31, CJ f 32, CJ f 33, CJ f 34, CJ f 35, CJ f 36, CJ f 37, CJ f 38, CJ f 39, CJ f 40, CJ f 41, CJ f 42, undef, undef, undef, undef, undef, undef, undef, undef, undef, undef, undef, undef], []⟩ /\ Env w' [fX b5 (88) (EW I C J B t), fX b1 (88) (EW false (.slice none 0 0) false (.slice none 0 0) zeroM), fR elS (EM w1.heap.size w2.heap.size) (.slice a4 (((DI 42 s).length) - 1) (G - 1)) ((DI 42 s).drop 1), fX bn (64) ([.bool I, C, .bool J, B]), fI (.agg #[.bool J, B]) ((c.den : Nat) : Int), fI (.agg #[.bool I, C]) c.num, fC ao (bm + 0 * 1) [.string (bs x7)], fI (.agg #[.bool m4, t4]) ((((1 : Int) : Rat).den : Nat) : Int), fI (.agg #[.bool n4, s4]) (((1 : Int) : Rat).num), fR elS (EM w1.heap.size w2.heap.size) (.slice ah ((DI 42 s).length) G) (DI 42 s), iR w2.heap.size, fR elS (DL w.heap.size) (.slice b6 l.length ag) l, fW w] /\ mz = (((DI 42 s).length) - 1) - i /\ (i <= ((DI 42 s).length) - 1 /\ GX l (((DI 42 s).drop 1).take i) zeroM = some t /\ FC t)) ((((DI 42 s).length) - 1)) ⟨0, zeroM, [.bool false, undef, undef, undef, undef, undef, undef, undef, undef, undef, undef, undef, undef, undef, undef, undef, undef, undef, undef, undef, undef, undef, undef, undef, undef, undef, undef, undef, undef, undef, undef, undef, undef, undef, undef, undef, undef, undef, undef, undef, undef, undef, undef], O, zE, O, ⟨Nat.zero_le _, by simp [GX], CK⟩⟩ ?_
 rintro jj _ b2 ⟨i, t, f, rfl, E, bp, c5⟩
 obtain ⟨c5, p⟩ := c5
 by_cases P : i < ((DI 42 s).length) - 1
 case neg =>
  rw [List.take_of_length_le AA] at p
  by_cases Y : 0 < c
  case neg =>
   have ab := E.2.1
   refine yG ?_
   replace E := QP E
   refine sE E [0,1,2,3,4,5,6,7,9,8,10,11,12,13] ?_
   replace E := E.drew
   replace ab := Bx.drew ab
   refine SW O O O O O (fun w u => CE FQ O O (Bx.cs (u.1)) (CF p.2)) ?_
   refine yG ?_
   refine SW O O O O O (fun w u => CE EY O O (Cs.sub (Bx.cs (u.1)) 0 (EQ _ _ _ _ _)) O) ?_
   refine yG ?_
   refine GG (o := ⟨some 73, _, _, _, _, _⟩) O O O O (CB ER O (NA _ _ _ _ c _ (e4 E) (e3 E)) O E ?_)
   intro h0 ey E
   replace ab := ab.below ey
   refine ⟨E, ?_⟩
   refine yG ?_
   refine SW O O O O O (fun w u => EP (c := false) O O O (rY Y)) ?_
   refine yG ?_
   refine GG (o := ⟨none, _, _, _, _, _⟩) O O O O (BY FQ O O O ab YVn (CF p.2) (DO (M := t) (IsI.one (e4 E)) (IsI.one (e3 E))) ?_)
   intro gz dc cf
   replace E := oY E ab dc cf (ds := (EW I C J B t))
   refine ⟨E.2, ?_⟩
   have r1 := CL FQ E.1 (CF p.2)
   refine yG ?_
   exact AQ (v := .tuple #[.agg (EW I C J B t).toArray, .bool false]) YeW O (TI (RZ y p.1 (fun g => Y g.1)) p.2 (e5 E) (e4 E) (WE E))
  have bk := aZ Y
  by_cases ai : GA l (PC c) t = s
  case pos =>
   have a1 := E.2.1
   refine yG ?_
   replace E := QP E
   refine sE E [0,1,2,3,4,5,6,7,9,8,10,11,12,13] ?_
   replace E := E.drew
   replace a1 := Bx.drew a1
   refine SW O O O O O (fun w u => CE FQ O O (Bx.cs (u.1)) (CF p.2)) ?_
   refine yG ?_
   refine SW O O O O O (fun w u => CE EY O O (Cs.sub (Bx.cs (u.1)) 0 (EQ _ _ _ _ _)) O) ?_
   refine yG ?_
   refine GG (o := ⟨some 73, _, _, _, _, _⟩) O O O O (CB ER O (NA _ _ _ _ c _ (e4 E) (e3 E)) O E ?_)
   intro h6 f3 E
   replace a1 := a1.below f3
   refine ⟨E, ?_⟩
   refine yG ?_
   refine SW O O O O O (fun w u => EP (c := true) O O O (fY Y)) ?_
   refine yG ?_
   refine SW O O O Z O (fun w u => CE FQ O O (Bx.cs (u.1)) (CF p.2)) ?_
   refine yG ?_
   refine GG (o := ⟨some 78, _, _, _, _, _⟩) O O O O (CC PY O (lI _ _ _ _ c t _ l _ (e4 E) (e3 E) p.2 (BW (RD E)) (FitQ.mono ef AE) hV) O E ?_)
   intro h5 f1 E
   replace a1 := a1.below f1
   refine ⟨E, ?_⟩
   refine yG ?_
   refine SW O O O Z O (fun w u => EO (a := GA l (PC c) t) (b := s) (c := true) O O O (by rw [beq_iff_eq]; exact ai)) ?_
   refine yG ?_
   refine GG (o := ⟨none, _, _, _, _, _⟩) O O O O (BY FQ O O O a1 YVn (CF p.2) (DO (M := t) (IsI.one (e4 E)) (IsI.one (e3 E))) ?_)
   intro h4 de ch
   replace E := oY E a1 de ch (ds := (EW I C J B t))
   refine ⟨E.2, ?_⟩
   have r1 := CL FQ E.1 (CF p.2)
   refine yG ?_
   exact AQ (v := .tuple #[.agg (EW I C J B t).toArray, .bool true]) YeW O (Nz (lT y p.1 Y (by have := ai; rwa [bk] at this)) (e5 E) (e4 E) (WE E))
  have a0 := E.2.1
  refine yG ?_
  replace E := QP E
  refine sE E [0,1,2,3,4,5,6,7,9,8,10,11,12,13] ?_
  replace E := E.drew
  replace a0 := Bx.drew a0
  refine SW O O O O O (fun w u => CE FQ O O (Bx.cs (u.1)) (CF p.2)) ?_
  refine yG ?_
  refine SW O O O O O (fun w u => CE EY O O (Cs.sub (Bx.cs (u.1)) 0 (EQ _ _ _ _ _)) O) ?_
  refine yG ?_
  refine GG (o := ⟨some 73, _, _, _, _, _⟩) O O O O (CB ER O (NA _ _ _ _ c _ (e4 E) (e3 E)) O E ?_)
  intro h3 f0 E
  replace a0 := a0.below f0
  refine ⟨E, ?_⟩
  refine yG ?_
  refine SW O O O O O (fun w u => EP (c := true) O O O (fY Y)) ?_
  refine yG ?_
  refine SW O O O Z O (fun w u => CE FQ O O (Bx.cs (u.1)) (CF p.2)) ?_
  refine yG ?_
  refine GG (o := ⟨some 78, _, _, _, _, _⟩) O O O O (CC PY O (lI _ _ _ _ c t _ l _ (e4 E) (e3 E) p.2 (BW (RD E)) (FitQ.mono ef AE) hV) O E ?_)
  intro h2 ez E
  replace a0 := a0.below ez
  refine ⟨E, ?_⟩
  refine yG ?_
  refine SW O O O Z O (fun w u => EO (a := GA l (PC c) t) (b := s) (c := false) O O O (by rw [beq_eq_false_iff_ne]; exact ai)) ?_
  refine yG ?_
  refine GG (o := ⟨none, _, _, _, _, _⟩) O O O O (BY FQ O O O a0 YVn (CF p.2) (DO (M := t) (IsI.one (e4 E)) (IsI.one (e3 E))) ?_)
  intro h1 dd cg
  replace E := oY E a0 dd cg (ds := (EW I C J B t))
  refine ⟨E.2, ?_⟩
  have r1 := CL FQ E.1 (CF p.2)
  refine yG ?_
  exact AQ (v := .tuple #[.agg (EW I C J B t).toArray, .bool false]) YeW O (TI (RZ y p.1 (fun g => ai (by rw [bk]; exact g.2))) p.2 (e5 E) (e4 E) (WE E))
 obtain ⟨q, L⟩ : ∃ x, ((DI 42 s).drop 1)[i]? = some x := ⟨_, List.getElem?_eq_getElem (show i < ((DI 42 s).drop 1).length by rw [ca]; exact P)⟩
 obtain ⟨al, bo, _, ep, c0, ej, dm⟩ := IsR.at E.2.2.1.1 L
 obtain rfl := (show _ = [Value.string (bs q)] from dm)
 have ea : al < _ := E.2.2.1.2 _ c0
 replace E := E.c ej ea
 have hk : w1.heap.size <= al /\ al < w2.heap.size := c0
 have c8 := List.mem_of_getElem? L
 have dh : q.length <= s.length := NV (List.mem_of_mem_drop c8)
 have am := bN 94 q
 refine yG ?_
 refine OL O O ep O (by first | exact (List.getElem?_eq_some_iff.1 L).1 | exact P) ?_
 have du : b5 < b2.heap.size := Bx.lt E.2.1
 have dt : b1 < b2.heap.size := Bx.lt E.2.2.1
 refine yG ?_
 refine EF O (DE KG O (wP q _ AA) O E ?_)
 intro b8 jh k5 et E
 replace E := E.sz (Nat.le_refl b8.heap.size)
 obtain ⟨H, F, rfl, gf, _⟩ := et.shp
 replace E := E.r (e := elS) (S := EM b2.heap.size b8.heap.size) et (fun _ g => g.2)
 by_cases gn : 1 < (DI 94 q).length
 case neg =>
  obtain ⟨bj, c9⟩ := yX (by omega : ¬ 1 < (DI 94 q).length)
  obtain ⟨az, ax⟩ : ∃ x, (DI 94 q)[0]? = some x := ⟨_, List.getElem?_eq_getElem am⟩
  obtain ⟨au, d3, _, br, bv, eg, dj⟩ := IsR.at E.1.1 ax
  obtain rfl := (show _ = [Value.string (bs az)] from dj)
  have dx : au < _ := E.1.2 _ bv
  replace E := E.c eg dx
  have hg : b2.heap.size <= au /\ au < b8.heap.size := bv
  have X : az = q := by have := ax; rw [c9] at this; simpa using this.symm
  by_cases h : l.idxOf? az = none
  case pos =>
   refine yG ?_
   refine OL (j := 0) O O br O YdG ?_
   refine yG ?_
   refine EF O (CB DS O (RR _ l az _ (BW (Kq E)) AA h) O E ?_)
   intro hv js E
   have cj := e5 E
   refine yG ?_
   replace E := Lu E
   refine yG ?_
   refine EF O (BY FQ O O O cj YVn (CF CK) (DO (M := zeroM) GB GB) ?_)
   intro hu fp f6
   replace E := oY E cj fp f6 (ds := (EW false (.slice none 0 0) false (.slice none 0 0) zeroM))
   have r1 := CL FQ E.1 (CF CK)
   refine yG ?_
   exact AQ (v := .tuple #[.agg (EW false (.slice none 0 0) false (.slice none 0 0) zeroM).toArray, .bool false]) YeW O (TI (KO y (GW p.1 L (rf_1 bj YkT))) CK (DF _) (DF _) (Dh E))
  obtain ⟨v, h⟩ := Option.ne_none_iff_exists'.1 h
  have a8 := rf_2 bj YkT
  have ap := UM a8
  have aq := aM (v := v) p.2 ap.2.2
  refine yG ?_
  refine OL (j := 0) O O br O YdG ?_
  refine yG ?_
  refine EF O (CB DS O (OE _ l az v _ (BW (Kq E)) AA h) O E ?_)
  intro ht jr E
  refine yG ?_
  have ci := e4 E
  refine yG ?_
  replace E := jI E
  refine yG ?_
  refine EF O (CI (v := .int .i64 ((1 : Nat) : Int)) O TX O O O ci Ycy ?_)
  intro hr fo cb
  rw [bL] at cb
  replace E := oY E ci fo cb (ds := (EW I C J B (t.set v 1)))
  refine yG ?_
  exact ⟨_, (by rw [bp]; omega), (i + 1), (t.set v 1), [CJ f 0, .slice H ((DI 94 q).length) F, .int .i64 1, .int .i64 ↑v, .int .i64 ↑i, .slice a4 (((DI 42 s).length) - 1) (G - 1), .int .i64 ↑(((DI 42 s).length) - 1), .bool true, .int .i64 ↑i, .int .i64 ↑(i + 1), .slice a4 (((DI 42 s).length) - 1) (G - 1), .int .i64 ↑i, .pointer (some ⟨al, bo + i * 1, none⟩), .string (bs q), .slice H ((DI 94 q).length) F, .slice H ((DI 94 q).length) F, .int .i64 ↑((DI 94 q).length), .bool false, CJ f 18, CJ f 19, CJ f 20, CJ f 21, .slice b6 l.length ag, .slice H ((DI 94 q).length) F, .pointer (some ⟨au, d3 + 0 * 1, none⟩), .string (bs az), .int .i64 ↑v, .int .i64 ↑v, .bool false, .bool false, .int .i64 1, .bool false, .bool false, .bool false, .slice H ((DI 94 q).length) F, .int .i64 ↑((DI 94 q).length), .bool false, .bool false, CJ f 38, .int .i64 ↑v, .int .i64 1, .pointer (some ⟨b5, 4, none⟩), .pointer (some ⟨b5, 4 + v * 1, none⟩)], O, zE, O, ⟨by omega, PG p.1 L a8, aq⟩⟩
 obtain ⟨a7, a2⟩ : ∃ x, (DI 94 q)[0]? = some x := ⟨_, List.getElem?_eq_getElem am⟩
 obtain ⟨aw, d7, _, ad, bx, ei, dl⟩ := IsR.at E.1.1 a2
 obtain rfl := (show _ = [Value.string (bs a7)] from dl)
 have dz : aw < _ := E.1.2 _ bx
 replace E := E.c ei dz
 have hj : b2.heap.size <= aw /\ aw < b8.heap.size := bx
 obtain ⟨a6, R⟩ : ∃ x, (DI 94 q)[1]? = some x := ⟨_, List.getElem?_eq_getElem AA⟩
 obtain ⟨av, d6, _, ac, bw, eh, dk⟩ := IsR.at E.2.1.1 R
 obtain rfl := (show _ = [Value.string (bs a6)] from dk)
 have dy : av < _ := E.2.1.2 _ bw
 replace E := E.c eh dy
 have hh : b2.heap.size <= av /\ av < b8.heap.size := bw
 have gk := NV (List.mem_of_getElem? R)
 by_cases gm : 2 < (DI 94 q).length
 case pos =>
  by_cases gb : (aO l a7) < 0
  . exact ZhF
  by_cases ga : (Ka (EA (2 : Nat) (65535 : Nat) a6)) < 1
  . exact ZhF
  refine yG ?_
  refine OL (j := 1) O O ac O Yus ?_
  refine yG ?_
  refine EF O (CB DH O (MM a6 2 65535 _ AA AE) O E ?_)
  intro i7 k0 E
  refine yG ?_
  refine OL (j := 0) O O ad O Y9m ?_
  refine yG ?_
  refine EF O (CB DS O (ON _ l a7 _ (BW (Dh E)) AA) O E ?_)
  intro i6 jz E
  refine yG ?_
  exact ZNt
 obtain ⟨a, d, ar, bi⟩ := yW (by omega : 1 < (DI 94 q).length) AA
 have X : a7 = a := by have := a2; rw [bi] at this; simpa using this.symm
 have bh : a6 = d := by have := R; rw [bi] at this; simpa using this.symm
 by_cases h : l.idxOf? a7 = none
 case pos =>
  refine yG ?_
  refine OL (j := 1) O O ac O Yus ?_
  refine yG ?_
  refine EF O (CB DH O (MM a6 2 65535 _ AA AE) O E ?_)
  intro i4 jy E
  refine yG ?_
  refine OL (j := 0) O O ad O Y9m ?_
  refine yG ?_
  refine EF O (CB DS O (RR _ l a7 _ (BW (Dh E)) AA h) O E ?_)
  intro i3 jx E
  have cn := e6 E
  refine yG ?_
  replace E := dW E
  refine yG ?_
  refine EF O (BY FQ O O O cn YVn (CF CK) (DO (M := zeroM) GB GB) ?_)
  intro i2 fs f8
  replace E := oY E cn fs f8 (ds := (EW false (.slice none 0 0) false (.slice none 0 0) zeroM))
  have r1 := CL FQ E.1 (CF CK)
  refine yG ?_
  exact AQ (v := .tuple #[.agg (EW false (.slice none 0 0) false (.slice none 0 0) zeroM).toArray, .bool false]) YeW O (TI (KO y (GW p.1 L (rf_3 ar YkT))) CK (DF _) (DF _) (Vz E))
 obtain ⟨v, h⟩ := Option.ne_none_iff_exists'.1 h
 by_cases Q : EA (2 : Nat) (65535 : Nat) a6 = none
 case pos =>
  refine yG ?_
  refine OL (j := 1) O O ac O Yus ?_
  refine yG ?_
  refine EF O (CB DH O (UQ a6 2 65535 _ AA AE Q) O E ?_)
  intro i1 jw E
  refine yG ?_
  refine OL (j := 0) O O ad O Y9m ?_
  refine yG ?_
  refine EF O (CB DS O (OE _ l a7 v _ (BW (Dh E)) AA h) O E ?_)
  intro i0 jv E
  refine yG ?_
  have cm := e6 E
  refine yG ?_
  replace E := dW E
  refine yG ?_
  refine EF O (BY FQ O O O cm YVn (CF CK) (DO (M := zeroM) GB GB) ?_)
  intro hz fr f7
  replace E := oY E cm fr f7 (ds := (EW false (.slice none 0 0) false (.slice none 0 0) zeroM))
  have r1 := CL FQ E.1 (CF CK)
  refine yG ?_
  exact AQ (v := .tuple #[.agg (EW false (.slice none 0 0) false (.slice none 0 0) zeroM).toArray, .bool false]) YeW O (TI (KO y (GW p.1 L (rf_4 ar YkT Y60))) CK (DF _) (DF _) (Vz E))
 obtain ⟨n, Q⟩ := Option.ne_none_iff_exists'.1 Q
 have gh := (IW AE Q).2.1
 have a8 := rf_5 ar YkT Y60
 have ap := UM a8
 have aq := aM (v := v) p.2 ap.2.2
 refine yG ?_
 refine OL (j := 1) O O ac O Yus ?_
 refine yG ?_
 refine EF O (CB DH O (SH a6 2 65535 n _ AA AE Q) O E ?_)
 intro hy ju E
 refine yG ?_
 refine OL (j := 0) O O ad O Y9m ?_
 refine yG ?_
 refine EF O (CB DS O (OE _ l a7 v _ (BW (Dh E)) AA h) O E ?_)
 intro hx jt E
 refine yG ?_
 have ck := e5 E
 refine yG ?_
 replace E := Lu E
 refine yG ?_
 refine EF O (CI (v := .int .i64 ↑n) O TX O O O ck Ycy ?_)
 intro hw fq cc
 rw [bL] at cc
 replace E := oY E ck fq cc (ds := (EW I C J B (t.set v n)))
 refine yG ?_
 exact ⟨_, (by rw [bp]; omega), (i + 1), (t.set v n), [CJ f 0, .slice H ((DI 94 q).length) F, .int .i64 ↑n, .int .i64 ↑v, .int .i64 ↑i, .slice a4 (((DI 42 s).length) - 1) (G - 1), .int .i64 ↑(((DI 42 s).length) - 1), .bool true, .int .i64 ↑i, .int .i64 ↑(i + 1), .slice a4 (((DI 42 s).length) - 1) (G - 1), .int .i64 ↑i, .pointer (some ⟨al, bo + i * 1, none⟩), .string (bs q), .slice H ((DI 94 q).length) F, .slice H ((DI 94 q).length) F, .int .i64 ↑((DI 94 q).length), .bool true, .slice H ((DI 94 q).length) F, .pointer (some ⟨av, d6 + 1 * 1, none⟩), .string (bs a6), .int .i64 ↑n, .slice b6 l.length ag, .slice H ((DI 94 q).length) F, .pointer (some ⟨aw, d7 + 0 * 1, none⟩), .string (bs a7), .int .i64 ↑v, .int .i64 ↑v, .bool false, .bool false, .int .i64 ↑n, .bool false, .bool false, .bool false, .slice H ((DI 94 q).length) F, .int .i64 ↑((DI 94 q).length), .bool false, .bool false, CJ f 38, .int .i64 ↑v, .int .i64 ↑n, .pointer (some ⟨b5, 4, none⟩), .pointer (some ⟨b5, 4 + v * 1, none⟩)], O, zE, O, ⟨by omega, PG p.1 L a8, aq⟩⟩
end Go.Proofs.YtmppigbbkjepiaaGreatDoor
