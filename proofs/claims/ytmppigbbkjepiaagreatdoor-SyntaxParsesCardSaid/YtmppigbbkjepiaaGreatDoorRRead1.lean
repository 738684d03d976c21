/- Helping facts of RTxt; no other conditions. Helping facts of RRead1; no other conditions. -/
import Derived.Test.YtmppigbbkjepiaaGreatDoorRdL
set_option maxHeartbeats 8000000
set_option maxRecDepth 100000
namespace Go.Proofs.YtmppigbbkjepiaaGreatDoor
open Go.Proofs.Tryz
open Go.RowKit W
variable {b : UInt8} {c : Rat} {i k : Nat} {mm : List Nat} {p : Prop}
theorem Y5X (h : p := by rw [o]; omega) : p := h
theorem YZi (h : p := by rw [<- h]; exact f) : p := h
theorem Y62 (h : p := by rw [beq_eq_false_iff_ne]; exact e) : p := h
theorem Z4u (h : p := by
 refine yG ?_
 refine EF O (CP DJ O (TT s z _ AA e) O E ?_)
 intro w9 n9 s9 d9 E
 refine yG ?_
 refine EF O (BZ EC O ?_)
 intro T ai t a3 P l
 have au : w.heap.size <= T := by rw [t]; exact E.2.1.size
 replace E := E.below P
 refine yG ?_
 refine EF O (BY EC O O O l O O (IsI.one E.1) ?_)
 intro ah G B
 replace E := oC E l G B
 refine yG ?_
 refine EF O (GK KI O (YD _ z _ E.2.1 AA AA) O E ?_)
 intro ag b3 E
 refine yG ?_
 exact ⟨nZ (iX e AA), E.2.2.1⟩
 ) : p := h
theorem mP (n : Bool) (s : Value) (m : Bool) (u : Value) (x : Rat) (w : World) (h1 : IsI w (.agg #[.bool n, s]) x.num) (h2 : IsI w (.agg #[.bool m, u]) ((x.den : Nat) : Int)) (h3 : FitQ x 1000000) :
 Calls prog 153 #[.agg #[.bool n, s, .bool m, u]] w (GY w (.string (bs (qT x)))) := by
 refine (mO n s m u x w h1 h2 h3).mono ?_
 rintro e h ⟨rfl, f⟩
 exact ⟨by unfold qT; rw [sZ], f⟩
theorem Gg (b : UInt8) : ∀ (l : List Bs) (x : Bs), l ≠ [] -> jn b (l ++ [x]) = jn b l ++ [b] ++ x
 | [], x, h => absurd rfl h
 | [y], x, _ => by simp [jn]
 | y :: z :: l, x, _ => by
   rw [List.cons_append, MV b y AH, Gg b (z :: l) x AH, MV b y AH]; simp
theorem Xs {l : List Bs} (h : l ≠ []) (hx : ∀ x ∈ l, x ≠ []) : jn b l ≠ [] := by
 cases l with
 | nil => exact absurd rfl h
 | cons x r =>
   by_cases e : r = []
   . subst e; simpa [jn] using hx x AH
   rw [MV b x e]; simp
theorem Gs {l : List Bs} {mm : List Nat} (hV : DM 8 l = true) (n : Nat) : ∀ x ∈ FX (l.take n) mm, x ≠ [] := by
 intro x f e
 obtain ⟨⟨c, r, h, _⟩, _⟩ := yV (fun v k => SK hV v (List.mem_of_mem_take k)) f
 rw [e] at h; cases h
def Gp (l : List Bs) (mm : List Nat) (i : Nat) : Bs := jn 42 (FX (l.take i) mm)
theorem Vs {l : List Bs} {x : Bs} (hM : FC mm) (hl : l.length <= 8) (hx : l[i]? = some x) (h : me mm i = 0) : Gp l mm (i + 1) = Gp l mm i := by unfold Gp; rw [TZ hM hl hx, sO _ h, List.append_nil]
theorem yU {l : List Bs} {x f : Bs} (hV : DM 8 l = true) (hM : FC mm) (hx : l[i]? = some x) (h : YW x (me mm i) = [f]) (h0 : Gp l mm i = []) : Gp l mm (i + 1) = f := by
 have k := IG hV
 unfold Gp at *
 rw [TZ hM k hx, h]
 by_cases e : FX (l.take i) mm = []
 . rw [e]; simp [jn]
 exact absurd h0 (Xs e (Gs hV i))
theorem Gm {l : List Bs} {x f : Bs} (hV : DM 8 l = true) (hM : FC mm) (hx : l[i]? = some x) (h : YW x (me mm i) = [f]) (h0 : ¬ Gp l mm i = []) : Gp l mm (i + 1) = Gp l mm i ++ [42] ++ f := by
 have k := IG hV
 unfold Gp at *
 rw [TZ hM k hx, h, Gg]
 intro e; rw [e] at h0; exact h0 rfl
theorem zP (n : Nat) (w : World) (hn : n <= 1000000000) :
 Calls prog 66 #[.int .i64 ↑n] w (GY w (.string (bs (txt ((n : Nat) : Int))))) := by
 have E := Env.start w
 go_enter func66, ntmps66
 refine yG ?_
 refine EF O (CH ED O (OM ((n : Nat) : Int) _ AA AA) O E ?_)
 intro h l k p E
 have e : Fits ((n : Nat) : Int) 4 := EU AA AA
 refine yG ?_
 refine EF O (KZ QA O (mN _ ((n : Nat) : Int) _ E.1 (Fits.mono e AE)) O E ?_)
 intro f o E
 refine yG ?_
 exact ⟨rfl, E.2.1⟩
theorem Kl (mm : List Nat) (vl : Value) (l : List Bs) (w : World) (hmm : FC mm) (hRl : IsR elS (DL w.heap.size) w vl l) (hV : DM 8 l = true) :
 Calls prog 152 #[.agg (IQ mm).toArray, vl] w (GY w (.string (bs (jn 42 (FX l mm))))) := by
 have E := Env.start w
 obtain ⟨B, q, rfl, a2, a0⟩ := hRl.shp
 replace E := E.r hRl (DZ _)
 have F := IG hV
 go_enter func152, ntmps152
 refine yG ?_
 refine EF O (CM (cs := IQ mm) O O ?_)
 intro R w1 a3 z1 d1 S
 replace E := E.below d1
 replace E := E.x S
 refine yG ?_
 refine wp_loop_ghost (fun X a T => ∃ (i : Nat) (k : Bs) (t : List Value), t = a.tmps.toList /\ a = ⟨(.agg (IQ mm).toArray :: .slice B l.length q :: .pointer (some ⟨R, 0, none⟩) :: undef :: .string (bs ([])) :: .string (bs k) :: .int .i64 ↑i :: gr t 7 32 []).toArray, []⟩ /\ Env T [fX R (67) (IQ mm), fR elS (DL w.heap.size) (.slice B l.length q) l, fW w] /\ X = l.length - i /\ (i <= l.length /\ k = Gp l mm i /\ k.length <= i * 70000)) (l.length) ⟨0, [], _, O, O, zE, O, ⟨Nat.zero_le _, by simp [Gp, FX, jn], by simp⟩⟩ ?_
 rintro m2 _ w2 ⟨i, k, t, -, rfl, E, o, y⟩
 dsimp only [gr, Nat.reduceAdd]
 obtain ⟨y, Q⟩ := y
 by_cases P : i < l.length
 case neg =>
  obtain ⟨h, v⟩ := Q
  have H : Gp l mm i = jn 42 (FX l mm) := by unfold Gp; rw [KC P]
  refine yG ?_
  exact ⟨SX (h.trans H), E.2.2.1⟩
 obtain ⟨u, e⟩ : ∃ x, l[i]? = some x := ⟨_, List.getElem?_eq_getElem P⟩
 obtain ⟨C, U, _, p, L, J, D⟩ := IsR.at E.2.1.1 e
 obtain rfl := (show _ = [Value.string (bs u)] from D)
 have G : C < _ := E.2.1.2 _ L
 replace E := E.c J G
 have N : u.length <= 12 := Zq hV _ (List.mem_of_getElem? e)
 have hm := yB hmm i
 have Y := ZU (me mm i)
 obtain ⟨h, v⟩ := Q
 by_cases a1 : ((me mm i : Nat) : Int) = 0
 . refine yG ?_
   refine V O O (CR O CW O E.2.1 (FB hmm AA)) ?_
   refine yG ?_
   exact ⟨_, Y5X, (i + 1), k, _, O, O, zE, O, ⟨by omega, h.trans (Vs hmm F e AA).symm, Nat.le_trans v (Nat.mul_le_mul_right _ (Nat.le_succ i))⟩⟩
 by_cases f : k = []
 case pos =>
  by_cases I : ((me mm i : Nat) : Int) > 1
  case neg =>
   refine yG ?_
   refine V O O (CR O CW O E.2.1 (FB hmm AA)) ?_
   refine yG ?_
   refine V O O (FG (a := k) (b := []) (c := false) O O O (by rw [bne_eq_false_iff_eq]; exact f)) ?_
   refine yG ?_
   refine OL O O p O (List.getElem?_eq_some_iff.1 e).1 ?_
   refine yG ?_
   refine V O O (CR O CW O E.2.1 (FB hmm AA)) ?_
   refine yG ?_
   exact ⟨_, Y5X, (i + 1), k ++ u, _, O, O, zE, O, ⟨by omega, by rw [yU hV hmm e (oV _ AA) YZi]; simp [f], by simp only [List.length_append]; omega⟩⟩
  refine yG ?_
  refine V O O (CR O CW O E.2.1 (FB hmm AA)) ?_
  refine yG ?_
  refine V O O (FG (a := k) (b := []) (c := false) O O O (by rw [bne_eq_false_iff_eq]; exact f)) ?_
  refine yG ?_
  refine OL O O p O (List.getElem?_eq_some_iff.1 e).1 ?_
  refine yG ?_
  refine V O O (CR O CW O E.2.1 (FB hmm AA)) ?_
  refine yG ?_
  refine V O O (CR O CW O E.2.1 (FB hmm AA)) ?_
  refine yG ?_
  refine EF O (CC XT O (zP (me mm i) _ AA) O E ?_)
  intro w4 d4 E
  refine yG ?_
  exact ⟨_, Y5X, (i + 1), ((k ++ u) ++ ([94])) ++ (txt ((me mm i : Nat) : Int)), _, O, O, zE, O, ⟨by omega, by rw [yU hV hmm e (jG _ AA) YZi]; simp [f], by simp only [List.length_append, List.length_cons, List.length_nil]; omega⟩⟩
 by_cases I : ((me mm i : Nat) : Int) > 1
 case neg =>
  refine yG ?_
  refine V O O (CR O CW O E.2.1 (FB hmm AA)) ?_
  refine yG ?_
  refine V O O (FG (a := k) (b := []) (c := true) O O O (by rw [bne_iff_ne]; exact f)) ?_
  refine yG ?_
  refine OL O O p O (List.getElem?_eq_some_iff.1 e).1 ?_
  refine yG ?_
  refine V O O (CR O CW O E.2.1 (FB hmm AA)) ?_
  refine yG ?_
  exact ⟨_, Y5X, (i + 1), (k ++ ([42])) ++ u, _, O, O, zE, O, ⟨by omega, by rw [Gm hV hmm e (oV _ AA) YZi, <- h], by simp only [List.length_append, List.length_cons, List.length_nil]; omega⟩⟩
 refine yG ?_
 refine V O O (CR O CW O E.2.1 (FB hmm AA)) ?_
 refine yG ?_
 refine V O O (FG (a := k) (b := []) (c := true) O O O (by rw [bne_iff_ne]; exact f)) ?_
 refine yG ?_
 refine OL O O p O (List.getElem?_eq_some_iff.1 e).1 ?_
 refine yG ?_
 refine V O O (CR O CW O E.2.1 (FB hmm AA)) ?_
 refine yG ?_
 refine V O O (CR O CW O E.2.1 (FB hmm AA)) ?_
 refine yG ?_
 refine EF O (CC XT O (zP (me mm i) _ AA) O E ?_)
 intro w5 d5 E
 refine yG ?_
 exact ⟨_, Y5X, (i + 1), (((k ++ ([42])) ++ u) ++ ([94])) ++ (txt ((me mm i : Nat) : Int)), _, O, O, zE, O, ⟨by omega, by rw [Gm hV hmm e (jG _ AA) YZi, <- h]; simp, by simp only [List.length_append, List.length_cons, List.length_nil]; omega⟩⟩
theorem rI {l : List Bs} (h : jn 42 (FX l mm) = []) (hV : DM 8 l = true) : qT (PC c) = GA l (PC c) mm := by
 have f : FX l mm = [] := by
  by_cases e : FX l mm = []
  . exact e
  exact absurd h (Xs e (by have := Gs (mm := mm) hV l.length; rwa [List.take_length] at this))
 unfold GA; rw [if_pos (.inl f), f]; rfl
theorem Gr {l : List Bs} (h : ¬ jn 42 (FX l mm) = []) : FX l mm ≠ [] := fun e => h (by rw [e]; rfl)
theorem Mf {l : List Bs} (h : ¬ jn 42 (FX l mm) = []) (hc : PC c = ((1 : Int) : Rat)) : jn 42 (FX l mm) = GA l (PC c) mm := wJ (Gr h) hc
theorem Me {l : List Bs} (h : ¬ jn 42 (FX l mm) = []) (hc : ¬ PC c = ((1 : Int) : Rat)) : qT (PC c) ++ [42] ++ jn 42 (FX l mm) = GA l (PC c) mm := by
 rw [<- nC (.inr hc), MV 42 _ (Gr h)]; simp
theorem lI (na : Bool) (sa : Value) (ma : Bool) (ua : Value) (c : Rat) (mm : List Nat) (vl : Value) (l : List Bs) (w : World) (hna : IsI w (.agg #[.bool na, sa]) c.num) (hda : IsI w (.agg #[.bool ma, ua]) ((c.den : Nat) : Int)) (hmm : FC mm) (hRl : IsR elS (DL w.heap.size) w vl l) (hF : FitQ c 100000) (hV : DM 8 l = true) :
 Calls prog 109 #[.agg (EW na sa ma ua mm).toArray, vl] w (GY w (.string (bs (GA l (PC c) mm)))) := by
 have E := Env.start w
 replace E := (E.i hna).i hda
 obtain ⟨J, B, rfl, b3, b0⟩ := hRl.shp
 replace E := E.r hRl (DZ _)
 go_enter func109, ntmps109
 refine yG ?_
 refine EF O (CM (cs := (EW na sa ma ua mm)) O O ?_)
 intro C w1 I z1 d1 U
 have l1 : w.heap.size <= C := by rw [I]; exact (e3 E).size
 replace E := E.below d1
 replace E := E.x U
 have H : C < w1.heap.size := Bx.lt E.1
 refine yG ?_
 refine QT E [.op 0, .op 1, .op 2, .op 3, .op 4, .av 6, .op 5, .op 6] 2 (#[true, true, true, true, true, true, true, false, false]) Z Z Z Z AF AF ?_
 refine FP (v := .pointer (some ⟨C, 0, none⟩)) O O O O O (fun w q => JH O O O) ?_
 refine FP (v := .agg #[.bool na, sa, .bool ma, ua]) O O O O O (fun w q => CE EY O O (Cs.sub (Bx.cs (q.1)) 0 (EQ _ _ _ _ _)) O) ?_
 refine FP (v := .pointer (some ⟨C, 4, none⟩)) O O O O O (fun w q => QV O O O) ?_
 refine FP (v := .agg (IQ mm).toArray) O O O O O (fun w q => CE ST O O (Cs.sub (Bx.cs (q.1)) 4 (EH _ _ _ _ _)) (DG hmm)) ?_
 refine yG ?_
 refine FP (v := .slice J l.length B) O O O O O (fun w q => GP O O) ?_
 refine FA _ (RunF.alloc EY O O O) ?_
 refine yG ?_
 refine FE O O O O ?_
 intro w4 E
 refine CC gP O (Kl mm _ l _ hmm (BW E.2.1) hV) O E ?_
 intro w3 d3 E
 refine kF d3 E O ?_
 refine yG ?_
 refine FF O O ?_
 intro b5 f5 u5
 have S : C < b5 := by omega
 refine yG ?_
 intro w6 E
 refine H1 (i := 7) Z ?_
 have R := E.1
 replace E := YE E
 refine HE (o := ⟨none, _, _, _, _, _⟩) O O (BY EY O O O R O O (IF (IsI.one (e3 E)) (IsI.one E.2.2.1)) ?_)
 intro w7 o7 T
 replace E := oY E R o7 T
 refine ⟨E.2, ?_⟩
 refine yG ?_
 refine HP (i := 8) (o := ⟨some 6, _, _, _, _, _⟩) (v := .string (bs (jn 42 (FX l mm)))) O Z (fun _ _ _ h => h) O (fun w q => KX O O) (E.2) ?_
 refine yG ?_
 refine HN Z ?_
 have b2 := mD hV hmm
 by_cases t : c < 0
 case neg =>
  refine yG ?_
  refine EF O (CB ER O (NA _ _ _ _ c _ (e4 E) (e3 E)) O E ?_)
  intro a4 bb E
  refine yG ?_
  refine V O O (HY (c := false) O O O (tJ t)) ?_
  have p : PC c = c := YC t
  have G := Cg (x := c) (FitQ.mono hF AE)
  by_cases e : jn 42 (FX l mm) = []
  . refine yG ?_
    refine V O O (EO (a := jn 42 (FX l mm)) (b := []) (c := true) O O O (by rw [beq_iff_eq]; exact e)) ?_
    refine yG ?_
    refine EF O (CC JO O (mP _ _ _ _ c _ (e4 E) (e3 E) (FitQ.mono hF AE)) O E ?_)
    intro a3 ba E
    refine yG ?_
    exact ⟨SX (by rw [<- rI e hV, p]), e5 E⟩
  by_cases f : c = ((1 : Int) : Rat)
  case pos =>
   refine yG ?_
   refine V O O (EO (a := jn 42 (FX l mm)) (b := []) (c := false) O O O Y62) ?_
   refine yG ?_
   refine sE E [0,1,2,3] ?_
   replace E := E.drew
   refine yG ?_
   refine GG (o := ⟨some 23, _, _, _, _, _⟩) O O O O (CV GM O (QH 1 _ AE AE) O E ?_)
   intro a2 ao aj aw ae b9 E
   refine ⟨E.2.2, ?_⟩
   have N : FitQ ((1 : Int) : Rat) 4 := MG (k := 4) AE (EU AE AE)
   refine yG ?_
   refine GG (o := ⟨some 24, _, _, _, _, _⟩) O O O O (CB RM O (vS _ _ _ _ c _ _ _ _ ((1 : Int) : Rat) _ (e6 E) (e5 E) E.2.1 E.1 (FitQ.mono hF AE) (FitQ.mono N AE)) O E ?_)
   intro a1 b8 E
   refine ⟨E.2.2, ?_⟩
   refine yG ?_
   refine SW O O O O O (fun w q => EK (c := true) O O O (pG f)) ?_
   refine yG ?_
   exact ⟨SX (Mf e (p.trans f)), e7 E⟩
  refine yG ?_
  refine V O O (EO (a := jn 42 (FX l mm)) (b := []) (c := false) O O O Y62) ?_
  refine yG ?_
  refine sE E [0,1,2,3] ?_
  replace E := E.drew
  refine yG ?_
  refine GG (o := ⟨some 23, _, _, _, _, _⟩) O O O O (CV GM O (QH 1 _ AE AE) O E ?_)
  intro a0 an ai au ad b7 E
  refine ⟨E.2.2, ?_⟩
  have L : FitQ ((1 : Int) : Rat) 4 := MG (k := 4) AE (EU AE AE)
  refine yG ?_
  refine GG (o := ⟨some 24, _, _, _, _, _⟩) O O O O (CB RM O (vS _ _ _ _ c _ _ _ _ ((1 : Int) : Rat) _ (e6 E) (e5 E) E.2.1 E.1 (FitQ.mono hF AE) (FitQ.mono L AE)) O E ?_)
  intro Y b6 E
  refine ⟨E.2.2, ?_⟩
  refine yG ?_
  refine SW O O O O O (fun w q => EK (c := false) O O O (pF f)) ?_
  refine yG ?_
  refine EF O (CC JO O (mP _ _ _ _ c _ (e6 E) (e5 E) (FitQ.mono hF AE)) O E ?_)
  intro X b4 E
  refine yG ?_
  exact ⟨SX (by rw [<- Me e (by rw [p]; exact f), p]), e7 E⟩
 refine yG ?_
 refine EF O (CB ER O (NA _ _ _ _ c _ (e4 E) (e3 E)) O E ?_)
 intro w9 d9 E
 refine yG ?_
 refine V O O (HY (c := true) O O O (nE t)) ?_
 refine yG ?_
 refine EF O (CV WS O (Dy _ _ _ _ c _ (e4 E) (e3 E) (FitQ.mono hF AE)) O E ?_)
 intro ac ar am az ah bk E
 have u : FitQ (-c) 100000 := VK hF
 have y := E.2.2.1
 refine yG ?_
 replace E := VC E
 refine yG ?_
 refine EF O (BY EY O O O y O O (IF (IsI.one E.2.1) (IsI.one E.1)) ?_)
 intro ab F D
 replace E := oY E y F D
 have p : PC c = (-c) := bA t
 have G := Cg (x := (-c)) (FitQ.mono (VK hF) AE)
 by_cases e : jn 42 (FX l mm) = []
 . refine yG ?_
   refine V O O (EO (a := jn 42 (FX l mm)) (b := []) (c := true) O O O (by rw [beq_iff_eq]; exact e)) ?_
   refine yG ?_
   refine EF O (CC JO O (mP _ _ _ _ (-c) _ E.2.2.1 E.2.1 (FitQ.mono u AE)) O E ?_)
   intro aa bj E
   refine yG ?_
   exact ⟨SX (by rw [<- rI e hV, p]), e7 E⟩
 by_cases f : (-c) = ((1 : Int) : Rat)
 case pos =>
  refine yG ?_
  refine V O O (EO (a := jn 42 (FX l mm)) (b := []) (c := false) O O O Y62) ?_
  refine yG ?_
  refine sE E [0,1,2,3] ?_
  replace E := E.drew
  refine yG ?_
  refine GG (o := ⟨some 23, _, _, _, _, _⟩) O O O O (CV GM O (QH 1 _ AE AE) O E ?_)
  intro a9 aq al ay ag bi E
  refine ⟨E.2.2, ?_⟩
  have Q : FitQ ((1 : Int) : Rat) 4 := MG (k := 4) AE (EU AE AE)
  refine yG ?_
  refine GG (o := ⟨some 24, _, _, _, _, _⟩) O O O O (CB RM O (vS _ _ _ _ (-c) _ _ _ _ ((1 : Int) : Rat) _ (e4 E) (e3 E) E.2.1 E.1 (FitQ.mono u AE) (FitQ.mono Q AE)) O E ?_)
  intro a8 bh E
  refine ⟨E.2.2, ?_⟩
  refine yG ?_
  refine SW O O O O O (fun w q => EK (c := true) O O O (pG f)) ?_
  refine yG ?_
  exact ⟨SX (Mf e (p.trans f)), e9 E⟩
 refine yG ?_
 refine V O O (EO (a := jn 42 (FX l mm)) (b := []) (c := false) O O O Y62) ?_
 refine yG ?_
 refine sE E [0,1,2,3] ?_
 replace E := E.drew
 refine yG ?_
 refine GG (o := ⟨some 23, _, _, _, _, _⟩) O O O O (CV GM O (QH 1 _ AE AE) O E ?_)
 intro a7 ap ak ax af bg E
 refine ⟨E.2.2, ?_⟩
 have P : FitQ ((1 : Int) : Rat) 4 := MG (k := 4) AE (EU AE AE)
 refine yG ?_
 refine GG (o := ⟨some 24, _, _, _, _, _⟩) O O O O (CB RM O (vS _ _ _ _ (-c) _ _ _ _ ((1 : Int) : Rat) _ (e4 E) (e3 E) E.2.1 E.1 (FitQ.mono u AE) (FitQ.mono P AE)) O E ?_)
 intro a6 bf E
 refine ⟨E.2.2, ?_⟩
 refine yG ?_
 refine SW O O O O O (fun w q => EK (c := false) O O O (pF f)) ?_
 refine yG ?_
 refine EF O (CC JO O (mP _ _ _ _ (-c) _ (e4 E) (e3 E) (FitQ.mono u AE)) O E ?_)
 intro a5 bc E
 refine yG ?_
 exact ⟨SX (by rw [<- Me e (by rw [p]; exact f), p]), e9 E⟩
set_option maxHeartbeats 8000000
set_option maxRecDepth 100000
theorem vP (s : Bs) (w : World) (hs : s.length <= 4000) (h : DN s = none) : Calls prog 113 #[.string (bs s)] w (RetZE w 0 3) := PL (bs s) w (by rw [ES]; exact hs) (by rw [FO]; exact h)
theorem TT (s : Bs) (z : Int) (w : World) (hs : s.length <= 4000) (h : DN s = some z) : Calls prog 113 #[.string (bs s)] w (RetZE w z 0) := JG (bs s) z w (by rw [ES]; exact hs) (by rw [FO]; exact h)
theorem An (s : Bs) (w : World) (hs : 4000 < s.length) (hs2 : s.length <= 1000000) : Calls prog 113 #[.string (bs s)] w (RetZE w 0 2) := by
 refine (pV (bs s) w (by rw [ES]; omega)).mono ?_
 have := ES s
 rintro e k (⟨_, f⟩ | ⟨h, _⟩ | ⟨h, _⟩)
 . exact f
 . omega
 omega
theorem YD (va : Value) (x : Int) (w : World) (ha : IsI w va x) (h1 : -9223372036854775808 <= x) (h2 : x <= 9223372036854775807) : Calls prog 114 #[va] w (RetS w x true) := by
 have := Al va x w ha
 rwa [(PE h1 h2).1, (PE h1 h2).2] at this
theorem Dx (va : Value) (x : Int) (w : World) (ha : IsI w va x) (h : x < -9223372036854775808 ∨ 9223372036854775807 < x) : Calls prog 114 #[va] w (RetS w 0 false) := by
 have := Al va x w ha
 rwa [(RU h).1, (RU h).2] at this
def Ka (o : Option Nat) : Int := match o with
 | some n => (n : Int)
 | none => -1
theorem nZ {o : Option Nat} (h : o = none) : Ending.returned (.int .i64 (-1)) = .returned (.int .i64 (Ka o)) := by rw [h]; rfl
theorem Ux {lo hi z : Int} {l : Bs} (h : DN l = some z) (h1 : lo <= z) (h2 : z <= hi) (h0 : 0 <= z) : Ending.returned (.int .i64 z) = .returned (.int .i64 (Ka (EA lo hi l))) := by
 unfold EA; rw [h]; simp only; rw [if_pos ⟨h1, h2⟩]; simp only [Ka]; rw [Int.toNat_of_nonneg h0]
theorem MM (s : Bs) (lo : Nat) (hi : Nat) (w : World) (hs : s.length <= 1000000) (hh : hi <= 1000000) :
 Calls prog 72 #[.string (bs s), .int .i64 ↑lo, .int .i64 ↑hi] w (VI w (Ka (EA lo hi s))) := by
 have E := Env.start w
 go_enter func72, ntmps72
 by_cases Y : 4000 < s.length
 case pos =>
  refine yG ?_
  refine EF O (CP DJ O (An s _ Y hs) O E ?_)
  intro w1 n1 s1 d1 E
  refine yG ?_
  refine EF O (BZ EC O ?_)
  intro b2 w2 I z2 d2 X
  have l2 : w.heap.size <= b2 := by rw [I]; exact E.2.1.size
  replace E := E.below d2
  refine yG ?_
  refine EF O (BY EC O O O X O O (IsI.one E.1) ?_)
  intro w3 o3 y3
  replace E := oC E X o3 y3
  refine yG ?_
  refine EF O (GK KI O (YD _ 0 _ E.2.1 AE AE) O E ?_)
  intro w4 d4 E
  refine yG ?_
  exact ⟨nZ (Oi hh Y), E.2.2.1⟩
 by_cases e : DN s = none
 case pos =>
  refine yG ?_
  refine EF O (CP DJ O (vP s _ AA e) O E ?_)
  intro w5 n5 s5 d5 E
  refine yG ?_
  refine EF O (BZ EC O ?_)
  intro b6 w6 H z6 d6 U
  have l6 : w.heap.size <= b6 := by rw [H]; exact E.2.1.size
  replace E := E.below d6
  refine yG ?_
  refine EF O (BY EC O O O U O O (IsI.one E.1) ?_)
  intro w7 o7 y7
  replace E := oC E U o7 y7
  refine yG ?_
  refine EF O (GK KI O (YD _ 0 _ E.2.1 AE AE) O E ?_)
  intro w8 d8 E
  refine yG ?_
  exact ⟨nZ (Fg e), E.2.2.1⟩
 obtain ⟨z, e⟩ := Option.ne_none_iff_exists'.1 e
 by_cases av : -9223372036854775808 <= z /\ z <= 9223372036854775807
 case neg =>
  refine yG ?_
  refine EF O (CP DJ O (TT s z _ AA e) O E ?_)
  intro a7 am aj ax E
  refine yG ?_
  refine EF O (BZ EC O ?_)
  intro Q a6 o a0 J f
  have ap : w.heap.size <= Q := by rw [o]; exact E.2.1.size
  replace E := E.below J
  refine yG ?_
  refine EF O (BY EC O O O f O O (IsI.one E.1) ?_)
  intro a5 C u
  replace E := oC E f C u
  refine yG ?_
  refine EF O (GK KI O (Dx _ z _ E.2.1 AA) O E ?_)
  intro a4 aw E
  refine yG ?_
  exact ⟨nZ (iX e AA), E.2.2.1⟩
 by_cases h2 : z < ((lo : Nat) : Int)
 . exact Z4u
 by_cases h3 : z > ((hi : Nat) : Int)
 . exact Z4u
 refine yG ?_
 refine EF O (CP DJ O (TT s z _ AA e) O E ?_)
 intro ab an ak az E
 refine yG ?_
 refine EF O (BZ EC O ?_)
 intro R aa p a1 L h
 have aq : w.heap.size <= R := by rw [p]; exact E.2.1.size
 replace E := E.below L
 refine yG ?_
 refine EF O (BY EC O O O h O O (IsI.one E.1) ?_)
 intro a9 D v
 replace E := oC E h D v
 refine yG ?_
 refine EF O (GK KI O (YD _ z _ E.2.1 AA AA) O E ?_)
 intro a8 ay E
 refine yG ?_
 exact ⟨Ux e AA AA AA, E.2.2.1⟩
theorem Iv {s : Bs} (hk : k <= i) (h : s[i]? = some b) (hn : b ∉ (s.take i).drop k) : DI b (s.drop k) = (s.take i).drop k :: DI b (s.drop (i + 1)) := by
 have f := (List.getElem?_eq_some_iff.1 h)
 have o := f.1
 have e : s.drop k = (s.take i).drop k ++ b :: s.drop (i + 1) := by
  have p : s = s.take i ++ b :: s.drop (i + 1) := by
   rw [<- f.2, <- List.drop_eq_getElem_cons, List.take_append_drop]
  have l := congrArg (List.drop k) p
  rw [List.drop_append_of_le_length (by rw [List.length_take]; omega)] at l
  exact l
 rw [e, YL b hn]
theorem Dj {s : Bs} {c : UInt8} (hk : k <= i) (h : s[i]? = some c) (hn : b ∉ (s.take i).drop k) (hc : ¬ c = b) : b ∉ (s.take (i + 1)).drop k := by
 have f := (List.getElem?_eq_some_iff.1 h)
 have l := f.1
 have o : (s.take i).length = i := by rw [List.length_take]; omega
 have e : s.take (i + 1) = s.take i ++ [c] := by rw [List.take_succ_eq_append_getElem f.1, f.2]
 rw [e, List.drop_append_of_le_length AA]
 intro g
 rcases List.mem_append.1 g with g | g
 . exact hn g
 simp at g; exact hc g.symm
theorem Kr (b : UInt8) (s : Bs) (i : Nat) : b ∉ (s.take i).drop i := by
 rw [List.drop_of_length_le (by rw [List.length_take]; omega)]; simp
theorem Mu {s : Bs} (hi : ¬ i < s.length) (hn : b ∉ (s.take i).drop k) : DI b (s.drop k) = [s.drop k] := by
 rw [List.take_of_length_le AA] at hn
 exact PO b hn
theorem Pm {w0 w : World} {base : Nat} {v : Value} {l : List Bs} (h : Acc elS 9 base WW w v l) (hb : w0.heap.size <= base) : qU w0 l w v := h.row Fv fun _ h1 h2 _ => ⟨Nat.le_trans hb h1, h2⟩
theorem lM (b : UInt8) (s : Bs) (w : World) (hs : s.length <= 1000000) :
 Calls prog 67 #[.string (bs s), .int .u8 ↑b.toNat] w (pT w (qU w (DI b s))) := by
 have E := Env.start w
 go_enter func67, ntmps67
 refine yG ?_
 refine EF O (OG RT_S O ?_)
 intro J w1 N z1 d1 Y
 have l1 : w.heap.size <= J := by rw [N]; exact E.1.size
 replace E := E.below d1
 replace E := E.x Y
 have P := E.1
 refine yG ?_
 replace E := YE E
 replace E := (E.sz (Nat.le_of_lt (Bx.lt P))).a (Acc.lit0 (e := elS) (S := WW) P (Nat.le_refl _) jY) (RO _)
 refine yG ?_
 refine wp_loop_ghost (fun mz a w' => ∃ (i : Nat) (k : Nat) (D : Value) (t : List Bs) (C : List Value), C = a.tmps.toList /\ a = ⟨(.string (bs s) :: .int .u8 ↑b.toNat :: undef :: undef :: .slice none 0 0 :: D :: .int .i64 ↑k :: .int .i64 ↑i :: .slice (some ⟨J, 0, none⟩) 0 0 :: gr C 9 26 []).toArray, []⟩ /\ Env w' [fA elS 9 J WW D t, iR J, fW w] /\ mz = s.length - i /\ (i <= s.length /\ k <= i /\ DI b s = t ++ DI b (s.drop k) /\ b ∉ (s.take i).drop k /\ t.length <= i)) (s.length) ⟨0, 0, (.slice (some ⟨J, 0, none⟩) 0 0), [], _, O, O, zE, O, ⟨Nat.zero_le _, Nat.le_refl _, O, by simp, Nat.le_refl _⟩⟩ ?_
 rintro m4 _ w4 ⟨i, k, D, t, C, -, rfl, E, F, G⟩
 dsimp only [gr, Nat.reduceAdd]
 obtain ⟨G, T⟩ := G
 by_cases Q : i < s.length
 case neg =>
  obtain ⟨B, p, o, f⟩ := T
  refine yG ?_
  refine V (v := .string (bs (s.drop k))) O O (KD (a := s) (j := k) O underlying9 O O O AA) ?_
  refine yG ?_
  refine EF O (GZ (s := (bs (s.drop k))) O O ?_)
  intro b7 w7 a0 z7 d7 U
  have u : (D : Value).ownBlock ≠ some b7 := fun h => by have := (Acc.lt E.1.1 h).2; omega
  replace E := E.below d7
  replace E := E.x U
  have H := E.2.1
  refine yG ?_
  replace E := QP E
  refine EF O (EL (x := s.drop k) RT_S O (l := t) O H.1 H.2 E (fun g hg h1 h2 => ⟨GO (fun e => u (e ▸ hg)), BX, OP AA, BX⟩) O E.1 (O) (by have := f; unfold maxLen; omega) (by have := f; omega) (CS E.2.1) ?_)
  intro v8 w8 E
  refine yG ?_
  exact ⟨_, rfl, (by rw [p, Mu Q o]; exact Pm E.1.1 AA), e3 E⟩
 obtain ⟨c, R⟩ : ∃ c, s[i]? = some c := ⟨_, List.getElem?_eq_getElem Q⟩
 obtain ⟨B, p, o, f⟩ := T
 by_cases q : c = b
 case neg =>
  refine yG ?_
  refine V O O (EK (c := false) O O O (by rw [beq_eq_false_iff_ne]; exact fun g => q (UInt8.toNat_inj.1 AA))) ?_
  refine yG ?_
  exact ⟨_, (by rw [F]; omega), (i + 1), k, D, t, _, O, O, zE, O, ⟨by omega, by omega, p, Dj B R o q, by omega⟩⟩
 have L : s[i]? = some b := by rw [R, q]
 refine yG ?_
 refine V (v := .string (bs ((s.take i).drop k))) O O (Ns (a := s) (i := k) (j := i) O underlying9 O O O O O AA AA) ?_
 refine yG ?_
 refine EF O (GZ (s := (bs ((s.take i).drop k))) O O ?_)
 intro b5 w5 a1 z5 d5 X
 have y : (D : Value).ownBlock ≠ some b5 := fun h => by have := (Acc.lt E.1.1 h).2; omega
 replace E := E.below d5
 replace E := E.x X
 have I := E.2.1
 refine yG ?_
 replace E := QP E
 refine EF O (EL (x := (s.take i).drop k) RT_S O (l := t) O I.1 I.2 E (fun g hg h1 h2 => ⟨GO (fun e => y (e ▸ hg)), BX, OP AA, BX⟩) O E.1 (O) (by have := f; unfold maxLen; omega) (by have := f; omega) (CS E.2.1) ?_)
 intro v6 w6 E
 refine yG ?_
 exact ⟨_, (by rw [F]; omega), (i + 1), (i + 1), v6, t ++ [(s.take i).drop k], _, O, O, zE, O, ⟨by omega, by omega, by rw [p, Iv B L o, List.append_assoc]; rfl, Kr _ _ _, by simp only [List.length_append, List.length_cons, List.length_nil]; omega⟩⟩
end Go.Proofs.YtmppigbbkjepiaaGreatDoor
