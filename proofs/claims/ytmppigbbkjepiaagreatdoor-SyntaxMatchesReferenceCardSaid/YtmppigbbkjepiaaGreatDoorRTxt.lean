/- Helping facts of RTxt; no other conditions. -/
import Derived.Test.YtmppigbbkjepiaaGreatDoorRead1
set_option maxHeartbeats 8000000
set_option maxRecDepth 100000
namespace Go.Proofs.YtmppigbbkjepiaaGreatDoor
open Go.Proofs.Tryz
open Go.RowKit W
variable {c : Rat} {i : Nat} {mm : List Nat} {p : Prop}
theorem Ycw (h : p := by rw [o]; omega) : p := h
theorem Yiz (h : p := by rw [<- h]; exact f) : p := h
theorem Y9d (h : p := by rw [beq_eq_false_iff_ne]; exact e) : p := h
theorem lM (n : Bool) (s : Value) (m : Bool) (u : Value) (x : Rat) (w : World) (h1 : IsI w (.agg #[.bool n, s]) x.num) (h2 : IsI w (.agg #[.bool m, u]) ((x.den : Nat) : Int)) (h3 : FitQ x 1000000) :
 Calls prog 153 #[.agg #[.bool n, s, .bool m, u]] w (FI w (.string (bs (qT x)))) := by
 refine (Wp n s m u x w h1 h2 h3).mono ?_
 rintro e h ⟨rfl, f⟩
 exact ⟨by unfold qT; rw [Qn], f⟩
theorem tQ (b : UInt8) : ∀ (l : List Bs) (x : Bs), l ≠ [] -> jn b (l ++ [x]) = jn b l ++ [b] ++ x
 | [], x, h => absurd rfl h
 | [y], x, _ => by simp [jn]
 | y :: z :: l, x, _ => by
   rw [List.cons_append, IP b y AH, tQ b (z :: l) x AH, IP b y AH]; simp
theorem Xg {b : UInt8} {l : List Bs} (h : l ≠ []) (hx : ∀ x ∈ l, x ≠ []) : jn b l ≠ [] := by
 cases l with
 | nil => exact absurd rfl h
 | cons x r =>
   by_cases e : r = []
   . subst e; simpa [jn] using hx x AH
   rw [IP b x e]; simp
theorem Fh {l : List Bs} {mm : List Nat} (hV : DL 8 l = true) (n : Nat) : ∀ x ∈ ER (l.take n) mm, x ≠ [] := by
 intro x f e
 obtain ⟨⟨c, r, h, _⟩, _⟩ := YZ (fun v k => FJ hV v (List.mem_of_mem_take k)) f
 rw [e] at h; cases h
def Fc (l : List Bs) (mm : List Nat) (i : Nat) : Bs := jn 42 (ER (l.take i) mm)
theorem Uz {l : List Bs} {x : Bs} (hM : EG mm) (hl : l.length <= 8) (hx : l[i]? = some x) (h : me mm i = 0) : Fc l mm (i + 1) = Fc l mm i := by unfold Fc; rw [SC hM hl hx, rM _ h, List.append_nil]
theorem xR {l : List Bs} {x f : Bs} (hV : DL 8 l = true) (hM : EG mm) (hx : l[i]? = some x) (h : RI x (me mm i) = [f]) (h0 : Fc l mm i = []) : Fc l mm (i + 1) = f := by
 have k := GR hV
 unfold Fc at *
 rw [SC hM k hx, h]
 by_cases e : ER (l.take i) mm = []
 . rw [e]; simp [jn]
 exact absurd h0 (Xg e (Fh hV i))
theorem Fb {l : List Bs} {x f : Bs} (hV : DL 8 l = true) (hM : EG mm) (hx : l[i]? = some x) (h : RI x (me mm i) = [f]) (h0 : ¬ Fc l mm i = []) : Fc l mm (i + 1) = Fc l mm i ++ [42] ++ f := by
 have k := GR hV
 unfold Fc at *
 rw [SC hM k hx, h, tQ]
 intro e; rw [e] at h0; exact h0 rfl
theorem ZB (n : Nat) (w : World) (hn : n <= 1000000000) :
 Calls prog 66 #[.int .i64 ↑n] w (FI w (.string (bs (txt ((n : Nat) : Int))))) := by
 have E := Env.start w
 go_enter func66, ntmps66
 refine yG ?_
 refine EF O (CH FQ O (VN ((n : Nat) : Int) _ AA AA) O E ?_)
 intro h l k p E
 have e : Fits ((n : Nat) : Int) 4 := DY AA AA
 refine yG ?_
 refine EF O (JZ PI O (lK _ ((n : Nat) : Int) _ E.1 (Fits.mono e AE)) O E ?_)
 intro f o E
 refine yG ?_
 exact ⟨rfl, E.2.1⟩
theorem Jm (mm : List Nat) (vl : Value) (l : List Bs) (w : World) (hmm : EG mm) (hRl : IsR elS (CX w.heap.size) w vl l) (hV : DL 8 l = true) :
 Calls prog 152 #[.agg (GK mm).toArray, vl] w (FI w (.string (bs (jn 42 (ER l mm))))) := by
 have E := Env.start w
 obtain ⟨z, q, rfl, a1, Y⟩ := hRl.shp
 replace E := E.r hRl (DF _)
 have D := GR hV
 go_enter func152, ntmps152
 refine yG ?_
 refine EF O (CI (cs := GK mm) O O ?_)
 intro Q w1 a2 z1 d1 R
 replace E := E.below d1
 replace E := E.x R
 refine yG ?_
 refine wp_loop_ghost (fun U a S => ∃ (i : Nat) (k : Bs) (t : List Value), t = a.tmps.toList /\ a = ⟨(.agg (GK mm).toArray :: .slice z l.length q :: .pointer (some ⟨Q, 0, none⟩) :: undef :: .string (bs ([])) :: .string (bs k) :: .int .i64 ↑i :: gr t 7 32 []).toArray, []⟩ /\ Env S [fX Q (67) (GK mm), fR elS (CX w.heap.size) (.slice z l.length q) l, fW w] /\ U = l.length - i /\ (i <= l.length /\ k = Fc l mm i /\ k.length <= i * 70000)) (l.length) ⟨0, [], _, O, O, zE, O, ⟨Nat.zero_le _, by simp [Fc, ER, jn], by simp⟩⟩ ?_
 rintro m2 _ w2 ⟨i, k, t, -, rfl, E, o, y⟩
 dsimp only [gr, Nat.reduceAdd]
 obtain ⟨y, P⟩ := y
 by_cases N : i < l.length
 case neg =>
  obtain ⟨h, v⟩ := P
  have G : Fc l mm i = jn 42 (ER l mm) := by unfold Fc; rw [GQ N]
  refine yG ?_
  exact ⟨OV (h.trans G), E.2.2.1⟩
 obtain ⟨u, e⟩ : ∃ x, l[i]? = some x := ⟨_, List.getElem?_eq_getElem N⟩
 obtain ⟨B, T, _, p, J, I, C⟩ := IsR.at E.2.1.1 e
 obtain rfl := (show _ = [Value.string (bs u)] from C)
 have F : B < _ := E.2.1.2 _ J
 replace E := E.c I F
 have L : u.length <= 12 := Zf hV _ (List.mem_of_getElem? e)
 have hm := qZ hmm i
 have X := XW (me mm i)
 obtain ⟨h, v⟩ := P
 by_cases a0 : ((me mm i : Nat) : Int) = 0
 . refine yG ?_
   refine V O O (CP O CW O E.2.1 (EJ hmm AA)) ?_
   refine yG ?_
   exact ⟨_, Ycw, (i + 1), k, _, O, O, zE, O, ⟨by omega, h.trans (Uz hmm D e AA).symm, Nat.le_trans v (Nat.mul_le_mul_right _ (Nat.le_succ i))⟩⟩
 by_cases f : k = []
 case pos =>
  by_cases H : ((me mm i : Nat) : Int) > 1
  case neg =>
   refine yG ?_
   refine V O O (CP O CW O E.2.1 (EJ hmm AA)) ?_
   refine yG ?_
   refine V O O (HJ (a := k) (b := []) (c := false) O O O (by rw [bne_eq_false_iff_eq]; exact f)) ?_
   refine yG ?_
   refine fY O O p O (List.getElem?_eq_some_iff.1 e).1 ?_
   refine yG ?_
   refine V O O (CP O CW O E.2.1 (EJ hmm AA)) ?_
   refine yG ?_
   exact ⟨_, Ycw, (i + 1), k ++ u, _, O, O, zE, O, ⟨by omega, by rw [xR hV hmm e (nY _ AA) Yiz]; simp [f], by simp only [List.length_append]; omega⟩⟩
  refine yG ?_
  refine V O O (CP O CW O E.2.1 (EJ hmm AA)) ?_
  refine yG ?_
  refine V O O (HJ (a := k) (b := []) (c := false) O O O (by rw [bne_eq_false_iff_eq]; exact f)) ?_
  refine yG ?_
  refine fY O O p O (List.getElem?_eq_some_iff.1 e).1 ?_
  refine yG ?_
  refine V O O (CP O CW O E.2.1 (EJ hmm AA)) ?_
  refine yG ?_
  refine V O O (CP O CW O E.2.1 (EJ hmm AA)) ?_
  refine yG ?_
  refine EF O (BZ KI O (ZB (me mm i) _ AA) O E ?_)
  intro w4 d4 E
  refine yG ?_
  exact ⟨_, Ycw, (i + 1), ((k ++ u) ++ ([94])) ++ (txt ((me mm i : Nat) : Int)), _, O, O, zE, O, ⟨by omega, by rw [xR hV hmm e (iH _ AA) Yiz]; simp [f], by simp only [List.length_append, List.length_cons, List.length_nil]; omega⟩⟩
 by_cases H : ((me mm i : Nat) : Int) > 1
 case neg =>
  refine yG ?_
  refine V O O (CP O CW O E.2.1 (EJ hmm AA)) ?_
  refine yG ?_
  refine V O O (HJ (a := k) (b := []) (c := true) O O O (by rw [bne_iff_ne]; exact f)) ?_
  refine yG ?_
  refine fY O O p O (List.getElem?_eq_some_iff.1 e).1 ?_
  refine yG ?_
  refine V O O (CP O CW O E.2.1 (EJ hmm AA)) ?_
  refine yG ?_
  exact ⟨_, Ycw, (i + 1), (k ++ ([42])) ++ u, _, O, O, zE, O, ⟨by omega, by rw [Fb hV hmm e (nY _ AA) Yiz, <- h], by simp only [List.length_append, List.length_cons, List.length_nil]; omega⟩⟩
 refine yG ?_
 refine V O O (CP O CW O E.2.1 (EJ hmm AA)) ?_
 refine yG ?_
 refine V O O (HJ (a := k) (b := []) (c := true) O O O (by rw [bne_iff_ne]; exact f)) ?_
 refine yG ?_
 refine fY O O p O (List.getElem?_eq_some_iff.1 e).1 ?_
 refine yG ?_
 refine V O O (CP O CW O E.2.1 (EJ hmm AA)) ?_
 refine yG ?_
 refine V O O (CP O CW O E.2.1 (EJ hmm AA)) ?_
 refine yG ?_
 refine EF O (BZ KI O (ZB (me mm i) _ AA) O E ?_)
 intro w5 d5 E
 refine yG ?_
 exact ⟨_, Ycw, (i + 1), (((k ++ ([42])) ++ u) ++ ([94])) ++ (txt ((me mm i : Nat) : Int)), _, O, O, zE, O, ⟨by omega, by rw [Fb hV hmm e (iH _ AA) Yiz, <- h]; simp, by simp only [List.length_append, List.length_cons, List.length_nil]; omega⟩⟩
theorem qF {l : List Bs} (h : jn 42 (ER l mm) = []) (hV : DL 8 l = true) : qT (KA c) = ET l (KA c) mm := by
 have f : ER l mm = [] := by
  by_cases e : ER l mm = []
  . exact e
  exact absurd h (Xg e (by have := Fh (mm := mm) hV l.length; rwa [List.take_length] at this))
 unfold ET; rw [if_pos (.inl f), f]; rfl
theorem Ff {l : List Bs} (h : ¬ jn 42 (ER l mm) = []) : ER l mm ≠ [] := fun e => h (by rw [e]; rfl)
theorem Ld {l : List Bs} (h : ¬ jn 42 (ER l mm) = []) (hc : KA c = ((1 : Int) : Rat)) : jn 42 (ER l mm) = ET l (KA c) mm := vK (Ff h) hc
theorem Lc {l : List Bs} (h : ¬ jn 42 (ER l mm) = []) (hc : ¬ KA c = ((1 : Int) : Rat)) : qT (KA c) ++ [42] ++ jn 42 (ER l mm) = ET l (KA c) mm := by
 rw [<- lY (.inr hc), IP 42 _ (Ff h)]; simp
theorem kI (na : Bool) (sa : Value) (ma : Bool) (ua : Value) (c : Rat) (mm : List Nat) (vl : Value) (l : List Bs) (w : World) (hna : IsI w (.agg #[.bool na, sa]) c.num) (hda : IsI w (.agg #[.bool ma, ua]) ((c.den : Nat) : Int)) (hmm : EG mm) (hRl : IsR elS (CX w.heap.size) w vl l) (hF : FitQ c 100000) (hV : DL 8 l = true) :
 Calls prog 109 #[.agg (IJ na sa ma ua mm).toArray, vl] w (FI w (.string (bs (ET l (KA c) mm)))) := by
 have E := Env.start w
 replace E := (E.i hna).i hda
 obtain ⟨I, z, rfl, b3, b0⟩ := hRl.shp
 replace E := E.r hRl (DF _)
 go_enter func109, ntmps109
 refine yG ?_
 refine EF O (CI (cs := (IJ na sa ma ua mm)) O O ?_)
 intro B w1 H z1 d1 T
 have l1 : w.heap.size <= B := by rw [H]; exact (e3 E).size
 replace E := E.below d1
 replace E := E.x T
 have G : B < w1.heap.size := Bx.lt E.1
 refine yG ?_
 refine MV E [.op 0, .op 1, .op 2, .op 3, .op 4, .av 6, .op 5, .op 6] 2 (#[true, true, true, true, true, true, true, false, false]) Z Z Z Z AF AF ?_
 refine FP (v := .pointer (some ⟨B, 0, none⟩)) O O O O O (fun w q => IU O O O) ?_
 refine FP (v := .agg #[.bool na, sa, .bool ma, ua]) O O O O O (fun w q => CD GP O O (Cs.sub (Bx.cs (q.1)) 0 (EI _ _ _ _ _)) O) ?_
 refine FP (v := .pointer (some ⟨B, 4, none⟩)) O O O O O (fun w q => PY O O O) ?_
 refine FP (v := .agg (GK mm).toArray) O O O O O (fun w q => CD QN O O (Cs.sub (Bx.cs (q.1)) 4 (DU _ _ _ _ _)) (DC hmm)) ?_
 refine yG ?_
 refine FP (v := .slice I l.length z) O O O O O (fun w q => EV O O) ?_
 refine FA _ (RunF.alloc GP O O O) ?_
 refine yG ?_
 refine FE O O O O ?_
 intro w4 E
 refine BZ eU O (Jm mm _ l _ hmm (BW E.2.1) hV) O E ?_
 intro w3 d3 E
 refine kF d3 E O ?_
 refine yG ?_
 refine FF O O ?_
 intro b5 f5 u5
 have R : B < b5 := by omega
 refine yG ?_
 intro w6 E
 refine H1 (i := 7) Z ?_
 have Q := E.1
 replace E := VI E
 refine HE (o := ⟨none, _, _, _, _, _⟩) O O (BY GP O O O Q O O (LR (IsI.one (e3 E)) (IsI.one E.2.2.1)) ?_)
 intro w7 o7 S
 replace E := oY E Q o7 S
 refine ⟨E.2, ?_⟩
 refine yG ?_
 refine HP (i := 8) (o := ⟨some 6, _, _, _, _, _⟩) (v := .string (bs (jn 42 (ER l mm)))) O Z (fun _ _ _ h => h) O (fun w q => IF O O) (E.2) ?_
 refine yG ?_
 refine HN Z ?_
 have b2 := lC hV hmm
 by_cases t : c < 0
 case neg =>
  refine yG ?_
  refine EF O (CE EQ O (NE _ _ _ _ c _ (e4 E) (e3 E)) O E ?_)
  intro a3 bb E
  refine yG ?_
  refine V O O (JH (c := false) O O O (dA t)) ?_
  have p : KA c = c := SH t
  have F := Bg (x := c) (FitQ.mono hF AE)
  by_cases e : jn 42 (ER l mm) = []
  . refine yG ?_
    refine V O O (FT (a := jn 42 (ER l mm)) (b := []) (c := true) O O O (by rw [beq_iff_eq]; exact e)) ?_
    refine yG ?_
    refine EF O (BZ PG O (lM _ _ _ _ c _ (e4 E) (e3 E) (FitQ.mono hF AE)) O E ?_)
    intro a2 ba E
    refine yG ?_
    exact ⟨OV (by rw [<- qF e hV, p]), e5 E⟩
  by_cases f : c = ((1 : Int) : Rat)
  case pos =>
   refine yG ?_
   refine V O O (FT (a := jn 42 (ER l mm)) (b := []) (c := false) O O O Y9d) ?_
   refine yG ?_
   refine sE E [0,1,2,3] ?_
   replace E := E.drew
   refine yG ?_
   refine GZ (o := ⟨some 23, _, _, _, _, _⟩) O O O O (CV EN O (LJ 1 _ AE AE) O E ?_)
   intro a1 ao aj aw ae b9 E
   refine ⟨E.2.2, ?_⟩
   have L : FitQ ((1 : Int) : Rat) 4 := IA (k := 4) AE (DY AE AE)
   refine yG ?_
   refine GZ (o := ⟨some 24, _, _, _, _, _⟩) O O O O (CE QJ O (uR _ _ _ _ c _ _ _ _ ((1 : Int) : Rat) _ (e6 E) (e5 E) E.2.1 E.1 (FitQ.mono hF AE) (FitQ.mono L AE)) O E ?_)
   intro a0 b8 E
   refine ⟨E.2.2, ?_⟩
   refine yG ?_
   refine SW O O O O O (fun w q => EU (c := true) O O O (oH f)) ?_
   refine yG ?_
   exact ⟨OV (Ld e (p.trans f)), e7 E⟩
  refine yG ?_
  refine V O O (FT (a := jn 42 (ER l mm)) (b := []) (c := false) O O O Y9d) ?_
  refine yG ?_
  refine sE E [0,1,2,3] ?_
  replace E := E.drew
  refine yG ?_
  refine GZ (o := ⟨some 23, _, _, _, _, _⟩) O O O O (CV EN O (LJ 1 _ AE AE) O E ?_)
  intro Y an ai au ad b7 E
  refine ⟨E.2.2, ?_⟩
  have J : FitQ ((1 : Int) : Rat) 4 := IA (k := 4) AE (DY AE AE)
  refine yG ?_
  refine GZ (o := ⟨some 24, _, _, _, _, _⟩) O O O O (CE QJ O (uR _ _ _ _ c _ _ _ _ ((1 : Int) : Rat) _ (e6 E) (e5 E) E.2.1 E.1 (FitQ.mono hF AE) (FitQ.mono J AE)) O E ?_)
  intro X b6 E
  refine ⟨E.2.2, ?_⟩
  refine yG ?_
  refine SW O O O O O (fun w q => EU (c := false) O O O (oG f)) ?_
  refine yG ?_
  refine EF O (BZ PG O (lM _ _ _ _ c _ (e6 E) (e5 E) (FitQ.mono hF AE)) O E ?_)
  intro U b4 E
  refine yG ?_
  exact ⟨OV (by rw [<- Lc e (by rw [p]; exact f), p]), e7 E⟩
 refine yG ?_
 refine EF O (CE EQ O (NE _ _ _ _ c _ (e4 E) (e3 E)) O E ?_)
 intro w9 d9 E
 refine yG ?_
 refine V O O (JH (c := true) O O O (YC t)) ?_
 refine yG ?_
 refine EF O (CV pK O (C6 _ _ _ _ c _ (e4 E) (e3 E) (FitQ.mono hF AE)) O E ?_)
 intro ac ar am az ah bj E
 have u : FitQ (-c) 100000 := QZ hF
 have y := E.2.2.1
 refine yG ?_
 replace E := kB E
 refine yG ?_
 refine EF O (BY GP O O O y O O (LR (IsI.one E.2.1) (IsI.one E.1)) ?_)
 intro ab D C
 replace E := oY E y D C
 have p : KA c = (-c) := VL t
 have F := Bg (x := (-c)) (FitQ.mono (QZ hF) AE)
 by_cases e : jn 42 (ER l mm) = []
 . refine yG ?_
   refine V O O (FT (a := jn 42 (ER l mm)) (b := []) (c := true) O O O (by rw [beq_iff_eq]; exact e)) ?_
   refine yG ?_
   refine EF O (BZ PG O (lM _ _ _ _ (-c) _ E.2.2.1 E.2.1 (FitQ.mono u AE)) O E ?_)
   intro aa bi E
   refine yG ?_
   exact ⟨OV (by rw [<- qF e hV, p]), e7 E⟩
 by_cases f : (-c) = ((1 : Int) : Rat)
 case pos =>
  refine yG ?_
  refine V O O (FT (a := jn 42 (ER l mm)) (b := []) (c := false) O O O Y9d) ?_
  refine yG ?_
  refine sE E [0,1,2,3] ?_
  replace E := E.drew
  refine yG ?_
  refine GZ (o := ⟨some 23, _, _, _, _, _⟩) O O O O (CV EN O (LJ 1 _ AE AE) O E ?_)
  intro a9 aq al ay ag bh E
  refine ⟨E.2.2, ?_⟩
  have P : FitQ ((1 : Int) : Rat) 4 := IA (k := 4) AE (DY AE AE)
  refine yG ?_
  refine GZ (o := ⟨some 24, _, _, _, _, _⟩) O O O O (CE QJ O (uR _ _ _ _ (-c) _ _ _ _ ((1 : Int) : Rat) _ (e4 E) (e3 E) E.2.1 E.1 (FitQ.mono u AE) (FitQ.mono P AE)) O E ?_)
  intro a8 bg E
  refine ⟨E.2.2, ?_⟩
  refine yG ?_
  refine SW O O O O O (fun w q => EU (c := true) O O O (oH f)) ?_
  refine yG ?_
  exact ⟨OV (Ld e (p.trans f)), e9 E⟩
 refine yG ?_
 refine V O O (FT (a := jn 42 (ER l mm)) (b := []) (c := false) O O O Y9d) ?_
 refine yG ?_
 refine sE E [0,1,2,3] ?_
 replace E := E.drew
 refine yG ?_
 refine GZ (o := ⟨some 23, _, _, _, _, _⟩) O O O O (CV EN O (LJ 1 _ AE AE) O E ?_)
 intro a7 ap ak ax af bf E
 refine ⟨E.2.2, ?_⟩
 have N : FitQ ((1 : Int) : Rat) 4 := IA (k := 4) AE (DY AE AE)
 refine yG ?_
 refine GZ (o := ⟨some 24, _, _, _, _, _⟩) O O O O (CE QJ O (uR _ _ _ _ (-c) _ _ _ _ ((1 : Int) : Rat) _ (e4 E) (e3 E) E.2.1 E.1 (FitQ.mono u AE) (FitQ.mono N AE)) O E ?_)
 intro a6 bd E
 refine ⟨E.2.2, ?_⟩
 refine yG ?_
 refine SW O O O O O (fun w q => EU (c := false) O O O (oG f)) ?_
 refine yG ?_
 refine EF O (BZ PG O (lM _ _ _ _ (-c) _ (e4 E) (e3 E) (FitQ.mono u AE)) O E ?_)
 intro a4 bc E
 refine yG ?_
 exact ⟨OV (by rw [<- Lc e (by rw [p]; exact f), p]), e9 E⟩
theorem Qu (h : FitQ c 100000) : FitQ (KA c) 1000000 := by
 unfold KA
 split
 . exact FitQ.mono (QZ h) AE
 exact FitQ.mono h AE
theorem Wq (vp : Value) (p : List Tm) (vl : Value) (l : List Bs) (w : World) (hRp : IsR JL (CX w.heap.size) w vp p) (hRl : IsR elS (CX w.heap.size) w vl l) (hF : ∀ t ∈ p, FitQ t.1 100000) (hL : p.length <= 1000000) (hV : DL 8 l = true) :
 Calls prog 63 #[vp, vl] w (FI w (.string (bs (DS l p)))) := by
 have E := Env.start w
 obtain ⟨H, y, rfl, a4, a2⟩ := hRp.shp
 replace E := E.r hRp (DF _)
 obtain ⟨N, F, rfl, a6, a3⟩ := hRl.shp
 replace E := E.r hRl (DF _)
 go_enter func63, ntmps63
 by_cases h0 : ((p.length : Nat) : Int) = 0
 . refine yG ?_
   exact ⟨OV (mT AA), E.2.2.1⟩
 refine yG ?_
 refine wp_loop_ghost (fun mz a w' => ∃ (i : Nat) (z : Bs) (C : List Value), C = a.tmps.toList /\ a = ⟨(.slice H p.length y :: .slice N l.length F :: undef :: undef :: .string (bs ([])) :: .string (bs z) :: .int .i64 ↑i :: (CF C 7) :: .slice H p.length y :: .int .i64 ↑p.length :: .bool false :: gr C 11 41 []).toArray, []⟩ /\ Env w' [fR elS (CX w.heap.size) (.slice N l.length F) l, fR JL (CX w.heap.size) (.slice H p.length y) p, fW w] /\ mz = p.length - i /\ (i <= p.length /\ z = IW l true (p.take i) /\ z.length <= i * 31000010)) (p.length) ⟨0, [], _, O, O, zE, O, ⟨Nat.zero_le _, by simp [IW], by simp⟩⟩ ?_
 rintro m1 _ w1 ⟨i, z, C, -, rfl, E, B, L⟩
 dsimp only [gr, Nat.reduceAdd]
 obtain ⟨L, X⟩ := L
 by_cases U : i < p.length
 case neg =>
  obtain ⟨f, R⟩ := X
  rw [GQ U] at f
  refine yG ?_
  exact ⟨OV (f.trans (qQ AA)), E.2.2.1⟩
 obtain ⟨⟨u, D⟩, e⟩ : ∃ x, p[i]? = some x := ⟨_, List.getElem?_eq_getElem U⟩
 obtain ⟨I, a0, _, o, J, T, ⟨n2, s2, m2, u2, rfl, P, S, h⟩⟩ := IsR.at E.2.1.1 e
 have Q : I < _ := E.2.1.2 _ J
 replace E := ((E.c T Q).i P).i S
 have a7 : I < w.heap.size := J
 have v := hF _ (List.mem_of_getElem? e)
 obtain ⟨f, R⟩ := X
 have a1 := VA (l := l) (c := KA u) (M := D) hV h (Qu v)
 by_cases k : u < 0
 case pos =>
  by_cases q : i = 0
  case pos =>
   have G : z = [] := by rw [f, q]; rfl
   refine yG ?_
   refine lH O O o O (List.getElem?_eq_some_iff.1 e).1 ?_
   refine yG ?_
   refine V O O (CD GP O O (Cs.sub (E.2.2.1.1) 0 (EI _ _ _ _ _)) O) ?_
   refine yG ?_
   refine EF O (CE EQ O (NE _ _ _ _ u _ E.2.1 E.1) O E ?_)
   intro w3 d3 E
   refine yG ?_
   refine V O O (JH (c := true) O O O (YC k)) ?_
   refine yG ?_
   refine lH O O o O (List.getElem?_eq_some_iff.1 e).1 ?_
   refine yG ?_
   refine V O O (CD KL O O (E.2.2.1.1) (CM h)) ?_
   refine yG ?_
   refine EF O (BZ PE O (kI _ _ _ _ u D _ l _ E.2.1 E.1 h (BW (e3 E)) (FitQ.mono v AE) hV) O E ?_)
   intro w4 d4 E
   refine yG ?_
   exact ⟨_, (by rw [B]; omega), (i + 1), ([45]) ++ (ET l (KA u) D), _, O, O, zE, O, ⟨by omega, by rw [KM e, sg1 q k, <- f]; simp [G], by simp only [List.length_append, List.length_cons, List.length_nil]; omega⟩⟩
  refine yG ?_
  refine lH O O o O (List.getElem?_eq_some_iff.1 e).1 ?_
  refine yG ?_
  refine V O O (CD GP O O (Cs.sub (E.2.2.1.1) 0 (EI _ _ _ _ _)) O) ?_
  refine yG ?_
  refine EF O (CE EQ O (NE _ _ _ _ u _ E.2.1 E.1) O E ?_)
  intro w5 d5 E
  refine yG ?_
  refine V O O (JH (c := true) O O O (YC k)) ?_
  refine yG ?_
  refine lH O O o O (List.getElem?_eq_some_iff.1 e).1 ?_
  refine yG ?_
  refine V O O (CD KL O O (E.2.2.1.1) (CM h)) ?_
  refine yG ?_
  refine EF O (BZ PE O (kI _ _ _ _ u D _ l _ E.2.1 E.1 h (BW (e3 E)) (FitQ.mono v AE) hV) O E ?_)
  intro w6 d6 E
  refine yG ?_
  exact ⟨_, (by rw [B]; omega), (i + 1), (z ++ ([32, 45, 32])) ++ (ET l (KA u) D), _, O, O, zE, O, ⟨by omega, by rw [KM e, sg3 q k, <- f]; simp [], by simp only [List.length_append, List.length_cons, List.length_nil]; omega⟩⟩
 by_cases q : i = 0
 case pos =>
  have G : z = [] := by rw [f, q]; rfl
  refine yG ?_
  refine lH O O o O (List.getElem?_eq_some_iff.1 e).1 ?_
  refine yG ?_
  refine V O O (CD GP O O (Cs.sub (E.2.2.1.1) 0 (EI _ _ _ _ _)) O) ?_
  refine yG ?_
  refine EF O (CE EQ O (NE _ _ _ _ u _ E.2.1 E.1) O E ?_)
  intro w7 d7 E
  refine yG ?_
  refine V O O (JH (c := false) O O O (dA k)) ?_
  refine yG ?_
  refine lH O O o O (List.getElem?_eq_some_iff.1 e).1 ?_
  refine yG ?_
  refine V O O (CD KL O O (E.2.2.1.1) (CM h)) ?_
  refine yG ?_
  refine EF O (BZ PE O (kI _ _ _ _ u D _ l _ E.2.1 E.1 h (BW (e3 E)) (FitQ.mono v AE) hV) O E ?_)
  intro w8 d8 E
  refine yG ?_
  exact ⟨_, (by rw [B]; omega), (i + 1), z ++ (ET l (KA u) D), _, O, O, zE, O, ⟨by omega, by rw [KM e, sg2 q k, <- f]; simp [G], by simp only [List.length_append]; omega⟩⟩
 refine yG ?_
 refine lH O O o O (List.getElem?_eq_some_iff.1 e).1 ?_
 refine yG ?_
 refine V O O (CD GP O O (Cs.sub (E.2.2.1.1) 0 (EI _ _ _ _ _)) O) ?_
 refine yG ?_
 refine EF O (CE EQ O (NE _ _ _ _ u _ E.2.1 E.1) O E ?_)
 intro w9 d9 E
 refine yG ?_
 refine V O O (JH (c := false) O O O (dA k)) ?_
 refine yG ?_
 refine lH O O o O (List.getElem?_eq_some_iff.1 e).1 ?_
 refine yG ?_
 refine V O O (CD KL O O (E.2.2.1.1) (CM h)) ?_
 refine yG ?_
 refine EF O (BZ PE O (kI _ _ _ _ u D _ l _ E.2.1 E.1 h (BW (e3 E)) (FitQ.mono v AE) hV) O E ?_)
 intro Y a8 E
 refine yG ?_
 exact ⟨_, (by rw [B]; omega), (i + 1), (z ++ ([32, 43, 32])) ++ (ET l (KA u) D), _, O, O, zE, O, ⟨by omega, by rw [KM e, sg4 q k, <- f]; simp [], by simp only [List.length_append, List.length_cons, List.length_nil]; omega⟩⟩
theorem uP (vp : Value) (p : List Tm) (vl : Value) (l : List Bs) (w : World) (hRp : IsR JL (CX w.heap.size) w vp p) (hRl : IsR elS (CX w.heap.size) w vl l) (hp : ED p) (hF : ∀ t ∈ p, FitQ t.1 100000) (hL : p.length <= 1000000) (hLl : l.length <= 1000000) :
 Calls prog 25 #[vp, vl] w (FI w (.tuple #[.string (bs (QT l p).1), .int .i64 ↑((QT l p).2)])) := by
 have E := Env.start w
 obtain ⟨C, o, rfl, z, u⟩ := hRp.shp
 replace E := E.r hRp (DF _)
 obtain ⟨D, q, rfl, B, y⟩ := hRl.shp
 replace E := E.r hRl (DF _)
 go_enter func25, ntmps25
 by_cases f : DL 8 l = true
 case neg =>
  refine yG ?_
  refine EF O (CA RG O (CU (DE f) (oS _ l 8 _ (BW E.1) hLl)) O E ?_)
  intro F R E
  refine yG ?_
  exact ⟨NI (a := []) (n := 1) (mW (DE f)), E.2.2.1⟩
 have e := GR f
 by_cases k : FN p < 2 ^ l.length
 case neg =>
  refine yG ?_
  refine EF O (CA RG O (CU f (oS _ l 8 _ (BW E.1) hLl)) O E ?_)
  intro I U E
  refine yG ?_
  refine EF O (CA LG O (VM _ p _ (BW E.2.1) hp (fun t h => FitQ.mono (hF t h) AE) hL) O E ?_)
  intro H T E
  refine yG ?_
  refine EF O (BZ PF O (gE _ p _ (BW E.2.1) hL) O E ?_)
  intro G S E
  refine yG ?_
  refine V (v := .int .i64 ↑(FN p)) Z O (DR O O O underlying3 (SI p)) ?_
  refine yG ?_
  refine V (v := .int .u64 ↑l.length) Z O (DR O O O underlying39 (kH e)) ?_
  refine yG ?_
  refine V (v := .int .i64 ((2 ^ l.length : Nat) : Int)) Z O (dD (n := l.length) O O O e) ?_
  refine yG ?_
  exact ⟨NI (a := []) (n := 1) (mV k), E.2.2.1⟩
 refine yG ?_
 refine EF O (CA RG O (CU f (oS _ l 8 _ (BW E.1) hLl)) O E ?_)
 intro P d1 E
 refine yG ?_
 refine EF O (CA LG O (VM _ p _ (BW E.2.1) hp (fun t h => FitQ.mono (hF t h) AE) hL) O E ?_)
 intro N d2 E
 refine yG ?_
 refine EF O (BZ PF O (gE _ p _ (BW E.2.1) hL) O E ?_)
 intro L Y E
 refine yG ?_
 refine V (v := .int .i64 ↑(FN p)) Z O (DR O O O underlying3 (SI p)) ?_
 refine yG ?_
 refine V (v := .int .u64 ↑l.length) Z O (DR O O O underlying39 (kH e)) ?_
 refine yG ?_
 refine V (v := .int .i64 ((2 ^ l.length : Nat) : Int)) Z O (dD (n := l.length) O O O e) ?_
 refine yG ?_
 refine EF O (BZ nS O (Wq _ p _ l _ (BW E.2.1) (BW E.1) hF hL f) O E ?_)
 intro J X E
 by_cases Q : (((DS l p).length : Nat) : Int) > 4000
 . refine yG ?_
   exact ⟨NI (a := []) (n := 2) (bP f k AA), E.2.2.1⟩
 refine yG ?_
 exact ⟨NI (a := DS l p) (n := 0) (mU f k AA), E.2.2.1⟩
end Go.Proofs.YtmppigbbkjepiaaGreatDoor
