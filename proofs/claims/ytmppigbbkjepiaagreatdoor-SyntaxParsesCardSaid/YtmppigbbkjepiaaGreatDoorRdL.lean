/- Helping facts of Read2; no other conditions. Helping facts of KitS; no other conditions. Helping facts of Iter; no other conditions. Helping facts of RdL; no other conditions. -/
import Derived.Test.YtmppigbbkjepiaaGreatDoorRead1
import Derived.RangeFuncNested
import Derived.RangeFuncBound
import Derived.RangeFuncCalls
import Derived.RangeFuncLeaves
import Derived.Shelf.Abstract
import Derived.Shelf.RegionOpen
import Derived.OwnWalkIn
import Derived.TacticsInMore
import Derived.LoopNIn
import Derived.LoopIn
import Derived.OrdersIn
namespace Go.Proofs.YtmppigbbkjepiaaGreatDoor
open Go.Proofs.Tryz
open Go.RowKit W
variable {K : Act -> World -> Prop} {L : List SF} {R : Ending -> World -> Prop} {W w w' w0 : World} {a : Act} {at_ i id n sb : Nat} {c : Rat} {fn : Func} {l : List Value} {m mm : List Nat} {neg : Bool} {o : Oper} {p : Prop} {v : Value}
theorem YlM (h : p := by first | exact (List.getElem?_eq_some_iff.1 F).1 | exact hi) : p := h
theorem YaK (h : p := by first | exact (List.getElem?_eq_some_iff.1 G).1 | exact hi) : p := h
theorem Yok (h : p := by first | exact (List.getElem?_eq_some_iff.1 Y).1 | exact hi) : p := h
theorem YgJ (h : p := by first | rfl | exact CF CK) : p := h
theorem Y8z (h : p := by simp [results, results42, asAddr, r1]) : p := h
theorem Zbb (h : p := by
 cases L with
 | nil => cases h
 | cons y r => simp at h; subst h; unfold MS; simp only [hp]; rfl
 ) : p := h
theorem NV {b : UInt8} : ∀ {s x : Bs}, x ∈ DI b s -> x.length <= s.length
 | [], x, h => by simp [DI] at h; subst h; simp
 | c :: s, x, h => by
   simp only [DI] at h
   have ih := fun y (hy : y ∈ DI b s) => NV (b := b) (s := s) hy
   split at h
   . rcases List.mem_cons.1 h with rfl | h
     . simp
     have := ih x h; simp only [List.length_cons]; omega
   cases hs : DI b s with
   | nil => exact absurd hs (PN b s)
   | cons y r =>
     rw [hs] at h ih
     rcases List.mem_cons.1 h with rfl | h
     . have := ih y AH; simp only [List.length_cons]; omega
     have := ih x (by simp [h]); simp only [List.length_cons]; omega
theorem bN (b : UInt8) (s : Bs) : 0 < (DI b s).length := by rw [UE]; omega
theorem PP (b : UInt8) (s : Bs) : (DI b s).length <= s.length + 1 := by
 rw [UE]; have := List.count_le_length (a := b) (l := s); omega
theorem sV {L : List Bs} {x : Bs} (h : L[0]? = some x) (hp : OZ x = some c) : MS L = (c, L.drop 1) := by
 exact Zbb
theorem sW {L : List Bs} {x : Bs} (h : L[0]? = some x) (hp : OZ x = none) : MS L = (((1 : Int) : Rat), L) := by
 exact Zbb
theorem KO {l : List Bs} {s : Bs} {ws : List Bs} (h : MS (DI 42 s) = (c, ws)) (h2 : GX l ws zeroM = none) : cO l s = none := by unfold cO; rw [h]; simp only [h2]
theorem RZ {l : List Bs} {s : Bs} {ws : List Bs} (h : MS (DI 42 s) = (c, ws)) (h2 : GX l ws zeroM = some mm) (h3 : ¬ (0 < c /\ GA l c mm = s)) : cO l s = none := by unfold cO; rw [h]; simp only [h2]; rw [if_neg h3]
theorem lT {l : List Bs} {s : Bs} {ws : List Bs} (h : MS (DI 42 s) = (c, ws)) (h2 : GX l ws zeroM = some mm) (h3 : 0 < c) (h4 : GA l c mm = s) : cO l s = some (c, mm) := by unfold cO; rw [h]; simp only [h2]; rw [if_pos ⟨h3, h4⟩]
theorem dG {l : List Bs} : ∀ {a b : List Bs} {m : List Nat}, GX l (a ++ b) m = (GX l a m).bind (GX l b)
 | [], b, m => rfl
 | x :: a, b, m => by
   simp only [List.cons_append, GX]
   cases LP l x with
   | none => rfl
   | some p => obtain ⟨v, n⟩ := p; exact dG
theorem PG {l ws : List Bs} {x : Bs} {v : Nat} (h : GX l (ws.take i) zeroM = some m) (hx : ws[i]? = some x) (hf : LP l x = some (v, n)) : GX l (ws.take (i + 1)) zeroM = some (m.set v n) := by
 rw [KK hx, dG, h]
 simp [GX, hf]
theorem GW {l ws : List Bs} {x : Bs} (h : GX l (ws.take i) zeroM = some m) (hx : ws[i]? = some x) (hf : LP l x = none) : GX l ws zeroM = none := by
 have f := (List.getElem?_eq_some_iff.1 hx)
 have e : ws = ws.take i ++ x :: ws.drop (i + 1) := by
  rw [<- f.2, <- List.drop_eq_getElem_cons, List.take_append_drop]
 rw [e, dG, h]
 simp [GX, hf]
theorem aE (s : Bs) (vl : Value) (l : List Bs) (v n : Nat) (w : World) (h : IsR elS (DL w.heap.size) w vl l) (hs : s.length <= 1000000) (hG : Glob w) (hf : LP l s = some (v, n)) :
 Calls prog 90 #[.string (bs s), vl] w (GY w (.tuple #[.int .i64 ↑v, .int .i64 ↑n, .bool true])) := by
 have := fP s vl l w h hs hG
 rwa [Qr hf] at this
theorem cM (s : Bs) (vl : Value) (l : List Bs) (v n : Nat) (w : World) (h : IsR elS (DL w.heap.size) w vl l) (hs : s.length <= 1000000) (hG : Glob w) (hf : gT l s = (v, n, false)) :
 Calls prog 90 #[.string (bs s), vl] w (GY w (.tuple #[.int .i64 ↑v, .int .i64 ↑n, .bool false])) := by
 have := fP s vl l w h hs hG
 rwa [hf] at this
def Sg (w0 : World) (o : Option Tm) (e : Ending) (w' : World) : Prop := match o with
 | none => e = .returned (.tuple #[.agg (EW false (.slice none 0 0) false (.slice none 0 0) zeroM).toArray, .bool false]) /\ Below w0.heap.size w0 w'
 | some t => ∃ n s m u, e = .returned (.tuple #[.agg (EW n s m u t.2).toArray, .bool true]) /\ IsI w' (.agg #[.bool n, s]) t.1.num /\ IsI w' (.agg #[.bool m, u]) ((t.1.den : Nat) : Int) /\ Below w0.heap.size w0 w'
theorem rQ {o : Option Tm} (h : o = none) (hb : Below w0.heap.size w0 w') : Sg w0 o (.returned (.tuple #[.agg (EW false (.slice none 0 0) false (.slice none 0 0) zeroM).toArray, .bool false])) w' := by subst h; exact ⟨rfl, hb⟩
theorem Oh {o : Option Tm} {n : Bool} {s : Value} {m : Bool} {u : Value} (h : o = some (c, mm)) (h1 : IsI w' (.agg #[.bool n, s]) c.num) (h2 : IsI w' (.agg #[.bool m, u]) ((c.den : Nat) : Int)) (hb : Below w0.heap.size w0 w') : Sg w0 o (.returned (.tuple #[.agg (EW n s m u mm).toArray, .bool true])) w' := by subst h; exact ⟨n, s, m, u, rfl, h1, h2, hb⟩
theorem fZ (h : 0 < c) : decide (OY c.num <= 0) = false := by
 have e : ¬ c.num <= 0 := by
  intro g
  rcases Int.lt_or_eq_of_le g with g | g
  . exact absurd (rat_neg.2 g) (uG h)
  have : c = 0 := Rat.num_eq_zero.1 g
  rw [this] at h; exact absurd h AE
 exact wR AA
theorem nX (h : ¬ 0 < c) : decide (OY c.num <= 0) = true := by
 have k : c.num <= 0 := by
  by_cases g : 0 < c.num
  . exfalso
    have f : 0 <= c := Rat.num_nonneg.1 AA
    rcases Rat.le_iff_lt_or_eq.1 f with e | e
    . exact h e
    rw [<- e] at g; exact absurd g AE
  omega
 exact Ex k
set_option maxRecDepth 100000 in
set_option maxHeartbeats 8000000 in
theorem QY (s : Bs) (vl : Value) (l : List Bs) (w : World) (hRl : IsR elS (DL w.heap.size) w vl l) (hs : s.length <= 4000) (hV : DM 8 l = true) (hG : Glob w) :
 Calls prog 42 #[.string (bs s), vl] w (Sg w (cO l s)) := by
 have E := Env.start w
 obtain ⟨a2, N, rfl, ef, ed⟩ := hRl.shp
 replace E := E.r hRl (DZ _)
 have ee := IG hV
 have eh := hG.two
 replace E := E.gl hG
 go_enter func42, ntmps42
 refine yG ?_
 refine EF O (BZ FQ O ?_)
 intro b1 w1 cm z1 d1 q
 have l1 : w.heap.size <= b1 := by rw [cm]; exact E.2.2.1.size
 replace E := E.below d1
 have bo : b1 < w1.heap.size := Bx.lt (q)
 refine yG ?_
 refine EF O (DE XR O (Hs s 42 _ AA E.1.1) O E ?_)
 intro T v2 d2 f2 E
 replace q := q.below d2
 replace E := E.sz (Nat.le_refl T.heap.size)
 obtain ⟨D, h, rfl, cr, _⟩ := f2.shp
 replace E := E.r (e := elS) (S := EM w1.heap.size T.heap.size) f2 (fun _ g => g.2)
 refine yG ?_
 refine EF O (CV PX O (vL 1 _ AE AE) O E ?_)
 intro w4 n4 s4 m4 t4 d4 E
 replace q := q.below d4
 have F3 : FitQ ((1 : Int) : Rat) 4 := MG (k := 4) AE (EU AE AE)
 refine yG ?_
 refine V (v := .agg (EW n4 s4 m4 t4 zeroM).toArray) O O (aB O O) ?_
 refine yG ?_
 refine EF O (BZ FQ O ?_)
 intro b5 w5 bl z5 d5 x5
 have cq : b1 < b5 := by rw [bl]; exact Bx.lt (q)
 have ce : T.heap.size <= b5 := by rw [bl]; exact CS (e3 E)
 replace E := E.below d5
 replace q := Bx.below q d5
 refine yG ?_
 refine EF O (BY FQ O O O x5 YgJ (CF CK) (DO (M := zeroM) (IsI.one E.2.1) (IsI.one E.1)) ?_)
 intro w6 o6 y6
 replace E := oY E x5 o6 y6 (ds := (EW n4 s4 m4 t4 zeroM))
 replace q := Bx.onl q AA o6
 have cg := bN 42 s
 have b4 := PP 42 s
 obtain ⟨x7, Y⟩ : ∃ x, (DI 42 s)[0]? = some x := ⟨_, List.getElem?_eq_getElem cg⟩
 obtain ⟨P, a3, _, bi, bj, ck, ch⟩ := IsR.at (e3 E).1 Y
 obtain rfl := (show _ = [Value.string (bs x7)] from ch)
 have cj : P < _ := (e3 E).2 _ bj
 replace E := E.c ck cj
 have eg : w1.heap.size <= P /\ P < T.heap.size := bj
 have ec := NV (List.mem_of_getElem? Y)
 by_cases hq : OZ x7 = none
 case pos =>
  refine yG ?_
  refine OL (j := 0) O O bi O Yok ?_
  refine yG ?_
  refine EF O (QN VZ O (Aq x7 _ AA hq) O E ?_)
  intro w8 n8 s8 m8 t8 d8 E
  replace q := q.below d8
  refine yG ?_
  refine EF O (BZ EY O ?_)
  intro b9 w9 bk z9 d9 x9
  have cp : b5 < b9 := by rw [bk]; exact Bx.lt (e3 E)
  have cd : T.heap.size <= b9 := by rw [bk]; exact CS (e7 E)
  replace E := E.below d9
  replace q := Bx.below q d9
  refine yG ?_
  refine EF O (BY EY O O O x9 O O (IF (IsI.one E.2.1) (IsI.one E.1)) ?_)
  intro dz b2 c2
  replace E := oY E x9 b2 c2
  replace q := Bx.onl q AA b2
  have J := sW Y hq
  have ci : (DI 42 s).length <= s.length + 1 := by first | exact b4 | (rw [List.length_drop]; omega)
  have ag : (DI 42 s).length = (DI 42 s).length := rfl
  replace E := E.x q
  refine yG ?_
  refine wp_loop_ghost (fun mz a w' => ∃ (i : Nat) (p : List Nat) (L : List Value), L = a.tmps.toList /\ a = ⟨(.string (bs s) :: .slice a2 l.length N :: undef :: undef :: .pointer (some ⟨b1, 0, none⟩) :: (CJ L 5) :: .slice D ((DI 42 s).length) h :: .pointer (some ⟨b5, 0, none⟩) :: .pointer (some ⟨b9, 0, none⟩) :: .int .i64 3 :: gr L 10 4 (.string (bs s) :: .slice D ((DI 42 s).length) h :: .agg #[.bool n4, s4, .bool m4, t4] :: .agg (EW n4 s4 m4 t4 zeroM).toArray :: .tuple #[.agg #[.bool n8, s8, .bool m8, t8], .int .i64 3] :: .slice D ((DI 42 s).length) h :: .pointer (some ⟨P, a3 + 0 * 1, none⟩) :: .string (bs x7) :: .tuple #[.agg #[.bool n8, s8, .bool m8, t8], .int .i64 3] :: .agg #[.bool n8, s8, .bool m8, t8] :: .int .i64 3 :: .int .i64 3 :: .bool false :: undef :: undef :: undef :: undef :: .slice D ((DI 42 s).length) h :: .int .i64 ↑((DI 42 s).length) :: .int .i64 ↑i :: gr L 34 20 (undef :: undef :: undef :: undef :: undef :: undef :: undef :: undef :: undef :: undef :: undef :: undef :: undef :: []))).toArray, []⟩ /\ Env w' [fX b5 (88) (EW n4 s4 m4 t4 p), fX b1 (88) (EW false (.slice none 0 0) false (.slice none 0 0) zeroM), fX b9 (64) ([.bool n8, s8, .bool m8, t8]), fI (.agg #[.bool m8, t8]) 0, fI (.agg #[.bool n8, s8]) 0, fC P (a3 + 0 * 1) [.string (bs x7)], fI (.agg #[.bool m4, t4]) ((((1 : Int) : Rat).den : Nat) : Int), fI (.agg #[.bool n4, s4]) (((1 : Int) : Rat).num), fR elS (EM w1.heap.size T.heap.size) (.slice D ((DI 42 s).length) h) (DI 42 s), iR T.heap.size, fGl, fR elS (DL w.heap.size) (.slice a2 l.length N) l, fW w] /\ mz = ((DI 42 s).length) - i /\ (i <= (DI 42 s).length /\ GX l ((DI 42 s).take i) zeroM = some p /\ FC p)) (((DI 42 s).length)) ⟨0, zeroM, _, O, O, zE, O, ⟨Nat.zero_le _, by simp [GX], CK⟩⟩ ?_
  rintro eb _ dy ⟨i, p, L, -, rfl, E, ba, ab⟩
  dsimp only [gr, Nat.reduceAdd]
  obtain ⟨ab, o⟩ := ab
  by_cases hi : i < (DI 42 s).length
  case pos =>
   obtain ⟨a0, G⟩ : ∃ x, (DI 42 s)[i]? = some x := ⟨_, List.getElem?_eq_getElem (show i < (DI 42 s).length by rw [ag]; exact hi)⟩
   obtain ⟨a1, co, _, a7, a9, bh, b7⟩ := IsR.at (e8 E).1 G
   obtain rfl := (show _ = [Value.string (bs a0)] from b7)
   have bc : a1 < _ := (e8 E).2 _ a9
   replace E := E.c bh bc
   have cu : w1.heap.size <= a1 /\ a1 < T.heap.size := a9
   have ad := List.mem_of_getElem? G
   have b3 : a0.length <= s.length := NV (ad)
   by_cases R : LP l a0 = none
   case pos =>
    obtain ⟨v, n, ah⟩ := Gu R
    refine yG ?_
    refine OL O O a7 O YaK ?_
    refine yG ?_
    refine EF O (CC KP O (cM a0 _ l v n _ (BW (WE E)) AA (RC E).1 ah) O E ?_)
    intro dx ew E
    have ax := E.2.2.1
    refine yG ?_
    replace E := VC E
    refine yG ?_
    refine EF O (BY FQ O O O ax YgJ (CF CK) (DO (M := zeroM) GB GB) ?_)
    intro dw cc c1
    replace E := oY E ax cc c1 (ds := (EW false (.slice none 0 0) false (.slice none 0 0) zeroM))
    have r1 := CL FQ E.1 (CF CK)
    refine yG ?_
    exact AQ (v := .tuple #[.agg (EW false (.slice none 0 0) false (.slice none 0 0) zeroM).toArray, .bool false]) Y8z O (rQ (KO J (GW o.1 G R)) (XX E))
   obtain ⟨⟨v, n⟩, R⟩ := Option.ne_none_iff_exists'.1 R
   have ae := UM R
   have af := aM (v := v) o.2 ae.2.2
   refine yG ?_
   refine OL O O a7 O YaK ?_
   refine yG ?_
   refine EF O (CC KP O (aE a0 _ l v n _ (BW (WE E)) AA (RC E).1 R) O E ?_)
   intro dv ev E
   have aw := E.2.1
   refine yG ?_
   replace E := QP E
   refine yG ?_
   refine EF O (CI (v := .int .i64 ↑n) O TX O O O aw (by rw [CF o.2]; omega) ?_)
   intro du cb aj
   rw [bL] at aj
   replace E := oY E aw cb aj (ds := (EW n4 s4 m4 t4 (p.set v n)))
   refine yG ?_
   exact ⟨_, (by rw [ba]; omega), (i + 1), (p.set v n), _, O, O, zE, O, ⟨by omega, PG o.1 G R, af⟩⟩
  rw [List.take_of_length_le AA] at o
  by_cases C : 0 < ((1 : Int) : Rat)
  case neg =>
   refine yG ?_
   refine V O O (CE EY O O (Cs.sub (Bx.cs E.1) 0 (EQ _ _ _ _ _)) O) ?_
   refine yG ?_
   refine EF O (CB EN O (RF _ _ _ _ ((1 : Int) : Rat) _ (e7 E) (e6 E)) O E ?_)
   intro dl ep E
   refine yG ?_
   refine V O O (RI (c := true) O O O (nX C)) ?_
   have ar := E.2.1
   refine yG ?_
   replace E := QP E
   refine yG ?_
   refine EF O (BY FQ O O O ar YgJ (CF CK) (DO (M := zeroM) GB GB) ?_)
   intro dk c8 bw
   replace E := oY E ar c8 bw (ds := (EW false (.slice none 0 0) false (.slice none 0 0) zeroM))
   have r1 := CL FQ E.1 (CF CK)
   refine yG ?_
   exact AQ (v := .tuple #[.agg (EW false (.slice none 0 0) false (.slice none 0 0) zeroM).toArray, .bool false]) Y8z O (rQ (RZ J o.1 (fun g => C g.1)) (WE E))
  by_cases I : GA l ((1 : Int) : Rat) p = s
  case neg =>
   refine yG ?_
   refine V O O (CE EY O O (Cs.sub (Bx.cs E.1) 0 (EQ _ _ _ _ _)) O) ?_
   refine yG ?_
   refine EF O (CB EN O (RF _ _ _ _ ((1 : Int) : Rat) _ (e7 E) (e6 E)) O E ?_)
   intro dp es E
   refine yG ?_
   refine V O O (RI (c := false) O O O (fZ C)) ?_
   refine yG ?_
   refine V Z O (CE FQ O O (Bx.cs E.1) (CF o.2)) ?_
   refine yG ?_
   refine EF O (CC FS O (NG _ _ _ _ ((1 : Int) : Rat) p _ l _ (e7 E) (e6 E) o.2 (BW (RC E)) (FitQ.mono F3 AE) hV (RD E).1) O E ?_)
   intro dn er E
   refine yG ?_
   refine V Z O (FG (a := GA l ((1 : Int) : Rat) p) (b := s) (c := true) O O O (by rw [bne_iff_ne]; exact I)) ?_
   have au := E.2.1
   refine yG ?_
   replace E := QP E
   refine yG ?_
   refine EF O (BY FQ O O O au YgJ (CF CK) (DO (M := zeroM) GB GB) ?_)
   intro dm c9 bx
   replace E := oY E au c9 bx (ds := (EW false (.slice none 0 0) false (.slice none 0 0) zeroM))
   have r1 := CL FQ E.1 (CF CK)
   refine yG ?_
   exact AQ (v := .tuple #[.agg (EW false (.slice none 0 0) false (.slice none 0 0) zeroM).toArray, .bool false]) Y8z O (rQ (RZ J o.1 (fun g => I g.2)) (WE E))
  refine yG ?_
  refine V O O (CE EY O O (Cs.sub (Bx.cs E.1) 0 (EQ _ _ _ _ _)) O) ?_
  refine yG ?_
  refine EF O (CB EN O (RF _ _ _ _ ((1 : Int) : Rat) _ (e7 E) (e6 E)) O E ?_)
  intro dt eu E
  refine yG ?_
  refine V O O (RI (c := false) O O O (fZ C)) ?_
  refine yG ?_
  refine V Z O (CE FQ O O (Bx.cs E.1) (CF o.2)) ?_
  refine yG ?_
  refine EF O (CC FS O (NG _ _ _ _ ((1 : Int) : Rat) p _ l _ (e7 E) (e6 E) o.2 (BW (RC E)) (FitQ.mono F3 AE) hV (RD E).1) O E ?_)
  intro dr et E
  refine yG ?_
  refine V Z O (FG (a := GA l ((1 : Int) : Rat) p) (b := s) (c := false) O O O (by rw [bne_eq_false_iff_eq]; exact I)) ?_
  refine yG ?_
  refine V O O (CE FQ O O (Bx.cs E.1) (CF o.2)) ?_
  have av := E.2.1
  replace E := QP E
  refine yG ?_
  refine EF O (BY FQ O O O av YgJ (CF o.2) (DO (M := p) (IsI.one (e6 E)) (IsI.one (e5 E))) ?_)
  intro dq ca c0
  replace E := oY E av ca c0 (ds := (EW n4 s4 m4 t4 p))
  have r1 := CL FQ E.1 (CF o.2)
  refine yG ?_
  exact AQ (v := .tuple #[.agg (EW n4 s4 m4 t4 p).toArray, .bool true]) Y8z O (Oh (lT J o.1 C I) (e7 E) (e6 E) (WE E))
 obtain ⟨c, hq⟩ := Option.ne_none_iff_exists'.1 hq
 have bf := dL AA hq
 refine yG ?_
 refine OL (j := 0) O O bi O Yok ?_
 refine yG ?_
 refine EF O (QN VZ O (Ap x7 c _ AA hq) O E ?_)
 intro dj y u B t cn E
 replace q := q.below cn
 refine yG ?_
 refine EF O (BZ EY O ?_)
 intro a4 di ac cv bm aq
 have cf : b5 < a4 := by rw [ac]; exact Bx.lt (e3 E)
 have bn : T.heap.size <= a4 := by rw [ac]; exact CS (e7 E)
 replace E := E.below bm
 replace q := Bx.below q bm
 refine yG ?_
 refine EF O (BY EY O O O aq O O (IF (IsI.one E.2.1) (IsI.one E.1)) ?_)
 intro dh b0 bv
 replace E := oY E aq b0 bv
 replace q := Bx.onl q AA b0
 have ap := e4 E
 refine yG ?_
 replace E := jI E
 refine yG ?_
 refine EF O (IS (cs' := (EW y u B t zeroM)) EY O O O ap O (by rw [CF CK]; decide) (IF (IsI.one E.2.2.1) (IsI.one E.2.1)) O ?_)
 intro dg az bu
 replace E := oY E ap az bu (ds := (EW y u B t zeroM))
 replace q := Bx.onl q AA az
 obtain ⟨H, a6⟩ : ∃ a, Ba D (1 * 1) (decide (h = 1)) = a := ⟨_, rfl⟩
 refine yG ?_
 refine V (v := .slice H (((DI 42 s).length) - 1) (h - 1)) O O (FK (i := 1) O underlying30 Z O O O AA a6) ?_
 replace E := E.r (e := elS) (S := EM w1.heap.size T.heap.size) (MF (e7 E).1 AA a6) ((e7 E).2)
 have J := sV Y hq
 have ci : ((DI 42 s).drop 1).length <= s.length + 1 := by first | exact b4 | (rw [List.length_drop]; omega)
 have ag : ((DI 42 s).drop 1).length = ((DI 42 s).length) - 1 := List.length_drop
 replace E := E.x q
 refine yG ?_
 refine wp_loop_ghost (fun mz a w' => ∃ (i : Nat) (p : List Nat) (f : List Value), a = ⟨#[.string (bs s), .slice a2 l.length N, undef, undef, .pointer (some ⟨b1, 0, none⟩), CJ f 0, .slice H (((DI 42 s).length) - 1) (h - 1), .pointer (some ⟨b5, 0, none⟩), .pointer (some ⟨a4, 0, none⟩), .int .i64 0, CJ f 1, CJ f 2, CJ f 3, CJ f 4, .string (bs s), .slice D ((DI 42 s).length) h, .agg #[.bool n4, s4, .bool m4, t4], .agg (EW n4 s4 m4 t4 zeroM).toArray, .tuple #[.agg #[.bool y, u, .bool B, t], .int .i64 0], .slice D ((DI 42 s).length) h, .pointer (some ⟨P, a3 + 0 * 1, none⟩), .string (bs x7), .tuple #[.agg #[.bool y, u, .bool B, t], .int .i64 0], .agg #[.bool y, u, .bool B, t], .int .i64 0, .int .i64 0, .bool true, .agg #[.bool y, u, .bool B, t], .pointer (some ⟨b5, 0, none⟩), .slice D ((DI 42 s).length) h, .slice H (((DI 42 s).length) - 1) (h - 1), .slice H (((DI 42 s).length) - 1) (h - 1), .int .i64 ↑(((DI 42 s).length) - 1), .int .i64 ↑i, CJ f 5, CJ f 6, CJ f 7, CJ f 8, CJ f 9, CJ f 10, CJ f 11, CJ f 12, CJ f 13, CJ f 14, CJ f 15, CJ f 16, CJ f 17, CJ f 18, CJ f 19, CJ f 20, CJ f 21, CJ f 22, CJ f 23, CJ f 24, undef, undef, undef, undef, undef, undef, undef, undef, undef, undef, undef, undef, undef], []⟩ /\ Env w' [fX b5 (88) (EW y u B t p), fX b1 (88) (EW false (.slice none 0 0) false (.slice none 0 0) zeroM), fR elS (EM w1.heap.size T.heap.size) (.slice H (((DI 42 s).length) - 1) (h - 1)) ((DI 42 s).drop 1), fX a4 (64) ([.bool y, u, .bool B, t]), fI (.agg #[.bool B, t]) ((c.den : Nat) : Int), fI (.agg #[.bool y, u]) c.num, fC P (a3 + 0 * 1) [.string (bs x7)], fI (.agg #[.bool m4, t4]) ((((1 : Int) : Rat).den : Nat) : Int), fI (.agg #[.bool n4, s4]) (((1 : Int) : Rat).num), fR elS (EM w1.heap.size T.heap.size) (.slice D ((DI 42 s).length) h) (DI 42 s), iR T.heap.size, fGl, fR elS (DL w.heap.size) (.slice a2 l.length N) l, fW w] /\ mz = (((DI 42 s).length) - 1) - i /\ (i <= ((DI 42 s).length) - 1 /\ GX l (((DI 42 s).drop 1).take i) zeroM = some p /\ FC p)) ((((DI 42 s).length) - 1)) ⟨0, zeroM, [.bool false, undef, undef, undef, undef, undef, undef, undef, undef, undef, undef, undef, undef, undef, undef, undef, undef, undef, undef, undef, undef, undef, undef, undef, undef], O, zE, O, ⟨Nat.zero_le _, by simp [GX], CK⟩⟩ ?_
 rintro ea _ de ⟨i, p, f, rfl, E, b8, aa⟩
 obtain ⟨aa, o⟩ := aa
 by_cases hi : i < ((DI 42 s).length) - 1
 case pos =>
  obtain ⟨X, F⟩ : ∃ x, ((DI 42 s).drop 1)[i]? = some x := ⟨_, List.getElem?_eq_getElem (show i < ((DI 42 s).drop 1).length by rw [ag]; exact hi)⟩
  obtain ⟨U, ay, _, a5, a8, bg, b6⟩ := IsR.at E.2.2.1.1 F
  obtain rfl := (show _ = [Value.string (bs X)] from b6)
  have bb : U < _ := E.2.2.1.2 _ a8
  replace E := E.c bg bb
  have ct : w1.heap.size <= U /\ U < T.heap.size := a8
  have ad := List.mem_of_getElem? F
  have b3 : X.length <= s.length := NV (List.mem_of_mem_drop ad)
  by_cases R : LP l X = none
  case pos =>
   obtain ⟨v, n, ah⟩ := Gu R
   refine yG ?_
   refine OL O O a5 O YlM ?_
   refine yG ?_
   refine EF O (CC KP O (cM X _ l v n _ (BW (XX E)) AA (WE E).1 ah) O E ?_)
   intro dd eo E
   have ao := E.2.2.1
   refine yG ?_
   replace E := VC E
   refine yG ?_
   refine EF O (BY FQ O O O ao YgJ (CF CK) (DO (M := zeroM) GB GB) ?_)
   intro dc c7 bt
   replace E := oY E ao c7 bt (ds := (EW false (.slice none 0 0) false (.slice none 0 0) zeroM))
   have r1 := CL FQ E.1 (CF CK)
   refine yG ?_
   exact AQ (v := .tuple #[.agg (EW false (.slice none 0 0) false (.slice none 0 0) zeroM).toArray, .bool false]) Y8z O (rQ (KO J (GW o.1 F R)) (lB E))
  obtain ⟨⟨v, n⟩, R⟩ := Option.ne_none_iff_exists'.1 R
  have ae := UM R
  have af := aM (v := v) o.2 ae.2.2
  refine yG ?_
  refine OL O O a5 O YlM ?_
  refine yG ?_
  refine EF O (CC KP O (aE X _ l v n _ (BW (XX E)) AA (WE E).1 R) O E ?_)
  intro db en E
  have an := E.2.1
  refine yG ?_
  replace E := QP E
  refine yG ?_
  refine EF O (CI (v := .int .i64 ↑n) O TX O O O an (by rw [CF o.2]; omega) ?_)
  intro da c6 ai
  rw [bL] at ai
  replace E := oY E an c6 ai (ds := (EW y u B t (p.set v n)))
  refine yG ?_
  exact ⟨_, (by rw [b8]; omega), (i + 1), (p.set v n), [CJ f 0, .int .i64 ↑i, .int .i64 ↑v, .int .i64 ↑n, .bool true, .bool true, .int .i64 ↑i, .tuple #[.int .i64 ↑v, .int .i64 ↑n, .bool true], .slice H (((DI 42 s).length) - 1) (h - 1), .int .i64 ↑i, .pointer (some ⟨U, ay + i * 1, none⟩), .string (bs X), .slice a2 l.length N, .tuple #[.int .i64 ↑v, .int .i64 ↑n, .bool true], .int .i64 ↑v, .int .i64 ↑n, .bool true, .bool true, .bool false, CJ f 19, .int .i64 ↑v, .int .i64 ↑n, .pointer (some ⟨b5, 4, none⟩), .pointer (some ⟨b5, 4 + v * 1, none⟩), .int .i64 ↑(i + 1)], O, zE, O, ⟨by omega, PG o.1 F R, af⟩⟩
 rw [List.take_of_length_le AA] at o
 by_cases C : 0 < c
 case neg =>
  refine yG ?_
  refine V O O (CE EY O O (Cs.sub (Bx.cs E.1) 0 (EQ _ _ _ _ _)) O) ?_
  refine yG ?_
  refine EF O (CB EN O (RF _ _ _ _ c _ (e5 E) (e4 E)) O E ?_)
  intro cx ei E
  refine yG ?_
  refine V O O (RI (c := true) O O O (nX C)) ?_
  have ak := E.2.1
  refine yG ?_
  replace E := QP E
  refine yG ?_
  refine EF O (BY FQ O O O ak YgJ (CF CK) (DO (M := zeroM) GB GB) ?_)
  intro cw c3 bp
  replace E := oY E ak c3 bp (ds := (EW false (.slice none 0 0) false (.slice none 0 0) zeroM))
  have r1 := CL FQ E.1 (CF CK)
  refine yG ?_
  exact AQ (v := .tuple #[.agg (EW false (.slice none 0 0) false (.slice none 0 0) zeroM).toArray, .bool false]) Y8z O (rQ (RZ J o.1 (fun g => C g.1)) (XX E))
 by_cases I : GA l c p = s
 case neg =>
  refine yG ?_
  refine V O O (CE EY O O (Cs.sub (Bx.cs E.1) 0 (EQ _ _ _ _ _)) O) ?_
  refine yG ?_
  refine EF O (CB EN O (RF _ _ _ _ c _ (e5 E) (e4 E)) O E ?_)
  intro d0 ek E
  refine yG ?_
  refine V O O (RI (c := false) O O O (fZ C)) ?_
  refine yG ?_
  refine V Z O (CE FQ O O (Bx.cs E.1) (CF o.2)) ?_
  refine yG ?_
  refine EF O (CC FS O (NG _ _ _ _ c p _ l _ (e5 E) (e4 E) o.2 (BW (WE E)) (FitQ.mono bf AE) hV (RC E).1) O E ?_)
  intro cz ej E
  refine yG ?_
  refine V Z O (FG (a := GA l c p) (b := s) (c := true) O O O (by rw [bne_iff_ne]; exact I)) ?_
  have al := E.2.1
  refine yG ?_
  replace E := QP E
  refine yG ?_
  refine EF O (BY FQ O O O al YgJ (CF CK) (DO (M := zeroM) GB GB) ?_)
  intro cy c4 bq
  replace E := oY E al c4 bq (ds := (EW false (.slice none 0 0) false (.slice none 0 0) zeroM))
  have r1 := CL FQ E.1 (CF CK)
  refine yG ?_
  exact AQ (v := .tuple #[.agg (EW false (.slice none 0 0) false (.slice none 0 0) zeroM).toArray, .bool false]) Y8z O (rQ (RZ J o.1 (fun g => I g.2)) (XX E))
 refine yG ?_
 refine V O O (CE EY O O (Cs.sub (Bx.cs E.1) 0 (EQ _ _ _ _ _)) O) ?_
 refine yG ?_
 refine EF O (CB EN O (RF _ _ _ _ c _ (e5 E) (e4 E)) O E ?_)
 intro d7 em E
 refine yG ?_
 refine V O O (RI (c := false) O O O (fZ C)) ?_
 refine yG ?_
 refine V Z O (CE FQ O O (Bx.cs E.1) (CF o.2)) ?_
 refine yG ?_
 refine EF O (CC FS O (NG _ _ _ _ c p _ l _ (e5 E) (e4 E) o.2 (BW (WE E)) (FitQ.mono bf AE) hV (RC E).1) O E ?_)
 intro d6 el E
 refine yG ?_
 refine V Z O (FG (a := GA l c p) (b := s) (c := false) O O O (by rw [bne_eq_false_iff_eq]; exact I)) ?_
 refine yG ?_
 refine V O O (CE FQ O O (Bx.cs E.1) (CF o.2)) ?_
 have am := E.2.1
 replace E := QP E
 refine yG ?_
 refine EF O (BY FQ O O O am YgJ (CF o.2) (DO (M := p) (IsI.one (e4 E)) (IsI.one (e3 E))) ?_)
 intro d3 c5 br
 replace E := oY E am c5 br (ds := (EW y u B t p))
 have r1 := CL FQ E.1 (CF o.2)
 refine yG ?_
 exact AQ (v := .tuple #[.agg (EW y u B t p).toArray, .bool true]) Y8z O (Oh (lT J o.1 C I) (e5 E) (e4 E) (XX E))
def Vk : Op -> Bool
 | .defer _ => true
 | _ => false
def gE (ops : Array Oper) : Bool := ops.toList.all fun o => !Vk o.op
theorem nY {ops : Array Oper} (h : gE ops = true) (ho : o ∈ ops.toList) (c : Call) : o.op ≠ .defer c := by
 intro e
 have := List.all_eq_true.1 h o ho
 rw [e] at this; cases this
section
variable {P : Program} {r n : Nat} {ops : Array Oper} {Q : Exit -> Act -> World -> Prop} {a : Act} {w : World}
theorem Jj {m : Nat} {row : String} {args : Array Value} {R : Value -> World -> Prop} (h : Rows P row args w R) : RowsIn Fence.wide m P row args w R :=
 fun c cs _ => let ⟨v, w', r, s⟩ := h c cs; ⟨v, w', r, stepsIn_wide.2 s⟩
theorem Fo (hd : ∀ c, o.op ≠ .defer c) (h : o.wp P a w K Q) : o.wpIn (Fence.wide.inRound r) n P a w K Q := by
 refine ⟨fun _ _ => trivial, ?_⟩
 show o.uponIn _ n P a K Q ((o.semAt (some r) a.eval).run P w)
 rw [Oper.semAt_some r _ _ hd]
 unfold Oper.wp Oper.upon at h
 revert h
 generalize (execOp a.eval o).run P w = res
 intro h
 cases res with
 | ok nx w' =>
   cases nx <;> first | exact h | exact h.elim | exact ⟨(fun e => by cases e), CallsIn.inRound r (callsIn_wide.2 h)⟩ | exact ⟨(fun e => by cases e), Jj h⟩
 | halt s w' => cases s <;> first | exact h | exact h.elim
theorem uO (hd : gE ops = true) (hq : ¬ LetsOut Q) : ∀ {l : List Oper} {a : Act} {w : World}, (∀ o ∈ l, o ∈ ops.toList) -> wpList P ops Q l a w -> wpListIn (Fence.wide.inRound r) n P ops Q l a w
 | [], _, _, _, h => h
 | o :: l, a, w, hl, h => by
   have hod := nY hd (hl o AH)
   unfold wpListIn
   unfold wpList at h
   split
   . rename_i hw
     rw [if_pos hw] at h
     rcases h with h | ⟨_, h⟩
     . have : wpList P ops Q l = fun a w => wpList P ops Q l a w := rfl
       exact Fo hod (Oper.wp_mono (fun a w h => uO hd hq (fun o ho => hl o (by simp [ho])) h) h)
     exact absurd h hq
   rename_i hw
   rw [if_neg hw] at h
   exact ⟨fun _ _ => trivial, uO hd hq (fun o ho => hl o (by simp [ho])) h⟩
theorem cG (hd : gE ops = true) (hq : ¬ LetsOut Q) (h : WL P ops Q ops.toList l w) : (Code.region id ops false).wpIn (Fence.wide.inRound r) n P Q ⟨l.toArray, []⟩ w :=
 wpIn_region_list (uO hd hq (fun _ h => h) h.out)
theorem vJ (hd : gE ops = true) (hq : ¬ LetsOut Q) {md : Region.Mode} : ∀ (f : Nat) (L : Array Bool) (a : Act) (w : World), wpAny P md ops Q f L a w -> wpAnyIn (Fence.wide.inRound r) n P md ops Q f L a w
 | 0, _, _, _, h => h
 | f + 1, L, a, w, h => by
   refine ⟨h.1, fun i hi => ?_⟩
   have h2 := h.2 i hi
   unfold wpOpIn
   unfold wpOp at h2
   cases ho : ops[i]? with
   | none => rw [ho] at h2; exact vJ hd hq f _ a w h2
   | some o =>
     rw [ho] at h2
     simp only at h2 ⊢
     have hod := nY hd (Array.mem_toList_iff.2 (Array.mem_of_getElem? ho))
     split
     . rename_i hw
       rw [if_pos hw] at h2
       rcases h2 with h2 | ⟨_, h2⟩
       . exact Fo hod (Oper.wp_mono (fun a w h => vJ hd hq f _ a w h) h2)
       exact absurd h2 hq
     rename_i hw
     rw [if_neg hw] at h2
     exact ⟨fun _ _ => trivial, vJ hd hq f _ _ w h2⟩
theorem OX {l : List SF} (hd : gE ops = true) (hq : ¬ LetsOut Q) (E : Env w l) (σ : List Nat) (hm : P.follows .mixedOrders = true) (hs : Region.noSelect ops = true) (hl : (σ.length == ops.size) = true)
 (hk : TS .any ops [] (Array.replicate ops.size false) σ = true)
 (hQ : ∀ d v c a w, Q (.panic c) (a.put d v) w -> Q (.panic c) a w) (h : DT P .any ops Q [] (fun w => Env w l) (fun w => Env w l) σ false a w.drew) : (Code.region id ops true).wpIn (Fence.wide.inRound r) n P Q a w := by
 refine wpIn_region_any hm (vJ hd hq _ _ _ _ (cW (S := SL [] (fun w => Env w l) (fun w => Env w l)) _ _ _ _ ?_))
 have e : σ.length = ops.size := by simpa using hl
 have := RG hs hQ (fun _ h => h) σ (Array.replicate ops.size false) false a w.drew (by
  intro k o f hk
  have : k < ops.size := (Array.getElem?_eq_some_iff.1 f).1
  simp [this] at hk) AH (by
  unfold aY
  rw [List.any_eq_false]
  intro k _
  by_cases hk : k < ops.size <;> simp [hk]) hk (by simpa using E.drew) h
 rw [e] at this
 exact this
end
def Qs (W : World) : SF := ⟨fun w => KeepsOthers W w, fun c => ∀ o, W.heap[c]? = some o -> o.isCells = true,
 fun h hb => ⟨Nat.le_trans h.size hb.size, fun k o hk ho => (hb.block k (Array.getElem?_eq_some_iff.1 (h.same k o hk ho)).1).trans (h.same k o hk ho)⟩,
 fun h _ hc hb => ⟨by rw [hb.size]; exact h.size, fun k o hk ho => by
  refine (hb.block k fun e => ?_).trans (h.same k o hk ho)
  subst e
  rw [hc o hk] at ho; cases ho⟩⟩
theorem Env.ko (E : Env W L) : Env W (Qs W :: L) := ⟨KeepsOthers.refl W, E⟩
theorem rX {b T : Nat} {cs : List Value} (h : Bx W b T cs) : (Qs W).ok b := fun o e => by unfold Bx at h; rw [h] at e; cases e; rfl
theorem xU {c : Nat} (h : W.heap.size <= c) : (Qs W).ok c := fun o e => by rw [Array.getElem?_eq_none h] at e; cases e
theorem Xr {α : Type} {e : El α} {t base : Nat} {l : List α} (h : Acc e t base WW W v l) {g : Nat} (hg : v.ownBlock = some g) : (Qs W).ok g := by
 intro o f
 obtain ⟨y, p, _⟩ := h
 rcases p.2 with ⟨rfl, _⟩ | ⟨B, u, q, rfl, _, k, _⟩
 . simp [Value.ownBlock] at hg
 simp [Value.ownBlock] at hg
 subst hg
 rw [k] at f; cases f; rfl
theorem Env.turn {W' : World} {row : Option Nat} (E : Env W L) (hg : W.grownBy W' row) (hr : ∀ r, row = some r -> ∃ o : Obj, W.heap[r]? = some o /\ o.isCells = false) (hok : ∀ r, row = some r -> Ok r L) : Env W' L := by
 cases row with
 | none => exact E.below ⟨hg.os, hg.tape, hg.output, hg.size, fun k f => hg.block k f AH⟩
 | some r =>
   obtain ⟨o, u, y⟩ := hr r rfl
   have h : r < W.heap.size := (Array.getElem?_eq_some_iff.1 u).1
   obtain ⟨p, q⟩ : ∃ p, W'.heap[r]? = some p := ⟨_, Array.getElem?_eq_getElem (Nat.lt_of_lt_of_le h hg.size)⟩
   have t : Av W r := by
    intro j k e
    unfold World.cell? at e
    rw [u] at e
    cases o <;> simp_all [Obj.isCells]
   have l : Onl r W (W.putObj r p) := ⟨rfl, rfl, rfl, by simp, fun k f => World.putObj_heap_other (fun e => f e)⟩
   have v := E.onl t (hok r rfl) l
   refine v.below ⟨hg.os, hg.tape, hg.output, by rw [l.size]; exact hg.size, fun k f => ?_⟩
   rw [l.size] at f
   by_cases e : k = r
   . subst e; rw [q, World.putObj_heap_same h]
   rw [hg.block k f (by simpa using e)]; exact (l.block k e).symm
open Go.Shelf
attribute [local go_sem] Oper.semAt_some
def iQ : Nat -> List Bs -> List (Nat × Bs)
 | _, [] => []
 | k, x :: r => (k, x) :: iQ (k + x.length + 1) r
abbrev Wd := { x : Nat × Bs // x.1 <= 4000 /\ x.2.length <= 4000 }
def wdE (x : Wd) : Array Value := #[.int .i64 ↑x.1.1, .string (bs x.1.2)]
def kK (l : List Wd) : List (Nat × Bs) := l.map (·.1)
theorem LC (l : List Wd) (x : Wd) : kK (l ++ [x]) = kK l ++ [x.1] := by unfold kK; rw [List.map_append]; rfl
theorem MB (l : List Wd) : (kK l).length = l.length := List.length_map _
def keepB (sb : Nat) (W W' : World) : Prop := ∀ k, k < 2 ∨ k = sb -> W'.heap[k]? = W.heap[k]?
theorem Glob.blocks (h : Glob w) (h0 : w'.heap[0]? = w.heap[0]?) (h1 : w'.heap[1]? = w.heap[1]?) : Glob w' := by
 refine ⟨?_, ?_⟩
 . have f := h.pow
   unfold Lib.TabIs World.var? at *
   rw [aP] at *
   simp only [Option.bind_some] at *
   rw [h1]; exact f
 obtain ⟨m, e⟩ := h.max
 exact ⟨m, (World.cell?_of_block h0).trans e⟩
theorem Glob.keepB (h : Glob w) (hk : keepB sb w w') : Glob w' := h.blocks (hk 0 (.inl AE)) (hk 1 (.inl AE))
theorem Glob.below (h : Glob w) (hb : Below w.heap.size w w') : Glob w' := h.blocks (hb.block 0 (Nat.lt_of_lt_of_le AE h.two)) (hb.block 1 (Nat.lt_of_lt_of_le AE h.two))
theorem Sz (s : Bs) (w : World) : Calls prog 40 #[.string (bs s)] w fun e w' => e = .returned (.func (.func 85) #[] #[.pointer (some ⟨w.heap.size, 0, none⟩)]) /\ w' = w.alloc (.cells #[.string (bs s)] 9) := by
 go_enter func40, ntmps40
 go_wp2
 go_ret
 exact ⟨rfl, rfl⟩
set_option maxRecDepth 100000 in
set_option maxHeartbeats 400000 in
theorem G1 (n : Nat) (hn : 1 <= n) (l sb : Nat) (s : Bs) (hs : s.length <= 4000) (J Jx : List Wd -> World -> Prop) (W : World) (hJ : AbidesFrom W.heap.size J) (_hJx : AbidesFrom W.heap.size Jx)
 (hY : ∀ pre x W, J pre W -> pre.length < (iQ 0 (DI 32 s)).length -> YieldAt Fence.wide (n - 1) prog l (wdE x) W fun e W' =>
   (e = .returned (.bool true) /\ J (pre ++ [x]) W' /\ keepB sb W W') ∨ (e = .returned (.bool false) /\ Jx (pre ++ [x]) W'))
 (hB : Bx W sb 9 [.string (bs s)]) (hG : Glob W) (h0 : J [] W) :
 CallsIn Fence.wide n prog 85 #[.func (.yield l) #[] #[], .pointer (some ⟨sb, 0, none⟩)] W fun e W' => (∃ v, e = .returned v) /\
  ((∃ ys, kK ys = iQ 0 (DI 32 s) /\ J ys W') ∨ (∃ pre, kK pre <+: iQ 0 (DI 32 s) /\ Jx pre W')) := by
 refine callsIn_of_wp func85 O trivial ?_ O
 simp only [ntmps85, List.size_toArray, List.length_cons, List.length_nil, Nat.reduceAdd, Nat.reduceSub, Array.replicate_succ, Array.replicate_zero, List.push_toArray, List.append_toArray, List.nil_append, List.cons_append]
 gi_wp2
 gi_loopw [3] (fun i wr => ∃ (k : Nat) (pre : List Wd), k <= s.length /\ i = .int .i64 ↑k /\ iQ 0 (DI 32 s) = kK pre ++ iQ k (DI 32 (s.drop k)) /\ J pre wr /\ Bx wr sb 9 [.string (bs s)] /\ Glob wr)
  (fun i _ => s.length + 1 - (intOf i).toNat)
 case atStart => exact ⟨0, [], Nat.zero_le _, rfl, by simp [kK], h0, hB, hG⟩
 case round =>
  obtain ⟨k, pre, hk, rfl, hpre, hJs, hBw, hGw⟩ := hrel
  have hc : wr.cell? ⟨sb, 0, none⟩ = some (.string (bs s)) := by rw [hBw.cell]; rfl
  have hex : (bs s).extract k (bs s).size = bs (s.drop k) := by rw [tA, ES, List.take_of_length_le (Nat.le_refl _)]
  have hln : (s.drop k).length <= 1000000 := by rw [List.length_drop]; omega
  cases hcut : KY 32 (s.drop k) with
  | none =>
    have hcall := eN (s.drop k) 32 wr hln hGw hcut
    have hspl : DI 32 (s.drop k) = [s.drop k] := PO 32 (cutB_none.1 hcut)
    rw [hspl] at hpre
    gi_wp2
    refine ⟨BX, (callsIn_wide.2 hcall).mono ?_⟩
    rintro e w1 ⟨rfl, hb1⟩
    have hJ1 : J pre w1 := hJ pre wr w1 none hJs ⟨hb1.os, hb1.tape, hb1.output, hb1.size, fun j hj _ => hb1.block j hj⟩ (fun r e => by cases e)
    have hB1 : Bx w1 sb 9 [.string (bs s)] := hBw.below hb1
    obtain ⟨fn, tmps, assign, body, hy, hR⟩ := hY pre ⟨(k, s.drop k), by simp only; omega, by simp only [List.length_drop]; omega⟩ w1 hJ1 (by rw [hpre]; simp [iQ, MB])
    dsimp only [wdE] at hy
    gi_wp2
    refine hR.mono ?_
    rintro e W3 (⟨rfl, hJ3, hk3⟩ | ⟨rfl, hJx3⟩)
    . gi_wp2
      refine AQ (results_none O _ _ _) O ?_
      exact ⟨⟨_, rfl⟩, .inl ⟨_, by rw [hpre, LC]; rfl, hJ3⟩⟩
    gi_wp2
    refine AQ (results_none O _ _ _) O ?_
    exact ⟨⟨_, rfl⟩, .inr ⟨_, ⟨[], by rw [hpre, LC]; simp [iQ]⟩, hJx3⟩⟩
  | some p =>
    obtain ⟨x, y⟩ := p
    obtain ⟨hxy, hx32⟩ := cutB_some.1 hcut
    have hcall := eM (s.drop k) 32 x y wr hln hGw hcut
    have hspl : DI 32 (s.drop k) = x :: DI 32 y := by rw [hxy, YL 32 hx32]
    have hdl : (s.drop k).length = x.length + 1 + y.length := by rw [hxy]; simp; omega
    rw [List.length_drop] at hdl
    have hy2 : y = s.drop (k + x.length + 1) := by
     have h1 : s.drop (k + (x.length + 1)) = (s.drop k).drop (x.length + 1) := by rw [List.drop_drop]
     rw [Nat.add_assoc, h1, hxy, show x ++ 32 :: y = (x ++ [32]) ++ y by simp, show x.length + 1 = (x ++ [(32 : UInt8)]).length by simp, List.drop_left]
    rw [hspl] at hpre
    have HY2 := Lib.hid hy2
    clear hy2 hxy hspl hcut
    gi_wp2
    refine ⟨BX, (callsIn_wide.2 hcall).mono ?_⟩
    rintro e w1 ⟨rfl, hb1⟩
    have hJ1 : J pre w1 := hJ pre wr w1 none hJs ⟨hb1.os, hb1.tape, hb1.output, hb1.size, fun j hj _ => hb1.block j hj⟩ (fun r e => by cases e)
    have hB1 : Bx w1 sb 9 [.string (bs s)] := hBw.below hb1
    obtain ⟨fn, tmps, assign, body, hy, hR⟩ := hY pre ⟨(k, x), by simp only; omega, by simp only; omega⟩ w1 hJ1 (by rw [hpre]; simp [iQ, MB])
    dsimp only [wdE] at hy
    gi_wp2
    refine hR.mono ?_
    have hbx : (bs x).size = x.length := ES x
    have hw1 : IntKind.i64.wrap (((x.length : Nat) : Int) + 1) = ((x.length + 1 : Nat) : Int) := NC AA AA
    have hw2 : IntKind.i64.wrap (((k : Nat) : Int) + ((x.length + 1 : Nat) : Int)) = ((k + x.length + 1 : Nat) : Int) := NC AA AA
    rintro e W3 (⟨rfl, hJ3, hk3⟩ | ⟨rfl, hJx3⟩)
    . have hB3 : Bx W3 sb 9 [.string (bs s)] := by unfold Bx; rw [hk3 sb (.inr rfl)]; exact hB1
      gi_wp2
      have h2 : y = s.drop (k + x.length + 1) := HY2
      refine ⟨⟨k + x.length + 1, pre ++ [⟨(k, x), _⟩], by omega, O, ?_, hJ3, hB3, (hGw.below hb1).keepB hk3⟩, by simp only [intOf]; omega⟩
      rw [hpre, LC, <- h2]; simp [iQ]
    gi_wp2
    refine AQ (results_none O _ _ _) O ?_
    exact ⟨⟨_, rfl⟩, .inr ⟨_, ⟨iQ (k + x.length + 1) (DI 32 y), by rw [hpre, LC]; simp [iQ]⟩, hJx3⟩⟩
theorem wC (sb : Nat) (s : Bs) (hs : s.length <= 4000) (n : Nat) (hn : 1 <= n) (w : World) (hB : Bx w sb 9 [.string (bs s)]) (hG : Glob w) :
 SeqStopsK Fence.wide n prog 85 #[.pointer (some ⟨sb, 0, none⟩)] wdE (keepB sb) (fun xs => kK xs = iQ 0 (DI 32 s)) (fun pre => kK pre <+: iQ 0 (DI 32 s)) (iQ 0 (DI 32 s)).length w := by
 intro l J p W f k e h o
 exact G1 n hn l sb s hs J p W k e h (hB.below f) (hG.below f) o
theorem Vh {A B C : World} (h : keepB sb A B) (g : keepB sb B C) : keepB sb A C := fun k hk => (g k hk).trans (h k hk)
theorem Vi (h : sb < w.heap.size) (h2 : 2 <= w.heap.size) (W : World) (l : Nat) (o o' : Obj) (hl : w.heap.size <= l) (_ : W.heap[l]? = some o) (_ : o.isCells = false) (_ : o.isWalk = false) : keepB sb W (W.putObj l o') :=
 fun _ hk => World.putObj_heap_other AA
abbrev cF := Bool × List Tm
def HJ (l : List Bs) (i : Nat) (st : cF) (w : Bs) : Option cF :=
 if i % 2 = 1 then (if w = [43] ∨ w = [45] then some (decide (w = [45]), st.2) else none)
 else match cO l (QR i st.1 w).1 with
  | none => none
  | some (c, m) => if i ≠ 0 /\ 0 <= FR m (oG st.2) then none else some (false, st.2 ++ [(Iz (QR i st.1 w).2 c, m)])
def kN (l : List Bs) : Nat -> cF -> List Bs -> Option cF
 | _, st, [] => some st
 | i, st, w :: ws => match HJ l i st w with
   | none => none
   | some st' => kN l (i + 1) st' ws
theorem SD {l : List Bs} : ∀ {ws : List Bs} {i : Nat} {st st' : cF} {w : Bs}, kN l i st ws = some st' -> kN l i st (ws ++ [w]) = HJ l (i + ws.length) st' w
 | [], i, st, st', w, h => by
   simp only [kN, Option.some.injEq] at h
   subst h
   simp only [List.nil_append, kN, List.length_nil, Nat.add_zero]
   cases HJ l i st w <;> rfl
 | x :: ws, i, st, st', w, h => by
   simp only [kN] at h
   simp only [List.cons_append, kN]
   cases hx : HJ l i st x with
   | none => rw [hx] at h; cases h
   | some st2 =>
     rw [hx] at h
     simp only at h ⊢
     rw [SD h, List.length_cons]
     congr 1; omega
theorem Vp {l : List Bs} {p : List Tm} {w : Bs} {ws : List Bs} {st : cF} (h : HJ l i (neg, p) w = some st) : SC l (w :: ws) i at_ neg p = SC l ws (i + 1) (at_ + w.length + 1) st.1 st.2 := by
 unfold HJ at h
 rw [SC]
 by_cases k : i % 2 = 1
 . rw [if_pos k] at h ⊢
   by_cases e : w = [43] ∨ w = [45]
   . rw [if_pos e] at h ⊢
     simp only [Option.some.injEq] at h; subst h; rfl
   rw [if_neg e] at h; cases h
 rw [if_neg k] at h ⊢
 cases f : cO l (QR i neg w).1 with
 | none => simp [f] at h
 | some t =>
   obtain ⟨c, m⟩ := t
   simp only [f] at h ⊢
   split at h
   . cases h
   rename_i hc
   rw [if_neg hc]
   simp only [Option.some.injEq] at h; subst h; rfl
theorem Gi {l : List Bs} {p : List Tm} {w : Bs} {ws : List Bs} (h : HJ l i (neg, p) w = none) : SC l (w :: ws) i at_ neg p = ([], at_, 440) := by
 unfold HJ at h
 rw [SC]
 by_cases f : i % 2 = 1
 . rw [if_pos f] at h ⊢
   by_cases e : w = [43] ∨ w = [45]
   . rw [if_pos e] at h; cases h
   rw [if_neg e]
 rw [if_neg f] at h ⊢
 cases k : cO l (QR i neg w).1 with
 | none => simp
 | some t =>
   obtain ⟨c, m⟩ := t
   simp only [k] at h ⊢
   split at h
   . rename_i hc; rw [if_pos hc]
   cases h
def XW (k : Nat) (ws : List Bs) : Nat := k + (ws.map fun w => w.length + 1).sum
theorem uV {l : List Bs} : ∀ {ws rest : List Bs} {i at_ : Nat} {neg : Bool} {p : List Tm} {st : cF}, kN l i (neg, p) ws = some st -> SC l (ws ++ rest) i at_ neg p = SC l rest (i + ws.length) (XW at_ ws) st.1 st.2
 | [], rest, i, at_, neg, p, st, h => by
   simp only [kN, Option.some.injEq] at h
   subst h
   simp [XW]
 | w :: ws, rest, i, at_, neg, p, st, h => by
   simp only [kN] at h
   cases hx : HJ l i (neg, p) w with
   | none => rw [hx] at h; cases h
   | some st2 =>
     rw [hx] at h
     simp only [List.cons_append]
     rw [Vp hx, uV (neg := st2.1) (p := st2.2) h]
     congr 1
     . simp only [List.length_cons]; omega
     simp only [XW, List.map_cons, List.sum_cons]; omega
theorem lH : ∀ (k : Nat) (ws : List Bs), (iQ k ws).map (·.2) = ws
 | _, [] => rfl
 | k, w :: ws => by simp only [iQ, List.map_cons]; rw [lH]
theorem Ie {k : Nat} {ws : List Bs} {a : List (Nat × Bs)} {x : Nat × Bs} {r : List (Nat × Bs)} (h : a ++ x :: r = iQ k ws) : ws = a.map (·.2) ++ x.2 :: r.map (·.2) /\ x.1 = XW k (a.map (·.2)) := by
 induction a generalizing k ws with
 | nil =>
   cases ws with
   | nil => simp [iQ] at h
   | cons w ws =>
     simp only [List.nil_append, iQ, List.cons.injEq] at h
     obtain ⟨rfl, rfl⟩ := h
     simp [lH, XW]
 | cons y a ih =>
   cases ws with
   | nil => simp [iQ] at h
   | cons w ws =>
     simp only [List.cons_append, iQ, List.cons.injEq] at h
     obtain ⟨rfl, h⟩ := h
     obtain ⟨f, e⟩ := ih h
     refine ⟨by simp only [List.map_cons, List.cons_append]; rw [<- f], ?_⟩
     rw [e]; simp only [XW, List.map_cons, List.sum_cons]; omega
theorem Gw (b : UInt8) (s : Bs) : XW 0 (DI b s) = s.length + 1 := by
 unfold XW
 rw [Db b (PN b s), oH]; omega
section
variable {l : List Bs} {s : Bs}
theorem iW (h1 : DM 8 l = true) (h2 : ¬ 4000 < s.length) (h3 : s ≠ [48]) : EE l s = SC l (DI 32 s) 0 0 false [] := by
 unfold EE
 rw [if_neg (by rw [h1]; decide), if_neg h2, if_neg h3]
theorem Ob (h1 : DM 8 l = true) (h2 : ¬ 4000 < s.length) (h3 : s ≠ [48]) {a r : List (Nat × Bs)} {x : Nat × Bs} {st : cF} (hw : a ++ x :: r = iQ 0 (DI 32 s)) (hf : kN l 0 (false, []) (a.map (·.2)) = some st) (hx : HJ l a.length st x.2 = none) : EE l s = ([], x.1, 440) := by
 obtain ⟨e1, e2⟩ := Ie hw
 rw [iW h1 h2 h3, e1, uV hf, e2, List.length_map, Nat.zero_add]
 exact Gi hx
theorem nP (h1 : DM 8 l = true) (h2 : ¬ 4000 < s.length) (h3 : s ≠ [48]) {a : List (Nat × Bs)} {st : cF} (hw : a = iQ 0 (DI 32 s)) (hf : kN l 0 (false, []) (a.map (·.2)) = some st) : EE l s = if a.length % 2 = 0 then ([], s.length + 1, 440) else (st.2, 0, 0) := by
 have e : a.map (·.2) = DI 32 s := by rw [hw, lH]
 have := uV (rest := []) (at_ := 0) hf
 rw [List.append_nil] at this
 rw [iW h1 h2 h3, <- e, this, e, Gw]
 have f : (DI 32 s).length = a.length := by rw [<- e, List.length_map]
 simp only [SC, Nat.zero_add, f]
end
theorem Rl {L : List Bs} (hn : n <= 4000) (h : ∀ x ∈ L, x.length <= n) : FitQ (MS L).1 4000 := by
 have e : FitQ 1 4000 := ⟨(NB (m := 4) AE : Fits 1 4).mono AE, (NB (m := 4) AE : Fits 1 4).mono AE⟩
 cases L with
 | nil => exact e
 | cons a r =>
   unfold MS
   simp only
   cases f : OZ a with
   | none => exact e
   | some c => exact dL (Nat.le_trans (h a AH) hn) f
theorem VT {l : List Bs} {w : Bs} (hw : w.length <= 4000) (h : cO l w = some (c, m)) : FitQ c 4000 := by
 unfold cO at h
 have f := Rl hw (fun x (hx : x ∈ DI 42 w) => NV hx)
 cases e : GX l (MS (DI 42 w)).2 zeroM with
 | none => simp [e] at h
 | some m' =>
   simp only [e] at h
   split at h
   . simp only [Option.some.injEq, Prod.mk.injEq] at h
     rw [<- h.1]; exact f
   cases h
theorem Ri {w : Bs} : (QR i neg w).1.length <= w.length := by
 unfold QR
 split
 . split
   . simp
   exact Nat.le_refl _
 exact Nat.le_refl _
section
variable {P : Program} {Q : Exit -> Act -> World -> Prop} {ops : Array Oper}
theorem jL (hr : (results fn a.tmps).run P w = .ok v w) (hd : a.defers = []) (hR : R (.returned v) w) : bodyPostM Fence.wide n P fn R .ret a w := by
 show LeavesInM Fence.wide n P fn a.tmps R a.defers .returning w
 rw [hd]
 exact ⟨v, hr, hR⟩
theorem dZ {D : Nat} (hk : w.heap[D]? = some (.deferred (some []))) (hd : a.defers = [{ target := .collected D, args := #[] }])
 (hr : (results fn a.tmps).run P (w.putObj D (.deferred none)) = .ok v (w.putObj D (.deferred none))) (hR : R (.returned v) (w.putObj D (.deferred none))) : bodyPostM Fence.wide n P fn R .ret a w := by
 show LeavesInM Fence.wide n P fn a.tmps R a.defers .returning w
 rw [hd]
 exact ⟨by simp, .inl ⟨D, _, rfl, run_takeDeferred hk, v, hr, hR⟩⟩
def Qd (ds : List Deferred) (Q : Exit -> Act -> World -> Prop) : Exit -> Act -> World -> Prop := fun e a w => Q e ⟨a.tmps, a.defers ++ ds⟩ w
theorem Ut {ds : List Deferred} {a : Act} {w : World} {K' : Act -> World -> Prop} (hK : ∀ a w, K' a w -> K ⟨a.tmps, a.defers ++ ds⟩ w) (h : o.wp P a w K' (Qd ds Q)) : o.wp P ⟨a.tmps, a.defers ++ ds⟩ w K Q := by
 have l : ∀ (d : Option Nat) (v : Value) (x : Act), (⟨x.tmps, x.defers ++ ds⟩ : Act).put d v = ⟨(x.put d v).tmps, (x.put d v).defers ++ ds⟩ := fun d v x => by cases d <;> rfl
 unfold Oper.wp Oper.upon at *
 have q : (⟨a.tmps, a.defers ++ ds⟩ : Act).eval = a.eval := by funext x; cases x <;> rfl
 rw [q]
 revert h
 generalize (execOp a.eval o).run P w = res
 intro h
 cases res with
 | ok nx w' =>
   cases nx with
   | value v => simp only at h ⊢; rw [l]; exact hK _ _ h
   | skip => simp only at h ⊢; rw [l]; exact hK _ _ h
   | defer d =>
     simp only at h ⊢
     have := l o.dst undef { a with defers := d :: a.defers }
     rw [show ({ tmps := a.tmps, defers := d :: (a.defers ++ ds) } : Act) = ⟨({ a with defers := d :: a.defers } : Act).tmps, ({ a with defers := d :: a.defers } : Act).defers ++ ds⟩ from rfl, this]
     exact hK _ _ h
   | enter f args =>
     refine Calls.mono h ?_
     intro e p k
     cases e with
     | returned v => simp only at k ⊢; rw [l]; exact hK _ _ k
     | panicked c => exact k
     | outgrown => obtain ⟨x, y, g⟩ := k; exact ⟨_, y, g⟩
   | row row args =>
     refine Rows.mono h ?_
     intro v p k
     rw [l]; exact hK _ _ k
   | _ => exact h
 | halt s w' => cases s <;> exact h
theorem uP {ds : List Deferred} : ∀ {l : List Oper} {a : Act} {w : World}, wpList P ops (Qd ds Q) l a w -> wpList P ops Q l ⟨a.tmps, a.defers ++ ds⟩ w
 | [], _, _, h => h
 | o :: l, a, w, h => by
   unfold wpList at h ⊢
   split at h
   . rename_i hw
     rw [if_pos hw]
     rcases h with h | ⟨h1, x, y, h2⟩
     . exact .inl (Ut (fun a w g => uP g) h)
     exact .inr ⟨by
      have he : (⟨a.tmps, a.defers ++ ds⟩ : Act).eval = a.eval := by funext x; cases x <;> rfl
      unfold Oper.asks at *; rw [he]; exact h1, _, y, h2⟩
   rename_i hw
   rw [if_neg hw]
   have := uP h
   cases hd : o.dst <;> (rw [hd] at this; exact this)
theorem RLd {ds : List Deferred} (h : WL P ops (Qd ds Q) ops.toList l w) : (Code.region id ops false).wp P Q ⟨l.toArray, ds⟩ w := AR (uP h.out)
end
end Go.Proofs.YtmppigbbkjepiaaGreatDoor
