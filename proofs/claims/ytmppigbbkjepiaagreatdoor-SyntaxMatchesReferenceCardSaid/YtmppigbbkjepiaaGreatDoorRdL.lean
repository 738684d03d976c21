/- Helping facts of Read2; no other conditions. Helping facts of KitS; no other conditions. Helping facts of Iter; no other conditions. Helping facts of RdL; no other conditions. -/
import Derived.Test.YtmppigbbkjepiaaGreatDoorRead1
import Derived.RangeFuncNested
import Derived.RangeFuncBound
import Derived.RangeFuncCalls
import Derived.RangeFuncLeaves
import Derived.Shelf.Abstract
import Derived.Shelf.RegionOpen
import Derived.OwnWalkIn
import Derived.TacticsInMore
import Derived.LoopNIn
import Derived.LoopIn
import Derived.OrdersIn
namespace Go.Proofs.YtmppigbbkjepiaaGreatDoor
open Go.Proofs.Tryz
open Go.RowKit W
variable {K : Act -> World -> Prop} {L : List SF} {R : Ending -> World -> Prop} {W w w' w0 : World} {a : Act} {at_ i id n sb : Nat} {c : Rat} {fn : Func} {l : List Value} {m mm : List Nat} {neg : Bool} {o : Oper} {p : Prop} {v : Value}
theorem Y8y (h : p := by first | exact (List.getElem?_eq_some_iff.1 D).1 | exact hi) : p := h
theorem YlM (h : p := by first | exact (List.getElem?_eq_some_iff.1 F).1 | exact hi) : p := h
theorem Yrz (h : p := by first | exact (List.getElem?_eq_some_iff.1 X).1 | exact hi) : p := h
theorem Ynk (h : p := by first | rfl | exact CM DH) : p := h
theorem Y8z (h : p := by simp [results, results42, asAddr, r1]) : p := h
theorem Zb6 (h : p := by
 cases L with
 | nil => cases h
 | cons y r => simp at h; subst h; unfold IN; simp only [hp]; rfl
 ) : p := h
theorem ZW {b : UInt8} : ∀ {s x : Bs}, x ∈ FG b s -> x.length <= s.length
 | [], x, h => by simp [FG] at h; subst h; simp
 | c :: s, x, h => by
   simp only [FG] at h
   have ih := fun y (hy : y ∈ FG b s) => ZW (b := b) (s := s) hy
   split at h
   . rcases List.mem_cons.1 h with rfl | h
     . simp
     have := ih x h; simp only [List.length_cons]; omega
   cases hs : FG b s with
   | nil => exact absurd hs (SR b s)
   | cons y r =>
     rw [hs] at h ih
     rcases List.mem_cons.1 h with rfl | h
     . have := ih y AH; simp only [List.length_cons]; omega
     have := ih x (by simp [h]); simp only [List.length_cons]; omega
theorem Sm (b : UInt8) (s : Bs) : 0 < (FG b s).length := by rw [VV]; omega
theorem XZ (b : UInt8) (s : Bs) : (FG b s).length <= s.length + 1 := by
 rw [VV]; have := List.count_le_length (a := b) (l := s); omega
theorem Jv {L : List Bs} {x : Bs} (h : L[0]? = some x) (hp : ML x = some c) : IN L = (c, L.drop 1) := by
 exact Zb6
theorem Jw {L : List Bs} {x : Bs} (h : L[0]? = some x) (hp : ML x = none) : IN L = (((1 : Int) : Rat), L) := by
 exact Zb6
theorem wN {l : List Bs} {s : Bs} {ws : List Bs} (h : IN (FG 42 s) = (c, ws)) (h2 : GG l ws zeroM = none) : bL l s = none := by unfold bL; rw [h]; simp only [h2]
theorem dL {l : List Bs} {s : Bs} {ws : List Bs} (h : IN (FG 42 s) = (c, ws)) (h2 : GG l ws zeroM = some mm) (h3 : ¬ (0 < c /\ ET l c mm = s)) : bL l s = none := by unfold bL; rw [h]; simp only [h2]; rw [if_neg h3]
theorem Eg {l : List Bs} {s : Bs} {ws : List Bs} (h : IN (FG 42 s) = (c, ws)) (h2 : GG l ws zeroM = some mm) (h3 : 0 < c) (h4 : ET l c mm = s) : bL l s = some (c, mm) := by unfold bL; rw [h]; simp only [h2]; rw [if_pos ⟨h3, h4⟩]
theorem bM {l : List Bs} : ∀ {a b : List Bs} {m : List Nat}, GG l (a ++ b) m = (GG l a m).bind (GG l b)
 | [], b, m => rfl
 | x :: a, b, m => by
   simp only [List.cons_append, GG]
   cases QS l x with
   | none => rfl
   | some p => obtain ⟨v, n⟩ := p; exact bM
theorem iX {l ws : List Bs} {x : Bs} {v : Nat} (h : GG l (ws.take i) zeroM = some m) (hx : ws[i]? = some x) (hf : QS l x = some (v, n)) : GG l (ws.take (i + 1)) zeroM = some (m.set v n) := by
 rw [JG hx, bM, h]
 simp [GG, hf]
theorem mP {l ws : List Bs} {x : Bs} (h : GG l (ws.take i) zeroM = some m) (hx : ws[i]? = some x) (hf : QS l x = none) : GG l ws zeroM = none := by
 have f := (List.getElem?_eq_some_iff.1 hx)
 have e : ws = ws.take i ++ x :: ws.drop (i + 1) := by
  rw [<- f.2, <- List.drop_eq_getElem_cons, List.take_append_drop]
 rw [e, bM, h]
 simp [GG, hf]
theorem YK (s : Bs) (vl : Value) (l : List Bs) (v n : Nat) (w : World) (h : IsR elS (CX w.heap.size) w vl l) (hs : s.length <= 1000000) (hG : Glob w) (hf : QS l s = some (v, n)) :
 Calls prog 90 #[.string (bs s), vl] w (FI w (.tuple #[.int .i64 ↑v, .int .i64 ↑n, .bool true])) := by
 have := dJ s vl l w h hs hG
 rwa [Px hf] at this
theorem aT (s : Bs) (vl : Value) (l : List Bs) (v n : Nat) (w : World) (h : IsR elS (CX w.heap.size) w vl l) (hs : s.length <= 1000000) (hG : Glob w) (hf : eY l s = (v, n, false)) :
 Calls prog 90 #[.string (bs s), vl] w (FI w (.tuple #[.int .i64 ↑v, .int .i64 ↑n, .bool false])) := by
 have := dJ s vl l w h hs hG
 rwa [hf] at this
def Rc (w0 : World) (o : Option Tm) (e : Ending) (w' : World) : Prop := match o with
 | none => e = .returned (.tuple #[.agg (IJ false (.slice none 0 0) false (.slice none 0 0) zeroM).toArray, .bool false]) /\ Below w0.heap.size w0 w'
 | some t => ∃ n s m u, e = .returned (.tuple #[.agg (IJ n s m u t.2).toArray, .bool true]) /\ IsI w' (.agg #[.bool n, s]) t.1.num /\ IsI w' (.agg #[.bool m, u]) ((t.1.den : Nat) : Int) /\ Below w0.heap.size w0 w'
theorem qM {o : Option Tm} (h : o = none) (hb : Below w0.heap.size w0 w') : Rc w0 o (.returned (.tuple #[.agg (IJ false (.slice none 0 0) false (.slice none 0 0) zeroM).toArray, .bool false])) w' := by subst h; exact ⟨rfl, hb⟩
theorem Mx {o : Option Tm} {n : Bool} {s : Value} {m : Bool} {u : Value} (h : o = some (c, mm)) (h1 : IsI w' (.agg #[.bool n, s]) c.num) (h2 : IsI w' (.agg #[.bool m, u]) ((c.den : Nat) : Int)) (hb : Below w0.heap.size w0 w') : Rc w0 o (.returned (.tuple #[.agg (IJ n s m u mm).toArray, .bool true])) w' := by subst h; exact ⟨n, s, m, u, rfl, h1, h2, hb⟩
theorem kU (h : 0 < c) : decide (OP c.num <= 0) = false := by
 have e : ¬ c.num <= 0 := by
  intro g
  rcases Int.lt_or_eq_of_le g with g | g
  . exact absurd (rat_neg.2 g) (tF h)
  have : c = 0 := Rat.num_eq_zero.1 g
  rw [this] at h; exact absurd h AE
 exact vR AA
theorem wS (h : ¬ 0 < c) : decide (OP c.num <= 0) = true := by
 have k : c.num <= 0 := by
  by_cases g : 0 < c.num
  . exfalso
    have f : 0 <= c := Rat.num_nonneg.1 AA
    rcases Rat.le_iff_lt_or_eq.1 f with e | e
    . exact h e
    rw [<- e] at g; exact absurd g AE
  omega
 exact Ea k
set_option maxRecDepth 100000 in
set_option maxHeartbeats 8000000 in
theorem QA (s : Bs) (vl : Value) (l : List Bs) (w : World) (hRl : IsR elS (CX w.heap.size) w vl l) (hs : s.length <= 4000) (hV : DL 8 l = true) (hG : Glob w) :
 Calls prog 42 #[.string (bs s), vl] w (Rc w (bL l s)) := by
 have E := Env.start w
 obtain ⟨a2, L, rfl, ef, ed⟩ := hRl.shp
 replace E := E.r hRl (DF _)
 have ee := GR hV
 have eh := hG.two
 replace E := E.gl hG
 go_enter func42, ntmps42
 refine yG ?_
 refine EF O (CB KL O ?_)
 intro b1 w1 cm z1 d1 q
 have l1 : w.heap.size <= b1 := by rw [cm]; exact E.2.2.1.size
 replace E := E.below d1
 have bo : b1 < w1.heap.size := Bx.lt (q)
 refine yG ?_
 refine EF O (CZ VF O (Gr s 42 _ AA E.1.1) O E ?_)
 intro R v2 d2 f2 E
 replace q := q.below d2
 replace E := E.sz (Nat.le_refl R.heap.size)
 obtain ⟨C, h, rfl, cr, _⟩ := f2.shp
 replace E := E.r (e := elS) (S := EY w1.heap.size R.heap.size) f2 (fun _ g => g.2)
 refine yG ?_
 refine EF O (CV PD O (uM 1 _ AE AE) O E ?_)
 intro w4 n4 s4 m4 Y d4 E
 replace q := q.below d4
 have F3 : FitQ ((1 : Int) : Rat) 4 := IA (k := 4) AE (DY AE AE)
 refine yG ?_
 refine V (v := .agg (IJ n4 s4 m4 Y zeroM).toArray) O O (iU O O) ?_
 refine yG ?_
 refine EF O (CB KL O ?_)
 intro b5 w5 bl z5 d5 x5
 have cq : b1 < b5 := by rw [bl]; exact Bx.lt (q)
 have ce : R.heap.size <= b5 := by rw [bl]; exact CR (e3 E)
 replace E := E.below d5
 replace q := Bx.below q d5
 refine yG ?_
 refine EF O (BY KL O O O x5 Ynk (CM DH) (GM (M := zeroM) (IsI.one E.2.1) (IsI.one E.1)) ?_)
 intro w6 o6 y6
 replace E := oY E x5 o6 y6 (ds := (IJ n4 s4 m4 Y zeroM))
 replace q := Bx.onl q AA o6
 have cg := Sm 42 s
 have b6 := XZ 42 s
 obtain ⟨x7, X⟩ : ∃ x, (FG 42 s)[0]? = some x := ⟨_, List.getElem?_eq_getElem cg⟩
 obtain ⟨N, a3, _, bi, bj, ck, ch⟩ := IsR.at (e3 E).1 X
 obtain rfl := (show _ = [Value.string (bs x7)] from ch)
 have cj : N < _ := (e3 E).2 _ bj
 replace E := E.c ck cj
 have eg : w1.heap.size <= N /\ N < R.heap.size := bj
 have ec := ZW (List.mem_of_getElem? X)
 by_cases hq : ML x7 = none
 case pos =>
  refine yG ?_
  refine fY (j := 0) O O bi O Yrz ?_
  refine yG ?_
  refine EF O (ZM UF O (zF x7 _ AA hq) O E ?_)
  intro w8 n8 s8 m8 t8 d8 E
  replace q := q.below d8
  refine yG ?_
  refine EF O (CB GP O ?_)
  intro b9 w9 bk z9 d9 x9
  have cp : b5 < b9 := by rw [bk]; exact Bx.lt (e3 E)
  have cd : R.heap.size <= b9 := by rw [bk]; exact CR (e7 E)
  replace E := E.below d9
  replace q := Bx.below q d9
  refine yG ?_
  refine EF O (BY GP O O O x9 O O (LR (IsI.one E.2.1) (IsI.one E.1)) ?_)
  intro dz b3 c2
  replace E := oY E x9 b3 c2
  replace q := Bx.onl q AA b3
  have I := Jw X hq
  have ci : (FG 42 s).length <= s.length + 1 := by first | exact b6 | (rw [List.length_drop]; omega)
  have ah : (FG 42 s).length = (FG 42 s).length := rfl
  replace E := E.x q
  refine yG ?_
  refine wp_loop_ghost (fun mz a w' => ∃ (i : Nat) (p : List Nat) (J : List Value), J = a.tmps.toList /\ a = ⟨(.string (bs s) :: .slice a2 l.length L :: undef :: undef :: .pointer (some ⟨b1, 0, none⟩) :: (CF J 5) :: .slice C ((FG 42 s).length) h :: .pointer (some ⟨b5, 0, none⟩) :: .pointer (some ⟨b9, 0, none⟩) :: .int .i64 3 :: gr J 10 4 (.string (bs s) :: .slice C ((FG 42 s).length) h :: .agg #[.bool n4, s4, .bool m4, Y] :: .agg (IJ n4 s4 m4 Y zeroM).toArray :: .tuple #[.agg #[.bool n8, s8, .bool m8, t8], .int .i64 3] :: .slice C ((FG 42 s).length) h :: .pointer (some ⟨N, a3 + 0 * 1, none⟩) :: .string (bs x7) :: .tuple #[.agg #[.bool n8, s8, .bool m8, t8], .int .i64 3] :: .agg #[.bool n8, s8, .bool m8, t8] :: .int .i64 3 :: .int .i64 3 :: .bool false :: undef :: undef :: undef :: undef :: .slice C ((FG 42 s).length) h :: .int .i64 ↑((FG 42 s).length) :: .int .i64 ↑i :: gr J 34 20 (undef :: undef :: undef :: undef :: undef :: undef :: undef :: undef :: undef :: undef :: undef :: undef :: undef :: []))).toArray, []⟩ /\ Env w' [fX b5 (88) (IJ n4 s4 m4 Y p), fX b1 (88) (IJ false (.slice none 0 0) false (.slice none 0 0) zeroM), fX b9 (64) ([.bool n8, s8, .bool m8, t8]), fI (.agg #[.bool m8, t8]) 0, fI (.agg #[.bool n8, s8]) 0, fC N (a3 + 0 * 1) [.string (bs x7)], fI (.agg #[.bool m4, Y]) ((((1 : Int) : Rat).den : Nat) : Int), fI (.agg #[.bool n4, s4]) (((1 : Int) : Rat).num), fR elS (EY w1.heap.size R.heap.size) (.slice C ((FG 42 s).length) h) (FG 42 s), rO R.heap.size, fGl, fR elS (CX w.heap.size) (.slice a2 l.length L) l, fW w] /\ mz = ((FG 42 s).length) - i /\ (i <= (FG 42 s).length /\ GG l ((FG 42 s).take i) zeroM = some p /\ EG p)) (((FG 42 s).length)) ⟨0, zeroM, _, O, O, zE, O, ⟨Nat.zero_le _, by simp [GG], DH⟩⟩ ?_
  rintro eb _ dy ⟨i, p, J, -, rfl, E, bb, ac⟩
  dsimp only [gr, Nat.reduceAdd]
  obtain ⟨ac, o⟩ := ac
  by_cases hi : i < (FG 42 s).length
  case pos =>
   obtain ⟨a0, F⟩ : ∃ x, (FG 42 s)[i]? = some x := ⟨_, List.getElem?_eq_getElem (show i < (FG 42 s).length by rw [ah]; exact hi)⟩
   obtain ⟨a1, co, _, a8, aa, bh, b8⟩ := IsR.at (e8 E).1 F
   obtain rfl := (show _ = [Value.string (bs a0)] from b8)
   have bd : a1 < _ := (e8 E).2 _ aa
   replace E := E.c bh bd
   have cu : w1.heap.size <= a1 /\ a1 < R.heap.size := aa
   have ae := List.mem_of_getElem? F
   have b4 : a0.length <= s.length := ZW (ae)
   by_cases Q : QS l a0 = none
   case pos =>
    obtain ⟨v, n, ai⟩ := Fi Q
    refine yG ?_
    refine fY O O a8 O YlM ?_
    refine yG ?_
    refine EF O (BZ JT O (aT a0 _ l v n _ (BW (UH E)) AA (RJ E).1 ai) O E ?_)
    intro dx ew E
    have ay := E.2.2.1
    refine yG ?_
    replace E := kB E
    refine yG ?_
    refine EF O (BY KL O O O ay Ynk (CM DH) (GM (M := zeroM) OQ OQ) ?_)
    intro dw cc c1
    replace E := oY E ay cc c1 (ds := (IJ false (.slice none 0 0) false (.slice none 0 0) zeroM))
    have r1 := DA KL E.1 (CM DH)
    refine yG ?_
    exact AQ (v := .tuple #[.agg (IJ false (.slice none 0 0) false (.slice none 0 0) zeroM).toArray, .bool false]) Y8z O (qM (wN I (mP o.1 F Q)) (WP E))
   obtain ⟨⟨v, n⟩, Q⟩ := Option.ne_none_iff_exists'.1 Q
   have af := mQ Q
   have ag := tH (v := v) o.2 af.2.2
   refine yG ?_
   refine fY O O a8 O YlM ?_
   refine yG ?_
   refine EF O (BZ JT O (YK a0 _ l v n _ (BW (UH E)) AA (RJ E).1 Q) O E ?_)
   intro dv ev E
   have ax := E.2.1
   refine yG ?_
   replace E := XS E
   refine yG ?_
   refine EF O (CG (v := .int .i64 ↑n) O qI O O O ax (by rw [CM o.2]; omega) ?_)
   intro du cb ak
   rw [Du] at ak
   replace E := oY E ax cb ak (ds := (IJ n4 s4 m4 Y (p.set v n)))
   refine yG ?_
   exact ⟨_, (by rw [bb]; omega), (i + 1), (p.set v n), _, O, O, zE, O, ⟨by omega, iX o.1 F Q, ag⟩⟩
  rw [List.take_of_length_le AA] at o
  by_cases B : 0 < ((1 : Int) : Rat)
  case neg =>
   refine yG ?_
   refine V O O (CD GP O O (Cs.sub (Bx.cs E.1) 0 (EI _ _ _ _ _)) O) ?_
   refine yG ?_
   refine EF O (CE EB O (QG _ _ _ _ ((1 : Int) : Rat) _ (e7 E) (e6 E)) O E ?_)
   intro dl ep E
   refine yG ?_
   refine V O O (OW (c := true) O O O (wS B)) ?_
   have au := E.2.1
   refine yG ?_
   replace E := XS E
   refine yG ?_
   refine EF O (BY KL O O O au Ynk (CM DH) (GM (M := zeroM) OQ OQ) ?_)
   intro dk c8 bw
   replace E := oY E au c8 bw (ds := (IJ false (.slice none 0 0) false (.slice none 0 0) zeroM))
   have r1 := DA KL E.1 (CM DH)
   refine yG ?_
   exact AQ (v := .tuple #[.agg (IJ false (.slice none 0 0) false (.slice none 0 0) zeroM).toArray, .bool false]) Y8z O (qM (dL I o.1 (fun g => B g.1)) (UH E))
  by_cases H : ET l ((1 : Int) : Rat) p = s
  case neg =>
   refine yG ?_
   refine V O O (CD GP O O (Cs.sub (Bx.cs E.1) 0 (EI _ _ _ _ _)) O) ?_
   refine yG ?_
   refine EF O (CE EB O (QG _ _ _ _ ((1 : Int) : Rat) _ (e7 E) (e6 E)) O E ?_)
   intro dp es E
   refine yG ?_
   refine V O O (OW (c := false) O O O (kU B)) ?_
   refine yG ?_
   refine V Z O (CD KL O O (Bx.cs E.1) (CM o.2)) ?_
   refine yG ?_
   refine EF O (BZ FK O (MD _ _ _ _ ((1 : Int) : Rat) p _ l _ (e7 E) (e6 E) o.2 (BW (RJ E)) (FitQ.mono F3 AE) hV (RA E).1) O E ?_)
   intro dn er E
   refine yG ?_
   refine V Z O (HJ (a := ET l ((1 : Int) : Rat) p) (b := s) (c := true) O O O (by rw [bne_iff_ne]; exact H)) ?_
   have av := E.2.1
   refine yG ?_
   replace E := XS E
   refine yG ?_
   refine EF O (BY KL O O O av Ynk (CM DH) (GM (M := zeroM) OQ OQ) ?_)
   intro dm c9 bx
   replace E := oY E av c9 bx (ds := (IJ false (.slice none 0 0) false (.slice none 0 0) zeroM))
   have r1 := DA KL E.1 (CM DH)
   refine yG ?_
   exact AQ (v := .tuple #[.agg (IJ false (.slice none 0 0) false (.slice none 0 0) zeroM).toArray, .bool false]) Y8z O (qM (dL I o.1 (fun g => H g.2)) (UH E))
  refine yG ?_
  refine V O O (CD GP O O (Cs.sub (Bx.cs E.1) 0 (EI _ _ _ _ _)) O) ?_
  refine yG ?_
  refine EF O (CE EB O (QG _ _ _ _ ((1 : Int) : Rat) _ (e7 E) (e6 E)) O E ?_)
  intro dt eu E
  refine yG ?_
  refine V O O (OW (c := false) O O O (kU B)) ?_
  refine yG ?_
  refine V Z O (CD KL O O (Bx.cs E.1) (CM o.2)) ?_
  refine yG ?_
  refine EF O (BZ FK O (MD _ _ _ _ ((1 : Int) : Rat) p _ l _ (e7 E) (e6 E) o.2 (BW (RJ E)) (FitQ.mono F3 AE) hV (RA E).1) O E ?_)
  intro dr et E
  refine yG ?_
  refine V Z O (HJ (a := ET l ((1 : Int) : Rat) p) (b := s) (c := false) O O O (by rw [bne_eq_false_iff_eq]; exact H)) ?_
  refine yG ?_
  refine V O O (CD KL O O (Bx.cs E.1) (CM o.2)) ?_
  have aw := E.2.1
  replace E := XS E
  refine yG ?_
  refine EF O (BY KL O O O aw Ynk (CM o.2) (GM (M := p) (IsI.one (e6 E)) (IsI.one (e5 E))) ?_)
  intro dq ca c0
  replace E := oY E aw ca c0 (ds := (IJ n4 s4 m4 Y p))
  have r1 := DA KL E.1 (CM o.2)
  refine yG ?_
  exact AQ (v := .tuple #[.agg (IJ n4 s4 m4 Y p).toArray, .bool true]) Y8z O (Mx (Eg I o.1 B H) (e7 E) (e6 E) (UH E))
 obtain ⟨c, hq⟩ := Option.ne_none_iff_exists'.1 hq
 have bf := mZ AA hq
 refine yG ?_
 refine fY (j := 0) O O bi O Yrz ?_
 refine yG ?_
 refine EF O (ZM UF O (zD x7 c _ AA hq) O E ?_)
 intro dj y u z t cn E
 replace q := q.below cn
 refine yG ?_
 refine EF O (CB GP O ?_)
 intro a4 di ad cv bm ar
 have cf : b5 < a4 := by rw [ad]; exact Bx.lt (e3 E)
 have bn : R.heap.size <= a4 := by rw [ad]; exact CR (e7 E)
 replace E := E.below bm
 replace q := Bx.below q bm
 refine yG ?_
 refine EF O (BY GP O O O ar O O (LR (IsI.one E.2.1) (IsI.one E.1)) ?_)
 intro dh b2 bv
 replace E := oY E ar b2 bv
 replace q := Bx.onl q AA b2
 have aq := e4 E
 refine yG ?_
 replace E := rR E
 refine yG ?_
 refine EF O (MU (cs' := (IJ y u z t zeroM)) GP O O O aq O (by rw [CM DH]; decide) (LR (IsI.one E.2.2.1) (IsI.one E.2.1)) O ?_)
 intro dg b0 bu
 replace E := oY E aq b0 bu (ds := (IJ y u z t zeroM))
 replace q := Bx.onl q AA b0
 obtain ⟨G, a7⟩ : ∃ a, Dy C (1 * 1) (decide (h = 1)) = a := ⟨_, rfl⟩
 refine yG ?_
 refine V (v := .slice G (((FG 42 s).length) - 1) (h - 1)) O O (IQ (i := 1) O underlying30 Z O O O AA a7) ?_
 replace E := E.r (e := elS) (S := EY w1.heap.size R.heap.size) (NQ (e7 E).1 AA a7) ((e7 E).2)
 have I := Jv X hq
 have ci : ((FG 42 s).drop 1).length <= s.length + 1 := by first | exact b6 | (rw [List.length_drop]; omega)
 have ah : ((FG 42 s).drop 1).length = ((FG 42 s).length) - 1 := List.length_drop
 replace E := E.x q
 refine yG ?_
 refine wp_loop_ghost (fun mz a w' => ∃ (i : Nat) (p : List Nat) (f : List Value), a = ⟨#[.string (bs s), .slice a2 l.length L, undef, undef, .pointer (some ⟨b1, 0, none⟩), CF f 0, .slice G (((FG 42 s).length) - 1) (h - 1), .pointer (some ⟨b5, 0, none⟩), .pointer (some ⟨a4, 0, none⟩), .int .i64 0, CF f 1, CF f 2, CF f 3, CF f 4, .string (bs s), .slice C ((FG 42 s).length) h, .agg #[.bool n4, s4, .bool m4, Y], .agg (IJ n4 s4 m4 Y zeroM).toArray, .tuple #[.agg #[.bool y, u, .bool z, t], .int .i64 0], .slice C ((FG 42 s).length) h, .pointer (some ⟨N, a3 + 0 * 1, none⟩), .string (bs x7), .tuple #[.agg #[.bool y, u, .bool z, t], .int .i64 0], .agg #[.bool y, u, .bool z, t], .int .i64 0, .int .i64 0, .bool true, .agg #[.bool y, u, .bool z, t], .pointer (some ⟨b5, 0, none⟩), .slice C ((FG 42 s).length) h, .slice G (((FG 42 s).length) - 1) (h - 1), .slice G (((FG 42 s).length) - 1) (h - 1), .int .i64 ↑(((FG 42 s).length) - 1), .int .i64 ↑i, CF f 5, CF f 6, CF f 7, CF f 8, CF f 9, CF f 10, CF f 11, CF f 12, CF f 13, CF f 14, CF f 15, CF f 16, CF f 17, CF f 18, CF f 19, CF f 20, CF f 21, CF f 22, CF f 23, CF f 24, undef, undef, undef, undef, undef, undef, undef, undef, undef, undef, undef, undef, undef], []⟩ /\ Env w' [fX b5 (88) (IJ y u z t p), fX b1 (88) (IJ false (.slice none 0 0) false (.slice none 0 0) zeroM), fR elS (EY w1.heap.size R.heap.size) (.slice G (((FG 42 s).length) - 1) (h - 1)) ((FG 42 s).drop 1), fX a4 (64) ([.bool y, u, .bool z, t]), fI (.agg #[.bool z, t]) ((c.den : Nat) : Int), fI (.agg #[.bool y, u]) c.num, fC N (a3 + 0 * 1) [.string (bs x7)], fI (.agg #[.bool m4, Y]) ((((1 : Int) : Rat).den : Nat) : Int), fI (.agg #[.bool n4, s4]) (((1 : Int) : Rat).num), fR elS (EY w1.heap.size R.heap.size) (.slice C ((FG 42 s).length) h) (FG 42 s), rO R.heap.size, fGl, fR elS (CX w.heap.size) (.slice a2 l.length L) l, fW w] /\ mz = (((FG 42 s).length) - 1) - i /\ (i <= ((FG 42 s).length) - 1 /\ GG l (((FG 42 s).drop 1).take i) zeroM = some p /\ EG p)) ((((FG 42 s).length) - 1)) ⟨0, zeroM, [.bool false, undef, undef, undef, undef, undef, undef, undef, undef, undef, undef, undef, undef, undef, undef, undef, undef, undef, undef, undef, undef, undef, undef, undef, undef], O, zE, O, ⟨Nat.zero_le _, by simp [GG], DH⟩⟩ ?_
 rintro ea _ de ⟨i, p, f, rfl, E, ba, ab⟩
 obtain ⟨ab, o⟩ := ab
 by_cases hi : i < ((FG 42 s).length) - 1
 case pos =>
  obtain ⟨U, D⟩ : ∃ x, ((FG 42 s).drop 1)[i]? = some x := ⟨_, List.getElem?_eq_getElem (show i < ((FG 42 s).drop 1).length by rw [ah]; exact hi)⟩
  obtain ⟨T, az, _, a6, a9, bg, b7⟩ := IsR.at E.2.2.1.1 D
  obtain rfl := (show _ = [Value.string (bs U)] from b7)
  have bc : T < _ := E.2.2.1.2 _ a9
  replace E := E.c bg bc
  have ct : w1.heap.size <= T /\ T < R.heap.size := a9
  have ae := List.mem_of_getElem? D
  have b4 : U.length <= s.length := ZW (List.mem_of_mem_drop ae)
  by_cases Q : QS l U = none
  case pos =>
   obtain ⟨v, n, ai⟩ := Fi Q
   refine yG ?_
   refine fY O O a6 O Y8y ?_
   refine yG ?_
   refine EF O (BZ JT O (aT U _ l v n _ (BW (WP E)) AA (UH E).1 ai) O E ?_)
   intro dd eo E
   have ap := E.2.2.1
   refine yG ?_
   replace E := kB E
   refine yG ?_
   refine EF O (BY KL O O O ap Ynk (CM DH) (GM (M := zeroM) OQ OQ) ?_)
   intro dc c7 bt
   replace E := oY E ap c7 bt (ds := (IJ false (.slice none 0 0) false (.slice none 0 0) zeroM))
   have r1 := DA KL E.1 (CM DH)
   refine yG ?_
   exact AQ (v := .tuple #[.agg (IJ false (.slice none 0 0) false (.slice none 0 0) zeroM).toArray, .bool false]) Y8z O (qM (wN I (mP o.1 D Q)) (iI E))
  obtain ⟨⟨v, n⟩, Q⟩ := Option.ne_none_iff_exists'.1 Q
  have af := mQ Q
  have ag := tH (v := v) o.2 af.2.2
  refine yG ?_
  refine fY O O a6 O Y8y ?_
  refine yG ?_
  refine EF O (BZ JT O (YK U _ l v n _ (BW (WP E)) AA (UH E).1 Q) O E ?_)
  intro db en E
  have ao := E.2.1
  refine yG ?_
  replace E := XS E
  refine yG ?_
  refine EF O (CG (v := .int .i64 ↑n) O qI O O O ao (by rw [CM o.2]; omega) ?_)
  intro da c6 aj
  rw [Du] at aj
  replace E := oY E ao c6 aj (ds := (IJ y u z t (p.set v n)))
  refine yG ?_
  exact ⟨_, (by rw [ba]; omega), (i + 1), (p.set v n), [CF f 0, .int .i64 ↑i, .int .i64 ↑v, .int .i64 ↑n, .bool true, .bool true, .int .i64 ↑i, .tuple #[.int .i64 ↑v, .int .i64 ↑n, .bool true], .slice G (((FG 42 s).length) - 1) (h - 1), .int .i64 ↑i, .pointer (some ⟨T, az + i * 1, none⟩), .string (bs U), .slice a2 l.length L, .tuple #[.int .i64 ↑v, .int .i64 ↑n, .bool true], .int .i64 ↑v, .int .i64 ↑n, .bool true, .bool true, .bool false, CF f 19, .int .i64 ↑v, .int .i64 ↑n, .pointer (some ⟨b5, 4, none⟩), .pointer (some ⟨b5, 4 + v * 1, none⟩), .int .i64 ↑(i + 1)], O, zE, O, ⟨by omega, iX o.1 D Q, ag⟩⟩
 rw [List.take_of_length_le AA] at o
 by_cases B : 0 < c
 case neg =>
  refine yG ?_
  refine V O O (CD GP O O (Cs.sub (Bx.cs E.1) 0 (EI _ _ _ _ _)) O) ?_
  refine yG ?_
  refine EF O (CE EB O (QG _ _ _ _ c _ (e5 E) (e4 E)) O E ?_)
  intro cx ei E
  refine yG ?_
  refine V O O (OW (c := true) O O O (wS B)) ?_
  have al := E.2.1
  refine yG ?_
  replace E := XS E
  refine yG ?_
  refine EF O (BY KL O O O al Ynk (CM DH) (GM (M := zeroM) OQ OQ) ?_)
  intro cw c3 bp
  replace E := oY E al c3 bp (ds := (IJ false (.slice none 0 0) false (.slice none 0 0) zeroM))
  have r1 := DA KL E.1 (CM DH)
  refine yG ?_
  exact AQ (v := .tuple #[.agg (IJ false (.slice none 0 0) false (.slice none 0 0) zeroM).toArray, .bool false]) Y8z O (qM (dL I o.1 (fun g => B g.1)) (WP E))
 by_cases H : ET l c p = s
 case neg =>
  refine yG ?_
  refine V O O (CD GP O O (Cs.sub (Bx.cs E.1) 0 (EI _ _ _ _ _)) O) ?_
  refine yG ?_
  refine EF O (CE EB O (QG _ _ _ _ c _ (e5 E) (e4 E)) O E ?_)
  intro d0 ek E
  refine yG ?_
  refine V O O (OW (c := false) O O O (kU B)) ?_
  refine yG ?_
  refine V Z O (CD KL O O (Bx.cs E.1) (CM o.2)) ?_
  refine yG ?_
  refine EF O (BZ FK O (MD _ _ _ _ c p _ l _ (e5 E) (e4 E) o.2 (BW (UH E)) (FitQ.mono bf AE) hV (RJ E).1) O E ?_)
  intro cz ej E
  refine yG ?_
  refine V Z O (HJ (a := ET l c p) (b := s) (c := true) O O O (by rw [bne_iff_ne]; exact H)) ?_
  have am := E.2.1
  refine yG ?_
  replace E := XS E
  refine yG ?_
  refine EF O (BY KL O O O am Ynk (CM DH) (GM (M := zeroM) OQ OQ) ?_)
  intro cy c4 bq
  replace E := oY E am c4 bq (ds := (IJ false (.slice none 0 0) false (.slice none 0 0) zeroM))
  have r1 := DA KL E.1 (CM DH)
  refine yG ?_
  exact AQ (v := .tuple #[.agg (IJ false (.slice none 0 0) false (.slice none 0 0) zeroM).toArray, .bool false]) Y8z O (qM (dL I o.1 (fun g => H g.2)) (WP E))
 refine yG ?_
 refine V O O (CD GP O O (Cs.sub (Bx.cs E.1) 0 (EI _ _ _ _ _)) O) ?_
 refine yG ?_
 refine EF O (CE EB O (QG _ _ _ _ c _ (e5 E) (e4 E)) O E ?_)
 intro d7 em E
 refine yG ?_
 refine V O O (OW (c := false) O O O (kU B)) ?_
 refine yG ?_
 refine V Z O (CD KL O O (Bx.cs E.1) (CM o.2)) ?_
 refine yG ?_
 refine EF O (BZ FK O (MD _ _ _ _ c p _ l _ (e5 E) (e4 E) o.2 (BW (UH E)) (FitQ.mono bf AE) hV (RJ E).1) O E ?_)
 intro d6 el E
 refine yG ?_
 refine V Z O (HJ (a := ET l c p) (b := s) (c := false) O O O (by rw [bne_eq_false_iff_eq]; exact H)) ?_
 refine yG ?_
 refine V O O (CD KL O O (Bx.cs E.1) (CM o.2)) ?_
 have an := E.2.1
 replace E := XS E
 refine yG ?_
 refine EF O (BY KL O O O an Ynk (CM o.2) (GM (M := p) (IsI.one (e4 E)) (IsI.one (e3 E))) ?_)
 intro d3 c5 br
 replace E := oY E an c5 br (ds := (IJ y u z t p))
 have r1 := DA KL E.1 (CM o.2)
 refine yG ?_
 exact AQ (v := .tuple #[.agg (IJ y u z t p).toArray, .bool true]) Y8z O (Mx (Eg I o.1 B H) (e5 E) (e4 E) (WP E))
def Uk : Op -> Bool
 | .defer _ => true
 | _ => false
def dU (ops : Array Oper) : Bool := ops.toList.all fun o => !Uk o.op
theorem nC {ops : Array Oper} (h : dU ops = true) (ho : o ∈ ops.toList) (c : Call) : o.op ≠ .defer c := by
 intro e
 have := List.all_eq_true.1 h o ho
 rw [e] at this; cases this
section
variable {P : Program} {r n : Nat} {ops : Array Oper} {Q : Exit -> Act -> World -> Prop} {a : Act} {w : World}
theorem Im {m : Nat} {row : String} {args : Array Value} {R : Value -> World -> Prop} (h : Rows P row args w R) : RowsIn Fence.wide m P row args w R :=
 fun c cs _ => let ⟨v, w', r, s⟩ := h c cs; ⟨v, w', r, stepsIn_wide.2 s⟩
theorem Ep (hd : ∀ c, o.op ≠ .defer c) (h : o.wp P a w K Q) : o.wpIn (Fence.wide.inRound r) n P a w K Q := by
 refine ⟨fun _ _ => trivial, ?_⟩
 show o.uponIn _ n P a K Q ((o.semAt (some r) a.eval).run P w)
 rw [Oper.semAt_some r _ _ hd]
 unfold Oper.wp Oper.upon at h
 revert h
 generalize (execOp a.eval o).run P w = res
 intro h
 cases res with
 | ok nx w' =>
   cases nx <;> first | exact h | exact h.elim | exact ⟨(fun e => by cases e), CallsIn.inRound r (callsIn_wide.2 h)⟩ | exact ⟨(fun e => by cases e), Im h⟩
 | halt s w' => cases s <;> first | exact h | exact h.elim
theorem tL (hd : dU ops = true) (hq : ¬ LetsOut Q) : ∀ {l : List Oper} {a : Act} {w : World}, (∀ o ∈ l, o ∈ ops.toList) -> wpList P ops Q l a w -> wpListIn (Fence.wide.inRound r) n P ops Q l a w
 | [], _, _, _, h => h
 | o :: l, a, w, hl, h => by
   have hod := nC hd (hl o AH)
   unfold wpListIn
   unfold wpList at h
   split
   . rename_i hw
     rw [if_pos hw] at h
     rcases h with h | ⟨_, h⟩
     . have : wpList P ops Q l = fun a w => wpList P ops Q l a w := rfl
       exact Ep hod (Oper.wp_mono (fun a w h => tL hd hq (fun o ho => hl o (by simp [ho])) h) h)
     exact absurd h hq
   rename_i hw
   rw [if_neg hw] at h
   exact ⟨fun _ _ => trivial, tL hd hq (fun o ho => hl o (by simp [ho])) h⟩
theorem aP (hd : dU ops = true) (hq : ¬ LetsOut Q) (h : WL P ops Q ops.toList l w) : (Code.region id ops false).wpIn (Fence.wide.inRound r) n P Q ⟨l.toArray, []⟩ w :=
 wpIn_region_list (tL hd hq (fun _ h => h) h.out)
theorem uJ (hd : dU ops = true) (hq : ¬ LetsOut Q) {md : Region.Mode} : ∀ (f : Nat) (L : Array Bool) (a : Act) (w : World), wpAny P md ops Q f L a w -> wpAnyIn (Fence.wide.inRound r) n P md ops Q f L a w
 | 0, _, _, _, h => h
 | f + 1, L, a, w, h => by
   refine ⟨h.1, fun i hi => ?_⟩
   have h2 := h.2 i hi
   unfold wpOpIn
   unfold wpOp at h2
   cases ho : ops[i]? with
   | none => rw [ho] at h2; exact uJ hd hq f _ a w h2
   | some o =>
     rw [ho] at h2
     simp only at h2 ⊢
     have hod := nC hd (Array.mem_toList_iff.2 (Array.mem_of_getElem? ho))
     split
     . rename_i hw
       rw [if_pos hw] at h2
       rcases h2 with h2 | ⟨_, h2⟩
       . exact Ep hod (Oper.wp_mono (fun a w h => uJ hd hq f _ a w h) h2)
       exact absurd h2 hq
     rename_i hw
     rw [if_neg hw] at h2
     exact ⟨fun _ _ => trivial, uJ hd hq f _ _ w h2⟩
theorem OC {l : List SF} (hd : dU ops = true) (hq : ¬ LetsOut Q) (E : Env w l) (σ : List Nat) (hm : P.follows .mixedOrders = true) (hs : Region.noSelect ops = true) (hl : (σ.length == ops.size) = true)
 (hk : RU .any ops [] (Array.replicate ops.size false) σ = true)
 (hQ : ∀ d v c a w, Q (.panic c) (a.put d v) w -> Q (.panic c) a w) (h : DM P .any ops Q [] (fun w => Env w l) (fun w => Env w l) σ false a w.drew) : (Code.region id ops true).wpIn (Fence.wide.inRound r) n P Q a w := by
 refine wpIn_region_any hm (uJ hd hq _ _ _ _ (bB (S := SL [] (fun w => Env w l) (fun w => Env w l)) _ _ _ _ ?_))
 have e : σ.length = ops.size := by simpa using hl
 have := QH hs hQ (fun _ h => h) σ (Array.replicate ops.size false) false a w.drew (by
  intro k o f hk
  have : k < ops.size := (Array.getElem?_eq_some_iff.1 f).1
  simp [this] at hk) AH (by
  unfold ZH
  rw [List.any_eq_false]
  intro k _
  by_cases hk : k < ops.size <;> simp [hk]) hk (by simpa using E.drew) h
 rw [e] at this
 exact this
end
def Py (W : World) : SF := ⟨fun w => KeepsOthers W w, fun c => ∀ o, W.heap[c]? = some o -> o.isCells = true,
 fun h hb => ⟨Nat.le_trans h.size hb.size, fun k o hk ho => (hb.block k (Array.getElem?_eq_some_iff.1 (h.same k o hk ho)).1).trans (h.same k o hk ho)⟩,
 fun h _ hc hb => ⟨by rw [hb.size]; exact h.size, fun k o hk ho => by
  refine (hb.block k fun e => ?_).trans (h.same k o hk ho)
  subst e
  rw [hc o hk] at ho; cases ho⟩⟩
theorem Env.ko (E : Env W L) : Env W (Py W :: L) := ⟨KeepsOthers.refl W, E⟩
theorem qV {b T : Nat} {cs : List Value} (h : Bx W b T cs) : (Py W).ok b := fun o e => by unfold Bx at h; rw [h] at e; cases e; rfl
theorem HH {c : Nat} (h : W.heap.size <= c) : (Py W).ok c := fun o e => by rw [Array.getElem?_eq_none h] at e; cases e
theorem Xf {α : Type} {e : El α} {t base : Nat} {l : List α} (h : Acc e t base VH W v l) {g : Nat} (hg : v.ownBlock = some g) : (Py W).ok g := by
 intro o f
 obtain ⟨y, p, _⟩ := h
 rcases p.2 with ⟨rfl, _⟩ | ⟨z, u, q, rfl, _, k, _⟩
 . simp [Value.ownBlock] at hg
 simp [Value.ownBlock] at hg
 subst hg
 rw [k] at f; cases f; rfl
theorem Env.turn {W' : World} {row : Option Nat} (E : Env W L) (hg : W.grownBy W' row) (hr : ∀ r, row = some r -> ∃ o : Obj, W.heap[r]? = some o /\ o.isCells = false) (hok : ∀ r, row = some r -> Ok r L) : Env W' L := by
 cases row with
 | none => exact E.below ⟨hg.os, hg.tape, hg.output, hg.size, fun k f => hg.block k f AH⟩
 | some r =>
   obtain ⟨o, u, y⟩ := hr r rfl
   have h : r < W.heap.size := (Array.getElem?_eq_some_iff.1 u).1
   obtain ⟨p, q⟩ : ∃ p, W'.heap[r]? = some p := ⟨_, Array.getElem?_eq_getElem (Nat.lt_of_lt_of_le h hg.size)⟩
   have t : zX W r := by
    intro j k e
    unfold World.cell? at e
    rw [u] at e
    cases o <;> simp_all [Obj.isCells]
   have l : Onl r W (W.putObj r p) := ⟨rfl, rfl, rfl, by simp, fun k f => World.putObj_heap_other (fun e => f e)⟩
   have v := E.onl t (hok r rfl) l
   refine v.below ⟨hg.os, hg.tape, hg.output, by rw [l.size]; exact hg.size, fun k f => ?_⟩
   rw [l.size] at f
   by_cases e : k = r
   . subst e; rw [q, World.putObj_heap_same h]
   rw [hg.block k f (by simpa using e)]; exact (l.block k e).symm
open Go.Shelf
attribute [local go_sem] Oper.semAt_some
def gQ : Nat -> List Bs -> List (Nat × Bs)
 | _, [] => []
 | k, x :: r => (k, x) :: gQ (k + x.length + 1) r
abbrev Wd := { x : Nat × Bs // x.1 <= 4000 /\ x.2.length <= 4000 }
def wdE (x : Wd) : Array Value := #[.int .i64 ↑x.1.1, .string (bs x.1.2)]
def jN (l : List Wd) : List (Nat × Bs) := l.map (·.1)
theorem KC (l : List Wd) (x : Wd) : jN (l ++ [x]) = jN l ++ [x.1] := by unfold jN; rw [List.map_append]; rfl
theorem LB (l : List Wd) : (jN l).length = l.length := List.length_map _
def keepB (sb : Nat) (W W' : World) : Prop := ∀ k, k < 2 ∨ k = sb -> W'.heap[k]? = W.heap[k]?
theorem Glob.blocks (h : Glob w) (h0 : w'.heap[0]? = w.heap[0]?) (h1 : w'.heap[1]? = w.heap[1]?) : Glob w' := by
 refine ⟨?_, ?_⟩
 . have f := h.pow
   unfold Lib.TabIs World.var? at *
   rw [YV] at *
   simp only [Option.bind_some] at *
   rw [h1]; exact f
 obtain ⟨m, e⟩ := h.max
 exact ⟨m, (World.cell?_of_block h0).trans e⟩
theorem Glob.keepB (h : Glob w) (hk : keepB sb w w') : Glob w' := h.blocks (hk 0 (.inl AE)) (hk 1 (.inl AE))
theorem Glob.below (h : Glob w) (hb : Below w.heap.size w w') : Glob w' := h.blocks (hb.block 0 (Nat.lt_of_lt_of_le AE h.two)) (hb.block 1 (Nat.lt_of_lt_of_le AE h.two))
theorem Sa (s : Bs) (w : World) : Calls prog 40 #[.string (bs s)] w fun e w' => e = .returned (.func (.func 85) #[] #[.pointer (some ⟨w.heap.size, 0, none⟩)]) /\ w' = w.alloc (.cells #[.string (bs s)] 9) := by
 go_enter func40, ntmps40
 go_wp2
 go_ret
 exact ⟨rfl, rfl⟩
set_option maxRecDepth 100000 in
set_option maxHeartbeats 400000 in
theorem Hf (n : Nat) (hn : 1 <= n) (l sb : Nat) (s : Bs) (hs : s.length <= 4000) (J Jx : List Wd -> World -> Prop) (W : World) (hJ : AbidesFrom W.heap.size J) (_hJx : AbidesFrom W.heap.size Jx)
 (hY : ∀ pre x W, J pre W -> pre.length < (gQ 0 (FG 32 s)).length -> YieldAt Fence.wide (n - 1) prog l (wdE x) W fun e W' =>
   (e = .returned (.bool true) /\ J (pre ++ [x]) W' /\ keepB sb W W') ∨ (e = .returned (.bool false) /\ Jx (pre ++ [x]) W'))
 (hB : Bx W sb 9 [.string (bs s)]) (hG : Glob W) (h0 : J [] W) :
 CallsIn Fence.wide n prog 85 #[.func (.yield l) #[] #[], .pointer (some ⟨sb, 0, none⟩)] W fun e W' => (∃ v, e = .returned v) /\
  ((∃ ys, jN ys = gQ 0 (FG 32 s) /\ J ys W') ∨ (∃ pre, jN pre <+: gQ 0 (FG 32 s) /\ Jx pre W')) := by
 refine callsIn_of_wp func85 O trivial ?_ O
 simp only [ntmps85, List.size_toArray, List.length_cons, List.length_nil, Nat.reduceAdd, Nat.reduceSub, Array.replicate_succ, Array.replicate_zero, List.push_toArray, List.append_toArray, List.nil_append, List.cons_append]
 gi_wp2
 gi_loopw [3] (fun i wr => ∃ (k : Nat) (pre : List Wd), k <= s.length /\ i = .int .i64 ↑k /\ gQ 0 (FG 32 s) = jN pre ++ gQ k (FG 32 (s.drop k)) /\ J pre wr /\ Bx wr sb 9 [.string (bs s)] /\ Glob wr)
  (fun i _ => s.length + 1 - (intOf i).toNat)
 case atStart => exact ⟨0, [], Nat.zero_le _, rfl, by simp [jN], h0, hB, hG⟩
 case round =>
  obtain ⟨k, pre, hk, rfl, hpre, hJs, hBw, hGw⟩ := hrel
  have hc : wr.cell? ⟨sb, 0, none⟩ = some (.string (bs s)) := by rw [hBw.cell]; rfl
  have hex : (bs s).extract k (bs s).size = bs (s.drop k) := by rw [Qp, GA, List.take_of_length_le (Nat.le_refl _)]
  have hln : (s.drop k).length <= 1000000 := by rw [List.length_drop]; omega
  cases hcut : NJ 32 (s.drop k) with
  | none =>
    have hcall := cM (s.drop k) 32 wr hln hGw hcut
    have hspl : FG 32 (s.drop k) = [s.drop k] := cX 32 (cutB_none.1 hcut)
    rw [hspl] at hpre
    gi_wp2
    refine ⟨BX, (callsIn_wide.2 hcall).mono ?_⟩
    rintro e w1 ⟨rfl, hb1⟩
    have hJ1 : J pre w1 := hJ pre wr w1 none hJs ⟨hb1.os, hb1.tape, hb1.output, hb1.size, fun j hj _ => hb1.block j hj⟩ (fun r e => by cases e)
    have hB1 : Bx w1 sb 9 [.string (bs s)] := hBw.below hb1
    obtain ⟨fn, tmps, assign, body, hy, hR⟩ := hY pre ⟨(k, s.drop k), by simp only; omega, by simp only [List.length_drop]; omega⟩ w1 hJ1 (by rw [hpre]; simp [gQ, LB])
    dsimp only [wdE] at hy
    gi_wp2
    refine hR.mono ?_
    rintro e W3 (⟨rfl, hJ3, hk3⟩ | ⟨rfl, hJx3⟩)
    . gi_wp2
      refine AQ (results_none O _ _ _) O ?_
      exact ⟨⟨_, rfl⟩, .inl ⟨_, by rw [hpre, KC]; rfl, hJ3⟩⟩
    gi_wp2
    refine AQ (results_none O _ _ _) O ?_
    exact ⟨⟨_, rfl⟩, .inr ⟨_, ⟨[], by rw [hpre, KC]; simp [gQ]⟩, hJx3⟩⟩
  | some p =>
    obtain ⟨x, y⟩ := p
    obtain ⟨hxy, hx32⟩ := cutB_some.1 hcut
    have hcall := cJ (s.drop k) 32 x y wr hln hGw hcut
    have hspl : FG 32 (s.drop k) = x :: FG 32 y := by rw [hxy, kK 32 hx32]
    have hdl : (s.drop k).length = x.length + 1 + y.length := by rw [hxy]; simp; omega
    rw [List.length_drop] at hdl
    have hy2 : y = s.drop (k + x.length + 1) := by
     have h1 : s.drop (k + (x.length + 1)) = (s.drop k).drop (x.length + 1) := by rw [List.drop_drop]
     rw [Nat.add_assoc, h1, hxy, show x ++ 32 :: y = (x ++ [32]) ++ y by simp, show x.length + 1 = (x ++ [(32 : UInt8)]).length by simp, List.drop_left]
    rw [hspl] at hpre
    have HY2 := Lib.hid hy2
    clear hy2 hxy hspl hcut
    gi_wp2
    refine ⟨BX, (callsIn_wide.2 hcall).mono ?_⟩
    rintro e w1 ⟨rfl, hb1⟩
    have hJ1 : J pre w1 := hJ pre wr w1 none hJs ⟨hb1.os, hb1.tape, hb1.output, hb1.size, fun j hj _ => hb1.block j hj⟩ (fun r e => by cases e)
    have hB1 : Bx w1 sb 9 [.string (bs s)] := hBw.below hb1
    obtain ⟨fn, tmps, assign, body, hy, hR⟩ := hY pre ⟨(k, x), by simp only; omega, by simp only; omega⟩ w1 hJ1 (by rw [hpre]; simp [gQ, LB])
    dsimp only [wdE] at hy
    gi_wp2
    refine hR.mono ?_
    have hbx : (bs x).size = x.length := GA x
    have hw1 : IntKind.i64.wrap (((x.length : Nat) : Int) + 1) = ((x.length + 1 : Nat) : Int) := JP AA AA
    have hw2 : IntKind.i64.wrap (((k : Nat) : Int) + ((x.length + 1 : Nat) : Int)) = ((k + x.length + 1 : Nat) : Int) := JP AA AA
    rintro e W3 (⟨rfl, hJ3, hk3⟩ | ⟨rfl, hJx3⟩)
    . have hB3 : Bx W3 sb 9 [.string (bs s)] := by unfold Bx; rw [hk3 sb (.inr rfl)]; exact hB1
      gi_wp2
      have h2 : y = s.drop (k + x.length + 1) := HY2
      refine ⟨⟨k + x.length + 1, pre ++ [⟨(k, x), _⟩], by omega, O, ?_, hJ3, hB3, (hGw.below hb1).keepB hk3⟩, by simp only [intOf]; omega⟩
      rw [hpre, KC, <- h2]; simp [gQ]
    gi_wp2
    refine AQ (results_none O _ _ _) O ?_
    exact ⟨⟨_, rfl⟩, .inr ⟨_, ⟨gQ (k + x.length + 1) (FG 32 y), by rw [hpre, KC]; simp [gQ]⟩, hJx3⟩⟩
theorem vC (sb : Nat) (s : Bs) (hs : s.length <= 4000) (n : Nat) (hn : 1 <= n) (w : World) (hB : Bx w sb 9 [.string (bs s)]) (hG : Glob w) :
 SeqStopsK Fence.wide n prog 85 #[.pointer (some ⟨sb, 0, none⟩)] wdE (keepB sb) (fun xs => jN xs = gQ 0 (FG 32 s)) (fun pre => jN pre <+: gQ 0 (FG 32 s)) (gQ 0 (FG 32 s)).length w := by
 intro l J p W f k e h o
 exact Hf n hn l sb s hs J p W k e h (hB.below f) (hG.below f) o
theorem Uh {A B C : World} (h : keepB sb A B) (g : keepB sb B C) : keepB sb A C := fun k hk => (g k hk).trans (h k hk)
theorem Ui (h : sb < w.heap.size) (h2 : 2 <= w.heap.size) (W : World) (l : Nat) (o o' : Obj) (hl : w.heap.size <= l) (_ : W.heap[l]? = some o) (_ : o.isCells = false) (_ : o.isWalk = false) : keepB sb W (W.putObj l o') :=
 fun _ hk => World.putObj_heap_other AA
abbrev iM := Bool × List Tm
def HO (l : List Bs) (i : Nat) (st : iM) (w : Bs) : Option iM :=
 if i % 2 = 1 then (if w = [43] ∨ w = [45] then some (decide (w = [45]), st.2) else none)
 else match bL l (OT i st.1 w).1 with
  | none => none
  | some (c, m) => if i ≠ 0 /\ 0 <= ES m (eL st.2) then none else some (false, st.2 ++ [(Av (OT i st.1 w).2 c, m)])
def uZ (l : List Bs) : Nat -> iM -> List Bs -> Option iM
 | _, st, [] => some st
 | i, st, w :: ws => match HO l i st w with
   | none => none
   | some st' => uZ l (i + 1) st' ws
theorem TF {l : List Bs} : ∀ {ws : List Bs} {i : Nat} {st st' : iM} {w : Bs}, uZ l i st ws = some st' -> uZ l i st (ws ++ [w]) = HO l (i + ws.length) st' w
 | [], i, st, st', w, h => by
   simp only [uZ, Option.some.injEq] at h
   subst h
   simp only [List.nil_append, uZ, List.length_nil, Nat.add_zero]
   cases HO l i st w <;> rfl
 | x :: ws, i, st, st', w, h => by
   simp only [uZ] at h
   simp only [List.cons_append, uZ]
   cases hx : HO l i st x with
   | none => rw [hx] at h; cases h
   | some st2 =>
     rw [hx] at h
     simp only at h ⊢
     rw [TF h, List.length_cons]
     congr 1; omega
theorem Us {l : List Bs} {p : List Tm} {w : Bs} {ws : List Bs} {st : iM} (h : HO l i (neg, p) w = some st) : QB l (w :: ws) i at_ neg p = QB l ws (i + 1) (at_ + w.length + 1) st.1 st.2 := by
 unfold HO at h
 rw [QB]
 by_cases k : i % 2 = 1
 . rw [if_pos k] at h ⊢
   by_cases e : w = [43] ∨ w = [45]
   . rw [if_pos e] at h ⊢
     simp only [Option.some.injEq] at h; subst h; rfl
   rw [if_neg e] at h; cases h
 rw [if_neg k] at h ⊢
 cases f : bL l (OT i neg w).1 with
 | none => simp [f] at h
 | some t =>
   obtain ⟨c, m⟩ := t
   simp only [f] at h ⊢
   split at h
   . cases h
   rename_i hc
   rw [if_neg hc]
   simp only [Option.some.injEq] at h; subst h; rfl
theorem Ut {l : List Bs} {p : List Tm} {w : Bs} {ws : List Bs} (h : HO l i (neg, p) w = none) : QB l (w :: ws) i at_ neg p = ([], at_, 440) := by
 unfold HO at h
 rw [QB]
 by_cases f : i % 2 = 1
 . rw [if_pos f] at h ⊢
   by_cases e : w = [43] ∨ w = [45]
   . rw [if_pos e] at h; cases h
   rw [if_neg e]
 rw [if_neg f] at h ⊢
 cases k : bL l (OT i neg w).1 with
 | none => simp
 | some t =>
   obtain ⟨c, m⟩ := t
   simp only [k] at h ⊢
   split at h
   . rename_i hc; rw [if_pos hc]
   cases h
def xT (k : Nat) (ws : List Bs) : Nat := k + (ws.map fun w => w.length + 1).sum
theorem Cj {l : List Bs} : ∀ {ws rest : List Bs} {i at_ : Nat} {neg : Bool} {p : List Tm} {st : iM}, uZ l i (neg, p) ws = some st -> QB l (ws ++ rest) i at_ neg p = QB l rest (i + ws.length) (xT at_ ws) st.1 st.2
 | [], rest, i, at_, neg, p, st, h => by
   simp only [uZ, Option.some.injEq] at h
   subst h
   simp [xT]
 | w :: ws, rest, i, at_, neg, p, st, h => by
   simp only [uZ] at h
   cases hx : HO l i (neg, p) w with
   | none => rw [hx] at h; cases h
   | some st2 =>
     rw [hx] at h
     simp only [List.cons_append]
     rw [Us hx, Cj (neg := st2.1) (p := st2.2) h]
     congr 1
     . simp only [List.length_cons]; omega
     simp only [xT, List.map_cons, List.sum_cons]; omega
theorem sA : ∀ (k : Nat) (ws : List Bs), (gQ k ws).map (·.2) = ws
 | _, [] => rfl
 | k, w :: ws => by simp only [gQ, List.map_cons]; rw [sA]
theorem Hg {k : Nat} {ws : List Bs} {a : List (Nat × Bs)} {x : Nat × Bs} {r : List (Nat × Bs)} (h : a ++ x :: r = gQ k ws) : ws = a.map (·.2) ++ x.2 :: r.map (·.2) /\ x.1 = xT k (a.map (·.2)) := by
 induction a generalizing k ws with
 | nil =>
   cases ws with
   | nil => simp [gQ] at h
   | cons w ws =>
     simp only [List.nil_append, gQ, List.cons.injEq] at h
     obtain ⟨rfl, rfl⟩ := h
     simp [sA, xT]
 | cons y a ih =>
   cases ws with
   | nil => simp [gQ] at h
   | cons w ws =>
     simp only [List.cons_append, gQ, List.cons.injEq] at h
     obtain ⟨rfl, h⟩ := h
     obtain ⟨f, e⟩ := ih h
     refine ⟨by simp only [List.map_cons, List.cons_append]; rw [<- f], ?_⟩
     rw [e]; simp only [xT, List.map_cons, List.sum_cons]; omega
theorem Ve (b : UInt8) (s : Bs) : xT 0 (FG b s) = s.length + 1 := by
 unfold xT
 rw [Oz b (SR b s), Cg]; omega
section
variable {l : List Bs} {s : Bs}
theorem qL (h1 : DL 8 l = true) (h2 : ¬ 4000 < s.length) (h3 : s ≠ [48]) : GO l s = QB l (FG 32 s) 0 0 false [] := by
 unfold GO
 rw [if_neg (by rw [h1]; decide), if_neg h2, if_neg h3]
theorem Mv (h1 : DL 8 l = true) (h2 : ¬ 4000 < s.length) (h3 : s ≠ [48]) {a r : List (Nat × Bs)} {x : Nat × Bs} {st : iM} (hw : a ++ x :: r = gQ 0 (FG 32 s)) (hf : uZ l 0 (false, []) (a.map (·.2)) = some st) (hx : HO l a.length st x.2 = none) : GO l s = ([], x.1, 440) := by
 obtain ⟨e1, e2⟩ := Hg hw
 rw [qL h1 h2 h3, e1, Cj hf, e2, List.length_map, Nat.zero_add]
 exact Ut hx
theorem wK (h1 : DL 8 l = true) (h2 : ¬ 4000 < s.length) (h3 : s ≠ [48]) {a : List (Nat × Bs)} {st : iM} (hw : a = gQ 0 (FG 32 s)) (hf : uZ l 0 (false, []) (a.map (·.2)) = some st) : GO l s = if a.length % 2 = 0 then ([], s.length + 1, 440) else (st.2, 0, 0) := by
 have e : a.map (·.2) = FG 32 s := by rw [hw, sA]
 have := Cj (rest := []) (at_ := 0) hf
 rw [List.append_nil] at this
 rw [qL h1 h2 h3, <- e, this, e, Ve]
 have f : (FG 32 s).length = a.length := by rw [<- e, List.length_map]
 simp only [QB, Nat.zero_add, f]
end
theorem Qj {L : List Bs} (hn : n <= 4000) (h : ∀ x ∈ L, x.length <= n) : FitQ (IN L).1 4000 := by
 have e : FitQ 1 4000 := ⟨(NF (m := 4) AE : Fits 1 4).mono AE, (NF (m := 4) AE : Fits 1 4).mono AE⟩
 cases L with
 | nil => exact e
 | cons a r =>
   unfold IN
   simp only
   cases f : ML a with
   | none => exact e
   | some c => exact mZ (Nat.le_trans (h a AH) hn) f
theorem kQ {l : List Bs} {w : Bs} (hw : w.length <= 4000) (h : bL l w = some (c, m)) : FitQ c 4000 := by
 unfold bL at h
 have f := Qj hw (fun x (hx : x ∈ FG 42 w) => ZW hx)
 cases e : GG l (IN (FG 42 w)).2 zeroM with
 | none => simp [e] at h
 | some m' =>
   simp only [e] at h
   split at h
   . simp only [Option.some.injEq, Prod.mk.injEq] at h
     rw [<- h.1]; exact f
   cases h
theorem Qg {w : Bs} : (OT i neg w).1.length <= w.length := by
 unfold OT
 split
 . split
   . simp
   exact Nat.le_refl _
 exact Nat.le_refl _
section
variable {P : Program} {Q : Exit -> Act -> World -> Prop} {ops : Array Oper}
theorem iL (hr : (results fn a.tmps).run P w = .ok v w) (hd : a.defers = []) (hR : R (.returned v) w) : bodyPostM Fence.wide n P fn R .ret a w := by
 show LeavesInM Fence.wide n P fn a.tmps R a.defers .returning w
 rw [hd]
 exact ⟨v, hr, hR⟩
theorem cC {D : Nat} (hk : w.heap[D]? = some (.deferred (some []))) (hd : a.defers = [{ target := .collected D, args := #[] }])
 (hr : (results fn a.tmps).run P (w.putObj D (.deferred none)) = .ok v (w.putObj D (.deferred none))) (hR : R (.returned v) (w.putObj D (.deferred none))) : bodyPostM Fence.wide n P fn R .ret a w := by
 show LeavesInM Fence.wide n P fn a.tmps R a.defers .returning w
 rw [hd]
 exact ⟨by simp, .inl ⟨D, _, rfl, run_takeDeferred hk, v, hr, hR⟩⟩
def Qd (ds : List Deferred) (Q : Exit -> Act -> World -> Prop) : Exit -> Act -> World -> Prop := fun e a w => Q e ⟨a.tmps, a.defers ++ ds⟩ w
theorem Tu {ds : List Deferred} {a : Act} {w : World} {K' : Act -> World -> Prop} (hK : ∀ a w, K' a w -> K ⟨a.tmps, a.defers ++ ds⟩ w) (h : o.wp P a w K' (Qd ds Q)) : o.wp P ⟨a.tmps, a.defers ++ ds⟩ w K Q := by
 have l : ∀ (d : Option Nat) (v : Value) (x : Act), (⟨x.tmps, x.defers ++ ds⟩ : Act).put d v = ⟨(x.put d v).tmps, (x.put d v).defers ++ ds⟩ := fun d v x => by cases d <;> rfl
 unfold Oper.wp Oper.upon at *
 have q : (⟨a.tmps, a.defers ++ ds⟩ : Act).eval = a.eval := by funext x; cases x <;> rfl
 rw [q]
 revert h
 generalize (execOp a.eval o).run P w = res
 intro h
 cases res with
 | ok nx w' =>
   cases nx with
   | value v => simp only at h ⊢; rw [l]; exact hK _ _ h
   | skip => simp only at h ⊢; rw [l]; exact hK _ _ h
   | defer d =>
     simp only at h ⊢
     have := l o.dst undef { a with defers := d :: a.defers }
     rw [show ({ tmps := a.tmps, defers := d :: (a.defers ++ ds) } : Act) = ⟨({ a with defers := d :: a.defers } : Act).tmps, ({ a with defers := d :: a.defers } : Act).defers ++ ds⟩ from rfl, this]
     exact hK _ _ h
   | enter f args =>
     refine Calls.mono h ?_
     intro e p k
     cases e with
     | returned v => simp only at k ⊢; rw [l]; exact hK _ _ k
     | panicked c => exact k
     | outgrown => obtain ⟨x, y, g⟩ := k; exact ⟨_, y, g⟩
   | row row args =>
     refine Rows.mono h ?_
     intro v p k
     rw [l]; exact hK _ _ k
   | _ => exact h
 | halt s w' => cases s <;> exact h
theorem tM {ds : List Deferred} : ∀ {l : List Oper} {a : Act} {w : World}, wpList P ops (Qd ds Q) l a w -> wpList P ops Q l ⟨a.tmps, a.defers ++ ds⟩ w
 | [], _, _, h => h
 | o :: l, a, w, h => by
   unfold wpList at h ⊢
   split at h
   . rename_i hw
     rw [if_pos hw]
     rcases h with h | ⟨h1, x, y, h2⟩
     . exact .inl (Tu (fun a w g => tM g) h)
     exact .inr ⟨by
      have he : (⟨a.tmps, a.defers ++ ds⟩ : Act).eval = a.eval := by funext x; cases x <;> rfl
      unfold Oper.asks at *; rw [he]; exact h1, _, y, h2⟩
   rename_i hw
   rw [if_neg hw]
   have := tM h
   cases hd : o.dst <;> (rw [hd] at this; exact this)
theorem RLd {ds : List Deferred} (h : WL P ops (Qd ds Q) ops.toList l w) : (Code.region id ops false).wp P Q ⟨l.toArray, ds⟩ w := AR (tM h.out)
end
end Go.Proofs.YtmppigbbkjepiaaGreatDoor
