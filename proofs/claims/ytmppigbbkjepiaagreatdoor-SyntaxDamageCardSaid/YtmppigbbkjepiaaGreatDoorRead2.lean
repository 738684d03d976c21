/- Helping facts of Read2; no other conditions. -/
import Derived.Test.YtmppigbbkjepiaaGreatDoorRead1
namespace Go.Proofs.YtmppigbbkjepiaaGreatDoor
open Go.Proofs.Tryz
open Go.RowKit W
theorem YO {b : UInt8} : ∀ {s x : Bs}, x ∈ EM b s → x.length ≤ s.length
  | [], x, h => by simp [EM] at h; subst h; simp
  | c :: s, x, h => by
    simp only [EM] at h
    have ih := fun y (hy : y ∈ EM b s) => YO (b := b) (s := s) hy
    split at h
    · rcases List.mem_cons.1 h with rfl | h
      · simp
      · have := ih x h; simp only [List.length_cons]; omega
    · cases hs : EM b s with
      | nil => exact absurd hs (NK b s)
      | cons y r =>
        rw [hs] at h ih
        rcases List.mem_cons.1 h with rfl | h
        · have := ih y AH; simp only [List.length_cons]; omega
        · have := ih x (by simp [h]); simp only [List.length_cons]; omega
theorem Po (b : UInt8) (s : Bs) : 0 < (EM b s).length := by rw [UX]; omega
theorem WR (b : UInt8) (s : Bs) : (EM b s).length ≤ s.length + 1 := by
  rw [UX]; have := List.count_le_length (a := b) (l := s); omega
theorem Hs {L : List Bs} {x : Bs} {c : Rat} (h : L[0]? = some x) (hp : LW x = some c) : IB L = (c, L.drop 1) := by
  cases L with
  | nil => cases h
  | cons y r => simp at h; subst h; unfold IB; simp only [hp]; rfl
theorem Ht {L : List Bs} {x : Bs} (h : L[0]? = some x) (hp : LW x = none) : IB L = (((1 : Int) : Rat), L) := by
  cases L with
  | nil => cases h
  | cons y r => simp at h; subst h; unfold IB; simp only [hp]; rfl
theorem tS {l : List Bs} {s : Bs} {c : Rat} {ws : List Bs} (h : IB (EM 42 s) = (c, ws)) (h2 : FY l ws zeroM = none) : ZZ l s = none := by unfold ZZ; rw [h]; simp only [h2]
theorem bT {l : List Bs} {s : Bs} {c : Rat} {ws : List Bs} {mm : List Nat} (h : IB (EM 42 s) = (c, ws)) (h2 : FY l ws zeroM = some mm) (h3 : ¬ (0 < c ∧ FB l c mm = s)) : ZZ l s = none := by unfold ZZ; rw [h]; simp only [h2]; rw [if_neg h3]
theorem Bo {l : List Bs} {s : Bs} {c : Rat} {ws : List Bs} {mm : List Nat} (h : IB (EM 42 s) = (c, ws)) (h2 : FY l ws zeroM = some mm) (h3 : 0 < c) (h4 : FB l c mm = s) : ZZ l s = some (c, mm) := by unfold ZZ; rw [h]; simp only [h2]; rw [if_pos ⟨h3, h4⟩]
theorem aA {l : List Bs} : ∀ {a b : List Bs} {m : List Nat}, FY l (a ++ b) m = (FY l a m).bind (FY l b)
  | [], b, m => rfl
  | x :: a, b, m => by
    simp only [List.cons_append, FY]
    cases PX l x with
    | none => rfl
    | some p => obtain ⟨v, n⟩ := p; exact aA
theorem gB {l ws : List Bs} {i : Nat} {x : Bs} {m : List Nat} {v n : Nat} (h : FY l (ws.take i) zeroM = some m) (hx : ws[i]? = some x) (hf : PX l x = some (v, n)) : FY l (ws.take (i + 1)) zeroM = some (m.set v n) := by
  rw [MF hx, aA, h]
  simp [FY, hf]
theorem jY {l ws : List Bs} {i : Nat} {x : Bs} {m : List Nat} (h : FY l (ws.take i) zeroM = some m) (hx : ws[i]? = some x) (hf : PX l x = none) : FY l ws zeroM = none := by
  have f := (List.getElem?_eq_some_iff.1 hx)
  have e : ws = ws.take i ++ x :: ws.drop (i + 1) := by
    rw [← f.2, ← List.drop_eq_getElem_cons, List.take_append_drop]
  rw [e, aA, h]
  simp [FY, hf]
theorem XD (s : Bs) (vl : Value) (l : List Bs) (v n : Nat) (w : World) (h : IsR elS (DD w.heap.size) w vl l) (hs : s.length ≤ 1000000) (hG : Glob w) (hf : PX l s = some (v, n)) :
    Calls prog 90 #[.string (bs s), vl] w (GJ w (.tuple #[.int .i64 ↑v, .int .i64 ↑n, .bool true])) := by
  have := bQ s vl l w h hs hG
  rwa [Nb hf] at this
theorem ZI (s : Bs) (vl : Value) (l : List Bs) (v n : Nat) (w : World) (h : IsR elS (DD w.heap.size) w vl l) (hs : s.length ≤ 1000000) (hG : Glob w) (hf : cX l s = (v, n, false)) :
    Calls prog 90 #[.string (bs s), vl] w (GJ w (.tuple #[.int .i64 ↑v, .int .i64 ↑n, .bool false])) := by
  have := bQ s vl l w h hs hG
  rwa [hf] at this
def Ot (w0 : World) (o : Option Tm) (e : Ending) (w' : World) : Prop := match o with
  | none => e = .returned (.tuple #[.agg (HY false (.slice none 0 0) false (.slice none 0 0) zeroM).toArray, .bool false]) ∧ Below w0.heap.size w0 w'
  | some t => ∃ n s m u, e = .returned (.tuple #[.agg (HY n s m u t.2).toArray, .bool true]) ∧ IsI w' (.agg #[.bool n, s]) t.1.num ∧ IsI w' (.agg #[.bool m, u]) ((t.1.den : Nat) : Int) ∧ Below w0.heap.size w0 w'
theorem nT {w0 w' : World} {o : Option Tm} (h : o = none) (hb : Below w0.heap.size w0 w') : Ot w0 o (.returned (.tuple #[.agg (HY false (.slice none 0 0) false (.slice none 0 0) zeroM).toArray, .bool false])) w' := by subst h; exact ⟨rfl, hb⟩
theorem Kw {w0 w' : World} {o : Option Tm} {c : Rat} {mm : List Nat} {n : Bool} {s : Value} {m : Bool} {u : Value} (h : o = some (c, mm)) (h1 : IsI w' (.agg #[.bool n, s]) c.num) (h2 : IsI w' (.agg #[.bool m, u]) ((c.den : Nat) : Int)) (hb : Below w0.heap.size w0 w') : Ot w0 o (.returned (.tuple #[.agg (HY n s m u mm).toArray, .bool true])) w' := by subst h; exact ⟨n, s, m, u, rfl, h1, h2, hb⟩
theorem iO {c : Rat} (h : 0 < c) : decide (OB c.num ≤ 0) = false := by
  have e : ¬ c.num ≤ 0 := by
    intro g
    rcases Int.lt_or_eq_of_le g with g | g
    · exact absurd (rat_neg.2 g) (qL h)
    · have : c = 0 := Rat.num_eq_zero.1 g
      rw [this] at h; exact absurd h AE
  exact tA AA
theorem tX {c : Rat} (h : ¬ 0 < c) : decide (OB c.num ≤ 0) = true := by
  have k : c.num ≤ 0 := by
    by_cases g : 0 < c.num
    · exfalso
      have f : 0 ≤ c := Rat.num_nonneg.1 AA
      rcases Rat.le_iff_lt_or_eq.1 f with e | e
      · exact h e
      · rw [← e] at g; exact absurd g AE
    · omega
  exact Bf k
set_option maxRecDepth 100000 in
set_option maxHeartbeats 8000000 in
theorem PE (s : Bs) (vl : Value) (l : List Bs) (w : World) (hRl : IsR elS (DD w.heap.size) w vl l) (hs : s.length ≤ 4000) (hV : DF 8 l = true) (hG : Glob w) :
    Calls prog 42 #[.string (bs s), vl] w (Ot w (ZZ l s)) := by
 have E := Env.start w
 obtain ⟨a2, L, rfl, ef, ed⟩ := hRl.shp
 replace E := E.r hRl (DK _)
 have ee := IY hV
 have eh := hG.two
 replace E := E.gl hG
 go_enter func42, ntmps42
 refine yG ?_
 refine EF O (CB KP O ?_)
 intro b1 w1 cm z1 d1 t
 have l1 : w.heap.size ≤ b1 := by rw [cm]; exact E.2.2.1.size
 replace E := E.below d1
 have bo : b1 < w1.heap.size := Bx.lt (t)
 refine yG ?_
 refine EF O (CW UI O (Dw s 42 _ AA E.1.1) O E ?_)
 intro R v2 d2 f2 E
 replace t := t.below d2
 replace E := E.sz (Nat.le_refl R.heap.size)
 obtain ⟨D, o, rfl, cr, _⟩ := f2.shp
 replace E := E.r (e := elS) (S := DX w1.heap.size R.heap.size) f2 (fun _ g => g.2)
 refine yG ?_
 refine EF O (CV OJ O (rV 1 _ AE AE) O E ?_)
 intro w4 n4 s4 m4 Y d4 E
 replace t := t.below d4
 have F3 : FitQ ((1 : Int) : Rat) 4 := OX (k := 4) AE (EV AE AE)
 refine yG ?_
 refine V (v := .agg (HY n4 s4 m4 Y zeroM).toArray) O O (fY O O) ?_
 refine yG ?_
 refine EF O (CB KP O ?_)
 intro b5 w5 bl z5 d5 x5
 have cq : b1 < b5 := by rw [bl]; exact Bx.lt (t)
 have ce : R.heap.size ≤ b5 := by rw [bl]; exact CR (e3 E)
 replace E := E.below d5
 replace t := Bx.below t d5
 refine yG ?_
 refine EF O (BY KP O O O x5 (by first | rfl | exact CM CZ) (CM CZ) (GD (M := zeroM) (IsI.one E.2.1) (IsI.one E.1)) ?_)
 intro w6 o6 y6
 replace E := oY E x5 o6 y6 (ds := (HY n4 s4 m4 Y zeroM))
 replace t := Bx.onl t AA o6
 have cg := Po 42 s
 have b6 := WR 42 s
 obtain ⟨x7, X⟩ : ∃ x, (EM 42 s)[0]? = some x := ⟨_, List.getElem?_eq_getElem cg⟩
 obtain ⟨N, a3, _, bi, bj, ck, ch⟩ := IsR.at (e3 E).1 X
 obtain rfl := (show _ = [Value.string (bs x7)] from ch)
 have cj : N < _ := (e3 E).2 _ bj
 replace E := E.c ck cj
 have eg : w1.heap.size ≤ N ∧ N < R.heap.size := bj
 have ec := YO (List.mem_of_getElem? X)
 by_cases hq : LW x7 = none
 case pos =>
  refine yG ?_
  refine iD (j := 0) O O bi O (by first | exact (List.getElem?_eq_some_iff.1 X).1 | exact hi) ?_
  refine yG ?_
  refine EF O (YF TF O (wA x7 _ AA hq) O E ?_)
  intro w8 n8 s8 m8 t8 d8 E
  replace t := t.below d8
  refine yG ?_
  refine EF O (CB GV O ?_)
  intro b9 w9 bk z9 d9 x9
  have cp : b5 < b9 := by rw [bk]; exact Bx.lt (e3 E)
  have cd : R.heap.size ≤ b9 := by rw [bk]; exact CR (e7 E)
  replace E := E.below d9
  replace t := Bx.below t d9
  refine yG ?_
  refine EF O (BY GV O O O x9 O O (MH (IsI.one E.2.1) (IsI.one E.1)) ?_)
  intro dz b3 c2
  replace E := oY E x9 b3 c2
  replace t := Bx.onl t AA b3
  have J := Ht X hq
  have ci : (EM 42 s).length ≤ s.length + 1 := by first | exact b6 | (rw [List.length_drop]; omega)
  have ah : (EM 42 s).length = (EM 42 s).length := rfl
  replace E := E.x t
  refine yG ?_
  refine wp_loop_ghost (fun mz a w' => ∃ (i : Nat) (q : List Nat) (h : List Value), h = a.tmps.toList ∧ a = ⟨#[.string (bs s), .slice a2 l.length L, undef, undef, .pointer (some ⟨b1, 0, none⟩), CE h 5, .slice D ((EM 42 s).length) o, .pointer (some ⟨b5, 0, none⟩), .pointer (some ⟨b9, 0, none⟩), .int .i64 3, CE h 10, CE h 11, CE h 12, CE h 13, .string (bs s), .slice D ((EM 42 s).length) o, .agg #[.bool n4, s4, .bool m4, Y], .agg (HY n4 s4 m4 Y zeroM).toArray, .tuple #[.agg #[.bool n8, s8, .bool m8, t8], .int .i64 3], .slice D ((EM 42 s).length) o, .pointer (some ⟨N, a3 + 0 * 1, none⟩), .string (bs x7), .tuple #[.agg #[.bool n8, s8, .bool m8, t8], .int .i64 3], .agg #[.bool n8, s8, .bool m8, t8], .int .i64 3, .int .i64 3, .bool false, undef, undef, undef, undef, .slice D ((EM 42 s).length) o, .int .i64 ↑((EM 42 s).length), .int .i64 ↑i, CE h 34, CE h 35, CE h 36, CE h 37, CE h 38, CE h 39, CE h 40, CE h 41, CE h 42, CE h 43, CE h 44, CE h 45, CE h 46, CE h 47, CE h 48, CE h 49, CE h 50, CE h 51, CE h 52, CE h 53, undef, undef, undef, undef, undef, undef, undef, undef, undef, undef, undef, undef, undef], []⟩ ∧ Env w' [fX b5 (88) (HY n4 s4 m4 Y q), fX b1 (88) (HY false (.slice none 0 0) false (.slice none 0 0) zeroM), fX b9 (64) ([.bool n8, s8, .bool m8, t8]), fI (.agg #[.bool m8, t8]) 0, fI (.agg #[.bool n8, s8]) 0, fC N (a3 + 0 * 1) [.string (bs x7)], fI (.agg #[.bool m4, Y]) ((((1 : Int) : Rat).den : Nat) : Int), fI (.agg #[.bool n4, s4]) (((1 : Int) : Rat).num), fR elS (DX w1.heap.size R.heap.size) (.slice D ((EM 42 s).length) o) (EM 42 s), oZ R.heap.size, fGl, fR elS (DD w.heap.size) (.slice a2 l.length L) l, fW w] ∧ mz = ((EM 42 s).length) - i ∧ (i ≤ (EM 42 s).length ∧ FY l ((EM 42 s).take i) zeroM = some q ∧ EK q)) (((EM 42 s).length)) ⟨0, zeroM, _, O, O, zE, O, ⟨Nat.zero_le _, by simp [FY], CZ⟩⟩ ?_
  rintro eb _ dy ⟨i, q, h, -, rfl, E, bb, ac⟩
  obtain ⟨ac, p⟩ := ac
  by_cases hi : i < (EM 42 s).length
  case pos =>
   obtain ⟨a0, G⟩ : ∃ x, (EM 42 s)[i]? = some x := ⟨_, List.getElem?_eq_getElem (show i < (EM 42 s).length by rw [ah]; exact hi)⟩
   obtain ⟨a1, co, _, a8, aa, bh, b8⟩ := IsR.at (e8 E).1 G
   obtain rfl := (show _ = [Value.string (bs a0)] from b8)
   have bd : a1 < _ := (e8 E).2 _ aa
   replace E := E.c bh bd
   have cu : w1.heap.size ≤ a1 ∧ a1 < R.heap.size := aa
   have ae := List.mem_of_getElem? G
   have b4 : a0.length ≤ s.length := YO (ae)
   by_cases Q : PX l a0 = none
   case pos =>
    obtain ⟨v, n, ai⟩ := Ct Q
    refine yG ?_
    refine iD O O a8 O (by first | exact (List.getElem?_eq_some_iff.1 G).1 | exact hi) ?_
    refine yG ?_
    refine EF O (BZ JF O (ZI a0 _ l v n _ (BW (QP E)) AA (QQ E).1 ai) O E ?_)
    intro dx ew E
    have ay := E.2.2.1
    refine yG ?_
    replace E := mC E
    refine yG ?_
    refine EF O (BY KP O O O ay (by first | rfl | exact CM CZ) (CM CZ) (GD (M := zeroM) NX NX) ?_)
    intro dw cc c1
    replace E := oY E ay cc c1 (ds := (HY false (.slice none 0 0) false (.slice none 0 0) zeroM))
    have P := CY KP E.1 (CM CZ)
    refine yG ?_
    exact AQ (v := .tuple #[.agg (HY false (.slice none 0 0) false (.slice none 0 0) zeroM).toArray, .bool false]) (by simp [results, results42, asAddr, P]) O (nT (tS J (jY p.1 G Q)) (TI E))
   obtain ⟨⟨v, n⟩, Q⟩ := Option.ne_none_iff_exists'.1 Q
   have af := jZ Q
   have ag := qP (v := v) p.2 af.2.2
   refine yG ?_
   refine iD O O a8 O (by first | exact (List.getElem?_eq_some_iff.1 G).1 | exact hi) ?_
   refine yG ?_
   refine EF O (BZ JF O (XD a0 _ l v n _ (BW (QP E)) AA (QQ E).1 Q) O E ?_)
   intro dv ev E
   have ax := E.2.1
   refine yG ?_
   replace E := XQ E
   refine yG ?_
   refine EF O (CF (v := .int .i64 ↑n) O nP O O O ax (by rw [CM p.2]; omega) ?_)
   intro du cb ak
   rw [Ax] at ak
   replace E := oY E ax cb ak (ds := (HY n4 s4 m4 Y (q.set v n)))
   refine yG ?_
   exact ⟨_, (by rw [bb]; omega), (i + 1), (q.set v n), _, O, O, zE, O, ⟨by omega, gB p.1 G Q, ag⟩⟩
  rw [List.take_of_length_le AA] at p
  by_cases C : 0 < ((1 : Int) : Rat)
  case neg =>
   refine yG ?_
   refine V O O (CD GV O O (Cs.sub (Bx.cs E.1) 0 (FG _ _ _ _ _)) O) ?_
   refine yG ?_
   refine EF O (CK DV O (PI _ _ _ _ ((1 : Int) : Rat) _ (e7 E) (e6 E)) O E ?_)
   intro dl ep E
   refine yG ?_
   refine V O O (PO (c := true) O O O (tX C)) ?_
   have au := E.2.1
   refine yG ?_
   replace E := XQ E
   refine yG ?_
   refine EF O (BY KP O O O au (by first | rfl | exact CM CZ) (CM CZ) (GD (M := zeroM) NX NX) ?_)
   intro dk c8 bw
   replace E := oY E au c8 bw (ds := (HY false (.slice none 0 0) false (.slice none 0 0) zeroM))
   have P := CY KP E.1 (CM CZ)
   refine yG ?_
   exact AQ (v := .tuple #[.agg (HY false (.slice none 0 0) false (.slice none 0 0) zeroM).toArray, .bool false]) (by simp [results, results42, asAddr, P]) O (nT (bT J p.1 (fun g => C g.1)) (QP E))
  by_cases I : FB l ((1 : Int) : Rat) q = s
  case neg =>
   refine yG ?_
   refine V O O (CD GV O O (Cs.sub (Bx.cs E.1) 0 (FG _ _ _ _ _)) O) ?_
   refine yG ?_
   refine EF O (CK DV O (PI _ _ _ _ ((1 : Int) : Rat) _ (e7 E) (e6 E)) O E ?_)
   intro dp es E
   refine yG ?_
   refine V O O (PO (c := false) O O O (iO C)) ?_
   refine yG ?_
   refine V Z O (CD KP O O (Bx.cs E.1) (CM p.2)) ?_
   refine yG ?_
   refine EF O (BZ EY O (LP _ _ _ _ ((1 : Int) : Rat) q _ l _ (e7 E) (e6 E) p.2 (BW (QQ E)) (FitQ.mono F3 AE) hV (QM E).1) O E ?_)
   intro dn er E
   refine yG ?_
   refine V Z O (GR (a := FB l ((1 : Int) : Rat) q) (b := s) (c := true) O O O (by rw [bne_iff_ne]; exact I)) ?_
   have av := E.2.1
   refine yG ?_
   replace E := XQ E
   refine yG ?_
   refine EF O (BY KP O O O av (by first | rfl | exact CM CZ) (CM CZ) (GD (M := zeroM) NX NX) ?_)
   intro dm c9 bx
   replace E := oY E av c9 bx (ds := (HY false (.slice none 0 0) false (.slice none 0 0) zeroM))
   have P := CY KP E.1 (CM CZ)
   refine yG ?_
   exact AQ (v := .tuple #[.agg (HY false (.slice none 0 0) false (.slice none 0 0) zeroM).toArray, .bool false]) (by simp [results, results42, asAddr, P]) O (nT (bT J p.1 (fun g => I g.2)) (QP E))
  refine yG ?_
  refine V O O (CD GV O O (Cs.sub (Bx.cs E.1) 0 (FG _ _ _ _ _)) O) ?_
  refine yG ?_
  refine EF O (CK DV O (PI _ _ _ _ ((1 : Int) : Rat) _ (e7 E) (e6 E)) O E ?_)
  intro dt eu E
  refine yG ?_
  refine V O O (PO (c := false) O O O (iO C)) ?_
  refine yG ?_
  refine V Z O (CD KP O O (Bx.cs E.1) (CM p.2)) ?_
  refine yG ?_
  refine EF O (BZ EY O (LP _ _ _ _ ((1 : Int) : Rat) q _ l _ (e7 E) (e6 E) p.2 (BW (QQ E)) (FitQ.mono F3 AE) hV (QM E).1) O E ?_)
  intro dr et E
  refine yG ?_
  refine V Z O (GR (a := FB l ((1 : Int) : Rat) q) (b := s) (c := false) O O O (by rw [bne_eq_false_iff_eq]; exact I)) ?_
  refine yG ?_
  refine V O O (CD KP O O (Bx.cs E.1) (CM p.2)) ?_
  have aw := E.2.1
  replace E := XQ E
  refine yG ?_
  refine EF O (BY KP O O O aw (by first | rfl | exact CM CZ) (CM p.2) (GD (M := q) (IsI.one (e6 E)) (IsI.one (e5 E))) ?_)
  intro dq ca c0
  replace E := oY E aw ca c0 (ds := (HY n4 s4 m4 Y q))
  have P := CY KP E.1 (CM p.2)
  refine yG ?_
  exact AQ (v := .tuple #[.agg (HY n4 s4 m4 Y q).toArray, .bool true]) (by simp [results, results42, asAddr, P]) O (Kw (Bo J p.1 C I) (e7 E) (e6 E) (QP E))
 obtain ⟨c, hq⟩ := Option.ne_none_iff_exists'.1 hq
 have bf := kJ AA hq
 refine yG ?_
 refine iD (j := 0) O O bi O (by first | exact (List.getElem?_eq_some_iff.1 X).1 | exact hi) ?_
 refine yG ?_
 refine EF O (YF TF O (vZ x7 c _ AA hq) O E ?_)
 intro dj z y B u cn E
 replace t := t.below cn
 refine yG ?_
 refine EF O (CB GV O ?_)
 intro a4 di ad cv bm ar
 have cf : b5 < a4 := by rw [ad]; exact Bx.lt (e3 E)
 have bn : R.heap.size ≤ a4 := by rw [ad]; exact CR (e7 E)
 replace E := E.below bm
 replace t := Bx.below t bm
 refine yG ?_
 refine EF O (BY GV O O O ar O O (MH (IsI.one E.2.1) (IsI.one E.1)) ?_)
 intro dh b2 bv
 replace E := oY E ar b2 bv
 replace t := Bx.onl t AA b2
 have aq := e4 E
 refine yG ?_
 replace E := pC E
 refine yG ?_
 refine EF O (MD (cs' := (HY z y B u zeroM)) GV O O O aq O (by rw [CM CZ]; decide) (MH (IsI.one E.2.2.1) (IsI.one E.2.1)) O ?_)
 intro dg b0 bu
 replace E := oY E aq b0 bu (ds := (HY z y B u zeroM))
 replace t := Bx.onl t AA b0
 obtain ⟨H, a7⟩ : ∃ a, Bc D (1 * 1) (decide (o = 1)) = a := ⟨_, rfl⟩
 refine yG ?_
 refine V (v := .slice H (((EM 42 s).length) - 1) (o - 1)) O O (ID (i := 1) O underlying30 Z O O O AA a7) ?_
 replace E := E.r (e := elS) (S := DX w1.heap.size R.heap.size) (NB (e7 E).1 AA a7) ((e7 E).2)
 have J := Hs X hq
 have ci : ((EM 42 s).drop 1).length ≤ s.length + 1 := by first | exact b6 | (rw [List.length_drop]; omega)
 have ah : ((EM 42 s).drop 1).length = ((EM 42 s).length) - 1 := List.length_drop
 replace E := E.x t
 refine yG ?_
 refine wp_loop_ghost (fun mz a w' => ∃ (i : Nat) (q : List Nat) (f : List Value), a = ⟨#[.string (bs s), .slice a2 l.length L, undef, undef, .pointer (some ⟨b1, 0, none⟩), CE f 0, .slice H (((EM 42 s).length) - 1) (o - 1), .pointer (some ⟨b5, 0, none⟩), .pointer (some ⟨a4, 0, none⟩), .int .i64 0, CE f 1, CE f 2, CE f 3, CE f 4, .string (bs s), .slice D ((EM 42 s).length) o, .agg #[.bool n4, s4, .bool m4, Y], .agg (HY n4 s4 m4 Y zeroM).toArray, .tuple #[.agg #[.bool z, y, .bool B, u], .int .i64 0], .slice D ((EM 42 s).length) o, .pointer (some ⟨N, a3 + 0 * 1, none⟩), .string (bs x7), .tuple #[.agg #[.bool z, y, .bool B, u], .int .i64 0], .agg #[.bool z, y, .bool B, u], .int .i64 0, .int .i64 0, .bool true, .agg #[.bool z, y, .bool B, u], .pointer (some ⟨b5, 0, none⟩), .slice D ((EM 42 s).length) o, .slice H (((EM 42 s).length) - 1) (o - 1), .slice H (((EM 42 s).length) - 1) (o - 1), .int .i64 ↑(((EM 42 s).length) - 1), .int .i64 ↑i, CE f 5, CE f 6, CE f 7, CE f 8, CE f 9, CE f 10, CE f 11, CE f 12, CE f 13, CE f 14, CE f 15, CE f 16, CE f 17, CE f 18, CE f 19, CE f 20, CE f 21, CE f 22, CE f 23, CE f 24, undef, undef, undef, undef, undef, undef, undef, undef, undef, undef, undef, undef, undef], []⟩ ∧ Env w' [fX b5 (88) (HY z y B u q), fX b1 (88) (HY false (.slice none 0 0) false (.slice none 0 0) zeroM), fR elS (DX w1.heap.size R.heap.size) (.slice H (((EM 42 s).length) - 1) (o - 1)) ((EM 42 s).drop 1), fX a4 (64) ([.bool z, y, .bool B, u]), fI (.agg #[.bool B, u]) ((c.den : Nat) : Int), fI (.agg #[.bool z, y]) c.num, fC N (a3 + 0 * 1) [.string (bs x7)], fI (.agg #[.bool m4, Y]) ((((1 : Int) : Rat).den : Nat) : Int), fI (.agg #[.bool n4, s4]) (((1 : Int) : Rat).num), fR elS (DX w1.heap.size R.heap.size) (.slice D ((EM 42 s).length) o) (EM 42 s), oZ R.heap.size, fGl, fR elS (DD w.heap.size) (.slice a2 l.length L) l, fW w] ∧ mz = (((EM 42 s).length) - 1) - i ∧ (i ≤ ((EM 42 s).length) - 1 ∧ FY l (((EM 42 s).drop 1).take i) zeroM = some q ∧ EK q)) ((((EM 42 s).length) - 1)) ⟨0, zeroM, [.bool false, undef, undef, undef, undef, undef, undef, undef, undef, undef, undef, undef, undef, undef, undef, undef, undef, undef, undef, undef, undef, undef, undef, undef, undef], O, zE, O, ⟨Nat.zero_le _, by simp [FY], CZ⟩⟩ ?_
 rintro ea _ de ⟨i, q, f, rfl, E, ba, ab⟩
 obtain ⟨ab, p⟩ := ab
 by_cases hi : i < ((EM 42 s).length) - 1
 case pos =>
  obtain ⟨U, F⟩ : ∃ x, ((EM 42 s).drop 1)[i]? = some x := ⟨_, List.getElem?_eq_getElem (show i < ((EM 42 s).drop 1).length by rw [ah]; exact hi)⟩
  obtain ⟨T, az, _, a6, a9, bg, b7⟩ := IsR.at E.2.2.1.1 F
  obtain rfl := (show _ = [Value.string (bs U)] from b7)
  have bc : T < _ := E.2.2.1.2 _ a9
  replace E := E.c bg bc
  have ct : w1.heap.size ≤ T ∧ T < R.heap.size := a9
  have ae := List.mem_of_getElem? F
  have b4 : U.length ≤ s.length := YO (List.mem_of_mem_drop ae)
  by_cases Q : PX l U = none
  case pos =>
   obtain ⟨v, n, ai⟩ := Ct Q
   refine yG ?_
   refine iD O O a6 O (by first | exact (List.getElem?_eq_some_iff.1 F).1 | exact hi) ?_
   refine yG ?_
   refine EF O (BZ JF O (ZI U _ l v n _ (BW (TI E)) AA (QP E).1 ai) O E ?_)
   intro dd eo E
   have ap := E.2.2.1
   refine yG ?_
   replace E := mC E
   refine yG ?_
   refine EF O (BY KP O O O ap (by first | rfl | exact CM CZ) (CM CZ) (GD (M := zeroM) NX NX) ?_)
   intro dc c7 bt
   replace E := oY E ap c7 bt (ds := (HY false (.slice none 0 0) false (.slice none 0 0) zeroM))
   have P := CY KP E.1 (CM CZ)
   refine yG ?_
   exact AQ (v := .tuple #[.agg (HY false (.slice none 0 0) false (.slice none 0 0) zeroM).toArray, .bool false]) (by simp [results, results42, asAddr, P]) O (nT (tS J (jY p.1 F Q)) (iU E))
  obtain ⟨⟨v, n⟩, Q⟩ := Option.ne_none_iff_exists'.1 Q
  have af := jZ Q
  have ag := qP (v := v) p.2 af.2.2
  refine yG ?_
  refine iD O O a6 O (by first | exact (List.getElem?_eq_some_iff.1 F).1 | exact hi) ?_
  refine yG ?_
  refine EF O (BZ JF O (XD U _ l v n _ (BW (TI E)) AA (QP E).1 Q) O E ?_)
  intro db en E
  have ao := E.2.1
  refine yG ?_
  replace E := XQ E
  refine yG ?_
  refine EF O (CF (v := .int .i64 ↑n) O nP O O O ao (by rw [CM p.2]; omega) ?_)
  intro da c6 aj
  rw [Ax] at aj
  replace E := oY E ao c6 aj (ds := (HY z y B u (q.set v n)))
  refine yG ?_
  exact ⟨_, (by rw [ba]; omega), (i + 1), (q.set v n), [CE f 0, .int .i64 ↑i, .int .i64 ↑v, .int .i64 ↑n, .bool true, .bool true, .int .i64 ↑i, .tuple #[.int .i64 ↑v, .int .i64 ↑n, .bool true], .slice H (((EM 42 s).length) - 1) (o - 1), .int .i64 ↑i, .pointer (some ⟨T, az + i * 1, none⟩), .string (bs U), .slice a2 l.length L, .tuple #[.int .i64 ↑v, .int .i64 ↑n, .bool true], .int .i64 ↑v, .int .i64 ↑n, .bool true, .bool true, .bool false, CE f 19, .int .i64 ↑v, .int .i64 ↑n, .pointer (some ⟨b5, 4, none⟩), .pointer (some ⟨b5, 4 + v * 1, none⟩), .int .i64 ↑(i + 1)], O, zE, O, ⟨by omega, gB p.1 F Q, ag⟩⟩
 rw [List.take_of_length_le AA] at p
 by_cases C : 0 < c
 case neg =>
  refine yG ?_
  refine V O O (CD GV O O (Cs.sub (Bx.cs E.1) 0 (FG _ _ _ _ _)) O) ?_
  refine yG ?_
  refine EF O (CK DV O (PI _ _ _ _ c _ (e5 E) (e4 E)) O E ?_)
  intro cx ei E
  refine yG ?_
  refine V O O (PO (c := true) O O O (tX C)) ?_
  have al := E.2.1
  refine yG ?_
  replace E := XQ E
  refine yG ?_
  refine EF O (BY KP O O O al (by first | rfl | exact CM CZ) (CM CZ) (GD (M := zeroM) NX NX) ?_)
  intro cw c3 bp
  replace E := oY E al c3 bp (ds := (HY false (.slice none 0 0) false (.slice none 0 0) zeroM))
  have P := CY KP E.1 (CM CZ)
  refine yG ?_
  exact AQ (v := .tuple #[.agg (HY false (.slice none 0 0) false (.slice none 0 0) zeroM).toArray, .bool false]) (by simp [results, results42, asAddr, P]) O (nT (bT J p.1 (fun g => C g.1)) (TI E))
 by_cases I : FB l c q = s
 case neg =>
  refine yG ?_
  refine V O O (CD GV O O (Cs.sub (Bx.cs E.1) 0 (FG _ _ _ _ _)) O) ?_
  refine yG ?_
  refine EF O (CK DV O (PI _ _ _ _ c _ (e5 E) (e4 E)) O E ?_)
  intro d0 ek E
  refine yG ?_
  refine V O O (PO (c := false) O O O (iO C)) ?_
  refine yG ?_
  refine V Z O (CD KP O O (Bx.cs E.1) (CM p.2)) ?_
  refine yG ?_
  refine EF O (BZ EY O (LP _ _ _ _ c q _ l _ (e5 E) (e4 E) p.2 (BW (QP E)) (FitQ.mono bf AE) hV (QQ E).1) O E ?_)
  intro cz ej E
  refine yG ?_
  refine V Z O (GR (a := FB l c q) (b := s) (c := true) O O O (by rw [bne_iff_ne]; exact I)) ?_
  have am := E.2.1
  refine yG ?_
  replace E := XQ E
  refine yG ?_
  refine EF O (BY KP O O O am (by first | rfl | exact CM CZ) (CM CZ) (GD (M := zeroM) NX NX) ?_)
  intro cy c4 bq
  replace E := oY E am c4 bq (ds := (HY false (.slice none 0 0) false (.slice none 0 0) zeroM))
  have P := CY KP E.1 (CM CZ)
  refine yG ?_
  exact AQ (v := .tuple #[.agg (HY false (.slice none 0 0) false (.slice none 0 0) zeroM).toArray, .bool false]) (by simp [results, results42, asAddr, P]) O (nT (bT J p.1 (fun g => I g.2)) (TI E))
 refine yG ?_
 refine V O O (CD GV O O (Cs.sub (Bx.cs E.1) 0 (FG _ _ _ _ _)) O) ?_
 refine yG ?_
 refine EF O (CK DV O (PI _ _ _ _ c _ (e5 E) (e4 E)) O E ?_)
 intro d7 em E
 refine yG ?_
 refine V O O (PO (c := false) O O O (iO C)) ?_
 refine yG ?_
 refine V Z O (CD KP O O (Bx.cs E.1) (CM p.2)) ?_
 refine yG ?_
 refine EF O (BZ EY O (LP _ _ _ _ c q _ l _ (e5 E) (e4 E) p.2 (BW (QP E)) (FitQ.mono bf AE) hV (QQ E).1) O E ?_)
 intro d6 el E
 refine yG ?_
 refine V Z O (GR (a := FB l c q) (b := s) (c := false) O O O (by rw [bne_eq_false_iff_eq]; exact I)) ?_
 refine yG ?_
 refine V O O (CD KP O O (Bx.cs E.1) (CM p.2)) ?_
 have an := E.2.1
 replace E := XQ E
 refine yG ?_
 refine EF O (BY KP O O O an (by first | rfl | exact CM CZ) (CM p.2) (GD (M := q) (IsI.one (e4 E)) (IsI.one (e3 E))) ?_)
 intro d3 c5 br
 replace E := oY E an c5 br (ds := (HY z y B u q))
 have P := CY KP E.1 (CM p.2)
 refine yG ?_
 exact AQ (v := .tuple #[.agg (HY z y B u q).toArray, .bool true]) (by simp [results, results42, asAddr, P]) O (Kw (Bo J p.1 C I) (e5 E) (e4 E) (TI E))
end Go.Proofs.YtmppigbbkjepiaaGreatDoor
