/- Reading a term. (Printed by g_read2.py.) -/
import Derived.Test.YtmppigbbkjepiaaGreatDoorRead1
namespace Go.Proofs.YtmppigbbkjepiaaGreatDoor
open Go.Proofs.Tryz
open Go.RowKit W
theorem XG {b : UInt8} : ∀ {s x : Bs}, x ∈ EN b s → x.length ≤ s.length
  | [], x, h => by simp [EN] at h; subst h; simp
  | c :: s, x, h => by
    simp only [EN] at h
    have ih := fun y (hy : y ∈ EN b s) => XG (b := b) (s := s) hy
    split at h
    · rcases List.mem_cons.1 h with rfl | h
      · simp
      · have := ih x h; simp only [List.length_cons]; omega
    · cases hs : EN b s with
      | nil => exact absurd hs (OC b s)
      | cons y r =>
        rw [hs] at h ih
        rcases List.mem_cons.1 h with rfl | h
        · have := ih y AG; simp only [List.length_cons]; omega
        · have := ih x (by simp [h]); simp only [List.length_cons]; omega
theorem Kl (b : UInt8) (s : Bs) : 0 < (EN b s).length := by rw [TQ]; omega
theorem VN (b : UInt8) (s : Bs) : (EN b s).length ≤ s.length + 1 := by
  rw [TQ]; have := List.count_le_length (a := b) (l := s); omega
theorem Df {L : List Bs} {x : Bs} {c : Rat} (h : L[0]? = some x) (hp : PG x = some c) : KK L = (c, L.drop 1) := by
  cases L with
  | nil => cases h
  | cons y r => simp at h; subst h; unfold KK; simp only [hp]; rfl
theorem Dh {L : List Bs} {x : Bs} (h : L[0]? = some x) (hp : PG x = none) : KK L = (((1 : Int) : Rat), L) := by
  cases L with
  | nil => cases h
  | cons y r => simp at h; subst h; unfold KK; simp only [hp]; rfl
theorem rG {l : List Bs} {s : Bs} {c : Rat} {ws : List Bs} (h : KK (EN 42 s) = (c, ws)) (h2 : GS l ws zeroM = none) : cG l s = none := by unfold cG; rw [h]; simp only [h2]
theorem aI {l : List Bs} {s : Bs} {c : Rat} {ws : List Bs} {mm : List Nat} (h : KK (EN 42 s) = (c, ws)) (h2 : GS l ws zeroM = some mm) (h3 : ¬ (0 < c ∧ IC l c mm = s)) : cG l s = none := by unfold cG; rw [h]; simp only [h2]; rw [if_neg h3]
theorem yC {l : List Bs} {s : Bs} {c : Rat} {ws : List Bs} {mm : List Nat} (h : KK (EN 42 s) = (c, ws)) (h2 : GS l ws zeroM = some mm) (h3 : 0 < c) (h4 : IC l c mm = s) : cG l s = some (c, mm) := by unfold cG; rw [h]; simp only [h2]; rw [if_pos ⟨h3, h4⟩]
theorem YW {l : List Bs} : ∀ {a b : List Bs} {m : List Nat}, GS l (a ++ b) m = (GS l a m).bind (GS l b)
  | [], b, m => rfl
  | x :: a, b, m => by
    simp only [List.cons_append, GS]
    cases RQ l x with
    | none => rfl
    | some p => obtain ⟨v, n⟩ := p; exact YW
theorem dL {l ws : List Bs} {i : Nat} {x : Bs} {m : List Nat} {v n : Nat} (h : GS l (ws.take i) zeroM = some m) (hx : ws[i]? = some x) (hf : RQ l x = some (v, n)) : GS l (ws.take (i + 1)) zeroM = some (m.set v n) := by
  rw [JR hx, YW, h]
  simp [GS, hf]
theorem iM {l ws : List Bs} {i : Nat} {x : Bs} {m : List Nat} (h : GS l (ws.take i) zeroM = some m) (hx : ws[i]? = some x) (hf : RQ l x = none) : GS l ws zeroM = none := by
  have f := (List.getElem?_eq_some_iff.1 hx)
  have e : ws = ws.take i ++ x :: ws.drop (i + 1) := by
    rw [← f.2, ← List.drop_eq_getElem_cons, List.take_append_drop]
  rw [e, YW, h]
  simp [GS, hf]
theorem VW (s : Bs) (vl : Value) (l : List Bs) (v n : Nat) (w : World) (h : IsR elS (DI w.heap.size) w vl l) (hs : s.length ≤ 1000000) (hG : Glob w) (hf : RQ l s = some (v, n)) :
    Calls prog 90 #[.string (bs s), vl] w (FX w (.tuple #[.int .i64 ↑v, .int .i64 ↑n, .bool true])) := by
  have := aG s vl l w h hs hG
  rwa [Ic hf] at this
theorem YE (s : Bs) (vl : Value) (l : List Bs) (v n : Nat) (w : World) (h : IsR elS (DI w.heap.size) w vl l) (hs : s.length ≤ 1000000) (hG : Glob w) (hf : bD l s = (v, n, false)) :
    Calls prog 90 #[.string (bs s), vl] w (FX w (.tuple #[.int .i64 ↑v, .int .i64 ↑n, .bool false])) := by
  have := aG s vl l w h hs hG
  rwa [hf] at this
def Jk (w0 : World) (o : Option Tm) (e : Ending) (w' : World) : Prop := match o with
  | none => e = .returned (.tuple #[.agg (HY false (.slice none 0 0) false (.slice none 0 0) zeroM).toArray, .bool false]) ∧ Below w0.heap.size w0 w'
  | some t => ∃ n s m u, e = .returned (.tuple #[.agg (HY n s m u t.2).toArray, .bool true]) ∧ IsI w' (.agg #[.bool n, s]) t.1.num ∧ IsI w' (.agg #[.bool m, u]) ((t.1.den : Nat) : Int) ∧ Below w0.heap.size w0 w'
theorem lV {w0 w' : World} {o : Option Tm} (h : o = none) (hb : Below w0.heap.size w0 w') : Jk w0 o (.returned (.tuple #[.agg (HY false (.slice none 0 0) false (.slice none 0 0) zeroM).toArray, .bool false])) w' := by subst h; exact ⟨rfl, hb⟩
theorem Gh {w0 w' : World} {o : Option Tm} {c : Rat} {mm : List Nat} {n : Bool} {s : Value} {m : Bool} {u : Value} (h : o = some (c, mm)) (h1 : IsI w' (.agg #[.bool n, s]) c.num) (h2 : IsI w' (.agg #[.bool m, u]) ((c.den : Nat) : Int)) (hb : Below w0.heap.size w0 w') : Jk w0 o (.returned (.tuple #[.agg (HY n s m u mm).toArray, .bool true])) w' := by subst h; exact ⟨n, s, m, u, rfl, h1, h2, hb⟩
theorem gB {c : Rat} (h : 0 < c) : decide (NA c.num ≤ 0) = false := by
  have e : ¬ c.num ≤ 0 := by
    intro g
    rcases Int.lt_or_eq_of_le g with g | g
    · exact absurd (rat_neg.2 g) (oH h)
    · have : c = 0 := Rat.num_eq_zero.1 g
      rw [this] at h; exact absurd h AD
  exact qK Z
theorem rO {c : Rat} (h : ¬ 0 < c) : decide (NA c.num ≤ 0) = true := by
  have k : c.num ≤ 0 := by
    by_cases g : 0 < c.num
    · exfalso
      have f : 0 ≤ c := Rat.num_nonneg.1 Z
      rcases Rat.le_iff_lt_or_eq.1 f with e | e
      · exact h e
      · rw [← e] at g; exact absurd g AD
    · omega
  exact xV k
set_option maxRecDepth 100000 in
set_option maxHeartbeats 8000000 in
theorem OE (s : Bs) (vl : Value) (l : List Bs) (w : World) (hRl : IsR elS (DI w.heap.size) w vl l) (hs : s.length ≤ 4000) (hV : DS 8 l = true) (hG : Glob w) :
    Calls prog 42 #[.string (bs s), vl] w (Jk w (cG l s)) := by
 have E := Env.start w
 obtain ⟨a3, N, rfl, e2, e0⟩ := hRl.shp
 replace E := E.r hRl (DM _)
 clear hRl
 have e1 := KD hV
 have eb := hG.two
 replace E := E.gl hG
 go_enter func42, ntmps42
 refine yG ?_
 refine EF O (CA JW O ?_)
 intro b1 w1 c9 z1 d1 t
 have l1 : w.heap.size ≤ b1 := by rw [c9]; exact E.2.2.1.size
 replace E := E.below d1
 clear c9 z1 d1
 have cc : b1 < w1.heap.size := Bx.lt (t)
 refine yG ?_
 refine EF O (DN TH O (An s 42 _ Z E.1.1) O E ?_)
 clear E
 intro T v2 d2 f2 E
 replace t := t.below d2
 clear d2
 replace E := E.sz (Nat.le_refl T.heap.size)
 obtain ⟨D, o, rfl, cq, _⟩ := f2.shp
 replace E := E.r (e := elS) (S := GL w1.heap.size T.heap.size) f2 (fun _ g => g.2)
 refine yG ?_
 refine EF O (CZ NQ O (pJ 1 _ AD AD) O E ?_)
 clear E
 intro w4 n4 s4 m4 t4 d4 E
 replace t := t.below d4
 clear d4
 have F3 : FitQ ((1 : Int) : Rat) 4 := RC (k := 4) AD (EY AD AD)
 refine yG ?_
 refine V (v := .agg (HY n4 s4 m4 t4 zeroM).toArray) O O (dI O O) ?_
 refine yG ?_
 refine EF O (CA JW O ?_)
 intro b5 w5 b3 z5 d5 x5
 have cp : b1 < b5 := by rw [b3]; exact Bx.lt (t)
 have cf : T.heap.size ≤ b5 := by rw [b3]; exact CU (e3 E)
 replace E := E.below d5
 replace t := Bx.below t d5
 clear b3 z5 d5
 refine yG ?_
 refine EF O (BX JW O O O x5 (by first | rfl | exact CJ DC) (CJ DC) (FT (M := zeroM) (IsI.one E.2.1) (IsI.one E.1)) ?_)
 intro w6 o6 y6
 replace E := (E.onl (x5.noW (FR (M := zeroM) CW CW)) zK o6).x (cs := (HY n4 s4 m4 t4 zeroM)) y6
 replace t := Bx.onl t Z o6
 clear x5 o6 y6
 have ch := Kl 42 s
 have bw := VN 42 s
 obtain ⟨x7, Y⟩ : ∃ x, (EN 42 s)[0]? = some x := ⟨_, List.getElem?_eq_getElem ch⟩
 obtain ⟨P, a4, _, c7, c8, cm, ci⟩ := IsR.at (e3 E).1 Y
 obtain rfl := (show _ = [Value.string (bs x7)] from ci)
 have ck : P < _ := (e3 E).2 _ c8
 replace E := E.c cm ck
 have ea : w1.heap.size ≤ P ∧ P < T.heap.size := c8
 have dz := XG (List.mem_of_getElem? Y)
 by_cases hq : PG x7 = none
 case pos =>
  refine yG ?_
  refine mZ (j := 0) O O c7 O (by first | exact (List.getElem?_eq_some_iff.1 Y).1 | exact hi) ?_
  refine yG ?_
  refine EF O (WY RU O (tO x7 _ Z hq) O E ?_)
  clear E
  intro w8 n8 s8 m8 t8 d8 E
  replace t := t.below d8
  clear d8
  refine yG ?_
  refine EF O (CA GI O ?_)
  intro b9 w9 b2 z9 d9 x9
  have co : b5 < b9 := by rw [b2]; exact Bx.lt (e3 E)
  have ce : T.heap.size ≤ b9 := by rw [b2]; exact CU (e7 E)
  replace E := E.below d9
  replace t := Bx.below t d9
  clear b2 z9 d9
  refine yG ?_
  refine EF O (BX GI O O O x9 O O (LM (IsI.one E.2.1) (IsI.one E.1)) ?_)
  intro dw av bi
  replace E := (E.onl (x9.noW (NL CW CW)) zK av).x bi
  replace t := Bx.onl t Z av
  clear x9 av bi
  have L := Dh Y hq
  have cj : (EN 42 s).length ≤ s.length + 1 := by first | exact bw | (rw [List.length_drop]; omega)
  have az : (EN 42 s).length = (EN 42 s).length := rfl
  replace E := E.x t
  clear t
  refine yG ?_
  refine wp_loop_ghost (fun mz a w' => ∃ (i : Nat) (p : List Nat) (h : List Value), h = a.tmps.toList ∧ a = ⟨#[.string (bs s), .slice a3 l.length N, undef, undef, .pointer (some ⟨b1, 0, none⟩), CC h 5, .slice D ((EN 42 s).length) o, .pointer (some ⟨b5, 0, none⟩), .pointer (some ⟨b9, 0, none⟩), .int .i64 3, CC h 10, CC h 11, CC h 12, CC h 13, .string (bs s), .slice D ((EN 42 s).length) o, .agg #[.bool n4, s4, .bool m4, t4], .agg (HY n4 s4 m4 t4 zeroM).toArray, .tuple #[.agg #[.bool n8, s8, .bool m8, t8], .int .i64 3], .slice D ((EN 42 s).length) o, .pointer (some ⟨P, a4 + 0 * 1, none⟩), .string (bs x7), .tuple #[.agg #[.bool n8, s8, .bool m8, t8], .int .i64 3], .agg #[.bool n8, s8, .bool m8, t8], .int .i64 3, .int .i64 3, .bool false, undef, undef, undef, undef, .slice D ((EN 42 s).length) o, .int .i64 ↑((EN 42 s).length), .int .i64 ↑i, CC h 34, CC h 35, CC h 36, CC h 37, CC h 38, CC h 39, CC h 40, CC h 41, CC h 42, CC h 43, CC h 44, CC h 45, CC h 46, CC h 47, CC h 48, CC h 49, CC h 50, CC h 51, CC h 52, CC h 53, undef, undef, undef, undef, undef, undef, undef, undef, undef, undef, undef, undef, undef], []⟩ ∧ Env w' [fX b5 (88) (HY n4 s4 m4 t4 p), fX b1 (88) (HY false (.slice none 0 0) false (.slice none 0 0) zeroM), fX b9 (64) ([.bool n8, s8, .bool m8, t8]), fI (.agg #[.bool m8, t8]) 0, fI (.agg #[.bool n8, s8]) 0, fC P (a4 + 0 * 1) [.string (bs x7)], fI (.agg #[.bool m4, t4]) ((((1 : Int) : Rat).den : Nat) : Int), fI (.agg #[.bool n4, s4]) (((1 : Int) : Rat).num), fR elS (GL w1.heap.size T.heap.size) (.slice D ((EN 42 s).length) o) (EN 42 s), Kb T.heap.size, fGl, fR elS (DI w.heap.size) (.slice a3 l.length N) l, fW w] ∧ mz = ((EN 42 s).length) - i ∧ (i ≤ (EN 42 s).length ∧ GS l ((EN 42 s).take i) zeroM = some p ∧ ER p)) (((EN 42 s).length)) ⟨0, zeroM, _, O, O, zE, O, ⟨Nat.zero_le _, by simp [GS], DC⟩⟩ ?_
  rintro dy _ dv ⟨i, p, h, -, rfl, E, c1, ac⟩
  obtain ⟨ac, q⟩ := ac
  by_cases hi : i < (EN 42 s).length
  case pos =>
   obtain ⟨a0, G⟩ : ∃ x, (EN 42 s)[i]? = some x := ⟨_, List.getElem?_eq_getElem (show i < (EN 42 s).length by rw [az]; exact hi)⟩
   obtain ⟨a1, cn, _, a8, aa, c6, bz⟩ := IsR.at (e8 E).1 G
   obtain rfl := (show _ = [Value.string (bs a0)] from bz)
   have c3 : a1 < _ := (e8 E).2 _ aa
   replace E := E.c c6 c3
   have ct : w1.heap.size ≤ a1 ∧ a1 < T.heap.size := aa
   have aw := List.mem_of_getElem? G
   have bv : a0.length ≤ s.length := XG (aw)
   by_cases R : RQ l a0 = none
   case pos =>
    obtain ⟨v, n, b0⟩ := zL R
    refine yG ?_
    refine mZ O O a8 O (by first | exact (List.getElem?_eq_some_iff.1 G).1 | exact hi) ?_
    refine yG ?_
    refine EF O (BZ IX O (YE a0 _ l v n _ (BV (XX E)) Z (RG E).1 b0) O E ?_)
    clear E
    intro du _ E
    have aq := E.2.2.1
    refine yG ?_
    replace E := Sq E
    refine yG ?_
    refine EF O (BX JW O O O aq (by first | rfl | exact CJ DC) (CJ DC) (FT (M := zeroM) NG NG) ?_)
    intro dt bu bh
    replace E := (E.onl (aq.noW (FR (M := zeroM) CW CW)) zK bu).x (cs := (HY false (.slice none 0 0) false (.slice none 0 0) zeroM)) bh
    clear aq bu bh
    have Q := CY JW E.1 (CJ DC)
    refine yG ?_
    exact AP (v := .tuple #[.agg (HY false (.slice none 0 0) false (.slice none 0 0) zeroM).toArray, .bool false]) (by simp [results, results42, asAddr, Q]) O (lV (rG L (iM q.1 G R)) (VE E))
   obtain ⟨⟨v, n⟩, R⟩ := Option.ne_none_iff_exists'.1 R
   have ax := iN R
   have ay := vP (v := v) q.2 ax.2.2
   refine yG ?_
   refine mZ O O a8 O (by first | exact (List.getElem?_eq_some_iff.1 G).1 | exact hi) ?_
   refine yG ?_
   refine EF O (BZ IX O (VW a0 _ l v n _ (BV (XX E)) Z (RG E).1 R) O E ?_)
   clear E
   intro ds _ E
   have ap := E.2.1
   refine yG ?_
   replace E := So E
   refine yG ?_
   refine EF O (CF (v := .int .i64 ↑n) O lR O O O ap (by rw [CJ q.2]; omega) ?_)
   intro dr bt ae
   rw [xP] at ae
   replace E := (E.onl (ap.noW (FR (M := p) (IsI.now (e7 E)) (IsI.now (e6 E)))) zK bt).x (cs := (HY n4 s4 m4 t4 (p.set v n))) ae
   clear ap bt ae
   refine yG ?_
   exact ⟨_, (by rw [c1]; omega), (i + 1), (p.set v n), _, O, O, zE, O, ⟨by omega, dL q.1 G R, ay⟩⟩
  rw [List.take_of_length_le Z] at q
  by_cases C : 0 < ((1 : Int) : Rat)
  case neg =>
   refine yG ?_
   refine V O O (CD GI O O (Cs.sub (Bx.cs E.1) 0 (EK _ _ _ _ _)) O) ?_
   refine yG ?_
   refine EF O (CH DW O (OK _ _ _ _ ((1 : Int) : Rat) _ (e7 E) (e6 E)) O E ?_)
   clear E
   intro dj _ E
   refine yG ?_
   refine V O O (NJ (c := true) O O O (rO C)) ?_
   have am := E.2.1
   refine yG ?_
   replace E := So E
   refine yG ?_
   refine EF O (BX JW O O O am (by first | rfl | exact CJ DC) (CJ DC) (FT (M := zeroM) NG NG) ?_)
   intro di bp bd
   replace E := (E.onl (am.noW (FR (M := zeroM) CW CW)) zK bp).x (cs := (HY false (.slice none 0 0) false (.slice none 0 0) zeroM)) bd
   clear am bp bd
   have Q := CY JW E.1 (CJ DC)
   refine yG ?_
   exact AP (v := .tuple #[.agg (HY false (.slice none 0 0) false (.slice none 0 0) zeroM).toArray, .bool false]) (by simp [results, results42, asAddr, Q]) O (lV (aI L q.1 (fun g => C g.1)) (XX E))
  by_cases J : IC l ((1 : Int) : Rat) p = s
  case neg =>
   refine yG ?_
   refine V O O (CD GI O O (Cs.sub (Bx.cs E.1) 0 (EK _ _ _ _ _)) O) ?_
   refine yG ?_
   refine EF O (CH DW O (OK _ _ _ _ ((1 : Int) : Rat) _ (e7 E) (e6 E)) O E ?_)
   clear E
   intro dm _ E
   refine yG ?_
   refine V O O (NJ (c := false) O O O (gB C)) ?_
   refine yG ?_
   refine V I O (CD JW O O (Bx.cs E.1) (CJ q.2)) ?_
   refine yG ?_
   refine EF O (BZ EO O (KV _ _ _ _ ((1 : Int) : Rat) p _ l _ (e7 E) (e6 E) q.2 (BV (RG E)) (FitQ.mono F3 AD) hV (PP E).1) O E ?_)
   clear E
   intro dl _ E
   refine yG ?_
   refine V I O (GX (a := IC l ((1 : Int) : Rat) p) (b := s) (c := true) O O O (by rw [bne_iff_ne]; exact J)) ?_
   have an := E.2.1
   refine yG ?_
   replace E := So E
   refine yG ?_
   refine EF O (BX JW O O O an (by first | rfl | exact CJ DC) (CJ DC) (FT (M := zeroM) NG NG) ?_)
   intro dk bq bf
   replace E := (E.onl (an.noW (FR (M := zeroM) CW CW)) zK bq).x (cs := (HY false (.slice none 0 0) false (.slice none 0 0) zeroM)) bf
   clear an bq bf
   have Q := CY JW E.1 (CJ DC)
   refine yG ?_
   exact AP (v := .tuple #[.agg (HY false (.slice none 0 0) false (.slice none 0 0) zeroM).toArray, .bool false]) (by simp [results, results42, asAddr, Q]) O (lV (aI L q.1 (fun g => J g.2)) (XX E))
  refine yG ?_
  refine V O O (CD GI O O (Cs.sub (Bx.cs E.1) 0 (EK _ _ _ _ _)) O) ?_
  refine yG ?_
  refine EF O (CH DW O (OK _ _ _ _ ((1 : Int) : Rat) _ (e7 E) (e6 E)) O E ?_)
  clear E
  intro dq _ E
  refine yG ?_
  refine V O O (NJ (c := false) O O O (gB C)) ?_
  refine yG ?_
  refine V I O (CD JW O O (Bx.cs E.1) (CJ q.2)) ?_
  refine yG ?_
  refine EF O (BZ EO O (KV _ _ _ _ ((1 : Int) : Rat) p _ l _ (e7 E) (e6 E) q.2 (BV (RG E)) (FitQ.mono F3 AD) hV (PP E).1) O E ?_)
  clear E
  intro dp _ E
  refine yG ?_
  refine V I O (GX (a := IC l ((1 : Int) : Rat) p) (b := s) (c := false) O O O (by rw [bne_eq_false_iff_eq]; exact J)) ?_
  refine yG ?_
  refine V O O (CD JW O O (Bx.cs E.1) (CJ q.2)) ?_
  have ao := E.2.1
  replace E := So E
  refine yG ?_
  refine EF O (BX JW O O O ao (by first | rfl | exact CJ DC) (CJ q.2) (FT (M := p) (IsI.one (e6 E)) (IsI.one (e5 E))) ?_)
  intro dn br bg
  replace E := (E.onl (ao.noW (FR (M := zeroM) CW CW)) zK br).x (cs := (HY n4 s4 m4 t4 p)) bg
  clear ao br bg
  have Q := CY JW E.1 (CJ q.2)
  refine yG ?_
  exact AP (v := .tuple #[.agg (HY n4 s4 m4 t4 p).toArray, .bool true]) (by simp [results, results42, asAddr, Q]) O (Gh (yC L q.1 C J) (e7 E) (e6 E) (XX E))
 obtain ⟨c, hq⟩ := Option.ne_none_iff_exists'.1 hq
 have c4 := iS Z hq
 refine yG ?_
 refine mZ (j := 0) O O c7 O (by first | exact (List.getElem?_eq_some_iff.1 Y).1 | exact hi) ?_
 refine yG ?_
 refine EF O (WY RU O (tN x7 c _ Z hq) O E ?_)
 clear E
 intro dh z y B u ca E
 replace t := t.below ca
 clear ca
 refine yG ?_
 refine EF O (CA GI O ?_)
 intro a5 dg a2 cd b4 al
 have cg : b5 < a5 := by rw [a2]; exact Bx.lt (e3 E)
 have cb : T.heap.size ≤ a5 := by rw [a2]; exact CU (e7 E)
 replace E := E.below b4
 replace t := Bx.below t b4
 clear a2 cd b4
 refine yG ?_
 refine EF O (BX GI O O O al O O (LM (IsI.one E.2.1) (IsI.one E.1)) ?_)
 intro de au bc
 replace E := (E.onl (al.noW (NL CW CW)) zK au).x bc
 replace t := Bx.onl t Z au
 clear al au bc
 have ak := e4 E
 refine yG ?_
 replace E := Sr E
 refine yG ?_
 refine EF O (LI (cs' := (HY z y B u zeroM)) GI O O O ak O (by rw [CJ DC]; decide) (LM (IsI.one E.2.2.1) (IsI.one E.2.1)) O ?_)
 intro dd ar bb
 replace E := (E.onl (ak.noW (FR (M := zeroM) (IsI.now (e5 E)) (IsI.now (e4 E)))) zK ar).x (cs := (HY z y B u zeroM)) bb
 replace t := Bx.onl t Z ar
 clear ak ar bb
 obtain ⟨H, a7⟩ : ∃ a, xS D (1 * 1) (decide (o = 1)) = a := ⟨_, rfl⟩
 refine yG ?_
 refine V (v := .slice H (((EN 42 s).length) - 1) (o - 1)) O O (HI (i := 1) O underlying30 I O O O Z a7) ?_
 replace E := E.r (e := elS) (S := GL w1.heap.size T.heap.size) (MB (e7 E).1 Z a7) ((e7 E).2)
 have L := Df Y hq
 have cj : ((EN 42 s).drop 1).length ≤ s.length + 1 := by first | exact bw | (rw [List.length_drop]; omega)
 have az : ((EN 42 s).drop 1).length = ((EN 42 s).length) - 1 := List.length_drop
 replace E := E.x t
 clear t
 refine yG ?_
 refine wp_loop_ghost (fun mz a w' => ∃ (i : Nat) (p : List Nat) (f : List Value), a = ⟨#[.string (bs s), .slice a3 l.length N, undef, undef, .pointer (some ⟨b1, 0, none⟩), CC f 0, .slice H (((EN 42 s).length) - 1) (o - 1), .pointer (some ⟨b5, 0, none⟩), .pointer (some ⟨a5, 0, none⟩), .int .i64 0, CC f 1, CC f 2, CC f 3, CC f 4, .string (bs s), .slice D ((EN 42 s).length) o, .agg #[.bool n4, s4, .bool m4, t4], .agg (HY n4 s4 m4 t4 zeroM).toArray, .tuple #[.agg #[.bool z, y, .bool B, u], .int .i64 0], .slice D ((EN 42 s).length) o, .pointer (some ⟨P, a4 + 0 * 1, none⟩), .string (bs x7), .tuple #[.agg #[.bool z, y, .bool B, u], .int .i64 0], .agg #[.bool z, y, .bool B, u], .int .i64 0, .int .i64 0, .bool true, .agg #[.bool z, y, .bool B, u], .pointer (some ⟨b5, 0, none⟩), .slice D ((EN 42 s).length) o, .slice H (((EN 42 s).length) - 1) (o - 1), .slice H (((EN 42 s).length) - 1) (o - 1), .int .i64 ↑(((EN 42 s).length) - 1), .int .i64 ↑i, CC f 5, CC f 6, CC f 7, CC f 8, CC f 9, CC f 10, CC f 11, CC f 12, CC f 13, CC f 14, CC f 15, CC f 16, CC f 17, CC f 18, CC f 19, CC f 20, CC f 21, CC f 22, CC f 23, CC f 24, undef, undef, undef, undef, undef, undef, undef, undef, undef, undef, undef, undef, undef], []⟩ ∧ Env w' [fX b5 (88) (HY z y B u p), fX b1 (88) (HY false (.slice none 0 0) false (.slice none 0 0) zeroM), fR elS (GL w1.heap.size T.heap.size) (.slice H (((EN 42 s).length) - 1) (o - 1)) ((EN 42 s).drop 1), fX a5 (64) ([.bool z, y, .bool B, u]), fI (.agg #[.bool B, u]) ((c.den : Nat) : Int), fI (.agg #[.bool z, y]) c.num, fC P (a4 + 0 * 1) [.string (bs x7)], fI (.agg #[.bool m4, t4]) ((((1 : Int) : Rat).den : Nat) : Int), fI (.agg #[.bool n4, s4]) (((1 : Int) : Rat).num), fR elS (GL w1.heap.size T.heap.size) (.slice D ((EN 42 s).length) o) (EN 42 s), Kb T.heap.size, fGl, fR elS (DI w.heap.size) (.slice a3 l.length N) l, fW w] ∧ mz = (((EN 42 s).length) - 1) - i ∧ (i ≤ ((EN 42 s).length) - 1 ∧ GS l (((EN 42 s).drop 1).take i) zeroM = some p ∧ ER p)) ((((EN 42 s).length) - 1)) ⟨0, zeroM, [.bool false, undef, undef, undef, undef, undef, undef, undef, undef, undef, undef, undef, undef, undef, undef, undef, undef, undef, undef, undef, undef, undef, undef, undef, undef], O, zE, O, ⟨Nat.zero_le _, by simp [GS], DC⟩⟩ ?_
 rintro dx _ dc ⟨i, p, f, rfl, E, c0, ab⟩
 obtain ⟨ab, q⟩ := ab
 by_cases hi : i < ((EN 42 s).length) - 1
 case pos =>
  obtain ⟨X, F⟩ : ∃ x, ((EN 42 s).drop 1)[i]? = some x := ⟨_, List.getElem?_eq_getElem (show i < ((EN 42 s).drop 1).length by rw [az]; exact hi)⟩
  obtain ⟨U, bj, _, a6, a9, c5, bx⟩ := IsR.at E.2.2.1.1 F
  obtain rfl := (show _ = [Value.string (bs X)] from bx)
  have c2 : U < _ := E.2.2.1.2 _ a9
  replace E := E.c c5 c2
  have cr : w1.heap.size ≤ U ∧ U < T.heap.size := a9
  have aw := List.mem_of_getElem? F
  have bv : X.length ≤ s.length := XG (List.mem_of_mem_drop aw)
  by_cases R : RQ l X = none
  case pos =>
   obtain ⟨v, n, b0⟩ := zL R
   refine yG ?_
   refine mZ O O a6 O (by first | exact (List.getElem?_eq_some_iff.1 F).1 | exact hi) ?_
   refine yG ?_
   refine EF O (BZ IX O (YE X _ l v n _ (BV (VE E)) Z (XX E).1 b0) O E ?_)
   clear E
   intro db _ E
   have aj := E.2.2.1
   refine yG ?_
   replace E := Sq E
   refine yG ?_
   refine EF O (BX JW O O O aj (by first | rfl | exact CJ DC) (CJ DC) (FT (M := zeroM) NG NG) ?_)
   intro da bo ba
   replace E := (E.onl (aj.noW (FR (M := zeroM) CW CW)) zK bo).x (cs := (HY false (.slice none 0 0) false (.slice none 0 0) zeroM)) ba
   clear aj bo ba
   have Q := CY JW E.1 (CJ DC)
   refine yG ?_
   exact AP (v := .tuple #[.agg (HY false (.slice none 0 0) false (.slice none 0 0) zeroM).toArray, .bool false]) (by simp [results, results42, asAddr, Q]) O (lV (rG L (iM q.1 F R)) (kX E))
  obtain ⟨⟨v, n⟩, R⟩ := Option.ne_none_iff_exists'.1 R
  have ax := iN R
  have ay := vP (v := v) q.2 ax.2.2
  refine yG ?_
  refine mZ O O a6 O (by first | exact (List.getElem?_eq_some_iff.1 F).1 | exact hi) ?_
  refine yG ?_
  refine EF O (BZ IX O (VW X _ l v n _ (BV (VE E)) Z (XX E).1 R) O E ?_)
  clear E
  intro d7 _ E
  have ai := E.2.1
  refine yG ?_
  replace E := So E
  refine yG ?_
  refine EF O (CF (v := .int .i64 ↑n) O lR O O O ai (by rw [CJ q.2]; omega) ?_)
  intro d6 bn ad
  rw [xP] at ad
  replace E := (E.onl (ai.noW (FR (M := p) (IsI.now (e5 E)) (IsI.now (e4 E)))) zK bn).x (cs := (HY z y B u (p.set v n))) ad
  clear ai bn ad
  refine yG ?_
  exact ⟨_, (by rw [c0]; omega), (i + 1), (p.set v n), [CC f 0, .int .i64 ↑i, .int .i64 ↑v, .int .i64 ↑n, .bool true, .bool true, .int .i64 ↑i, .tuple #[.int .i64 ↑v, .int .i64 ↑n, .bool true], .slice H (((EN 42 s).length) - 1) (o - 1), .int .i64 ↑i, .pointer (some ⟨U, bj + i * 1, none⟩), .string (bs X), .slice a3 l.length N, .tuple #[.int .i64 ↑v, .int .i64 ↑n, .bool true], .int .i64 ↑v, .int .i64 ↑n, .bool true, .bool true, .bool false, CC f 19, .int .i64 ↑v, .int .i64 ↑n, .pointer (some ⟨b5, 4, none⟩), .pointer (some ⟨b5, 4 + v * 1, none⟩), .int .i64 ↑(i + 1)], O, zE, O, ⟨by omega, dL q.1 F R, ay⟩⟩
 rw [List.take_of_length_le Z] at q
 by_cases C : 0 < c
 case neg =>
  refine yG ?_
  refine V O O (CD GI O O (Cs.sub (Bx.cs E.1) 0 (EK _ _ _ _ _)) O) ?_
  refine yG ?_
  refine EF O (CH DW O (OK _ _ _ _ c _ (e5 E) (e4 E)) O E ?_)
  clear E
  intro cv _ E
  refine yG ?_
  refine V O O (NJ (c := true) O O O (rO C)) ?_
  have af := E.2.1
  refine yG ?_
  replace E := So E
  refine yG ?_
  refine EF O (BX JW O O O af (by first | rfl | exact CJ DC) (CJ DC) (FT (M := zeroM) NG NG) ?_)
  intro cu bk b6
  replace E := (E.onl (af.noW (FR (M := zeroM) CW CW)) zK bk).x (cs := (HY false (.slice none 0 0) false (.slice none 0 0) zeroM)) b6
  clear af bk b6
  have Q := CY JW E.1 (CJ DC)
  refine yG ?_
  exact AP (v := .tuple #[.agg (HY false (.slice none 0 0) false (.slice none 0 0) zeroM).toArray, .bool false]) (by simp [results, results42, asAddr, Q]) O (lV (aI L q.1 (fun g => C g.1)) (VE E))
 by_cases J : IC l c p = s
 case neg =>
  refine yG ?_
  refine V O O (CD GI O O (Cs.sub (Bx.cs E.1) 0 (EK _ _ _ _ _)) O) ?_
  refine yG ?_
  refine EF O (CH DW O (OK _ _ _ _ c _ (e5 E) (e4 E)) O E ?_)
  clear E
  intro cy _ E
  refine yG ?_
  refine V O O (NJ (c := false) O O O (gB C)) ?_
  refine yG ?_
  refine V I O (CD JW O O (Bx.cs E.1) (CJ q.2)) ?_
  refine yG ?_
  refine EF O (BZ EO O (KV _ _ _ _ c p _ l _ (e5 E) (e4 E) q.2 (BV (XX E)) (FitQ.mono c4 AD) hV (RG E).1) O E ?_)
  clear E
  intro cx _ E
  refine yG ?_
  refine V I O (GX (a := IC l c p) (b := s) (c := true) O O O (by rw [bne_iff_ne]; exact J)) ?_
  have ag := E.2.1
  refine yG ?_
  replace E := So E
  refine yG ?_
  refine EF O (BX JW O O O ag (by first | rfl | exact CJ DC) (CJ DC) (FT (M := zeroM) NG NG) ?_)
  intro cw bl b7
  replace E := (E.onl (ag.noW (FR (M := zeroM) CW CW)) zK bl).x (cs := (HY false (.slice none 0 0) false (.slice none 0 0) zeroM)) b7
  clear ag bl b7
  have Q := CY JW E.1 (CJ DC)
  refine yG ?_
  exact AP (v := .tuple #[.agg (HY false (.slice none 0 0) false (.slice none 0 0) zeroM).toArray, .bool false]) (by simp [results, results42, asAddr, Q]) O (lV (aI L q.1 (fun g => J g.2)) (VE E))
 refine yG ?_
 refine V O O (CD GI O O (Cs.sub (Bx.cs E.1) 0 (EK _ _ _ _ _)) O) ?_
 refine yG ?_
 refine EF O (CH DW O (OK _ _ _ _ c _ (e5 E) (e4 E)) O E ?_)
 clear E
 intro d3 _ E
 refine yG ?_
 refine V O O (NJ (c := false) O O O (gB C)) ?_
 refine yG ?_
 refine V I O (CD JW O O (Bx.cs E.1) (CJ q.2)) ?_
 refine yG ?_
 refine EF O (BZ EO O (KV _ _ _ _ c p _ l _ (e5 E) (e4 E) q.2 (BV (XX E)) (FitQ.mono c4 AD) hV (RG E).1) O E ?_)
 clear E
 intro d0 _ E
 refine yG ?_
 refine V I O (GX (a := IC l c p) (b := s) (c := false) O O O (by rw [bne_eq_false_iff_eq]; exact J)) ?_
 refine yG ?_
 refine V O O (CD JW O O (Bx.cs E.1) (CJ q.2)) ?_
 have ah := E.2.1
 replace E := So E
 refine yG ?_
 refine EF O (BX JW O O O ah (by first | rfl | exact CJ DC) (CJ q.2) (FT (M := p) (IsI.one (e4 E)) (IsI.one (e3 E))) ?_)
 intro cz bm b8
 replace E := (E.onl (ah.noW (FR (M := zeroM) CW CW)) zK bm).x (cs := (HY z y B u p)) b8
 clear ah bm b8
 have Q := CY JW E.1 (CJ q.2)
 refine yG ?_
 exact AP (v := .tuple #[.agg (HY z y B u p).toArray, .bool true]) (by simp [results, results42, asAddr, Q]) O (Gh (yC L q.1 C J) (e5 E) (e4 E) (VE E))
end Go.Proofs.YtmppigbbkjepiaaGreatDoor
