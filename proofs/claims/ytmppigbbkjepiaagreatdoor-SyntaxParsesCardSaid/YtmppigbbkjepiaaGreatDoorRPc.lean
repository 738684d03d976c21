/- Helping facts of RPa; no other conditions. Helping facts of RPb; no other conditions. Helping facts of Made6; no other conditions. Helping facts of Made32; no other conditions. Helping facts of RPc; no other conditions. -/
import Derived.Test.YtmppigbbkjepiaaGreatDoorRRead3
import Derived.Test.YtmppigbbkjepiaaGreatDoorOpnS
import Derived.Deep.Slices
import Derived.OpenShut
set_option maxHeartbeats 8000000
set_option maxRecDepth 100000
namespace Go.Proofs.YtmppigbbkjepiaaGreatDoor
open Go.Proofs.Tryz
open Go.RowKit W
variable {K : Act -> World -> Prop} {L : List SF} {P : Program} {Q : Exit -> Act -> World -> Prop} {a : Act} {args : List Operand} {b c i id n next : Nat} {b0 neq ok : Bool} {o : Oper} {p : Prop} {tys : Array TypeId} {vs : List Value} {vv : Value} {w w' : World}
theorem YIk (h : p := by rw [List.length_drop]; omega) : p := h
theorem Y6M (h : p := by have := h.le; omega) : p := h
theorem YqR (h : p := by simp [results, results73, asAddr, r1]) : p := h
theorem Z1c (h : p := by
 cases Q : EA ((1 : Nat) : Int) ((999999 : Nat) : Int) (s.take i) with
 | none =>
  refine yG ?_
  refine V (v := .string (bs (s.take i))) O O (QU (a := s) (j := i) O underlying9 O O O AA) ?_
  refine yG ?_
  refine EF O (CB DH O (UQ (s.take i) 1 999999 _ (by rw [List.length_take]; omega) AE Q) O E ?_)
  intro c1 co E
  have ac := E.1
  refine yG ?_
  replace E := YE E
  refine yG ?_
  refine EF O (BY LS O O O ac O O (CG O (CG O DP)) ?_)
  intro c0 b7 aw
  replace E := oY E ac b7 aw (ds := [.int .i64 0, .slice none 0 0])
  have r1 := CL LS E.1 rfl
  refine yG ?_
  exact AQ (v := .tuple #[.agg #[.int .i64 0, .slice none 0 0], .bool false, .bool false]) YqR O ⟨_, 0, [], false, false, O, IsR.nil _ _ _, fun t ht => (by cases ht), Nat.zero_le _, Qx G C f Q, E.2.2.1⟩
 | some id =>
  refine yG ?_
  refine V (v := .string (bs (s.take i))) O O (QU (a := s) (j := i) O underlying9 O O O AA) ?_
  refine yG ?_
  refine EF O (CB DH O (SH (s.take i) 1 999999 id _ (by rw [List.length_take]; omega) AE Q) O E ?_)
  intro bx cm E
  cases R : Lib.hasPrefix (s.drop i) JC with
  | false =>
   refine yG ?_
   refine V (v := .string (bs (s.drop i))) Z O (KD (a := s) (j := i) O underlying9 O O O AA) ?_
   refine yG ?_
   refine EF O (CA JI O (CT (show Lib.hasPrefix (s.drop i) [58, 32] = false from R) (YA (s.drop i) ([58, 32]) _)) O E ?_)
   intro bw ck E
   have ab := E.1
   refine yG ?_
   replace E := YE E
   refine yG ?_
   refine EF O (BY LS O O O ab O O (CG O (CG O DP)) ?_)
   intro bv b6 av
   replace E := oY E ab b6 av (ds := [.int .i64 0, .slice none 0 0])
   have r1 := CL LS E.1 rfl
   refine yG ?_
   exact AQ (v := .tuple #[.agg #[.int .i64 0, .slice none 0 0], .bool false, .bool false]) YqR O ⟨_, 0, [], false, false, O, IsR.nil _ _ _, fun t ht => (by cases ht), Nat.zero_le _, Qv G C f B Q R, E.2.2.1⟩
  | true =>
   have a7 : 2 <= (s.drop i).length := by have := (List.isPrefixOf_iff_prefix.1 (show List.isPrefixOf JC (s.drop i) = true from R)).length_le; exact this
   rw [List.length_drop] at a7
   have hz : (s.drop i).drop 2 = s.drop (i + 2) := by rw [List.drop_drop]
   obtain ⟨p, pos, er, D⟩ : ∃ a b c, EE l (s.drop (i + 2)) = (a, b, c) := ⟨_, _, _, rfl⟩
   obtain ⟨P, N⟩ := TY D
   refine yG ?_
   refine V (v := .string (bs (s.drop i))) Z O (KD (a := s) (j := i) O underlying9 O O O AA) ?_
   refine yG ?_
   refine EF O (CA JI O (CT (show Lib.hasPrefix (s.drop i) [58, 32] = true from R) (YA (s.drop i) ([58, 32]) _)) O E ?_)
   intro X cj E
   refine yG ?_
   refine V (v := .int .i64 ((i + 2 : Nat) : Int)) O O (KM O O O (NC AA AA)) ?_
   refine V (v := .string (bs (s.drop (i + 2)))) O O (KD (a := s) (j := (i + 2)) O underlying9 O O O AA) ?_
   have J : w.heap.size <= X.heap.size := E.2.2.1.size
   have ai : b1 < X.heap.size := Bx.lt E.1
   refine yG ?_
   refine EF O (HH (r := (p, pos, er)) UW O (by have a2 := vM (s.drop (i + 2)) _ l X (BW E.2.1) hll YIk; rw [D] at a2; exact a2) O E ?_)
   intro a3 cc bk ao E
   have bn := bk.size
   replace E := E.sz (Nat.le_refl a3.heap.size)
   have al := ao
   obtain ⟨u, o, rfl, bf, _⟩ := ao.shp
   replace E := E.r (e := JQ) (S := EM X.heap.size a3.heap.size) (show IsR JQ (EM X.heap.size a3.heap.size) a3 _ p from al) (fun _ g => g.2)
   by_cases a0 : er = 0
   case neg =>
    refine yG ?_
    refine V (v := .agg #[.int .i64 ↑id, .slice u p.length o]) O O (KV O O O) ?_
    have a8 := E.2.2.1
    refine yG ?_
    replace E := VC E
    refine yG ?_
    refine EF O (BY LS O O O a8 O O (CG O (CG O DP)) ?_)
    intro bp b3 aq
    replace E := oY E a8 b3 aq (ds := [.int .i64 ↑id, .slice u p.length o])
    have r1 := CL LS E.1 rfl
    refine yG ?_
    exact AQ (v := .tuple #[.agg #[.int .i64 ↑id, .slice u p.length o], .bool (Lib.hasSuffix t NL), .bool false]) YqR O ⟨_, id, p, (Lib.hasSuffix t NL), false, O, E.2.1.1.mono (fun k I => ⟨Nat.le_trans J I.1, E.2.1.2 k I⟩), P, N, jH (b := Lib.hasSuffix t NL) G C f B Q R hz D O (decide_eq_false (fun g => a0 g.1)).symm, e4 E⟩
   by_cases a1 : QQ p <= 12
   case pos =>
    refine yG ?_
    refine V (v := .agg #[.int .i64 ↑id, .slice u p.length o]) O O (KV O O O) ?_
    refine yG ?_
    refine EF O (CC OA O (ZB _ p _ (BW E.1) AA) O E ?_)
    intro bu ci E
    have aa := E.2.2.1
    refine yG ?_
    replace E := VC E
    refine yG ?_
    refine EF O (BY LS O O O aa O O (CG O (CG O DP)) ?_)
    intro bt b5 au
    replace E := oY E aa b5 au (ds := [.int .i64 ↑id, .slice u p.length o])
    have r1 := CL LS E.1 rfl
    refine yG ?_
    exact AQ (v := .tuple #[.agg #[.int .i64 ↑id, .slice u p.length o], .bool (Lib.hasSuffix t NL), .bool true]) YqR O ⟨_, id, p, (Lib.hasSuffix t NL), true, O, E.2.1.1.mono (fun k I => ⟨Nat.le_trans J I.1, E.2.1.2 k I⟩), P, N, jH (b := Lib.hasSuffix t NL) G C f B Q R hz D O (decide_eq_true ⟨a0, a1⟩).symm, e4 E⟩
   refine yG ?_
   refine V (v := .agg #[.int .i64 ↑id, .slice u p.length o]) O O (KV O O O) ?_
   refine yG ?_
   refine EF O (CC OA O (ZB _ p _ (BW E.1) AA) O E ?_)
   intro br ch E
   have a9 := E.2.2.1
   refine yG ?_
   replace E := VC E
   refine yG ?_
   refine EF O (BY LS O O O a9 O O (CG O (CG O DP)) ?_)
   intro bq b4 ar
   replace E := oY E a9 b4 ar (ds := [.int .i64 ↑id, .slice u p.length o])
   have r1 := CL LS E.1 rfl
   refine yG ?_
   exact AQ (v := .tuple #[.agg #[.int .i64 ↑id, .slice u p.length o], .bool (Lib.hasSuffix t NL), .bool false]) YqR O ⟨_, id, p, (Lib.hasSuffix t NL), false, O, E.2.1.1.mono (fun k I => ⟨Nat.le_trans J I.1, E.2.1.2 k I⟩), P, N, jH (b := Lib.hasSuffix t NL) G C f B Q R hz D O (decide_eq_false (fun g => a1 g.2)).symm, e4 E⟩
 ) : p := h
theorem hp_no {s p : Bs} (h : ¬ p.length <= s.length) : Lib.hasPrefix s p = false := by
 rw [Bool.eq_false_iff]; intro g; unfold Lib.hasPrefix at g
 exact h (List.isPrefixOf_iff_prefix.1 g).length_le
theorem hp_eq {s p : Bs} : Lib.hasPrefix s p = true ↔ s.take p.length = p := by
 unfold Lib.hasPrefix; rw [List.isPrefixOf_iff_prefix, List.prefix_iff_eq_take]; exact eq_comm
theorem hs_no {s p : Bs} (h : ¬ p.length <= s.length) : Lib.hasSuffix s p = false := by
 rw [Bool.eq_false_iff]; intro g; unfold Lib.hasSuffix at g
 exact h (List.isSuffixOf_iff_suffix.1 g).length_le
theorem hs_eq {s p : Bs} : Lib.hasSuffix s p = true ↔ s.drop (s.length - p.length) = p := by
 unfold Lib.hasSuffix; rw [List.isSuffixOf_iff_suffix, List.suffix_iff_eq_drop]; exact eq_comm
theorem nb_f {b : Bool} (h : ¬ b = true) : false = b := by cases b <;> simp_all
def Yc (w : World) (l : List Bs) (b : Bool) (e : Ending) (w' : World) : Prop := ∃ v, e = .returned (.tuple #[v, .bool b]) /\ qU w l w' v /\ Below w.heap.size w w'
theorem pX {f : Nat} {l : List Bs} {b : Bool} (hf : Fn P f)
 (ho : o.op = .call { callee := .value (.func f), args := args.toArray, argTypes := tys }) (hc : Calls P f vs.toArray w (Yc w l b)) (hv : args.map a.eval = vs) (E : Env w L)
 (h : ∀ w' v, Below w.heap.size w w' -> qU w l w' v -> Env w' L -> K (a.put o.dst (.tuple #[v, .bool b])) w') : o.wp P a w K Q := by
 refine CZ hf ho hc hv ?_
 rintro e w' ⟨v, rfl, p, k⟩
 exact ⟨_, rfl, h w' v k p (E.below k)⟩
def Yd (w : World) (r : Option (Bool × En)) (e : Ending) (w' : World) : Prop := ∃ v, ∃ id : Nat, ∃ p neq ok, e = .returned (.tuple #[.agg #[.int .i64 ↑id, v], .bool neq, .bool ok]) /\ NewP w p w' v /\ (∀ t ∈ p, FitQ t.1 4000) /\ p.length <= 4001 /\ r = (if ok then some (neq, id, p) else none) /\ Below w.heap.size w w'
theorem pY {f : Nat} {r : Option (Bool × En)} (hf : Fn P f)
 (ho : o.op = .call { callee := .value (.func f), args := args.toArray, argTypes := tys }) (hc : Calls P f vs.toArray w (Yd w r)) (hv : args.map a.eval = vs) (E : Env w L)
 (h : ∀ w' v (id : Nat) p neq ok, Below w.heap.size w w' -> NewP w p w' v -> (∀ t ∈ p, FitQ t.1 4000) -> p.length <= 4001 -> r = (if ok then some (neq, id, p) else none) -> Env w' L -> K (a.put o.dst (.tuple #[.agg #[.int .i64 ↑id, v], .bool neq, .bool ok])) w') : o.wp P a w K Q := by
 refine CZ hf ho hc hv ?_
 rintro e w' ⟨v, id, p, neq, ok, rfl, y, u, q, l, k⟩
 exact ⟨_, rfl, h w' v id p neq ok k y u q l (E.below k)⟩
theorem Qu {vs : List Bs} {l : Bs} (h1 : Lib.hasSuffix l NL = false) (h2 : Lib.hasSuffix l ZR = false) : XV vs l = none := by unfold XV; rw [if_pos ⟨h1, h2⟩]
theorem vA {vs : List Bs} {l s : Bs} (h : ¬ (Lib.hasSuffix l NL = false /\ Lib.hasSuffix l ZR = false)) (hs : MU l = s) : XV vs l = match EA 1 999999 (dJ s) with
 | none => none
 | some id => Km vs l s id := by
 subst hs; unfold XV; rw [if_neg h]
 cases EA 1 999999 (dJ (MU l)) <;> rfl
theorem Qx {vs : List Bs} {l s x : Bs} (h : ¬ (Lib.hasSuffix l NL = false /\ Lib.hasSuffix l ZR = false)) (hs : MU l = s) (hp : dJ s = x) (hn : EA ((1 : Nat) : Int) ((999999 : Nat) : Int) x = none) : XV vs l = none := by
 rw [vA h hs, hp, show EA 1 999999 x = none from hn]
theorem Qv {vs : List Bs} {l s x y : Bs} (h : ¬ (Lib.hasSuffix l NL = false /\ Lib.hasSuffix l ZR = false)) (hs : MU l = s) (hp : dJ s = x) (hy : WP s = y) (hn : EA ((1 : Nat) : Int) ((999999 : Nat) : Int) x = some id) (hc : Lib.hasPrefix y JC = false) : XV vs l = none := by
 rw [vA h hs, hp, show EA 1 999999 x = some id from hn]
 unfold Km; rw [hy, hc]; simp
theorem jH {vs : List Bs} {l s x y z : Bs} {e : Nat} {p : List Tm} {b : Bool} (h : ¬ (Lib.hasSuffix l NL = false /\ Lib.hasSuffix l ZR = false)) (hs : MU l = s) (hp : dJ s = x) (hy : WP s = y) (hn : EA ((1 : Nat) : Int) ((999999 : Nat) : Int) x = some id) (hc : Lib.hasPrefix y JC = true) (hz : y.drop 2 = z) (hr : EE vs z = (p, n, e)) (hb : Lib.hasSuffix l NL = b) (hok : ok = decide (e = 0 /\ QQ p <= 12)) :
 XV vs l = if ok then some (b, id, p) else none := by
 rw [vA h hs, hp, show EA 1 999999 x = some id from hn]
 unfold Km; rw [hy, hz, hr, hc, hb, hok]
 simp
theorem Th {l : Bs} (h : Lib.hasSuffix l NL = true) : MU l = l.take (l.length - 5) := by
 unfold MU; rw [if_pos h]; unfold Lib.trimSuffix; rw [if_pos h]; rfl
theorem Ti {l : Bs} (h : Lib.hasSuffix l NL = false) (h2 : Lib.hasSuffix l ZR = true) : MU l = l.take (l.length - 4) := by
 unfold MU; rw [if_neg (by rw [h]; simp)]; unfold Lib.trimSuffix; rw [if_pos h2]; rfl
theorem Eu {l p : Bs} (h : Lib.hasSuffix l p = true) : p.length <= l.length := by unfold Lib.hasSuffix at h; exact (List.isSuffixOf_iff_suffix.1 h).length_le
theorem Ox {s : Bs} (h : ∀ j, j < i -> s[j]? ≠ some 58) (he : ¬ i < s.length ∨ s[i]? = some 58) (hi : i <= s.length) : dJ s = s.take i /\ WP s = s.drop i := by
 induction s generalizing i with
 | nil => exact ⟨by simp [dJ], by simp [WP]⟩
 | cons c s ih =>
   cases i with
   | zero =>
     rcases he with he | he
     . simp at he
     simp at he; subst he; exact ⟨by simp [dJ], by simp [WP]⟩
   | succ i =>
     have e : c ≠ 58 := fun g => h 0 AA (by simp [g])
     obtain ⟨a, b⟩ := ih (i := i) (fun j f => by have := h (j + 1) AA; simpa using this) (by simpa using he) (by simpa using hi)
     unfold dJ WP at *
     rw [List.takeWhile_cons, List.dropWhile_cons, if_pos (by simpa using e), if_pos (by simpa using e), a, b]
     exact ⟨rfl, rfl⟩
theorem YA (s : Bs) (p : Bs) (w : World) :
 Calls prog 71 #[.string (bs s), .string (bs p)] w (LN w (Lib.hasPrefix s p)) := by
 have E := Env.start w
 go_enter func71, ntmps71
 by_cases f : p.length <= s.length
 case neg =>
  refine yG ?_
  exact ⟨(by rw [hp_no f]), E.1⟩
 by_cases e : s.take p.length = p
 . refine yG ?_
   refine V (v := .string (bs (s.take p.length))) Z O (QU (a := s) (j := p.length) O underlying9 O O O AA) ?_
   refine yG ?_
   refine V Z O (EO (a := s.take p.length) (b := p) (c := true) O O O (by rw [beq_iff_eq]; exact e)) ?_
   refine yG ?_
   exact ⟨(by rw [hp_eq.2 e]), E.1⟩
 refine yG ?_
 refine V (v := .string (bs (s.take p.length))) Z O (QU (a := s) (j := p.length) O underlying9 O O O AA) ?_
 refine yG ?_
 refine V Z O (EO (a := s.take p.length) (b := p) (c := false) O O O (by rw [beq_eq_false_iff_ne]; exact e)) ?_
 refine yG ?_
 exact ⟨(by rw [<- nb_f (fun g => e (hp_eq.1 g))]), E.1⟩
theorem Df (s : Bs) (p : Bs) (w : World) (hsl : s.length <= 1000000) :
 Calls prog 115 #[.string (bs s), .string (bs p)] w (LN w (Lib.hasSuffix s p)) := by
 have E := Env.start w
 go_enter func115, ntmps115
 by_cases f : p.length <= s.length
 case neg =>
  refine yG ?_
  exact ⟨(by rw [hs_no f]), E.1⟩
 by_cases e : s.drop (s.length - p.length) = p
 . refine yG ?_
   refine V (v := .int .i64 ↑(s.length - p.length)) Z O (FM O O O (NC AA AA)) ?_
   refine yG ?_
   refine V (v := .string (bs (s.drop (s.length - p.length)))) Z O (KD (a := s) (j := (s.length - p.length)) O underlying9 O O O AA) ?_
   refine yG ?_
   refine V Z O (EO (a := s.drop (s.length - p.length)) (b := p) (c := true) O O O (by rw [beq_iff_eq]; exact e)) ?_
   refine yG ?_
   exact ⟨(by rw [hs_eq.2 e]), E.1⟩
 refine yG ?_
 refine V (v := .int .i64 ↑(s.length - p.length)) Z O (FM O O O (NC AA AA)) ?_
 refine yG ?_
 refine V (v := .string (bs (s.drop (s.length - p.length)))) Z O (KD (a := s) (j := (s.length - p.length)) O underlying9 O O O AA) ?_
 refine yG ?_
 refine V Z O (EO (a := s.drop (s.length - p.length)) (b := p) (c := false) O O O (by rw [beq_eq_false_iff_ne]; exact e)) ?_
 refine yG ?_
 exact ⟨(by rw [<- nb_f (fun g => e (hs_eq.1 g))]), E.1⟩
theorem Yl (t : Bs) (w : World) (ht : t.length <= 1000000) :
 Calls prog 70 #[.string (bs t)] w (Yc w (DI 32 t).tail (decide ((DI 32 t).head? = some vaB /\ DM 4 (DI 32 t).tail = true))) := by
 have E := Env.start w
 go_enter func70, ntmps70
 have R : w.heap.size <= w.heap.size := E.1.size
 refine yG ?_
 refine EF O (DE KG O (wQ t _ AA) O E ?_)
 intro I v1 d1 U E
 have z1 := d1.size
 replace E := E.sz (Nat.le_refl I.heap.size)
 obtain ⟨J, f, rfl, T, _⟩ := U.shp
 replace E := E.r (e := elS) (S := EM w.heap.size I.heap.size) U (fun _ g => g.2)
 have Y := PP 32 t
 have P : 1 <= (DI 32 t).length := List.length_pos_iff.2 (PN 32 t)
 obtain ⟨G, l⟩ : ∃ x, (DI 32 t)[0]? = some x := ⟨_, List.getElem?_eq_getElem P⟩
 obtain ⟨C, X, _, D, H, Q, L⟩ := IsR.at E.1.1 l
 obtain rfl := (show _ = [Value.string (bs G)] from L)
 have N : C < _ := E.1.2 _ H
 replace E := E.c Q N
 have a0 : w.heap.size <= C /\ C < I.heap.size := H
 have y : (DI 32 t).head? = some G := by rw [List.head?_eq_getElem?]; exact l
 obtain ⟨q, h⟩ : ∃ a, Ba J (1 * 1) (decide (f = 1)) = a := ⟨_, rfl⟩
 replace E := E.r (e := elS) (S := EM w.heap.size I.heap.size) (MF (i := 1) E.2.1.1 AA h) E.2.1.2
 by_cases p : G = [118, 97, 114, 115]
 case neg =>
  refine yG ?_
  refine sE E [0,1,2,3,4,5,6,7,8,9,10,11,12] ?_
  replace E := E.drew
  refine yG ?_
  refine SW (v := .slice q (((DI 32 t).length) - 1) (f - 1)) O O O O O (fun w F => FK (i := 1) O underlying30 Z O O O AA h) ?_
  refine yG ?_
  refine Af (j := 0) O O O D O (List.getElem?_eq_some_iff.1 l).1 ?_
  refine yG ?_
  refine SW O O O O O (fun w F => EO (a := G) (b := [118, 97, 114, 115]) (c := false) O O O (by rw [beq_eq_false_iff_ne]; exact p)) ?_
  refine yG ?_
  exact (by rw [(decide_eq_false (fun g => p (Option.some.inj (y.symm.trans g.1))))]; exact ⟨_, rfl, by rw [<- List.drop_one]; exact (E.1.1).mono (fun k B => ⟨Nat.le_trans (Nat.le_refl _) B.1, E.1.2 k B⟩), e4 E⟩)
 by_cases u : DM 4 ((DI 32 t).drop 1) = true
 case pos =>
  refine yG ?_
  refine sE E [0,1,2,3,4,5,6,7,8,9,10,11,12] ?_
  replace E := E.drew
  refine yG ?_
  refine SW (v := .slice q (((DI 32 t).length) - 1) (f - 1)) O O O O O (fun w F => FK (i := 1) O underlying30 Z O O O AA h) ?_
  refine yG ?_
  refine Af (j := 0) O O O D O (List.getElem?_eq_some_iff.1 l).1 ?_
  refine yG ?_
  refine SW O O O O O (fun w F => EO (a := G) (b := [118, 97, 114, 115]) (c := true) O O O (by rw [beq_iff_eq]; exact p)) ?_
  refine yG ?_
  refine SW (v := .slice q (((DI 32 t).length) - 1) (f - 1)) O O O Z O (fun w F => FK (i := 1) O underlying30 Z O O O AA h) ?_
  refine yG ?_
  refine GG (o := ⟨some 16, _, _, _, _, _⟩) O O O O (CA OS O (CT u (iG _ ((DI 32 t).drop 1) 4 _ (BW E.1) YIk)) O E ?_)
  intro w2 d2 E
  refine ⟨E, ?_⟩
  refine yG ?_
  exact (by rw [(decide_eq_true ⟨by rw [y, p]; rfl, by rw [<- List.drop_one]; exact u⟩)]; exact ⟨_, rfl, by rw [<- List.drop_one]; exact (E.1.1).mono (fun k B => ⟨Nat.le_trans (Nat.le_refl _) B.1, E.1.2 k B⟩), e4 E⟩)
 refine yG ?_
 refine sE E [0,1,2,3,4,5,6,7,8,9,10,11,12] ?_
 replace E := E.drew
 refine yG ?_
 refine SW (v := .slice q (((DI 32 t).length) - 1) (f - 1)) O O O O O (fun w F => FK (i := 1) O underlying30 Z O O O AA h) ?_
 refine yG ?_
 refine Af (j := 0) O O O D O (List.getElem?_eq_some_iff.1 l).1 ?_
 refine yG ?_
 refine SW O O O O O (fun w F => EO (a := G) (b := [118, 97, 114, 115]) (c := true) O O O (by rw [beq_iff_eq]; exact p)) ?_
 refine yG ?_
 refine SW (v := .slice q (((DI 32 t).length) - 1) (f - 1)) O O O Z O (fun w F => FK (i := 1) O underlying30 Z O O O AA h) ?_
 refine yG ?_
 refine GG (o := ⟨some 16, _, _, _, _, _⟩) O O O O (CA OS O (CT (DY u) (iG _ ((DI 32 t).drop 1) 4 _ (BW E.1) YIk)) O E ?_)
 intro w4 d4 E
 refine ⟨E, ?_⟩
 refine yG ?_
 exact (by rw [(decide_eq_false (fun g => u (by rw [List.drop_one]; exact g.2)))]; exact ⟨_, rfl, by rw [<- List.drop_one]; exact (E.1.1).mono (fun k B => ⟨Nat.le_trans (Nat.le_refl _) B.1, E.1.2 k B⟩), e4 E⟩)
theorem eqn_r (t : Bs) (vl : Value) (l : List Bs) (w : World) (hRl : IsR elS (DL w.heap.size) w vl l) (ht : t.length <= 1000000) (hll : l.length <= 1000000) :
 Calls prog 73 #[.string (bs t), vl] w (Yd w (XV l t)) := by
 have E := Env.start w
 obtain ⟨U, H, rfl, cg, cf⟩ := hRl.shp
 replace E := E.r hRl (DZ _)
 go_enter func73, ntmps73
 refine yG ?_
 refine EF O (BZ LS O ?_)
 intro b1 w1 bj z1 d1 x1
 have l1 : w.heap.size <= b1 := by rw [bj]; exact E.2.1.size
 replace E := E.below d1
 refine yG ?_
 refine EF O (CA UV O (CT (show Lib.hasSuffix t [32, 33, 61, 32, 48] = Lib.hasSuffix t NL from O) (Df t ([32, 33, 61, 32, 48]) _ AA)) O E ?_)
 intro w2 d2 E
 replace x1 := x1.below d2
 replace E := E.x x1
 refine yG ?_
 refine mT (fun a w' => ∃ (T : Nat) (gc : List Value), a = ⟨#[.string (bs t), .slice U l.length H, undef, undef, .pointer (some ⟨b1, 0, none⟩), .bool false, .bool false, .bool (Lib.hasSuffix t NL), .int .i64 ↑T, undef, undef, undef, undef, undef, .string (bs t), .bool (Lib.hasSuffix t NL), CJ gc 0, undef, undef, undef, undef, undef, undef, undef, undef, undef, undef, undef, undef, undef, undef, undef, undef, undef, undef, undef, undef, undef, undef, undef, undef, undef, undef, undef, undef, undef, undef, undef, undef, undef, undef, undef, undef, undef, undef, undef, undef, undef, undef, undef, undef, undef, undef, undef, undef, undef, undef, undef, undef, undef, undef, undef, undef, undef, undef, undef, undef, undef], []⟩ /\ (Lib.hasSuffix t NL = true /\ T = 5 ∨ Lib.hasSuffix t NL = false /\ T = 4) /\ Env w' [fX b1 (83) ([.int .i64 0, .slice none 0 0]), fR elS (DL w.heap.size) (.slice U l.length H) l, fW w]) ?_ ?_
 case refine_1 =>
  cases hA : Lib.hasSuffix t NL with
  | false =>
   refine yG ?_
   exact ⟨4, [.bool false], rfl, AH, zE⟩
  | true =>
   refine yG ?_
   exact ⟨5, [.bool true], rfl, AH, zE⟩
 case refine_2 =>
  rintro _ w3 ⟨T, gc, rfl, an, E⟩
  change Code.wp _ _ _ _ _
  refine wp_seq ?_
  refine mT (fun a w' => ∃ (gd : List Value), a = ⟨#[.string (bs t), .slice U l.length H, undef, undef, .pointer (some ⟨b1, 0, none⟩), .bool false, .bool false, .bool (Lib.hasSuffix t NL), .int .i64 ↑T, undef, undef, undef, undef, undef, .string (bs t), .bool (Lib.hasSuffix t NL), CJ gc 0, CJ gd 0, CJ gd 1, CJ gd 2, CJ gd 3, CJ gd 4, CJ gd 5, CJ gd 6, undef, undef, undef, undef, undef, undef, undef, undef, undef, undef, undef, undef, undef, undef, undef, undef, undef, undef, undef, undef, undef, undef, undef, undef, undef, undef, undef, undef, undef, undef, undef, undef, undef, undef, undef, undef, undef, undef, undef, undef, undef, undef, undef, undef, undef, undef, undef, undef, undef, undef, undef, undef, undef, undef], []⟩ /\ (¬ (Lib.hasSuffix t NL = false /\ Lib.hasSuffix t ZR = false) /\ MU t = t.take (t.length - T) /\ T <= t.length) /\ Env w' [fX b1 (83) ([.int .i64 0, .slice none 0 0]), fR elS (DL w.heap.size) (.slice U l.length H) l, fW w]) ?_ ?_
  case refine_1 =>
   cases hA : Lib.hasSuffix t NL with
   | false =>
    cases hB : Lib.hasSuffix t ZR with
    | false =>
     refine yG ?_
     refine EF O (CA UV O (CT (show Lib.hasSuffix t [32, 61, 32, 48] = false from hB) (Df t ([32, 61, 32, 48]) _ AA)) O E ?_)
     intro w4 d4 E
     have x6 := E.1
     refine yG ?_
     replace E := YE E
     refine yG ?_
     refine EF O (BY LS O O O x6 O O (CG O (CG O DP)) ?_)
     intro w5 o5 y5
     replace E := oY E x6 o5 y5 (ds := [.int .i64 0, .slice none 0 0])
     have r1 := CL LS E.1 rfl
     refine yG ?_
     exact AQ (v := .tuple #[.agg #[.int .i64 0, .slice none 0 0], .bool false, .bool false]) YqR O ⟨_, 0, [], false, false, O, IsR.nil _ _ _, fun t ht => (by cases ht), Nat.zero_le _, Qu hA hB, E.2.2.1⟩
    | true =>
     refine yG ?_
     refine EF O (CA UV O (CT (show Lib.hasSuffix t [32, 61, 32, 48] = true from hB) (Df t ([32, 61, 32, 48]) _ AA)) O E ?_)
     intro w7 d7 E
     refine yG ?_
     exact ⟨[.bool false, .bool true, .bool true, .string (bs t), .bool true, .bool false, .bool false], rfl, ⟨AH, (by rcases an with ⟨h, _⟩ | ⟨_, h⟩; rw [hA] at h; cases h; subst h; exact ⟨Ti hA hB, Eu hB⟩)⟩, zE⟩
   | true =>
    refine yG ?_
    exact ⟨[.bool true, .bool false, .bool false, undef, undef, undef, .bool false], rfl, ⟨AH, (by rcases an with ⟨_, h⟩ | ⟨h, _⟩; subst h; exact ⟨Th hA, Eu hA⟩; rw [hA] at h; cases h)⟩, zE⟩
  case refine_2 =>
   rintro _ w8 ⟨gd, rfl, ⟨G, C, bm⟩, E⟩
   refine yG ?_
   refine V (v := .int .i64 ↑(t.length - T)) O O (FM O O O (NC AA AA)) ?_
   refine V (v := .string (bs (t.take (t.length - T)))) O O (QU (a := t) (j := (t.length - T)) O underlying9 O O O AA) ?_
   obtain ⟨s, hs⟩ : ∃ x, t.take (t.length - T) = x := ⟨_, rfl⟩
   have ce : s.length <= t.length := by rw [<- hs, List.length_take]; omega
   rw [hs] at C ⊢
   refine yG ?_
   refine wp_loop_ghost (fun mz a w' => ∃ (i : Nat) (a6 : List Value), a6 = a.tmps.toList /\ a = ⟨(.string (bs s) :: .slice U l.length H :: undef :: undef :: .pointer (some ⟨b1, 0, none⟩) :: .bool false :: .bool false :: .bool (Lib.hasSuffix t NL) :: .int .i64 ↑T :: .int .i64 ↑i :: gr a6 10 4 (.string (bs t) :: .bool (Lib.hasSuffix t NL) :: (CJ gc 0) :: (CJ gd 0) :: (CJ gd 1) :: (CJ gd 2) :: (CJ gd 3) :: (CJ gd 4) :: (CJ gd 5) :: (CJ gd 6) :: undef :: .string (bs t) :: .string (bs t) :: .int .i64 ↑t.length :: .int .i64 ↑T :: .int .i64 ↑(t.length - T) :: .string (bs s) :: gr a6 31 47 [])).toArray, []⟩ /\ Env w' [fX b1 (83) ([.int .i64 0, .slice none 0 0]), fR elS (DL w.heap.size) (.slice U l.length H) l, fW w] /\ mz = s.length - i /\ (i <= s.length /\ ∀ j, j < i -> s[j]? ≠ some 58)) (s.length) ⟨0, _, O, O, zE, O, ⟨Nat.zero_le _, fun j hj => absurd hj (Nat.not_lt_zero _)⟩⟩ ?_
   rintro m9 _ w9 ⟨i, a6, -, rfl, E, bh, bi⟩
   dsimp only [gr, Nat.reduceAdd]
   obtain ⟨ak, hJ⟩ := bi
   by_cases hi : i < s.length
   case neg =>
    obtain ⟨f, B⟩ := Ox hJ (.inl hi) ak
    cases Q : EA ((1 : Nat) : Int) ((999999 : Nat) : Int) (s.take i) with
    | none =>
     refine yG ?_
     refine V (v := .string (bs (s.take i))) O O (QU (a := s) (j := i) O underlying9 O O O AA) ?_
     refine yG ?_
     refine EF O (CB DH O (UQ (s.take i) 1 999999 _ (by rw [List.length_take]; omega) AE Q) O E ?_)
     intro c1 co E
     have ac := E.1
     refine yG ?_
     replace E := YE E
     refine yG ?_
     refine EF O (BY LS O O O ac O O (CG O (CG O DP)) ?_)
     intro c0 b7 aw
     replace E := oY E ac b7 aw (ds := [.int .i64 0, .slice none 0 0])
     have r1 := CL LS E.1 rfl
     refine yG ?_
     exact AQ (v := .tuple #[.agg #[.int .i64 0, .slice none 0 0], .bool false, .bool false]) YqR O ⟨_, 0, [], false, false, O, IsR.nil _ _ _, fun t ht => (by cases ht), Nat.zero_le _, Qx G C f Q, E.2.2.1⟩
    | some id =>
     refine yG ?_
     refine V (v := .string (bs (s.take i))) O O (QU (a := s) (j := i) O underlying9 O O O AA) ?_
     refine yG ?_
     refine EF O (CB DH O (SH (s.take i) 1 999999 id _ (by rw [List.length_take]; omega) AE Q) O E ?_)
     intro bx cm E
     cases R : Lib.hasPrefix (s.drop i) JC with
     | false =>
      refine yG ?_
      refine V (v := .string (bs (s.drop i))) Z O (KD (a := s) (j := i) O underlying9 O O O AA) ?_
      refine yG ?_
      refine EF O (CA JI O (CT (show Lib.hasPrefix (s.drop i) [58, 32] = false from R) (YA (s.drop i) ([58, 32]) _)) O E ?_)
      intro bw ck E
      have ab := E.1
      refine yG ?_
      replace E := YE E
      refine yG ?_
      refine EF O (BY LS O O O ab O O (CG O (CG O DP)) ?_)
      intro bv b6 av
      replace E := oY E ab b6 av (ds := [.int .i64 0, .slice none 0 0])
      have r1 := CL LS E.1 rfl
      refine yG ?_
      exact AQ (v := .tuple #[.agg #[.int .i64 0, .slice none 0 0], .bool false, .bool false]) YqR O ⟨_, 0, [], false, false, O, IsR.nil _ _ _, fun t ht => (by cases ht), Nat.zero_le _, Qv G C f B Q R, E.2.2.1⟩
     | true =>
      have a7 : 2 <= (s.drop i).length := by have := (List.isPrefixOf_iff_prefix.1 (show List.isPrefixOf JC (s.drop i) = true from R)).length_le; exact this
      rw [List.length_drop] at a7
      exfalso
      omega
   obtain ⟨c, hc⟩ : ∃ c, s[i]? = some c := ⟨_, List.getElem?_eq_getElem hi⟩
   by_cases a5 : c = 58
   case neg =>
    refine yG ?_
    refine V Z O (RH (c := true) O O O (by rw [bne_iff_ne]; exact fun g => a5 (UInt8.toNat_inj.1 ((show c.toNat = 58 by omega).trans O)))) ?_
    refine yG ?_
    exact ⟨_, (by rw [bh]; omega), (i + 1), _, O, O, zE, O, ⟨by omega, fun j hj => by rcases Nat.lt_succ_iff_lt_or_eq.1 hj with g | rfl; exact hJ j g; rw [hc]; exact fun g => a5 (Option.some.inj g)⟩⟩
   obtain ⟨f, B⟩ := Ox hJ (.inr (by rw [hc, a5])) ak
   refine yG ?_
   refine V Z O (RH (c := false) O O O (by rw [bne_eq_false_iff_eq, a5]; rfl)) ?_
   exact Z1c
theorem rP : ∀ {ls : List Bs} {n : Nat} {r r' : Rs} {x : Bs}, JX ls n r = some r' -> JX (ls ++ [x]) n r = IL (n + ls.length + 1) r' x
 | [], n, r, r', x, h => by
   simp only [JX, Option.some.injEq] at h; subst h
   simp only [List.nil_append, JX, List.length_nil, Nat.add_zero]
   cases IL (n + 1) r x <;> rfl
 | y :: ls, n, r, r', x, h => by
   cases hy : IL (n + 1) r y with
   | none => simp [JX, hy] at h
   | some r1 =>
     simp only [JX, hy] at h
     have := rP (x := x) h
     simp only [List.cons_append, JX, hy, this, List.length_cons]
     rw [show n + 1 + ls.length + 1 = n + (ls.length + 1) + 1 by omega]
structure RdTo (ls : List Bs) (i : Nat) (st : Rs) : Prop where
 run : JX (ls.take i) 0 eO = some st
 le : i + 1 <= ls.length
theorem RdTo.go {ls : List Bs} {st : Rs} (h : RdTo ls i st) : dS ls 0 eO = dS (ls.drop i) i st := by
 have e : ls.drop i ≠ [] := by
  intro g; have := congrArg List.length g; rw [List.length_drop, List.length_nil] at this; have := h.le; omega
 have := uW h.run e
 rw [List.take_append_drop, Nat.zero_add, List.length_take, Nat.min_eq_left Y6M] at this
 exact this
theorem RdTo.zero {ls : List Bs} (h : 1 <= ls.length) : RdTo ls 0 eO := ⟨rfl, by omega⟩
theorem oZ {ls : List Bs} {x : Bs} (hx : ls[i]? = some x) (h : i + 1 = ls.length) : ls.drop i = [x] := by
 rw [SR hx, List.drop_eq_nil_of_le AA]
theorem Ra {ls : List Bs} {x : Bs} (hx : ls[i]? = some x) (h : i + 1 < ls.length) : ∃ y l, ls.drop i = x :: y :: l := by
 rw [SR hx]
 exact ⟨ls[i + 1], ls.drop (i + 1 + 1), by rw [List.drop_eq_getElem_cons h]⟩
theorem RdTo.last {ls : List Bs} {st : Rs} {x : Bs} (h : RdTo ls i st) (hx : ls[i]? = some x) (hl : i + 1 = ls.length) (he : ¬ x = []) : dS ls 0 eO = (qQ, i + 1, 440) := by
 rw [h.go, oZ hx hl]; simp only [dS]; rw [if_neg he]
theorem RdTo.bad {ls : List Bs} {st : Rs} {x : Bs} (h : RdTo ls i st) (hx : ls[i]? = some x) (hl : i + 1 < ls.length) (he : IL (i + 1) st x = none) : dS ls 0 eO = (qQ, i + 1, 440) := by
 obtain ⟨y, l, e⟩ := Ra hx hl
 rw [h.go, e]; simp only [dS, he]
theorem RdTo.step {ls : List Bs} {st st' : Rs} {x : Bs} (h : RdTo ls i st) (hx : ls[i]? = some x) (hl : i + 1 < ls.length) (he : IL (i + 1) st x = some st') : RdTo ls (i + 1) st' := by
 refine ⟨?_, by omega⟩
 rw [KK hx, rP h.run, Nat.zero_add, List.length_take, Nat.min_eq_left AA, he]
theorem RdTo.done {ls : List Bs} {st : Rs} {x : Bs} (h : RdTo ls i st) (hx : ls[i]? = some x) (hl : i + 1 = ls.length) (he : x = []) : dS ls 0 eO = if st.next = 0 then (qQ, i + 1, 440) else (st.sy, 0, 0) := by
 rw [h.go, oZ hx hl]; simp only [dS]; rw [if_pos he]
theorem RdTo.bd {ls : List Bs} {st : Rs} (h : RdTo ls i st) : RsBd st := tQ Sc h.run
theorem Gd {r : Rs} {l : Bs} (h : ¬ n = 1) (h0 : r.next = 0) (hp : Lib.hasPrefix l lW = false) : IL n r l = match XV r.vars l with
 | none => none
 | some e => if r.last < e.2.1 /\ (r.lst e.1).length < 12 then some (r.add e) else none := by
 rw [li_5 h h0 hp, Kn]; cases XV r.vars l <;> rfl
def SyV (b z : Nat) (st : Rs) (w : World) : Prop := ∃ S vv ve vn, Bx w b 48 [vv, ve, vn, .int .i64 ↑st.next] /\ Two b S w vv ve vn st.vars st.eqs st.neqs /\ (∀ k, S k -> k < z) /\ (∀ g, ve.ownBlock = some g -> g < z) /\ (∀ g, vn.ownBlock = some g -> g < z) /\ b < z /\ z <= w.heap.size
theorem SyV.below {z : Nat} {st : Rs} (h : SyV b z st w) (hb : Below w.heap.size w w') : SyV b z st w' := by
 obtain ⟨S, e, k, f, v, u, t, q, p, o, l⟩ := h
 exact ⟨S, e, k, f, v.below hb, u.below hb, t, q, p, o, Nat.le_trans l hb.size⟩
theorem SyV.onl {z : Nat} {st : Rs} (h : SyV b z st w) (hn : Av w c) (hc : c < b ∨ z <= c) (ho : Onl c w w') : SyV b z st w' := by
 obtain ⟨S, v, o, l, F, e, u, t, q, D, C⟩ := h
 have f : ¬ S c := by intro g; have := (e.set c g).1; have := u c g; omega
 have B : o.ownBlock ≠ some c := fun g => by have := (e.eqs.lt g).1; have := t c g; omega
 have y : l.ownBlock ≠ some c := fun g => by have := (e.neqs.lt g).1; have := q c g; omega
 exact ⟨S, v, o, l, F.onl AA ho, ⟨e.vars.keep (Keep.onl hn ho f), e.eqs.onl e.lt hn B f ho, e.neqs.onl e.lt hn y f ho, e.apart, fun k p => ⟨(e.set k p).1, by rw [ho.size]; exact e.lt k p⟩⟩, u, t, q, D, by rw [ho.size]; exact C⟩
def fSv (b z : Nat) (st : Rs) : SF := ⟨fun w => SyV b z st w, fun c => c < b ∨ z <= c, fun h hb => h.below hb, fun h hn ho hb => h.onl hn ho hb⟩
theorem okSv {z : Nat} {st : Rs} (h : c < b ∨ z <= c) : (fSv b z st).ok c := h
theorem Env.sv {z : Nat} {st : Rs} (E : Env w L) (h : SyV b z st w) : Env w (fSv b z st :: L) := ⟨h, E⟩
theorem SyV.nx {z : Nat} {st : Rs} (h : SyV b z st w) : w.cell? ⟨b, 3, none⟩ = some (.int .i64 ↑st.next) := by
 obtain ⟨S, f, l, k, e, _⟩ := h
 rw [e.cell]; rfl
theorem SyV.bz {z : Nat} {st : Rs} (h : SyV b z st w) : b < z := by
 obtain ⟨_, _, _, _, _, _, _, _, _, e, _⟩ := h
 exact e
theorem SyV.lt {z : Nat} {st : Rs} (h : SyV b z st w) : b < w.heap.size := by
 obtain ⟨_, _, _, _, e, _⟩ := h
 exact e.lt
theorem SyV.zero {z : Nat} (h : Bx w b 48 [.slice none 0 0, .slice none 0 0, .slice none 0 0, .int .i64 0]) (h1 : b < z) (h2 : z <= w.heap.size) : SyV b z eO w :=
 ⟨WW, _, _, _, h, ⟨IsR.nil _ _ _, Acc.nil _ _ _ _ _, Acc.nil _ _ _ _ _, fun g hg => by simp [Value.ownBlock] at hg, fun k hk => hk.elim⟩, fun k hk => hk.elim, fun g hg => by simp [Value.ownBlock] at hg, fun g hg => by simp [Value.ownBlock] at hg, h1, h2⟩
theorem within.mono {j : Nat} {m : List Nat} (h : within i m) (hij : i <= j) : within j m := fun k hk => h k (Nat.le_trans hij hk)
def SyAt (b z : Nat) (vv : Value) (q r : List En) (next : Nat) (w : World) : Prop := ∃ S ve vn, Bx w b 48 [vv, ve, vn, .int .i64 ↑next] /\ Two b S w (.slice none 0 0) ve vn [] q r /\ (∀ k, S k -> k < z) /\ (∀ g, ve.ownBlock = some g -> g < z) /\ (∀ g, vn.ownBlock = some g -> g < z) /\ b < z /\ z <= w.heap.size
theorem SyAt.below {z : Nat} {q r : List En} (h : SyAt b z vv q r next w) (hb : Below w.heap.size w w') : SyAt b z vv q r next w' := by
 obtain ⟨S, f, e, v, u, t, p, o, l, k⟩ := h
 exact ⟨S, f, e, v.below hb, u.below hb, t, p, o, l, Nat.le_trans k hb.size⟩
theorem SyAt.onl {z : Nat} {q r : List En} (h : SyAt b z vv q r next w) (hn : Av w c) (hc : c < b ∨ z <= c) (ho : Onl c w w') : SyAt b z vv q r next w' := by
 obtain ⟨S, o, l, F, e, v, u, t, D, C⟩ := h
 have f : ¬ S c := by intro g; have := (e.set c g).1; have := v c g; omega
 have B : o.ownBlock ≠ some c := fun g => by have := (e.eqs.lt g).1; have := u c g; omega
 have y : l.ownBlock ≠ some c := fun g => by have := (e.neqs.lt g).1; have := t c g; omega
 exact ⟨S, o, l, F.onl AA ho, ⟨e.vars.keep (Keep.onl hn ho f), e.eqs.onl e.lt hn B f ho, e.neqs.onl e.lt hn y f ho, e.apart, fun k p => ⟨(e.set k p).1, by rw [ho.size]; exact e.lt k p⟩⟩, v, u, t, D, by rw [ho.size]; exact C⟩
def fSy (b z : Nat) (vv : Value) (q r : List En) (next : Nat) : SF := ⟨fun w => SyAt b z vv q r next w, fun c => c < b ∨ z <= c, fun h hb => h.below hb, fun h hn ho hb => h.onl hn ho hb⟩
theorem Env.sy {z : Nat} {q r : List En} (E : Env w L) (h : SyAt b z vv q r next w) : Env w (fSy b z vv q r next :: L) := ⟨h, E⟩
theorem SyAt.nx {z : Nat} {q r : List En} (h : SyAt b z vv q r next w) : w.cell? ⟨b, 3, none⟩ = some (.int .i64 ↑next) := by
 obtain ⟨S, k, f, e, _⟩ := h
 rw [e.cell]; rfl
theorem SyAt.bz {z : Nat} {q r : List En} (h : SyAt b z vv q r next w) : b < z := by
 obtain ⟨S, k, f, _, _, _, _, _, e, _⟩ := h
 exact e
theorem SyAt.lt {z : Nat} {q r : List En} (h : SyAt b z vv q r next w) : b < w.heap.size := by
 obtain ⟨S, k, f, e, _⟩ := h
 exact e.lt
theorem SyAt.zero {z : Nat} (h : Bx w b 48 [vv, .slice none 0 0, .slice none 0 0, .int .i64 ↑next]) (h1 : b < z) (h2 : z <= w.heap.size) : SyAt b z vv [] [] next w :=
 ⟨WW, _, _, h, ⟨IsR.nil _ _ _, Acc.nil _ _ _ _ _, Acc.nil _ _ _ _ _, fun g hg => by simp [Value.ownBlock] at hg, fun k hk => hk.elim⟩, fun k hk => hk.elim, fun g hg => by simp [Value.ownBlock] at hg, fun g hg => by simp [Value.ownBlock] at hg, h1, h2⟩
theorem Mt (s : Bs) (w : World) (hs : s.length <= 1000000) : Calls prog 67 #[.string (bs s), .int .u8 10] w (pT w (qU w (DI 10 s))) := lM 10 s w hs
theorem qY {ls : List Bs} {st : Rs} {x : Bs} {b : Bool} (hi : i = 0) (h : RdTo ls i st) (hx : ls[i]? = some x) (hl : i + 1 < ls.length) (hb : b = decide ((DI 32 x).head? = some vaB /\ DM 4 (DI 32 x).tail = true)) :
 (b = true -> RdTo ls (i + 1) ⟨(DI 32 x).tail, st.eqs, st.neqs, st.next, st.last⟩) /\ (b = false -> dS ls 0 eO = (qQ, i + 1, 440)) := by
 subst hi
 have e := li_1 (n := 0 + 1) (r := st) (t := x) rfl
 constructor
 . intro g
   rw [hb, decide_eq_true_eq] at g
   exact h.step hx hl (e.trans (by unfold XF; rw [if_pos g]))
 intro g
 rw [hb, decide_eq_false_iff_not] at g
 exact h.bad hx hl (e.trans (by unfold XF; rw [if_neg g]))
theorem RdTo.z {ls : List Bs} {st : Rs} (h : RdTo ls i st) (hi : i = 0) : st.next = 0 := by
 subst hi
 have := h.run
 simp only [List.take_zero, JX, Option.some.injEq] at this
 subst this; rfl
theorem RdTo.len {ls : List Bs} {st : Rs} (h : RdTo ls i st) : st.eqs.length <= 12 /\ st.neqs.length <= 12 := by
 by_cases k : i = 0
 . subst k
   have := h.run
   simp only [List.take_zero, JX, Option.some.injEq] at this
   subst this; exact ⟨by decide, by decide⟩
 have e : ls.take i ≠ [] := by
  intro g; have := congrArg List.length g; rw [List.length_take, List.length_nil] at this; have := h.le; omega
 have f := (tS e h.run).1
 exact ⟨f.len false, f.len true⟩
theorem cQ {t : Bs} {ls : List Bs} {r : Ps} (h : ¬ 100000 < t.length) (hs : DI 10 t = ls) (hg : dS ls 0 eO = r) : HO t = r := by unfold HO; rw [if_neg h, hs, hg]
theorem Pl {ls : List Bs} {m : Nat} {st : Rs} {x : Bs} (h : RdTo ls i st) (hx : ls[i]? = some x) (hl : i + 1 < ls.length) (hi : ¬ i = 0) (h0 : st.next = 0) (hp : Lib.hasPrefix x lW = true) (hm : EA ((st.last + 1 : Nat) : Int) ((1000000 : Nat) : Int) (x.drop 5) = some m) : RdTo ls (i + 1) ⟨st.vars, st.eqs, st.neqs, m, st.last⟩ :=
 h.step hx hl (li_4 AA h0 hp (by unfold Lib.trimPrefix; rw [if_pos hp]; rfl) hm)
theorem Uw {ls : List Bs} {st : Rs} {x : Bs} (h : RdTo ls i st) (hx : ls[i]? = some x) (hl : i + 1 < ls.length) (hi : ¬ i = 0) (h0 : st.next = 0) (hp : Lib.hasPrefix x lW = true) (hm : EA ((st.last + 1 : Nat) : Int) ((1000000 : Nat) : Int) (x.drop 5) = none) : dS ls 0 eO = (qQ, i + 1, 440) :=
 h.bad hx hl (li_3 AA h0 hp (by unfold Lib.trimPrefix; rw [if_pos hp]; rfl) hm)
theorem Ac {ls : List Bs} {st : Rs} {x : Bs} (h : RdTo ls i st) (hx : ls[i]? = some x) (hne : i + 1 = ls.length -> ¬ x = []) (hb : i + 1 = ls.length ∨ 0 < st.next) (hz : i = 0 -> st.next = 0) : dS ls 0 eO = (qQ, i + 1, 440) := by
 by_cases e : i + 1 = ls.length
 . exact h.last hx e (hne e)
 have f : 0 < st.next := by omega
 exact h.bad hx Y6M (li_2 (fun g => by have := hz AA; omega) AA)
theorem Vu {ls : List Bs} {st : Rs} {x : Bs} {p : List Tm} (h : RdTo ls i st) (hx : ls[i]? = some x) (hl : i + 1 < ls.length) (hi : ¬ i = 0) (h0 : st.next = 0) (hp : Lib.hasPrefix x lW = false) (he : XV st.vars x = some (neq, id, p)) (h1 : st.last < id) (h2 : (st.lst neq).length < 12) : RdTo ls (i + 1) (st.add (neq, id, p)) :=
 h.step hx hl (by rw [Gd AA h0 hp, he]; simp only; rw [if_pos ⟨h1, h2⟩])
theorem A6 {ls : List Bs} {st : Rs} {x : Bs} {p : List Tm} (h : RdTo ls i st) (hx : ls[i]? = some x) (hl : i + 1 < ls.length) (hi : ¬ i = 0) (h0 : st.next = 0) (hp : Lib.hasPrefix x lW = false) (he : XV st.vars x = (if ok then some (neq, id, p) else none)) (hb : ok = false ∨ id <= st.last ∨ 12 <= (st.lst neq).length) : dS ls 0 eO = (qQ, i + 1, 440) := by
 refine h.bad hx hl ?_
 rw [Gd AA h0 hp, he]
 cases ok with
 | false => rfl
 | true => simp only [if_true]; rw [if_neg (by rcases hb with h | h; cases h; omega)]
theorem Gv {ls : List Bs} {st : Rs} {x : Bs} {p : List Tm} (h : RdTo ls i st) (hx : ls[i]? = some x) (hne : i + 1 = ls.length -> ¬ x = []) (hi : ¬ i = 0) (hb0 : b0 = decide (i + 1 = ls.length ∨ 0 < st.next)) (hp : Lib.hasPrefix x lW = false) (he : XV st.vars x = (if ok then some (neq, id, p) else none)) (hb : b0 = true ∨ ok = false ∨ id <= st.last ∨ 12 <= (st.lst neq).length) : dS ls 0 eO = (qQ, i + 1, 440) := by
 cases b0 with
 | true => exact Ac h hx hne (of_decide_eq_true hb0.symm) h.z
 | false =>
   have e := of_decide_eq_false hb0.symm
   exact A6 h hx Y6M hi AA hp he (hb.resolve_left AH)
theorem yZ {ls : List Bs} {st : Rs} {x : Bs} {p : List Tm} (h : RdTo ls i st) (hx : ls[i]? = some x) (hi : ¬ i = 0) (hb0 : b0 = decide (i + 1 = ls.length ∨ 0 < st.next)) (hp : Lib.hasPrefix x lW = false) (he : XV st.vars x = (if ok then some (neq, id, p) else none)) (hb : ¬ (b0 = true ∨ ok = false ∨ id <= st.last ∨ 12 <= (st.lst neq).length)) : RdTo ls (i + 1) (st.add (neq, id, p)) := by
 have f : ¬ b0 = true := fun g => hb (.inl g)
 have e : ok = true := by cases ok; exact absurd (.inr (.inl rfl)) hb; rfl
 have k := of_decide_eq_false ((Bool.eq_false_iff.2 f ▸ hb0).symm)
 subst e
 exact Vu h hx Y6M hi AA hp he (Nat.lt_of_not_le fun g => hb (.inr (.inr (.inl g)))) (Nat.lt_of_not_le fun g => hb (.inr (.inr (.inr g))))
def bdB (b0 ok : Bool) (id : Nat) (st : Rs) (neq : Bool) : Bool := decide (b0 = true ∨ ok = false ∨ id <= st.last ∨ 12 <= (st.lst neq).length)
theorem Ru {st : Rs} (h : b0 = true ∨ ok = false ∨ id <= st.last ∨ 12 <= (st.lst neq).length) : true = bdB b0 ok id st neq := (decide_eq_true h).symm
theorem bd_f {st : Rs} (h : ¬ (b0 = true ∨ ok = false ∨ id <= st.last ∨ 12 <= (st.lst neq).length)) : false = bdB b0 ok id st neq := (decide_eq_false h).symm
theorem Rt {st : Rs} (h : true = bdB b0 ok id st neq) : b0 = true ∨ ok = false ∨ id <= st.last ∨ 12 <= (st.lst neq).length := of_decide_eq_true h.symm
theorem Ya {st : Rs} (h : false = bdB b0 ok id st neq) : ¬ (b0 = true ∨ ok = false ∨ id <= st.last ∨ 12 <= (st.lst neq).length) := of_decide_eq_false h.symm
theorem D7 {z : Nat} {st : Rs} (h : SyV b z st w) : ∃ (ao : Option Addr) (cap : Nat) (S : Nat -> Prop), Cs w b 0 [.slice ao st.vars.length cap] /\ IsR elS S w (.slice ao st.vars.length cap) st.vars /\ (∀ k, S k -> b < k /\ k < z) := by
 obtain ⟨S, q, u, t, p, f, o, _⟩ := h
 obtain ⟨ao, cap, rfl, _, _⟩ := f.vars.shp
 refine ⟨ao, cap, S, ?_, f.vars, fun k l => ⟨(f.set k l).1, o k l⟩⟩
 intro j v e
 cases j with
 | zero => simp at e; subst e; rw [p.cell]; rfl
 | succ j => simp at e
end Go.Proofs.YtmppigbbkjepiaaGreatDoor
