/- The texts of terms. (Printed by g_ptext.py.) strings.Builder: copyCheck and WriteString, walked. -/
import Derived.Test.YtmppigbbkjepiaaGreatDoorKitJ
import Derived.Lib.AppendStr
import Derived.Lib.Builder
namespace Go.Proofs.YtmppigbbkjepiaaGreatDoor
open Go.Proofs.Tryz
open Go.RowKit W
def Kb (n : Nat) : SF := ⟨fun w => n ≤ w.heap.size, fun _ => True, fun h hb => Nat.le_trans h hb.size, fun h _ _ hb => by rw [hb.size]; exact h⟩
theorem Env.sz {w : World} {L : List SF} {n : Nat} (E : Env w L) (h : n ≤ w.heap.size) : Env w (Kb n :: L) := ⟨h, E⟩
theorem CU {w : World} {n : Nat} (h : (Kb n).p w) : n ≤ w.heap.size := h
theorem pV {α : Type} {e : El α} {t base : Nat} {w : World} {v : Value} {l : List α} (h : Acc e t base VF w v l) : IsR e (DI w.heap.size) w v l := h.row (fun _ g => g.elim) fun _ _ g _ => g
def qT (x : Rat) : Bs := (NI x).data.toList
theorem Jf (n : Bool) (s : Value) (m : Bool) (u : Value) (x : Rat) (w : World) (h1 : IsI w (.agg #[.bool n, s]) x.num) (h2 : IsI w (.agg #[.bool m, u]) ((x.den : Nat) : Int)) (h3 : FitQ x 1000000) :
    Calls prog 132 #[.agg #[.bool n, s, .bool m, u]] w (FX w (.string (bs (qT x)))) := by
  refine (Ry n s m u x w h1 h2 h3).mono ?_
  rintro e h ⟨rfl, f⟩
  exact ⟨by unfold qT; rw [Ab], f⟩
theorem Qb {x : Rat} (h : FitQ x 1000000) : (qT x).length ≤ 30000000 := by
  have k := ZW h.1 AD
  have f := ZW h.2 AD
  have e : (qT x).length = (NI x).size := rfl
  rw [e]; unfold NI
  split
  · omega
  · rw [ByteArray.size_append, ByteArray.size_append]
    have : (⟨#[47]⟩ : ByteArray).size = 1 := rfl
    omega
theorem dD (n : Nat) : (PE ((n : Nat) : Int)).length ≤ n + 1 := by
  unfold PE
  rw [if_neg Z, List.nil_append]
  unfold ZQ
  rw [List.length_map, Int.natAbs_natCast]
  induction n using Nat.strongRecOn with
  | _ n ih =>
    by_cases h : n < 10
    · rw [OI n h]; simp
    · rw [UE n Z, List.length_append]
      have := ih (n / 10) Z
      simp only [List.length_cons, List.length_nil]; omega
theorem mQ : ∀ (l : List Bs) (x : Bs) (ns : List Nat), l.length < ns.length → LR (l ++ [x]) ns = LR l ns ++ eX x (me ns l.length)
  | [], x, n :: ns, _ => by cases ns <;> simp [LR, me]
  | v :: l, x, n :: ns, h => by
    have h2 := mQ l x ns (by simpa using h)
    simp only [List.cons_append, LR]
    rw [h2, List.append_assoc]; rfl
  | _, _, [], h => by simp at h
theorem cS {l : List Bs} {M : List Nat} {i : Nat} {x : Bs} (hM : ER M) (hl : l.length ≤ 8) (hx : l[i]? = some x) : LR (l.take (i + 1)) M = LR (l.take i) M ++ eX x (me M i) := by
  have f := (List.getElem?_eq_some_iff.1 hx).1
  have e : (l.take i).length = i := by rw [List.length_take]; omega
  rw [JR hx, mQ _ _ _ (by rw [e, hM.1]; omega), e]
theorem Cw (x : Bs) {n : Nat} (h : n = 0) : eX x n = [] := by unfold eX; rw [if_pos h]
theorem Ia (x : Bs) {n : Nat} (h : n = 1) : eX x n = [x] := by subst h; rfl
theorem Cx (x : Bs) {n : Nat} (h : 1 < n) : eX x n = [x ++ 94 :: PE (n : Int)] := by unfold eX; rw [if_neg Z, if_neg Z]
theorem Ib (x : Bs) (n : Nat) : (eX x n).length ≤ 1 := by unfold eX; split <;> (try split) <;> simp
theorem bC : ∀ (l : List Bs) (M : List Nat), (LR l M).length ≤ l.length
  | [], M => by unfold LR; simp
  | _ :: _, [] => by unfold LR; simp
  | v :: l, n :: M => by
    have := bC l M; have := Ib v n
    simp only [LR, List.length_append, List.length_cons]; omega
theorem Mn {x : Bs} {n : Nat} {p : Bs} (h : p ∈ eX x n) : p.length ≤ x.length + n + 2 := by
  have := dD n
  unfold eX at h
  split at h
  · cases h
  · split at h
    · simp at h; subst h; omega
    · simp at h; subst h
      simp only [List.length_append, List.length_cons]; omega
theorem zJ : ∀ (l : List Bs) (M : List Nat) (p : Bs), (∀ v ∈ l, v.length ≤ 12) → (∀ e ∈ M, e ≤ 65535) → p ∈ LR l M → p.length ≤ 65549
  | [], M, p, _, _, h => by unfold LR at h; simp at h
  | _ :: _, [], p, _, _, h => by unfold LR at h; simp at h
  | v :: l, n :: M, p, h1, h2, h => by
    simp only [LR, List.mem_append] at h
    rcases h with h | h
    · have := Mn h; have := h1 v AG; have := h2 n AG; omega
    · exact zJ l M p (fun u hu => h1 u (by simp [hu])) (fun e he => h2 e (by simp [he])) h
theorem Hr {b : UInt8} {l : List Bs} {n : Nat} (h : ∀ p ∈ l, p.length ≤ n) : (jn b l).length ≤ l.length * (n + 1) := by
  refine Nat.le_trans (Hp b l) ?_
  induction l with
  | nil => simp
  | cons x l ih =>
    have := ih (fun p e => h p (by simp [e]))
    have := h x AG
    simp only [List.map_cons, List.sum_cons, List.length_cons, Nat.add_mul]
    omega
theorem nm12 {k : Nat} {l : List Bs} (h : DS k l = true) : ∀ v ∈ l, v.length ≤ 12 := fun v hv => sA (WD h v hv)
theorem oT {l : List Bs} {M : List Nat} (hV : DS 8 l = true) (hM : ER M) : (jn 42 (LR l M)).length ≤ 1000000 := by
  have k := Hr (b := 42) (fun p e => zJ l M p (nm12 hV) hM.2 e)
  have h := bC l M
  have f := KD hV
  have : (LR l M).length * 65550 ≤ 8 * 65550 := Nat.mul_le_mul_right _ Z
  omega
theorem jB {l : List Bs} {M : List Nat} {c : Rat} (hV : DS 8 l = true) (hM : ER M) (hc : FitQ c 1000000) : (jn 42 (qT c :: LR l M)).length ≤ 31000002 := by
  have f := oT hV hM
  have e := Qb hc
  by_cases h : LR l M = []
  · rw [h]; simp only [jn]; omega
  · rw [PY 42 _ h]
    simp only [List.length_append, List.length_cons]; omega
theorem XE {l : List Bs} {M : List Nat} {c : Rat} (hV : DS 8 l = true) (hM : ER M) (hc : FitQ c 1000000) : (IC l c M).length ≤ 31000002 := by
  unfold IC
  split
  · exact jB hV hM hc
  · have := oT hV hM; omega
theorem iA {a b : Bs} (h : a = b) : Ending.returned (.string (bs a)) = .returned (.string (bs b)) := by rw [h]
theorem qD {l : List Bs} {M : List Nat} {c : Rat} (h : LR l M = [] ∨ c ≠ 1) : jn 42 (qT c :: LR l M) = IC l c M := by unfold IC; rw [if_pos h]; rfl
theorem Er {l : List Bs} {M : List Nat} {c : Rat} (h : LR l M ≠ []) (hc : c = 1) : jn 42 (LR l M) = IC l c M := by unfold IC; rw [if_neg]; rintro (g | g); exact h g; exact g hc
set_option maxRecDepth 100000 in
set_option maxHeartbeats 8000000 in
theorem KV (na : Bool) (sa : Value) (ma : Bool) (ua : Value) (c : Rat) (mm : List Nat) (vl : Value) (l : List Bs) (w : World) (hna : IsI w (.agg #[.bool na, sa]) c.num) (hda : IsI w (.agg #[.bool ma, ua]) ((c.den : Nat) : Int)) (hmm : ER mm) (hRl : IsR elS (DI w.heap.size) w vl l) (hF : FitQ c 1000000) (hV : DS 8 l = true) (hG : Glob w) :
    Calls prog 84 #[.agg (HY na sa ma ua mm).toArray, vl] w (FX w (.string (bs (IC l c mm)))) := by
 have E := Env.start w
 replace E := (E.i hna).i hda
 clear hna hda
 obtain ⟨Y, y, rfl, c0, bz⟩ := hRl.shp
 replace E := E.r hRl (DM _)
 clear hRl
 have Q := KD hV
 have c2 := hG.two
 replace E := E.gl hG
 go_enter func84, ntmps84
 refine yG ?_
 refine EF O (CI (cs := (HY na sa ma ua mm)) O O ?_)
 intro b1 w1 ae z1 d1 x1
 have l1 : w.heap.size ≤ b1 := by rw [ae]; exact (e4 E).size
 replace E := (E.below d1).x x1
 clear ae z1 d1 x1
 obtain ⟨u, v⟩ : ∃ n, n = w1.heap.size := ⟨_, rfl⟩
 have ah : b1 < u := by rw [v]; exact Bx.lt E.1
 replace E := (E.sz (Nat.le_of_eq v)).a (Acc.nil elS 9 u VF _) (RW _)
 clear v
 refine yG ?_
 refine wp_loop_ghost (fun mz a w' => ∃ (i : Nat) (J : Value) (B : List Bs) (f : List Value), f = a.tmps.toList ∧ a = ⟨#[.agg (HY na sa ma ua mm).toArray, .slice Y l.length y, .pointer (some ⟨b1, 0, none⟩), undef, .string (bs ([])), J, CC f 6, CC f 7, CC f 8, .slice Y l.length y, .int .i64 ↑l.length, .int .i64 ↑i, CC f 12, CC f 13, CC f 14, CC f 15, CC f 16, CC f 17, CC f 18, CC f 19, CC f 20, CC f 21, CC f 22, CC f 23, CC f 24, CC f 25, CC f 26, CC f 27, CC f 28, CC f 29, CC f 30, CC f 31, CC f 32, CC f 33, CC f 34, CC f 35, CC f 36, CC f 37, CC f 38, undef, undef, undef, undef, undef, undef, undef, undef, undef, undef, undef, undef, undef, undef, undef, undef, undef, undef], []⟩ ∧ Env w' [fA elS 9 u VF J B, Kb u, fX b1 (88) (HY na sa ma ua mm), fGl, fR elS (DI w.heap.size) (.slice Y l.length y) l, fI (.agg #[.bool ma, ua]) ((c.den : Nat) : Int), fI (.agg #[.bool na, sa]) c.num, fW w] ∧ mz = l.length - i ∧ (i ≤ l.length ∧ B = LR (l.take i) mm ∧ (B = [] → J = .slice none 0 0))) (l.length) ⟨0, (.slice none 0 0), [], _, O, O, zE, O, ⟨Nat.zero_le _, by simp [LR], fun _ => rfl⟩⟩ ?_
 rintro m3 _ w3 ⟨i, J, B, f, -, rfl, E, P, a7⟩
 obtain ⟨a7, hJ⟩ := a7
 by_cases hi : i < l.length
 case pos =>
  obtain ⟨F, p⟩ : ∃ x, l[i]? = some x := ⟨_, List.getElem?_eq_getElem hi⟩
  obtain ⟨a2, br, _, T, a4, aq, am⟩ := IsR.at (e4 E).1 p
  obtain rfl := (show _ = [Value.string (bs F)] from am)
  have ap : a2 < _ := (e4 E).2 _ a4
  replace E := E.c aq ap
  have c1 : a2 < w.heap.size := a4
  have b4 : F.length ≤ 12 := nm12 hV _ (List.mem_of_getElem? p)
  have hm := yP hmm i
  have bx := dD (me mm i)
  have C : B.length ≤ 8 := by rw [hJ.1]; exact Nat.le_trans (bC _ _) (by rw [List.length_take]; omega)
  by_cases h1 : ((me mm i : Nat) : Int) = 1
  case pos =>
   refine yG ?_
   refine mZ O O T O (List.getElem?_eq_some_iff.1 p).1 ?_
   refine yG ?_
   refine V O O (CR O DD O (e3 E) (uG hmm Z)) ?_
   refine yG ?_
   refine EF O (JB (s := (bs F)) O O ?_)
   intro b5 w5 au z5 d5 x5
   have N : (J : Value).ownBlock ≠ some b5 := fun h => by have := (Acc.lt E.2.1.1 h).2; omega
   replace E := (E.below d5).x x5
   clear au z5 d5 x5
   have X := E.2.2.1
   refine yG ?_
   replace E := Sq E
   refine EF O (FJ (x := F) RT_S O (l := B) O X.1 X.2 E (fun g R h1 h2 => ⟨CS (fun e => N (e ▸ R)), UO Z, BW, CS Z, EA Z, EC (CN Z), BW, BW, JD Z, BW⟩) O E.1 (O) (by have := C; unfold maxLen; omega) (by have := C; omega) (CU E.2.2.1) ?_)
   clear E X
   intro v6 w6 E
   refine yG ?_
   exact ⟨_, (by rw [P]; omega), (i + 1), v6, B ++ [F], _, O, O, zE, O, ⟨by omega, by rw [cS hmm Q p, Ia _ Z, hJ.1], fun h => by simp at h⟩⟩
  by_cases h2 : ((me mm i : Nat) : Int) > 1
  case neg =>
   refine yG ?_
   refine mZ O O T O (List.getElem?_eq_some_iff.1 p).1 ?_
   refine yG ?_
   refine V O O (CR O DD O (e3 E) (uG hmm Z)) ?_
   refine yG ?_
   exact ⟨_, (by rw [P]; omega), (i + 1), J, B, _, O, O, zE, O, ⟨by omega, by rw [cS hmm Q p, Cw _ Z, hJ.1]; simp, hJ.2⟩⟩
  refine yG ?_
  refine mZ O O T O (List.getElem?_eq_some_iff.1 p).1 ?_
  refine yG ?_
  refine V O O (CR O DD O (e3 E) (uG hmm Z)) ?_
  refine yG ?_
  refine EF O (BZ IU O (dB (me mm i) _ Z (e4 E).1) O E ?_)
  clear E
  intro w7 _ E
  refine yG ?_
  refine EF O (JB (s := (bs ((F ++ ([94])) ++ (PE ((me mm i : Nat) : Int))))) O O ?_)
  intro b8 w8 ar z8 d8 x8
  have L : (J : Value).ownBlock ≠ some b8 := fun h => by have := (Acc.lt E.2.1.1 h).2; omega
  replace E := (E.below d8).x x8
  clear ar z8 d8 x8
  have U := E.2.2.1
  refine yG ?_
  replace E := Sq E
  refine EF O (FJ (x := (F ++ ([94])) ++ (PE ((me mm i : Nat) : Int))) RT_S O (l := B) O U.1 U.2 E (fun g R h1 h2 => ⟨CS (fun e => L (e ▸ R)), UO Z, BW, CS Z, EA Z, EC (CN Z), BW, BW, JD Z, BW⟩) O E.1 (O) (by have := C; unfold maxLen; omega) (by have := C; omega) (CU E.2.2.1) ?_)
  clear E U
  intro v9 w9 E
  refine yG ?_
  exact ⟨_, (by rw [P]; omega), (i + 1), v9, B ++ [(F ++ ([94])) ++ (PE ((me mm i : Nat) : Int))], _, O, O, zE, O, ⟨by omega, by rw [cS hmm Q p, Cx _ Z, hJ.1]; simp, fun h => by simp at h⟩⟩
 obtain ⟨a6, a5⟩ := hJ
 rw [IA hi] at a6
 subst a6
 have a3 := bC l mm
 obtain ⟨H, z, rfl⟩ := Acc.shp E.1.1
 by_cases h0 : LR l mm = []
 case pos =>
  refine yG ?_
  refine sE E [0,1,2,3,4,5,6,7,8,9] ?_
  replace E := E.drew
  refine yG ?_
  refine SW O O O O O (fun w G => GQ (c := true) O O O (by rw [h0]; rfl)) ?_
  refine yG ?_
  refine V O O (CD GI O O (Cs.sub (Bx.cs E.2.2.1) 0 (EK _ _ _ _ _)) O) ?_
  refine yG ?_
  refine EF O (BZ TI O (Jf _ _ _ _ c _ (e6 E) (e5 E) (FitQ.mono hF AD)) O E ?_)
  clear E
  intro bk _ E
  refine yG ?_
  refine EF O (JB (s := (bs (qT c))) O O ?_)
  intro aw bj ad aj ag a1
  have t : ((.slice H (LR l mm).length z) : Value).ownBlock ≠ some aw := fun h => by have := (Acc.lt E.1.1 h).2; omega
  replace E := (E.below ag).x a1
  clear ad aj ag a1
  have a9 := E.2.1
  refine yG ?_
  replace E := So E
  refine EF O (WX (x := qT c) O O O a9.1 a5 E (fun g R h1 h2 => ⟨CS (fun e => t (e ▸ R)), BW, CS Z, EA Z, EC (CN Z), BW, BW, JD Z, BW⟩) O E.1 t (by have := a3; omega) (CU E.2.1) ?_)
  clear E
  intro bm al ab b7 E
  obtain ⟨b3, b0, rfl, ao, _⟩ := ab.shp
  replace E := E.r (e := elS) (S := GL u al.heap.size) ab (fun _ g => g.2)
  refine yG ?_
  refine EF O (BZ MJ O (pU _ ((qT c) :: LR l mm) 42 _ (BV E.1) (Nat.le_trans (jB hV hmm hF) AD) (by rw [List.length_cons]; omega)) O E ?_)
  clear E
  intro bi _ E
  refine yG ?_
  exact ⟨iA (qD (.inl h0)), e8 E⟩
 by_cases D : c = ((1 : Int) : Rat)
 case pos =>
  refine yG ?_
  refine sE E [0,1,2,3,4,5,6,7,8,9] ?_
  replace E := E.drew
  refine yG ?_
  refine SW O O O O O (fun w G => GQ (c := false) O O O (by rw [beq_eq_false_iff_ne]; intro hh; exact h0 (List.eq_nil_of_length_eq_zero Z))) ?_
  refine yG ?_
  refine SW O O O I O (fun w G => CD GI O O (Cs.sub (Bx.cs (G.2.2.1)) 0 (EK _ _ _ _ _)) O) ?_
  refine yG ?_
  refine JF (o := ⟨some 45, _, _, _, _, _⟩) O O O O (CZ NQ O (pJ 1 _ AD AD) O E ?_)
  clear E
  intro bh bu bq bw bo _ E
  refine ⟨E.2.2, ?_⟩
  have ay : FitQ ((1 : Int) : Rat) 4 := RC (k := 4) AD (EY AD AD)
  refine yG ?_
  refine JF (o := ⟨some 46, _, _, _, _, _⟩) O O O O (CH UR O (Oz _ _ _ _ c _ _ _ _ ((1 : Int) : Rat) _ (e8 E) (e7 E) E.2.1 E.1 (FitQ.mono hF AD) (FitQ.mono ay AD)) O E ?_)
  clear E
  intro bg _ E
  refine ⟨E.2.2, ?_⟩
  refine yG ?_
  refine SW O O O I O (fun w G => TS (c := false) O O O (by rw [bne, Iw D]; rfl)) ?_
  refine yG ?_
  refine EF O (BZ MJ O (pU _ (LR l mm) 42 _ (pV E.2.2.1.1) (Nat.le_trans (oT hV hmm) AD) Z) O E ?_)
  clear E
  intro bf _ E
  refine yG ?_
  exact ⟨iA (Er h0 D), e9 E⟩
 refine yG ?_
 refine sE E [0,1,2,3,4,5,6,7,8,9] ?_
 replace E := E.drew
 refine yG ?_
 refine SW O O O O O (fun w G => GQ (c := false) O O O (by rw [beq_eq_false_iff_ne]; intro hh; exact h0 (List.eq_nil_of_length_eq_zero Z))) ?_
 refine yG ?_
 refine SW O O O I O (fun w G => CD GI O O (Cs.sub (Bx.cs (G.2.2.1)) 0 (EK _ _ _ _ _)) O) ?_
 refine yG ?_
 refine JF (o := ⟨some 45, _, _, _, _, _⟩) O O O O (CZ NQ O (pJ 1 _ AD AD) O E ?_)
 clear E
 intro bd bt bp bv bn _ E
 refine ⟨E.2.2, ?_⟩
 have ax : FitQ ((1 : Int) : Rat) 4 := RC (k := 4) AD (EY AD AD)
 refine yG ?_
 refine JF (o := ⟨some 46, _, _, _, _, _⟩) O O O O (CH UR O (Oz _ _ _ _ c _ _ _ _ ((1 : Int) : Rat) _ (e8 E) (e7 E) E.2.1 E.1 (FitQ.mono hF AD) (FitQ.mono ax AD)) O E ?_)
 clear E
 intro bc _ E
 refine ⟨E.2.2, ?_⟩
 refine yG ?_
 refine SW O O O I O (fun w G => TS (c := true) O O O (by rw [bne, Iv D]; rfl)) ?_
 refine yG ?_
 refine V O O (CD GI O O (Cs.sub (Bx.cs (e4 E)) 0 (EK _ _ _ _ _)) O) ?_
 refine yG ?_
 refine EF O (BZ TI O (Jf _ _ _ _ c _ (e8 E) (e7 E) (FitQ.mono hF AD)) O E ?_)
 clear E
 intro bb _ E
 refine yG ?_
 refine EF O (JB (s := (bs (qT c))) O O ?_)
 intro av ba ac ai af a0
 have q : ((.slice H (LR l mm).length z) : Value).ownBlock ≠ some av := fun h => by have := (Acc.lt E.2.2.1.1 h).2; omega
 replace E := (E.below af).x a0
 clear ac ai af a0
 have a8 := e3 E
 refine yG ?_
 replace E := Su E
 refine EF O (WX (x := qT c) O O O a8.1 a5 E (fun g R h1 h2 => ⟨CS (fun e => q (e ▸ R)), BW, BW, BW, CS Z, EA Z, EC (CN Z), BW, BW, JD Z, BW⟩) O E.1 q (by have := a3; omega) (CU (e3 E)) ?_)
 clear E
 intro bl ak aa b6 E
 obtain ⟨b2, az, rfl, an, _⟩ := aa.shp
 replace E := E.r (e := elS) (S := GL u ak.heap.size) aa (fun _ g => g.2)
 refine yG ?_
 refine EF O (BZ MJ O (pU _ ((qT c) :: LR l mm) 42 _ (BV E.1) (Nat.le_trans (jB hV hmm hF) AD) (by rw [List.length_cons]; omega)) O E ?_)
 clear E
 intro b9 _ E
 refine yG ?_
 exact ⟨iA (qD (.inr D)), PP E⟩
end Go.Proofs.YtmppigbbkjepiaaGreatDoor
set_option maxHeartbeats 2000000
set_option maxRecDepth 100000
namespace Go.Proofs.YtmppigbbkjepiaaGreatDoor
open Go.Proofs.Tryz
open Go.RowKit W
theorem Jr (s : ByteArray) : ∀ u ∈ Lib.strCells s, Gn u := by
  intro u f k e
  subst e
  simp only [Lib.strCells, List.mem_map] at f
  obtain ⟨b, _, h⟩ := f
  cases h
theorem Gn_u8 (n : Nat) : ∀ u ∈ (Builtin.zeroCells (Value.int .u8 0).cells n).toList, Gn u := by
  intro u f k e
  subst e
  unfold Builtin.zeroCells at f
  simp only [Array.toList_map, List.mem_map] at f
  obtain ⟨j, _, h⟩ := f
  have : (Value.int .u8 0).cells = #[.int .u8 0] := rfl
  rw [this] at h
  simp [Nat.mod_one] at h
theorem nV {P : Program} {w : World} (base : Nat) (t u ty e : TypeId) (i : TypeInfo) (ht : P.underlying t = some (.slice e)) (hu : P.underlying u = some .string) (hi : P.info? e = some i) (hz : i.zero = some (.int .u8 0))
    (hsize : i.size = 1) (hby : i.bytes = 1) (v : Value) (n : Nat) (xs : List Value) (hown : RowG w base e 1 Gn v n xs) (s : ByteArray)
    (h63 : n + s.size ≤ maxLen) (hbytes : n + s.size ≤ 140737488355328) (hbase : base ≤ w.heap.size) :
    ∃ v' w', (Builtin.append_ #[t, u] ty #[v, .string s]).run P w = .ok v' w' ∧ RowG w' base e 1 Gn v' (n + s.size) (xs ++ Lib.strCells s) ∧
      ((Below w.heap.size w w' ∧ (v'.ownBlock = some w.heap.size ∨ v' = .slice none 0 0)) ∨ (∃ g, v.ownBlock = some g ∧ v'.ownBlock = some g ∧ Onl g w w')) := by
  have H : n + s.size ≤ 9223372036854775807 := by simp only [maxLen] at h63; omega
  have q : xs.length = n := by simpa using hown.1
  have h : (xs ++ Lib.strCells s).length = (n + s.size) * 1 := by rw [List.length_append, q, Lib.strCells_length, Nat.mul_one]
  have B : ∀ o : Obj, Below w.heap.size w (w.drew.alloc o) := fun o => ((Below.refl _ _).drew).alloc (Nat.le_refl _) o
  have grown : ∀ (f : Nat), f < n + s.size → (∀ u ∈ xs, Gn u) →
      RowG (w.drew.alloc (.cells (xs.toArray ++ (Lib.strCells s).toArray ++ Builtin.zeroCells (Value.int .u8 0).cells (grownCap w (n + s.size) f e - (n + s.size))) e)) base e 1 Gn
        (.slice (some ⟨w.heap.size, 0, none⟩) (n + s.size) (grownCap w (n + s.size) f e)) (n + s.size) (xs ++ Lib.strCells s) := by
    intro f ho T
    have Q := grownCap_ge w (n + s.size) f e
    have D : grownCap w (n + s.size) f e ≤ maxLen := grownCap_le_maxLen w (n + s.size) f e h63
    refine ⟨h, .inr ⟨w.heap.size, _, _, O, hbase, heap_alloc_new w.drew _, Q, D, ?_, ?_, ?_⟩⟩
    · have L : (Value.int IntKind.u8 0).cells.size = 1 := rfl
      simp only [Array.size_append, List.size_toArray, size_zeroCells, L, q, Lib.strCells_length]
      omega
    · simp only [Array.toList_append, List.append_assoc]
      rw [← List.append_assoc, ← h]
      exact List.take_left
    · intro u hu
      simp only [Array.toList_append, List.mem_append] at hu
      rcases hu with (hu | hu) | hu
      · exact T u hu
      · exact Jr s u hu
      · exact Gn_u8 _ u hu
  rcases hown.2 with ⟨rfl, rfl⟩ | ⟨g, k, z, rfl, S, U, a0, D, R, l, F⟩
  · have hx : xs = [] := List.eq_nil_of_length_eq_zero q
    subst hx
    by_cases J : s.size = 0
    · have hn : Lib.strCells s = [] := List.eq_nil_of_length_eq_zero (by rw [Lib.strCells_length]; exact J)
      refine ⟨.slice none 0 0, w, ?_, by rw [J, hn]; exact WU w base e 1 Gn, .inl ⟨Below.refl _ _, .inr O⟩⟩
      have X := Lib.run_firstCells_string (P := P) w 1 s
      rw [J] at X
      simp [Builtin.append_, run_underlying ht, run_underlying hu, sizeOf, typeInfo, hi, hsize, Builtin.lenOf, J, X]
    · have G := run_append_nil_string (P := P) w t u ty e i (.int .u8 0) ht hu hi hz s Z Z (by rw [hby]; omega)
      have y := grown 0 Z (by intro u hu; cases hu)
      simp only [Nat.zero_add, List.nil_append, Array.empty_append] at y ⊢
      have e1 : (s.data.map fun b => Value.int .u8 b.toNat) = (Lib.strCells s).toArray := by
        apply Array.ext'
        simp [Lib.strCells]
      rw [e1] at G
      exact ⟨_, _, G, y, .inl ⟨B _, .inl rfl⟩⟩
  · by_cases p : n + s.size ≤ k
    · have Y : z.size = k := by simpa using R
      have G := Lib.run_append_room_string (P := P) w t u ty e i ht hu hi hsize g n k z U s p Z
      refine ⟨_, _, G, ⟨h, .inr ⟨g, k, _, O, S, setRow_heap w g z _ e _ U, p, D, ?_, ?_, ?_⟩⟩, .inr ⟨g, O, O, MV _ _ _⟩⟩
      · simp only [List.size_toArray, List.length_append, List.length_take, List.length_drop, Array.length_toList, Lib.strCells_length]
        omega
      · have N : z.toList.take n = xs := by simpa using l
        rw [N, ← h]
        exact List.take_left
      · intro u hu
        simp only [List.mem_append] at hu
        rcases hu with (hu | hu) | hu
        · exact F u (List.mem_of_mem_take hu)
        · exact Jr s u hu
        · exact F u (List.mem_of_mem_drop hu)
    · have C : ∀ j u, xs[j]? = some u → w.cell? ((⟨g, 0, none⟩ : Addr).add j) = some u := hown.own.cells (g := g) rfl
      have G := Lib.run_append_grow_string (P := P) w t u ty e i (.int .u8 0) ht hu hi hz ⟨g, 0, none⟩ n k xs (by rw [hsize]; simpa using q) C s Z Z (by rw [hby]; exact growslice_fits Z Z)
      have y := grown k Z (fun u hu => F u (by rw [← l] at hu; exact List.mem_of_mem_take hu))
      exact ⟨_, _, G, y, .inl ⟨B _, .inl rfl⟩⟩
theorem dZ {P : Program} {w : World} {ops : Array Oper} {rest : List Oper} {o : Oper} {a : Act} {Q : Exit → Act → World → Prop} (hgd : o.guard = none) (sl x : Operand) (t u : TypeId)
    (ho : o.op = .call { callee := .builtin .append, args := #[sl, x], argTypes := #[t, u] })
    (base : Nat) (e : TypeId) (i : TypeInfo) (ht : P.underlying t = some (.slice e)) (hu : P.underlying u = some .string) (hi : P.info? e = some i) (hz : i.zero = some (.int .u8 0))
    (hsize : i.size = 1) (hby : i.bytes = 1)
    (v : Value) (n : Nat) (xs : List Value) (hs : a.eval sl = v) (hown : RowG w base e 1 Gn v n xs) (s : ByteArray) (hx : a.eval x = .string s)
    (h63 : n + s.size ≤ maxLen) (hbytes : n + s.size ≤ 140737488355328) (hbase : base ≤ w.heap.size)
    (h : ∀ v' w', RowG w' base e 1 Gn v' (n + s.size) (xs ++ Lib.strCells s) → ((Below w.heap.size w w' ∧ (v'.ownBlock = some w.heap.size ∨ v' = .slice none 0 0)) ∨ (∃ g, v.ownBlock = some g ∧ v'.ownBlock = some g ∧ Onl g w w')) → wpList P ops Q rest (a.put o.dst v') w') : wpList P ops Q (o :: rest) a w := by
  refine wpList_plain hgd fun K k => ?_
  obtain ⟨v', w', f, p, l⟩ := nV (P := P) base t u o.type e i ht hu hi hz hsize hby v n xs hown s h63 hbytes hbase
  unfold Oper.wp execOp
  simp only [ho, resolve, invoke, builtin, Sem.run_bind, Sem.run_pure, Result.andThen_ok, List.map_toArray, List.map_cons, List.map_nil, hs, hx, f]
  exact k _ _ (h v' w' p l)
abbrev YP : Nat := 105
theorem szB : (prog.info? YP).map (·.size) = some 2 := by kernel_rfl
theorem liesB : liesAt prog prog.depth YP (2 / prog.cellsOf YP) 0 YP 1 = true := by kernel_rfl
theorem u8B : (prog.info? 5).map (fun i => (i.zero, i.size, i.bytes)) = some (some (.int .u8 0), 1, 1) := by kernel_rfl
theorem jP (b : Nat) (w : World) (h0 : w.cell? ⟨b, 0, none⟩ = some (.pointer (some ⟨b, 0, none⟩))) :
    Calls prog 96 #[.pointer (some ⟨b, 0, none⟩)] w fun e w' => e = .returned (.tuple #[]) ∧ w' = w := by
  obtain ⟨j, f, _⟩ := Option.map_eq_some_iff.1 szB
  go_enter func96, ntmps96
  go_wp2
  rw [Lib.run_neq_ptr_same w _ underlying103 f]
  go_wp2
  go_end0
  exact ⟨rfl, rfl⟩
theorem eZ (b : Nat) (w : World) (h0 : w.cell? ⟨b, 0, none⟩ = some (.pointer none)) (hsh : w.shape? b = some (YP, 2)) (hfz : w.frozen? ⟨b, 0, none⟩ = false) :
    Calls prog 96 #[.pointer (some ⟨b, 0, none⟩)] w fun e w' => e = .returned (.tuple #[]) ∧ w' = w.setCell ⟨b, 0, none⟩ (.pointer (some ⟨b, 0, none⟩)) := by
  obtain ⟨j, h, f⟩ := Option.map_eq_some_iff.1 szB
  go_enter func96, ntmps96
  go_wp2
  rw [Lib.run_to_unsafe w ⟨b, 0, none⟩ underlying103 underlying181 h (by rw [f]; decide) hsh (Nat.zero_lt_succ 1)]
  simp only [Result.andThen]
  rw [Oper.upon_value]
  go_wp2
  rw [run_callFunc_extern func143 I I I (e := Extern.AbiNoEscape.same) I]
  rw [Lib.run_noEscape]
  simp only [Result.andThen]
  rw [Oper.upon_value]
  go_wp2
  rw [Lib.run_from_unsafe w ⟨b, 0, none⟩ underlying181 underlying103 h hsh liesB]
  simp only [Result.andThen]
  rw [Oper.upon_value]
  go_wp2
  go_end0
  exact ⟨rfl, rfl⟩
def elB : El UInt8 where
  sz := 1
  p := fun _ _ cs x => cs = [.int .u8 x.toNat]
  keep := fun h _ => h
  mono := fun h _ => h
  len := fun h => by subst h; rfl
  one := fun h => by subst h; intro v hv; simp at hv; subst hv; rfl
  nw := fun h => by subst h; intro c hc k e; subst e; simp at hc
def tY (l : Bs) : List Value := l.map fun b => Value.int .u8 b.toNat
theorem Nk (s : Bs) : Lib.strCells (bs s) = tY s := by unfold Lib.strCells tY; rw [FI]
theorem Nl (a b : Bs) : tY (a ++ b) = tY a ++ tY b := List.map_append
theorem Ae (a : Bs) : (tY a).length = a.length := List.length_map _
theorem Am {t base : Nat} {w : World} {v : Value} {l : Bs} (h : Acc elB t base VF w v l) : RowG w base t 1 Gn v l.length (tY l) := by
  obtain ⟨e, o, q, _⟩ := h
  have u : e.length = l.length := by have := o.1; rw [show elB.sz = 1 from rfl, Nat.mul_one] at this; exact this
  have : e = tY l := by
    refine List.ext_getElem? fun i => ?_
    by_cases k : i < l.length
    · have p : (e.drop (i * 1)).take 1 = [.int .u8 (l[i]).toNat] := q i l[i] (List.getElem?_eq_getElem k)
      have f := congrArg (fun c : List Value => c[0]?) p
      simp only [List.getElem?_take, List.getElem?_drop, Nat.mul_one, Nat.add_zero, List.getElem?_cons_zero] at f
      rw [if_pos AD] at f
      rw [f]
      unfold tY
      rw [List.getElem?_map, List.getElem?_eq_getElem k]; rfl
    · rw [List.getElem?_eq_none Z, List.getElem?_eq_none (by rw [Ae]; omega)]
  rw [← this]; exact o
theorem wR {t base : Nat} {w : World} {v : Value} {l : Bs} (h : RowG w base t 1 Gn v l.length (tY l)) : Acc elB t base VF w v l := by
  refine ⟨tY l, h, fun i x e => ?_, fun _ _ h => h⟩
  show ((tY l).drop (i * 1)).take 1 = [.int .u8 x.toNat]
  have f := (List.getElem?_eq_some_iff.1 e).1
  rw [Nat.mul_one]
  have k : (tY l).drop i = .int .u8 x.toNat :: (tY l).drop (i + 1) := by
    rw [List.drop_eq_getElem_cons (by rw [Ae]; exact f)]
    congr 1
    unfold tY
    rw [List.getElem_map, (List.getElem?_eq_some_iff.1 e).2]
  rw [k]; rfl
theorem Qq : YP ≠ 5 := by decide
theorem uW {w : World} {base e T n : Nat} {v : Value} {xs : List Value} {b : Nat} {cs : List Value} (h : RowG w base e 1 Gn v n xs) (hb : Bx w b T cs) (hT : T ≠ e) : v.ownBlock ≠ some b := Lib.ownBlock_ne h.own hb hT
theorem aO (w : World) (b o : Nat) (v : Value) : Onl b w (w.setCell ⟨b, o, none⟩ v) := dN w b o v
theorem Ni {w : World} {b T : Nat} {p v q : Value} (h : Bx w b T [p, v]) : Bx (w.setCell ⟨b, 0, none⟩ q) b T [q, v] := by
  unfold Bx at *
  simp [World.setCell, Array.getElem?_modify, h]
theorem Nh {w : World} {b T : Nat} {p v q : Value} (h : Bx w b T [p, v]) : Bx (w.setCell ⟨b, 1, none⟩ q) b T [p, q] := by
  unfold Bx at *
  simp [World.setCell, Array.getElem?_modify, h]
def Wrote (base b : Nat) (v : Value) (l : Bs) (w w' : World) : Prop :=
  ∃ v', Bx w' b YP [.pointer (some ⟨b, 0, none⟩), v'] ∧ Acc elB 5 base VF w' v' l ∧ w.heap.size ≤ w'.heap.size ∧ (∀ c, c < w.heap.size → v.ownBlock ≠ some c → v'.ownBlock ≠ some c) ∧
    ∀ L, Env w L → Ok b L → (∀ g, v.ownBlock = some g → base ≤ g → g < w.heap.size → Ok g L) → Env w' L
theorem tA (b : Nat) (p v : Value) (w : World) (hb : Bx w b YP [p, v]) (hp : p = .pointer none ∨ p = .pointer (some ⟨b, 0, none⟩)) :
    Calls prog 96 #[.pointer (some ⟨b, 0, none⟩)] w fun e w' => e = .returned (.tuple #[]) ∧ Bx w' b YP [.pointer (some ⟨b, 0, none⟩), v] ∧ (w' = w ∨ Onl b w w') := by
  rcases hp with rfl | rfl
  · refine (eZ b w (by rw [hb.cell]; rfl) (by unfold World.shape?; rw [show w.heap[b]? = _ from hb]; rfl) (Lib.frozen_of_heap hb 0)).mono ?_
    rintro e w' ⟨rfl, rfl⟩
    exact ⟨rfl, Ni hb, .inr (aO _ _ _ _)⟩
  · refine (jP b w (by rw [hb.cell]; rfl)).mono ?_
    rintro e w' ⟨rfl, rfl⟩
    exact ⟨rfl, hb, .inl rfl⟩
theorem now2 {p v : Value} (hp : p = .pointer none ∨ ∃ a, p = .pointer (some a)) (hv : ∃ ao n cap, v = .slice ao n cap) : VC [p, v] := by
  obtain ⟨ao, n, cap, rfl⟩ := hv
  intro c f k e
  subst e
  rcases hp with rfl | ⟨a, rfl⟩ <;> simp at f
theorem lC (b base : Nat) (p v : Value) (l s : Bs) (w : World) (hb : Bx w b YP [p, v]) (hA : Acc elB 5 base VF w v l) (hp : p = .pointer none ∨ p = .pointer (some ⟨b, 0, none⟩)) (hlen : l.length + s.length ≤ 140737488355328) (hbase : base ≤ w.heap.size) :
    Calls prog 48 #[.pointer (some ⟨b, 0, none⟩), .string (bs s)] w fun e w' => e = .returned (.tuple #[.int .i64 ↑s.length, .nilIface]) ∧ Wrote base b v (l ++ s) w w' := by
  obtain ⟨i0, hi, z⟩ := Option.map_eq_some_iff.1 u8B
  simp only [Prod.mk.injEq] at z
  obtain ⟨z, U, T⟩ := z
  have J : ∃ C n k, v = .slice C n k := by obtain ⟨C, k, e⟩ := hA.shp; exact ⟨C, _, k, e⟩
  have X : wZ w b := hb.noW (now2 (hp.elim .inl fun e => .inr ⟨_, e⟩) J)
  have t := Am hA
  have Q := uW t hb Qq
  go_enter func48, ntmps48
  go_wp2_with (go_at_call 96; refine (tA b p v _ hb hp).mono ?_)
  rintro e H ⟨rfl, G, F⟩
  have B : H.heap.size = w.heap.size := by rcases F with rfl | h; rfl; exact h.size
  have o : RowG H base 5 1 Gn v l.length (tY l) := by rcases F with rfl | h; exact t; exact t.onl Q h
  have c1 : H.cell? ⟨b, 1, none⟩ = some v := by rw [G.cell]; rfl
  go_wp2_with (at_builtin; refine dZ rfl _ _ 42 9 rfl base 5 i0 underlying42 underlying9 hi z U T _ _ _ rfl o (bs s) rfl ?c3 ?c4 ?c5 ?_)
  case c3 => rw [FH]; unfold maxLen; omega
  case c4 => rw [FH]; omega
  case c5 => omega
  intro v' D q f
  have y : Bx D b YP [.pointer (some ⟨b, 0, none⟩), v] := by
    rcases f with ⟨h, _⟩ | ⟨g, S, _, h⟩
    · exact G.below (by rw [B]; exact h)
    · exact G.onl (fun e => Q (by rw [S, e])) h
  have d1 : D.cell? ⟨b, 1, none⟩ = some v := by rw [y.cell]; rfl
  have f1 : D.frozen? ⟨b, 1, none⟩ = false := Lib.frozen_of_heap y 1
  obtain ⟨C, R, k, rfl⟩ : ∃ C R k, v' = .slice C R k := by
    rcases q.2 with ⟨N, _⟩ | ⟨g, k, a1, N, _⟩
    · exact ⟨_, _, _, N⟩
    · exact ⟨_, _, _, N⟩
  have a0 : H.heap.size ≤ D.heap.size := by
    rcases f with ⟨h, _⟩ | ⟨g, S, _, h⟩
    · exact h.size
    · exact Nat.le_of_eq h.size.symm
  go_wp2
  go_ret2
  refine ⟨by rw [FH]; rfl, _, Nh y, ?_, ?_, ?_, ?_⟩
  · refine wR ?_
    have P := uW q y Qq
    have := q.onl P (aO D b 1 (.slice C R k))
    rw [FH, Nk, ← Nl] at this
    rw [List.length_append]; exact this
  · rw [(aO D b 1 (.slice C R k)).size]; omega
  · intro c hc N
    rcases f with ⟨_, h | h⟩ | ⟨g, u, Y, _⟩
    · rw [h]; simp only [ne_eq, Option.some.injEq]; omega
    · rw [h]; simp [Value.ownBlock]
    · rw [Y, ← u]; exact N
  · intro L E hk S
    have E1 : Env H L := by rcases F with rfl | h; exact E; exact E.onl X hk h
    have E2 : Env D L := by
      rcases f with ⟨h, _⟩ | ⟨g, u, _, h⟩
      · exact E1.below (by rw [B]; exact h)
      · have := o.own.lt g u
        exact E1.onl (o.noW u nC) (S g u this.1 Z) h
    exact E2.onl (y.noW (now2 (.inr ⟨_, rfl⟩) J)) hk (aO _ _ _ _)
end Go.Proofs.YtmppigbbkjepiaaGreatDoor
