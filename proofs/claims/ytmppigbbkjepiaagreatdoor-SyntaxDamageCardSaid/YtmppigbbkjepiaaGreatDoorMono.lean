/- Helping facts of Mono; no other conditions. -/
import Derived.Test.YtmppigbbkjepiaaGreatDoorRat1
import Derived.ChangeKeysEq
set_option maxHeartbeats 4000000
set_option maxRecDepth 100000
namespace Go.Proofs.YtmppigbbkjepiaaGreatDoor
open Go.Proofs.Tryz
open Go.RowKit W
def GP (m : List Nat) : List Value := m.map fun (e : Nat) => .int .i64 ↑e
def EK (m : List Nat) : Prop := m.length = 8 ∧ ∀ e ∈ m, e ≤ 65535
def me (m : List Nat) (i : Nat) : Nat := m.getD i 0
theorem RP {m : List Nat} {i : Nat} (h : i < m.length) : me m i = m[i] := by unfold me; simp [List.getD_eq_getElem?_getD, h]
theorem uC {m : List Nat} (h : EK m) (i : Nat) : me m i ≤ 65535 := by
  by_cases e : i < m.length
  · rw [RP e]; exact h.2 _ (List.getElem_mem e)
  · unfold me; simp [List.getD_eq_getElem?_getD, List.getElem?_eq_none (by omega : m.length ≤ i)]
theorem DC {m : List Nat} (h : EK m) : (GP m).length = 8 := by unfold GP; rw [List.length_map]; exact h.1
theorem GA {m : List Nat} (h : EK m) {i : Nat} (hi : i < 8) : (GP m)[0 + i * 1]? = some (.int .i64 ↑(me m i)) := by
  have e : i < m.length := by rw [h.1]; exact hi
  rw [RP e]; unfold GP
  rw [Nat.zero_add, Nat.mul_one, List.getElem?_map, List.getElem?_eq_getElem e]; rfl
theorem QX : Ag prog 67 8 [.int .i64 0, .int .i64 0, .int .i64 0, .int .i64 0, .int .i64 0, .int .i64 0, .int .i64 0, .int .i64 0] := ⟨⟨_, underlying67, rfl⟩, by kernel_rfl, rfl⟩
theorem DA (w : World) : (isAgg 3).run prog w = .ok false w := by simp [go_sem]
theorem VA {ρ : Operand → Value} {o : Oper} {w : World} {x y : Operand} {m : List Nat} {i : Nat} {J : Int} (ho : o.op = .index 67 x y) (hx : ρ x = .agg (GP m).toArray) (hy : ρ y = .int .i64 J) (hJ : J = (i : Int)) (h : EK m) (hi : i < 8) :
    (execOp ρ o).run prog w = .ok (.value (.int .i64 ↑(me m i))) w := by
  subst hJ
  unfold execOp; rw [ho]
  have e := GA h hi
  rw [Nat.zero_add, Nat.mul_one] at e
  have f : (sizeOf 3).run prog w = .ok 1 w := by kernel_rfl
  simp [hx, hy, Instr.index, asIntOf, run_underlying underlying67, hi, f, part, e, go_sem]
def QA (m : List Nat) (i : Nat) : Nat := (m.take i).sum
theorem oH {m : List Nat} (h : EK m) {i : Nat} (hi : i < 8) : QA m (i + 1) = QA m i + me m i := by
  have e : i < m.length := by rw [h.1]; exact hi
  rw [RP e]; unfold QA
  rw [List.take_succ_eq_append_getElem e, List.sum_append]; simp
theorem Cc {m : List Nat} (h : EK m) : ∀ i, i ≤ 8 → QA m i ≤ 65535 * i
  | 0, _ => by simp [QA]
  | i + 1, hi => by have := Cc h i AA; have := uC h i; rw [oH h AA]; omega
theorem madd {m : List Nat} (h : EK m) {i : Nat} (hi : i < 8) : IntKind.i64.wrap (((QA m i : Nat) : Int) + ((me m i : Nat) : Int)) = ((QA m (i + 1) : Nat) : Int) := by
  have := Cc h i AA; have := uC h i
  rw [oH h hi, JK AA]; omega
theorem Io (m : List Nat) (w : World) (hm : EK m) :
    Calls prog 175 #[.agg (GP m).toArray] w (dK w ((QA m 8 : Nat) : Int)) := by
 have E := Env.start w
 go_enter func175, ntmps175
 refine zG ?_
 refine EF O (CI (cs := GP m) O O ?_)
 intro t H e1 F D u
 replace E := E.below D
 clear e1
 replace E := E.x u
 refine zG ?_
 refine V O O (CT QX O O E.1 (DC hm)) ?_
 refine zG ?_
 refine wp_loop_ghost (fun z a y => ∃ (i : Nat) (q p o k h f e : Value), a = ⟨#[.agg (GP m).toArray, .pointer (some ⟨t, 0, none⟩), .int .i64 0, .int .i64 ↑(QA m i), undef, q, .agg (GP m).toArray, .int .i64 ↑i, p, o, k, h, f, e, undef], []⟩ ∧ Env y [fX t (67) (GP m), fW w] ∧ z = 8 - i ∧ i ≤ 8) (8) ⟨0, _, _, _, _, _, _, _, O, zE, O, AA⟩ ?_
 rintro I _ G ⟨i, q, p, o, k, h, f, e, rfl, E, l, C⟩
 by_cases B : i < 8
 case neg =>
  refine zG ?_
  exact ⟨GX (by rw [show i = 8 by omega]), E.2.1⟩
 refine zG ?_
 refine V (v := .int .i64 ↑(me m i)) O O (VA O O O O hm AA) ?_
 refine zG ?_
 refine V (v := .int .i64 ↑(QA m (i + 1))) O O (JD O O O (madd hm B)) ?_
 refine zG ?_
 exact ⟨_, (by rw [l]; omega), (i + 1), _, _, _, _, _, _, _, O, zE, O, AA⟩
theorem Rc {m : List Nat} (i : Nat) : decide (((me m i : Nat) : Int) < 0) = false := by rw [decide_eq_false_iff_not]; omega
theorem Lx {m : List Nat} (h : EK m) (i : Nat) : decide (((me m i : Nat) : Int) > 65535) = false := by have := uC h i; rw [decide_eq_false_iff_not]; omega
def EI : List Nat → List Nat → Int
  | x :: xs, y :: ys => if x < y then -1 else if y < x then 1 else EI xs ys
  | _, _ => 0
theorem cZ {m : List Nat} (h : EK m) {i : Nat} (hi : i < 8) : m.drop i = me m i :: m.drop (i + 1) := by
  have e : i < m.length := by rw [h.1]; exact hi
  rw [List.drop_eq_getElem_cons e, RP e]
theorem eY {a b : List Nat} (ha : EK a) (hb : EK b) {i : Nat} (hi : i < 8) : EI (a.drop i) (b.drop i) = if me a i < me b i then -1 else if me b i < me a i then 1 else EI (a.drop (i + 1)) (b.drop (i + 1)) := by
  rw [cZ ha hi, cZ hb hi]; rfl
theorem Dc {a b : List Nat} (ha : EK a) (hb : EK b) {i : Nat} (hi : i < 8) (hJ : EI a b = EI (a.drop i) (b.drop i)) (h : me a i < me b i) : -1 = EI a b := by rw [hJ, eY ha hb hi, if_pos h]
theorem Dd {a b : List Nat} (ha : EK a) (hb : EK b) {i : Nat} (hi : i < 8) (hJ : EI a b = EI (a.drop i) (b.drop i)) (h : me b i < me a i) : 1 = EI a b := by rw [hJ, eY ha hb hi, if_neg AA, if_pos h]
theorem De {a b : List Nat} (ha : EK a) (hb : EK b) {i : Nat} (hi : i < 8) (hJ : EI a b = EI (a.drop i) (b.drop i)) (h1 : ¬ me a i < me b i) (h2 : ¬ me b i < me a i) : EI a b = EI (a.drop (i + 1)) (b.drop (i + 1)) := by rw [hJ, eY ha hb hi, if_neg h1, if_neg h2]
theorem Oa {a b : List Nat} (ha : EK a) {i : Nat} (hi : ¬ i < 8) (hJ : EI a b = EI (a.drop i) (b.drop i)) : 0 = EI a b := by
  rw [hJ, List.drop_of_length_le (by rw [ha.1]; omega)]; cases b.drop i <;> rfl
theorem Hv (a : List Nat) : EI a a = 0 := by
  induction a with
  | nil => rfl
  | cons x xs ih => simp [EI, ih]
theorem Il (m : List Nat) (w : World) (hm : EK m) :
    Calls prog 104 #[.agg (GP m).toArray] w (NP w true) := by
 have E := Env.start w
 go_enter func104, ntmps104
 refine zG ?_
 refine EF O (CI (cs := GP m) O O ?_)
 intro t R e1 P N H
 replace E := E.below N
 clear e1
 replace E := E.x H
 refine zG ?_
 refine wp_loop_ghost (fun J a I => ∃ (i : Nat) (G F D C B z y q p o l k h f e : Value), a = ⟨#[.agg (GP m).toArray, .pointer (some ⟨t, 0, none⟩), G, .int .i64 ↑i, F, D, C, B, z, y, q, p, o, l, k, h, f, e], []⟩ ∧ Env I [fX t (67) (GP m), fW w] ∧ J = 8 - i ∧ i ≤ 8) (8) ⟨0, _, _, _, _, _, _, _, _, _, _, _, _, _, _, _, O, zE, O, AA⟩ ?_
 rintro S _ Q ⟨i, G, F, D, C, B, z, y, q, p, o, l, k, h, f, e, rfl, E, u, L⟩
 by_cases T : i < 8
 case neg =>
  refine zG ?_
  exact ⟨rfl, E.2.1⟩
 refine zG ?_
 refine V (v := .pointer (some ⟨t, 0 + i * 1, none⟩)) O O (DS (j := i) O underlying67 Z O O O AA) ?_
 refine V O O (CP O DA O E.1 (GA hm AA)) ?_
 refine V O O (PN (c := false) O O O (Rc i)) ?_
 refine zG ?_
 refine V (v := .pointer (some ⟨t, 0 + i * 1, none⟩)) Z O (DS (j := i) O underlying67 Z O O O AA) ?_
 refine V Z O (CP O DA O E.1 (GA hm AA)) ?_
 refine zG ?_
 refine V Z O (VB (c := false) O O O (Lx hm i)) ?_
 refine zG ?_
 exact ⟨_, (by rw [u]; omega), (i + 1), _, _, _, _, _, _, _, _, _, _, _, _, _, _, _, O, zE, O, AA⟩
theorem Ow (m : List Nat) (w : World) (hm : EK m) :
    Calls prog 82 #[.agg (GP m).toArray] w (NP w true) := by
 have E := Env.start w
 go_enter func82, ntmps82
 refine zG ?_
 refine EF O (CI (cs := GP m) O O ?_)
 intro B L e1 I H C
 replace E := E.below H
 clear e1
 replace E := E.x C
 refine zG ?_
 refine V O O (CT QX O O E.1 (DC hm)) ?_
 refine zG ?_
 refine wp_loop_ghost (fun F a D => ∃ (i : Nat) (z y u t q o l k h f e : Value), a = ⟨#[.agg (GP m).toArray, .pointer (some ⟨B, 0, none⟩), z, undef, y, .agg (GP m).toArray, .int .i64 ↑i, u, t, q, o, l, k, h, f, e], []⟩ ∧ Env D [fX B (67) (GP m), fW w] ∧ F = 8 - i ∧ i ≤ 8) (8) ⟨0, _, _, _, _, _, _, _, _, _, _, _, O, zE, O, AA⟩ ?_
 rintro N _ J ⟨i, z, y, u, t, q, o, l, k, h, f, e, rfl, E, p, G⟩
 by_cases P : i < 8
 case neg =>
  refine zG ?_
  exact ⟨rfl, E.2.1⟩
 refine zG ?_
 refine V (v := .int .i64 ↑(me m i)) O O (VA O O O O hm AA) ?_
 refine zG ?_
 refine V Z O (VB (c := false) O O O (Lx hm i)) ?_
 refine zG ?_
 exact ⟨_, (by rw [p]; omega), (i + 1), _, _, _, _, _, _, _, _, _, _, _, O, zE, O, AA⟩
theorem VP (p q : List Nat) (w : World) (hp : EK p) (hq : EK q) :
    Calls prog 59 #[.agg (GP p).toArray, .agg (GP q).toArray] w (dK w (EI p q)) := by
 have E := Env.start w
 go_enter func59, ntmps59
 refine zG ?_
 refine EF O (CI (cs := GP p) O O ?_)
 intro h w1 e1 z1 d1 x1
 replace E := E.below d1
 clear e1
 replace E := E.x x1
 refine zG ?_
 refine EF O (CI (cs := GP q) O O ?_)
 intro f w2 e2 z2 d2 x2
 replace E := E.below d2
 clear e2
 replace E := E.x x2
 refine zG ?_
 refine wp_loop_ghost (fun mz a w' => ∃ (i : Nat) (Y X U T S J I H G F D C B z y u t o l : Value), a = ⟨#[.agg (GP p).toArray, .agg (GP q).toArray, .pointer (some ⟨h, 0, none⟩), .pointer (some ⟨f, 0, none⟩), Y, .int .i64 ↑i, X, U, T, S, J, I, H, G, F, D, C, B, z, y, u, t, o, l], []⟩ ∧ Env w' [fX f (67) (GP q), fX h (67) (GP p), fW w] ∧ mz = 8 - i ∧ (i ≤ 8 ∧ EI p q = EI (p.drop i) (q.drop i))) (8) ⟨0, _, _, _, _, _, _, _, _, _, _, _, _, _, _, _, _, _, _, _, O, zE, O, ⟨by omega, O⟩⟩ ?_
 rintro m3 _ w3 ⟨i, Y, X, U, T, S, J, I, H, G, F, D, C, B, z, y, u, t, o, l, rfl, E, P, k⟩
 obtain ⟨k, N⟩ := k
 by_cases L : i < 8
 case neg =>
  refine zG ?_
  exact ⟨GX (Oa hp L N), E.2.2.1⟩
 by_cases R : me p i < me q i
 case pos =>
  refine zG ?_
  refine sE E [0,1,2,3,4,5,6] ?_
  replace E := E.drew
  refine zG ?_
  refine SW (v := .pointer (some ⟨h, 0 + i * 1, none⟩)) O O O O O (fun w e => DS (j := i) O underlying67 Z O O O AA) ?_
  refine SW O O O O O (fun w e => CP O DA O (e.2.1) (GA hp AA)) ?_
  refine zG ?_
  refine SW (v := .pointer (some ⟨f, 0 + i * 1, none⟩)) O O O O O (fun w e => DS (j := i) O underlying67 Z O O O AA) ?_
  refine SW O O O O O (fun w e => CP O DA O (e.1) (GA hq AA)) ?_
  refine zG ?_
  exact ⟨GX (Dc hp hq L N R), E.2.2.1⟩
 by_cases Q : me q i < me p i
 case pos =>
  refine zG ?_
  refine sE E [0,1,2,3,4,5,6] ?_
  replace E := E.drew
  refine zG ?_
  refine SW (v := .pointer (some ⟨h, 0 + i * 1, none⟩)) O O O O O (fun w e => DS (j := i) O underlying67 Z O O O AA) ?_
  refine SW O O O O O (fun w e => CP O DA O (e.2.1) (GA hp AA)) ?_
  refine zG ?_
  refine SW (v := .pointer (some ⟨f, 0 + i * 1, none⟩)) O O O O O (fun w e => DS (j := i) O underlying67 Z O O O AA) ?_
  refine SW O O O O O (fun w e => CP O DA O (e.1) (GA hq AA)) ?_
  refine zG ?_
  refine sE E [0,1,2,3,4,5,6] ?_
  replace E := E.drew
  refine zG ?_
  refine SW (v := .pointer (some ⟨h, 0 + i * 1, none⟩)) O O O O O (fun w e => DS (j := i) O underlying67 Z O O O AA) ?_
  refine SW O O O O O (fun w e => CP O DA O (e.2.1) (GA hp AA)) ?_
  refine zG ?_
  refine SW (v := .pointer (some ⟨f, 0 + i * 1, none⟩)) O O O O O (fun w e => DS (j := i) O underlying67 Z O O O AA) ?_
  refine SW O O O O O (fun w e => CP O DA O (e.1) (GA hq AA)) ?_
  refine zG ?_
  exact ⟨GX (Dd hp hq L N Q), E.2.2.1⟩
 refine zG ?_
 refine sE E [0,1,2,3,4,5,6] ?_
 replace E := E.drew
 refine zG ?_
 refine SW (v := .pointer (some ⟨h, 0 + i * 1, none⟩)) O O O O O (fun w e => DS (j := i) O underlying67 Z O O O AA) ?_
 refine SW O O O O O (fun w e => CP O DA O (e.2.1) (GA hp AA)) ?_
 refine zG ?_
 refine SW (v := .pointer (some ⟨f, 0 + i * 1, none⟩)) O O O O O (fun w e => DS (j := i) O underlying67 Z O O O AA) ?_
 refine SW O O O O O (fun w e => CP O DA O (e.1) (GA hq AA)) ?_
 refine zG ?_
 refine sE E [0,1,2,3,4,5,6] ?_
 replace E := E.drew
 refine zG ?_
 refine SW (v := .pointer (some ⟨h, 0 + i * 1, none⟩)) O O O O O (fun w e => DS (j := i) O underlying67 Z O O O AA) ?_
 refine SW O O O O O (fun w e => CP O DA O (e.2.1) (GA hp AA)) ?_
 refine zG ?_
 refine SW (v := .pointer (some ⟨f, 0 + i * 1, none⟩)) O O O O O (fun w e => DS (j := i) O underlying67 Z O O O AA) ?_
 refine SW O O O O O (fun w e => CP O DA O (e.1) (GA hq AA)) ?_
 refine zG ?_
 exact ⟨_, (by rw [P]; omega), (i + 1), _, _, _, _, _, _, _, _, _, _, _, _, _, _, _, _, _, _, _, O, zE, O, ⟨by omega, De hp hq L N R Q⟩⟩
theorem bO (d : Nat) {w : World} {p q : List Nat} (hp : EK p) (hq : EK q) : ∀ is : List Nat, (∀ i ∈ is, i < 8) →
    (Op.eqItems (d + 1) 3 1 (GP p).toArray (GP q).toArray is).run prog w = .ok (is.all fun i => me p i == me q i) w
  | [], _ => by simp [Op.eqItems]
  | i :: is, h => by
    have hi : i < 8 := h i AH
    have h1 := GA hp hi
    have h2 := GA hq hi
    rw [Nat.zero_add] at h1 h2
    have h3 : ∀ (m : List Nat), (GP m)[i * 1]? = some (.int .i64 ↑(me m i)) → (part 3 (GP m).toArray (i * 1)).run prog w = .ok (.int .i64 ↑(me m i)) w := by
      intro m e
      rw [Nat.mul_one] at e ⊢
      simp [part, e, go_sem]
    have l : (Op.equalIn (d + 1) 3 (.int .i64 ↑(me p i)) (.int .i64 ↑(me q i))).run prog w = .ok (me p i == me q i) w := by
      simp only [Op.equalIn, Sem.run_bind, run_underlying underlying3, Result.andThen_ok, if_true, Sem.run_pure]
      congr 1
      rw [Bool.eq_iff_iff, beq_iff_eq, beq_iff_eq]; omega
    have f := bO d (w := w) hp hq is (fun j k => h j (by simp [k]))
    simp only [Op.eqItems, Sem.run_bind, h3 p h1, h3 q h2, l, Result.andThen_ok, List.all_cons]
    cases o : (me p i == me q i)
    · simp
    · simpa using f
theorem Xc {p q : List Nat} (hp : EK p) (hq : EK q) : ((List.range 8).all fun i => me p i == me q i) = decide (p = q) := by
  rw [Bool.eq_iff_iff, List.all_eq_true, decide_eq_true_eq]
  constructor
  · intro h
    refine List.ext_getElem (by rw [hp.1, hq.1]) fun i e f => ?_
    have := h i (List.mem_range.2 (by rw [hp.1] at e; exact e))
    rw [beq_iff_eq, RP e, RP f] at this; exact this
  · intro h i _
    subst h; exact beq_self_eq_true _
theorem iH {ρ : Operand → Value} {o : Oper} {w : World} {t' : TypeId} {x y : Operand} {p q : List Nat} {c : Bool} (ho : o.op = .binOp .eql 67 x y t') (hx : ρ x = .agg (GP p).toArray) (hy : ρ y = .agg (GP q).toArray) (hp : EK p) (hq : EK q) (hc : decide (p = q) = c) :
    (execOp ρ o).run prog w = .ok (.value (.bool c)) w := by
  subst hc
  unfold execOp; rw [ho]
  have e : ∃ i, prog.info? 3 = some i := by
    cases h : prog.info? 3 with
    | some i => exact ⟨i, rfl⟩
    | none => exact absurd h AK
  obtain ⟨i, e⟩ := e
  have f : prog.cellsOf 3 = 1 := by kernel_rfl
  have l : (Op.equalIn 10000 67 (.agg (GP p).toArray) (.agg (GP q).toArray)).run prog w = .ok (decide (p = q)) w := by
    rw [run_equalIn_array w 9999 _ _ underlying67 e, f, bO 9998 hp hq _ (fun j k => List.mem_range.1 k), Xc hp hq]
  simp [hx, hy, go_sem, l]
theorem Hx {p q : List Nat} (hp : EK p) (hq : EK q) {i : Nat} (hi : ¬ i < 8) (hJ : ¬ p.drop i = q.drop i) : False := hJ (by rw [List.drop_of_length_le (by rw [hp.1]; omega), List.drop_of_length_le (by rw [hq.1]; omega)])
theorem Hi {p q : List Nat} (hp : EK p) (hq : EK q) {i : Nat} (hi : i < 8) (hJ : ¬ p.drop i = q.drop i) (he : me p i = me q i) : ¬ p.drop (i + 1) = q.drop (i + 1) := fun e => hJ (by rw [cZ hp hi, cZ hq hi, he, e])
theorem Hw {p q : List Nat} (h : p = q) : 0 = EI p q := by subst h; exact (Hv p).symm
theorem Ak (p q : List Nat) (w : World) (hp : EK p) (hq : EK q) :
    Calls prog 43 #[.agg (GP p).toArray, .agg (GP q).toArray] w (dK w (EI p q)) := by
 have E := Env.start w
 go_enter func43, ntmps43
 refine zG ?_
 refine EF O (CI (cs := GP p) O O ?_)
 intro k w1 e1 z1 Y Q
 replace E := E.below Y
 clear e1
 replace E := E.x Q
 refine zG ?_
 refine EF O (CI (cs := GP q) O O ?_)
 intro h w2 e2 z2 X P
 replace E := E.below X
 clear e2
 replace E := E.x P
 by_cases f : p = q
 case pos =>
  refine zG ?_
  refine V O O (CT QX O O E.2.1 (DC hp)) ?_
  refine V O O (CT QX O O E.1 (DC hq)) ?_
  refine V O O (iH (c := true) O O O hp hq (decide_eq_true f)) ?_
  refine zG ?_
  exact ⟨GX (Hw f), E.2.2.1⟩
 refine zG ?_
 refine V O O (CT QX O O E.2.1 (DC hp)) ?_
 refine V O O (CT QX O O E.1 (DC hq)) ?_
 refine V O O (iH (c := false) O O O hp hq (decide_eq_false f)) ?_
 refine zG ?_
 refine wp_loop_ghost (fun S a R => ∃ (i : Nat) (N D C B z y u t o : Value), a = ⟨#[.agg (GP p).toArray, .agg (GP q).toArray, .pointer (some ⟨k, 0, none⟩), .pointer (some ⟨h, 0, none⟩), .int .i64 0, .int .i64 ↑i, .agg (GP p).toArray, .agg (GP q).toArray, .bool false, N, D, C, B, z, y, u, t, o, undef, undef, undef, undef, undef, undef, undef], []⟩ ∧ Env R [fX h (67) (GP q), fX k (67) (GP p), fW w] ∧ S = 8 - i ∧ (i < 8 ∧ ¬ p.drop i = q.drop i ∧ EI p q = EI (p.drop i) (q.drop i))) (8) ⟨0, _, _, _, _, _, _, _, _, _, O, zE, O, ⟨by decide, f, O⟩⟩ ?_
 rintro m3 _ w3 ⟨i, N, D, C, B, z, y, u, t, o, rfl, E, G, I⟩
 obtain ⟨F, U, J⟩ := I
 by_cases L : me p i = me q i
 case pos =>
  have l := Hi hp hq F U L
  have H : i + 1 < 8 := Decidable.by_contra fun g => Hx hp hq g l
  refine zG ?_
  refine sE E [0,1,2,3,4,5,6] ?_
  replace E := E.drew
  refine zG ?_
  refine SW (v := .pointer (some ⟨k, 0 + i * 1, none⟩)) O O O O O (fun w e => DS (j := i) O underlying67 Z O O O AA) ?_
  refine SW O O O O O (fun w e => CP O DA O (e.2.1) (GA hp AA)) ?_
  refine zG ?_
  refine SW (v := .pointer (some ⟨h, 0 + i * 1, none⟩)) O O O O O (fun w e => DS (j := i) O underlying67 Z O O O AA) ?_
  refine SW O O O O O (fun w e => CP O DA O (e.1) (GA hq AA)) ?_
  refine SW O O O O O (fun w e => EW (c := true) O O O (by rw [beq_iff_eq, L])) ?_
  refine zG ?_
  exact ⟨_, (by rw [G]; omega), (i + 1), _, _, _, _, _, _, _, _, _, O, zE, O, ⟨H, l, De hp hq F J AA AA⟩⟩
 by_cases T : me p i < me q i
 case pos =>
  refine zG ?_
  refine sE E [0,1,2,3,4,5,6] ?_
  replace E := E.drew
  refine zG ?_
  refine SW (v := .pointer (some ⟨k, 0 + i * 1, none⟩)) O O O O O (fun w e => DS (j := i) O underlying67 Z O O O AA) ?_
  refine SW O O O O O (fun w e => CP O DA O (e.2.1) (GA hp AA)) ?_
  refine zG ?_
  refine SW (v := .pointer (some ⟨h, 0 + i * 1, none⟩)) O O O O O (fun w e => DS (j := i) O underlying67 Z O O O AA) ?_
  refine SW O O O O O (fun w e => CP O DA O (e.1) (GA hq AA)) ?_
  refine zG ?_
  refine sE E [0,1,2,3,4,5,6] ?_
  replace E := E.drew
  refine zG ?_
  refine SW (v := .pointer (some ⟨k, 0 + i * 1, none⟩)) O O O O O (fun w e => DS (j := i) O underlying67 Z O O O AA) ?_
  refine SW O O O O O (fun w e => CP O DA O (e.2.1) (GA hp AA)) ?_
  refine zG ?_
  refine SW (v := .pointer (some ⟨h, 0 + i * 1, none⟩)) O O O O O (fun w e => DS (j := i) O underlying67 Z O O O AA) ?_
  refine SW O O O O O (fun w e => CP O DA O (e.1) (GA hq AA)) ?_
  refine zG ?_
  exact ⟨GX (Dc hp hq F J T), E.2.2.1⟩
 refine zG ?_
 refine sE E [0,1,2,3,4,5,6] ?_
 replace E := E.drew
 refine zG ?_
 refine SW (v := .pointer (some ⟨k, 0 + i * 1, none⟩)) O O O O O (fun w e => DS (j := i) O underlying67 Z O O O AA) ?_
 refine SW O O O O O (fun w e => CP O DA O (e.2.1) (GA hp AA)) ?_
 refine zG ?_
 refine SW (v := .pointer (some ⟨h, 0 + i * 1, none⟩)) O O O O O (fun w e => DS (j := i) O underlying67 Z O O O AA) ?_
 refine SW O O O O O (fun w e => CP O DA O (e.1) (GA hq AA)) ?_
 refine zG ?_
 refine sE E [0,1,2,3,4,5,6] ?_
 replace E := E.drew
 refine zG ?_
 refine SW (v := .pointer (some ⟨k, 0 + i * 1, none⟩)) O O O O O (fun w e => DS (j := i) O underlying67 Z O O O AA) ?_
 refine SW O O O O O (fun w e => CP O DA O (e.2.1) (GA hp AA)) ?_
 refine zG ?_
 refine SW (v := .pointer (some ⟨h, 0 + i * 1, none⟩)) O O O O O (fun w e => DS (j := i) O underlying67 Z O O O AA) ?_
 refine SW O O O O O (fun w e => CP O DA O (e.1) (GA hq AA)) ?_
 refine zG ?_
 exact ⟨GX (Dd hp hq F J AA), E.2.2.1⟩
def GJ (w0 : World) (v : Value) (e : Ending) (w' : World) : Prop := e = .returned v ∧ Below w0.heap.size w0 w'
theorem BZ {P : Program} {o : Oper} {a : Act} {w : World} {K : Act → World → Prop} {Q : Exit → Act → World → Prop} {f : Nat} {args : List Operand} {tys : Array TypeId} {vs : List Value} {l : List SF} {v : Value}
    (hf : Fn P f) (ho : o.op = .call { callee := .value (.func f), args := args.toArray, argTypes := tys }) (hc : Calls P f vs.toArray w (GJ w v)) (hv : args.map a.eval = vs) (E : Env w l)
    (h : ∀ w', Below w.heap.size w w' → Env w' l → K (a.put o.dst v) w') : o.wp P a w K Q := by
  refine DB hf ho hc hv ?_
  rintro e w' ⟨rfl, k⟩
  exact ⟨_, rfl, h w' k (E.below k)⟩
theorem pU {P : Program} {ρ : Operand → Value} {o : Oper} {w : World} {t t' : TypeId} {x y : Operand} {m n : Int} {c a b : Nat} (ho : o.op = .binOp .or t x y t') (hx : ρ x = .int .u8 m) (hy : ρ y = .int .u8 n) (hm : m = (a : Int)) (hn : n = (b : Int)) (ha : a < 256) (hb : b < 256) (hc : a ||| b = c) :
    (execOp ρ o).run P w = .ok (.value (.int .u8 ↑c)) w := by
  subst hm hn hc
  have f : (BitVec.ofNat 8 a ||| BitVec.ofNat 8 b).toNat = a ||| b := by
    rw [BitVec.toNat_or, BitVec.toNat_ofNat, BitVec.toNat_ofNat, Nat.mod_eq_of_lt ha, Nat.mod_eq_of_lt hb]
  have e : IntKind.u8.wrap (((a ||| b : Nat)) : Int) = ((a ||| b : Nat) : Int) := by simp [IntKind.wrap, IntKind.bits, IntKind.signed]; omega
  unfold execOp; rw [ho]
  simp only [hx, hy, eqGuard_at_int, binOp_or, Op.intBits, IntKind.bits, BitVec.ofInt_natCast]
  refine Eq.trans (b := Result.ok (Next.value (.int .u8 (IntKind.u8.wrap (((BitVec.ofNat 8 a ||| BitVec.ofNat 8 b).toNat : Nat) : Int)))) w) O ?_
  rw [f, e]
theorem Ke {P : Program} {ρ : Operand → Value} {o : Oper} {w : World} {t t' : TypeId} {x y : Operand} {n : Int} {i : Nat} (ho : o.op = .binOp .shl t x y t') (hx : ρ x = .int .u8 1) (hy : ρ y = .int .i64 n) (hn : n = (i : Int)) (hi : i < 8) :
    (execOp ρ o).run P w = .ok (.value (.int .u8 ((2 ^ i : Nat) : Int))) w := by
  subst hn
  unfold execOp; rw [ho]
  simp only [hx, hy, eqGuard_at_int, binOp_shl, Op.shift]
  have : i = 0 ∨ i = 1 ∨ i = 2 ∨ i = 3 ∨ i = 4 ∨ i = 5 ∨ i = 6 ∨ i = 7 := by omega
  rcases this with rfl | rfl | rfl | rfl | rfl | rfl | rfl | rfl <;> rfl
def LQ (m : List Nat) : Nat → Nat
  | 0 => 0
  | i + 1 => if 0 < me m i then LQ m i ||| 2 ^ i else LQ m i
theorem bG (m : List Nat) : ∀ i, LQ m i < 2 ^ i
  | 0 => by simp [LQ]
  | i + 1 => by
    have := bG m i
    unfold LQ
    split
    · exact Nat.or_lt_two_pow (by rw [Nat.pow_succ]; omega) (by rw [Nat.pow_succ]; have := Nat.two_pow_pos i; omega)
    · rw [Nat.pow_succ]; omega
theorem wV {m : List Nat} {i : Nat} (hi : i ≤ 8) : LQ m i < 256 := Nat.lt_of_lt_of_le (bG m i) (Nat.pow_le_pow_right AA hi)
theorem Jo {m : List Nat} {i : Nat} (h : 0 < me m i) : LQ m i ||| 2 ^ i = LQ m (i + 1) := by simp [LQ, h]
theorem wU {m : List Nat} {i : Nat} (h : ¬ 0 < me m i) : LQ m i = LQ m (i + 1) := by simp [LQ, h]
theorem Jp {m : List Nat} {i : Nat} (hi : i < 8) (h : 0 < me m i) : IntKind.u8.wrap (((LQ m i : Nat) : Int) + ((2 ^ i : Nat) : Int)) = ((LQ m (i + 1) : Nat) : Int) := by
  have e := wV (m := m) (i := i + 1) AA
  have k : LQ m i + 2 ^ i = LQ m (i + 1) := by
    rw [← Jo h, Nat.add_comm, Nat.or_comm]
    have := Nat.two_pow_add_eq_or_of_lt (bG m i) 1
    simpa using this
  rw [← k] at e ⊢
  have f : ((LQ m i : Nat) : Int) + ((2 ^ i : Nat) : Int) = ((LQ m i + 2 ^ i : Nat) : Int) := by rw [Int.natCast_add]
  rw [f]
  generalize LQ m i + 2 ^ i = z at e
  simp [IntKind.wrap, IntKind.bits, IntKind.signed]; omega
theorem qD {i : Nat} (hi : i < 8) : 2 ^ i < 256 := Nat.pow_lt_pow_right AE hi
theorem Lj {i : Nat} (hi : i < 8) : IntKind.i64.wrap (2 * ((2 ^ i : Nat) : Int)) = ((2 ^ (i + 1) : Nat) : Int) := by
  have := qD hi
  rw [Nat.pow_succ]
  generalize 2 ^ i = z at this
  rw [JK AA]; omega
theorem Wb {i : Nat} (hi : i < 8) : IntKind.u8.wrap ((2 ^ i : Nat) : Int) = ((2 ^ i : Nat) : Int) := by
  have := qD hi
  generalize 2 ^ i = z at this
  simp [IntKind.wrap, IntKind.bits, IntKind.signed]; omega
theorem Xp (j : Nat) (w : World) (hj : j < 8) :
    Calls prog 93 #[.int .i64 ↑j] w (GJ w (.int .u8 ((2 ^ j : Nat) : Int))) := by
 have E := Env.start w
 go_enter func93, ntmps93
 refine zG ?_
 refine wp_loop_ghost (fun u a t => ∃ (i : Nat) (q p o l k f e : Value), a = ⟨#[.int .i64 ↑j, undef, .int .u8 0, .int .i64 ((2 ^ i : Nat) : Int), .int .i64 ↑i, q, p, o, l, k, f, e, undef, undef], []⟩ ∧ Env t [fW w] ∧ u = j - i ∧ i ≤ j) (j) ⟨0, _, _, _, _, _, _, _, O, zE, O, AA⟩ ?_
 rintro B _ z ⟨i, q, p, o, l, k, f, e, rfl, E, h, y⟩
 by_cases C : i < j
 case pos =>
  refine zG ?_
  refine V (v := .int .i64 ((2 ^ (i + 1) : Nat) : Int)) O O (WX O O O (Lj AA)) ?_
  refine zG ?_
  exact ⟨_, (by rw [h]; omega), (i + 1), _, _, _, _, _, _, _, O, zE, O, AA⟩
 obtain rfl : i = j := by omega
 refine zG ?_
 refine V (v := .int .u8 ((2 ^ i : Nat) : Int)) O O (EO O O (by rw [underlying3]; rfl) underlying5 (Wb hj)) ?_
 refine zG ?_
 exact ⟨rfl, E.1⟩
theorem Xr (m : List Nat) (w : World) (hm : EK m) :
    Calls prog 83 #[.agg (GP m).toArray] w (GJ w (.int .u8 ↑(LQ m 8))) := by
 have E := Env.start w
 go_enter func83, ntmps83
 refine zG ?_
 refine EF O (CI (cs := GP m) O O ?_)
 intro H R e1 P N I
 replace E := E.below N
 clear e1
 replace E := E.x I
 refine zG ?_
 refine V O O (CT QX O O E.1 (DC hm)) ?_
 refine zG ?_
 refine wp_loop_ghost (fun L a J => ∃ (i : Nat) (x : Nat) (G F D C u t q p o l k h : Value), a = ⟨#[.agg (GP m).toArray, .pointer (some ⟨H, 0, none⟩), .int .u8 0, .int .u8 ↑x, G, F, .agg (GP m).toArray, .int .i64 ↑i, D, C, u, t, q, p, o, l, k, h, undef], []⟩ ∧ Env J [fX H (67) (GP m), fW w] ∧ L = 8 - i ∧ (i ≤ 8 ∧ x = LQ m i)) (8) ⟨0, 0, _, _, _, _, _, _, _, _, _, _, _, _, O, zE, O, ⟨by omega, O⟩⟩ ?_
 rintro S _ Q ⟨i, x, G, F, D, C, u, t, q, p, o, l, k, h, rfl, E, e, f⟩
 obtain ⟨f, y⟩ := f
 by_cases B : i < 8
 case neg =>
  refine zG ?_
  exact ⟨(by rw [y, show i = 8 by omega]), E.2.1⟩
 by_cases z : 0 < me m i
 case neg =>
  refine zG ?_
  refine V (v := .int .i64 ↑(me m i)) O O (VA O O O O hm AA) ?_
  refine zG ?_
  exact ⟨_, (by rw [e]; omega), (i + 1), x, _, _, _, _, _, _, _, _, _, _, _, _, O, zE, O, ⟨by omega, (y.trans (wU z))⟩⟩
 refine zG ?_
 refine V (v := .int .i64 ↑(me m i)) O O (VA O O O O hm AA) ?_
 refine zG ?_
 refine V (v := .int .u8 ((2 ^ i : Nat) : Int)) O O (Ke O O O O B) ?_
 refine V (v := .int .u8 ((x ||| 2 ^ i : Nat) : Int)) O O (pU O O O O O (by rw [y]; exact wV AA) (qD B) O) ?_
 refine zG ?_
 exact ⟨_, (by rw [e]; omega), (i + 1), (x ||| 2 ^ i), _, _, _, _, _, _, _, _, _, _, _, _, O, zE, O, ⟨by omega, (by rw [y]; exact Jo z)⟩⟩
theorem Tr (m : List Nat) (w : World) (hm : EK m) :
    Calls prog 46 #[.agg (GP m).toArray] w (GJ w (.int .u8 ↑(LQ m 8))) := by
 have E := Env.start w
 go_enter func46, ntmps46
 refine zG ?_
 refine EF O (CI (cs := GP m) O O ?_)
 intro u S e1 P N H
 replace E := E.below N
 clear e1
 replace E := E.x H
 refine zG ?_
 refine wp_loop_ghost (fun J a I => ∃ (i : Nat) (x : Nat) (G F D C B t q p o l k h : Value), a = ⟨#[.agg (GP m).toArray, .pointer (some ⟨u, 0, none⟩), .int .u8 0, .int .u8 ↑x, .int .i64 ↑i, G, F, D, C, B, t, q, p, o, l, k, h, undef], []⟩ ∧ Env I [fX u (67) (GP m), fW w] ∧ J = 8 - i ∧ (i ≤ 8 ∧ x = LQ m i)) (8) ⟨0, 0, _, _, _, _, _, _, _, _, _, _, _, _, O, zE, O, ⟨by omega, O⟩⟩ ?_
 rintro T _ R ⟨i, x, G, F, D, C, B, t, q, p, o, l, k, h, rfl, E, e, f⟩
 obtain ⟨f, y⟩ := f
 by_cases L : i < 8
 case neg =>
  refine zG ?_
  exact ⟨(by rw [y, show i = 8 by omega]), E.2.1⟩
 by_cases z : 0 < me m i
 case neg =>
  refine zG ?_
  refine V (v := .pointer (some ⟨u, 0 + i * 1, none⟩)) O O (DS (j := i) O underlying67 Z O O O AA) ?_
  refine V O O (CP O DA O E.1 (GA hm AA)) ?_
  refine zG ?_
  exact ⟨_, (by rw [e]; omega), (i + 1), x, _, _, _, _, _, _, _, _, _, _, _, _, O, zE, O, ⟨by omega, (y.trans (wU z))⟩⟩
 refine zG ?_
 refine V (v := .pointer (some ⟨u, 0 + i * 1, none⟩)) O O (DS (j := i) O underlying67 Z O O O AA) ?_
 refine V O O (CP O DA O E.1 (GA hm AA)) ?_
 refine zG ?_
 refine EF O (BZ mN O (Xp i _ AA) O E ?_)
 intro Q U E
 refine zG ?_
 refine V (v := .int .u8 ↑(LQ m (i + 1))) O O (JD O O O (by rw [y]; exact Jp L z)) ?_
 refine zG ?_
 exact ⟨_, (by rw [e]; omega), (i + 1), (LQ m (i + 1)), _, _, _, _, _, _, _, _, _, _, _, _, O, zE, O, ⟨by omega, O⟩⟩
end Go.Proofs.YtmppigbbkjepiaaGreatDoor
