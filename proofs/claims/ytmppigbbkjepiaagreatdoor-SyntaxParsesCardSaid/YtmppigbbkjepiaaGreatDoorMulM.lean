/- Helping facts of Mono; no other conditions. Helping facts of Text; no other conditions. Helping facts of LawB; no other conditions. Helping facts of MadeL; no other conditions. Helping facts of Prs; no other conditions. Helping facts of MulM; no other conditions. -/
import Derived.Test.YtmppigbbkjepiaaGreatDoorRat1
import Derived.ChangeKeysEq
set_option maxHeartbeats 4000000
set_option maxRecDepth 100000
namespace Go.Proofs.YtmppigbbkjepiaaGreatDoor
open Go.Proofs.Tryz
open Go.RowKit W
variable {K : Act -> World -> Prop} {P : Program} {Q : Exit -> Act -> World -> Prop} {a b m p q : List Nat} {i : Nat} {n : Int} {o : Oper} {t t' : TypeId} {v : Value} {w : World} {x y : Operand} {ρ : Operand -> Value}
theorem YQk {p : Prop} (h : p := by rw [show i = 8 by omega]) : p := h
theorem YQi {p : Prop} (h : p := by rw [IntWalk.i64_in _ AA]; omega) : p := h
theorem Z5j {p : Prop} (h : p := by
 rintro e l (⟨o, _⟩ | ⟨_, f, _⟩ | ⟨_, f, k⟩)
 . omega
 . rw [h] at f; cases f
 . rw [h] at f; cases f; exact k
 ) : p := h
theorem ZN4 {p : Prop} (h : p := by
 rintro e l (⟨o, _⟩ | ⟨_, _, k⟩ | ⟨_, f, _⟩)
 . omega
 . exact k
 . rw [h] at f; cases f
 ) : p := h
theorem Zwz {p : Prop} (h : p := by
 refine zG ?_
 exact ⟨_, (by rw [h]; omega), (i + 1), _, O, O, zE, O, AA⟩
 ) : p := h
theorem ZEp {p : Prop} (h : p := by
 refine zG ?_
 exact ⟨_, (by rw [f]; omega), (i + 1), _, O, O, zE, O, AA⟩
 ) : p := h
def IQ (m : List Nat) : List Value := m.map fun (e : Nat) => .int .i64 ↑e
def FC (m : List Nat) : Prop := m.length = 8 /\ ∀ e ∈ m, e <= 65535
def me (m : List Nat) (i : Nat) : Nat := m.getD i 0
theorem ZG (h : i < m.length) : me m i = m[i] := by unfold me; simp [List.getD_eq_getElem?_getD, h]
theorem yB (h : FC m) (i : Nat) : me m i <= 65535 := by
 by_cases e : i < m.length
 . rw [ZG e]; exact h.2 _ (List.getElem_mem e)
 unfold me; simp [List.getD_eq_getElem?_getD, List.getElem?_eq_none (by omega : m.length <= i)]
theorem DG (h : FC m) : (IQ m).length = 8 := by unfold IQ; rw [List.length_map]; exact h.1
theorem FB (h : FC m) (hi : i < 8) : (IQ m)[0 + i * 1]? = some (.int .i64 ↑(me m i)) := by
 have e : i < m.length := by rw [h.1]; exact hi
 rw [ZG e]; unfold IQ
 rw [Nat.zero_add, Nat.mul_one, List.getElem?_map, List.getElem?_eq_getElem e]; rfl
theorem ST : Ag prog 67 8 [.int .i64 0, .int .i64 0, .int .i64 0, .int .i64 0, .int .i64 0, .int .i64 0, .int .i64 0, .int .i64 0] := ⟨⟨_, underlying67, rfl⟩, by kernel_rfl, rfl⟩
theorem CW (w : World) : (isAgg 3).run prog w = .ok false w := by simp [go_sem]
theorem YN {J : Int} (ho : o.op = .index 67 x y) (hx : ρ x = .agg (IQ m).toArray) (hy : ρ y = .int .i64 J) (hJ : J = (i : Int)) (h : FC m) (hi : i < 8) :
 (execOp ρ o).run prog w = .ok (.value (.int .i64 ↑(me m i))) w := by
 subst hJ
 unfold execOp; rw [ho]
 have e := FB h hi
 rw [Nat.zero_add, Nat.mul_one] at e
 have f : (sizeOf 3).run prog w = .ok 1 w := by kernel_rfl
 simp [hx, hy, Instr.index, asIntOf, run_underlying underlying67, hi, f, part, e, go_sem]
def UR (m : List Nat) (i : Nat) : Nat := (m.take i).sum
theorem sB (h : FC m) (hi : i < 8) : UR m (i + 1) = UR m i + me m i := by
 have e : i < m.length := by rw [h.1]; exact hi
 rw [ZG e]; unfold UR
 rw [List.take_succ_eq_append_getElem e, List.sum_append]; simp
theorem Fw {m : List Nat} (h : FC m) : ∀ i, i <= 8 -> UR m i <= 65535 * i
 | 0, _ => by simp [UR]
 | i + 1, hi => by have := Fw h i AA; have := yB h i; rw [sB h AA]; omega
theorem madd (h : FC m) (hi : i < 8) : IntKind.i64.wrap (((UR m i : Nat) : Int) + ((me m i : Nat) : Int)) = ((UR m (i + 1) : Nat) : Int) := by
 have := Fw h i AA; have := yB h i
 rw [sB h hi, MO AA]; omega
theorem Dz (m : List Nat) (w : World) (hm : FC m) :
 Calls prog 157 #[.agg (IQ m).toArray] w (VI w ((UR m 8 : Nat) : Int)) := by
 have E := Env.start w
 go_enter func157, ntmps157
 refine zG ?_
 refine EF O (CM (cs := IQ m) O O ?_)
 intro f B e1 u t k
 have D : w.heap.size <= f := by rw [e1]; exact E.1.size
 replace E := E.below t
 clear e1
 replace E := E.x k
 refine zG ?_
 refine wp_loop_ghost (fun o a l => ∃ (i : Nat) (e : List Value), e = a.tmps.toList /\ a = ⟨(.agg (IQ m).toArray :: .pointer (some ⟨f, 0, none⟩) :: .int .i64 0 :: .int .i64 ↑(UR m i) :: .int .i64 ↑i :: gr e 5 10 []).toArray, []⟩ /\ Env l [fX f (67) (IQ m), fW w] /\ o = 8 - i /\ i <= 8) (8) ⟨0, _, O, O, zE, O, AA⟩ ?_
 rintro C _ y ⟨i, e, -, rfl, E, h, q⟩
 dsimp only [gr, Nat.reduceAdd]
 by_cases p : i < 8
 case neg =>
  refine zG ?_
  exact ⟨FW YQk, E.2.1⟩
 refine zG ?_
 refine V (v := .pointer (some ⟨f, 0 + i * 1, none⟩)) O O (EV (j := i) O underlying67 Z O O O AA) ?_
 refine V O O (CR O CW O E.1 (FB hm AA)) ?_
 refine zG ?_
 refine V (v := .int .i64 ↑(UR m (i + 1))) O O (KM O O O (madd hm p)) ?_
 exact Zwz
theorem Lm (m : List Nat) (w : World) (hm : FC m) :
 Calls prog 175 #[.agg (IQ m).toArray] w (VI w ((UR m 8 : Nat) : Int)) := by
 have E := Env.start w
 go_enter func175, ntmps175
 refine zG ?_
 refine EF O (CM (cs := IQ m) O O ?_)
 intro h B e1 u t k
 replace E := E.below t
 clear e1
 replace E := E.x k
 refine zG ?_
 refine V O O (CU ST O O E.1 (DG hm)) ?_
 refine zG ?_
 refine wp_loop_ghost (fun o a l => ∃ (i : Nat) (e : List Value), e = a.tmps.toList /\ a = ⟨#[.agg (IQ m).toArray, .pointer (some ⟨h, 0, none⟩), .int .i64 0, .int .i64 ↑(UR m i), undef, CJ e 5, .agg (IQ m).toArray, .int .i64 ↑i, CJ e 8, CJ e 9, CJ e 10, CJ e 11, CJ e 12, CJ e 13, undef], []⟩ /\ Env l [fX h (67) (IQ m), fW w] /\ o = 8 - i /\ i <= 8) (8) ⟨0, _, O, O, zE, O, AA⟩ ?_
 rintro C _ y ⟨i, e, -, rfl, E, f, q⟩
 by_cases p : i < 8
 case neg =>
  refine zG ?_
  exact ⟨FW YQk, E.2.1⟩
 refine zG ?_
 refine V (v := .int .i64 ↑(me m i)) O O (YN O O O O hm AA) ?_
 refine zG ?_
 refine V (v := .int .i64 ↑(UR m (i + 1))) O O (KM O O O (madd hm p)) ?_
 exact ZEp
theorem Va (i : Nat) : decide (((me m i : Nat) : Int) < 0) = false := by rw [decide_eq_false_iff_not]; omega
theorem Pr (h : FC m) (i : Nat) : decide (((me m i : Nat) : Int) > 65535) = false := by have := yB h i; rw [decide_eq_false_iff_not]; omega
def FR : List Nat -> List Nat -> Int
 | x :: xs, y :: ys => if x < y then -1 else if y < x then 1 else FR xs ys
 | _, _ => 0
theorem mG (h : FC m) (hi : i < 8) : m.drop i = me m i :: m.drop (i + 1) := by
 have e : i < m.length := by rw [h.1]; exact hi
 rw [List.drop_eq_getElem_cons e, ZG e]
theorem jK (ha : FC a) (hb : FC b) (hi : i < 8) : FR (a.drop i) (b.drop i) = if me a i < me b i then -1 else if me b i < me a i then 1 else FR (a.drop (i + 1)) (b.drop (i + 1)) := by
 rw [mG ha hi, mG hb hi]; rfl
theorem Hd (ha : FC a) (hb : FC b) (hi : i < 8) (hJ : FR a b = FR (a.drop i) (b.drop i)) (h : me a i < me b i) : -1 = FR a b := by rw [hJ, jK ha hb hi, if_pos h]
theorem He (ha : FC a) (hb : FC b) (hi : i < 8) (hJ : FR a b = FR (a.drop i) (b.drop i)) (h : me b i < me a i) : 1 = FR a b := by rw [hJ, jK ha hb hi, if_neg AA, if_pos h]
theorem Hf (ha : FC a) (hb : FC b) (hi : i < 8) (hJ : FR a b = FR (a.drop i) (b.drop i)) (h1 : ¬ me a i < me b i) (h2 : ¬ me b i < me a i) : FR a b = FR (a.drop (i + 1)) (b.drop (i + 1)) := by rw [hJ, jK ha hb hi, if_neg h1, if_neg h2]
theorem Rn (ha : FC a) (hi : ¬ i < 8) (hJ : FR a b = FR (a.drop i) (b.drop i)) : 0 = FR a b := by
 rw [hJ, List.drop_of_length_le (by rw [ha.1]; omega)]; cases b.drop i <;> rfl
theorem Ky (a : List Nat) : FR a a = 0 := by
 induction a with
 | nil => rfl
 | cons x xs ih => simp [FR, ih]
theorem Lk (m : List Nat) (w : World) (hm : FC m) :
 Calls prog 104 #[.agg (IQ m).toArray] w (LN w true) := by
 have E := Env.start w
 go_enter func104, ntmps104
 refine zG ?_
 refine EF O (CM (cs := IQ m) O O ?_)
 intro f y e1 t q k
 replace E := E.below q
 clear e1
 replace E := E.x k
 refine zG ?_
 refine wp_loop_ghost (fun o a l => ∃ (i : Nat) (e : List Value), e = a.tmps.toList /\ a = ⟨(.agg (IQ m).toArray :: .pointer (some ⟨f, 0, none⟩) :: CJ e 2 :: .int .i64 ↑i :: gr e 4 14 []).toArray, []⟩ /\ Env l [fX f (67) (IQ m), fW w] /\ o = 8 - i /\ i <= 8) (8) ⟨0, _, O, O, zE, O, AA⟩ ?_
 rintro B _ u ⟨i, e, -, rfl, E, h, p⟩
 dsimp only [gr, Nat.reduceAdd]
 by_cases C : i < 8
 case neg =>
  refine zG ?_
  exact ⟨rfl, E.2.1⟩
 refine zG ?_
 refine V (v := .pointer (some ⟨f, 0 + i * 1, none⟩)) O O (EV (j := i) O underlying67 Z O O O AA) ?_
 refine V O O (CR O CW O E.1 (FB hm AA)) ?_
 refine V O O (HY (c := false) O O O (Va i)) ?_
 refine zG ?_
 refine V (v := .pointer (some ⟨f, 0 + i * 1, none⟩)) Z O (EV (j := i) O underlying67 Z O O O AA) ?_
 refine V Z O (CR O CW O E.1 (FB hm AA)) ?_
 refine zG ?_
 refine V Z O (EP (c := false) O O O (Pr hm i)) ?_
 exact Zwz
theorem So (m : List Nat) (w : World) (hm : FC m) :
 Calls prog 82 #[.agg (IQ m).toArray] w (LN w true) := by
 have E := Env.start w
 go_enter func82, ntmps82
 refine zG ?_
 refine EF O (CM (cs := IQ m) O O ?_)
 intro h y e1 t q k
 replace E := E.below q
 clear e1
 replace E := E.x k
 refine zG ?_
 refine V O O (CU ST O O E.1 (DG hm)) ?_
 refine zG ?_
 refine wp_loop_ghost (fun o a l => ∃ (i : Nat) (e : List Value), e = a.tmps.toList /\ a = ⟨(.agg (IQ m).toArray :: .pointer (some ⟨h, 0, none⟩) :: gr e 2 3 (.agg (IQ m).toArray :: .int .i64 ↑i :: gr e 7 9 [])).toArray, []⟩ /\ Env l [fX h (67) (IQ m), fW w] /\ o = 8 - i /\ i <= 8) (8) ⟨0, _, O, O, zE, O, AA⟩ ?_
 rintro B _ u ⟨i, e, -, rfl, E, f, p⟩
 dsimp only [gr, Nat.reduceAdd]
 by_cases C : i < 8
 case neg =>
  refine zG ?_
  exact ⟨rfl, E.2.1⟩
 refine zG ?_
 refine V (v := .int .i64 ↑(me m i)) O O (YN O O O O hm AA) ?_
 refine zG ?_
 refine V Z O (EP (c := false) O O O (Pr hm i)) ?_
 exact ZEp
theorem TU (p q : List Nat) (w : World) (hp : FC p) (hq : FC q) :
 Calls prog 59 #[.agg (IQ p).toArray, .agg (IQ q).toArray] w (VI w (FR p q)) := by
 have E := Env.start w
 go_enter func59, ntmps59
 refine zG ?_
 refine EF O (CM (cs := IQ p) O O ?_)
 intro k Q e1 L I D
 replace E := E.below I
 clear e1
 replace E := E.x D
 refine zG ?_
 refine EF O (CM (cs := IQ q) O O ?_)
 intro h P e2 J H C
 replace E := E.below H
 clear e2
 replace E := E.x C
 refine zG ?_
 refine wp_loop_ghost (fun G a F => ∃ (i : Nat) (f : List Value), f = a.tmps.toList /\ a = ⟨(.agg (IQ p).toArray :: .agg (IQ q).toArray :: .pointer (some ⟨k, 0, none⟩) :: .pointer (some ⟨h, 0, none⟩) :: CJ f 4 :: .int .i64 ↑i :: gr f 6 18 []).toArray, []⟩ /\ Env F [fX h (67) (IQ q), fX k (67) (IQ p), fW w] /\ G = 8 - i /\ (i <= 8 /\ FR p q = FR (p.drop i) (q.drop i))) (8) ⟨0, _, O, O, zE, O, ⟨by omega, O⟩⟩ ?_
 rintro R _ N ⟨i, f, -, rfl, E, u, l⟩
 dsimp only [gr, Nat.reduceAdd]
 obtain ⟨l, t⟩ := l
 by_cases o : i < 8
 case neg =>
  refine zG ?_
  exact ⟨FW (Rn hp o t), E.2.2.1⟩
 by_cases B : me p i < me q i
 case pos =>
  refine zG ?_
  refine sE E [0,1,2,3,4,5,6] ?_
  replace E := E.drew
  refine zG ?_
  refine SW (v := .pointer (some ⟨k, 0 + i * 1, none⟩)) O O O O O (fun w e => EV (j := i) O underlying67 Z O O O AA) ?_
  refine SW O O O O O (fun w e => CR O CW O (e.2.1) (FB hp AA)) ?_
  refine zG ?_
  refine SW (v := .pointer (some ⟨h, 0 + i * 1, none⟩)) O O O O O (fun w e => EV (j := i) O underlying67 Z O O O AA) ?_
  refine SW O O O O O (fun w e => CR O CW O (e.1) (FB hq AA)) ?_
  refine zG ?_
  exact ⟨FW (Hd hp hq o t B), E.2.2.1⟩
 by_cases y : me q i < me p i
 case pos =>
  refine zG ?_
  refine sE E [0,1,2,3,4,5,6] ?_
  replace E := E.drew
  refine zG ?_
  refine SW (v := .pointer (some ⟨k, 0 + i * 1, none⟩)) O O O O O (fun w e => EV (j := i) O underlying67 Z O O O AA) ?_
  refine SW O O O O O (fun w e => CR O CW O (e.2.1) (FB hp AA)) ?_
  refine zG ?_
  refine SW (v := .pointer (some ⟨h, 0 + i * 1, none⟩)) O O O O O (fun w e => EV (j := i) O underlying67 Z O O O AA) ?_
  refine SW O O O O O (fun w e => CR O CW O (e.1) (FB hq AA)) ?_
  refine zG ?_
  refine sE E [0,1,2,3,4,5,6] ?_
  replace E := E.drew
  refine zG ?_
  refine SW (v := .pointer (some ⟨k, 0 + i * 1, none⟩)) O O O O O (fun w e => EV (j := i) O underlying67 Z O O O AA) ?_
  refine SW O O O O O (fun w e => CR O CW O (e.2.1) (FB hp AA)) ?_
  refine zG ?_
  refine SW (v := .pointer (some ⟨h, 0 + i * 1, none⟩)) O O O O O (fun w e => EV (j := i) O underlying67 Z O O O AA) ?_
  refine SW O O O O O (fun w e => CR O CW O (e.1) (FB hq AA)) ?_
  refine zG ?_
  exact ⟨FW (He hp hq o t y), E.2.2.1⟩
 refine zG ?_
 refine sE E [0,1,2,3,4,5,6] ?_
 replace E := E.drew
 refine zG ?_
 refine SW (v := .pointer (some ⟨k, 0 + i * 1, none⟩)) O O O O O (fun w e => EV (j := i) O underlying67 Z O O O AA) ?_
 refine SW O O O O O (fun w e => CR O CW O (e.2.1) (FB hp AA)) ?_
 refine zG ?_
 refine SW (v := .pointer (some ⟨h, 0 + i * 1, none⟩)) O O O O O (fun w e => EV (j := i) O underlying67 Z O O O AA) ?_
 refine SW O O O O O (fun w e => CR O CW O (e.1) (FB hq AA)) ?_
 refine zG ?_
 refine sE E [0,1,2,3,4,5,6] ?_
 replace E := E.drew
 refine zG ?_
 refine SW (v := .pointer (some ⟨k, 0 + i * 1, none⟩)) O O O O O (fun w e => EV (j := i) O underlying67 Z O O O AA) ?_
 refine SW O O O O O (fun w e => CR O CW O (e.2.1) (FB hp AA)) ?_
 refine zG ?_
 refine SW (v := .pointer (some ⟨h, 0 + i * 1, none⟩)) O O O O O (fun w e => EV (j := i) O underlying67 Z O O O AA) ?_
 refine SW O O O O O (fun w e => CR O CW O (e.1) (FB hq AA)) ?_
 refine zG ?_
 exact ⟨_, (by rw [u]; omega), (i + 1), _, O, O, zE, O, ⟨by omega, Hf hp hq o t B y⟩⟩
theorem fK (d : Nat) {w : World} {p q : List Nat} (hp : FC p) (hq : FC q) : ∀ is : List Nat, (∀ i ∈ is, i < 8) ->
 (Op.eqItems (d + 1) 3 1 (IQ p).toArray (IQ q).toArray is).run prog w = .ok (is.all fun i => me p i == me q i) w
 | [], _ => by simp [Op.eqItems]
 | i :: is, h => by
   have hi : i < 8 := h i AH
   have h1 := FB hp hi
   have h2 := FB hq hi
   rw [Nat.zero_add] at h1 h2
   have h3 : ∀ (m : List Nat), (IQ m)[i * 1]? = some (.int .i64 ↑(me m i)) -> (part 3 (IQ m).toArray (i * 1)).run prog w = .ok (.int .i64 ↑(me m i)) w := by
    intro m e
    rw [Nat.mul_one] at e ⊢
    simp [part, e, go_sem]
   have l : (Op.equalIn (d + 1) 3 (.int .i64 ↑(me p i)) (.int .i64 ↑(me q i))).run prog w = .ok (me p i == me q i) w := by
    simp only [Op.equalIn, Sem.run_bind, run_underlying underlying3, Result.andThen_ok, if_true, Sem.run_pure]
    congr 1
    rw [Bool.eq_iff_iff, beq_iff_eq, beq_iff_eq]; omega
   have f := fK d (w := w) hp hq is (fun j k => h j (by simp [k]))
   simp only [Op.eqItems, Sem.run_bind, h3 p h1, h3 q h2, l, Result.andThen_ok, List.all_cons]
   cases o : (me p i == me q i)
   . simp
   simpa using f
theorem D1 (hp : FC p) (hq : FC q) : ((List.range 8).all fun i => me p i == me q i) = decide (p = q) := by
 rw [Bool.eq_iff_iff, List.all_eq_true, decide_eq_true_eq]
 constructor
 . intro h
   refine List.ext_getElem (by rw [hp.1, hq.1]) fun i e f => ?_
   have := h i (List.mem_range.2 (by rw [hp.1] at e; exact e))
   rw [beq_iff_eq, ZG e, ZG f] at this; exact this
 intro h i _
 subst h; exact beq_self_eq_true _
theorem lP {c : Bool} (ho : o.op = .binOp .eql 67 x y t') (hx : ρ x = .agg (IQ p).toArray) (hy : ρ y = .agg (IQ q).toArray) (hp : FC p) (hq : FC q) (hc : decide (p = q) = c) :
 (execOp ρ o).run prog w = .ok (.value (.bool c)) w := by
 subst hc
 unfold execOp; rw [ho]
 have e : ∃ i, prog.info? 3 = some i := by
  cases h : prog.info? 3 with
  | some i => exact ⟨i, rfl⟩
  | none => exact absurd h AK
 obtain ⟨i, e⟩ := e
 have f : prog.cellsOf 3 = 1 := by kernel_rfl
 have l : (Op.equalIn 10000 67 (.agg (IQ p).toArray) (.agg (IQ q).toArray)).run prog w = .ok (decide (p = q)) w := by
  rw [run_equalIn_array w 9999 _ _ underlying67 e, f, fK 9998 hp hq _ (fun j k => List.mem_range.1 k), D1 hp hq]
 simp [hx, hy, go_sem, l]
theorem La (hp : FC p) (hq : FC q) (hi : ¬ i < 8) (hJ : ¬ p.drop i = q.drop i) : False := hJ (by rw [List.drop_of_length_le (by rw [hp.1]; omega), List.drop_of_length_le (by rw [hq.1]; omega)])
theorem Ks (hp : FC p) (hq : FC q) (hi : i < 8) (hJ : ¬ p.drop i = q.drop i) (he : me p i = me q i) : ¬ p.drop (i + 1) = q.drop (i + 1) := fun e => hJ (by rw [mG hp hi, mG hq hi, he, e])
theorem Kz (h : p = q) : 0 = FR p q := by subst h; exact (Ky p).symm
theorem Ee (p q : List Nat) (w : World) (hp : FC p) (hq : FC q) :
 Calls prog 43 #[.agg (IQ p).toArray, .agg (IQ q).toArray] w (VI w (FR p q)) := by
 have E := Env.start w
 go_enter func43, ntmps43
 refine zG ?_
 refine EF O (CM (cs := IQ p) O O ?_)
 intro l U e1 R P G
 replace E := E.below P
 clear e1
 replace E := E.x G
 refine zG ?_
 refine EF O (CM (cs := IQ q) O O ?_)
 intro k T e2 Q N F
 replace E := E.below N
 clear e2
 replace E := E.x F
 by_cases f : p = q
 . refine zG ?_
   refine V O O (CU ST O O E.2.1 (DG hp)) ?_
   refine V O O (CU ST O O E.1 (DG hq)) ?_
   refine V O O (lP (c := true) O O O hp hq (decide_eq_true f)) ?_
   refine zG ?_
   exact ⟨FW (Kz f), E.2.2.1⟩
 refine zG ?_
 refine V O O (CU ST O O E.2.1 (DG hp)) ?_
 refine V O O (CU ST O O E.1 (DG hq)) ?_
 refine V O O (lP (c := false) O O O hp hq (decide_eq_false f)) ?_
 refine zG ?_
 refine wp_loop_ghost (fun I a H => ∃ (i : Nat) (h : List Value), h = a.tmps.toList /\ a = ⟨(.agg (IQ p).toArray :: .agg (IQ q).toArray :: .pointer (some ⟨l, 0, none⟩) :: .pointer (some ⟨k, 0, none⟩) :: .int .i64 0 :: .int .i64 ↑i :: .agg (IQ p).toArray :: .agg (IQ q).toArray :: .bool false :: gr h 9 16 []).toArray, []⟩ /\ Env H [fX k (67) (IQ q), fX l (67) (IQ p), fW w] /\ I = 8 - i /\ (i < 8 /\ ¬ p.drop i = q.drop i /\ FR p q = FR (p.drop i) (q.drop i))) (8) ⟨0, _, O, O, zE, O, ⟨by decide, f, O⟩⟩ ?_
 rintro X _ S ⟨i, h, -, rfl, E, u, B⟩
 dsimp only [gr, Nat.reduceAdd]
 obtain ⟨t, L, C⟩ := B
 by_cases D : me p i = me q i
 case pos =>
  have o := Ks hp hq t L D
  have y : i + 1 < 8 := Decidable.by_contra fun g => La hp hq g o
  refine zG ?_
  refine sE E [0,1,2,3,4,5,6] ?_
  replace E := E.drew
  refine zG ?_
  refine SW (v := .pointer (some ⟨l, 0 + i * 1, none⟩)) O O O O O (fun w e => EV (j := i) O underlying67 Z O O O AA) ?_
  refine SW O O O O O (fun w e => CR O CW O (e.2.1) (FB hp AA)) ?_
  refine zG ?_
  refine SW (v := .pointer (some ⟨k, 0 + i * 1, none⟩)) O O O O O (fun w e => EV (j := i) O underlying67 Z O O O AA) ?_
  refine SW O O O O O (fun w e => CR O CW O (e.1) (FB hq AA)) ?_
  refine SW O O O O O (fun w e => EK (c := true) O O O (by rw [beq_iff_eq, D])) ?_
  refine zG ?_
  exact ⟨_, (by rw [u]; omega), (i + 1), _, O, O, zE, O, ⟨y, o, Hf hp hq t C AA AA⟩⟩
 by_cases J : me p i < me q i
 case pos =>
  refine zG ?_
  refine sE E [0,1,2,3,4,5,6] ?_
  replace E := E.drew
  refine zG ?_
  refine SW (v := .pointer (some ⟨l, 0 + i * 1, none⟩)) O O O O O (fun w e => EV (j := i) O underlying67 Z O O O AA) ?_
  refine SW O O O O O (fun w e => CR O CW O (e.2.1) (FB hp AA)) ?_
  refine zG ?_
  refine SW (v := .pointer (some ⟨k, 0 + i * 1, none⟩)) O O O O O (fun w e => EV (j := i) O underlying67 Z O O O AA) ?_
  refine SW O O O O O (fun w e => CR O CW O (e.1) (FB hq AA)) ?_
  refine zG ?_
  refine sE E [0,1,2,3,4,5,6] ?_
  replace E := E.drew
  refine zG ?_
  refine SW (v := .pointer (some ⟨l, 0 + i * 1, none⟩)) O O O O O (fun w e => EV (j := i) O underlying67 Z O O O AA) ?_
  refine SW O O O O O (fun w e => CR O CW O (e.2.1) (FB hp AA)) ?_
  refine zG ?_
  refine SW (v := .pointer (some ⟨k, 0 + i * 1, none⟩)) O O O O O (fun w e => EV (j := i) O underlying67 Z O O O AA) ?_
  refine SW O O O O O (fun w e => CR O CW O (e.1) (FB hq AA)) ?_
  refine zG ?_
  exact ⟨FW (Hd hp hq t C J), E.2.2.1⟩
 refine zG ?_
 refine sE E [0,1,2,3,4,5,6] ?_
 replace E := E.drew
 refine zG ?_
 refine SW (v := .pointer (some ⟨l, 0 + i * 1, none⟩)) O O O O O (fun w e => EV (j := i) O underlying67 Z O O O AA) ?_
 refine SW O O O O O (fun w e => CR O CW O (e.2.1) (FB hp AA)) ?_
 refine zG ?_
 refine SW (v := .pointer (some ⟨k, 0 + i * 1, none⟩)) O O O O O (fun w e => EV (j := i) O underlying67 Z O O O AA) ?_
 refine SW O O O O O (fun w e => CR O CW O (e.1) (FB hq AA)) ?_
 refine zG ?_
 refine sE E [0,1,2,3,4,5,6] ?_
 replace E := E.drew
 refine zG ?_
 refine SW (v := .pointer (some ⟨l, 0 + i * 1, none⟩)) O O O O O (fun w e => EV (j := i) O underlying67 Z O O O AA) ?_
 refine SW O O O O O (fun w e => CR O CW O (e.2.1) (FB hp AA)) ?_
 refine zG ?_
 refine SW (v := .pointer (some ⟨k, 0 + i * 1, none⟩)) O O O O O (fun w e => EV (j := i) O underlying67 Z O O O AA) ?_
 refine SW O O O O O (fun w e => CR O CW O (e.1) (FB hq AA)) ?_
 refine zG ?_
 exact ⟨FW (He hp hq t C AA), E.2.2.1⟩
def GY (w0 : World) (v : Value) (e : Ending) (w' : World) : Prop := e = .returned v /\ Below w0.heap.size w0 w'
theorem CC {a : Act} {f : Nat} {args : List Operand} {tys : Array TypeId} {vs : List Value} {l : List SF}
 (hf : Fn P f) (ho : o.op = .call { callee := .value (.func f), args := args.toArray, argTypes := tys }) (hc : Calls P f vs.toArray w (GY w v)) (hv : args.map a.eval = vs) (E : Env w l)
 (h : ∀ w', Below w.heap.size w w' -> Env w' l -> K (a.put o.dst v) w') : o.wp P a w K Q := by
 refine CZ hf ho hc hv ?_
 rintro e w' ⟨rfl, k⟩
 exact ⟨_, rfl, h w' k (E.below k)⟩
theorem Fb {m : Int} {c a b : Nat} (ho : o.op = .binOp .or t x y t') (hx : ρ x = .int .u8 m) (hy : ρ y = .int .u8 n) (hm : m = (a : Int)) (hn : n = (b : Int)) (ha : a < 256) (hb : b < 256) (hc : a ||| b = c) :
 (execOp ρ o).run P w = .ok (.value (.int .u8 ↑c)) w := by
 subst hm hn hc
 have f : (BitVec.ofNat 8 a ||| BitVec.ofNat 8 b).toNat = a ||| b := by
  rw [BitVec.toNat_or, BitVec.toNat_ofNat, BitVec.toNat_ofNat, Nat.mod_eq_of_lt ha, Nat.mod_eq_of_lt hb]
 have e : IntKind.u8.wrap (((a ||| b : Nat)) : Int) = ((a ||| b : Nat) : Int) := by simp [IntKind.wrap, IntKind.bits, IntKind.signed]; omega
 unfold execOp; rw [ho]
 simp only [hx, hy, eqGuard_at_int, binOp_or, Op.intBits, IntKind.bits, BitVec.ofInt_natCast]
 refine Eq.trans (b := Result.ok (Next.value (.int .u8 (IntKind.u8.wrap (((BitVec.ofNat 8 a ||| BitVec.ofNat 8 b).toNat : Nat) : Int)))) w) O ?_
 rw [f, e]
theorem Nk (ho : o.op = .binOp .shl t x y t') (hx : ρ x = .int .u8 1) (hy : ρ y = .int .i64 n) (hn : n = (i : Int)) (hi : i < 8) :
 (execOp ρ o).run P w = .ok (.value (.int .u8 ((2 ^ i : Nat) : Int))) w := by
 subst hn
 unfold execOp; rw [ho]
 simp only [hx, hy, eqGuard_at_int, binOp_shl, Op.shift]
 have : i = 0 ∨ i = 1 ∨ i = 2 ∨ i = 3 ∨ i = 4 ∨ i = 5 ∨ i = 6 ∨ i = 7 := by omega
 rcases this with rfl | rfl | rfl | rfl | rfl | rfl | rfl | rfl <;> rfl
def TN (m : List Nat) : Nat -> Nat
 | 0 => 0
 | i + 1 => if 0 < me m i then TN m i ||| 2 ^ i else TN m i
theorem lJ (m : List Nat) : ∀ i, TN m i < 2 ^ i
 | 0 => by simp [TN]
 | i + 1 => by
   have := lJ m i
   unfold TN
   split
   . exact Nat.or_lt_two_pow (by rw [Nat.pow_succ]; omega) (by rw [Nat.pow_succ]; have := Nat.two_pow_pos i; omega)
   rw [Nat.pow_succ]; omega
theorem Mn (hi : i <= 8) : TN m i < 256 := Nat.lt_of_lt_of_le (lJ m i) (Nat.pow_le_pow_right AA hi)
theorem Yn (h : 0 < me m i) : TN m i ||| 2 ^ i = TN m (i + 1) := by simp [TN, h]
theorem Mm (h : ¬ 0 < me m i) : TN m i = TN m (i + 1) := by simp [TN, h]
theorem Un (hi : i < 8) : 2 ^ i < 256 := Nat.pow_lt_pow_right AE hi
theorem E8 (m : List Nat) (w : World) (hm : FC m) :
 Calls prog 83 #[.agg (IQ m).toArray] w (GY w (.int .u8 ↑(TN m 8))) := by
 have E := Env.start w
 go_enter func83, ntmps83
 refine zG ?_
 refine EF O (CM (cs := IQ m) O O ?_)
 intro p D e1 B y q
 replace E := E.below y
 clear e1
 replace E := E.x q
 refine zG ?_
 refine V O O (CU ST O O E.1 (DG hm)) ?_
 refine zG ?_
 refine wp_loop_ghost (fun u a t => ∃ (i : Nat) (x : Nat) (e : List Value), e = a.tmps.toList /\ a = ⟨(.agg (IQ m).toArray :: .pointer (some ⟨p, 0, none⟩) :: .int .u8 0 :: .int .u8 ↑x :: CJ e 4 :: CJ e 5 :: .agg (IQ m).toArray :: .int .i64 ↑i :: gr e 8 11 []).toArray, []⟩ /\ Env t [fX p (67) (IQ m), fW w] /\ u = 8 - i /\ (i <= 8 /\ x = TN m i)) (8) ⟨0, 0, _, O, O, zE, O, ⟨by omega, O⟩⟩ ?_
 rintro F _ C ⟨i, x, e, -, rfl, E, f, h⟩
 dsimp only [gr, Nat.reduceAdd]
 obtain ⟨h, k⟩ := h
 by_cases o : i < 8
 case neg =>
  refine zG ?_
  exact ⟨(by rw [k, show i = 8 by omega]), E.2.1⟩
 by_cases l : 0 < me m i
 case neg =>
  refine zG ?_
  refine V (v := .int .i64 ↑(me m i)) O O (YN O O O O hm AA) ?_
  refine zG ?_
  exact ⟨_, (by rw [f]; omega), (i + 1), x, _, O, O, zE, O, ⟨by omega, (k.trans (Mm l))⟩⟩
 refine zG ?_
 refine V (v := .int .i64 ↑(me m i)) O O (YN O O O O hm AA) ?_
 refine zG ?_
 refine V (v := .int .u8 ((2 ^ i : Nat) : Int)) O O (Nk O O O O o) ?_
 refine V (v := .int .u8 ((x ||| 2 ^ i : Nat) : Int)) O O (Fb O O O O O (by rw [k]; exact Mn AA) (Un o) O) ?_
 refine zG ?_
 exact ⟨_, (by rw [f]; omega), (i + 1), (x ||| 2 ^ i), _, O, O, zE, O, ⟨by omega, (by rw [k]; exact Yn l)⟩⟩
set_option maxRecDepth 100000 in
set_option maxHeartbeats 8000000 in
theorem Du (va : Value) (x : Int) (w : World) (hva : IsI w va x) (Fx : Fits x 1000000) :
 Calls prog 169 #[va] w (E3 w x) := by
 have E := Env.start w
 obtain ⟨f, e, rfl, _, _⟩ := hva.sh
 replace E := E.i hva
 have b3 := GD E.1
 go_enter func169, ntmps169
 refine zG ?_
 refine EF O (CM O O ?_)
 intro t w1 e1 z1 d1 x1
 have l1 : w.heap.size <= t := by rw [e1]; exact E.2.1.size
 replace E := E.below d1
 clear e1
 replace E := E.b x1
 refine zG ?_
 refine EF O (DA kV O (Ij _ _ _ (IsI.sl E.2.1)) O E ?_)
 intro w2 v2 d2 E
 refine zG ?_
 refine EF O (DA jB O (aV _ (CD x.natAbs) _ E.1 (Nat.le_trans (Fx : Fits x 1000000) AE)) O E ?_)
 intro w3 v3 d3 E
 replace E := E.g (bB _ (t + 1) 217 9 dO)
 refine zG ?_
 refine wp_loop_ghost (fun mz a w' => ∃ (m : Nat) (L : List Nat) (vc : Value) (X : Value) (g5 g6 g7 bj bi bh ad ac ab aa a9 a8 T S R Q P N J I H G F C a3 a2 a1 a0 : Value), a = ⟨#[.agg #[.bool f, e], .pointer (some ⟨t, 0, none⟩), .string ⟨#[]⟩, vc, X, g5, g6, g7, undef, undef, .pointer (some ⟨t, 1, none⟩), e, v2, v3, bj, bi, bh, ad, ac, ab, aa, a9, a8, T, S, R, Q, P, N, J, I, H, G, F, C, a3, a2, a1, a0, undef, undef, undef, undef, undef, undef, undef, undef, undef, undef, undef, undef, undef, undef, undef, undef, undef, undef, undef, undef, undef, undef, undef, undef, undef, undef, undef, undef, undef, undef, undef, undef], []⟩ /\ Env w' [fG (t + 1) (217) 9 dO vc L.length (iS (L.flatMap (YR 9))), fS X (CD m), fB t f e, fI (.agg #[.bool f, e]) x, fW w] /\ mz = m /\ x.natAbs = eR L + 1000000000 ^ L.length * m /\ (∀ c ∈ L, c < 1000000000) /\ m <= x.natAbs /\ (L ≠ [] -> x.natAbs ≠ 0) /\ L.length <= 2000001) (x.natAbs) ⟨x.natAbs, [], .slice none 0 0, v3, _, _, _, _, _, _, _, _, _, _, _, _, _, _, _, _, _, _, _, _, _, _, _, _, _, _, _, _, O, (Env.g zE E.1), O, ⟨by simp [eR], by simp, Nat.le_refl _, fun h => absurd O h, by simp⟩⟩ ?_
 rintro m4 _ w4 ⟨m, L, vc, X, g5, g6, g7, bj, bi, bh, ad, ac, ab, aa, a9, a8, T, S, R, Q, P, N, J, I, H, G, F, C, a3, a2, a1, a0, rfl, E, c0, o⟩
 by_cases hz : m = 0
 case neg =>
  have hk := Aa o.1 hz (Fits.lt Fx)
  have c3 : m % 1000000000 < 1000000000 := Nat.mod_lt _ AE
  have c2 : (CD m).length <= 1000000000 := Nat.le_trans (FZ o.2.2.1) (Nat.le_trans (Fx : Fits x 1000000) AE)
  obtain ⟨cm, ca, b4⟩ := Sl.shape E.2.1
  refine zG ?_
  refine V (v := .int .i64 ↑((CD m).length)) O O (KL O b4) ?_
  refine zG ?_
  refine V (v := .bool true) O O (EP (c := true) O O O ((by rw [decide_eq_true_eq]; have := Pv hz; omega))) ?_
  refine zG ?_
  refine EF O (bE YV O (Dl _ m 1000000000 _ E.2.1 c2 AE AE) O E ?_)
  intro cw y da E
  have lc : ∀ gg, vc.ownBlock = some gg -> gg < _ := fun gg hg => (RowG.blk E.2.1 hg).2
  refine zG ?_
  refine EF O (BZ Ag9 O ?_)
  intro ae cv XX co c9 bl
  have cz : t < ae := by rw [XX]; exact Bx.lt E.2.2.2.1
  rw [<- XX] at lc
  replace E := (E.below c9).x bl
  clear XX
  have a5 := E.1
  rw [Wn (m % 1000000000)] at a5
  replace E := E.x a5
  refine zG ?_
  refine wp_loop_ghost (fun mz a w' => ∃ (j : Nat) (cu : Nat) (g7 T S R Q P N J I H G F C : Value), a = ⟨#[.agg #[.bool f, e], .pointer (some ⟨t, 0, none⟩), .string ⟨#[]⟩, vc, y, .int .u64 ↑cu, .pointer (some ⟨ae, 0, none⟩), g7, undef, undef, .pointer (some ⟨t, 1, none⟩), e, v2, v3, X, .int .i64 ↑((CD m).length), .bool true, .tuple #[y, .int .u64 ↑(m % 1000000000)], X, .tuple #[y, .int .u64 ↑(m % 1000000000)], y, .int .u64 ↑(m % 1000000000), .int .i64 ↑j, T, S, R, Q, P, N, J, I, H, G, F, C, a3, a2, a1, a0, undef, undef, undef, undef, undef, undef, undef, undef, undef, undef, undef, undef, undef, undef, undef, undef, undef, undef, undef, undef, undef, undef, undef, undef, undef, undef, undef, undef, undef, undef, undef, undef], []⟩ /\ Env w' [fX ae (217) (cl j (m % 1000000000)), fS y (CD (m / 1000000000)), fG (t + 1) (217) 9 dO vc L.length (iS (L.flatMap (YR 9))), fS X (CD m), fB t f e, fI (.agg #[.bool f, e]) x, fW w] /\ mz = 9 - j /\ j <= 9 /\ cu = m % 1000000000 / 10 ^ j) (9) ⟨0, m % 1000000000, _, _, _, _, _, _, _, _, _, _, _, _, _, O, (Env.x (Env.s (Env.g zE E.2.2.2.1) E.2.2.1) E.1), O, ⟨by decide, by simp⟩⟩ ?_
  rintro cy _ ct ⟨j, cu, g7, T, S, R, Q, P, N, J, I, H, G, F, C, rfl, E, cc, af⟩
  by_cases hj : j = 9
  case pos =>
   subst hj
   have b2 := E.1
   rw [Wo] at b2
   refine zG ?_
   refine V (v := .agg (iS (YR 9 (m % 1000000000))).toArray) O O (CU Ag9 O O b2 (by rw [LZ, IX])) ?_
   refine zG ?_
   refine EF O (DW underlying216 Ag9 (by rw [LZ, IX]) AE AE O O ?_)
   intro cb cr Kq cn c8 bk
   replace E := (E.below c8).x bk
   clear Kq
   obtain ⟨i9, ah, bp, br, c4⟩ := info_parts Ke
   have d7 := Bx.lt E.2.2.2.2.2.1
   refine zG ?_
   refine EF O (ZL _ _ _ O (t + 1) 217 i9 _ 9 9 underlying216 ah bp br c4 O AE dO Qc Gh vc L.length (iS (L.flatMap (YR 9))) O E.2.2.2.1 (l := [fS y (CD (m / 1000000000)), fS X (CD m), fB t f e, fI (.agg #[.bool f, e]) x, fW w]) zE (fun g hg hb => ⟨BX, BX, okB AA, BX, OP AA, BX⟩) ⟨cb, 0, none⟩ 1 1 (iS (YR 9 (m % 1000000000))) O (by rw [LZ, IX]) (fun j u hu => by rw [Addr.add_lit, Nat.zero_add, Bx.cell E.1]; exact hu) (Hc _) (yF _) (by unfold maxLen; omega) AA AA ?_)
   intro bm cq E
   have hO := E.1
   rw [<- dY, <- jF] at hO
   replace E := E.g (n := (L ++ [m % 1000000000]).length) (by rw [List.length_append, List.length_singleton]; exact hO)
   refine zG ?_
   exact ⟨_, (by rw [c0]; omega), m / 1000000000, L ++ [m % 1000000000], bm, y, _, _, _, _, _, _, _, _, _, _, _, _, _, _, _, _, _, _, _, _, _, _, _, _, _, _, _, _, O, (Env.g zE E.1), O, ⟨Dq o.1, Lc o.2.1 m, Nat.le_trans (Nat.div_le_self _ _) o.2.2.1, fun _ => (by have := o.2.2.1; omega), by rw [List.length_append, List.length_singleton]; omega⟩⟩
  have ag : j < 9 := by have := af.1; omega
  have ai := af.2
  have d6 : cu < 1000000000 := by rw [ai]; exact Nat.lt_of_le_of_lt (Nat.div_le_self _ _) c3
  refine zG ?_
  refine V (v := .int .i64 ↑(8 - j)) O O (FM O O O YQi) ?_
  refine zG ?_
  refine V (v := .int .u64 ↑(cu % 10)) O O (FD O O O AE (XI _ 10)) ?_
  refine zG ?_
  refine V (v := .int .u64 ↑(48 + cu % 10)) O O (KM O O O (EJ AA AA)) ?_
  refine zG ?_
  refine V (v := .int .u8 ↑(48 + cu % 10)) O O (FI O O (by rw [underlying161]; rfl) underlying5 (IN AA AA)) ?_
  refine zG ?_
  refine V (v := .pointer (some ⟨ae, 0 + (8 - j) * 1, none⟩)) O O (EV O underlying217 Z O O O AA) ?_
  have b0 := E.1
  replace E := (Env.s (Env.g (Env.s (Env.b (Env.i (Env.ww (Env.nil _) E.2.2.2.2.2.2.1) E.2.2.2.2.2.1) E.2.2.2.2.1) E.2.2.2.1) E.2.2.1) E.2.1)
  refine zG ?_
  refine EF O (CI (v := .int .u8 ↑(48 + cu % 10)) O Z O O O b0 (by rw [Lb _ AA]; omega) ?_)
  intro cp bo az
  rw [C6 ag (by rw [ai])] at az
  replace E := (E.onl (b0.noW (C7 _ _)) ⟨BX, okG (fun h => absurd (lc _ h) (Nat.lt_irrefl _)), BX, okB AA, BX, OP AA, BX⟩ bo).x az
  refine zG ?_
  refine V (v := .int .u64 ↑(cu / 10)) O O (Nl O O O AE (Ud AA)) ?_
  refine zG ?_
  exact ⟨_, AA, j + 1, cu / 10, _, _, _, _, _, _, _, _, _, _, _, _, _, rfl, (Env.x (Env.s (Env.g zE E.2.2.1) E.2.1) E.1), rfl, ⟨by omega, by rw [ai, Nat.pow_succ, <- Nat.div_div_eq_div_mul]⟩⟩
 obtain ⟨dd, ck, bv⟩ := Sl.shape E.2.1
 refine zG ?_
 refine V (v := .int .i64 ↑((CD m).length)) O O (KL O bv) ?_
 refine zG ?_
 refine V (v := .bool false) O O (EP (c := false) O O O ((by rw [hz, EG]; rfl))) ?_
 rw [hz, Nat.mul_zero, Nat.add_zero] at o
 by_cases hL : L = []
 . have a5 : x = 0 := by have h1 := o.1; rw [hL, eR] at h1; omega
   obtain ⟨dc, cj, bu⟩ := RowG.shape E.1
   refine zG ?_
   refine V (v := .int .i64 ↑L.length) O O (fJ O bu) ?_
   refine zG ?_
   refine V (v := .bool true) O O (EK (c := true) O O O (by rw [hL]; rfl)) ?_
   refine zG ?_
   exact ⟨by rw [a5, txt_zero], E.2.2.2.2.1⟩
 have d8 := List.length_pos_iff.2 hL
 obtain ⟨db, ci, bt⟩ := RowG.shape E.1
 refine zG ?_
 refine V (v := .int .i64 ↑L.length) O O (fJ O bt) ?_
 obtain ⟨U, k, rfl, cg, cf⟩ := RowG.pos E.1 AA
 have d5 := (RowG.blk (g := U) E.1 rfl).2
 have ch := Bx.lt E.2.2.1
 refine zG ?_
 refine V (v := .int .i64 ↑L.length) O O (fJ O O) ?_
 replace E := (E.n (Nat.le_refl _)).g (bB _ w4.heap.size 5 1 dO)
 refine zG ?_
 refine wp_loop_ghost (fun mz a w' => ∃ (i : Nat) (vt : Value) (g9 bg ay ax aw av au ar aq ap ao an am al : Value), a = ⟨#[.agg #[.bool f, e], .pointer (some ⟨t, 0, none⟩), .string ⟨#[]⟩, .slice (some ⟨U, 0, none⟩) L.length k, X, g5, g6, g7, vt, g9, .pointer (some ⟨t, 1, none⟩), e, v2, v3, X, .int .i64 ↑((CD m).length), .bool false, ad, ac, ab, aa, a9, a8, T, S, R, Q, P, N, J, I, H, G, F, C, a3, a2, a1, a0, .slice (some ⟨U, 0, none⟩) L.length k, .int .i64 ↑L.length, .bool false, .slice (some ⟨U, 0, none⟩) L.length k, .int .i64 ↑L.length, .int .i64 ↑i, bg, ay, ax, aw, av, au, ar, aq, ap, ao, an, am, al, undef, undef, undef, undef, undef, undef, undef, undef, undef, undef, undef, undef, undef], []⟩ /\ Env w' [fG w4.heap.size (5) 1 dO vt (9 * i) (iS ((L.reverse.take i).flatMap (YR 9))), fN w4.heap.size, fG (t + 1) (217) 9 dO (.slice (some ⟨U, 0, none⟩) L.length k) L.length (iS (L.flatMap (YR 9))), fB t f e, fI (.agg #[.bool f, e]) x, fW w] /\ mz = L.length - i /\ i <= L.length) (L.length) ⟨0, .slice none 0 0, _, _, _, _, _, _, _, _, _, _, _, _, _, _, O, (Env.g (Env.n (Env.g zE E.2.2.1) E.2.1) E.1), O, Nat.zero_le _⟩ ?_
 rintro m8 _ w8 ⟨i, vt, g9, bg, ay, ax, aw, av, au, ar, aq, ap, ao, an, am, al, rfl, E, d4, d9⟩
 by_cases hi : i = L.length
 case neg =>
  have ah : i < L.length := by omega
  refine zG ?_
  refine V (v := .int .i64 ↑L.length) O O (fJ O O) ?_
  refine zG ?_
  refine V (v := .int .i64 ↑(L.length - 1)) O O (FM O O O YQi) ?_
  refine zG ?_
  refine V (v := .int .i64 ↑(L.length - 1 - i)) O O (FM O O O YQi) ?_
  refine zG ?_
  refine V (v := .pointer (some ⟨U, 0 + (L.length - 1 - i) * 9, none⟩)) O O (VP O underlying216 Z O O O AA) ?_
  refine zG ?_
  refine V (v := .slice (some ⟨U, 0 + (L.length - 1 - i) * 9, none⟩) 9 9) O O (wV O O) ?_
  obtain ⟨i1, c1, bq, bw, c5⟩ := info_parts Vl
  refine zG ?_
  refine EF O (ZL _ _ _ O w4.heap.size 5 i1 _ 1 1 underlying42 c1 bq bw c5 O AE dO Kc Gh vt (9 * i) (iS ((L.reverse.take i).flatMap (YR 9))) O E.1 (l := [fN w4.heap.size, fG (t + 1) (217) 9 dO (.slice (some ⟨U, 0, none⟩) L.length k) L.length (iS (L.flatMap (YR 9))), fB t f e, fI (.agg #[.bool f, e]) x, fW w]) (Env.n (Env.g zE E.2.2.1) E.2.1) (fun g hg hb => ⟨BX, okG (fun h => by simp only [Value.ownBlock, Option.some.injEq] at h; omega), okB AA, BX, OP AA, BX⟩) ⟨U, 0 + (L.length - 1 - i) * 9, none⟩ 9 9 (iS (YR 9 (gd L (L.length - 1 - i)))) O (by rw [LZ, IX]) (fun j u hu => by have ag : j < 9 := (by have := (List.getElem?_eq_some_iff.1 hu).1; rwa [LZ, IX] at this); rw [Addr.add_lit]; exact RowG.cell E.2.2.1 (by rw [Ql L _ j AA ag]; exact hu)) (Hc _) (yF _) (by unfold maxLen; omega) AA E.2.1 ?_)
  intro bn cx E
  have hO := E.1
  rw [<- dY, <- jF, <- uB L i ah, show 9 * i + 9 = 9 * (i + 1) from by omega] at hO
  replace E := E.g hO
  refine zG ?_
  exact ⟨_, AA, i + 1, bn, _, _, _, _, _, _, _, _, _, _, _, _, _, _, rfl, (Env.g (Env.n (Env.g zE E.2.2.2.1) E.2.2.1) E.1), rfl, AA⟩
 rw [hi, <- List.length_reverse, List.take_length, List.length_reverse] at E
 obtain ⟨D, hD⟩ : ∃ D, D = L.reverse.flatMap (YR 9) := ⟨_, rfl⟩
 rw [<- hD] at E
 have a7 : D.length = 9 * L.length := by rw [hD, yQ, List.length_reverse]
 have c7 : Dg D := by rw [hD]; exact Vr _
 have b6 : CX D = x.natAbs := by rw [hD, Be L o.2.1]; exact o.1.symm
 obtain ⟨gt, a4, rfl, ce, cd⟩ := RowG.pos E.1 AA
 have bx : 0 < CX D := by rw [b6]; exact Nat.pos_of_ne_zero (o.2.2.2.1 hL)
 have b7 : MT D = YF x.natAbs := by rw [It c7 bx, b6]
 have c6 : MT D ≠ [] := by rw [b7]; exact Dp _
 refine zG ?_
 refine wp_loop_ghost (fun mz a w' => ∃ (p : Nat) (bf bc bb ba b9 b8 : Value), a = ⟨#[.agg #[.bool f, e], .pointer (some ⟨t, 0, none⟩), .string ⟨#[]⟩, .slice (some ⟨U, 0, none⟩) L.length k, X, g5, g6, g7, .slice (some ⟨gt, p, none⟩) (9 * L.length - p) (a4 - p), g9, .pointer (some ⟨t, 1, none⟩), e, v2, v3, X, .int .i64 ↑((CD m).length), .bool false, ad, ac, ab, aa, a9, a8, T, S, R, Q, P, N, J, I, H, G, F, C, a3, a2, a1, a0, .slice (some ⟨U, 0, none⟩) L.length k, .int .i64 ↑L.length, .bool false, .slice (some ⟨U, 0, none⟩) L.length k, .int .i64 ↑L.length, .int .i64 ↑i, .bool false, ay, ax, aw, av, au, ar, aq, ap, ao, an, am, al, bf, bc, bb, ba, b9, b8, undef, undef, undef, undef, undef, undef, undef], []⟩ /\ Env w' [fG w4.heap.size (5) 1 dO (.slice (some ⟨gt, 0, none⟩) (9 * L.length) a4) (9 * L.length) (iS D), fN w4.heap.size, fG (t + 1) (217) 9 dO (.slice (some ⟨U, 0, none⟩) L.length k) L.length (iS (L.flatMap (YR 9))), fB t f e, fI (.agg #[.bool f, e]) x, fW w] /\ mz = 9 * L.length - p /\ p < 9 * L.length /\ MT (D.drop p) = MT D) (9 * L.length) ⟨0, _, _, _, _, _, _, O, (Env.g (Env.n (Env.g zE E.2.2.1) E.2.1) E.1), O, ⟨by omega, O⟩⟩ ?_
 rintro m9 _ w9 ⟨p, bf, bc, bb, ba, b9, b8, rfl, E, d0, a6⟩
 have Y : p < D.length := by rw [a7]; exact a6.1
 by_cases hp : gd D p = 0
 case pos =>
  have b5 := Bl Y hp a6.2 c6
  rw [a7] at b5
  refine zG ?_
  refine V (v := .pointer (some ⟨gt, p + 0 * 1, none⟩)) O O (VP O underlying42 Z O O O AA) ?_
  have ak : _ = _ := RowG.cell E.1 (mH D p Y)
  refine zG ?_
  refine V (v := .int .u8 ↑(48 + gd D p)) O O (GH O yL O ak) ?_
  refine zG ?_
  refine V (v := .slice (some ⟨gt, p + 1, none⟩) (9 * L.length - p - 1) (a4 - p - 1)) O O (Je O O O AA AA AA) ?_
  refine zG ?_
  exact ⟨_, AA, p + 1, _, _, _, _, _, _, rfl, (Env.g (Env.n (Env.g zE E.2.2.1) E.2.1) E.1), rfl, ⟨b5, nD Y hp a6.2⟩⟩
 have B := Bp Y hp a6.2
 rw [b7] at B
 refine zG ?_
 refine V (v := .pointer (some ⟨gt, p + 0 * 1, none⟩)) O O (VP O underlying42 Z O O O AA) ?_
 have ak : _ = _ := RowG.cell E.1 (mH D p Y)
 refine zG ?_
 refine V (v := .int .u8 ↑(48 + gd D p)) O O (GH O yL O ak) ?_
 by_cases hx : x < 0
 case neg =>
  refine zG ?_
  refine AP (congrArg Value.bool (by rw [b3]; simp [hx])) ?_
  have aj : ∀ q, q < 9 * L.length - p -> _ = _ := fun q hq => RowG.cell E.1 (mH D (p + q) AA)
  refine zG ?_
  refine V (v := .string (strOfNums ((D.drop p).map fun d => ((48 + d : Nat) : Int)))) O O (lN O underlying42 underlying5 underlying9 O (by rw [List.length_map, List.length_drop, a7]) (fun q hq => by rw [aj q hq, Gy D p q AA])) ?_
  refine zG ?_
  exact ⟨congrArg (fun s => Ending.returned (.string s)) (Tc hx B), E.2.2.2.2.2.1⟩
 refine zG ?_
 refine AO (congrArg Value.bool (by rw [b3]; simp [hx])) ?_
 have aj : ∀ q, q < 9 * L.length - p -> _ = _ := fun q hq => RowG.cell E.1 (mH D (p + q) AA)
 refine zG ?_
 refine V (v := .string (strOfNums ((D.drop p).map fun d => ((48 + d : Nat) : Int)))) O O (lN O underlying42 underlying5 underlying9 O (by rw [List.length_map, List.length_drop, a7]) (fun q hq => by rw [aj q hq, Gy D p q AA])) ?_
 refine zG ?_
 refine V (v := .string ((⟨#[45]⟩ : ByteArray) ++ strOfNums ((D.drop p).map fun d => ((48 + d : Nat) : Int)))) O O (VQ O O O (by rw [strOfNums_size, List.length_map, List.length_drop]; show 1 + _ <= _; omega)) ?_
 refine zG ?_
 exact ⟨congrArg (fun s => Ending.returned (.string s)) (Td hx B), E.2.2.2.2.2.1⟩
theorem ZC (s : ByteArray) (w : World) (hs : s.size <= 4000) (h : DN s.data.toList = none) : Calls prog 137 #[.string s] w (RetZE w 0 3) := by
 refine (vT s w AA).mono ?_
 exact ZN4
theorem MA (s : ByteArray) (z : Int) (w : World) (hs : s.size <= 4000) (h : DN s.data.toList = some z) : Calls prog 137 #[.string s] w (RetZE w z 0) := by
 refine (vT s w AA).mono ?_
 exact Z5j
theorem pP (va : Value) (x : Int) (w : World) (ha : IsI w va x) (h1 : -9223372036854775808 <= x) (h2 : x <= 9223372036854775807) : Calls prog 147 #[va] w (RetS w x true) := by
 have := Ht va x w ha
 rwa [(PE h1 h2).1, (PE h1 h2).2] at this
theorem Sl.at {l : List Nat} (h : Sl w v l) (hi : i < l.length) : ∃ b off cap, v = .slice (some ⟨b, off, none⟩) l.length cap /\ w.cell? ⟨b, off + i * 1, none⟩ = some (.int .u32 ↑(gd l i)) := by
 obtain ⟨k, cap, rfl, _, _, _, _, f⟩ := h
 obtain ⟨b, off, rfl, e⟩ := f i hi
 exact ⟨b, off, cap, rfl, by rw [Nat.mul_one]; exact e⟩
theorem PL (s : ByteArray) (w : World) (hs : s.size <= 4000) (h : DN s.data.toList = none) : Calls prog 113 #[.string s] w (RetZE w 0 3) := by
 refine (pV s w AA).mono ?_
 exact ZN4
theorem JG (s : ByteArray) (z : Int) (w : World) (hs : s.size <= 4000) (h : DN s.data.toList = some z) : Calls prog 113 #[.string s] w (RetZE w z 0) := by
 refine (pV s w AA).mono ?_
 exact Z5j
theorem lE {a : Act} {w : World} {T TB b : Nat} {cs : List Value} (ho : o.op = .store T x y) (hs : ∀ w, (sizeOf T).run P w = .ok 1 w)
 (hx : a.eval x = .pointer (some ⟨b, i, none⟩)) (hy : a.eval y = v) (hcell : v.cells = #[v]) (h1 : v.oneCell' = true) (hb : Bx w b TB cs) (hi : i < cs.length)
 (h : ∀ w', Onl b w w' -> Bx w' b TB (cs.set i v) -> K (a.put o.dst undef) w') : o.wp P a w K Q := by
 have e := run_storeCells_at (P := P) b i TB [v] 0 cs.toArray w hb (by simp; omega) (by simpa using h1)
 have f : cs.take i ++ [v] ++ cs.drop (i + 1) = cs.set i v := by
  rw [List.set_eq_take_append_cons_drop, if_pos hi]; simp
 unfold Oper.wp execOp
 simp only [ho, hx, hy, Instr.storeAt, Instr.sureAddr, Sem.run_bind, Sem.run_pure, Result.andThen_ok, storeVar, hcell, hs]
 simp only [List.size_toArray, List.length_cons, List.length_nil, Nat.zero_add, ne_eq, not_true_eq_false, if_false, Nat.add_zero] at e ⊢
 rw [f] at e
 simp [e, Oper.upon]
 exact h _ (NJ _ _ _) (XZ hb _)
def QO (p q : List Nat) (i : Nat) : List Nat := (List.range 8).map fun j => if j < i then me p j + me q j else me p j
def pO (p q : List Nat) : Prop := ∀ i, me p i + me q i <= 65535
theorem VX (p q : List Nat) (i : Nat) : (QO p q i).length = 8 := by simp [QO]
theorem uJ (p q : List Nat) (i : Nat) {j : Nat} (hj : j < 8) : me (QO p q i) j = if j < i then me p j + me q j else me p j := by
 rw [ZG (by rw [VX]; exact hj)]; simp [QO]
theorem SZ (hs : pO p q) (i : Nat) : FC (QO p q i) := by
 refine ⟨VX p q i, fun e f => ?_⟩
 obtain ⟨j, _, rfl⟩ := List.mem_map.1 f
 have := hs j
 split <;> omega
theorem Po (hp : FC p) (q : List Nat) : QO p q 0 = p := by
 refine List.ext_getElem (by rw [VX, hp.1]) fun i e f => ?_
 rw [<- ZG e, <- ZG f, uJ p q 0 (by rw [VX] at e; exact e)]; simp
theorem Pp (p q : List Nat) (hi : i < 8) : me (QO p q i) i = me p i := by rw [uJ p q i hi]; simp
theorem Uz (p q : List Nat) (_ : i < 8) : (IQ (QO p q i)).set (0 + i * 1) (.int .i64 ↑(me p i + me q i)) = IQ (QO p q (i + 1)) := by
 rw [Nat.zero_add, Nat.mul_one]
 unfold IQ
 rw [<- List.map_set]
 congr 1
 refine List.ext_getElem (by rw [List.length_set, VX, VX]) fun j k f => ?_
 have e : j < 8 := by rw [VX] at f; exact f
 rw [List.getElem_set]
 have e1 := uJ p q (i + 1) e
 have e2 := uJ p q i e
 rw [ZG f] at e1
 rw [ZG (by rw [VX]; exact e)] at e2
 rw [e1, e2]
 by_cases h : i = j
 . subst h; simp
 rw [if_neg h]
 by_cases g : j < i
 . rw [if_pos g, if_pos AA]
 rw [if_neg g, if_neg AA]
theorem Fu : FC [0, 0, 0, 0, 0, 0, 0, 0] := by refine ⟨rfl, ?_⟩; decide
theorem Fz (m : List Nat) : ∀ v ∈ IQ m, v.oneCell' = true := by
 intro v e
 obtain ⟨_, _, rfl⟩ := List.mem_map.1 e
 rfl
theorem Mx (w : World) : (sizeOf 3).run prog w = .ok 1 w := by kernel_rfl
theorem uD (m : List Nat) : UP (IQ m) := by
 intro c f n e
 obtain ⟨_, _, rfl⟩ := List.mem_map.1 f
 cases e
set_option maxRecDepth 100000 in
set_option maxHeartbeats 4000000 in
theorem Xi (p q : List Nat) (w : World) (hq : FC q) (hs : pO p q) :
 Calls prog 56 #[.agg (IQ (QO p q 0)).toArray, .agg (IQ q).toArray] w (GY w (.tuple #[.agg (IQ (QO p q 8)).toArray, .int .i64 0])) := by
 have E := Env.start w
 go_enter func56, ntmps56
 refine zG ?_
 refine EF O (CM (cs := IQ (QO p q 0)) O O ?_)
 intro k w1 e1 z1 X L
 have l1 : w.heap.size <= k := by rw [e1]; exact E.1.size
 replace E := E.below X
 clear e1
 replace E := E.x L
 refine zG ?_
 refine EF O (CM (cs := IQ q) O O ?_)
 intro h w2 e2 z2 U J
 have F : k < h := by rw [e2]; exact Bx.lt E.1
 replace E := E.below U
 clear e2
 replace E := E.x J
 refine zG ?_
 refine EF O (BZ ST O ?_)
 intro l w3 e3 Y T I
 have D : h < l := by rw [e3]; exact Bx.lt E.1
 replace E := E.below T
 clear e3
 replace E := E.x I
 refine zG ?_
 refine wp_loop_ghost (fun R a N => ∃ (i : Nat) (f : List Value), f = a.tmps.toList /\ a = ⟨(.agg (IQ (QO p q 0)).toArray :: .agg (IQ q).toArray :: .pointer (some ⟨k, 0, none⟩) :: .pointer (some ⟨h, 0, none⟩) :: .pointer (some ⟨l, 0, none⟩) :: .int .i64 0 :: .int .i64 ↑i :: gr f 7 17 []).toArray, []⟩ /\ Env N [fX l (67) (IQ [0, 0, 0, 0, 0, 0, 0, 0]), fX h (67) (IQ q), fX k (67) (IQ (QO p q i)), fW w] /\ R = 8 - i /\ i <= 8) (8) ⟨0, _, O, O, zE, O, AA⟩ ?_
 rintro m4 _ w4 ⟨i, f, -, rfl, E, u, S⟩
 dsimp only [gr, Nat.reduceAdd]
 by_cases G : i < 8
 case neg =>
  refine zG ?_
  refine V O O (CU ST O O E.2.2.1 (DG (SZ hs i))) ?_
  refine zG ?_
  refine EF O (CA kY O (Lk (QO p q i) _ (SZ hs i)) O E ?_)
  intro w7 d7 E
  refine zG ?_
  refine V O O (CU ST O O E.2.2.1 (DG (SZ hs i))) ?_
  have B := E.1
  replace E := YE E
  refine zG ?_
  refine EF O (BY ST O O O B (by first | rfl | exact DG Fu) (DG (SZ hs i)) (Fz _) ?_)
  intro w8 P H
  replace E := (E.onl (B.noW (uD (m := [0, 0, 0, 0, 0, 0, 0, 0]))) zK P).x H
  have r1 := CL ST E.1 (DG (SZ hs i))
  refine zG ?_
  exact AQ (v := .tuple #[.agg (IQ (QO p q i)).toArray, .int .i64 0]) (by simp [results, results56, asAddr, r1]) O ⟨YQk, e3 E⟩
 refine zG ?_
 refine XE (l2 := [fX l (67) (IQ [0, 0, 0, 0, 0, 0, 0, 0]), fX h (67) (IQ q), fW w]) E (fun w E => zE) ([8]) ([0, 1, 2, 3, 4, 5, 6, 7, 8]) Z Z Z Z AF ?_
 replace E := E.drew
 refine SP (o := ⟨some 11, _, _, _, _, _⟩) (v := .int .i64 ↑i) O O O O (fun w e => GP O O) ?_
 refine zG ?_
 refine SP (o := ⟨some 12, _, _, _, _, _⟩) (v := .pointer (some ⟨k, 0 + i * 1, none⟩)) O O O O (fun w e => EV (j := i) O underlying67 Z O O O AA) ?_
 refine zG ?_
 refine SP (o := ⟨some 13, _, _, _, _, _⟩) (v := .int .i64 ↑(me (QO p q i) i)) O O O O (fun w e => CR O CW O (e.2.2.1) (FB (SZ hs i) AA)) ?_
 refine zG ?_
 refine SP (o := ⟨some 14, _, _, _, _, _⟩) (v := .int .i64 ↑i) O O O O (fun w e => GP O O) ?_
 refine zG ?_
 refine SP (o := ⟨some 15, _, _, _, _, _⟩) (v := .pointer (some ⟨h, 0 + i * 1, none⟩)) O O O O (fun w e => EV (j := i) O underlying67 Z O O O AA) ?_
 refine zG ?_
 refine SP (o := ⟨some 16, _, _, _, _, _⟩) (v := .int .i64 ↑(me q i)) O O O O (fun w e => CR O CW O (e.2.1) (FB hq AA)) ?_
 refine zG ?_
 refine SP (o := ⟨some 17, _, _, _, _, _⟩) (v := .int .i64 ↑(me p i + me q i)) O O O O (fun w e => KM O O O (by rw [Pp p q G]; have := hs i; rw [MO AA]; omega)) ?_
 refine zG ?_
 refine SP (o := ⟨some 18, _, _, _, _, _⟩) (v := .pointer (some ⟨k, 0 + i * 1, none⟩)) O O O O (fun w e => EV (j := i) O underlying67 Z O O O AA) ?_
 have C := E.2.2.1
 refine zG ?_
 replace E := (Env.x (Env.x (Env.ww (Env.nil _) (e3 E)) E.2.1) E.1)
 refine S1b (o := ⟨none, _, _, _, _, _⟩) O O O O (lE (v := .int .i64 ↑(me p i + me q i)) O Mx O O O O C (by rw [DG (SZ hs i)]; omega) ?_)
 intro w6 Q y
 rw [Uz p q G] at y
 replace E := (E.onl (C.noW (uD _)) zK Q).x y
 refine ⟨E.2, ?_⟩
 refine zG ?_
 exact ⟨_, (by rw [u]; omega), (i + 1), _, O, O, zE, O, AA⟩
end Go.Proofs.YtmppigbbkjepiaaGreatDoor
