/- Helping facts of Mono; no other conditions. -/
import Derived.Test.YtmppigbbkjepiaaGreatDoorRat1
import Derived.ChangeKeysEq
set_option maxHeartbeats 4000000
set_option maxRecDepth 100000
namespace Go.Proofs.YtmppigbbkjepiaaGreatDoor
open Go.Proofs.Tryz
open Go.RowKit W
variable {P : Program} {a b m p q : List Nat} {i : Nat} {n : Int} {o : Oper} {t t' : TypeId} {w : World} {x y : Operand} {ρ : Operand -> Value}
theorem Ywt {p : Prop} (h : p := by rw [f]; omega) : p := h
theorem ZCd {p : Prop} (h : p := by
 refine zG ?_
 exact ⟨_, Ywt, (i + 1), _, O, O, zE, O, AA⟩
 ) : p := h
theorem ZYi {p : Prop} (h : p := by
 refine zG ?_
 exact ⟨_, (by rw [h]; omega), (i + 1), _, O, O, zE, O, AA⟩
 ) : p := h
def GK (m : List Nat) : List Value := m.map fun (e : Nat) => .int .i64 ↑e
def EG (m : List Nat) : Prop := m.length = 8 /\ ∀ e ∈ m, e <= 65535
def me (m : List Nat) (i : Nat) : Nat := m.getD i 0
theorem QV (h : i < m.length) : me m i = m[i] := by unfold me; simp [List.getD_eq_getElem?_getD, h]
theorem qZ (h : EG m) (i : Nat) : me m i <= 65535 := by
 by_cases e : i < m.length
 . rw [QV e]; exact h.2 _ (List.getElem_mem e)
 unfold me; simp [List.getD_eq_getElem?_getD, List.getElem?_eq_none (by omega : m.length <= i)]
theorem DC (h : EG m) : (GK m).length = 8 := by unfold GK; rw [List.length_map]; exact h.1
theorem EJ (h : EG m) (hi : i < 8) : (GK m)[0 + i * 1]? = some (.int .i64 ↑(me m i)) := by
 have e : i < m.length := by rw [h.1]; exact hi
 rw [QV e]; unfold GK
 rw [Nat.zero_add, Nat.mul_one, List.getElem?_map, List.getElem?_eq_getElem e]; rfl
theorem QN : Ag prog 67 8 [.int .i64 0, .int .i64 0, .int .i64 0, .int .i64 0, .int .i64 0, .int .i64 0, .int .i64 0, .int .i64 0] := ⟨⟨_, underlying67, rfl⟩, by kernel_rfl, rfl⟩
theorem CW (w : World) : (isAgg 3).run prog w = .ok false w := by simp [go_sem]
theorem VX {J : Int} (ho : o.op = .index 67 x y) (hx : ρ x = .agg (GK m).toArray) (hy : ρ y = .int .i64 J) (hJ : J = (i : Int)) (h : EG m) (hi : i < 8) :
 (execOp ρ o).run prog w = .ok (.value (.int .i64 ↑(me m i))) w := by
 subst hJ
 unfold execOp; rw [ho]
 have e := EJ h hi
 rw [Nat.zero_add, Nat.mul_one] at e
 have f : (sizeOf 3).run prog w = .ok 1 w := by kernel_rfl
 simp [hx, hy, Instr.index, asIntOf, run_underlying underlying67, hi, f, part, e, go_sem]
def OZ (m : List Nat) (i : Nat) : Nat := (m.take i).sum
theorem rA (h : EG m) (hi : i < 8) : OZ m (i + 1) = OZ m i + me m i := by
 have e : i < m.length := by rw [h.1]; exact hi
 rw [QV e]; unfold OZ
 rw [List.take_succ_eq_append_getElem e, List.sum_append]; simp
theorem Es {m : List Nat} (h : EG m) : ∀ i, i <= 8 -> OZ m i <= 65535 * i
 | 0, _ => by simp [OZ]
 | i + 1, hi => by have := Es h i AA; have := qZ h i; rw [rA h AA]; omega
theorem madd (h : EG m) (hi : i < 8) : IntKind.i64.wrap (((OZ m i : Nat) : Int) + ((me m i : Nat) : Int)) = ((OZ m (i + 1) : Nat) : Int) := by
 have := Es h i AA; have := qZ h i
 rw [rA h hi, HI AA]; omega
theorem Dd (m : List Nat) (w : World) (hm : EG m) :
 Calls prog 157 #[.agg (GK m).toArray] w (XR w ((OZ m 8 : Nat) : Int)) := by
 have E := Env.start w
 go_enter func157, ntmps157
 refine zG ?_
 refine EF O (CI (cs := GK m) O O ?_)
 intro f z e1 u t k
 have C : w.heap.size <= f := by rw [e1]; exact E.1.size
 replace E := E.below t
 clear e1
 replace E := E.x k
 refine zG ?_
 refine wp_loop_ghost (fun o a l => ∃ (i : Nat) (e : List Value), e = a.tmps.toList /\ a = ⟨(.agg (GK m).toArray :: .pointer (some ⟨f, 0, none⟩) :: .int .i64 0 :: .int .i64 ↑(OZ m i) :: .int .i64 ↑i :: gr e 5 10 []).toArray, []⟩ /\ Env l [fX f (67) (GK m), fW w] /\ o = 8 - i /\ i <= 8) (8) ⟨0, _, O, O, zE, O, AA⟩ ?_
 rintro B _ y ⟨i, e, -, rfl, E, h, q⟩
 dsimp only [gr, Nat.reduceAdd]
 by_cases p : i < 8
 case neg =>
  refine zG ?_
  exact ⟨FO (by rw [show i = 8 by omega]), E.2.1⟩
 refine zG ?_
 refine V (v := .pointer (some ⟨f, 0 + i * 1, none⟩)) O O (EA (j := i) O underlying67 Z O O O AA) ?_
 refine V O O (CP O CW O E.1 (EJ hm AA)) ?_
 refine zG ?_
 refine V (v := .int .i64 ↑(OZ m (i + 1))) O O (IY O O O (madd hm p)) ?_
 exact ZYi
theorem Km (m : List Nat) (w : World) (hm : EG m) :
 Calls prog 175 #[.agg (GK m).toArray] w (XR w ((OZ m 8 : Nat) : Int)) := by
 have E := Env.start w
 go_enter func175, ntmps175
 refine zG ?_
 refine EF O (CI (cs := GK m) O O ?_)
 intro h z e1 u t k
 replace E := E.below t
 clear e1
 replace E := E.x k
 refine zG ?_
 refine V O O (CY QN O O E.1 (DC hm)) ?_
 refine zG ?_
 refine wp_loop_ghost (fun o a l => ∃ (i : Nat) (e : List Value), e = a.tmps.toList /\ a = ⟨#[.agg (GK m).toArray, .pointer (some ⟨h, 0, none⟩), .int .i64 0, .int .i64 ↑(OZ m i), undef, CF e 5, .agg (GK m).toArray, .int .i64 ↑i, CF e 8, CF e 9, CF e 10, CF e 11, CF e 12, CF e 13, undef], []⟩ /\ Env l [fX h (67) (GK m), fW w] /\ o = 8 - i /\ i <= 8) (8) ⟨0, _, O, O, zE, O, AA⟩ ?_
 rintro B _ y ⟨i, e, -, rfl, E, f, q⟩
 by_cases p : i < 8
 case neg =>
  refine zG ?_
  exact ⟨FO (by rw [show i = 8 by omega]), E.2.1⟩
 refine zG ?_
 refine V (v := .int .i64 ↑(me m i)) O O (VX O O O O hm AA) ?_
 refine zG ?_
 refine V (v := .int .i64 ↑(OZ m (i + 1))) O O (IY O O O (madd hm p)) ?_
 exact ZCd
theorem Tz (i : Nat) : decide (((me m i : Nat) : Int) < 0) = false := by rw [decide_eq_false_iff_not]; omega
theorem Oj (h : EG m) (i : Nat) : decide (((me m i : Nat) : Int) > 65535) = false := by have := qZ h i; rw [decide_eq_false_iff_not]; omega
def ES : List Nat -> List Nat -> Int
 | x :: xs, y :: ys => if x < y then -1 else if y < x then 1 else ES xs ys
 | _, _ => 0
theorem fF (h : EG m) (hi : i < 8) : m.drop i = me m i :: m.drop (i + 1) := by
 have e : i < m.length := by rw [h.1]; exact hi
 rw [List.drop_eq_getElem_cons e, QV e]
theorem iK (ha : EG a) (hb : EG b) (hi : i < 8) : ES (a.drop i) (b.drop i) = if me a i < me b i then -1 else if me b i < me a i then 1 else ES (a.drop (i + 1)) (b.drop (i + 1)) := by
 rw [fF ha hi, fF hb hi]; rfl
theorem Ft (ha : EG a) (hb : EG b) (hi : i < 8) (hJ : ES a b = ES (a.drop i) (b.drop i)) (h : me a i < me b i) : -1 = ES a b := by rw [hJ, iK ha hb hi, if_pos h]
theorem Fu (ha : EG a) (hb : EG b) (hi : i < 8) (hJ : ES a b = ES (a.drop i) (b.drop i)) (h : me b i < me a i) : 1 = ES a b := by rw [hJ, iK ha hb hi, if_neg AA, if_pos h]
theorem Fv (ha : EG a) (hb : EG b) (hi : i < 8) (hJ : ES a b = ES (a.drop i) (b.drop i)) (h1 : ¬ me a i < me b i) (h2 : ¬ me b i < me a i) : ES a b = ES (a.drop (i + 1)) (b.drop (i + 1)) := by rw [hJ, iK ha hb hi, if_neg h1, if_neg h2]
theorem Ql (ha : EG a) (hi : ¬ i < 8) (hJ : ES a b = ES (a.drop i) (b.drop i)) : 0 = ES a b := by
 rw [hJ, List.drop_of_length_le (by rw [ha.1]; omega)]; cases b.drop i <;> rfl
theorem Jz (a : List Nat) : ES a a = 0 := by
 induction a with
 | nil => rfl
 | cons x xs ih => simp [ES, ih]
theorem rX (m : List Nat) (w : World) (hm : EG m) :
 Calls prog 104 #[.agg (GK m).toArray] w (LI w true) := by
 have E := Env.start w
 go_enter func104, ntmps104
 refine zG ?_
 refine EF O (CI (cs := GK m) O O ?_)
 intro f y e1 t q k
 replace E := E.below q
 clear e1
 replace E := E.x k
 refine zG ?_
 refine wp_loop_ghost (fun o a l => ∃ (i : Nat) (e : List Value), e = a.tmps.toList /\ a = ⟨(.agg (GK m).toArray :: .pointer (some ⟨f, 0, none⟩) :: CF e 2 :: .int .i64 ↑i :: gr e 4 14 []).toArray, []⟩ /\ Env l [fX f (67) (GK m), fW w] /\ o = 8 - i /\ i <= 8) (8) ⟨0, _, O, O, zE, O, AA⟩ ?_
 rintro z _ u ⟨i, e, -, rfl, E, h, p⟩
 dsimp only [gr, Nat.reduceAdd]
 by_cases B : i < 8
 case neg =>
  refine zG ?_
  exact ⟨rfl, E.2.1⟩
 refine zG ?_
 refine V (v := .pointer (some ⟨f, 0 + i * 1, none⟩)) O O (EA (j := i) O underlying67 Z O O O AA) ?_
 refine V O O (CP O CW O E.1 (EJ hm AA)) ?_
 refine V O O (JH (c := false) O O O (Tz i)) ?_
 refine zG ?_
 refine V (v := .pointer (some ⟨f, 0 + i * 1, none⟩)) Z O (EA (j := i) O underlying67 Z O O O AA) ?_
 refine V Z O (CP O CW O E.1 (EJ hm AA)) ?_
 refine zG ?_
 refine V Z O (RS (c := false) O O O (Oj hm i)) ?_
 exact ZYi
theorem Rl (m : List Nat) (w : World) (hm : EG m) :
 Calls prog 82 #[.agg (GK m).toArray] w (LI w true) := by
 have E := Env.start w
 go_enter func82, ntmps82
 refine zG ?_
 refine EF O (CI (cs := GK m) O O ?_)
 intro h y e1 t q k
 replace E := E.below q
 clear e1
 replace E := E.x k
 refine zG ?_
 refine V O O (CY QN O O E.1 (DC hm)) ?_
 refine zG ?_
 refine wp_loop_ghost (fun o a l => ∃ (i : Nat) (e : List Value), e = a.tmps.toList /\ a = ⟨(.agg (GK m).toArray :: .pointer (some ⟨h, 0, none⟩) :: gr e 2 3 (.agg (GK m).toArray :: .int .i64 ↑i :: gr e 7 9 [])).toArray, []⟩ /\ Env l [fX h (67) (GK m), fW w] /\ o = 8 - i /\ i <= 8) (8) ⟨0, _, O, O, zE, O, AA⟩ ?_
 rintro z _ u ⟨i, e, -, rfl, E, f, p⟩
 dsimp only [gr, Nat.reduceAdd]
 by_cases B : i < 8
 case neg =>
  refine zG ?_
  exact ⟨rfl, E.2.1⟩
 refine zG ?_
 refine V (v := .int .i64 ↑(me m i)) O O (VX O O O O hm AA) ?_
 refine zG ?_
 refine V Z O (RS (c := false) O O O (Oj hm i)) ?_
 exact ZCd
theorem UK (p q : List Nat) (w : World) (hp : EG p) (hq : EG q) :
 Calls prog 59 #[.agg (GK p).toArray, .agg (GK q).toArray] w (XR w (ES p q)) := by
 have E := Env.start w
 go_enter func59, ntmps59
 refine zG ?_
 refine EF O (CI (cs := GK p) O O ?_)
 intro k P e1 J H C
 replace E := E.below H
 clear e1
 replace E := E.x C
 refine zG ?_
 refine EF O (CI (cs := GK q) O O ?_)
 intro h N e2 I G B
 replace E := E.below G
 clear e2
 replace E := E.x B
 refine zG ?_
 refine wp_loop_ghost (fun F a D => ∃ (i : Nat) (f : List Value), f = a.tmps.toList /\ a = ⟨(.agg (GK p).toArray :: .agg (GK q).toArray :: .pointer (some ⟨k, 0, none⟩) :: .pointer (some ⟨h, 0, none⟩) :: CF f 4 :: .int .i64 ↑i :: gr f 6 18 []).toArray, []⟩ /\ Env D [fX h (67) (GK q), fX k (67) (GK p), fW w] /\ F = 8 - i /\ (i <= 8 /\ ES p q = ES (p.drop i) (q.drop i))) (8) ⟨0, _, O, O, zE, O, ⟨by omega, O⟩⟩ ?_
 rintro Q _ L ⟨i, f, -, rfl, E, u, l⟩
 dsimp only [gr, Nat.reduceAdd]
 obtain ⟨l, t⟩ := l
 by_cases o : i < 8
 case neg =>
  refine zG ?_
  exact ⟨FO (Ql hp o t), E.2.2.1⟩
 by_cases z : me p i < me q i
 case pos =>
  refine zG ?_
  refine sE E [0,1,2,3,4,5,6] ?_
  replace E := E.drew
  refine zG ?_
  refine SW (v := .pointer (some ⟨k, 0 + i * 1, none⟩)) O O O O O (fun w e => EA (j := i) O underlying67 Z O O O AA) ?_
  refine SW O O O O O (fun w e => CP O CW O (e.2.1) (EJ hp AA)) ?_
  refine zG ?_
  refine SW (v := .pointer (some ⟨h, 0 + i * 1, none⟩)) O O O O O (fun w e => EA (j := i) O underlying67 Z O O O AA) ?_
  refine SW O O O O O (fun w e => CP O CW O (e.1) (EJ hq AA)) ?_
  refine zG ?_
  exact ⟨FO (Ft hp hq o t z), E.2.2.1⟩
 by_cases y : me q i < me p i
 case pos =>
  refine zG ?_
  refine sE E [0,1,2,3,4,5,6] ?_
  replace E := E.drew
  refine zG ?_
  refine SW (v := .pointer (some ⟨k, 0 + i * 1, none⟩)) O O O O O (fun w e => EA (j := i) O underlying67 Z O O O AA) ?_
  refine SW O O O O O (fun w e => CP O CW O (e.2.1) (EJ hp AA)) ?_
  refine zG ?_
  refine SW (v := .pointer (some ⟨h, 0 + i * 1, none⟩)) O O O O O (fun w e => EA (j := i) O underlying67 Z O O O AA) ?_
  refine SW O O O O O (fun w e => CP O CW O (e.1) (EJ hq AA)) ?_
  refine zG ?_
  refine sE E [0,1,2,3,4,5,6] ?_
  replace E := E.drew
  refine zG ?_
  refine SW (v := .pointer (some ⟨k, 0 + i * 1, none⟩)) O O O O O (fun w e => EA (j := i) O underlying67 Z O O O AA) ?_
  refine SW O O O O O (fun w e => CP O CW O (e.2.1) (EJ hp AA)) ?_
  refine zG ?_
  refine SW (v := .pointer (some ⟨h, 0 + i * 1, none⟩)) O O O O O (fun w e => EA (j := i) O underlying67 Z O O O AA) ?_
  refine SW O O O O O (fun w e => CP O CW O (e.1) (EJ hq AA)) ?_
  refine zG ?_
  exact ⟨FO (Fu hp hq o t y), E.2.2.1⟩
 refine zG ?_
 refine sE E [0,1,2,3,4,5,6] ?_
 replace E := E.drew
 refine zG ?_
 refine SW (v := .pointer (some ⟨k, 0 + i * 1, none⟩)) O O O O O (fun w e => EA (j := i) O underlying67 Z O O O AA) ?_
 refine SW O O O O O (fun w e => CP O CW O (e.2.1) (EJ hp AA)) ?_
 refine zG ?_
 refine SW (v := .pointer (some ⟨h, 0 + i * 1, none⟩)) O O O O O (fun w e => EA (j := i) O underlying67 Z O O O AA) ?_
 refine SW O O O O O (fun w e => CP O CW O (e.1) (EJ hq AA)) ?_
 refine zG ?_
 refine sE E [0,1,2,3,4,5,6] ?_
 replace E := E.drew
 refine zG ?_
 refine SW (v := .pointer (some ⟨k, 0 + i * 1, none⟩)) O O O O O (fun w e => EA (j := i) O underlying67 Z O O O AA) ?_
 refine SW O O O O O (fun w e => CP O CW O (e.2.1) (EJ hp AA)) ?_
 refine zG ?_
 refine SW (v := .pointer (some ⟨h, 0 + i * 1, none⟩)) O O O O O (fun w e => EA (j := i) O underlying67 Z O O O AA) ?_
 refine SW O O O O O (fun w e => CP O CW O (e.1) (EJ hq AA)) ?_
 refine zG ?_
 exact ⟨_, (by rw [u]; omega), (i + 1), _, O, O, zE, O, ⟨by omega, Fv hp hq o t z y⟩⟩
theorem dG (d : Nat) {w : World} {p q : List Nat} (hp : EG p) (hq : EG q) : ∀ is : List Nat, (∀ i ∈ is, i < 8) ->
 (Op.eqItems (d + 1) 3 1 (GK p).toArray (GK q).toArray is).run prog w = .ok (is.all fun i => me p i == me q i) w
 | [], _ => by simp [Op.eqItems]
 | i :: is, h => by
   have hi : i < 8 := h i AH
   have h1 := EJ hp hi
   have h2 := EJ hq hi
   rw [Nat.zero_add] at h1 h2
   have h3 : ∀ (m : List Nat), (GK m)[i * 1]? = some (.int .i64 ↑(me m i)) -> (part 3 (GK m).toArray (i * 1)).run prog w = .ok (.int .i64 ↑(me m i)) w := by
    intro m e
    rw [Nat.mul_one] at e ⊢
    simp [part, e, go_sem]
   have l : (Op.equalIn (d + 1) 3 (.int .i64 ↑(me p i)) (.int .i64 ↑(me q i))).run prog w = .ok (me p i == me q i) w := by
    simp only [Op.equalIn, Sem.run_bind, run_underlying underlying3, Result.andThen_ok, if_true, Sem.run_pure]
    congr 1
    rw [Bool.eq_iff_iff, beq_iff_eq, beq_iff_eq]; omega
   have f := dG d (w := w) hp hq is (fun j k => h j (by simp [k]))
   simp only [Op.eqItems, Sem.run_bind, h3 p h1, h3 q h2, l, Result.andThen_ok, List.all_cons]
   cases o : (me p i == me q i)
   . simp
   simpa using f
theorem A9 (hp : EG p) (hq : EG q) : ((List.range 8).all fun i => me p i == me q i) = decide (p = q) := by
 rw [Bool.eq_iff_iff, List.all_eq_true, decide_eq_true_eq]
 constructor
 . intro h
   refine List.ext_getElem (by rw [hp.1, hq.1]) fun i e f => ?_
   have := h i (List.mem_range.2 (by rw [hp.1] at e; exact e))
   rw [beq_iff_eq, QV e, QV f] at this; exact this
 intro h i _
 subst h; exact beq_self_eq_true _
theorem kM {c : Bool} (ho : o.op = .binOp .eql 67 x y t') (hx : ρ x = .agg (GK p).toArray) (hy : ρ y = .agg (GK q).toArray) (hp : EG p) (hq : EG q) (hc : decide (p = q) = c) :
 (execOp ρ o).run prog w = .ok (.value (.bool c)) w := by
 subst hc
 unfold execOp; rw [ho]
 have e : ∃ i, prog.info? 3 = some i := by
  cases h : prog.info? 3 with
  | some i => exact ⟨i, rfl⟩
  | none => exact absurd h AK
 obtain ⟨i, e⟩ := e
 have f : prog.cellsOf 3 = 1 := by kernel_rfl
 have l : (Op.equalIn 10000 67 (.agg (GK p).toArray) (.agg (GK q).toArray)).run prog w = .ok (decide (p = q)) w := by
  rw [run_equalIn_array w 9999 _ _ underlying67 e, f, dG 9998 hp hq _ (fun j k => List.mem_range.1 k), A9 hp hq]
 simp [hx, hy, go_sem, l]
theorem Kb (hp : EG p) (hq : EG q) (hi : ¬ i < 8) (hJ : ¬ p.drop i = q.drop i) : False := hJ (by rw [List.drop_of_length_le (by rw [hp.1]; omega), List.drop_of_length_le (by rw [hq.1]; omega)])
theorem Jp (hp : EG p) (hq : EG q) (hi : i < 8) (hJ : ¬ p.drop i = q.drop i) (he : me p i = me q i) : ¬ p.drop (i + 1) = q.drop (i + 1) := fun e => hJ (by rw [fF hp hi, fF hq hi, he, e])
theorem Ka (h : p = q) : 0 = ES p q := by subst h; exact (Jz p).symm
theorem Dj (p q : List Nat) (w : World) (hp : EG p) (hq : EG q) :
 Calls prog 43 #[.agg (GK p).toArray, .agg (GK q).toArray] w (XR w (ES p q)) := by
 have E := Env.start w
 go_enter func43, ntmps43
 refine zG ?_
 refine EF O (CI (cs := GK p) O O ?_)
 intro l T e1 Q N F
 replace E := E.below N
 clear e1
 replace E := E.x F
 refine zG ?_
 refine EF O (CI (cs := GK q) O O ?_)
 intro k S e2 P L D
 replace E := E.below L
 clear e2
 replace E := E.x D
 by_cases f : p = q
 . refine zG ?_
   refine V O O (CY QN O O E.2.1 (DC hp)) ?_
   refine V O O (CY QN O O E.1 (DC hq)) ?_
   refine V O O (kM (c := true) O O O hp hq (decide_eq_true f)) ?_
   refine zG ?_
   exact ⟨FO (Ka f), E.2.2.1⟩
 refine zG ?_
 refine V O O (CY QN O O E.2.1 (DC hp)) ?_
 refine V O O (CY QN O O E.1 (DC hq)) ?_
 refine V O O (kM (c := false) O O O hp hq (decide_eq_false f)) ?_
 refine zG ?_
 refine wp_loop_ghost (fun H a G => ∃ (i : Nat) (h : List Value), h = a.tmps.toList /\ a = ⟨(.agg (GK p).toArray :: .agg (GK q).toArray :: .pointer (some ⟨l, 0, none⟩) :: .pointer (some ⟨k, 0, none⟩) :: .int .i64 0 :: .int .i64 ↑i :: .agg (GK p).toArray :: .agg (GK q).toArray :: .bool false :: gr h 9 16 []).toArray, []⟩ /\ Env G [fX k (67) (GK q), fX l (67) (GK p), fW w] /\ H = 8 - i /\ (i < 8 /\ ¬ p.drop i = q.drop i /\ ES p q = ES (p.drop i) (q.drop i))) (8) ⟨0, _, O, O, zE, O, ⟨by decide, f, O⟩⟩ ?_
 rintro U _ R ⟨i, h, -, rfl, E, u, z⟩
 dsimp only [gr, Nat.reduceAdd]
 obtain ⟨t, J, B⟩ := z
 by_cases C : me p i = me q i
 case pos =>
  have o := Jp hp hq t J C
  have y : i + 1 < 8 := Decidable.by_contra fun g => Kb hp hq g o
  refine zG ?_
  refine sE E [0,1,2,3,4,5,6] ?_
  replace E := E.drew
  refine zG ?_
  refine SW (v := .pointer (some ⟨l, 0 + i * 1, none⟩)) O O O O O (fun w e => EA (j := i) O underlying67 Z O O O AA) ?_
  refine SW O O O O O (fun w e => CP O CW O (e.2.1) (EJ hp AA)) ?_
  refine zG ?_
  refine SW (v := .pointer (some ⟨k, 0 + i * 1, none⟩)) O O O O O (fun w e => EA (j := i) O underlying67 Z O O O AA) ?_
  refine SW O O O O O (fun w e => CP O CW O (e.1) (EJ hq AA)) ?_
  refine SW O O O O O (fun w e => EU (c := true) O O O (by rw [beq_iff_eq, C])) ?_
  refine zG ?_
  exact ⟨_, (by rw [u]; omega), (i + 1), _, O, O, zE, O, ⟨y, o, Fv hp hq t B AA AA⟩⟩
 by_cases I : me p i < me q i
 case pos =>
  refine zG ?_
  refine sE E [0,1,2,3,4,5,6] ?_
  replace E := E.drew
  refine zG ?_
  refine SW (v := .pointer (some ⟨l, 0 + i * 1, none⟩)) O O O O O (fun w e => EA (j := i) O underlying67 Z O O O AA) ?_
  refine SW O O O O O (fun w e => CP O CW O (e.2.1) (EJ hp AA)) ?_
  refine zG ?_
  refine SW (v := .pointer (some ⟨k, 0 + i * 1, none⟩)) O O O O O (fun w e => EA (j := i) O underlying67 Z O O O AA) ?_
  refine SW O O O O O (fun w e => CP O CW O (e.1) (EJ hq AA)) ?_
  refine zG ?_
  refine sE E [0,1,2,3,4,5,6] ?_
  replace E := E.drew
  refine zG ?_
  refine SW (v := .pointer (some ⟨l, 0 + i * 1, none⟩)) O O O O O (fun w e => EA (j := i) O underlying67 Z O O O AA) ?_
  refine SW O O O O O (fun w e => CP O CW O (e.2.1) (EJ hp AA)) ?_
  refine zG ?_
  refine SW (v := .pointer (some ⟨k, 0 + i * 1, none⟩)) O O O O O (fun w e => EA (j := i) O underlying67 Z O O O AA) ?_
  refine SW O O O O O (fun w e => CP O CW O (e.1) (EJ hq AA)) ?_
  refine zG ?_
  exact ⟨FO (Ft hp hq t B I), E.2.2.1⟩
 refine zG ?_
 refine sE E [0,1,2,3,4,5,6] ?_
 replace E := E.drew
 refine zG ?_
 refine SW (v := .pointer (some ⟨l, 0 + i * 1, none⟩)) O O O O O (fun w e => EA (j := i) O underlying67 Z O O O AA) ?_
 refine SW O O O O O (fun w e => CP O CW O (e.2.1) (EJ hp AA)) ?_
 refine zG ?_
 refine SW (v := .pointer (some ⟨k, 0 + i * 1, none⟩)) O O O O O (fun w e => EA (j := i) O underlying67 Z O O O AA) ?_
 refine SW O O O O O (fun w e => CP O CW O (e.1) (EJ hq AA)) ?_
 refine zG ?_
 refine sE E [0,1,2,3,4,5,6] ?_
 replace E := E.drew
 refine zG ?_
 refine SW (v := .pointer (some ⟨l, 0 + i * 1, none⟩)) O O O O O (fun w e => EA (j := i) O underlying67 Z O O O AA) ?_
 refine SW O O O O O (fun w e => CP O CW O (e.2.1) (EJ hp AA)) ?_
 refine zG ?_
 refine SW (v := .pointer (some ⟨k, 0 + i * 1, none⟩)) O O O O O (fun w e => EA (j := i) O underlying67 Z O O O AA) ?_
 refine SW O O O O O (fun w e => CP O CW O (e.1) (EJ hq AA)) ?_
 refine zG ?_
 exact ⟨FO (Fu hp hq t B AA), E.2.2.1⟩
def FI (w0 : World) (v : Value) (e : Ending) (w' : World) : Prop := e = .returned v /\ Below w0.heap.size w0 w'
theorem BZ {a : Act} {K : Act -> World -> Prop} {Q : Exit -> Act -> World -> Prop} {f : Nat} {args : List Operand} {tys : Array TypeId} {vs : List Value} {l : List SF} {v : Value}
 (hf : Fn P f) (ho : o.op = .call { callee := .value (.func f), args := args.toArray, argTypes := tys }) (hc : Calls P f vs.toArray w (FI w v)) (hv : args.map a.eval = vs) (E : Env w l)
 (h : ∀ w', Below w.heap.size w w' -> Env w' l -> K (a.put o.dst v) w') : o.wp P a w K Q := by
 refine DG hf ho hc hv ?_
 rintro e w' ⟨rfl, k⟩
 exact ⟨_, rfl, h w' k (E.below k)⟩
theorem sN {m : Int} {c a b : Nat} (ho : o.op = .binOp .or t x y t') (hx : ρ x = .int .u8 m) (hy : ρ y = .int .u8 n) (hm : m = (a : Int)) (hn : n = (b : Int)) (ha : a < 256) (hb : b < 256) (hc : a ||| b = c) :
 (execOp ρ o).run P w = .ok (.value (.int .u8 ↑c)) w := by
 subst hm hn hc
 have f : (BitVec.ofNat 8 a ||| BitVec.ofNat 8 b).toNat = a ||| b := by
  rw [BitVec.toNat_or, BitVec.toNat_ofNat, BitVec.toNat_ofNat, Nat.mod_eq_of_lt ha, Nat.mod_eq_of_lt hb]
 have e : IntKind.u8.wrap (((a ||| b : Nat)) : Int) = ((a ||| b : Nat) : Int) := by simp [IntKind.wrap, IntKind.bits, IntKind.signed]; omega
 unfold execOp; rw [ho]
 simp only [hx, hy, eqGuard_at_int, binOp_or, Op.intBits, IntKind.bits, BitVec.ofInt_natCast]
 refine Eq.trans (b := Result.ok (Next.value (.int .u8 (IntKind.u8.wrap (((BitVec.ofNat 8 a ||| BitVec.ofNat 8 b).toNat : Nat) : Int)))) w) O ?_
 rw [f, e]
theorem Mg (ho : o.op = .binOp .shl t x y t') (hx : ρ x = .int .u8 1) (hy : ρ y = .int .i64 n) (hn : n = (i : Int)) (hi : i < 8) :
 (execOp ρ o).run P w = .ok (.value (.int .u8 ((2 ^ i : Nat) : Int))) w := by
 subst hn
 unfold execOp; rw [ho]
 simp only [hx, hy, eqGuard_at_int, binOp_shl, Op.shift]
 have : i = 0 ∨ i = 1 ∨ i = 2 ∨ i = 3 ∨ i = 4 ∨ i = 5 ∨ i = 6 ∨ i = 7 := by omega
 rcases this with rfl | rfl | rfl | rfl | rfl | rfl | rfl | rfl <;> rfl
def ME (m : List Nat) : Nat -> Nat
 | 0 => 0
 | i + 1 => if 0 < me m i then ME m i ||| 2 ^ i else ME m i
theorem cW (m : List Nat) : ∀ i, ME m i < 2 ^ i
 | 0 => by simp [ME]
 | i + 1 => by
   have := cW m i
   unfold ME
   split
   . exact Nat.or_lt_two_pow (by rw [Nat.pow_succ]; omega) (by rw [Nat.pow_succ]; have := Nat.two_pow_pos i; omega)
   rw [Nat.pow_succ]; omega
theorem Al (hi : i <= 8) : ME m i < 256 := Nat.lt_of_lt_of_le (cW m i) (Nat.pow_le_pow_right AA hi)
theorem Lm (h : 0 < me m i) : ME m i ||| 2 ^ i = ME m (i + 1) := by simp [ME, h]
theorem Ak (h : ¬ 0 < me m i) : ME m i = ME m (i + 1) := by simp [ME, h]
theorem Ln (hi : i < 8) (h : 0 < me m i) : IntKind.u8.wrap (((ME m i : Nat) : Int) + ((2 ^ i : Nat) : Int)) = ((ME m (i + 1) : Nat) : Int) := by
 have e := Al (m := m) (i := i + 1) AA
 have k : ME m i + 2 ^ i = ME m (i + 1) := by
  rw [<- Lm h, Nat.add_comm, Nat.or_comm]
  have := Nat.two_pow_add_eq_or_of_lt (cW m i) 1
  simpa using this
 rw [<- k] at e ⊢
 have f : ((ME m i : Nat) : Int) + ((2 ^ i : Nat) : Int) = ((ME m i + 2 ^ i : Nat) : Int) := by rw [Int.natCast_add]
 rw [f]
 generalize ME m i + 2 ^ i = z at e
 simp [IntKind.wrap, IntKind.bits, IntKind.signed]; omega
theorem sY (hi : i < 8) : 2 ^ i < 256 := Nat.pow_lt_pow_right AE hi
theorem Nl (hi : i < 8) : IntKind.i64.wrap (2 * ((2 ^ i : Nat) : Int)) = ((2 ^ (i + 1) : Nat) : Int) := by
 have := sY hi
 rw [Nat.pow_succ]
 generalize 2 ^ i = z at this
 rw [HI AA]; omega
theorem Za (hi : i < 8) : IntKind.u8.wrap ((2 ^ i : Nat) : Int) = ((2 ^ i : Nat) : Int) := by
 have := sY hi
 generalize 2 ^ i = z at this
 simp [IntKind.wrap, IntKind.bits, IntKind.signed]; omega
theorem C8 (j : Nat) (w : World) (hj : j < 8) :
 Calls prog 93 #[.int .i64 ↑j] w (FI w (.int .u8 ((2 ^ j : Nat) : Int))) := by
 have E := Env.start w
 go_enter func93, ntmps93
 refine zG ?_
 refine wp_loop_ghost (fun k a h => ∃ (i : Nat) (e : List Value), e = a.tmps.toList /\ a = ⟨(.int .i64 ↑j :: undef :: .int .u8 0 :: .int .i64 ((2 ^ i : Nat) : Int) :: .int .i64 ↑i :: gr e 5 9 []).toArray, []⟩ /\ Env h [fW w] /\ k = j - i /\ i <= j) (j) ⟨0, _, O, O, zE, O, AA⟩ ?_
 rintro p _ o ⟨i, e, -, rfl, E, f, l⟩
 dsimp only [gr, Nat.reduceAdd]
 by_cases q : i < j
 . refine zG ?_
   refine V (v := .int .i64 ((2 ^ (i + 1) : Nat) : Int)) O O (YF O O O (Nl AA)) ?_
   exact ZCd
 obtain rfl : i = j := by omega
 refine zG ?_
 refine V (v := .int .u8 ((2 ^ i : Nat) : Int)) O O (DR O O (by rw [underlying3]; rfl) underlying5 (Za hj)) ?_
 refine zG ?_
 exact ⟨rfl, E.1⟩
theorem D0 (m : List Nat) (w : World) (hm : EG m) :
 Calls prog 83 #[.agg (GK m).toArray] w (FI w (.int .u8 ↑(ME m 8))) := by
 have E := Env.start w
 go_enter func83, ntmps83
 refine zG ?_
 refine EF O (CI (cs := GK m) O O ?_)
 intro p C e1 z y q
 replace E := E.below y
 clear e1
 replace E := E.x q
 refine zG ?_
 refine V O O (CY QN O O E.1 (DC hm)) ?_
 refine zG ?_
 refine wp_loop_ghost (fun u a t => ∃ (i : Nat) (x : Nat) (e : List Value), e = a.tmps.toList /\ a = ⟨(.agg (GK m).toArray :: .pointer (some ⟨p, 0, none⟩) :: .int .u8 0 :: .int .u8 ↑x :: CF e 4 :: CF e 5 :: .agg (GK m).toArray :: .int .i64 ↑i :: gr e 8 11 []).toArray, []⟩ /\ Env t [fX p (67) (GK m), fW w] /\ u = 8 - i /\ (i <= 8 /\ x = ME m i)) (8) ⟨0, 0, _, O, O, zE, O, ⟨by omega, O⟩⟩ ?_
 rintro D _ B ⟨i, x, e, -, rfl, E, f, h⟩
 dsimp only [gr, Nat.reduceAdd]
 obtain ⟨h, k⟩ := h
 by_cases o : i < 8
 case neg =>
  refine zG ?_
  exact ⟨(by rw [k, show i = 8 by omega]), E.2.1⟩
 by_cases l : 0 < me m i
 case neg =>
  refine zG ?_
  refine V (v := .int .i64 ↑(me m i)) O O (VX O O O O hm AA) ?_
  refine zG ?_
  exact ⟨_, Ywt, (i + 1), x, _, O, O, zE, O, ⟨by omega, (k.trans (Ak l))⟩⟩
 refine zG ?_
 refine V (v := .int .i64 ↑(me m i)) O O (VX O O O O hm AA) ?_
 refine zG ?_
 refine V (v := .int .u8 ((2 ^ i : Nat) : Int)) O O (Mg O O O O o) ?_
 refine V (v := .int .u8 ((x ||| 2 ^ i : Nat) : Int)) O O (sN O O O O O (by rw [k]; exact Al AA) (sY o) O) ?_
 refine zG ?_
 exact ⟨_, Ywt, (i + 1), (x ||| 2 ^ i), _, O, O, zE, O, ⟨by omega, (by rw [k]; exact Lm l)⟩⟩
theorem Wt (m : List Nat) (w : World) (hm : EG m) :
 Calls prog 46 #[.agg (GK m).toArray] w (FI w (.int .u8 ↑(ME m 8))) := by
 have E := Env.start w
 go_enter func46, ntmps46
 refine zG ?_
 refine EF O (CI (cs := GK m) O O ?_)
 intro k D e1 z y p
 have G : w.heap.size <= k := by rw [e1]; exact E.1.size
 replace E := E.below y
 clear e1
 replace E := E.x p
 refine zG ?_
 refine wp_loop_ghost (fun t a q => ∃ (i : Nat) (x : Nat) (e : List Value), e = a.tmps.toList /\ a = ⟨(.agg (GK m).toArray :: .pointer (some ⟨k, 0, none⟩) :: .int .u8 0 :: .int .u8 ↑x :: .int .i64 ↑i :: gr e 5 13 []).toArray, []⟩ /\ Env q [fX k (67) (GK m), fW w] /\ t = 8 - i /\ (i <= 8 /\ x = ME m i)) (8) ⟨0, 0, _, O, O, zE, O, ⟨by omega, O⟩⟩ ?_
 rintro F _ C ⟨i, x, e, -, rfl, E, f, h⟩
 dsimp only [gr, Nat.reduceAdd]
 obtain ⟨h, l⟩ := h
 by_cases u : i < 8
 case neg =>
  refine zG ?_
  exact ⟨(by rw [l, show i = 8 by omega]), E.2.1⟩
 by_cases o : 0 < me m i
 case neg =>
  refine zG ?_
  refine V (v := .pointer (some ⟨k, 0 + i * 1, none⟩)) O O (EA (j := i) O underlying67 Z O O O AA) ?_
  refine V O O (CP O CW O E.1 (EJ hm AA)) ?_
  refine zG ?_
  exact ⟨_, Ywt, (i + 1), x, _, O, O, zE, O, ⟨by omega, (l.trans (Ak o))⟩⟩
 refine zG ?_
 refine V (v := .pointer (some ⟨k, 0 + i * 1, none⟩)) O O (EA (j := i) O underlying67 Z O O O AA) ?_
 refine V O O (CP O CW O E.1 (EJ hm AA)) ?_
 refine zG ?_
 refine EF O (BZ pJ O (C8 i _ AA) O E ?_)
 intro B H E
 refine zG ?_
 refine V (v := .int .u8 ↑(ME m (i + 1))) O O (IY O O O (by rw [l]; exact Ln u o)) ?_
 refine zG ?_
 exact ⟨_, Ywt, (i + 1), (ME m (i + 1)), _, O, O, zE, O, ⟨by omega, O⟩⟩
end Go.Proofs.YtmppigbbkjepiaaGreatDoor
