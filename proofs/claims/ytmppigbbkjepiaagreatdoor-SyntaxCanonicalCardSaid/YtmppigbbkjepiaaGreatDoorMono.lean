/- Monomials: package monomial and its reference. (Printed by g_mono.py.) -/
import Derived.Test.YtmppigbbkjepiaaGreatDoorRat1
import Derived.ChangeKeysEq
set_option maxHeartbeats 4000000
set_option maxRecDepth 100000
namespace Go.Proofs.YtmppigbbkjepiaaGreatDoor
open Go.Proofs.Tryz
open Go.RowKit W
def GN (m : List Nat) : List Value := m.map fun (e : Nat) => .int .i64 ↑e
def ER (m : List Nat) : Prop := m.length = 8 ∧ ∀ e ∈ m, e ≤ 65535
def me (m : List Nat) (i : Nat) : Nat := m.getD i 0
theorem UP {m : List Nat} {i : Nat} (h : i < m.length) : me m i = m[i] := by unfold me; simp [List.getD_eq_getElem?_getD, h]
theorem yP {m : List Nat} (h : ER m) (i : Nat) : me m i ≤ 65535 := by
  by_cases e : i < m.length
  · rw [UP e]; exact h.2 _ (List.getElem_mem e)
  · unfold me; simp [List.getD_eq_getElem?_getD, List.getElem?_eq_none (by omega : m.length ≤ i)]
theorem DA {m : List Nat} (h : ER m) : (GN m).length = 8 := by unfold GN; rw [List.length_map]; exact h.1
theorem FL {m : List Nat} (h : ER m) {i : Nat} (hi : i < 8) : (GN m)[0 + i * 1]? = some (.int .i64 ↑(me m i)) := by
  have e : i < m.length := by rw [h.1]; exact hi
  rw [UP e]; unfold GN
  rw [Nat.zero_add, Nat.mul_one, List.getElem?_map, List.getElem?_eq_getElem e]; rfl
theorem PR : Ag prog 67 8 [.int .i64 0, .int .i64 0, .int .i64 0, .int .i64 0, .int .i64 0, .int .i64 0, .int .i64 0, .int .i64 0] := ⟨⟨_, underlying67, rfl⟩, by kernel_rfl, rfl⟩
theorem DD (w : World) : (isAgg 3).run prog w = .ok false w := by simp [go_sem]
theorem TT {ρ : Operand → Value} {o : Oper} {w : World} {x y : Operand} {m : List Nat} {i : Nat} {J : Int} (ho : o.op = .index 67 x y) (hx : ρ x = .agg (GN m).toArray) (hy : ρ y = .int .i64 J) (hJ : J = (i : Int)) (h : ER m) (hi : i < 8) :
    (execOp ρ o).run prog w = .ok (.value (.int .i64 ↑(me m i))) w := by
  subst hJ
  unfold execOp; rw [ho]
  have e := FL h hi
  rw [Nat.zero_add, Nat.mul_one] at e
  have f : (sizeOf 3).run prog w = .ok 1 w := by kernel_rfl
  simp [hx, hy, Instr.index, asIntOf, run_underlying underlying67, hi, f, part, e, go_sem]
def VZ (m : List Nat) (i : Nat) : Nat := (m.take i).sum
theorem mE {m : List Nat} (h : ER m) {i : Nat} (hi : i < 8) : VZ m (i + 1) = VZ m i + me m i := by
  have e : i < m.length := by rw [h.1]; exact hi
  rw [UP e]; unfold VZ
  rw [List.take_succ_eq_append_getElem e, List.sum_append]; simp
theorem yQ {m : List Nat} (h : ER m) : ∀ i, i ≤ 8 → VZ m i ≤ 65535 * i
  | 0, _ => by simp [VZ]
  | i + 1, hi => by have := yQ h i Z; have := yP h i; rw [mE h Z]; omega
theorem madd {m : List Nat} (h : ER m) {i : Nat} (hi : i < 8) : IntKind.i64.wrap (((VZ m i : Nat) : Int) + ((me m i : Nat) : Int)) = ((VZ m (i + 1) : Nat) : Int) := by
  have := yQ h i Z; have := yP h i
  rw [mE h hi, JC Z]; omega
theorem wW (m : List Nat) (w : World) (hm : ER m) :
    Calls prog 157 #[.agg (GN m).toArray] w (XY w ((VZ m 8 : Nat) : Int)) := by
 have E := Env.start w
 go_enter func157, ntmps157
 refine zG ?_
 refine EF O (CI (cs := GN m) O O ?_)
 intro o N J C B p
 replace E := (E.below B).x p
 clear J C B p
 refine zG ?_
 refine wp_loop_ghost (fun F a D => ∃ (i : Nat) (z y u t q k h f e : Value), a = ⟨#[.agg (GN m).toArray, .pointer (some ⟨o, 0, none⟩), .int .i64 0, .int .i64 ↑(VZ m i), .int .i64 ↑i, z, y, u, t, q, k, h, f, e, undef], []⟩ ∧ Env D [fX o (67) (GN m), fW w] ∧ F = 8 - i ∧ i ≤ 8) (8) ⟨0, _, _, _, _, _, _, _, _, _, O, zE, O, Z⟩ ?_
 rintro P _ L ⟨i, z, y, u, t, q, k, h, f, e, rfl, E, l, H⟩
 by_cases G : i < 8
 case neg =>
  refine zG ?_
  exact ⟨FD (by rw [show i = 8 by omega]), E.2.1⟩
 refine zG ?_
 refine V (v := .pointer (some ⟨o, 0 + i * 1, none⟩)) O O (DX (j := i) O underlying67 I O O O Z) ?_
 refine V O O (CR O DD O E.1 (FL hm Z)) ?_
 refine zG ?_
 refine V (v := .int .i64 ↑(VZ m (i + 1))) O O (JJ O O O (madd hm G)) ?_
 refine zG ?_
 exact ⟨_, (by rw [l]; omega), (i + 1), _, _, _, _, _, _, _, _, _, O, zE, O, Z⟩
theorem Eb (m : List Nat) (w : World) (hm : ER m) :
    Calls prog 175 #[.agg (GN m).toArray] w (XY w ((VZ m 8 : Nat) : Int)) := by
 have E := Env.start w
 go_enter func175, ntmps175
 refine zG ?_
 refine EF O (CI (cs := GN m) O O ?_)
 intro y J G z u o
 replace E := (E.below u).x o
 clear G z u o
 refine zG ?_
 refine V O O (CT PR O O E.1 (DA hm)) ?_
 refine zG ?_
 refine wp_loop_ghost (fun C a B => ∃ (i : Nat) (t q p k h f e : Value), a = ⟨#[.agg (GN m).toArray, .pointer (some ⟨y, 0, none⟩), .int .i64 0, .int .i64 ↑(VZ m i), undef, t, .agg (GN m).toArray, .int .i64 ↑i, q, p, k, h, f, e, undef], []⟩ ∧ Env B [fX y (67) (GN m), fW w] ∧ C = 8 - i ∧ i ≤ 8) (8) ⟨0, _, _, _, _, _, _, _, O, zE, O, Z⟩ ?_
 rintro L _ H ⟨i, t, q, p, k, h, f, e, rfl, E, l, F⟩
 by_cases D : i < 8
 case neg =>
  refine zG ?_
  exact ⟨FD (by rw [show i = 8 by omega]), E.2.1⟩
 refine zG ?_
 refine V (v := .int .i64 ↑(me m i)) O O (TT O O O O hm Z) ?_
 refine zG ?_
 refine V (v := .int .i64 ↑(VZ m (i + 1))) O O (JJ O O O (madd hm D)) ?_
 refine zG ?_
 exact ⟨_, (by rw [l]; omega), (i + 1), _, _, _, _, _, _, _, O, zE, O, Z⟩
theorem Lw {m : List Nat} (i : Nat) : decide (((me m i : Nat) : Int) < 0) = false := by rw [decide_eq_false_iff_not]; omega
theorem Hi {m : List Nat} (h : ER m) (i : Nat) : decide (((me m i : Nat) : Int) > 65535) = false := by have := yP h i; rw [decide_eq_false_iff_not]; omega
def EU : List Nat → List Nat → Int
  | x :: xs, y :: ys => if x < y then -1 else if y < x then 1 else EU xs ys
  | _, _ => 0
theorem gJ {m : List Nat} (h : ER m) {i : Nat} (hi : i < 8) : m.drop i = me m i :: m.drop (i + 1) := by
  have e : i < m.length := by rw [h.1]; exact hi
  rw [List.drop_eq_getElem_cons e, UP e]
theorem cU {a b : List Nat} (ha : ER a) (hb : ER b) {i : Nat} (hi : i < 8) : EU (a.drop i) (b.drop i) = if me a i < me b i then -1 else if me b i < me a i then 1 else EU (a.drop (i + 1)) (b.drop (i + 1)) := by
  rw [gJ ha hi, gJ hb hi]; rfl
theorem zW {a b : List Nat} (ha : ER a) (hb : ER b) {i : Nat} (hi : i < 8) (hJ : EU a b = EU (a.drop i) (b.drop i)) (h : me a i < me b i) : -1 = EU a b := by rw [hJ, cU ha hb hi, if_pos h]
theorem zX {a b : List Nat} (ha : ER a) (hb : ER b) {i : Nat} (hi : i < 8) (hJ : EU a b = EU (a.drop i) (b.drop i)) (h : me b i < me a i) : 1 = EU a b := by rw [hJ, cU ha hb hi, if_neg Z, if_pos h]
theorem zY {a b : List Nat} (ha : ER a) (hb : ER b) {i : Nat} (hi : i < 8) (hJ : EU a b = EU (a.drop i) (b.drop i)) (h1 : ¬ me a i < me b i) (h2 : ¬ me b i < me a i) : EU a b = EU (a.drop (i + 1)) (b.drop (i + 1)) := by rw [hJ, cU ha hb hi, if_neg h1, if_neg h2]
theorem Ix {a b : List Nat} (ha : ER a) {i : Nat} (hi : ¬ i < 8) (hJ : EU a b = EU (a.drop i) (b.drop i)) : 0 = EU a b := by
  rw [hJ, List.drop_of_length_le (by rw [ha.1]; omega)]; cases b.drop i <;> rfl
theorem Dl (a : List Nat) : EU a a = 0 := by
  induction a with
  | nil => rfl
  | cons x xs ih => simp [EU, ih]
theorem nB (m : List Nat) (w : World) (hm : ER m) :
    Calls prog 104 #[.agg (GN m).toArray] w (JO w true) := by
 have E := Env.start w
 go_enter func104, ntmps104
 refine zG ?_
 refine EF O (CI (cs := GN m) O O ?_)
 intro t T R L J y
 replace E := (E.below J).x y
 clear R L J y
 refine zG ?_
 refine wp_loop_ghost (fun P a N => ∃ (i : Nat) (H G F D C B z q p o l k h f e : Value), a = ⟨#[.agg (GN m).toArray, .pointer (some ⟨t, 0, none⟩), H, .int .i64 ↑i, G, F, D, C, B, z, q, p, o, l, k, h, f, e], []⟩ ∧ Env N [fX t (67) (GN m), fW w] ∧ P = 8 - i ∧ i ≤ 8) (8) ⟨0, _, _, _, _, _, _, _, _, _, _, _, _, _, _, _, O, zE, O, Z⟩ ?_
 rintro U _ S ⟨i, H, G, F, D, C, B, z, q, p, o, l, k, h, f, e, rfl, E, u, Q⟩
 by_cases X : i < 8
 case neg =>
  refine zG ?_
  exact ⟨rfl, E.2.1⟩
 refine zG ?_
 refine V (v := .pointer (some ⟨t, 0 + i * 1, none⟩)) O O (DX (j := i) O underlying67 I O O O Z) ?_
 refine V O O (CR O DD O E.1 (FL hm Z)) ?_
 refine V O O (MD (c := false) O O O (Lw i)) ?_
 refine zG ?_
 refine V (v := .pointer (some ⟨t, 0 + i * 1, none⟩)) I O (DX (j := i) O underlying67 I O O O Z) ?_
 refine V I O (CR O DD O E.1 (FL hm Z)) ?_
 refine zG ?_
 refine V I O (TV (c := false) O O O (Hi hm i)) ?_
 refine zG ?_
 exact ⟨_, (by rw [u]; omega), (i + 1), _, _, _, _, _, _, _, _, _, _, _, _, _, _, _, O, zE, O, Z⟩
theorem Jq (m : List Nat) (w : World) (hm : ER m) :
    Calls prog 82 #[.agg (GN m).toArray] w (JO w true) := by
 have E := Env.start w
 go_enter func82, ntmps82
 refine zG ?_
 refine EF O (CI (cs := GN m) O O ?_)
 intro D P L F C q
 replace E := (E.below C).x q
 clear L F C q
 refine zG ?_
 refine V O O (CT PR O O E.1 (DA hm)) ?_
 refine zG ?_
 refine wp_loop_ghost (fun H a G => ∃ (i : Nat) (B z y u t o l k h f e : Value), a = ⟨#[.agg (GN m).toArray, .pointer (some ⟨D, 0, none⟩), B, undef, z, .agg (GN m).toArray, .int .i64 ↑i, y, u, t, o, l, k, h, f, e], []⟩ ∧ Env G [fX D (67) (GN m), fW w] ∧ H = 8 - i ∧ i ≤ 8) (8) ⟨0, _, _, _, _, _, _, _, _, _, _, _, O, zE, O, Z⟩ ?_
 rintro Q _ N ⟨i, B, z, y, u, t, o, l, k, h, f, e, rfl, E, p, J⟩
 by_cases R : i < 8
 case neg =>
  refine zG ?_
  exact ⟨rfl, E.2.1⟩
 refine zG ?_
 refine V (v := .int .i64 ↑(me m i)) O O (TT O O O O hm Z) ?_
 refine zG ?_
 refine V I O (TV (c := false) O O O (Hi hm i)) ?_
 refine zG ?_
 exact ⟨_, (by rw [p]; omega), (i + 1), _, _, _, _, _, _, _, _, _, _, _, O, zE, O, Z⟩
theorem RZ (p q : List Nat) (w : World) (hp : ER p) (hq : ER q) :
    Calls prog 59 #[.agg (GN p).toArray, .agg (GN q).toArray] w (XY w (EU p q)) := by
 have E := Env.start w
 go_enter func59, ntmps59
 refine zG ?_
 refine EF O (CI (cs := GN p) O O ?_)
 intro h w1 e1 z1 d1 S
 replace E := (E.below d1).x S
 clear e1 z1 d1 S
 refine zG ?_
 refine EF O (CI (cs := GN q) O O ?_)
 intro f w2 e2 z2 d2 R
 replace E := (E.below d2).x R
 clear e2 z2 d2 R
 refine zG ?_
 refine wp_loop_ghost (fun mz a w' => ∃ (i : Nat) (g4 g6 g7 Y X L J H G F D C B z y u t o l : Value), a = ⟨#[.agg (GN p).toArray, .agg (GN q).toArray, .pointer (some ⟨h, 0, none⟩), .pointer (some ⟨f, 0, none⟩), g4, .int .i64 ↑i, g6, g7, Y, X, L, J, H, G, F, D, C, B, z, y, u, t, o, l], []⟩ ∧ Env w' [fX f (67) (GN q), fX h (67) (GN p), fW w] ∧ mz = 8 - i ∧ (i ≤ 8 ∧ EU p q = EU (p.drop i) (q.drop i))) (8) ⟨0, _, _, _, _, _, _, _, _, _, _, _, _, _, _, _, _, _, _, _, O, zE, O, ⟨by omega, O⟩⟩ ?_
 rintro m3 _ w3 ⟨i, g4, g6, g7, Y, X, L, J, H, G, F, D, C, B, z, y, u, t, o, l, rfl, E, Q, k⟩
 obtain ⟨k, P⟩ := k
 by_cases N : i < 8
 case neg =>
  refine zG ?_
  exact ⟨FD (Ix hp N P), E.2.2.1⟩
 by_cases U : me p i < me q i
 case pos =>
  refine zG ?_
  refine sE E [0,1,2,3,4,5,6] ?_
  replace E := E.drew
  refine zG ?_
  refine SW (v := .pointer (some ⟨h, 0 + i * 1, none⟩)) O O O O O (fun w e => DX (j := i) O underlying67 I O O O Z) ?_
  refine SW O O O O O (fun w e => CR O DD O (e.2.1) (FL hp Z)) ?_
  refine zG ?_
  refine SW (v := .pointer (some ⟨f, 0 + i * 1, none⟩)) O O O O O (fun w e => DX (j := i) O underlying67 I O O O Z) ?_
  refine SW O O O O O (fun w e => CR O DD O (e.1) (FL hq Z)) ?_
  refine zG ?_
  exact ⟨FD (zW hp hq N P U), E.2.2.1⟩
 by_cases T : me q i < me p i
 case pos =>
  refine zG ?_
  refine sE E [0,1,2,3,4,5,6] ?_
  replace E := E.drew
  refine zG ?_
  refine SW (v := .pointer (some ⟨h, 0 + i * 1, none⟩)) O O O O O (fun w e => DX (j := i) O underlying67 I O O O Z) ?_
  refine SW O O O O O (fun w e => CR O DD O (e.2.1) (FL hp Z)) ?_
  refine zG ?_
  refine SW (v := .pointer (some ⟨f, 0 + i * 1, none⟩)) O O O O O (fun w e => DX (j := i) O underlying67 I O O O Z) ?_
  refine SW O O O O O (fun w e => CR O DD O (e.1) (FL hq Z)) ?_
  refine zG ?_
  refine sE E [0,1,2,3,4,5,6] ?_
  replace E := E.drew
  refine zG ?_
  refine SW (v := .pointer (some ⟨h, 0 + i * 1, none⟩)) O O O O O (fun w e => DX (j := i) O underlying67 I O O O Z) ?_
  refine SW O O O O O (fun w e => CR O DD O (e.2.1) (FL hp Z)) ?_
  refine zG ?_
  refine SW (v := .pointer (some ⟨f, 0 + i * 1, none⟩)) O O O O O (fun w e => DX (j := i) O underlying67 I O O O Z) ?_
  refine SW O O O O O (fun w e => CR O DD O (e.1) (FL hq Z)) ?_
  refine zG ?_
  exact ⟨FD (zX hp hq N P T), E.2.2.1⟩
 refine zG ?_
 refine sE E [0,1,2,3,4,5,6] ?_
 replace E := E.drew
 refine zG ?_
 refine SW (v := .pointer (some ⟨h, 0 + i * 1, none⟩)) O O O O O (fun w e => DX (j := i) O underlying67 I O O O Z) ?_
 refine SW O O O O O (fun w e => CR O DD O (e.2.1) (FL hp Z)) ?_
 refine zG ?_
 refine SW (v := .pointer (some ⟨f, 0 + i * 1, none⟩)) O O O O O (fun w e => DX (j := i) O underlying67 I O O O Z) ?_
 refine SW O O O O O (fun w e => CR O DD O (e.1) (FL hq Z)) ?_
 refine zG ?_
 refine sE E [0,1,2,3,4,5,6] ?_
 replace E := E.drew
 refine zG ?_
 refine SW (v := .pointer (some ⟨h, 0 + i * 1, none⟩)) O O O O O (fun w e => DX (j := i) O underlying67 I O O O Z) ?_
 refine SW O O O O O (fun w e => CR O DD O (e.2.1) (FL hp Z)) ?_
 refine zG ?_
 refine SW (v := .pointer (some ⟨f, 0 + i * 1, none⟩)) O O O O O (fun w e => DX (j := i) O underlying67 I O O O Z) ?_
 refine SW O O O O O (fun w e => CR O DD O (e.1) (FL hq Z)) ?_
 refine zG ?_
 exact ⟨_, (by rw [Q]; omega), (i + 1), _, _, _, _, _, _, _, _, _, _, _, _, _, _, _, _, _, _, _, O, zE, O, ⟨by omega, zY hp hq N P U T⟩⟩
theorem aE (d : Nat) {w : World} {p q : List Nat} (hp : ER p) (hq : ER q) : ∀ is : List Nat, (∀ i ∈ is, i < 8) →
    (Op.eqItems (d + 1) 3 1 (GN p).toArray (GN q).toArray is).run prog w = .ok (is.all fun i => me p i == me q i) w
  | [], _ => by simp [Op.eqItems]
  | i :: is, h => by
    have hi : i < 8 := h i AG
    have h1 := FL hp hi
    have h2 := FL hq hi
    rw [Nat.zero_add] at h1 h2
    have h3 : ∀ (m : List Nat), (GN m)[i * 1]? = some (.int .i64 ↑(me m i)) → (part 3 (GN m).toArray (i * 1)).run prog w = .ok (.int .i64 ↑(me m i)) w := by
      intro m e
      rw [Nat.mul_one] at e ⊢
      simp [part, e, go_sem]
    have l : (Op.equalIn (d + 1) 3 (.int .i64 ↑(me p i)) (.int .i64 ↑(me q i))).run prog w = .ok (me p i == me q i) w := by
      simp only [Op.equalIn, Sem.run_bind, run_underlying underlying3, Result.andThen_ok, if_true, Sem.run_pure]
      congr 1
      rw [Bool.eq_iff_iff, beq_iff_eq, beq_iff_eq]; omega
    have f := aE d (w := w) hp hq is (fun j k => h j (by simp [k]))
    simp only [Op.eqItems, Sem.run_bind, h3 p h1, h3 q h2, l, Result.andThen_ok, List.all_cons]
    cases o : (me p i == me q i)
    · simp
    · simpa using f
theorem Rt {p q : List Nat} (hp : ER p) (hq : ER q) : ((List.range 8).all fun i => me p i == me q i) = decide (p = q) := by
  rw [Bool.eq_iff_iff, List.all_eq_true, decide_eq_true_eq]
  constructor
  · intro h
    refine List.ext_getElem (by rw [hp.1, hq.1]) fun i e f => ?_
    have := h i (List.mem_range.2 (by rw [hp.1] at e; exact e))
    rw [beq_iff_eq, UP e, UP f] at this; exact this
  · intro h i _
    subst h; exact beq_self_eq_true _
theorem fP {ρ : Operand → Value} {o : Oper} {w : World} {t' : TypeId} {x y : Operand} {p q : List Nat} {c : Bool} (ho : o.op = .binOp .eql 67 x y t') (hx : ρ x = .agg (GN p).toArray) (hy : ρ y = .agg (GN q).toArray) (hp : ER p) (hq : ER q) (hc : decide (p = q) = c) :
    (execOp ρ o).run prog w = .ok (.value (.bool c)) w := by
  subst hc
  unfold execOp; rw [ho]
  have e : ∃ i, prog.info? 3 = some i := by
    cases h : prog.info? 3 with
    | some i => exact ⟨i, rfl⟩
    | none => exact absurd h AJ
  obtain ⟨i, e⟩ := e
  have f : prog.cellsOf 3 = 1 := by kernel_rfl
  have l : (Op.equalIn 10000 67 (.agg (GN p).toArray) (.agg (GN q).toArray)).run prog w = .ok (decide (p = q)) w := by
    rw [run_equalIn_array w 9999 _ _ underlying67 e, f, aE 9998 hp hq _ (fun j k => List.mem_range.1 k), Rt hp hq]
  simp [hx, hy, go_sem, l]
theorem Dn {p q : List Nat} (hp : ER p) (hq : ER q) {i : Nat} (hi : ¬ i < 8) (hJ : ¬ p.drop i = q.drop i) : False := hJ (by rw [List.drop_of_length_le (by rw [hp.1]; omega), List.drop_of_length_le (by rw [hq.1]; omega)])
theorem Cy {p q : List Nat} (hp : ER p) (hq : ER q) {i : Nat} (hi : i < 8) (hJ : ¬ p.drop i = q.drop i) (he : me p i = me q i) : ¬ p.drop (i + 1) = q.drop (i + 1) := fun e => hJ (by rw [gJ hp hi, gJ hq hi, he, e])
theorem Dm {p q : List Nat} (h : p = q) : 0 = EU p q := by subst h; exact (Dl p).symm
theorem xE (p q : List Nat) (w : World) (hp : ER p) (hq : ER q) :
    Calls prog 43 #[.agg (GN p).toArray, .agg (GN q).toArray] w (XY w (EU p q)) := by
 have E := Env.start w
 go_enter func43, ntmps43
 refine zG ?_
 refine EF O (CI (cs := GN p) O O ?_)
 intro k w1 e1 X T P
 replace E := (E.below T).x P
 clear e1 X T P
 refine zG ?_
 refine EF O (CI (cs := GN q) O O ?_)
 intro h w2 e2 U S N
 replace E := (E.below S).x N
 clear e2 U S N
 by_cases f : p = q
 case pos =>
  refine zG ?_
  refine V O O (CT PR O O E.2.1 (DA hp)) ?_
  refine V O O (CT PR O O E.1 (DA hq)) ?_
  refine V O O (fP (c := true) O O O hp hq (decide_eq_true f)) ?_
  refine zG ?_
  exact ⟨FD (Dm f), E.2.2.1⟩
 refine zG ?_
 refine V O O (CT PR O O E.2.1 (DA hp)) ?_
 refine V O O (CT PR O O E.1 (DA hq)) ?_
 refine V O O (fP (c := false) O O O hp hq (decide_eq_false f)) ?_
 refine zG ?_
 refine wp_loop_ghost (fun mz a Y => ∃ (i : Nat) (R D C B z y u t o : Value), a = ⟨#[.agg (GN p).toArray, .agg (GN q).toArray, .pointer (some ⟨k, 0, none⟩), .pointer (some ⟨h, 0, none⟩), .int .i64 0, .int .i64 ↑i, .agg (GN p).toArray, .agg (GN q).toArray, .bool false, R, D, C, B, z, y, u, t, o, undef, undef, undef, undef, undef, undef, undef], []⟩ ∧ Env Y [fX h (67) (GN q), fX k (67) (GN p), fW w] ∧ mz = 8 - i ∧ (i < 8 ∧ ¬ p.drop i = q.drop i ∧ EU p q = EU (p.drop i) (q.drop i))) (8) ⟨0, _, _, _, _, _, _, _, _, _, O, zE, O, ⟨by decide, f, O⟩⟩ ?_
 rintro m3 _ w3 ⟨i, R, D, C, B, z, y, u, t, o, rfl, E, G, J⟩
 obtain ⟨F, hJ, L⟩ := J
 by_cases Q : me p i = me q i
 case pos =>
  have l := Cy hp hq F hJ Q
  have H : i + 1 < 8 := Decidable.by_contra fun g => Dn hp hq g l
  refine zG ?_
  refine sE E [0,1,2,3,4,5,6] ?_
  replace E := E.drew
  refine zG ?_
  refine SW (v := .pointer (some ⟨k, 0 + i * 1, none⟩)) O O O O O (fun w e => DX (j := i) O underlying67 I O O O Z) ?_
  refine SW O O O O O (fun w e => CR O DD O (e.2.1) (FL hp Z)) ?_
  refine zG ?_
  refine SW (v := .pointer (some ⟨h, 0 + i * 1, none⟩)) O O O O O (fun w e => DX (j := i) O underlying67 I O O O Z) ?_
  refine SW O O O O O (fun w e => CR O DD O (e.1) (FL hq Z)) ?_
  refine SW O O O O O (fun w e => GQ (c := true) O O O (by rw [beq_iff_eq, Q])) ?_
  refine zG ?_
  exact ⟨_, (by rw [G]; omega), (i + 1), _, _, _, _, _, _, _, _, _, O, zE, O, ⟨H, l, zY hp hq F L Z Z⟩⟩
 by_cases hl : me p i < me q i
 case pos =>
  refine zG ?_
  refine sE E [0,1,2,3,4,5,6] ?_
  replace E := E.drew
  refine zG ?_
  refine SW (v := .pointer (some ⟨k, 0 + i * 1, none⟩)) O O O O O (fun w e => DX (j := i) O underlying67 I O O O Z) ?_
  refine SW O O O O O (fun w e => CR O DD O (e.2.1) (FL hp Z)) ?_
  refine zG ?_
  refine SW (v := .pointer (some ⟨h, 0 + i * 1, none⟩)) O O O O O (fun w e => DX (j := i) O underlying67 I O O O Z) ?_
  refine SW O O O O O (fun w e => CR O DD O (e.1) (FL hq Z)) ?_
  refine zG ?_
  refine sE E [0,1,2,3,4,5,6] ?_
  replace E := E.drew
  refine zG ?_
  refine SW (v := .pointer (some ⟨k, 0 + i * 1, none⟩)) O O O O O (fun w e => DX (j := i) O underlying67 I O O O Z) ?_
  refine SW O O O O O (fun w e => CR O DD O (e.2.1) (FL hp Z)) ?_
  refine zG ?_
  refine SW (v := .pointer (some ⟨h, 0 + i * 1, none⟩)) O O O O O (fun w e => DX (j := i) O underlying67 I O O O Z) ?_
  refine SW O O O O O (fun w e => CR O DD O (e.1) (FL hq Z)) ?_
  refine zG ?_
  exact ⟨FD (zW hp hq F L hl), E.2.2.1⟩
 refine zG ?_
 refine sE E [0,1,2,3,4,5,6] ?_
 replace E := E.drew
 refine zG ?_
 refine SW (v := .pointer (some ⟨k, 0 + i * 1, none⟩)) O O O O O (fun w e => DX (j := i) O underlying67 I O O O Z) ?_
 refine SW O O O O O (fun w e => CR O DD O (e.2.1) (FL hp Z)) ?_
 refine zG ?_
 refine SW (v := .pointer (some ⟨h, 0 + i * 1, none⟩)) O O O O O (fun w e => DX (j := i) O underlying67 I O O O Z) ?_
 refine SW O O O O O (fun w e => CR O DD O (e.1) (FL hq Z)) ?_
 refine zG ?_
 refine sE E [0,1,2,3,4,5,6] ?_
 replace E := E.drew
 refine zG ?_
 refine SW (v := .pointer (some ⟨k, 0 + i * 1, none⟩)) O O O O O (fun w e => DX (j := i) O underlying67 I O O O Z) ?_
 refine SW O O O O O (fun w e => CR O DD O (e.2.1) (FL hp Z)) ?_
 refine zG ?_
 refine SW (v := .pointer (some ⟨h, 0 + i * 1, none⟩)) O O O O O (fun w e => DX (j := i) O underlying67 I O O O Z) ?_
 refine SW O O O O O (fun w e => CR O DD O (e.1) (FL hq Z)) ?_
 refine zG ?_
 exact ⟨FD (zX hp hq F L Z), E.2.2.1⟩
def FX (w0 : World) (v : Value) (e : Ending) (w' : World) : Prop := e = .returned v ∧ Below w0.heap.size w0 w'
theorem BZ {P : Program} {o : Oper} {a : Act} {w : World} {K : Act → World → Prop} {Q : Exit → Act → World → Prop} {f : Nat} {args : List Operand} {tys : Array TypeId} {vs : List Value} {l : List SF} {v : Value}
    (hf : Fn P f) (ho : o.op = .call { callee := .value (.func f), args := args.toArray, argTypes := tys }) (hc : Calls P f vs.toArray w (FX w v)) (hv : args.map a.eval = vs) (E : Env w l)
    (h : ∀ w', Below w.heap.size w w' → Env w' l → K (a.put o.dst v) w') : o.wp P a w K Q := by
  refine DB hf ho hc hv ?_
  rintro e w' ⟨rfl, k⟩
  exact ⟨_, rfl, h w' k (E.below k)⟩
theorem nR {P : Program} {ρ : Operand → Value} {o : Oper} {w : World} {t t' : TypeId} {x y : Operand} {m n : Int} {c a b : Nat} (ho : o.op = .binOp .or t x y t') (hx : ρ x = .int .u8 m) (hy : ρ y = .int .u8 n) (hm : m = (a : Int)) (hn : n = (b : Int)) (ha : a < 256) (hb : b < 256) (hc : a ||| b = c) :
    (execOp ρ o).run P w = .ok (.value (.int .u8 ↑c)) w := by
  subst hm hn hc
  have f : (BitVec.ofNat 8 a ||| BitVec.ofNat 8 b).toNat = a ||| b := by
    rw [BitVec.toNat_or, BitVec.toNat_ofNat, BitVec.toNat_ofNat, Nat.mod_eq_of_lt ha, Nat.mod_eq_of_lt hb]
  have e : IntKind.u8.wrap (((a ||| b : Nat)) : Int) = ((a ||| b : Nat) : Int) := by simp [IntKind.wrap, IntKind.bits, IntKind.signed]; omega
  unfold execOp; rw [ho]
  simp only [hx, hy, eqGuard_at_int, binOp_or, Op.intBits, IntKind.bits, BitVec.ofInt_natCast]
  refine Eq.trans (b := Result.ok (Next.value (.int .u8 (IntKind.u8.wrap (((BitVec.ofNat 8 a ||| BitVec.ofNat 8 b).toNat : Nat) : Int)))) w) O ?_
  rw [f, e]
theorem Fo {P : Program} {ρ : Operand → Value} {o : Oper} {w : World} {t t' : TypeId} {x y : Operand} {n : Int} {i : Nat} (ho : o.op = .binOp .shl t x y t') (hx : ρ x = .int .u8 1) (hy : ρ y = .int .i64 n) (hn : n = (i : Int)) (hi : i < 8) :
    (execOp ρ o).run P w = .ok (.value (.int .u8 ((2 ^ i : Nat) : Int))) w := by
  subst hn
  unfold execOp; rw [ho]
  simp only [hx, hy, eqGuard_at_int, binOp_shl, Op.shift]
  have : i = 0 ∨ i = 1 ∨ i = 2 ∨ i = 3 ∨ i = 4 ∨ i = 5 ∨ i = 6 ∨ i = 7 := by omega
  rcases this with rfl | rfl | rfl | rfl | rfl | rfl | rfl | rfl <;> rfl
def KX (m : List Nat) : Nat → Nat
  | 0 => 0
  | i + 1 => if 0 < me m i then KX m i ||| 2 ^ i else KX m i
theorem ZY (m : List Nat) : ∀ i, KX m i < 2 ^ i
  | 0 => by simp [KX]
  | i + 1 => by
    have := ZY m i
    unfold KX
    split
    · exact Nat.or_lt_two_pow (by rw [Nat.pow_succ]; omega) (by rw [Nat.pow_succ]; have := Nat.two_pow_pos i; omega)
    · rw [Nat.pow_succ]; omega
theorem uL {m : List Nat} {i : Nat} (hi : i ≤ 8) : KX m i < 256 := Nat.lt_of_lt_of_le (ZY m i) (Nat.pow_le_pow_right Z hi)
theorem Ex {m : List Nat} {i : Nat} (h : 0 < me m i) : KX m i ||| 2 ^ i = KX m (i + 1) := by simp [KX, h]
theorem uJ {m : List Nat} {i : Nat} (h : ¬ 0 < me m i) : KX m i = KX m (i + 1) := by simp [KX, h]
theorem Ey {m : List Nat} {i : Nat} (hi : i < 8) (h : 0 < me m i) : IntKind.u8.wrap (((KX m i : Nat) : Int) + ((2 ^ i : Nat) : Int)) = ((KX m (i + 1) : Nat) : Int) := by
  have e := uL (m := m) (i := i + 1) Z
  have k : KX m i + 2 ^ i = KX m (i + 1) := by
    rw [← Ex h, Nat.add_comm, Nat.or_comm]
    have := Nat.two_pow_add_eq_or_of_lt (ZY m i) 1
    simpa using this
  rw [← k] at e ⊢
  have f : ((KX m i : Nat) : Int) + ((2 ^ i : Nat) : Int) = ((KX m i + 2 ^ i : Nat) : Int) := by rw [Int.natCast_add]
  rw [f]
  generalize KX m i + 2 ^ i = z at e
  simp [IntKind.wrap, IntKind.bits, IntKind.signed]; omega
theorem oA {i : Nat} (hi : i < 8) : 2 ^ i < 256 := Nat.pow_lt_pow_right AD hi
theorem Gv {i : Nat} (hi : i < 8) : IntKind.i64.wrap (2 * ((2 ^ i : Nat) : Int)) = ((2 ^ (i + 1) : Nat) : Int) := by
  have := oA hi
  rw [Nat.pow_succ]
  generalize 2 ^ i = z at this
  rw [JC Z]; omega
theorem Qm {i : Nat} (hi : i < 8) : IntKind.u8.wrap ((2 ^ i : Nat) : Int) = ((2 ^ i : Nat) : Int) := by
  have := oA hi
  generalize 2 ^ i = z at this
  simp [IntKind.wrap, IntKind.bits, IntKind.signed]; omega
theorem Sg (j : Nat) (w : World) (hj : j < 8) :
    Calls prog 93 #[.int .i64 ↑j] w (FX w (.int .u8 ((2 ^ j : Nat) : Int))) := by
 have E := Env.start w
 go_enter func93, ntmps93
 refine zG ?_
 refine wp_loop_ghost (fun u a t => ∃ (i : Nat) (q p o l k f e : Value), a = ⟨#[.int .i64 ↑j, undef, .int .u8 0, .int .i64 ((2 ^ i : Nat) : Int), .int .i64 ↑i, q, p, o, l, k, f, e, undef, undef], []⟩ ∧ Env t [fW w] ∧ u = j - i ∧ i ≤ j) (j) ⟨0, _, _, _, _, _, _, _, O, zE, O, Z⟩ ?_
 rintro B _ z ⟨i, q, p, o, l, k, f, e, rfl, E, h, y⟩
 by_cases C : i < j
 case pos =>
  refine zG ?_
  refine V (v := .int .i64 ((2 ^ (i + 1) : Nat) : Int)) O O (VS O O O (Gv Z)) ?_
  refine zG ?_
  exact ⟨_, (by rw [h]; omega), (i + 1), _, _, _, _, _, _, _, O, zE, O, Z⟩
 obtain rfl : i = j := by omega
 refine zG ?_
 refine V (v := .int .u8 ((2 ^ i : Nat) : Int)) O O (ES O O (by rw [underlying3]; rfl) underlying5 (Qm hj)) ?_
 refine zG ?_
 exact ⟨rfl, E.1⟩
theorem Si (m : List Nat) (w : World) (hm : ER m) :
    Calls prog 83 #[.agg (GN m).toArray] w (FX w (.int .u8 ↑(KX m 8))) := by
 have E := Env.start w
 go_enter func83, ntmps83
 refine zG ?_
 refine EF O (CI (cs := GN m) O O ?_)
 intro L T R N J z
 replace E := (E.below J).x z
 clear R N J z
 refine zG ?_
 refine V O O (CT PR O O E.1 (DA hm)) ?_
 refine zG ?_
 refine wp_loop_ghost (fun Q a P => ∃ (i : Nat) (x : Nat) (H G F D u t q p o l k h : Value), a = ⟨#[.agg (GN m).toArray, .pointer (some ⟨L, 0, none⟩), .int .u8 0, .int .u8 ↑x, H, G, .agg (GN m).toArray, .int .i64 ↑i, F, D, u, t, q, p, o, l, k, h, undef], []⟩ ∧ Env P [fX L (67) (GN m), fW w] ∧ Q = 8 - i ∧ (i ≤ 8 ∧ x = KX m i)) (8) ⟨0, 0, _, _, _, _, _, _, _, _, _, _, _, _, O, zE, O, ⟨by omega, O⟩⟩ ?_
 rintro U _ S ⟨i, x, H, G, F, D, u, t, q, p, o, l, k, h, rfl, E, e, f⟩
 obtain ⟨f, y⟩ := f
 by_cases C : i < 8
 case neg =>
  refine zG ?_
  exact ⟨(by rw [y, show i = 8 by omega]), E.2.1⟩
 by_cases B : 0 < me m i
 case neg =>
  refine zG ?_
  refine V (v := .int .i64 ↑(me m i)) O O (TT O O O O hm Z) ?_
  refine zG ?_
  exact ⟨_, (by rw [e]; omega), (i + 1), x, _, _, _, _, _, _, _, _, _, _, _, _, O, zE, O, ⟨by omega, (y.trans (uJ B))⟩⟩
 refine zG ?_
 refine V (v := .int .i64 ↑(me m i)) O O (TT O O O O hm Z) ?_
 refine zG ?_
 refine V (v := .int .u8 ((2 ^ i : Nat) : Int)) O O (Fo O O O O C) ?_
 refine V (v := .int .u8 ((x ||| 2 ^ i : Nat) : Int)) O O (nR O O O O O (by rw [y]; exact uL Z) (oA C) O) ?_
 refine zG ?_
 exact ⟨_, (by rw [e]; omega), (i + 1), (x ||| 2 ^ i), _, _, _, _, _, _, _, _, _, _, _, _, O, zE, O, ⟨by omega, (by rw [y]; exact Ex B)⟩⟩
theorem Nv (m : List Nat) (w : World) (hm : ER m) :
    Calls prog 46 #[.agg (GN m).toArray] w (FX w (.int .u8 ↑(KX m 8))) := by
 have E := Env.start w
 go_enter func46, ntmps46
 refine zG ?_
 refine EF O (CI (cs := GN m) O O ?_)
 intro u U R L J z
 replace E := (E.below J).x z
 clear R L J z
 refine zG ?_
 refine wp_loop_ghost (fun P a N => ∃ (i : Nat) (x : Nat) (H G F D C t q p o l k h : Value), a = ⟨#[.agg (GN m).toArray, .pointer (some ⟨u, 0, none⟩), .int .u8 0, .int .u8 ↑x, .int .i64 ↑i, H, G, F, D, C, t, q, p, o, l, k, h, undef], []⟩ ∧ Env N [fX u (67) (GN m), fW w] ∧ P = 8 - i ∧ (i ≤ 8 ∧ x = KX m i)) (8) ⟨0, 0, _, _, _, _, _, _, _, _, _, _, _, _, O, zE, O, ⟨by omega, O⟩⟩ ?_
 rintro X _ T ⟨i, x, H, G, F, D, C, t, q, p, o, l, k, h, rfl, E, e, f⟩
 obtain ⟨f, y⟩ := f
 by_cases Q : i < 8
 case neg =>
  refine zG ?_
  exact ⟨(by rw [y, show i = 8 by omega]), E.2.1⟩
 by_cases B : 0 < me m i
 case neg =>
  refine zG ?_
  refine V (v := .pointer (some ⟨u, 0 + i * 1, none⟩)) O O (DX (j := i) O underlying67 I O O O Z) ?_
  refine V O O (CR O DD O E.1 (FL hm Z)) ?_
  refine zG ?_
  exact ⟨_, (by rw [e]; omega), (i + 1), x, _, _, _, _, _, _, _, _, _, _, _, _, O, zE, O, ⟨by omega, (y.trans (uJ B))⟩⟩
 refine zG ?_
 refine V (v := .pointer (some ⟨u, 0 + i * 1, none⟩)) O O (DX (j := i) O underlying67 I O O O Z) ?_
 refine V O O (CR O DD O E.1 (FL hm Z)) ?_
 refine zG ?_
 refine EF O (BZ kT O (Sg i _ Z) O E ?_)
 clear E
 intro S _ E
 refine zG ?_
 refine V (v := .int .u8 ↑(KX m (i + 1))) O O (JJ O O O (by rw [y]; exact Ey Q B)) ?_
 refine zG ?_
 exact ⟨_, (by rw [e]; omega), (i + 1), (KX m (i + 1)), _, _, _, _, _, _, _, _, _, _, _, _, O, zE, O, ⟨by omega, O⟩⟩
end Go.Proofs.YtmppigbbkjepiaaGreatDoor
