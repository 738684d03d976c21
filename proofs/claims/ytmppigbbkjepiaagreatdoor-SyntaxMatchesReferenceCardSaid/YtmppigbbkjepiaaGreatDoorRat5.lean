/- Helping facts of KitO; no other conditions. Helping facts of Rat3; no other conditions. Helping facts of MulM; no other conditions. Helping facts of KitN; no other conditions. Helping facts of Rat5; no other conditions. -/
import Derived.Test.YtmppigbbkjepiaaGreatDoorAut2
import Derived.Lib.OthersKept
namespace Go.Proofs.YtmppigbbkjepiaaGreatDoor
variable {P : Program} {b : UInt8} {c : Int} {i k pos : Nat} {p : List Nat} {s : ByteArray} {v : Value} {w : World} {x : Operand} {y : Rat}
theorem ZyE {p : Prop} (h : p := by
 simp only [Bool.or_eq_false_iff, Bool.and_eq_false_iff, decide_eq_false_iff_not]
 omega
 ) : p := h
theorem Acc.own {α : Type} {e : El α} {t base : Nat} {S : Nat -> Prop} {l : List α} (h : Acc e t base S w v l) : ∀ g, v.ownBlock = some g -> ¬ S g := by
 obtain ⟨_, _, _, f⟩ := h; exact f
open Go.RowKit W
theorem oH {x : Rat} (h : x = y) : (fL x y == 0) = true := by
 rcases iJ x y with ⟨g, _⟩ | ⟨_, e⟩ | ⟨g, _⟩
 . subst h; exact absurd g Rat.lt_irrefl
 . rw [e]; rfl
 subst h; exact absurd g Rat.lt_irrefl
theorem oG {x : Rat} (h : ¬ x = y) : (fL x y == 0) = false := by
 rcases iJ x y with ⟨_, e⟩ | ⟨g, _⟩ | ⟨_, e⟩
 . rw [e]; rfl
 . exact absurd g h
 rw [e]; rfl
open Go.Proofs.Tryz
theorem XI {o : Oper} {a : Act} {w : World} {K : Act -> World -> Prop} {Q : Exit -> Act -> World -> Prop} {T TB b : Nat} {y : Operand} {cs : List Value} (ho : o.op = .store T x y) (hs : ∀ w, (sizeOf T).run P w = .ok 1 w)
 (hx : a.eval x = .pointer (some ⟨b, i, none⟩)) (hy : a.eval y = v) (hcell : v.cells = #[v]) (h1 : v.oneCell' = true) (hb : Bx w b TB cs) (hi : i < cs.length)
 (h : ∀ w', Onl b w w' -> Bx w' b TB (cs.set i v) -> K (a.put o.dst undef) w') : o.wp P a w K Q := by
 have e := run_storeCells_at (P := P) b i TB [v] 0 cs.toArray w hb (by simp; omega) (by simpa using h1)
 have f : cs.take i ++ [v] ++ cs.drop (i + 1) = cs.set i v := by
  rw [List.set_eq_take_append_cons_drop, if_pos hi]; simp
 unfold Oper.wp execOp
 simp only [ho, hx, hy, Instr.storeAt, Instr.sureAddr, Sem.run_bind, Sem.run_pure, Result.andThen_ok, storeVar, hcell, hs]
 simp only [List.size_toArray, List.length_cons, List.length_nil, Nat.zero_add, ne_eq, not_true_eq_false, if_false, Nat.add_zero] at e ⊢
 rw [f] at e
 simp [e, Oper.upon]
 exact h _ (OD _ _ _) (aJ hb _)
def OR (p q : List Nat) (i : Nat) : List Nat := (List.range 8).map fun j => if j < i then me p j + me q j else me p j
def oO (p q : List Nat) : Prop := ∀ i, me p i + me q i <= 65535
theorem NU (p q : List Nat) (i : Nat) : (OR p q i).length = 8 := by simp [OR]
theorem hH (p q : List Nat) (i : Nat) {j : Nat} (hj : j < 8) : me (OR p q i) j = if j < i then me p j + me q j else me p j := by
 rw [QV (by rw [NU]; exact hj)]; simp [OR]
theorem RB {q : List Nat} (hs : oO p q) (i : Nat) : EG (OR p q i) := by
 refine ⟨NU p q i, fun e f => ?_⟩
 obtain ⟨j, _, rfl⟩ := List.mem_map.1 f
 have := hs j
 split <;> omega
theorem Od (hp : EG p) (q : List Nat) : OR p q 0 = p := by
 refine List.ext_getElem (by rw [NU, hp.1]) fun i e f => ?_
 rw [<- QV e, <- QV f, hH p q 0 (by rw [NU] at e; exact e)]; simp
theorem Oe (p q : List Nat) (hi : i < 8) : me (OR p q i) i = me p i := by rw [hH p q i hi]; simp
theorem Tx (p q : List Nat) (_hi : i < 8) : (GK (OR p q i)).set (0 + i * 1) (.int .i64 ↑(me p i + me q i)) = GK (OR p q (i + 1)) := by
 rw [Nat.zero_add, Nat.mul_one]
 unfold GK
 rw [<- List.map_set]
 congr 1
 refine List.ext_getElem (by rw [List.length_set, NU, NU]) fun j k f => ?_
 have e : j < 8 := by rw [NU] at f; exact f
 rw [List.getElem_set]
 have e1 := hH p q (i + 1) e
 have e2 := hH p q i e
 rw [QV f] at e1
 rw [QV (by rw [NU]; exact e)] at e2
 rw [e1, e2]
 by_cases h : i = j
 . subst h; simp
 rw [if_neg h]
 by_cases g : j < i
 . rw [if_pos g, if_pos AA]
 rw [if_neg g, if_neg AA]
theorem tG : EG [0, 0, 0, 0, 0, 0, 0, 0] := by refine ⟨rfl, ?_⟩; decide
theorem tI (m : List Nat) : ∀ v ∈ GK m, v.oneCell' = true := by
 intro v e
 obtain ⟨_, _, rfl⟩ := List.mem_map.1 e
 rfl
theorem vQ (w : World) : (sizeOf 3).run prog w = .ok 1 w := by kernel_rfl
theorem dT (m : List Nat) : TU (GK m) := by
 intro c f n e
 obtain ⟨_, _, rfl⟩ := List.mem_map.1 f
 cases e
set_option maxRecDepth 100000 in
set_option maxHeartbeats 4000000 in
theorem Wu (p q : List Nat) (w : World) (hq : EG q) (hs : oO p q) :
 Calls prog 56 #[.agg (GK (OR p q 0)).toArray, .agg (GK q).toArray] w (FI w (.tuple #[.agg (GK (OR p q 8)).toArray, .int .i64 0])) := by
 have E := Env.start w
 go_enter func56, ntmps56
 refine zG ?_
 refine EF O (CI (cs := GK (OR p q 0)) O O ?_)
 intro k w1 e1 z1 U J
 have l1 : w.heap.size <= k := by rw [e1]; exact E.1.size
 replace E := E.below U
 clear e1
 replace E := E.x J
 refine zG ?_
 refine EF O (CI (cs := GK q) O O ?_)
 intro h w2 e2 Y T I
 have D : k < h := by rw [e2]; exact Bx.lt E.1
 replace E := E.below T
 clear e2
 replace E := E.x I
 refine zG ?_
 refine EF O (CB QN O ?_)
 intro l w3 e3 X S H
 have C : h < l := by rw [e3]; exact Bx.lt E.1
 replace E := E.below S
 clear e3
 replace E := E.x H
 refine zG ?_
 refine wp_loop_ghost (fun Q a L => ∃ (i : Nat) (f : List Value), f = a.tmps.toList /\ a = ⟨(.agg (GK (OR p q 0)).toArray :: .agg (GK q).toArray :: .pointer (some ⟨k, 0, none⟩) :: .pointer (some ⟨h, 0, none⟩) :: .pointer (some ⟨l, 0, none⟩) :: .int .i64 0 :: .int .i64 ↑i :: gr f 7 17 []).toArray, []⟩ /\ Env L [fX l (67) (GK [0, 0, 0, 0, 0, 0, 0, 0]), fX h (67) (GK q), fX k (67) (GK (OR p q i)), fW w] /\ Q = 8 - i /\ i <= 8) (8) ⟨0, _, O, O, zE, O, AA⟩ ?_
 rintro m4 _ w4 ⟨i, f, -, rfl, E, u, R⟩
 dsimp only [gr, Nat.reduceAdd]
 by_cases F : i < 8
 case neg =>
  refine zG ?_
  refine V O O (CY QN O O E.2.2.1 (DC (RB hs i))) ?_
  refine zG ?_
  refine EF O (CA XE O (rX (OR p q i) _ (RB hs i)) O E ?_)
  intro w7 d7 E
  refine zG ?_
  refine V O O (CY QN O O E.2.2.1 (DC (RB hs i))) ?_
  have z := E.1
  replace E := VI E
  refine zG ?_
  refine EF O (BY QN O O O z (by first | rfl | exact DC tG) (DC (RB hs i)) (tI _) ?_)
  intro w8 N G
  replace E := (E.onl (z.noW (dT (m := [0, 0, 0, 0, 0, 0, 0, 0]))) zK N).x G
  have r1 := DA QN E.1 (DC (RB hs i))
  refine zG ?_
  exact AQ (v := .tuple #[.agg (GK (OR p q i)).toArray, .int .i64 0]) (by simp [results, results56, asAddr, r1]) O ⟨(by rw [show i = 8 by omega]), e3 E⟩
 refine zG ?_
 refine UW (l2 := [fX l (67) (GK [0, 0, 0, 0, 0, 0, 0, 0]), fX h (67) (GK q), fW w]) E (fun w E => zE) ([8]) ([0, 1, 2, 3, 4, 5, 6, 7, 8]) Z Z Z Z AF ?_
 replace E := E.drew
 refine SP (o := ⟨some 11, _, _, _, _, _⟩) (v := .int .i64 ↑i) O O O O (fun w e => EV O O) ?_
 refine zG ?_
 refine SP (o := ⟨some 12, _, _, _, _, _⟩) (v := .pointer (some ⟨k, 0 + i * 1, none⟩)) O O O O (fun w e => EA (j := i) O underlying67 Z O O O AA) ?_
 refine zG ?_
 refine SP (o := ⟨some 13, _, _, _, _, _⟩) (v := .int .i64 ↑(me (OR p q i) i)) O O O O (fun w e => CP O CW O (e.2.2.1) (EJ (RB hs i) AA)) ?_
 refine zG ?_
 refine SP (o := ⟨some 14, _, _, _, _, _⟩) (v := .int .i64 ↑i) O O O O (fun w e => EV O O) ?_
 refine zG ?_
 refine SP (o := ⟨some 15, _, _, _, _, _⟩) (v := .pointer (some ⟨h, 0 + i * 1, none⟩)) O O O O (fun w e => EA (j := i) O underlying67 Z O O O AA) ?_
 refine zG ?_
 refine SP (o := ⟨some 16, _, _, _, _, _⟩) (v := .int .i64 ↑(me q i)) O O O O (fun w e => CP O CW O (e.2.1) (EJ hq AA)) ?_
 refine zG ?_
 refine SP (o := ⟨some 17, _, _, _, _, _⟩) (v := .int .i64 ↑(me p i + me q i)) O O O O (fun w e => IY O O O (by rw [Oe p q F]; have := hs i; rw [HI AA]; omega)) ?_
 refine zG ?_
 refine SP (o := ⟨some 18, _, _, _, _, _⟩) (v := .pointer (some ⟨k, 0 + i * 1, none⟩)) O O O O (fun w e => EA (j := i) O underlying67 Z O O O AA) ?_
 have B := E.2.2.1
 refine zG ?_
 replace E := (Env.x (Env.x (Env.ww (Env.nil _) (e3 E)) E.2.1) E.1)
 refine S1b (o := ⟨none, _, _, _, _, _⟩) O O O O (XI (v := .int .i64 ↑(me p i + me q i)) O vQ O O O O B (by rw [DC (RB hs i)]; omega) ?_)
 intro w6 P y
 rw [Tx p q F] at y
 replace E := (E.onl (B.noW (dT _)) zK P).x y
 refine ⟨E.2, ?_⟩
 refine zG ?_
 exact ⟨_, (by rw [u]; omega), (i + 1), _, O, O, zE, O, AA⟩
def UO (c : Int) : Bool := (decide (65 <= c) && decide (c <= 90)) || (decide (97 <= c) && decide (c <= 122))
def aN (c : Int) : Bool := (decide (48 <= c) && decide (c <= 57)) || decide (c = 95)
theorem Et (c : Int) : UO c = true ↔ (65 <= c /\ c <= 90) ∨ (97 <= c /\ c <= 122) := by
 unfold UO
 simp only [Bool.or_eq_true, Bool.and_eq_true, decide_eq_true_eq]
theorem Ee (c : Int) : aN c = true ↔ (48 <= c /\ c <= 57) ∨ c = 95 := by
 unfold aN
 simp only [Bool.or_eq_true, Bool.and_eq_true, decide_eq_true_eq]
theorem kV (h : (65 <= c /\ c <= 90) ∨ (97 <= c /\ c <= 122)) : UO c = true := (Et c).2 h
theorem hI (h : ¬ ((65 <= c /\ c <= 90) ∨ (97 <= c /\ c <= 122))) : UO c = false := by
 cases e : UO c with
 | false => rfl
 | true => exact absurd ((Et c).1 e) h
theorem kN (h : (48 <= c /\ c <= 57) ∨ c = 95) : aN c = true := (Ee c).2 h
theorem sT (h : ¬ ((48 <= c /\ c <= 57) ∨ c = 95)) : aN c = false := by
 cases e : aN c with
 | false => rfl
 | true => exact absurd ((Ee c).1 e) h
theorem aC (b : UInt8) : UO ((b.toNat : Nat) : Int) = PX b := by
 unfold UO PX
 have k : (65 <= ((b.toNat : Nat) : Int)) ↔ 65 <= b.toNat := by omega
 have h : (((b.toNat : Nat) : Int) <= 90) ↔ b.toNat <= 90 := by omega
 have f : (97 <= ((b.toNat : Nat) : Int)) ↔ 97 <= b.toNat := by omega
 have e : (((b.toNat : Nat) : Int) <= 122) ↔ b.toNat <= 122 := by omega
 simp only [k, h, f, e]
theorem ZZ (b : UInt8) : (UO ((b.toNat : Nat) : Int) || aN ((b.toNat : Nat) : Int)) = NN b := by
 rw [aC]
 unfold aN NN
 have h : (48 <= ((b.toNat : Nat) : Int)) ↔ 48 <= b.toNat := by omega
 have f : (((b.toNat : Nat) : Int) <= 57) ↔ b.toNat <= 57 := by omega
 have e : (((b.toNat : Nat) : Int) = 95) ↔ b.toNat = 95 := by omega
 simp only [h, f, e]
 simp only [Bool.or_assoc]
def Bt (s : Bs) (i : Nat) : Prop := ∀ j b, j < i -> s[j]? = some b -> (if j = 0 then PX b else NN b) = true
theorem qW (s : Bs) : Bt s 0 := fun j _ h => absurd h (Nat.not_lt_zero j)
theorem MY {s : Bs} (h : Bt s i) (hb : s[i]? = some b) (hok : (if i = 0 then PX b else NN b) = true) : Bt s (i + 1) := by
 intro j c k f
 by_cases e : j = i
 . subst e; rw [hb] at f; simp only [Option.some.injEq] at f; subst f; exact hok
 exact h j c AA f
theorem eN (s : Bs) : LD s = true ↔ 1 <= s.length /\ s.length <= 12 /\ Bt s s.length := by
 cases s with
 | nil => simp [LD]
 | cons c r =>
   simp only [LD, Bool.and_eq_true, decide_eq_true_eq, List.all_eq_true]
   constructor
   . rintro ⟨⟨k, f⟩, l⟩
     refine ⟨by simp, k, fun j b h e => ?_⟩
     cases j with
     | zero => simp at e; subst e; simpa using f
     | succ j => rw [if_neg AA]; simp at e; exact l b (List.mem_of_getElem? e)
   rintro ⟨_, k, f⟩
   refine ⟨⟨k, by simpa using f 0 c AH O⟩, fun b e => ?_⟩
   obtain ⟨j, h⟩ := List.getElem?_of_mem e
   have o := (List.getElem?_eq_some_iff.1 h).1
   have := f (j + 1) b (by simp; omega) (by simpa using h)
   simpa using this
theorem MM {s : Bs} (hb : s[i]? = some b) (h : (if i = 0 then PX b else NN b) = false) : LD s = false := by
 cases e : LD s with
 | false => rfl
 | true =>
   have := ((eN s).1 e).2.2 i b (List.getElem?_eq_some_iff.1 hb).1 hb
   rw [h] at this; cases this
theorem nG {s : Bs} (h : s.length < 1) : LD s = false := by
 cases e : LD s with
 | false => rfl
 | true => have := ((eN s).1 e).1; omega
theorem rD {s : Bs} (h : s.length > 12) : LD s = false := by
 cases e : LD s with
 | false => rfl
 | true => have := ((eN s).1 e).2.1; omega
theorem xD {s : Bs} (h1 : ¬ s.length < 1) (h2 : ¬ s.length > 12) (h : Bt s i) (hi : s.length <= i) : LD s = true := (eN s).2 ⟨by omega, by omega, fun j b hj hb => h j b AA hb⟩
theorem Ga (a : Bs) (h : a[i]? = some b) : (bs a).get! i = b := by
 have f := Qo a i
 rw [h] at f
 have e : (bs a).data[i]? = some b := by
  have := FW a
  rw [<- Array.getElem?_toList, this]; exact h
 show (bs a).data[i]! = b
 rw [getElem!_def, e]
theorem Cq (a : Bs) (h : a[i]? = some b) (hb : b.toNat < 128) : Utf8.decode (bs a) i = (b.toNat, 1) := by
 have e := Ga a h
 simp only [Utf8.decode, Nat.add_zero, e, hb, if_true]
theorem yE (a : Bs) (h : a[i]? = some b) (hb : ¬ b.toNat < 128) : 128 <= (Utf8.decode (bs a) i).1 := by
 have e := Ga a h
 simp only [Utf8.decode, Nat.add_zero, e]
 rw [if_neg hb]
 have f : 128 <= Utf8.runeError := by decide
 repeat' split
 all_goals first | exact f | (rename_i g; simp at g ⊢; omega) | (rename_i g _; simp at g ⊢; omega)
theorem rB {c : Nat} (h : 128 <= c) : UO ((c : Nat) : Int) = false := by
 unfold UO
 exact ZyE
theorem Ci (h : ¬ b.toNat < 128) : PX b = false := by rw [<- aC]; exact rB AA
theorem Ch (h : ¬ b.toNat < 128) : NN b = false := by
 rw [<- ZZ, rB AA]
 unfold aN
 simp only [Bool.false_or, Bool.or_eq_false_iff, Bool.and_eq_false_iff, decide_eq_false_iff_not]
 omega
def fIt (k : Nat) (s : ByteArray) (pos : Nat) : SF := ⟨fun w => w.heap[k]? = some (.stringIter s pos), fun c => c ≠ k,
 fun h hb => (hb.block k (Array.getElem?_eq_some_iff.1 h).1).trans h, fun h _ ho hb => (hb.block k (Ne.symm ho)).trans h⟩
theorem Env.it {L : List SF} (E : Env w L) (h : w.heap[k]? = some (.stringIter s pos)) : Env w (fIt k s pos :: L) := ⟨h, E⟩
theorem tO (h : UO ((b.toNat : Nat) : Int) = true) : (if i = 0 then PX b else NN b) = true := by
 split
 . rw [<- aC]; exact h
 rw [<- ZZ, h]; rfl
theorem lA (hi : i = 0) (h : UO ((b.toNat : Nat) : Int) = false) : (if i = 0 then PX b else NN b) = false := by rw [if_pos hi, <- aC]; exact h
theorem mH (hi : ¬ i = 0) (h : aN ((b.toNat : Nat) : Int) = true) : (if i = 0 then PX b else NN b) = true := by rw [if_neg hi, <- ZZ, h, Bool.or_true]
theorem dH (hi : ¬ i = 0) (h : UO ((b.toNat : Nat) : Int) = false) (g : aN ((b.toNat : Nat) : Int) = false) : (if i = 0 then PX b else NN b) = false := by rw [if_neg hi, <- ZZ, h, g]; rfl
theorem xM (h : ¬ b.toNat < 128) : (if i = 0 then PX b else NN b) = false := by
 split
 . exact Ci h
 exact Ch h
theorem Il {c : Nat} (h : 128 <= c) : aN ((c : Nat) : Int) = false := by
 unfold aN
 exact ZyE
theorem DE {b : Bool} (h : ¬ b = true) : b = false := by cases b <;> simp_all
section
variable {o : Oper} {a : Act} {w : World} {K : Act -> World -> Prop} {Q : Exit -> Act -> World -> Prop}
theorem pU {T : TypeId} (ho : o.op = .range T x) (hT : P.underlying T = some .string) (hx : a.eval x = .string s)
 (h : ∀ k w', k = w.heap.size -> w'.heap.size = w.heap.size + 1 -> Below w.heap.size w w' -> w'.heap[k]? = some (.stringIter s 0) -> K (a.put o.dst (.pointer (some ⟨k, 0, none⟩))) w') : o.wp P a w K Q := by
 refine DO (v := .pointer (some ⟨w.heap.size, 0, none⟩)) (w' := w.iter s 0) ?_ (h _ _ O (by simp [World.iter]) ((Below.refl _ _).alloc (Nat.le_refl _) _) (World.iter_heap _ _ _))
 unfold execOp; rw [ho]
 simp [hx, run_range_string (P := P) w T s hT]
theorem Bq (w : World) (k : Nat) (s : ByteArray) (pos : Nat) : Onl k w (w.iterAt k s pos) := ⟨rfl, rfl, rfl, Lib.iterAt_size _ _ _ _, fun j hj => Lib.iterAt_other w k j s pos hj⟩
theorem wU {w : World} (h : w.heap[k]? = some (.stringIter s pos)) : zX w k := by
 intro o n e
 simp [World.cell?, h] at e
theorem gI {c n : Nat} (ho : o.op = .next x true) (hx : a.eval x = .pointer (some ⟨k, 0, none⟩)) (hk : w.heap[k]? = some (.stringIter s pos)) (hd : Utf8.decode s pos = (c, n)) (hp : pos < s.size)
 (h : ∀ w', Onl k w w' -> w'.heap[k]? = some (.stringIter s (pos + n)) -> K (a.put o.dst (.tuple #[.bool true, .int .i64 ↑pos, .int .i32 ↑c])) w') : o.wp P a w K Q := by
 have e := Lib.run_next_any_at (P := P) w k s pos o.type hk hp
 rw [hd] at e
 refine DO (v := .tuple #[.bool true, .int .i64 ↑pos, .int .i32 ↑c]) (w' := w.iterAt k s (pos + n)) ?_ (h _ (Bq _ _ _ _) (Lib.iterAt_heap w k s pos _ hk))
 unfold execOp; rw [ho]
 simp [hx, e]
theorem kE (ho : o.op = .next x true) (hx : a.eval x = .pointer (some ⟨k, 0, none⟩)) (hk : w.heap[k]? = some (.stringIter s pos)) (hp : ¬ pos < s.size)
 (h : K (a.put o.dst (.tuple #[.bool false])) w) : o.wp P a w K Q := by
 refine DO (v := .tuple #[.bool false]) (w' := w) ?_ h
 unfold execOp; rw [ho]
 simp [hx, Lib.run_next_end_at (P := P) w k s pos o.type hk hp]
end
set_option maxHeartbeats 8000000
set_option maxRecDepth 100000
theorem LJ (n : Int) (w : World) (h1 : -9223372036854775808 <= n) (h2 : n <= 9223372036854775807) :
 Calls prog 22 #[.int .i64 n] w (RetP w ((n : Int) : Rat).num (((((n : Int) : Rat)).den : Nat) : Int)) := by
 have E := Env.start w
 go_enter func22, ntmps22
 refine zG ?_
 refine EF O (CB GP O ?_)
 intro z G e1 B y e
 have H : w.heap.size <= z := by rw [e1]; exact E.1.size
 replace E := E.below y
 clear e1
 refine zG ?_
 refine EF O (CH FQ O (VN n _ h1 h2) O E ?_)
 intro F l h u E
 replace e := e.below u
 refine zG ?_
 refine EF O (CH FQ O (VN 1 _ AE AE) O E ?_)
 intro D k f t E
 replace e := e.below t
 refine zG ?_
 refine V (v := .agg #[.bool l, h, .bool k, f]) O O (KR O O O) ?_
 refine zG ?_
 refine EF O (BY GP O O O e O O (LR (IsI.one E.2.1) (IsI.one E.1)) ?_)
 intro C q o
 replace E := (E.onl (e.noW (QC FV FV)) zK q).x o
 have r1 := DA GP E.1 rfl
 refine zG ?_
 exact AQ (v := .agg #[.bool l, h, .bool k, f]) (by simp [results, results22, asAddr, r1]) O ⟨_, _, _, _, O, WO O E.2.2.1, WO O E.2.1, e3 E⟩
theorem Rj (na : Bool) (sa : Value) (ma : Bool) (ta : Value) (x : Rat) (nb : Bool) (sb : Value) (mb : Bool) (tb : Value) (y : Rat) (w : World) (hna : IsI w (.agg #[.bool na, sa]) x.num) (hda : IsI w (.agg #[.bool ma, ta]) ((x.den : Nat) : Int)) (hnb : IsI w (.agg #[.bool nb, sb]) y.num) (hdb : IsI w (.agg #[.bool mb, tb]) ((y.den : Nat) : Int)) (Fx : FitQ x 100000000) (Fy : FitQ y 100000000) :
 Calls prog 60 #[.agg #[.bool na, sa, .bool ma, ta], .agg #[.bool nb, sb, .bool mb, tb]] w (RetP w (x + y).num (((x + y).den : Nat) : Int)) := by
 have E := Env.start w
 replace E := (E.i hna).i hda
 replace E := (E.i hnb).i hdb
 go_enter func60, ntmps60
 refine zG ?_
 refine EF O (CI (cs := [.bool na, sa, .bool ma, ta]) O O ?_)
 intro J w1 e1 z1 d1 Q
 have l1 : w.heap.size <= J := by rw [e1]; exact (e4 E).size
 replace E := E.below d1
 clear e1
 replace E := E.x Q
 refine zG ?_
 refine EF O (CI (cs := [.bool nb, sb, .bool mb, tb]) O O ?_)
 intro I w2 e2 z2 d2 P
 have H : J < I := by rw [e2]; exact Bx.lt E.1
 replace E := E.below d2
 clear e2
 replace E := E.x P
 refine zG ?_
 refine EF O (CB GP O ?_)
 intro b3 w3 e3 z3 d3 f
 have G : I < b3 := by rw [e3]; exact Bx.lt E.1
 replace E := E.below d3
 clear e3
 refine zG ?_
 refine sE E [0,1,2,3,5,6,7,8,11,12,13,14,4,9,10,15,16,17] ?_
 replace E := E.drew
 replace f := Bx.drew f
 refine SW O O O O O (fun w e => DN O O) ?_
 refine SW O O O O O (fun w e => CN O O (e.2.1) O O) ?_
 refine SW O O O O O (fun w e => DD O O) ?_
 refine SW O O O O O (fun w e => CN O O (e.1) O O) ?_
 refine zG ?_
 refine SW O O O O O (fun w e => DN O O) ?_
 refine SW O O O O O (fun w e => CN O O (e.1) O O) ?_
 refine SW O O O O O (fun w e => DD O O) ?_
 refine SW O O O O O (fun w e => CN O O (e.2.1) O O) ?_
 refine zG ?_
 refine SW O O O O O (fun w e => DD O O) ?_
 refine SW O O O O O (fun w e => CN O O (e.2.1) O O) ?_
 refine SW O O O O O (fun w e => DD O O) ?_
 refine SW O O O O O (fun w e => CN O O (e.1) O O) ?_
 refine zG ?_
 refine GZ (o := ⟨some 9, _, _, _, _, _⟩) O O O O (CH EH O (OG _ x.num _ ((y.den : Nat) : Int) _ (e5 E) E.2.2.1 (Fits.mono Fx.1 AE) (Fits.mono Fy.2 AE)) O E ?_)
 intro w5 n5 s5 d5 E
 replace f := f.below d5
 refine ⟨E.2, ?_⟩
 have N : Fits (x.num * ((y.den : Nat) : Int)) 200000000 := GU Fx.1 Fy.2
 refine zG ?_
 refine GZ (o := ⟨some 14, _, _, _, _, _⟩) O O O O (CH EH O (OG _ y.num _ ((x.den : Nat) : Int) _ (e4 E) (e5 E) (Fits.mono Fy.1 AE) (Fits.mono Fx.2 AE)) O E ?_)
 intro w7 n7 s7 d7 E
 replace f := f.below d7
 refine ⟨E.2.2, ?_⟩
 have L : Fits (y.num * ((x.den : Nat) : Int)) 200000000 := GU Fy.1 Fx.2
 refine zG ?_
 refine GZ (o := ⟨some 15, _, _, _, _, _⟩) O O O O (CH UQ O (De _ (x.num * ((y.den : Nat) : Int)) _ (y.num * ((x.den : Nat) : Int)) _ E.2.1 E.1 (Fits.mono N AE) (Fits.mono L AE)) O E ?_)
 intro w9 n9 s9 Y E
 replace f := f.below Y
 refine ⟨E.2.2.2, ?_⟩
 have F8 : Fits ((x.num * ((y.den : Nat) : Int)) + (y.num * ((x.den : Nat) : Int))) 200000001 := gN N L (k := 200000000) AE AE
 refine zG ?_
 refine GZ (o := ⟨some 20, _, _, _, _, _⟩) O O O O (CH EH O (OG _ ((x.den : Nat) : Int) _ ((y.den : Nat) : Int) _ (e7 E) (e5 E) (Fits.mono Fx.2 AE) (Fits.mono Fy.2 AE)) O E ?_)
 intro T X U D E
 replace f := f.below D
 refine ⟨E.2.2.2.2, ?_⟩
 have F : Fits (((x.den : Nat) : Int) * ((y.den : Nat) : Int)) 200000000 := GU Fx.2 Fy.2
 refine zG ?_
 refine GZ (o := ⟨some 21, _, _, _, _, _⟩) O O O O (CV GE O (ON _ ((x.num * ((y.den : Nat) : Int)) + (y.num * ((x.den : Nat) : Int))) _ (((x.den : Nat) : Int) * ((y.den : Nat) : Int)) _ E.2.1 E.1 (Int.mul_ne_zero (ZC x) (ZC y)) (Fits.mono F8 AE) (Fits.mono F AE)) O E ?_)
 intro S u p B l C E
 replace f := f.below C
 refine ⟨E.2.2.2.2.2.2, ?_⟩
 refine zG ?_
 refine GZ (o := ⟨none, _, _, _, _, _⟩) O O O O (BY GP O O O f O O (LR (IsI.one E.2.1) (IsI.one E.1)) ?_)
 intro R t h
 replace E := (E.onl (f.noW (QC FV FV)) zK t).x h
 refine ⟨E.2.2.2.2.2.2.2, ?_⟩
 have r1 := DA GP E.1 rfl
 refine zG ?_
 exact AQ (v := .agg #[.bool u, p, .bool B, l]) (by simp [results, results60, asAddr, r1]) O ⟨_, _, _, _, O, WO (congrArg Rat.num (B4 x y)) E.2.2.1, WO (congrArg (fun z => ((Rat.den z : Nat) : Int)) (B4 x y)) E.2.1, WP E⟩
theorem C6 (na : Bool) (sa : Value) (ma : Bool) (ta : Value) (x : Rat) (w : World) (hna : IsI w (.agg #[.bool na, sa]) x.num) (hda : IsI w (.agg #[.bool ma, ta]) ((x.den : Nat) : Int)) (_Fx : FitQ x 100000000) :
 Calls prog 69 #[.agg #[.bool na, sa, .bool ma, ta]] w (RetP w (-x).num (((-x).den : Nat) : Int)) := by
 have E := Env.start w
 replace E := (E.i hna).i hda
 go_enter func69, ntmps69
 refine zG ?_
 refine EF O (CI (cs := [.bool na, sa, .bool ma, ta]) O O ?_)
 intro p L e1 G C t
 have N : w.heap.size <= p := by rw [e1]; exact E.2.2.1.size
 replace E := E.below C
 clear e1
 replace E := E.x t
 refine zG ?_
 refine EF O (CB GP O ?_)
 intro D J e2 F B e
 have l : p < D := by rw [e2]; exact Bx.lt E.1
 replace E := E.below B
 clear e2
 refine zG ?_
 refine sE E [0,1,3,4,2,5,6] ?_
 replace E := E.drew
 replace e := Bx.drew e
 refine SW O O O O O (fun w f => DN O O) ?_
 refine SW O O O O O (fun w f => CN O O (f.1) O O) ?_
 refine SW O O O O O (fun w f => DD O O) ?_
 refine SW O O O O O (fun w f => CN O O (f.1) O O) ?_
 refine zG ?_
 refine GZ (o := ⟨some 5, _, _, _, _, _⟩) O O O O (CH aY O (Rg _ x.num _ E.2.2.1) O E ?_)
 intro I k h z E
 replace e := e.below z
 refine ⟨E.2, ?_⟩
 refine zG ?_
 refine SW (v := .agg #[.bool k, h, .bool ma, ta]) O O O O O (fun w f => KR O O O) ?_
 refine zG ?_
 refine GZ (o := ⟨none, _, _, _, _, _⟩) O O O O (BY GP O O O e O O (LR (IsI.one E.1) (IsI.one E.2.2.1)) ?_)
 intro H y q
 replace E := (E.onl (e.noW (QC FV FV)) zK y).x q
 refine ⟨E.2.2, ?_⟩
 have r1 := DA GP E.1 rfl
 refine zG ?_
 exact AQ (v := .agg #[.bool k, h, .bool ma, ta]) (by simp [results, results69, asAddr, r1]) O ⟨_, _, _, _, O, WO O E.2.1, WO O (e3 E), e5 E⟩
theorem C7 (na : Bool) (sa : Value) (ma : Bool) (ta : Value) (x : Rat) (nb : Bool) (sb : Value) (mb : Bool) (tb : Value) (y : Rat) (w : World) (hna : IsI w (.agg #[.bool na, sa]) x.num) (hda : IsI w (.agg #[.bool ma, ta]) ((x.den : Nat) : Int)) (hnb : IsI w (.agg #[.bool nb, sb]) y.num) (hdb : IsI w (.agg #[.bool mb, tb]) ((y.den : Nat) : Int)) (Fx : FitQ x 100000000) (Fy : FitQ y 100000000) :
 Calls prog 57 #[.agg #[.bool na, sa, .bool ma, ta], .agg #[.bool nb, sb, .bool mb, tb]] w (RetP w (x * y).num (((x * y).den : Nat) : Int)) := by
 have E := Env.start w
 replace E := (E.i hna).i hda
 replace E := (E.i hnb).i hdb
 go_enter func57, ntmps57
 refine zG ?_
 refine EF O (CI (cs := [.bool na, sa, .bool ma, ta]) O O ?_)
 intro u w1 e1 z1 R C
 have l1 : w.heap.size <= u := by rw [e1]; exact (e4 E).size
 replace E := E.below R
 clear e1
 replace E := E.x C
 refine zG ?_
 refine EF O (CI (cs := [.bool nb, sb, .bool mb, tb]) O O ?_)
 intro t w2 e2 Y Q B
 have q : u < t := by rw [e2]; exact Bx.lt E.1
 replace E := E.below Q
 clear e2
 replace E := E.x B
 refine zG ?_
 refine EF O (CB GP O ?_)
 intro S w3 e3 X P f
 have p : t < S := by rw [e3]; exact Bx.lt E.1
 replace E := E.below P
 clear e3
 refine zG ?_
 refine sE E [0,1,2,3,5,6,7,8,4,9,10,11] ?_
 replace E := E.drew
 replace f := Bx.drew f
 refine SW O O O O O (fun w e => DN O O) ?_
 refine SW O O O O O (fun w e => CN O O (e.2.1) O O) ?_
 refine SW O O O O O (fun w e => DN O O) ?_
 refine SW O O O O O (fun w e => CN O O (e.1) O O) ?_
 refine zG ?_
 refine SW O O O O O (fun w e => DD O O) ?_
 refine SW O O O O O (fun w e => CN O O (e.2.1) O O) ?_
 refine SW O O O O O (fun w e => DD O O) ?_
 refine SW O O O O O (fun w e => CN O O (e.1) O O) ?_
 refine zG ?_
 refine GZ (o := ⟨some 9, _, _, _, _, _⟩) O O O O (CH EH O (OG _ x.num _ y.num _ (e5 E) (e3 E) (Fits.mono Fx.1 AE) (Fits.mono Fy.1 AE)) O E ?_)
 intro w5 n5 s5 N E
 replace f := f.below N
 refine ⟨E.2, ?_⟩
 have U : Fits (x.num * y.num) 200000000 := GU Fx.1 Fy.1
 refine zG ?_
 refine GZ (o := ⟨some 14, _, _, _, _, _⟩) O O O O (CH EH O (OG _ ((x.den : Nat) : Int) _ ((y.den : Nat) : Int) _ (e5 E) (e3 E) (Fits.mono Fx.2 AE) (Fits.mono Fy.2 AE)) O E ?_)
 intro w7 n7 s7 L E
 replace f := f.below L
 refine ⟨E.2.2, ?_⟩
 have T : Fits (((x.den : Nat) : Int) * ((y.den : Nat) : Int)) 200000000 := GU Fx.2 Fy.2
 refine zG ?_
 refine GZ (o := ⟨some 15, _, _, _, _, _⟩) O O O O (CV GE O (ON _ (x.num * y.num) _ (((x.den : Nat) : Int) * ((y.den : Nat) : Int)) _ E.2.1 E.1 (Int.mul_ne_zero (ZC x) (ZC y)) (Fits.mono U AE) (Fits.mono T AE)) O E ?_)
 intro w9 H G I F J E
 replace f := f.below J
 refine ⟨E.2.2.2.2, ?_⟩
 refine zG ?_
 refine GZ (o := ⟨none, _, _, _, _, _⟩) O O O O (BY GP O O O f O O (LR (IsI.one E.2.1) (IsI.one E.1)) ?_)
 intro D l h
 replace E := (E.onl (f.noW (QC FV FV)) zK l).x h
 refine ⟨E.2.2.2.2.2, ?_⟩
 have r1 := DA GP E.1 rfl
 refine zG ?_
 exact AQ (v := .agg #[.bool H, G, .bool I, F]) (by simp [results, results57, asAddr, r1]) O ⟨_, _, _, _, O, WO (congrArg Rat.num (Zi x y)) E.2.2.1, WO (congrArg (fun z => ((Rat.den z : Nat) : Int)) (Zi x y)) E.2.1, RJ E⟩
theorem NE (na : Bool) (sa : Value) (ma : Bool) (ta : Value) (x : Rat) (w : World) (hna : IsI w (.agg #[.bool na, sa]) x.num) (hda : IsI w (.agg #[.bool ma, ta]) ((x.den : Nat) : Int)) :
 Calls prog 55 #[.agg #[.bool na, sa, .bool ma, ta]] w (XR w (OP x.num)) := by
 have E := Env.start w
 replace E := (E.i hna).i hda
 go_enter func55, ntmps55
 refine zG ?_
 refine EF O (CI (cs := [.bool na, sa, .bool ma, ta]) O O ?_)
 intro p l e1 h f e
 replace E := E.below f
 clear e1
 replace E := E.x e
 refine zG ?_
 refine V O O (DN O O) ?_
 refine V O O (CN O O E.1 O O) ?_
 refine zG ?_
 refine EF O (CE MQ O (gD _ x.num _ E.2.2.1) O E ?_)
 intro k o E
 refine zG ?_
 exact ⟨rfl, e3 E⟩
theorem uR (na : Bool) (sa : Value) (ma : Bool) (ta : Value) (x : Rat) (nb : Bool) (sb : Value) (mb : Bool) (tb : Value) (y : Rat) (w : World) (hna : IsI w (.agg #[.bool na, sa]) x.num) (hda : IsI w (.agg #[.bool ma, ta]) ((x.den : Nat) : Int)) (hnb : IsI w (.agg #[.bool nb, sb]) y.num) (hdb : IsI w (.agg #[.bool mb, tb]) ((y.den : Nat) : Int)) (Fx : FitQ x 100000000) (Fy : FitQ y 100000000) :
 Calls prog 154 #[.agg #[.bool na, sa, .bool ma, ta], .agg #[.bool nb, sb, .bool mb, tb]] w (XR w (fL x y)) := by
 have E := Env.start w
 replace E := (E.i hna).i hda
 replace E := (E.i hnb).i hdb
 go_enter func154, ntmps154
 refine zG ?_
 refine EF O (CI (cs := [.bool na, sa, .bool ma, ta]) O O ?_)
 intro N B e1 q l h
 replace E := E.below l
 clear e1
 replace E := E.x h
 refine zG ?_
 refine EF O (CI (cs := [.bool nb, sb, .bool mb, tb]) O O ?_)
 intro L z e2 p k f
 replace E := E.below k
 clear e2
 replace E := E.x f
 refine zG ?_
 refine sE E [0,1,2,3,5,6,7,8,4,9,10,11] ?_
 replace E := E.drew
 refine SW O O O O O (fun w e => DN O O) ?_
 refine SW O O O O O (fun w e => CN O O (e.2.1) O O) ?_
 refine SW O O O O O (fun w e => DD O O) ?_
 refine SW O O O O O (fun w e => CN O O (e.1) O O) ?_
 refine zG ?_
 refine SW O O O O O (fun w e => DN O O) ?_
 refine SW O O O O O (fun w e => CN O O (e.1) O O) ?_
 refine SW O O O O O (fun w e => DD O O) ?_
 refine SW O O O O O (fun w e => CN O O (e.2.1) O O) ?_
 refine zG ?_
 refine GZ (o := ⟨some 9, _, _, _, _, _⟩) O O O O (CH EH O (OG _ x.num _ ((y.den : Nat) : Int) _ (e5 E) E.2.2.1 (Fits.mono Fx.1 AE) (Fits.mono Fy.2 AE)) O E ?_)
 intro v G D J E
 refine ⟨E.2, ?_⟩
 refine zG ?_
 refine GZ (o := ⟨some 14, _, _, _, _, _⟩) O O O O (CH EH O (OG _ y.num _ ((x.den : Nat) : Int) _ (e4 E) (e5 E) (Fits.mono Fy.1 AE) (Fits.mono Fx.2 AE)) O E ?_)
 intro u F C I E
 refine ⟨E.2.2, ?_⟩
 refine zG ?_
 refine GZ (o := ⟨some 15, _, _, _, _, _⟩) O O O O (CE QK O (uQ _ (x.num * ((y.den : Nat) : Int)) _ (y.num * ((x.den : Nat) : Int)) _ E.2.1 E.1) O E ?_)
 intro t H E
 refine ⟨E.2.2, ?_⟩
 refine zG ?_
 exact ⟨rfl, e8 E⟩
end Go.Proofs.YtmppigbbkjepiaaGreatDoor
