/- Names: plain facts, and the rules of a range over a string. The reference of rationals: its arithmetic and Between. (Printed by g_ref02b.py.) -/
import Derived.Test.YtmppigbbkjepiaaGreatDoorKitR
import Derived.Lib.OthersKept
namespace Go.Proofs.YtmppigbbkjepiaaGreatDoor
open Go.RowKit W
def SH (c : Int) : Bool := (decide (65 ≤ c) && decide (c ≤ 90)) || (decide (97 ≤ c) && decide (c ≤ 122))
def XV (c : Int) : Bool := (decide (48 ≤ c) && decide (c ≤ 57)) || decide (c = 95)
theorem yU (c : Int) : SH c = true ↔ (65 ≤ c ∧ c ≤ 90) ∨ (97 ≤ c ∧ c ≤ 122) := by
  unfold SH
  simp only [Bool.or_eq_true, Bool.and_eq_true, decide_eq_true_eq]
theorem yA (c : Int) : XV c = true ↔ (48 ≤ c ∧ c ≤ 57) ∨ c = 95 := by
  unfold XV
  simp only [Bool.or_eq_true, Bool.and_eq_true, decide_eq_true_eq]
theorem gC {c : Int} (h : (65 ≤ c ∧ c ≤ 90) ∨ (97 ≤ c ∧ c ≤ 122)) : SH c = true := (yU c).2 h
theorem cH {c : Int} (h : ¬ ((65 ≤ c ∧ c ≤ 90) ∨ (97 ≤ c ∧ c ≤ 122))) : SH c = false := by
  cases e : SH c with
  | false => rfl
  | true => exact absurd ((yU c).1 e) h
theorem fT {c : Int} (h : (48 ≤ c ∧ c ≤ 57) ∨ c = 95) : XV c = true := (yA c).2 h
theorem nW {c : Int} (h : ¬ ((48 ≤ c ∧ c ≤ 57) ∨ c = 95)) : XV c = false := by
  cases e : XV c with
  | false => rfl
  | true => exact absurd ((yA c).1 e) h
theorem XP (b : UInt8) : SH ((b.toNat : Nat) : Int) = TF b := by
  unfold SH TF
  have k : (65 ≤ ((b.toNat : Nat) : Int)) ↔ 65 ≤ b.toNat := by omega
  have h : (((b.toNat : Nat) : Int) ≤ 90) ↔ b.toNat ≤ 90 := by omega
  have f : (97 ≤ ((b.toNat : Nat) : Int)) ↔ 97 ≤ b.toNat := by omega
  have e : (((b.toNat : Nat) : Int) ≤ 122) ↔ b.toNat ≤ 122 := by omega
  simp only [k, h, f, e]
theorem XJ (b : UInt8) : (SH ((b.toNat : Nat) : Int) || XV ((b.toNat : Nat) : Int)) = UQ b := by
  rw [XP]
  unfold XV UQ
  have h : (48 ≤ ((b.toNat : Nat) : Int)) ↔ 48 ≤ b.toNat := by omega
  have f : (((b.toNat : Nat) : Int) ≤ 57) ↔ b.toNat ≤ 57 := by omega
  have e : (((b.toNat : Nat) : Int) = 95) ↔ b.toNat = 95 := by omega
  simp only [h, f, e]
  simp only [Bool.or_assoc]
def vN (s : Bs) (i : Nat) : Prop := ∀ j b, j < i → s[j]? = some b → (if j = 0 then TF b else UQ b) = true
theorem mC (s : Bs) : vN s 0 := fun j _ h => absurd h (Nat.not_lt_zero j)
theorem LN {s : Bs} {i : Nat} {b : UInt8} (h : vN s i) (hb : s[i]? = some b) (hok : (if i = 0 then TF b else UQ b) = true) : vN s (i + 1) := by
  intro j c k f
  by_cases e : j = i
  · subst e; rw [hb] at f; simp only [Option.some.injEq] at f; subst f; exact hok
  · exact h j c Z f
theorem aV (s : Bs) : QQ s = true ↔ 1 ≤ s.length ∧ s.length ≤ 12 ∧ vN s s.length := by
  cases s with
  | nil => simp [QQ]
  | cons c r =>
    simp only [QQ, Bool.and_eq_true, decide_eq_true_eq, List.all_eq_true]
    constructor
    · rintro ⟨⟨k, f⟩, l⟩
      refine ⟨by simp, k, fun j b h e => ?_⟩
      cases j with
      | zero => simp at e; subst e; simpa using f
      | succ j => rw [if_neg Z]; simp at e; exact l b (List.mem_of_getElem? e)
    · rintro ⟨_, k, f⟩
      refine ⟨⟨k, by simpa using f 0 c AG O⟩, fun b e => ?_⟩
      obtain ⟨j, h⟩ := List.getElem?_of_mem e
      have o := (List.getElem?_eq_some_iff.1 h).1
      have := f (j + 1) b (by simp; omega) (by simpa using h)
      simpa using this
theorem LA {s : Bs} {i : Nat} {b : UInt8} (hb : s[i]? = some b) (h : (if i = 0 then TF b else UQ b) = false) : QQ s = false := by
  cases e : QQ s with
  | false => rfl
  | true =>
    have := ((aV s).1 e).2.2 i b (List.getElem?_eq_some_iff.1 hb).1 hb
    rw [h] at this; cases this
theorem jC {s : Bs} (h : s.length < 1) : QQ s = false := by
  cases e : QQ s with
  | false => rfl
  | true => have := ((aV s).1 e).1; omega
theorem mH {s : Bs} (h : s.length > 12) : QQ s = false := by
  cases e : QQ s with
  | false => rfl
  | true => have := ((aV s).1 e).2.1; omega
theorem rZ {s : Bs} {i : Nat} (h1 : ¬ s.length < 1) (h2 : ¬ s.length > 12) (h : vN s i) (hi : s.length ≤ i) : QQ s = true := (aV s).2 ⟨by omega, by omega, fun j b hj hb => h j b Z hb⟩
theorem Sx (a : Bs) {i : Nat} {b : UInt8} (h : a[i]? = some b) : (bs a).get! i = b := by
  have f := wN a i
  rw [h] at f
  have e : (bs a).data[i]? = some b := by
    have := FI a
    rw [← Array.getElem?_toList, this]; exact h
  show (bs a).data[i]! = b
  rw [getElem!_def, e]
theorem wH (a : Bs) {i : Nat} {b : UInt8} (h : a[i]? = some b) (hb : b.toNat < 128) : Utf8.decode (bs a) i = (b.toNat, 1) := by
  have e := Sx a h
  simp only [Utf8.decode, Nat.add_zero, e, hb, if_true]
theorem sX (a : Bs) {i : Nat} {b : UInt8} (h : a[i]? = some b) (hb : ¬ b.toNat < 128) : 128 ≤ (Utf8.decode (bs a) i).1 := by
  have e := Sx a h
  simp only [Utf8.decode, Nat.add_zero, e]
  rw [if_neg hb]
  have f : 128 ≤ Utf8.runeError := by decide
  repeat' split
  all_goals first | exact f | (rename_i g; simp at g ⊢; omega) | (rename_i g _; simp at g ⊢; omega)
theorem mF {c : Nat} (h : 128 ≤ c) : SH ((c : Nat) : Int) = false := by
  unfold SH
  simp only [Bool.or_eq_false_iff, Bool.and_eq_false_iff, decide_eq_false_iff_not]
  omega
theorem vX {b : UInt8} (h : ¬ b.toNat < 128) : TF b = false := by rw [← XP]; exact mF Z
theorem vW {b : UInt8} (h : ¬ b.toNat < 128) : UQ b = false := by
  rw [← XJ, mF Z]
  unfold XV
  simp only [Bool.false_or, Bool.or_eq_false_iff, Bool.and_eq_false_iff, decide_eq_false_iff_not]
  omega
def fIt (k : Nat) (s : ByteArray) (pos : Nat) : SF := ⟨fun w => w.heap[k]? = some (.stringIter s pos), fun c => c ≠ k,
  fun h hb => (hb.block k (Array.getElem?_eq_some_iff.1 h).1).trans h, fun h _ ho hb => (hb.block k (Ne.symm ho)).trans h⟩
theorem Env.it {w : World} {L : List SF} {k pos : Nat} {s : ByteArray} (E : Env w L) (h : w.heap[k]? = some (.stringIter s pos)) : Env w (fIt k s pos :: L) := ⟨h, E⟩
theorem oQ {b : UInt8} {i : Nat} (h : SH ((b.toNat : Nat) : Int) = true) : (if i = 0 then TF b else UQ b) = true := by
  split
  · rw [← XP]; exact h
  · rw [← XJ, h]; rfl
theorem gG {b : UInt8} {i : Nat} (hi : i = 0) (h : SH ((b.toNat : Nat) : Int) = false) : (if i = 0 then TF b else UQ b) = false := by rw [if_pos hi, ← XP]; exact h
theorem iH {b : UInt8} {i : Nat} (hi : ¬ i = 0) (h : XV ((b.toNat : Nat) : Int) = true) : (if i = 0 then TF b else UQ b) = true := by rw [if_neg hi, ← XJ, h, Bool.or_true]
theorem aF {b : UInt8} {i : Nat} (hi : ¬ i = 0) (h : SH ((b.toNat : Nat) : Int) = false) (g : XV ((b.toNat : Nat) : Int) = false) : (if i = 0 then TF b else UQ b) = false := by rw [if_neg hi, ← XJ, h, g]; rfl
theorem sH {b : UInt8} {i : Nat} (h : ¬ b.toNat < 128) : (if i = 0 then TF b else UQ b) = false := by
  split
  · exact vX h
  · exact vW h
theorem Cg {c : Nat} (h : 128 ≤ c) : XV ((c : Nat) : Int) = false := by
  unfold XV
  simp only [Bool.or_eq_false_iff, Bool.and_eq_false_iff, decide_eq_false_iff_not]
  omega
theorem DF {b : Bool} (h : ¬ b = true) : b = false := by cases b <;> simp_all
section
variable {o : Oper} {a : Act} {w : World} {K : Act → World → Prop} {Q : Exit → Act → World → Prop}
theorem lE {P : Program} {T : TypeId} {x : Operand} {s : ByteArray} (ho : o.op = .range T x) (hT : P.underlying T = some .string) (hx : a.eval x = .string s)
    (h : ∀ k w', k = w.heap.size → w'.heap.size = w.heap.size + 1 → Below w.heap.size w w' → w'.heap[k]? = some (.stringIter s 0) → K (a.put o.dst (.pointer (some ⟨k, 0, none⟩))) w') : o.wp P a w K Q := by
  refine DT (v := .pointer (some ⟨w.heap.size, 0, none⟩)) (w' := w.iter s 0) ?_ (h _ _ O (by simp [World.iter]) ((Below.refl _ _).alloc (Nat.le_refl _) _) (World.iter_heap _ _ _))
  unfold execOp; rw [ho]
  simp [hx, run_range_string (P := P) w T s hT]
theorem vK (w : World) (k : Nat) (s : ByteArray) (pos : Nat) : Onl k w (w.iterAt k s pos) := ⟨rfl, rfl, rfl, Lib.iterAt_size _ _ _ _, fun j hj => Lib.iterAt_other w k j s pos hj⟩
theorem rQ {w : World} {k pos : Nat} {s : ByteArray} (h : w.heap[k]? = some (.stringIter s pos)) : wZ w k := by
  intro o n e
  simp [World.cell?, h] at e
theorem bT {P : Program} {x : Operand} {k pos c n : Nat} {s : ByteArray} (ho : o.op = .next x true) (hx : a.eval x = .pointer (some ⟨k, 0, none⟩)) (hk : w.heap[k]? = some (.stringIter s pos)) (hd : Utf8.decode s pos = (c, n)) (hp : pos < s.size)
    (h : ∀ w', Onl k w w' → w'.heap[k]? = some (.stringIter s (pos + n)) → K (a.put o.dst (.tuple #[.bool true, .int .i64 ↑pos, .int .i32 ↑c])) w') : o.wp P a w K Q := by
  have e := Lib.run_next_any_at (P := P) w k s pos o.type hk hp
  rw [hd] at e
  refine DT (v := .tuple #[.bool true, .int .i64 ↑pos, .int .i32 ↑c]) (w' := w.iterAt k s (pos + n)) ?_ (h _ (vK _ _ _ _) (Lib.iterAt_heap w k s pos _ hk))
  unfold execOp; rw [ho]
  simp [hx, e]
theorem fJ {P : Program} {x : Operand} {k pos : Nat} {s : ByteArray} (ho : o.op = .next x true) (hx : a.eval x = .pointer (some ⟨k, 0, none⟩)) (hk : w.heap[k]? = some (.stringIter s pos)) (hp : ¬ pos < s.size)
    (h : K (a.put o.dst (.tuple #[.bool false])) w) : o.wp P a w K Q := by
  refine DT (v := .tuple #[.bool false]) (w' := w) ?_ h
  unfold execOp; rw [ho]
  simp [hx, Lib.run_next_end_at (P := P) w k s pos o.type hk hp]
end
end Go.Proofs.YtmppigbbkjepiaaGreatDoor
set_option maxHeartbeats 8000000
set_option maxRecDepth 100000
namespace Go.Proofs.YtmppigbbkjepiaaGreatDoor
open Go.Proofs.Tryz
open Go.RowKit W
theorem bN (n : Int) (w : World) (h1 : -9223372036854775808 ≤ n) (h2 : n ≤ 9223372036854775807) :
    Calls prog 22 #[.int .i64 n] w (pK w ((n : Int) : Rat).num (((((n : Int) : Rat)).den : Nat) : Int)) := by
 have E := Env.start w
 go_enter func22, ntmps22
 refine zG ?_
 refine EF O (CA GI O ?_)
 intro C H q z y e
 have J : w.heap.size ≤ C := by rw [q]; exact E.1.size
 replace E := E.below y
 clear q z y
 refine zG ?_
 refine EF O (CG GH O (YK n _ h1 h2) O E ?_)
 clear E
 intro G p k u E
 replace e := e.below u
 clear u
 refine zG ?_
 refine EF O (CG GH O (YK 1 _ AD AD) O E ?_)
 clear E
 intro F o h t E
 replace e := e.below t
 clear t
 refine zG ?_
 refine V (v := .agg #[.bool p, k, .bool o, h]) O O (KY O O O) ?_
 refine zG ?_
 refine EF O (BX GI O O O e O O (LM (IsI.one E.2.1) (IsI.one E.1)) ?_)
 intro D l f
 replace E := (E.onl (e.noW (NL CW CW)) zK l).x f
 clear e l f
 have B := CY GI E.1 rfl
 refine zG ?_
 exact AP (v := .agg #[.bool p, k, .bool o, h]) (by simp [results, results22, asAddr, B]) O ⟨_, _, _, _, O, VD O E.2.2.1, VD O E.2.1, e3 E⟩
theorem Jo (na : Bool) (sa : Value) (ma : Bool) (ta : Value) (x : Rat) (nb : Bool) (sb : Value) (mb : Bool) (tb : Value) (y : Rat) (w : World) (hna : IsI w (.agg #[.bool na, sa]) x.num) (hda : IsI w (.agg #[.bool ma, ta]) ((x.den : Nat) : Int)) (hnb : IsI w (.agg #[.bool nb, sb]) y.num) (hdb : IsI w (.agg #[.bool mb, tb]) ((y.den : Nat) : Int)) (Fx : FitQ x 100000000) (Fy : FitQ y 100000000) :
    Calls prog 60 #[.agg #[.bool na, sa, .bool ma, ta], .agg #[.bool nb, sb, .bool mb, tb]] w (pK w (x + y).num (((x + y).den : Nat) : Int)) := by
 have E := Env.start w
 replace E := (E.i hna).i hda
 clear hna hda
 replace E := (E.i hnb).i hdb
 clear hnb hdb
 go_enter func60, ntmps60
 refine zG ?_
 refine EF O (CI (cs := [.bool na, sa, .bool ma, ta]) O O ?_)
 intro b1 w1 P z1 X H
 have l1 : w.heap.size ≤ b1 := by rw [P]; exact (e4 E).size
 replace E := (E.below X).x H
 clear P z1 X H
 refine zG ?_
 refine EF O (CI (cs := [.bool nb, sb, .bool mb, tb]) O O ?_)
 intro Y w2 N z2 U G
 have L : b1 < Y := by rw [N]; exact Bx.lt E.1
 replace E := (E.below U).x G
 clear N z2 U G
 refine zG ?_
 refine EF O (CA GI O ?_)
 intro b3 w3 e3 z3 T f
 have J : Y < b3 := by rw [e3]; exact Bx.lt E.1
 replace E := E.below T
 clear e3 z3 T
 refine zG ?_
 refine sE E [0,1,2,3,5,6,7,8,11,12,13,14,4,9,10,15,16,17] ?_
 replace E := E.drew
 replace f := Bx.drew f
 refine SW O O O O O (fun w e => DV O O) ?_
 refine SW O O O O O (fun w e => CO O O (e.2.1) O O) ?_
 refine SW O O O O O (fun w e => DK O O) ?_
 refine SW O O O O O (fun w e => CO O O (e.1) O O) ?_
 refine zG ?_
 refine SW O O O O O (fun w e => DV O O) ?_
 refine SW O O O O O (fun w e => CO O O (e.1) O O) ?_
 refine SW O O O O O (fun w e => DK O O) ?_
 refine SW O O O O O (fun w e => CO O O (e.2.1) O O) ?_
 refine zG ?_
 refine SW O O O O O (fun w e => DK O O) ?_
 refine SW O O O O O (fun w e => CO O O (e.2.1) O O) ?_
 refine SW O O O O O (fun w e => DK O O) ?_
 refine SW O O O O O (fun w e => CO O O (e.1) O O) ?_
 refine zG ?_
 refine JF (o := ⟨some 9, _, _, _, _, _⟩) O O O O (CG EE O (OL _ x.num _ ((y.den : Nat) : Int) _ (e5 E) E.2.2.1 (Fits.mono Fx.1 AD) (Fits.mono Fy.2 AD)) O E ?_)
 clear E
 intro w5 n5 s5 S E
 replace f := f.below S
 clear S
 refine ⟨E.2, ?_⟩
 have F4 : Fits (x.num * ((y.den : Nat) : Int)) 200000000 := FZ Fx.1 Fy.2
 refine zG ?_
 refine JF (o := ⟨some 14, _, _, _, _, _⟩) O O O O (CG EE O (OL _ y.num _ ((x.den : Nat) : Int) _ (e4 E) (e5 E) (Fits.mono Fy.1 AD) (Fits.mono Fx.2 AD)) O E ?_)
 clear E
 intro w7 n7 s7 R E
 replace f := f.below R
 clear R
 refine ⟨E.2.2, ?_⟩
 have F6 : Fits (y.num * ((x.den : Nat) : Int)) 200000000 := FZ Fy.1 Fx.2
 refine zG ?_
 refine JF (o := ⟨some 15, _, _, _, _, _⟩) O O O O (CG SJ O (wX _ (x.num * ((y.den : Nat) : Int)) _ (y.num * ((x.den : Nat) : Int)) _ E.2.1 E.1 (Fits.mono F4 AD) (Fits.mono F6 AD)) O E ?_)
 clear E
 intro w9 n9 s9 Q E
 replace f := f.below Q
 clear Q
 refine ⟨E.2.2.2, ?_⟩
 have F8 : Fits ((x.num * ((y.den : Nat) : Int)) + (y.num * ((x.den : Nat) : Int))) 200000001 := bY F4 F6 (k := 200000000) AD AD
 refine zG ?_
 refine JF (o := ⟨some 20, _, _, _, _, _⟩) O O O O (CG EE O (OL _ ((x.den : Nat) : Int) _ ((y.den : Nat) : Int) _ (e7 E) (e5 E) (Fits.mono Fx.2 AD) (Fits.mono Fy.2 AD)) O E ?_)
 clear E
 intro a2 a4 a3 q E
 replace f := f.below q
 clear q
 refine ⟨E.2.2.2.2, ?_⟩
 have F : Fits (((x.den : Nat) : Int) * ((y.den : Nat) : Int)) 200000000 := FZ Fx.2 Fy.2
 refine zG ?_
 refine JF (o := ⟨some 21, _, _, _, _, _⟩) O O O O (CZ FN O (NE _ ((x.num * ((y.den : Nat) : Int)) + (y.num * ((x.den : Nat) : Int))) _ (((x.den : Nat) : Int) * ((y.den : Nat) : Int)) _ E.2.1 E.1 (Int.mul_ne_zero (WM x) (WM y)) (Fits.mono F8 AD) (Fits.mono F AD)) O E ?_)
 clear E
 intro a1 C u D t p E
 replace f := f.below p
 clear p
 refine ⟨E.2.2.2.2.2.2, ?_⟩
 refine zG ?_
 refine JF (o := ⟨none, _, _, _, _, _⟩) O O O O (BX GI O O O f O O (LM (IsI.one E.2.1) (IsI.one E.1)) ?_)
 intro a0 l h
 replace E := (E.onl (f.noW (NL CW CW)) zK l).x h
 clear f l h
 refine ⟨E.2.2.2.2.2.2.2, ?_⟩
 have B := CY GI E.1 rfl
 refine zG ?_
 exact AP (v := .agg #[.bool C, u, .bool D, t]) (by simp [results, results60, asAddr, B]) O ⟨_, _, _, _, O, VD (congrArg Rat.num (Rv x y)) E.2.2.1, VD (congrArg (fun z => ((Rat.den z : Nat) : Int)) (Rv x y)) E.2.1, VE E⟩
theorem Se (na : Bool) (sa : Value) (ma : Bool) (ta : Value) (x : Rat) (nb : Bool) (sb : Value) (mb : Bool) (tb : Value) (y : Rat) (w : World) (hna : IsI w (.agg #[.bool na, sa]) x.num) (hda : IsI w (.agg #[.bool ma, ta]) ((x.den : Nat) : Int)) (hnb : IsI w (.agg #[.bool nb, sb]) y.num) (hdb : IsI w (.agg #[.bool mb, tb]) ((y.den : Nat) : Int)) (Fx : FitQ x 100000000) (Fy : FitQ y 100000000) :
    Calls prog 57 #[.agg #[.bool na, sa, .bool ma, ta], .agg #[.bool nb, sb, .bool mb, tb]] w (pK w (x * y).num (((x * y).den : Nat) : Int)) := by
 have E := Env.start w
 replace E := (E.i hna).i hda
 clear hna hda
 replace E := (E.i hnb).i hdb
 clear hnb hdb
 go_enter func57, ntmps57
 refine zG ?_
 refine EF O (CI (cs := [.bool na, sa, .bool ma, ta]) O O ?_)
 intro P w1 C S L q
 have l1 : w.heap.size ≤ P := by rw [C]; exact (e4 E).size
 replace E := (E.below L).x q
 clear C S L q
 refine zG ?_
 refine EF O (CI (cs := [.bool nb, sb, .bool mb, tb]) O O ?_)
 intro N w2 B R J p
 have u : P < N := by rw [B]; exact Bx.lt E.1
 replace E := (E.below J).x p
 clear B R J p
 refine zG ?_
 refine EF O (CA GI O ?_)
 intro b3 w3 e3 Q H e
 have t : N < b3 := by rw [e3]; exact Bx.lt E.1
 replace E := E.below H
 clear e3 Q H
 refine zG ?_
 refine sE E [0,1,2,3,5,6,7,8,4,9,10,11] ?_
 replace E := E.drew
 replace e := Bx.drew e
 refine SW O O O O O (fun w f => DV O O) ?_
 refine SW O O O O O (fun w f => CO O O (f.2.1) O O) ?_
 refine SW O O O O O (fun w f => DV O O) ?_
 refine SW O O O O O (fun w f => CO O O (f.1) O O) ?_
 refine zG ?_
 refine SW O O O O O (fun w f => DK O O) ?_
 refine SW O O O O O (fun w f => CO O O (f.2.1) O O) ?_
 refine SW O O O O O (fun w f => DK O O) ?_
 refine SW O O O O O (fun w f => CO O O (f.1) O O) ?_
 refine zG ?_
 refine JF (o := ⟨some 9, _, _, _, _, _⟩) O O O O (CG EE O (OL _ x.num _ y.num _ (e5 E) (e3 E) (Fits.mono Fx.1 AD) (Fits.mono Fy.1 AD)) O E ?_)
 clear E
 intro w5 n5 s5 G E
 replace e := e.below G
 clear G
 refine ⟨E.2, ?_⟩
 have F4 : Fits (x.num * y.num) 200000000 := FZ Fx.1 Fy.1
 refine zG ?_
 refine JF (o := ⟨some 14, _, _, _, _, _⟩) O O O O (CG EE O (OL _ ((x.den : Nat) : Int) _ ((y.den : Nat) : Int) _ (e5 E) (e3 E) (Fits.mono Fx.2 AD) (Fits.mono Fy.2 AD)) O E ?_)
 clear E
 intro w7 n7 s7 F E
 replace e := e.below F
 clear F
 refine ⟨E.2.2, ?_⟩
 have F6 : Fits (((x.den : Nat) : Int) * ((y.den : Nat) : Int)) 200000000 := FZ Fx.2 Fy.2
 refine zG ?_
 refine JF (o := ⟨some 15, _, _, _, _, _⟩) O O O O (CZ FN O (NE _ (x.num * y.num) _ (((x.den : Nat) : Int) * ((y.den : Nat) : Int)) _ E.2.1 E.1 (Int.mul_ne_zero (WM x) (WM y)) (Fits.mono F4 AD) (Fits.mono F6 AD)) O E ?_)
 clear E
 intro w9 Y X m9 U D E
 replace e := e.below D
 clear D
 refine ⟨E.2.2.2.2, ?_⟩
 refine zG ?_
 refine JF (o := ⟨none, _, _, _, _, _⟩) O O O O (BX GI O O O e O O (LM (IsI.one E.2.1) (IsI.one E.1)) ?_)
 intro T k h
 replace E := (E.onl (e.noW (NL CW CW)) zK k).x h
 clear e k h
 refine ⟨E.2.2.2.2.2, ?_⟩
 have l := CY GI E.1 rfl
 refine zG ?_
 exact AP (v := .agg #[.bool Y, X, .bool m9, U]) (by simp [results, results57, asAddr, l]) O ⟨_, _, _, _, O, VD (congrArg Rat.num (Qr x y)) E.2.2.1, VD (congrArg (fun z => ((Rat.den z : Nat) : Int)) (Qr x y)) E.2.1, RG E⟩
theorem UI (na : Bool) (sa : Value) (ma : Bool) (ta : Value) (x : Rat) (w : World) (hna : IsI w (.agg #[.bool na, sa]) x.num) (hda : IsI w (.agg #[.bool ma, ta]) ((x.den : Nat) : Int)) :
    Calls prog 55 #[.agg #[.bool na, sa, .bool ma, ta]] w (XY w (NA x.num)) := by
 have E := Env.start w
 replace E := (E.i hna).i hda
 clear hna hda
 go_enter func55, ntmps55
 refine zG ?_
 refine EF O (CI (cs := [.bool na, sa, .bool ma, ta]) O O ?_)
 intro p o k h f e
 replace E := (E.below f).x e
 clear k h f e
 refine zG ?_
 refine V O O (DV O O) ?_
 refine V O O (CO O O E.1 O O) ?_
 refine zG ?_
 refine EF O (CH LF O (bP _ x.num _ E.2.2.1) O E ?_)
 clear E
 intro l _ E
 refine zG ?_
 exact ⟨rfl, e3 E⟩
end Go.Proofs.YtmppigbbkjepiaaGreatDoor
