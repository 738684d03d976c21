/- Helping facts of KitN; no other conditions. Helping facts of Rat5; no other conditions. -/
import Derived.Test.YtmppigbbkjepiaaGreatDoorKitR
import Derived.Lib.OthersKept
import Derived.Test.YtmppigbbkjepiaaGreatDoorAddP
namespace Go.Proofs.YtmppigbbkjepiaaGreatDoor
open Go.RowKit W
def WG (c : Int) : Bool := (decide (65 ≤ c) && decide (c ≤ 90)) || (decide (97 ≤ c) && decide (c ≤ 122))
def ZD (c : Int) : Bool := (decide (48 ≤ c) && decide (c ≤ 57)) || decide (c = 95)
theorem Ce (c : Int) : WG c = true ↔ (65 ≤ c ∧ c ≤ 90) ∨ (97 ≤ c ∧ c ≤ 122) := by
  unfold WG
  simp only [Bool.or_eq_true, Bool.and_eq_true, decide_eq_true_eq]
theorem Bl (c : Int) : ZD c = true ↔ (48 ≤ c ∧ c ≤ 57) ∨ c = 95 := by
  unfold ZD
  simp only [Bool.or_eq_true, Bool.and_eq_true, decide_eq_true_eq]
theorem Cd {c : Int} (h : (65 ≤ c ∧ c ≤ 90) ∨ (97 ≤ c ∧ c ≤ 122)) : WG c = true := (Ce c).2 h
theorem yM {c : Int} (h : ¬ ((65 ≤ c ∧ c ≤ 90) ∨ (97 ≤ c ∧ c ≤ 122))) : WG c = false := by
  cases e : WG c with
  | false => rfl
  | true => exact absurd ((Ce c).1 e) h
theorem Bk {c : Int} (h : (48 ≤ c ∧ c ≤ 57) ∨ c = 95) : ZD c = true := (Bl c).2 h
theorem Kt {c : Int} (h : ¬ ((48 ≤ c ∧ c ≤ 57) ∨ c = 95)) : ZD c = false := by
  cases e : ZD c with
  | false => rfl
  | true => exact absurd ((Bl c).1 e) h
theorem YW (b : UInt8) : WG ((b.toNat : Nat) : Int) = OZ b := by
  unfold WG OZ
  have k : (65 ≤ ((b.toNat : Nat) : Int)) ↔ 65 ≤ b.toNat := by omega
  have h : (((b.toNat : Nat) : Int) ≤ 90) ↔ b.toNat ≤ 90 := by omega
  have f : (97 ≤ ((b.toNat : Nat) : Int)) ↔ 97 ≤ b.toNat := by omega
  have e : (((b.toNat : Nat) : Int) ≤ 122) ↔ b.toNat ≤ 122 := by omega
  simp only [k, h, f, e]
theorem YS (b : UInt8) : (WG ((b.toNat : Nat) : Int) || ZD ((b.toNat : Nat) : Int)) = MW b := by
  rw [YW]
  unfold ZD MW
  have h : (48 ≤ ((b.toNat : Nat) : Int)) ↔ 48 ≤ b.toNat := by omega
  have f : (((b.toNat : Nat) : Int) ≤ 57) ↔ b.toNat ≤ 57 := by omega
  have e : (((b.toNat : Nat) : Int) = 95) ↔ b.toNat = 95 := by omega
  simp only [h, f, e]
  simp only [Bool.or_assoc]
def Gp (s : Bs) (i : Nat) : Prop := ∀ j b, j < i → s[j]? = some b → (if j = 0 then OZ b else MW b) = true
theorem Gm (s : Bs) : Gp s 0 := fun j _ h => absurd h (Nat.not_lt_zero j)
theorem UG {s : Bs} {i : Nat} {b : UInt8} (h : Gp s i) (hb : s[i]? = some b) (hok : (if i = 0 then OZ b else MW b) = true) : Gp s (i + 1) := by
  intro j c k f
  by_cases e : j = i
  · subst e; rw [hb] at f; simp only [Option.some.injEq] at f; subst f; exact hok
  · exact h j c AA f
theorem cM (s : Bs) : LZ s = true ↔ 1 ≤ s.length ∧ s.length ≤ 12 ∧ Gp s s.length := by
  cases s with
  | nil => simp [LZ]
  | cons c r =>
    simp only [LZ, Bool.and_eq_true, decide_eq_true_eq, List.all_eq_true]
    constructor
    · rintro ⟨⟨k, f⟩, l⟩
      refine ⟨by simp, k, fun j b h e => ?_⟩
      cases j with
      | zero => simp at e; subst e; simpa using f
      | succ j => rw [if_neg AA]; simp at e; exact l b (List.mem_of_getElem? e)
    · rintro ⟨_, k, f⟩
      refine ⟨⟨k, by simpa using f 0 c AH O⟩, fun b e => ?_⟩
      obtain ⟨j, h⟩ := List.getElem?_of_mem e
      have o := (List.getElem?_eq_some_iff.1 h).1
      have := f (j + 1) b (by simp; omega) (by simpa using h)
      simpa using this
theorem QB {s : Bs} {i : Nat} {b : UInt8} (hb : s[i]? = some b) (h : (if i = 0 then OZ b else MW b) = false) : LZ s = false := by
  cases e : LZ s with
  | false => rfl
  | true =>
    have := ((cM s).1 e).2.2 i b (List.getElem?_eq_some_iff.1 hb).1 hb
    rw [h] at this; cases this
theorem yW {s : Bs} (h : s.length < 1) : LZ s = false := by
  cases e : LZ s with
  | false => rfl
  | true => have := ((cM s).1 e).1; omega
theorem Ha {s : Bs} (h : s.length > 12) : LZ s = false := by
  cases e : LZ s with
  | false => rfl
  | true => have := ((cM s).1 e).2.1; omega
theorem Mm {s : Bs} {i : Nat} (h1 : ¬ s.length < 1) (h2 : ¬ s.length > 12) (h : Gp s i) (hi : s.length ≤ i) : LZ s = true := (cM s).2 ⟨by omega, by omega, fun j b hj hb => h j b AA hb⟩
theorem Di (a : Bs) {i : Nat} {b : UInt8} (h : a[i]? = some b) : (bs a).get! i = b := by
  have f := Ob a i
  rw [h] at f
  have e : (bs a).data[i]? = some b := by
    have := FL a
    rw [← Array.getElem?_toList, this]; exact h
  show (bs a).data[i]! = b
  rw [getElem!_def, e]
theorem zT (a : Bs) {i : Nat} {b : UInt8} (h : a[i]? = some b) (hb : b.toNat < 128) : Utf8.decode (bs a) i = (b.toNat, 1) := by
  have e := Di a h
  simp only [Utf8.decode, Nat.add_zero, e, hb, if_true]
theorem vE (a : Bs) {i : Nat} {b : UInt8} (h : a[i]? = some b) (hb : ¬ b.toNat < 128) : 128 ≤ (Utf8.decode (bs a) i).1 := by
  have e := Di a h
  simp only [Utf8.decode, Nat.add_zero, e]
  rw [if_neg hb]
  have f : 128 ≤ Utf8.runeError := by decide
  repeat' split
  all_goals first | exact f | (rename_i g; simp at g ⊢; omega) | (rename_i g _; simp at g ⊢; omega)
theorem oI {c : Nat} (h : 128 ≤ c) : WG ((c : Nat) : Int) = false := by
  unfold WG
  simp only [Bool.or_eq_false_iff, Bool.and_eq_false_iff, decide_eq_false_iff_not]
  omega
theorem yY {b : UInt8} (h : ¬ b.toNat < 128) : OZ b = false := by rw [← YW]; exact oI AA
theorem yV {b : UInt8} (h : ¬ b.toNat < 128) : MW b = false := by
  rw [← YS, oI AA]
  unfold ZD
  simp only [Bool.false_or, Bool.or_eq_false_iff, Bool.and_eq_false_iff, decide_eq_false_iff_not]
  omega
def fIt (k : Nat) (s : ByteArray) (pos : Nat) : SF := ⟨fun w => w.heap[k]? = some (.stringIter s pos), fun c => c ≠ k,
  fun h hb => (hb.block k (Array.getElem?_eq_some_iff.1 h).1).trans h, fun h _ ho hb => (hb.block k (Ne.symm ho)).trans h⟩
theorem Env.it {w : World} {L : List SF} {k pos : Nat} {s : ByteArray} (E : Env w L) (h : w.heap[k]? = some (.stringIter s pos)) : Env w (fIt k s pos :: L) := ⟨h, E⟩
theorem Mc {b : UInt8} {i : Nat} (h : WG ((b.toNat : Nat) : Int) = true) : (if i = 0 then OZ b else MW b) = true := by
  split
  · rw [← YW]; exact h
  · rw [← YS, h]; rfl
theorem qW {b : UInt8} {i : Nat} (hi : i = 0) (h : WG ((b.toNat : Nat) : Int) = false) : (if i = 0 then OZ b else MW b) = false := by rw [if_pos hi, ← YW]; exact h
theorem xL {b : UInt8} {i : Nat} (hi : ¬ i = 0) (h : ZD ((b.toNat : Nat) : Int) = true) : (if i = 0 then OZ b else MW b) = true := by rw [if_neg hi, ← YS, h, Bool.or_true]
theorem pY {b : UInt8} {i : Nat} (hi : ¬ i = 0) (h : WG ((b.toNat : Nat) : Int) = false) (g : ZD ((b.toNat : Nat) : Int) = false) : (if i = 0 then OZ b else MW b) = false := by rw [if_neg hi, ← YS, h, g]; rfl
theorem uP {b : UInt8} {i : Nat} (h : ¬ b.toNat < 128) : (if i = 0 then OZ b else MW b) = false := by
  split
  · exact yY h
  · exact yV h
theorem Fu {c : Nat} (h : 128 ≤ c) : ZD ((c : Nat) : Int) = false := by
  unfold ZD
  simp only [Bool.or_eq_false_iff, Bool.and_eq_false_iff, decide_eq_false_iff_not]
  omega
theorem ET {b : Bool} (h : ¬ b = true) : b = false := by cases b <;> simp_all
section
variable {o : Oper} {a : Act} {w : World} {K : Act → World → Prop} {Q : Exit → Act → World → Prop}
theorem mY {P : Program} {T : TypeId} {x : Operand} {s : ByteArray} (ho : o.op = .range T x) (hT : P.underlying T = some .string) (hx : a.eval x = .string s)
    (h : ∀ k w', k = w.heap.size → w'.heap.size = w.heap.size + 1 → Below w.heap.size w w' → w'.heap[k]? = some (.stringIter s 0) → K (a.put o.dst (.pointer (some ⟨k, 0, none⟩))) w') : o.wp P a w K Q := by
  refine DI (v := .pointer (some ⟨w.heap.size, 0, none⟩)) (w' := w.iter s 0) ?_ (h _ _ O (by simp [World.iter]) ((Below.refl _ _).alloc (Nat.le_refl _) _) (World.iter_heap _ _ _))
  unfold execOp; rw [ho]
  simp [hx, run_range_string (P := P) w T s hT]
theorem yD (w : World) (k : Nat) (s : ByteArray) (pos : Nat) : Onl k w (w.iterAt k s pos) := ⟨rfl, rfl, rfl, Lib.iterAt_size _ _ _ _, fun j hj => Lib.iterAt_other w k j s pos hj⟩
theorem tZ {w : World} {k pos : Nat} {s : ByteArray} (h : w.heap[k]? = some (.stringIter s pos)) : wK w k := by
  intro o n e
  simp [World.cell?, h] at e
theorem dQ {P : Program} {x : Operand} {k pos c n : Nat} {s : ByteArray} (ho : o.op = .next x true) (hx : a.eval x = .pointer (some ⟨k, 0, none⟩)) (hk : w.heap[k]? = some (.stringIter s pos)) (hd : Utf8.decode s pos = (c, n)) (hp : pos < s.size)
    (h : ∀ w', Onl k w w' → w'.heap[k]? = some (.stringIter s (pos + n)) → K (a.put o.dst (.tuple #[.bool true, .int .i64 ↑pos, .int .i32 ↑c])) w') : o.wp P a w K Q := by
  have e := Lib.run_next_any_at (P := P) w k s pos o.type hk hp
  rw [hd] at e
  refine DI (v := .tuple #[.bool true, .int .i64 ↑pos, .int .i32 ↑c]) (w' := w.iterAt k s (pos + n)) ?_ (h _ (yD _ _ _ _) (Lib.iterAt_heap w k s pos _ hk))
  unfold execOp; rw [ho]
  simp [hx, e]
theorem iE {P : Program} {x : Operand} {k pos : Nat} {s : ByteArray} (ho : o.op = .next x true) (hx : a.eval x = .pointer (some ⟨k, 0, none⟩)) (hk : w.heap[k]? = some (.stringIter s pos)) (hp : ¬ pos < s.size)
    (h : K (a.put o.dst (.tuple #[.bool false])) w) : o.wp P a w K Q := by
  refine DI (v := .tuple #[.bool false]) (w' := w) ?_ h
  unfold execOp; rw [ho]
  simp [hx, Lib.run_next_end_at (P := P) w k s pos o.type hk hp]
end
end Go.Proofs.YtmppigbbkjepiaaGreatDoor
set_option maxHeartbeats 8000000
set_option maxRecDepth 100000
namespace Go.Proofs.YtmppigbbkjepiaaGreatDoor
open Go.Proofs.Tryz
open Go.RowKit W
theorem UP (n : Int) (w : World) (h1 : -9223372036854775808 ≤ n) (h2 : n ≤ 9223372036854775807) :
    Calls prog 22 #[.int .i64 n] w (RetP w ((n : Int) : Rat).num (((((n : Int) : Rat)).den : Nat) : Int)) := by
 have E := Env.start w
 go_enter func22, ntmps22
 refine zG ?_
 refine EF O (CB GV O ?_)
 intro z G e1 B y e
 have H : w.heap.size ≤ z := by rw [e1]; exact E.1.size
 replace E := E.below y
 clear e1
 refine zG ?_
 refine EF O (CH IC O (dN n _ h1 h2) O E ?_)
 intro F l h u E
 replace e := e.below u
 refine zG ?_
 refine EF O (CH IC O (dN 1 _ AE AE) O E ?_)
 intro D k f t E
 replace e := e.below t
 refine zG ?_
 refine V (v := .agg #[.bool l, h, .bool k, f]) O O (LT O O O) ?_
 refine zG ?_
 refine EF O (BY GV O O O e O O (MH (IsI.one E.2.1) (IsI.one E.1)) ?_)
 intro C q o
 replace E := (E.onl (e.noW (PY FM FM)) zK q).x o
 have p := CY GV E.1 rfl
 refine zG ?_
 exact AQ (v := .agg #[.bool l, h, .bool k, f]) (by simp [results, results22, asAddr, p]) O ⟨_, _, _, _, O, WH O E.2.2.1, WH O E.2.1, e3 E⟩
theorem Ou (na : Bool) (sa : Value) (ma : Bool) (ta : Value) (x : Rat) (nb : Bool) (sb : Value) (mb : Bool) (tb : Value) (y : Rat) (w : World) (hna : IsI w (.agg #[.bool na, sa]) x.num) (hda : IsI w (.agg #[.bool ma, ta]) ((x.den : Nat) : Int)) (hnb : IsI w (.agg #[.bool nb, sb]) y.num) (hdb : IsI w (.agg #[.bool mb, tb]) ((y.den : Nat) : Int)) (Fx : FitQ x 100000000) (Fy : FitQ y 100000000) :
    Calls prog 60 #[.agg #[.bool na, sa, .bool ma, ta], .agg #[.bool nb, sb, .bool mb, tb]] w (RetP w (x + y).num (((x + y).den : Nat) : Int)) := by
 have E := Env.start w
 replace E := (E.i hna).i hda
 replace E := (E.i hnb).i hdb
 go_enter func60, ntmps60
 refine zG ?_
 refine EF O (CI (cs := [.bool na, sa, .bool ma, ta]) O O ?_)
 intro J w1 e1 z1 d1 Q
 have l1 : w.heap.size ≤ J := by rw [e1]; exact (e4 E).size
 replace E := E.below d1
 clear e1
 replace E := E.x Q
 refine zG ?_
 refine EF O (CI (cs := [.bool nb, sb, .bool mb, tb]) O O ?_)
 intro I w2 e2 z2 d2 P
 have H : J < I := by rw [e2]; exact Bx.lt E.1
 replace E := E.below d2
 clear e2
 replace E := E.x P
 refine zG ?_
 refine EF O (CB GV O ?_)
 intro b3 w3 e3 z3 d3 f
 have G : I < b3 := by rw [e3]; exact Bx.lt E.1
 replace E := E.below d3
 clear e3
 refine zG ?_
 refine sE E [0,1,2,3,5,6,7,8,11,12,13,14,4,9,10,15,16,17] ?_
 replace E := E.drew
 replace f := Bx.drew f
 refine SW O O O O O (fun w e => EC O O) ?_
 refine SW O O O O O (fun w e => CS O O (e.2.1) O O) ?_
 refine SW O O O O O (fun w e => DU O O) ?_
 refine SW O O O O O (fun w e => CS O O (e.1) O O) ?_
 refine zG ?_
 refine SW O O O O O (fun w e => EC O O) ?_
 refine SW O O O O O (fun w e => CS O O (e.1) O O) ?_
 refine SW O O O O O (fun w e => DU O O) ?_
 refine SW O O O O O (fun w e => CS O O (e.2.1) O O) ?_
 refine zG ?_
 refine SW O O O O O (fun w e => DU O O) ?_
 refine SW O O O O O (fun w e => CS O O (e.2.1) O O) ?_
 refine SW O O O O O (fun w e => DU O O) ?_
 refine SW O O O O O (fun w e => CS O O (e.1) O O) ?_
 refine zG ?_
 refine JM (o := ⟨some 9, _, _, _, _, _⟩) O O O O (CH EP O (PJ _ x.num _ ((y.den : Nat) : Int) _ (e5 E) E.2.2.1 (Fits.mono Fx.1 AE) (Fits.mono Fy.2 AE)) O E ?_)
 intro w5 n5 s5 d5 E
 replace f := f.below d5
 refine ⟨E.2, ?_⟩
 have N : Fits (x.num * ((y.den : Nat) : Int)) 200000000 := GK Fx.1 Fy.2
 refine zG ?_
 refine JM (o := ⟨some 14, _, _, _, _, _⟩) O O O O (CH EP O (PJ _ y.num _ ((x.den : Nat) : Int) _ (e4 E) (e5 E) (Fits.mono Fy.1 AE) (Fits.mono Fx.2 AE)) O E ?_)
 intro w7 n7 s7 d7 E
 replace f := f.below d7
 refine ⟨E.2.2, ?_⟩
 have L : Fits (y.num * ((x.den : Nat) : Int)) 200000000 := GK Fy.1 Fx.2
 refine zG ?_
 refine JM (o := ⟨some 15, _, _, _, _, _⟩) O O O O (CH TQ O (Af _ (x.num * ((y.den : Nat) : Int)) _ (y.num * ((x.den : Nat) : Int)) _ E.2.1 E.1 (Fits.mono N AE) (Fits.mono L AE)) O E ?_)
 intro w9 n9 s9 Y E
 replace f := f.below Y
 refine ⟨E.2.2.2, ?_⟩
 have F8 : Fits ((x.num * ((y.den : Nat) : Int)) + (y.num * ((x.den : Nat) : Int))) 200000001 := dT N L (k := 200000000) AE AE
 refine zG ?_
 refine JM (o := ⟨some 20, _, _, _, _, _⟩) O O O O (CH EP O (PJ _ ((x.den : Nat) : Int) _ ((y.den : Nat) : Int) _ (e7 E) (e5 E) (Fits.mono Fx.2 AE) (Fits.mono Fy.2 AE)) O E ?_)
 intro T X U D E
 replace f := f.below D
 refine ⟨E.2.2.2.2, ?_⟩
 have F : Fits (((x.den : Nat) : Int) * ((y.den : Nat) : Int)) 200000000 := GK Fx.2 Fy.2
 refine zG ?_
 refine JM (o := ⟨some 21, _, _, _, _, _⟩) O O O O (CV FW O (NV _ ((x.num * ((y.den : Nat) : Int)) + (y.num * ((x.den : Nat) : Int))) _ (((x.den : Nat) : Int) * ((y.den : Nat) : Int)) _ E.2.1 E.1 (Int.mul_ne_zero (XS x) (XS y)) (Fits.mono F8 AE) (Fits.mono F AE)) O E ?_)
 intro S u p B l C E
 replace f := f.below C
 refine ⟨E.2.2.2.2.2.2, ?_⟩
 refine zG ?_
 refine JM (o := ⟨none, _, _, _, _, _⟩) O O O O (BY GV O O O f O O (MH (IsI.one E.2.1) (IsI.one E.1)) ?_)
 intro R t h
 replace E := (E.onl (f.noW (PY FM FM)) zK t).x h
 refine ⟨E.2.2.2.2.2.2.2, ?_⟩
 have q := CY GV E.1 rfl
 refine zG ?_
 exact AQ (v := .agg #[.bool u, p, .bool B, l]) (by simp [results, results60, asAddr, q]) O ⟨_, _, _, _, O, WH (congrArg Rat.num (Xe x y)) E.2.2.1, WH (congrArg (fun z => ((Rat.den z : Nat) : Int)) (Xe x y)) E.2.1, TI E⟩
theorem Xn (na : Bool) (sa : Value) (ma : Bool) (ta : Value) (x : Rat) (nb : Bool) (sb : Value) (mb : Bool) (tb : Value) (y : Rat) (w : World) (hna : IsI w (.agg #[.bool na, sa]) x.num) (hda : IsI w (.agg #[.bool ma, ta]) ((x.den : Nat) : Int)) (hnb : IsI w (.agg #[.bool nb, sb]) y.num) (hdb : IsI w (.agg #[.bool mb, tb]) ((y.den : Nat) : Int)) (Fx : FitQ x 100000000) (Fy : FitQ y 100000000) :
    Calls prog 57 #[.agg #[.bool na, sa, .bool ma, ta], .agg #[.bool nb, sb, .bool mb, tb]] w (RetP w (x * y).num (((x * y).den : Nat) : Int)) := by
 have E := Env.start w
 replace E := (E.i hna).i hda
 replace E := (E.i hnb).i hdb
 go_enter func57, ntmps57
 refine zG ?_
 refine EF O (CI (cs := [.bool na, sa, .bool ma, ta]) O O ?_)
 intro u w1 e1 z1 R C
 have l1 : w.heap.size ≤ u := by rw [e1]; exact (e4 E).size
 replace E := E.below R
 clear e1
 replace E := E.x C
 refine zG ?_
 refine EF O (CI (cs := [.bool nb, sb, .bool mb, tb]) O O ?_)
 intro t w2 e2 Y Q B
 have q : u < t := by rw [e2]; exact Bx.lt E.1
 replace E := E.below Q
 clear e2
 replace E := E.x B
 refine zG ?_
 refine EF O (CB GV O ?_)
 intro S w3 e3 X P f
 have p : t < S := by rw [e3]; exact Bx.lt E.1
 replace E := E.below P
 clear e3
 refine zG ?_
 refine sE E [0,1,2,3,5,6,7,8,4,9,10,11] ?_
 replace E := E.drew
 replace f := Bx.drew f
 refine SW O O O O O (fun w e => EC O O) ?_
 refine SW O O O O O (fun w e => CS O O (e.2.1) O O) ?_
 refine SW O O O O O (fun w e => EC O O) ?_
 refine SW O O O O O (fun w e => CS O O (e.1) O O) ?_
 refine zG ?_
 refine SW O O O O O (fun w e => DU O O) ?_
 refine SW O O O O O (fun w e => CS O O (e.2.1) O O) ?_
 refine SW O O O O O (fun w e => DU O O) ?_
 refine SW O O O O O (fun w e => CS O O (e.1) O O) ?_
 refine zG ?_
 refine JM (o := ⟨some 9, _, _, _, _, _⟩) O O O O (CH EP O (PJ _ x.num _ y.num _ (e5 E) (e3 E) (Fits.mono Fx.1 AE) (Fits.mono Fy.1 AE)) O E ?_)
 intro w5 n5 s5 N E
 replace f := f.below N
 refine ⟨E.2, ?_⟩
 have U : Fits (x.num * y.num) 200000000 := GK Fx.1 Fy.1
 refine zG ?_
 refine JM (o := ⟨some 14, _, _, _, _, _⟩) O O O O (CH EP O (PJ _ ((x.den : Nat) : Int) _ ((y.den : Nat) : Int) _ (e5 E) (e3 E) (Fits.mono Fx.2 AE) (Fits.mono Fy.2 AE)) O E ?_)
 intro w7 n7 s7 L E
 replace f := f.below L
 refine ⟨E.2.2, ?_⟩
 have T : Fits (((x.den : Nat) : Int) * ((y.den : Nat) : Int)) 200000000 := GK Fx.2 Fy.2
 refine zG ?_
 refine JM (o := ⟨some 15, _, _, _, _, _⟩) O O O O (CV FW O (NV _ (x.num * y.num) _ (((x.den : Nat) : Int) * ((y.den : Nat) : Int)) _ E.2.1 E.1 (Int.mul_ne_zero (XS x) (XS y)) (Fits.mono U AE) (Fits.mono T AE)) O E ?_)
 intro w9 H G I F J E
 replace f := f.below J
 refine ⟨E.2.2.2.2, ?_⟩
 refine zG ?_
 refine JM (o := ⟨none, _, _, _, _, _⟩) O O O O (BY GV O O O f O O (MH (IsI.one E.2.1) (IsI.one E.1)) ?_)
 intro D l h
 replace E := (E.onl (f.noW (PY FM FM)) zK l).x h
 refine ⟨E.2.2.2.2.2, ?_⟩
 have k := CY GV E.1 rfl
 refine zG ?_
 exact AQ (v := .agg #[.bool H, G, .bool I, F]) (by simp [results, results57, asAddr, k]) O ⟨_, _, _, _, O, WH (congrArg Rat.num (Wh x y)) E.2.2.1, WH (congrArg (fun z => ((Rat.den z : Nat) : Int)) (Wh x y)) E.2.1, QQ E⟩
theorem ZC (na : Bool) (sa : Value) (ma : Bool) (ta : Value) (x : Rat) (w : World) (hna : IsI w (.agg #[.bool na, sa]) x.num) (hda : IsI w (.agg #[.bool ma, ta]) ((x.den : Nat) : Int)) :
    Calls prog 55 #[.agg #[.bool na, sa, .bool ma, ta]] w (dK w (OB x.num)) := by
 have E := Env.start w
 replace E := (E.i hna).i hda
 go_enter func55, ntmps55
 refine zG ?_
 refine EF O (CI (cs := [.bool na, sa, .bool ma, ta]) O O ?_)
 intro p l e1 h f e
 replace E := E.below f
 clear e1
 replace E := E.x e
 refine zG ?_
 refine V O O (EC O O) ?_
 refine V O O (CS O O E.1 O O) ?_
 refine zG ?_
 refine EF O (CK RW O (rW _ x.num _ E.2.2.1) O E ?_)
 intro k o E
 refine zG ?_
 exact ⟨rfl, e3 E⟩
end Go.Proofs.YtmppigbbkjepiaaGreatDoor
