/- Helping facts of TxtS; no other conditions. Helping facts of KitU; no other conditions. Helping facts of KitV; no other conditions. -/
import Derived.Test.YtmppigbbkjepiaaGreatDoorRead3
import Derived.Deep.Upon
namespace Go.Proofs.YtmppigbbkjepiaaGreatDoor
open W
variable {K : Act -> World -> Prop} {L : List SF} {P : Program} {Q : Exit -> Act -> World -> Prop} {S : Nat -> Prop} {a : Act} {args : List Operand} {b base c i id k n r t : Nat} {o : Oper} {p : Prop} {s y : Operand} {tys : Array TypeId} {v ve vn vv : Value} {vs : List Value} {w w' w0 : World} {α : Type}
theorem YAP (h : p := by have := h.la; simp at this; show r.eqs.length < 12; omega) : p := h
theorem YMp (h : p := by have := h.lb; simp at this; show r.neqs.length < 12; omega) : p := h
theorem Yrb (h : p := by simp at hk ⊢; omega) : p := h
theorem YO8 (h : p := by simp at hn ⊢; omega) : p := h
abbrev En := Nat × List Tm
structure Rs where
 vars : List Bs
 eqs : List En
 neqs : List En
 next : Nat
 last : Nat
def Gv : Rs := ⟨[], [], [], 0, 0⟩
def Rs.sy (r : Rs) : Sy := ⟨r.vars, r.eqs, r.neqs, r.next⟩
def Rz : Sy := ⟨[], [], [], 0⟩
def colB : Bs := [58, 32]
def qX : Bs := [32, 33, 61, 32, 48]
def tZ : Bs := [32, 61, 32, 48]
def nxB : Bs := [110, 101, 120, 116, 32]
def vaB : Bs := [118, 97, 114, 115]
def Rs.lst (r : Rs) (neq : Bool) : List En := if neq then r.neqs else r.eqs
def Rs.add (r : Rs) (e : Bool × En) : Rs := if e.1 then ⟨r.vars, r.eqs, r.neqs ++ [e.2], r.next, e.2.1⟩ else ⟨r.vars, r.eqs ++ [e.2], r.neqs, r.next, e.2.1⟩
def jV (r : Rs) (id : Nat) (neq : Bool) (t : Bs) : Option Rs :=
 if (GO r.vars t).2.2 = 0 /\ US (GO r.vars t).1 <= 12 /\ (r.lst neq).length < 12 then some (r.add (neq, id, (GO r.vars t).1)) else none
def MR (r : Rs) (l : Bs) : Option Rs :=
 if (Lib.cut l colB).2.2 = false then none else
 match FY ((r.last + 1 : Nat) : Int) 999999 (Lib.cut l colB).1 with
 | none => none
 | some id => if Lib.hasSuffix (Lib.cut l colB).2.1 qX = true then jV r id true (Lib.trimSuffix (Lib.cut l colB).2.1 qX)
   else if Lib.hasSuffix (Lib.cut l colB).2.1 tZ = true then jV r id false (Lib.trimSuffix (Lib.cut l colB).2.1 tZ) else none
def UX (r : Rs) (l : Bs) : Option Rs := if (FG 32 l).head? = some vaB /\ DL 4 (FG 32 l).tail = true then some ⟨(FG 32 l).tail, r.eqs, r.neqs, r.next, r.last⟩ else none
def wV (r : Rs) (t : Bs) : Option Rs := (FY ((r.last + 1 : Nat) : Int) 1000000 t).map fun m => ⟨r.vars, r.eqs, r.neqs, m, r.last⟩
def IL (n : Nat) (r : Rs) (l : Bs) : Option Rs :=
 if n = 1 then UX r l else if r.next ≠ 0 then none else if Lib.hasPrefix l nxB = true then wV r (Lib.trimPrefix l nxB) else MR r l
abbrev Ps := Sy × Nat × Nat
def Pj : List Bs -> Nat -> Rs -> Ps
 | [], n, _ => (Rz, n, 440)
 | [x], n, r => if x = [] then (if r.next = 0 then (Rz, n + 1, 440) else (r.sy, 0, 0)) else (Rz, n + 1, 440)
 | x :: y :: l, n, r => match IL (n + 1) r x with
   | none => (Rz, n + 1, 440)
   | some r' => Pj (y :: l) (n + 1) r'
def KS (t : Bs) : Ps := if 100000 < t.length then (Rz, 0, 2) else Pj (FG 10 t) 0 Gv
def MW : List Bs -> Nat -> Rs -> Option Rs
 | [], _, r => some r
 | x :: l, n, r => match IL (n + 1) r x with
   | none => none
   | some r' => MW l (n + 1) r'
theorem tU : ∀ {ls : List Bs} {n : Nat} {r r' : Rs} {rest : List Bs}, MW ls n r = some r' -> rest ≠ [] -> Pj (ls ++ rest) n r = Pj rest (n + ls.length) r'
 | [], n, r, r', rest, h, _ => by simp only [MW, Option.some.injEq] at h; subst h; simp
 | x :: l, n, r, r', rest, h, hr => by
   obtain ⟨y, t, ht⟩ : ∃ y t, l ++ rest = y :: t := by
    cases f : l ++ rest with
    | nil => simp at f; exact absurd f.2 hr
    | cons y t => exact ⟨y, t, rfl⟩
   rw [List.cons_append, ht]
   cases e : IL (n + 1) r x with
   | none => simp [MW, e] at h
   | some r1 =>
     simp only [MW, e] at h
     simp only [Pj, e]
     rw [<- ht, tU h hr]
     simp only [List.length_cons]
     congr 1; omega
theorem mF : ∀ {l1 l2 : List Bs} {n : Nat} {r r' : Rs}, MW l1 n r = some r' -> MW (l1 ++ l2) n r = MW l2 (n + l1.length) r'
 | [], l2, n, r, r', h => by simp only [MW, Option.some.injEq] at h; subst h; simp
 | x :: l, l2, n, r, r', h => by
   cases hx : IL (n + 1) r x with
   | none => simp [MW, hx] at h
   | some r1 =>
     simp only [MW, hx] at h
     simp only [List.cons_append, MW, hx, List.length_cons]
     rw [mF h]; congr 1; omega
def RP (vars : List Bs) : Bs := jn 32 (vaB :: vars)
def pM (neq : Bool) : Bs := if neq then qX else tZ
def PW (vars : List Bs) (e : Bool × En) : Bs := txt (e.2.1 : Int) ++ (colB ++ (DS vars e.2.2 ++ pM e.1))
def dV (n : Nat) : Bs := nxB ++ txt (n : Int)
def TH : List En -> List En -> List (Bool × En)
 | [], [] => []
 | e :: es, [] => (false, e) :: TH es []
 | [], n :: ns => (true, n) :: TH [] ns
 | e :: es, n :: ns => if e.1 < n.1 then (false, e) :: TH es (n :: ns) else (true, n) :: TH (e :: es) ns
termination_by a b => a.length + b.length
def bT (s : Sy) : List Bs := RP s.vars :: ((TH s.eqs s.neqs).map (PW s.vars) ++ [dV s.next])
def mA (s : Sy) : Bs := jn 10 (bT s ++ [[]])
def YR (vars : List Bs) (l : List (Bool × En)) : Bool := l.any fun e => decide (4000 < (DS vars e.2.2).length)
def MH (s : Sy) : Bs × Nat := if GH s = false then ([], 320) else if YR s.vars (TH s.eqs s.neqs) = true then ([], 2) else (mA s, 0)
theorem dX : ∀ (n : Nat) (a b : List En) (x : Bool × En), a.length + b.length <= n -> (x ∈ TH a b ↔ (x.1 = false /\ x.2 ∈ a) ∨ (x.1 = true /\ x.2 ∈ b))
 | _, [], [], x, _ => by simp [TH]
 | n + 1, x :: a, [], y, hn => by
   rw [TH, List.mem_cons, dX n a [] y YO8]
   obtain ⟨u, v⟩ := y
   cases u <;> simp
 | n + 1, [], x :: a, y, hn => by
   rw [TH, List.mem_cons, dX n [] a y YO8]
   obtain ⟨u, v⟩ := y
   cases u <;> simp
 | n + 1, x :: a, y :: b, z, hn => by
   rw [TH]
   obtain ⟨u, v⟩ := z
   by_cases h : x.1 < y.1
   . rw [if_pos h, List.mem_cons, dX n a (y :: b) _ YO8]
     cases u <;> simp
   rw [if_neg h, List.mem_cons, dX n (x :: a) b _ YO8]
   cases u <;> simp
 | 0, x :: a, b, _, hn => by simp at hn
 | 0, [], y :: b, _, hn => by simp at hn
theorem mrg_in {a b : List En} {x : Bool × En} : x ∈ TH a b ↔ (x.1 = false /\ x.2 ∈ a) ∨ (x.1 = true /\ x.2 ∈ b) := dX _ a b x (Nat.le_refl _)
theorem WD : ∀ (n : Nat) (a b : List En), a.length + b.length <= n -> (TH a b).length = a.length + b.length
 | _, [], [], _ => by simp [TH]
 | n + 1, x :: a, [], hn => by rw [TH, List.length_cons, WD n a [] YO8]; simp; 
 | n + 1, [], x :: a, hn => by rw [TH, List.length_cons, WD n [] a YO8]; simp; 
 | n + 1, x :: a, y :: b, hn => by
   rw [TH]
   by_cases h : x.1 < y.1
   . rw [if_pos h, List.length_cons, WD n a (y :: b) YO8]; simp; omega
   rw [if_neg h, List.length_cons, WD n (x :: a) b YO8]; simp; omega
 | 0, x :: a, b, hn => by simp at hn
 | 0, [], y :: b, hn => by simp at hn
structure RsOk (r : Rs) : Prop where
 vars : DL 4 r.vars = true
 last : r.last <= 999999
 next : r.next = 0 ∨ (r.last < r.next /\ r.next <= 1000000)
 all : ∀ b, ∀ e ∈ r.lst b, 1 <= e.1 /\ e.1 <= r.last /\ ED e.2 /\ LH r.vars.length e.2 = true /\ (DS r.vars e.2).length <= 4000
 len : ∀ b, (r.lst b).length <= 12
 pw : ∀ b, (EL (r.lst b)).Pairwise (· < ·)
 dis : ∀ i ∈ EL r.eqs, i ∉ EL r.neqs
theorem fits_iff {p : List Tm} : LH n p = true ↔ FN p < 2 ^ n /\ US p <= 12 := by unfold LH; simp
theorem Ud {r : Rs} {neq : Bool} {e : En} : (r.add (neq, e)).lst neq = r.lst neq ++ [e] := by cases neq <;> rfl
theorem Oq {r : Rs} {neq b : Bool} {e : En} (h : b ≠ neq) : (r.add (neq, e)).lst b = r.lst b := by cases neq <;> cases b <;> first | rfl | exact absurd rfl h
theorem PO {r : Rs} {e : Bool × En} : (r.add e).vars = r.vars := by unfold Rs.add; split <;> rfl
theorem oM {r : Rs} {e : Bool × En} : (r.add e).next = r.next := by unfold Rs.add; split <;> rfl
theorem TP {r : Rs} {e : Bool × En} : (r.add e).last = e.2.1 := by unfold Rs.add; split <;> rfl
theorem eO {vs : List Bs} (h : DL 4 vs = true) : DL 8 vs = true := by
 unfold DL at h ⊢
 simp only [Bool.and_eq_true, decide_eq_true_eq] at h ⊢
 exact ⟨⟨by omega, h.1.2⟩, h.2⟩
theorem ids_in {l : List En} : i ∈ EL l ↔ ∃ e ∈ l, e.1 = i := by unfold EL; exact List.mem_map
theorem Sc {r r' : Rs} {l : Bs} (h : UX r l = some r') : ∃ vs, DL 4 vs = true /\ RP vs = l /\ r' = ⟨vs, r.eqs, r.neqs, r.next, r.last⟩ := by
 unfold UX at h
 by_cases g : (FG 32 l).head? = some vaB /\ DL 4 (FG 32 l).tail = true
 . rw [if_pos g] at h
   simp only [Option.some.injEq] at h
   refine ⟨_, g.2, ?_, h.symm⟩
   unfold RP
   have f := Cg 32 l
   cases e : FG 32 l with
   | nil => rw [e] at g; simp at g
   | cons x t => rw [e] at g f; simp at g; rw [List.tail_cons, <- g.1]; exact f
 rw [if_neg g] at h; cases h
theorem RsOk.sys {r : Rs} (h : RsOk r) (hn : r.next ≠ 0) : GH r.sy = true := by
 obtain ⟨q, p⟩ := h.next.resolve_left hn
 have k : ∀ b, ID r.vars.length r.next (r.lst b) = true := fun b => by
  unfold ID
  simp only [Bool.and_eq_true, decide_eq_true_eq, List.all_eq_true]
  exact ⟨⟨h.len b, fun e f => ⟨⟨(h.all b e f).1, by have := (h.all b e f).2.1; omega⟩, (h.all b e f).2.2.2.1⟩⟩, h.pw b⟩
 exact sC (s := r.sy) h.vars (by show ¬ r.next < 1; omega) (by show ¬ r.next > 1000000; omega) (k false) (k true) (fun i o l => h.dis i l o)
def SyOk (s : Sy) : Prop := GH s = true /\ ∀ e, e ∈ s.eqs ∨ e ∈ s.neqs -> ED e.2 /\ (DS s.vars e.2).length <= 4000
theorem RsOk.sy {r : Rs} (h : RsOk r) (hn : r.next ≠ 0) : SyOk r.sy := ⟨h.sys hn, fun e he => by
 rcases he with he | he
 . exact ⟨(h.all false e he).2.2.1, (h.all false e he).2.2.2.2⟩
 exact ⟨(h.all true e he).2.2.1, (h.all true e he).2.2.2.2⟩⟩
theorem A0 {x y : Bs} (h : (58 : UInt8) ∉ x) : Lib.cut (x ++ (colB ++ y)) colB = (x, y, true) := by
 have l : Lib.index (x ++ (colB ++ y)) colB = ((x.length : Nat) : Int) := by
  refine Lib.index_first (i := x.length) AH ?_ ?_
  . unfold Lib.occAt
    rw [List.drop_left]; exact List.isPrefixOf_iff_prefix.2 ⟨y, rfl⟩
  intro j k
  unfold Lib.occAt
  rw [List.drop_append_of_le_length AA, List.drop_eq_getElem_cons k]
  have : ¬ (58 : UInt8) = x[j] := fun e => h (e ▸ List.getElem_mem k)
  rw [Bool.eq_false_iff]
  intro g
  obtain ⟨r, f⟩ := List.isPrefixOf_iff_prefix.1 g
  simp only [colB, List.cons_append, List.cons.injEq] at f
  exact this f.1
 unfold Lib.cut
 rw [l, if_pos AA, Int.toNat_natCast, List.take_left, <- List.drop_drop, List.drop_left]
 rfl
theorem qD (x p : Bs) : Lib.hasSuffix (x ++ p) p = true /\ Lib.trimSuffix (x ++ p) p = x := by
 have h : Lib.hasSuffix (x ++ p) p = true := List.isSuffixOf_iff_suffix.2 ⟨x, rfl⟩
 refine ⟨h, ?_⟩
 unfold Lib.trimSuffix; rw [if_pos h]; simp
theorem Ho (x p : Bs) : Lib.hasPrefix (p ++ x) p = true /\ Lib.trimPrefix (p ++ x) p = x := by
 have h : Lib.hasPrefix (p ++ x) p = true := List.isPrefixOf_iff_prefix.2 ⟨x, rfl⟩
 refine ⟨h, ?_⟩
 unfold Lib.trimPrefix; rw [if_pos h]; simp
theorem Jn (x : Bs) : Lib.hasSuffix (x ++ tZ) qX = false := by
 rw [Bool.eq_false_iff]
 intro g
 obtain ⟨r, e⟩ := List.isSuffixOf_iff_suffix.1 g
 have f := congrArg (fun l => (l.reverse)[3]?) e
 simp [tZ, qX] at f
theorem Hk (z : Int) : (58 : UInt8) ∉ txt z := Ac AE
theorem Kz (z : Int) : (txt z).head? ≠ some 110 := by
 intro h
 cases e : txt z with
 | nil => rw [e] at h; cases h
 | cons b r =>
   rw [e] at h; simp at h; subst h
   have := ZT z 110 (by rw [e]; simp)
   revert this; decide
theorem Jo (vars : List Bs) (e : Bool × En) : Lib.hasPrefix (PW vars e) nxB = false := by
 rw [Bool.eq_false_iff]
 intro g
 obtain ⟨r, f⟩ := List.isPrefixOf_iff_prefix.1 g
 unfold PW at f
 have h := Kz (e.2.1 : Int)
 cases k : txt (e.2.1 : Int) with
 | nil => exact Ad _ k
 | cons b q => rw [k] at f h; simp [nxB] at f h; exact h f.1.symm
theorem Cl {r : Rs} {neq : Bool} {p : List Tm} (hv : DL 4 r.vars = true) (h1 : r.last < id) (h2 : id <= 999999) (hp : ED p) (hf : LH r.vars.length p = true) (hl : (DS r.vars p).length <= 4000) (hc : (r.lst neq).length < 12) :
 MR r (PW r.vars (neq, id, p)) = some (r.add (neq, id, p)) := by
 have k : GO r.vars (DS r.vars p) = (p, 0, 0) := Bd (eO hv) hp ((cS hp).1 (fits_iff.1 hf).1) hl
 have e : jV r id neq (DS r.vars p) = some (r.add (neq, id, p)) := by
  unfold jV
  rw [k, if_pos ⟨rfl, (fits_iff.1 hf).2, hc⟩]
 unfold MR PW
 simp only [A0 (Hk _)]
 rw [if_neg AH, gZ AA AA]
 simp only
 cases neq with
 | true =>
   obtain ⟨h, f⟩ := qD (DS r.vars p) qX
   rw [show pM true = qX from rfl, if_pos h, f]; exact e
 | false =>
   obtain ⟨h, f⟩ := qD (DS r.vars p) tZ
   rw [show pM false = tZ from rfl, if_neg (by rw [Jn]; simp), if_pos h, f]; exact e
structure Fol (r : Rs) (a b : List En) : Prop where
 vars : DL 4 r.vars = true
 next : r.next = 0
 all : ∀ e, e ∈ a ∨ e ∈ b -> r.last < e.1 /\ e.1 <= 999999 /\ ED e.2 /\ LH r.vars.length e.2 = true /\ (DS r.vars e.2).length <= 4000
 la : r.eqs.length + a.length <= 12
 lb : r.neqs.length + b.length <= 12
 pa : (EL a).Pairwise (· < ·)
 pb : (EL b).Pairwise (· < ·)
 dis : ∀ i ∈ EL a, i ∉ EL b
theorem WI {r : Rs} (hn : n ≠ 0) {neq : Bool} {p : List Tm} (hv : DL 4 r.vars = true) (h0 : r.next = 0) (h1 : r.last < id) (h2 : id <= 999999) (hp : ED p) (hf : LH r.vars.length p = true) (hl : (DS r.vars p).length <= 4000) (hc : (r.lst neq).length < 12) :
 IL (n + 1) r (PW r.vars (neq, id, p)) = some (r.add (neq, id, p)) := by
 unfold IL
 rw [if_neg AA, if_neg AA, if_neg (by rw [Jo]; simp)]
 exact Cl hv h1 h2 hp hf hl hc
theorem kR {e : En} {l : List En} (h : (EL (e :: l)).Pairwise (· < ·)) : (∀ x ∈ l, e.1 < x.1) /\ (EL l).Pairwise (· < ·) := by
 unfold EL at h ⊢
 rw [List.map_cons, List.pairwise_cons] at h
 exact ⟨fun x f => h.1 _ (List.mem_map.2 ⟨x, f, rfl⟩), h.2⟩
theorem Fol.eq {r : Rs} {e : En} {a b : List En} (h : Fol r (e :: a) b) (hb : ∀ x ∈ b, e.1 < x.1) : Fol (r.add (false, e)) a b := by
 obtain ⟨o, l⟩ := kR h.pa
 refine ⟨by rw [PO]; exact h.vars, by rw [oM]; exact h.next, fun x f => ?_, by have := h.la; simp [Rs.add] at this ⊢; omega, by have := h.lb; simp [Rs.add] at this ⊢; omega, l, h.pb, fun i k => h.dis i (by unfold EL at k ⊢; simp [k])⟩
 rw [PO, TP]
 rcases f with f | f
 . exact ⟨o x f, (h.all x (.inl (by simp [f]))).2⟩
 exact ⟨hb x f, (h.all x (.inr f)).2⟩
theorem Fol.neq {r : Rs} {e : En} {a b : List En} (h : Fol r a (e :: b)) (ha : ∀ x ∈ a, e.1 < x.1) : Fol (r.add (true, e)) a b := by
 obtain ⟨o, l⟩ := kR h.pb
 refine ⟨by rw [PO]; exact h.vars, by rw [oM]; exact h.next, fun x f => ?_, by have := h.la; simp [Rs.add] at this ⊢; omega, by have := h.lb; simp [Rs.add] at this ⊢; omega, h.pa, l, fun i p k => h.dis i p (by unfold EL at k ⊢; simp [k])⟩
 rw [PO, TP]
 rcases f with f | f
 . exact ⟨ha x f, (h.all x (.inl f)).2⟩
 exact ⟨o x f, (h.all x (.inr (by simp [f]))).2⟩
theorem YI : ∀ (k : Nat) (a b : List En) (n : Nat) (r : Rs), a.length + b.length <= k -> n ≠ 0 -> Fol r a b -> ∃ last, MW ((TH a b).map (PW r.vars)) n r = some ⟨r.vars, r.eqs ++ a, r.neqs ++ b, r.next, last⟩ /\ (last = r.last ∨ ∃ e, (e ∈ a ∨ e ∈ b) /\ e.1 = last)
 | _, [], [], n, r, _, _, _ => ⟨r.last, by simp [TH, MW], .inl rfl⟩
 | k + 1, e :: a, [], n, r, hk, hn, h => by
   have ha := h.all e (.inl AH)
   have hl : IL (n + 1) r (PW r.vars (false, e)) = some (r.add (false, e)) := WI (id := e.1) (p := e.2) hn h.vars h.next ha.1 ha.2.1 ha.2.2.1 ha.2.2.2.1 ha.2.2.2.2 YAP
   obtain ⟨last, g1, g2⟩ := YI k a [] (n + 1) (r.add (false, e)) Yrb AA (h.eq (fun x hx => by cases hx))
   refine ⟨last, ?_, ?_⟩
   . rw [TH, List.map_cons]; simp only [MW, hl]; rw [PO] at g1; rw [g1]; simp [Rs.add]
   rw [TP] at g2
   rcases g2 with g | ⟨x, g, g'⟩
   . exact .inr ⟨e, .inl AH, g.symm⟩
   exact .inr ⟨x, by rcases g with g | g; exact .inl (by simp [g]); exact .inr g, g'⟩
 | k + 1, [], e :: b, n, r, hk, hn, h => by
   have ha := h.all e (.inr AH)
   have hl : IL (n + 1) r (PW r.vars (true, e)) = some (r.add (true, e)) := WI (id := e.1) (p := e.2) hn h.vars h.next ha.1 ha.2.1 ha.2.2.1 ha.2.2.2.1 ha.2.2.2.2 YMp
   obtain ⟨last, g1, g2⟩ := YI k [] b (n + 1) (r.add (true, e)) Yrb AA (h.neq (fun x hx => by cases hx))
   refine ⟨last, ?_, ?_⟩
   . rw [TH, List.map_cons]; simp only [MW, hl]; rw [PO] at g1; rw [g1]; simp [Rs.add]
   rw [TP] at g2
   rcases g2 with g | ⟨x, g, g'⟩
   . exact .inr ⟨e, .inr AH, g.symm⟩
   exact .inr ⟨x, by rcases g with g | g; exact .inl g; exact .inr (by simp [g]), g'⟩
 | k + 1, e :: a, f :: b, n, r, hk, hn, h => by
   by_cases hlt : e.1 < f.1
   . have ha := h.all e (.inl AH)
     have hl : IL (n + 1) r (PW r.vars (false, e)) = some (r.add (false, e)) := WI (id := e.1) (p := e.2) hn h.vars h.next ha.1 ha.2.1 ha.2.2.1 ha.2.2.2.1 ha.2.2.2.2 YAP
     obtain ⟨last, g1, g2⟩ := YI k a (f :: b) (n + 1) (r.add (false, e)) Yrb AA (h.eq (fun x hx => by
      rcases List.mem_cons.1 hx with rfl | hx
      . exact hlt
      have := (kR h.pb).1 x hx; omega))
     refine ⟨last, ?_, ?_⟩
     . rw [TH, if_pos hlt, List.map_cons]; simp only [MW, hl]; rw [PO] at g1; rw [g1]; simp [Rs.add]
     rw [TP] at g2
     rcases g2 with g | ⟨x, g, g'⟩
     . exact .inr ⟨e, .inl AH, g.symm⟩
     exact .inr ⟨x, by rcases g with g | g; exact .inl (by simp [g]); exact .inr g, g'⟩
   have ha := h.all f (.inr AH)
   have hne : f.1 < e.1 := by
    have := h.dis e.1 (by simp [EL])
    simp [EL] at this
    omega
   have hl : IL (n + 1) r (PW r.vars (true, f)) = some (r.add (true, f)) := WI (id := f.1) (p := f.2) hn h.vars h.next ha.1 ha.2.1 ha.2.2.1 ha.2.2.2.1 ha.2.2.2.2 YMp
   obtain ⟨last, g1, g2⟩ := YI k (e :: a) b (n + 1) (r.add (true, f)) Yrb AA (h.neq (fun x hx => by
    rcases List.mem_cons.1 hx with rfl | hx
    . exact hne
    have := (kR h.pa).1 x hx; omega))
   refine ⟨last, ?_, ?_⟩
   . rw [TH, if_neg hlt, List.map_cons]; simp only [MW, hl]; rw [PO] at g1; rw [g1]; simp [Rs.add]
   rw [TP] at g2
   rcases g2 with g | ⟨x, g, g'⟩
   . exact .inr ⟨f, .inr AH, g.symm⟩
   exact .inr ⟨x, by rcases g with g | g; exact .inl g; exact .inr (by simp [g]), g'⟩
 | 0, e :: a, b, _, _, hk, _, _ => by simp at hk
 | 0, [], f :: b, _, _, hk, _, _ => by simp at hk
theorem Hh {r : Rs} {vs : List Bs} (h : DL 4 vs = true) : UX r (RP vs) = some ⟨vs, r.eqs, r.neqs, r.next, r.last⟩ := by
 have f : FG 32 (RP vs) = vaB :: vs := gU 32 AH (by
  intro x e
  rcases List.mem_cons.1 e with rfl | e
  . decide
  exact tS (FJ h x e) AE)
 unfold UX
 rw [f]; simp [h]
theorem SyOk.fol {s : Sy} (h : SyOk s) : Fol ⟨s.vars, [], [], 0, 0⟩ s.eqs s.neqs /\ 1 <= s.next /\ s.next <= 1000000 /\ ∀ e, e ∈ s.eqs ∨ e ∈ s.neqs -> e.1 < s.next := by
 obtain ⟨l, o⟩ := h
 unfold GH at l
 simp only [Bool.and_eq_true, decide_eq_true_eq] at l
 obtain ⟨⟨⟨⟨⟨v, u⟩, t⟩, k⟩, a5⟩, q⟩ := l
 unfold ID at k a5
 simp only [Bool.and_eq_true, decide_eq_true_eq, List.all_eq_true] at k a5
 refine ⟨⟨v, O, fun e f => ?_, by simpa using k.1.1, by simpa using a5.1.1, k.2, a5.2, q⟩, u, t, fun e f => ?_⟩
 . have p : (1 <= e.1 /\ e.1 < s.next) /\ LH s.vars.length e.2 = true := by
    rcases f with f | f
    . exact k.1.2 e f
    exact a5.1.2 e f
   exact ⟨by show 0 < e.1; omega, by omega, (o e f).1, p.2, (o e f).2⟩
 rcases f with f | f
 . exact (k.1.2 e f).1.2
 exact (a5.1.2 e f).1.2
theorem Cd {s : Sy} (h : SyOk s) : ∃ r', MW (bT s) 0 Gv = some r' /\ r'.sy = s /\ r'.next ≠ 0 := by
 obtain ⟨p, D, C, y⟩ := h.fol
 obtain ⟨f, t, q⟩ := YI _ s.eqs s.neqs 1 _ (Nat.le_refl _) AA p
 simp only [List.nil_append] at t q
 have o : f < s.next := by
  rcases q with g | ⟨e, B, rfl⟩
  . omega
  exact y e B
 refine ⟨⟨s.vars, s.eqs, s.neqs, s.next, f⟩, ?_, O, by show s.next ≠ 0; omega⟩
 unfold bT
 have z : IL (0 + 1) Gv (RP s.vars) = some ⟨s.vars, [], [], 0, 0⟩ := by
  unfold IL; rw [if_pos rfl, Hh p.vars]; rfl
 simp only [MW, z]
 rw [mF t]
 simp only [MW]
 have : ∀ k l, k ≠ 0 -> l = Rs.mk s.vars s.eqs s.neqs 0 f -> IL (k + 1) l (dV s.next) = some ⟨s.vars, s.eqs, s.neqs, s.next, f⟩ := by
  rintro k l F rfl
  unfold IL dV
  obtain ⟨v, u⟩ := Ho (txt (s.next : Int)) nxB
  rw [if_neg AA, if_neg AH, if_pos v, u]
  unfold wV
  rw [gZ (by simp only; omega) AA]; rfl
 rw [this _ _ AA rfl]
theorem iR {vars : List Bs} (hv : ∀ v ∈ vars, LD v = true) : ∀ (p : List Tm) (b : Bool), (10 : UInt8) ∉ IW vars b p
 | [], b => by simp [IW]
 | t :: p, b => by
   intro h
   unfold IW at h
   rcases List.mem_append.1 h with g | g
   . rcases List.mem_append.1 g with g | g
     . unfold SS at g; revert g; cases b <;> simp <;> split <;> decide
     exact lZ hv AE AE AE AE g
   exact iR hv p false g
theorem Bl {vars : List Bs} (hv : DL 8 vars = true) (p : List Tm) : (10 : UInt8) ∉ DS vars p := by
 unfold DS
 split
 . decide
 exact iR (FJ hv) p true
theorem Vd (s : Sy) (h : SyOk s) : ∀ x ∈ bT s ++ [[]], (10 : UInt8) ∉ x := by
 obtain ⟨q, _⟩ := h.fol
 intro x f
 rcases List.mem_append.1 f with f | f
 . unfold bT at f
   rcases List.mem_cons.1 f with rfl | f
   . unfold RP
     have : ∀ l : List Bs, (∀ v ∈ l, (10 : UInt8) ∉ v) -> (10 : UInt8) ∉ jn 32 l := by
      intro l
      induction l with
      | nil => intro _; simp [jn]
      | cons y l ih =>
        intro k
        cases l with
        | nil => simpa [jn] using k y AH
        | cons z l =>
          rw [IP 32 y AH]
          intro o
          rcases List.mem_append.1 o with g | g
          . exact k y AH g
          rcases List.mem_cons.1 g with g | g
          . exact absurd g AE
          exact ih (fun v p => k v (by simp [p])) g
     refine this _ ?_
     intro v k
     rcases List.mem_cons.1 k with rfl | k
     . decide
     exact tS (FJ q.vars v k) AE
   rcases List.mem_append.1 f with f | f
   . obtain ⟨e, t, rfl⟩ := List.mem_map.1 f
     unfold PW
     intro o
     rcases List.mem_append.1 o with g | g
     . exact Ac (b := 10) AE g
     rcases List.mem_append.1 g with g | g
     . exact absurd g AE
     rcases List.mem_append.1 g with g | g
     . have := (Bl (eO q.vars) e.2.2) g; exact this
     revert g; cases e.1 <;> decide
   simp at f; subst f
   unfold dV
   intro o
   rcases List.mem_append.1 o with g | g
   . exact absurd g AE
   exact Ac (b := 10) AE g
 simp at f; subst f; simp
open Go.Proofs.Tryz
open Go.RowKit
def fBe (hn : n <= w0.heap.size) : SF := ⟨fun w => Below n w0 w, fun c => n <= c, fun h hb => h.trans (hb.mono (Nat.le_trans hn h.size)), fun h _ ho hb => hb.below h ho⟩
theorem ZP (hn : n <= w0.heap.size) : Env w0 [fBe hn] := ⟨Below.refl _ _, BX⟩
theorem Env.be {hn : n <= w0.heap.size} (E : Env w L) (h : Below n w0 w) : Env w (fBe hn :: L) := ⟨h, E⟩
theorem tC {hn : n <= w0.heap.size} (h : n <= c) : (fBe hn).ok c := h
theorem Acc.below {e : El α} {l : List α} (h : Acc e t base S w v l) (hS : ∀ k, S k -> k < w.heap.size) (hb : Below w.heap.size w w') : Acc e t base S w' v l := ((fA e t base S v l).below ⟨h, hS⟩ hb).1
theorem Acc.onl {e : El α} {l : List α} (h : Acc e t base S w v l) (hS : ∀ k, S k -> k < w.heap.size) (hn : zX w b) (h1 : v.ownBlock ≠ some b) (h2 : ¬ S b) (hb : Onl b w w') : Acc e t base S w' v l := ((fA e t base S v l).onl ⟨h, hS⟩ hn ⟨h1, h2⟩ hb).1
structure Two (r : Nat) (S : Nat -> Prop) (w : World) (vv ve vn : Value) (vars : List Bs) (eqs neqs : List En) : Prop where
 vars : IsR elS S w vv vars
 eqs : Acc MS 83 (r + 1) S w ve eqs
 neqs : Acc MS 83 (r + 1) S w vn neqs
 apart : ∀ g, ve.ownBlock = some g -> vn.ownBlock = some g -> False
 set : ∀ k, S k -> r < k /\ k < w.heap.size
theorem Two.lt {vars : List Bs} {eqs neqs : List En} (h : Two r S w vv ve vn vars eqs neqs) : ∀ k, S k -> k < w.heap.size := fun k hk => (h.set k hk).2
theorem Two.below {vars : List Bs} {eqs neqs : List En} (h : Two r S w vv ve vn vars eqs neqs) (hb : Below w.heap.size w w') : Two r S w' vv ve vn vars eqs neqs :=
 ⟨h.vars.keep (Keep.below hb h.lt), h.eqs.below h.lt hb, h.neqs.below h.lt hb, h.apart, fun k hk => ⟨(h.set k hk).1, Nat.lt_of_lt_of_le (h.lt k hk) hb.size⟩⟩
theorem Two.onl {vars : List Bs} {eqs neqs : List En} (h : Two r S w vv ve vn vars eqs neqs) (hn : zX w b) (hlt : b <= r) (hb : Onl b w w') : Two r S w' vv ve vn vars eqs neqs := by
 have f : ¬ S b := fun g => by have := (h.set b g).1; omega
 have e : ∀ {v : Value} {l : List En}, Acc MS 83 (r + 1) S w v l -> v.ownBlock ≠ some b := fun p g => by have := (p.lt g).1; omega
 exact ⟨h.vars.keep (Keep.onl hn hb f), h.eqs.onl h.lt hn (e h.eqs) f hb, h.neqs.onl h.lt hn (e h.neqs) f hb, h.apart, fun k o => ⟨(h.set k o).1, by rw [hb.size]; exact h.lt k o⟩⟩
def RdrAt (r : Nat) (w : World) (st : Rs) : Prop := ∃ S vv ve vn, Bx w r 115 [vv, ve, vn, .int .i64 ↑st.next, .int .i64 ↑st.last] /\ Two r S w vv ve vn st.vars st.eqs st.neqs
theorem RdrAt.below {st : Rs} (h : RdrAt r w st) (hb : Below w.heap.size w w') : RdrAt r w' st := by
 obtain ⟨S, e, k, f, o, l⟩ := h
 exact ⟨S, e, k, f, o.below hb, l.below hb⟩
theorem RdrAt.onl {st : Rs} (h : RdrAt r w st) (hn : zX w b) (hlt : b < r) (hb : Onl b w w') : RdrAt r w' st := by
 obtain ⟨S, e, k, f, o, l⟩ := h
 exact ⟨S, e, k, f, o.onl AA hb, l.onl hn AA hb⟩
theorem RdrAt.lt {st : Rs} (h : RdrAt r w st) : r < w.heap.size := by
 obtain ⟨S, f, l, k, e, o⟩ := h
 exact e.lt
def fRd (r : Nat) (st : Rs) : SF := ⟨fun w => RdrAt r w st, fun c => c < r, fun h hb => h.below hb, fun h hn ho hb => h.onl hn ho hb⟩
theorem Env.rd {st : Rs} (E : Env w L) (h : RdrAt r w st) : Env w (fRd r st :: L) := ⟨h, E⟩
theorem okRd {st : Rs} (h : c < r) : (fRd r st).ok c := h
def Xp (r : Nat) (w : World) : Option Rs -> Bool -> Prop
 | some st, b => b = true /\ RdrAt r w st
 | none, b => b = false
def jJ (r : Nat) (w0 : World) (o : Option Rs) (e : Ending) (w' : World) : Prop := ∃ b, e = .returned (.bool b) /\ Below r w0 w' /\ Xp r w' o b
theorem PU {f : Nat} {res : Option Rs} (hf : Fn P f)
 (ho : o.op = .call { callee := .value (.func f), args := args.toArray, argTypes := tys }) (hc : Calls P f vs.toArray w (jJ r w res)) (hv : args.map a.eval = vs)
 (h : ∀ w' b, Below r w w' -> Xp r w' res b -> K (a.put o.dst (.bool b)) w') : o.wp P a w K Q := by
 refine DG hf ho hc hv ?_
 rintro e w' ⟨b, rfl, l, k⟩
 exact ⟨_, rfl, h w' b l k⟩
theorem RW {e : El α} {T bytes : Nat} (R : RowT e T t bytes)
 (ho : o.op = .call { callee := .builtin .append, args := #[s, y], argTypes := #[T, T] }) {l : List α} (hs : a.eval s = v) (hA : Acc e t base S w v l) (hS : ∀ k, S k -> k < w.heap.size)
 (E : Env w L) (hok : ∀ g, v.ownBlock = some g -> base <= g -> g < w.heap.size -> Ok g L) {nb : Nat} {cs : List Value} {x : α} (hy : a.eval y = .slice (some ⟨nb, 0, none⟩) 1 1) (hb : Bx w nb t cs) (hx : e.p S w cs x)
 (h63 : l.length + 1 <= maxLen) (hby : (l.length + 1) * bytes <= 140737488355328) (hbase : base <= w.heap.size)
 (h : ∀ v' w', (∀ c, c < w.heap.size -> v.ownBlock ≠ some c -> v'.ownBlock ≠ some c) -> Env w' (fA e t base S v' (l ++ [x]) :: L) -> K (a.put o.dst v') w') : o.wp prog a w K Q := by
 obtain ⟨U, D, h2, h3⟩ := hA
 obtain ⟨i, z, e1, e2, e3, e4, e5, e6⟩ := R.info
 have J := e.len hx
 obtain ⟨v', w', hr, g2, f⟩ := RT (P := prog) (w := w) base T o.type t i z e.sz bytes R.ht e1 e2 e3 e4 e5 R.pos Gn e6 v l.length U D ⟨nb, 0, none⟩ 1 1 cs (by rw [J, Nat.one_mul])
  (fun j u q => by
    have : (⟨nb, 0, none⟩ : Addr).add j = ⟨nb, j, none⟩ := by unfold Addr.add; split <;> simp_all
    rw [this, hb.cell]; exact q) (e.one hx) (fun u q k => e.nw hx u q k) h63 hby hbase
 unfold Oper.wp execOp
 simp only [ho, resolve, invoke, builtin, Sem.run_bind, Sem.run_pure, Result.andThen_ok, List.map_toArray, List.map_cons, List.map_nil, hs, hy, hr]
 have N : Keep S w w' := by
  rcases f with ⟨f, _⟩ | ⟨g, hg, _, f⟩
  . exact Keep.below f hS
  exact Keep.onl (D.noW hg rY) f (h3 g hg)
 have X : w.heap.size <= w'.heap.size := by
  rcases f with ⟨f, _⟩ | ⟨g, hg, _, f⟩
  . exact f.size
  exact Nat.le_of_eq f.size.symm
 have G : ∀ g, v'.ownBlock = some g -> ¬ S g := by
  intro g hg
  rcases f with ⟨_, g4⟩ | ⟨g', C, B, _⟩
  . rw [g4 AA] at hg
    simp only [Option.some.injEq] at hg
    intro hs; have := hS g hs; omega
  rw [B] at hg; simp only [Option.some.injEq] at hg; subst hg; exact h3 g' C
 have H : ∀ c, c < w.heap.size -> v.ownBlock ≠ some c -> v'.ownBlock ≠ some c := by
  intro c hc Y hg
  rcases f with ⟨_, g4⟩ | ⟨g', C, B, _⟩
  . rw [g4 AA] at hg
    simp only [Option.some.injEq] at hg
    omega
  rw [B] at hg; simp only [Option.some.injEq] at hg; subst hg; exact Y C
 have F : Acc e t base S w' v' (l ++ [x]) := by
  refine ⟨U ++ cs, by rw [List.length_append]; exact g2, fun j u q => ?_, G⟩
  by_cases hj : j < l.length
  . rw [List.getElem?_append_left hj] at q
    rw [vL D.1 cs hj]
    exact e.keep (h2 j u q) N
  have a0 : j = l.length := by
   have := (List.getElem?_eq_some_iff.1 q).1
   simp at this; omega
  subst a0
  simp at q
  subst q
  have I : l.length * e.sz = U.length := D.1.symm
  rw [I, List.drop_left, List.take_of_length_le (by rw [J]; exact Nat.le_refl _)]
  exact e.keep hx N
 refine h v' w' H ⟨⟨F, fun k N => Nat.lt_of_lt_of_le (hS k N) X⟩, ?_⟩
 rcases f with ⟨f, _⟩ | ⟨g, hg, _, f⟩
 . exact E.below f
 exact E.onl (D.noW hg rY) (hok g hg (D.blk hg).1 (D.blk hg).2) f
theorem PV {f : Nat} {r : Rd} (hf : Fn P f)
 (ho : o.op = .call { callee := .value (.func f), args := args.toArray, argTypes := tys }) (hc : Calls P f vs.toArray w (Xo w r)) (hv : args.map a.eval = vs) (E : Env w L)
 (h : ∀ w' u, Below w.heap.size w w' -> NewP w r.1 w' u -> Env w' L -> K (a.put o.dst (.tuple #[u, .int .i64 ↑r.2.1, .int .i64 ↑r.2.2])) w') : o.wp P a w K Q := by
 refine DG hf ho hc hv ?_
 rintro e w' ⟨_, rfl, ⟨u, rfl, l⟩, k⟩
 exact ⟨_, rfl, h w' u k l (E.below k)⟩
def NewSy (w0 : World) (s : Sy) (w' : World) (v : Value) : Prop := ∃ vv ve vn, v = .agg #[vv, ve, vn, .int .i64 ↑s.next] /\ IsR elS (EY w0.heap.size w'.heap.size) w' vv s.vars /\ IsR MS (EY w0.heap.size w'.heap.size) w' ve s.eqs /\ IsR MS (EY w0.heap.size w'.heap.size) w' vn s.neqs
def Ra (w0 : World) (r : Ps) (e : Ending) (w' : World) : Prop := ∃ v, e = .returned (.tuple #[v, .int .i64 ↑r.2.1, .int .i64 ↑r.2.2]) /\ NewSy w0 r.1 w' v /\ Below w0.heap.size w0 w'
theorem NewSy.zero (w0 w' : World) : NewSy w0 Rz w' (.agg #[.slice none 0 0, .slice none 0 0, .slice none 0 0, .int .i64 0]) := ⟨_, _, _, rfl, IsR.nil _ _ _, IsR.nil _ _ _, IsR.nil _ _ _⟩
theorem Two.sy {s : Sy} (h : Two r S w vv ve vn s.vars s.eqs s.neqs) (hr : w0.heap.size <= r) : NewSy w0 s w (.agg #[vv, ve, vn, .int .i64 ↑s.next]) :=
 have hS : ∀ k, S k -> EY w0.heap.size w.heap.size k := fun k hk => ⟨by have := (h.set k hk).1; omega, h.lt k hk⟩
 ⟨vv, ve, vn, rfl, h.vars.mono hS, h.eqs.row hS (fun k h1 h2 _ => ⟨by omega, h2⟩), h.neqs.row hS (fun k h1 h2 _ => ⟨by omega, h2⟩)⟩
theorem Acc.le {e : El α} {l : List α} (h : Acc e t base S w v l) : ∃ ao cap, v = .slice ao l.length cap /\ l.length <= cap := by
 obtain ⟨q, ⟨u, f⟩, _, _⟩ := h
 rcases f with ⟨rfl, k⟩ | ⟨g, cap, p, rfl, F, D, o, C, B, z, y⟩
 . exact ⟨none, 0, by rw [k], by omega⟩
 exact ⟨_, cap, rfl, o⟩
theorem gJ
 (ho : o.op = .call { callee := .builtin .append, args := #[s, y], argTypes := #[30, 30] }) {S2 : Nat -> Prop} {u : Value} {l l2 : List Bs} (hs : a.eval s = v) (hA : Acc elS 9 base S w v l) (hS : ∀ k, S k -> k < w.heap.size)
 (E : Env w L) (hok : ∀ g, v.ownBlock = some g -> base <= g -> g < w.heap.size -> Ok g L) (hy : a.eval y = u) (hR : IsR elS S2 w u l2)
 (h63 : l.length + l2.length <= maxLen) (hby : (l.length + l2.length) * 16 <= 140737488355328) (hbase : base <= w.heap.size)
 (h : ∀ v' w', Env w' (fA elS 9 base S v' (l ++ l2) :: L) -> K (a.put o.dst v') w') : o.wp prog a w K Q := by
 have Y := hA
 obtain ⟨i, z, e1, e2, e3, e4, e5, e6⟩ := RT_S.info
 by_cases C : l2 = []
 . subst C
   obtain ⟨ao, a0, rfl, T⟩ := hA.le
   obtain ⟨t, f, rfl, _, _⟩ := hR.shp
   have F : Src prog i.size 30 (.slice t 0 f) 0 [] w := by
    cases t with
    | none => exact Src.ofNil w RT_S.ht f
    | some ad => exact Src.ofSlice w RT_S.ht ad 0 f [] AH (fun j u p => by simp at p) (fun u p => by cases p)
   have R := run_append_nothing (P := prog) w 30 30 o.type 9 i RT_S.ht e1 ao l.length a0 T (.slice t 0 f) F
   unfold Oper.wp execOp
   simp only [ho, resolve, invoke, builtin, Sem.run_bind, Sem.run_pure, Result.andThen_ok, List.map_toArray, List.map_cons, List.map_nil, hs, hy, List.length_nil, R]
   exact h _ w ⟨⟨by rw [List.append_nil]; exact Y, hS⟩, E⟩
 obtain ⟨t, f, rfl, _, _⟩ := hR.shp
 obtain ⟨_, _, _, b, B, rfl, a2, hc⟩ := aF hR C
 obtain ⟨D, I, h2, h3⟩ := hA
 obtain ⟨v', w', R, g2, q⟩ := RT (P := prog) (w := w) base 30 o.type 9 i z 1 16 RT_S.ht e1 e2 e3 e4 e5 AE Gn e6 v l.length D I ⟨b, B, none⟩ l2.length f (l2.map fun x => Value.string (bs x)) AH
  (fun j u p => by
    have : (⟨b, B, none⟩ : Addr).add j = ⟨b, B + j, none⟩ := by unfold Addr.add; split <;> simp_all
    rw [this]
    rw [List.getElem?_map] at p
    cases J : l2[j]? with
    | none => simp [J] at p
    | some x => simp [J] at p; subst p; exact hc j x J) (fun u p => by
    obtain ⟨x, _, rfl⟩ := List.mem_map.1 p; rfl) (fun u p k => by
    obtain ⟨x, _, rfl⟩ := List.mem_map.1 p
    intro e; cases e) h63 hby hbase
 unfold Oper.wp execOp
 simp only [ho, resolve, invoke, builtin, Sem.run_bind, Sem.run_pure, Result.andThen_ok, List.map_toArray, List.map_cons, List.map_nil, hs, hy, R]
 have N : w.heap.size <= w'.heap.size := by
  rcases q with ⟨q, _⟩ | ⟨g, hg, _, q⟩
  . exact q.size
  exact Nat.le_of_eq q.size.symm
 have H : ∀ g, v'.ownBlock = some g -> ¬ S g := by
  intro g hg
  rcases q with ⟨_, g4⟩ | ⟨g', X, U, _⟩
  . rw [g4 (by intro e; exact C (List.eq_nil_of_length_eq_zero e))] at hg
    simp only [Option.some.injEq] at hg
    intro hs; have := hS g hs; omega
  rw [U] at hg; simp only [Option.some.injEq] at hg; subst hg; exact h3 g' X
 have G : Acc elS 9 base S w' v' (l ++ l2) := by
  refine ⟨D ++ l2.map fun x => Value.string (bs x), by rw [List.length_append]; exact g2, fun j u p => ?_, H⟩
  have a1 : D.length = l.length := by rw [I.1]; exact Nat.mul_one _
  show ((D ++ l2.map fun x => Value.string (bs x)).drop (j * 1)).take 1 = [.string (bs u)]
  rw [Nat.mul_one]
  by_cases hj : j < l.length
  . rw [List.getElem?_append_left hj] at p
    have h4 : ((D.drop (j * 1)).take 1) = [.string (bs u)] := h2 j u p
    rw [Nat.mul_one] at h4
    rw [List.drop_append_of_le_length AA, List.take_append_of_le_length (by rw [List.length_drop]; omega)]; exact h4
  rw [List.getElem?_append_right AA] at p
  rw [show j = D.length + (j - l.length) by omega, <- List.drop_drop, List.drop_left]
  obtain ⟨q1, q2⟩ := List.getElem?_eq_some_iff.1 p
  rw [List.drop_eq_getElem_cons (by simpa using q1)]
  simp [q2]
 refine h v' w' ⟨⟨G, fun k hk => Nat.lt_of_lt_of_le (hS k hk) N⟩, ?_⟩
 rcases q with ⟨q, _⟩ | ⟨g, hg, _, q⟩
 . exact E.below q
 exact E.onl (I.noW hg rY) (hok g hg (I.blk hg).1 (I.blk hg).2) q
def RN (vars : List Bs) (l : List (Bool × En)) : Bs := l.flatMap fun e => PW vars e ++ [10]
theorem Pb (b : UInt8) : ∀ l : List Bs, jn b (l ++ [[]]) = l.flatMap fun x => x ++ [b]
 | [] => rfl
 | x :: l => by
   rw [List.cons_append, IP b x AH, Pb b l, List.flatMap_cons]; simp
theorem sF (s : Sy) : mA s = RP s.vars ++ 10 :: (RN s.vars (TH s.eqs s.neqs) ++ (dV s.next ++ [10])) := by
 unfold mA bT
 rw [Pb]
 simp only [List.flatMap_cons, List.flatMap_append, List.flatMap_nil, List.append_nil]
 unfold RN
 rw [List.flatMap_map]; simp
theorem Co (vars : List Bs) (l : List (Bool × En)) (e : Bool × En) : RN vars (l ++ [e]) = RN vars l ++ (PW vars e ++ [10]) := by unfold RN; simp
structure PrTo (s : Sy) (i k : Nat) (done : List (Bool × En)) : Prop where
 eq : done ++ TH (s.eqs.drop i) (s.neqs.drop k) = TH s.eqs s.neqs
 short : YR s.vars done = false
theorem PrTo.zero (s : Sy) : PrTo s 0 0 [] := ⟨by simp, rfl⟩
theorem NP {l : List α} {x : α} (h : l[i]? = some x) : l.drop i = x :: l.drop (i + 1) := by
 obtain ⟨f, e⟩ := List.getElem?_eq_some_iff.1 h
 rw [List.drop_eq_getElem_cons f, e]
theorem rC (vars : List Bs) (a b : List (Bool × En)) : YR vars (a ++ b) = (YR vars a || YR vars b) := by unfold YR; simp
def bV (s : Sy) (i k : Nat) (e : Bool × En) : Prop := (e.1 = false /\ s.eqs[i]? = some e.2 /\ (¬ k < s.neqs.length ∨ ∃ f, s.neqs[k]? = some f /\ e.2.1 < f.1)) ∨ (e.1 = true /\ s.neqs[k]? = some e.2 /\ (¬ i < s.eqs.length ∨ ∃ f, s.eqs[i]? = some f /\ ¬ f.1 < e.2.1))
theorem dW {s : Sy} {e : Bool × En} (h : bV s i k e) : TH (s.eqs.drop i) (s.neqs.drop k) = e :: TH (s.eqs.drop (if e.1 then i else i + 1)) (s.neqs.drop (if e.1 then k + 1 else k)) := by
 obtain ⟨b, x⟩ := e
 rcases h with ⟨rfl, o, l⟩ | ⟨rfl, o, l⟩
 . simp only at o l ⊢
   rw [NP o]
   rcases l with l | ⟨f, l, p⟩
   . rw [List.drop_eq_nil_of_le (by omega : s.neqs.length <= k), TH]; simp [List.drop_eq_nil_of_le (by omega : s.neqs.length <= k)]
   rw [NP l, TH, if_pos p]; simp [NP l]
 simp only at o l ⊢
 rw [NP o]
 rcases l with l | ⟨f, l, p⟩
 . rw [List.drop_eq_nil_of_le (by omega : s.eqs.length <= i), TH]; simp [List.drop_eq_nil_of_le (by omega : s.eqs.length <= i)]
 rw [NP l, TH, if_neg p]; simp [NP l]
theorem PrTo.step {s : Sy} {done : List (Bool × En)} {e : Bool × En} (h : PrTo s i k done) (hn : bV s i k e) (hl : ¬ 4000 < (DS s.vars e.2.2).length) : PrTo s (if e.1 then i else i + 1) (if e.1 then k + 1 else k) (done ++ [e]) := by
 refine ⟨?_, ?_⟩
 . have := h.eq; rw [dW hn] at this; rw [<- this]; simp
 rw [rC, h.short]; unfold YR; simp; omega
theorem PrTo.long {s : Sy} {done : List (Bool × En)} {e : Bool × En} (h : PrTo s i k done) (hs : GH s = true) (hn : bV s i k e) (hl : 4000 < (DS s.vars e.2.2).length) : MH s = ([], 2) := by
 unfold MH
 rw [if_neg (by rw [hs]; simp), if_pos]
 rw [<- h.eq, dW hn, rC]
 have : YR s.vars (e :: TH (s.eqs.drop (if e.1 then i else i + 1)) (s.neqs.drop (if e.1 then k + 1 else k))) = true := by unfold YR; simp [hl]
 rw [this]; simp
theorem PrTo.full {s : Sy} {done : List (Bool × En)} (h : PrTo s i k done) (hs : GH s = true) (hi : ¬ i < s.eqs.length) (hk : ¬ k < s.neqs.length) : done = TH s.eqs s.neqs /\ MH s = (mA s, 0) := by
 have e := h.eq
 rw [List.drop_eq_nil_of_le AA, List.drop_eq_nil_of_le AA, TH, List.append_nil] at e
 refine ⟨e, ?_⟩
 unfold MH
 rw [if_neg (by rw [hs]; simp), if_neg (by rw [<- e, h.short]; simp)]
theorem Ni {s : Sy} (h : GH s = false) : MH s = ([], 320) := by unfold MH; rw [if_pos h]
theorem Aj {s : Sy} (h : GH s = true) : DL 4 s.vars = true /\ s.eqs.length <= 12 /\ s.neqs.length <= 12 /\ 1 <= s.next /\ s.next <= 1000000 /\ (∀ e, e ∈ s.eqs ∨ e ∈ s.neqs -> e.1 <= 1000000 /\ LH s.vars.length e.2 = true) := by
 unfold GH at h
 simp only [Bool.and_eq_true, decide_eq_true_eq] at h
 obtain ⟨⟨⟨⟨⟨p, o⟩, l⟩, k⟩, a5⟩, q⟩ := h
 unfold ID at k a5
 simp only [Bool.and_eq_true, decide_eq_true_eq, List.all_eq_true] at k a5
 refine ⟨p, k.1.1, a5.1.1, o, l, fun e f => ?_⟩
 rcases f with f | f
 . have := k.1.2 e f; exact ⟨by omega, this.2⟩
 have := a5.1.2 e f; exact ⟨by omega, this.2⟩
theorem NL (h : n <= 1000000) : (txt ((n : Nat) : Int)).length <= 7 := by
 unfold txt
 rw [if_neg AA, List.nil_append, uE, Int.natAbs_natCast]
 exact rU AE AA
theorem XT {vars : List Bs} (h : DL 4 vars = true) : (RP vars).length <= 60 := by
 have p := Pa 32 (vaB :: vars)
 have u := GR h
 have o : ∀ v ∈ vars, v.length <= 12 := fun v e => eM (FJ h v e)
 have k : ∀ l : List Bs, (∀ v ∈ l, v.length <= 12) -> (l.map fun x => x.length + 1).sum <= 13 * l.length := by
  intro l
  induction l with
  | nil => intro _; simp
  | cons x l ih =>
    intro e
    have := ih (fun v f => e v (by simp [f]))
    have := e x AH
    simp only [List.map_cons, List.sum_cons, List.length_cons]; omega
 have t := k vars o
 have q : (RP vars).length <= (vaB.length + 1) + (vars.map fun x => x.length + 1).sum := by
  unfold RP; refine Nat.le_trans p ?_; simp
 have : vaB.length = 4 := rfl
 omega
theorem nZ {vars : List Bs} {e : Bool × En} (h : e.2.1 <= 1000000) (hl : ¬ 4000 < (DS vars e.2.2).length) : (PW vars e).length <= 4020 := by
 have l := NL h
 unfold PW
 have k : (pM e.1).length <= 5 := by cases e.1 <;> decide
 have f : colB.length = 2 := rfl
 simp only [List.length_append]; omega
theorem vM {s : Sy} (h : SyOk s) : (mA s).length <= 99000 := by
 obtain ⟨y, o⟩ := h
 obtain ⟨z, I, H, G, a5, p⟩ := Aj y
 have D := XT z
 have u : ∀ l : List (Bool × En), (∀ e ∈ l, (PW s.vars e).length <= 4020) -> (RN s.vars l).length <= 4021 * l.length := by
  intro l
  induction l with
  | nil => intro _; simp [RN]
  | cons x l ih =>
    intro k
    have := ih (fun v f => k v (by simp [f]))
    have F := k x AH
    unfold RN at this ⊢
    rw [List.flatMap_cons, List.length_append, List.length_append]
    simp only [List.length_cons, List.length_nil]; omega
 have t := u (TH s.eqs s.neqs) (fun e q => by
  rcases mrg_in.1 q with ⟨_, g⟩ | ⟨_, g⟩
  . exact nZ (p _ (.inl g)).1 (by have := (o _ (.inl g)).2; omega)
  exact nZ (p _ (.inr g)).1 (by have := (o _ (.inr g)).2; omega))
 rw [WD _ _ _ (Nat.le_refl _)] at t
 have C := NL a5
 rw [sF]
 simp only [List.length_append, List.length_cons, List.length_nil]
 have B : (dV s.next).length <= 12 := by unfold dV; rw [List.length_append]; have : nxB.length = 5 := rfl; omega
 omega
end Go.Proofs.YtmppigbbkjepiaaGreatDoor
