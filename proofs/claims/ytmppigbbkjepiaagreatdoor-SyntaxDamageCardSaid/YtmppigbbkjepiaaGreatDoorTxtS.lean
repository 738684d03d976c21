/- Helping facts of TxtS; no other conditions. -/
import Derived.Test.YtmppigbbkjepiaaGreatDoorRead1
namespace Go.Proofs.YtmppigbbkjepiaaGreatDoor
open W
abbrev En := Nat × List Tm
structure Rs where
  vars : List Bs
  eqs : List En
  neqs : List En
  next : Nat
  last : Nat
def vU : Rs := ⟨[], [], [], 0, 0⟩
def Rs.sy (r : Rs) : Sy := ⟨r.vars, r.eqs, r.neqs, r.next⟩
def Ii : Sy := ⟨[], [], [], 0⟩
def colB : Bs := [58, 32]
def oE : Bs := [32, 33, 61, 32, 48]
def rH : Bs := [32, 61, 32, 48]
def nxB : Bs := [110, 101, 120, 116, 32]
def vaB : Bs := [118, 97, 114, 115]
def Rs.lst (r : Rs) (neq : Bool) : List En := if neq then r.neqs else r.eqs
def Rs.add (r : Rs) (e : Bool × En) : Rs := if e.1 then ⟨r.vars, r.eqs, r.neqs ++ [e.2], r.next, e.2.1⟩ else ⟨r.vars, r.eqs ++ [e.2], r.neqs, r.next, e.2.1⟩
def bX (r : Rs) (id : Nat) (neq : Bool) (t : Bs) : Option Rs :=
  if (FC r.vars t).2.2 = 0 ∧ WK (FC r.vars t).1 ≤ 12 ∧ (r.lst neq).length < 12 then some (r.add (neq, id, (FC r.vars t).1)) else none
def KM (r : Rs) (l : Bs) : Option Rs :=
  if (Lib.cut l colB).2.2 = false then none else
  match FI ((r.last + 1 : Nat) : Int) 999999 (Lib.cut l colB).1 with
  | none => none
  | some id => if Lib.hasSuffix (Lib.cut l colB).2.1 oE = true then bX r id true (Lib.trimSuffix (Lib.cut l colB).2.1 oE)
    else if Lib.hasSuffix (Lib.cut l colB).2.1 rH = true then bX r id false (Lib.trimSuffix (Lib.cut l colB).2.1 rH) else none
def TX (r : Rs) (l : Bs) : Option Rs := if (EM 32 l).head? = some vaB ∧ DF 4 (EM 32 l).tail = true then some ⟨(EM 32 l).tail, r.eqs, r.neqs, r.next, r.last⟩ else none
def oD (r : Rs) (t : Bs) : Option Rs := (FI ((r.last + 1 : Nat) : Int) 1000000 t).map fun m => ⟨r.vars, r.eqs, r.neqs, m, r.last⟩
def FS (n : Nat) (r : Rs) (l : Bs) : Option Rs :=
  if n = 1 then TX r l else if r.next ≠ 0 then none else if Lib.hasPrefix l nxB = true then oD r (Lib.trimPrefix l nxB) else KM r l
abbrev Ps := Sy × Nat × Nat
def oQ : List Bs → Nat → Rs → Ps
  | [], n, _ => (Ii, n, 440)
  | [x], n, r => if x = [] then (if r.next = 0 then (Ii, n + 1, 440) else (r.sy, 0, 0)) else (Ii, n + 1, 440)
  | x :: y :: l, n, r => match FS (n + 1) r x with
    | none => (Ii, n + 1, 440)
    | some r' => oQ (y :: l) (n + 1) r'
def FZ (t : Bs) : Ps := if 100000 < t.length then (Ii, 0, 2) else oQ (EM 10 t) 0 vU
def IV : List Bs → Nat → Rs → Option Rs
  | [], _, r => some r
  | x :: l, n, r => match FS (n + 1) r x with
    | none => none
    | some r' => IV l (n + 1) r'
theorem iS : ∀ {ls : List Bs} {n : Nat} {r r' : Rs} {rest : List Bs}, IV ls n r = some r' → rest ≠ [] → oQ (ls ++ rest) n r = oQ rest (n + ls.length) r'
  | [], n, r, r', rest, h, _ => by simp only [IV, Option.some.injEq] at h; subst h; simp
  | x :: l, n, r, r', rest, h, hr => by
    obtain ⟨y, t, ht⟩ : ∃ y t, l ++ rest = y :: t := by
      cases f : l ++ rest with
      | nil => simp at f; exact absurd f.2 hr
      | cons y t => exact ⟨y, t, rfl⟩
    rw [List.cons_append, ht]
    cases e : FS (n + 1) r x with
    | none => simp [IV, e] at h
    | some r1 =>
      simp only [IV, e] at h
      simp only [oQ, e]
      rw [← ht, iS h hr]
      simp only [List.length_cons]
      congr 1; omega
theorem jR : ∀ {l1 l2 : List Bs} {n : Nat} {r r' : Rs}, IV l1 n r = some r' → IV (l1 ++ l2) n r = IV l2 (n + l1.length) r'
  | [], l2, n, r, r', h => by simp only [IV, Option.some.injEq] at h; subst h; simp
  | x :: l, l2, n, r, r', h => by
    cases hx : FS (n + 1) r x with
    | none => simp [IV, hx] at h
    | some r1 =>
      simp only [IV, hx] at h
      simp only [List.cons_append, IV, hx, List.length_cons]
      rw [jR h]; congr 1; omega
theorem zF : ∀ {ls : List Bs} {n : Nat} {r : Rs} {s : Sy} {k : Nat}, oQ ls n r = (s, k, 0) → ∃ l1 r', ls = l1 ++ [[]] ∧ IV l1 n r = some r' ∧ r'.next ≠ 0 ∧ s = r'.sy ∧ k = 0
  | [], n, r, s, k, h => by simp [oQ] at h
  | [x], n, r, s, k, h => by
    simp only [oQ] at h
    by_cases hx : x = []
    · rw [if_pos hx] at h
      by_cases hr : r.next = 0
      · rw [if_pos hr] at h; simp at h
      · rw [if_neg hr] at h
        simp only [Prod.mk.injEq] at h
        exact ⟨[], r, by rw [hx]; rfl, rfl, hr, h.1.symm, h.2.1.symm⟩
    · rw [if_neg hx] at h; simp at h
  | x :: y :: l, n, r, s, k, h => by
    simp only [oQ] at h
    cases hx : FS (n + 1) r x with
    | none => simp [hx] at h
    | some r1 =>
      simp only [hx] at h
      obtain ⟨l1, r', h1, h2, h3, h4, h5⟩ := zF h
      exact ⟨x :: l1, r', by rw [h1]; rfl, by simp only [IV, hx]; exact h2, h3, h4, h5⟩
theorem Cm : ∀ {ls : List Bs} {n : Nat} {r : Rs} {s : Sy} {k e : Nat}, ls ≠ [] → oQ ls n r = (s, k, e) → e ≠ 0 → s = Ii ∧ e = 440 ∧ n < k ∧ k ≤ n + ls.length
  | [], n, r, s, k, e, hl, _, _ => absurd rfl hl
  | [x], n, r, s, k, e, _, h, he => by
    simp only [oQ] at h
    by_cases hx : x = []
    · rw [if_pos hx] at h
      by_cases hr : r.next = 0
      · rw [if_pos hr] at h; simp only [Prod.mk.injEq] at h; exact ⟨h.1.symm, h.2.2.symm, by omega, by simp; omega⟩
      · rw [if_neg hr] at h; simp only [Prod.mk.injEq] at h; exact absurd h.2.2.symm he
    · rw [if_neg hx] at h; simp only [Prod.mk.injEq] at h; exact ⟨h.1.symm, h.2.2.symm, by omega, by simp; omega⟩
  | x :: y :: l, n, r, s, k, e, _, h, he => by
    simp only [oQ] at h
    cases hx : FS (n + 1) r x with
    | none => simp only [hx, Prod.mk.injEq] at h; exact ⟨h.1.symm, h.2.2.symm, by omega, by simp; omega⟩
    | some r1 =>
      simp only [hx] at h
      obtain ⟨h1, h2, h3, h4⟩ := Cm AH h he
      exact ⟨h1, h2, by omega, by simp only [List.length_cons] at h4 ⊢; omega⟩
theorem Gh {t : Bs} {s : Sy} {n e : Nat} (h : FZ t = (s, n, e)) (he : e ≠ 0) : s = Ii ∧ ((100000 < t.length ∧ n = 0 ∧ e = 2) ∨ (t.length ≤ 100000 ∧ e = 440 ∧ 1 ≤ n ∧ n ≤ (EM 10 t).length)) := by
  unfold FZ at h
  by_cases f : 100000 < t.length
  · rw [if_pos f] at h; simp only [Prod.mk.injEq] at h
    exact ⟨h.1.symm, .inl ⟨f, h.2.1.symm, h.2.2.symm⟩⟩
  · rw [if_neg f] at h
    obtain ⟨l, k, p, o⟩ := Cm (NK 10 t) h he
    exact ⟨l, .inr ⟨by omega, k, by omega, by omega⟩⟩
def UQ (vars : List Bs) : Bs := jn 32 (vaB :: vars)
def mR (neq : Bool) : Bs := if neq then oE else rH
def QC (vars : List Bs) (e : Bool × En) : Bs := txt (e.2.1 : Int) ++ (colB ++ (DQ vars e.2.2 ++ mR e.1))
def ZK (n : Nat) : Bs := nxB ++ txt (n : Int)
def LY : List En → List En → List (Bool × En)
  | [], [] => []
  | e :: es, [] => (false, e) :: LY es []
  | [], n :: ns => (true, n) :: LY [] ns
  | e :: es, n :: ns => if e.1 < n.1 then (false, e) :: LY es (n :: ns) else (true, n) :: LY (e :: es) ns
termination_by a b => a.length + b.length
def QF (s : Sy) : List Bs := UQ s.vars :: ((LY s.eqs s.neqs).map (QC s.vars) ++ [ZK s.next])
def SH (s : Sy) : Bs := jn 10 (QF s ++ [[]])
def ZL (vars : List Bs) (l : List (Bool × En)) : Bool := l.any fun e => decide (4000 < (DQ vars e.2.2).length)
def RN (s : Sy) : Bs × Nat := if JN s = false then ([], 320) else if ZL s.vars (LY s.eqs s.neqs) = true then ([], 2) else (SH s, 0)
theorem Wi {e n : En} {es ns : List En} (h : e.1 < n.1) : LY (e :: es) (n :: ns) = (false, e) :: LY es (n :: ns) := by rw [LY, if_pos h]
theorem Wj {e n : En} {es ns : List En} (h : ¬ e.1 < n.1) : LY (e :: es) (n :: ns) = (true, n) :: LY (e :: es) ns := by rw [LY, if_neg h]
theorem mrg_l (e : En) (es : List En) : LY (e :: es) [] = (false, e) :: LY es [] := by rw [LY]
theorem mrg_r (n : En) (ns : List En) : LY [] (n :: ns) = (true, n) :: LY [] ns := by rw [LY]
theorem PZ : ∀ (n : Nat) (a b : List En) (e : En), a.length + b.length ≤ n → (∀ x ∈ b, x.1 < e.1) → LY (a ++ [e]) b = LY a b ++ [(false, e)]
  | _, [], [], e, _, _ => by simp [LY]
  | n + 1, [], y :: b, e, hn, hb => by
    have h1 := hb y AH
    rw [List.nil_append, Wj AA, mrg_r, List.cons_append]
    have := PZ n [] b e (by simp at hn ⊢; omega) (fun x hx => hb x (by simp [hx]))
    rw [List.nil_append] at this; rw [this]
  | n + 1, x :: a, [], e, hn, hb => by
    rw [List.cons_append, LY, LY, List.cons_append, PZ n a [] e (by simp at hn ⊢; omega) hb]
  | n + 1, x :: a, y :: b, e, hn, hb => by
    rw [List.cons_append, LY, LY]
    by_cases h : x.1 < y.1
    · rw [if_pos h, if_pos h, List.cons_append, PZ n a (y :: b) e (by simp at hn ⊢; omega) hb]
    · rw [if_neg h, if_neg h, List.cons_append]
      have := PZ n (x :: a) b e (by simp at hn ⊢; omega) (fun z hz => hb z (by simp [hz]))
      rw [List.cons_append] at this; rw [this]
  | 0, x :: a, b, e, hn, _ => by simp at hn
  | 0, [], y :: b, e, hn, _ => by simp at hn
theorem OF : ∀ (n : Nat) (a b : List En) (e : En), a.length + b.length ≤ n → (∀ x ∈ a, x.1 < e.1) → LY a (b ++ [e]) = LY a b ++ [(true, e)]
  | _, [], [], e, _, _ => by simp [LY]
  | n + 1, x :: a, [], e, hn, ha => by
    have h1 := ha x AH
    rw [List.nil_append, Wi h1, mrg_l, List.cons_append]
    have := OF n a [] e (by simp at hn ⊢; omega) (fun z hz => ha z (by simp [hz]))
    rw [List.nil_append] at this; rw [this]
  | n + 1, [], y :: b, e, hn, ha => by
    rw [List.cons_append, LY, LY, List.cons_append, OF n [] b e (by simp at hn ⊢; omega) ha]
  | n + 1, x :: a, y :: b, e, hn, ha => by
    rw [List.cons_append, LY, LY]
    by_cases h : x.1 < y.1
    · rw [if_pos h, if_pos h, List.cons_append]
      have := OF n a (y :: b) e (by simp at hn ⊢; omega) (fun z hz => ha z (by simp [hz]))
      rw [List.cons_append] at this; rw [this]
    · rw [if_neg h, if_neg h, List.cons_append, OF n (x :: a) b e (by simp at hn ⊢; omega) ha]
  | 0, x :: a, b, e, hn, _ => by simp at hn
  | 0, [], y :: b, e, hn, _ => by simp at hn
theorem cD : ∀ (n : Nat) (a b : List En) (x : Bool × En), a.length + b.length ≤ n → (x ∈ LY a b ↔ (x.1 = false ∧ x.2 ∈ a) ∨ (x.1 = true ∧ x.2 ∈ b))
  | _, [], [], x, _ => by simp [LY]
  | n + 1, x :: a, [], y, hn => by
    rw [LY, List.mem_cons, cD n a [] y (by simp at hn ⊢; omega)]
    obtain ⟨u, v⟩ := y
    cases u <;> simp
  | n + 1, [], x :: a, y, hn => by
    rw [LY, List.mem_cons, cD n [] a y (by simp at hn ⊢; omega)]
    obtain ⟨u, v⟩ := y
    cases u <;> simp
  | n + 1, x :: a, y :: b, z, hn => by
    rw [LY]
    obtain ⟨u, v⟩ := z
    by_cases h : x.1 < y.1
    · rw [if_pos h, List.mem_cons, cD n a (y :: b) _ (by simp at hn ⊢; omega)]
      cases u <;> simp
    · rw [if_neg h, List.mem_cons, cD n (x :: a) b _ (by simp at hn ⊢; omega)]
      cases u <;> simp
  | 0, x :: a, b, _, hn => by simp at hn
  | 0, [], y :: b, _, hn => by simp at hn
theorem mrg_in {a b : List En} {x : Bool × En} : x ∈ LY a b ↔ (x.1 = false ∧ x.2 ∈ a) ∨ (x.1 = true ∧ x.2 ∈ b) := cD _ a b x (Nat.le_refl _)
theorem cF : ∀ (n : Nat) (a b : List En), a.length + b.length ≤ n → (LY a b).length = a.length + b.length
  | _, [], [], _ => by simp [LY]
  | n + 1, x :: a, [], hn => by rw [LY, List.length_cons, cF n a [] (by simp at hn ⊢; omega)]; simp; 
  | n + 1, [], x :: a, hn => by rw [LY, List.length_cons, cF n [] a (by simp at hn ⊢; omega)]; simp; 
  | n + 1, x :: a, y :: b, hn => by
    rw [LY]
    by_cases h : x.1 < y.1
    · rw [if_pos h, List.length_cons, cF n a (y :: b) (by simp at hn ⊢; omega)]; simp; omega
    · rw [if_neg h, List.length_cons, cF n (x :: a) b (by simp at hn ⊢; omega)]; simp; omega
  | 0, x :: a, b, hn => by simp at hn
  | 0, [], y :: b, hn => by simp at hn
def Rs.lines (r : Rs) : List Bs := UQ r.vars :: ((LY r.eqs r.neqs).map (QC r.vars) ++ (if r.next = 0 then [] else [ZK r.next]))
structure RsOk (r : Rs) : Prop where
  vars : DF 4 r.vars = true
  last : r.last ≤ 999999
  next : r.next = 0 ∨ (r.last < r.next ∧ r.next ≤ 1000000)
  all : ∀ b, ∀ e ∈ r.lst b, 1 ≤ e.1 ∧ e.1 ≤ r.last ∧ EJ e.2 ∧ MB r.vars.length e.2 = true ∧ (DQ r.vars e.2).length ≤ 4000
  len : ∀ b, (r.lst b).length ≤ 12
  pw : ∀ b, (FT (r.lst b)).Pairwise (· < ·)
  dis : ∀ i ∈ FT r.eqs, i ∉ FT r.neqs
theorem Tx {s p : Bs} (h : Lib.hasSuffix s p = true) : Lib.trimSuffix s p ++ p = s := by
  unfold Lib.hasSuffix at h
  obtain ⟨r, rfl⟩ := List.isSuffixOf_iff_suffix.1 h
  unfold Lib.trimSuffix Lib.hasSuffix
  rw [if_pos h]; simp
theorem trimP {s p : Bs} (h : Lib.hasPrefix s p = true) : p ++ Lib.trimPrefix s p = s := by
  unfold Lib.hasPrefix at h
  obtain ⟨r, rfl⟩ := List.isPrefixOf_iff_prefix.1 h
  unfold Lib.trimPrefix Lib.hasPrefix
  rw [if_pos h]; simp
theorem Hp {s sep : Bs} (h : (Lib.cut s sep).2.2 = true) : (Lib.cut s sep).1 ++ (sep ++ (Lib.cut s sep).2.1) = s := by
  unfold Lib.cut at h ⊢
  by_cases g : 0 ≤ Lib.index s sep
  · rw [if_pos g]
    rcases Lib.index_spec s sep with ⟨k, _⟩ | ⟨i, k, l, f, _⟩
    · omega
    · rw [k]
      simp only [Int.toNat_natCast]
      unfold Lib.occAt at f
      obtain ⟨r, e⟩ := List.isPrefixOf_iff_prefix.1 f
      have : s.drop (i + sep.length) = r := by rw [← List.drop_drop, ← e]; simp
      rw [this, e, List.take_append_drop]
  · rw [if_neg g] at h; cases h
theorem fits_iff {n : Nat} {p : List Tm} : MB n p = true ↔ EA p < 2 ^ n ∧ WK p ≤ 12 := by unfold MB; simp
theorem iP {r : Rs} {neq : Bool} {e : En} : (r.add (neq, e)).lst neq = r.lst neq ++ [e] := by cases neq <;> rfl
theorem cG {r : Rs} {neq b : Bool} {e : En} (h : b ≠ neq) : (r.add (neq, e)).lst b = r.lst b := by cases neq <;> cases b <;> first | rfl | exact absurd rfl h
theorem KU {r : Rs} {e : Bool × En} : (r.add e).vars = r.vars := by unfold Rs.add; split <;> rfl
theorem XZ {r : Rs} {e : Bool × En} : (r.add e).next = r.next := by unfold Rs.add; split <;> rfl
theorem OR {r : Rs} {e : Bool × En} : (r.add e).last = e.2.1 := by unfold Rs.add; split <;> rfl
theorem cO {vs : List Bs} (h : DF 4 vs = true) : DF 8 vs = true := by
  unfold DF at h ⊢
  simp only [Bool.and_eq_true, decide_eq_true_eq] at h ⊢
  exact ⟨⟨by omega, h.1.2⟩, h.2⟩
theorem ids_in {l : List En} {i : Nat} : i ∈ FT l ↔ ∃ e ∈ l, e.1 = i := by unfold FT; exact List.mem_map
theorem Xd {r : Rs} {neq : Bool} {id : Nat} {p : List Tm} (h : RsOk r) (hn : r.next = 0) (h1 : r.last < id) (h2 : id ≤ 999999) (hp : EJ p) (hf : MB r.vars.length p = true) (hl : (DQ r.vars p).length ≤ 4000) (hc : (r.lst neq).length < 12) :
    RsOk (r.add (neq, id, p)) ∧ LY (r.add (neq, id, p)).eqs (r.add (neq, id, p)).neqs = LY r.eqs r.neqs ++ [(neq, id, p)] := by
  have lt : ∀ b, ∀ e ∈ r.lst b, e.1 < id := fun b e l => by have := (h.all b e l).2.1; omega
  refine ⟨⟨by rw [KU]; exact h.vars, by rw [OR]; exact h2, .inl (by rw [XZ]; exact hn), fun b e l => ?_, fun b => ?_, fun b => ?_, ?_⟩, ?_⟩
  · rw [OR, KU]
    by_cases o : b = neq
    · subst o; rw [iP] at l
      rcases List.mem_append.1 l with g | g
      · obtain ⟨v, D, u⟩ := h.all _ e g; exact ⟨v, by simp only; omega, u⟩
      · simp at g; subst g; exact ⟨by simp only; omega, Nat.le_refl _, hp, hf, hl⟩
    · rw [cG o] at l; obtain ⟨v, D, u⟩ := h.all _ e l; exact ⟨v, by simp only; omega, u⟩
  · by_cases o : b = neq
    · subst o; rw [iP]; simp; omega
    · rw [cG o]; exact h.len b
  · by_cases o : b = neq
    · subst o; rw [iP, MX, List.pairwise_append]
      refine ⟨h.pw _, by simp, fun x C y z => ?_⟩
      simp at z; subst z
      obtain ⟨e, l, rfl⟩ := ids_in.1 C
      exact lt _ e l
    · rw [cG o]; exact h.pw b
  · intro i t B
    have q : ∀ b, ∀ i ∈ FT (r.lst b), i < id := fun b i t => by obtain ⟨e, l, rfl⟩ := ids_in.1 t; exact lt b e l
    cases neq with
    | true =>
      have k : i ∈ FT r.eqs := t
      have f : i ∈ FT (r.neqs ++ [(id, p)]) := B
      rw [MX] at f
      rcases List.mem_append.1 f with g | g
      · exact h.dis i k g
      · simp at g; have := q false i k; omega
    | false =>
      have k : i ∈ FT (r.eqs ++ [(id, p)]) := t
      have f : i ∈ FT r.neqs := B
      rw [MX] at k
      rcases List.mem_append.1 k with g | g
      · exact h.dis i g f
      · simp at g; have := q true i f; omega
  · cases neq with
    | true => exact OF _ r.eqs r.neqs (id, p) (Nat.le_refl _) (lt false)
    | false => exact PZ _ r.eqs r.neqs (id, p) (Nat.le_refl _) (lt true)
theorem Bv {r r' : Rs} {id : Nat} {neq : Bool} {t : Bs} (h : RsOk r) (hn : r.next = 0) (h1 : r.last < id) (h2 : id ≤ 999999) (hp : bX r id neq t = some r') :
    RsOk r' ∧ r'.vars = r.vars ∧ r'.next = 0 ∧ ∃ p, LY r'.eqs r'.neqs = LY r.eqs r.neqs ++ [(neq, id, p)] ∧ DQ r.vars p = t := by
  unfold bX at hp
  obtain ⟨q, n, e⟩ : Rd := FC r.vars t
  by_cases g : (FC r.vars t).2.2 = 0 ∧ WK (FC r.vars t).1 ≤ 12 ∧ (r.lst neq).length < 12
  · rw [if_pos g] at hp
    simp only [Option.some.injEq] at hp
    obtain ⟨k, f, v⟩ := g
    cases l : FC r.vars t with
    | mk p ne =>
      obtain ⟨n, e⟩ := ne
      rw [l] at k f hp
      simp only at k f hp; subst k
      obtain ⟨_, C, _, u, B, o⟩ := SZ l
      obtain ⟨z, y⟩ := Xd (neq := neq) (id := id) (p := p) h hn h1 h2 u (fits_iff.2 ⟨(KC u).2 B, f⟩) (by rw [o]; exact C) v
      subst hp
      exact ⟨z, KU, by rw [XZ]; exact hn, p, y, o⟩
  · rw [if_neg g] at hp; cases hp
theorem Nf {r r' : Rs} {l : Bs} (h : RsOk r) (hn : r.next = 0) (he : KM r l = some r') :
    RsOk r' ∧ r'.vars = r.vars ∧ r'.next = 0 ∧ ∃ e, LY r'.eqs r'.neqs = LY r.eqs r.neqs ++ [e] ∧ QC r.vars e = l := by
  unfold KM at he
  by_cases z : (Lib.cut l colB).2.2 = false
  · rw [if_pos z] at he; cases he
  · rw [if_neg z] at he
    have f := Hp (s := l) (sep := colB) (by cases C : (Lib.cut l colB).2.2 <;> simp_all)
    cases q : FI ((r.last + 1 : Nat) : Int) 999999 (Lib.cut l colB).1 with
    | none => simp only [q, reduceCtorEq] at he
    | some id =>
      simp only [q] at he
      obtain ⟨B, F, D⟩ := NM AA q
      by_cases o : Lib.hasSuffix (Lib.cut l colB).2.1 oE = true
      · rw [if_pos o] at he
        obtain ⟨y, v, u, p, t, a5⟩ := Bv h hn AA AA he
        refine ⟨y, v, u, _, t, ?_⟩
        unfold QC; simp only [a5]
        rw [show mR true = oE from rfl, Tx o, ← B, f]
      · rw [if_neg o] at he
        by_cases k : Lib.hasSuffix (Lib.cut l colB).2.1 rH = true
        · rw [if_pos k] at he
          obtain ⟨y, v, u, p, t, a5⟩ := Bv h hn AA AA he
          refine ⟨y, v, u, _, t, ?_⟩
          unfold QC; simp only [a5]
          rw [show mR false = rH from rfl, Tx k, ← B, f]
        · rw [if_neg k] at he; cases he
theorem Rj {r r' : Rs} {n : Nat} {l : Bs} (h : RsOk r) (hn : n ≠ 1) (he : FS n r l = some r') : RsOk r' ∧ r'.lines = r.lines ++ [l] := by
  unfold FS at he
  rw [if_neg hn] at he
  by_cases p : r.next ≠ 0
  · rw [if_pos p] at he; cases he
  · rw [if_neg p] at he
    have f : r.next = 0 := by omega
    by_cases o : Lib.hasPrefix l nxB = true
    · rw [if_pos o] at he
      unfold oD at he
      cases k : FI ((r.last + 1 : Nat) : Int) 1000000 (Lib.trimPrefix l nxB) with
      | none => rw [k] at he; cases he
      | some m =>
        obtain ⟨q, B, z⟩ := NM AA k
        simp only [k, Option.map_some, Option.some.injEq] at he
        subst he
        refine ⟨⟨h.vars, h.last, .inr ⟨by show r.last < m; omega, by show m ≤ 1000000; omega⟩, h.all, h.len, h.pw, h.dis⟩, ?_⟩
        unfold Rs.lines
        rw [if_neg (show ¬ m = 0 by omega), if_pos f]
        simp only [List.append_nil, List.cons_append]
        unfold ZK
        rw [← q, trimP o]
    · rw [if_neg o] at he
      obtain ⟨y, v, u, e, t, a5⟩ := Nf h f he
      refine ⟨y, ?_⟩
      unfold Rs.lines
      rw [t, v, if_pos u, if_pos f, List.map_append]
      simp [a5]
theorem Kj : ∀ {ls : List Bs} {n : Nat} {r r' : Rs}, RsOk r → n ≠ 0 → IV ls n r = some r' → RsOk r' ∧ r'.lines = r.lines ++ ls
  | [], n, r, r', h, _, hr => by simp only [IV, Option.some.injEq] at hr; subst hr; exact ⟨h, by simp⟩
  | x :: l, n, r, r', h, hn, hr => by
    cases hx : FS (n + 1) r x with
    | none => simp [IV, hx] at hr
    | some r1 =>
      simp only [IV, hx] at hr
      obtain ⟨a1, a2⟩ := Rj h AA hx
      obtain ⟨b1, b2⟩ := Kj a1 AA hr
      exact ⟨b1, by rw [b2, a2]; simp⟩
theorem RsOk0 {vs : List Bs} (h : DF 4 vs = true) : RsOk ⟨vs, [], [], 0, 0⟩ := ⟨h, (by show 0 ≤ 999999; decide), .inl rfl, fun b e he => (by cases b <;> cases he), fun b => (by cases b <;> exact Nat.zero_le _), fun b => (by cases b <;> exact List.Pairwise.nil), fun i hi => (by simp [FT] at hi)⟩
theorem Ao {r r' : Rs} {l : Bs} (h : TX r l = some r') : ∃ vs, DF 4 vs = true ∧ UQ vs = l ∧ r' = ⟨vs, r.eqs, r.neqs, r.next, r.last⟩ := by
  unfold TX at h
  by_cases g : (EM 32 l).head? = some vaB ∧ DF 4 (EM 32 l).tail = true
  · rw [if_pos g] at h
    simp only [Option.some.injEq] at h
    refine ⟨_, g.2, ?_, h.symm⟩
    unfold UQ
    have f := kV 32 l
    cases e : EM 32 l with
    | nil => rw [e] at g; simp at g
    | cons x t => rw [e] at g f; simp at g; rw [List.tail_cons, ← g.1]; exact f
  · rw [if_neg g] at h; cases h
theorem Bj {ls : List Bs} {r : Rs} (hl : ls ≠ []) (h : IV ls 0 vU = some r) : RsOk r ∧ r.lines = ls := by
  cases ls with
  | nil => exact absurd rfl hl
  | cons x l =>
    cases e : FS (0 + 1) vU x with
    | none => simp only [IV, e] at h; cases h
    | some r1 =>
      simp only [IV, e] at h
      unfold FS at e
      rw [if_pos rfl] at e
      obtain ⟨t, q, p, o⟩ := Ao e
      subst o
      obtain ⟨k, f⟩ := Kj (RsOk0 q) AA h
      refine ⟨k, ?_⟩
      rw [f]; unfold Rs.lines; simp [LY, p]
theorem RsOk.sys {r : Rs} (h : RsOk r) (hn : r.next ≠ 0) : JN r.sy = true := by
  obtain ⟨q, p⟩ := h.next.resolve_left hn
  have k : ∀ b, JO r.vars.length r.next (r.lst b) = true := fun b => by
    unfold JO
    simp only [Bool.and_eq_true, decide_eq_true_eq, List.all_eq_true]
    exact ⟨⟨h.len b, fun e f => ⟨⟨(h.all b e f).1, by have := (h.all b e f).2.1; omega⟩, (h.all b e f).2.2.2.1⟩⟩, h.pw b⟩
  exact Ay (s := r.sy) h.vars (by show ¬ r.next < 1; omega) (by show ¬ r.next > 1000000; omega) (k false) (k true) (fun i o l => h.dis i l o)
def SyOk (s : Sy) : Prop := JN s = true ∧ ∀ e, e ∈ s.eqs ∨ e ∈ s.neqs → EJ e.2 ∧ (DQ s.vars e.2).length ≤ 4000
theorem RsOk.sy {r : Rs} (h : RsOk r) (hn : r.next ≠ 0) : SyOk r.sy := ⟨h.sys hn, fun e he => by
  rcases he with he | he
  · exact ⟨(h.all false e he).2.2.1, (h.all false e he).2.2.2.2⟩
  · exact ⟨(h.all true e he).2.2.1, (h.all true e he).2.2.2.2⟩⟩
theorem XH {t : Bs} {s : Sy} {n : Nat} (h : FZ t = (s, n, 0)) : n = 0 ∧ t.length ≤ 100000 ∧ SyOk s ∧ SH s = t := by
  unfold FZ at h
  by_cases l : 100000 < t.length
  · rw [if_pos l] at h; simp at h
  · rw [if_neg l] at h
    obtain ⟨p, z, u, k, f, o, q⟩ := zF h
    have e : p ≠ [] := by
      rintro rfl
      simp only [IV, Option.some.injEq] at k
      subst k; exact f rfl
    obtain ⟨y, v⟩ := Bj e k
    refine ⟨q, by omega, by rw [o]; exact y.sy f, ?_⟩
    have := kV 10 t
    rw [u, ← v] at this
    rw [← this, o]
    unfold SH QF Rs.lines Rs.sy
    rw [if_neg f]
theorem Ww {x y : Bs} (h : (58 : UInt8) ∉ x) : Lib.cut (x ++ (colB ++ y)) colB = (x, y, true) := by
  have l : Lib.index (x ++ (colB ++ y)) colB = ((x.length : Nat) : Int) := by
    refine Lib.index_first (i := x.length) AH ?_ ?_
    · unfold Lib.occAt
      rw [List.drop_left]; exact List.isPrefixOf_iff_prefix.2 ⟨y, rfl⟩
    · intro j k
      unfold Lib.occAt
      rw [List.drop_append_of_le_length AA, List.drop_eq_getElem_cons k]
      have : ¬ (58 : UInt8) = x[j] := fun e => h (e ▸ List.getElem_mem k)
      rw [Bool.eq_false_iff]
      intro g
      obtain ⟨r, f⟩ := List.isPrefixOf_iff_prefix.1 g
      simp only [colB, List.cons_append, List.cons.injEq] at f
      exact this f.1
  unfold Lib.cut
  rw [l, if_pos AA, Int.toNat_natCast, List.take_left, ← List.drop_drop, List.drop_left]
  rfl
theorem nH (x p : Bs) : Lib.hasSuffix (x ++ p) p = true ∧ Lib.trimSuffix (x ++ p) p = x := by
  have h : Lib.hasSuffix (x ++ p) p = true := List.isSuffixOf_iff_suffix.2 ⟨x, rfl⟩
  refine ⟨h, ?_⟩
  unfold Lib.trimSuffix; rw [if_pos h]; simp
theorem Ev (x p : Bs) : Lib.hasPrefix (p ++ x) p = true ∧ Lib.trimPrefix (p ++ x) p = x := by
  have h : Lib.hasPrefix (p ++ x) p = true := List.isPrefixOf_iff_prefix.2 ⟨x, rfl⟩
  refine ⟨h, ?_⟩
  unfold Lib.trimPrefix; rw [if_pos h]; simp
theorem Hg (x : Bs) : Lib.hasSuffix (x ++ rH) oE = false := by
  rw [Bool.eq_false_iff]
  intro g
  obtain ⟨r, e⟩ := List.isSuffixOf_iff_suffix.1 g
  have f := congrArg (fun l => (l.reverse)[3]?) e
  simp [rH, oE] at f
theorem Ep (z : Int) : (58 : UInt8) ∉ txt z := wN AE
theorem Je (z : Int) : (txt z).head? ≠ some 110 := by
  intro h
  cases e : txt z with
  | nil => rw [e] at h; cases h
  | cons b r =>
    rw [e] at h; simp at h; subst h
    have := YK z 110 (by rw [e]; simp)
    revert this; decide
theorem Hh (vars : List Bs) (e : Bool × En) : Lib.hasPrefix (QC vars e) nxB = false := by
  rw [Bool.eq_false_iff]
  intro g
  obtain ⟨r, f⟩ := List.isPrefixOf_iff_prefix.1 g
  unfold QC at f
  have h := Je (e.2.1 : Int)
  cases k : txt (e.2.1 : Int) with
  | nil => exact wO _ k
  | cons b q => rw [k] at f h; simp [nxB] at f h; exact h f.1.symm
theorem zH {r : Rs} {neq : Bool} {id : Nat} {p : List Tm} (hv : DF 4 r.vars = true) (h1 : r.last < id) (h2 : id ≤ 999999) (hp : EJ p) (hf : MB r.vars.length p = true) (hl : (DQ r.vars p).length ≤ 4000) (hc : (r.lst neq).length < 12) :
    KM r (QC r.vars (neq, id, p)) = some (r.add (neq, id, p)) := by
  have k : FC r.vars (DQ r.vars p) = (p, 0, 0) := VE (cO hv) hp ((KC hp).1 (fits_iff.1 hf).1) hl
  have e : bX r id neq (DQ r.vars p) = some (r.add (neq, id, p)) := by
    unfold bX
    rw [k, if_pos ⟨rfl, (fits_iff.1 hf).2, hc⟩]
  unfold KM QC
  simp only [Ww (Ep _)]
  rw [if_neg AH, eO AA AA]
  simp only
  cases neq with
  | true =>
    obtain ⟨h, f⟩ := nH (DQ r.vars p) oE
    rw [show mR true = oE from rfl, if_pos h, f]; exact e
  | false =>
    obtain ⟨h, f⟩ := nH (DQ r.vars p) rH
    rw [show mR false = rH from rfl, if_neg (by rw [Hg]; simp), if_pos h, f]; exact e
structure Fol (r : Rs) (a b : List En) : Prop where
  vars : DF 4 r.vars = true
  next : r.next = 0
  all : ∀ e, e ∈ a ∨ e ∈ b → r.last < e.1 ∧ e.1 ≤ 999999 ∧ EJ e.2 ∧ MB r.vars.length e.2 = true ∧ (DQ r.vars e.2).length ≤ 4000
  la : r.eqs.length + a.length ≤ 12
  lb : r.neqs.length + b.length ≤ 12
  pa : (FT a).Pairwise (· < ·)
  pb : (FT b).Pairwise (· < ·)
  dis : ∀ i ∈ FT a, i ∉ FT b
theorem VI {r : Rs} {n : Nat} (hn : n ≠ 0) {neq : Bool} {id : Nat} {p : List Tm} (hv : DF 4 r.vars = true) (h0 : r.next = 0) (h1 : r.last < id) (h2 : id ≤ 999999) (hp : EJ p) (hf : MB r.vars.length p = true) (hl : (DQ r.vars p).length ≤ 4000) (hc : (r.lst neq).length < 12) :
    FS (n + 1) r (QC r.vars (neq, id, p)) = some (r.add (neq, id, p)) := by
  unfold FS
  rw [if_neg AA, if_neg AA, if_neg (by rw [Hh]; simp)]
  exact zH hv h1 h2 hp hf hl hc
theorem iM {e : En} {l : List En} (h : (FT (e :: l)).Pairwise (· < ·)) : (∀ x ∈ l, e.1 < x.1) ∧ (FT l).Pairwise (· < ·) := by
  unfold FT at h ⊢
  rw [List.map_cons, List.pairwise_cons] at h
  exact ⟨fun x f => h.1 _ (List.mem_map.2 ⟨x, f, rfl⟩), h.2⟩
theorem Fol.eq {r : Rs} {e : En} {a b : List En} (h : Fol r (e :: a) b) (hb : ∀ x ∈ b, e.1 < x.1) : Fol (r.add (false, e)) a b := by
  obtain ⟨o, l⟩ := iM h.pa
  refine ⟨by rw [KU]; exact h.vars, by rw [XZ]; exact h.next, fun x f => ?_, by have := h.la; simp [Rs.add] at this ⊢; omega, by have := h.lb; simp [Rs.add] at this ⊢; omega, l, h.pb, fun i k => h.dis i (by unfold FT at k ⊢; simp [k])⟩
  rw [KU, OR]
  rcases f with f | f
  · exact ⟨o x f, (h.all x (.inl (by simp [f]))).2⟩
  · exact ⟨hb x f, (h.all x (.inr f)).2⟩
theorem Fol.neq {r : Rs} {e : En} {a b : List En} (h : Fol r a (e :: b)) (ha : ∀ x ∈ a, e.1 < x.1) : Fol (r.add (true, e)) a b := by
  obtain ⟨o, l⟩ := iM h.pb
  refine ⟨by rw [KU]; exact h.vars, by rw [XZ]; exact h.next, fun x f => ?_, by have := h.la; simp [Rs.add] at this ⊢; omega, by have := h.lb; simp [Rs.add] at this ⊢; omega, h.pa, l, fun i p k => h.dis i p (by unfold FT at k ⊢; simp [k])⟩
  rw [KU, OR]
  rcases f with f | f
  · exact ⟨ha x f, (h.all x (.inl f)).2⟩
  · exact ⟨o x f, (h.all x (.inr (by simp [f]))).2⟩
theorem XB : ∀ (k : Nat) (a b : List En) (n : Nat) (r : Rs), a.length + b.length ≤ k → n ≠ 0 → Fol r a b → ∃ last, IV ((LY a b).map (QC r.vars)) n r = some ⟨r.vars, r.eqs ++ a, r.neqs ++ b, r.next, last⟩ ∧ (last = r.last ∨ ∃ e, (e ∈ a ∨ e ∈ b) ∧ e.1 = last)
  | _, [], [], n, r, _, _, _ => ⟨r.last, by simp [LY, IV], .inl rfl⟩
  | k + 1, e :: a, [], n, r, hk, hn, h => by
    have ha := h.all e (.inl AH)
    have hl : FS (n + 1) r (QC r.vars (false, e)) = some (r.add (false, e)) := VI (id := e.1) (p := e.2) hn h.vars h.next ha.1 ha.2.1 ha.2.2.1 ha.2.2.2.1 ha.2.2.2.2 (by have := h.la; simp at this; show r.eqs.length < 12; omega)
    obtain ⟨last, g1, g2⟩ := XB k a [] (n + 1) (r.add (false, e)) (by simp at hk ⊢; omega) AA (h.eq (fun x hx => by cases hx))
    refine ⟨last, ?_, ?_⟩
    · rw [LY, List.map_cons]; simp only [IV, hl]; rw [KU] at g1; rw [g1]; simp [Rs.add]
    · rw [OR] at g2
      rcases g2 with g | ⟨x, g, g'⟩
      · exact .inr ⟨e, .inl AH, g.symm⟩
      · exact .inr ⟨x, by rcases g with g | g; exact .inl (by simp [g]); exact .inr g, g'⟩
  | k + 1, [], e :: b, n, r, hk, hn, h => by
    have ha := h.all e (.inr AH)
    have hl : FS (n + 1) r (QC r.vars (true, e)) = some (r.add (true, e)) := VI (id := e.1) (p := e.2) hn h.vars h.next ha.1 ha.2.1 ha.2.2.1 ha.2.2.2.1 ha.2.2.2.2 (by have := h.lb; simp at this; show r.neqs.length < 12; omega)
    obtain ⟨last, g1, g2⟩ := XB k [] b (n + 1) (r.add (true, e)) (by simp at hk ⊢; omega) AA (h.neq (fun x hx => by cases hx))
    refine ⟨last, ?_, ?_⟩
    · rw [LY, List.map_cons]; simp only [IV, hl]; rw [KU] at g1; rw [g1]; simp [Rs.add]
    · rw [OR] at g2
      rcases g2 with g | ⟨x, g, g'⟩
      · exact .inr ⟨e, .inr AH, g.symm⟩
      · exact .inr ⟨x, by rcases g with g | g; exact .inl g; exact .inr (by simp [g]), g'⟩
  | k + 1, e :: a, f :: b, n, r, hk, hn, h => by
    by_cases hlt : e.1 < f.1
    · have ha := h.all e (.inl AH)
      have hl : FS (n + 1) r (QC r.vars (false, e)) = some (r.add (false, e)) := VI (id := e.1) (p := e.2) hn h.vars h.next ha.1 ha.2.1 ha.2.2.1 ha.2.2.2.1 ha.2.2.2.2 (by have := h.la; simp at this; show r.eqs.length < 12; omega)
      obtain ⟨last, g1, g2⟩ := XB k a (f :: b) (n + 1) (r.add (false, e)) (by simp at hk ⊢; omega) AA (h.eq (fun x hx => by
        rcases List.mem_cons.1 hx with rfl | hx
        · exact hlt
        · have := (iM h.pb).1 x hx; omega))
      refine ⟨last, ?_, ?_⟩
      · rw [LY, if_pos hlt, List.map_cons]; simp only [IV, hl]; rw [KU] at g1; rw [g1]; simp [Rs.add]
      · rw [OR] at g2
        rcases g2 with g | ⟨x, g, g'⟩
        · exact .inr ⟨e, .inl AH, g.symm⟩
        · exact .inr ⟨x, by rcases g with g | g; exact .inl (by simp [g]); exact .inr g, g'⟩
    · have ha := h.all f (.inr AH)
      have hne : f.1 < e.1 := by
        have := h.dis e.1 (by simp [FT])
        simp [FT] at this
        omega
      have hl : FS (n + 1) r (QC r.vars (true, f)) = some (r.add (true, f)) := VI (id := f.1) (p := f.2) hn h.vars h.next ha.1 ha.2.1 ha.2.2.1 ha.2.2.2.1 ha.2.2.2.2 (by have := h.lb; simp at this; show r.neqs.length < 12; omega)
      obtain ⟨last, g1, g2⟩ := XB k (e :: a) b (n + 1) (r.add (true, f)) (by simp at hk ⊢; omega) AA (h.neq (fun x hx => by
        rcases List.mem_cons.1 hx with rfl | hx
        · exact hne
        · have := (iM h.pa).1 x hx; omega))
      refine ⟨last, ?_, ?_⟩
      · rw [LY, if_neg hlt, List.map_cons]; simp only [IV, hl]; rw [KU] at g1; rw [g1]; simp [Rs.add]
      · rw [OR] at g2
        rcases g2 with g | ⟨x, g, g'⟩
        · exact .inr ⟨f, .inr AH, g.symm⟩
        · exact .inr ⟨x, by rcases g with g | g; exact .inl g; exact .inr (by simp [g]), g'⟩
  | 0, e :: a, b, _, _, hk, _, _ => by simp at hk
  | 0, [], f :: b, _, _, hk, _, _ => by simp at hk
theorem Ek {r : Rs} {vs : List Bs} (h : DF 4 vs = true) : TX r (UQ vs) = some ⟨vs, r.eqs, r.neqs, r.next, r.last⟩ := by
  have f : EM 32 (UQ vs) = vaB :: vs := dZ 32 AH (by
    intro x e
    rcases List.mem_cons.1 e with rfl | e
    · decide
    · exact rB (FV h x e) AE)
  unfold TX
  rw [f]; simp [h]
theorem SyOk.fol {s : Sy} (h : SyOk s) : Fol ⟨s.vars, [], [], 0, 0⟩ s.eqs s.neqs ∧ 1 ≤ s.next ∧ s.next ≤ 1000000 ∧ ∀ e, e ∈ s.eqs ∨ e ∈ s.neqs → e.1 < s.next := by
  obtain ⟨l, o⟩ := h
  unfold JN at l
  simp only [Bool.and_eq_true, decide_eq_true_eq] at l
  obtain ⟨⟨⟨⟨⟨v, u⟩, t⟩, k⟩, a5⟩, q⟩ := l
  unfold JO at k a5
  simp only [Bool.and_eq_true, decide_eq_true_eq, List.all_eq_true] at k a5
  refine ⟨⟨v, O, fun e f => ?_, by simpa using k.1.1, by simpa using a5.1.1, k.2, a5.2, q⟩, u, t, fun e f => ?_⟩
  · have p : (1 ≤ e.1 ∧ e.1 < s.next) ∧ MB s.vars.length e.2 = true := by
      rcases f with f | f
      · exact k.1.2 e f
      · exact a5.1.2 e f
    exact ⟨by show 0 < e.1; omega, by omega, (o e f).1, p.2, (o e f).2⟩
  · rcases f with f | f
    · exact (k.1.2 e f).1.2
    · exact (a5.1.2 e f).1.2
theorem kU {s : Sy} (h : SyOk s) : ∃ r', IV (QF s) 0 vU = some r' ∧ r'.sy = s ∧ r'.next ≠ 0 := by
  obtain ⟨p, D, C, y⟩ := h.fol
  obtain ⟨f, t, q⟩ := XB _ s.eqs s.neqs 1 _ (Nat.le_refl _) AA p
  simp only [List.nil_append] at t q
  have o : f < s.next := by
    rcases q with g | ⟨e, B, rfl⟩
    · omega
    · exact y e B
  refine ⟨⟨s.vars, s.eqs, s.neqs, s.next, f⟩, ?_, O, by show s.next ≠ 0; omega⟩
  unfold QF
  have z : FS (0 + 1) vU (UQ s.vars) = some ⟨s.vars, [], [], 0, 0⟩ := by
    unfold FS; rw [if_pos rfl, Ek p.vars]; rfl
  simp only [IV, z]
  rw [jR t]
  simp only [IV]
  have : ∀ k l, k ≠ 0 → l = Rs.mk s.vars s.eqs s.neqs 0 f → FS (k + 1) l (ZK s.next) = some ⟨s.vars, s.eqs, s.neqs, s.next, f⟩ := by
    rintro k l F rfl
    unfold FS ZK
    obtain ⟨v, u⟩ := Ev (txt (s.next : Int)) nxB
    rw [if_neg AA, if_neg AH, if_pos v, u]
    unfold oD
    rw [eO (by simp only; omega) AA]; rfl
  rw [this _ _ AA rfl]
theorem fQ {vars : List Bs} (hv : ∀ v ∈ vars, LZ v = true) : ∀ (p : List Tm) (b : Bool), (10 : UInt8) ∉ GQ vars b p
  | [], b => by simp [GQ]
  | t :: p, b => by
    intro h
    unfold GQ at h
    rcases List.mem_append.1 h with g | g
    · rcases List.mem_append.1 g with g | g
      · unfold RG at g; revert g; cases b <;> simp <;> split <;> decide
      · exact jL hv AE AE AE AE g
    · exact fQ hv p false g
theorem xV {vars : List Bs} (hv : DF 8 vars = true) (p : List Tm) : (10 : UInt8) ∉ DQ vars p := by
  unfold DQ
  split
  · decide
  · exact fQ (FV hv) p true
theorem Cu (s : Sy) (h : SyOk s) : ∀ x ∈ QF s ++ [[]], (10 : UInt8) ∉ x := by
  obtain ⟨q, _⟩ := h.fol
  intro x f
  rcases List.mem_append.1 f with f | f
  · unfold QF at f
    rcases List.mem_cons.1 f with rfl | f
    · unfold UQ
      have : ∀ l : List Bs, (∀ v ∈ l, (10 : UInt8) ∉ v) → (10 : UInt8) ∉ jn 32 l := by
        intro l
        induction l with
        | nil => intro _; simp [jn]
        | cons y l ih =>
          intro k
          cases l with
          | nil => simpa [jn] using k y AH
          | cons z l =>
            rw [KK 32 y AH]
            intro o
            rcases List.mem_append.1 o with g | g
            · exact k y AH g
            · rcases List.mem_cons.1 g with g | g
              · exact absurd g AE
              · exact ih (fun v p => k v (by simp [p])) g
      refine this _ ?_
      intro v k
      rcases List.mem_cons.1 k with rfl | k
      · decide
      · exact rB (FV q.vars v k) AE
    · rcases List.mem_append.1 f with f | f
      · obtain ⟨e, t, rfl⟩ := List.mem_map.1 f
        unfold QC
        intro o
        rcases List.mem_append.1 o with g | g
        · exact wN (b := 10) AE g
        · rcases List.mem_append.1 g with g | g
          · exact absurd g AE
          · rcases List.mem_append.1 g with g | g
            · have := (xV (cO q.vars) e.2.2) g; exact this
            · revert g; cases e.1 <;> decide
      · simp at f; subst f
        unfold ZK
        intro o
        rcases List.mem_append.1 o with g | g
        · exact absurd g AE
        · exact wN (b := 10) AE g
  · simp at f; subst f; simp
end Go.Proofs.YtmppigbbkjepiaaGreatDoor
