/- Systems as text: what is read line by line, what is printed; plain laws. -/
import Derived.Test.YtmppigbbkjepiaaGreatDoorPolyT
namespace Go.Proofs.YtmppigbbkjepiaaGreatDoor
open W
abbrev En := Nat × List Tm
structure Rs where
  vars : List Bs
  eqs : List En
  neqs : List En
  next : Nat
  last : Nat
def wT : Rs := ⟨[], [], [], 0, 0⟩
def Rs.sy (r : Rs) : Sy := ⟨r.vars, r.eqs, r.neqs, r.next⟩
def Dx : Sy := ⟨[], [], [], 0⟩
def PA : Bs := [58, 32]
def tX : Bs := [32, 33, 61, 32, 48]
def wC : Bs := [32, 61, 32, 48]
def vM : Bs := [110, 101, 120, 116, 32]
def vaB : Bs := [118, 97, 114, 115]
def Rs.lst (r : Rs) (neq : Bool) : List En := if neq then r.neqs else r.eqs
def Rs.add (r : Rs) (e : Bool × En) : Rs := if e.1 then ⟨r.vars, r.eqs, r.neqs ++ [e.2], r.next, e.2.1⟩ else ⟨r.vars, r.eqs ++ [e.2], r.neqs, r.next, e.2.1⟩
def eS (r : Rs) (id : Nat) (neq : Bool) (t : Bs) : Option Rs :=
  if (EV r.vars t).2.2 = 0 ∧ RH (EV r.vars t).1 ≤ 12 ∧ (r.lst neq).length < 12 then some (r.add (neq, id, (EV r.vars t).1)) else none
def LG (r : Rs) (l : Bs) : Option Rs :=
  if (Lib.cut l PA).2.2 = false then none else
  match FC ((r.last + 1 : Nat) : Int) 999999 (Lib.cut l PA).1 with
  | none => none
  | some id => if Lib.hasSuffix (Lib.cut l PA).2.1 tX = true then eS r id true (Lib.trimSuffix (Lib.cut l PA).2.1 tX)
    else if Lib.hasSuffix (Lib.cut l PA).2.1 wC = true then eS r id false (Lib.trimSuffix (Lib.cut l PA).2.1 wC) else none
def VI (r : Rs) (l : Bs) : Option Rs := if (EN 32 l).head? = some vaB ∧ DS 4 (EN 32 l).tail = true then some ⟨(EN 32 l).tail, r.eqs, r.neqs, r.next, r.last⟩ else none
def rS (r : Rs) (t : Bs) : Option Rs := (FC ((r.last + 1 : Nat) : Int) 1000000 t).map fun m => ⟨r.vars, r.eqs, r.neqs, m, r.last⟩
def IP (n : Nat) (r : Rs) (l : Bs) : Option Rs :=
  if n = 1 then VI r l else if r.next ≠ 0 then none else if Lib.hasPrefix l vM = true then rS r (Lib.trimPrefix l vM) else LG r l
abbrev Ps := Sy × Nat × Nat
def sJ : List Bs → Nat → Rs → Ps
  | [], n, _ => (Dx, n, 440)
  | [x], n, r => if x = [] then (if r.next = 0 then (Dx, n + 1, 440) else (r.sy, 0, 0)) else (Dx, n + 1, 440)
  | x :: y :: l, n, r => match IP (n + 1) r x with
    | none => (Dx, n + 1, 440)
    | some r' => sJ (y :: l) (n + 1) r'
def GB (t : Bs) : Ps := if 100000 < t.length then (Dx, 0, 2) else sJ (EN 10 t) 0 wT
def KR : List Bs → Nat → Rs → Option Rs
  | [], _, r => some r
  | x :: l, n, r => match IP (n + 1) r x with
    | none => none
    | some r' => KR l (n + 1) r'
theorem zF : ∀ {ls : List Bs} {n : Nat} {r r' : Rs} {rest : List Bs}, KR ls n r = some r' → rest ≠ [] → sJ (ls ++ rest) n r = sJ rest (n + ls.length) r'
  | [], n, r, r', rest, h, _ => by simp only [KR, Option.some.injEq] at h; subst h; simp
  | x :: l, n, r, r', rest, h, hr => by
    obtain ⟨y, t, ht⟩ : ∃ y t, l ++ rest = y :: t := by
      cases f : l ++ rest with
      | nil => simp at f; exact absurd f.2 hr
      | cons y t => exact ⟨y, t, rfl⟩
    rw [List.cons_append, ht]
    cases e : IP (n + 1) r x with
    | none => simp [KR, e] at h
    | some r1 =>
      simp only [KR, e] at h
      simp only [sJ, e]
      rw [← ht, zF h hr]
      simp only [List.length_cons]
      congr 1; omega
theorem rB : ∀ {l1 l2 : List Bs} {n : Nat} {r r' : Rs}, KR l1 n r = some r' → KR (l1 ++ l2) n r = KR l2 (n + l1.length) r'
  | [], l2, n, r, r', h => by simp only [KR, Option.some.injEq] at h; subst h; simp
  | x :: l, l2, n, r, r', h => by
    cases hx : IP (n + 1) r x with
    | none => simp [KR, hx] at h
    | some r1 =>
      simp only [KR, hx] at h
      simp only [List.cons_append, KR, hx, List.length_cons]
      rw [rB h]; congr 1; omega
theorem wA : ∀ {ls : List Bs} {n : Nat} {r : Rs} {s : Sy} {k : Nat}, sJ ls n r = (s, k, 0) → ∃ l1 r', ls = l1 ++ [[]] ∧ KR l1 n r = some r' ∧ r'.next ≠ 0 ∧ s = r'.sy ∧ k = 0
  | [], n, r, s, k, h => by simp [sJ] at h
  | [x], n, r, s, k, h => by
    simp only [sJ] at h
    by_cases hx : x = []
    · rw [if_pos hx] at h
      by_cases hr : r.next = 0
      · rw [if_pos hr] at h; simp at h
      · rw [if_neg hr] at h
        simp only [Prod.mk.injEq] at h
        exact ⟨[], r, by rw [hx]; rfl, rfl, hr, h.1.symm, h.2.1.symm⟩
    · rw [if_neg hx] at h; simp at h
  | x :: y :: l, n, r, s, k, h => by
    simp only [sJ] at h
    cases hx : IP (n + 1) r x with
    | none => simp [hx] at h
    | some r1 =>
      simp only [hx] at h
      obtain ⟨l1, r', h1, h2, h3, h4, h5⟩ := wA h
      exact ⟨x :: l1, r', by rw [h1]; rfl, by simp only [KR, hx]; exact h2, h3, h4, h5⟩
theorem zH : ∀ {ls : List Bs} {n : Nat} {r : Rs} {s : Sy} {k e : Nat}, ls ≠ [] → sJ ls n r = (s, k, e) → e ≠ 0 → s = Dx ∧ e = 440 ∧ n < k ∧ k ≤ n + ls.length
  | [], n, r, s, k, e, hl, _, _ => absurd rfl hl
  | [x], n, r, s, k, e, _, h, he => by
    simp only [sJ] at h
    by_cases hx : x = []
    · rw [if_pos hx] at h
      by_cases hr : r.next = 0
      · rw [if_pos hr] at h; simp only [Prod.mk.injEq] at h; exact ⟨h.1.symm, h.2.2.symm, by omega, by simp; omega⟩
      · rw [if_neg hr] at h; simp only [Prod.mk.injEq] at h; exact absurd h.2.2.symm he
    · rw [if_neg hx] at h; simp only [Prod.mk.injEq] at h; exact ⟨h.1.symm, h.2.2.symm, by omega, by simp; omega⟩
  | x :: y :: l, n, r, s, k, e, _, h, he => by
    simp only [sJ] at h
    cases hx : IP (n + 1) r x with
    | none => simp only [hx, Prod.mk.injEq] at h; exact ⟨h.1.symm, h.2.2.symm, by omega, by simp; omega⟩
    | some r1 =>
      simp only [hx] at h
      obtain ⟨h1, h2, h3, h4⟩ := zH AG h he
      exact ⟨h1, h2, by omega, by simp only [List.length_cons] at h4 ⊢; omega⟩
theorem Co {t : Bs} {s : Sy} {n e : Nat} (h : GB t = (s, n, e)) (he : e ≠ 0) : s = Dx ∧ ((100000 < t.length ∧ n = 0 ∧ e = 2) ∨ (t.length ≤ 100000 ∧ e = 440 ∧ 1 ≤ n ∧ n ≤ (EN 10 t).length)) := by
  unfold GB at h
  by_cases f : 100000 < t.length
  · rw [if_pos f] at h; simp only [Prod.mk.injEq] at h
    exact ⟨h.1.symm, .inl ⟨f, h.2.1.symm, h.2.2.symm⟩⟩
  · rw [if_neg f] at h
    obtain ⟨l, k, p, o⟩ := zH (OC 10 t) h he
    exact ⟨l, .inr ⟨by omega, k, by omega, by omega⟩⟩
def YN (vars : List Bs) : Bs := jn 32 (vaB :: vars)
def wD (neq : Bool) : Bs := if neq then tX else wC
def eY (vars : List Bs) (e : Bool × En) : Bs := PE (e.2.1 : Int) ++ (PA ++ (FU vars e.2.2 ++ wD e.1))
def rR (n : Nat) : Bs := vM ++ PE (n : Int)
def NN : List En → List En → List (Bool × En)
  | [], [] => []
  | e :: es, [] => (false, e) :: NN es []
  | [], n :: ns => (true, n) :: NN [] ns
  | e :: es, n :: ns => if e.1 < n.1 then (false, e) :: NN es (n :: ns) else (true, n) :: NN (e :: es) ns
termination_by a b => a.length + b.length
def vS (s : Sy) : List Bs := YN s.vars :: ((NN s.eqs s.neqs).map (eY s.vars) ++ [rR s.next])
def qF (s : Sy) : Bs := jn 10 (vS s ++ [[]])
def YG (vars : List Bs) (l : List (Bool × En)) : Bool := l.any fun e => decide (4000 < (FU vars e.2.2).length)
def PF (s : Sy) : Bs × Nat := if GO s = false then ([], 320) else if YG s.vars (NN s.eqs s.neqs) = true then ([], 2) else (qF s, 0)
theorem Qs {e n : En} {es ns : List En} (h : e.1 < n.1) : NN (e :: es) (n :: ns) = (false, e) :: NN es (n :: ns) := by rw [NN, if_pos h]
theorem Qt {e n : En} {es ns : List En} (h : ¬ e.1 < n.1) : NN (e :: es) (n :: ns) = (true, n) :: NN (e :: es) ns := by rw [NN, if_neg h]
theorem mrg_l (e : En) (es : List En) : NN (e :: es) [] = (false, e) :: NN es [] := by rw [NN]
theorem mrg_r (n : En) (ns : List En) : NN [] (n :: ns) = (true, n) :: NN [] ns := by rw [NN]
theorem OY : ∀ (n : Nat) (a b : List En) (e : En), a.length + b.length ≤ n → (∀ x ∈ b, x.1 < e.1) → NN (a ++ [e]) b = NN a b ++ [(false, e)]
  | _, [], [], e, _, _ => by simp [NN]
  | n + 1, [], y :: b, e, hn, hb => by
    have h1 := hb y AG
    rw [List.nil_append, Qt Z, mrg_r, List.cons_append]
    have := OY n [] b e (by simp at hn ⊢; omega) (fun x hx => hb x (by simp [hx]))
    rw [List.nil_append] at this; rw [this]
  | n + 1, x :: a, [], e, hn, hb => by
    rw [List.cons_append, NN, NN, List.cons_append, OY n a [] e (by simp at hn ⊢; omega) hb]
  | n + 1, x :: a, y :: b, e, hn, hb => by
    rw [List.cons_append, NN, NN]
    by_cases h : x.1 < y.1
    · rw [if_pos h, if_pos h, List.cons_append, OY n a (y :: b) e (by simp at hn ⊢; omega) hb]
    · rw [if_neg h, if_neg h, List.cons_append]
      have := OY n (x :: a) b e (by simp at hn ⊢; omega) (fun z hz => hb z (by simp [hz]))
      rw [List.cons_append] at this; rw [this]
  | 0, x :: a, b, e, hn, _ => by simp at hn
  | 0, [], y :: b, e, hn, _ => by simp at hn
theorem NM : ∀ (n : Nat) (a b : List En) (e : En), a.length + b.length ≤ n → (∀ x ∈ a, x.1 < e.1) → NN a (b ++ [e]) = NN a b ++ [(true, e)]
  | _, [], [], e, _, _ => by simp [NN]
  | n + 1, x :: a, [], e, hn, ha => by
    have h1 := ha x AG
    rw [List.nil_append, Qs h1, mrg_l, List.cons_append]
    have := NM n a [] e (by simp at hn ⊢; omega) (fun z hz => ha z (by simp [hz]))
    rw [List.nil_append] at this; rw [this]
  | n + 1, [], y :: b, e, hn, ha => by
    rw [List.cons_append, NN, NN, List.cons_append, NM n [] b e (by simp at hn ⊢; omega) ha]
  | n + 1, x :: a, y :: b, e, hn, ha => by
    rw [List.cons_append, NN, NN]
    by_cases h : x.1 < y.1
    · rw [if_pos h, if_pos h, List.cons_append]
      have := NM n a (y :: b) e (by simp at hn ⊢; omega) (fun z hz => ha z (by simp [hz]))
      rw [List.cons_append] at this; rw [this]
    · rw [if_neg h, if_neg h, List.cons_append, NM n (x :: a) b e (by simp at hn ⊢; omega) ha]
  | 0, x :: a, b, e, hn, _ => by simp at hn
  | 0, [], y :: b, e, hn, _ => by simp at hn
theorem aR : ∀ (n : Nat) (a b : List En) (x : Bool × En), a.length + b.length ≤ n → (x ∈ NN a b ↔ (x.1 = false ∧ x.2 ∈ a) ∨ (x.1 = true ∧ x.2 ∈ b))
  | _, [], [], x, _ => by simp [NN]
  | n + 1, x :: a, [], y, hn => by
    rw [NN, List.mem_cons, aR n a [] y (by simp at hn ⊢; omega)]
    obtain ⟨u, v⟩ := y
    cases u <;> simp
  | n + 1, [], x :: a, y, hn => by
    rw [NN, List.mem_cons, aR n [] a y (by simp at hn ⊢; omega)]
    obtain ⟨u, v⟩ := y
    cases u <;> simp
  | n + 1, x :: a, y :: b, z, hn => by
    rw [NN]
    obtain ⟨u, v⟩ := z
    by_cases h : x.1 < y.1
    · rw [if_pos h, List.mem_cons, aR n a (y :: b) _ (by simp at hn ⊢; omega)]
      cases u <;> simp
    · rw [if_neg h, List.mem_cons, aR n (x :: a) b _ (by simp at hn ⊢; omega)]
      cases u <;> simp
  | 0, x :: a, b, _, hn => by simp at hn
  | 0, [], y :: b, _, hn => by simp at hn
theorem mrg_in {a b : List En} {x : Bool × En} : x ∈ NN a b ↔ (x.1 = false ∧ x.2 ∈ a) ∨ (x.1 = true ∧ x.2 ∈ b) := aR _ a b x (Nat.le_refl _)
def Rs.lines (r : Rs) : List Bs := YN r.vars :: ((NN r.eqs r.neqs).map (eY r.vars) ++ (if r.next = 0 then [] else [rR r.next]))
structure RsOk (r : Rs) : Prop where
  vars : DS 4 r.vars = true
  last : r.last ≤ 999999
  next : r.next = 0 ∨ (r.last < r.next ∧ r.next ≤ 1000000)
  all : ∀ b, ∀ e ∈ r.lst b, 1 ≤ e.1 ∧ e.1 ≤ r.last ∧ GW e.2 ∧ LW r.vars.length e.2 = true ∧ (FU r.vars e.2).length ≤ 4000
  len : ∀ b, (r.lst b).length ≤ 12
  pw : ∀ b, (EM (r.lst b)).Pairwise (· < ·)
  dis : ∀ i ∈ EM r.eqs, i ∉ EM r.neqs
theorem Oc {s p : Bs} (h : Lib.hasSuffix s p = true) : Lib.trimSuffix s p ++ p = s := by
  unfold Lib.hasSuffix at h
  obtain ⟨r, rfl⟩ := List.isSuffixOf_iff_suffix.1 h
  unfold Lib.trimSuffix Lib.hasSuffix
  rw [if_pos h]; simp
theorem trimP {s p : Bs} (h : Lib.hasPrefix s p = true) : p ++ Lib.trimPrefix s p = s := by
  unfold Lib.hasPrefix at h
  obtain ⟨r, rfl⟩ := List.isPrefixOf_iff_prefix.1 h
  unfold Lib.trimPrefix Lib.hasPrefix
  rw [if_pos h]; simp
theorem Dc {s sep : Bs} (h : (Lib.cut s sep).2.2 = true) : (Lib.cut s sep).1 ++ (sep ++ (Lib.cut s sep).2.1) = s := by
  unfold Lib.cut at h ⊢
  by_cases g : 0 ≤ Lib.index s sep
  · rw [if_pos g]
    rcases Lib.index_spec s sep with ⟨k, _⟩ | ⟨i, k, l, f, _⟩
    · omega
    · rw [k]
      simp only [Int.toNat_natCast]
      unfold Lib.occAt at f
      obtain ⟨r, e⟩ := List.isPrefixOf_iff_prefix.1 f
      have : s.drop (i + sep.length) = r := by rw [← List.drop_drop, ← e]; simp
      rw [this, e, List.take_append_drop]
  · rw [if_neg g] at h; cases h
theorem fits_iff {n : Nat} {p : List Tm} : LW n p = true ↔ EZ p < 2 ^ n ∧ RH p ≤ 12 := by unfold LW; simp
theorem gD {r : Rs} {neq : Bool} {e : En} : (r.add (neq, e)).lst neq = r.lst neq ++ [e] := by cases neq <;> rfl
theorem aS {r : Rs} {neq b : Bool} {e : En} (h : b ≠ neq) : (r.add (neq, e)).lst b = r.lst b := by cases neq <;> cases b <;> first | rfl | exact absurd rfl h
theorem bI {r : Rs} {e : Bool × En} : (r.add e).vars = r.vars := by unfold Rs.add; split <;> rfl
theorem jV {r : Rs} {e : Bool × En} : (r.add e).next = r.next := by unfold Rs.add; split <;> rfl
theorem jW {r : Rs} {e : Bool × En} : (r.add e).last = e.2.1 := by unfold Rs.add; split <;> rfl
theorem sB {vs : List Bs} (h : DS 4 vs = true) : DS 8 vs = true := by
  unfold DS at h ⊢
  simp only [Bool.and_eq_true, decide_eq_true_eq] at h ⊢
  exact ⟨⟨by omega, h.1.2⟩, h.2⟩
theorem ids_in {l : List En} {i : Nat} : i ∈ EM l ↔ ∃ e ∈ l, e.1 = i := by unfold EM; exact List.mem_map
theorem Ru {r : Rs} {neq : Bool} {id : Nat} {p : List Tm} (h : RsOk r) (hn : r.next = 0) (h1 : r.last < id) (h2 : id ≤ 999999) (hp : GW p) (hf : LW r.vars.length p = true) (hl : (FU r.vars p).length ≤ 4000) (hc : (r.lst neq).length < 12) :
    RsOk (r.add (neq, id, p)) ∧ NN (r.add (neq, id, p)).eqs (r.add (neq, id, p)).neqs = NN r.eqs r.neqs ++ [(neq, id, p)] := by
  have lt : ∀ b, ∀ e ∈ r.lst b, e.1 < id := fun b e l => by have := (h.all b e l).2.1; omega
  refine ⟨⟨by rw [bI]; exact h.vars, by rw [jW]; exact h2, .inl (by rw [jV]; exact hn), fun b e l => ?_, fun b => ?_, fun b => ?_, ?_⟩, ?_⟩
  · rw [jW, bI]
    by_cases o : b = neq
    · subst o; rw [gD] at l
      rcases List.mem_append.1 l with g | g
      · obtain ⟨v, D, u⟩ := h.all _ e g; exact ⟨v, by simp only; omega, u⟩
      · simp at g; subst g; exact ⟨by simp only; omega, Nat.le_refl _, hp, hf, hl⟩
    · rw [aS o] at l; obtain ⟨v, D, u⟩ := h.all _ e l; exact ⟨v, by simp only; omega, u⟩
  · by_cases o : b = neq
    · subst o; rw [gD]; simp; omega
    · rw [aS o]; exact h.len b
  · by_cases o : b = neq
    · subst o; rw [gD, OZ, List.pairwise_append]
      refine ⟨h.pw _, by simp, fun x C y z => ?_⟩
      simp at z; subst z
      obtain ⟨e, l, rfl⟩ := ids_in.1 C
      exact lt _ e l
    · rw [aS o]; exact h.pw b
  · intro i t B
    have q : ∀ b, ∀ i ∈ EM (r.lst b), i < id := fun b i t => by obtain ⟨e, l, rfl⟩ := ids_in.1 t; exact lt b e l
    cases neq with
    | true =>
      have k : i ∈ EM r.eqs := t
      have f : i ∈ EM (r.neqs ++ [(id, p)]) := B
      rw [OZ] at f
      rcases List.mem_append.1 f with g | g
      · exact h.dis i k g
      · simp at g; have := q false i k; omega
    | false =>
      have k : i ∈ EM (r.eqs ++ [(id, p)]) := t
      have f : i ∈ EM r.neqs := B
      rw [OZ] at k
      rcases List.mem_append.1 k with g | g
      · exact h.dis i g f
      · simp at g; have := q true i f; omega
  · cases neq with
    | true => exact NM _ r.eqs r.neqs (id, p) (Nat.le_refl _) (lt false)
    | false => exact OY _ r.eqs r.neqs (id, p) (Nat.le_refl _) (lt true)
theorem yJ {r r' : Rs} {id : Nat} {neq : Bool} {t : Bs} (h : RsOk r) (hn : r.next = 0) (h1 : r.last < id) (h2 : id ≤ 999999) (hp : eS r id neq t = some r') :
    RsOk r' ∧ r'.vars = r.vars ∧ r'.next = 0 ∧ ∃ p, NN r'.eqs r'.neqs = NN r.eqs r.neqs ++ [(neq, id, p)] ∧ FU r.vars p = t := by
  unfold eS at hp
  obtain ⟨q, n, e⟩ : Rd := EV r.vars t
  by_cases g : (EV r.vars t).2.2 = 0 ∧ RH (EV r.vars t).1 ≤ 12 ∧ (r.lst neq).length < 12
  · rw [if_pos g] at hp
    simp only [Option.some.injEq] at hp
    obtain ⟨k, f, v⟩ := g
    cases l : EV r.vars t with
    | mk p ne =>
      obtain ⟨n, e⟩ := ne
      rw [l] at k f hp
      simp only at k f hp; subst k
      obtain ⟨_, C, _, u, B, o⟩ := RO l
      obtain ⟨z, y⟩ := Ru (neq := neq) (id := id) (p := p) h hn h1 h2 u (fits_iff.2 ⟨(ZU u).2 B, f⟩) (by rw [o]; exact C) v
      subst hp
      exact ⟨z, bI, by rw [jV]; exact hn, p, y, o⟩
  · rw [if_neg g] at hp; cases hp
theorem Ig {r r' : Rs} {l : Bs} (h : RsOk r) (hn : r.next = 0) (he : LG r l = some r') :
    RsOk r' ∧ r'.vars = r.vars ∧ r'.next = 0 ∧ ∃ e, NN r'.eqs r'.neqs = NN r.eqs r.neqs ++ [e] ∧ eY r.vars e = l := by
  unfold LG at he
  by_cases B : (Lib.cut l PA).2.2 = false
  · rw [if_pos B] at he; cases he
  · rw [if_neg B] at he
    have f := Dc (s := l) (sep := PA) (by cases D : (Lib.cut l PA).2.2 <;> simp_all)
    cases q : FC ((r.last + 1 : Nat) : Int) 999999 (Lib.cut l PA).1 with
    | none => simp only [q, reduceCtorEq] at he
    | some id =>
      simp only [q] at he
      obtain ⟨C, G, F⟩ := MU Z q
      by_cases o : Lib.hasSuffix (Lib.cut l PA).2.1 tX = true
      · rw [if_pos o] at he
        obtain ⟨z, y, v, p, u, t⟩ := yJ h hn Z Z he
        refine ⟨z, y, v, _, u, ?_⟩
        unfold eY; simp only [t]
        rw [show wD true = tX from rfl, Oc o, ← C, f]
      · rw [if_neg o] at he
        by_cases k : Lib.hasSuffix (Lib.cut l PA).2.1 wC = true
        · rw [if_pos k] at he
          obtain ⟨z, y, v, p, u, t⟩ := yJ h hn Z Z he
          refine ⟨z, y, v, _, u, ?_⟩
          unfold eY; simp only [t]
          rw [show wD false = wC from rfl, Oc k, ← C, f]
        · rw [if_neg k] at he; cases he
theorem Ly {r r' : Rs} {n : Nat} {l : Bs} (h : RsOk r) (hn : n ≠ 1) (he : IP n r l = some r') : RsOk r' ∧ r'.lines = r.lines ++ [l] := by
  unfold IP at he
  rw [if_neg hn] at he
  by_cases p : r.next ≠ 0
  · rw [if_pos p] at he; cases he
  · rw [if_neg p] at he
    have f : r.next = 0 := by omega
    by_cases o : Lib.hasPrefix l vM = true
    · rw [if_pos o] at he
      unfold rS at he
      cases k : FC ((r.last + 1 : Nat) : Int) 1000000 (Lib.trimPrefix l vM) with
      | none => rw [k] at he; cases he
      | some m =>
        obtain ⟨q, C, B⟩ := MU Z k
        simp only [k, Option.map_some, Option.some.injEq] at he
        subst he
        refine ⟨⟨h.vars, h.last, .inr ⟨by show r.last < m; omega, by show m ≤ 1000000; omega⟩, h.all, h.len, h.pw, h.dis⟩, ?_⟩
        unfold Rs.lines
        rw [if_neg (show ¬ m = 0 by omega), if_pos f]
        simp only [List.append_nil, List.cons_append]
        unfold rR
        rw [← q, trimP o]
    · rw [if_neg o] at he
      obtain ⟨z, y, v, e, u, t⟩ := Ig h f he
      refine ⟨z, ?_⟩
      unfold Rs.lines
      rw [u, y, if_pos v, if_pos f, List.map_append]
      simp [t]
theorem Fv : ∀ {ls : List Bs} {n : Nat} {r r' : Rs}, RsOk r → n ≠ 0 → KR ls n r = some r' → RsOk r' ∧ r'.lines = r.lines ++ ls
  | [], n, r, r', h, _, hr => by simp only [KR, Option.some.injEq] at hr; subst hr; exact ⟨h, by simp⟩
  | x :: l, n, r, r', h, hn, hr => by
    cases hx : IP (n + 1) r x with
    | none => simp [KR, hx] at hr
    | some r1 =>
      simp only [KR, hx] at hr
      obtain ⟨a1, a2⟩ := Ly h Z hx
      obtain ⟨b1, b2⟩ := Fv a1 Z hr
      exact ⟨b1, by rw [b2, a2]; simp⟩
theorem RsOk0 {vs : List Bs} (h : DS 4 vs = true) : RsOk ⟨vs, [], [], 0, 0⟩ := ⟨h, (by show 0 ≤ 999999; decide), .inl rfl, fun b e he => (by cases b <;> cases he), fun b => (by cases b <;> exact Nat.zero_le _), fun b => (by cases b <;> exact List.Pairwise.nil), fun i hi => (by simp [EM] at hi)⟩
theorem xJ {r r' : Rs} {l : Bs} (h : VI r l = some r') : ∃ vs, DS 4 vs = true ∧ YN vs = l ∧ r' = ⟨vs, r.eqs, r.neqs, r.next, r.last⟩ := by
  unfold VI at h
  by_cases g : (EN 32 l).head? = some vaB ∧ DS 4 (EN 32 l).tail = true
  · rw [if_pos g] at h
    simp only [Option.some.injEq] at h
    refine ⟨_, g.2, ?_, h.symm⟩
    unfold YN
    have f := jA 32 l
    cases e : EN 32 l with
    | nil => rw [e] at g; simp at g
    | cons x t => rw [e] at g f; simp at g; rw [List.tail_cons, ← g.1]; exact f
  · rw [if_neg g] at h; cases h
theorem xZ {ls : List Bs} {r : Rs} (hl : ls ≠ []) (h : KR ls 0 wT = some r) : RsOk r ∧ r.lines = ls := by
  cases ls with
  | nil => exact absurd rfl hl
  | cons x l =>
    cases e : IP (0 + 1) wT x with
    | none => simp only [KR, e] at h; cases h
    | some r1 =>
      simp only [KR, e] at h
      unfold IP at e
      rw [if_pos rfl] at e
      obtain ⟨t, q, p, o⟩ := xJ e
      subst o
      obtain ⟨k, f⟩ := Fv (RsOk0 q) Z h
      refine ⟨k, ?_⟩
      rw [f]; unfold Rs.lines; simp [NN, p]
theorem RsOk.sys {r : Rs} (h : RsOk r) (hn : r.next ≠ 0) : GO r.sy = true := by
  obtain ⟨q, p⟩ := h.next.resolve_left hn
  have k : ∀ b, IN r.vars.length r.next (r.lst b) = true := fun b => by
    unfold IN
    simp only [Bool.and_eq_true, decide_eq_true_eq, List.all_eq_true]
    exact ⟨⟨h.len b, fun e f => ⟨⟨(h.all b e f).1, by have := (h.all b e f).2.1; omega⟩, (h.all b e f).2.2.2.1⟩⟩, h.pw b⟩
  exact nJ (s := r.sy) h.vars (by show ¬ r.next < 1; omega) (by show ¬ r.next > 1000000; omega) (k false) (k true) (fun i o l => h.dis i l o)
def Nr (s : Sy) : Prop := GO s = true ∧ ∀ e, e ∈ s.eqs ∨ e ∈ s.neqs → GW e.2 ∧ (FU s.vars e.2).length ≤ 4000
theorem RsOk.sy {r : Rs} (h : RsOk r) (hn : r.next ≠ 0) : Nr r.sy := ⟨h.sys hn, fun e he => by
  rcases he with he | he
  · exact ⟨(h.all false e he).2.2.1, (h.all false e he).2.2.2.2⟩
  · exact ⟨(h.all true e he).2.2.1, (h.all true e he).2.2.2.2⟩⟩
theorem rK {t : Bs} {s : Sy} {n : Nat} (h : GB t = (s, n, 0)) : n = 0 ∧ t.length ≤ 100000 ∧ Nr s ∧ qF s = t := by
  unfold GB at h
  by_cases l : 100000 < t.length
  · rw [if_pos l] at h; simp at h
  · rw [if_neg l] at h
    obtain ⟨p, z, u, k, f, o, q⟩ := wA h
    have e : p ≠ [] := by
      rintro rfl
      simp only [KR, Option.some.injEq] at k
      subst k; exact f rfl
    obtain ⟨y, v⟩ := xZ e k
    refine ⟨q, by omega, by rw [o]; exact y.sy f, ?_⟩
    have := jA 10 t
    rw [u, ← v] at this
    rw [← this, o]
    unfold qF vS Rs.lines Rs.sy
    rw [if_neg f]
structure Fol (r : Rs) (a b : List En) : Prop where
  vars : DS 4 r.vars = true
  next : r.next = 0
  all : ∀ e, e ∈ a ∨ e ∈ b → r.last < e.1 ∧ e.1 ≤ 999999 ∧ GW e.2 ∧ LW r.vars.length e.2 = true ∧ (FU r.vars e.2).length ≤ 4000
  la : r.eqs.length + a.length ≤ 12
  lb : r.neqs.length + b.length ≤ 12
  pa : (EM a).Pairwise (· < ·)
  pb : (EM b).Pairwise (· < ·)
  dis : ∀ i ∈ EM a, i ∉ EM b
end Go.Proofs.YtmppigbbkjepiaaGreatDoor
