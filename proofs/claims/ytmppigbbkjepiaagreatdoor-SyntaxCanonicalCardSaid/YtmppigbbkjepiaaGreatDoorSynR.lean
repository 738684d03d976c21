/- Texts of polynomials: plain laws. Nothing here speaks of a program. Texts of polynomials: reading them gives them back. Plain laws. -/
import Derived.Test.YtmppigbbkjepiaaGreatDoorRat2
import Derived.Lib.Join
namespace Go.Proofs.YtmppigbbkjepiaaGreatDoor
open W
abbrev Bs := List UInt8
abbrev Tm := Rat × List Nat
def LX (b : UInt8) : Bs → Option (Bs × Bs)
  | [] => none
  | x :: l => if x = b then some ([], l) else (LX b l).map fun p => (x :: p.1, p.2)
theorem cutB_none {b : UInt8} {l : Bs} : LX b l = none ↔ b ∉ l := by
  induction l with
  | nil => simp [LX]
  | cons x l ih =>
    simp only [LX]
    by_cases h : x = b
    · simp [h]
    · rw [if_neg h]; simp [ih, Ne.symm h]
theorem cutB_some {b : UInt8} {l x y : Bs} : LX b l = some (x, y) ↔ l = x ++ b :: y ∧ b ∉ x := by
  induction l generalizing x with
  | nil => simp [LX]
  | cons c l ih =>
    simp only [LX]
    by_cases h : c = b
    · rw [if_pos h]
      constructor
      · intro e; simp only [Option.some.injEq, Prod.mk.injEq] at e; obtain ⟨rfl, rfl⟩ := e; simp [h]
      · rintro ⟨e, f⟩
        cases x with
        | nil => simp at e; simp [e.2]
        | cons d x => simp at e; exact absurd (by simp [← e.1, h]) f
    · rw [if_neg h]
      cases k : LX b l with
      | none =>
        simp only [Option.map_none, reduceCtorEq, false_iff]
        rintro ⟨e, f⟩
        cases x with
        | nil => simp at e; exact h e.1
        | cons d x => simp at e; exact cutB_none.1 k (by rw [e.2]; simp)
      | some p =>
        obtain ⟨u, v⟩ := p
        simp only [Option.map_some, Option.some.injEq, Prod.mk.injEq]
        constructor
        · rintro ⟨rfl, rfl⟩
          obtain ⟨e, f⟩ := ih.1 k
          exact ⟨by rw [e]; rfl, by simp [f, Ne.symm h]⟩
        · rintro ⟨e, f⟩
          cases x with
          | nil => simp at e; exact absurd e.1 h
          | cons d x =>
            simp at e
            obtain ⟨rfl, e⟩ := e
            have := ih.2 ⟨e, fun g => f (by simp [g])⟩
            rw [k] at this
            simp only [Option.some.injEq, Prod.mk.injEq] at this
            exact ⟨by rw [this.1], this.2⟩
def EN (b : UInt8) : Bs → List Bs
  | [] => [[]]
  | x :: l => if x = b then [] :: EN b l else match EN b l with
    | [] => [[x]]
    | h :: t => (x :: h) :: t
def jn (b : UInt8) : List Bs → Bs
  | [] => []
  | [x] => x
  | x :: y :: r => x ++ b :: jn b (y :: r)
theorem PY (b : UInt8) (x : Bs) {r : List Bs} (h : r ≠ []) : jn b (x :: r) = x ++ b :: jn b r := by
  cases r with
  | nil => exact absurd rfl h
  | cons y r => rfl
theorem Me (b : UInt8) (l : List Bs) : Lib.join l [b] = jn b l := by
  induction l with
  | nil => rfl
  | cons x r ih =>
    cases r with
    | nil => rw [Lib.join_one]; rfl
    | cons y r =>
      rw [PY b x AG, ← ih, Lib.join_cons, Lib.join_cons]
      simp [Lib.joinTail]
theorem OC (b : UInt8) (l : Bs) : EN b l ≠ [] := by
  cases l with
  | nil => simp [EN]
  | cons x l =>
    simp only [EN]
    split
    · simp
    · split <;> simp
theorem nN (b : UInt8) {x y : Bs} (h : b ∉ x) : EN b (x ++ b :: y) = x :: EN b y := by
  induction x with
  | nil => simp [EN]
  | cons c x ih =>
    have k : ¬ c = b := fun e => h (by simp [e])
    have f : b ∉ x := fun e => h (by simp [e])
    simp only [List.cons_append, EN]
    rw [if_neg k, ih f]
theorem iB (b : UInt8) {x : Bs} (h : b ∉ x) : EN b x = [x] := by
  induction x with
  | nil => rfl
  | cons c x ih =>
    have k : ¬ c = b := fun e => h (by simp [e])
    have f : b ∉ x := fun e => h (by simp [e])
    simp only [EN]
    rw [if_neg k, ih f]
theorem jA (b : UInt8) (l : Bs) : jn b (EN b l) = l := by
  induction l with
  | nil => rfl
  | cons x l ih =>
    simp only [EN]
    by_cases h : x = b
    · rw [if_pos h, PY b [] (OC b l), ih, h]; rfl
    · rw [if_neg h]
      cases e : EN b l with
      | nil => exact absurd e (OC b l)
      | cons y r =>
        rw [e] at ih
        simp only
        cases r with
        | nil => simp only [jn] at ih ⊢; rw [ih]
        | cons z r => rw [PY b (x :: y) AG]; rw [PY b y AG] at ih; rw [List.cons_append, ih]
def PG (l : Bs) : Option Rat := match LX 47 l with
  | none => (DQ l).map fun z => Rat.divInt z 1
  | some (a, b) => match DQ a, DQ b with
    | some n, some d => if vq n d ∧ d ≠ 1 then some (Rat.divInt n d) else none
    | _, _ => none
theorem dM {l : Bs} {x : Rat} (h : PG l = some x) : l = (NI x).data.toList := by
  unfold PG at h
  cases k : LX 47 l with
  | none =>
    rw [k] at h
    cases f : DQ l with
    | none => simp [f] at h
    | some z =>
      simp only [f, Option.map_some, Option.some.injEq] at h
      rw [← h]; exact Ql f
  | some p =>
    obtain ⟨a, b⟩ := p
    rw [k] at h
    obtain ⟨rfl, q⟩ := cutB_some.1 k
    cases e : DQ a with
    | none => simp [e] at h
    | some n =>
      cases o : DQ b with
      | none => simp [e, o] at h
      | some d =>
        simp only [e, o] at h
        by_cases g : vq n d ∧ d ≠ 1
        · rw [if_pos g] at h
          simp only [Option.some.injEq] at h
          rw [← h]; exact Oe e o g.1 g.2
        · rw [if_neg g] at h; cases h
theorem rN {l : Bs} (h : PG l = none) (x : Rat) : l ≠ (NI x).data.toList := by
  unfold PG at h
  cases f : LX 47 l with
  | none =>
    rw [f] at h
    cases t : DQ l with
    | none => exact yF (cutB_none.1 f) t x
    | some z => simp [t] at h
  | some p =>
    obtain ⟨a, b⟩ := p
    rw [f] at h
    obtain ⟨rfl, k⟩ := cutB_some.1 f
    cases q : DQ a with
    | none => exact yI k q x
    | some n =>
      cases o : DQ b with
      | none => exact yH k o x
      | some d =>
        simp only [q, o] at h
        by_cases g : vq n d ∧ d ≠ 1
        · rw [if_pos g] at h; cases h
        · refine nZ k q o ?_ x
          by_cases u : vq n d
          · exact .inr (Decidable.by_contra fun e => g ⟨u, e⟩)
          · exact .inl u
def FC (lo hi : Int) (l : Bs) : Option Nat := match DQ l with
  | some z => if lo ≤ z ∧ z ≤ hi then some z.toNat else none
  | none => none
theorem MU {lo hi : Int} {l : Bs} {n : Nat} (h0 : 0 ≤ lo) (h : FC lo hi l = some n) : l = PE (n : Int) ∧ lo ≤ (n : Int) ∧ (n : Int) ≤ hi := by
  unfold FC at h
  cases e : DQ l with
  | none => simp [e] at h
  | some z =>
    simp only [e] at h
    by_cases g : lo ≤ z ∧ z ≤ hi
    · rw [if_pos g] at h
      simp only [Option.some.injEq] at h
      have : (n : Int) = z := by omega
      rw [this]; exact ⟨(KZ e).symm, g⟩
    · rw [if_neg g] at h; cases h
def TF (b : UInt8) : Bool := (decide (65 ≤ b.toNat) && decide (b.toNat ≤ 90)) || (decide (97 ≤ b.toNat) && decide (b.toNat ≤ 122))
def UQ (b : UInt8) : Bool := TF b || (decide (48 ≤ b.toNat) && decide (b.toNat ≤ 57)) || decide (b.toNat = 95)
def QQ (s : Bs) : Bool := match s with
  | [] => false
  | c :: r => decide (s.length ≤ 12) && TF c && r.all UQ
def DS (k : Nat) (vs : List Bs) : Bool := decide (vs.length ≤ k) && vs.all QQ && decide vs.Nodup
theorem sA {s : Bs} (h : QQ s = true) : s.length ≤ 12 := by
  cases s with
  | nil => cases h
  | cons c r => simp only [QQ, Bool.and_eq_true, decide_eq_true_eq] at h; exact h.1.1
def eX (v : Bs) (n : Nat) : List Bs := if n = 0 then [] else if n = 1 then [v] else [v ++ 94 :: PE (n : Int)]
def LR : List Bs → List Nat → List Bs
  | v :: vs, n :: ns => eX v n ++ LR vs ns
  | _, _ => []
def IC (vars : List Bs) (c : Rat) (m : List Nat) : Bs :=
  if LR vars m = [] ∨ c ≠ 1 then jn 42 ((NI c).data.toList :: LR vars m) else jn 42 (LR vars m)
def PD (n : Nat) (m : List Nat) : Prop := ∀ i, n ≤ i → me m i = 0
def cY (c : Rat) : Rat := if c < 0 then -c else c
def YD (first neg : Bool) : Bs := if first then (if neg then [45] else []) else (if neg then [32, 45, 32] else [32, 43, 32])
def MS (vars : List Bs) : Bool → List Tm → Bs
  | _, [] => []
  | f, (c, m) :: p => YD f (decide (c < 0)) ++ IC vars (cY c) m ++ MS vars false p
def FU (vars : List Bs) (p : List Tm) : Bs := if p = [] then [48] else MS vars true p
def RQ (vars : List Bs) (w : Bs) : Option (Nat × Nat) := match LX 94 w with
  | none => (vars.idxOf? w).map fun v => (v, 1)
  | some (a, d) => match vars.idxOf? a, FC 2 65535 d with
    | some v, some n => some (v, n)
    | _, _ => none
def GS (vars : List Bs) : List Bs → List Nat → Option (List Nat)
  | [], m => some m
  | w :: ws, m => match RQ vars w with
    | none => none
    | some (v, n) => GS vars ws (m.set v n)
def KK (l : List Bs) : Rat × List Bs := match l with
  | [] => (1, [])
  | a :: r => match PG a with
    | some c => (c, r)
    | none => (1, a :: r)
def zeroM : List Nat := [0, 0, 0, 0, 0, 0, 0, 0]
def cG (vars : List Bs) (w : Bs) : Option Tm := match GS vars (KK (EN 42 w)).2 zeroM with
  | none => none
  | some m => if 0 < (KK (EN 42 w)).1 ∧ IC vars (KK (EN 42 w)).1 m = w then some ((KK (EN 42 w)).1, m) else none
theorem rF {vars : List Bs} {w : Bs} {c : Rat} {m : List Nat} (h : cG vars w = some (c, m)) : 0 < c ∧ IC vars c m = w := by
  unfold cG at h
  cases e : GS vars (KK (EN 42 w)).2 zeroM with
  | none => simp [e] at h
  | some m' =>
    simp only [e] at h
    by_cases g : 0 < (KK (EN 42 w)).1 ∧ IC vars (KK (EN 42 w)).1 m' = w
    · rw [if_pos g] at h
      simp only [Option.some.injEq, Prod.mk.injEq] at h
      obtain ⟨rfl, rfl⟩ := h
      exact g
    · rw [if_neg g] at h; cases h
theorem vP {m : List Nat} (h : ER m) {v n : Nat} (hn : n ≤ 65535) : ER (m.set v n) := by
  refine ⟨by rw [List.length_set]; exact h.1, fun e f => ?_⟩
  rcases List.mem_or_eq_of_mem_set f with g | rfl
  · exact h.2 e g
  · exact hn
theorem uA {k : Nat} {m : List Nat} (h : PD k m) {v n : Nat} (hv : v < k) : PD k (m.set v n) := by
  intro i e
  have := h i e
  unfold me at *
  rw [List.getD_eq_getElem?_getD, List.getElem?_set_ne Z, ← List.getD_eq_getElem?_getD]; exact this
theorem iN {vars : List Bs} {w : Bs} {v n : Nat} (h : RQ vars w = some (v, n)) : v < vars.length ∧ 1 ≤ n ∧ n ≤ 65535 := by
  unfold RQ at h
  have l : ∀ a : Bs, vars.idxOf? a = some v → v < vars.length := by
    intro a e
    rw [List.idxOf?, List.findIdx?_eq_some_iff_getElem] at e
    exact e.1
  cases q : LX 94 w with
  | none =>
    rw [q] at h
    cases f : vars.idxOf? w with
    | none => simp [f] at h
    | some u => simp only [f, Option.map_some, Option.some.injEq, Prod.mk.injEq] at h; obtain ⟨rfl, rfl⟩ := h; exact ⟨l w f, by omega, by omega⟩
  | some p =>
    obtain ⟨a, d⟩ := p
    rw [q] at h
    cases f : vars.idxOf? a with
    | none => simp [f] at h
    | some u =>
      cases o : FC 2 65535 d with
      | none => simp [f, o] at h
      | some k =>
        simp only [f, o, Option.some.injEq, Prod.mk.injEq] at h
        obtain ⟨rfl, rfl⟩ := h
        have := MU AD o
        exact ⟨l a f, by omega, by omega⟩
theorem lW {vars : List Bs} : ∀ {ws : List Bs} {m m' : List Nat}, GS vars ws m = some m' → ER m → PD vars.length m → ER m' ∧ PD vars.length m'
  | [], m, m', h, h1, h2 => by simp only [GS, Option.some.injEq] at h; subst h; exact ⟨h1, h2⟩
  | w :: ws, m, m', h, h1, h2 => by
    simp only [GS] at h
    cases hf : RQ vars w with
    | none => simp [hf] at h
    | some p =>
      obtain ⟨v, n⟩ := p
      simp only [hf] at h
      obtain ⟨g1, g2, g3⟩ := iN hf
      exact lW h (vP h1 g3) (uA h2 g1)
theorem DC : ER zeroM := by refine ⟨rfl, ?_⟩; decide
theorem nD (k : Nat) : PD k zeroM := by
  intro i _
  unfold me zeroM
  match i with
  | 0 | 1 | 2 | 3 | 4 | 5 | 6 | 7 => rfl
  | n + 8 => rfl
theorem iJ {vars : List Bs} {w : Bs} {c : Rat} {m : List Nat} (h : cG vars w = some (c, m)) : ER m ∧ PD vars.length m := by
  unfold cG at h
  cases e : GS vars (KK (EN 42 w)).2 zeroM with
  | none => simp [e] at h
  | some m' =>
    simp only [e] at h
    have := lW e DC (nD _)
    split at h
    · simp only [Option.some.injEq, Prod.mk.injEq] at h; obtain ⟨_, rfl⟩ := h; exact this
    · cases h
end Go.Proofs.YtmppigbbkjepiaaGreatDoor
namespace Go.Proofs.YtmppigbbkjepiaaGreatDoor
open W
theorem WD {k : Nat} {vars : List Bs} (h : DS k vars = true) : ∀ v ∈ vars, QQ v = true := by
  unfold DS at h
  simp only [Bool.and_eq_true, List.all_eq_true] at h
  exact h.1.2
theorem sC {k : Nat} {vars : List Bs} (h : DS k vars = true) : vars.Nodup := by
  unfold DS at h
  simp only [Bool.and_eq_true, decide_eq_true_eq] at h
  exact h.2
theorem KD {k : Nat} {vars : List Bs} (h : DS k vars = true) : vars.length ≤ k := by
  unfold DS at h
  simp only [Bool.and_eq_true, decide_eq_true_eq] at h
  exact h.1.1
theorem jY {c : Rat} (h : c < 0) : cY c = -c := by unfold cY; rw [if_pos h]
theorem cX {c : Rat} (h : ¬ c < 0) : cY c = c := by unfold cY; rw [if_neg h]
theorem vB (c : Rat) : - -c = c := by rw [Rat.neg_neg]
theorem yN {c : Rat} (h : 0 < c) : -c < 0 := by
  have := pos_num.1 h
  rw [Rat.lt_iff]; simp; omega
theorem oH {c : Rat} (h : 0 < c) : ¬ c < 0 := by
  have e := pos_num.1 h
  intro g
  rw [Rat.lt_iff] at g; simp at g; omega
theorem tG {c : Rat} (h : 0 < c) : cY (-c) = c := by rw [jY (yN h), vB]
theorem tF {c : Rat} (h : 0 < c) : cY c = c := cX (oH h)
def Bw (neg : Bool) (c : Rat) : Rat := if neg then -c else c
theorem xW {neg : Bool} {c : Rat} (h : 0 < c) : decide (Bw neg c < 0) = neg := by
  cases neg
  · exact decide_eq_false (oH h)
  · exact decide_eq_true (yN h)
theorem pI {neg : Bool} {c : Rat} (h : 0 < c) : cY (Bw neg c) = c := by
  cases neg
  · exact tF h
  · exact tG h
theorem Fi {neg : Bool} {c : Rat} (h : 0 < c) : Bw neg c ≠ 0 := by
  intro e
  have f := pI (neg := neg) h
  rw [e] at f
  have : cY 0 = 0 := by decide +kernel
  rw [this] at f; subst f; revert h; decide +kernel
theorem mU : ∀ a b : List Nat, EU a b = -1 ∨ EU a b = 0 ∨ EU a b = 1
  | [], _ => by simp [EU]
  | _ :: _, [] => by simp [EU]
  | x :: xs, y :: ys => by
    simp only [EU]
    split
    · simp
    · split
      · simp
      · exact mU xs ys
theorem mV : ∀ a b : List Nat, EU b a = -EU a b
  | [], [] => by simp [EU]
  | [], _ :: _ => by simp [EU]
  | _ :: _, [] => by simp [EU]
  | x :: xs, y :: ys => by
    simp only [EU]
    by_cases h : x < y
    · rw [if_pos h, if_neg Z, if_pos h]; rfl
    · by_cases g : y < x
      · rw [if_pos g, if_neg h, if_pos g]
      · rw [if_neg g, if_neg h, if_neg h, if_neg g]; exact mV xs ys
def Jw (p : List Tm) : Prop := ∀ i a b, p[i]? = some a → p[i + 1]? = some b → EU a.2 b.2 = 1
theorem tU : Jw [] := by intro i a b h; simp at h
theorem Jv (t : Tm) : Jw [t] := by
  intro i a b _ h; simp at h
theorem Ec {p : List Tm} {t : Tm} (h : Jw p) (hl : ∀ a, p.getLast? = some a → EU a.2 t.2 = 1) : Jw (p ++ [t]) := by
  intro i a b k f
  have l : i + 1 < (p ++ [t]).length := (List.getElem?_eq_some_iff.1 f).1
  simp only [List.length_append, List.length_cons, List.length_nil] at l
  by_cases g : i + 1 < p.length
  · rw [List.getElem?_append_left Z] at k
    rw [List.getElem?_append_left g] at f
    exact h i a b k f
  · have e : i + 1 = p.length := by omega
    rw [List.getElem?_append_left Z] at k
    rw [List.getElem?_append_right Z, e] at f
    simp at f
    subst f
    exact hl a (by rw [List.getLast?_eq_getElem?]; rw [show p.length - 1 = i by omega]; exact k)
def GW (p : List Tm) : Prop := (∀ t ∈ p, t.1 ≠ 0 ∧ ER t.2) ∧ Jw p
abbrev Rd := List Tm × Nat × Nat
def iZ (p : List Tm) : List Nat := (p.getLast?.map (·.2)).getD []
def PQ (i : Nat) (neg : Bool) (w : Bs) : Bs × Bool := if i = 0 then (if w.head? = some 45 then (w.tail, true) else (w, false)) else (w, neg)
def OW (vars : List Bs) : List Bs → Nat → Nat → Bool → List Tm → Rd
  | [], i, at_, _, p => if i % 2 = 0 then ([], at_, 440) else (p, 0, 0)
  | w :: ws, i, at_, neg, p =>
    if i % 2 = 1 then (if w = [43] ∨ w = [45] then OW vars ws (i + 1) (at_ + w.length + 1) (decide (w = [45])) p else ([], at_, 440))
    else match cG vars (PQ i neg w).1 with
      | none => ([], at_, 440)
      | some (c, m) => if i ≠ 0 ∧ 0 ≤ EU m (iZ p) then ([], at_, 440) else OW vars ws (i + 1) (at_ + w.length + 1) false (p ++ [(Bw (PQ i neg w).2 c, m)])
def EV (vars : List Bs) (t : Bs) : Rd :=
  if DS 8 vars = false then ([], 0, 1) else if 4000 < t.length then ([], 0, 2) else if t = [48] then ([], 0, 0) else OW vars (EN 32 t) 0 0 false []
def Eh (vars : List Bs) (t : Tm) : List Bs := [if t.1 < 0 then [45] else [43], IC vars (cY t.1) t.2]
def Qv (vars : List Bs) (t : Tm) : Bs := YD true (decide (t.1 < 0)) ++ IC vars (cY t.1) t.2
theorem Ho (vars : List Bs) (w : Bs) (r : List Tm) : jn 32 (w :: r.flatMap (Eh vars)) = w ++ MS vars false r := by
  induction r generalizing w with
  | nil => simp [jn, MS]
  | cons t r ih =>
    obtain ⟨c, m⟩ := t
    simp only [List.flatMap_cons, Eh, List.cons_append, List.nil_append]
    rw [PY 32 w AG, PY 32 _ AG, ih]
    simp only [MS, YD]
    by_cases h : c < 0 <;> simp [h]
theorem rJ (vars : List Bs) (t : Tm) (r : List Tm) : FU vars (t :: r) = jn 32 (Qv vars t :: r.flatMap (Eh vars)) := by
  rw [Ho]
  obtain ⟨c, m⟩ := t
  unfold FU
  rw [if_neg AG]
  simp only [MS, Qv]
theorem iK {vars : List Bs} : ∀ (n : Nat) (ws : List Bs) (i at_ : Nat) (neg : Bool) (p : List Tm) (q : List Tm) (k : Nat), ws.length ≤ n → i % 2 = 1 → p ≠ [] → GW p → OW vars ws i at_ neg p = (q, k, 0) →
    k = 0 ∧ ∃ r, q = p ++ r ∧ ws = r.flatMap (Eh vars) ∧ GW q ∧ ∀ t ∈ r, PD vars.length t.2
  | n, [], i, at_, neg, p, q, k, _, hi, _, hok, h => by
    rw [OW, if_neg Z] at h
    simp only [Prod.mk.injEq] at h
    obtain ⟨rfl, rfl, _⟩ := h
    exact ⟨rfl, [], by simp, rfl, hok, fun t ht => by cases ht⟩
  | n, [s], i, at_, neg, p, q, k, _, hi, _, hok, h => by
    rw [OW, if_pos hi] at h
    split at h
    · rw [OW, if_pos Z] at h
      simp at h
    · simp at h
  | 0, s :: w :: ws, i, at_, neg, p, q, k, hn, hi, _, hok, h => by simp at hn
  | n + 1, s :: w :: ws, i, at_, neg, p, q, k, hn, hi, hp, hok, h => by
    rw [OW, if_pos hi] at h
    by_cases hs : s = [43] ∨ s = [45]
    · rw [if_pos hs, OW, if_neg Z] at h
      have hcs : ∀ g : Bool, PQ (i + 1) g w = (w, g) := fun g => by unfold PQ; rw [if_neg Z]
      rw [hcs] at h
      cases hr : cG vars w with
      | none => simp [hr] at h
      | some cm =>
        obtain ⟨c, m⟩ := cm
        simp only [hr] at h
        split at h
        · simp at h
        · rename_i hlt
          obtain ⟨h1, h2⟩ := rF hr
          obtain ⟨h3, h4⟩ := iJ hr
          have hok2 : GW (p ++ [(Bw (decide (s = [45])) c, m)]) := by
            refine ⟨fun t ht => ?_, Ec hok.2 fun a e => ?_⟩
            · rcases List.mem_append.1 ht with g | g
              · exact hok.1 t g
              · simp at g; subst g; exact ⟨Fi h1, h3⟩
            · have : ¬ 0 ≤ EU m a.2 := fun g => hlt ⟨by omega, by unfold iZ; rw [e]; exact g⟩
              have o := mV m a.2
              rcases mU m a.2 with g | g | g <;> simp only at * <;> omega
          obtain ⟨l, r, f, e3, e4, e5⟩ := iK n ws _ _ _ _ q k (by simp at hn; omega) Z AG hok2 h
          refine ⟨l, (Bw (decide (s = [45])) c, m) :: r, by rw [f]; simp, ?_, e4, fun t ht => ?_⟩
          · simp only [List.flatMap_cons, Eh, pI h1, h2]
            rw [← e3]
            have : (if Bw (decide (s = [45])) c < 0 then [45] else [43] : Bs) = s := by
              have := xW (neg := decide (s = [45])) h1
              rcases hs with rfl | rfl
              · rw [if_neg (by simpa using this)]
              · rw [if_pos (by simpa using this)]
            rw [this]; rfl
          · rcases List.mem_cons.1 ht with rfl | ht
            · exact h4
            · exact e5 t ht
    · rw [if_neg hs] at h; simp at h
theorem RO {vars : List Bs} {t : Bs} {p : List Tm} {n : Nat} (h : EV vars t = (p, n, 0)) : DS 8 vars = true ∧ t.length ≤ 4000 ∧ n = 0 ∧ GW p ∧ (∀ t ∈ p, PD vars.length t.2) ∧ FU vars p = t := by
  unfold EV at h
  by_cases k : DS 8 vars = false
  · rw [if_pos k] at h; simp at h
  · rw [if_neg k] at h
    by_cases v : 4000 < t.length
    · rw [if_pos v] at h; simp at h
    · rw [if_neg v] at h
      refine ⟨by simpa using k, by omega, ?_⟩
      by_cases q : t = [48]
      · rw [if_pos q] at h
        simp only [Prod.mk.injEq] at h
        obtain ⟨rfl, rfl, _⟩ := h
        exact ⟨rfl, ⟨fun _ e => (by cases e), tU⟩, fun _ e => (by cases e), (by rw [q]; rfl)⟩
      · rw [if_neg q] at h
        have y := jA 32 t
        cases u : EN 32 t with
        | nil => exact absurd u (OC 32 t)
        | cons w ws =>
          rw [u] at h y
          rw [OW, if_neg Z] at h
          cases f : cG vars (PQ 0 false w).1 with
          | none => simp [f] at h
          | some cm =>
            obtain ⟨c, m⟩ := cm
            simp only [f] at h
            rw [if_neg AG] at h
            obtain ⟨o, D⟩ := rF f
            obtain ⟨C, B⟩ := iJ f
            have l : GW ([] ++ [(Bw (PQ 0 false w).2 c, m)]) := ⟨fun t e => by simp at e; subst e; exact ⟨Fi o, C⟩, Jv _⟩
            obtain ⟨F, r, z, e3, e4, e5⟩ := iK ws.length ws _ _ _ _ p n (Nat.le_refl _) Z AG l h
            refine ⟨F, e4, ?_, ?_⟩
            · rw [z]
              intro t e
              rcases List.mem_append.1 e with g | g
              · simp at g; subst g; exact B
              · exact e5 t g
            · rw [z]
              show FU vars ((Bw (PQ 0 false w).2 c, m) :: r) = t
              rw [rJ, ← e3, ← y]
              congr 2
              unfold Qv
              rw [xW o, pI o, D]
              unfold PQ YD
              rw [if_pos rfl]
              by_cases g : w.head? = some 45
              · rw [if_pos g]
                cases w with
                | nil => simp at g
                | cons x w => simp at g; simp [g]
              · rw [if_neg g]; simp
theorem rH {vars : List Bs} : ∀ (ws : List Bs) (i at_ : Nat) (neg : Bool) (p q : List Tm) (k e : Nat), OW vars ws i at_ neg p = (q, k, e) → e ≠ 0 → q = [] ∧ e = 440 ∧ k ≤ at_ + (ws.map (fun w => w.length + 1)).sum
  | [], i, at_, neg, p, q, k, e, h, he => by
    rw [OW] at h
    split at h <;> simp only [Prod.mk.injEq] at h
    · obtain ⟨rfl, rfl, rfl⟩ := h; exact ⟨rfl, rfl, by simp⟩
    · exact absurd h.2.2.symm he
  | w :: ws, i, at_, neg, p, q, k, e, h, he => by
    rw [OW] at h
    have stop : ∀ {x : Rd}, x = (q, k, e) → x = ([], at_, 440) → q = [] ∧ e = 440 ∧ k ≤ at_ + ((w :: ws).map (fun w => w.length + 1)).sum := by
      intro x o l
      rw [o] at l
      simp only [Prod.mk.injEq] at l
      obtain ⟨rfl, rfl, rfl⟩ := l
      exact ⟨rfl, rfl, by omega⟩
    have v : ∀ {u f t}, OW vars ws u (at_ + w.length + 1) f t = (q, k, e) → q = [] ∧ e = 440 ∧ k ≤ at_ + ((w :: ws).map (fun w => w.length + 1)).sum := by
      intro u f t o
      obtain ⟨z, y, B⟩ := rH ws _ _ _ _ q k e o he
      exact ⟨z, y, by simp only [List.map_cons, List.sum_cons]; omega⟩
    split at h
    · split at h
      · exact v h
      · exact stop h rfl
    · split at h
      · exact stop h rfl
      · split at h
        · exact stop h rfl
        · exact v h
theorem vV (b : UInt8) {l : List Bs} (h : l ≠ []) : (l.map (fun w => w.length + 1)).sum = (jn b l).length + 1 := by
  induction l with
  | nil => exact absurd rfl h
  | cons x r ih =>
    cases r with
    | nil => simp [jn]
    | cons y r =>
      rw [PY b x AG, List.map_cons, List.sum_cons, ih AG]
      simp; omega
theorem Cj {vars : List Bs} {t : Bs} {p : List Tm} {n e : Nat} (h : EV vars t = (p, n, e)) (he : e ≠ 0) : p = [] ∧ ((DS 8 vars = false ∧ n = 0 ∧ e = 1) ∨ (DS 8 vars = true ∧ 4000 < t.length ∧ n = 0 ∧ e = 2) ∨ (DS 8 vars = true ∧ e = 440 ∧ n ≤ t.length + 1)) := by
  unfold EV at h
  by_cases k : DS 8 vars = false
  · rw [if_pos k] at h; simp only [Prod.mk.injEq] at h; exact ⟨h.1.symm, .inl ⟨k, h.2.1.symm, h.2.2.symm⟩⟩
  · have f : DS 8 vars = true := by simpa using k
    rw [if_neg k] at h
    by_cases l : 4000 < t.length
    · rw [if_pos l] at h; simp only [Prod.mk.injEq] at h; exact ⟨h.1.symm, .inr (.inl ⟨f, l, h.2.1.symm, h.2.2.symm⟩)⟩
    · rw [if_neg l] at h
      by_cases o : t = [48]
      · rw [if_pos o] at h; simp only [Prod.mk.injEq] at h; exact absurd h.2.2.symm he
      · rw [if_neg o] at h
        obtain ⟨v, u, q⟩ := rH _ _ _ _ _ p n e h he
        rw [vV 32 (OC 32 t), jA] at q
        exact ⟨v, .inr (.inr ⟨f, u, by omega⟩)⟩
end Go.Proofs.YtmppigbbkjepiaaGreatDoor
