/- Helping facts of SynL; no other conditions. Helping facts of SynR; no other conditions. -/
import Derived.Test.YtmppigbbkjepiaaGreatDoorRat2
import Derived.Lib.Join
namespace Go.Proofs.YtmppigbbkjepiaaGreatDoor
open W
variable {b : UInt8} {c : Rat} {hi lo : Int} {k n v : Nat} {m : List Nat} {neg : Bool}
abbrev Bs := List UInt8
abbrev Tm := Rat × List Nat
def KY (b : UInt8) : Bs -> Option (Bs × Bs)
 | [] => none
 | x :: l => if x = b then some ([], l) else (KY b l).map fun p => (x :: p.1, p.2)
theorem cutB_none {l : Bs} : KY b l = none ↔ b ∉ l := by
 induction l with
 | nil => simp [KY]
 | cons x l ih =>
   simp only [KY]
   by_cases h : x = b
   . simp [h]
   rw [if_neg h]; simp [ih, Ne.symm h]
theorem cutB_some {l x y : Bs} : KY b l = some (x, y) ↔ l = x ++ b :: y /\ b ∉ x := by
 induction l generalizing x with
 | nil => simp [KY]
 | cons c l ih =>
   simp only [KY]
   by_cases h : c = b
   . rw [if_pos h]
     constructor
     . intro e; simp only [Option.some.injEq, Prod.mk.injEq] at e; obtain ⟨rfl, rfl⟩ := e; simp [h]
     rintro ⟨e, f⟩
     cases x with
     | nil => simp at e; simp [e.2]
     | cons d x => simp at e; exact absurd (by simp [<- e.1, h]) f
   rw [if_neg h]
   cases k : KY b l with
   | none =>
     simp only [Option.map_none, reduceCtorEq, false_iff]
     rintro ⟨e, f⟩
     cases x with
     | nil => simp at e; exact h e.1
     | cons d x => simp at e; exact cutB_none.1 k (by rw [e.2]; simp)
   | some p =>
     obtain ⟨u, v⟩ := p
     simp only [Option.map_some, Option.some.injEq, Prod.mk.injEq]
     constructor
     . rintro ⟨rfl, rfl⟩
       obtain ⟨e, f⟩ := ih.1 k
       exact ⟨by rw [e]; rfl, by simp [f, Ne.symm h]⟩
     rintro ⟨e, f⟩
     cases x with
     | nil => simp at e; exact absurd e.1 h
     | cons d x =>
       simp at e
       obtain ⟨rfl, e⟩ := e
       have := ih.2 ⟨e, fun g => f (by simp [g])⟩
       rw [k] at this
       simp only [Option.some.injEq, Prod.mk.injEq] at this
       exact ⟨by rw [this.1], this.2⟩
def DI (b : UInt8) : Bs -> List Bs
 | [] => [[]]
 | x :: l => if x = b then [] :: DI b l else match DI b l with
   | [] => [[x]]
   | h :: t => (x :: h) :: t
def jn (b : UInt8) : List Bs -> Bs
 | [] => []
 | [x] => x
 | x :: y :: r => x ++ b :: jn b (y :: r)
theorem MV (b : UInt8) (x : Bs) {r : List Bs} (h : r ≠ []) : jn b (x :: r) = x ++ b :: jn b r := by
 cases r with
 | nil => exact absurd rfl h
 | cons y r => rfl
theorem Vj (b : UInt8) (l : List Bs) : Lib.join l [b] = jn b l := by
 induction l with
 | nil => rfl
 | cons x r ih =>
   cases r with
   | nil => rw [Lib.join_one]; rfl
   | cons y r =>
     rw [MV b x AH, <- ih, Lib.join_cons, Lib.join_cons]
     simp [Lib.joinTail]
theorem PN (b : UInt8) (l : Bs) : DI b l ≠ [] := by
 cases l with
 | nil => simp [DI]
 | cons x l =>
   simp only [DI]
   split
   . simp
   split <;> simp
theorem YL (b : UInt8) {x y : Bs} (h : b ∉ x) : DI b (x ++ b :: y) = x :: DI b y := by
 induction x with
 | nil => simp [DI]
 | cons c x ih =>
   have k : ¬ c = b := fun e => h (by simp [e])
   have f : b ∉ x := fun e => h (by simp [e])
   simp only [List.cons_append, DI]
   rw [if_neg k, ih f]
theorem PO (b : UInt8) {x : Bs} (h : b ∉ x) : DI b x = [x] := by
 induction x with
 | nil => rfl
 | cons c x ih =>
   have k : ¬ c = b := fun e => h (by simp [e])
   have f : b ∉ x := fun e => h (by simp [e])
   simp only [DI]
   rw [if_neg k, ih f]
theorem oH (b : UInt8) (l : Bs) : jn b (DI b l) = l := by
 induction l with
 | nil => rfl
 | cons x l ih =>
   simp only [DI]
   by_cases h : x = b
   . rw [if_pos h, MV b [] (PN b l), ih, h]; rfl
   rw [if_neg h]
   cases e : DI b l with
   | nil => exact absurd e (PN b l)
   | cons y r =>
     rw [e] at ih
     simp only
     cases r with
     | nil => simp only [jn] at ih ⊢; rw [ih]
     | cons z r => rw [MV b (x :: y) AH]; rw [MV b y AH] at ih; rw [List.cons_append, ih]
def OZ (l : Bs) : Option Rat := match KY 47 l with
 | none => (DN l).map fun z => Rat.divInt z 1
 | some (a, b) => match DN a, DN b with
   | some n, some d => if vq n d /\ d ≠ 1 then some (Rat.divInt n d) else none
   | _, _ => none
theorem aH {l : Bs} {x : Rat} (h : OZ l = some x) : l = (NF x).data.toList := by
 unfold OZ at h
 cases k : KY 47 l with
 | none =>
   rw [k] at h
   cases f : DN l with
   | none => simp [f] at h
   | some z =>
     simp only [f, Option.map_some, Option.some.injEq] at h
     rw [<- h]; exact Cj f
 | some p =>
   obtain ⟨a, b⟩ := p
   rw [k] at h
   obtain ⟨rfl, q⟩ := cutB_some.1 k
   cases e : DN a with
   | none => simp [e] at h
   | some n =>
     cases o : DN b with
     | none => simp [e, o] at h
     | some d =>
       simp only [e, o] at h
       by_cases g : vq n d /\ d ≠ 1
       . rw [if_pos g] at h
         simp only [Option.some.injEq] at h
         rw [<- h]; exact Fk e o g.1 g.2
       rw [if_neg g] at h; cases h
theorem jV {l : Bs} (h : OZ l = none) (x : Rat) : l ≠ (NF x).data.toList := by
 unfold OZ at h
 cases f : KY 47 l with
 | none =>
   rw [f] at h
   cases t : DN l with
   | none => exact tY (cutB_none.1 f) t x
   | some z => simp [t] at h
 | some p =>
   obtain ⟨a, b⟩ := p
   rw [f] at h
   obtain ⟨rfl, k⟩ := cutB_some.1 f
   cases q : DN a with
   | none => exact lV k q x
   | some n =>
     cases o : DN b with
     | none => exact tZ k o x
     | some d =>
       simp only [q, o] at h
       by_cases g : vq n d /\ d ≠ 1
       . rw [if_pos g] at h; cases h
       refine bS k q o ?_ x
       by_cases u : vq n d
       . exact .inr (Decidable.by_contra fun e => g ⟨u, e⟩)
       exact .inl u
def EA (lo hi : Int) (l : Bs) : Option Nat := match DN l with
 | some z => if lo <= z /\ z <= hi then some z.toNat else none
 | none => none
theorem rR (h1 : lo <= (n : Int)) (h2 : (n : Int) <= hi) : EA lo hi (txt (n : Int)) = some n := by
 unfold EA; rw [XN]; simp only; rw [if_pos ⟨h1, h2⟩]; simp
theorem IW {l : Bs} (h0 : 0 <= lo) (h : EA lo hi l = some n) : l = txt (n : Int) /\ lo <= (n : Int) /\ (n : Int) <= hi := by
 unfold EA at h
 cases e : DN l with
 | none => simp [e] at h
 | some z =>
   simp only [e] at h
   by_cases g : lo <= z /\ z <= hi
   . rw [if_pos g] at h
     simp only [Option.some.injEq] at h
     have : (n : Int) = z := by omega
     rw [this]; exact ⟨(NI e).symm, g⟩
   rw [if_neg g] at h; cases h
def TK (b : UInt8) : Bool := (decide (65 <= b.toNat) && decide (b.toNat <= 90)) || (decide (97 <= b.toNat) && decide (b.toNat <= 122))
def QS (b : UInt8) : Bool := TK b || (decide (48 <= b.toNat) && decide (b.toNat <= 57)) || decide (b.toNat = 95)
def PU (s : Bs) : Bool := match s with
 | [] => false
 | c :: r => decide (s.length <= 12) && TK c && r.all QS
def DM (k : Nat) (vs : List Bs) : Bool := decide (vs.length <= k) && vs.all PU && decide vs.Nodup
theorem Qe {s : Bs} (h : PU s = true) : ∀ b ∈ s, QS b = true := by
 cases s with
 | nil => cases h
 | cons c r =>
   simp only [PU, Bool.and_eq_true, List.all_eq_true] at h
   intro b e
   rcases List.mem_cons.1 e with rfl | e
   . unfold QS; rw [h.1.2]; rfl
   exact h.2 b e
theorem oK {s : Bs} (h : PU s = true) : s.length <= 12 := by
 cases s with
 | nil => cases h
 | cons c r => simp only [PU, Bool.and_eq_true, decide_eq_true_eq] at h; exact h.1.1
theorem Kd {s : Bs} (h : PU s = true) : ∃ c r, s = c :: r /\ TK c = true := by
 cases s with
 | nil => cases h
 | cons c r => simp only [PU, Bool.and_eq_true] at h; exact ⟨c, r, rfl, h.1.2⟩
def YW (v : Bs) (n : Nat) : List Bs := if n = 0 then [] else if n = 1 then [v] else [v ++ 94 :: txt (n : Int)]
def FX : List Bs -> List Nat -> List Bs
 | v :: vs, n :: ns => YW v n ++ FX vs ns
 | _, _ => []
def GA (vars : List Bs) (c : Rat) (m : List Nat) : Bs :=
 if FX vars m = [] ∨ c ≠ 1 then jn 42 ((NF c).data.toList :: FX vars m) else jn 42 (FX vars m)
def within (n : Nat) (m : List Nat) : Prop := ∀ i, n <= i -> me m i = 0
def PC (c : Rat) : Rat := if c < 0 then -c else c
def ZF (first neg : Bool) : Bs := if first then (if neg then [45] else []) else (if neg then [32, 45, 32] else [32, 43, 32])
def MR (vars : List Bs) : Bool -> List Tm -> Bs
 | _, [] => []
 | f, (c, m) :: p => ZF f (decide (c < 0)) ++ GA vars (PC c) m ++ MR vars false p
def GR (vars : List Bs) (p : List Tm) : Bs := if p = [] then [48] else MR vars true p
def LP (vars : List Bs) (w : Bs) : Option (Nat × Nat) := match KY 94 w with
 | none => (vars.idxOf? w).map fun v => (v, 1)
 | some (a, d) => match vars.idxOf? a, EA 2 65535 d with
   | some v, some n => some (v, n)
   | _, _ => none
def GX (vars : List Bs) : List Bs -> List Nat -> Option (List Nat)
 | [], m => some m
 | w :: ws, m => match LP vars w with
   | none => none
   | some (v, n) => GX vars ws (m.set v n)
def MS (l : List Bs) : Rat × List Bs := match l with
 | [] => (1, [])
 | a :: r => match OZ a with
   | some c => (c, r)
   | none => (1, a :: r)
def zeroM : List Nat := [0, 0, 0, 0, 0, 0, 0, 0]
def cO (vars : List Bs) (w : Bs) : Option Tm := match GX vars (MS (DI 42 w)).2 zeroM with
 | none => none
 | some m => if 0 < (MS (DI 42 w)).1 /\ GA vars (MS (DI 42 w)).1 m = w then some ((MS (DI 42 w)).1, m) else none
theorem xO {vars : List Bs} {w : Bs} (h : cO vars w = some (c, m)) : 0 < c /\ GA vars c m = w := by
 unfold cO at h
 cases e : GX vars (MS (DI 42 w)).2 zeroM with
 | none => simp [e] at h
 | some m' =>
   simp only [e] at h
   by_cases g : 0 < (MS (DI 42 w)).1 /\ GA vars (MS (DI 42 w)).1 m' = w
   . rw [if_pos g] at h
     simp only [Option.some.injEq, Prod.mk.injEq] at h
     obtain ⟨rfl, rfl⟩ := h
     exact g
   rw [if_neg g] at h; cases h
theorem aM (h : FC m) (hn : n <= 65535) : FC (m.set v n) := by
 refine ⟨by rw [List.length_set]; exact h.1, fun e f => ?_⟩
 rcases List.mem_or_eq_of_mem_set f with g | rfl
 . exact h.2 e g
 exact hn
theorem Bc (h : within k m) (hv : v < k) : within k (m.set v n) := by
 intro i e
 have := h i e
 unfold me at *
 rw [List.getD_eq_getElem?_getD, List.getElem?_set_ne AA, <- List.getD_eq_getElem?_getD]; exact this
theorem UM {vars : List Bs} {w : Bs} (h : LP vars w = some (v, n)) : v < vars.length /\ 1 <= n /\ n <= 65535 := by
 unfold LP at h
 have l : ∀ a : Bs, vars.idxOf? a = some v -> v < vars.length := by
  intro a e
  rw [List.idxOf?, List.findIdx?_eq_some_iff_getElem] at e
  exact e.1
 cases q : KY 94 w with
 | none =>
   rw [q] at h
   cases f : vars.idxOf? w with
   | none => simp [f] at h
   | some u => simp only [f, Option.map_some, Option.some.injEq, Prod.mk.injEq] at h; obtain ⟨rfl, rfl⟩ := h; exact ⟨l w f, by omega, by omega⟩
 | some p =>
   obtain ⟨a, d⟩ := p
   rw [q] at h
   cases f : vars.idxOf? a with
   | none => simp [f] at h
   | some u =>
     cases o : EA 2 65535 d with
     | none => simp [f, o] at h
     | some k =>
       simp only [f, o, Option.some.injEq, Prod.mk.injEq] at h
       obtain ⟨rfl, rfl⟩ := h
       have := IW AE o
       exact ⟨l a f, by omega, by omega⟩
theorem rS {vars : List Bs} : ∀ {ws : List Bs} {m m' : List Nat}, GX vars ws m = some m' -> FC m -> within vars.length m -> FC m' /\ within vars.length m'
 | [], m, m', h, h1, h2 => by simp only [GX, Option.some.injEq] at h; subst h; exact ⟨h1, h2⟩
 | w :: ws, m, m', h, h1, h2 => by
   simp only [GX] at h
   cases hf : LP vars w with
   | none => simp [hf] at h
   | some p =>
     obtain ⟨v, n⟩ := p
     simp only [hf] at h
     obtain ⟨g1, g2, g3⟩ := UM hf
     exact rS h (aM h1 g3) (Bc h2 g1)
theorem CK : FC zeroM := by refine ⟨rfl, ?_⟩; decide
theorem tE (k : Nat) : within k zeroM := by
 intro i _
 unfold me zeroM
 match i with
 | 0 | 1 | 2 | 3 | 4 | 5 | 6 | 7 => rfl
 | n + 8 => rfl
theorem YP {vars : List Bs} {w : Bs} (h : cO vars w = some (c, m)) : FC m /\ within vars.length m := by
 unfold cO at h
 cases e : GX vars (MS (DI 42 w)).2 zeroM with
 | none => simp [e] at h
 | some m' =>
   simp only [e] at h
   have := rS e CK (tE _)
   split at h
   . simp only [Option.some.injEq, Prod.mk.injEq] at h; obtain ⟨_, rfl⟩ := h; exact this
   cases h
theorem rC (z : Int) : ∀ b ∈ txt z, b = 45 ∨ (48 <= b.toNat /\ b.toNat <= 57) := by
 intro b e
 unfold txt at e
 rcases List.mem_append.1 e with h | h
 . split at h
   . simp at h; exact .inl h
   cases h
 exact .inr (PH (Dr _) b h)
theorem Lz {z : Int} (h : ¬ (b = 45 ∨ (48 <= b.toNat /\ b.toNat <= 57))) : b ∉ txt z := fun e => h (rC z b e)
theorem Qp {v : Bs} {p : Bs} (hv : PU v = true) (h : p ∈ YW v n) : (∃ c r, p = c :: r /\ TK c = true) /\ ∀ b ∈ p, QS b = true ∨ b = 94 := by
 obtain ⟨c, r, e, k⟩ := Kd hv
 have l := Qe hv
 have q : ∀ b ∈ txt (n : Int), QS b = true := by
  intro b f
  rcases rC _ b f with rfl | o
  . exfalso
    unfold txt at f
    rw [if_neg AA] at f
    have := PH (Dr _) _ (by simpa using f)
    revert this; decide
  unfold QS; simp [o.1, o.2]
 unfold YW at h
 split at h
 . cases h
 split at h
 . simp at h; subst h; exact ⟨⟨c, r, e, k⟩, fun b f => .inl (l b f)⟩
 simp at h; subst h
 refine ⟨⟨c, r ++ 94 :: txt (n : Int), by rw [e]; rfl, k⟩, fun b f => ?_⟩
 rcases List.mem_append.1 f with g | g
 . exact .inl (l b g)
 rcases List.mem_cons.1 g with g | g
 . exact .inr g
 exact .inl (q b g)
theorem yV : ∀ {vars : List Bs} {m : List Nat} {p : Bs}, (∀ v ∈ vars, PU v = true) -> p ∈ FX vars m -> (∃ c r, p = c :: r /\ TK c = true) /\ ∀ b ∈ p, QS b = true ∨ b = 94
 | [], _, _, _, h => by simp [FX] at h
 | v :: vs, [], _, _, h => by simp [FX] at h
 | v :: vs, n :: ns, p, hv, h => by
   simp only [FX] at h
   rcases List.mem_append.1 h with g | g
   . exact Qp (hv v AH) g
   exact yV (fun u hu => hv u (by simp [hu])) g
theorem SK {vars : List Bs} (h : DM k vars = true) : ∀ v ∈ vars, PU v = true := by
 unfold DM at h
 simp only [Bool.and_eq_true, List.all_eq_true] at h
 exact h.1.2
theorem yJ {vars : List Bs} (h : DM k vars = true) : vars.Nodup := by
 unfold DM at h
 simp only [Bool.and_eq_true, decide_eq_true_eq] at h
 exact h.2
theorem IG {vars : List Bs} (h : DM k vars = true) : vars.length <= k := by
 unfold DM at h
 simp only [Bool.and_eq_true, decide_eq_true_eq] at h
 exact h.1.1
theorem bA (h : c < 0) : PC c = -c := by unfold PC; rw [if_pos h]
theorem YC (h : ¬ c < 0) : PC c = c := by unfold PC; rw [if_neg h]
theorem Cf (c : Rat) : - -c = c := by rw [Rat.neg_neg]
theorem Fs (h : 0 < c) : -c < 0 := by
 have := pos_num.1 h
 rw [Rat.lt_iff]; simp; omega
theorem uG (h : 0 < c) : ¬ c < 0 := by
 have e := pos_num.1 h
 intro g
 rw [Rat.lt_iff] at g; simp at g; omega
theorem Ae (h : 0 < c) : PC (-c) = c := by rw [bA (Fs h), Cf]
theorem aZ (h : 0 < c) : PC c = c := YC (uG h)
def Iz (neg : Bool) (c : Rat) : Rat := if neg then -c else c
theorem Ey (h : 0 < c) : decide (Iz neg c < 0) = neg := by
 cases neg
 . exact decide_eq_false (uG h)
 exact decide_eq_true (Fs h)
theorem vK (h : 0 < c) : PC (Iz neg c) = c := by
 cases neg
 . exact aZ h
 exact Ae h
theorem Nf (h : 0 < c) : Iz neg c ≠ 0 := by
 intro e
 have f := vK (neg := neg) h
 rw [e] at f
 have : PC 0 = 0 := by decide +kernel
 rw [this] at f; subst f; revert h; decide +kernel
theorem sY : ∀ a b : List Nat, FR a b = -1 ∨ FR a b = 0 ∨ FR a b = 1
 | [], _ => by simp [FR]
 | _ :: _, [] => by simp [FR]
 | x :: xs, y :: ys => by
   simp only [FR]
   split
   . simp
   split
   . simp
   exact sY xs ys
theorem jJ : ∀ a b : List Nat, FR b a = -FR a b
 | [], [] => by simp [FR]
 | [], _ :: _ => by simp [FR]
 | _ :: _, [] => by simp [FR]
 | x :: xs, y :: ys => by
   simp only [FR]
   by_cases h : x < y
   . rw [if_pos h, if_neg AA, if_pos h]; rfl
   by_cases g : y < x
   . rw [if_pos g, if_neg h, if_pos g]
   rw [if_neg g, if_neg h, if_neg h, if_neg g]; exact jJ xs ys
def Su (p : List Tm) : Prop := ∀ i a b, p[i]? = some a -> p[i + 1]? = some b -> FR a.2 b.2 = 1
theorem Ay : Su [] := by intro i a b h; simp at h
theorem Ss (t : Tm) : Su [t] := by
 intro i a b _ h; simp at h
theorem Ln {p : List Tm} {t : Tm} (h : Su p) (hl : ∀ a, p.getLast? = some a -> FR a.2 t.2 = 1) : Su (p ++ [t]) := by
 intro i a b k f
 have l : i + 1 < (p ++ [t]).length := (List.getElem?_eq_some_iff.1 f).1
 simp only [List.length_append, List.length_cons, List.length_nil] at l
 by_cases g : i + 1 < p.length
 . rw [List.getElem?_append_left AA] at k
   rw [List.getElem?_append_left g] at f
   exact h i a b k f
 have e : i + 1 = p.length := by omega
 rw [List.getElem?_append_left AA] at k
 rw [List.getElem?_append_right AA, e] at f
 simp at f
 subst f
 exact hl a (by rw [List.getLast?_eq_getElem?]; rw [show p.length - 1 = i by omega]; exact k)
def JS (p : List Tm) : Prop := (∀ t ∈ p, t.1 ≠ 0 /\ FC t.2) /\ Su p
abbrev Rd := List Tm × Nat × Nat
def oG (p : List Tm) : List Nat := (p.getLast?.map (·.2)).getD []
def QR (i : Nat) (neg : Bool) (w : Bs) : Bs × Bool := if i = 0 then (if w.head? = some 45 then (w.tail, true) else (w, false)) else (w, neg)
def SC (vars : List Bs) : List Bs -> Nat -> Nat -> Bool -> List Tm -> Rd
 | [], i, at_, _, p => if i % 2 = 0 then ([], at_, 440) else (p, 0, 0)
 | w :: ws, i, at_, neg, p =>
   if i % 2 = 1 then (if w = [43] ∨ w = [45] then SC vars ws (i + 1) (at_ + w.length + 1) (decide (w = [45])) p else ([], at_, 440))
   else match cO vars (QR i neg w).1 with
    | none => ([], at_, 440)
    | some (c, m) => if i ≠ 0 /\ 0 <= FR m (oG p) then ([], at_, 440) else SC vars ws (i + 1) (at_ + w.length + 1) false (p ++ [(Iz (QR i neg w).2 c, m)])
def EE (vars : List Bs) (t : Bs) : Rd :=
 if DM 8 vars = false then ([], 0, 1) else if 4000 < t.length then ([], 0, 2) else if t = [48] then ([], 0, 0) else SC vars (DI 32 t) 0 0 false []
def Lw (vars : List Bs) (t : Tm) : List Bs := [if t.1 < 0 then [45] else [43], GA vars (PC t.1) t.2]
def A0 (vars : List Bs) (t : Tm) : Bs := ZF true (decide (t.1 < 0)) ++ GA vars (PC t.1) t.2
theorem Py (vars : List Bs) (w : Bs) (r : List Tm) : jn 32 (w :: r.flatMap (Lw vars)) = w ++ MR vars false r := by
 induction r generalizing w with
 | nil => simp [jn, MR]
 | cons t r ih =>
   obtain ⟨c, m⟩ := t
   simp only [List.flatMap_cons, Lw, List.cons_append, List.nil_append]
   rw [MV 32 w AH, MV 32 _ AH, ih]
   simp only [MR, ZF]
   by_cases h : c < 0 <;> simp [h]
theorem xQ (vars : List Bs) (t : Tm) (r : List Tm) : GR vars (t :: r) = jn 32 (A0 vars t :: r.flatMap (Lw vars)) := by
 rw [Py]
 obtain ⟨c, m⟩ := t
 unfold GR
 rw [if_neg AH]
 simp only [MR, A0]
theorem nQ {vars : List Bs} : ∀ (n : Nat) (ws : List Bs) (i at_ : Nat) (neg : Bool) (p : List Tm) (q : List Tm) (k : Nat), ws.length <= n -> i % 2 = 1 -> p ≠ [] -> JS p -> SC vars ws i at_ neg p = (q, k, 0) ->
 k = 0 /\ ∃ r, q = p ++ r /\ ws = r.flatMap (Lw vars) /\ JS q /\ ∀ t ∈ r, within vars.length t.2
 | n, [], i, at_, neg, p, q, k, _, hi, _, hok, h => by
   rw [SC, if_neg AA] at h
   simp only [Prod.mk.injEq] at h
   obtain ⟨rfl, rfl, _⟩ := h
   exact ⟨rfl, [], by simp, rfl, hok, fun t ht => by cases ht⟩
 | n, [s], i, at_, neg, p, q, k, _, hi, _, hok, h => by
   rw [SC, if_pos hi] at h
   split at h
   . rw [SC, if_pos AA] at h
     simp at h
   simp at h
 | 0, s :: w :: ws, i, at_, neg, p, q, k, hn, hi, _, hok, h => by simp at hn
 | n + 1, s :: w :: ws, i, at_, neg, p, q, k, hn, hi, hp, hok, h => by
   rw [SC, if_pos hi] at h
   by_cases hs : s = [43] ∨ s = [45]
   . rw [if_pos hs, SC, if_neg AA] at h
     have hcs : ∀ g : Bool, QR (i + 1) g w = (w, g) := fun g => by unfold QR; rw [if_neg AA]
     rw [hcs] at h
     cases hr : cO vars w with
     | none => simp [hr] at h
     | some cm =>
       obtain ⟨c, m⟩ := cm
       simp only [hr] at h
       split at h
       . simp at h
       rename_i hlt
       obtain ⟨h1, h2⟩ := xO hr
       obtain ⟨h3, h4⟩ := YP hr
       have hok2 : JS (p ++ [(Iz (decide (s = [45])) c, m)]) := by
        refine ⟨fun t ht => ?_, Ln hok.2 fun a e => ?_⟩
        . rcases List.mem_append.1 ht with g | g
          . exact hok.1 t g
          simp at g; subst g; exact ⟨Nf h1, h3⟩
        have : ¬ 0 <= FR m a.2 := fun g => hlt ⟨by omega, by unfold oG; rw [e]; exact g⟩
        have f := jJ m a.2
        rcases sY m a.2 with g | g | g <;> simp only at * <;> omega
       obtain ⟨e1, r, e2, e3, e4, e5⟩ := nQ n ws _ _ _ _ q k (by simp at hn; omega) AA AH hok2 h
       refine ⟨e1, (Iz (decide (s = [45])) c, m) :: r, by rw [e2]; simp, ?_, e4, fun t ht => ?_⟩
       . simp only [List.flatMap_cons, Lw, vK h1, h2]
         rw [<- e3]
         have : (if Iz (decide (s = [45])) c < 0 then [45] else [43] : Bs) = s := by
          have := Ey (neg := decide (s = [45])) h1
          rcases hs with rfl | rfl
          . rw [if_neg (by simpa using this)]
          rw [if_pos (by simpa using this)]
         rw [this]; rfl
       rcases List.mem_cons.1 ht with rfl | ht
       . exact h4
       exact e5 t ht
   rw [if_neg hs] at h; simp at h
theorem aD {vars : List Bs} {t : Bs} {p : List Tm} (h : EE vars t = (p, n, 0)) : DM 8 vars = true /\ t.length <= 4000 /\ n = 0 /\ JS p /\ (∀ t ∈ p, within vars.length t.2) /\ GR vars p = t := by
 unfold EE at h
 by_cases k : DM 8 vars = false
 . rw [if_pos k] at h; simp at h
 rw [if_neg k] at h
 by_cases v : 4000 < t.length
 . rw [if_pos v] at h; simp at h
 rw [if_neg v] at h
 refine ⟨by simpa using k, by omega, ?_⟩
 by_cases q : t = [48]
 . rw [if_pos q] at h
   simp only [Prod.mk.injEq] at h
   obtain ⟨rfl, rfl, _⟩ := h
   exact ⟨rfl, ⟨fun _ e => (by cases e), Ay⟩, fun _ e => (by cases e), (by rw [q]; rfl)⟩
 rw [if_neg q] at h
 have y := oH 32 t
 cases u : DI 32 t with
 | nil => exact absurd u (PN 32 t)
 | cons w ws =>
   rw [u] at h y
   rw [SC, if_neg AA] at h
   cases f : cO vars (QR 0 false w).1 with
   | none => simp [f] at h
   | some cm =>
     obtain ⟨c, m⟩ := cm
     simp only [f] at h
     rw [if_neg AH] at h
     obtain ⟨o, D⟩ := xO f
     obtain ⟨C, B⟩ := YP f
     have l : JS ([] ++ [(Iz (QR 0 false w).2 c, m)]) := ⟨fun t e => by simp at e; subst e; exact ⟨Nf o, C⟩, Ss _⟩
     obtain ⟨e1, r, e2, e3, e4, e5⟩ := nQ ws.length ws _ _ _ _ p n (Nat.le_refl _) AA AH l h
     refine ⟨e1, e4, ?_, ?_⟩
     . rw [e2]
       intro t e
       rcases List.mem_append.1 e with g | g
       . simp at g; subst g; exact B
       exact e5 t g
     rw [e2]
     show GR vars ((Iz (QR 0 false w).2 c, m) :: r) = t
     rw [xQ, <- e3, <- y]
     congr 2
     unfold A0
     rw [Ey o, vK o, D]
     unfold QR ZF
     rw [if_pos rfl]
     by_cases g : w.head? = some 45
     . rw [if_pos g]
       cases w with
       | nil => simp at g
       | cons x w => simp at g; simp [g]
     rw [if_neg g]; simp
theorem xP {vars : List Bs} : ∀ (ws : List Bs) (i at_ : Nat) (neg : Bool) (p q : List Tm) (k e : Nat), SC vars ws i at_ neg p = (q, k, e) -> e ≠ 0 -> q = [] /\ e = 440 /\ k <= at_ + (ws.map (fun w => w.length + 1)).sum
 | [], i, at_, neg, p, q, k, e, h, he => by
   rw [SC] at h
   split at h <;> simp only [Prod.mk.injEq] at h
   . obtain ⟨rfl, rfl, rfl⟩ := h; exact ⟨rfl, rfl, by simp⟩
   exact absurd h.2.2.symm he
 | w :: ws, i, at_, neg, p, q, k, e, h, he => by
   rw [SC] at h
   have stop : ∀ {x : Rd}, x = (q, k, e) -> x = ([], at_, 440) -> q = [] /\ e = 440 /\ k <= at_ + ((w :: ws).map (fun w => w.length + 1)).sum := by
    intro x o l
    rw [o] at l
    simp only [Prod.mk.injEq] at l
    obtain ⟨rfl, rfl, rfl⟩ := l
    exact ⟨rfl, rfl, by omega⟩
   have go : ∀ {u f t}, SC vars ws u (at_ + w.length + 1) f t = (q, k, e) -> q = [] /\ e = 440 /\ k <= at_ + ((w :: ws).map (fun w => w.length + 1)).sum := by
    intro u f t o
    obtain ⟨y, v, B⟩ := xP ws _ _ _ _ q k e o he
    exact ⟨y, v, by simp only [List.map_cons, List.sum_cons]; omega⟩
   split at h
   . split at h
     . exact go h
     exact stop h rfl
   split at h
   . exact stop h rfl
   split at h
   . exact stop h rfl
   exact go h
theorem Db (b : UInt8) {l : List Bs} (h : l ≠ []) : (l.map (fun w => w.length + 1)).sum = (jn b l).length + 1 := by
 induction l with
 | nil => exact absurd rfl h
 | cons x r ih =>
   cases r with
   | nil => simp [jn]
   | cons y r =>
     rw [MV b x AH, List.map_cons, List.sum_cons, ih AH]
     simp; omega
theorem Jl {vars : List Bs} {t : Bs} {p : List Tm} {e : Nat} (h : EE vars t = (p, n, e)) (he : e ≠ 0) : p = [] /\ ((DM 8 vars = false /\ n = 0 /\ e = 1) ∨ (DM 8 vars = true /\ 4000 < t.length /\ n = 0 /\ e = 2) ∨ (DM 8 vars = true /\ e = 440 /\ n <= t.length + 1)) := by
 unfold EE at h
 by_cases k : DM 8 vars = false
 . rw [if_pos k] at h; simp only [Prod.mk.injEq] at h; exact ⟨h.1.symm, .inl ⟨k, h.2.1.symm, h.2.2.symm⟩⟩
 have f : DM 8 vars = true := by simpa using k
 rw [if_neg k] at h
 by_cases l : 4000 < t.length
 . rw [if_pos l] at h; simp only [Prod.mk.injEq] at h; exact ⟨h.1.symm, .inr (.inl ⟨f, l, h.2.1.symm, h.2.2.symm⟩)⟩
 rw [if_neg l] at h
 by_cases o : t = [48]
 . rw [if_pos o] at h; simp only [Prod.mk.injEq] at h; exact absurd h.2.2.symm he
 rw [if_neg o] at h
 obtain ⟨v, u, q⟩ := xP _ _ _ _ _ p n e h he
 rw [Db 32 (PN 32 t), oH] at q
 exact ⟨v, .inr (.inr ⟨f, u, by omega⟩)⟩
end Go.Proofs.YtmppigbbkjepiaaGreatDoor
