/- Plain arithmetic of numbers written as lists of words of 32 bits, the least significant word first: values, canonical lists, comparison. No program in sight. Slices of words in memory: what a slice value reads as, and how that is carried from world to world. Walk: trim. -/
import Derived.KernelRfl
import Derived.WalkKit
import Derived.Lib.Hide
import Derived.Laws.AppendOwnNone
import Derived.Deep.Draws
import Derived.Test.YtmppigbbkjepiaaGreatDoorProg
theorem Go.Proofs.YtmppigbbkjepiaaGreatDoor.O {α : Sort _} {a : α} : a = a := rfl
namespace Go.Proofs.YtmppigbbkjepiaaGreatDoor
theorem I {p : Prop} (h : p := by kernel_rfl) : p := h
theorem Z {p : Prop} (h : p := by omega) : p := h
theorem AA {p : Prop} (h : p := by rw [decide_eq_false_iff_not]; omega) : p := h
theorem AB {p : Prop} (h : p := by rw [decide_eq_true_eq]; omega) : p := h
theorem AD {p : Prop} (h : p := by decide) : p := h
theorem AE {p : Prop} (h : p := by intro d v c a w h; cases d <;> exact h) : p := h
theorem AF {p : Prop} (h : p := by rw [beq_eq_false_iff_ne]; omega) : p := h
theorem AG {p : Prop} (h : p := by simp) : p := h
theorem AH {p : Prop} (h : p := by rw [beq_iff_eq]; omega) : p := h
theorem AI {p : Prop} (h : p := by (try simp only [List.length_append, List.length_cons, List.length_nil]); omega) : p := h
theorem AJ {p : Prop} (h : p := by decide +kernel) : p := h
theorem AM {P : Program} {Q : Exit → Act → World → Prop} {a : Act} {w : World} {x y : Code} (h : x.wp P (Exit.then (y.wp P Q) Q) a w) : (Code.seq x y).wp P Q a w := wp_seq h
theorem AN {P : Program} {Q : Exit → Act → World → Prop} {a : Act} {w : World} {c : Operand} {x y : Code} (hc : a.eval c = .bool true) (h : x.wp P Q a w) : (Code.cond c x y).wp P Q a w := wp_cond_true hc h
theorem AO {P : Program} {Q : Exit → Act → World → Prop} {a : Act} {w : World} {c : Operand} {x y : Code} (hc : a.eval c = .bool false) (h : y.wp P Q a w) : (Code.cond c x y).wp P Q a w := wp_cond_false hc h
theorem AP {P : Program} {a : Act} {w : World} {fn : Func} {R : Ending → World → Prop} {v : Value} (hr : (results fn a.tmps).run P w = .ok v w) (hd : a.defers = []) (hR : R (.returned v) w) : bodyPost P fn R .ret a w := bodyPost_ret hr hd hR
theorem AQ {P : Program} {Q : Exit → Act → World → Prop} {a : Act} {w : World} {id : Nat} {l : List Oper} (h : wpList P l.toArray Q l a w) : (Code.region id l.toArray false).wp P Q a w := wp_region_lit h
theorem AR {P : Program} {Q : Exit → Act → World → Prop} {a : Act} {w : World} {ops : Array Oper} (h : Q .normal a w) : wpList P ops Q [] a w := wpList_nil h
theorem AS {P : Program} {Q : Exit → Act → World → Prop} {a : Act} {w : World} {id : Nat} {c : Code} (h : c.wp P (Exit.inBlock id Q) a w) : (Code.block id c).wp P Q a w := wp_block h
theorem AT {P : Program} {Q : Exit → Act → World → Prop} {a : Act} {w : World} (h : Q .normal a w) : Code.skip.wp P Q a w := wp_skip h
theorem AU {P : Program} {Q : Exit → Act → World → Prop} {a : Act} {w : World} (h : Q .ret a w) : Code.ret.wp P Q a w := wp_ret h
theorem AW {P : Program} {Q : Exit → Act → World → Prop} {a : Act} {w : World} {id : Nat} (h : Q (.exit id) a w) : (Code.exit id).wp P Q a w := wp_exit h
theorem AY {α β γ δ : Sort _} {a : α} {b : β} {c : γ} {d : δ} : a = a ∧ b = b ∧ c = c ∧ d = d := ⟨rfl, rfl, rfl, rfl⟩
theorem AX {α β γ δ ε : Sort _} {a : α} {b : β} {c : γ} {d : δ} {e : ε} : a = a ∧ b = b ∧ c = c ∧ d = d ∧ e = e := ⟨rfl, rfl, rfl, rfl, rfl⟩
theorem AZ {α β γ δ ε ζ η θ : Sort _} {a : α} {b : β} {c : γ} {d : δ} {e : ε} {f : ζ} {g : η} {h : θ} : a = a ∧ b = b ∧ c = c ∧ d = d ∧ e = e ∧ f = f ∧ g = g ∧ h = h := ⟨rfl, rfl, rfl, rfl, rfl, rfl, rfl, rfl⟩
theorem BF {α β γ : Sort _} {a : α} {b : β} {c : γ} : a = a ∧ b = b ∧ c = c := ⟨rfl, rfl, rfl⟩
theorem BG {α β γ δ ε ζ η : Sort _} {a : α} {b : β} {c : γ} {d : δ} {e : ε} {f : ζ} {g : η} : a = a ∧ b = b ∧ c = c ∧ d = d ∧ e = e ∧ f = f ∧ g = g := ⟨rfl, rfl, rfl, rfl, rfl, rfl, rfl⟩
theorem BS {α β : Sort _} {a : α} {b : β} : a = a ∧ b = b := ⟨rfl, rfl⟩
theorem BW : True := True.intro
end Go.Proofs.YtmppigbbkjepiaaGreatDoor
namespace Go.Proofs.YtmppigbbkjepiaaGreatDoor.W
def val : List Nat → Nat
  | [] => 0
  | x :: l => x + 4294967296 * val l
def Wd (l : List Nat) : Prop := ∀ x ∈ l, x < 4294967296
def CB (n : Nat) : List Nat := if n = 0 then [] else (n % 4294967296) :: CB (n / 4294967296)
termination_by n
decreasing_by omega
def FK : List Nat → List Nat
  | [] => []
  | x :: l => if FK l = [] ∧ x = 0 then [] else x :: FK l
theorem DU : CB 0 = [] := by rw [CB]; simp
theorem QW (n : Nat) (h : 0 < n) : CB n = (n % 4294967296) :: CB (n / 4294967296) := by
  rw [CB, if_neg Z]
theorem ZS : val [] = 0 := rfl
theorem IV (x : Nat) (l : List Nat) : val (x :: l) = x + 4294967296 * val l := rfl
theorem WT : Wd [] := by intro x hx; cases hx
theorem Wd_cons {x : Nat} {l : List Nat} : Wd (x :: l) ↔ x < 4294967296 ∧ Wd l := by simp [Wd]
theorem Wd_append {a b : List Nat} : Wd (a ++ b) ↔ Wd a ∧ Wd b := by
  simp only [Wd, List.mem_append]
  exact ⟨fun h => ⟨fun x e => h x (.inl e), fun x e => h x (.inr e)⟩, fun h x e => e.elim (h.1 x) (h.2 x)⟩
theorem NW {l : List Nat} (h : Wd l) (n : Nat) : Wd (l.take n) := fun x hx => h x (List.mem_of_mem_take hx)
theorem Np {l : List Nat} (h : Wd l) (n : Nat) : Wd (l.drop n) := fun x hx => h x (List.mem_of_mem_drop hx)
theorem Rx {l : List Nat} (h : Wd l) (i : Nat) : l.getD i 0 < 4294967296 := by
  by_cases e : i < l.length
  · rw [List.getD_eq_getElem?_getD, List.getElem?_eq_getElem e]; exact h _ (List.getElem_mem e)
  · rw [List.getD_eq_getElem?_getD, List.getElem?_eq_none Z]; simp
theorem LT (n : Nat) : Wd (List.replicate n 0) := by
  intro x e; rw [(List.mem_replicate.1 e).2]; omega
theorem YO (a b : List Nat) : val (a ++ b) = val a + 4294967296 ^ a.length * val b := by
  induction a with
  | nil => simp [val]
  | cons x a ih => simp only [List.cons_append, IV, ih, List.length_cons, Nat.pow_succ]; grind
theorem KA (n : Nat) : val (List.replicate n 0) = 0 := by
  induction n with
  | zero => rfl
  | succ n ih => rw [List.replicate_succ, IV, ih]
theorem GA {l : List Nat} (h : Wd l) : val l < 4294967296 ^ l.length := by
  induction l with
  | nil => simp [val]
  | cons x l ih =>
    have e := (Wd_cons.1 h).1
    have := ih (Wd_cons.1 h).2
    rw [IV, List.length_cons, Nat.pow_succ]
    omega
theorem gT (l : List Nat) (x : Nat) : val (l ++ [x]) = val l + 4294967296 ^ l.length * x := by
  rw [YO]; simp [val]
theorem kL (l : List Nat) (i : Nat) (h : i < l.length) : val (l.take (i + 1)) = val (l.take i) + 4294967296 ^ i * l.getD i 0 := by
  rw [List.take_succ_eq_append_getElem h, gT, List.length_take, Nat.min_eq_left (Nat.le_of_lt h)]
  rw [List.getD_eq_getElem?_getD, List.getElem?_eq_getElem h]; rfl
theorem DO (l : List Nat) (i : Nat) (h : l.length ≤ i) : val (l.take i) = val l := by rw [List.take_of_length_le h]
theorem KU (l : List Nat) (i : Nat) : val (l.take i) + 4294967296 ^ (min i l.length) * val (l.drop i) = val l := by
  have := YO (l.take i) (l.drop i)
  rw [List.take_append_drop, List.length_take] at this
  exact this.symm
def gd (l : List Nat) (i : Nat) : Nat := l.getD i 0
theorem EI {l : List Nat} (h : Wd l) (i : Nat) : gd l i < 4294967296 := Rx h i
theorem QR (l : List Nat) (i : Nat) (h : i < l.length) : gd l i = l[i] := by
  unfold gd; rw [List.getD_eq_getElem?_getD, List.getElem?_eq_getElem h]; rfl
theorem Hw (l : List Nat) (i : Nat) (h : l.length ≤ i) : gd l i = 0 := by
  unfold gd; rw [List.getD_eq_getElem?_getD, List.getElem?_eq_none h]; rfl
theorem MG (a b : List Nat) (i : Nat) (h : a.length ≤ i) : gd (a ++ b) i = gd b (i - a.length) := by
  unfold gd; rw [List.getD_eq_getElem?_getD, List.getElem?_append_right h, List.getD_eq_getElem?_getD]
theorem dV (l : List Nat) (i x : Nat) (h : i < l.length) : gd (l.set i x) i = x := by
  rw [QR _ _ (by simpa using h)]; simp
theorem FG (l : List Nat) (i j x : Nat) (h : i ≠ j) : gd (l.set i x) j = gd l j := by
  unfold gd; simp [h]
theorem NO (n i : Nat) : gd (List.replicate n 0) i = 0 := by
  unfold gd; by_cases h : i < n <;> simp [h]
theorem aY (l : List Nat) (n i : Nat) (h : i < n) : gd (l.take n) i = gd l i := by
  unfold gd; rw [List.getD_eq_getElem?_getD, List.getElem?_take, if_pos h, List.getD_eq_getElem?_getD]
theorem aZ (l : List Nat) (n i : Nat) : gd (l.drop n) i = gd l (n + i) := by
  unfold gd; rw [List.getD_eq_getElem?_getD, List.getElem?_drop, List.getD_eq_getElem?_getD]
theorem DG (l : List Nat) (i : Nat) : val (l.take (i + 1)) = val (l.take i) + 4294967296 ^ i * gd l i := by
  by_cases h : i < l.length
  · rw [kL l i h]; rfl
  · rw [DO l (i + 1) Z, DO l i Z, Hw l i Z]; simp
theorem oX {a b : List Nat} (hl : a.length = b.length) (h : ∀ i, i < a.length → gd a i = gd b i) : a = b := by
  apply List.ext_getElem hl
  intro i e f
  rw [← QR a i e, ← QR b i f]; exact h i e
theorem QX {l : List Nat} (h : Wd l) (i x : Nat) (hx : x < 4294967296) : Wd (l.set i x) := by
  intro y f
  rcases List.mem_or_eq_of_mem_set f with e | e
  · exact h y e
  · rw [e]; exact hx
theorem qM (done : List Nat) (m x : Nat) (h : 0 < m) : (done ++ List.replicate m 0).set done.length x = (done ++ [x]) ++ List.replicate (m - 1) 0 := by
  obtain ⟨k, rfl⟩ : ∃ k, m = k + 1 := ⟨m - 1, by omega⟩
  rw [List.set_append_right _ _ Z, Nat.sub_self, List.replicate_succ, List.set_cons_zero]
  simp
theorem XB (l : List Nat) (i x : Nat) (h : i < l.length) : val (l.set i x) + 4294967296 ^ i * gd l i = val l + 4294967296 ^ i * x := by
  induction l generalizing i with
  | nil => simp at h
  | cons y l ih =>
    cases i with
    | zero => simp only [List.set_cons_zero, IV, gd]; simp; omega
    | succ i =>
      have f : i < l.length := by simpa using h
      have e : gd (y :: l) (i + 1) = gd l i := by unfold gd; simp
      have := ih i f
      rw [List.set_cons_succ, IV, IV, e, Nat.pow_succ]
      have o : 4294967296 ^ i * 4294967296 * gd l i = 4294967296 * (4294967296 ^ i * gd l i) := by grind
      have k : 4294967296 ^ i * 4294967296 * x = 4294967296 * (4294967296 ^ i * x) := by grind
      omega
theorem FQ (n : Nat) : Wd (CB n) := by
  induction n using Nat.strongRecOn with
  | ind n ih =>
    by_cases h : n = 0
    · subst h; rw [DU]; exact WT
    · rw [QW n Z, Wd_cons]
      exact ⟨Nat.mod_lt _ Z, ih _ Z⟩
theorem CK (n : Nat) : val (CB n) = n := by
  induction n using Nat.strongRecOn with
  | ind n ih =>
    by_cases h : n = 0
    · subst h; rw [DU]; rfl
    · rw [QW n Z, IV, ih _ Z]
      omega
theorem sT {m n : Nat} (h : CB m = CB n) : m = n := by
  have := congrArg val h
  rwa [CK, CK] at this
theorem ET (n : Nat) : CB n = [] ↔ n = 0 := by
  constructor
  · intro h
    have := congrArg val h
    rwa [CK] at this
  · intro h; rw [h, DU]
theorem YB {l : List Nat} (h : Wd l) : FK l = [] ↔ val l = 0 := by
  induction l with
  | nil => simp [FK, val]
  | cons x l k =>
    have k := k (Wd_cons.1 h).2
    rw [FK, IV]
    by_cases f : FK l = []
    · have o := k.1 f
      by_cases p : x = 0
      · simp [f, p, o]
      · simp [f, p]
    · have o : ¬ val l = 0 := fun e => f (k.2 e)
      simp [f]; omega
theorem TA {l : List Nat} (h : Wd l) : FK l = CB (val l) := by
  induction l with
  | nil => rw [ZS, DU]; rfl
  | cons x l k =>
    have u := (Wd_cons.1 h).1
    have p := (Wd_cons.1 h).2
    have k := k p
    rw [FK]
    by_cases f : FK l = [] ∧ x = 0
    · have t := (YB p).1 f.1
      rw [if_pos f, IV, t, f.2, DU]
    · rw [if_neg f]
      have q : 0 < val (x :: l) := by
        rw [IV]
        by_cases o : x = 0
        · have : FK l ≠ [] := fun e => f ⟨e, o⟩
          have : val l ≠ 0 := fun e => this ((YB p).2 e)
          omega
        · omega
      rw [QW _ q, IV, k, show (x + 4294967296 * val l) % 4294967296 = x from by omega, show (x + 4294967296 * val l) / 4294967296 = val l from by omega]
theorem RI (l : List Nat) : FK (l ++ [0]) = FK l := by
  induction l with
  | nil => simp [FK]
  | cons x l ih => rw [List.cons_append, FK, FK, ih]
theorem uE (l : List Nat) (x : Nat) (hx : x ≠ 0) : FK (l ++ [x]) = l ++ [x] := by
  induction l with
  | nil => simp [FK, hx]
  | cons y l ih => rw [List.cons_append, FK, ih, if_neg AG]
theorem IS (l : List Nat) : (FK l).length ≤ l.length := by
  induction l with
  | nil => simp [FK]
  | cons x l ih => rw [FK]; split <;> simp <;> omega
theorem hH (l : List Nat) : FK l = l.take (FK l).length := by
  induction l with
  | nil => rfl
  | cons x l ih => rw [FK]; split; · simp
                   · rw [List.length_cons, List.take_succ_cons, ← ih]
theorem IH {n k : Nat} (h : n < 4294967296 ^ k) : (CB n).length ≤ k := by
  induction k generalizing n with
  | zero => rw [Nat.pow_zero] at h; obtain rfl : n = 0 := by omega
            rw [DU]; simp
  | succ k ih =>
    by_cases e : n = 0
    · subst e; rw [DU]; simp
    · rw [QW n Z, List.length_cons]
      have := ih (n := n / 4294967296) (by rw [Nat.pow_succ] at h; exact Nat.div_lt_of_lt_mul (by rw [Nat.mul_comm]; exact h))
      omega
theorem VB {n k : Nat} (h : k < (CB n).length) : 4294967296 ^ k ≤ n := by
  rcases Nat.lt_or_ge n (4294967296 ^ k) with e | e
  · have := IH e; omega
  · exact e
theorem FO {m n : Nat} (h : m ≤ n) : (CB m).length ≤ (CB n).length := by
  have e := GA (FQ n)
  rw [CK] at e
  exact IH Z
theorem XR (n : Nat) (h : 0 < n) : ∃ l x, CB n = l ++ [x] ∧ 0 < x ∧ x < 4294967296 := by
  have f := FQ n
  rcases (CB n).eq_nil_or_concat with q | ⟨l, x, e⟩
  · exact absurd ((ET n).1 q) Z
  · rw [List.concat_eq_append] at e
    refine ⟨l, x, e, ?_, ?_⟩
    · rcases Nat.eq_zero_or_pos x with rfl | p
      · exfalso
        have o : FK (CB n) = CB n := by rw [TA f, CK]
        rw [e, RI] at o
        have k := IS l
        rw [o] at k
        simp at k
        omega
      · exact p
    · rw [e, Wd_append] at f
      exact f.2 x AG
def IR (x y : Int) : Int := if x < y then -1 else if x = y then 0 else 1
theorem gU {a b : List Nat} (hl : a.length = b.length) (ha : Wd a) (i : Nat) (hi : i < a.length) (he : ∀ j, i < j → j < a.length → gd a j = gd b j) (hx : gd a i < gd b i) : val a < val b := by
  have e : a.drop (i + 1) = b.drop (i + 1) := by
    apply oX
    · simp [hl]
    · intro j k
      rw [aZ, aZ]
      exact he _ Z (by simp at k; omega)
  have f := KU a (i + 1)
  have h := KU b (i + 1)
  rw [Nat.min_eq_left Z] at f h
  rw [e] at f
  rw [DG] at f h
  have o := GA (NW ha i)
  rw [List.length_take, Nat.min_eq_left Z] at o
  have l : 4294967296 ^ i * (gd a i + 1) ≤ 4294967296 ^ i * gd b i := Nat.mul_le_mul_left _ hx
  rw [Nat.mul_add] at l
  omega
theorem KQ {m n : Nat} (h : (CB m).length < (CB n).length) : m < n := by
  rcases Nat.lt_or_ge m n with e | e
  · exact e
  · have := FO e; omega
end Go.Proofs.YtmppigbbkjepiaaGreatDoor.W
namespace Go.Proofs.YtmppigbbkjepiaaGreatDoor
open Go.Proofs.Tryz
open Go.RowKit W
def Sl (w : World) (v : Value) (l : List Nat) : Prop :=
  ∃ (ao : Option Addr) (cap : Nat), v = .slice ao l.length cap ∧ l.length ≤ cap ∧ cap ≤ maxLen ∧ Wd l ∧ (ao = none → cap = 0) ∧
    ∀ i, i < l.length → ∃ b off, ao = some ⟨b, off, none⟩ ∧ w.cell? ⟨b, off + i, none⟩ = some (.int .u32 ↑(gd l i))
theorem jT {w : World} {a : Addr} {v : Value} (h : w.cell? a = some v) : a.block < w.heap.size := World.block_lt_of_cell? w a h
theorem Sl.wd {w : World} {v : Value} {l : List Nat} (h : Sl w v l) : Wd l := by obtain ⟨_, _, _, _, _, h, _, _⟩ := h; exact h
theorem Sl.below {w w' : World} {v : Value} {l : List Nat} (h : Sl w v l) (hb : Below w.heap.size w w') : Sl w' v l := by
  obtain ⟨B, f, rfl, z, y, u, o, t⟩ := h
  refine ⟨B, f, O, z, y, u, o, fun i p => ?_⟩
  obtain ⟨b, e, q, k⟩ := t i p
  exact ⟨b, e, q, (hb.cell (jT k)).trans k⟩
theorem ZL (w : World) : Sl w (.slice none 0 0) [] := ⟨none, 0, rfl, Nat.le_refl _, by unfold maxLen; omega, WT, fun _ => rfl, fun i hi => absurd hi AG⟩
def wU (w0 : World) (l : List Nat) (e : Ending) (w' : World) : Prop := ∃ v, e = .returned v ∧ Sl w' v l ∧ Below w0.heap.size w0 w'
theorem oU : (prog.info? 186).map (fun i => (i.zero, i.size, i.bytes)) = some (some (.int .u32 0), 1, 4) := by kernel_rfl
def Own (w : World) (base g n : Nat) (l : List Nat) : Prop :=
  w.ownsRow base 186 1 (.slice (some ⟨g, 0, none⟩) n n) n (l.map fun x => Value.int .u32 ((x : Nat) : Int))
theorem Own.len {w : World} {base g n : Nat} {l : List Nat} (h : Own w base g n l) : l.length = n := by
  have := h.1; simpa using this
theorem Own.cell {w : World} {base g n : Nat} {l : List Nat} (h : Own w base g n l) (i : Nat) (hi : i < n) : w.cell? ⟨g, i, none⟩ = some (.int .u32 ↑(gd l i)) := by
  have f := h.cellAt i Z
  have e := h.len
  rw [f, QR l i Z]
  simp [e, hi]
theorem Own.free {w : World} {base g n : Nat} {l : List Nat} (h : Own w base g n l) (i : Nat) : w.frozen? ⟨g, i, none⟩ = false := h.frozenAt i
theorem Own.lt {w : World} {base g n : Nat} {l : List Nat} (h : Own w base g n l) : base ≤ g ∧ g < w.heap.size := World.ownsRow.lt h g rfl
theorem Own.set {w : World} {base g n : Nat} {l : List Nat} (h : Own w base g n l) (i : Nat) (X : Int) (x : Nat) (hx : X = (x : Int)) :
    Own (w.setCell ⟨g, i, none⟩ (.int .u32 X)) base g n (l.set i x) := by
  subst hx
  have := (h.stored i (.int .u32 (x : Int))).1
  unfold Own
  rw [List.map_set]
  exact this
theorem Own.sl {w : World} {base g n : Nat} {l : List Nat} (h : Own w base g n l) (hw : Wd l) : Sl w (.slice (some ⟨g, 0, none⟩) n n) l := by
  have k := h.len
  subst k
  refine ⟨some ⟨g, 0, none⟩, l.length, O, Nat.le_refl _, ?_, hw, (fun h => by cases h), fun i o => ⟨g, 0, O, ?_⟩⟩
  · rcases h.2 with ⟨e, _⟩ | ⟨t, f, q, e, _, _, _, p, _⟩
    · simp at e
    · simp only [Value.slice.injEq] at e; omega
  · rw [Nat.zero_add]; exact h.cell i o
theorem Gz {w1 : World} {base g n : Nat} (h : w1.ownsRow base 186 1 (.slice (some ⟨g, 0, none⟩) n n) n (madeCells (Value.cells (.int .u32 0)) (n * 1)).toList) :
    Own w1 base g n (List.replicate n 0) := by
  unfold Own
  have e : (List.replicate n 0).map (fun x => Value.int .u32 ((x : Nat) : Int)) = (madeCells (Value.cells (.int .u32 0)) (n * 1)).toList := by
    rw [Nat.mul_one, List.map_replicate]
    exact (toList_madeCells_one _ n).symm
  rw [e]; exact h
theorem Own.drewN {w : World} {base g n : Nat} {l : List Nat} (h : Own w base g n l) (q : Nat) : Own (w.drewN q) base g n l := h
theorem IB {B : Nat} {w w' : World} (h : Below B w w') (q : Nat) : Below B w (w'.drewN q) := h.trans ⟨rfl, rfl, rfl, Nat.le_refl _, fun _ _ => rfl⟩
theorem MX {B : Nat} {w w' : World} (h : Below B w.drew w') : Below B w w' := ⟨h.os, h.tape, h.output, h.size, h.block⟩
theorem JA {B q : Nat} {w w' : World} (h : Below B (w.drewN q) w') : Below B w w' := ⟨h.os, h.tape, h.output, h.size, h.block⟩
theorem Sl.drewN {w : World} {v : Value} {l : List Nat} (h : Sl w v l) (q : Nat) : Sl (w.drewN q) v l := h
theorem EQ (w : World) {ops : Array Oper} {rest : List Oper} {o : Oper} {a : Act} {Q : Exit → Act → World → Prop}
    (hg : o.guard = none) (l c : Operand) (hop : o.op = Op.makeSlice 60 l c) (L C : Int) (n : Nat)
    (hl : a.eval l = .int .i64 L) (hc : a.eval c = .int .i64 C) (hL : L = (n : Int)) (hC : C = (n : Int)) (b : n ≤ 70000000000000)
    (hK : ∀ w1, Own w1 w.heap.size w.heap.size n (List.replicate n 0) → Below w.heap.size w w1 → w.heap.size < w1.heap.size →
      wpList prog ops Q rest (a.put o.dst (.slice (some ⟨w.heap.size, 0, none⟩) n n)) w1) :
    wpList prog ops Q (o :: rest) a w := by
  obtain ⟨q, u, h, f, e⟩ := info_parts oU
  refine wpList_make_full w hg l c 60 hop w.heap.size 186 q (.int .u32 0) 1 underlying60 u h f _ _ L C n hl hc hL hC (by rw [e]; omega) (by unfold maxLen; omega) (Nat.le_refl _) ?_
  intro w1 y v
  have p := Gz y
  exact hK w1 p ((Below.refl _ _).grown v (Nat.le_refl _) (fun k t => by cases t)) p.lt.2
theorem CV {w w' : World} {b o : Nat} {v : Value} (h : w.cell? ⟨b, o, none⟩ = some v) (hb : Below w.heap.size w w') : w'.cell? ⟨b, o, none⟩ = some v :=
  (hb.cell (jT h)).trans h
def OwnA (w : World) (base : Nat) (v : Value) (l : List Nat) : Prop :=
  w.ownsRow base 186 1 v l.length (l.map fun x => Value.int .u32 ((x : Nat) : Int))
theorem Jp (w : World) (base : Nat) : OwnA w base (.slice none 0 0) [] := World.ownsRow_nil w base 186 1
theorem OwnA.sl {w : World} {base : Nat} {v : Value} {l : List Nat} (h : OwnA w base v l) (hw : Wd l) : Sl w v l := by
  rcases h.2 with ⟨rfl, p⟩ | ⟨g, t, q, rfl, B, z, f, k, y, u⟩
  · obtain rfl : l = [] := List.eq_nil_of_length_eq_zero p
    exact ZL w
  · refine ⟨_, _, rfl, f, k, hw, (fun h => by cases h), fun i e => ⟨g, 0, rfl, ?_⟩⟩
    have o := World.ownsRow.cellAt h i Z
    rw [Nat.zero_add, o, QR l i e]
    simp [e]
theorem dY {ops : Array Oper} {rest : List Oper} {o : Oper} {a : Act} {Q : Exit → Act → World → Prop} (w : World) (hgd : o.guard = none) (s x : Operand)
    (ho : o.op = .call { callee := .builtin .append, args := #[s, x], argTypes := #[60, 60] })
    (base : Nat) (v u : Value) (l m : List Nat) (hs : a.eval s = v) (hx : a.eval x = u) (hown : OwnA w base v l) (hu : Sl w u m) (hlen : l.length + m.length ≤ 30000000000000) (hbase : base ≤ w.heap.size)
    (h : ∀ v' w', OwnA w' base v' (l ++ m) → Below base w w' → wpList prog ops Q rest (a.put o.dst v') w') : wpList prog ops Q (o :: rest) a w := by
  obtain ⟨C, D, q, p, f⟩ := info_parts oU
  obtain ⟨S, B, rfl, X, U, T, H, R⟩ := hu
  cases S with
  | none =>
    obtain rfl := H rfl
    obtain rfl : m = [] := List.eq_nil_of_length_eq_zero Z
    refine wpList_append_own_none hgd s x 60 ho base 186 C 1 underlying60 D v _ _ hs hown hx ?_
    exact h v w (by rwa [List.append_nil]) (Below.refl _ _)
  | some ad =>
    refine wpList_append_own w hgd s x 60 ho base 186 C (.int .u32 0) 1 4 underlying60 D q p f O Z v l.length _ hs hown ad m.length B (m.map fun x => Value.int .u32 ((x : Nat) : Int)) hx AG ?_ ?_ (by unfold maxLen; omega) Z hbase ?_
    · intro j y z
      have e : j < m.length := by
        have := (List.getElem?_eq_some_iff.1 z).1
        simpa using this
      obtain ⟨b, F, N, P⟩ := R j e
      cases N
      rw [Addr.add_lit, P, QR m j e]
      simp [e] at z
      rw [← z]
    · intro y G
      obtain ⟨_, _, rfl⟩ := List.mem_map.1 G
      rfl
    · intro v' w' t L _
      refine h v' w' ?_ ((Below.refl _ _).grown L hbase (fun k J => (World.ownsRow.lt hown k J).1))
      unfold OwnA
      rw [List.length_append, List.map_append]
      exact t
end Go.Proofs.YtmppigbbkjepiaaGreatDoor
namespace Go.Proofs.YtmppigbbkjepiaaGreatDoor
open Go.Proofs.Tryz
open Go.RowKit W
theorem lK (l : List Nat) (k : Nat) (hk : k < l.length) (h : gd l k = 0) : FK (l.take (k + 1)) = FK (l.take k) := by
  rw [List.take_succ_eq_append_getElem hk]
  have : l[k] = 0 := by rw [← QR l k hk]; exact h
  rw [this, RI]
theorem lJ (l : List Nat) (k : Nat) (hk : k < l.length) (h : gd l k ≠ 0) : (FK (l.take (k + 1))).length = k + 1 := by
  rw [List.take_succ_eq_append_getElem hk]
  have : l[k] ≠ 0 := by rw [← QR l k hk]; exact h
  rw [uE _ _ this]; simp; omega
theorem Ep (ao : Option Addr) (cap : Nat) (l : List Nat) (w : World) (hlc : l.length ≤ cap) (hcm : cap ≤ maxLen)
    (hc : ∀ i, i < l.length → ∃ b off, ao = some ⟨b, off, none⟩ ∧ w.cell? ⟨b, off + i, none⟩ = some (.int .u32 ↑(gd l i))) :
    Calls prog 161 #[.slice ao l.length cap] w fun e w' => e = .returned (.slice ao (FK l).length cap) ∧ w = w' := by
  have HC := Lib.hid hc
  clear hc
  unfold maxLen at hcm
  go_enter func161, ntmps161
  go_wp2
  go_loop [3] (fun n => ∃ k : Nat, k ≤ l.length ∧ Hid (FK (l.take k) = FK l) ∧ n = .int .i64 k) (fun n => (intOf n).toNat)
  case atStart => exact ⟨l.length, Nat.le_refl _, by rw [List.take_length]; rfl, rfl⟩
  case round =>
    obtain ⟨k, hk, ht, rfl⟩ := hrel
    by_cases hk0 : k = 0
    · subst hk0
      go_wp2
      go_ret
      have : FK l = [] := by rw [← ht.out]; rfl
      exact ⟨by rw [this]; rfl, rfl⟩
    · obtain ⟨j, rfl⟩ : ∃ j, k = j + 1 := ⟨k - 1, by omega⟩
      clear hk0
      obtain ⟨b, off, rfl, hc⟩ := HC.out j Z
      by_cases hz : gd l j = 0
      · rw [hz] at hc
        have HT : Hid (FK (l.take j) = FK l) := by rw [← ht.out, lK l j Z hz]; rfl
        clear hz ht
        go_wp2
        go_round
        case rel => exact ⟨j, by omega, HT, by go_num⟩
        case measure => simp [intOf]
      · have HT : (FK l).length = j + 1 := by rw [← ht.out]; exact lJ l j Z hz
        have hz' : (((gd l j : Nat) : Int) == 0) = false := by simpa using hz
        go_wp2
        go_ret
        exact ⟨rfl, rfl⟩
theorem MC (v : Value) (l : List Nat) (w : World) (h : Sl w v l) :
    Calls prog 161 #[v] w fun e w' => w = w' ∧ ∃ v', e = .returned v' ∧ ∀ w2, Sl w2 v l → Sl w2 v' (CB (val l)) := by
  obtain ⟨u, k, rfl, H, q, p, z, G⟩ := h
  refine (Ep u k l w H q G).mono fun e w' ⟨he, hw⟩ => ⟨hw, _, he, ?_⟩
  rintro w2 ⟨L, t, J, Q, P, N, kn, y⟩
  cases J
  rw [← TA p]
  have B := IS l
  have f := hH l
  refine ⟨u, k, O, by omega, q, by rw [f]; exact NW p _, z, fun i C => ?_⟩
  obtain ⟨b, o, F, D⟩ := y i Z
  refine ⟨b, o, F, ?_⟩
  rw [f, aY _ _ _ C]; exact D
end Go.Proofs.YtmppigbbkjepiaaGreatDoor
