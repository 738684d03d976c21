/- Helping facts of Words; no other conditions. Helping facts of Mem; no other conditions. Helping facts of Prod; no other conditions. -/
import Derived.KernelRfl
import Derived.WalkKit
import Derived.Lib.Hide
import Derived.Laws.AppendOwnNone
import Derived.Deep.Draws
import Derived.Test.YtmppigbbkjepiaaGreatDoorProg
import Derived.BigQuiet
import Derived.Deep.QuietTactic
theorem Go.Proofs.YtmppigbbkjepiaaGreatDoor.O {α : Sort _} {a : α} : a = a := rfl
namespace Go.Proofs.YtmppigbbkjepiaaGreatDoor
variable {P : Program} {Q : Exit -> Act -> World -> Prop} {a : Act} {c : Operand} {id : Nat} {p : Prop} {w : World} {x y : Code}
theorem Z (h : p := by kernel_rfl) : p := h
theorem AA (h : p := by omega) : p := h
theorem AB (h : p := by rw [decide_eq_false_iff_not]; omega) : p := h
theorem AD (h : p := by rw [decide_eq_true_eq]; omega) : p := h
theorem AE (h : p := by decide) : p := h
theorem AF (h : p := by intro d v c a w h; cases d <;> exact h) : p := h
theorem AG (h : p := by rw [beq_eq_false_iff_ne]; omega) : p := h
theorem AH (h : p := by simp) : p := h
theorem AI (h : p := by rw [beq_iff_eq]; omega) : p := h
theorem AJ (h : p := by (try simp only [List.length_append, List.length_cons, List.length_nil]); omega) : p := h
theorem AK (h : p := by decide +kernel) : p := h
theorem AN (h : x.wp P (Exit.then (y.wp P Q) Q) a w) : (Code.seq x y).wp P Q a w := wp_seq h
theorem AO (hc : a.eval c = .bool true) (h : x.wp P Q a w) : (Code.cond c x y).wp P Q a w := wp_cond_true hc h
theorem AP (hc : a.eval c = .bool false) (h : y.wp P Q a w) : (Code.cond c x y).wp P Q a w := wp_cond_false hc h
theorem AQ {fn : Func} {R : Ending -> World -> Prop} {v : Value} (hr : (results fn a.tmps).run P w = .ok v w) (hd : a.defers = []) (hR : R (.returned v) w) : bodyPost P fn R .ret a w := bodyPost_ret hr hd hR
theorem AR {l : List Oper} (h : wpList P l.toArray Q l a w) : (Code.region id l.toArray false).wp P Q a w := wp_region_lit h
theorem AS {ops : Array Oper} (h : Q .normal a w) : wpList P ops Q [] a w := wpList_nil h
theorem AT {c : Code} (h : c.wp P (Exit.inBlock id Q) a w) : (Code.block id c).wp P Q a w := wp_block h
theorem AU (h : Q .normal a w) : Code.skip.wp P Q a w := wp_skip h
theorem AW (h : Q .ret a w) : Code.ret.wp P Q a w := wp_ret h
theorem AX (h : Q (.exit id) a w) : (Code.exit id).wp P Q a w := wp_exit h
theorem AZ {α β γ δ : Sort _} {a : α} {b : β} {c : γ} {d : δ} : a = a /\ b = b /\ c = c /\ d = d := ⟨rfl, rfl, rfl, rfl⟩
theorem AY {α β γ δ ε : Sort _} {a : α} {b : β} {c : γ} {d : δ} {e : ε} : a = a /\ b = b /\ c = c /\ d = d /\ e = e := ⟨rfl, rfl, rfl, rfl, rfl⟩
theorem BA {α β γ δ ε ζ η θ : Sort _} {a : α} {b : β} {c : γ} {d : δ} {e : ε} {f : ζ} {g : η} {h : θ} : a = a /\ b = b /\ c = c /\ d = d /\ e = e /\ f = f /\ g = g /\ h = h := ⟨rfl, rfl, rfl, rfl, rfl, rfl, rfl, rfl⟩
theorem BG {α β γ : Sort _} {a : α} {b : β} {c : γ} : a = a /\ b = b /\ c = c := ⟨rfl, rfl, rfl⟩
theorem BH {α β γ δ ε ζ η : Sort _} {a : α} {b : β} {c : γ} {d : δ} {e : ε} {f : ζ} {g : η} : a = a /\ b = b /\ c = c /\ d = d /\ e = e /\ f = f /\ g = g := ⟨rfl, rfl, rfl, rfl, rfl, rfl, rfl⟩
theorem BT {α β : Sort _} {a : α} {b : β} : a = a /\ b = b := ⟨rfl, rfl⟩
theorem BX : True := True.intro
end Go.Proofs.YtmppigbbkjepiaaGreatDoor
namespace Go.Proofs.YtmppigbbkjepiaaGreatDoor.W
def val : List Nat -> Nat
 | [] => 0
 | x :: l => x + 4294967296 * val l
def Wd (l : List Nat) : Prop := ∀ x ∈ l, x < 4294967296
def CC (n : Nat) : List Nat := if n = 0 then [] else (n % 4294967296) :: CC (n / 4294967296)
termination_by n
decreasing_by omega
def GC : List Nat -> List Nat
 | [] => []
 | x :: l => if GC l = [] /\ x = 0 then [] else x :: GC l
theorem DX : CC 0 = [] := by rw [CC]; simp
theorem TO (n : Nat) (h : 0 < n) : CC n = (n % 4294967296) :: CC (n / 4294967296) := by
 rw [CC, if_neg AA]
theorem cQ : val [] = 0 := rfl
theorem JQ (x : Nat) (l : List Nat) : val (x :: l) = x + 4294967296 * val l := rfl
theorem WT : Wd [] := by intro x hx; cases hx
theorem Wd_cons {x : Nat} {l : List Nat} : Wd (x :: l) ↔ x < 4294967296 /\ Wd l := by simp [Wd]
theorem Wd_append {a b : List Nat} : Wd (a ++ b) ↔ Wd a /\ Wd b := by
 simp only [Wd, List.mem_append]
 exact ⟨fun h => ⟨fun x e => h x (.inl e), fun x e => h x (.inr e)⟩, fun h x e => e.elim (h.1 x) (h.2 x)⟩
theorem PQ {l : List Nat} (h : Wd l) (n : Nat) : Wd (l.take n) := fun x hx => h x (List.mem_of_mem_take hx)
theorem Wj {l : List Nat} (h : Wd l) (n : Nat) : Wd (l.drop n) := fun x hx => h x (List.mem_of_mem_drop hx)
theorem B8 {l : List Nat} (h : Wd l) (i : Nat) : l.getD i 0 < 4294967296 := by
 by_cases e : i < l.length
 . rw [List.getD_eq_getElem?_getD, List.getElem?_eq_getElem e]; exact h _ (List.getElem_mem e)
 rw [List.getD_eq_getElem?_getD, List.getElem?_eq_none AA]; simp
theorem ND (n : Nat) : Wd (List.replicate n 0) := by
 intro x e; rw [(List.mem_replicate.1 e).2]; omega
theorem bC (a b : List Nat) : val (a ++ b) = val a + 4294967296 ^ a.length * val b := by
 induction a with
 | nil => simp [val]
 | cons x a ih => simp only [List.cons_append, JQ, ih, List.length_cons, Nat.pow_succ]; grind
theorem LK (n : Nat) : val (List.replicate n 0) = 0 := by
 induction n with
 | zero => rfl
 | succ n ih => rw [List.replicate_succ, JQ, ih]
theorem GT {l : List Nat} (h : Wd l) : val l < 4294967296 ^ l.length := by
 induction l with
 | nil => simp [val]
 | cons x l ih =>
   have e := (Wd_cons.1 h).1
   have := ih (Wd_cons.1 h).2
   rw [JQ, List.length_cons, Nat.pow_succ]
   omega
theorem XU (l : List Nat) (x : Nat) : val (l ++ [x]) = val l + 4294967296 ^ l.length * x := by
 rw [bC]; simp [val]
theorem pA (l : List Nat) (i : Nat) (h : i < l.length) : val (l.take (i + 1)) = val (l.take i) + 4294967296 ^ i * l.getD i 0 := by
 rw [List.take_succ_eq_append_getElem h, XU, List.length_take, Nat.min_eq_left (Nat.le_of_lt h)]
 rw [List.getD_eq_getElem?_getD, List.getElem?_eq_getElem h]; rfl
theorem DQ (l : List Nat) (i : Nat) (h : l.length <= i) : val (l.take i) = val l := by rw [List.take_of_length_le h]
theorem MA (l : List Nat) (i : Nat) : val (l.take i) + 4294967296 ^ (min i l.length) * val (l.drop i) = val l := by
 have := bC (l.take i) (l.drop i)
 rw [List.take_append_drop, List.length_take] at this
 exact this.symm
def gd (l : List Nat) (i : Nat) : Nat := l.getD i 0
theorem FD {l : List Nat} (h : Wd l) (i : Nat) : gd l i < 4294967296 := B8 h i
theorem TK (l : List Nat) (i : Nat) (h : i < l.length) : gd l i = l[i] := by
 unfold gd; rw [List.getD_eq_getElem?_getD, List.getElem?_eq_getElem h]; rfl
theorem Pk (l : List Nat) (i : Nat) (h : l.length <= i) : gd l i = 0 := by
 unfold gd; rw [List.getD_eq_getElem?_getD, List.getElem?_eq_none h]; rfl
theorem LF (a b : List Nat) (i : Nat) (h : a.length <= i) : gd (a ++ b) i = gd b (i - a.length) := by
 unfold gd; rw [List.getD_eq_getElem?_getD, List.getElem?_append_right h, List.getD_eq_getElem?_getD]
theorem jI (l : List Nat) (i x : Nat) (h : i < l.length) : gd (l.set i x) i = x := by
 rw [TK _ _ (by simpa using h)]; simp
theorem FZ (l : List Nat) (i j x : Nat) (h : i ≠ j) : gd (l.set i x) j = gd l j := by
 unfold gd; simp [h]
theorem PA (n i : Nat) : gd (List.replicate n 0) i = 0 := by
 unfold gd; by_cases h : i < n <;> simp [h]
theorem eR (l : List Nat) (n i : Nat) (h : i < n) : gd (l.take n) i = gd l i := by
 unfold gd; rw [List.getD_eq_getElem?_getD, List.getElem?_take, if_pos h, List.getD_eq_getElem?_getD]
theorem eS (l : List Nat) (n i : Nat) : gd (l.drop n) i = gd l (n + i) := by
 unfold gd; rw [List.getD_eq_getElem?_getD, List.getElem?_drop, List.getD_eq_getElem?_getD]
theorem DJ (l : List Nat) (i : Nat) : val (l.take (i + 1)) = val (l.take i) + 4294967296 ^ i * gd l i := by
 by_cases h : i < l.length
 . rw [pA l i h]; rfl
 rw [DQ l (i + 1) AA, DQ l i AA, Pk l i AA]; simp
theorem tY {a b : List Nat} (hl : a.length = b.length) (h : ∀ i, i < a.length -> gd a i = gd b i) : a = b := by
 apply List.ext_getElem hl
 intro i e f
 rw [<- TK a i e, <- TK b i f]; exact h i e
theorem TQ {l : List Nat} (h : Wd l) (i x : Nat) (hx : x < 4294967296) : Wd (l.set i x) := by
 intro y f
 rcases List.mem_or_eq_of_mem_set f with e | e
 . exact h y e
 rw [e]; exact hx
theorem mD (done : List Nat) (m x : Nat) (h : 0 < m) : (done ++ List.replicate m 0).set done.length x = (done ++ [x]) ++ List.replicate (m - 1) 0 := by
 obtain ⟨k, rfl⟩ : ∃ k, m = k + 1 := ⟨m - 1, by omega⟩
 rw [List.set_append_right _ _ AA, Nat.sub_self, List.replicate_succ, List.set_cons_zero]
 simp
theorem ZR (l : List Nat) (i x : Nat) (h : i < l.length) : val (l.set i x) + 4294967296 ^ i * gd l i = val l + 4294967296 ^ i * x := by
 induction l generalizing i with
 | nil => simp at h
 | cons y l ih =>
   cases i with
   | zero => simp only [List.set_cons_zero, JQ, gd]; simp; omega
   | succ i =>
     have f : i < l.length := by simpa using h
     have e : gd (y :: l) (i + 1) = gd l i := by unfold gd; simp
     have := ih i f
     rw [List.set_cons_succ, JQ, JQ, e, Nat.pow_succ]
     have e1 : 4294967296 ^ i * 4294967296 * gd l i = 4294967296 * (4294967296 ^ i * gd l i) := by grind
     have e2 : 4294967296 ^ i * 4294967296 * x = 4294967296 * (4294967296 ^ i * x) := by grind
     omega
theorem GB (n : Nat) : Wd (CC n) := by
 induction n using Nat.strongRecOn with
 | ind n ih =>
   by_cases h : n = 0
   . subst h; rw [DX]; exact WT
   rw [TO n AA, Wd_cons]
   exact ⟨Nat.mod_lt _ AA, ih _ AA⟩
theorem CO (n : Nat) : val (CC n) = n := by
 induction n using Nat.strongRecOn with
 | ind n ih =>
   by_cases h : n = 0
   . subst h; rw [DX]; rfl
   rw [TO n AA, JQ, ih _ AA]
   omega
theorem yA {m n : Nat} (h : CC m = CC n) : m = n := by
 have := congrArg val h
 rwa [CO, CO] at this
theorem FR (n : Nat) : CC n = [] ↔ n = 0 := by
 constructor
 . intro h
   have := congrArg val h
   rwa [CO] at this
 intro h; rw [h, DX]
theorem aR {l : List Nat} (h : Wd l) : GC l = [] ↔ val l = 0 := by
 induction l with
 | nil => simp [GC, val]
 | cons x l k =>
   have k := k (Wd_cons.1 h).2
   rw [GC, JQ]
   by_cases f : GC l = []
   . have o := k.1 f
     by_cases p : x = 0
     . simp [f, p, o]
     simp [f, p]
   have o : ¬ val l = 0 := fun e => f (k.2 e)
   simp [f]; omega
theorem UZ {l : List Nat} (h : Wd l) : GC l = CC (val l) := by
 induction l with
 | nil => rw [cQ, DX]; rfl
 | cons x l k =>
   have u := (Wd_cons.1 h).1
   have p := (Wd_cons.1 h).2
   have k := k p
   rw [GC]
   by_cases f : GC l = [] /\ x = 0
   . have t := (aR p).1 f.1
     rw [if_pos f, JQ, t, f.2, DX]
   rw [if_neg f]
   have q : 0 < val (x :: l) := by
    rw [JQ]
    by_cases o : x = 0
    . have : GC l ≠ [] := fun e => f ⟨e, o⟩
      have : val l ≠ 0 := fun e => this ((aR p).2 e)
      omega
    omega
   rw [TO _ q, JQ, k, show (x + 4294967296 * val l) % 4294967296 = x from by omega, show (x + 4294967296 * val l) / 4294967296 = val l from by omega]
theorem TW (l : List Nat) : GC (l ++ [0]) = GC l := by
 induction l with
 | nil => simp [GC]
 | cons x l ih => rw [List.cons_append, GC, GC, ih]
theorem Ae (l : List Nat) (x : Nat) (hx : x ≠ 0) : GC (l ++ [x]) = l ++ [x] := by
 induction l with
 | nil => simp [GC, hx]
 | cons y l ih => rw [List.cons_append, GC, ih, if_neg AH]
theorem JN (l : List Nat) : (GC l).length <= l.length := by
 induction l with
 | nil => simp [GC]
 | cons x l ih => rw [GC]; split <;> simp <;> omega
theorem lW (l : List Nat) : GC l = l.take (GC l).length := by
 induction l with
 | nil => rfl
 | cons x l ih => rw [GC]; split; · simp
                  . rw [List.length_cons, List.take_succ_cons, <- ih]
theorem JB {n k : Nat} (h : n < 4294967296 ^ k) : (CC n).length <= k := by
 induction k generalizing n with
 | zero => rw [Nat.pow_zero] at h; obtain rfl : n = 0 := by omega
           rw [DX]; simp
 | succ k ih =>
   by_cases e : n = 0
   . subst e; rw [DX]; simp
   rw [TO n AA, List.length_cons]
   have := ih (n := n / 4294967296) (by rw [Nat.pow_succ] at h; exact Nat.div_lt_of_lt_mul (by rw [Nat.mul_comm]; exact h))
   omega
theorem XQ {n k : Nat} (h : k < (CC n).length) : 4294967296 ^ k <= n := by
 rcases Nat.lt_or_ge n (4294967296 ^ k) with e | e
 . have := JB e; omega
 exact e
theorem FS {m n : Nat} (h : m <= n) : (CC m).length <= (CC n).length := by
 have e := GT (GB n)
 rw [CO] at e
 exact JB AA
theorem VJ (n : Nat) (h : 0 < n) : ∃ l x, CC n = l ++ [x] /\ 0 < x /\ x < 4294967296 := by
 have f := GB n
 rcases (CC n).eq_nil_or_concat with q | ⟨l, x, e⟩
 . exact absurd ((FR n).1 q) AA
 rw [List.concat_eq_append] at e
 refine ⟨l, x, e, ?_, ?_⟩
 . rcases Nat.eq_zero_or_pos x with rfl | p
   . exfalso
     have o : GC (CC n) = CC n := by rw [UZ f, CO]
     rw [e, TW] at o
     have k := JN l
     rw [o] at k
     simp at k
     omega
   exact p
 rw [e, Wd_append] at f
 exact f.2 x AH
def JC (x y : Int) : Int := if x < y then -1 else if x = y then 0 else 1
theorem lQ {a b : List Nat} (hl : a.length = b.length) (ha : Wd a) (i : Nat) (hi : i < a.length) (he : ∀ j, i < j -> j < a.length -> gd a j = gd b j) (hx : gd a i < gd b i) : val a < val b := by
 have e : a.drop (i + 1) = b.drop (i + 1) := by
  apply tY
  . simp [hl]
  intro j k
  rw [eS, eS]
  exact he _ AA (by simp at k; omega)
 have f := MA a (i + 1)
 have h := MA b (i + 1)
 rw [Nat.min_eq_left AA] at f h
 rw [e] at f
 rw [DJ] at f h
 have o := GT (PQ ha i)
 rw [List.length_take, Nat.min_eq_left AA] at o
 have l : 4294967296 ^ i * (gd a i + 1) <= 4294967296 ^ i * gd b i := Nat.mul_le_mul_left _ hx
 rw [Nat.mul_add] at l
 omega
theorem LY {m n : Nat} (h : (CC m).length < (CC n).length) : m < n := by
 rcases Nat.lt_or_ge m n with e | e
 . exact e
 have := FS e; omega
end Go.Proofs.YtmppigbbkjepiaaGreatDoor.W
namespace Go.Proofs.YtmppigbbkjepiaaGreatDoor
open Go.Proofs.Tryz
open Go.RowKit W
variable {B b base c d g k n : Nat} {Q : Exit -> Act -> World -> Prop} {a : Act} {l la lb r : List Nat} {o : Oper} {ops : Array Oper} {rest : List Oper} {v : Value} {w w' : World}
def Sl (w : World) (v : Value) (l : List Nat) : Prop :=
 ∃ (ao : Option Addr) (cap : Nat), v = .slice ao l.length cap /\ l.length <= cap /\ cap <= maxLen /\ Wd l /\ (ao = none -> cap = 0) /\
  ∀ i, i < l.length -> ∃ b off, ao = some ⟨b, off, none⟩ /\ w.cell? ⟨b, off + i, none⟩ = some (.int .u32 ↑(gd l i))
theorem fP {a : Addr} (h : w.cell? a = some v) : a.block < w.heap.size := World.block_lt_of_cell? w a h
theorem Sl.wd (h : Sl w v l) : Wd l := by obtain ⟨_, _, _, _, _, h, _, _⟩ := h; exact h
theorem Sl.below (h : Sl w v l) (hb : Below w.heap.size w w') : Sl w' v l := by
 obtain ⟨B, f, rfl, z, y, u, o, t⟩ := h
 refine ⟨B, f, O, z, y, u, o, fun i p => ?_⟩
 obtain ⟨b, e, q, k⟩ := t i p
 exact ⟨b, e, q, (hb.cell (fP k)).trans k⟩
theorem cF (w : World) : Sl w (.slice none 0 0) [] := ⟨none, 0, rfl, Nat.le_refl _, by unfold maxLen; omega, WT, fun _ => rfl, fun i hi => absurd hi AH⟩
def Db (w0 : World) (l : List Nat) (e : Ending) (w' : World) : Prop := ∃ v, e = .returned v /\ Sl w' v l /\ Below w0.heap.size w0 w'
theorem tT : (prog.info? 186).map (fun i => (i.zero, i.size, i.bytes)) = some (some (.int .u32 0), 1, 4) := by kernel_rfl
def Own (w : World) (base g n : Nat) (l : List Nat) : Prop :=
 w.ownsRow base 186 1 (.slice (some ⟨g, 0, none⟩) n n) n (l.map fun x => Value.int .u32 ((x : Nat) : Int))
theorem Own.len (h : Own w base g n l) : l.length = n := by
 have := h.1; simpa using this
theorem Own.cell (h : Own w base g n l) (i : Nat) (hi : i < n) : w.cell? ⟨g, i, none⟩ = some (.int .u32 ↑(gd l i)) := by
 have f := h.cellAt i AA
 have e := h.len
 rw [f, TK l i AA]
 simp [e, hi]
theorem Own.free (h : Own w base g n l) (i : Nat) : w.frozen? ⟨g, i, none⟩ = false := h.frozenAt i
theorem Own.lt (h : Own w base g n l) : base <= g /\ g < w.heap.size := World.ownsRow.lt h g rfl
theorem Own.set (h : Own w base g n l) (i : Nat) (X : Int) (x : Nat) (hx : X = (x : Int)) :
 Own (w.setCell ⟨g, i, none⟩ (.int .u32 X)) base g n (l.set i x) := by
 subst hx
 have := (h.stored i (.int .u32 (x : Int))).1
 unfold Own
 rw [List.map_set]
 exact this
theorem Own.sl (h : Own w base g n l) (hw : Wd l) : Sl w (.slice (some ⟨g, 0, none⟩) n n) l := by
 have k := h.len
 subst k
 refine ⟨some ⟨g, 0, none⟩, l.length, O, Nat.le_refl _, ?_, hw, (fun h => by cases h), fun i o => ⟨g, 0, O, ?_⟩⟩
 . rcases h.2 with ⟨e, _⟩ | ⟨t, f, q, e, _, _, _, p, _⟩
   . simp at e
   simp only [Value.slice.injEq] at e; omega
 rw [Nat.zero_add]; exact h.cell i o
theorem Nq {w1 : World} (h : w1.ownsRow base 186 1 (.slice (some ⟨g, 0, none⟩) n n) n (madeCells (Value.cells (.int .u32 0)) (n * 1)).toList) :
 Own w1 base g n (List.replicate n 0) := by
 unfold Own
 have e : (List.replicate n 0).map (fun x => Value.int .u32 ((x : Nat) : Int)) = (madeCells (Value.cells (.int .u32 0)) (n * 1)).toList := by
  rw [Nat.mul_one, List.map_replicate]
  exact (toList_madeCells_one _ n).symm
 rw [e]; exact h
theorem Own.drewN (h : Own w base g n l) (q : Nat) : Own (w.drewN q) base g n l := h
theorem IV (h : Below B w w') (q : Nat) : Below B w (w'.drewN q) := h.trans ⟨rfl, rfl, rfl, Nat.le_refl _, fun _ _ => rfl⟩
theorem OF (h : Below B w.drew w') : Below B w w' := ⟨h.os, h.tape, h.output, h.size, h.block⟩
theorem JW {q : Nat} (h : Below B (w.drewN q) w') : Below B w w' := ⟨h.os, h.tape, h.output, h.size, h.block⟩
theorem Sl.drewN (h : Sl w v l) (q : Nat) : Sl (w.drewN q) v l := h
theorem FM (w : World)
 (hg : o.guard = none) (l c : Operand) (hop : o.op = Op.makeSlice 60 l c) (L C : Int) (n : Nat)
 (hl : a.eval l = .int .i64 L) (hc : a.eval c = .int .i64 C) (hL : L = (n : Int)) (hC : C = (n : Int)) (b : n <= 70000000000000)
 (hK : ∀ w1, Own w1 w.heap.size w.heap.size n (List.replicate n 0) -> Below w.heap.size w w1 -> w.heap.size < w1.heap.size ->
   wpList prog ops Q rest (a.put o.dst (.slice (some ⟨w.heap.size, 0, none⟩) n n)) w1) :
 wpList prog ops Q (o :: rest) a w := by
 obtain ⟨q, u, h, f, e⟩ := info_parts tT
 refine wpList_make_full w hg l c 60 hop w.heap.size 186 q (.int .u32 0) 1 underlying60 u h f _ _ L C n hl hc hL hC (by rw [e]; omega) (by unfold maxLen; omega) (Nat.le_refl _) ?_
 intro w1 y v
 have p := Nq y
 exact hK w1 p ((Below.refl _ _).grown v (Nat.le_refl _) (fun k t => by cases t)) p.lt.2
theorem DB {o : Nat} (h : w.cell? ⟨b, o, none⟩ = some v) (hb : Below w.heap.size w w') : w'.cell? ⟨b, o, none⟩ = some v :=
 (hb.cell (fP h)).trans h
def OwnA (w : World) (base : Nat) (v : Value) (l : List Nat) : Prop :=
 w.ownsRow base 186 1 v l.length (l.map fun x => Value.int .u32 ((x : Nat) : Int))
theorem Rk (w : World) (base : Nat) : OwnA w base (.slice none 0 0) [] := World.ownsRow_nil w base 186 1
theorem OwnA.sl (h : OwnA w base v l) (hw : Wd l) : Sl w v l := by
 rcases h.2 with ⟨rfl, p⟩ | ⟨g, t, q, rfl, z, hg, f, k, y, u⟩
 . obtain rfl : l = [] := List.eq_nil_of_length_eq_zero p
   exact cF w
 refine ⟨_, _, rfl, f, k, hw, (fun h => by cases h), fun i e => ⟨g, 0, rfl, ?_⟩⟩
 have o := World.ownsRow.cellAt h i AA
 rw [Nat.zero_add, o, TK l i e]
 simp [e]
theorem OwnA.drewN (h : OwnA w base v l) (q : Nat) : OwnA (w.drewN q) base v l := h
theorem OwnA.alloc (h : OwnA w base v l) (o : Obj) : OwnA (w.alloc o) base v l := World.ownsRow.alloc h o
theorem jL (w : World) (hgd : o.guard = none) (s x : Operand)
 (ho : o.op = .call { callee := .builtin .append, args := #[s, x], argTypes := #[60, 60] })
 (base : Nat) (v u : Value) (l m : List Nat) (hs : a.eval s = v) (hx : a.eval x = u) (hown : OwnA w base v l) (hu : Sl w u m) (hlen : l.length + m.length <= 30000000000000) (hbase : base <= w.heap.size)
 (h : ∀ v' w', OwnA w' base v' (l ++ m) -> Below base w w' -> wpList prog ops Q rest (a.put o.dst v') w') : wpList prog ops Q (o :: rest) a w := by
 obtain ⟨C, D, q, p, f⟩ := info_parts tT
 obtain ⟨P, B, rfl, T, S, R, H, N⟩ := hu
 cases P with
 | none =>
   obtain rfl := H rfl
   obtain rfl : m = [] := List.eq_nil_of_length_eq_zero AA
   refine wpList_append_own_none hgd s x 60 ho base 186 C 1 underlying60 D v _ _ hs hown hx ?_
   exact h v w (by rwa [List.append_nil]) (Below.refl _ _)
 | some ad =>
   refine wpList_append_own w hgd s x 60 ho base 186 C (.int .u32 0) 1 4 underlying60 D q p f O AA v l.length _ hs hown ad m.length B (m.map fun x => Value.int .u32 ((x : Nat) : Int)) hx AH ?_ ?_ (by unfold maxLen; omega) AA hbase ?_
   . intro j y z
     have e : j < m.length := by
      have := (List.getElem?_eq_some_iff.1 z).1
      simpa using this
     obtain ⟨b, F, J, L⟩ := N j e
     cases J
     rw [Addr.add_lit, L, TK m j e]
     simp [e] at z
     rw [<- z]
   . intro y G
     obtain ⟨_, _, rfl⟩ := List.mem_map.1 G
     rfl
   intro v' w' t hg _
   refine h v' w' ?_ ((Below.refl _ _).grown hg hbase (fun k I => (World.ownsRow.lt hown k I).1))
   unfold OwnA
   rw [List.length_append, List.map_append]
   exact t
theorem qB (l : List Nat) (k : Nat) (hk : k < l.length) (h : gd l k = 0) : GC (l.take (k + 1)) = GC (l.take k) := by
 rw [List.take_succ_eq_append_getElem hk]
 have : l[k] = 0 := by rw [<- TK l k hk]; exact h
 rw [this, TW]
theorem qA (l : List Nat) (k : Nat) (hk : k < l.length) (h : gd l k ≠ 0) : (GC (l.take (k + 1))).length = k + 1 := by
 rw [List.take_succ_eq_append_getElem hk]
 have : l[k] ≠ 0 := by rw [<- TK l k hk]; exact h
 rw [Ae _ _ this]; simp; omega
theorem Lb (ao : Option Addr) (cap : Nat) (l : List Nat) (w : World) (hlc : l.length <= cap) (hcm : cap <= maxLen)
 (hc : ∀ i, i < l.length -> ∃ b off, ao = some ⟨b, off, none⟩ /\ w.cell? ⟨b, off + i, none⟩ = some (.int .u32 ↑(gd l i))) :
 Calls prog 161 #[.slice ao l.length cap] w fun e w' => e = .returned (.slice ao (GC l).length cap) /\ w = w' := by
 have HC := Lib.hid hc
 clear hc
 unfold maxLen at hcm
 go_enter func161, ntmps161
 go_wp2
 go_loop [3] (fun n => ∃ k : Nat, k <= l.length /\ Hid (GC (l.take k) = GC l) /\ n = .int .i64 k) (fun n => (intOf n).toNat)
 case atStart => exact ⟨l.length, Nat.le_refl _, by rw [List.take_length]; rfl, rfl⟩
 case round =>
  obtain ⟨k, hk, ht, rfl⟩ := hrel
  by_cases hk0 : k = 0
  . subst hk0
    go_wp2
    go_ret
    have : GC l = [] := by rw [<- ht.out]; rfl
    exact ⟨by rw [this]; rfl, rfl⟩
  obtain ⟨j, rfl⟩ : ∃ j, k = j + 1 := ⟨k - 1, by omega⟩
  clear hk0
  obtain ⟨b, off, rfl, hc⟩ := HC.out j AA
  by_cases hz : gd l j = 0
  . rw [hz] at hc
    have HT : Hid (GC (l.take j) = GC l) := by rw [<- ht.out, qB l j AA hz]; rfl
    clear hz ht
    go_wp2
    go_round
    case rel => exact ⟨j, by omega, HT, by go_num⟩
    case measure => simp [intOf]
  have HT : (GC l).length = j + 1 := by rw [<- ht.out]; exact qA l j AA hz
  have hz' : (((gd l j : Nat) : Int) == 0) = false := by simpa using hz
  go_wp2
  go_ret
  exact ⟨rfl, rfl⟩
theorem NR (v : Value) (l : List Nat) (w : World) (h : Sl w v l) :
 Calls prog 161 #[v] w fun e w' => w = w' /\ ∃ v', e = .returned v' /\ ∀ w2, Sl w2 v l -> Sl w2 v' (CC (val l)) := by
 obtain ⟨u, k, rfl, H, q, p, z, G⟩ := h
 refine (Lb u k l w H q G).mono fun e w' ⟨he, hw⟩ => ⟨hw, _, he, ?_⟩
 rintro w2 ⟨J, t, I, P, N, L, kn, y⟩
 cases I
 rw [<- UZ p]
 have B := JN l
 have f := lW l
 refine ⟨u, k, O, by omega, q, by rw [f]; exact PQ p _, z, fun i C => ?_⟩
 obtain ⟨b, o, F, D⟩ := y i AA
 refine ⟨b, o, F, ?_⟩
 rw [f, eR _ _ _ C]; exact D
def MulInv (la lb : List Nat) (k : Nat) (r : List Nat) : Prop :=
 r.length = la.length + lb.length /\ Wd r /\ val r = val (la.take k) * val lb /\ ∀ j, k + lb.length <= j -> gd r j = 0
def RowInv (la lb : List Nat) (k j c : Nat) (r : List Nat) : Prop :=
 r.length = la.length + lb.length /\ Wd r /\ c < 4294967296 /\ val r + 4294967296 ^ (k + j) * c = val (la.take k) * val lb + 4294967296 ^ k * (gd la k * val (lb.take j)) /\
  ∀ j, k + lb.length <= j -> gd r j = 0
theorem MulInv.start (la lb : List Nat) : MulInv la lb 0 (List.replicate (la.length + lb.length) 0) :=
 ⟨by simp, ND _, by rw [LK]; simp [val], fun j _ => PA _ j⟩
theorem MulInv.row (h : MulInv la lb k r) : RowInv la lb k 0 0 r :=
 ⟨h.1, h.2.1, by omega, by rw [h.2.2.1]; simp [val], h.2.2.2⟩
theorem RowInv.step {j : Nat} (h : RowInv la lb k j c r) (hk : k < la.length) (hj : j < lb.length) (t : Nat) (ht : t = gd la k * gd lb j + gd r (k + j) + c)
 (ha : gd la k < 4294967296) (hb : gd lb j < 4294967296) :
 RowInv la lb k (j + 1) (t / 4294967296) (r.set (k + j) (t % 4294967296)) := by
 obtain ⟨p, f, z, y, o⟩ := h
 have u := FD f (k + j)
 have v : gd la k * gd lb j <= 4294967295 * 4294967295 := Nat.mul_le_mul AA AA
 refine ⟨by simpa using p, TQ f _ _ AA, by omega, ?_, fun i l => ?_⟩
 . have q := ZR r (k + j) (t % 4294967296) AA
   have e : 4294967296 ^ (k + j) * (t % 4294967296) + 4294967296 ^ (k + (j + 1)) * (t / 4294967296) = 4294967296 ^ (k + j) * t := by
    rw [<- Nat.add_assoc, Nat.pow_succ, Nat.mul_assoc, <- Nat.mul_add, Nat.mod_add_div]
   rw [DJ, Nat.mul_add, Nat.mul_add]
   have e2 : 4294967296 ^ k * (gd la k * (4294967296 ^ j * gd lb j)) = 4294967296 ^ (k + j) * (gd la k * gd lb j) := by rw [Nat.pow_add]; grind
   rw [e2]
   have e3 : 4294967296 ^ (k + j) * t = 4294967296 ^ (k + j) * (gd la k * gd lb j) + 4294967296 ^ (k + j) * gd r (k + j) + 4294967296 ^ (k + j) * c := by rw [ht]; grind
   omega
 rw [FZ _ _ _ _ AA]; exact o i l
theorem RowInv.done (h : RowInv la lb k lb.length c r) (hk : k < la.length) :
 MulInv la lb (k + 1) (r.set (k + lb.length) c) := by
 obtain ⟨q, p, o, l, f⟩ := h
 refine ⟨by simpa using q, TQ p _ _ o, ?_, fun i t => ?_⟩
 . have e := ZR r (k + lb.length) c AA
   rw [f _ (Nat.le_refl _), Nat.mul_zero, Nat.add_zero] at e
   rw [e, l, DQ lb _ (Nat.le_refl _), DJ]
   grind
 rw [FZ _ _ _ _ AA]; exact f i AA
theorem wW {a : Nat} (ha : a < 4294967296) (hb : b < 4294967296) (hc : c < 4294967296) (hd : d < 4294967296) :
 IntKind.u64.wrap ((a : Int) * (b : Int)) = (a : Int) * b /\ IntKind.u64.wrap ((a : Int) * (b : Int) + (c : Int)) = (a : Int) * b + c /\ IntKind.u64.wrap ((a : Int) * (b : Int) + (c : Int) + (d : Int)) = (a : Int) * b + c + d /\
  ∃ t : Nat, t = a * b + c + d /\ (a : Int) * b + c + d = (t : Int) /\ t < 18446744073709551616 := by
 have h : a * b <= 4294967295 * 4294967295 := Nat.mul_le_mul AA AA
 have e : (a : Int) * b = ((a * b : Nat) : Int) := by simp
 rw [e]
 refine ⟨IntWalk.u64_in _ AA, IntWalk.u64_in _ AA, IntWalk.u64_in _ AA, _, O, by omega, by omega⟩
theorem qY {a : Nat} (ha : a < 4294967296) (hb : b < 4294967296) (hc : c < 4294967296) (hd : d < 4294967296) : a * b + c + d < 18446744073709551616 /\ a * b <= 18446744065119617025 := by
 have : a * b <= 4294967295 * 4294967295 := Nat.mul_le_mul AA AA
 omega
set_option maxRecDepth 100000 in
set_option maxHeartbeats 2000000 in
theorem Bh (va vb : Value) (la lb : List Nat) (w : World) (ha : Sl w va la) (hb : Sl w vb lb) (hsa : la.length <= 1000000000) (hsb : lb.length <= 1000000000) :
 Calls prog 211 #[va, vb] w (Db w (CC (val la * val lb))) := by
 obtain ⟨aoa, capa, rfl, ha1, ha2, ha3, _, ha4⟩ := ha
 obtain ⟨aob, capb, rfl, hb1, hb2, hb3, _, hb4⟩ := hb
 have HA := Lib.hid ha4
 have HB := Lib.hid hb4
 have WA := Lib.hid ha3
 have WB := Lib.hid hb3
 clear ha4 hb4 ha3 hb3
 unfold maxLen at ha2 hb2
 go_enter func211, ntmps211
 go_wp2_with (at_make; refine FM _ rfl _ _ rfl _ _ (la.length + lb.length) rfl rfl ?c1 ?c2 ?c3 ?_)
 case c1 => omega
 case c2 => omega
 case c3 => omega
 intro w1 hown hbel hsz1
 go_wp2
 go_loopw [19] (fun i wr => ∃ (k : Nat) (r : List Nat), k <= la.length /\ i = .int .i64 k /\ MulInv la lb k r /\ Own wr w.heap.size w.heap.size (la.length + lb.length) r /\ Below w.heap.size w wr)
  (fun i _ => la.length - (intOf i).toNat)
 case atStart => exact ⟨0, _, by omega, rfl, MulInv.start _ _, hown, hbel⟩
 case round =>
  clear hown hbel hsz1
  obtain ⟨k, r, hk, rfl, hinv, hown, hbel⟩ := hrel
  by_cases hlt : k < la.length
  . obtain ⟨b, off, rfl, hca0⟩ := HA.out k hlt
    have hca := DB hca0 hbel
    have hxa := FD WA.out k
    go_wp2
    obtain ⟨wo, rfl⟩ : ∃ wo : World, wo = wr := ⟨_, rfl⟩
    go_loopw [7, 29] (fun c i wr => ∃ (j cr : Nat) (r : List Nat), j <= lb.length /\ cr < 4294967296 /\ i = .int .i64 j /\ c = .int .u64 cr /\ RowInv la lb k j cr r /\ Own wr w.heap.size w.heap.size (la.length + lb.length) r /\ Below w.heap.size w wr)
     (fun _ i _ => lb.length - (intOf i).toNat)
    case atStart => exact ⟨0, 0, r, by omega, by omega, rfl, rfl, hinv.row, hown, hbel⟩
    case round =>
     clear hown hbel hinv hca
     obtain ⟨j, cr, r, hj, hcr, rfl, rfl, hinv, hown, hbel⟩ := hrel
     by_cases hltb : j < lb.length
     . obtain ⟨b2, off2, rfl, hcb⟩ := HB.out j hltb
       have hcb := DB hcb hbel
       have hxb := FD WB.out j
       have hcr1 := hown.cell (k + j) AA
       have hfr := hown.free (k + j)
       have hxr := FD hinv.2.1 (k + j)
       have hmb := qY hxa hxb hxr hcr
       obtain ⟨s1, s2, s3, t, ht, s4, ht2⟩ := wW hxa hxb hxr hcr
       have HT := Lib.hid ht
       have q1 : IntKind.i64.wrap ((k : Int) + (j : Int)) = (k : Int) + (j : Int) := IntWalk.i64_in _ AA
       have q2 : (0 : Int) <= (k : Int) + (j : Int) := by omega
       have q3 : ((k : Int) + (j : Int)).toNat = k + j := by omega
       have q4 : ((k : Int) + (j : Int)) < (la.length : Int) + (lb.length : Int) := by omega
       clear ht hmb
       go_wp2
       go_quiet (fail)
       clear q1 q2 q3 q4 s1 s2 s3
       go_wp2
       go_roundw
       case rel =>
        exact ⟨j + 1, t / 4294967296, _, by omega, by omega, by go_num, by go_num, hinv.step hlt hltb t HT.out hxa hxb, Own.set (hown.drewN _) (k + j) _ (t % 4294967296) AA, (IV hbel _).setCell (Nat.le_refl _) _⟩
       case measure => simp [intOf]; omega
     obtain rfl : j = lb.length := by omega
     have hcr1 := hown.cell (k + lb.length) AA
     have hfr := hown.free (k + lb.length)
     have hd := hinv.done hlt
     go_wp2
     go_roundw
     case rel => exact ⟨k + 1, _, by omega, by go_num, hd, hown.set (k + lb.length) _ cr AA, hbel.setCell (Nat.le_refl _) _⟩
     case measure => simp [intOf]; omega
  obtain rfl : k = la.length := by omega
  have HD : Hid (val r = val la * val lb) := by
   have := hinv.2.2.1
   rwa [DQ la _ (Nat.le_refl _)] at this
  go_wp2_with fail
  refine (NR _ r _ (hown.sl hinv.2.1)).mono ?_
  rintro e w' ⟨rfl, v', rfl, hsl⟩
  have hsl := hsl _ (hown.sl hinv.2.1)
  rw [HD.out] at hsl
  go_wp2
  go_ret
  exact ⟨v', rfl, hsl, hbel⟩
end Go.Proofs.YtmppigbbkjepiaaGreatDoor
