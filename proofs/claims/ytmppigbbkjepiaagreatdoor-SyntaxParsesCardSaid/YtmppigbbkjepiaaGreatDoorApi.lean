/- Helping facts of Words; no other conditions. Helping facts of Mem; no other conditions. Helping facts of Prod; no other conditions. Helping facts of Diff; no other conditions. Helping facts of Sum; no other conditions. Helping facts of Small; no other conditions. Helping facts of Cmp; no other conditions. Helping facts of Api; no other conditions. -/
import Derived.KernelRfl
import Derived.WalkKit
import Derived.Lib.Hide
import Derived.Laws.AppendOwnNone
import Derived.Deep.Draws
import Derived.Test.YtmppigbbkjepiaaGreatDoorProg
import Derived.BigQuiet
import Derived.Deep.QuietTactic
import Derived.Test.YtmppigbbkjepiaaGreatDoorShelf
import Derived.Deep.RegionHeld3
import Derived.Deep.DeepCutAuto
import Derived.Deep.CutBlock
theorem Go.Proofs.YtmppigbbkjepiaaGreatDoor.O {α : Sort _} {a : α} : a = a := rfl
namespace Go.Proofs.YtmppigbbkjepiaaGreatDoor
variable {P : Program} {Q : Exit -> Act -> World -> Prop} {a : Act} {c : Operand} {id : Nat} {p : Prop} {w : World} {x y : Code}
theorem YK2 (h : p := by simp [results, results138, go_sem]) : p := h
theorem YpV (h : p := by unfold maxLen; omega) : p := h
theorem Za7 (h : p := by
 go_enter func127, ntmps127
 go_wp2_with fail
 go_ret
 exact ⟨rfl, (Below.refl _ _).alloc (Nat.le_refl _) _⟩
 ) : p := h
theorem Zpy (h : p := by
 have hd : (((CD m).length : Int) != ((CD n).length : Int)) = true := by rw [bne_iff_ne]; omega
 clear hne hmn
 go_enter func188, ntmps188
 go_wp2
 go_ret
 exact ⟨FW HR.out.symm, 0, rfl⟩
 ) : p := h
theorem Zx9 (h : p := by
 rcases MC x with ⟨l, k⟩ | ⟨l, k⟩ | ⟨l, k⟩ <;> rcases MC y with ⟨f, e⟩ | ⟨f, e⟩ | ⟨f, e⟩ <;> first | (exfalso; omega) | exact pH AA AA
 ) : p := h
theorem ZCG (h : p := by
 rintro e w3 ⟨rfl, q, rfl⟩
 rw [v.out]
 go_wp2_with fail
 go_ret
 exact ⟨rfl, JJ C _⟩
 ) : p := h
theorem Z (h : p := by kernel_rfl) : p := h
theorem AA (h : p := by omega) : p := h
theorem AB (h : p := by rw [decide_eq_false_iff_not]; omega) : p := h
theorem AD (h : p := by rw [decide_eq_true_eq]; omega) : p := h
theorem AE (h : p := by decide) : p := h
theorem AF (h : p := by intro d v c a w h; cases d <;> exact h) : p := h
theorem AG (h : p := by rw [beq_eq_false_iff_ne]; omega) : p := h
theorem AH (h : p := by simp) : p := h
theorem AI (h : p := by rw [beq_iff_eq]; omega) : p := h
theorem AJ (h : p := by (try simp only [List.length_append, List.length_cons, List.length_nil]); omega) : p := h
theorem AK (h : p := by decide +kernel) : p := h
theorem AN (h : x.wp P (Exit.then (y.wp P Q) Q) a w) : (Code.seq x y).wp P Q a w := wp_seq h
theorem AO (hc : a.eval c = .bool true) (h : x.wp P Q a w) : (Code.cond c x y).wp P Q a w := wp_cond_true hc h
theorem AP (hc : a.eval c = .bool false) (h : y.wp P Q a w) : (Code.cond c x y).wp P Q a w := wp_cond_false hc h
theorem AQ {fn : Func} {R : Ending -> World -> Prop} {v : Value} (hr : (results fn a.tmps).run P w = .ok v w) (hd : a.defers = []) (hR : R (.returned v) w) : bodyPost P fn R .ret a w := bodyPost_ret hr hd hR
theorem AR {l : List Oper} (h : wpList P l.toArray Q l a w) : (Code.region id l.toArray false).wp P Q a w := wp_region_lit h
theorem AS {ops : Array Oper} (h : Q .normal a w) : wpList P ops Q [] a w := wpList_nil h
theorem AT {c : Code} (h : c.wp P (Exit.inBlock id Q) a w) : (Code.block id c).wp P Q a w := wp_block h
theorem AU (h : Q .normal a w) : Code.skip.wp P Q a w := wp_skip h
theorem AW (h : Q .ret a w) : Code.ret.wp P Q a w := wp_ret h
theorem AX (h : Q (.exit id) a w) : (Code.exit id).wp P Q a w := wp_exit h
theorem AZ {α β γ δ : Sort _} {a : α} {b : β} {c : γ} {d : δ} : a = a /\ b = b /\ c = c /\ d = d := ⟨rfl, rfl, rfl, rfl⟩
theorem AY {α β γ δ ε : Sort _} {a : α} {b : β} {c : γ} {d : δ} {e : ε} : a = a /\ b = b /\ c = c /\ d = d /\ e = e := ⟨rfl, rfl, rfl, rfl, rfl⟩
theorem BA {α β γ δ ε ζ η θ : Sort _} {a : α} {b : β} {c : γ} {d : δ} {e : ε} {f : ζ} {g : η} {h : θ} : a = a /\ b = b /\ c = c /\ d = d /\ e = e /\ f = f /\ g = g /\ h = h := ⟨rfl, rfl, rfl, rfl, rfl, rfl, rfl, rfl⟩
theorem BG {α β γ : Sort _} {a : α} {b : β} {c : γ} : a = a /\ b = b /\ c = c := ⟨rfl, rfl, rfl⟩
theorem BH {α β γ δ ε ζ η : Sort _} {a : α} {b : β} {c : γ} {d : δ} {e : ε} {f : ζ} {g : η} : a = a /\ b = b /\ c = c /\ d = d /\ e = e /\ f = f /\ g = g := ⟨rfl, rfl, rfl, rfl, rfl, rfl, rfl⟩
theorem BT {α β : Sort _} {a : α} {b : β} : a = a /\ b = b := ⟨rfl, rfl⟩
theorem BX : True := True.intro
end Go.Proofs.YtmppigbbkjepiaaGreatDoor
namespace Go.Proofs.YtmppigbbkjepiaaGreatDoor.W
def val : List Nat -> Nat
 | [] => 0
 | x :: l => x + 4294967296 * val l
def Wd (l : List Nat) : Prop := ∀ x ∈ l, x < 4294967296
def CD (n : Nat) : List Nat := if n = 0 then [] else (n % 4294967296) :: CD (n / 4294967296)
termination_by n
decreasing_by omega
def GN : List Nat -> List Nat
 | [] => []
 | x :: l => if GN l = [] /\ x = 0 then [] else x :: GN l
theorem EG : CD 0 = [] := by rw [CD]; simp
theorem VD (n : Nat) (h : 0 < n) : CD n = (n % 4294967296) :: CD (n / 4294967296) := by
 rw [CD, if_neg AA]
theorem eQ : val [] = 0 := rfl
theorem KJ (x : Nat) (l : List Nat) : val (x :: l) = x + 4294967296 * val l := rfl
theorem WZ : Wd [] := by intro x hx; cases hx
theorem Wd_cons {x : Nat} {l : List Nat} : Wd (x :: l) ↔ x < 4294967296 /\ Wd l := by simp [Wd]
theorem Wd_append {a b : List Nat} : Wd (a ++ b) ↔ Wd a /\ Wd b := by
 simp only [Wd, List.mem_append]
 exact ⟨fun h => ⟨fun x e => h x (.inl e), fun x e => h x (.inr e)⟩, fun h x e => e.elim (h.1 x) (h.2 x)⟩
theorem QG {l : List Nat} (h : Wd l) (n : Nat) : Wd (l.take n) := fun x hx => h x (List.mem_of_mem_take hx)
theorem Xa {l : List Nat} (h : Wd l) (n : Nat) : Wd (l.drop n) := fun x hx => h x (List.mem_of_mem_drop hx)
theorem D5 {l : List Nat} (h : Wd l) (i : Nat) : l.getD i 0 < 4294967296 := by
 by_cases e : i < l.length
 . rw [List.getD_eq_getElem?_getD, List.getElem?_eq_getElem e]; exact h _ (List.getElem_mem e)
 rw [List.getD_eq_getElem?_getD, List.getElem?_eq_none AA]; simp
theorem OD (n : Nat) : Wd (List.replicate n 0) := by
 intro x e; rw [(List.mem_replicate.1 e).2]; omega
theorem cY (a b : List Nat) : val (a ++ b) = val a + 4294967296 ^ a.length * val b := by
 induction a with
 | nil => simp [val]
 | cons x a ih => simp only [List.cons_append, KJ, ih, List.length_cons, Nat.pow_succ]; grind
theorem MH (n : Nat) : val (List.replicate n 0) = 0 := by
 induction n with
 | zero => rfl
 | succ n ih => rw [List.replicate_succ, KJ, ih]
theorem GV {l : List Nat} (h : Wd l) : val l < 4294967296 ^ l.length := by
 induction l with
 | nil => simp [val]
 | cons x l ih =>
   have e := (Wd_cons.1 h).1
   have := ih (Wd_cons.1 h).2
   rw [KJ, List.length_cons, Nat.pow_succ]
   omega
theorem ZT (l : List Nat) (x : Nat) : val (l ++ [x]) = val l + 4294967296 ^ l.length * x := by
 rw [cY]; simp [val]
theorem qE (l : List Nat) (i : Nat) (h : i < l.length) : val (l.take (i + 1)) = val (l.take i) + 4294967296 ^ i * l.getD i 0 := by
 rw [List.take_succ_eq_append_getElem h, ZT, List.length_take, Nat.min_eq_left (Nat.le_of_lt h)]
 rw [List.getD_eq_getElem?_getD, List.getElem?_eq_getElem h]; rfl
theorem DX (l : List Nat) (i : Nat) (h : l.length <= i) : val (l.take i) = val l := by rw [List.take_of_length_le h]
theorem ND (l : List Nat) (i : Nat) : val (l.take i) + 4294967296 ^ (min i l.length) * val (l.drop i) = val l := by
 have := cY (l.take i) (l.drop i)
 rw [List.take_append_drop, List.length_take] at this
 exact this.symm
def gd (l : List Nat) (i : Nat) : Nat := l.getD i 0
theorem FL {l : List Nat} (h : Wd l) (i : Nat) : gd l i < 4294967296 := D5 h i
theorem UU (l : List Nat) (i : Nat) (h : i < l.length) : gd l i = l[i] := by
 unfold gd; rw [List.getD_eq_getElem?_getD, List.getElem?_eq_getElem h]; rfl
theorem Qj (l : List Nat) (i : Nat) (h : l.length <= i) : gd l i = 0 := by
 unfold gd; rw [List.getD_eq_getElem?_getD, List.getElem?_eq_none h]; rfl
theorem MD (a b : List Nat) (i : Nat) (h : a.length <= i) : gd (a ++ b) i = gd b (i - a.length) := by
 unfold gd; rw [List.getD_eq_getElem?_getD, List.getElem?_append_right h, List.getD_eq_getElem?_getD]
theorem kE (l : List Nat) (i x : Nat) (h : i < l.length) : gd (l.set i x) i = x := by
 rw [UU _ _ (by simpa using h)]; simp
theorem GL (l : List Nat) (i j x : Nat) (h : i ≠ j) : gd (l.set i x) j = gd l j := by
 unfold gd; simp [h]
theorem PV (n i : Nat) : gd (List.replicate n 0) i = 0 := by
 unfold gd; by_cases h : i < n <;> simp [h]
theorem gM (l : List Nat) (n i : Nat) (h : i < n) : gd (l.take n) i = gd l i := by
 unfold gd; rw [List.getD_eq_getElem?_getD, List.getElem?_take, if_pos h, List.getD_eq_getElem?_getD]
theorem gN (l : List Nat) (n i : Nat) : gd (l.drop n) i = gd l (n + i) := by
 unfold gd; rw [List.getD_eq_getElem?_getD, List.getElem?_drop, List.getD_eq_getElem?_getD]
theorem DQ (l : List Nat) (i : Nat) : val (l.take (i + 1)) = val (l.take i) + 4294967296 ^ i * gd l i := by
 by_cases h : i < l.length
 . rw [qE l i h]; rfl
 rw [DX l (i + 1) AA, DX l i AA, Qj l i AA]; simp
theorem uZ {a b : List Nat} (hl : a.length = b.length) (h : ∀ i, i < a.length -> gd a i = gd b i) : a = b := by
 apply List.ext_getElem hl
 intro i e f
 rw [<- UU a i e, <- UU b i f]; exact h i e
theorem VF {l : List Nat} (h : Wd l) (i x : Nat) (hx : x < 4294967296) : Wd (l.set i x) := by
 intro y f
 rcases List.mem_or_eq_of_mem_set f with e | e
 . exact h y e
 rw [e]; exact hx
theorem nG (done : List Nat) (m x : Nat) (h : 0 < m) : (done ++ List.replicate m 0).set done.length x = (done ++ [x]) ++ List.replicate (m - 1) 0 := by
 obtain ⟨k, rfl⟩ : ∃ k, m = k + 1 := ⟨m - 1, by omega⟩
 rw [List.set_append_right _ _ AA, Nat.sub_self, List.replicate_succ, List.set_cons_zero]
 simp
theorem bH (l : List Nat) (i x : Nat) (h : i < l.length) : val (l.set i x) + 4294967296 ^ i * gd l i = val l + 4294967296 ^ i * x := by
 induction l generalizing i with
 | nil => simp at h
 | cons y l ih =>
   cases i with
   | zero => simp only [List.set_cons_zero, KJ, gd]; simp; omega
   | succ i =>
     have f : i < l.length := by simpa using h
     have e : gd (y :: l) (i + 1) = gd l i := by unfold gd; simp
     have := ih i f
     rw [List.set_cons_succ, KJ, KJ, e, Nat.pow_succ]
     have e1 : 4294967296 ^ i * 4294967296 * gd l i = 4294967296 * (4294967296 ^ i * gd l i) := by grind
     have e2 : 4294967296 ^ i * 4294967296 * x = 4294967296 * (4294967296 ^ i * x) := by grind
     omega
theorem GF (n : Nat) : Wd (CD n) := by
 induction n using Nat.strongRecOn with
 | ind n ih =>
   by_cases h : n = 0
   . subst h; rw [EG]; exact WZ
   rw [VD n AA, Wd_cons]
   exact ⟨Nat.mod_lt _ AA, ih _ AA⟩
theorem CO (n : Nat) : val (CD n) = n := by
 induction n using Nat.strongRecOn with
 | ind n ih =>
   by_cases h : n = 0
   . subst h; rw [EG]; rfl
   rw [VD n AA, KJ, ih _ AA]
   omega
theorem zJ {m n : Nat} (h : CD m = CD n) : m = n := by
 have := congrArg val h
 rwa [CO, CO] at this
theorem FY (n : Nat) : CD n = [] ↔ n = 0 := by
 constructor
 . intro h
   have := congrArg val h
   rwa [CO] at this
 intro h; rw [h, EG]
theorem cH {l : List Nat} (h : Wd l) : GN l = [] ↔ val l = 0 := by
 induction l with
 | nil => simp [GN, val]
 | cons x l k =>
   have k := k (Wd_cons.1 h).2
   rw [GN, KJ]
   by_cases f : GN l = []
   . have o := k.1 f
     by_cases p : x = 0
     . simp [f, p, o]
     simp [f, p]
   have o : ¬ val l = 0 := fun e => f (k.2 e)
   simp [f]; omega
theorem XH {l : List Nat} (h : Wd l) : GN l = CD (val l) := by
 induction l with
 | nil => rw [eQ, EG]; rfl
 | cons x l k =>
   have u := (Wd_cons.1 h).1
   have p := (Wd_cons.1 h).2
   have k := k p
   rw [GN]
   by_cases f : GN l = [] /\ x = 0
   . have t := (cH p).1 f.1
     rw [if_pos f, KJ, t, f.2, EG]
   rw [if_neg f]
   have q : 0 < val (x :: l) := by
    rw [KJ]
    by_cases o : x = 0
    . have : GN l ≠ [] := fun e => f ⟨e, o⟩
      have : val l ≠ 0 := fun e => this ((cH p).2 e)
      omega
    omega
   rw [VD _ q, KJ, k, show (x + 4294967296 * val l) % 4294967296 = x from by omega, show (x + 4294967296 * val l) / 4294967296 = val l from by omega]
theorem VN (l : List Nat) : GN (l ++ [0]) = GN l := by
 induction l with
 | nil => simp [GN]
 | cons x l ih => rw [List.cons_append, GN, GN, ih]
theorem Bg (l : List Nat) (x : Nat) (hx : x ≠ 0) : GN (l ++ [x]) = l ++ [x] := by
 induction l with
 | nil => simp [GN, hx]
 | cons y l ih => rw [List.cons_append, GN, ih, if_neg AH]
theorem KB (l : List Nat) : (GN l).length <= l.length := by
 induction l with
 | nil => simp [GN]
 | cons x l ih => rw [GN]; split <;> simp <;> omega
theorem mZ (l : List Nat) : GN l = l.take (GN l).length := by
 induction l with
 | nil => rfl
 | cons x l ih => rw [GN]; split; · simp
                  . rw [List.length_cons, List.take_succ_cons, <- ih]
theorem GJ {n k : Nat} (h : n < 4294967296 ^ k) : (CD n).length <= k := by
 induction k generalizing n with
 | zero => rw [Nat.pow_zero] at h; obtain rfl : n = 0 := by omega
           rw [EG]; simp
 | succ k ih =>
   by_cases e : n = 0
   . subst e; rw [EG]; simp
   rw [VD n AA, List.length_cons]
   have := ih (n := n / 4294967296) (by rw [Nat.pow_succ] at h; exact Nat.div_lt_of_lt_mul (by rw [Nat.mul_comm]; exact h))
   omega
theorem ZP {n k : Nat} (h : k < (CD n).length) : 4294967296 ^ k <= n := by
 rcases Nat.lt_or_ge n (4294967296 ^ k) with e | e
 . have := GJ e; omega
 exact e
theorem FZ {m n : Nat} (h : m <= n) : (CD m).length <= (CD n).length := by
 have e := GV (GF n)
 rw [CO] at e
 exact GJ AA
theorem XY (n : Nat) (h : 0 < n) : ∃ l x, CD n = l ++ [x] /\ 0 < x /\ x < 4294967296 := by
 have f := GF n
 rcases (CD n).eq_nil_or_concat with q | ⟨l, x, e⟩
 . exact absurd ((FY n).1 q) AA
 rw [List.concat_eq_append] at e
 refine ⟨l, x, e, ?_, ?_⟩
 . rcases Nat.eq_zero_or_pos x with rfl | p
   . exfalso
     have o : GN (CD n) = CD n := by rw [XH f, CO]
     rw [e, VN] at o
     have k := KB l
     rw [o] at k
     simp at k
     omega
   exact p
 rw [e, Wd_append] at f
 exact f.2 x AH
def JR (x y : Int) : Int := if x < y then -1 else if x = y then 0 else 1
theorem mW {a b : List Nat} (hl : a.length = b.length) (ha : Wd a) (i : Nat) (hi : i < a.length) (he : ∀ j, i < j -> j < a.length -> gd a j = gd b j) (hx : gd a i < gd b i) : val a < val b := by
 have e : a.drop (i + 1) = b.drop (i + 1) := by
  apply uZ
  . simp [hl]
  intro j k
  rw [gN, gN]
  exact he _ AA (by simp at k; omega)
 have f := ND a (i + 1)
 have h := ND b (i + 1)
 rw [Nat.min_eq_left AA] at f h
 rw [e] at f
 rw [DQ] at f h
 have o := GV (QG ha i)
 rw [List.length_take, Nat.min_eq_left AA] at o
 have l : 4294967296 ^ i * (gd a i + 1) <= 4294967296 ^ i * gd b i := Nat.mul_le_mul_left _ hx
 rw [Nat.mul_add] at l
 omega
theorem MZ {m n : Nat} (h : (CD m).length < (CD n).length) : m < n := by
 rcases Nat.lt_or_ge m n with e | e
 . exact e
 have := FZ e; omega
end Go.Proofs.YtmppigbbkjepiaaGreatDoor.W
namespace Go.Proofs.YtmppigbbkjepiaaGreatDoor
open Go.Proofs.Tryz
open Go.RowKit W
variable {B b base c d g k m n : Nat} {Q : Exit -> Act -> World -> Prop} {a : Act} {l la lb r : List Nat} {o : Oper} {ops : Array Oper} {rest : List Oper} {v : Value} {w w' : World} {x y z : Int}
def Sl (w : World) (v : Value) (l : List Nat) : Prop :=
 ∃ (ao : Option Addr) (cap : Nat), v = .slice ao l.length cap /\ l.length <= cap /\ cap <= maxLen /\ Wd l /\ (ao = none -> cap = 0) /\
  ∀ i, i < l.length -> ∃ b off, ao = some ⟨b, off, none⟩ /\ w.cell? ⟨b, off + i, none⟩ = some (.int .u32 ↑(gd l i))
theorem hH {a : Addr} (h : w.cell? a = some v) : a.block < w.heap.size := World.block_lt_of_cell? w a h
theorem Sl.wd (h : Sl w v l) : Wd l := by obtain ⟨_, _, _, _, _, h, _, _⟩ := h; exact h
theorem Sl.below (h : Sl w v l) (hb : Below w.heap.size w w') : Sl w' v l := by
 obtain ⟨C, f, rfl, B, y, u, o, t⟩ := h
 refine ⟨C, f, O, B, y, u, o, fun i p => ?_⟩
 obtain ⟨b, e, q, k⟩ := t i p
 exact ⟨b, e, q, (hb.cell (hH k)).trans k⟩
theorem eK (w : World) : Sl w (.slice none 0 0) [] := ⟨none, 0, rfl, Nat.le_refl _, by unfold maxLen; omega, WZ, fun _ => rfl, fun i hi => absurd hi AH⟩
def Dv (w0 : World) (l : List Nat) (e : Ending) (w' : World) : Prop := ∃ v, e = .returned v /\ Sl w' v l /\ Below w0.heap.size w0 w'
theorem uU : (prog.info? 186).map (fun i => (i.zero, i.size, i.bytes)) = some (some (.int .u32 0), 1, 4) := by kernel_rfl
def Own (w : World) (base g n : Nat) (l : List Nat) : Prop :=
 w.ownsRow base 186 1 (.slice (some ⟨g, 0, none⟩) n n) n (l.map fun x => Value.int .u32 ((x : Nat) : Int))
theorem Own.len (h : Own w base g n l) : l.length = n := by
 have := h.1; simpa using this
theorem Own.cell (h : Own w base g n l) (i : Nat) (hi : i < n) : w.cell? ⟨g, i, none⟩ = some (.int .u32 ↑(gd l i)) := by
 have f := h.cellAt i AA
 have e := h.len
 rw [f, UU l i AA]
 simp [e, hi]
theorem Own.free (h : Own w base g n l) (i : Nat) : w.frozen? ⟨g, i, none⟩ = false := h.frozenAt i
theorem Own.lt (h : Own w base g n l) : base <= g /\ g < w.heap.size := World.ownsRow.lt h g rfl
theorem Own.set (h : Own w base g n l) (i : Nat) (X : Int) (x : Nat) (hx : X = (x : Int)) :
 Own (w.setCell ⟨g, i, none⟩ (.int .u32 X)) base g n (l.set i x) := by
 subst hx
 have := (h.stored i (.int .u32 (x : Int))).1
 unfold Own
 rw [List.map_set]
 exact this
theorem Own.sl (h : Own w base g n l) (hw : Wd l) : Sl w (.slice (some ⟨g, 0, none⟩) n n) l := by
 have k := h.len
 subst k
 refine ⟨some ⟨g, 0, none⟩, l.length, O, Nat.le_refl _, ?_, hw, (fun h => by cases h), fun i o => ⟨g, 0, O, ?_⟩⟩
 . rcases h.2 with ⟨e, _⟩ | ⟨t, f, q, e, _, _, _, p, _⟩
   . simp at e
   simp only [Value.slice.injEq] at e; omega
 rw [Nat.zero_add]; exact h.cell i o
theorem Pe {w1 : World} (h : w1.ownsRow base 186 1 (.slice (some ⟨g, 0, none⟩) n n) n (madeCells (Value.cells (.int .u32 0)) (n * 1)).toList) :
 Own w1 base g n (List.replicate n 0) := by
 unfold Own
 have e : (List.replicate n 0).map (fun x => Value.int .u32 ((x : Nat) : Int)) = (madeCells (Value.cells (.int .u32 0)) (n * 1)).toList := by
  rw [Nat.mul_one, List.map_replicate]
  exact (toList_madeCells_one _ n).symm
 rw [e]; exact h
theorem Own.drewN (h : Own w base g n l) (q : Nat) : Own (w.drewN q) base g n l := h
theorem JJ (h : Below B w w') (q : Nat) : Below B w (w'.drewN q) := h.trans ⟨rfl, rfl, rfl, Nat.le_refl _, fun _ _ => rfl⟩
theorem PA (h : Below B w.drew w') : Below B w w' := ⟨h.os, h.tape, h.output, h.size, h.block⟩
theorem KU {q : Nat} (h : Below B (w.drewN q) w') : Below B w w' := ⟨h.os, h.tape, h.output, h.size, h.block⟩
theorem Sl.drewN (h : Sl w v l) (q : Nat) : Sl (w.drewN q) v l := h
theorem FU (w : World)
 (hg : o.guard = none) (l c : Operand) (hop : o.op = Op.makeSlice 60 l c) (L C : Int) (n : Nat)
 (hl : a.eval l = .int .i64 L) (hc : a.eval c = .int .i64 C) (hL : L = (n : Int)) (hC : C = (n : Int)) (b : n <= 70000000000000)
 (hK : ∀ w1, Own w1 w.heap.size w.heap.size n (List.replicate n 0) -> Below w.heap.size w w1 -> w.heap.size < w1.heap.size ->
   wpList prog ops Q rest (a.put o.dst (.slice (some ⟨w.heap.size, 0, none⟩) n n)) w1) :
 wpList prog ops Q (o :: rest) a w := by
 obtain ⟨q, u, h, f, e⟩ := info_parts uU
 refine wpList_make_full w hg l c 60 hop w.heap.size 186 q (.int .u32 0) 1 underlying60 u h f _ _ L C n hl hc hL hC (by rw [e]; omega) YpV (Nat.le_refl _) ?_
 intro w1 y v
 have p := Pe y
 exact hK w1 p ((Below.refl _ _).grown v (Nat.le_refl _) (fun k t => by cases t)) p.lt.2
theorem DB {o : Nat} (h : w.cell? ⟨b, o, none⟩ = some v) (hb : Below w.heap.size w w') : w'.cell? ⟨b, o, none⟩ = some v :=
 (hb.cell (hH h)).trans h
def OwnA (w : World) (base : Nat) (v : Value) (l : List Nat) : Prop :=
 w.ownsRow base 186 1 v l.length (l.map fun x => Value.int .u32 ((x : Nat) : Int))
theorem Sn (w : World) (base : Nat) : OwnA w base (.slice none 0 0) [] := World.ownsRow_nil w base 186 1
theorem OwnA.sl (h : OwnA w base v l) (hw : Wd l) : Sl w v l := by
 rcases h.2 with ⟨rfl, p⟩ | ⟨g, t, q, rfl, B, hg, f, k, y, u⟩
 . obtain rfl : l = [] := List.eq_nil_of_length_eq_zero p
   exact eK w
 refine ⟨_, _, rfl, f, k, hw, (fun h => by cases h), fun i e => ⟨g, 0, rfl, ?_⟩⟩
 have o := World.ownsRow.cellAt h i AA
 rw [Nat.zero_add, o, UU l i e]
 simp [e]
theorem OwnA.drewN (h : OwnA w base v l) (q : Nat) : OwnA (w.drewN q) base v l := h
theorem OwnA.alloc (h : OwnA w base v l) (o : Obj) : OwnA (w.alloc o) base v l := World.ownsRow.alloc h o
theorem kI (w : World) (hgd : o.guard = none) (s x : Operand)
 (ho : o.op = .call { callee := .builtin .append, args := #[s, x], argTypes := #[60, 60] })
 (base : Nat) (v u : Value) (l m : List Nat) (hs : a.eval s = v) (hx : a.eval x = u) (hown : OwnA w base v l) (hu : Sl w u m) (hlen : l.length + m.length <= 30000000000000) (hbase : base <= w.heap.size)
 (h : ∀ v' w', OwnA w' base v' (l ++ m) -> Below base w w' -> wpList prog ops Q rest (a.put o.dst v') w') : wpList prog ops Q (o :: rest) a w := by
 obtain ⟨D, F, q, p, f⟩ := info_parts uU
 obtain ⟨R, C, rfl, U, T, S, I, P⟩ := hu
 cases R with
 | none =>
   obtain rfl := I rfl
   obtain rfl : m = [] := List.eq_nil_of_length_eq_zero AA
   refine wpList_append_own_none hgd s x 60 ho base 186 D 1 underlying60 F v _ _ hs hown hx ?_
   exact h v w (by rwa [List.append_nil]) (Below.refl _ _)
 | some ad =>
   refine wpList_append_own w hgd s x 60 ho base 186 D (.int .u32 0) 1 4 underlying60 F q p f O AA v l.length _ hs hown ad m.length C (m.map fun x => Value.int .u32 ((x : Nat) : Int)) hx AH ?_ ?_ YpV AA hbase ?_
   . intro j y B
     have e : j < m.length := by
      have := (List.getElem?_eq_some_iff.1 B).1
      simpa using this
     obtain ⟨b, G, L, N⟩ := P j e
     cases L
     rw [Addr.add_lit, N, UU m j e]
     simp [e] at B
     rw [<- B]
   . intro y H
     obtain ⟨_, _, rfl⟩ := List.mem_map.1 H
     rfl
   intro v' w' t hg _
   refine h v' w' ?_ ((Below.refl _ _).grown hg hbase (fun k J => (World.ownsRow.lt hown k J).1))
   unfold OwnA
   rw [List.length_append, List.map_append]
   exact t
theorem rE (l : List Nat) (k : Nat) (hk : k < l.length) (h : gd l k = 0) : GN (l.take (k + 1)) = GN (l.take k) := by
 rw [List.take_succ_eq_append_getElem hk]
 have : l[k] = 0 := by rw [<- UU l k hk]; exact h
 rw [this, VN]
theorem rD (l : List Nat) (k : Nat) (hk : k < l.length) (h : gd l k ≠ 0) : (GN (l.take (k + 1))).length = k + 1 := by
 rw [List.take_succ_eq_append_getElem hk]
 have : l[k] ≠ 0 := by rw [<- UU l k hk]; exact h
 rw [Bg _ _ this]; simp; omega
theorem Md (ao : Option Addr) (cap : Nat) (l : List Nat) (w : World) (hlc : l.length <= cap) (hcm : cap <= maxLen)
 (hc : ∀ i, i < l.length -> ∃ b off, ao = some ⟨b, off, none⟩ /\ w.cell? ⟨b, off + i, none⟩ = some (.int .u32 ↑(gd l i))) :
 Calls prog 161 #[.slice ao l.length cap] w fun e w' => e = .returned (.slice ao (GN l).length cap) /\ w = w' := by
 have HC := Lib.hid hc
 clear hc
 unfold maxLen at hcm
 go_enter func161, ntmps161
 go_wp2
 go_loop [3] (fun n => ∃ k : Nat, k <= l.length /\ Hid (GN (l.take k) = GN l) /\ n = .int .i64 k) (fun n => (intOf n).toNat)
 case atStart => exact ⟨l.length, Nat.le_refl _, by rw [List.take_length]; rfl, rfl⟩
 case round =>
  obtain ⟨k, hk, ht, rfl⟩ := hrel
  by_cases hk0 : k = 0
  . subst hk0
    go_wp2
    go_ret
    have : GN l = [] := by rw [<- ht.out]; rfl
    exact ⟨by rw [this]; rfl, rfl⟩
  obtain ⟨j, rfl⟩ : ∃ j, k = j + 1 := ⟨k - 1, by omega⟩
  clear hk0
  obtain ⟨b, off, rfl, hc⟩ := HC.out j AA
  by_cases hz : gd l j = 0
  . rw [hz] at hc
    have HT : Hid (GN (l.take j) = GN l) := by rw [<- ht.out, rE l j AA hz]; rfl
    clear hz ht
    go_wp2
    go_round
    case rel => exact ⟨j, by omega, HT, by go_num⟩
    case measure => simp [intOf]
  have HT : (GN l).length = j + 1 := by rw [<- ht.out]; exact rD l j AA hz
  have hz' : (((gd l j : Nat) : Int) == 0) = false := by simpa using hz
  go_wp2
  go_ret
  exact ⟨rfl, rfl⟩
theorem OO (v : Value) (l : List Nat) (w : World) (h : Sl w v l) :
 Calls prog 161 #[v] w fun e w' => w = w' /\ ∃ v', e = .returned v' /\ ∀ w2, Sl w2 v l -> Sl w2 v' (CD (val l)) := by
 obtain ⟨u, k, rfl, I, q, p, B, H⟩ := h
 refine (Md u k l w I q H).mono fun e w' ⟨he, hw⟩ => ⟨hw, _, he, ?_⟩
 rintro w2 ⟨L, t, J, Q, P, N, kn, y⟩
 cases J
 rw [<- XH p]
 have C := KB l
 have f := mZ l
 refine ⟨u, k, O, by omega, q, by rw [f]; exact QG p _, B, fun i D => ?_⟩
 obtain ⟨b, o, G, F⟩ := y i AA
 refine ⟨b, o, G, ?_⟩
 rw [f, gM _ _ _ D]; exact F
def MulInv (la lb : List Nat) (k : Nat) (r : List Nat) : Prop :=
 r.length = la.length + lb.length /\ Wd r /\ val r = val (la.take k) * val lb /\ ∀ j, k + lb.length <= j -> gd r j = 0
def RowInv (la lb : List Nat) (k j c : Nat) (r : List Nat) : Prop :=
 r.length = la.length + lb.length /\ Wd r /\ c < 4294967296 /\ val r + 4294967296 ^ (k + j) * c = val (la.take k) * val lb + 4294967296 ^ k * (gd la k * val (lb.take j)) /\
  ∀ j, k + lb.length <= j -> gd r j = 0
theorem MulInv.start (la lb : List Nat) : MulInv la lb 0 (List.replicate (la.length + lb.length) 0) :=
 ⟨by simp, OD _, by rw [MH]; simp [val], fun j _ => PV _ j⟩
theorem MulInv.row (h : MulInv la lb k r) : RowInv la lb k 0 0 r :=
 ⟨h.1, h.2.1, by omega, by rw [h.2.2.1]; simp [val], h.2.2.2⟩
theorem RowInv.step {j : Nat} (h : RowInv la lb k j c r) (hk : k < la.length) (hj : j < lb.length) (t : Nat) (ht : t = gd la k * gd lb j + gd r (k + j) + c)
 (ha : gd la k < 4294967296) (hb : gd lb j < 4294967296) :
 RowInv la lb k (j + 1) (t / 4294967296) (r.set (k + j) (t % 4294967296)) := by
 obtain ⟨p, f, B, y, o⟩ := h
 have u := FL f (k + j)
 have v : gd la k * gd lb j <= 4294967295 * 4294967295 := Nat.mul_le_mul AA AA
 refine ⟨by simpa using p, VF f _ _ AA, by omega, ?_, fun i l => ?_⟩
 . have q := bH r (k + j) (t % 4294967296) AA
   have e : 4294967296 ^ (k + j) * (t % 4294967296) + 4294967296 ^ (k + (j + 1)) * (t / 4294967296) = 4294967296 ^ (k + j) * t := by
    rw [<- Nat.add_assoc, Nat.pow_succ, Nat.mul_assoc, <- Nat.mul_add, Nat.mod_add_div]
   rw [DQ, Nat.mul_add, Nat.mul_add]
   have e2 : 4294967296 ^ k * (gd la k * (4294967296 ^ j * gd lb j)) = 4294967296 ^ (k + j) * (gd la k * gd lb j) := by rw [Nat.pow_add]; grind
   rw [e2]
   have e3 : 4294967296 ^ (k + j) * t = 4294967296 ^ (k + j) * (gd la k * gd lb j) + 4294967296 ^ (k + j) * gd r (k + j) + 4294967296 ^ (k + j) * c := by rw [ht]; grind
   omega
 rw [GL _ _ _ _ AA]; exact o i l
theorem RowInv.done (h : RowInv la lb k lb.length c r) (hk : k < la.length) :
 MulInv la lb (k + 1) (r.set (k + lb.length) c) := by
 obtain ⟨q, p, o, l, f⟩ := h
 refine ⟨by simpa using q, VF p _ _ o, ?_, fun i t => ?_⟩
 . have e := bH r (k + lb.length) c AA
   rw [f _ (Nat.le_refl _), Nat.mul_zero, Nat.add_zero] at e
   rw [e, l, DX lb _ (Nat.le_refl _), DQ]
   grind
 rw [GL _ _ _ _ AA]; exact f i AA
theorem xZ {a : Nat} (ha : a < 4294967296) (hb : b < 4294967296) (hc : c < 4294967296) (hd : d < 4294967296) :
 IntKind.u64.wrap ((a : Int) * (b : Int)) = (a : Int) * b /\ IntKind.u64.wrap ((a : Int) * (b : Int) + (c : Int)) = (a : Int) * b + c /\ IntKind.u64.wrap ((a : Int) * (b : Int) + (c : Int) + (d : Int)) = (a : Int) * b + c + d /\
  ∃ t : Nat, t = a * b + c + d /\ (a : Int) * b + c + d = (t : Int) /\ t < 18446744073709551616 := by
 have h : a * b <= 4294967295 * 4294967295 := Nat.mul_le_mul AA AA
 have e : (a : Int) * b = ((a * b : Nat) : Int) := by simp
 rw [e]
 refine ⟨IntWalk.u64_in _ AA, IntWalk.u64_in _ AA, IntWalk.u64_in _ AA, _, O, by omega, by omega⟩
theorem sA {a : Nat} (ha : a < 4294967296) (hb : b < 4294967296) (hc : c < 4294967296) (hd : d < 4294967296) : a * b + c + d < 18446744073709551616 /\ a * b <= 18446744065119617025 := by
 have : a * b <= 4294967295 * 4294967295 := Nat.mul_le_mul AA AA
 omega
set_option maxRecDepth 100000 in
set_option maxHeartbeats 2000000 in
theorem Ci (va vb : Value) (la lb : List Nat) (w : World) (ha : Sl w va la) (hb : Sl w vb lb) (hsa : la.length <= 1000000000) (hsb : lb.length <= 1000000000) :
 Calls prog 211 #[va, vb] w (Dv w (CD (val la * val lb))) := by
 obtain ⟨aoa, capa, rfl, ha1, ha2, ha3, _, ha4⟩ := ha
 obtain ⟨aob, capb, rfl, hb1, hb2, hb3, _, hb4⟩ := hb
 have HA := Lib.hid ha4
 have HB := Lib.hid hb4
 have WA := Lib.hid ha3
 have WB := Lib.hid hb3
 clear ha4 hb4 ha3 hb3
 unfold maxLen at ha2 hb2
 go_enter func211, ntmps211
 go_wp2_with (at_make; refine FU _ rfl _ _ rfl _ _ (la.length + lb.length) rfl rfl ?c1 ?c2 ?c3 ?_)
 case c1 => omega
 case c2 => omega
 case c3 => omega
 intro w1 hown hbel hsz1
 go_wp2
 go_loopw [19] (fun i wr => ∃ (k : Nat) (r : List Nat), k <= la.length /\ i = .int .i64 k /\ MulInv la lb k r /\ Own wr w.heap.size w.heap.size (la.length + lb.length) r /\ Below w.heap.size w wr)
  (fun i _ => la.length - (intOf i).toNat)
 case atStart => exact ⟨0, _, by omega, rfl, MulInv.start _ _, hown, hbel⟩
 case round =>
  clear hown hbel hsz1
  obtain ⟨k, r, hk, rfl, hinv, hown, hbel⟩ := hrel
  by_cases hlt : k < la.length
  . obtain ⟨b, off, rfl, hca0⟩ := HA.out k hlt
    have hca := DB hca0 hbel
    have hxa := FL WA.out k
    go_wp2
    obtain ⟨wo, rfl⟩ : ∃ wo : World, wo = wr := ⟨_, rfl⟩
    go_loopw [7, 29] (fun c i wr => ∃ (j cr : Nat) (r : List Nat), j <= lb.length /\ cr < 4294967296 /\ i = .int .i64 j /\ c = .int .u64 cr /\ RowInv la lb k j cr r /\ Own wr w.heap.size w.heap.size (la.length + lb.length) r /\ Below w.heap.size w wr)
     (fun _ i _ => lb.length - (intOf i).toNat)
    case atStart => exact ⟨0, 0, r, by omega, by omega, rfl, rfl, hinv.row, hown, hbel⟩
    case round =>
     clear hown hbel hinv hca
     obtain ⟨j, cr, r, hj, hcr, rfl, rfl, hinv, hown, hbel⟩ := hrel
     by_cases hltb : j < lb.length
     . obtain ⟨b2, off2, rfl, hcb⟩ := HB.out j hltb
       have hcb := DB hcb hbel
       have hxb := FL WB.out j
       have hcr1 := hown.cell (k + j) AA
       have hfr := hown.free (k + j)
       have hxr := FL hinv.2.1 (k + j)
       have hmb := sA hxa hxb hxr hcr
       obtain ⟨s1, s2, s3, t, ht, s4, ht2⟩ := xZ hxa hxb hxr hcr
       have HT := Lib.hid ht
       have q1 : IntKind.i64.wrap ((k : Int) + (j : Int)) = (k : Int) + (j : Int) := IntWalk.i64_in _ AA
       have q2 : (0 : Int) <= (k : Int) + (j : Int) := by omega
       have q3 : ((k : Int) + (j : Int)).toNat = k + j := by omega
       have q4 : ((k : Int) + (j : Int)) < (la.length : Int) + (lb.length : Int) := by omega
       clear ht hmb
       go_wp2
       go_quiet (fail)
       clear q1 q2 q3 q4 s1 s2 s3
       go_wp2
       go_roundw
       case rel =>
        exact ⟨j + 1, t / 4294967296, _, by omega, by omega, by go_num, by go_num, hinv.step hlt hltb t HT.out hxa hxb, Own.set (hown.drewN _) (k + j) _ (t % 4294967296) AA, (JJ hbel _).setCell (Nat.le_refl _) _⟩
       case measure => simp [intOf]; omega
     obtain rfl : j = lb.length := by omega
     have hcr1 := hown.cell (k + lb.length) AA
     have hfr := hown.free (k + lb.length)
     have hd := hinv.done hlt
     go_wp2
     go_roundw
     case rel => exact ⟨k + 1, _, by omega, by go_num, hd, hown.set (k + lb.length) _ cr AA, hbel.setCell (Nat.le_refl _) _⟩
     case measure => simp [intOf]; omega
  obtain rfl : k = la.length := by omega
  have HD : Hid (val r = val la * val lb) := by
   have := hinv.2.2.1
   rwa [DX la _ (Nat.le_refl _)] at this
  go_wp2_with fail
  refine (OO _ r _ (hown.sl hinv.2.1)).mono ?_
  rintro e w' ⟨rfl, v', rfl, hsl⟩
  have hsl := hsl _ (hown.sl hinv.2.1)
  rw [HD.out] at hsl
  go_wp2
  go_ret
  exact ⟨v', rfl, hsl, hbel⟩
def DiffInv (la lb : List Nat) (k c : Nat) (r : List Nat) : Prop :=
 c <= 1 /\ k <= la.length /\ ∃ done : List Nat, r = done ++ List.replicate (la.length - k) 0 /\ done.length = k /\ Wd done /\
  val done + val (lb.take k) = val (la.take k) + 4294967296 ^ k * c
theorem DiffInv.start (la lb : List Nat) : DiffInv la lb 0 0 (List.replicate la.length 0) :=
 ⟨by omega, by omega, [], by simp, rfl, WZ, by simp [val]⟩
theorem DiffInv.step (h : DiffInv la lb k c r) (hk : k < la.length) (x c' : Nat) (hx : x < 4294967296) (hc' : c' <= 1)
 (he : x + gd lb k + c = gd la k + 4294967296 * c') :
 DiffInv la lb (k + 1) c' (r.set k x) := by
 obtain ⟨q, o, done, rfl, f, l, p⟩ := h
 refine ⟨hc', by omega, done ++ [x], ?_, by simp [f], ?_, ?_⟩
 . have := nG done (la.length - k) x AA
   rw [f] at this
   rw [this, Nat.sub_sub]
 . rw [Wd_append, Wd_cons]; exact ⟨l, hx, WZ⟩
 rw [ZT, DQ, DQ, f, Nat.pow_succ]
 have e := congrArg (4294967296 ^ k * ·) he
 simp only [Nat.mul_add] at e
 rw [Nat.mul_assoc]
 omega
theorem DiffInv.done (h : DiffInv la lb la.length c r) (hb : lb.length <= la.length) (_ : Wd la) (hle : val lb <= val la) :
 Wd r /\ val r = val la - val lb := by
 obtain ⟨l, _, done, rfl, k, e, f⟩ := h
 rw [Nat.sub_self, List.replicate_zero, List.append_nil]
 rw [DX lb _ hb, DX la _ (Nat.le_refl _)] at f
 have o := GV e
 rw [k] at o
 refine ⟨e, ?_⟩
 rcases Nat.le_one_iff_eq_zero_or_eq_one.1 l with rfl | rfl
 . omega
 exfalso; omega
theorem Ej {a b : Int} (h : a = b) : Value.int .u64 a = .int .u64 b := by rw [h]
def SumInv (la lb : List Nat) (n k c : Nat) (r : List Nat) : Prop :=
 c <= 1 /\ k <= n /\ ∃ done : List Nat, r = done ++ List.replicate (n - k) 0 /\ done.length = k /\ Wd done /\
  val done + 4294967296 ^ k * c = val (la.take k) + val (lb.take k)
theorem SumInv.start (la lb : List Nat) (n : Nat) : SumInv la lb n 0 0 (List.replicate n 0) :=
 ⟨by omega, by omega, [], by simp, rfl, WZ, by simp [val]⟩
theorem SumInv.step (h : SumInv la lb n k c r) (hk : k < n) (s : Nat) (hs : s = gd la k + gd lb k + c) (ha : gd la k < 4294967296) (hb : gd lb k < 4294967296) :
 SumInv la lb n (k + 1) (s / 4294967296) (r.set k (s % 4294967296)) := by
 obtain ⟨q, o, done, rfl, f, l, p⟩ := h
 refine ⟨by omega, by omega, done ++ [s % 4294967296], ?_, by simp [f], ?_, ?_⟩
 . have := nG done (n - k) (s % 4294967296) AA
   rw [f] at this
   rw [this, Nat.sub_sub]
 . rw [Wd_append, Wd_cons]; exact ⟨l, by omega, WZ⟩
 rw [ZT, DQ, DQ, f, Nat.pow_succ]
 have e : 4294967296 ^ k * (s % 4294967296) + 4294967296 ^ k * 4294967296 * (s / 4294967296) = 4294967296 ^ k * s := by
  rw [Nat.mul_assoc, <- Nat.mul_add, Nat.mod_add_div]
 rw [hs] at e ⊢
 rw [Nat.mul_add, Nat.mul_add] at e
 omega
theorem SumInv.done (h : SumInv la lb n k c r) (hn : n = k + 1) (ha : la.length <= k) (hb : lb.length <= k) :
 Wd (r.set k c) /\ val (r.set k c) = val la + val lb := by
 obtain ⟨q, p, done, rfl, l, o, f⟩ := h
 have e : n - k = 1 := by omega
 have := nG done (n - k) c AA
 rw [l] at this
 rw [this, e]
 rw [DX la k ha, DX lb k hb] at f
 simp only [Nat.sub_self, List.replicate_zero, List.append_nil]
 refine ⟨by rw [Wd_append, Wd_cons]; exact ⟨o, by omega, WZ⟩, ?_⟩
 rw [ZT, l, f]
def IsI (w : World) (v : Value) (z : Int) : Prop := ∃ s, v = .agg #[.bool (decide (z < 0)), s] /\ Sl w s (CD z.natAbs)
theorem IsI.below (h : IsI w v z) (hb : Below w.heap.size w w') : IsI w' v z := by
 obtain ⟨s, rfl, e⟩ := h
 exact ⟨s, rfl, e.below hb⟩
def RetZ (w0 : World) (z : Int) (e : Ending) (w' : World) : Prop := ∃ v, e = .returned v /\ IsI w' v z /\ Below w0.heap.size w0 w'
theorem aV (v : Value) (l : List Nat) (w : World) (h : Sl w v l) (hlen : l.length <= 10000000000) :
 Calls prog 139 #[v] w (Dv w l) := by
 have H := Lib.hid h
 clear h
 go_enter func139, ntmps139
 go_wp2_with (at_builtin; refine kI _ rfl _ _ rfl w.heap.size _ _ [] l rfl rfl (Sn _ _) H.out ?c1 (Nat.le_refl _) ?_)
 case c1 => simp; omega
 intro e o f k
 go_wp2
 go_ret
 exact ⟨e, rfl, f.sl H.out.wd, k⟩
theorem mM (w : World) (X Y : Int) (x y : Nat) (hx : X = (x : Nat)) (hy : Y = (y : Nat)) (hw : Wd [x, y]) :
 Sl (w.alloc (.cells #[.int .u32 X, .int .u32 Y] 186)) (.slice (some ⟨w.heap.size, 0, none⟩) 2 2) [x, y] := by
 subst hx hy
 exact OwnA.sl (base := w.heap.size) (World.ownsRow_lit (base := w.heap.size) (size := 1) w #[.int .u32 x, .int .u32 y] 2 (Nat.le_refl _) YpV rfl) hw
theorem Xd (w : World) (X : Int) (x : Nat) (hx : X = (x : Nat)) (hw : x < 4294967296) :
 Sl (w.alloc (.cells #[.int .u32 X] 186)) (.slice (some ⟨w.heap.size, 0, none⟩) 1 1) [x] := by
 subst hx
 exact OwnA.sl (base := w.heap.size) (World.ownsRow_lit (base := w.heap.size) (size := 1) w #[.int .u32 x] 1 (Nat.le_refl _) YpV rfl) (by rw [Wd_cons]; exact ⟨hw, WZ⟩)
theorem qX (m : Nat) (h : m < 18446744073709551616) : Wd [m % 4294967296, m / 4294967296] /\ val [m % 4294967296, m / 4294967296] = m := by
 refine ⟨by rw [Wd_cons, Wd_cons]; exact ⟨by omega, by omega, WZ⟩, ?_⟩
 rw [KJ, KJ, eQ]; omega
set_option maxHeartbeats 400000 in
theorem eP (m : Nat) (w : World) (h : m < 18446744073709551616) :
 Calls prog 163 #[.int .u64 m] w (Dv w (CD m)) := by
 go_enter func163, ntmps163
 have l := qX m h
 have k := Lib.hid l
 clear l
 go_wp2_with fail
 refine (OO _ _ _ (mM w _ _ (m % 4294967296) (m / 4294967296) AA AA k.out.1)).mono ?_
 rintro e p ⟨rfl, o, rfl, f⟩
 have f := f _ (mM w ((m : Int) % 4294967296) ((m : Int) / 4294967296) (m % 4294967296) (m / 4294967296) AA AA k.out.1)
 rw [k.out.2] at f
 go_wp2
 go_ret
 exact ⟨o, rfl, f, (Below.refl _ _).alloc (Nat.le_refl _) _⟩
def IV (neg : Bool) (n : Nat) : Int := if neg then -(n : Int) else n
theorem iU (neg : Bool) : IV neg 0 = 0 := by cases neg <;> rfl
theorem fE (neg : Bool) (n : Nat) : (IV neg n).natAbs = n := by cases neg <;> simp [IV]
theorem tL (neg : Bool) (n : Nat) (h : n ≠ 0) : decide (IV neg n < 0) = neg := by cases neg <;> simp [IV] <;> omega
theorem Ab (x : Nat) (h : x < 4294967296) : Lib.bitLen x <= 32 := by
 have := Lib.bitLenAux_le 64 x 32 AA
 exact this
def pK (n : Nat) : Nat := if n = 0 then 0 else 32 * ((CD n).length - 1) + Lib.bitLen (gd (CD n) ((CD n).length - 1))
theorem Iw (neg : Bool) (v : Value) (l : List Nat) (w : World) (h : Sl w v l) :
 Calls prog 138 #[.bool neg, v] w (RetZ w (IV neg (val l))) := by
 have H := Lib.hid h
 clear h
 go_enter func138, ntmps138
 go_wp2_with fail
 refine (OO _ l _ (H.out.below ((Below.refl _ _).alloc (Nat.le_refl _) _))).mono ?_
 rintro e D ⟨rfl, F, rfl, f⟩
 obtain ⟨t, o, rfl, J, I, G, y, B⟩ := f w H.out
 have C := Lib.hid f
 clear f B y
 by_cases k : val l = 0
 . have p : ((CD (val l)).length : Int) = 0 := by rw [k, EG]; rfl
   have u : (((CD (val l)).length : Int) == 0) = true := by rw [p]; rfl
   have q := Lib.hid k
   clear k p
   go_wp2
   refine AQ (v := .agg #[.bool false, .slice none 0 0]) YK2 O ⟨_, O, ⟨.slice none 0 0, ?_, ?_⟩, (Below.refl _ _).alloc (Nat.le_refl _) _⟩
   . rw [q.out, iU]; rfl
   rw [q.out, iU]; simp only [Int.natAbs_zero, EG]; exact eK _
 have p : (CD (val l)).length ≠ 0 := fun e => k ((FY _).1 (List.eq_nil_of_length_eq_zero e))
 have u : (((CD (val l)).length : Int) == 0) = false := by rw [beq_eq_false_iff_ne]; omega
 have q := Lib.hid k
 clear k p
 go_wp2
 refine AQ (v := .agg #[.bool neg, .slice t (CD (val l)).length o]) YK2 O ⟨_, O, ⟨.slice t (CD (val l)).length o, ?_, ?_⟩, (Below.refl _ _).alloc (Nat.le_refl _) _⟩
 . rw [tL _ _ q.out]
 rw [fE]
 exact C.out _ (H.out.below ((Below.refl _ _).alloc (Nat.le_refl _) _))
theorem FW {a b : Int} (h : a = b) : Ending.returned (.int .i64 a) = .returned (.int .i64 b) := by rw [h]
theorem OW (h : x < y) : JR x y = -1 := by unfold JR; rw [if_pos h]
theorem QD (h : y < x) : JR x y = 1 := by unfold JR; rw [if_neg AA, if_neg AA]
theorem WF (h : x = y) : JR x y = 0 := by unfold JR; rw [if_neg AA, if_pos h]
def SameFrom (a b : List Nat) (k : Nat) : Prop := ∀ j, k <= j -> j < a.length -> gd a j = gd b j
theorem SameFrom.start (a b : List Nat) : SameFrom a b a.length := fun j h1 h2 => by omega
theorem SameFrom.step {a b : List Nat} (h : SameFrom a b (k + 1)) (e : gd a k = gd b k) : SameFrom a b k := by
 intro j o l
 rcases Nat.lt_or_ge k j with f | f
 . exact h j f l
 obtain rfl : j = k := by omega
 exact e
theorem SameFrom.lt (h : SameFrom (CD m) (CD n) (k + 1)) (hl : (CD m).length = (CD n).length) (hk : k < (CD m).length) (hx : gd (CD m) k < gd (CD n) k) : m < n := by
 have := mW hl (GF m) k hk (fun j f e => h j f e) hx
 rwa [CO, CO] at this
theorem SameFrom.gt (h : SameFrom (CD m) (CD n) (k + 1)) (hl : (CD m).length = (CD n).length) (hk : k < (CD m).length) (hx : gd (CD n) k < gd (CD m) k) : n < m := by
 have := mW hl.symm (GF n) k AA (fun j e f => (h j e AA).symm) hx
 rwa [CO, CO] at this
theorem SameFrom.eq (h : SameFrom (CD m) (CD n) 0) (hl : (CD m).length = (CD n).length) : m = n :=
 zJ (uZ hl fun i hi => h i (Nat.zero_le _) hi)
def RetI (w0 : World) (x : Int) (e : Ending) (w' : World) : Prop := e = .returned (.int .i64 x) /\ ∃ q, w' = w0.drewN q
set_option maxHeartbeats 1000000 in
theorem aU (va vb : Value) (m n : Nat) (w : World) (ha : Sl w va (CD m)) (hb : Sl w vb (CD n)) :
 Calls prog 188 #[va, vb] w (RetI w (JR m n)) := by
 obtain ⟨aoa, capa, rfl, ha1, ha2, ha3, _, ha4⟩ := ha
 obtain ⟨aob, capb, rfl, hb1, hb2, hb3, _, hb4⟩ := hb
 have HA := Lib.hid ha4
 have HB := Lib.hid hb4
 have WA := Lib.hid ha3
 have WB := Lib.hid hb3
 clear ha4 hb4 ha3 hb3
 unfold maxLen at ha2 hb2
 by_cases hne : (CD m).length = (CD n).length
 . have hd : (((CD m).length : Int) != ((CD n).length : Int)) = false := by rw [bne_eq_false_iff_eq]; omega
   have HL := Lib.hid hne
   have hl1 : (CD m).length <= (CD n).length := by omega
   have hl2 : (CD n).length <= (CD m).length := by omega
   clear hne
   go_enter func188, ntmps188
   go_wp2
   go_loopw [5] (fun i wr => ∃ (k : Nat) (z : Int), k <= (CD m).length /\ z + 1 <= k /\ k <= z + 1 /\ i = .int .i64 z /\ SameFrom (CD m) (CD n) k /\ ∃ q, wr = w.drewN q) (fun i _ => (intOf i + 1).toNat)
   case atStart => exact ⟨_, _, Nat.le_refl _, by omega, by omega, rfl, SameFrom.start _ _, 0, rfl⟩
   case round =>
    obtain ⟨k, z, hk, hz1, hz2, rfl, hs, q, rfl⟩ := hrel
    by_cases hk0 : k = 0
    . subst hk0
      have hz : z < 0 := by omega
      go_wp2
      go_ret
      exact ⟨FW (WF (by rw [hs.eq HL.out])).symm, q, rfl⟩
    obtain ⟨j, rfl⟩ : ∃ j, k = j + 1 := ⟨k - 1, by omega⟩
    obtain rfl : z = (j : Int) := by omega
    clear hk0
    obtain ⟨b, off, rfl, hca⟩ := HA.out j AA
    obtain ⟨b2, off2, rfl, hcb⟩ := HB.out j AA
    rcases Nat.lt_trichotomy (gd (CD m) j) (gd (CD n) j) with hx | hx | hx
    . have h1 : (((gd (CD m) j : Nat) : Int) != ((gd (CD n) j : Nat) : Int)) = true := by rw [bne_iff_ne]; omega
      go_wp2
      go_quiet (fail)
      go_wp2
      go_quiet (fail)
      go_wp2
      go_ret
      exact ⟨FW (OW (by have := hs.lt HL.out AA hx; omega)).symm, _, by simp only [World.drewN_drewN]; rfl⟩
    . have h1 : (((gd (CD m) j : Nat) : Int) != ((gd (CD n) j : Nat) : Int)) = false := by rw [bne_eq_false_iff_eq]; omega
      have hst := hs.step hx
      clear hx hs
      go_wp2
      go_quiet (fail)
      go_wp2
      go_roundw
      case rel => exact ⟨j, _, by omega, by omega, by omega, rfl, hst, (by first | exact ⟨_, rfl⟩ | exact ⟨_, by simp only [World.drewN_drewN]; rfl⟩)⟩
      case measure => simp [intOf]
    have h1 : (((gd (CD m) j : Nat) : Int) != ((gd (CD n) j : Nat) : Int)) = true := by rw [bne_iff_ne]; omega
    go_wp2
    go_quiet (fail)
    go_wp2
    go_quiet (fail)
    go_wp2
    go_ret
    exact ⟨FW (QD (by have := hs.gt HL.out AA hx; omega)).symm, _, by simp only [World.drewN_drewN]; rfl⟩
 by_cases hlt : (CD m).length < (CD n).length
 . have hmn := MZ hlt
   have HR := Lib.hid (OW (x := m) (y := n) AA)
   exact Zpy
 have hmn := MZ (m := n) (n := m) AA
 have HR := Lib.hid (QD (x := m) (y := n) AA)
 exact Zpy
set_option maxHeartbeats 2000000
def VI (w0 : World) (x : Int) (e : Ending) (w' : World) : Prop := e = .returned (.int .i64 x) /\ Below w0.heap.size w0 w'
def LN (w0 : World) (x : Bool) (e : Ending) (w' : World) : Prop := e = .returned (.bool x) /\ Below w0.heap.size w0 w'
def OY (z : Int) : Int := JR z 0
def Fits (z : Int) (n : Nat) : Prop := (CD z.natAbs).length <= n
theorem YZ (z : Int) : ((CD z.natAbs).length : Int) = 0 ↔ z = 0 := by
 constructor
 . intro h
   have e := (FY z.natAbs).1 (List.eq_nil_of_length_eq_zero AA)
   omega
 intro h
 subst h
 rw [Int.natAbs_zero, EG]; rfl
theorem pR (v : Value) (z : Int) (w : World) (h : IsI w v z) :
 Calls prog 127 #[v] w (VI w (OY z)) := by
 obtain ⟨s, rfl, l⟩ := h
 obtain ⟨B, t, rfl, y, u, q, o, p⟩ := l
 clear p o q
 have e := YZ z
 rcases Int.lt_trichotomy z 0 with f | f | f
 . have k : (((CD z.natAbs).length : Int) == 0) = false := by rw [beq_eq_false_iff_ne]; intro h; have := e.1 h; omega
   rw [show decide (z < 0) = true by simpa using f, show OY z = -1 from OW f]
   clear e
   exact Za7
 . have k : (((CD z.natAbs).length : Int) == 0) = true := by rw [beq_iff_eq]; exact e.2 f
   rw [show OY z = 0 from WF f]
   clear e f
   exact Za7
 have k : (((CD z.natAbs).length : Int) == 0) = false := by rw [beq_eq_false_iff_ne]; intro h; have := e.1 h; omega
 rw [show decide (z < 0) = false by simp; omega, show OY z = 1 from QD f]
 clear e
 exact Za7
theorem IsI.parts (h : IsI w v z) : ∃ (ao : Option Addr) (cap : Nat), v = .agg #[.bool (decide (z < 0)), .slice ao (CD z.natAbs).length cap] /\ Sl w (.slice ao (CD z.natAbs).length cap) (CD z.natAbs) /\ (CD z.natAbs).length <= cap /\ cap <= 9223372036854775807 := by
 obtain ⟨s, rfl, k⟩ := h
 obtain ⟨ao, cap, rfl, f, e, p, l, o⟩ := k
 exact ⟨ao, cap, rfl, ⟨ao, cap, rfl, f, e, p, l, o⟩, f, by unfold maxLen at e; omega⟩
theorem MC (z : Int) : (z < 0 /\ OY z = -1) ∨ (z = 0 /\ OY z = 0) ∨ (0 < z /\ OY z = 1) := by
 rcases Int.lt_trichotomy z 0 with e | e | e
 . exact .inl ⟨e, OW e⟩
 . exact .inr (.inl ⟨e, WF e⟩)
 exact .inr (.inr ⟨e, QD e⟩)
theorem Rq (w : World) (n1 n2 : Bool) (s1 s2 : Value) : ∃ W, W = ((w.alloc (.cells #[.bool n1, s1] 62)).alloc (.cells #[.bool n2, s2] 62)) /\ W.heap.size = w.heap.size + 2 /\ Below w.heap.size w W /\
 W.cell? ⟨w.heap.size, 0, none⟩ = some (.bool n1) /\ W.cell? ⟨w.heap.size, 1, none⟩ = some s1 /\ W.cell? ⟨w.heap.size + 1, 0, none⟩ = some (.bool n2) /\ W.cell? ⟨w.heap.size + 1, 1, none⟩ = some s2 := by
 refine ⟨_, O, by simp, ((Below.refl _ _).alloc (Nat.le_refl _) _).alloc AH _, ?_, ?_, ?_, ?_⟩ <;> simp [go_sem]
theorem qN (h : OY x < OY y) : JR x y = -1 := by
 rcases MC x with ⟨l, k⟩ | ⟨l, k⟩ | ⟨l, k⟩ <;> rcases MC y with ⟨f, e⟩ | ⟨f, e⟩ | ⟨f, e⟩ <;> first | (exfalso; omega) | exact OW AA
theorem qO (h : OY y < OY x) : JR x y = 1 := by
 rcases MC x with ⟨l, k⟩ | ⟨l, k⟩ | ⟨l, k⟩ <;> rcases MC y with ⟨f, e⟩ | ⟨f, e⟩ | ⟨f, e⟩ <;> first | (exfalso; omega) | exact QD AA
theorem pH {x' y' : Int} (h1 : x < y ↔ x' < y') (h2 : x = y ↔ x' = y') : JR x y = JR x' y' := by
 unfold JR
 by_cases a : x < y
 . rw [if_pos a, if_pos (h1.1 a)]
 rw [if_neg a, if_neg (fun h => a (h1.2 h))]
 by_cases b : x = y
 . rw [if_pos b, if_pos (h2.1 b)]
 rw [if_neg b, if_neg (fun h => b (h2.2 h))]
theorem Wm (h : OY x = OY y) (hn : OY x < 0) : JR (y.natAbs : Int) (x.natAbs : Int) = JR x y := by
 exact Zx9
theorem Wl (h : OY x = OY y) (hn : ¬ OY x < 0) : JR (x.natAbs : Int) (y.natAbs : Int) = JR x y := by
 exact Zx9
theorem Cmp_z (va vb : Value) (x y : Int) (w : World) (ha : IsI w va x) (hb : IsI w vb y) :
 Calls prog 165 #[va, vb] w (VI w (JR x y)) := by
 obtain ⟨u, o, rfl, X, a3, a2⟩ := ha.parts
 obtain ⟨t, l, rfl, U, a1, a0⟩ := hb.parts
 have HA := Lib.hid ha
 have HB := Lib.hid hb
 have SA := Lib.hid X
 have SB := Lib.hid U
 clear ha hb X U
 obtain ⟨W, Y, H, B, T, S, R, Q⟩ := Rq w (decide (x < 0)) (decide (y < 0)) (.slice u (CD x.natAbs).length o) (.slice t (CD y.natAbs).length l)
 go_enter func165, ntmps165
 go_upto_region 1 with fail
 rw [<- Y]
 clear Y H
 go_region_held3 (fun G => G.cell? ⟨w.heap.size, 0, none⟩ = some (.bool (decide (x < 0))) /\ G.cell? ⟨w.heap.size, 1, none⟩ = some (.slice u (CD x.natAbs).length o) /\ G.cell? ⟨w.heap.size + 1, 0, none⟩ = some (.bool (decide (y < 0))) /\ G.cell? ⟨w.heap.size + 1, 1, none⟩ = some (.slice t (CD y.natAbs).length l))
  (first | exact ⟨T, S, R, Q⟩ | exact ⟨P, N, L, J⟩ | exact ⟨f0, f1, f2, f3⟩)
  (first
    | (go_at_call_of 127 (Value.slice u (CD x.natAbs).length o); refine (pR _ x _ ?_).mono ?_; exact HA.out.below B.drew; rintro e w1 ⟨rfl, f⟩; have P := DB (w := W.drew) T f; have N := DB (w := W.drew) S f; have L := DB (w := W.drew) R f; have J := DB (w := W.drew) Q f)
    | (go_at_call_of 127 (Value.slice t (CD y.natAbs).length l); refine (pR _ y _ ?_).mono ?_; exact HB.out.below (B.drew.trans (f.mono B.size)); rintro e w2 ⟨rfl, h⟩; have f0 := DB P h; have f1 := DB N h; have f2 := DB L h; have f3 := DB J h))
 have C : Below w.heap.size w w2 := (B.drew.trans (f.mono B.size)).trans (h.mono (by have := f.size; have := B.size; simp at *; omega))
 have F := Lib.hid (SA.out.below C)
 have D := Lib.hid (SB.out.below C)
 clear T S R Q P N L J f h B
 by_cases k : OY x = OY y
 . have h1 : (OY x != OY y) = false := by rw [bne_eq_false_iff_eq]; exact k
   by_cases p : OY x < 0
   . have v := Lib.hid (Wm k p)
     clear k
     go_wp2_with fail
     refine (aU _ _ y.natAbs x.natAbs _ D.out F.out).mono ?_
     exact ZCG
   have v := Lib.hid (Wl k p)
   clear k
   go_wp2_with fail
   refine (aU _ _ x.natAbs y.natAbs _ F.out D.out).mono ?_
   exact ZCG
 have h1 : (OY x != OY y) = true := by rw [bne_iff_ne]; exact k
 by_cases I : OY x < OY y
 . have v := Lib.hid (qN I)
   clear k
   go_wp2_with fail
   go_ret
   exact ⟨by rw [v.out]; rfl, C⟩
 have v := Lib.hid (qO (show OY y < OY x by omega))
 clear k
 go_wp2_with fail
 go_ret
 exact ⟨by rw [v.out]; rfl, C⟩
end Go.Proofs.YtmppigbbkjepiaaGreatDoor
