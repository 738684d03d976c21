/- Helping facts of SynL; no other conditions. Helping facts of KitP; no other conditions. -/
import Derived.Test.YtmppigbbkjepiaaGreatDoorRat2
import Derived.Test.YtmppigbbkjepiaaGreatDoorMono
import Derived.Lib.Join
namespace Go.Proofs.YtmppigbbkjepiaaGreatDoor
open W
variable {L : List SF} {M m : List Nat} {S S' : Nat -> Prop} {T b base cap i n o off t : Nat} {ao : Option Addr} {hi lo : Int} {s u v : Value} {w w' : World} {x y : Operand} {zs : List Value} {α : Type}
theorem YbK {p : Prop} (h : p := by simp [h]) : p := h
abbrev Bs := List UInt8
abbrev Tm := Rat × List Nat
def NJ (b : UInt8) : Bs -> Option (Bs × Bs)
 | [] => none
 | x :: l => if x = b then some ([], l) else (NJ b l).map fun p => (x :: p.1, p.2)
theorem cutB_none {b : UInt8} {l : Bs} : NJ b l = none ↔ b ∉ l := by
 induction l with
 | nil => simp [NJ]
 | cons x l ih =>
   simp only [NJ]
   by_cases h : x = b
   . simp [h]
   rw [if_neg h]; simp [ih, Ne.symm h]
theorem cutB_some {b : UInt8} {l x y : Bs} : NJ b l = some (x, y) ↔ l = x ++ b :: y /\ b ∉ x := by
 induction l generalizing x with
 | nil => simp [NJ]
 | cons c l ih =>
   simp only [NJ]
   by_cases h : c = b
   . rw [if_pos h]
     constructor
     . intro e; simp only [Option.some.injEq, Prod.mk.injEq] at e; obtain ⟨rfl, rfl⟩ := e; simp [h]
     rintro ⟨e, f⟩
     cases x with
     | nil => simp at e; simp [e.2]
     | cons d x => simp at e; exact absurd (by simp [<- e.1, h]) f
   rw [if_neg h]
   cases k : NJ b l with
   | none =>
     simp only [Option.map_none, reduceCtorEq, false_iff]
     rintro ⟨e, f⟩
     cases x with
     | nil => simp at e; exact h e.1
     | cons d x => simp at e; exact cutB_none.1 k (by rw [e.2]; simp)
   | some p =>
     obtain ⟨u, v⟩ := p
     simp only [Option.map_some, Option.some.injEq, Prod.mk.injEq]
     constructor
     . rintro ⟨rfl, rfl⟩
       obtain ⟨e, f⟩ := ih.1 k
       exact ⟨by rw [e]; rfl, by simp [f, Ne.symm h]⟩
     rintro ⟨e, f⟩
     cases x with
     | nil => simp at e; exact absurd e.1 h
     | cons d x =>
       simp at e
       obtain ⟨rfl, e⟩ := e
       have := ih.2 ⟨e, fun g => f (by simp [g])⟩
       rw [k] at this
       simp only [Option.some.injEq, Prod.mk.injEq] at this
       exact ⟨by rw [this.1], this.2⟩
def FG (b : UInt8) : Bs -> List Bs
 | [] => [[]]
 | x :: l => if x = b then [] :: FG b l else match FG b l with
   | [] => [[x]]
   | h :: t => (x :: h) :: t
def jn (b : UInt8) : List Bs -> Bs
 | [] => []
 | [x] => x
 | x :: y :: r => x ++ b :: jn b (y :: r)
theorem IP (b : UInt8) (x : Bs) {r : List Bs} (h : r ≠ []) : jn b (x :: r) = x ++ b :: jn b r := by
 cases r with
 | nil => exact absurd rfl h
 | cons y r => rfl
theorem Uj (b : UInt8) (l : List Bs) : Lib.join l [b] = jn b l := by
 induction l with
 | nil => rfl
 | cons x r ih =>
   cases r with
   | nil => rw [Lib.join_one]; rfl
   | cons y r =>
     rw [IP b x AH, <- ih, Lib.join_cons, Lib.join_cons]
     simp [Lib.joinTail]
theorem SR (b : UInt8) (l : Bs) : FG b l ≠ [] := by
 cases l with
 | nil => simp [FG]
 | cons x l =>
   simp only [FG]
   split
   . simp
   split <;> simp
theorem kK (b : UInt8) {x y : Bs} (h : b ∉ x) : FG b (x ++ b :: y) = x :: FG b y := by
 induction x with
 | nil => simp [FG]
 | cons c x ih =>
   have k : ¬ c = b := fun e => h (by simp [e])
   have f : b ∉ x := fun e => h (by simp [e])
   simp only [List.cons_append, FG]
   rw [if_neg k, ih f]
theorem cX (b : UInt8) {x : Bs} (h : b ∉ x) : FG b x = [x] := by
 induction x with
 | nil => rfl
 | cons c x ih =>
   have k : ¬ c = b := fun e => h (by simp [e])
   have f : b ∉ x := fun e => h (by simp [e])
   simp only [FG]
   rw [if_neg k, ih f]
theorem gU (b : UInt8) {l : List Bs} (h : l ≠ []) (hb : ∀ x ∈ l, b ∉ x) : FG b (jn b l) = l := by
 induction l with
 | nil => exact absurd rfl h
 | cons x r ih =>
   cases r with
   | nil => exact cX b (hb x AH)
   | cons y r =>
     rw [IP b x AH, kK b (hb x AH), ih AH (fun z e => hb z (by simp [e]))]
theorem Cg (b : UInt8) (l : Bs) : jn b (FG b l) = l := by
 induction l with
 | nil => rfl
 | cons x l ih =>
   simp only [FG]
   by_cases h : x = b
   . rw [if_pos h, IP b [] (SR b l), ih, h]; rfl
   rw [if_neg h]
   cases e : FG b l with
   | nil => exact absurd e (SR b l)
   | cons y r =>
     rw [e] at ih
     simp only
     cases r with
     | nil => simp only [jn] at ih ⊢; rw [ih]
     | cons z r => rw [IP b (x :: y) AH]; rw [IP b y AH] at ih; rw [List.cons_append, ih]
def ML (l : Bs) : Option Rat := match NJ 47 l with
 | none => (DW l).map fun z => Rat.divInt z 1
 | some (a, b) => match DW a, DW b with
   | some n, some d => if vq n d /\ d ≠ 1 then some (Rat.divInt n d) else none
   | _, _ => none
theorem UC {l : Bs} {x : Rat} (h : ML l = some x) : l = (KD x).data.toList := by
 unfold ML at h
 cases k : NJ 47 l with
 | none =>
   rw [k] at h
   cases f : DW l with
   | none => simp [f] at h
   | some z =>
     simp only [f, Option.map_some, Option.some.injEq] at h
     rw [<- h]; exact Yz f
 | some p =>
   obtain ⟨a, b⟩ := p
   rw [k] at h
   obtain ⟨rfl, q⟩ := cutB_some.1 k
   cases e : DW a with
   | none => simp [e] at h
   | some n =>
     cases o : DW b with
     | none => simp [e, o] at h
     | some d =>
       simp only [e, o] at h
       by_cases g : vq n d /\ d ≠ 1
       . rw [if_pos g] at h
         simp only [Option.some.injEq] at h
         rw [<- h]; exact Xc e o g.1 g.2
       rw [if_neg g] at h; cases h
theorem iZ {l : Bs} (h : ML l = none) (x : Rat) : l ≠ (KD x).data.toList := by
 unfold ML at h
 cases f : NJ 47 l with
 | none =>
   rw [f] at h
   cases t : DW l with
   | none => exact Ej (cutB_none.1 f) t x
   | some z => simp [t] at h
 | some p =>
   obtain ⟨a, b⟩ := p
   rw [f] at h
   obtain ⟨rfl, k⟩ := cutB_some.1 f
   cases q : DW a with
   | none => exact Em k q x
   | some n =>
     cases o : DW b with
     | none => exact Ek k o x
     | some d =>
       simp only [q, o] at h
       by_cases g : vq n d /\ d ≠ 1
       . rw [if_pos g] at h; cases h
       refine sX k q o ?_ x
       by_cases u : vq n d
       . exact .inr (Decidable.by_contra fun e => g ⟨u, e⟩)
       exact .inl u
theorem mY (x : Rat) : ML (KD x).data.toList = some x := by
 cases h : ML (KD x).data.toList with
 | none => exact absurd rfl (iZ h x)
 | some y => rw [vG (cD (UC h))]
def FY (lo hi : Int) (l : Bs) : Option Nat := match DW l with
 | some z => if lo <= z /\ z <= hi then some z.toNat else none
 | none => none
theorem gZ (h1 : lo <= (n : Int)) (h2 : (n : Int) <= hi) : FY lo hi (txt (n : Int)) = some n := by
 unfold FY; rw [VD]; simp only; rw [if_pos ⟨h1, h2⟩]; simp
theorem TE {l : Bs} (h0 : 0 <= lo) (h : FY lo hi l = some n) : l = txt (n : Int) /\ lo <= (n : Int) /\ (n : Int) <= hi := by
 unfold FY at h
 cases e : DW l with
 | none => simp [e] at h
 | some z =>
   simp only [e] at h
   by_cases g : lo <= z /\ z <= hi
   . rw [if_pos g] at h
     simp only [Option.some.injEq] at h
     have : (n : Int) = z := by omega
     rw [this]; exact ⟨(MJ e).symm, g⟩
   rw [if_neg g] at h; cases h
def PX (b : UInt8) : Bool := (decide (65 <= b.toNat) && decide (b.toNat <= 90)) || (decide (97 <= b.toNat) && decide (b.toNat <= 122))
def NN (b : UInt8) : Bool := PX b || (decide (48 <= b.toNat) && decide (b.toNat <= 57)) || decide (b.toNat = 95)
def LD (s : Bs) : Bool := match s with
 | [] => false
 | c :: r => decide (s.length <= 12) && PX c && r.all NN
def DL (k : Nat) (vs : List Bs) : Bool := decide (vs.length <= k) && vs.all LD && decide vs.Nodup
theorem xE {s : Bs} (h : LD s = true) : ∀ b ∈ s, NN b = true := by
 cases s with
 | nil => cases h
 | cons c r =>
   simp only [LD, Bool.and_eq_true, List.all_eq_true] at h
   intro b e
   rcases List.mem_cons.1 e with rfl | e
   . unfold NN; rw [h.1.2]; rfl
   exact h.2 b e
theorem eM {s : Bs} (h : LD s = true) : s.length <= 12 := by
 cases s with
 | nil => cases h
 | cons c r => simp only [LD, Bool.and_eq_true, decide_eq_true_eq] at h; exact h.1.1
theorem tS {s : Bs} (h : LD s = true) {b : UInt8} (hb : NN b = false) : b ∉ s := fun e => by rw [xE h b e] at hb; cases hb
theorem Jj {s : Bs} (h : LD s = true) : ∃ c r, s = c :: r /\ PX c = true := by
 cases s with
 | nil => cases h
 | cons c r => simp only [LD, Bool.and_eq_true] at h; exact ⟨c, r, rfl, h.1.2⟩
def RI (v : Bs) (n : Nat) : List Bs := if n = 0 then [] else if n = 1 then [v] else [v ++ 94 :: txt (n : Int)]
def ER : List Bs -> List Nat -> List Bs
 | v :: vs, n :: ns => RI v n ++ ER vs ns
 | _, _ => []
def ET (vars : List Bs) (c : Rat) (m : List Nat) : Bs :=
 if ER vars m = [] ∨ c ≠ 1 then jn 42 ((KD c).data.toList :: ER vars m) else jn 42 (ER vars m)
def within (n : Nat) (m : List Nat) : Prop := ∀ i, n <= i -> me m i = 0
def KA (c : Rat) : Rat := if c < 0 then -c else c
def SS (first neg : Bool) : Bs := if first then (if neg then [45] else []) else (if neg then [32, 45, 32] else [32, 43, 32])
def IW (vars : List Bs) : Bool -> List Tm -> Bs
 | _, [] => []
 | f, (c, m) :: p => SS f (decide (c < 0)) ++ ET vars (KA c) m ++ IW vars false p
def DS (vars : List Bs) (p : List Tm) : Bs := if p = [] then [48] else IW vars true p
def QS (vars : List Bs) (w : Bs) : Option (Nat × Nat) := match NJ 94 w with
 | none => (vars.idxOf? w).map fun v => (v, 1)
 | some (a, d) => match vars.idxOf? a, FY 2 65535 d with
   | some v, some n => some (v, n)
   | _, _ => none
def GG (vars : List Bs) : List Bs -> List Nat -> Option (List Nat)
 | [], m => some m
 | w :: ws, m => match QS vars w with
   | none => none
   | some (v, n) => GG vars ws (m.set v n)
def IN (l : List Bs) : Rat × List Bs := match l with
 | [] => (1, [])
 | a :: r => match ML a with
   | some c => (c, r)
   | none => (1, a :: r)
def zeroM : List Nat := [0, 0, 0, 0, 0, 0, 0, 0]
def bL (vars : List Bs) (w : Bs) : Option Tm := match GG vars (IN (FG 42 w)).2 zeroM with
 | none => none
 | some m => if 0 < (IN (FG 42 w)).1 /\ ET vars (IN (FG 42 w)).1 m = w then some ((IN (FG 42 w)).1, m) else none
theorem wM {vars : List Bs} {w : Bs} {c : Rat} (h : bL vars w = some (c, m)) : 0 < c /\ ET vars c m = w := by
 unfold bL at h
 cases e : GG vars (IN (FG 42 w)).2 zeroM with
 | none => simp [e] at h
 | some m' =>
   simp only [e] at h
   by_cases g : 0 < (IN (FG 42 w)).1 /\ ET vars (IN (FG 42 w)).1 m' = w
   . rw [if_pos g] at h
     simp only [Option.some.injEq, Prod.mk.injEq] at h
     obtain ⟨rfl, rfl⟩ := h
     exact g
   rw [if_neg g] at h; cases h
theorem tH (h : EG m) {v : Nat} (hn : n <= 65535) : EG (m.set v n) := by
 refine ⟨by rw [List.length_set]; exact h.1, fun e f => ?_⟩
 rcases List.mem_or_eq_of_mem_set f with g | rfl
 . exact h.2 e g
 exact hn
theorem zY {k : Nat} (h : within k m) {v : Nat} (hv : v < k) : within k (m.set v n) := by
 intro i e
 have := h i e
 unfold me at *
 rw [List.getD_eq_getElem?_getD, List.getElem?_set_ne AA, <- List.getD_eq_getElem?_getD]; exact this
theorem mQ {vars : List Bs} {w : Bs} {v : Nat} (h : QS vars w = some (v, n)) : v < vars.length /\ 1 <= n /\ n <= 65535 := by
 unfold QS at h
 have l : ∀ a : Bs, vars.idxOf? a = some v -> v < vars.length := by
  intro a e
  rw [List.idxOf?, List.findIdx?_eq_some_iff_getElem] at e
  exact e.1
 cases q : NJ 94 w with
 | none =>
   rw [q] at h
   cases f : vars.idxOf? w with
   | none => simp [f] at h
   | some u => simp only [f, Option.map_some, Option.some.injEq, Prod.mk.injEq] at h; obtain ⟨rfl, rfl⟩ := h; exact ⟨l w f, by omega, by omega⟩
 | some p =>
   obtain ⟨a, d⟩ := p
   rw [q] at h
   cases f : vars.idxOf? a with
   | none => simp [f] at h
   | some u =>
     cases o : FY 2 65535 d with
     | none => simp [f, o] at h
     | some k =>
       simp only [f, o, Option.some.injEq, Prod.mk.injEq] at h
       obtain ⟨rfl, rfl⟩ := h
       have := TE AE o
       exact ⟨l a f, by omega, by omega⟩
theorem qO {vars : List Bs} : ∀ {ws : List Bs} {m m' : List Nat}, GG vars ws m = some m' -> EG m -> within vars.length m -> EG m' /\ within vars.length m'
 | [], m, m', h, h1, h2 => by simp only [GG, Option.some.injEq] at h; subst h; exact ⟨h1, h2⟩
 | w :: ws, m, m', h, h1, h2 => by
   simp only [GG] at h
   cases hf : QS vars w with
   | none => simp [hf] at h
   | some p =>
     obtain ⟨v, n⟩ := p
     simp only [hf] at h
     obtain ⟨g1, g2, g3⟩ := mQ hf
     exact qO h (tH h1 g3) (zY h2 g1)
theorem DH : EG zeroM := by refine ⟨rfl, ?_⟩; decide
theorem cO (k : Nat) : within k zeroM := by
 intro i _
 unfold me zeroM
 match i with
 | 0 | 1 | 2 | 3 | 4 | 5 | 6 | 7 => rfl
 | n + 8 => rfl
theorem mL {vars : List Bs} {w : Bs} {c : Rat} (h : bL vars w = some (c, m)) : EG m /\ within vars.length m := by
 unfold bL at h
 cases e : GG vars (IN (FG 42 w)).2 zeroM with
 | none => simp [e] at h
 | some m' =>
   simp only [e] at h
   have := qO e DH (cO _)
   split at h
   . simp only [Option.some.injEq, Prod.mk.injEq] at h; obtain ⟨_, rfl⟩ := h; exact this
   cases h
open Go.Proofs.Tryz
open Go.RowKit
def bs (l : Bs) : ByteArray := ⟨l.toArray⟩
theorem FW (l : Bs) : (bs l).data.toList = l := by simp [bs]
theorem Qn (s : ByteArray) : bs s.data.toList = s := by simp [bs]
theorem GA (l : Bs) : (bs l).size = l.length := by show (bs l).data.size = _; simp [bs]
theorem uG {a b : Bs} (h : bs a = bs b) : a = b := by rw [<- FW a, h, FW]
theorem A7 (a b : Bs) : bs a ++ bs b = bs (a ++ b) := cD (by simp [bs])
theorem Qp (l : Bs) (i j : Nat) : (bs l).extract i j = bs ((l.take j).drop i) := cD (by rw [FW, ByteArray.data_extract, Array.toList_extract]; simp [bs, List.drop_take, List.extract_eq_take_drop])
structure Keep (S : Nat -> Prop) (w w' : World) : Prop where
 block : ∀ k, S k -> w'.heap[k]? = w.heap[k]?
 num : ∀ v z, IsI w v z -> IsI w' v z
theorem Keep.below (hb : Below w.heap.size w w') (h : ∀ k, S k -> k < w.heap.size) : Keep S w w' := ⟨fun k hk => hb.block k (h k hk), fun _ _ hv => hv.below hb⟩
theorem Keep.onl (hn : zX w b) (hb : Onl b w w') (h : ¬ S b) : Keep S w w' := ⟨fun k hk => hb.block k (fun e => h (e ▸ hk)), fun _ z hv => (svI z).onl hv hn hb⟩
theorem Keep.mono (h : Keep S' w w') (hs : ∀ k, S k -> S' k) : Keep S w w' := ⟨fun k hk => h.block k (hs k hk), h.num⟩
def fD (S : Nat -> Prop) (D : World -> Prop) (hD : ∀ w w', D w -> Keep S w w' -> D w') : SF := ⟨fun w => D w /\ ∀ k, S k -> k < w.heap.size, fun c => ¬ S c,
 fun h hb => ⟨hD _ _ h.1 (Keep.below hb h.2), fun k hk => Nat.lt_of_lt_of_le (h.2 k hk) hb.size⟩, fun h hn ho hb => ⟨hD _ _ h.1 (Keep.onl hn hb ho), fun k hk => by rw [hb.size]; exact h.2 k hk⟩⟩
def VH : Nat -> Prop := fun _ => False
def CX (n : Nat) : Nat -> Prop := fun k => k < n
def EY (a b : Nat) : Nat -> Prop := fun k => a <= k /\ k < b
theorem CJ {c : Nat} (h : n <= c) : ¬ CX n c := fun g => Nat.lt_irrefl _ (Nat.lt_of_lt_of_le g h)
theorem NG {a c : Nat} (h : c < a ∨ b <= c) : ¬ EY a b c := by rintro ⟨h1, h2⟩; omega
theorem GI {c : Nat} : ¬ VH c := id
def Cs (w : World) (b o : Nat) (cs : List Value) : Prop := ∀ j x, cs[j]? = some x -> w.cell? ⟨b, o + j, none⟩ = some x
theorem Cs.keep {cs : List Value} (h : Cs w b o cs) (hb : S b) (hk : Keep S w w') : Cs w' b o cs := fun j x e => (World.cell?_of_block (hk.block b hb)).trans (h j x e)
theorem Bx.cs {cs : List Value} (h : Bx w b T cs) : Cs w b 0 cs := fun j x e => by rw [Nat.zero_add, h.cell]; exact e
def fC (b o : Nat) (cs : List Value) : SF := fD (fun k => k = b) (fun w => Cs w b o cs) (fun _ _ h hk => h.keep (S := fun k => k = b) rfl hk)
theorem Env.c {l : List SF} {cs : List Value} (E : Env w l) (h : Cs w b o cs) (hb : b < w.heap.size) : Env w (fC b o cs :: l) := ⟨⟨h, fun _ hk => hk ▸ hb⟩, E⟩
structure El (α : Type) where
 sz : Nat
 p : (Nat -> Prop) -> World -> List Value -> α -> Prop
 keep : ∀ {S : Nat -> Prop} {w w' : World} {cs : List Value} {x : α}, p S w cs x -> Keep S w w' -> p S w' cs x
 mono : ∀ {S S' : Nat -> Prop} {w : World} {cs : List Value} {x : α}, p S w cs x -> (∀ k, S k -> S' k) -> p S' w cs x
 len : ∀ {S : Nat -> Prop} {w : World} {cs : List Value} {x : α}, p S w cs x -> cs.length = sz
 one : ∀ {S : Nat -> Prop} {w : World} {cs : List Value} {x : α}, p S w cs x -> ∀ v ∈ cs, v.oneCell' = true
 nw : ∀ {S : Nat -> Prop} {w : World} {cs : List Value} {x : α}, p S w cs x -> TU cs
def IsR {α : Type} (e : El α) (S : Nat -> Prop) (w : World) (v : Value) (l : List α) : Prop :=
 ∃ ao cap, v = .slice ao l.length cap /\ l.length <= cap /\ cap <= maxLen /\ ∀ i x, l[i]? = some x -> ∃ b off cs, ao = some ⟨b, off, none⟩ /\ S b /\ Cs w b (off + i * e.sz) cs /\ e.p S w cs x
theorem IsR.keep {e : El α} {l : List α} (h : IsR e S w v l) (hk : Keep S w w') : IsR e S w' v l := by
 obtain ⟨u, k, rfl, t, q, p⟩ := h
 refine ⟨u, k, O, t, q, fun i x o => ?_⟩
 obtain ⟨b, f, cs, e1, e2, e3, e4⟩ := p i x o
 exact ⟨b, f, cs, e1, e2, e3.keep e2 hk, e.keep e4 hk⟩
theorem IsR.mono {e : El α} {l : List α} (h : IsR e S w v l) (hs : ∀ k, S k -> S' k) : IsR e S' w v l := by
 obtain ⟨y, o, rfl, u, t, q⟩ := h
 refine ⟨y, o, O, u, t, fun i x p => ?_⟩
 obtain ⟨b, f, cs, e1, e2, e3, e4⟩ := q i x p
 exact ⟨b, f, cs, e1, hs b e2, e3, e.mono e4 hs⟩
theorem IsR.shp {e : El α} {l : List α} (h : IsR e S w v l) : ∃ ao cap, v = .slice ao l.length cap /\ l.length <= cap /\ cap <= maxLen := by
 obtain ⟨ao, cap, rfl, k, f, _⟩ := h
 exact ⟨ao, cap, rfl, k, f⟩
theorem IsR.one {e : El α} {l : List α} (h : IsR e S w v l) : v.oneCell' = true := by
 obtain ⟨k, f, rfl, _⟩ := h; rfl
theorem IsR.at {e : El α} {l : List α} (h : IsR e S w (.slice ao n cap) l) {x : α} (hx : l[i]? = some x) :
 ∃ b off cs, ao = some ⟨b, off, none⟩ /\ S b /\ Cs w b (off + i * e.sz) cs /\ e.p S w cs x := by
 obtain ⟨q, f, k, _, _, o⟩ := h
 cases k
 exact o i x hx
theorem IsR.nil (e : El α) (S : Nat -> Prop) (w : World) : IsR e S w (.slice none 0 0) [] := ⟨none, 0, rfl, Nat.le_refl _, Nat.zero_le _, fun i x h => by simp at h⟩
theorem IsR.take {e : El α} {l : List α} (h : IsR e S w (.slice ao n cap) l) (hi : i <= l.length) : IsR e S w (.slice ao i cap) (l.take i) := by
 obtain ⟨t, k, o, u, q, p⟩ := h
 cases o
 refine ⟨ao, cap, by rw [List.length_take, Nat.min_eq_left hi], by rw [List.length_take]; omega, q, fun j x f => ?_⟩
 exact p j x (by rw [List.getElem?_take] at f; split at f; exact f; cases f)
theorem IsR.drop {e : El α} {l : List α} (h : IsR e S w (.slice (some ⟨b, off, none⟩) n cap) l) (hi : i <= l.length) : IsR e S w (.slice (some ⟨b, off + i * e.sz, none⟩) (n - i) (cap - i)) (l.drop i) := by
 obtain ⟨t, o, p, v, u, q⟩ := h
 cases p
 refine ⟨_, cap - i, by rw [List.length_drop], by rw [List.length_drop]; omega, by omega, fun j x k => ?_⟩
 rw [List.getElem?_drop] at k
 obtain ⟨y, f, cs, e1, e2, e3, e4⟩ := q (i + j) x k
 cases e1
 exact ⟨b, off + i * e.sz, cs, rfl, e2, by rw [Nat.add_assoc, <- Nat.add_mul]; exact e3, e4⟩
def fR {α : Type} (e : El α) (S : Nat -> Prop) (v : Value) (l : List α) : SF := fD S (fun w => IsR e S w v l) (fun _ _ h hk => h.keep hk)
theorem Env.r {e : El α} {l : List α} (E : Env w L) (h : IsR e S w v l) (hs : ∀ k, S k -> k < w.heap.size) : Env w (fR e S v l :: L) := ⟨⟨h, hs⟩, E⟩
def Gn (v : Value) : Prop := ∀ k, v ≠ .int .u32 k
theorem rY (k : Int) : ¬ Gn (.int .u32 k) := fun h => h k rfl
def Acc {α : Type} (e : El α) (t base : Nat) (S : Nat -> Prop) (w : World) (v : Value) (l : List α) : Prop :=
 ∃ xs, RowG w base t e.sz Gn v l.length xs /\ (∀ i x, l[i]? = some x -> e.p S w ((xs.drop (i * e.sz)).take e.sz) x) /\ ∀ g, v.ownBlock = some g -> ¬ S g
theorem Acc.keep {e : El α} {l : List α} (h : Acc e t base S w v l) (hr : ∀ xs, RowG w base t e.sz Gn v l.length xs -> RowG w' base t e.sz Gn v l.length xs) (hk : Keep S w w') : Acc e t base S w' v l := by
 obtain ⟨xs, p, o, k⟩ := h
 exact ⟨xs, hr xs p, fun i x f => e.keep (o i x f) hk, k⟩
def fA {α : Type} (e : El α) (t base : Nat) (S : Nat -> Prop) (v : Value) (l : List α) : SF := ⟨fun w => Acc e t base S w v l /\ ∀ k, S k -> k < w.heap.size, fun c => v.ownBlock ≠ some c /\ ¬ S c,
 fun h hb => ⟨h.1.keep (fun _ hr => hr.below hb) (Keep.below hb h.2), fun k hk => Nat.lt_of_lt_of_le (h.2 k hk) hb.size⟩,
 fun h hn ho hb => ⟨h.1.keep (fun _ hr => hr.onl ho.1 hb) (Keep.onl hn hb ho.2), fun k hk => by rw [hb.size]; exact h.2 k hk⟩⟩
theorem Env.a {e : El α} {l : List α} (E : Env w L) (h : Acc e t base S w v l) (hs : ∀ k, S k -> k < w.heap.size) : Env w (fA e t base S v l :: L) := ⟨⟨h, hs⟩, E⟩
theorem NK {e : El α} {l : List α} {c : Nat} (h : v.ownBlock ≠ some c) (hs : ¬ S c) : (fA e t base S v l).ok c := ⟨h, hs⟩
theorem Acc.nil (e : El α) (t base : Nat) (S : Nat -> Prop) (w : World) : Acc e t base S w (.slice none 0 0) [] := ⟨[], ZI _ _ _ _ _, fun i x h => by simp at h, fun g h => by simp [Value.ownBlock] at h⟩
theorem Acc.shp {e : El α} {l : List α} (h : Acc e t base S w v l) : ∃ ao cap, v = .slice ao l.length cap := by
 obtain ⟨k, f, _, _⟩ := h
 exact f.shape
theorem Acc.one {e : El α} {l : List α} (h : Acc e t base S w v l) : v.oneCell' = true := by
 obtain ⟨k, f, rfl⟩ := h.shp; rfl
theorem Acc.lit {e : El α} {cs : List Value} {l : List α} (hb : Bx w b t cs) (hbase : base <= b) (hl : l.length = n) (hn : cs.length = n * e.sz) (hn2 : n <= maxLen) (hg : TU cs)
 (h : ∀ i x, l[i]? = some x -> e.p S w ((cs.drop (i * e.sz)).take e.sz) x) (hS : ¬ S b) : Acc e t base S w (.slice (some ⟨b, 0, none⟩) n n) l := by
 subst hl
 refine ⟨cs, ⟨hn, .inr ⟨b, l.length, cs.toArray, O, hbase, hb, Nat.le_refl _, hn2, by simp [hn], by simp [<- hn], fun u f k => hg u (by simpa using f) k⟩⟩, h, fun g hg => ?_⟩
 simp [Value.ownBlock] at hg; rw [<- hg]; exact hS
theorem Acc.lit1 {e : El α} {cs : List Value} {x : α} (hb : Bx w b t cs) (hbase : base <= b) (h : e.p S w cs x) (hS : ¬ S b) : Acc e t base S w (.slice (some ⟨b, 0, none⟩) 1 1) [x] :=
 Acc.lit hb hbase rfl (by rw [e.len h, Nat.one_mul]) AE (e.nw h) (fun i y hy => by
  cases i with
  | zero => simp at hy; subst hy; rw [Nat.zero_mul, List.drop_zero, List.take_of_length_le (by rw [e.len h]; exact Nat.le_refl _)]; exact h
  | succ i => simp at hy) hS
theorem Acc.lit0 {e : El α} (hb : Bx w b t []) (hbase : base <= b) (hS : ¬ S b) : Acc e t base S w (.slice (some ⟨b, 0, none⟩) 0 0) ([] : List α) :=
 Acc.lit hb hbase rfl AH AE (fun c hc => by cases hc) (fun i y hy => by simp at hy) hS
theorem Acc.row {e : El α} {l : List α} (h : Acc e t base S w v l) (hs : ∀ k, S k -> S' k) (hb : ∀ k, base <= k -> k < w.heap.size -> v.ownBlock = some k -> S' k) : IsR e S' w v l := by
 obtain ⟨J, C, B, N⟩ := h
 obtain ⟨L, z⟩ := C
 rcases z with ⟨rfl, D⟩ | ⟨g, p, o, rfl, I, q, H, G, Q, F, P⟩
 . have : l = [] := List.eq_nil_of_length_eq_zero D
   subst this; exact IsR.nil _ _ _
 refine ⟨_, p, rfl, H, G, fun i x u => ?_⟩
 refine ⟨g, 0, _, O, hb g I (Array.getElem?_eq_some_iff.1 q).1 O, fun j y f => ?_, e.mono (B i x u) hs⟩
 rw [List.getElem?_take] at f
 split at f
 . rename_i hj
   rw [List.getElem?_drop, <- F, List.getElem?_take] at f
   split at f
   . rw [cell_of_row w g _ o t (0, 0) q, Nat.zero_add, <- Array.getElem?_toList]; exact f
   cases f
 cases f
theorem Acc.mono {e : El α} {l : List α} (h : Acc e t base S w v l) (hs : ∀ k, S k -> S' k) (hg : ∀ g, v.ownBlock = some g -> ¬ S' g) : Acc e t base S' w v l := by
 obtain ⟨f, q, p, _⟩ := h
 exact ⟨f, q, fun i x o => e.mono (p i x o) hs, hg⟩
theorem Acc.lt {e : El α} {l : List α} (h : Acc e t base S w v l) {g : Nat} (hg : v.ownBlock = some g) : base <= g /\ g < w.heap.size := by
 obtain ⟨k, f, _⟩ := h
 exact f.blk hg
structure RowT {α : Type} (e : El α) (T t bytes : Nat) : Prop where
 ht : prog.underlying T = some (.slice t)
 info : ∃ i z, prog.info? t = some i /\ i.zero = some z /\ i.size = e.sz /\ i.bytes = bytes /\ z.cells.size = e.sz /\ ∀ u ∈ z.cells.toList, Gn u
 pos : 0 < e.sz
theorem vL {e : El α} {xs : List Value} (h : xs.length = n * e.sz) (ys : List Value) (hi : i < n) : ((xs ++ ys).drop (i * e.sz)).take e.sz = (xs.drop (i * e.sz)).take e.sz := by
 have f : i * e.sz + e.sz <= xs.length := by rw [h, <- Nat.succ_mul]; exact Nat.mul_le_mul_right _ hi
 rw [List.drop_append_of_le_length AA, List.take_append_of_le_length (by rw [List.length_drop]; omega)]
theorem EM {e : El α} {bytes : Nat} (R : RowT e T t bytes) {o : Oper} {a : Act} {K : Act -> World -> Prop} {Q : Exit -> Act -> World -> Prop} {s : Operand}
 (ho : o.op = .call { callee := .builtin .append, args := #[s, y], argTypes := #[T, T] }) {l : List α} (hs : a.eval s = v) (hA : Acc e t base S w v l) (hS : ∀ k, S k -> k < w.heap.size)
 (E : Env w L) (hok : ∀ g, v.ownBlock = some g -> base <= g -> g < w.heap.size -> Ok g L) {nb : Nat} {cs : List Value} {x : α} (hy : a.eval y = .slice (some ⟨nb, 0, none⟩) 1 1) (hb : Bx w nb t cs) (hx : e.p S w cs x)
 (h63 : l.length + 1 <= maxLen) (hby : (l.length + 1) * bytes <= 140737488355328) (hbase : base <= w.heap.size)
 (h : ∀ v' w', Env w' (fA e t base S v' (l ++ [x]) :: L) -> K (a.put o.dst v') w') : o.wp prog a w K Q := by
 obtain ⟨I, B, h2, h3⟩ := hA
 obtain ⟨i, z, e1, e2, e3, e4, e5, e6⟩ := R.info
 have G := e.len hx
 obtain ⟨v', w', hr, g2, f⟩ := RT (P := prog) (w := w) base T o.type t i z e.sz bytes R.ht e1 e2 e3 e4 e5 R.pos Gn e6 v l.length I B ⟨nb, 0, none⟩ 1 1 cs (by rw [G, Nat.one_mul])
  (fun j u q => by
    have : (⟨nb, 0, none⟩ : Addr).add j = ⟨nb, j, none⟩ := by unfold Addr.add; split <;> simp_all
    rw [this, hb.cell]; exact q) (e.one hx) (fun u q k => e.nw hx u q k) h63 hby hbase
 unfold Oper.wp execOp
 simp only [ho, resolve, invoke, builtin, Sem.run_bind, Sem.run_pure, Result.andThen_ok, List.map_toArray, List.map_cons, List.map_nil, hs, hy, hr]
 have H : Keep S w w' := by
  rcases f with ⟨f, _⟩ | ⟨g, hg, _, f⟩
  . exact Keep.below f hS
  exact Keep.onl (B.noW hg rY) f (h3 g hg)
 have J : w.heap.size <= w'.heap.size := by
  rcases f with ⟨f, _⟩ | ⟨g, hg, _, f⟩
  . exact f.size
  exact Nat.le_of_eq f.size.symm
 have D : ∀ g, v'.ownBlock = some g -> ¬ S g := by
  intro g hg
  rcases f with ⟨_, g4⟩ | ⟨g', X, U, _⟩
  . rw [g4 AA] at hg
    simp only [Option.some.injEq] at hg
    intro hs; have := hS g hs; omega
  rw [U] at hg; simp only [Option.some.injEq] at hg; subst hg; exact h3 g' X
 have C : Acc e t base S w' v' (l ++ [x]) := by
  refine ⟨I ++ cs, by rw [List.length_append]; exact g2, fun j u q => ?_, D⟩
  by_cases Y : j < l.length
  . rw [List.getElem?_append_left Y] at q
    rw [vL B.1 cs Y]
    exact e.keep (h2 j u q) H
  have N : j = l.length := by
   have := (List.getElem?_eq_some_iff.1 q).1
   simp at this; omega
  subst N
  simp at q
  subst q
  have F : l.length * e.sz = I.length := B.1.symm
  rw [F, List.drop_left, List.take_of_length_le (by rw [G]; exact Nat.le_refl _)]
  exact e.keep hx H
 refine h v' w' ⟨⟨C, fun k H => Nat.lt_of_lt_of_le (hS k H) J⟩, ?_⟩
 rcases f with ⟨f, _⟩ | ⟨g, hg, _, f⟩
 . exact E.below f
 exact E.onl (B.noW hg rY) (hok g hg (B.blk hg).1 (B.blk hg).2) f
def IJ (n : Bool) (s : Value) (m : Bool) (u : Value) (M : List Nat) : List Value := .bool n :: s :: .bool m :: u :: GK M
theorem Zl (M : List Nat) : TU (GK M) := by
 intro c f k e
 subst e
 unfold GK at f
 obtain ⟨_, _, h⟩ := List.mem_map.1 f
 cases h
theorem Ol (M : List Nat) : ∀ v ∈ GK M, v.oneCell' = true := by
 intro v e
 unfold GK at e
 obtain ⟨_, _, rfl⟩ := List.mem_map.1 e
 rfl
theorem SK {n m : Bool} (h1 : TU [.bool n, s]) (h2 : TU [.bool m, u]) : TU (IJ n s m u M) := by
 intro c e
 unfold IJ at e
 simp only [List.mem_cons] at e
 rcases e with h | h | h | h | h
 . exact h1 c YbK
 . exact h1 c YbK
 . exact h2 c YbK
 . exact h2 c YbK
 exact Zl M c h
theorem GM {n m : Bool} {s u : Value} {M : List Nat} (h1 : ∀ v ∈ [.bool n, s], v.oneCell' = true) (h2 : ∀ v ∈ [.bool m, u], v.oneCell' = true) : ∀ v ∈ IJ n s m u M, v.oneCell' = true := by
 intro c e
 unfold IJ at e
 simp only [List.mem_cons] at e
 rcases e with h | h | h | h | h
 . exact h1 c YbK
 . exact h1 c YbK
 . exact h2 c YbK
 . exact h2 c YbK
 exact Ol M c h
def JL : El Tm where
 sz := 12
 p := fun _ w cs t => ∃ n s m u, cs = IJ n s m u t.2 /\ IsI w (.agg #[.bool n, s]) t.1.num /\ IsI w (.agg #[.bool m, u]) ((t.1.den : Nat) : Int) /\ EG t.2
 keep := fun ⟨n, s, m, u, h1, h2, h3, h4⟩ hk => ⟨n, s, m, u, h1, hk.num _ _ h2, hk.num _ _ h3, h4⟩
 mono := fun h _ => h
 len := fun ⟨n, s, m, u, h1, _, _, h4⟩ => by subst h1; unfold IJ; simp [DC h4]
 one := fun ⟨n, s, m, u, h1, h2, h3, _⟩ => by subst h1; exact GM h2.one h3.one
 nw := fun ⟨n, s, m, u, h1, h2, h3, _⟩ => by subst h1; exact SK h2.now h3.now
def elS : El Bs where
 sz := 1
 p := fun _ _ cs x => cs = [.string (bs x)]
 keep := fun h _ => h
 mono := fun h _ => h
 len := fun h => by subst h; rfl
 one := fun h => by subst h; intro v hv; simp at hv; subst hv; rfl
 nw := fun h => by subst h; intro c hc k e; subst e; simp at hc
def MS : El (Nat × List Tm) where
 sz := 2
 p := fun S w cs x => ∃ v, cs = [.int .i64 ((x.1 : Nat) : Int), v] /\ IsR JL S w v x.2
 keep := fun ⟨v, h1, h2⟩ hk => ⟨v, h1, h2.keep hk⟩
 mono := fun ⟨v, h1, h2⟩ hs => ⟨v, h1, h2.mono hs⟩
 len := fun ⟨v, h1, _⟩ => by subst h1; rfl
 one := fun ⟨v, h1, h2⟩ => by
  subst h1; intro u hu
  simp only [List.mem_cons, List.not_mem_nil, or_false] at hu
  rcases hu with rfl | rfl
  . rfl
  exact h2.one
 nw := fun ⟨v, h1, h2⟩ => by
  subst h1; intro c hc k e
  obtain ⟨ao, cap, rfl, _⟩ := h2
  subst e; simp at hc
theorem KL : Ag prog 88 12 [.bool false, .slice none 0 0, .bool false, .slice none 0 0, .int .i64 0, .int .i64 0, .int .i64 0, .int .i64 0, .int .i64 0, .int .i64 0, .int .i64 0, .int .i64 0] := ⟨⟨_, underlying88, rfl⟩, by kernel_rfl, rfl⟩
theorem NH : Ag prog 83 2 [.int .i64 0, .slice none 0 0] := ⟨⟨_, underlying83, rfl⟩, by kernel_rfl, rfl⟩
theorem OU : Ag prog 48 4 [.slice none 0 0, .slice none 0 0, .slice none 0 0, .int .i64 0] := ⟨⟨_, underlying48, rfl⟩, by kernel_rfl, rfl⟩
theorem infoT : (prog.info? 88).map (fun i => (i.zero, i.size, i.bytes)) = some (some (.agg #[.bool false, .slice none 0 0, .bool false, .slice none 0 0, .int .i64 0, .int .i64 0, .int .i64 0, .int .i64 0, .int .i64 0, .int .i64 0, .int .i64 0, .int .i64 0]), 12, 128) := by kernel_rfl
theorem infoE : (prog.info? 83).map (fun i => (i.zero, i.size, i.bytes)) = some (some (.agg #[.int .i64 0, .slice none 0 0]), 2, 32) := by kernel_rfl
theorem infoS : (prog.info? 9).map (fun i => (i.zero, i.size, i.bytes)) = some (some (.string ByteArray.empty), 1, 16) := by kernel_rfl
theorem iN : RowT JL 28 88 128 := by
 obtain ⟨o, q, l, h, f⟩ := info_parts infoT
 exact ⟨underlying28, ⟨o, _, q, l, h, f, rfl, by intro u p k e; subst e; simp [Value.cells] at p⟩, by decide⟩
theorem RT_S : RowT elS 30 9 16 := by
 obtain ⟨o, q, l, h, f⟩ := info_parts infoS
 exact ⟨underlying30, ⟨o, _, q, l, h, f, rfl, by intro u p k e; subst e; simp [Value.cells] at p⟩, by decide⟩
theorem Wr : RowT MS 46 83 32 := by
 obtain ⟨o, q, l, h, f⟩ := info_parts infoE
 exact ⟨underlying46, ⟨o, _, q, l, h, f, rfl, by intro u p k e; subst e; simp [Value.cells] at p⟩, by decide⟩
section
variable {P : Program} {ρ : Operand -> Value} {o : Oper} {w : World}
theorem MG {e sz len : Nat} {J : Int} (ho : o.op = .indexAddr T x y) (hT : P.underlying T = some (.slice e)) (hs : (P.info? e).map (·.size) = some sz)
 (hx : ρ x = .slice ao len cap) (hao : ao = some ⟨b, off, none⟩) (hy : ρ y = .int .i64 J) (hJ : J = (i : Int)) (hi : i < len) : (execOp ρ o).run P w = .ok (.value (.pointer (some ⟨b, off + i * sz, none⟩))) w := by
 subst hao; exact VY ho hT hs hx hy hJ hi
theorem mE {cs : List Value} (hA : Ag P T n zs) (hc : Cs w b off cs) (hl : cs.length = n) : (loadVar T ⟨b, off, none⟩).run P w = .ok (.agg cs.toArray) w := by
 obtain ⟨d, e, f⟩ := hA.u
 exact run_loadVar_mid w b off T cs d hc e (by cases d <;> simp_all) (by rw [hA.size, hl])
theorem CD {cs : List Value} (hA : Ag P T n zs) (ho : o.op = .load T x) (hx : ρ x = .pointer (some ⟨b, off, none⟩)) (hc : Cs w b off cs) (hl : cs.length = n) :
 (execOp ρ o).run P w = .ok (.value (.agg cs.toArray)) w := by
 unfold execOp
 simp only [ho, hx, Instr.loadAt, Instr.sureAddr, Sem.run_bind, Sem.run_pure, Result.andThen_ok, mE hA hc hl]
end
theorem Cs.sub {cs ds : List Value} (h : Cs w b o cs) (i : Nat) (hd : ∀ j x, ds[j]? = some x -> cs[i + j]? = some x) : Cs w b (o + i) ds := fun j x e => by rw [Nat.add_assoc]; exact h _ x (hd j x e)
theorem EI (n : Bool) (s : Value) (m : Bool) (u : Value) (M : List Nat) : ∀ (j : Nat) x, [Value.bool n, s, .bool m, u][j]? = some x -> (IJ n s m u M)[0 + j]? = some x := by
 intro j x h
 rw [Nat.zero_add]
 match j, h with
 | 0, h | 1, h | 2, h | 3, h => exact h
 | j + 4, h => simp at h
theorem DU (n : Bool) (s : Value) (m : Bool) (u : Value) (M : List Nat) : ∀ (j : Nat) x, (GK M)[j]? = some x -> (IJ n s m u M)[4 + j]? = some x := by
 intro j x h
 rw [Nat.add_comm]; exact h
theorem CM {n m : Bool} (h : EG M) : (IJ n s m u M).length = 12 := by unfold IJ; simp [DC h]
theorem BW {e : El α} {l : List α} (h : (fR e S v l).p w) : IsR e (CX w.heap.size) w v l := h.1.mono (fun k g => h.2 k g)
end Go.Proofs.YtmppigbbkjepiaaGreatDoor
