/- Helping facts of TxtS; no other conditions. Helping facts of KitU; no other conditions. Helping facts of KitV; no other conditions. -/
import Derived.Test.YtmppigbbkjepiaaGreatDoorRead3
import Derived.Deep.Upon
namespace Go.Proofs.YtmppigbbkjepiaaGreatDoor
open W
variable {K : Act -> World -> Prop} {L : List SF} {P : Program} {Q : Exit -> Act -> World -> Prop} {S : Nat -> Prop} {a : Act} {args : List Operand} {b base c i id k n r t : Nat} {neq : Bool} {o : Oper} {s y : Operand} {tys : Array TypeId} {v ve vn vv : Value} {vs : List Value} {w w' w0 : World} {α : Type}
theorem YO8 {p : Prop} (h : p := by simp at hn ⊢; omega) : p := h
abbrev En := Nat × List Tm
structure Rs where
 vars : List Bs
 eqs : List En
 neqs : List En
 next : Nat
 last : Nat
def eO : Rs := ⟨[], [], [], 0, 0⟩
def Rs.sy (r : Rs) : Sy := ⟨r.vars, r.eqs, r.neqs, r.next⟩
def qQ : Sy := ⟨[], [], [], 0⟩
def JC : Bs := [58, 32]
def NL : Bs := [32, 33, 61, 32, 48]
def ZR : Bs := [32, 61, 32, 48]
def lW : Bs := [110, 101, 120, 116, 32]
def vaB : Bs := [118, 97, 114, 115]
def Rs.lst (r : Rs) (neq : Bool) : List En := if neq then r.neqs else r.eqs
def Rs.add (r : Rs) (e : Bool × En) : Rs := if e.1 then ⟨r.vars, r.eqs, r.neqs ++ [e.2], r.next, e.2.1⟩ else ⟨r.vars, r.eqs ++ [e.2], r.neqs, r.next, e.2.1⟩
def cB (r : Rs) (id : Nat) (neq : Bool) (t : Bs) : Option Rs :=
 if (EE r.vars t).2.2 = 0 /\ QQ (EE r.vars t).1 <= 12 /\ (r.lst neq).length < 12 then some (r.add (neq, id, (EE r.vars t).1)) else none
def JP (r : Rs) (l : Bs) : Option Rs :=
 if (Lib.cut l JC).2.2 = false then none else
 match EA ((r.last + 1 : Nat) : Int) 999999 (Lib.cut l JC).1 with
 | none => none
 | some id => if Lib.hasSuffix (Lib.cut l JC).2.1 NL = true then cB r id true (Lib.trimSuffix (Lib.cut l JC).2.1 NL)
   else if Lib.hasSuffix (Lib.cut l JC).2.1 ZR = true then cB r id false (Lib.trimSuffix (Lib.cut l JC).2.1 ZR) else none
def XF (r : Rs) (l : Bs) : Option Rs := if (DI 32 l).head? = some vaB /\ DM 4 (DI 32 l).tail = true then some ⟨(DI 32 l).tail, r.eqs, r.neqs, r.next, r.last⟩ else none
def xY (r : Rs) (t : Bs) : Option Rs := (EA ((r.last + 1 : Nat) : Int) 1000000 t).map fun m => ⟨r.vars, r.eqs, r.neqs, m, r.last⟩
def IL (n : Nat) (r : Rs) (l : Bs) : Option Rs :=
 if n = 1 then XF r l else if r.next ≠ 0 then none else if Lib.hasPrefix l lW = true then xY r (Lib.trimPrefix l lW) else JP r l
abbrev Ps := Sy × Nat × Nat
def dS : List Bs -> Nat -> Rs -> Ps
 | [], n, _ => (qQ, n, 440)
 | [x], n, r => if x = [] then (if r.next = 0 then (qQ, n + 1, 440) else (r.sy, 0, 0)) else (qQ, n + 1, 440)
 | x :: y :: l, n, r => match IL (n + 1) r x with
   | none => (qQ, n + 1, 440)
   | some r' => dS (y :: l) (n + 1) r'
def HO (t : Bs) : Ps := if 100000 < t.length then (qQ, 0, 2) else dS (DI 10 t) 0 eO
def JX : List Bs -> Nat -> Rs -> Option Rs
 | [], _, r => some r
 | x :: l, n, r => match IL (n + 1) r x with
   | none => none
   | some r' => JX l (n + 1) r'
theorem uW : ∀ {ls : List Bs} {n : Nat} {r r' : Rs} {rest : List Bs}, JX ls n r = some r' -> rest ≠ [] -> dS (ls ++ rest) n r = dS rest (n + ls.length) r'
 | [], n, r, r', rest, h, _ => by simp only [JX, Option.some.injEq] at h; subst h; simp
 | x :: l, n, r, r', rest, h, hr => by
   obtain ⟨y, t, ht⟩ : ∃ y t, l ++ rest = y :: t := by
    cases f : l ++ rest with
    | nil => simp at f; exact absurd f.2 hr
    | cons y t => exact ⟨y, t, rfl⟩
   rw [List.cons_append, ht]
   cases e : IL (n + 1) r x with
   | none => simp [JX, e] at h
   | some r1 =>
     simp only [JX, e] at h
     simp only [dS, e]
     rw [<- ht, uW h hr]
     simp only [List.length_cons]
     congr 1; omega
theorem xL : ∀ {l1 l2 : List Bs} {n : Nat} {r r' : Rs}, JX l1 n r = some r' -> JX (l1 ++ l2) n r = JX l2 (n + l1.length) r'
 | [], l2, n, r, r', h => by simp only [JX, Option.some.injEq] at h; subst h; simp
 | x :: l, l2, n, r, r', h => by
   cases hx : IL (n + 1) r x with
   | none => simp [JX, hx] at h
   | some r1 =>
     simp only [JX, hx] at h
     simp only [List.cons_append, JX, hx, List.length_cons]
     rw [xL h]; congr 1; omega
theorem De : ∀ {ls : List Bs} {n : Nat} {r : Rs} {s : Sy} {k : Nat}, dS ls n r = (s, k, 0) -> ∃ l1 r', ls = l1 ++ [[]] /\ JX l1 n r = some r' /\ r'.next ≠ 0 /\ s = r'.sy /\ k = 0
 | [], n, r, s, k, h => by simp [dS] at h
 | [x], n, r, s, k, h => by
   simp only [dS] at h
   by_cases hx : x = []
   . rw [if_pos hx] at h
     by_cases hr : r.next = 0
     . rw [if_pos hr] at h; simp at h
     rw [if_neg hr] at h
     simp only [Prod.mk.injEq] at h
     exact ⟨[], r, by rw [hx]; rfl, rfl, hr, h.1.symm, h.2.1.symm⟩
   rw [if_neg hx] at h; simp at h
 | x :: y :: l, n, r, s, k, h => by
   simp only [dS] at h
   cases hx : IL (n + 1) r x with
   | none => simp [hx] at h
   | some r1 =>
     simp only [hx] at h
     obtain ⟨l1, r', h1, h2, h3, h4, h5⟩ := De h
     exact ⟨x :: l1, r', by rw [h1]; rfl, by simp only [JX, hx]; exact h2, h3, h4, h5⟩
theorem Gj : ∀ {ls : List Bs} {n : Nat} {r : Rs} {s : Sy} {k e : Nat}, ls ≠ [] -> dS ls n r = (s, k, e) -> e ≠ 0 -> s = qQ /\ e = 440 /\ n < k /\ k <= n + ls.length
 | [], n, r, s, k, e, hl, _, _ => absurd rfl hl
 | [x], n, r, s, k, e, _, h, he => by
   simp only [dS] at h
   by_cases hx : x = []
   . rw [if_pos hx] at h
     by_cases hr : r.next = 0
     . rw [if_pos hr] at h; simp only [Prod.mk.injEq] at h; exact ⟨h.1.symm, h.2.2.symm, by omega, by simp; omega⟩
     rw [if_neg hr] at h; simp only [Prod.mk.injEq] at h; exact absurd h.2.2.symm he
   rw [if_neg hx] at h; simp only [Prod.mk.injEq] at h; exact ⟨h.1.symm, h.2.2.symm, by omega, by simp; omega⟩
 | x :: y :: l, n, r, s, k, e, _, h, he => by
   simp only [dS] at h
   cases hx : IL (n + 1) r x with
   | none => simp only [hx, Prod.mk.injEq] at h; exact ⟨h.1.symm, h.2.2.symm, by omega, by simp; omega⟩
   | some r1 =>
     simp only [hx] at h
     obtain ⟨h1, h2, h3, h4⟩ := Gj AH h he
     exact ⟨h1, h2, by omega, by simp only [List.length_cons] at h4 ⊢; omega⟩
theorem Js {t : Bs} {s : Sy} {e : Nat} (h : HO t = (s, n, e)) (he : e ≠ 0) : s = qQ /\ ((100000 < t.length /\ n = 0 /\ e = 2) ∨ (t.length <= 100000 /\ e = 440 /\ 1 <= n /\ n <= (DI 10 t).length)) := by
 unfold HO at h
 by_cases f : 100000 < t.length
 . rw [if_pos f] at h; simp only [Prod.mk.injEq] at h
   exact ⟨h.1.symm, .inl ⟨f, h.2.1.symm, h.2.2.symm⟩⟩
 rw [if_neg f] at h
 obtain ⟨l, k, p, o⟩ := Gj (PN 10 t) h he
 exact ⟨l, .inr ⟨by omega, k, by omega, by omega⟩⟩
def cX (vars : List Bs) : Bs := jn 32 (vaB :: vars)
def YX (neq : Bool) : Bs := if neq then NL else ZR
def lA (vars : List Bs) (e : Bool × En) : Bs := txt (e.2.1 : Int) ++ (JC ++ (GR vars e.2.2 ++ YX e.1))
def xX (n : Nat) : Bs := lW ++ txt (n : Int)
def SJ : List En -> List En -> List (Bool × En)
 | [], [] => []
 | e :: es, [] => (false, e) :: SJ es []
 | [], n :: ns => (true, n) :: SJ [] ns
 | e :: es, n :: ns => if e.1 < n.1 then (false, e) :: SJ es (n :: ns) else (true, n) :: SJ (e :: es) ns
termination_by a b => a.length + b.length
def Cy (s : Sy) : List Bs := cX s.vars :: ((SJ s.eqs s.neqs).map (lA s.vars) ++ [xX s.next])
def Bk (s : Sy) : Bs := jn 10 (Cy s ++ [[]])
def gI (vars : List Bs) (l : List (Bool × En)) : Bool := l.any fun e => decide (4000 < (GR vars e.2.2).length)
def YQ (s : Sy) : Bs × Nat := if LD s = false then ([], 320) else if gI s.vars (SJ s.eqs s.neqs) = true then ([], 2) else (Bk s, 0)
theorem Zu {e n : En} {es ns : List En} (h : e.1 < n.1) : SJ (e :: es) (n :: ns) = (false, e) :: SJ es (n :: ns) := by rw [SJ, if_pos h]
theorem Zv {e n : En} {es ns : List En} (h : ¬ e.1 < n.1) : SJ (e :: es) (n :: ns) = (true, n) :: SJ (e :: es) ns := by rw [SJ, if_neg h]
theorem mrg_l (e : En) (es : List En) : SJ (e :: es) [] = (false, e) :: SJ es [] := by rw [SJ]
theorem mrg_r (n : En) (ns : List En) : SJ [] (n :: ns) = (true, n) :: SJ [] ns := by rw [SJ]
theorem SI : ∀ (n : Nat) (a b : List En) (e : En), a.length + b.length <= n -> (∀ x ∈ b, x.1 < e.1) -> SJ (a ++ [e]) b = SJ a b ++ [(false, e)]
 | _, [], [], e, _, _ => by simp [SJ]
 | n + 1, [], y :: b, e, hn, hb => by
   have h1 := hb y AH
   rw [List.nil_append, Zv AA, mrg_r, List.cons_append]
   have := SI n [] b e YO8 (fun x hx => hb x (by simp [hx]))
   rw [List.nil_append] at this; rw [this]
 | n + 1, x :: a, [], e, hn, hb => by
   rw [List.cons_append, SJ, SJ, List.cons_append, SI n a [] e YO8 hb]
 | n + 1, x :: a, y :: b, e, hn, hb => by
   rw [List.cons_append, SJ, SJ]
   by_cases h : x.1 < y.1
   . rw [if_pos h, if_pos h, List.cons_append, SI n a (y :: b) e YO8 hb]
   rw [if_neg h, if_neg h, List.cons_append]
   have := SI n (x :: a) b e YO8 (fun z hz => hb z (by simp [hz]))
   rw [List.cons_append] at this; rw [this]
 | 0, x :: a, b, e, hn, _ => by simp at hn
 | 0, [], y :: b, e, hn, _ => by simp at hn
theorem PT : ∀ (n : Nat) (a b : List En) (e : En), a.length + b.length <= n -> (∀ x ∈ a, x.1 < e.1) -> SJ a (b ++ [e]) = SJ a b ++ [(true, e)]
 | _, [], [], e, _, _ => by simp [SJ]
 | n + 1, x :: a, [], e, hn, ha => by
   have h1 := ha x AH
   rw [List.nil_append, Zu h1, mrg_l, List.cons_append]
   have := PT n a [] e YO8 (fun z hz => ha z (by simp [hz]))
   rw [List.nil_append] at this; rw [this]
 | n + 1, [], y :: b, e, hn, ha => by
   rw [List.cons_append, SJ, SJ, List.cons_append, PT n [] b e YO8 ha]
 | n + 1, x :: a, y :: b, e, hn, ha => by
   rw [List.cons_append, SJ, SJ]
   by_cases h : x.1 < y.1
   . rw [if_pos h, if_pos h, List.cons_append]
     have := PT n a (y :: b) e YO8 (fun z hz => ha z (by simp [hz]))
     rw [List.cons_append] at this; rw [this]
   rw [if_neg h, if_neg h, List.cons_append, PT n (x :: a) b e YO8 ha]
 | 0, x :: a, b, e, hn, _ => by simp at hn
 | 0, [], y :: b, e, hn, _ => by simp at hn
def Rs.lines (r : Rs) : List Bs := cX r.vars :: ((SJ r.eqs r.neqs).map (lA r.vars) ++ (if r.next = 0 then [] else [xX r.next]))
structure RsOk (r : Rs) : Prop where
 vars : DM 4 r.vars = true
 last : r.last <= 999999
 next : r.next = 0 ∨ (r.last < r.next /\ r.next <= 1000000)
 all : ∀ b, ∀ e ∈ r.lst b, 1 <= e.1 /\ e.1 <= r.last /\ JS e.2 /\ PJ r.vars.length e.2 = true /\ (GR r.vars e.2).length <= 4000
 len : ∀ b, (r.lst b).length <= 12
 pw : ∀ b, (GT (r.lst b)).Pairwise (· < ·)
 dis : ∀ i ∈ GT r.eqs, i ∉ GT r.neqs
theorem rG {s p : Bs} (h : Lib.hasSuffix s p = true) : Lib.trimSuffix s p ++ p = s := by
 unfold Lib.hasSuffix at h
 obtain ⟨r, rfl⟩ := List.isSuffixOf_iff_suffix.1 h
 unfold Lib.trimSuffix Lib.hasSuffix
 rw [if_pos h]; simp
theorem Xn {s p : Bs} (h : Lib.hasPrefix s p = true) : p ++ Lib.trimPrefix s p = s := by
 unfold Lib.hasPrefix at h
 obtain ⟨r, rfl⟩ := List.isPrefixOf_iff_prefix.1 h
 unfold Lib.trimPrefix Lib.hasPrefix
 rw [if_pos h]; simp
theorem sT {s sep : Bs} (h : (Lib.cut s sep).2.2 = true) : (Lib.cut s sep).1 ++ (sep ++ (Lib.cut s sep).2.1) = s := by
 unfold Lib.cut at h ⊢
 by_cases g : 0 <= Lib.index s sep
 . rw [if_pos g]
   rcases Lib.index_spec s sep with ⟨k, _⟩ | ⟨i, k, l, f, _⟩
   . omega
   rw [k]
   simp only [Int.toNat_natCast]
   unfold Lib.occAt at f
   obtain ⟨r, e⟩ := List.isPrefixOf_iff_prefix.1 f
   have : s.drop (i + sep.length) = r := by rw [<- List.drop_drop, <- e]; simp
   rw [this, e, List.take_append_drop]
 rw [if_neg g] at h; cases h
theorem fits_iff {p : List Tm} : PJ n p = true ↔ IA p < 2 ^ n /\ QQ p <= 12 := by unfold PJ; simp
theorem lY {r : Rs} {e : En} : (r.add (neq, e)).lst neq = r.lst neq ++ [e] := by cases neq <;> rfl
theorem gF {r : Rs} {b : Bool} {e : En} (h : b ≠ neq) : (r.add (neq, e)).lst b = r.lst b := by cases neq <;> cases b <;> first | rfl | exact absurd rfl h
theorem YB {r : Rs} {e : Bool × En} : (r.add e).vars = r.vars := by unfold Rs.add; split <;> rfl
theorem hZ {r : Rs} {e : Bool × En} : (r.add e).next = r.next := by unfold Rs.add; split <;> rfl
theorem iA {r : Rs} {e : Bool × En} : (r.add e).last = e.2.1 := by unfold Rs.add; split <;> rfl
theorem yI {vs : List Bs} (h : DM 4 vs = true) : DM 8 vs = true := by
 unfold DM at h ⊢
 simp only [Bool.and_eq_true, decide_eq_true_eq] at h ⊢
 exact ⟨⟨by omega, h.1.2⟩, h.2⟩
theorem ids_in {l : List En} : i ∈ GT l ↔ ∃ e ∈ l, e.1 = i := by unfold GT; exact List.mem_map
theorem D2 {r : Rs} {p : List Tm} (h : RsOk r) (hn : r.next = 0) (h1 : r.last < id) (h2 : id <= 999999) (hp : JS p) (hf : PJ r.vars.length p = true) (hl : (GR r.vars p).length <= 4000) (hc : (r.lst neq).length < 12) :
 RsOk (r.add (neq, id, p)) /\ SJ (r.add (neq, id, p)).eqs (r.add (neq, id, p)).neqs = SJ r.eqs r.neqs ++ [(neq, id, p)] := by
 have lt : ∀ b, ∀ e ∈ r.lst b, e.1 < id := fun b e l => by have := (h.all b e l).2.1; omega
 refine ⟨⟨by rw [YB]; exact h.vars, by rw [iA]; exact h2, .inl (by rw [hZ]; exact hn), fun b e l => ?_, fun b => ?_, fun b => ?_, ?_⟩, ?_⟩
 . rw [iA, YB]
   by_cases o : b = neq
   . subst o; rw [lY] at l
     rcases List.mem_append.1 l with g | g
     . obtain ⟨v, F, u⟩ := h.all _ e g; exact ⟨v, by simp only; omega, u⟩
     simp at g; subst g; exact ⟨by simp only; omega, Nat.le_refl _, hp, hf, hl⟩
   rw [gF o] at l; obtain ⟨v, F, u⟩ := h.all _ e l; exact ⟨v, by simp only; omega, u⟩
 . by_cases o : b = neq
   . subst o; rw [lY]; simp; omega
   rw [gF o]; exact h.len b
 . by_cases o : b = neq
   . subst o; rw [lY, SO, List.pairwise_append]
     refine ⟨h.pw _, by simp, fun x D y B => ?_⟩
     simp at B; subst B
     obtain ⟨e, l, rfl⟩ := ids_in.1 D
     exact lt _ e l
   rw [gF o]; exact h.pw b
 . intro i t C
   have q : ∀ b, ∀ i ∈ GT (r.lst b), i < id := fun b i t => by obtain ⟨e, l, rfl⟩ := ids_in.1 t; exact lt b e l
   cases neq with
   | true =>
     have k : i ∈ GT r.eqs := t
     have f : i ∈ GT (r.neqs ++ [(id, p)]) := C
     rw [SO] at f
     rcases List.mem_append.1 f with g | g
     . exact h.dis i k g
     simp at g; have := q false i k; omega
   | false =>
     have k : i ∈ GT (r.eqs ++ [(id, p)]) := t
     have f : i ∈ GT r.neqs := C
     rw [SO] at k
     rcases List.mem_append.1 k with g | g
     . exact h.dis i g f
     simp at g; have := q true i f; omega
 cases neq with
 | true => exact PT _ r.eqs r.neqs (id, p) (Nat.le_refl _) (lt false)
 | false => exact SI _ r.eqs r.neqs (id, p) (Nat.le_refl _) (lt true)
theorem Fl {r r' : Rs} {t : Bs} (h : RsOk r) (hn : r.next = 0) (h1 : r.last < id) (h2 : id <= 999999) (hp : cB r id neq t = some r') :
 RsOk r' /\ r'.vars = r.vars /\ r'.next = 0 /\ ∃ p, SJ r'.eqs r'.neqs = SJ r.eqs r.neqs ++ [(neq, id, p)] /\ GR r.vars p = t := by
 unfold cB at hp
 obtain ⟨q, n, e⟩ : Rd := EE r.vars t
 by_cases g : (EE r.vars t).2.2 = 0 /\ QQ (EE r.vars t).1 <= 12 /\ (r.lst neq).length < 12
 . rw [if_pos g] at hp
   simp only [Option.some.injEq] at hp
   obtain ⟨k, f, v⟩ := g
   cases l : EE r.vars t with
   | mk p ne =>
     obtain ⟨n, e⟩ := ne
     rw [l] at k f hp
     simp only at k f hp; subst k
     obtain ⟨_, D, _, u, C, o⟩ := aD l
     obtain ⟨B, y⟩ := D2 (neq := neq) (id := id) (p := p) h hn h1 h2 u (fits_iff.2 ⟨(eT u).2 C, f⟩) (by rw [o]; exact D) v
     subst hp
     exact ⟨B, YB, by rw [hZ]; exact hn, p, y, o⟩
 rw [if_neg g] at hp; cases hp
theorem Qy {r r' : Rs} {l : Bs} (h : RsOk r) (hn : r.next = 0) (he : JP r l = some r') :
 RsOk r' /\ r'.vars = r.vars /\ r'.next = 0 /\ ∃ e, SJ r'.eqs r'.neqs = SJ r.eqs r.neqs ++ [e] /\ lA r.vars e = l := by
 unfold JP at he
 by_cases C : (Lib.cut l JC).2.2 = false
 . rw [if_pos C] at he; cases he
 rw [if_neg C] at he
 have f := sT (s := l) (sep := JC) (by cases F : (Lib.cut l JC).2.2 <;> simp_all)
 cases q : EA ((r.last + 1 : Nat) : Int) 999999 (Lib.cut l JC).1 with
 | none => simp only [q, reduceCtorEq] at he
 | some id =>
   simp only [q] at he
   obtain ⟨D, H, G⟩ := IW AA q
   by_cases o : Lib.hasSuffix (Lib.cut l JC).2.1 NL = true
   . rw [if_pos o] at he
     obtain ⟨B, y, v, p, u, t⟩ := Fl h hn AA AA he
     refine ⟨B, y, v, _, u, ?_⟩
     unfold lA; simp only [t]
     rw [show YX true = NL from rfl, rG o, <- D, f]
   rw [if_neg o] at he
   by_cases k : Lib.hasSuffix (Lib.cut l JC).2.1 ZR = true
   . rw [if_pos k] at he
     obtain ⟨B, y, v, p, u, t⟩ := Fl h hn AA AA he
     refine ⟨B, y, v, _, u, ?_⟩
     unfold lA; simp only [t]
     rw [show YX false = ZR from rfl, rG k, <- D, f]
   rw [if_neg k] at he; cases he
theorem Ve {r r' : Rs} {l : Bs} (h : RsOk r) (hn : n ≠ 1) (he : IL n r l = some r') : RsOk r' /\ r'.lines = r.lines ++ [l] := by
 unfold IL at he
 rw [if_neg hn] at he
 by_cases p : r.next ≠ 0
 . rw [if_pos p] at he; cases he
 rw [if_neg p] at he
 have f : r.next = 0 := by omega
 by_cases o : Lib.hasPrefix l lW = true
 . rw [if_pos o] at he
   unfold xY at he
   cases k : EA ((r.last + 1 : Nat) : Int) 1000000 (Lib.trimPrefix l lW) with
   | none => rw [k] at he; cases he
   | some m =>
     obtain ⟨q, D, C⟩ := IW AA k
     simp only [k, Option.map_some, Option.some.injEq] at he
     subst he
     refine ⟨⟨h.vars, h.last, .inr ⟨by show r.last < m; omega, by show m <= 1000000; omega⟩, h.all, h.len, h.pw, h.dis⟩, ?_⟩
     unfold Rs.lines
     rw [if_neg (show ¬ m = 0 by omega), if_pos f]
     simp only [List.append_nil, List.cons_append]
     unfold xX
     rw [<- q, Xn o]
 rw [if_neg o] at he
 obtain ⟨B, y, v, e, u, t⟩ := Qy h f he
 refine ⟨B, ?_⟩
 unfold Rs.lines
 rw [u, y, if_pos v, if_pos f, List.map_append]
 simp [t]
theorem Nr : ∀ {ls : List Bs} {n : Nat} {r r' : Rs}, RsOk r -> n ≠ 0 -> JX ls n r = some r' -> RsOk r' /\ r'.lines = r.lines ++ ls
 | [], n, r, r', h, _, hr => by simp only [JX, Option.some.injEq] at hr; subst hr; exact ⟨h, by simp⟩
 | x :: l, n, r, r', h, hn, hr => by
   cases hx : IL (n + 1) r x with
   | none => simp [JX, hx] at hr
   | some r1 =>
     simp only [JX, hx] at hr
     obtain ⟨a1, a2⟩ := Ve h AA hx
     obtain ⟨b1, b2⟩ := Nr a1 AA hr
     exact ⟨b1, by rw [b2, a2]; simp⟩
theorem RsOk0 {vs : List Bs} (h : DM 4 vs = true) : RsOk ⟨vs, [], [], 0, 0⟩ := ⟨h, (by show 0 <= 999999; decide), .inl rfl, fun b e he => (by cases b <;> cases he), fun b => (by cases b <;> exact Nat.zero_le _), fun b => (by cases b <;> exact List.Pairwise.nil), fun i hi => (by simp [GT] at hi)⟩
theorem Ei {r r' : Rs} {l : Bs} (h : XF r l = some r') : ∃ vs, DM 4 vs = true /\ cX vs = l /\ r' = ⟨vs, r.eqs, r.neqs, r.next, r.last⟩ := by
 unfold XF at h
 by_cases g : (DI 32 l).head? = some vaB /\ DM 4 (DI 32 l).tail = true
 . rw [if_pos g] at h
   simp only [Option.some.injEq] at h
   refine ⟨_, g.2, ?_, h.symm⟩
   unfold cX
   have f := oH 32 l
   cases e : DI 32 l with
   | nil => rw [e] at g; simp at g
   | cons x t => rw [e] at g f; simp at g; rw [List.tail_cons, <- g.1]; exact f
 rw [if_neg g] at h; cases h
theorem tS {ls : List Bs} {r : Rs} (hl : ls ≠ []) (h : JX ls 0 eO = some r) : RsOk r /\ r.lines = ls := by
 cases ls with
 | nil => exact absurd rfl hl
 | cons x l =>
   cases e : IL (0 + 1) eO x with
   | none => simp only [JX, e] at h; cases h
   | some r1 =>
     simp only [JX, e] at h
     unfold IL at e
     rw [if_pos rfl] at e
     obtain ⟨vs, q, p, o⟩ := Ei e
     subst o
     obtain ⟨k, f⟩ := Nr (RsOk0 q) AA h
     refine ⟨k, ?_⟩
     rw [f]; unfold Rs.lines; simp [SJ, p]
theorem RsOk.sys {r : Rs} (h : RsOk r) (hn : r.next ≠ 0) : LD r.sy = true := by
 obtain ⟨q, p⟩ := h.next.resolve_left hn
 have k : ∀ b, LG r.vars.length r.next (r.lst b) = true := fun b => by
  unfold LG
  simp only [Bool.and_eq_true, decide_eq_true_eq, List.all_eq_true]
  exact ⟨⟨h.len b, fun e f => ⟨⟨(h.all b e f).1, by have := (h.all b e f).2.1; omega⟩, (h.all b e f).2.2.2.1⟩⟩, h.pw b⟩
 exact Ep (s := r.sy) h.vars (by show ¬ r.next < 1; omega) (by show ¬ r.next > 1000000; omega) (k false) (k true) (fun i o l => h.dis i l o)
def Xc (s : Sy) : Prop := LD s = true /\ ∀ e, e ∈ s.eqs ∨ e ∈ s.neqs -> JS e.2 /\ (GR s.vars e.2).length <= 4000
theorem RsOk.sy {r : Rs} (h : RsOk r) (hn : r.next ≠ 0) : Xc r.sy := ⟨h.sys hn, fun e he => by
 rcases he with he | he
 . exact ⟨(h.all false e he).2.2.1, (h.all false e he).2.2.2.2⟩
 exact ⟨(h.all true e he).2.2.1, (h.all true e he).2.2.2.2⟩⟩
theorem xS {t : Bs} {s : Sy} (h : HO t = (s, n, 0)) : n = 0 /\ t.length <= 100000 /\ Xc s /\ Bk s = t := by
 unfold HO at h
 by_cases l : 100000 < t.length
 . rw [if_pos l] at h; simp at h
 rw [if_neg l] at h
 obtain ⟨p, B, u, k, f, o, q⟩ := De h
 have e : p ≠ [] := by
  rintro rfl
  simp only [JX, Option.some.injEq] at k
  subst k; exact f rfl
 obtain ⟨y, v⟩ := tS e k
 refine ⟨q, by omega, by rw [o]; exact y.sy f, ?_⟩
 have := oH 10 t
 rw [u, <- v] at this
 rw [<- this, o]
 unfold Bk Cy Rs.lines Rs.sy
 rw [if_neg f]
theorem C0 {x y : Bs} (h : (58 : UInt8) ∉ x) : Lib.cut (x ++ (JC ++ y)) JC = (x, y, true) := by
 have l : Lib.index (x ++ (JC ++ y)) JC = ((x.length : Nat) : Int) := by
  refine Lib.index_first (i := x.length) AH ?_ ?_
  . unfold Lib.occAt
    rw [List.drop_left]; exact List.isPrefixOf_iff_prefix.2 ⟨y, rfl⟩
  intro j k
  unfold Lib.occAt
  rw [List.drop_append_of_le_length AA, List.drop_eq_getElem_cons k]
  have : ¬ (58 : UInt8) = x[j] := fun e => h (e ▸ List.getElem_mem k)
  rw [Bool.eq_false_iff]
  intro g
  obtain ⟨r, f⟩ := List.isPrefixOf_iff_prefix.1 g
  simp only [JC, List.cons_append, List.cons.injEq] at f
  exact this f.1
 unfold Lib.cut
 rw [l, if_pos AA, Int.toNat_natCast, List.take_left, <- List.drop_drop, List.drop_left]
 rfl
theorem bI (x p : Bs) : Lib.hasSuffix (x ++ p) p = true /\ Lib.trimSuffix (x ++ p) p = x := by
 have h : Lib.hasSuffix (x ++ p) p = true := List.isSuffixOf_iff_suffix.2 ⟨x, rfl⟩
 refine ⟨h, ?_⟩
 unfold Lib.trimSuffix; rw [if_pos h]; simp
theorem sQ (x : Bs) : Lib.hasSuffix (x ++ ZR) NL = false := by
 rw [Bool.eq_false_iff]
 intro g
 obtain ⟨r, e⟩ := List.isSuffixOf_iff_suffix.1 g
 have f := congrArg (fun l => (l.reverse)[3]?) e
 simp [ZR, NL] at f
theorem rB (z : Int) : (58 : UInt8) ∉ txt z := Lz AE
structure Fol (r : Rs) (a b : List En) : Prop where
 vars : DM 4 r.vars = true
 next : r.next = 0
 all : ∀ e, e ∈ a ∨ e ∈ b -> r.last < e.1 /\ e.1 <= 999999 /\ JS e.2 /\ PJ r.vars.length e.2 = true /\ (GR r.vars e.2).length <= 4000
 la : r.eqs.length + a.length <= 12
 lb : r.neqs.length + b.length <= 12
 pa : (GT a).Pairwise (· < ·)
 pb : (GT b).Pairwise (· < ·)
 dis : ∀ i ∈ GT a, i ∉ GT b
theorem Uf {e : En} {l : List En} (h : (GT (e :: l)).Pairwise (· < ·)) : (∀ x ∈ l, e.1 < x.1) /\ (GT l).Pairwise (· < ·) := by
 unfold GT at h ⊢
 rw [List.map_cons, List.pairwise_cons] at h
 exact ⟨fun x f => h.1 _ (List.mem_map.2 ⟨x, f, rfl⟩), h.2⟩
theorem Fol.eq {r : Rs} {e : En} {a b : List En} (h : Fol r (e :: a) b) (hb : ∀ x ∈ b, e.1 < x.1) : Fol (r.add (false, e)) a b := by
 obtain ⟨o, l⟩ := Uf h.pa
 refine ⟨by rw [YB]; exact h.vars, by rw [hZ]; exact h.next, fun x f => ?_, by have := h.la; simp [Rs.add] at this ⊢; omega, by have := h.lb; simp [Rs.add] at this ⊢; omega, l, h.pb, fun i k => h.dis i (by unfold GT at k ⊢; simp [k])⟩
 rw [YB, iA]
 rcases f with f | f
 . exact ⟨o x f, (h.all x (.inl (by simp [f]))).2⟩
 exact ⟨hb x f, (h.all x (.inr f)).2⟩
open Go.Proofs.Tryz
open Go.RowKit
def fBe (hn : n <= w0.heap.size) : SF := ⟨fun w => Below n w0 w, fun c => n <= c, fun h hb => h.trans (hb.mono (Nat.le_trans hn h.size)), fun h _ ho hb => hb.below h ho⟩
theorem bG (hn : n <= w0.heap.size) : Env w0 [fBe hn] := ⟨Below.refl _ _, BX⟩
theorem Env.be {hn : n <= w0.heap.size} (E : Env w L) (h : Below n w0 w) : Env w (fBe hn :: L) := ⟨h, E⟩
theorem Zn {hn : n <= w0.heap.size} (h : n <= c) : (fBe hn).ok c := h
theorem Acc.below {e : El α} {l : List α} (h : Acc e t base S w v l) (hS : ∀ k, S k -> k < w.heap.size) (hb : Below w.heap.size w w') : Acc e t base S w' v l := ((fA e t base S v l).below ⟨h, hS⟩ hb).1
theorem Acc.onl {e : El α} {l : List α} (h : Acc e t base S w v l) (hS : ∀ k, S k -> k < w.heap.size) (hn : Av w b) (h1 : v.ownBlock ≠ some b) (h2 : ¬ S b) (hb : Onl b w w') : Acc e t base S w' v l := ((fA e t base S v l).onl ⟨h, hS⟩ hn ⟨h1, h2⟩ hb).1
structure Two (r : Nat) (S : Nat -> Prop) (w : World) (vv ve vn : Value) (vars : List Bs) (eqs neqs : List En) : Prop where
 vars : IsR elS S w vv vars
 eqs : Acc RB 83 (r + 1) S w ve eqs
 neqs : Acc RB 83 (r + 1) S w vn neqs
 apart : ∀ g, ve.ownBlock = some g -> vn.ownBlock = some g -> False
 set : ∀ k, S k -> r < k /\ k < w.heap.size
theorem Two.lt {vars : List Bs} {eqs neqs : List En} (h : Two r S w vv ve vn vars eqs neqs) : ∀ k, S k -> k < w.heap.size := fun k hk => (h.set k hk).2
theorem Two.below {vars : List Bs} {eqs neqs : List En} (h : Two r S w vv ve vn vars eqs neqs) (hb : Below w.heap.size w w') : Two r S w' vv ve vn vars eqs neqs :=
 ⟨h.vars.keep (Keep.below hb h.lt), h.eqs.below h.lt hb, h.neqs.below h.lt hb, h.apart, fun k hk => ⟨(h.set k hk).1, Nat.lt_of_lt_of_le (h.lt k hk) hb.size⟩⟩
theorem Two.onl {vars : List Bs} {eqs neqs : List En} (h : Two r S w vv ve vn vars eqs neqs) (hn : Av w b) (hlt : b <= r) (hb : Onl b w w') : Two r S w' vv ve vn vars eqs neqs := by
 have f : ¬ S b := fun g => by have := (h.set b g).1; omega
 have e : ∀ {v : Value} {l : List En}, Acc RB 83 (r + 1) S w v l -> v.ownBlock ≠ some b := fun p g => by have := (p.lt g).1; omega
 exact ⟨h.vars.keep (Keep.onl hn hb f), h.eqs.onl h.lt hn (e h.eqs) f hb, h.neqs.onl h.lt hn (e h.neqs) f hb, h.apart, fun k o => ⟨(h.set k o).1, by rw [hb.size]; exact h.lt k o⟩⟩
def RdrAt (r : Nat) (w : World) (st : Rs) : Prop := ∃ S vv ve vn, Bx w r 115 [vv, ve, vn, .int .i64 ↑st.next, .int .i64 ↑st.last] /\ Two r S w vv ve vn st.vars st.eqs st.neqs
theorem RdrAt.below {st : Rs} (h : RdrAt r w st) (hb : Below w.heap.size w w') : RdrAt r w' st := by
 obtain ⟨S, e, k, f, o, l⟩ := h
 exact ⟨S, e, k, f, o.below hb, l.below hb⟩
theorem RdrAt.onl {st : Rs} (h : RdrAt r w st) (hn : Av w b) (hlt : b < r) (hb : Onl b w w') : RdrAt r w' st := by
 obtain ⟨S, e, k, f, o, l⟩ := h
 exact ⟨S, e, k, f, o.onl AA hb, l.onl hn AA hb⟩
theorem RdrAt.lt {st : Rs} (h : RdrAt r w st) : r < w.heap.size := by
 obtain ⟨S, f, l, k, e, o⟩ := h
 exact e.lt
def fRd (r : Nat) (st : Rs) : SF := ⟨fun w => RdrAt r w st, fun c => c < r, fun h hb => h.below hb, fun h hn ho hb => h.onl hn ho hb⟩
theorem Env.rd {st : Rs} (E : Env w L) (h : RdrAt r w st) : Env w (fRd r st :: L) := ⟨h, E⟩
theorem okRd {st : Rs} (h : c < r) : (fRd r st).ok c := h
def Ye (r : Nat) (w : World) : Option Rs -> Bool -> Prop
 | some st, b => b = true /\ RdrAt r w st
 | none, b => b = false
def kG (r : Nat) (w0 : World) (o : Option Rs) (e : Ending) (w' : World) : Prop := ∃ b, e = .returned (.bool b) /\ Below r w0 w' /\ Ye r w' o b
theorem QL {f : Nat} {res : Option Rs} (hf : Fn P f)
 (ho : o.op = .call { callee := .value (.func f), args := args.toArray, argTypes := tys }) (hc : Calls P f vs.toArray w (kG r w res)) (hv : args.map a.eval = vs)
 (h : ∀ w' b, Below r w w' -> Ye r w' res b -> K (a.put o.dst (.bool b)) w') : o.wp P a w K Q := by
 refine CZ hf ho hc hv ?_
 rintro e w' ⟨b, rfl, l, k⟩
 exact ⟨_, rfl, h w' b l k⟩
theorem TV {e : El α} {T bytes : Nat} (R : RowT e T t bytes)
 (ho : o.op = .call { callee := .builtin .append, args := #[s, y], argTypes := #[T, T] }) {l : List α} (hs : a.eval s = v) (hA : Acc e t base S w v l) (hS : ∀ k, S k -> k < w.heap.size)
 (E : Env w L) (hok : ∀ g, v.ownBlock = some g -> base <= g -> g < w.heap.size -> Ok g L) {nb : Nat} {cs : List Value} {x : α} (hy : a.eval y = .slice (some ⟨nb, 0, none⟩) 1 1) (hb : Bx w nb t cs) (hx : e.p S w cs x)
 (h63 : l.length + 1 <= maxLen) (hby : (l.length + 1) * bytes <= 140737488355328) (hbase : base <= w.heap.size)
 (h : ∀ v' w', (∀ c, c < w.heap.size -> v.ownBlock ≠ some c -> v'.ownBlock ≠ some c) -> Env w' (fA e t base S v' (l ++ [x]) :: L) -> K (a.put o.dst v') w') : o.wp prog a w K Q := by
 obtain ⟨U, D, h2, h3⟩ := hA
 obtain ⟨i, z, e1, e2, e3, e4, e5, e6⟩ := R.info
 have J := e.len hx
 obtain ⟨v', w', hr, g2, f⟩ := TR (P := prog) (w := w) base T o.type t i z e.sz bytes R.ht e1 e2 e3 e4 e5 R.pos Gn e6 v l.length U D ⟨nb, 0, none⟩ 1 1 cs (by rw [J, Nat.one_mul])
  (fun j u q => by
    have : (⟨nb, 0, none⟩ : Addr).add j = ⟨nb, j, none⟩ := by unfold Addr.add; split <;> simp_all
    rw [this, hb.cell]; exact q) (e.one hx) (fun u q k => e.nw hx u q k) h63 hby hbase
 unfold Oper.wp execOp
 simp only [ho, resolve, invoke, builtin, Sem.run_bind, Sem.run_pure, Result.andThen_ok, List.map_toArray, List.map_cons, List.map_nil, hs, hy, hr]
 have N : Keep S w w' := by
  rcases f with ⟨f, _⟩ | ⟨g, hg, _, f⟩
  . exact Keep.below f hS
  exact Keep.onl (D.noW hg tD) f (h3 g hg)
 have X : w.heap.size <= w'.heap.size := by
  rcases f with ⟨f, _⟩ | ⟨g, hg, _, f⟩
  . exact f.size
  exact Nat.le_of_eq f.size.symm
 have G : ∀ g, v'.ownBlock = some g -> ¬ S g := by
  intro g hg
  rcases f with ⟨_, g4⟩ | ⟨g', C, B, _⟩
  . rw [g4 AA] at hg
    simp only [Option.some.injEq] at hg
    intro hs; have := hS g hs; omega
  rw [B] at hg; simp only [Option.some.injEq] at hg; subst hg; exact h3 g' C
 have H : ∀ c, c < w.heap.size -> v.ownBlock ≠ some c -> v'.ownBlock ≠ some c := by
  intro c hc Y hg
  rcases f with ⟨_, g4⟩ | ⟨g', C, B, _⟩
  . rw [g4 AA] at hg
    simp only [Option.some.injEq] at hg
    omega
  rw [B] at hg; simp only [Option.some.injEq] at hg; subst hg; exact Y C
 have F : Acc e t base S w' v' (l ++ [x]) := by
  refine ⟨U ++ cs, by rw [List.length_append]; exact g2, fun j u q => ?_, G⟩
  by_cases hj : j < l.length
  . rw [List.getElem?_append_left hj] at q
    rw [wK D.1 cs hj]
    exact e.keep (h2 j u q) N
  have a0 : j = l.length := by
   have := (List.getElem?_eq_some_iff.1 q).1
   simp at this; omega
  subst a0
  simp at q
  subst q
  have I : l.length * e.sz = U.length := D.1.symm
  rw [I, List.drop_left, List.take_of_length_le (by rw [J]; exact Nat.le_refl _)]
  exact e.keep hx N
 refine h v' w' H ⟨⟨F, fun k N => Nat.lt_of_lt_of_le (hS k N) X⟩, ?_⟩
 rcases f with ⟨f, _⟩ | ⟨g, hg, _, f⟩
 . exact E.below f
 exact E.onl (D.noW hg tD) (hok g hg (D.blk hg).1 (D.blk hg).2) f
theorem HH {f : Nat} {r : Rd} (hf : Fn P f)
 (ho : o.op = .call { callee := .value (.func f), args := args.toArray, argTypes := tys }) (hc : Calls P f vs.toArray w (Se w r)) (hv : args.map a.eval = vs) (E : Env w L)
 (h : ∀ w' u, Below w.heap.size w w' -> NewP w r.1 w' u -> Env w' L -> K (a.put o.dst (.tuple #[u, .int .i64 ↑r.2.1, .int .i64 ↑r.2.2])) w') : o.wp P a w K Q := by
 refine CZ hf ho hc hv ?_
 rintro e w' ⟨_, rfl, ⟨u, rfl, l⟩, k⟩
 exact ⟨_, rfl, h w' u k l (E.below k)⟩
def NewSy (w0 : World) (s : Sy) (w' : World) (v : Value) : Prop := ∃ vv ve vn, v = .agg #[vv, ve, vn, .int .i64 ↑s.next] /\ IsR elS (EM w0.heap.size w'.heap.size) w' vv s.vars /\ IsR RB (EM w0.heap.size w'.heap.size) w' ve s.eqs /\ IsR RB (EM w0.heap.size w'.heap.size) w' vn s.neqs
def Hv (w0 : World) (r : Ps) (e : Ending) (w' : World) : Prop := ∃ v, e = .returned (.tuple #[v, .int .i64 ↑r.2.1, .int .i64 ↑r.2.2]) /\ NewSy w0 r.1 w' v /\ Below w0.heap.size w0 w'
theorem NewSy.zero (w0 w' : World) : NewSy w0 qQ w' (.agg #[.slice none 0 0, .slice none 0 0, .slice none 0 0, .int .i64 0]) := ⟨_, _, _, rfl, IsR.nil _ _ _, IsR.nil _ _ _, IsR.nil _ _ _⟩
theorem Two.sy {s : Sy} (h : Two r S w vv ve vn s.vars s.eqs s.neqs) (hr : w0.heap.size <= r) : NewSy w0 s w (.agg #[vv, ve, vn, .int .i64 ↑s.next]) :=
 have hS : ∀ k, S k -> EM w0.heap.size w.heap.size k := fun k hk => ⟨by have := (h.set k hk).1; omega, h.lt k hk⟩
 ⟨vv, ve, vn, rfl, h.vars.mono hS, h.eqs.row hS (fun k h1 h2 _ => ⟨by omega, h2⟩), h.neqs.row hS (fun k h1 h2 _ => ⟨by omega, h2⟩)⟩
theorem Acc.le {e : El α} {l : List α} (h : Acc e t base S w v l) : ∃ ao cap, v = .slice ao l.length cap /\ l.length <= cap := by
 obtain ⟨q, ⟨u, f⟩, _, _⟩ := h
 rcases f with ⟨rfl, k⟩ | ⟨g, cap, p, rfl, G, F, o, D, C, B, y⟩
 . exact ⟨none, 0, by rw [k], by omega⟩
 exact ⟨_, cap, rfl, o⟩
theorem iL
 (ho : o.op = .call { callee := .builtin .append, args := #[s, y], argTypes := #[30, 30] }) {S2 : Nat -> Prop} {u : Value} {l l2 : List Bs} (hs : a.eval s = v) (hA : Acc elS 9 base S w v l) (hS : ∀ k, S k -> k < w.heap.size)
 (E : Env w L) (hok : ∀ g, v.ownBlock = some g -> base <= g -> g < w.heap.size -> Ok g L) (hy : a.eval y = u) (hR : IsR elS S2 w u l2)
 (h63 : l.length + l2.length <= maxLen) (hby : (l.length + l2.length) * 16 <= 140737488355328) (hbase : base <= w.heap.size)
 (h : ∀ v' w', Env w' (fA elS 9 base S v' (l ++ l2) :: L) -> K (a.put o.dst v') w') : o.wp prog a w K Q := by
 have Y := hA
 obtain ⟨i, z, e1, e2, e3, e4, e5, e6⟩ := RT_S.info
 by_cases C : l2 = []
 . subst C
   obtain ⟨ao, a0, rfl, T⟩ := hA.le
   obtain ⟨t, f, rfl, _, _⟩ := hR.shp
   have F : Src prog i.size 30 (.slice t 0 f) 0 [] w := by
    cases t with
    | none => exact Src.ofNil w RT_S.ht f
    | some ad => exact Src.ofSlice w RT_S.ht ad 0 f [] AH (fun j u p => by simp at p) (fun u p => by cases p)
   have R := run_append_nothing (P := prog) w 30 30 o.type 9 i RT_S.ht e1 ao l.length a0 T (.slice t 0 f) F
   unfold Oper.wp execOp
   simp only [ho, resolve, invoke, builtin, Sem.run_bind, Sem.run_pure, Result.andThen_ok, List.map_toArray, List.map_cons, List.map_nil, hs, hy, List.length_nil, R]
   exact h _ w ⟨⟨by rw [List.append_nil]; exact Y, hS⟩, E⟩
 obtain ⟨t, f, rfl, _, _⟩ := hR.shp
 obtain ⟨_, _, _, b, B, rfl, a2, hc⟩ := bX hR C
 obtain ⟨D, I, h2, h3⟩ := hA
 obtain ⟨v', w', R, g2, q⟩ := TR (P := prog) (w := w) base 30 o.type 9 i z 1 16 RT_S.ht e1 e2 e3 e4 e5 AE Gn e6 v l.length D I ⟨b, B, none⟩ l2.length f (l2.map fun x => Value.string (bs x)) AH
  (fun j u p => by
    have : (⟨b, B, none⟩ : Addr).add j = ⟨b, B + j, none⟩ := by unfold Addr.add; split <;> simp_all
    rw [this]
    rw [List.getElem?_map] at p
    cases J : l2[j]? with
    | none => simp [J] at p
    | some x => simp [J] at p; subst p; exact hc j x J) (fun u p => by
    obtain ⟨x, _, rfl⟩ := List.mem_map.1 p; rfl) (fun u p k => by
    obtain ⟨x, _, rfl⟩ := List.mem_map.1 p
    intro e; cases e) h63 hby hbase
 unfold Oper.wp execOp
 simp only [ho, resolve, invoke, builtin, Sem.run_bind, Sem.run_pure, Result.andThen_ok, List.map_toArray, List.map_cons, List.map_nil, hs, hy, R]
 have N : w.heap.size <= w'.heap.size := by
  rcases q with ⟨q, _⟩ | ⟨g, hg, _, q⟩
  . exact q.size
  exact Nat.le_of_eq q.size.symm
 have H : ∀ g, v'.ownBlock = some g -> ¬ S g := by
  intro g hg
  rcases q with ⟨_, g4⟩ | ⟨g', X, U, _⟩
  . rw [g4 (by intro e; exact C (List.eq_nil_of_length_eq_zero e))] at hg
    simp only [Option.some.injEq] at hg
    intro hs; have := hS g hs; omega
  rw [U] at hg; simp only [Option.some.injEq] at hg; subst hg; exact h3 g' X
 have G : Acc elS 9 base S w' v' (l ++ l2) := by
  refine ⟨D ++ l2.map fun x => Value.string (bs x), by rw [List.length_append]; exact g2, fun j u p => ?_, H⟩
  have a1 : D.length = l.length := by rw [I.1]; exact Nat.mul_one _
  show ((D ++ l2.map fun x => Value.string (bs x)).drop (j * 1)).take 1 = [.string (bs u)]
  rw [Nat.mul_one]
  by_cases hj : j < l.length
  . rw [List.getElem?_append_left hj] at p
    have h4 : ((D.drop (j * 1)).take 1) = [.string (bs u)] := h2 j u p
    rw [Nat.mul_one] at h4
    rw [List.drop_append_of_le_length AA, List.take_append_of_le_length (by rw [List.length_drop]; omega)]; exact h4
  rw [List.getElem?_append_right AA] at p
  rw [show j = D.length + (j - l.length) by omega, <- List.drop_drop, List.drop_left]
  obtain ⟨q1, q2⟩ := List.getElem?_eq_some_iff.1 p
  rw [List.drop_eq_getElem_cons (by simpa using q1)]
  simp [q2]
 refine h v' w' ⟨⟨G, fun k hk => Nat.lt_of_lt_of_le (hS k hk) N⟩, ?_⟩
 rcases q with ⟨q, _⟩ | ⟨g, hg, _, q⟩
 . exact E.below q
 exact E.onl (I.noW hg tD) (hok g hg (I.blk hg).1 (I.blk hg).2) q
def cU (vars : List Bs) (l : List (Bool × En)) : Bs := l.flatMap fun e => lA vars e ++ [10]
theorem Qa (b : UInt8) : ∀ l : List Bs, jn b (l ++ [[]]) = l.flatMap fun x => x ++ [b]
 | [] => rfl
 | x :: l => by
   rw [List.cons_append, MV b x AH, Qa b l, List.flatMap_cons]; simp
theorem Tf (s : Sy) : Bk s = cX s.vars ++ 10 :: (cU s.vars (SJ s.eqs s.neqs) ++ (xX s.next ++ [10])) := by
 unfold Bk Cy
 rw [Qa]
 simp only [List.flatMap_cons, List.flatMap_append, List.flatMap_nil, List.append_nil]
 unfold cU
 rw [List.flatMap_map]; simp
theorem Dk (vars : List Bs) (l : List (Bool × En)) (e : Bool × En) : cU vars (l ++ [e]) = cU vars l ++ (lA vars e ++ [10]) := by unfold cU; simp
structure PrTo (s : Sy) (i k : Nat) (done : List (Bool × En)) : Prop where
 eq : done ++ SJ (s.eqs.drop i) (s.neqs.drop k) = SJ s.eqs s.neqs
 short : gI s.vars done = false
theorem PrTo.zero (s : Sy) : PrTo s 0 0 [] := ⟨by simp, rfl⟩
theorem SR {l : List α} {x : α} (h : l[i]? = some x) : l.drop i = x :: l.drop (i + 1) := by
 obtain ⟨f, e⟩ := List.getElem?_eq_some_iff.1 h
 rw [List.drop_eq_getElem_cons f, e]
theorem sD (vars : List Bs) (a b : List (Bool × En)) : gI vars (a ++ b) = (gI vars a || gI vars b) := by unfold gI; simp
def dP (s : Sy) (i k : Nat) (e : Bool × En) : Prop := (e.1 = false /\ s.eqs[i]? = some e.2 /\ (¬ k < s.neqs.length ∨ ∃ f, s.neqs[k]? = some f /\ e.2.1 < f.1)) ∨ (e.1 = true /\ s.neqs[k]? = some e.2 /\ (¬ i < s.eqs.length ∨ ∃ f, s.eqs[i]? = some f /\ ¬ f.1 < e.2.1))
theorem yA {s : Sy} {e : Bool × En} (h : dP s i k e) : SJ (s.eqs.drop i) (s.neqs.drop k) = e :: SJ (s.eqs.drop (if e.1 then i else i + 1)) (s.neqs.drop (if e.1 then k + 1 else k)) := by
 obtain ⟨b, x⟩ := e
 rcases h with ⟨rfl, o, l⟩ | ⟨rfl, o, l⟩
 . simp only at o l ⊢
   rw [SR o]
   rcases l with l | ⟨f, l, p⟩
   . rw [List.drop_eq_nil_of_le (by omega : s.neqs.length <= k), SJ]; simp [List.drop_eq_nil_of_le (by omega : s.neqs.length <= k)]
   rw [SR l, SJ, if_pos p]; simp [SR l]
 simp only at o l ⊢
 rw [SR o]
 rcases l with l | ⟨f, l, p⟩
 . rw [List.drop_eq_nil_of_le (by omega : s.eqs.length <= i), SJ]; simp [List.drop_eq_nil_of_le (by omega : s.eqs.length <= i)]
 rw [SR l, SJ, if_neg p]; simp [SR l]
theorem PrTo.step {s : Sy} {done : List (Bool × En)} {e : Bool × En} (h : PrTo s i k done) (hn : dP s i k e) (hl : ¬ 4000 < (GR s.vars e.2.2).length) : PrTo s (if e.1 then i else i + 1) (if e.1 then k + 1 else k) (done ++ [e]) := by
 refine ⟨?_, ?_⟩
 . have := h.eq; rw [yA hn] at this; rw [<- this]; simp
 rw [sD, h.short]; unfold gI; simp; omega
theorem PrTo.long {s : Sy} {done : List (Bool × En)} {e : Bool × En} (h : PrTo s i k done) (hs : LD s = true) (hn : dP s i k e) (hl : 4000 < (GR s.vars e.2.2).length) : YQ s = ([], 2) := by
 unfold YQ
 rw [if_neg (by rw [hs]; simp), if_pos]
 rw [<- h.eq, yA hn, sD]
 have : gI s.vars (e :: SJ (s.eqs.drop (if e.1 then i else i + 1)) (s.neqs.drop (if e.1 then k + 1 else k))) = true := by unfold gI; simp [hl]
 rw [this]; simp
theorem PrTo.full {s : Sy} {done : List (Bool × En)} (h : PrTo s i k done) (hs : LD s = true) (hi : ¬ i < s.eqs.length) (hk : ¬ k < s.neqs.length) : done = SJ s.eqs s.neqs /\ YQ s = (Bk s, 0) := by
 have e := h.eq
 rw [List.drop_eq_nil_of_le AA, List.drop_eq_nil_of_le AA, SJ, List.append_nil] at e
 refine ⟨e, ?_⟩
 unfold YQ
 rw [if_neg (by rw [hs]; simp), if_neg (by rw [<- e, h.short]; simp)]
theorem Zl {s : Sy} (h : LD s = false) : YQ s = ([], 320) := by unfold YQ; rw [if_pos h]
theorem Mj {s : Sy} (h : LD s = true) : DM 4 s.vars = true /\ s.eqs.length <= 12 /\ s.neqs.length <= 12 /\ 1 <= s.next /\ s.next <= 1000000 /\ (∀ e, e ∈ s.eqs ∨ e ∈ s.neqs -> e.1 <= 1000000 /\ PJ s.vars.length e.2 = true) := by
 unfold LD at h
 simp only [Bool.and_eq_true, decide_eq_true_eq] at h
 obtain ⟨⟨⟨⟨⟨q, p⟩, o⟩, l⟩, k⟩, t⟩ := h
 unfold LG at l k
 simp only [Bool.and_eq_true, decide_eq_true_eq, List.all_eq_true] at l k
 refine ⟨q, l.1.1, k.1.1, p, o, fun e f => ?_⟩
 rcases f with f | f
 . have := l.1.2 e f; exact ⟨by omega, this.2⟩
 have := k.1.2 e f; exact ⟨by omega, this.2⟩
theorem ZV (h : n <= 1000000) : (txt ((n : Nat) : Int)).length <= 7 := by
 unfold txt
 rw [if_neg AA, List.nil_append, vF, Int.natAbs_natCast]
 exact sS AE AA
theorem mV {vars : List Bs} (h : DM 4 vars = true) : (cX vars).length <= 60 := by
 have p := Pz 32 (vaB :: vars)
 have u := IG h
 have o : ∀ v ∈ vars, v.length <= 12 := fun v e => oK (SK h v e)
 have k : ∀ l : List Bs, (∀ v ∈ l, v.length <= 12) -> (l.map fun x => x.length + 1).sum <= 13 * l.length := by
  intro l
  induction l with
  | nil => intro _; simp
  | cons x l ih =>
    intro e
    have := ih (fun v f => e v (by simp [f]))
    have := e x AH
    simp only [List.map_cons, List.sum_cons, List.length_cons]; omega
 have t := k vars o
 have q : (cX vars).length <= (vaB.length + 1) + (vars.map fun x => x.length + 1).sum := by
  unfold cX; refine Nat.le_trans p ?_; simp
 have : vaB.length = 4 := rfl
 omega
end Go.Proofs.YtmppigbbkjepiaaGreatDoor
