/- Helping facts of KitO; no other conditions. Helping facts of Rat3; no other conditions. Helping facts of Entry; no other conditions. Helping facts of AddP; no other conditions. Helping facts of KitN; no other conditions. Helping facts of Rat5; no other conditions. -/
import Derived.Test.YtmppigbbkjepiaaGreatDoorKitR
import Derived.Test.YtmppigbbkjepiaaGreatDoorRows
import Derived.ProofKit
import Derived.Lib.SmallJoins
import Derived.Carry
import Derived.Lib.OthersKept
namespace Go.Proofs.YtmppigbbkjepiaaGreatDoor
variable {P : Program} {b : UInt8} {c : Int} {i k pos : Nat} {m : List Nat} {p : Prop} {s : ByteArray} {w : World} {x : Operand} {y : Rat}
theorem Y94 (h : p := by simp [DataW.TrodAll]) : p := h
theorem ZyE (h : p := by
 simp only [Bool.or_eq_false_iff, Bool.and_eq_false_iff, decide_eq_false_iff_not]
 omega
 ) : p := h
theorem Acc.own {α : Type} {e : El α} {t base : Nat} {S : Nat -> Prop} {v : Value} {l : List α} (h : Acc e t base S w v l) : ∀ g, v.ownBlock = some g -> ¬ S g := by
 obtain ⟨_, _, _, f⟩ := h; exact f
open Go.RowKit W
theorem pG {x : Rat} (h : x = y) : (gZ x y == 0) = true := by
 rcases sX x y with ⟨g, _⟩ | ⟨_, e⟩ | ⟨g, _⟩
 . subst h; exact absurd g Rat.lt_irrefl
 . rw [e]; rfl
 subst h; exact absurd g Rat.lt_irrefl
theorem pF {x : Rat} (h : ¬ x = y) : (gZ x y == 0) = false := by
 rcases sX x y with ⟨_, e⟩ | ⟨g, _⟩ | ⟨_, e⟩
 . rw [e]; rfl
 . exact absurd g h
 rw [e]; rfl
open Go.Proofs.Tryz
open Go.ChangeShapes Go.WideShapes Go.ChangeAt Go.Joins
theorem Tryz.own : ownKnob prog.godebug = none := by kernel_rfl
theorem Tryz.laidOut : laidOutB prog = true := by kernel_rfl
theorem WO {H : Type} {enc : TypeId × Value -> H} {W W' : World} (hb : Below W.heap.size W W') : ∀ {ts : List TypeId} {vs : List Value} {ds : List (DataW H)} {ps : List MemPlace},
 DataW.TrodAll enc prog W 0 (fun _ => true) true ts vs ds ps -> (∀ t ∈ ts, prog.readableRec t = true /\ t < prog.types.size) -> (∀ x ∈ ps, x.block < W.heap.size) ->
 DataW.TrodAll enc prog W' 0 (fun b => decide (b < W.heap.size)) true ts vs ds ps
 | [], [], [], _, h, _, _ => h
 | t :: ts, v :: vs, d :: ds, ps, h, hr, hlt => by
   obtain ⟨p, q, h1, h2, rfl⟩ := h
   refine ⟨p, q, Below.trod Tryz.laidOut (hr t AH).1 (hr t AH).2 h1 hb (fun x hx => hlt x (List.mem_append_left _ hx)), WO hb h2 (fun t ht => hr t (List.mem_cons_of_mem _ ht)) (fun x hx => hlt x (List.mem_append_right _ hx)), O⟩
 | [], _ :: _, _, _, h, _, _ => absurd h Y94
 | [], [], _ :: _, _, h, _, _ => absurd h Y94
 | _ :: _, [], _, _, h, _, _ => absurd h Y94
 | _ :: _, _ :: _, [], _, h, _, _ => absurd h Y94
def PB : List Tm -> List Tm -> List Tm
 | [], q => q
 | t :: p, [] => t :: p
 | t :: p, u :: q => if 0 < FR t.2 u.2 then t :: PB p (u :: q) else if FR t.2 u.2 < 0 then u :: PB (t :: p) q else if t.1 + u.1 = 0 then PB p q else (t.1 + u.1, t.2) :: PB p q
termination_by p q => p.length + q.length
theorem pM (p : List Tm) : PB p [] = p := by cases p <;> rw [PB]
theorem tB (q : List Tm) : PB [] q = q := by rw [PB]
theorem Hq {t u : Tm} {p q : List Tm} (h : 0 < FR t.2 u.2) : PB (t :: p) (u :: q) = t :: PB p (u :: q) := by rw [PB, if_pos h]
theorem Hp {t u : Tm} {p q : List Tm} (h : ¬ 0 < FR t.2 u.2) (h2 : FR t.2 u.2 < 0) : PB (t :: p) (u :: q) = u :: PB (t :: p) q := by rw [PB, if_neg h, if_pos h2]
theorem Rx {t u : Tm} {p q : List Tm} (h : ¬ 0 < FR t.2 u.2) (h2 : ¬ FR t.2 u.2 < 0) (h3 : t.1 + u.1 = 0) : PB (t :: p) (u :: q) = PB p q := by rw [PB, if_neg h, if_neg h2, if_pos h3]
theorem Ho {t u : Tm} {p q : List Tm} (h : ¬ 0 < FR t.2 u.2) (h2 : ¬ FR t.2 u.2 < 0) (h3 : ¬ t.1 + u.1 = 0) : PB (t :: p) (u :: q) = (t.1 + u.1, t.2) :: PB p q := by rw [PB, if_neg h, if_neg h2, if_neg h3]
theorem iB {P : List Tm -> List Tm -> List Tm -> Prop} (h1 : ∀ q, P [] q q) (h2 : ∀ p, P p [] p) (h3 : ∀ t u p q r, 0 < FR t.2 u.2 -> P p (u :: q) r -> P (t :: p) (u :: q) (t :: r))
 (h4 : ∀ t u p q r, FR t.2 u.2 < 0 -> P (t :: p) q r -> P (t :: p) (u :: q) (u :: r)) (h5 : ∀ t u p q r, FR t.2 u.2 = 0 -> t.1 + u.1 = 0 -> P p q r -> P (t :: p) (u :: q) r)
 (h6 : ∀ t u p q r, FR t.2 u.2 = 0 -> t.1 + u.1 ≠ 0 -> P p q r -> P (t :: p) (u :: q) ((t.1 + u.1, t.2) :: r)) : ∀ (n : Nat) (p q : List Tm), p.length + q.length <= n -> P p q (PB p q)
 | _, [], q, _ => by rw [tB]; exact h1 q
 | _, t :: p, [], _ => by rw [pM]; exact h2 _
 | 0, t :: p, u :: q, hn => by simp at hn
 | n + 1, t :: p, u :: q, hn => by
   by_cases g1 : 0 < FR t.2 u.2
   . rw [Hq g1]; exact h3 t u p q _ g1 (iB h1 h2 h3 h4 h5 h6 n p (u :: q) (by simp at hn ⊢; omega))
   by_cases g2 : FR t.2 u.2 < 0
   . rw [Hp g1 g2]; exact h4 t u p q _ g2 (iB h1 h2 h3 h4 h5 h6 n (t :: p) q (by simp at hn ⊢; omega))
   have ih := iB h1 h2 h3 h4 h5 h6 n p q (by simp at hn ⊢; omega)
   by_cases g3 : t.1 + u.1 = 0
   . rw [Rx g1 g2 g3]; exact h5 t u p q _ AA g3 ih
   rw [Ho g1 g2 g3]; exact h6 t u p q _ AA g3 ih
theorem Ry (p q : List Tm) : (PB p q).length <= p.length + q.length := by
 refine iB (P := fun p q r => r.length <= p.length + q.length) ?_ ?_ ?_ ?_ ?_ ?_ _ p q (Nat.le_refl _) <;> intros <;> simp only [List.length_cons, List.length_nil] at * <;> omega
def MQ (c : Rat) (m : List Nat) (p : List Tm) : List Tm := if c = 0 then [] else p.map fun t => (c * t.1, QO m t.2 8)
theorem wH {c : Rat} {p : List Tm} (h : c = 0) : MQ c m p = [] := by unfold MQ; rw [if_pos h]
theorem nA (c : Rat) (m : List Nat) (p : List Tm) : (MQ c m p).length <= p.length := by unfold MQ; split <;> simp
theorem wI {c : Rat} {p : List Tm} {t : Tm} (h : ¬ c = 0) (hx : p[i]? = some t) : MQ c m (p.take (i + 1)) = MQ c m (p.take i) ++ [(c * t.1, QO m t.2 8)] := by
 unfold MQ; rw [if_neg h, if_neg h]
 have e := (List.getElem?_eq_some_iff.1 hx).1
 rw [List.take_succ_eq_append_getElem e, List.map_append, (List.getElem?_eq_some_iff.1 hx).2]; rfl
def nH (c : Rat) (p : List Tm) : List Tm := MQ c zeroM p
def Yo (p q : List Tm) : List Tm := PB p (nH ((-1 : Int) : Rat) q)
def OI (c : Rat) : List Tm := if c = 0 then [] else [(c, zeroM)]
def WQ (c : Int) : Bool := (decide (65 <= c) && decide (c <= 90)) || (decide (97 <= c) && decide (c <= 122))
def cA (c : Int) : Bool := (decide (48 <= c) && decide (c <= 57)) || decide (c = 95)
theorem Ga (c : Int) : WQ c = true ↔ (65 <= c /\ c <= 90) ∨ (97 <= c /\ c <= 122) := by
 unfold WQ
 simp only [Bool.or_eq_true, Bool.and_eq_true, decide_eq_true_eq]
theorem Fe (c : Int) : cA c = true ↔ (48 <= c /\ c <= 57) ∨ c = 95 := by
 unfold cA
 simp only [Bool.or_eq_true, Bool.and_eq_true, decide_eq_true_eq]
theorem lX (h : (65 <= c /\ c <= 90) ∨ (97 <= c /\ c <= 122)) : WQ c = true := (Ga c).2 h
theorem iY (h : ¬ ((65 <= c /\ c <= 90) ∨ (97 <= c /\ c <= 122))) : WQ c = false := by
 cases e : WQ c with
 | false => rfl
 | true => exact absurd ((Ga c).1 e) h
theorem lQ (h : (48 <= c /\ c <= 57) ∨ c = 95) : cA c = true := (Fe c).2 h
theorem tT (h : ¬ ((48 <= c /\ c <= 57) ∨ c = 95)) : cA c = false := by
 cases e : cA c with
 | false => rfl
 | true => exact absurd ((Fe c).1 e) h
theorem bV (b : UInt8) : WQ ((b.toNat : Nat) : Int) = TK b := by
 unfold WQ TK
 have k : (65 <= ((b.toNat : Nat) : Int)) ↔ 65 <= b.toNat := by omega
 have h : (((b.toNat : Nat) : Int) <= 90) ↔ b.toNat <= 90 := by omega
 have f : (97 <= ((b.toNat : Nat) : Int)) ↔ 97 <= b.toNat := by omega
 have e : (((b.toNat : Nat) : Int) <= 122) ↔ b.toNat <= 122 := by omega
 simp only [k, h, f, e]
theorem bQ (b : UInt8) : (WQ ((b.toNat : Nat) : Int) || cA ((b.toNat : Nat) : Int)) = QS b := by
 rw [bV]
 unfold cA QS
 have h : (48 <= ((b.toNat : Nat) : Int)) ↔ 48 <= b.toNat := by omega
 have f : (((b.toNat : Nat) : Int) <= 57) ↔ b.toNat <= 57 := by omega
 have e : (((b.toNat : Nat) : Int) = 95) ↔ b.toNat = 95 := by omega
 simp only [h, f, e]
 simp only [Bool.or_assoc]
def Cr (s : Bs) (i : Nat) : Prop := ∀ j b, j < i -> s[j]? = some b -> (if j = 0 then TK b else QS b) = true
theorem rZ (s : Bs) : Cr s 0 := fun j _ h => absurd h (Nat.not_lt_zero j)
theorem NX {s : Bs} (h : Cr s i) (hb : s[i]? = some b) (hok : (if i = 0 then TK b else QS b) = true) : Cr s (i + 1) := by
 intro j c k f
 by_cases e : j = i
 . subst e; rw [hb] at f; simp only [Option.some.injEq] at f; subst f; exact hok
 exact h j c AA f
theorem gJ (s : Bs) : PU s = true ↔ 1 <= s.length /\ s.length <= 12 /\ Cr s s.length := by
 cases s with
 | nil => simp [PU]
 | cons c r =>
   simp only [PU, Bool.and_eq_true, decide_eq_true_eq, List.all_eq_true]
   constructor
   . rintro ⟨⟨k, f⟩, l⟩
     refine ⟨by simp, k, fun j b h e => ?_⟩
     cases j with
     | zero => simp at e; subst e; simpa using f
     | succ j => rw [if_neg AA]; simp at e; exact l b (List.mem_of_getElem? e)
   rintro ⟨_, k, f⟩
   refine ⟨⟨k, by simpa using f 0 c AH O⟩, fun b e => ?_⟩
   obtain ⟨j, h⟩ := List.getElem?_of_mem e
   have o := (List.getElem?_eq_some_iff.1 h).1
   have := f (j + 1) b (by simp; omega) (by simpa using h)
   simpa using this
theorem NM {s : Bs} (hb : s[i]? = some b) (h : (if i = 0 then TK b else QS b) = false) : PU s = false := by
 cases e : PU s with
 | false => rfl
 | true =>
   have := ((gJ s).1 e).2.2 i b (List.getElem?_eq_some_iff.1 hb).1 hb
   rw [h] at this; cases this
theorem oJ {s : Bs} (h : s.length < 1) : PU s = false := by
 cases e : PU s with
 | false => rfl
 | true => have := ((gJ s).1 e).1; omega
theorem sF {s : Bs} (h : s.length > 12) : PU s = false := by
 cases e : PU s with
 | false => rfl
 | true => have := ((gJ s).1 e).2.1; omega
theorem yH {s : Bs} (h1 : ¬ s.length < 1) (h2 : ¬ s.length > 12) (h : Cr s i) (hi : s.length <= i) : PU s = true := (gJ s).2 ⟨by omega, by omega, fun j b hj hb => h j b AA hb⟩
theorem Hh (a : Bs) (h : a[i]? = some b) : (bs a).get! i = b := by
 have f := Rp a i
 rw [h] at f
 have e : (bs a).data[i]? = some b := by
  have := FO a
  rw [<- Array.getElem?_toList, this]; exact h
 show (bs a).data[i]! = b
 rw [getElem!_def, e]
theorem Dm (a : Bs) (h : a[i]? = some b) (hb : b.toNat < 128) : Utf8.decode (bs a) i = (b.toNat, 1) := by
 have e := Hh a h
 simp only [Utf8.decode, Nat.add_zero, e, hb, if_true]
theorem zV (a : Bs) (h : a[i]? = some b) (hb : ¬ b.toNat < 128) : 128 <= (Utf8.decode (bs a) i).1 := by
 have e := Hh a h
 simp only [Utf8.decode, Nat.add_zero, e]
 rw [if_neg hb]
 have f : 128 <= Utf8.runeError := by decide
 repeat' split
 all_goals first | exact f | (rename_i g; simp at g ⊢; omega) | (rename_i g _; simp at g ⊢; omega)
theorem sC {c : Nat} (h : 128 <= c) : WQ ((c : Nat) : Int) = false := by
 unfold WQ
 exact ZyE
theorem Dd (h : ¬ b.toNat < 128) : TK b = false := by rw [<- bV]; exact sC AA
theorem Dc (h : ¬ b.toNat < 128) : QS b = false := by
 rw [<- bQ, sC AA]
 unfold cA
 simp only [Bool.false_or, Bool.or_eq_false_iff, Bool.and_eq_false_iff, decide_eq_false_iff_not]
 omega
def fIt (k : Nat) (s : ByteArray) (pos : Nat) : SF := ⟨fun w => w.heap[k]? = some (.stringIter s pos), fun c => c ≠ k,
 fun h hb => (hb.block k (Array.getElem?_eq_some_iff.1 h).1).trans h, fun h _ ho hb => (hb.block k (Ne.symm ho)).trans h⟩
theorem Env.it {L : List SF} (E : Env w L) (h : w.heap[k]? = some (.stringIter s pos)) : Env w (fIt k s pos :: L) := ⟨h, E⟩
theorem uR (h : WQ ((b.toNat : Nat) : Int) = true) : (if i = 0 then TK b else QS b) = true := by
 split
 . rw [<- bV]; exact h
 rw [<- bQ, h]; rfl
theorem mB (hi : i = 0) (h : WQ ((b.toNat : Nat) : Int) = false) : (if i = 0 then TK b else QS b) = false := by rw [if_pos hi, <- bV]; exact h
theorem nO (hi : ¬ i = 0) (h : cA ((b.toNat : Nat) : Int) = true) : (if i = 0 then TK b else QS b) = true := by rw [if_neg hi, <- bQ, h, Bool.or_true]
theorem fO (hi : ¬ i = 0) (h : WQ ((b.toNat : Nat) : Int) = false) (g : cA ((b.toNat : Nat) : Int) = false) : (if i = 0 then TK b else QS b) = false := by rw [if_neg hi, <- bQ, h, g]; rfl
theorem yN (h : ¬ b.toNat < 128) : (if i = 0 then TK b else QS b) = false := by
 split
 . exact Dd h
 exact Dc h
theorem Ji {c : Nat} (h : 128 <= c) : cA ((c : Nat) : Int) = false := by
 unfold cA
 exact ZyE
theorem DY {b : Bool} (h : ¬ b = true) : b = false := by cases b <;> simp_all
section
variable {o : Oper} {a : Act} {w : World} {K : Act -> World -> Prop} {Q : Exit -> Act -> World -> Prop}
theorem qS {T : TypeId} (ho : o.op = .range T x) (hT : P.underlying T = some .string) (hx : a.eval x = .string s)
 (h : ∀ k w', k = w.heap.size -> w'.heap.size = w.heap.size + 1 -> Below w.heap.size w w' -> w'.heap[k]? = some (.stringIter s 0) -> K (a.put o.dst (.pointer (some ⟨k, 0, none⟩))) w') : o.wp P a w K Q := by
 refine DV (v := .pointer (some ⟨w.heap.size, 0, none⟩)) (w' := w.iter s 0) ?_ (h _ _ O (by simp [World.iter]) ((Below.refl _ _).alloc (Nat.le_refl _) _) (World.iter_heap _ _ _))
 unfold execOp; rw [ho]
 simp [hx, run_range_string (P := P) w T s hT]
theorem Cq (w : World) (k : Nat) (s : ByteArray) (pos : Nat) : Onl k w (w.iterAt k s pos) := ⟨rfl, rfl, rfl, Lib.iterAt_size _ _ _ _, fun j hj => Lib.iterAt_other w k j s pos hj⟩
theorem xW {w : World} (h : w.heap[k]? = some (.stringIter s pos)) : Av w k := by
 intro o n e
 simp [World.cell?, h] at e
theorem iK {c n : Nat} (ho : o.op = .next x true) (hx : a.eval x = .pointer (some ⟨k, 0, none⟩)) (hk : w.heap[k]? = some (.stringIter s pos)) (hd : Utf8.decode s pos = (c, n)) (hp : pos < s.size)
 (h : ∀ w', Onl k w w' -> w'.heap[k]? = some (.stringIter s (pos + n)) -> K (a.put o.dst (.tuple #[.bool true, .int .i64 ↑pos, .int .i32 ↑c])) w') : o.wp P a w K Q := by
 have e := Lib.run_next_any_at (P := P) w k s pos o.type hk hp
 rw [hd] at e
 refine DV (v := .tuple #[.bool true, .int .i64 ↑pos, .int .i32 ↑c]) (w' := w.iterAt k s (pos + n)) ?_ (h _ (Cq _ _ _ _) (Lib.iterAt_heap w k s pos _ hk))
 unfold execOp; rw [ho]
 simp [hx, e]
theorem lF (ho : o.op = .next x true) (hx : a.eval x = .pointer (some ⟨k, 0, none⟩)) (hk : w.heap[k]? = some (.stringIter s pos)) (hp : ¬ pos < s.size)
 (h : K (a.put o.dst (.tuple #[.bool false])) w) : o.wp P a w K Q := by
 refine DV (v := .tuple #[.bool false]) (w' := w) ?_ h
 unfold execOp; rw [ho]
 simp [hx, Lib.run_next_end_at (P := P) w k s pos o.type hk hp]
end
set_option maxHeartbeats 8000000
set_option maxRecDepth 100000
theorem QH (n : Int) (w : World) (h1 : -9223372036854775808 <= n) (h2 : n <= 9223372036854775807) :
 Calls prog 22 #[.int .i64 n] w (RetP w ((n : Int) : Rat).num (((((n : Int) : Rat)).den : Nat) : Int)) := by
 have E := Env.start w
 go_enter func22, ntmps22
 refine zG ?_
 refine EF O (BZ EY O ?_)
 intro B H e1 C y e
 have I : w.heap.size <= B := by rw [e1]; exact E.1.size
 replace E := E.below y
 clear e1
 refine zG ?_
 refine EF O (CH ED O (OM n _ h1 h2) O E ?_)
 intro G l h u E
 replace e := e.below u
 refine zG ?_
 refine EF O (CH ED O (OM 1 _ AE AE) O E ?_)
 intro F k f t E
 replace e := e.below t
 refine zG ?_
 refine V (v := .agg #[.bool l, h, .bool k, f]) O O (IE O O O) ?_
 refine zG ?_
 refine EF O (BY EY O O O e O O (IF (IsI.one E.2.1) (IsI.one E.1)) ?_)
 intro D q o
 replace E := (E.onl (e.noW (LM EZ EZ)) zK q).x o
 have r1 := CL EY E.1 rfl
 refine zG ?_
 exact AQ (v := .agg #[.bool l, h, .bool k, f]) (by simp [results, results22, asAddr, r1]) O ⟨_, _, _, _, O, VM O E.2.2.1, VM O E.2.1, e3 E⟩
theorem Sk (na : Bool) (sa : Value) (ma : Bool) (ta : Value) (x : Rat) (nb : Bool) (sb : Value) (mb : Bool) (tb : Value) (y : Rat) (w : World) (hna : IsI w (.agg #[.bool na, sa]) x.num) (hda : IsI w (.agg #[.bool ma, ta]) ((x.den : Nat) : Int)) (hnb : IsI w (.agg #[.bool nb, sb]) y.num) (hdb : IsI w (.agg #[.bool mb, tb]) ((y.den : Nat) : Int)) (Fx : FitQ x 100000000) (Fy : FitQ y 100000000) :
 Calls prog 60 #[.agg #[.bool na, sa, .bool ma, ta], .agg #[.bool nb, sb, .bool mb, tb]] w (RetP w (x + y).num (((x + y).den : Nat) : Int)) := by
 have E := Env.start w
 replace E := (E.i hna).i hda
 replace E := (E.i hnb).i hdb
 go_enter func60, ntmps60
 refine zG ?_
 refine EF O (CM (cs := [.bool na, sa, .bool ma, ta]) O O ?_)
 intro J w1 e1 z1 d1 Q
 have l1 : w.heap.size <= J := by rw [e1]; exact (e4 E).size
 replace E := E.below d1
 clear e1
 replace E := E.x Q
 refine zG ?_
 refine EF O (CM (cs := [.bool nb, sb, .bool mb, tb]) O O ?_)
 intro I w2 e2 z2 d2 P
 have H : J < I := by rw [e2]; exact Bx.lt E.1
 replace E := E.below d2
 clear e2
 replace E := E.x P
 refine zG ?_
 refine EF O (BZ EY O ?_)
 intro b3 w3 e3 z3 d3 f
 have G : I < b3 := by rw [e3]; exact Bx.lt E.1
 replace E := E.below d3
 clear e3
 refine zG ?_
 refine sE E [0,1,2,3,5,6,7,8,11,12,13,14,4,9,10,15,16,17] ?_
 replace E := E.drew
 replace f := Bx.drew f
 refine SW O O O O O (fun w e => DU O O) ?_
 refine SW O O O O O (fun w e => CN O O (e.2.1) O O) ?_
 refine SW O O O O O (fun w e => DD O O) ?_
 refine SW O O O O O (fun w e => CN O O (e.1) O O) ?_
 refine zG ?_
 refine SW O O O O O (fun w e => DU O O) ?_
 refine SW O O O O O (fun w e => CN O O (e.1) O O) ?_
 refine SW O O O O O (fun w e => DD O O) ?_
 refine SW O O O O O (fun w e => CN O O (e.2.1) O O) ?_
 refine zG ?_
 refine SW O O O O O (fun w e => DD O O) ?_
 refine SW O O O O O (fun w e => CN O O (e.2.1) O O) ?_
 refine SW O O O O O (fun w e => DD O O) ?_
 refine SW O O O O O (fun w e => CN O O (e.1) O O) ?_
 refine zG ?_
 refine GG (o := ⟨some 9, _, _, _, _, _⟩) O O O O (CH ET O (PD _ x.num _ ((y.den : Nat) : Int) _ (e5 E) E.2.2.1 (Fits.mono Fx.1 AE) (Fits.mono Fy.2 AE)) O E ?_)
 intro w5 n5 s5 d5 E
 replace f := f.below d5
 refine ⟨E.2, ?_⟩
 have N : Fits (x.num * ((y.den : Nat) : Int)) 200000000 := IB Fx.1 Fy.2
 refine zG ?_
 refine GG (o := ⟨some 14, _, _, _, _, _⟩) O O O O (CH ET O (PD _ y.num _ ((x.den : Nat) : Int) _ (e4 E) (e5 E) (Fits.mono Fy.1 AE) (Fits.mono Fx.2 AE)) O E ?_)
 intro w7 n7 s7 d7 E
 replace f := f.below d7
 refine ⟨E.2.2, ?_⟩
 have L : Fits (y.num * ((x.den : Nat) : Int)) 200000000 := IB Fy.1 Fx.2
 refine zG ?_
 refine GG (o := ⟨some 15, _, _, _, _, _⟩) O O O O (CH WT O (Ea _ (x.num * ((y.den : Nat) : Int)) _ (y.num * ((x.den : Nat) : Int)) _ E.2.1 E.1 (Fits.mono N AE) (Fits.mono L AE)) O E ?_)
 intro w9 n9 s9 Y E
 replace f := f.below Y
 refine ⟨E.2.2.2, ?_⟩
 have F8 : Fits ((x.num * ((y.den : Nat) : Int)) + (y.num * ((x.den : Nat) : Int))) 200000001 := iO N L (k := 200000000) AE AE
 refine zG ?_
 refine GG (o := ⟨some 20, _, _, _, _, _⟩) O O O O (CH ET O (PD _ ((x.den : Nat) : Int) _ ((y.den : Nat) : Int) _ (e7 E) (e5 E) (Fits.mono Fx.2 AE) (Fits.mono Fy.2 AE)) O E ?_)
 intro T X U D E
 replace f := f.below D
 refine ⟨E.2.2.2.2, ?_⟩
 have F : Fits (((x.den : Nat) : Int) * ((y.den : Nat) : Int)) 200000000 := IB Fx.2 Fy.2
 refine zG ?_
 refine GG (o := ⟨some 21, _, _, _, _, _⟩) O O O O (CV GS O (PK _ ((x.num * ((y.den : Nat) : Int)) + (y.num * ((x.den : Nat) : Int))) _ (((x.den : Nat) : Int) * ((y.den : Nat) : Int)) _ E.2.1 E.1 (Int.mul_ne_zero (aT x) (aT y)) (Fits.mono F8 AE) (Fits.mono F AE)) O E ?_)
 intro S u p B l C E
 replace f := f.below C
 refine ⟨E.2.2.2.2.2.2, ?_⟩
 refine zG ?_
 refine GG (o := ⟨none, _, _, _, _, _⟩) O O O O (BY EY O O O f O O (IF (IsI.one E.2.1) (IsI.one E.1)) ?_)
 intro R t h
 replace E := (E.onl (f.noW (LM EZ EZ)) zK t).x h
 refine ⟨E.2.2.2.2.2.2.2, ?_⟩
 have r1 := CL EY E.1 rfl
 refine zG ?_
 exact AQ (v := .agg #[.bool u, p, .bool B, l]) (by simp [results, results60, asAddr, r1]) O ⟨_, _, _, _, O, VM (congrArg Rat.num (D3 x y)) E.2.2.1, VM (congrArg (fun z => ((Rat.den z : Nat) : Int)) (D3 x y)) E.2.1, XX E⟩
theorem Dy (na : Bool) (sa : Value) (ma : Bool) (ta : Value) (x : Rat) (w : World) (hna : IsI w (.agg #[.bool na, sa]) x.num) (hda : IsI w (.agg #[.bool ma, ta]) ((x.den : Nat) : Int)) (_ : FitQ x 100000000) :
 Calls prog 69 #[.agg #[.bool na, sa, .bool ma, ta]] w (RetP w (-x).num (((-x).den : Nat) : Int)) := by
 have E := Env.start w
 replace E := (E.i hna).i hda
 go_enter func69, ntmps69
 refine zG ?_
 refine EF O (CM (cs := [.bool na, sa, .bool ma, ta]) O O ?_)
 intro p N e1 H D t
 have P : w.heap.size <= p := by rw [e1]; exact E.2.2.1.size
 replace E := E.below D
 clear e1
 replace E := E.x t
 refine zG ?_
 refine EF O (BZ EY O ?_)
 intro F L e2 G C e
 have l : p < F := by rw [e2]; exact Bx.lt E.1
 replace E := E.below C
 clear e2
 refine zG ?_
 refine sE E [0,1,3,4,2,5,6] ?_
 replace E := E.drew
 replace e := Bx.drew e
 refine SW O O O O O (fun w f => DU O O) ?_
 refine SW O O O O O (fun w f => CN O O (f.1) O O) ?_
 refine SW O O O O O (fun w f => DD O O) ?_
 refine SW O O O O O (fun w f => CN O O (f.1) O O) ?_
 refine zG ?_
 refine GG (o := ⟨some 5, _, _, _, _, _⟩) O O O O (CH cS O (Si _ x.num _ E.2.2.1) O E ?_)
 intro J k h B E
 replace e := e.below B
 refine ⟨E.2, ?_⟩
 refine zG ?_
 refine SW (v := .agg #[.bool k, h, .bool ma, ta]) O O O O O (fun w f => IE O O O) ?_
 refine zG ?_
 refine GG (o := ⟨none, _, _, _, _, _⟩) O O O O (BY EY O O O e O O (IF (IsI.one E.1) (IsI.one E.2.2.1)) ?_)
 intro I y q
 replace E := (E.onl (e.noW (LM EZ EZ)) zK y).x q
 refine ⟨E.2.2, ?_⟩
 have r1 := CL EY E.1 rfl
 refine zG ?_
 exact AQ (v := .agg #[.bool k, h, .bool ma, ta]) (by simp [results, results69, asAddr, r1]) O ⟨_, _, _, _, O, VM O E.2.1, VM O (e3 E), e5 E⟩
theorem E6 (na : Bool) (sa : Value) (ma : Bool) (ta : Value) (x : Rat) (nb : Bool) (sb : Value) (mb : Bool) (tb : Value) (y : Rat) (w : World) (hna : IsI w (.agg #[.bool na, sa]) x.num) (hda : IsI w (.agg #[.bool ma, ta]) ((x.den : Nat) : Int)) (hnb : IsI w (.agg #[.bool nb, sb]) y.num) (hdb : IsI w (.agg #[.bool mb, tb]) ((y.den : Nat) : Int)) (Fx : FitQ x 100000000) (Fy : FitQ y 100000000) :
 Calls prog 57 #[.agg #[.bool na, sa, .bool ma, ta], .agg #[.bool nb, sb, .bool mb, tb]] w (RetP w (x * y).num (((x * y).den : Nat) : Int)) := by
 have E := Env.start w
 replace E := (E.i hna).i hda
 replace E := (E.i hnb).i hdb
 go_enter func57, ntmps57
 refine zG ?_
 refine EF O (CM (cs := [.bool na, sa, .bool ma, ta]) O O ?_)
 intro u w1 e1 z1 R C
 have l1 : w.heap.size <= u := by rw [e1]; exact (e4 E).size
 replace E := E.below R
 clear e1
 replace E := E.x C
 refine zG ?_
 refine EF O (CM (cs := [.bool nb, sb, .bool mb, tb]) O O ?_)
 intro t w2 e2 Y Q B
 have q : u < t := by rw [e2]; exact Bx.lt E.1
 replace E := E.below Q
 clear e2
 replace E := E.x B
 refine zG ?_
 refine EF O (BZ EY O ?_)
 intro S w3 e3 X P f
 have p : t < S := by rw [e3]; exact Bx.lt E.1
 replace E := E.below P
 clear e3
 refine zG ?_
 refine sE E [0,1,2,3,5,6,7,8,4,9,10,11] ?_
 replace E := E.drew
 replace f := Bx.drew f
 refine SW O O O O O (fun w e => DU O O) ?_
 refine SW O O O O O (fun w e => CN O O (e.2.1) O O) ?_
 refine SW O O O O O (fun w e => DU O O) ?_
 refine SW O O O O O (fun w e => CN O O (e.1) O O) ?_
 refine zG ?_
 refine SW O O O O O (fun w e => DD O O) ?_
 refine SW O O O O O (fun w e => CN O O (e.2.1) O O) ?_
 refine SW O O O O O (fun w e => DD O O) ?_
 refine SW O O O O O (fun w e => CN O O (e.1) O O) ?_
 refine zG ?_
 refine GG (o := ⟨some 9, _, _, _, _, _⟩) O O O O (CH ET O (PD _ x.num _ y.num _ (e5 E) (e3 E) (Fits.mono Fx.1 AE) (Fits.mono Fy.1 AE)) O E ?_)
 intro w5 n5 s5 N E
 replace f := f.below N
 refine ⟨E.2, ?_⟩
 have U : Fits (x.num * y.num) 200000000 := IB Fx.1 Fy.1
 refine zG ?_
 refine GG (o := ⟨some 14, _, _, _, _, _⟩) O O O O (CH ET O (PD _ ((x.den : Nat) : Int) _ ((y.den : Nat) : Int) _ (e5 E) (e3 E) (Fits.mono Fx.2 AE) (Fits.mono Fy.2 AE)) O E ?_)
 intro w7 n7 s7 L E
 replace f := f.below L
 refine ⟨E.2.2, ?_⟩
 have T : Fits (((x.den : Nat) : Int) * ((y.den : Nat) : Int)) 200000000 := IB Fx.2 Fy.2
 refine zG ?_
 refine GG (o := ⟨some 15, _, _, _, _, _⟩) O O O O (CV GS O (PK _ (x.num * y.num) _ (((x.den : Nat) : Int) * ((y.den : Nat) : Int)) _ E.2.1 E.1 (Int.mul_ne_zero (aT x) (aT y)) (Fits.mono U AE) (Fits.mono T AE)) O E ?_)
 intro w9 H G I F J E
 replace f := f.below J
 refine ⟨E.2.2.2.2, ?_⟩
 refine zG ?_
 refine GG (o := ⟨none, _, _, _, _, _⟩) O O O O (BY EY O O O f O O (IF (IsI.one E.2.1) (IsI.one E.1)) ?_)
 intro D l h
 replace E := (E.onl (f.noW (LM EZ EZ)) zK l).x h
 refine ⟨E.2.2.2.2.2, ?_⟩
 have r1 := CL EY E.1 rfl
 refine zG ?_
 exact AQ (v := .agg #[.bool H, G, .bool I, F]) (by simp [results, results57, asAddr, r1]) O ⟨_, _, _, _, O, VM (congrArg Rat.num (Zt x y)) E.2.2.1, VM (congrArg (fun z => ((Rat.den z : Nat) : Int)) (Zt x y)) E.2.1, RC E⟩
theorem NA (na : Bool) (sa : Value) (ma : Bool) (ta : Value) (x : Rat) (w : World) (hna : IsI w (.agg #[.bool na, sa]) x.num) (hda : IsI w (.agg #[.bool ma, ta]) ((x.den : Nat) : Int)) :
 Calls prog 55 #[.agg #[.bool na, sa, .bool ma, ta]] w (VI w (OY x.num)) := by
 have E := Env.start w
 replace E := (E.i hna).i hda
 go_enter func55, ntmps55
 refine zG ?_
 refine EF O (CM (cs := [.bool na, sa, .bool ma, ta]) O O ?_)
 intro p l e1 h f e
 replace E := E.below f
 clear e1
 replace E := E.x e
 refine zG ?_
 refine V O O (DU O O) ?_
 refine V O O (CN O O E.1 O O) ?_
 refine zG ?_
 refine EF O (CB NP O (iF _ x.num _ E.2.2.1) O E ?_)
 intro k o E
 refine zG ?_
 exact ⟨rfl, e3 E⟩
theorem vS (na : Bool) (sa : Value) (ma : Bool) (ta : Value) (x : Rat) (nb : Bool) (sb : Value) (mb : Bool) (tb : Value) (y : Rat) (w : World) (hna : IsI w (.agg #[.bool na, sa]) x.num) (hda : IsI w (.agg #[.bool ma, ta]) ((x.den : Nat) : Int)) (hnb : IsI w (.agg #[.bool nb, sb]) y.num) (hdb : IsI w (.agg #[.bool mb, tb]) ((y.den : Nat) : Int)) (Fx : FitQ x 100000000) (Fy : FitQ y 100000000) :
 Calls prog 154 #[.agg #[.bool na, sa, .bool ma, ta], .agg #[.bool nb, sb, .bool mb, tb]] w (VI w (gZ x y)) := by
 have E := Env.start w
 replace E := (E.i hna).i hda
 replace E := (E.i hnb).i hdb
 go_enter func154, ntmps154
 refine zG ?_
 refine EF O (CM (cs := [.bool na, sa, .bool ma, ta]) O O ?_)
 intro P C e1 q l h
 replace E := E.below l
 clear e1
 replace E := E.x h
 refine zG ?_
 refine EF O (CM (cs := [.bool nb, sb, .bool mb, tb]) O O ?_)
 intro N B e2 p k f
 replace E := E.below k
 clear e2
 replace E := E.x f
 refine zG ?_
 refine sE E [0,1,2,3,5,6,7,8,4,9,10,11] ?_
 replace E := E.drew
 refine SW O O O O O (fun w e => DU O O) ?_
 refine SW O O O O O (fun w e => CN O O (e.2.1) O O) ?_
 refine SW O O O O O (fun w e => DD O O) ?_
 refine SW O O O O O (fun w e => CN O O (e.1) O O) ?_
 refine zG ?_
 refine SW O O O O O (fun w e => DU O O) ?_
 refine SW O O O O O (fun w e => CN O O (e.1) O O) ?_
 refine SW O O O O O (fun w e => DD O O) ?_
 refine SW O O O O O (fun w e => CN O O (e.2.1) O O) ?_
 refine zG ?_
 refine GG (o := ⟨some 9, _, _, _, _, _⟩) O O O O (CH ET O (PD _ x.num _ ((y.den : Nat) : Int) _ (e5 E) E.2.2.1 (Fits.mono Fx.1 AE) (Fits.mono Fy.2 AE)) O E ?_)
 intro v H F L E
 refine ⟨E.2, ?_⟩
 refine zG ?_
 refine GG (o := ⟨some 14, _, _, _, _, _⟩) O O O O (CH ET O (PD _ y.num _ ((x.den : Nat) : Int) _ (e4 E) (e5 E) (Fits.mono Fy.1 AE) (Fits.mono Fx.2 AE)) O E ?_)
 intro u G D J E
 refine ⟨E.2.2, ?_⟩
 refine zG ?_
 refine GG (o := ⟨some 15, _, _, _, _, _⟩) O O O O (CB RN O (vR _ (x.num * ((y.den : Nat) : Int)) _ (y.num * ((x.den : Nat) : Int)) _ E.2.1 E.1) O E ?_)
 intro t I E
 refine ⟨E.2.2, ?_⟩
 refine zG ?_
 exact ⟨rfl, e8 E⟩
end Go.Proofs.YtmppigbbkjepiaaGreatDoor
