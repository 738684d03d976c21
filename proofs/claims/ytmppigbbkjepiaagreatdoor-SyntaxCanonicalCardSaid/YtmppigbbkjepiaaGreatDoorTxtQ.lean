/- The reference's Text and Parse of integers. (Printed by g_rtext.py.) Contracts in the forms that the laws use. Facts for the walk of the reference's Made. Package rational: Between. (Printed by g_rat3.py.) A store into one cell of a variable; the reference's Mul of monomials. Texts of rational numbers, and how they fall apart at a slash. strings.Cut at one byte. -/
import Derived.Test.YtmppigbbkjepiaaGreatDoorRefA
import Derived.Test.YtmppigbbkjepiaaGreatDoorParse
import Derived.Test.YtmppigbbkjepiaaGreatDoorText
import Derived.Test.YtmppigbbkjepiaaGreatDoorMono
import Derived.Test.YtmppigbbkjepiaaGreatDoorShelf
import Derived.Lib.CutLaws
import Derived.Lib.IndexLaws
import Derived.Laws.Strings3
import Derived.Shelf.RegionOpenPlain
import Derived.WalkKit
import Derived.Lib.Walk
import Derived.BigCall
import Derived.BigGuard
namespace Go.Proofs.YtmppigbbkjepiaaGreatDoor
open Go.RowKit W
def TxI (n m : Nat) (D : List Nat) : Prop := m ≤ n ∧ Dg D ∧ ((0 < m ∧ VG n = VG m ++ D) ∨ (m = 0 ∧ VG n = D))
theorem Ik {z : Int} {F : Nat} (h : Fits z F) (hF : 0 < F) : (VG z.natAbs).length ≤ 10 * F := by
  refine kY Z ?_
  rw [Nat.pow_mul]
  exact Nat.lt_of_lt_of_le h.lt (Nat.pow_le_pow_left AD _)
theorem zZ (l : List Nat) : (ZQ l).length = l.length := by simp [ZQ]
theorem Ks {P : Program} {ρ : Operand → Value} {o : Oper} {w : World} {t t' : TypeId} {x y : Operand} {a b : ByteArray} {c : Bool} (ho : o.op = .binOp .neq t x y t') (hx : ρ x = .string a) (hy : ρ y = .string b) (hc : (a.data.toList != b.data.toList) = c) : (execOp ρ o).run P w = .ok (.value (.bool c)) w := by
  unfold execOp; rw [ho]
  subst hc
  simp only [hx, hy, eqGuard_at_string, binOp, Op.stringOp, Sem.run_bind, Sem.run_pure, Result.andThen_ok, ByteArray.toList_eq]
  rfl
end Go.Proofs.YtmppigbbkjepiaaGreatDoor
namespace Go.Proofs.YtmppigbbkjepiaaGreatDoor
open Go.Proofs.Tryz
open Go.RowKit W
theorem UJ (s : ByteArray) (w : World) (hs : s.size ≤ 4000) (h : DQ s.data.toList = none) : Calls prog 137 #[.string s] w (bM w 0 3) := by
  refine (pL s w Z).mono ?_
  rintro e l (⟨o, _⟩ | ⟨_, _, k⟩ | ⟨_, f, _⟩)
  · omega
  · exact k
  · rw [h] at f; cases f
theorem JV (s : ByteArray) (z : Int) (w : World) (hs : s.size ≤ 4000) (h : DQ s.data.toList = some z) : Calls prog 137 #[.string s] w (bM w z 0) := by
  refine (pL s w Z).mono ?_
  rintro e l (⟨o, _⟩ | ⟨_, f, _⟩ | ⟨_, f, k⟩)
  · omega
  · rw [h] at f; cases f
  · rw [h] at f; cases f; exact k
theorem kA (va : Value) (x : Int) (w : World) (ha : IsI w va x) (h1 : -9223372036854775808 ≤ x) (h2 : x ≤ 9223372036854775807) : Calls prog 147 #[va] w (RetS w x true) := by
  have := Ao va x w ha
  rwa [(XH h1 h2).1, (XH h1 h2).2] at this
end Go.Proofs.YtmppigbbkjepiaaGreatDoor
namespace Go.Proofs.YtmppigbbkjepiaaGreatDoor
open Go.RowKit W
end Go.Proofs.YtmppigbbkjepiaaGreatDoor
namespace Go.Proofs.YtmppigbbkjepiaaGreatDoor
open Go.RowKit W
theorem Iw {x y : Rat} (h : x = y) : (cT x y == 0) = true := by
  rcases mT x y with ⟨g, _⟩ | ⟨_, e⟩ | ⟨g, _⟩
  · subst h; exact absurd g Rat.lt_irrefl
  · rw [e]; rfl
  · subst h; exact absurd g Rat.lt_irrefl
theorem Iv {x y : Rat} (h : ¬ x = y) : (cT x y == 0) = false := by
  rcases mT x y with ⟨_, e⟩ | ⟨g, _⟩ | ⟨_, e⟩
  · rw [e]; rfl
  · exact absurd g h
  · rw [e]; rfl
end Go.Proofs.YtmppigbbkjepiaaGreatDoor
namespace Go.Proofs.YtmppigbbkjepiaaGreatDoor
open Go.Proofs.Tryz
open Go.RowKit W
theorem fH {P : Program} {o : Oper} {a : Act} {w : World} {K : Act → World → Prop} {Q : Exit → Act → World → Prop} {T TB b i : Nat} {x y : Operand} {cs : List Value} {v : Value} (ho : o.op = .store T x y) (hs : ∀ w, (sizeOf T).run P w = .ok 1 w)
    (hx : a.eval x = .pointer (some ⟨b, i, none⟩)) (hy : a.eval y = v) (hcell : v.cells = #[v]) (h1 : v.oneCell' = true) (hb : Bx w b TB cs) (hi : i < cs.length)
    (h : ∀ w', Onl b w w' → Bx w' b TB (cs.set i v) → K (a.put o.dst undef) w') : o.wp P a w K Q := by
  have e := run_storeCells_at (P := P) b i TB [v] 0 cs.toArray w hb (by simp; omega) (by simpa using h1)
  have f : cs.take i ++ [v] ++ cs.drop (i + 1) = cs.set i v := by
    rw [List.set_eq_take_append_cons_drop, if_pos hi]; simp
  unfold Oper.wp execOp
  simp only [ho, hx, hy, Instr.storeAt, Instr.sureAddr, Sem.run_bind, Sem.run_pure, Result.andThen_ok, storeVar, hcell, hs]
  simp only [List.size_toArray, List.length_cons, List.length_nil, Nat.zero_add, ne_eq, not_true_eq_false, if_false, Nat.add_zero] at e ⊢
  rw [f] at e
  simp [e, Oper.upon]
  exact h _ (MV _ _ _) (XT hb _)
def OA (p q : List Nat) (i : Nat) : List Nat := (List.range 8).map fun j => if j < i then me p j + me q j else me p j
def jZ (p q : List Nat) : Prop := ∀ i, me p i + me q i ≤ 65535
theorem RS (p q : List Nat) (i : Nat) : (OA p q i).length = 8 := by simp [OA]
theorem oJ (p q : List Nat) (i : Nat) {j : Nat} (hj : j < 8) : me (OA p q i) j = if j < i then me p j + me q j else me p j := by
  rw [UP (by rw [RS]; exact hj)]; simp [OA]
theorem PH {p q : List Nat} (hs : jZ p q) (i : Nat) : ER (OA p q i) := by
  refine ⟨RS p q i, fun e f => ?_⟩
  obtain ⟨j, _, rfl⟩ := List.mem_map.1 f
  have := hs j
  split <;> omega
theorem Hf {p : List Nat} (hp : ER p) (q : List Nat) : OA p q 0 = p := by
  refine List.ext_getElem (by rw [RS, hp.1]) fun i e f => ?_
  rw [← UP e, ← UP f, oJ p q 0 (by rw [RS] at e; exact e)]; simp
theorem Hg (p q : List Nat) {i : Nat} (hi : i < 8) : me (OA p q i) i = me p i := by rw [oJ p q i hi]; simp
theorem Lu (p q : List Nat) {i : Nat} (_ : i < 8) : (GN (OA p q i)).set (0 + i * 1) (.int .i64 ↑(me p i + me q i)) = GN (OA p q (i + 1)) := by
  rw [Nat.zero_add, Nat.mul_one]
  unfold GN
  rw [← List.map_set]
  congr 1
  refine List.ext_getElem (by rw [List.length_set, RS, RS]) fun j o f => ?_
  have e : j < 8 := by rw [RS] at f; exact f
  rw [List.getElem_set]
  have l := oJ p q (i + 1) e
  have k := oJ p q i e
  rw [UP f] at l
  rw [UP (by rw [RS]; exact e)] at k
  rw [l, k]
  by_cases h : i = j
  · subst h; simp
  · rw [if_neg h]
    by_cases g : j < i
    · rw [if_pos g, if_pos Z]
    · rw [if_neg g, if_neg Z]
theorem yT (m : List Nat) : ∀ v ∈ GN m, v.oneCell' = true := by
  intro v e
  obtain ⟨_, _, rfl⟩ := List.mem_map.1 e
  rfl
theorem Fb (w : World) : (sizeOf 3).run prog w = .ok 1 w := by kernel_rfl
theorem oE (m : List Nat) : VC (GN m) := by
  intro c f n e
  obtain ⟨_, _, rfl⟩ := List.mem_map.1 f
  cases e
set_option maxRecDepth 100000 in
set_option maxHeartbeats 4000000 in
theorem Nw (p q : List Nat) (w : World) (hq : ER q) (hs : jZ p q) :
    Calls prog 56 #[.agg (GN (OA p q 0)).toArray, .agg (GN q).toArray] w (FX w (.tuple #[.agg (GN (OA p q 8)).toArray, .int .i64 0])) := by
 have E := Env.start w
 go_enter func56, ntmps56
 refine zG ?_
 refine EF O (CI (cs := GN (OA p q 0)) O O ?_)
 intro h w1 e1 z1 d1 S
 have l1 : w.heap.size ≤ h := by rw [e1]; exact E.1.size
 replace E := (E.below d1).x S
 clear e1 z1 d1 S
 refine zG ?_
 refine EF O (CI (cs := GN q) O O ?_)
 intro f w2 e2 z2 d2 R
 have Y : h < f := by rw [e2]; exact Bx.lt E.1
 replace E := (E.below d2).x R
 clear e2 z2 d2 R
 refine zG ?_
 refine EF O (CA PR O ?_)
 intro F w3 e3 z3 d3 Q
 have X : f < F := by rw [e3]; exact Bx.lt E.1
 replace E := (E.below d3).x Q
 clear e3 z3 d3 Q
 refine zG ?_
 refine wp_loop_ghost (fun mz a w' => ∃ (i : Nat) (g7 g8 g9 D C B z y u t l k : Value), a = ⟨#[.agg (GN (OA p q 0)).toArray, .agg (GN q).toArray, .pointer (some ⟨h, 0, none⟩), .pointer (some ⟨f, 0, none⟩), .pointer (some ⟨F, 0, none⟩), .int .i64 0, .int .i64 ↑i, g7, g8, g9, D, C, B, z, y, u, t, l, k, undef, undef, undef, undef, undef], []⟩ ∧ Env w' [fX F (67) (GN [0, 0, 0, 0, 0, 0, 0, 0]), fX f (67) (GN q), fX h (67) (GN (OA p q i)), fW w] ∧ mz = 8 - i ∧ i ≤ 8) (8) ⟨0, _, _, _, _, _, _, _, _, _, _, _, _, O, zE, O, Z⟩ ?_
 rintro m4 _ w4 ⟨i, g7, g8, g9, D, C, B, z, y, u, t, l, k, rfl, E, N, a0⟩
 by_cases hi : i < 8
 case neg =>
  refine zG ?_
  refine V O O (CT PR O O E.2.2.1 (DA (PH hs i))) ?_
  refine zG ?_
  refine EF O (BY UT O (nB (OA p q i) _ (PH hs i)) O E ?_)
  clear E
  intro w7 _ E
  refine zG ?_
  refine V O O (CT PR O O E.2.2.1 (DA (PH hs i))) ?_
  have H := E.1
  replace E := Sp E
  refine zG ?_
  refine EF O (BX PR O O O H (by first | rfl | exact DA mo_zero) (DA (PH hs i)) (yT _) ?_)
  intro w8 T P
  replace E := (E.onl (H.noW (oE (m := [0, 0, 0, 0, 0, 0, 0, 0]))) zK T).x P
  clear H T P
  have L := CY PR E.1 (DA (PH hs i))
  refine zG ?_
  exact AP (v := .tuple #[.agg (GN (OA p q i)).toArray, .int .i64 0]) (by simp [results, results56, asAddr, L]) O ⟨(by rw [show i = 8 by omega]), e3 E⟩
 refine zG ?_
 refine SY (l2 := [fX F (67) (GN [0, 0, 0, 0, 0, 0, 0, 0]), fX f (67) (GN q), fW w]) E (fun w E => zE) ([8]) ([0, 1, 2, 3, 4, 5, 6, 7, 8]) I I I I AE ?_
 replace E := E.drew
 refine SP (o := ⟨some 11, _, _, _, _, _⟩) (v := .int .i64 ↑i) O O O O (fun w e => GY O O) ?_
 refine zG ?_
 refine SP (o := ⟨some 12, _, _, _, _, _⟩) (v := .pointer (some ⟨h, 0 + i * 1, none⟩)) O O O O (fun w e => DX (j := i) O underlying67 I O O O Z) ?_
 refine zG ?_
 refine SP (o := ⟨some 13, _, _, _, _, _⟩) (v := .int .i64 ↑(me (OA p q i) i)) O O O O (fun w e => CR O DD O (e.2.2.1) (FL (PH hs i) Z)) ?_
 refine zG ?_
 refine SP (o := ⟨some 14, _, _, _, _, _⟩) (v := .int .i64 ↑i) O O O O (fun w e => GY O O) ?_
 refine zG ?_
 refine SP (o := ⟨some 15, _, _, _, _, _⟩) (v := .pointer (some ⟨f, 0 + i * 1, none⟩)) O O O O (fun w e => DX (j := i) O underlying67 I O O O Z) ?_
 refine zG ?_
 refine SP (o := ⟨some 16, _, _, _, _, _⟩) (v := .int .i64 ↑(me q i)) O O O O (fun w e => CR O DD O (e.2.1) (FL hq Z)) ?_
 refine zG ?_
 refine SP (o := ⟨some 17, _, _, _, _, _⟩) (v := .int .i64 ↑(me p i + me q i)) O O O O (fun w e => JJ O O O (by rw [Hg p q hi]; have := hs i; rw [JC Z]; omega)) ?_
 refine zG ?_
 refine SP (o := ⟨some 18, _, _, _, _, _⟩) (v := .pointer (some ⟨h, 0 + i * 1, none⟩)) O O O O (fun w e => DX (j := i) O underlying67 I O O O Z) ?_
 have J := E.2.2.1
 refine zG ?_
 replace E := (Env.x (Env.x (Env.ww (Env.nil _) (e3 E)) E.2.1) E.1)
 refine S1b (o := ⟨none, _, _, _, _, _⟩) O O O O (fH (v := .int .i64 ↑(me p i + me q i)) O Fb O O O O J (by rw [DA (PH hs i)]; omega) ?_)
 intro w6 U G
 rw [Lu p q hi] at G
 replace E := (E.onl (J.noW (oE _)) zK U).x G
 clear J U G
 refine ⟨E.2, ?_⟩
 refine zG ?_
 exact ⟨_, (by rw [N]; omega), (i + 1), _, _, _, _, _, _, _, _, _, _, _, _, O, zE, O, Z⟩
end Go.Proofs.YtmppigbbkjepiaaGreatDoor
set_option maxHeartbeats 2000000
set_option maxRecDepth 100000
namespace Go.Proofs.YtmppigbbkjepiaaGreatDoor
open Go.Proofs.Tryz
open Go.RowKit W
def NI (x : Rat) : ByteArray := if ((x.den : Nat) : Int) = 1 then OS x.num else OS x.num ++ ⟨#[47]⟩ ++ OS ((x.den : Nat) : Int)
theorem MR (z : Int) : (OS z).data.toList = PE z := by unfold OS; simp
theorem KB (z : Int) : (47 : UInt8) ∉ PE z := by
  intro h
  unfold PE at h
  rcases List.mem_append.1 h with h | h
  · split at h
    · simp at h
    · cases h
  · obtain ⟨d, k, e⟩ := List.mem_map.1 h
    have l := OJ z.natAbs d k
    have f : (UInt8.ofNat (48 + d)).toNat = (47 : UInt8).toNat := by rw [e]
    rw [UInt8.toNat_ofNat'] at f
    change _ = 47 at f
    omega
theorem ZW {z : Int} {k : Nat} (h : Fits z k) (hk : 0 < k) : (OS z).size ≤ 10 * k + 1 := by
  have e : (OS z).size = (PE z).length := by rw [← MR]; rfl
  rw [e]
  unfold PE
  rw [List.length_append, zZ]
  have := Ik h hk
  split <;> simp <;> omega
theorem cW {a b : ByteArray} (h : a.data.toList = b.data.toList) : a = b := by
  cases a; cases b; simp at h ⊢; exact h
theorem LK (x : Rat) : (NI x).data.toList = if ((x.den : Nat) : Int) = 1 then PE x.num else PE x.num ++ 47 :: PE ((x.den : Nat) : Int) := by
  unfold NI
  split
  · exact MR _
  · rw [ByteArray.data_append, ByteArray.data_append, Array.toList_append, Array.toList_append, MR, MR]; simp
theorem PU {a b c d : List UInt8} (ha : (47 : UInt8) ∉ a) (hc : (47 : UInt8) ∉ c) (h : a ++ 47 :: b = c ++ 47 :: d) : a = c ∧ b = d := by
  induction a generalizing c with
  | nil =>
    cases c with
    | nil => simpa using h
    | cons y c => simp at h; exact absurd (by rw [h.1]; simp) hc
  | cons x a ih =>
    cases c with
    | nil => simp at h; exact absurd (by rw [h.1]; simp) ha
    | cons y c =>
      simp only [List.cons_append, List.cons.injEq] at h
      obtain ⟨f, e⟩ := ih (fun g => ha (List.mem_cons_of_mem _ g)) (fun g => hc (List.mem_cons_of_mem _ g)) h.2
      exact ⟨by rw [h.1, f], e⟩
def vq (n d : Int) : Prop := 0 < d ∧ Nat.gcd n.natAbs d.natAbs = 1
theorem uB (x : Rat) : vq x.num ((x.den : Nat) : Int) := ⟨Mv x, by rw [Int.natAbs_natCast]; exact x.reduced⟩
theorem nG {n d : Int} (h : vq n d) : (Rat.divInt n d).num = n ∧ (((Rat.divInt n d).den : Nat) : Int) = d := Lx h.1 (by rw [h.2]; rfl)
theorem pZ (n : Int) : vq n 1 := ⟨by decide, by simp⟩
section
variable {l a b : List UInt8} {n d : Int}
theorem Gs (ha : DQ l = some n) : l = (NI (n : Rat)).data.toList := by
  rw [LK]
  rw [if_pos AG, Rat.num_intCast, KZ ha]
theorem yF (hs : (47 : UInt8) ∉ l) (ha : DQ l = none) (x : Rat) : l ≠ (NI x).data.toList := by
  intro e
  rw [LK] at e
  split at e
  · exact YZ ha _ e.symm
  · rw [e] at hs; simp at hs
theorem yI (hs : (47 : UInt8) ∉ a) (ha : DQ a = none) (x : Rat) : a ++ 47 :: b ≠ (NI x).data.toList := by
  intro e
  rw [LK] at e
  split at e
  · exact KB x.num (by rw [← e]; simp)
  · exact YZ ha _ (PU hs (KB _) e).1.symm
theorem yH (hs : (47 : UInt8) ∉ a) (hb : DQ b = none) (x : Rat) : a ++ 47 :: b ≠ (NI x).data.toList := by
  intro e
  rw [LK] at e
  split at e
  · exact KB x.num (by rw [← e]; simp)
  · exact YZ hb _ (PU hs (KB _) e).2.symm
theorem nZ (hs : (47 : UInt8) ∉ a) (ha : DQ a = some n) (hb : DQ b = some d) (h : ¬ vq n d ∨ d = 1) (x : Rat) : a ++ 47 :: b ≠ (NI x).data.toList := by
  intro e
  rw [LK] at e
  split at e
  · exact KB x.num (by rw [← e]; simp)
  · rename_i h1
    obtain ⟨k, f⟩ := PU hs (KB _) e
    rw [← KZ ha] at k
    rw [← KZ hb] at f
    rw [ZV k, ZV f] at h
    rcases h with h | h
    · exact h (uB x)
    · exact h1 h
theorem Oe (ha : DQ a = some n) (hb : DQ b = some d) (h : vq n d) (h1 : d ≠ 1) : a ++ 47 :: b = (NI (Rat.divInt n d)).data.toList := by
  obtain ⟨f, e⟩ := nG h
  rw [LK, f, e, if_neg h1, KZ ha, KZ hb]
end
theorem Eo {x y : Rat} (h : NI x = NI y) : x = y := by
  have h : (NI x).data.toList = (NI y).data.toList := by rw [h]
  rw [LK, LK] at h
  split at h <;> split at h <;> rename_i h1 h2
  · exact Rat.ext (ZV h) Z
  · exact absurd (by rw [h]; simp) (KB x.num)
  · exact absurd (by rw [← h]; simp) (KB y.num)
  · obtain ⟨f, e⟩ := PU (KB _) (KB _) h
    have := ZV e
    exact Rat.ext (ZV f) Z
inductive ParQ (w0 : World) (R : Int → Int → Int → Ending → World → Prop) (s : ByteArray) (e : Ending) (w' : World) : Prop
  | big (h : 4000 < s.size) (r : R 0 0 2 e w')
  | form (h : s.size ≤ 4000) (h' : ∀ x, s ≠ NI x) (r : R 0 0 3 e w')
  | ok (x : Rat) (h : s.size ≤ 4000) (h' : s = NI x) (r : R x.num ((x.den : Nat) : Int) 0 e w')
theorem My {l : List UInt8} {c : UInt8} (h : c ∈ l) : ∃ a b, l = a ++ c :: b ∧ c ∉ a := by
  induction l with
  | nil => cases h
  | cons x l ih =>
    by_cases f : x = c
    · exact ⟨[], l, by simp [f], by simp⟩
    · rcases List.mem_cons.1 h with e | e
      · exact absurd e.symm f
      · obtain ⟨a, b, o, k⟩ := ih e
        exact ⟨x :: a, b, by simp [o], by simp [k, Ne.symm f]⟩
theorem NC {l : List UInt8} {d : Int} (hs : l.length ≤ 4000) (h : DQ l = some d) : Fits d 4000 := by
  have k := KZ h
  have f : (VG d.natAbs).length ≤ 4000 := by
    have : (PE d).length ≤ 4000 := by rw [k]; exact hs
    unfold PE ZQ at this; rw [List.length_append, List.length_map] at this; omega
  have e := gW (OJ d.natAbs)
  rw [PZ] at e
  exact (LU (m := (VG d.natAbs).length) (Nat.lt_of_lt_of_le e (Nat.pow_le_pow_left AD _))).mono f
end Go.Proofs.YtmppigbbkjepiaaGreatDoor
namespace Go.Proofs.YtmppigbbkjepiaaGreatDoor
open Go.Proofs.Tryz
open Go.RowKit W
theorem fnc_Index : Fn prog 146 := ⟨_, func146, by kernel_rfl, rfl⟩
theorem fnc_Cut0 : Fn prog 99 := ⟨_, func99, by kernel_rfl, rfl⟩
theorem UC : Fn prog 52 := ⟨_, func52, by kernel_rfl, rfl⟩
theorem Ee (s sep : ByteArray) (c : UInt8) (hsep : sep = ⟨#[c]⟩) (w : World) (h : Lib.indexByte s.data.toList c = -1) :
    Calls prog 99 #[.string s, .string sep] w fun e w' => e = .returned (.tuple #[.string s, .string ByteArray.empty, .bool false]) ∧ ∃ n, w' = w.drewN n := by
  have f : ∀ w, Calls prog 146 #[.string s, .string sep] w fun e w' => e = .returned (.int .i64 (-1)) ∧ w' = w := fun w => by rw [hsep, ← h]; exact Tryz.stringslite_Index_one s c w
  have k : ∀ args w, (callFunc 146 args).run prog w = .ok (.enter 146 args) w := fnc_Index.run
  clear hsep h
  go_enter func99, ntmps99
  go_wp2_with (go_at_fn 146; refine (f _).mono ?_; rintro e w' ⟨rfl, rfl⟩)
  go_ret3
  exact ⟨rfl, 0, rfl⟩
theorem Ka (s sep : ByteArray) (c : UInt8) (i : Nat) (hsep : sep = ⟨#[c]⟩) (w : World) (h : Lib.indexByte s.data.toList c = (i : Int)) (hroom : i + sep.size ≤ s.size) (hs : s.size < 4294967281) :
    Calls prog 99 #[.string s, .string sep] w fun e w' => e = .returned (.tuple #[.string (s.extract 0 i), .string (s.extract (i + sep.size) s.size), .bool true]) ∧ ∃ n, w' = w.drewN n := by
  have k : ∀ w, Calls prog 146 #[.string s, .string sep] w fun e w' => e = .returned (.int .i64 (i : Int)) ∧ w' = w := fun w => by rw [hsep, ← h]; exact Tryz.stringslite_Index_one s c w
  have l : ∀ args w, (callFunc 146 args).run prog w = .ok (.enter 146 args) w := fnc_Index.run
  have f : prog.follows .mixedOrders = true := by kernel_rfl
  have t : (0 : Int) ≤ ↑i := by omega
  have q : (↑i : Int) ≤ ↑s.size := by omega
  have p : (0 : Int) ≤ ↑i + ↑sep.size := by omega
  have o : (↑i + ↑sep.size : Int) ≤ ↑s.size := by omega
  clear hsep h
  go_enter func99, ntmps99
  go_wp2_with (go_at_fn 146; refine (k _).mono ?_; rintro e w' ⟨rfl, rfl⟩)
  go_region_o
  go_wp2
  go_ret3
  exact ⟨rfl, 1, rfl⟩
theorem Jy {s sep : ByteArray} {v : Value} (h : ∀ w, Calls prog 99 #[.string s, .string sep] w fun e w' => e = .returned v ∧ ∃ n, w' = w.drewN n) {a b : ByteArray} {f : Bool} (hv : v = .tuple #[.string a, .string b, .bool f]) (w : World) :
    Calls prog 52 #[.string s, .string sep] w fun e w' => e = .returned (.tuple #[.string a, .string b, .bool f]) ∧ ∃ n, w' = w.drewN n := by
  subst hv
  have k : ∀ args w, (callFunc 99 args).run prog w = .ok (.enter 99 args) w := fnc_Cut0.run
  go_enter func52, ntmps52
  go_wp2_with (go_at_fn 99; refine (h _).mono ?_; rintro e w' ⟨rfl, n, rfl⟩)
  go_ret3
  exact ⟨rfl, n, rfl⟩
def Jg (w0 : World) (v : Value) (e : Ending) (w' : World) : Prop := e = .returned v ∧ Below w0.heap.size w0 w'
theorem Jz (s : ByteArray) (c : UInt8) (w : World) (h : c ∉ s.data.toList) : Calls prog 52 #[.string s, .string ⟨#[c]⟩] w (Jg w (.tuple #[.string s, .string ByteArray.empty, .bool false])) := by
  have k : Lib.indexByte s.data.toList c = -1 := by
    have := Lib.indexByte_ge s.data.toList c
    rcases Int.lt_or_le (Lib.indexByte s.data.toList c) 0 with e | e
    · omega
    · obtain ⟨o, f⟩ : ∃ o : Nat, Lib.indexByte s.data.toList c = o := ⟨(Lib.indexByte s.data.toList c).toNat, by omega⟩
      exact absurd (List.mem_of_getElem? (Lib.indexByte_some f).1) h
  refine (Jy (fun w => Ee s _ c O w k) O w).mono ?_
  rintro e l ⟨rfl, n, rfl⟩
  exact ⟨rfl, Below.drewN (Below.refl _ _) n⟩
theorem bZ (s a b : ByteArray) (c : UInt8) (w : World) (h : s.data.toList = a.data.toList ++ c :: b.data.toList) (hc : c ∉ a.data.toList) (hs : s.size < 4294967281) :
    Calls prog 52 #[.string s, .string ⟨#[c]⟩] w (Jg w (.tuple #[.string a, .string b, .bool true])) := by
  have l : s.data.toList[a.size]? = some c := by
    rw [h, List.getElem?_append_right (by rw [Lib.size_eq]; exact Nat.le_refl _), Lib.size_eq, Nat.sub_self]; rfl
  have u : Lib.indexByte s.data.toList c = ((a.size : Nat) : Int) := by
    have := Lib.indexByte_ge s.data.toList c
    rcases Int.lt_or_le (Lib.indexByte s.data.toList c) 0 with e | e
    · exact absurd l (Lib.indexByte_none Z _)
    · obtain ⟨o, f⟩ : ∃ o : Nat, Lib.indexByte s.data.toList c = o := ⟨(Lib.indexByte s.data.toList c).toNat, by omega⟩
      obtain ⟨q, v⟩ := Lib.indexByte_some f
      rcases Nat.lt_trichotomy o a.size with k | k | k
      · rw [h, List.getElem?_append_left (by rw [← Lib.size_eq]; exact k)] at q
        exact absurd (List.mem_of_getElem? q) hc
      · rw [f, k]
      · exact absurd l (v _ k)
  have t : s.size = a.size + (b.size + 1) := by
    rw [Lib.size_eq, h, Lib.size_eq, Lib.size_eq]; simp
  have p : (⟨#[c]⟩ : ByteArray).size = 1 := rfl
  have z : s.extract 0 a.size = a := cW (by rw [Lib.extract_eq, h, show a.size = a.data.toList.length from Lib.size_eq a]; simp)
  have y : s.extract (a.size + (⟨#[c]⟩ : ByteArray).size) s.size = b := cW (by
    rw [Lib.extract_eq, p, t, h]
    rw [List.drop_append, List.drop_of_length_le (by rw [Lib.size_eq]; omega), show a.size + 1 - a.data.toList.length = 1 by rw [Lib.size_eq]; omega]
    simp
    rw [List.take_of_length_le]; rw [← Lib.size_eq]; omega)
  refine (Jy (fun w => Ka s _ c a.size O w u (by rw [p]; omega) hs) (by rw [z, y]) w).mono ?_
  rintro e B ⟨rfl, n, rfl⟩
  exact ⟨rfl, Below.drewN (Below.refl _ _) n⟩
section
variable {P : Program} {o : Oper} {a : Act} {w : World} {K : Act → World → Prop} {Q : Exit → Act → World → Prop} {f : Nat} {args : List Operand} {tys : Array TypeId} {vs : List Value} {l : List SF}
theorem IJ {v : Value} (hf : Fn P f) (ho : o.op = .call { callee := .value (.func f), args := args.toArray, argTypes := tys }) (hc : Calls P f vs.toArray w (Jg w v)) (hv : args.map a.eval = vs) (E : Env w l)
    (h : ∀ w', Below w.heap.size w w' → Env w' l → K (a.put o.dst v) w') : o.wp P a w K Q := by
  refine DB hf ho hc hv ?_
  rintro e w' ⟨rfl, k⟩
  exact ⟨_, rfl, h w' k (E.below k)⟩
end
end Go.Proofs.YtmppigbbkjepiaaGreatDoor
