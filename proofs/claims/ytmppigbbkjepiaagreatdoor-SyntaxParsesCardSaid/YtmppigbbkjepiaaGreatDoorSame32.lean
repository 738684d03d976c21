/- Helping facts of LawP; no other conditions. Helping facts of EntS; no other conditions. Helping facts of ParP; no other conditions. Helping facts of MadeP; no other conditions. Helping facts of Same32; no other conditions. -/
import Derived.Test.YtmppigbbkjepiaaGreatDoorLawS
import Derived.Test.YtmppigbbkjepiaaGreatDoorCards
import Derived.Test.YtmppigbbkjepiaaGreatDoorTie
import Derived.WalkKit
import Derived.ProofKit
import Derived.OpenShut
import Derived.Deep.DeepHandedRow
import Derived.Lib.LaidTab
import Derived.Lib.SmallJoins
import Derived.Carry
import Derived.HandedShaped
namespace Go.Proofs.YtmppigbbkjepiaaGreatDoor
open Go.RowKit W
variable {a b c : Prop} {d i k n next : Nat} {m : List Nat}
theorem Cp {t : Bs} {s : Sy} (h : HO t = (s, n, 0)) : TH s.eqs /\ TH s.neqs := by
 unfold HO at h
 by_cases q : 100000 < t.length
 . rw [if_pos q] at h; simp at h
 rw [if_neg q] at h
 obtain ⟨v, C, F, k, B, y, D⟩ := De h
 have p : v ≠ [] := by
  rintro rfl
  simp only [JX, Option.some.injEq] at k
  subst k; exact B rfl
 have u := (tS p k).1
 have l := tQ Sc k
 subst y
 refine ⟨fun e f => ⟨(u.all false e f).2.2.1, fun t o => FitQ.mono ((l.fit false e f).1 t o) AE, by have := (l.fit false e f).2; omega⟩, fun e f => ⟨(u.all true e f).2.2.1, fun t o => FitQ.mono ((l.fit true e f).1 t o) AE, by have := (l.fit true e f).2; omega⟩⟩
theorem Tg {s : Sy} (h : Xc s) : DM 4 s.vars = true /\ s.vars.length <= 4 /\ s.eqs.length <= 12 /\ s.neqs.length <= 12 := by
 obtain ⟨e, k, f, _⟩ := Mj h.1
 exact ⟨e, IG e, k, f⟩
open Go.Proofs.Tryz
open Go.ChangeShapes Go.WideShapes Go.ChangeAt Go.Joins
def lst44 : List (String × DataW Unit) := [("math/bits.deBruijn32tab", Rows.laid_math_bits_deBruijn32tab), ("math/bits.deBruijn64tab", Rows.laid_math_bits_deBruijn64tab), ("internal/strconv.uint64pow10", Rows.laid_internal_strconv_uint64pow10), ("unicode/utf8.acceptRanges", Rows.laid_unicode_utf8_acceptRanges), ("unicode/utf8.first", Rows.laid_unicode_utf8_first)]
theorem Pa : (prog.globals[1]?).map (·.type) = some 222 := by kernel_rfl
theorem Lf : prog.cellsOf 222 = 20 := by kernel_rfl
theorem Ld : prog.cellsOf 161 = 1 := by kernel_rfl
theorem Glob.of {W : World} (h : laidMetH prog lst44 W) (hsh : W.ShapedOpen prog) : Glob W := by
 have f := h.filter (fun x => x.1 == "internal/strconv.uint64pow10")
 have e : (lst44.filter fun x => x.1 == "internal/strconv.uint64pow10") = [("internal/strconv.uint64pow10", Lib.tabData .u64 Lib.pow10Tab)] := by kernel_rfl
 rw [e] at f
 exact ⟨Lib.tabIs_of_head (rest := []) aP Pa underlying222 underlying161 Ld Lf f,
  Go.Proofs.cell_of_shapedOpen_int (zero := #[.int .i64 0]) (t := 3) hsh (of_decide_eq_true Z) Z rfl Z Z underlying3⟩
def litV : DataW Unit -> List Value
 | .lit (.int k z) => [.int k z]
 | .agg l => l.flatMap fun d => match d with
   | .lit (.int k z) => [.int k z]
   | _ => []
 | _ => []
def tabV : DataW Unit -> Array Value
 | .agg l => (l.flatMap litV).toArray
 | _ => #[]
def Px (d : DataW Unit) : Obj -> Obj
 | .cells _ t frozen => .cells (tabV d) t frozen
 | o => o
noncomputable def laidWorld (os : Os) : World :=
 { World.holding prog os ⟨#[], #[], []⟩ with heap := (((((World.holding prog os ⟨#[], #[], []⟩).heap.modify 1 (Px Rows.laid_internal_strconv_uint64pow10)).modify 2 (Px Rows.laid_unicode_utf8_first)).modify 3 (Px Rows.laid_unicode_utf8_acceptRanges)).modify 4 (Px Rows.laid_math_bits_deBruijn32tab)).modify 5 (Px Rows.laid_math_bits_deBruijn64tab) }
def dJ (s : Bs) : Bs := s.takeWhile (· != 58)
def WP (s : Bs) : Bs := s.dropWhile (· != 58)
theorem Ul {x y : Bs} (h : (58 : UInt8) ∉ x) : dJ (x ++ 58 :: y) = x /\ WP (x ++ 58 :: y) = 58 :: y := by
 induction x with
 | nil => exact ⟨by simp [dJ], by simp [WP]⟩
 | cons b x ih =>
   have f : (b != 58) = true := by rw [bne_iff_ne]; intro e; exact h (by simp [e])
   obtain ⟨l, k⟩ := ih (fun g => h (by simp [g]))
   unfold dJ WP at *
   rw [List.cons_append, List.takeWhile_cons, List.dropWhile_cons, if_pos f, if_pos f, l, k]
   exact ⟨rfl, rfl⟩
theorem Oy (s : Bs) : dJ s ++ WP s = s := List.takeWhile_append_dropWhile
def MU (l : Bs) : Bs := if Lib.hasSuffix l NL = true then Lib.trimSuffix l NL else Lib.trimSuffix l ZR
def Km (vs : List Bs) (l s : Bs) (id : Nat) : Option (Bool × En) :=
 if Lib.hasPrefix (WP s) JC = true /\ (EE vs ((WP s).drop 2)).2.2 = 0 /\ QQ (EE vs ((WP s).drop 2)).1 <= 12 then some (Lib.hasSuffix l NL, id, (EE vs ((WP s).drop 2)).1) else none
def XV (vs : List Bs) (l : Bs) : Option (Bool × En) :=
 if Lib.hasSuffix l NL = false /\ Lib.hasSuffix l ZR = false then none else
 match EA 1 999999 (dJ (MU l)) with
 | none => none
 | some id => Km vs l (MU l) id
def Eqn (vs : List Bs) (l : Bs) (neq : Bool) (id : Nat) (p : List Tm) : Prop := ∃ t n, 1 <= id /\ id <= 999999 /\ l = txt (id : Int) ++ (JC ++ (t ++ YX neq)) /\ EE vs t = (p, n, 0) /\ QQ p <= 12
theorem Mq {l : Bs} (h : ¬ (Lib.hasSuffix l NL = false /\ Lib.hasSuffix l ZR = false)) : MU l ++ YX (Lib.hasSuffix l NL) = l := by
 unfold MU
 cases e : Lib.hasSuffix l NL with
 | true => rw [if_pos rfl]; exact rG e
 | false =>
   rw [if_neg AH]
   exact rG (by cases g : Lib.hasSuffix l ZR with
    | true => rfl
    | false => exact absurd ⟨e, g⟩ h)
theorem Mr (x : Bs) (neq : Bool) : ¬ (Lib.hasSuffix (x ++ YX neq) NL = false /\ Lib.hasSuffix (x ++ YX neq) ZR = false) /\ Lib.hasSuffix (x ++ YX neq) NL = neq /\ MU (x ++ YX neq) = x := by
 unfold MU
 cases neq with
 | true =>
   obtain ⟨f, e⟩ := bI x NL
   rw [show YX true = NL from rfl, f, if_pos rfl]; exact ⟨by simp, rfl, e⟩
 | false =>
   obtain ⟨f, e⟩ := bI x ZR
   rw [show YX false = ZR from rfl, sQ, if_neg AH, f]; exact ⟨by simp, rfl, e⟩
theorem eqnR_iff {vs : List Bs} {l : Bs} {neq : Bool} {id : Nat} {p : List Tm} : XV vs l = some (neq, id, p) ↔ Eqn vs l neq id p := by
 constructor
 . intro h
   unfold XV at h
   by_cases g : Lib.hasSuffix l NL = false /\ Lib.hasSuffix l ZR = false
   . rw [if_pos g] at h; cases h
   rw [if_neg g] at h
   have k := Mq g
   cases f : EA 1 999999 (dJ (MU l)) with
   | none => simp only [f, reduceCtorEq] at h
   | some i =>
     simp only [f] at h
     unfold Km at h
     obtain ⟨H, P, N⟩ := IW AA f
     by_cases q : Lib.hasPrefix (WP (MU l)) JC = true /\ (EE vs ((WP (MU l)).drop 2)).2.2 = 0 /\ QQ (EE vs ((WP (MU l)).drop 2)).1 <= 12
     . rw [if_pos q] at h
       obtain ⟨q1, q2, q3⟩ := q
       simp only [Option.some.injEq, Prod.mk.injEq] at h
       obtain ⟨C, rfl, e⟩ := h
       have B := Xn q1
       have D : (WP (MU l)).drop 2 = Lib.trimPrefix (WP (MU l)) JC := by
        conv => lhs; rw [<- B]
        rfl
       refine ⟨(WP (MU l)).drop 2, (EE vs ((WP (MU l)).drop 2)).2.1, by omega, by omega, ?_, ?_, by rw [<- e]; exact q3⟩
       . rw [D, <- C, <- H, <- List.append_assoc JC, B, <- List.append_assoc, Oy, k]
       rw [<- e, <- q2]
     rw [if_neg q] at h; cases h
 rintro ⟨t, n, C, L, e, G, F⟩
 have k : l = (txt (id : Int) ++ 58 :: (32 :: t)) ++ YX neq := by rw [e]; simp [JC]
 obtain ⟨v, u, o⟩ := Mr (txt (id : Int) ++ 58 :: (32 :: t)) neq
 rw [<- k] at v u o
 obtain ⟨J, I⟩ := Ul (x := txt (id : Int)) (y := 32 :: t) (rB _)
 unfold XV
 rw [if_neg v, o, J, rR AA AA]
 unfold Km
 simp only [I, u, List.drop_succ_cons, List.drop_zero, G]
 rw [if_pos ⟨by unfold Lib.hasPrefix; exact List.isPrefixOf_iff_prefix.2 ⟨t, rfl⟩, BX, F⟩]
theorem entry_iff {r r' : Rs} {l : Bs} : JP r l = some r' ↔ ∃ neq id p, Eqn r.vars l neq id p /\ r.last < id /\ (r.lst neq).length < 12 /\ r' = r.add (neq, id, p) := by
 constructor
 . intro h
   unfold JP at h
   by_cases v : (Lib.cut l JC).2.2 = false
   . rw [if_pos v] at h; cases h
   rw [if_neg v] at h
   have u := sT (s := l) (sep := JC) (by cases L : (Lib.cut l JC).2.2 <;> simp_all)
   cases q : EA ((r.last + 1 : Nat) : Int) 999999 (Lib.cut l JC).1 with
   | none => simp only [q, reduceCtorEq] at h
   | some id =>
     simp only [q] at h
     obtain ⟨J, S, R⟩ := IW AA q
     have e : ∀ (neq : Bool) (t : Bs), t ++ YX neq = (Lib.cut l JC).2.1 -> cB r id neq t = some r' -> ∃ neq id p, Eqn r.vars l neq id p /\ r.last < id /\ (r.lst neq).length < 12 /\ r' = r.add (neq, id, p) := by
      intro neq t y o
      unfold cB at o
      by_cases g : (EE r.vars t).2.2 = 0 /\ QQ (EE r.vars t).1 <= 12 /\ (r.lst neq).length < 12
      . rw [if_pos g] at o
        obtain ⟨I, H, G⟩ := g
        simp only [Option.some.injEq] at o
        exact ⟨neq, id, _, ⟨t, (EE r.vars t).2.1, by omega, by omega, by rw [y, <- J]; exact u.symm, by rw [<- I], H⟩, by omega, G, o.symm⟩
      rw [if_neg g] at o; cases o
     by_cases k : Lib.hasSuffix (Lib.cut l JC).2.1 NL = true
     . rw [if_pos k] at h; exact e true _ (rG k) h
     rw [if_neg k] at h
     by_cases f : Lib.hasSuffix (Lib.cut l JC).2.1 ZR = true
     . rw [if_pos f] at h; exact e false _ (rG f) h
     rw [if_neg f] at h; cases h
 rintro ⟨neq, id, p, ⟨t, n, Q, P, F, D, C⟩, N, B, rfl⟩
 have e : cB r id neq t = some (r.add (neq, id, p)) := by
  unfold cB
  rw [D, if_pos ⟨rfl, C, B⟩]
 unfold JP
 rw [F]
 simp only [C0 (rB _)]
 rw [if_neg AH, rR AA AA]
 simp only
 cases neq with
 | true =>
   obtain ⟨k, f⟩ := bI t NL
   rw [show YX true = NL from rfl, if_pos k, f]; exact e
 | false =>
   obtain ⟨k, f⟩ := bI t ZR
   rw [show YX false = ZR from rfl, if_neg (by rw [sQ]; simp), if_pos k, f]; exact e
theorem Kn (r : Rs) (l : Bs) : JP r l = match XV r.vars l with
 | none => none
 | some e => if r.last < e.2.1 /\ (r.lst e.1).length < 12 then some (r.add e) else none := by
 cases k : XV r.vars l with
 | none =>
   simp only
   cases h : JP r l with
   | none => rfl
   | some r' =>
     obtain ⟨f, o, p, q, _⟩ := entry_iff.1 h
     rw [eqnR_iff.2 q] at k; cases k
 | some e =>
   obtain ⟨f, o, p⟩ := e
   simp only
   have q := eqnR_iff.1 k
   by_cases g : r.last < o /\ (r.lst f).length < 12
   . rw [if_pos g]; exact entry_iff.2 ⟨f, o, p, q, g.1, g.2, rfl⟩
   rw [if_neg g]
   cases h : JP r l with
   | none => rfl
   | some r' =>
     exfalso
     obtain ⟨t, u, C, B, y, v, _⟩ := entry_iff.1 h
     have := (eqnR_iff.2 B).symm.trans k
     simp only [Option.some.injEq, Prod.mk.injEq] at this
     obtain ⟨rfl, rfl, rfl⟩ := this
     exact g ⟨y, v⟩
structure MadeOk (n d k : Nat) (p : List Tm) : Prop where
 ok : JS p
 win : ∀ t ∈ p, within n t.2
 deg : ∀ t ∈ p, UR t.2 8 <= d
 len : p.length <= k
 sml : ∀ t ∈ p, ∃ z : Int, t.1 = (z : Rat) /\ z.natAbs <= 3 * k
theorem MadeOk.mono {k' : Nat} {p : List Tm} (h : MadeOk n d k p) (hk : k <= k') : MadeOk n d k' p :=
 ⟨h.ok, h.win, h.deg, Nat.le_trans h.len hk, fun t ht => by obtain ⟨z, h1, h2⟩ := h.sml t ht; exact ⟨z, h1, by omega⟩⟩
theorem Ha {d : Int} {b : Int} (hd : d <= b) : ∀ {p : List Tm}, (∀ t ∈ p, ((UR t.2 8 : Nat) : Int) <= b) -> Wf d p <= b
 | [], _ => hd
 | t :: p, h => by
   unfold Wf; rw [List.foldl_cons]
   refine Ha ?_ (p := p) (fun u hu => h u (by simp [hu]))
   have := h t AH
   split <;> omega
theorem MadeOk.fits {p : List Tm} (h : MadeOk n d k p) (hd : d <= 12) : PJ n p = true :=
 fits_iff.2 ⟨(eT h.ok).2 h.win, Ha AA (fun t ht => by have := h.deg t ht; omega)⟩
theorem Et : ∀ {l : List Nat} {i v : Nat}, i < l.length -> (l.set i v).sum + l.getD i 0 = l.sum + v
 | a :: l, 0, v, _ => by simp only [List.set_cons_zero, List.sum_cons, List.getD_cons_zero]; omega
 | a :: l, i + 1, v, h => by
   have := Et (l := l) (i := i) (v := v) (by simpa using h)
   simp only [List.set_cons_succ, List.sum_cons, List.getD_cons_succ]; omega
theorem yC (h : m.length = 8) : UR m 8 = m.sum := by unfold UR; rw [List.take_of_length_le AA]
structure RowM (d i left : Nat) (m : List Nat) : Prop where
 ok : FC m
 zer : within i m
 sum : UR m 8 + left = d
theorem RowM.step {left v : Nat} (h : RowM d i left m) (hi : i < 8) (hv : v <= left) (hd : d <= 65535) : RowM d (i + 1) (left - v) (m.set i v) := by
 have f := h.sum
 have e := h.ok.1
 refine ⟨aM h.ok AA, fun j k => ?_, ?_⟩
 . have := h.zer j AA
   unfold me at this ⊢
   rw [List.getD_eq_getElem?_getD, List.getElem?_set_ne AA, <- List.getD_eq_getElem?_getD]; exact this
 rw [yC e] at f
 rw [yC (by rw [List.length_set]; exact e)]
 have p := Et (l := m) (i := i) (v := v) AA
 have o : m.getD i 0 = 0 := h.zer i (Nat.le_refl _)
 omega
theorem uT (b : UInt8) {k : Nat} : ∀ {l : List Bs}, (∀ x ∈ l, x.length <= k) -> (jn b l).length <= l.length * (k + 1)
 | [], _ => Nat.zero_le _
 | [x], h => by have := h x AH; simp only [jn, List.length_cons, List.length_nil]; omega
 | x :: y :: r, h => by
   have h1 := h x AH
   have h2 := uT b (l := y :: r) (fun z hz => h z (by simp only [List.mem_cons] at hz ⊢; exact .inr hz))
   rw [MV b x AH]
   simp only [List.length_append, List.length_cons] at h2 ⊢
   rw [Nat.add_mul (r.length + 1) 1 (k + 1)]; omega
theorem Pw : ∀ {l : List Nat} {n : Nat}, n ∈ l -> n <= l.sum
 | a :: l, n, h => by
   rw [List.sum_cons]
   rcases List.mem_cons.1 h with rfl | h
   . omega
   have := Pw h; omega
theorem dig1 (h : n <= 6) : (txt (n : Int)).length <= 1 := by
 have : ∀ n : Fin 7, (txt ((n.val : Nat) : Int)).length <= 1 := by decide +kernel
 exact this ⟨n, by omega⟩
theorem dig2 (h : n <= 18) : (txt (n : Int)).length <= 2 := by
 have : ∀ n : Fin 19, (txt ((n.val : Nat) : Int)).length <= 2 := by decide +kernel
 exact this ⟨n, by omega⟩
theorem Mc (n : Nat) : (NF (((n : Nat) : Int) : Rat)).data.toList = txt (n : Int) := by
 unfold NF; rw [if_pos (by rw [Rat.den_intCast]; rfl), Rat.num_intCast]; exact NE _
theorem Wz (z : Int) : PC (z : Rat) = (((z.natAbs : Nat) : Int) : Rat) := by
 by_cases h : (z : Rat) < 0
 . rw [bA h, <- Rat.intCast_neg]
   have : z < 0 := by rwa [show (0 : Rat) = ((0 : Int) : Rat) from rfl, Rat.intCast_lt_intCast] at h
   congr 1; omega
 rw [YC h]
 have : ¬ z < 0 := by rwa [show (0 : Rat) = ((0 : Int) : Rat) from rfl, Rat.intCast_lt_intCast] at h
 congr 1; omega
theorem yY : ∀ (vs : List Bs) (m : List Nat), (FX vs m).length <= vs.length
 | [], _ => by simp [FX]
 | _ :: _, [] => by simp [FX]
 | v :: vs, n :: ns => by
   have := yY vs ns
   have h : (YW v n).length <= 1 := by unfold YW; split; · simp
                                       split <;> simp
   simp only [FX, List.length_append, List.length_cons]; omega
theorem sP {j : Nat} : ∀ {vs : List Bs} {m : List Nat}, (∀ v ∈ vs, v.length <= 12) -> (∀ n ∈ m, n <= 6) -> ∀ x ∈ FX vs m, x.length <= 14
 | [], _, _, _ => by simp [FX]
 | _ :: _, [], _, _ => by simp [FX]
 | v :: vs, n :: ns, hv, hn => by
   intro x hx
   rcases List.mem_append.1 hx with h | h
   . have h1 := hv v AH
     have h2 := dig1 (hn n AH)
     unfold YW at h
     split at h
     . cases h
     split at h
     . rw [List.mem_singleton] at h; subst h; omega
     rw [List.mem_singleton] at h; subst h; simp only [List.length_append, List.length_cons]; omega
   exact sP (j := j) (fun v h => hv v (by simp [h])) (fun v h => hn v (by simp [h])) x h
theorem Il {vars : List Bs} {c : Rat} {m : List Nat} (hv : ∀ v ∈ vars, v.length <= 12) (hl : vars.length <= 4) (hm : ∀ n ∈ m, n <= 6) (hc : (NF c).data.toList.length <= 2) : (GA vars c m).length <= 75 := by
 have o := yY vars m
 have f := sP (j := 0) hv hm
 have e : ∀ {a b : Nat}, a <= b * (14 + 1) -> b <= 5 -> a <= 75 := fun h g => by omega
 unfold GA
 split
 . refine e (uT 42 (k := 14) (fun x l => ?_)) (by simp only [List.length_cons]; omega)
   rcases List.mem_cons.1 l with rfl | h
   . omega
   exact f x h
 exact e (uT 42 (k := 14) f) AA
theorem nB {vars : List Bs} {k : Nat} : ∀ {p : List Tm} (b : Bool), (∀ t ∈ p, (GA vars (PC t.1) t.2).length <= k) -> (MR vars b p).length <= p.length * (k + 3)
 | [], _, _ => by simp [MR]
 | (c, m) :: p, b, h => by
   have h1 := h (c, m) AH
   have h2 := nB (p := p) false (fun t ht => h t (by simp [ht]))
   have h3 : (ZF b (decide (c < 0))).length <= 3 := by unfold ZF; split <;> split <;> decide
   simp only [MR, List.length_append, List.length_cons]
   rw [Nat.add_mul p.length 1 (k + 3)]; simp only at h1; omega
theorem MadeOk.txt {j : Nat} {p : List Tm} (h : MadeOk n d k p) {vars : List Bs} (hv : DM j vars = true) (hj : j <= 4) (hd : d <= 6) (hk : k <= 6) : (GR vars p).length <= 500 := by
 unfold GR
 split
 . decide
 have q := nB (k := 75) (vars := vars) (p := p) true (fun t l => by
  obtain ⟨z, q, B⟩ := h.sml t l
  have u := (h.ok.1 t l).2
  refine Il (fun v f => oK (SK hv v f)) (Nat.le_trans (IG hv) hj) (fun e y => ?_) ?_
  . have o := h.deg t l
    unfold UR at o; rw [List.take_of_length_le (by rw [u.1]; exact Nat.le_refl _)] at o
    have := Pw y; omega
  rw [q, Wz, Mc]; exact dig2 AA)
 have B := h.len
 have : p.length * (75 + 3) <= 6 * (75 + 3) := Nat.mul_le_mul_right _ AA
 omega
def nm3 : List Bs := [[120], [121, 95, 49], [90, 101, 100]]
structure MadeL (n next : Nat) (q : List En) : Prop where
 all : ∀ e ∈ q, 1 <= e.1 /\ e.1 < next /\ MadeOk n 2 3 e.2
 pw : (GT q).Pairwise (· < ·)
structure MadeS (n i : Nat) (q r : List En) (next : Nat) : Prop where
 lo : 1 <= next
 hi : next <= 1 + 4 * i
 len : q.length + r.length = i
 qe : MadeL n next q
 re : MadeL n next r
 dis : ∀ i ∈ GT q, i ∉ GT r
theorem MadeL.add {a g : Nat} {q : List En} {p : List Tm} (h : MadeL n a q) (ha : 1 <= a) (hp : MadeOk n 2 3 p) : MadeL n (a + g + 1) (q ++ [(a + g, p)]) := by
 refine ⟨fun e f => ?_, ?_⟩
 . rcases List.mem_append.1 f with f | f
   . obtain ⟨t, u, o⟩ := h.all e f; exact ⟨t, by omega, o⟩
   rw [List.mem_singleton] at f; subst f; exact ⟨by simp only; omega, by simp only; omega, hp⟩
 rw [SO]
 refine List.pairwise_append.2 ⟨h.pw, by simp, fun x l y k => ?_⟩
 rw [List.mem_singleton] at k; subst k
 obtain ⟨e, f, rfl⟩ := ids_in.1 l
 have := (h.all e f).2.1; simp only; omega
theorem Zp (h : n <= 3) : DM 4 (nm3.take n) = true /\ (nm3.take n).length = n := by
 have : ∀ n : Fin 4, DM 4 (nm3.take n.val) = true /\ (nm3.take n.val).length = n.val := by decide +kernel
 exact this ⟨n, by omega⟩
theorem MadeL.lis {q : List En} (h : MadeL n next q) (hl : q.length <= 12) : LG n next q = true := by
 unfold LG
 simp only [Bool.and_eq_true, decide_eq_true_eq, List.all_eq_true]
 exact ⟨⟨hl, fun e f => by obtain ⟨o, l, k⟩ := h.all e f; exact ⟨⟨o, l⟩, k.fits AA⟩⟩, h.pw⟩
theorem MadeS.sy {q r : List En} (h : MadeS n i q r next) (hn : n <= 3) (hi : i <= 6) : Xc ⟨nm3.take n, q, r, next⟩ := by
 obtain ⟨k, o⟩ := Zp hn
 have p := h.lo
 have u := h.hi
 have t := h.len
 refine ⟨?_, fun e f => ?_⟩
 . unfold LD
   simp only [Bool.and_eq_true, decide_eq_true_eq]
   rw [o]
   exact ⟨⟨⟨⟨⟨k, p⟩, by omega⟩, h.qe.lis AA⟩, h.re.lis AA⟩, h.dis⟩
 have l : MadeOk n 2 3 e.2 := by
  rcases f with f | f
  . exact (h.qe.all e f).2.2
  exact (h.re.all e f).2.2
 exact ⟨l.ok, by have := l.txt k AA AA AA; simp only; omega⟩
set_option maxHeartbeats 8000000
set_option maxRecDepth 100000
theorem D0 {d : Prop} [Decidable a] [Decidable b] [Decidable c] [Decidable d] (h1 : a) (h2 : b) (h3 : c) (h4 : d) : decide (a /\ b /\ c /\ d) = true := decide_eq_true ⟨h1, h2, h3, h4⟩
theorem pL {d : Prop} [Decidable a] [Decidable b] [Decidable c] [Decidable d] (h : ¬ (a /\ b /\ c /\ d)) : decide (a /\ b /\ c /\ d) = false := decide_eq_false h
theorem VG (vq : Value) (q : List (Nat × List Tm)) (vr : Value) (r : List (Nat × List Tm)) (w : World) (hRq : IsR RB (DL w.heap.size) w vq q) (hRr : IsR RB (DL w.heap.size) w vr r) (hP : ∀ e ∈ q, e.2.length <= 1000000) (hL : q.length <= 1000000) :
 Calls prog 54 #[vq, vr] w (LN w (decide (q = r))) := by
 have E := Env.start w
 obtain ⟨G, t, rfl, ad, ab⟩ := hRq.shp
 replace E := E.r hRq (DZ _)
 obtain ⟨F, p, rfl, ac, aa⟩ := hRr.shp
 replace E := E.r hRr (DZ _)
 go_enter func54, ntmps54
 by_cases hl : q.length = r.length
 case neg =>
  refine yG ?_
  exact ⟨LU (decide_eq_false (Ct hl)).symm, E.2.2.1⟩
 refine yG ?_
 refine wp_loop_ghost (fun mz a w' => ∃ (i : Nat) (y : List Value), y = a.tmps.toList /\ a = ⟨(.slice G q.length t :: .slice F r.length p :: gr y 2 3 (.int .i64 ↑i :: .slice G q.length t :: .int .i64 ↑q.length :: .slice F r.length p :: .int .i64 ↑r.length :: .bool false :: gr y 11 31 [])).toArray, []⟩ /\ Env w' [fR RB (DL w.heap.size) (.slice F r.length p) r, fR RB (DL w.heap.size) (.slice G q.length t) q, fW w] /\ mz = q.length - i /\ (i <= q.length /\ q.take i = r.take i)) (q.length) ⟨0, _, O, O, zE, O, ⟨Nat.zero_le _, O⟩⟩ ?_
 rintro m1 _ w1 ⟨i, y, -, rfl, E, U, R⟩
 dsimp only [gr, Nat.reduceAdd]
 obtain ⟨R, hJ⟩ := R
 by_cases hi : i < q.length
 case neg =>
  refine yG ?_
  exact ⟨LU (decide_eq_true (vB hl hJ hi)).symm, E.2.2.1⟩
 obtain ⟨⟨T, C⟩, f⟩ : ∃ x, q[i]? = some x := ⟨_, List.getElem?_eq_getElem hi⟩
 obtain ⟨I, a5, _, l, Q, a1, ⟨_, rfl, L⟩⟩ := IsR.at E.2.1.1 f
 obtain ⟨a9, a7, rfl, a3, _⟩ := L.shp
 have Y : I < _ := E.2.1.2 _ Q
 replace E := (E.r L E.2.1.2).c a1 Y
 have af : I < w.heap.size := Q
 obtain ⟨⟨S, B⟩, h⟩ : ∃ x, r[i]? = some x := ⟨_, List.getElem?_eq_getElem (show i < r.length by omega)⟩
 obtain ⟨H, a4, _, k, P, a0, ⟨_, rfl, J⟩⟩ := IsR.at E.2.2.1.1 h
 obtain ⟨a8, a6, rfl, a2, _⟩ := J.shp
 have X : H < _ := E.2.2.1.2 _ P
 replace E := (E.r J E.2.2.1.2).c a0 X
 have ae : H < w.heap.size := P
 have D := hP _ (List.mem_of_getElem? f)
 dsimp only at D
 by_cases N : T = S
 case neg =>
  refine yG ?_
  refine sE E [0,1,2,3,4,5,6,7,8,9,10,11,12,13,14,15,16,17,18,19,20,21,22,23,24] ?_
  replace E := E.drew
  refine yG ?_
  refine iC O O O l O (List.getElem?_eq_some_iff.1 f).1 ?_
  refine yG ?_
  refine iC O O O k O (List.getElem?_eq_some_iff.1 h).1 ?_
  refine yG ?_
  exact ⟨LU (decide_eq_false (Ft f h (fun g => N (Prod.mk.inj g).1))).symm, e6 E⟩
 by_cases u : C = B
 case neg =>
  refine yG ?_
  refine sE E [0,1,2,3,4,5,6,7,8,9,10,11,12,13,14,15,16,17,18,19,20,21,22,23,24] ?_
  replace E := E.drew
  refine yG ?_
  refine iC O O O l O (List.getElem?_eq_some_iff.1 f).1 ?_
  refine yG ?_
  refine iC O O O k O (List.getElem?_eq_some_iff.1 h).1 ?_
  refine yG ?_
  refine iC O O O l O (List.getElem?_eq_some_iff.1 f).1 ?_
  refine yG ?_
  refine iC O O O k O (List.getElem?_eq_some_iff.1 h).1 ?_
  refine yG ?_
  refine GG (o := ⟨some 39, _, _, _, _, _⟩) O O O O (CA NO O (iI _ C _ B _ (BW (e3 E)) (BW E.2.1) D) O E ?_)
  intro w3 d3 E
  refine ⟨E, ?_⟩
  refine yG ?_
  refine SW (v := .bool (!(decide (C = B)))) O O O Z O (fun w hS => YM (b := (decide (C = B))) O O) ?_
  refine yG ?_
  refine AO (congrArg Value.bool (by rw [decide_eq_false u]; rfl)) ?_
  refine yG ?_
  exact ⟨LU (decide_eq_false (Ft f h (fun g => u (Prod.mk.inj g).2))).symm, e6 E⟩
 refine yG ?_
 refine sE E [0,1,2,3,4,5,6,7,8,9,10,11,12,13,14,15,16,17,18,19,20,21,22,23,24] ?_
 replace E := E.drew
 refine yG ?_
 refine iC O O O l O (List.getElem?_eq_some_iff.1 f).1 ?_
 refine yG ?_
 refine iC O O O k O (List.getElem?_eq_some_iff.1 h).1 ?_
 refine yG ?_
 refine iC O O O l O (List.getElem?_eq_some_iff.1 f).1 ?_
 refine yG ?_
 refine iC O O O k O (List.getElem?_eq_some_iff.1 h).1 ?_
 refine yG ?_
 refine GG (o := ⟨some 39, _, _, _, _, _⟩) O O O O (CA NO O (iI _ C _ B _ (BW (e3 E)) (BW E.2.1) D) O E ?_)
 intro w2 d2 E
 refine ⟨E, ?_⟩
 refine yG ?_
 refine SW (v := .bool (!(decide (C = B)))) O O O Z O (fun w hS => YM (b := (decide (C = B))) O O) ?_
 refine yG ?_
 refine AP (congrArg Value.bool (by rw [decide_eq_true u]; rfl)) ?_
 refine yG ?_
 exact ⟨_, (by rw [U]; omega), (i + 1), _, O, O, zE, O, ⟨by omega, tH hJ f h (by rw [N, u])⟩⟩
theorem Sb (vv : Value) (v : List Bs) (vq : Value) (q : List (Nat × List Tm)) (vr : Value) (r : List (Nat × List Tm)) (n : Nat) (vk : Value) (k : List Bs) (vy : Value) (y : List (Nat × List Tm)) (vz : Value) (z : List (Nat × List Tm)) (m : Nat) (w : World) (hRv : IsR elS (DL w.heap.size) w vv v) (hRq : IsR RB (DL w.heap.size) w vq q) (hRr : IsR RB (DL w.heap.size) w vr r) (hRk : IsR elS (DL w.heap.size) w vk k) (hRy : IsR RB (DL w.heap.size) w vy y) (hRz : IsR RB (DL w.heap.size) w vz z) (hPq : ∀ e ∈ q, e.2.length <= 1000000) (hPr : ∀ e ∈ r, e.2.length <= 1000000) (hLq : q.length <= 1000000) (hLr : r.length <= 1000000) (hLv : v.length <= 1000000) :
 Calls prog 19 #[.agg #[vv, vq, vr, .int .i64 ↑n], .agg #[vk, vy, vz, .int .i64 ↑m]] w (LN w (decide (v = k /\ q = y /\ r = z /\ n = m))) := by
 have E := Env.start w
 obtain ⟨F, l, rfl, ak, ae⟩ := hRv.shp
 replace E := E.r hRv (DZ _)
 obtain ⟨H, p, rfl, am, ag⟩ := hRq.shp
 replace E := E.r hRq (DZ _)
 obtain ⟨G, o, rfl, al, af⟩ := hRr.shp
 replace E := E.r hRr (DZ _)
 obtain ⟨I, t, rfl, an, ah⟩ := hRk.shp
 replace E := E.r hRk (DZ _)
 obtain ⟨D, h, rfl, aj, ad⟩ := hRy.shp
 replace E := E.r hRy (DZ _)
 obtain ⟨C, f, rfl, ai, ac⟩ := hRz.shp
 replace E := E.r hRz (DZ _)
 go_enter func19, ntmps19
 refine yG ?_
 refine EF O (CM (cs := [.slice F v.length l, .slice H q.length p, .slice G r.length o, .int .i64 ↑n]) O O ?_)
 intro L w1 a8 z1 d1 x1
 have l1 : w.heap.size <= L := by rw [a8]; exact (e6 E).size
 replace E := E.below d1
 replace E := E.x x1
 refine yG ?_
 refine EF O (CM (cs := [.slice I k.length t, .slice D y.length h, .slice C z.length f, .int .i64 ↑m]) O O ?_)
 intro N w2 a7 z2 d2 x2
 have a9 : L < N := by rw [a7]; exact Bx.lt E.1
 replace E := E.below d2
 replace E := E.x x2
 by_cases hl : v.length = k.length
 case neg =>
  refine yG ?_
  exact ⟨LU (pL (fun g => Ct hl g.1)).symm, e8 E⟩
 by_cases hn : n = m
 case neg =>
  refine yG ?_
  exact ⟨LU (pL (fun g => hn g.2.2.2)).symm, e8 E⟩
 by_cases R : q = y
 case neg =>
  refine yG ?_
  refine EF O (CA JN O (CT (decide_eq_false R) (VG _ q _ y _ (BW (e6 E)) (BW (e3 E)) hPq hLq)) O E ?_)
  intro w8 d8 E
  refine yG ?_
  exact ⟨LU (pL (fun g => R g.2.1)).symm, e8 E⟩
 by_cases hr : r = z
 case neg =>
  refine yG ?_
  refine EF O (CA JN O (CT (decide_eq_true R) (VG _ q _ y _ (BW (e6 E)) (BW (e3 E)) hPq hLq)) O E ?_)
  intro w6 d6 E
  refine yG ?_
  refine EF O (CA JN O (CT (decide_eq_false hr) (VG _ r _ z _ (BW (e5 E)) (BW E.2.2.1) hPr hLr)) O E ?_)
  intro w7 d7 E
  refine yG ?_
  exact ⟨LU (pL (fun g => hr g.2.2.1)).symm, e8 E⟩
 refine yG ?_
 refine EF O (CA JN O (CT (decide_eq_true R) (VG _ q _ y _ (BW (e6 E)) (BW (e3 E)) hPq hLq)) O E ?_)
 intro w3 d3 E
 refine yG ?_
 refine EF O (CA JN O (CT (decide_eq_true hr) (VG _ r _ z _ (BW (e5 E)) (BW E.2.2.1) hPr hLr)) O E ?_)
 intro w4 d4 E
 refine yG ?_
 refine wp_loop_ghost (fun mz a w' => ∃ (i : Nat) (J : List Value), J = a.tmps.toList /\ a = ⟨(.agg #[.slice F v.length l, .slice H q.length p, .slice G r.length o, .int .i64 ↑n] :: .agg #[.slice I k.length t, .slice D y.length h, .slice C z.length f, .int .i64 ↑m] :: .pointer (some ⟨L, 0, none⟩) :: .pointer (some ⟨N, 0, none⟩) :: (CJ J 4) :: .int .i64 ↑i :: .pointer (some ⟨L, 0, none⟩) :: .slice F v.length l :: .int .i64 ↑v.length :: .pointer (some ⟨N, 0, none⟩) :: .slice I k.length t :: .int .i64 ↑k.length :: .bool false :: .bool false :: .pointer (some ⟨L, 3, none⟩) :: .int .i64 ↑n :: .pointer (some ⟨N, 3, none⟩) :: .int .i64 ↑m :: .bool false :: .bool false :: .bool false :: .pointer (some ⟨L, 1, none⟩) :: .slice H q.length p :: .pointer (some ⟨N, 1, none⟩) :: .slice D y.length h :: .bool true :: .bool false :: .bool false :: .bool false :: .pointer (some ⟨L, 2, none⟩) :: .slice G r.length o :: .pointer (some ⟨N, 2, none⟩) :: .slice C z.length f :: .bool true :: .bool false :: .bool false :: gr J 36 18 []).toArray, []⟩ /\ Env w' [fX N (48) ([.slice I k.length t, .slice D y.length h, .slice C z.length f, .int .i64 ↑m]), fX L (48) ([.slice F v.length l, .slice H q.length p, .slice G r.length o, .int .i64 ↑n]), fR RB (DL w.heap.size) (.slice C z.length f) z, fR RB (DL w.heap.size) (.slice D y.length h) y, fR elS (DL w.heap.size) (.slice I k.length t) k, fR RB (DL w.heap.size) (.slice G r.length o) r, fR RB (DL w.heap.size) (.slice H q.length p) q, fR elS (DL w.heap.size) (.slice F v.length l) v, fW w] /\ mz = v.length - i /\ (i <= v.length /\ v.take i = k.take i)) (v.length) ⟨0, _, O, O, zE, O, ⟨Nat.zero_le _, O⟩⟩ ?_
 rintro m5 _ w5 ⟨i, J, -, rfl, E, a2, Y⟩
 dsimp only [gr, Nat.reduceAdd]
 obtain ⟨Y, hJ⟩ := Y
 by_cases hi : i < v.length
 case neg =>
  refine yG ?_
  exact ⟨LU (D0 (vB hl hJ hi) R hr hn).symm, e8 E⟩
 obtain ⟨xA, B⟩ : ∃ x, v[i]? = some x := ⟨_, List.getElem?_eq_getElem hi⟩
 obtain ⟨Q, ab, _, T, X, a6, a1⟩ := IsR.at (e7 E).1 B
 obtain rfl := (show _ = [Value.string (bs xA)] from a1)
 have a4 : Q < _ := (e7 E).2 _ X
 replace E := E.c a6 a4
 have ap : Q < w.heap.size := X
 obtain ⟨xB, u⟩ : ∃ x, k[i]? = some x := ⟨_, List.getElem?_eq_getElem (show i < k.length by omega)⟩
 obtain ⟨P, aa, _, S, U, a5, a0⟩ := IsR.at (e5 E).1 u
 obtain rfl := (show _ = [Value.string (bs xB)] from a0)
 have a3 : P < _ := (e5 E).2 _ U
 replace E := E.c a5 a3
 have ao : P < w.heap.size := U
 by_cases he : xA = xB
 case neg =>
  refine yG ?_
  refine sE E [0,1,2,3,4,5,6,7,8,9,10] ?_
  replace E := E.drew
  refine yG ?_
  refine Af O O O T O (List.getElem?_eq_some_iff.1 B).1 ?_
  refine yG ?_
  refine Af O O O S O (List.getElem?_eq_some_iff.1 u).1 ?_
  refine yG ?_
  refine SW O O O O O (fun w hS => FG (a := xA) (b := xB) (c := true) O O O (by rw [bne_iff_ne]; exact he)) ?_
  refine yG ?_
  exact ⟨LU (pL (fun g => Ft B u he g.1)).symm, RD E⟩
 refine yG ?_
 refine sE E [0,1,2,3,4,5,6,7,8,9,10] ?_
 replace E := E.drew
 refine yG ?_
 refine Af O O O T O (List.getElem?_eq_some_iff.1 B).1 ?_
 refine yG ?_
 refine Af O O O S O (List.getElem?_eq_some_iff.1 u).1 ?_
 refine yG ?_
 refine SW O O O O O (fun w hS => FG (a := xA) (b := xB) (c := false) O O O (by rw [bne_eq_false_iff_eq]; exact he)) ?_
 refine yG ?_
 exact ⟨_, (by rw [a2]; omega), (i + 1), _, O, O, zE, O, ⟨by omega, tH hJ B u he⟩⟩
end Go.Proofs.YtmppigbbkjepiaaGreatDoor
