/- Helping facts of Diff; no other conditions. Helping facts of Sum; no other conditions. Helping facts of Small; no other conditions. Helping facts of Cmp; no other conditions. Helping facts of Api; no other conditions. -/
import Derived.Test.YtmppigbbkjepiaaGreatDoorProd
import Derived.Test.YtmppigbbkjepiaaGreatDoorShelf
import Derived.BigQuiet
import Derived.Deep.QuietTactic
import Derived.Deep.RegionHeld3
import Derived.Deep.DeepCutAuto
import Derived.Deep.CutBlock
namespace Go.Proofs.YtmppigbbkjepiaaGreatDoor
open Go.RowKit W
variable {a b x y z : Int} {c k m n : Nat} {la lb r : List Nat} {p : Prop} {v : Value} {w : World}
theorem YK2 (h : p := by simp [results, results138, go_sem]) : p := h
theorem Za7 (h : p := by
 go_enter func127, ntmps127
 go_wp2_with fail
 go_ret
 exact ⟨rfl, (Below.refl _ _).alloc (Nat.le_refl _) _⟩
 ) : p := h
theorem ZUw (h : p := by
 have hd : (((CC m).length : Int) != ((CC n).length : Int)) = true := by rw [bne_iff_ne]; omega
 clear hne hmn
 go_enter func188, ntmps188
 go_wp2
 go_ret
 exact ⟨FO HR.out.symm, 0, rfl⟩
 ) : p := h
theorem ZBh (h : p := by
 rcases LC x with ⟨l, k⟩ | ⟨l, k⟩ | ⟨l, k⟩ <;> rcases LC y with ⟨f, e⟩ | ⟨f, e⟩ | ⟨f, e⟩ <;> first | (exfalso; omega) | exact oJ AA AA
 ) : p := h
theorem ZqM (h : p := by
 rintro e Y ⟨rfl, q, rfl⟩
 rw [v.out]
 go_wp2_with fail
 go_ret
 exact ⟨rfl, IV B _⟩
 ) : p := h
def DiffInv (la lb : List Nat) (k c : Nat) (r : List Nat) : Prop :=
 c <= 1 /\ k <= la.length /\ ∃ done : List Nat, r = done ++ List.replicate (la.length - k) 0 /\ done.length = k /\ Wd done /\
  val done + val (lb.take k) = val (la.take k) + 4294967296 ^ k * c
theorem DiffInv.start (la lb : List Nat) : DiffInv la lb 0 0 (List.replicate la.length 0) :=
 ⟨by omega, by omega, [], by simp, rfl, WT, by simp [val]⟩
theorem DiffInv.step (h : DiffInv la lb k c r) (hk : k < la.length) (x c' : Nat) (hx : x < 4294967296) (hc' : c' <= 1)
 (he : x + gd lb k + c = gd la k + 4294967296 * c') :
 DiffInv la lb (k + 1) c' (r.set k x) := by
 obtain ⟨q, o, done, rfl, f, l, p⟩ := h
 refine ⟨hc', by omega, done ++ [x], ?_, by simp [f], ?_, ?_⟩
 . have := mD done (la.length - k) x AA
   rw [f] at this
   rw [this, Nat.sub_sub]
 . rw [Wd_append, Wd_cons]; exact ⟨l, hx, WT⟩
 rw [XU, DJ, DJ, f, Nat.pow_succ]
 have e := congrArg (4294967296 ^ k * ·) he
 simp only [Nat.mul_add] at e
 rw [Nat.mul_assoc]
 omega
theorem DiffInv.done (h : DiffInv la lb la.length c r) (hb : lb.length <= la.length) (_hw : Wd la) (hle : val lb <= val la) :
 Wd r /\ val r = val la - val lb := by
 obtain ⟨l, _, done, rfl, k, e, f⟩ := h
 rw [Nat.sub_self, List.replicate_zero, List.append_nil]
 rw [DQ lb _ hb, DQ la _ (Nat.le_refl _)] at f
 have o := GT e
 rw [k] at o
 refine ⟨e, ?_⟩
 rcases Nat.le_one_iff_eq_zero_or_eq_one.1 l with rfl | rfl
 . omega
 exfalso; omega
theorem Dn (h : a = b) : Value.int .u64 a = .int .u64 b := by rw [h]
def SumInv (la lb : List Nat) (n k c : Nat) (r : List Nat) : Prop :=
 c <= 1 /\ k <= n /\ ∃ done : List Nat, r = done ++ List.replicate (n - k) 0 /\ done.length = k /\ Wd done /\
  val done + 4294967296 ^ k * c = val (la.take k) + val (lb.take k)
theorem SumInv.start (la lb : List Nat) (n : Nat) : SumInv la lb n 0 0 (List.replicate n 0) :=
 ⟨by omega, by omega, [], by simp, rfl, WT, by simp [val]⟩
theorem SumInv.step (h : SumInv la lb n k c r) (hk : k < n) (s : Nat) (hs : s = gd la k + gd lb k + c) (ha : gd la k < 4294967296) (hb : gd lb k < 4294967296) :
 SumInv la lb n (k + 1) (s / 4294967296) (r.set k (s % 4294967296)) := by
 obtain ⟨q, o, done, rfl, f, l, p⟩ := h
 refine ⟨by omega, by omega, done ++ [s % 4294967296], ?_, by simp [f], ?_, ?_⟩
 . have := mD done (n - k) (s % 4294967296) AA
   rw [f] at this
   rw [this, Nat.sub_sub]
 . rw [Wd_append, Wd_cons]; exact ⟨l, by omega, WT⟩
 rw [XU, DJ, DJ, f, Nat.pow_succ]
 have e : 4294967296 ^ k * (s % 4294967296) + 4294967296 ^ k * 4294967296 * (s / 4294967296) = 4294967296 ^ k * s := by
  rw [Nat.mul_assoc, <- Nat.mul_add, Nat.mod_add_div]
 rw [hs] at e ⊢
 rw [Nat.mul_add, Nat.mul_add] at e
 omega
theorem SumInv.done (h : SumInv la lb n k c r) (hn : n = k + 1) (ha : la.length <= k) (hb : lb.length <= k) :
 Wd (r.set k c) /\ val (r.set k c) = val la + val lb := by
 obtain ⟨q, p, done, rfl, l, o, f⟩ := h
 have e : n - k = 1 := by omega
 have := mD done (n - k) c AA
 rw [l] at this
 rw [this, e]
 rw [DQ la k ha, DQ lb k hb] at f
 simp only [Nat.sub_self, List.replicate_zero, List.append_nil]
 refine ⟨by rw [Wd_append, Wd_cons]; exact ⟨o, by omega, WT⟩, ?_⟩
 rw [XU, l, f]
open Go.Proofs.Tryz
def IsI (w : World) (v : Value) (z : Int) : Prop := ∃ s, v = .agg #[.bool (decide (z < 0)), s] /\ Sl w s (CC z.natAbs)
theorem IsI.below {w' : World} (h : IsI w v z) (hb : Below w.heap.size w w') : IsI w' v z := by
 obtain ⟨s, rfl, e⟩ := h
 exact ⟨s, rfl, e.below hb⟩
def RetZ (w0 : World) (z : Int) (e : Ending) (w' : World) : Prop := ∃ v, e = .returned v /\ IsI w' v z /\ Below w0.heap.size w0 w'
theorem ZE (v : Value) (l : List Nat) (w : World) (h : Sl w v l) (hlen : l.length <= 10000000000) :
 Calls prog 139 #[v] w (Db w l) := by
 have H := Lib.hid h
 clear h
 go_enter func139, ntmps139
 go_wp2_with (at_builtin; refine jL _ rfl _ _ rfl w.heap.size _ _ [] l rfl rfl (Rk _ _) H.out ?c1 (Nat.le_refl _) ?_)
 case c1 => simp; omega
 intro e o f k
 go_wp2
 go_ret
 exact ⟨e, rfl, f.sl H.out.wd, k⟩
theorem lJ (w : World) (X Y : Int) (x y : Nat) (hx : X = (x : Nat)) (hy : Y = (y : Nat)) (hw : Wd [x, y]) :
 Sl (w.alloc (.cells #[.int .u32 X, .int .u32 Y] 186)) (.slice (some ⟨w.heap.size, 0, none⟩) 2 2) [x, y] := by
 subst hx hy
 exact OwnA.sl (base := w.heap.size) (World.ownsRow_lit (base := w.heap.size) (size := 1) w #[.int .u32 x, .int .u32 y] 2 (Nat.le_refl _) (by unfold maxLen; omega) rfl) hw
theorem Wn (w : World) (X : Int) (x : Nat) (hx : X = (x : Nat)) (hw : x < 4294967296) :
 Sl (w.alloc (.cells #[.int .u32 X] 186)) (.slice (some ⟨w.heap.size, 0, none⟩) 1 1) [x] := by
 subst hx
 exact OwnA.sl (base := w.heap.size) (World.ownsRow_lit (base := w.heap.size) (size := 1) w #[.int .u32 x] 1 (Nat.le_refl _) (by unfold maxLen; omega) rfl) (by rw [Wd_cons]; exact ⟨hw, WT⟩)
theorem pX (m : Nat) (h : m < 18446744073709551616) : Wd [m % 4294967296, m / 4294967296] /\ val [m % 4294967296, m / 4294967296] = m := by
 refine ⟨by rw [Wd_cons, Wd_cons]; exact ⟨by omega, by omega, WT⟩, ?_⟩
 rw [JQ, JQ, cQ]; omega
set_option maxHeartbeats 400000 in
theorem cP (m : Nat) (w : World) (h : m < 18446744073709551616) :
 Calls prog 163 #[.int .u64 m] w (Db w (CC m)) := by
 go_enter func163, ntmps163
 have l := pX m h
 have k := Lib.hid l
 clear l
 go_wp2_with fail
 refine (NR _ _ _ (lJ w _ _ (m % 4294967296) (m / 4294967296) AA AA k.out.1)).mono ?_
 rintro e p ⟨rfl, o, rfl, f⟩
 have f := f _ (lJ w ((m : Int) % 4294967296) ((m : Int) / 4294967296) (m % 4294967296) (m / 4294967296) AA AA k.out.1)
 rw [k.out.2] at f
 go_wp2
 go_ret
 exact ⟨o, rfl, f, (Below.refl _ _).alloc (Nat.le_refl _) _⟩
def IE (neg : Bool) (n : Nat) : Int := if neg then -(n : Int) else n
theorem gW (neg : Bool) : IE neg 0 = 0 := by cases neg <;> rfl
theorem dB (neg : Bool) (n : Nat) : (IE neg n).natAbs = n := by cases neg <;> simp [IE]
theorem sJ (neg : Bool) (n : Nat) (h : n ≠ 0) : decide (IE neg n < 0) = neg := by cases neg <;> simp [IE] <;> omega
theorem yM (x : Nat) (h : x < 4294967296) : Lib.bitLen x <= 32 := by
 have := Lib.bitLenAux_le 64 x 32 AA
 exact this
def oL (n : Nat) : Nat := if n = 0 then 0 else 32 * ((CC n).length - 1) + Lib.bitLen (gd (CC n) ((CC n).length - 1))
theorem Hz (neg : Bool) (v : Value) (l : List Nat) (w : World) (h : Sl w v l) :
 Calls prog 138 #[.bool neg, v] w (RetZ w (IE neg (val l))) := by
 have H := Lib.hid h
 clear h
 go_enter func138, ntmps138
 go_wp2_with fail
 refine (NR _ l _ (H.out.below ((Below.refl _ _).alloc (Nat.le_refl _) _))).mono ?_
 rintro e C ⟨rfl, D, rfl, f⟩
 obtain ⟨t, o, rfl, I, G, F, y, z⟩ := f w H.out
 have B := Lib.hid f
 clear f z y
 by_cases k : val l = 0
 . have p : ((CC (val l)).length : Int) = 0 := by rw [k, DX]; rfl
   have u : (((CC (val l)).length : Int) == 0) = true := by rw [p]; rfl
   have q := Lib.hid k
   clear k p
   go_wp2
   refine AQ (v := .agg #[.bool false, .slice none 0 0]) YK2 O ⟨_, O, ⟨.slice none 0 0, ?_, ?_⟩, (Below.refl _ _).alloc (Nat.le_refl _) _⟩
   . rw [q.out, gW]; rfl
   rw [q.out, gW]; simp only [Int.natAbs_zero, DX]; exact cF _
 have p : (CC (val l)).length ≠ 0 := fun e => k ((FR _).1 (List.eq_nil_of_length_eq_zero e))
 have u : (((CC (val l)).length : Int) == 0) = false := by rw [beq_eq_false_iff_ne]; omega
 have q := Lib.hid k
 clear k p
 go_wp2
 refine AQ (v := .agg #[.bool neg, .slice t (CC (val l)).length o]) YK2 O ⟨_, O, ⟨.slice t (CC (val l)).length o, ?_, ?_⟩, (Below.refl _ _).alloc (Nat.le_refl _) _⟩
 . rw [sJ _ _ q.out]
 rw [dB]
 exact B.out _ (H.out.below ((Below.refl _ _).alloc (Nat.le_refl _) _))
theorem FO (h : a = b) : Ending.returned (.int .i64 a) = .returned (.int .i64 b) := by rw [h]
theorem OB (h : x < y) : JC x y = -1 := by unfold JC; rw [if_pos h]
theorem PM (h : y < x) : JC x y = 1 := by unfold JC; rw [if_neg AA, if_neg AA]
theorem UI (h : x = y) : JC x y = 0 := by unfold JC; rw [if_neg AA, if_pos h]
def SameFrom (a b : List Nat) (k : Nat) : Prop := ∀ j, k <= j -> j < a.length -> gd a j = gd b j
theorem SameFrom.start (a b : List Nat) : SameFrom a b a.length := fun j h1 h2 => by omega
theorem SameFrom.step {a b : List Nat} (h : SameFrom a b (k + 1)) (e : gd a k = gd b k) : SameFrom a b k := by
 intro j o l
 rcases Nat.lt_or_ge k j with f | f
 . exact h j f l
 obtain rfl : j = k := by omega
 exact e
theorem SameFrom.lt (h : SameFrom (CC m) (CC n) (k + 1)) (hl : (CC m).length = (CC n).length) (hk : k < (CC m).length) (hx : gd (CC m) k < gd (CC n) k) : m < n := by
 have := lQ hl (GB m) k hk (fun j f e => h j f e) hx
 rwa [CO, CO] at this
theorem SameFrom.gt (h : SameFrom (CC m) (CC n) (k + 1)) (hl : (CC m).length = (CC n).length) (hk : k < (CC m).length) (hx : gd (CC n) k < gd (CC m) k) : n < m := by
 have := lQ hl.symm (GB n) k AA (fun j e f => (h j e AA).symm) hx
 rwa [CO, CO] at this
theorem SameFrom.eq (h : SameFrom (CC m) (CC n) 0) (hl : (CC m).length = (CC n).length) : m = n :=
 yA (tY hl fun i hi => h i (Nat.zero_le _) hi)
def RetI (w0 : World) (x : Int) (e : Ending) (w' : World) : Prop := e = .returned (.int .i64 x) /\ ∃ q, w' = w0.drewN q
set_option maxHeartbeats 1000000 in
theorem ZD (va vb : Value) (m n : Nat) (w : World) (ha : Sl w va (CC m)) (hb : Sl w vb (CC n)) :
 Calls prog 188 #[va, vb] w (RetI w (JC m n)) := by
 obtain ⟨aoa, capa, rfl, ha1, ha2, ha3, _, ha4⟩ := ha
 obtain ⟨aob, capb, rfl, hb1, hb2, hb3, _, hb4⟩ := hb
 have HA := Lib.hid ha4
 have HB := Lib.hid hb4
 have WA := Lib.hid ha3
 have WB := Lib.hid hb3
 clear ha4 hb4 ha3 hb3
 unfold maxLen at ha2 hb2
 by_cases hne : (CC m).length = (CC n).length
 . have hd : (((CC m).length : Int) != ((CC n).length : Int)) = false := by rw [bne_eq_false_iff_eq]; omega
   have HL := Lib.hid hne
   have hl1 : (CC m).length <= (CC n).length := by omega
   have hl2 : (CC n).length <= (CC m).length := by omega
   clear hne
   go_enter func188, ntmps188
   go_wp2
   go_loopw [5] (fun i wr => ∃ (k : Nat) (z : Int), k <= (CC m).length /\ z + 1 <= k /\ k <= z + 1 /\ i = .int .i64 z /\ SameFrom (CC m) (CC n) k /\ ∃ q, wr = w.drewN q) (fun i _ => (intOf i + 1).toNat)
   case atStart => exact ⟨_, _, Nat.le_refl _, by omega, by omega, rfl, SameFrom.start _ _, 0, rfl⟩
   case round =>
    obtain ⟨k, z, hk, hz1, hz2, rfl, hs, q, rfl⟩ := hrel
    by_cases hk0 : k = 0
    . subst hk0
      have hz : z < 0 := by omega
      go_wp2
      go_ret
      exact ⟨FO (UI (by rw [hs.eq HL.out])).symm, q, rfl⟩
    obtain ⟨j, rfl⟩ : ∃ j, k = j + 1 := ⟨k - 1, by omega⟩
    obtain rfl : z = (j : Int) := by omega
    clear hk0
    obtain ⟨b, off, rfl, hca⟩ := HA.out j AA
    obtain ⟨b2, off2, rfl, hcb⟩ := HB.out j AA
    rcases Nat.lt_trichotomy (gd (CC m) j) (gd (CC n) j) with hx | hx | hx
    . have h1 : (((gd (CC m) j : Nat) : Int) != ((gd (CC n) j : Nat) : Int)) = true := by rw [bne_iff_ne]; omega
      go_wp2
      go_quiet (fail)
      go_wp2
      go_quiet (fail)
      go_wp2
      go_ret
      exact ⟨FO (OB (by have := hs.lt HL.out AA hx; omega)).symm, _, by simp only [World.drewN_drewN]; rfl⟩
    . have h1 : (((gd (CC m) j : Nat) : Int) != ((gd (CC n) j : Nat) : Int)) = false := by rw [bne_eq_false_iff_eq]; omega
      have hst := hs.step hx
      clear hx hs
      go_wp2
      go_quiet (fail)
      go_wp2
      go_roundw
      case rel => exact ⟨j, _, by omega, by omega, by omega, rfl, hst, (by first | exact ⟨_, rfl⟩ | exact ⟨_, by simp only [World.drewN_drewN]; rfl⟩)⟩
      case measure => simp [intOf]
    have h1 : (((gd (CC m) j : Nat) : Int) != ((gd (CC n) j : Nat) : Int)) = true := by rw [bne_iff_ne]; omega
    go_wp2
    go_quiet (fail)
    go_wp2
    go_quiet (fail)
    go_wp2
    go_ret
    exact ⟨FO (PM (by have := hs.gt HL.out AA hx; omega)).symm, _, by simp only [World.drewN_drewN]; rfl⟩
 by_cases hlt : (CC m).length < (CC n).length
 . have hmn := LY hlt
   have HR := Lib.hid (OB (x := m) (y := n) AA)
   exact ZUw
 have hmn := LY (m := n) (n := m) AA
 have HR := Lib.hid (PM (x := m) (y := n) AA)
 exact ZUw
set_option maxHeartbeats 2000000
def XR (w0 : World) (x : Int) (e : Ending) (w' : World) : Prop := e = .returned (.int .i64 x) /\ Below w0.heap.size w0 w'
def LI (w0 : World) (x : Bool) (e : Ending) (w' : World) : Prop := e = .returned (.bool x) /\ Below w0.heap.size w0 w'
def OP (z : Int) : Int := JC z 0
def Fits (z : Int) (n : Nat) : Prop := (CC z.natAbs).length <= n
theorem WS (z : Int) : ((CC z.natAbs).length : Int) = 0 ↔ z = 0 := by
 constructor
 . intro h
   have e := (FR z.natAbs).1 (List.eq_nil_of_length_eq_zero AA)
   omega
 intro h
 subst h
 rw [Int.natAbs_zero, DX]; rfl
theorem oQ (v : Value) (z : Int) (w : World) (h : IsI w v z) :
 Calls prog 127 #[v] w (XR w (OP z)) := by
 obtain ⟨s, rfl, l⟩ := h
 obtain ⟨B, t, rfl, y, u, q, o, p⟩ := l
 clear p o q
 have e := WS z
 rcases Int.lt_trichotomy z 0 with f | f | f
 . have k : (((CC z.natAbs).length : Int) == 0) = false := by rw [beq_eq_false_iff_ne]; intro h; have := e.1 h; omega
   rw [show decide (z < 0) = true by simpa using f, show OP z = -1 from OB f]
   clear e
   exact Za7
 . have k : (((CC z.natAbs).length : Int) == 0) = true := by rw [beq_iff_eq]; exact e.2 f
   rw [show OP z = 0 from UI f]
   clear e f
   exact Za7
 have k : (((CC z.natAbs).length : Int) == 0) = false := by rw [beq_eq_false_iff_ne]; intro h; have := e.1 h; omega
 rw [show decide (z < 0) = false by simp; omega, show OP z = 1 from PM f]
 clear e
 exact Za7
theorem IsI.parts (h : IsI w v z) : ∃ (ao : Option Addr) (cap : Nat), v = .agg #[.bool (decide (z < 0)), .slice ao (CC z.natAbs).length cap] /\ Sl w (.slice ao (CC z.natAbs).length cap) (CC z.natAbs) /\ (CC z.natAbs).length <= cap /\ cap <= 9223372036854775807 := by
 obtain ⟨s, rfl, k⟩ := h
 obtain ⟨ao, cap, rfl, f, e, p, l, o⟩ := k
 exact ⟨ao, cap, rfl, ⟨ao, cap, rfl, f, e, p, l, o⟩, f, by unfold maxLen at e; omega⟩
theorem LC (z : Int) : (z < 0 /\ OP z = -1) ∨ (z = 0 /\ OP z = 0) ∨ (0 < z /\ OP z = 1) := by
 rcases Int.lt_trichotomy z 0 with e | e | e
 . exact .inl ⟨e, OB e⟩
 . exact .inr (.inl ⟨e, UI e⟩)
 exact .inr (.inr ⟨e, PM e⟩)
theorem Qq (w : World) (n1 n2 : Bool) (s1 s2 : Value) : ∃ W, W = ((w.alloc (.cells #[.bool n1, s1] 62)).alloc (.cells #[.bool n2, s2] 62)) /\ W.heap.size = w.heap.size + 2 /\ Below w.heap.size w W /\
 W.cell? ⟨w.heap.size, 0, none⟩ = some (.bool n1) /\ W.cell? ⟨w.heap.size, 1, none⟩ = some s1 /\ W.cell? ⟨w.heap.size + 1, 0, none⟩ = some (.bool n2) /\ W.cell? ⟨w.heap.size + 1, 1, none⟩ = some s2 := by
 refine ⟨_, O, by simp, ((Below.refl _ _).alloc (Nat.le_refl _) _).alloc AH _, ?_, ?_, ?_, ?_⟩ <;> simp [go_sem]
theorem pP (h : OP x < OP y) : JC x y = -1 := by
 rcases LC x with ⟨l, k⟩ | ⟨l, k⟩ | ⟨l, k⟩ <;> rcases LC y with ⟨f, e⟩ | ⟨f, e⟩ | ⟨f, e⟩ <;> first | (exfalso; omega) | exact OB AA
theorem pR (h : OP y < OP x) : JC x y = 1 := by
 rcases LC x with ⟨l, k⟩ | ⟨l, k⟩ | ⟨l, k⟩ <;> rcases LC y with ⟨f, e⟩ | ⟨f, e⟩ | ⟨f, e⟩ <;> first | (exfalso; omega) | exact PM AA
theorem oJ {x' y' : Int} (h1 : x < y ↔ x' < y') (h2 : x = y ↔ x' = y') : JC x y = JC x' y' := by
 unfold JC
 by_cases a : x < y
 . rw [if_pos a, if_pos (h1.1 a)]
 rw [if_neg a, if_neg (fun h => a (h1.2 h))]
 by_cases b : x = y
 . rw [if_pos b, if_pos (h2.1 b)]
 rw [if_neg b, if_neg (fun h => b (h2.2 h))]
theorem Vt (h : OP x = OP y) (hn : OP x < 0) : JC (y.natAbs : Int) (x.natAbs : Int) = JC x y := by
 exact ZBh
theorem Vs (h : OP x = OP y) (hn : ¬ OP x < 0) : JC (x.natAbs : Int) (y.natAbs : Int) = JC x y := by
 exact ZBh
theorem Cmp_z (va vb : Value) (x y : Int) (w : World) (ha : IsI w va x) (hb : IsI w vb y) :
 Calls prog 165 #[va, vb] w (XR w (JC x y)) := by
 obtain ⟨u, o, rfl, U, a3, a2⟩ := ha.parts
 obtain ⟨t, l, rfl, T, a1, a0⟩ := hb.parts
 have HA := Lib.hid ha
 have HB := Lib.hid hb
 have SA := Lib.hid U
 have SB := Lib.hid T
 clear ha hb U T
 obtain ⟨W, X, G, z, S, R, Q, P⟩ := Qq w (decide (x < 0)) (decide (y < 0)) (.slice u (CC x.natAbs).length o) (.slice t (CC y.natAbs).length l)
 go_enter func165, ntmps165
 go_upto_region 1 with fail
 rw [<- X]
 clear X G
 go_region_held3 (fun F => F.cell? ⟨w.heap.size, 0, none⟩ = some (.bool (decide (x < 0))) /\ F.cell? ⟨w.heap.size, 1, none⟩ = some (.slice u (CC x.natAbs).length o) /\ F.cell? ⟨w.heap.size + 1, 0, none⟩ = some (.bool (decide (y < 0))) /\ F.cell? ⟨w.heap.size + 1, 1, none⟩ = some (.slice t (CC y.natAbs).length l))
  (first | exact ⟨S, R, Q, P⟩ | exact ⟨N, L, J, I⟩ | exact ⟨f0, f1, f2, f3⟩)
  (first
    | (go_at_call_of 127 (Value.slice u (CC x.natAbs).length o); refine (oQ _ x _ ?_).mono ?_; exact HA.out.below z.drew; rintro e w1 ⟨rfl, f⟩; have N := DB (w := W.drew) S f; have L := DB (w := W.drew) R f; have J := DB (w := W.drew) Q f; have I := DB (w := W.drew) P f)
    | (go_at_call_of 127 (Value.slice t (CC y.natAbs).length l); refine (oQ _ y _ ?_).mono ?_; exact HB.out.below (z.drew.trans (f.mono z.size)); rintro e w2 ⟨rfl, h⟩; have f0 := DB N h; have f1 := DB L h; have f2 := DB J h; have f3 := DB I h))
 have B : Below w.heap.size w w2 := (z.drew.trans (f.mono z.size)).trans (h.mono (by have := f.size; have := z.size; simp at *; omega))
 have D := Lib.hid (SA.out.below B)
 have C := Lib.hid (SB.out.below B)
 clear S R Q P N L J I f h z
 by_cases k : OP x = OP y
 . have h1 : (OP x != OP y) = false := by rw [bne_eq_false_iff_eq]; exact k
   by_cases p : OP x < 0
   . have v := Lib.hid (Vt k p)
     clear k
     go_wp2_with fail
     refine (ZD _ _ y.natAbs x.natAbs _ C.out D.out).mono ?_
     exact ZqM
   have v := Lib.hid (Vs k p)
   clear k
   go_wp2_with fail
   refine (ZD _ _ x.natAbs y.natAbs _ D.out C.out).mono ?_
   exact ZqM
 have h1 : (OP x != OP y) = true := by rw [bne_iff_ne]; exact k
 by_cases H : OP x < OP y
 . have v := Lib.hid (pP H)
   clear k
   go_wp2_with fail
   go_ret
   exact ⟨by rw [v.out]; rfl, B⟩
 have v := Lib.hid (pR (show OP y < OP x by omega))
 clear k
 go_wp2_with fail
 go_ret
 exact ⟨by rw [v.out]; rfl, B⟩
end Go.Proofs.YtmppigbbkjepiaaGreatDoor
