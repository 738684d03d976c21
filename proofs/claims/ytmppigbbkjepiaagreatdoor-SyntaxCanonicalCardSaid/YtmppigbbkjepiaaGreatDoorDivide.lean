/- Small functions on words: clone, words, width, value, signed. up, down: shifts by any count. power: powers of absolute values. Plain arithmetic of roots: bits, the bitwise search, Newton's steps. sum: the words of a sum. The functions of package integer: signs, comparison, sums, products. divide: quotient and remainder of absolute values. -/
import Derived.Test.YtmppigbbkjepiaaGreatDoorShelf
import Derived.Test.YtmppigbbkjepiaaGreatDoorQw
import Derived.Deep.RegionLaw
import Derived.Lib.ItoaNum
import Derived.Deep.RegionHeld3
import Derived.Deep.DeepCutAuto
import Derived.Deep.CutBlock
import Derived.Deep.RegionWith
namespace Go.Proofs.YtmppigbbkjepiaaGreatDoor
open Go.Proofs.Tryz
open Go.RowKit W
def IsI (w : World) (v : Value) (z : Int) : Prop := ∃ s, v = .agg #[.bool (decide (z < 0)), s] ∧ Sl w s (CB z.natAbs)
theorem IsI.below {w w' : World} {v : Value} {z : Int} (h : IsI w v z) (hb : Below w.heap.size w w') : IsI w' v z := by
  obtain ⟨s, rfl, e⟩ := h
  exact ⟨s, rfl, e.below hb⟩
def RetZ (w0 : World) (z : Int) (e : Ending) (w' : World) : Prop := ∃ v, e = .returned v ∧ IsI w' v z ∧ Below w0.heap.size w0 w'
theorem WP (v : Value) (l : List Nat) (w : World) (h : Sl w v l) (hlen : l.length ≤ 10000000000) :
    Calls prog 139 #[v] w (wU w l) := by
  have H := Lib.hid h
  clear h
  go_enter func139, ntmps139
  go_wp2_with (at_builtin; refine dY _ rfl _ _ rfl w.heap.size _ _ [] l rfl rfl (Jp _ _) H.out ?c1 (Nat.le_refl _) ?_)
  case c1 => simp; omega
  intro e o f k
  go_wp2
  go_ret
  exact ⟨e, rfl, f.sl H.out.wd, k⟩
theorem gN (w : World) (X Y : Int) (x y : Nat) (hx : X = (x : Nat)) (hy : Y = (y : Nat)) (hw : Wd [x, y]) :
    Sl (w.alloc (.cells #[.int .u32 X, .int .u32 Y] 186)) (.slice (some ⟨w.heap.size, 0, none⟩) 2 2) [x, y] := by
  subst hx hy
  exact OwnA.sl (base := w.heap.size) (World.ownsRow_lit (base := w.heap.size) (size := 1) w #[.int .u32 x, .int .u32 y] 2 (Nat.le_refl _) (by unfold maxLen; omega) rfl) hw
theorem Ns (w : World) (X : Int) (x : Nat) (hx : X = (x : Nat)) (hw : x < 4294967296) :
    Sl (w.alloc (.cells #[.int .u32 X] 186)) (.slice (some ⟨w.heap.size, 0, none⟩) 1 1) [x] := by
  subst hx
  exact OwnA.sl (base := w.heap.size) (World.ownsRow_lit (base := w.heap.size) (size := 1) w #[.int .u32 x] 1 (Nat.le_refl _) (by unfold maxLen; omega) rfl) (by rw [Wd_cons]; exact ⟨hw, WT⟩)
theorem lG (m : Nat) (h : m < 18446744073709551616) : Wd [m % 4294967296, m / 4294967296] ∧ val [m % 4294967296, m / 4294967296] = m := by
  refine ⟨by rw [Wd_cons, Wd_cons]; exact ⟨by omega, by omega, WT⟩, ?_⟩
  rw [IV, IV, ZS]; omega
set_option maxHeartbeats 400000 in
theorem ZR (m : Nat) (w : World) (h : m < 18446744073709551616) :
    Calls prog 163 #[.int .u64 m] w (wU w (CB m)) := by
  go_enter func163, ntmps163
  have l := lG m h
  have k := Lib.hid l
  clear l
  go_wp2_with fail
  refine (MC _ _ _ (gN w _ _ (m % 4294967296) (m / 4294967296) Z Z k.out.1)).mono ?_
  rintro e p ⟨rfl, o, rfl, f⟩
  have f := f _ (gN w ((m : Int) % 4294967296) ((m : Int) / 4294967296) (m % 4294967296) (m / 4294967296) Z Z k.out.1)
  rw [k.out.2] at f
  go_wp2
  go_ret
  exact ⟨o, rfl, f, (Below.refl _ _).alloc (Nat.le_refl _) _⟩
def GR (neg : Bool) (n : Nat) : Int := if neg then -(n : Int) else n
theorem cD (neg : Bool) : GR neg 0 = 0 := by cases neg <;> rfl
theorem aB (neg : Bool) (n : Nat) : (GR neg n).natAbs = n := by cases neg <;> simp [GR]
theorem nP (neg : Bool) (n : Nat) (h : n ≠ 0) : decide (GR neg n < 0) = neg := by cases neg <;> simp [GR] <;> omega
def bitsN (n : Nat) : Nat := if n = 0 then 0 else 32 * ((CB n).length - 1) + Lib.bitLen (gd (CB n) ((CB n).length - 1))
theorem Bt (neg : Bool) (v : Value) (l : List Nat) (w : World) (h : Sl w v l) :
    Calls prog 138 #[.bool neg, v] w (RetZ w (GR neg (val l))) := by
  have H := Lib.hid h
  clear h
  go_enter func138, ntmps138
  go_wp2_with fail
  refine (MC _ l _ (H.out.below ((Below.refl _ _).alloc (Nat.le_refl _) _))).mono ?_
  rintro e C ⟨rfl, D, rfl, f⟩
  obtain ⟨t, o, rfl, J, G, F, y, z⟩ := f w H.out
  have B := Lib.hid f
  clear f z y
  by_cases k : val l = 0
  · have p : ((CB (val l)).length : Int) = 0 := by rw [k, DU]; rfl
    have u : (((CB (val l)).length : Int) == 0) = true := by rw [p]; rfl
    have q := Lib.hid k
    clear k p
    go_wp2
    refine AP (v := .agg #[.bool false, .slice none 0 0]) (by simp [results, results138, go_sem]) O ⟨_, O, ⟨.slice none 0 0, ?_, ?_⟩, (Below.refl _ _).alloc (Nat.le_refl _) _⟩
    · rw [q.out, cD]; rfl
    · rw [q.out, cD]; simp only [Int.natAbs_zero, DU]; exact ZL _
  · have p : (CB (val l)).length ≠ 0 := fun e => k ((ET _).1 (List.eq_nil_of_length_eq_zero e))
    have u : (((CB (val l)).length : Int) == 0) = false := by rw [beq_eq_false_iff_ne]; omega
    have q := Lib.hid k
    clear k p
    go_wp2
    refine AP (v := .agg #[.bool neg, .slice t (CB (val l)).length o]) (by simp [results, results138, go_sem]) O ⟨_, O, ⟨.slice t (CB (val l)).length o, ?_, ?_⟩, (Below.refl _ _).alloc (Nat.le_refl _) _⟩
    · rw [nP _ _ q.out]
    · rw [aB]
      exact B.out _ (H.out.below ((Below.refl _ _).alloc (Nat.le_refl _) _))
end Go.Proofs.YtmppigbbkjepiaaGreatDoor
namespace Go.Proofs.YtmppigbbkjepiaaGreatDoor
open Go.RowKit W
end Go.Proofs.YtmppigbbkjepiaaGreatDoor
namespace Go.Proofs.YtmppigbbkjepiaaGreatDoor
open Go.RowKit W
def XD (n m : Nat) : Nat := n / 2 ^ m
end Go.Proofs.YtmppigbbkjepiaaGreatDoor
namespace Go.Proofs.YtmppigbbkjepiaaGreatDoor
open W
def Sm (r k A : Nat) : Prop := r ^ k ≤ A ∧ A < (r + 1) ^ k
def BitInv (A k i r : Nat) : Prop := r % 2 ^ i = 0 ∧ r ^ k ≤ A ∧ A < (r + 2 ^ i) ^ k
def newton (A k x : Nat) : Nat := ((k - 1) * x + A / x ^ (k - 1)) / k
def NewtInv (A k x : Nat) : Prop := 0 < x ∧ A < (x + 1) ^ k ∧ ∃ R, Sm R k A ∧ 0 < R ∧ x ≤ 2 * R
end Go.Proofs.YtmppigbbkjepiaaGreatDoor
namespace Go.Proofs.YtmppigbbkjepiaaGreatDoor
open Go.RowKit W
def SumInv (la lb : List Nat) (n k c : Nat) (r : List Nat) : Prop :=
  c ≤ 1 ∧ k ≤ n ∧ ∃ done : List Nat, r = done ++ List.replicate (n - k) 0 ∧ done.length = k ∧ Wd done ∧
    val done + 4294967296 ^ k * c = val (la.take k) + val (lb.take k)
theorem SumInv.start (la lb : List Nat) (n : Nat) : SumInv la lb n 0 0 (List.replicate n 0) :=
  ⟨by omega, by omega, [], by simp, rfl, WT, by simp [val]⟩
theorem SumInv.step {la lb : List Nat} {n k c : Nat} {r : List Nat} (h : SumInv la lb n k c r) (hk : k < n) (s : Nat) (hs : s = gd la k + gd lb k + c) (ha : gd la k < 4294967296) (hb : gd lb k < 4294967296) :
    SumInv la lb n (k + 1) (s / 4294967296) (r.set k (s % 4294967296)) := by
  obtain ⟨q, o, done, rfl, f, l, p⟩ := h
  refine ⟨by omega, by omega, done ++ [s % 4294967296], ?_, by simp [f], ?_, ?_⟩
  · have := qM done (n - k) (s % 4294967296) Z
    rw [f] at this
    rw [this, Nat.sub_sub]
  · rw [Wd_append, Wd_cons]; exact ⟨l, by omega, WT⟩
  · rw [gT, DG, DG, f, Nat.pow_succ]
    have e : 4294967296 ^ k * (s % 4294967296) + 4294967296 ^ k * 4294967296 * (s / 4294967296) = 4294967296 ^ k * s := by
      rw [Nat.mul_assoc, ← Nat.mul_add, Nat.mod_add_div]
    rw [hs] at e ⊢
    rw [Nat.mul_add, Nat.mul_add] at e
    omega
end Go.Proofs.YtmppigbbkjepiaaGreatDoor
set_option maxHeartbeats 2000000
namespace Go.Proofs.YtmppigbbkjepiaaGreatDoor
open Go.Proofs.Tryz
open Go.RowKit W
def XY (w0 : World) (x : Int) (e : Ending) (w' : World) : Prop := e = .returned (.int .i64 x) ∧ Below w0.heap.size w0 w'
def JO (w0 : World) (x : Bool) (e : Ending) (w' : World) : Prop := e = .returned (.bool x) ∧ Below w0.heap.size w0 w'
def NA (z : Int) : Int := IR z 0
def Fits (z : Int) (n : Nat) : Prop := (CB z.natAbs).length ≤ n
theorem UH (z : Int) : ((CB z.natAbs).length : Int) = 0 ↔ z = 0 := by
  constructor
  · intro h
    have e := (ET z.natAbs).1 (List.eq_nil_of_length_eq_zero Z)
    omega
  · intro h
    subst h
    rw [Int.natAbs_zero, DU]; rfl
theorem kB (v : Value) (z : Int) (w : World) (h : IsI w v z) :
    Calls prog 127 #[v] w (XY w (NA z)) := by
  obtain ⟨s, rfl, l⟩ := h
  obtain ⟨B, t, rfl, y, u, q, o, p⟩ := l
  clear p o q
  have e := UH z
  rcases Int.lt_trichotomy z 0 with f | f | f
  · have k : (((CB z.natAbs).length : Int) == 0) = false := by rw [beq_eq_false_iff_ne]; intro h; have := e.1 h; omega
    rw [show decide (z < 0) = true by simpa using f, show NA z = -1 from MP f]
    clear e
    go_enter func127, ntmps127
    go_wp2_with fail
    go_ret
    exact ⟨rfl, (Below.refl _ _).alloc (Nat.le_refl _) _⟩
  · have k : (((CB z.natAbs).length : Int) == 0) = true := by rw [beq_iff_eq]; exact e.2 f
    rw [show NA z = 0 from UF f]
    clear e f
    go_enter func127, ntmps127
    go_wp2_with fail
    go_ret
    exact ⟨rfl, (Below.refl _ _).alloc (Nat.le_refl _) _⟩
  · have k : (((CB z.natAbs).length : Int) == 0) = false := by rw [beq_eq_false_iff_ne]; intro h; have := e.1 h; omega
    rw [show decide (z < 0) = false by simp; omega, show NA z = 1 from NT f]
    clear e
    go_enter func127, ntmps127
    go_wp2_with fail
    go_ret
    exact ⟨rfl, (Below.refl _ _).alloc (Nat.le_refl _) _⟩
theorem IsI.parts {w : World} {v : Value} {z : Int} (h : IsI w v z) : ∃ (ao : Option Addr) (cap : Nat), v = .agg #[.bool (decide (z < 0)), .slice ao (CB z.natAbs).length cap] ∧ Sl w (.slice ao (CB z.natAbs).length cap) (CB z.natAbs) ∧ (CB z.natAbs).length ≤ cap ∧ cap ≤ 9223372036854775807 := by
  obtain ⟨s, rfl, k⟩ := h
  obtain ⟨ao, cap, rfl, f, e, p, l, o⟩ := k
  exact ⟨ao, cap, rfl, ⟨ao, cap, rfl, f, e, p, l, o⟩, f, by unfold maxLen at e; omega⟩
theorem JH (z : Int) : (z < 0 ∧ NA z = -1) ∨ (z = 0 ∧ NA z = 0) ∨ (0 < z ∧ NA z = 1) := by
  rcases Int.lt_trichotomy z 0 with e | e | e
  · exact .inl ⟨e, MP e⟩
  · exact .inr (.inl ⟨e, UF e⟩)
  · exact .inr (.inr ⟨e, NT e⟩)
theorem Iz (w : World) (n1 n2 : Bool) (s1 s2 : Value) : ∃ W, W = ((w.alloc (.cells #[.bool n1, s1] 62)).alloc (.cells #[.bool n2, s2] 62)) ∧ W.heap.size = w.heap.size + 2 ∧ Below w.heap.size w W ∧
    W.cell? ⟨w.heap.size, 0, none⟩ = some (.bool n1) ∧ W.cell? ⟨w.heap.size, 1, none⟩ = some s1 ∧ W.cell? ⟨w.heap.size + 1, 0, none⟩ = some (.bool n2) ∧ W.cell? ⟨w.heap.size + 1, 1, none⟩ = some s2 := by
  refine ⟨_, O, by simp, ((Below.refl _ _).alloc (Nat.le_refl _) _).alloc AG _, ?_, ?_, ?_, ?_⟩ <;> simp [go_sem]
theorem kZ {x y : Int} (h : NA x < NA y) : IR x y = -1 := by
  rcases JH x with ⟨l, k⟩ | ⟨l, k⟩ | ⟨l, k⟩ <;> rcases JH y with ⟨f, e⟩ | ⟨f, e⟩ | ⟨f, e⟩ <;> first | (exfalso; omega) | exact MP Z
theorem lA {x y : Int} (h : NA y < NA x) : IR x y = 1 := by
  rcases JH x with ⟨l, k⟩ | ⟨l, k⟩ | ⟨l, k⟩ <;> rcases JH y with ⟨f, e⟩ | ⟨f, e⟩ | ⟨f, e⟩ <;> first | (exfalso; omega) | exact NT Z
theorem jR {x y x' y' : Int} (h1 : x < y ↔ x' < y') (h2 : x = y ↔ x' = y') : IR x y = IR x' y' := by
  unfold IR
  by_cases a : x < y
  · rw [if_pos a, if_pos (h1.1 a)]
  · rw [if_neg a, if_neg (fun h => a (h1.2 h))]
    by_cases b : x = y
    · rw [if_pos b, if_pos (h2.1 b)]
    · rw [if_neg b, if_neg (fun h => b (h2.2 h))]
theorem Nd {x y : Int} (h : NA x = NA y) (hn : NA x < 0) : IR (y.natAbs : Int) (x.natAbs : Int) = IR x y := by
  rcases JH x with ⟨l, k⟩ | ⟨l, k⟩ | ⟨l, k⟩ <;> rcases JH y with ⟨f, e⟩ | ⟨f, e⟩ | ⟨f, e⟩ <;> first | (exfalso; omega) | exact jR Z Z
theorem Nc {x y : Int} (h : NA x = NA y) (hn : ¬ NA x < 0) : IR (x.natAbs : Int) (y.natAbs : Int) = IR x y := by
  rcases JH x with ⟨l, k⟩ | ⟨l, k⟩ | ⟨l, k⟩ <;> rcases JH y with ⟨f, e⟩ | ⟨f, e⟩ | ⟨f, e⟩ <;> first | (exfalso; omega) | exact jR Z Z
theorem Cmp_z (va vb : Value) (x y : Int) (w : World) (ha : IsI w va x) (hb : IsI w vb y) :
    Calls prog 165 #[va, vb] w (XY w (IR x y)) := by
  obtain ⟨u, o, rfl, X, a3, a2⟩ := ha.parts
  obtain ⟨t, l, rfl, U, a1, a0⟩ := hb.parts
  have HA := Lib.hid ha
  have HB := Lib.hid hb
  have SA := Lib.hid X
  have SB := Lib.hid U
  clear ha hb X U
  obtain ⟨W, Y, G, z, T, S, R, Q⟩ := Iz w (decide (x < 0)) (decide (y < 0)) (.slice u (CB x.natAbs).length o) (.slice t (CB y.natAbs).length l)
  go_enter func165, ntmps165
  go_upto_region 1 with fail
  rw [← Y]
  clear Y G
  go_region_held3 (fun F => F.cell? ⟨w.heap.size, 0, none⟩ = some (.bool (decide (x < 0))) ∧ F.cell? ⟨w.heap.size, 1, none⟩ = some (.slice u (CB x.natAbs).length o) ∧ F.cell? ⟨w.heap.size + 1, 0, none⟩ = some (.bool (decide (y < 0))) ∧ F.cell? ⟨w.heap.size + 1, 1, none⟩ = some (.slice t (CB y.natAbs).length l))
    (first | exact ⟨T, S, R, Q⟩ | exact ⟨P, N, L, J⟩ | exact ⟨f0, f1, f2, f3⟩)
    (first
      | (go_at_call_of 127 (Value.slice u (CB x.natAbs).length o); refine (kB _ x _ ?_).mono ?_; exact HA.out.below z.drew; rintro e w1 ⟨rfl, f⟩; have P := CV (w := W.drew) T f; have N := CV (w := W.drew) S f; have L := CV (w := W.drew) R f; have J := CV (w := W.drew) Q f)
      | (go_at_call_of 127 (Value.slice t (CB y.natAbs).length l); refine (kB _ y _ ?_).mono ?_; exact HB.out.below (z.drew.trans (f.mono z.size)); rintro e w2 ⟨rfl, h⟩; have f0 := CV P h; have f1 := CV N h; have f2 := CV L h; have f3 := CV J h))
  have B : Below w.heap.size w w2 := (z.drew.trans (f.mono z.size)).trans (h.mono (by have := f.size; have := z.size; simp at *; omega))
  have D := Lib.hid (SA.out.below B)
  have C := Lib.hid (SB.out.below B)
  clear T S R Q P N L J f h z
  by_cases k : NA x = NA y
  · have h1 : (NA x != NA y) = false := by rw [bne_eq_false_iff_eq]; exact k
    by_cases p : NA x < 0
    · have v := Lib.hid (Nd k p)
      clear k
      go_wp2_with fail
      refine (WO _ _ y.natAbs x.natAbs _ C.out D.out).mono ?_
      rintro e w3 ⟨rfl, q, rfl⟩
      rw [v.out]
      go_wp2_with fail
      go_ret
      exact ⟨rfl, IB B _⟩
    · have v := Lib.hid (Nc k p)
      clear k
      go_wp2_with fail
      refine (WO _ _ x.natAbs y.natAbs _ D.out C.out).mono ?_
      rintro e w3 ⟨rfl, q, rfl⟩
      rw [v.out]
      go_wp2_with fail
      go_ret
      exact ⟨rfl, IB B _⟩
  · have h1 : (NA x != NA y) = true := by rw [bne_iff_ne]; exact k
    by_cases H : NA x < NA y
    · have v := Lib.hid (kZ H)
      clear k
      go_wp2_with fail
      go_ret
      exact ⟨by rw [v.out]; rfl, B⟩
    · have v := Lib.hid (lA (show NA y < NA x by omega))
      clear k
      go_wp2_with fail
      go_ret
      exact ⟨by rw [v.out]; rfl, B⟩
end Go.Proofs.YtmppigbbkjepiaaGreatDoor
namespace Go.Proofs.YtmppigbbkjepiaaGreatDoor
open Go.Proofs.Tryz
open Go.RowKit W
def Jj (w0 : World) (q r : Nat) (e : Ending) (w' : World) : Prop := ∃ v u, e = .returned (.tuple #[v, u]) ∧ Sl w' v (CB q) ∧ Sl w' u (CB r) ∧ Below w0.heap.size w0 w'
theorem Fc (x : Nat) (h0 : 0 < x) (h1 : x < 4294967296) : ∃ s : Nat, s < 32 ∧ (32 : Int) - (Lib.bitLen x : Int) = (s : Int) ∧ 2147483648 ≤ x * 2 ^ s ∧ x * 2 ^ s + 2 ^ s ≤ 4294967296 := by
  obtain ⟨k, e, h⟩ := Lib.bitLenAux_bounds 64 x Z Z
  have f := Lib.bitLen_le x 32 Z h1
  unfold Lib.bitLen at *
  generalize Lib.bitLenAux 64 x = b at *
  obtain ⟨c, rfl⟩ : ∃ c, b = c + 1 := ⟨b - 1, by omega⟩
  rw [Nat.add_sub_cancel] at e
  refine ⟨31 - c, by omega, by omega, ?_, ?_⟩
  · have := Nat.mul_le_mul_right (2 ^ (31 - c)) e
    rw [← Nat.pow_add, show c + (31 - c) = 31 by omega] at this
    exact this
  · have := Nat.mul_le_mul_right (2 ^ (31 - c)) (show x + 1 ≤ 2 ^ (c + 1) by omega)
    rw [← Nat.pow_add, show c + 1 + (31 - c) = 32 by omega, Nat.add_mul, Nat.one_mul] at this
    exact this
set_option maxRecDepth 100000 in
set_option maxHeartbeats 4000000 in
theorem Cz (va vb : Value) (la lb : List Nat) (w : World) (ha : Sl w va la) (hb : Sl w vb lb) (hsa : la.length ≤ 1000000000) (hsb : lb.length ≤ 1000000000) (hpos : 0 < val lb) :
    Calls prog 164 #[va, vb] w (Jj w (val la / val lb) (val la % val lb)) := by
  have HA := Lib.hid ha
  have HB := Lib.hid hb
  have hda : (CB (val la)).length ≤ 1000000000 := by rw [← TA ha.wd]; exact Nat.le_trans (IS _) hsa
  have hdb : (CB (val lb)).length ≤ 1000000000 := by rw [← TA hb.wd]; exact Nat.le_trans (IS _) hsb
  clear ha hb
  obtain ⟨A, hA⟩ : ∃ A, A = val la := ⟨_, rfl⟩
  obtain ⟨Bn, hB⟩ : ∃ Bn, Bn = val lb := ⟨_, rfl⟩
  rw [← hA] at hda ⊢
  rw [← hB] at hdb hpos ⊢
  have HAV := Lib.hid hA
  have HBV := Lib.hid hB
  clear hA hB hsa hsb
  go_enter func164, ntmps164
  go_wp2_with fail
  refine (MC _ la _ HA.out).mono ?_
  rintro e w' ⟨rfl, v1, rfl, h1⟩
  have S1 := Lib.hid (h1 _ HA.out)
  rw [← HAV.out] at S1
  clear h1
  go_wp2_with fail
  refine (MC _ lb _ HB.out).mono ?_
  rintro e w' ⟨rfl, v2, rfl, h2⟩
  have S2 := Lib.hid (h2 _ HB.out)
  rw [← HBV.out] at S2
  clear h2
  go_wp2_with fail
  refine (WO _ _ A Bn _ S1.out S2.out).mono ?_
  rintro e w' ⟨rfl, d1, rfl⟩
  by_cases hlt : A < Bn
  · rw [MP (by omega : (A : Int) < (Bn : Int))]
    go_wp2_with fail
    refine (WP _ (CB A) _ (S1.out.drewN _) Z).mono ?_
    rintro e w' ⟨v3, rfl, h3, hb3⟩
    go_wp2_with fail
    go_ret2
    refine ⟨_, v3, O, ?_, ?_, JA hb3⟩
    · rw [Nat.div_eq_of_lt hlt, DU]; exact ZL _
    · rw [Nat.mod_eq_of_lt hlt]; exact h3
  · have hc : ¬ IR (A : Int) (Bn : Int) < 0 := by
      rcases Nat.lt_or_ge Bn A with h | h
      · rw [NT Z]; omega
      · rw [UF Z]; omega
    obtain ⟨aob, capb, rfl, b1, b2, b3, bn, b4⟩ := S2.out
    obtain ⟨aoa, capa, rfl, a1, a2, a3, an, a4⟩ := S1.out
    have HA4 := Lib.hid a4
    have HB4 := Lib.hid b4
    unfold maxLen at a2 b2
    have hlen := FO (show Bn ≤ A by omega)
    have hn0 : 0 < (CB Bn).length := by
      rcases Nat.eq_zero_or_pos (CB Bn).length with e | e
      · exact absurd ((ET _).1 (List.eq_nil_of_length_eq_zero e)) Z
      · exact e
    clear a4 b4 an bn a3 b3
    by_cases hone : (CB Bn).length = 1
    · have hob : (((CB Bn).length : Int) == 1) = true := by rw [beq_iff_eq]; omega
      obtain ⟨b, off, rfl, hcell⟩ := HB4.out 0 Z
      have hg : gd (CB Bn) 0 = Bn := by
        have := DO (CB Bn) 1 Z
        rw [DG, CK] at this
        simpa [val] using this
      rw [hg, Nat.add_zero] at hcell
      have hBlt : Bn < 4294967296 := by rw [← hg]; exact EI (FQ _) 0
      have HONE := Lib.hid hone
      clear hone hg
      go_wp2_with fail
      refine (WK _ (CB A) Bn _ (S1.out.drewN _) hda Z hBlt).mono ?_
      rintro e w' ⟨v3, rfl, h3, hb3⟩
      rw [CK] at h3 ⊢
      go_wp2_with fail
      have hm := Nat.mod_lt A (show 0 < Bn by omega)
      refine (ZR (A % Bn) _ Z).mono ?_
      rintro e w'' ⟨v4, rfl, h4, hb4⟩
      go_wp2_with fail
      go_ret2
      exact ⟨v3, v4, rfl, h3.below hb4, h4, (JA hb3).trans (hb4.mono hb3.size)⟩
    · have hob : (((CB Bn).length : Int) == 1) = false := by rw [beq_eq_false_iff_ne]; omega
      obtain ⟨k, hk⟩ : ∃ k, (CB Bn).length = k + 1 := ⟨(CB Bn).length - 1, by omega⟩
      obtain ⟨b, off, rfl, hcell⟩ := HB4.out k Z
      have hk1 : ((CB Bn).length : Int) - 1 = (k : Int) := by omega
      have hk2 : ((CB Bn).length : Int) = (k : Int) + 1 := by omega
      have HK := Lib.hid hk
      have HK2 := Lib.hid hk2
      have hgl := EI (FQ Bn) k
      have hgp : 0 < gd (CB Bn) k := by
        obtain ⟨l', x, e1, e2, _⟩ := XR Bn hpos
        have e3 : l'.length = k := by have := congrArg List.length e1; rw [hk] at this; simp at this; omega
        rw [e1, MG _ _ _ Z, e3, Nat.sub_self]
        exact e2
      obtain ⟨s, hs32, hs, hlo, hhi⟩ := Fc _ hgp hgl
      have HS := Lib.hid hs
      have HLO := Lib.hid hlo
      have HHI := Lib.hid hhi
      have hkp : 1 ≤ k := by omega
      have hka : k + 1 ≤ (CB A).length := by omega
      clear hk hk2 hs hlo hhi hone
      go_wp2_with fail
      refine (Tryz.bits_LeadingZeros32 _ _ Z Z).mono ?_
      rintro e w' ⟨rfl, rfl⟩
      rw [Int.toNat_natCast, HS.out]
      go_wp2_with fail
      refine (aA _ (CB A) s _ (S1.out.drewN _) hda hs32).mono ?_
      rintro e w1 ⟨rfl, lu, ou, wu, eu, bu⟩
      rw [CK] at eu
      have hsz1 := ou.lt
      have S2' := Lib.hid ((S2.out.drewN d1).below bu)
      go_wp2_with fail
      refine (aA _ (CB Bn) s _ S2'.out hdb hs32).mono ?_
      rintro e w2 ⟨rfl, lw, ow, ww, ew, bw⟩
      rw [CK] at ew
      have hsz2 := ow.lt
      rw [HK.out] at ow
      have hww := ow.len
      go_wp2_with (at_make; refine EQ _ rfl _ _ rfl _ _ ((CB A).length - k) rfl rfl ?c1 ?c2 ?c3 ?_)
      case c1 => have := HK2.out; omega
      case c2 => have := HK2.out; omega
      case c3 => omega
      intro w3 oq bq hsz3
      have hdr : (w.drewN d1).heap.size = w.heap.size := rfl
      rw [hdr] at ou hsz1 bu
      have hbw := bu.size
      rw [hdr] at hbw
      have ou3 := (ou.below bw).below bq
      have ow3 := ow.below bq
      have hB3 : Below w.heap.size w w3 := ((JA bu).trans (bw.mono Z)).trans (bq.mono Z)
      have hst := LdInv.start (A := A) (m := (CB A).length - k) rfl hn0 (by have := HK.out; omega) wu (by rw [ou.len]; have := HK.out; omega) eu ww (by rw [hww, HK.out]) ew hs32
        (by rw [HK.out]; exact HLO.out) (by rw [HK.out]; exact HHI.out)
      obtain ⟨hV1, hV2, hV3, hV4, hL⟩ := hst
      obtain ⟨lv, hlv⟩ : ∃ lv, lv = lw.take (CB Bn).length := ⟨_, rfl⟩
      rw [← hlv] at hV1 hV2 hV3 hV4 hL
      have HLVE := Lib.hid hlv
      have HV1 := Lib.hid hV1
      have HV2 := Lib.hid hV2
      have HV3 := Lib.hid hV3
      have HV4 := Lib.hid hV4
      clear hV1 hV2 hV3 hV4 hlv eu ew hww wu ww bu bw bq ou ow hdr
      go_wp2_with fail
      go_loopw [13] (fun i wr => ∃ (m : Nat) (z : Int) (l q : List Nat), m ≤ (CB A).length - k ∧ z + 1 ≤ m ∧ m ≤ z + 1 ∧ i = .int .i64 z ∧ LdInv lv (A * 2 ^ s) m l q ∧
          Own wr w.heap.size w.heap.size ((CB A).length + 1) l ∧ Own wr w1.heap.size w1.heap.size (k + 1 + 1) lw ∧ Own wr w2.heap.size w2.heap.size ((CB A).length - k) q ∧ Below w.heap.size w wr)
        (fun i _ => (intOf i + 1).toNat)
      case atStart => exact ⟨(CB A).length - k, _, lu, _, Nat.le_refl _, by have := HK2.out; omega, by have := HK2.out; omega, rfl, hL, ou3, ow3, oq, hB3⟩
      case round =>
        clear hL ou3 ow3 oq hB3
        obtain ⟨m, z, l, q, hm, hz1, hz2, rfl, hinv, ou, ow, oq, hB3⟩ := hrel
        by_cases hm0 : m = 0
        · subst hm0
          have hz : z < 0 := by omega
          have hd := hinv.done HV3.out
          have hwl := hinv.1
          have hwq := hinv.2.1
          rw [HV1.out, HV2.out, Bv] at hd
          have hln := ou.len
          have SQ := oq.sl hwq
          have SU : Sl wr (.slice (some ⟨w.heap.size, 0, none⟩) (CB Bn).length ((CB A).length + 1)) (l.take (CB Bn).length) := by
            obtain ⟨ao, cap, e, g1, g2, g3, gn, g4⟩ := ou.sl hwl
            simp only [Value.slice.injEq] at e
            obtain ⟨rfl, -, rfl⟩ := e
            have e2 : (l.take (CB Bn).length).length = (CB Bn).length := by rw [List.length_take]; have := HK.out; omega
            refine ⟨_, _, by rw [e2], by rw [e2]; have := HK.out; omega, g2, NW g3 _, (fun h => by cases h), fun i hi => ?_⟩
            rw [e2] at hi
            obtain ⟨b', o', e3, e4⟩ := g4 i (by have := HK.out; omega)
            exact ⟨b', o', e3, by rw [aY _ _ _ hi]; exact e4⟩
          have HD := Lib.hid hd
          have HSQ := Lib.hid SQ
          have HSU := Lib.hid SU
          have hlt2 : (l.take (CB Bn).length).length ≤ 1000000000 := by rw [List.length_take]; omega
          clear hd hwl hwq SQ SU hinv
          go_wp2_with fail
          go_region_with (first
            | (go_at_call 161; refine (MC _ q _ (HSQ.out.drewN _)).mono ?_; rintro e w' ⟨rfl, v', rfl, hv'⟩)
            | (go_at_call 193; refine (kM _ (l.take (CB Bn).length) s _ (HSU.out.drewN _) hlt2 hs32).mono ?_; rintro e w'' ⟨v'', rfl, hv'', hb''⟩))
          all_goals
            go_wp2_with fail
            go_ret2
            have q1 := hv' _ ((HSQ.out.drewN _).below hb'')
            rw [HD.out.1] at q1
            have q2 := HD.out.2
            rw [q2, Bu] at hv''
            exact ⟨v', v'', rfl, q1, hv'', hB3.trans ((JA hb'').mono hB3.size)⟩
        · obtain ⟨j, rfl⟩ : ∃ j, m = j + 1 := ⟨m - 1, by omega⟩
          obtain rfl : z = (j : Int) := by omega
          clear hm0
          have hcq := oq.cell j Z
          have hfq := oq.free j
          go_wp2_with fail
          rw [show j + (CB Bn).length + 1 - j = (CB Bn).length + 1 from by omega]
          have hlt := hinv.lt (by rw [HV2.out]; exact hn0)
          rw [HV2.out] at hlt
          have hq' := Nat.div_lt_of_lt_mul (by rw [Nat.mul_comm]; exact hlt : val (JE l j ((CB Bn).length + 1)) < val lv * 4294967296)
          refine (eR w.heap.size w.heap.size ((CB A).length + 1) j (CB Bn).length _ w1.heap.size _ l lv wr ou hinv.1 (by have := HK.out; omega) Z (by have := HK.out; omega) Z Z
            (fun i hi => ?_) Z HV2.out (by have := HK.out; omega) HV3.out HV4.out hlt).mono ?_
          · rw [ow.cell i (by have := HK.out; omega), HLVE.out, aY _ _ _ hi]
          rintro e w4 ⟨rfl, l', ou', hsr, hgb⟩
          have ow' := ow.kept hgb Z
          have oq' := oq.kept hgb Z
          have hB4 := hB3.trans (WG hgb (Nat.le_refl _) hB3.size)
          have hst2 : LdInv lv (A * 2 ^ s) j l' (q.set j (val (JE l j ((CB Bn).length + 1)) / val lv)) := by
            have := hinv.step (l' := l') HV3.out (by rw [HV2.out]; exact hsr) (by rw [HV2.out]; exact hq')
            rwa [HV2.out] at this
          obtain ⟨x, hx⟩ : ∃ x, x = val (JE l j ((CB Bn).length + 1)) / val lv := ⟨_, rfl⟩
          rw [← hx] at hst2 hq' ⊢
          have hcq := oq'.cell j Z
          have hfq := oq'.free j
          clear hx hlt hsr hinv hgb ou ow oq hB3
          go_wp2_with fail
          go_roundw
          case rel => exact ⟨j, (j : Int) - 1, l', _, by omega, by omega, by omega, rfl, hst2, ou'.other oq' Z _ _, ow'.other oq' Z _ _, oq'.set j _ x Z, hB4.setCell (p := ⟨w2.heap.size, j, none⟩) (show w.heap.size ≤ w2.heap.size by omega) _⟩
          case measure => simp [intOf]
end Go.Proofs.YtmppigbbkjepiaaGreatDoor
