/- Helping facts of Up; no other conditions. Helping facts of Api3; no other conditions. Helping facts of Api4; no other conditions. Helping facts of Fns; no other conditions. Helping facts of DivMod; no other conditions. Helping facts of FnsS; no other conditions. -/
import Derived.Deep.RegionLaw
import Derived.Lib.ItoaNum
import Derived.Test.YtmppigbbkjepiaaGreatDoorApi2
import Derived.Deep.LoopGhost
import Derived.Test.YtmppigbbkjepiaaGreatDoorKit
namespace Go.Proofs.YtmppigbbkjepiaaGreatDoor
open Go.RowKit W
variable {A i k n r x : Nat} {c q y z : Int} {e : Ending} {l : List Nat} {p : Prop} {v : Value} {w w' : World}
theorem YIt (h : p := by rw [v.out, f.out.1]) : p := h
theorem ZMb (h : p := by
 rintro e H ⟨X, rfl, l, p⟩
 obtain ⟨u, q, rfl, I, _, _⟩ := l.parts
 have o := (T.out.keep h).keep p
 have B := Lib.hid o
 obtain ⟨⟨n0, P, D, F, N, L⟩, g2, g3⟩ := o
 have R : Below w.heap.size w H := (C.trans (h.mono C.size)).trans (p.mono (Nat.le_trans C.size h.size))
 go_wp2_with fail
 refine AQ (v := .agg #[.bool (decide (z < 0)), .slice u (CD z.natAbs).length q]) ?_ O ((VR l B.out R AA).eq y.out)
 simp [results, results136, go_sem, N, L]
 ) : p := h
theorem Zwh (h : p := by
 clear k
 go_enter func147, ntmps147
 go_upto_region 1 with fail
 rw [<- h]
 clear h
 go_wp2_with fail
 refine (XG _ (CD m) _ S0.out AA).mono ?_
 rintro e C ⟨rfl, rfl⟩
 rw [CO]
 go_wp2_with fail
 go_ret2
 exact RetS.eq ⟨rfl, p⟩ (by rw [u.out, f.out.2]) YIt
 ) : p := h
theorem Z5h (h : p := by
 go_enter func126, ntmps126
 go_upto_region 1 with fail
 rw [<- h]
 clear h
 go_wp2_with fail
 go_ret
 exact ⟨rfl, p⟩
 ) : p := h
theorem ZX6 (h : p := by
 have e : LX z = false := by
  unfold LX
  rw [Bool.and_eq_false_iff, decide_eq_false_iff_not, decide_eq_false_iff_not]
  omega
 exact ⟨e, by unfold UF; rw [e]; rfl⟩
 ) : p := h
theorem Own.a {base g : Nat} (h : Own w base g n l) : OwnA w base (.slice (some ⟨g, 0, none⟩) n n) l := by
 unfold OwnA
 rw [h.len]
 exact h
theorem OwnA.below {base : Nat} (h : OwnA w base v l) (hb : Below w.heap.size w w') : OwnA w' base v l := by
 obtain ⟨t, e⟩ := h
 refine ⟨t, ?_⟩
 rcases e with e | ⟨p, k, f, q, hg, o, r⟩
 . exact Or.inl e
 exact Or.inr ⟨p, k, f, q, hg, by rw [hb.block p (Array.getElem?_eq_some_iff.1 o).1]; exact o, r⟩
theorem OwnA.base {base base' : Nat} (h : OwnA w base v l) (hb : base' <= base) : OwnA w base' v l := by
 obtain ⟨p, e⟩ := h
 refine ⟨p, ?_⟩
 rcases e with e | ⟨q, k, f, o, hg, r⟩
 . exact Or.inl e
 exact Or.inr ⟨q, k, f, o, by omega, r⟩
theorem pow32 (k : Nat) : (4294967296 : Nat) ^ k = 2 ^ (32 * k) := by
 rw [Nat.pow_mul]
def bJ (n m : Nat) : Nat := n / 2 ^ m
def IsRoot (r k A : Nat) : Prop := r ^ k <= A /\ A < (r + 1) ^ k
theorem qW (k A : Nat) (hk : 1 <= k) : ∃ r, IsRoot r k A := by
 have e : ∀ n, A < (n + 1) ^ k -> ∃ r, IsRoot r k A := by
  intro n
  induction n with
  | zero => intro h; exact ⟨0, by rw [Nat.zero_pow AA]; omega, h⟩
  | succ n ih =>
    intro h
    by_cases f : (n + 1) ^ k <= A
    . exact ⟨n + 1, f, h⟩
    exact ih AA
 refine e A ?_
 have := Nat.pow_le_pow_right (n := A + 1) AA hk
 rw [Nat.pow_one] at this
 omega
theorem vI (A : Nat) (h : 0 < A) : A < 2 ^ pK A /\ 2 ^ (pK A - 1) <= A /\ 1 <= pK A /\ pK A <= 32 * (CD A).length := by
 obtain ⟨l, x, e, C, k⟩ := XY A h
 have f : (CD A).length = l.length + 1 := by rw [e]; simp
 have hg : gd (CD A) ((CD A).length - 1) = x := by
  rw [f, Nat.add_sub_cancel, e, MD _ _ _ (Nat.le_refl _), Nat.sub_self]; rfl
 have y : pK A = 32 * l.length + Lib.bitLen x := by
  unfold pK; rw [if_neg AA, hg, f, Nat.add_sub_cancel]
 obtain ⟨B, u, t⟩ := Lib.bitLenAux_bounds 64 x AA AA
 have D := Ab x k
 have o : Lib.bitLenAux 64 x = Lib.bitLen x := rfl
 rw [o] at B u t
 have q := CO A
 have p := GF A
 rw [e, Wd_append] at p
 rw [e, ZT] at q
 have v := GV p.1
 rw [pow32] at q v
 rw [y, f]
 refine ⟨?_, ?_, by omega, by omega⟩
 . rw [Nat.pow_add]
   have : 2 ^ (32 * l.length) * (x + 1) <= 2 ^ (32 * l.length) * 2 ^ Lib.bitLen x := Nat.mul_le_mul_left _ t
   rw [Nat.mul_add] at this
   omega
 rw [show 32 * l.length + Lib.bitLen x - 1 = 32 * l.length + (Lib.bitLen x - 1) by omega, Nat.pow_add]
 have : 2 ^ (32 * l.length) * 2 ^ (Lib.bitLen x - 1) <= 2 ^ (32 * l.length) * x := Nat.mul_le_mul_left _ u
 omega
def BitInv (A k i r : Nat) : Prop := r % 2 ^ i = 0 /\ r ^ k <= A /\ A < (r + 2 ^ i) ^ k
theorem BitInv.start (hA : 0 < A) (hk : 1 <= k) (h : pK A <= n * k) : BitInv A k n 0 := by
 refine ⟨by simp, by rw [Nat.zero_pow AA]; omega, ?_⟩
 have f := (vI A hA).1
 have e := Nat.pow_le_pow_right (n := 2) AA h
 rw [Nat.zero_add, <- Nat.pow_mul]
 omega
theorem BitInv.lt (h : BitInv A k i r) (hn : A < (2 ^ n) ^ k) : r < 2 ^ n := by
 rcases Nat.lt_or_ge r (2 ^ n) with e | e
 . exact e
 have := Nat.pow_le_pow_left e k
 have := h.2.1; omega
theorem BitInv.low (h : BitInv A k (i + 1) r) : r % 2 ^ (i + 1) = 0 := h.1
theorem BitInv.done (h : BitInv A k 0 r) : IsRoot r k A := ⟨h.2.1, by have := h.2.2; simpa using this⟩
theorem amgm (R x : Int) (hR : 0 <= R) (hx : 0 <= x) : ∀ k : Nat, R ^ (k + 1) + k * x ^ (k + 1) >= (k + 1) * R * x ^ k
 | 0 => by simp [Int.pow_succ]
 | k + 1 => by
   have ih := amgm R x hR hx k
   have hp : 0 <= x ^ k := Int.pow_nonneg hx
   have h1 := Int.mul_le_mul_of_nonneg_left ih hR
   have h2 : 0 <= ((k : Int) + 1) * (x ^ k * ((R - x) * (R - x))) := by
    refine Int.mul_nonneg AA (Int.mul_nonneg hp ?_)
    rcases Int.le_total 0 (R - x) with h | h
    . exact Int.mul_nonneg h h
    have := Int.mul_nonneg (Int.neg_nonneg_of_nonpos h) (Int.neg_nonneg_of_nonpos h); rwa [Int.neg_mul_neg] at this
   have e1 : R ^ (k + 1 + 1) = R * R ^ (k + 1) := by rw [Int.pow_succ]; exact Int.mul_comm _ _
   have e2 : x ^ (k + 1 + 1) = x * x * x ^ k := by rw [Int.pow_succ, Int.pow_succ]; grind
   have e3 : x ^ (k + 1) = x * x ^ k := by rw [Int.pow_succ]; exact Int.mul_comm _ _
   rw [e3] at h1 ⊢
   rw [e1, e2]
   have e : (((k + 1 : Nat)) : Int) = (k : Int) + 1 := by omega
   rw [e]
   generalize x ^ k = X at *
   generalize R ^ (k + 1) = Y at *
   grind
def aK (A k x : Nat) : Nat := ((k - 1) * x + A / x ^ (k - 1)) / k
theorem Jz {R : Nat} (hk : 2 <= k) (hx : 0 < x) (hR : R ^ k <= A) : R <= aK A k x := by
 unfold aK
 obtain ⟨m, rfl⟩ : ∃ m, k = m + 1 := ⟨k - 1, by omega⟩
 rw [Nat.add_sub_cancel, Nat.le_div_iff_mul_le AA]
 by_cases f : R * (m + 1) <= m * x
 . exact Nat.le_trans f (Nat.le_add_right _ _)
 have l := Nat.pow_pos (n := m) hx
 have o : R * (m + 1) - m * x <= A / x ^ m := by
  rw [Nat.le_div_iff_mul_le l]
  refine Nat.le_trans ?_ hR
  have h := amgm (R : Int) (x : Int) AA AA m
  have e : (((R * (m + 1) - m * x) * x ^ m : Nat) : Int) <= ((R ^ (m + 1) : Nat) : Int) := by
   rw [Int.natCast_mul, Int.ofNat_sub AA]
   push_cast
   rw [Int.pow_succ (x : Int) m] at h
   generalize (x : Int) ^ m = X at *
   generalize (R : Int) ^ (m + 1) = Y at *
   grind
  omega
 omega
theorem Jy (hk : 2 <= k) (hx : 0 < x) (h : A < x ^ k) : aK A k x < x := by
 unfold aK
 obtain ⟨m, rfl⟩ : ∃ m, k = m + 1 := ⟨k - 1, by omega⟩
 rw [Nat.add_sub_cancel]
 have e := Nat.pow_pos (n := m) hx
 have f : A / x ^ m < x := by
  apply Nat.div_lt_of_lt_mul
  rwa [Nat.pow_succ] at h
 apply Nat.div_lt_of_lt_mul
 rw [Nat.add_mul, Nat.one_mul]
 omega
def NewtInv (A k x : Nat) : Prop := 0 < x /\ A < (x + 1) ^ k /\ ∃ R, IsRoot R k A /\ 0 < R /\ x <= 2 * R
theorem NewtInv.step (h : NewtInv A k x) (hk : 2 <= k) (hlt : aK A k x < x) : NewtInv A k (aK A k x) := by
 obtain ⟨l, p, R, f, e, o⟩ := h
 have := Jz hk l f.1
 refine ⟨by omega, ?_, R, f, e, by omega⟩
 have := Nat.pow_le_pow_left (show R + 1 <= aK A k x + 1 by omega) k
 have := f.2
 omega
theorem NewtInv.done (h : NewtInv A k x) (hk : 2 <= k) (hge : x <= aK A k x) : IsRoot x k A := by
 obtain ⟨l, f, _⟩ := h
 refine ⟨?_, f⟩
 rcases Nat.lt_or_ge A (x ^ k) with e | e
 . have := Jy hk l e; omega
 exact e
theorem NewtInv.start {s : Nat} (hk : 1 <= k) (hr : IsRoot r k (A / 2 ^ (k * s))) (hr0 : 0 < r) : NewtInv A k ((r + 1) * 2 ^ s) := by
 have l := Nat.two_pow_pos s
 have p : A < ((r + 1) * 2 ^ s) ^ k := by
  rw [Nat.mul_pow, <- Nat.pow_mul, Nat.mul_comm s k]
  rw [<- Nat.div_lt_iff_lt_mul (Nat.two_pow_pos _)]
  exact hr.2
 have o : (r * 2 ^ s) ^ k <= A := by
  rw [Nat.mul_pow, <- Nat.pow_mul, Nat.mul_comm s k]
  rw [<- Nat.le_div_iff_mul_le (Nat.two_pow_pos _)]
  exact hr.1
 obtain ⟨R, f⟩ := qW k A hk
 have e : r * 2 ^ s <= R := by
  rcases Nat.lt_or_ge R (r * 2 ^ s) with h | h
  . have := Nat.pow_le_pow_left (show R + 1 <= r * 2 ^ s by omega) k
    have := f.2
    omega
  exact h
 have q : 1 * 2 ^ s <= r * 2 ^ s := Nat.mul_le_mul_right _ hr0
 refine ⟨Nat.mul_pos AA l, ?_, R, f, by omega, by rw [Nat.add_mul]; omega⟩
 have := Nat.pow_le_pow_left (show (r + 1) * 2 ^ s <= (r + 1) * 2 ^ s + 1 by omega) k
 omega
theorem NewtInv.size {b : Nat} (h : NewtInv A k x) (hb : A < 2 ^ b) (p : Nat) (hp : p <= k) : x ^ p < 2 ^ (k + b) := by
 obtain ⟨q, o, R, l, e, f⟩ := h
 have e1 := Nat.pow_le_pow_left f p
 have e2 := Nat.pow_le_pow_right e hp
 have e3 := Nat.pow_le_pow_right (n := 2) AA hp
 rw [Nat.mul_pow] at e1
 rw [Nat.pow_add]
 have e4 : 2 ^ p * R ^ p <= 2 ^ k * R ^ k := Nat.mul_le_mul e3 e2
 have e5 : 2 ^ k * R ^ k < 2 ^ k * 2 ^ b := Nat.mul_lt_mul_of_pos_left (by have := l.1; omega) (Nat.two_pow_pos k)
 omega
set_option maxHeartbeats 1000000
open Go.Proofs.Tryz
theorem Hj (w : World) : ∃ W, W = w.alloc (.cells #[.bool false, .slice none 0 0] 62) /\ W.heap.size = w.heap.size + 1 /\ Below w.heap.size w W /\ RBox W w.heap.size := by
 refine ⟨_, O, by simp, (Below.refl _ _).alloc (Nat.le_refl _) _, ⟨⟨false, none, 0, 0, ?_, ?_⟩, ?_, ?_⟩⟩ <;> (try simp [go_sem]) <;> rfl
theorem mJ (w : World) (n1 : Bool) (s1 : Value) : ∃ W, W = w.alloc (.cells #[.bool n1, s1] 62) /\ W.heap.size = w.heap.size + 1 /\ Below w.heap.size w W /\ Box W w.heap.size n1 s1 := by
 refine ⟨_, O, by simp, (Below.refl _ _).alloc (Nat.le_refl _) _, ⟨?_, ?_⟩⟩ <;> (try simp [go_sem]) <;> rfl
theorem RetZ.eq {n : Int} (h : RetZ w z e w') (hz : z = n) : RetZ w n e w' := by subst hz; exact h
theorem E7 (n : Int) (w : World) (h1 : -9223372036854775808 <= n) (h2 : n <= 9223372036854775807) :
 Calls prog 136 #[.int .i64 n] w (RetZ w n) := by
 obtain ⟨W, G, a0, C, S⟩ := Hj w
 have T := Lib.hid S
 clear S
 by_cases hn : n < 0
 . obtain ⟨k, hk⟩ : ∃ k : Nat, n = -(k : Int) := ⟨n.natAbs, by omega⟩
   have hc : IntKind.u64.wrap (-IntKind.u64.wrap n) = (k : Int) := by simp only [IntKind.wrap_u64]; omega
   have l : IV true k = n := by simp [IV]; omega
   have Q := Lib.hid l
   have J : k < 18446744073709551616 := by omega
   clear hk l
   go_enter func136, ntmps136
   go_upto_region 1 with fail
   rw [<- G]
   clear G
   go_wp2_with fail
   refine (eP k _ J).mono ?_
   rintro e U ⟨Y, rfl, t, h⟩
   go_wp2_with fail
   obtain ⟨z, f⟩ : ∃ z : Int, z = n := ⟨_, rfl⟩
   rw [<- f] at Q ⊢
   have y := Lib.hid f
   clear f hn hc h1 h2
   refine (RV _ _ _ z _ t (by rw [CO]; exact Q.out)).mono ?_
   exact ZMb
 obtain ⟨k, rfl⟩ : ∃ k : Nat, n = (k : Int) := ⟨n.natAbs, by omega⟩
 have l : IV false k = (k : Int) := rfl
 have Q := Lib.hid l
 go_enter func136, ntmps136
 go_upto_region 1 with fail
 rw [<- G]
 clear G
 go_wp2_with fail
 refine (eP k _ AA).mono ?_
 rintro e U ⟨Y, rfl, t, h⟩
 go_wp2_with fail
 obtain ⟨z, f⟩ : ∃ z : Int, z = (k : Int) := ⟨_, rfl⟩
 rw [<- f]
 refine (RV _ _ _ z _ t (by rw [CO, f]; rfl)).mono ?_
 have y := Lib.hid f
 clear f l
 exact ZMb
def MP (n : Bool) (l : List Nat) : Bool := if l.length = 0 then !n else decide (gd l (l.length - 1) ≠ 0)
theorem Li (n : Bool) (s : Value) (l : List Nat) (w : World) (ha : Sl w s l) :
 Calls prog 126 #[.agg #[.bool n, s]] w (LN w (MP n l)) := by
 obtain ⟨J, u, rfl, N, I, H, C, v⟩ := ha
 have L := Lib.hid v
 clear v C H
 unfold maxLen at I
 obtain ⟨W, h, B, p, q⟩ := mJ w n (.slice J l.length u)
 have Q := q.1
 have P := q.2
 clear q
 by_cases f : l.length = 0
 . have e : MP n l = !n := by unfold MP; rw [if_pos f]
   rw [e]
   have G : ((l.length : Int) == 0) = true := by rw [f]; rfl
   clear e f
   exact Z5h
 obtain ⟨k, o⟩ : ∃ k, l.length = k + 1 := ⟨l.length - 1, by omega⟩
 have G : ((l.length : Int) == 0) = false := by rw [beq_eq_false_iff_ne]; omega
 obtain ⟨b, y, rfl, t⟩ := L.out k AA
 have t := DB t p
 have D : (l.length : Int) - 1 = (k : Int) := by omega
 by_cases hg : gd l k = 0
 . have e : MP n l = false := by unfold MP; rw [if_neg f, o, Nat.add_sub_cancel, hg]; rfl
   rw [e]
   rw [hg] at t
   clear e f o hg
   exact Z5h
 have e : MP n l = true := by unfold MP; rw [if_neg f, o, Nat.add_sub_cancel]; exact decide_eq_true hg
 rw [e]
 have F : (((gd l k : Nat) : Int) != 0) = true := by rw [bne_iff_ne]; omega
 clear e f o hg
 exact Z5h
theorem mL (va : Value) (x : Int) (w : World) (ha : IsI w va x) :
 Calls prog 126 #[va] w (LN w true) := by
 obtain ⟨s, rfl, k⟩ := ha
 have := Li (decide (x < 0)) s _ w k
 have e : MP (decide (x < 0)) (CD x.natAbs) = true := by
  unfold MP
  by_cases h : (CD x.natAbs).length = 0
  . rw [if_pos h]
    have := (YZ x).1 AA
    subst this; rfl
  rw [if_neg h]
  have f : 0 < x.natAbs := by
   rcases Nat.eq_zero_or_pos x.natAbs with e | e
   . rw [e, EG] at h; exact absurd rfl h
   exact e
  obtain ⟨l, y, e1, e2, _⟩ := XY x.natAbs f
  rw [e1, List.length_append, List.length_singleton, Nat.add_sub_cancel, MD _ _ _ (Nat.le_refl _), Nat.sub_self]
  exact decide_eq_true (by show y ≠ 0; omega)
 rwa [e] at this
set_option maxHeartbeats 2000000
theorem Ur (a : Nat) (ha : a < 4294967296) : bits .or .u64 0 ((a : Int)) = (a : Int) := by
 have := bits_or_u64_nat 0 a AA AA
 rw [Nat.zero_or] at this
 exact this
theorem Us (m a : Nat) (hm : m < 4294967296) (ha : a < 4294967296) : bits .or .u64 (m : Int) ((a : Int) * 4294967296) = ((m + 4294967296 * a : Nat) : Int) := by
 have e : (a : Int) * 4294967296 = ((a * 4294967296 : Nat) : Int) := by simp
 rw [e, bits_or_u64_nat _ _ AA AA]
 congr 1
 have := Nat.two_pow_add_eq_or_of_lt (i := 32) (by simpa using hm) a
 rw [Nat.or_comm, Nat.mul_comm a]
 rw [show (4294967296 : Nat) = 2 ^ 32 from rfl, <- this]
 omega
theorem lR {a b : Int} (h : a = b) : Ending.returned (.int .u64 a) = .returned (.int .u64 b) := by rw [h]
def RetV (w0 : World) (m : Nat) (e : Ending) (w' : World) : Prop := e = .returned (.int .u64 m) /\ w0 = w'
theorem XG (v : Value) (l : List Nat) (w : World) (h : Sl w v l) (hlen : l.length <= 2) :
 Calls prog 162 #[v] w (RetV w (val l)) := by
 obtain ⟨ao, cap, rfl, h1, h2, h3, hn, h4⟩ := h
 have H4 := Lib.hid h4
 have H3 := Lib.hid h3
 clear h4 hn h3
 unfold maxLen at h2
 go_enter func162, ntmps162
 go_wp2_with fail
 go_loop [3, 7] (fun sm i => ∃ (k m : Nat), k <= l.length /\ i = .int .i64 k /\ sm = .int .u64 m /\ Hid (m = val (l.take k)) /\ m < 18446744073709551616) (fun _ i => l.length - (intOf i).toNat)
 case atStart => exact ⟨0, 0, by omega, rfl, rfl, rfl, by omega⟩
 case round =>
  obtain ⟨k, m, hk, rfl, rfl, hm, hm2⟩ := hrel
  by_cases hlt : k < l.length
  . obtain ⟨b, off, rfl, hc⟩ := H4.out k hlt
    have hg := FL H3.out k
    by_cases hk0 : k = 0
    . subst hk0
      have hm0 : m = 0 := by rw [hm.out]; rfl
      subst hm0
      have hor := Ur (gd l 0) hg
      have HV : Hid (gd l 0 = val (l.take 1)) := by
       show gd l 0 = _
       rw [DQ, List.take_zero, eQ, Nat.pow_zero]; omega
      rw [Nat.add_zero] at hc
      clear hm hm2
      go_wp2_with fail
      go_round
      case rel => exact ⟨1, gd l 0, by omega, rfl, rfl, HV, by omega⟩
      case measure => simp [intOf]; omega
    obtain rfl : k = 1 := by omega
    have hm1 : m = gd l 0 := by rw [hm.out, DQ, List.take_zero, eQ, Nat.pow_zero]; omega
    have hg0 := FL H3.out 0
    have hor := Us m (gd l 1) AA hg
    have HV : Hid (m + 4294967296 * gd l 1 = val (l.take 2)) := by
     show _ = _
     rw [DQ, <- hm.out, Nat.pow_one]
    obtain ⟨t, ht⟩ : ∃ t, t = m + 4294967296 * gd l 1 := ⟨_, rfl⟩
    have ht2 : t < 18446744073709551616 := by omega
    rw [<- ht] at hor HV
    clear hm hm1 ht
    go_wp2_with fail
    go_round
    case rel => exact ⟨2, t, by omega, rfl, rfl, HV, ht2⟩
    case measure => simp [intOf]; omega
  obtain rfl : k = l.length := by omega
  have HV : Hid (m = val l) := by have := hm.out; rwa [List.take_length] at this
  clear hm
  go_wp2_with fail
  go_ret
  exact ⟨lR (by rw [HV.out]), rfl⟩
def LX (z : Int) : Bool := decide (-9223372036854775808 <= z) && decide (z <= 9223372036854775807)
def UF (z : Int) : Int := if LX z then z else 0
def RetS (w0 : World) (n : Int) (b : Bool) (e : Ending) (w' : World) : Prop := e = .returned (.tuple #[.int .i64 n, .bool b]) /\ Below w0.heap.size w0 w'
theorem RetS.eq {n m : Int} {b c : Bool} (h : RetS w n b e w') (h1 : n = m) (h2 : b = c) : RetS w m c e w' := by subst h1 h2; exact h
theorem rM (h : 2 < (CD z.natAbs).length) : LX z = false /\ UF z = 0 := by
 have := ZP h
 exact ZX6
theorem RU (h : z < -9223372036854775808 ∨ 9223372036854775807 < z) : LX z = false /\ UF z = 0 := by
 exact ZX6
theorem PE (h1 : -9223372036854775808 <= z) (h2 : z <= 9223372036854775807) : LX z = true /\ UF z = z := by
 have h : LX z = true := by unfold LX; rw [Bool.and_eq_true, decide_eq_true_eq, decide_eq_true_eq]; exact ⟨h1, h2⟩
 exact ⟨h, by unfold UF; rw [h]; rfl⟩
theorem Ht (va : Value) (x : Int) (w : World) (ha : IsI w va x) :
 Calls prog 147 #[va] w (RetS w (UF x) (LX x)) := by
 obtain ⟨L, t, rfl, P, H, a0⟩ := ha.parts
 have SA := Lib.hid P
 clear ha P
 obtain ⟨n, F⟩ : ∃ n, n = decide (x < 0) := ⟨_, rfl⟩
 obtain ⟨m, y⟩ : ∃ m, m = x.natAbs := ⟨_, rfl⟩
 obtain ⟨R, I⟩ : ∃ R, R = UF x := ⟨_, rfl⟩
 obtain ⟨c, G⟩ : ∃ c, c = LX x := ⟨_, rfl⟩
 rw [<- F, <- y]
 rw [<- y] at SA H
 rw [<- I, <- G]
 have u := Lib.hid I
 have v := Lib.hid G
 have HN := Lib.hid F
 have B := Lib.hid y
 clear I G F y
 obtain ⟨W, h, X, p, D⟩ := mJ w n (.slice L (CD m).length t)
 have c0 := D.1
 have c1 := D.2
 have S0 := Lib.hid (SA.out.below p)
 clear D
 by_cases q : 2 < (CD m).length
 . have hd : decide ((2 : Int) < ((CD m).length : Int)) = true := by simp; omega
   have f := Lib.hid (rM (z := x) (by rw [<- B.out]; exact q))
   go_enter func147, ntmps147
   go_upto_region 1 with fail
   rw [<- h]
   clear h
   go_wp2_with fail
   go_ret2
   exact RetS.eq ⟨rfl, p⟩ (by rw [u.out, f.out.2]) YIt
 have hd : decide ((2 : Int) < ((CD m).length : Int)) = false := by simp; omega
 have S : m < 18446744073709551616 := by
  have o := GV (GF m)
  rw [CO] at o
  have J := Nat.pow_le_pow_right (n := 4294967296) AA (show (CD m).length <= 2 by omega)
  omega
 cases n
 . have k : x = (m : Int) := by have o := HN.out; have J := B.out; have T : ¬ x < 0 := (by simpa using o.symm); omega
   by_cases hb : 9223372036854775808 <= m
   . have l : decide ((9223372036854775808 : Int) <= (m : Int)) = true := by simp; omega
     have f := Lib.hid (RU (z := x) (.inr AA))
     exact Zwh
   have l : decide ((9223372036854775808 : Int) <= (m : Int)) = false := by simp; omega
   have f := Lib.hid (PE (z := x) AA AA)
   have U := Lib.hid k
   clear k
   go_enter func147, ntmps147
   go_upto_region 1 with fail
   rw [<- h]
   clear h
   go_wp2_with fail
   refine (XG _ (CD m) _ S0.out AA).mono ?_
   rintro e C ⟨rfl, rfl⟩
   rw [CO]
   go_wp2_with fail
   go_ret2
   exact RetS.eq (n := (m : Int)) (b := true) ⟨rfl, p⟩ (by rw [u.out, f.out.2, U.out]) YIt
 have k : x = -(m : Int) := by have o := HN.out; have J := B.out; have T : x < 0 := (by simpa using o.symm); omega
 have Y : 0 < m := by have o := HN.out; have J := B.out; have T : x < 0 := (by simpa using o.symm); omega
 by_cases hb : 9223372036854775808 < m
 . have l : decide ((9223372036854775808 : Int) < (m : Int)) = true := by simp; omega
   have f := Lib.hid (RU (z := x) (.inl AA))
   exact Zwh
 have l : decide ((9223372036854775808 : Int) < (m : Int)) = false := by simp; omega
 have f := Lib.hid (PE (z := x) AA AA)
 have U := Lib.hid k
 have Q : IntKind.i64.wrap (IntKind.u64.wrap (-(m : Int))) = x := by rw [k]; simp only [IntKind.wrap_u64, IntKind.wrap_i64]; omega
 have N := Lib.hid Q
 clear k Q
 go_enter func147, ntmps147
 go_upto_region 1 with fail
 rw [<- h]
 clear h
 go_wp2_with fail
 refine (XG _ (CD m) _ S0.out AA).mono ?_
 rintro e C ⟨rfl, rfl⟩
 rw [CO]
 go_wp2_with fail
 go_ret2
 exact RetS.eq (n := wrap64 (IntKind.u64.wrap (-(m : Int)))) (b := true) ⟨rfl, p⟩ (by rw [u.out, f.out.2, <- IntWalk.i64_left, N.out]) YIt
def RetZE (w0 : World) (z : Int) (c : Int) (e : Ending) (w' : World) : Prop := ∃ v, e = .returned (.tuple #[v, .int .i64 c]) /\ IsI w' v z /\ Below w0.heap.size w0 w'
theorem RetZE.eq {n d : Int} (h : RetZE w z c e w') (hz : z = n) (hc : c = d) : RetZE w n d e w' := by subst hz hc; exact h
theorem DF (w : World) : IsI w (.agg #[.bool false, .slice none 0 0]) 0 := ⟨_, rfl, by rw [Int.natAbs_zero, EG]; exact eK w⟩
theorem nF (n : Nat) : IV false n = (n : Int) := rfl
theorem vC {x r : Int} (hy : y ≠ 0) (h : x = q * y + r) (h0 : 0 <= r) (h1 : r < y.natAbs) : x / y = q /\ x % y = r := by
 rcases Int.lt_or_gt_of_ne hy with k | f
 . have e := (Int.ediv_emod_unique (a := x) (b := -y) (r := r) (q := -q) AA).2 ⟨by rw [h, Int.neg_mul_neg, Int.mul_comm, Int.add_comm], h0, by omega⟩
   rw [Int.ediv_neg, Int.emod_neg] at e
   exact ⟨by omega, e.2⟩
 exact (Int.ediv_emod_unique (a := x) (b := y) (r := r) (q := q) f).2 ⟨by rw [h, Int.mul_comm, Int.add_comm], h0, by omega⟩
theorem zH {x : Int} {nx ny : Bool} (hy : y ≠ 0) (hnx : nx = decide (x < 0)) (hny : ny = decide (y < 0)) :
 (nx = true /\ 0 < x.natAbs % y.natAbs -> IV (!(nx == ny)) (x.natAbs / y.natAbs + 1) = x / y /\ ((y.natAbs - x.natAbs % y.natAbs : Nat) : Int) = x % y) /\
 (¬ (nx = true /\ 0 < x.natAbs % y.natAbs) -> IV (!(nx == ny)) (x.natAbs / y.natAbs) = x / y /\ ((x.natAbs % y.natAbs : Nat) : Int) = x % y) := by
 have u : 0 < y.natAbs := by omega
 have B := Nat.div_add_mod x.natAbs y.natAbs
 have C := Nat.mod_lt x.natAbs u
 generalize hq : x.natAbs / y.natAbs = q at *
 generalize hr : x.natAbs % y.natAbs = r at *
 constructor
 . rintro ⟨t, D⟩
   rw [t] at hnx
   have v : x < 0 := by simpa using hnx.symm
   have k : x = -((y.natAbs : Int) * q) - r := by omega
   subst t
   have o := vC (x := x) (y := y) (q := IV (!(true == ny)) (q + 1)) (r := ((y.natAbs - r : Nat) : Int)) hy ?_ AA AA
   . exact ⟨o.1.symm, o.2.symm⟩
   by_cases f : y < 0
   . have e : ny = true := by rw [hny]; simpa using f
     subst e
     have l : (y.natAbs : Int) = -y := by omega
     simp only [IV]
     rw [k, l, Int.ofNat_sub AA, l]
     simp
     grind
   have e : ny = false := by rw [hny]; simpa using f
   subst e
   have l : (y.natAbs : Int) = y := by omega
   simp only [IV]
   rw [k, l, Int.ofNat_sub AA, l]
   simp
   grind
 intro t
 by_cases v : x < 0
 . have e1 : nx = true := by rw [hnx]; simpa using v
   have p : r = 0 := by
    rcases Nat.eq_zero_or_pos r with h | h
    . exact h
    exact absurd ⟨e1, h⟩ t
   have k : x = -((y.natAbs : Int) * q) := by omega
   subst e1
   have o := vC (x := x) (y := y) (q := IV (!(true == ny)) q) (r := (r : Int)) hy ?_ AA AA
   . exact ⟨o.1.symm, o.2.symm⟩
   by_cases f : y < 0
   . have e : ny = true := by rw [hny]; simpa using f
     subst e
     have l : (y.natAbs : Int) = -y := by omega
     simp only [IV]
     rw [k, l, p]
     simp
     grind
   have e : ny = false := by rw [hny]; simpa using f
   subst e
   have l : (y.natAbs : Int) = y := by omega
   simp only [IV]
   rw [k, l, p]
   simp
   grind
 have e1 : nx = false := by rw [hnx]; simpa using v
 have k : x = (y.natAbs : Int) * q + r := by omega
 subst e1
 have o := vC (x := x) (y := y) (q := IV (!(false == ny)) q) (r := (r : Int)) hy ?_ AA AA
 . exact ⟨o.1.symm, o.2.symm⟩
 by_cases f : y < 0
 . have e : ny = true := by rw [hny]; simpa using f
   subst e
   have l : (y.natAbs : Int) = -y := by omega
   simp only [IV]
   rw [k, l]
   simp
   grind
 have e : ny = false := by rw [hny]; simpa using f
 subst e
 have l : (y.natAbs : Int) = y := by omega
 simp only [IV]
 rw [k, l]
 simp
 grind
theorem NY : Fn prog 126 := ⟨_, func126, by kernel_rfl, rfl⟩
theorem oQ : Fn prog 165 := ⟨_, func165, by kernel_rfl, rfl⟩
theorem oO : Fn prog 194 := ⟨_, func194, by kernel_rfl, rfl⟩
theorem OV : Fn prog 150 := ⟨_, func150, by kernel_rfl, rfl⟩
theorem oN : Fn prog 91 := ⟨_, func91, by kernel_rfl, rfl⟩
theorem TE : Fn prog 127 := ⟨_, func127, by kernel_rfl, rfl⟩
theorem TD : Fn prog 169 := ⟨_, func169, by kernel_rfl, rfl⟩
theorem DR : Fn prog 137 := ⟨_, func137, by kernel_rfl, rfl⟩
theorem DJ : Fn prog 113 := ⟨_, func113, by kernel_rfl, rfl⟩
theorem WR : Fn prog 136 := ⟨_, func136, by kernel_rfl, rfl⟩
theorem NZ : Fn prog 147 := ⟨_, func147, by kernel_rfl, rfl⟩
theorem jE : Fn prog 160 := ⟨_, func160, by kernel_rfl, rfl⟩
theorem oP : Fn prog 129 := ⟨_, func129, by kernel_rfl, rfl⟩
theorem cT : Fn prog 123 := ⟨_, func123, by kernel_rfl, rfl⟩
theorem RN : Fn prog 151 := ⟨_, func151, by kernel_rfl, rfl⟩
theorem WT : Fn prog 76 := ⟨_, func76, by kernel_rfl, rfl⟩
theorem ET : Fn prog 77 := ⟨_, func77, by kernel_rfl, rfl⟩
theorem NP : Fn prog 103 := ⟨_, func103, by kernel_rfl, rfl⟩
theorem EI : Fn prog 105 := ⟨_, func105, by kernel_rfl, rfl⟩
theorem WC : Fn prog 138 := ⟨_, func138, by kernel_rfl, rfl⟩
theorem jB : Fn prog 139 := ⟨_, func139, by kernel_rfl, rfl⟩
theorem ED : Fn prog 58 := ⟨_, func58, by kernel_rfl, rfl⟩
theorem kV : Fn prog 161 := ⟨_, func161, by kernel_rfl, rfl⟩
theorem YV : Fn prog 189 := ⟨_, func189, by kernel_rfl, rfl⟩
theorem IJ : Fn prog 173 := ⟨_, func173, by kernel_rfl, rfl⟩
theorem MY : Fn prog 174 := ⟨_, func174, by kernel_rfl, rfl⟩
theorem IZ : Fn prog 119 := ⟨_, func119, by kernel_rfl, rfl⟩
theorem KH : Fn prog 122 := ⟨_, func122, by kernel_rfl, rfl⟩
theorem ME : Fn prog 106 := ⟨_, func106, by kernel_rfl, rfl⟩
theorem PZ : Fn prog 187 := ⟨_, func187, by kernel_rfl, rfl⟩
theorem TG : Fn prog 121 := ⟨_, func121, by kernel_rfl, rfl⟩
theorem jD : Fn prog 159 := ⟨_, func159, by kernel_rfl, rfl⟩
theorem KI : Fn prog 114 := ⟨_, func114, by kernel_rfl, rfl⟩
theorem cS : Fn prog 112 := ⟨_, func112, by kernel_rfl, rfl⟩
theorem QA : Fn prog 110 := ⟨_, func110, by kernel_rfl, rfl⟩
theorem LY : Fn prog 120 := ⟨_, func120, by kernel_rfl, rfl⟩
theorem gQ : Fn prog 155 := ⟨_, func155, by kernel_rfl, rfl⟩
theorem OB : Fn prog 156 := ⟨_, func156, by kernel_rfl, rfl⟩
theorem MX : Fn prog 80 := ⟨_, func80, by kernel_rfl, rfl⟩
theorem OU : Fn prog 108 := ⟨_, func108, by kernel_rfl, rfl⟩
theorem VZ : Fn prog 89 := ⟨_, func89, by kernel_rfl, rfl⟩
theorem ZI : Fn prog 111 := ⟨_, func111, by kernel_rfl, rfl⟩
theorem oT : Fn prog 30 := ⟨_, func30, by kernel_rfl, rfl⟩
theorem XS : Fn prog 132 := ⟨_, func132, by kernel_rfl, rfl⟩
theorem oS : Fn prog 92 := ⟨_, func92, by kernel_rfl, rfl⟩
theorem ZH : Fn prog 130 := ⟨_, func130, by kernel_rfl, rfl⟩
theorem EN : Fn prog 81 := ⟨_, func81, by kernel_rfl, rfl⟩
theorem OR : Fn prog 44 := ⟨_, func44, by kernel_rfl, rfl⟩
theorem PX : Fn prog 88 := ⟨_, func88, by kernel_rfl, rfl⟩
theorem EB : Fn prog 128 := ⟨_, func128, by kernel_rfl, rfl⟩
theorem VY : Fn prog 135 := ⟨_, func135, by kernel_rfl, rfl⟩
theorem JO : Fn prog 153 := ⟨_, func153, by kernel_rfl, rfl⟩
theorem GS : Fn prog 78 := ⟨_, func78, by kernel_rfl, rfl⟩
theorem VA : Fn prog 140 := ⟨_, func140, by kernel_rfl, rfl⟩
theorem TL : Fn prog 166 := ⟨_, func166, by kernel_rfl, rfl⟩
theorem OT : Fn prog 124 := ⟨_, func124, by kernel_rfl, rfl⟩
theorem cR : Fn prog 60 := ⟨_, func60, by kernel_rfl, rfl⟩
theorem qL : Fn prog 57 := ⟨_, func57, by kernel_rfl, rfl⟩
theorem WS : Fn prog 69 := ⟨_, func69, by kernel_rfl, rfl⟩
theorem GM : Fn prog 22 := ⟨_, func22, by kernel_rfl, rfl⟩
theorem ER : Fn prog 55 := ⟨_, func55, by kernel_rfl, rfl⟩
theorem RM : Fn prog 154 := ⟨_, func154, by kernel_rfl, rfl⟩
theorem RBox.other {r' : Nat} (h : RBox w r) (hne : r ≠ r') (n' : Bool) (s' : Value) : RBox ((w.setCell ⟨r', 0, none⟩ (.bool n')).setCell ⟨r', 1, none⟩ s') r := by
 obtain ⟨⟨n, p, len, e, o, l⟩, k, f⟩ := h
 exact ⟨⟨n, p, len, e, NH o hne, NH l hne⟩, by simp [k], by simp [f]⟩
def RetDM (w0 : World) (q r c : Int) (e : Ending) (w' : World) : Prop := ∃ v u, e = .returned (.tuple #[v, u, .int .i64 c]) /\ IsI w' v q /\ IsI w' u r /\ Below w0.heap.size w0 w'
theorem RetDM.eq {r q' r' c' : Int} (h : RetDM w q r c e w') (h1 : q = q') (h2 : r = r') (h3 : c = c') : RetDM w q' r' c' e w' := by subst h1 h2 h3; exact h
theorem Qn {x : Int} (h : Fits x n) : (CD (x.natAbs / y.natAbs)).length <= n := Nat.le_trans (FZ (Nat.div_le_self _ _)) h
theorem VB : Fn prog 10 := ⟨_, func10, by kernel_rfl, rfl⟩
theorem GI : Fn prog 12 := ⟨_, func12, by kernel_rfl, rfl⟩
theorem LJ : Fn prog 13 := ⟨_, func13, by kernel_rfl, rfl⟩
theorem NO : Fn prog 14 := ⟨_, func14, by kernel_rfl, rfl⟩
theorem kU : Fn prog 17 := ⟨_, func17, by kernel_rfl, rfl⟩
theorem TA : Fn prog 18 := ⟨_, func18, by kernel_rfl, rfl⟩
theorem oR : Fn prog 19 := ⟨_, func19, by kernel_rfl, rfl⟩
theorem kZ : Fn prog 20 := ⟨_, func20, by kernel_rfl, rfl⟩
theorem TF : Fn prog 21 := ⟨_, func21, by kernel_rfl, rfl⟩
theorem UZ : Fn prog 23 := ⟨_, func23, by kernel_rfl, rfl⟩
theorem RK : Fn prog 24 := ⟨_, func24, by kernel_rfl, rfl⟩
theorem UW : Fn prog 27 := ⟨_, func27, by kernel_rfl, rfl⟩
theorem kW : Fn prog 28 := ⟨_, func28, by kernel_rfl, rfl⟩
theorem LK : Fn prog 31 := ⟨_, func31, by kernel_rfl, rfl⟩
theorem JA : Fn prog 32 := ⟨_, func32, by kernel_rfl, rfl⟩
theorem qJ : Fn prog 33 := ⟨_, func33, by kernel_rfl, rfl⟩
theorem kX : Fn prog 35 := ⟨_, func35, by kernel_rfl, rfl⟩
theorem LI : Fn prog 36 := ⟨_, func36, by kernel_rfl, rfl⟩
theorem JB : Fn prog 37 := ⟨_, func37, by kernel_rfl, rfl⟩
theorem JM : Fn prog 38 := ⟨_, func38, by kernel_rfl, rfl⟩
theorem dT : Fn prog 39 := ⟨_, func39, by kernel_rfl, rfl⟩
theorem II : Fn prog 42 := ⟨_, func42, by kernel_rfl, rfl⟩
theorem TC : Fn prog 43 := ⟨_, func43, by kernel_rfl, rfl⟩
theorem UY : Fn prog 45 := ⟨_, func45, by kernel_rfl, rfl⟩
theorem IY : Fn prog 47 := ⟨_, func47, by kernel_rfl, rfl⟩
theorem JN : Fn prog 54 := ⟨_, func54, by kernel_rfl, rfl⟩
theorem qK : Fn prog 56 := ⟨_, func56, by kernel_rfl, rfl⟩
theorem IM : Fn prog 59 := ⟨_, func59, by kernel_rfl, rfl⟩
theorem OS : Fn prog 61 := ⟨_, func61, by kernel_rfl, rfl⟩
theorem XT : Fn prog 66 := ⟨_, func66, by kernel_rfl, rfl⟩
theorem KG : Fn prog 67 := ⟨_, func67, by kernel_rfl, rfl⟩
theorem FT : Fn prog 68 := ⟨_, func68, by kernel_rfl, rfl⟩
theorem cD : Fn prog 70 := ⟨_, func70, by kernel_rfl, rfl⟩
theorem JI : Fn prog 71 := ⟨_, func71, by kernel_rfl, rfl⟩
theorem DH : Fn prog 72 := ⟨_, func72, by kernel_rfl, rfl⟩
theorem dV : Fn prog 73 := ⟨_, func73, by kernel_rfl, rfl⟩
theorem UX : Fn prog 75 := ⟨_, func75, by kernel_rfl, rfl⟩
theorem gO : Fn prog 82 := ⟨_, func82, by kernel_rfl, rfl⟩
theorem cC : Fn prog 83 := ⟨_, func83, by kernel_rfl, rfl⟩
theorem FS : Fn prog 84 := ⟨_, func84, by kernel_rfl, rfl⟩
theorem KP : Fn prog 90 := ⟨_, func90, by kernel_rfl, rfl⟩
theorem RA : Fn prog 94 := ⟨_, func94, by kernel_rfl, rfl⟩
theorem PW : Fn prog 95 := ⟨_, func95, by kernel_rfl, rfl⟩
theorem IR : Fn prog 101 := ⟨_, func101, by kernel_rfl, rfl⟩
theorem kY : Fn prog 104 := ⟨_, func104, by kernel_rfl, rfl⟩
theorem DS : Fn prog 107 := ⟨_, func107, by kernel_rfl, rfl⟩
theorem PY : Fn prog 109 := ⟨_, func109, by kernel_rfl, rfl⟩
theorem UV : Fn prog 115 := ⟨_, func115, by kernel_rfl, rfl⟩
theorem OA : Fn prog 116 := ⟨_, func116, by kernel_rfl, rfl⟩
theorem IK : Fn prog 118 := ⟨_, func118, by kernel_rfl, rfl⟩
theorem IH : Fn prog 141 := ⟨_, func141, by kernel_rfl, rfl⟩
theorem FH : Fn prog 142 := ⟨_, func142, by kernel_rfl, rfl⟩
theorem gP : Fn prog 152 := ⟨_, func152, by kernel_rfl, rfl⟩
theorem jC : Fn prog 157 := ⟨_, func157, by kernel_rfl, rfl⟩
theorem dU : Fn prog 175 := ⟨_, func175, by kernel_rfl, rfl⟩
end Go.Proofs.YtmppigbbkjepiaaGreatDoor
