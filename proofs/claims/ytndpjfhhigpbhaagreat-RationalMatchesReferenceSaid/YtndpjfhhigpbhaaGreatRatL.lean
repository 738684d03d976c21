/- Plain laws of rational numbers: lowest terms, order, the simplest number of an interval; how many words they have. Rationals: two integers in four cells. Their rules, and isOne. -/
import Derived.Test.YtndpjfhhigpbhaaGreatBoxI
import Derived.Test.YtndpjfhhigpbhaaGreatApi
import Derived.Test.YtndpjfhhigpbhaaGreatBezD
import Derived.Test.YtndpjfhhigpbhaaGreatKitF
import Derived.Test.YtndpjfhhigpbhaaGreatTxtL
import Derived.Test.YtndpjfhhigpbhaaGreatApi3
namespace Go.Proofs.YtndpjfhhigpbhaaGreat
open Go.RowKit W
/-! ### lowest terms -/
theorem low_num {n d : Int} (h : 0 < d) : (Rat.divInt n d).num = n / ((Nat.gcd n.natAbs d.natAbs : Nat) : Int) := by
  rw [Rat.num_divInt, Int.sign_eq_one_of_pos h, Int.one_mul, Nat.gcd_comm]; rfl
theorem low_den {n d : Int} (h : 0 < d) : (((Rat.divInt n d).den : Nat) : Int) = d / ((Nat.gcd n.natAbs d.natAbs : Nat) : Int) := by
  rw [Rat.den_divInt, if_neg (by omega), Nat.gcd_comm, Int.natCast_ediv, Int.natAbs_of_nonneg (by omega)]; rfl
theorem low_gpos {n d : Int} (h : d ≠ 0) : ((Nat.gcd n.natAbs d.natAbs : Nat) : Int) ≠ 0 := by
  have : 0 < Nat.gcd n.natAbs d.natAbs := Nat.gcd_pos_of_pos_right _ (by omega)
  omega
theorem low_one {n d : Int} (h : 0 < d) (hg : ((Nat.gcd n.natAbs d.natAbs : Nat) : Int) = 1) : (Rat.divInt n d).num = n ∧ (((Rat.divInt n d).den : Nat) : Int) = d := by
  rw [low_num h, low_den h, hg, Int.ediv_one, Int.ediv_one]; exact ⟨rfl, rfl⟩
theorem low_den1 {n d : Int} (hd : d = 1) : (Rat.divInt n d).num = n ∧ (((Rat.divInt n d).den : Nat) : Int) = d := by
  subst hd
  exact low_one (by decide) (by simp)
theorem low_neg_num {n d : Int} (h : d < 0) : (Rat.divInt n d).num = n / (-((Nat.gcd n.natAbs d.natAbs : Nat) : Int)) := by
  rw [show Rat.divInt n d = Rat.divInt (-n) (-d) from (Rat.neg_divInt_neg n d).symm, low_num (by omega), Int.natAbs_neg, Int.natAbs_neg, Int.ediv_neg, Int.neg_ediv_of_dvd]
  exact Int.ofNat_dvd_left.2 (Nat.gcd_dvd_left _ _)
theorem low_neg_den {n d : Int} (h : d < 0) : (((Rat.divInt n d).den : Nat) : Int) = d / (-((Nat.gcd n.natAbs d.natAbs : Nat) : Int)) := by
  rw [show Rat.divInt n d = Rat.divInt (-n) (-d) from (Rat.neg_divInt_neg n d).symm, low_den (by omega), Int.natAbs_neg, Int.natAbs_neg, Int.ediv_neg, Int.neg_ediv_of_dvd]
  exact Int.ofNat_dvd_left.2 (Nat.gcd_dvd_right _ _)
theorem low_num_le (n d : Int) : (Rat.divInt n d).num.natAbs ≤ n.natAbs := by
  rcases Int.lt_trichotomy d 0 with h | h | h
  · rw [low_neg_num h, Int.ediv_neg, Int.natAbs_neg]; exact Int.natAbs_ediv_le_natAbs _ _
  · subst h; simp
  · rw [low_num h]; exact Int.natAbs_ediv_le_natAbs _ _
theorem low_den_le {n d : Int} (h0 : d ≠ 0) : (Rat.divInt n d).den ≤ d.natAbs := by
  have h1 : ((((Rat.divInt n d).den : Nat) : Int)).natAbs = (Rat.divInt n d).den := Int.natAbs_natCast _
  rcases Int.lt_trichotomy d 0 with h | h | h
  · rw [← h1, low_neg_den h, Int.ediv_neg, Int.natAbs_neg]; exact Int.natAbs_ediv_le_natAbs _ _
  · exact absurd h h0
  · rw [← h1, low_den h]; exact Int.natAbs_ediv_le_natAbs _ _
theorem denI (x : Rat) : 0 < ((x.den : Nat) : Int) := Int.natCast_pos.2 x.den_pos
theorem addQ (x y : Rat) : Rat.divInt (x.num * y.den + y.num * x.den) ((x.den : Int) * y.den) = x + y := by
  rw [← Int.natCast_mul, Rat.divInt_ofNat, Rat.add_def']
theorem mulQ (x y : Rat) : Rat.divInt (x.num * y.num) ((x.den : Int) * y.den) = x * y := by
  rw [← Int.natCast_mul, Rat.divInt_ofNat, Rat.mul_def']
theorem num_dvd {n d : Int} (h : 0 < d) : (Rat.divInt n d).num.natAbs ∣ n.natAbs := by
  rw [low_num h]
  have : ((Nat.gcd n.natAbs d.natAbs : Nat) : Int) ∣ n := Int.ofNat_dvd_left.2 (Nat.gcd_dvd_left _ _)
  exact Int.natAbs_dvd_natAbs.2 (Int.ediv_dvd_of_dvd this)
theorem den_dvd {n d : Int} (h : 0 < d) : (Rat.divInt n d).den ∣ d.natAbs := by
  have h1 : ((((Rat.divInt n d).den : Nat) : Int)).natAbs = (Rat.divInt n d).den := Int.natAbs_natCast _
  rw [← h1, low_den h]
  have : ((Nat.gcd n.natAbs d.natAbs : Nat) : Int) ∣ d := Int.ofNat_dvd_left.2 (Nat.gcd_dvd_right _ _)
  exact Int.natAbs_dvd_natAbs.2 (Int.ediv_dvd_of_dvd this)
/-- What the program multiplies: numerators and denominators made coprime crosswise. -/
theorem mul_cross (x y : Rat) : (x * y).num = (Rat.divInt x.num y.den).num * (Rat.divInt y.num x.den).num ∧ (((x * y).den : Nat) : Int) = (((Rat.divInt x.num y.den).den : Nat) : Int) * (((Rat.divInt y.num x.den).den : Nat) : Int) := by
  have hy := denI y; have hx := denI x
  have e : x * y = Rat.divInt x.num y.den * Rat.divInt y.num x.den := by
    rw [Rat.divInt_mul_divInt, Int.mul_comm (y.den : Int), mulQ]
  have n1 := num_dvd (n := x.num) hy; have d1 := den_dvd (n := x.num) hy
  have n2 := num_dvd (n := y.num) hx; have d2 := den_dvd (n := y.num) hx
  rw [Int.natAbs_natCast] at d1 d2
  rw [e]
  generalize Rat.divInt x.num y.den = l at *
  generalize Rat.divInt y.num x.den = r at *
  have c1 : Nat.Coprime l.num.natAbs r.den := Nat.Coprime.coprime_dvd_left n1 (Nat.Coprime.coprime_dvd_right d2 x.reduced)
  have c2 : Nat.Coprime r.num.natAbs l.den := Nat.Coprime.coprime_dvd_left n2 (Nat.Coprime.coprime_dvd_right d1 y.reduced)
  have c : (l.num * r.num).natAbs.gcd (l.den * r.den) = 1 := by
    rw [Int.natAbs_mul]
    exact Nat.Coprime.mul_left (Nat.Coprime.mul_right l.reduced c1) (Nat.Coprime.mul_right c2 r.reduced)
  rw [Rat.num_mul, Rat.den_mul, c]
  simp
theorem negQ_num (x : Rat) : (-x).num = -x.num := rfl
theorem negQ_den (x : Rat) : (-x).den = x.den := rfl
theorem subQ (x y : Rat) : x + -y = x - y := (Rat.sub_eq_add_neg x y).symm
theorem invQ_pos {x : Rat} (h : 0 < x.num) : (x⁻¹).num = x.den ∧ (((x⁻¹).den : Nat) : Int) = x.num := by
  rw [Rat.num_inv, Rat.den_inv, if_neg (by omega), Int.sign_eq_one_of_pos h, Int.one_mul]
  exact ⟨rfl, by omega⟩
theorem invQ_neg {x : Rat} (h : x.num < 0) : (x⁻¹).num = -(x.den : Int) ∧ (((x⁻¹).den : Nat) : Int) = -x.num := by
  rw [Rat.num_inv, Rat.den_inv, if_neg (by omega), Int.sign_eq_neg_one_of_neg h]
  exact ⟨by omega, by omega⟩
theorem invQ_div (x : Rat) : Rat.divInt x.den x.num = x⁻¹ := (Rat.inv_def x).symm
theorem divQ (x y : Rat) : Rat.divInt (x.num * y.den) ((x.den : Int) * y.num) = x / y := by
  rw [Rat.div_def, Rat.inv_def, ← Rat.divInt_mul_divInt, Rat.num_divInt_den]
theorem num_ne {x : Rat} (h : x ≠ 0) : x.num ≠ 0 := fun e => h (Rat.num_eq_zero.1 e)
/-! ### order -/
def cmpQ (x y : Rat) : Int := cmpI (x.num * y.den) (y.num * x.den)
theorem cmpQ_vals (x y : Rat) : (x < y ∧ cmpQ x y = -1) ∨ (x = y ∧ cmpQ x y = 0) ∨ (y < x ∧ cmpQ x y = 1) := by
  have h1 := Rat.lt_iff x y; have h2 := Rat.lt_iff y x; have h3 := @Rat.eq_iff_mul_eq_mul x y
  unfold cmpQ cmpI
  split
  · exact .inl ⟨h1.2 ‹_›, rfl⟩
  · split
    · exact .inr (.inl ⟨h3.2 ‹_›, rfl⟩)
    · exact .inr (.inr ⟨h2.2 (by omega), rfl⟩)
theorem sgnQ_pos {z : Int} (h : 0 < z) : sgn z = 1 := by unfold sgn cmpI; rw [if_neg (by omega), if_neg (by omega)]
theorem sgnQ_neg {z : Int} (h : z < 0) : sgn z = -1 := by unfold sgn cmpI; rw [if_pos h]
theorem cmpQ_slt {x y : Rat} (h : sgn x.num < sgn y.num) : cmpQ x y = -1 := by
  have hx := denI x; have hy := denI y
  have : x.num * y.den < y.num * x.den := by
    rcases Int.lt_trichotomy x.num 0 with h1 | h1 | h1
    · have a1 := Int.mul_neg_of_neg_of_pos h1 hy
      rcases Int.lt_trichotomy y.num 0 with h2 | h2 | h2
      · rw [sgnQ_neg h1, sgnQ_neg h2] at h; omega
      · rw [h2, Int.zero_mul]; exact a1
      · have := Int.mul_pos h2 hx; omega
    · rcases Int.lt_trichotomy y.num 0 with h2 | h2 | h2
      · rw [h1, sgnQ_neg h2] at h; exact absurd h (by decide)
      · rw [h1, h2] at h; omega
      · have := Int.mul_pos h2 hx; rw [h1, Int.zero_mul]; omega
    · rcases Int.lt_trichotomy y.num 0 with h2 | h2 | h2
      · rw [sgnQ_pos h1, sgnQ_neg h2] at h; omega
      · rw [h2, sgnQ_pos h1] at h; exact absurd h (by decide)
      · rw [sgnQ_pos h1, sgnQ_pos h2] at h; omega
  unfold cmpQ cmpI; rw [if_pos this]
theorem cmpQ_swap (x y : Rat) : cmpQ y x = -cmpQ x y := by
  unfold cmpQ cmpI; split <;> split <;> (try split) <;> omega
theorem cmpQ_sgt {x y : Rat} (h : sgn y.num < sgn x.num) : cmpQ x y = 1 := by
  have := cmpQ_slt h; have := cmpQ_swap x y; omega
/-! ### the simplest number of an interval -/
theorem floorQ (x : Rat) : x.num / (x.den : Int) = x.floor := (Rat.floor_def x).symm
/-- c is the simplest number from a to b (both positive). -/
structure IsSimp (c a b : Rat) : Prop where
  lo : a ≤ c
  hi : c ≤ b
  num : ∀ r : Rat, a ≤ r → r ≤ b → c.num ≤ r.num
  den : ∀ r : Rat, a ≤ r → r ≤ b → c.den ≤ r.den
theorem IsSimp.unique {c d a b : Rat} (h : IsSimp c a b) (g : IsSimp d a b) : c = d :=
  Rat.ext (Int.le_antisymm (h.num d g.lo g.hi) (g.num c h.lo h.hi)) (Nat.le_antisymm (h.den d g.lo g.hi) (g.den c h.lo h.hi))
theorem le_int {f : Int} {r : Rat} : (f : Rat) ≤ r ↔ f * r.den ≤ r.num := by rw [Rat.le_iff]; simp
theorem lt_int {f : Int} {r : Rat} : (f : Rat) < r ↔ f * r.den < r.num := by rw [Rat.lt_iff]; simp
theorem int_le {f : Int} {r : Rat} : r ≤ (f : Rat) ↔ r.num ≤ f * r.den := by rw [Rat.le_iff]; simp
theorem int_lt {f : Int} {r : Rat} : r < (f : Rat) ↔ r.num < f * r.den := by rw [Rat.lt_iff]; simp
theorem mul_den_ge {f : Int} (h : 0 ≤ f) (r : Rat) : f ≤ f * r.den := by
  have := denI r
  have h2 := Int.mul_le_mul_of_nonneg_left (show (1 : Int) ≤ r.den by omega) h
  omega
theorem floor_pos {a : Rat} (h : 0 < a) : 0 ≤ a.floor := by
  have h0 : (0 : Int) ≤ a.num := by
    have := (Rat.lt_iff 0 a).1 h; simp at this; omega
  rw [Rat.floor_def]; exact Int.ediv_nonneg h0 (by have := denI a; omega)
theorem simp_floor {a b : Rat} (ha : 0 < a) (hab : a ≤ b) (h : ((a.floor : Int) : Rat) = a) : IsSimp (a.floor : Rat) a b := by
  have hf := floor_pos ha
  generalize a.floor = f at *
  subst h
  refine ⟨Rat.le_refl, hab, fun r h1 _ => ?_, fun r _ _ => ?_⟩
  · have := le_int.1 h1; have := mul_den_ge hf r; simp; omega
  · simp; exact r.den_pos
theorem succ_int (f : Int) : (f : Rat) + 1 = ((f + 1 : Int) : Rat) := by simp
theorem lt_of_lt_le {a b c : Rat} (h : a < b) (g : b ≤ c) : a < c := by
  rw [Rat.lt_iff_le_and_not_ge] at h ⊢
  exact ⟨Rat.le_trans h.1 g, fun k => h.2 (Rat.le_trans g k)⟩
theorem lt_of_le_lt {a b c : Rat} (h : a ≤ b) (g : b < c) : a < c := by
  rw [Rat.lt_iff_le_and_not_ge] at g ⊢
  exact ⟨Rat.le_trans h g.1, fun k => g.2 (Rat.le_trans k h)⟩
theorem simp_next {a b : Rat} (ha : 0 < a) (h : ((a.floor : Int) : Rat) ≠ a) (hb : ((a.floor : Int) : Rat) + 1 ≤ b) : IsSimp ((a.floor : Rat) + 1) a b := by
  have hf := floor_pos ha
  have h1 : ((a.floor : Int) : Rat) ≤ a := Rat.floor_le a
  have h2 := Rat.lt_floor_add_one a
  have h3 : ((a.floor : Int) : Rat) < a := Rat.lt_of_le_of_ne h1 h
  rw [succ_int] at *
  generalize a.floor = f at *
  refine ⟨Rat.le_of_lt h2, hb, fun r g1 _ => ?_, fun r _ _ => ?_⟩
  · have := lt_int.1 (lt_of_lt_le h3 g1); have := mul_den_ge hf r; rw [Rat.num_intCast]; omega
  · rw [Rat.den_intCast]; exact r.den_pos
theorem subI_num (x : Rat) (f : Int) : (x - (f : Rat)).num = x.num - f * x.den ∧ (x - (f : Rat)).den = x.den := by
  have hx := x.reduced
  have c : Nat.Coprime (x.num - f * x.den).natAbs x.den := by
    unfold Nat.Coprime at *
    have e : ∀ z : Int, z.natAbs.gcd x.den = Int.gcd z (x.den : Int) := fun z => rfl
    rw [e] at hx ⊢
    rw [← hx]
    simp
  have : x - (f : Rat) = ⟨x.num - f * x.den, x.den, x.den_nz, c⟩ := by
    rw [Rat.mk_eq_mkRat, Rat.sub_def']; simp
  rw [this]; exact ⟨rfl, rfl⟩
/-- The rests of both ends above an integer, turned over. -/
theorem step_facts {a b : Rat} (_ : 0 < a) (hab : a ≤ b) (h : ((a.floor : Int) : Rat) ≠ a) (hb : ¬ ((a.floor : Int) : Rat) + 1 ≤ b) :
    0 < b - (a.floor : Rat) ∧ 0 < a - (a.floor : Rat) ∧ a - (a.floor : Rat) ≤ b - (a.floor : Rat) ∧ (b - (a.floor : Rat)).num < (b - (a.floor : Rat)).den ∧ (a - (a.floor : Rat)).num < (a - (a.floor : Rat)).den := by
  have h1 : ((a.floor : Int) : Rat) ≤ a := Rat.floor_le a
  have h2 := Rat.lt_floor_add_one a
  have h3 : ((a.floor : Int) : Rat) < a := Rat.lt_of_le_of_ne h1 h
  rw [succ_int] at *
  generalize a.floor = f at *
  have hb' := Rat.not_le.1 hb
  have g1 := (Rat.lt_iff_sub_pos _ _).1 h3
  have g2 := (Rat.lt_iff_sub_pos _ _).1 (lt_of_lt_le h3 hab)
  refine ⟨g2, g1, ?_, ?_, ?_⟩
  · rw [Rat.sub_eq_add_neg, Rat.sub_eq_add_neg]; exact Rat.add_le_add_right.2 hab
  · rw [(subI_num b f).1, (subI_num b f).2]
    have := int_lt.1 hb'; rw [Int.add_mul] at this; omega
  · rw [(subI_num a f).1, (subI_num a f).2]
    have := int_lt.1 h2; rw [Int.add_mul] at this; omega
theorem pos_num {x : Rat} : 0 < x ↔ 0 < x.num := by
  rw [Rat.lt_iff]; simp
theorem num_le_of {x y : Rat} : x ≤ y ↔ x.num * y.den ≤ y.num * x.den := Rat.le_iff x y
/-- Turning over turns the order. -/
theorem inv_le {x y : Rat} (hx : 0 < x) (hxy : x ≤ y) : y⁻¹ ≤ x⁻¹ := by
  have hy : 0 < y := lt_of_lt_le hx hxy
  rw [Rat.le_iff] at hxy ⊢
  rw [(invQ_pos (pos_num.1 hx)).1, (invQ_pos (pos_num.1 hy)).1, (invQ_pos (pos_num.1 hx)).2, (invQ_pos (pos_num.1 hy)).2]
  rw [Int.mul_comm (y.den : Int), Int.mul_comm (x.den : Int)]; exact hxy
theorem inv_pos {x : Rat} (h : 0 < x) : 0 < x⁻¹ := Rat.inv_pos.2 h
theorem step_dens {a b : Rat} (ha : 0 < a) (hab : a ≤ b) (h : ((a.floor : Int) : Rat) ≠ a) (hb : ¬ ((a.floor : Int) : Rat) + 1 ≤ b) :
    (b - (a.floor : Rat))⁻¹.den + (a - (a.floor : Rat))⁻¹.den < a.den + b.den ∧ (b - (a.floor : Rat))⁻¹.num = b.den ∧ (a - (a.floor : Rat))⁻¹.num = a.den ∧ (b - (a.floor : Rat))⁻¹.den < b.den ∧ (a - (a.floor : Rat))⁻¹.den < a.den := by
  obtain ⟨g1, g2, _, g4, g5⟩ := step_facts ha hab h hb
  obtain ⟨i1, i2⟩ := invQ_pos (pos_num.1 g1)
  obtain ⟨j1, j2⟩ := invQ_pos (pos_num.1 g2)
  rw [(subI_num b _).2] at i1 g4
  rw [(subI_num a _).2] at j1 g5
  refine ⟨by omega, i1, j1, by omega, by omega⟩
/-- The number whose rest, turned over, is the simplest. -/
theorem simp_step {a b c : Rat} (ha : 0 < a) (hab : a ≤ b) (h : ((a.floor : Int) : Rat) ≠ a) (hb : ¬ ((a.floor : Int) : Rat) + 1 ≤ b)
    (hc : IsSimp c (b - (a.floor : Rat))⁻¹ (a - (a.floor : Rat))⁻¹) : IsSimp ((a.floor : Rat) + c⁻¹) a b := by
  obtain ⟨g1, g2, g3, _, _⟩ := step_facts ha hab h hb
  have hf := floor_pos ha
  have h1 : ((a.floor : Int) : Rat) ≤ a := Rat.floor_le a
  have h3 : ((a.floor : Int) : Rat) < a := Rat.lt_of_le_of_ne h1 h
  clear hb
  generalize a.floor = f at *
  have cp : 0 < c := lt_of_lt_le (inv_pos g1) hc.lo
  have ci : 0 < c⁻¹ := inv_pos cp
  -- numerator and denominator of f + 1/c
  have key : ∀ r : Rat, 0 < r → ((f : Rat) + r⁻¹).num = f * r.num + r.den ∧ ((((f : Rat) + r⁻¹).den : Nat) : Int) = r.num := by
    intro r hr
    have e1 : ((f : Rat) + r⁻¹) - (f : Rat) = r⁻¹ := by rw [Rat.add_comm, Rat.add_sub_cancel]
    obtain ⟨s1, s2⟩ := subI_num ((f : Rat) + r⁻¹) f
    rw [e1] at s1 s2
    obtain ⟨t1, t2⟩ := invQ_pos (pos_num.1 hr)
    rw [← s2, t2]
    rw [t1, ← s2, t2] at s1
    exact ⟨by omega, rfl⟩
  have lo1 := inv_le (inv_pos g1) hc.lo
  have hi1 := inv_le cp hc.hi
  rw [Rat.inv_inv] at lo1 hi1
  have down : ∀ r : Rat, a ≤ r → r ≤ b → 0 < r - (f : Rat) ∧ c.num ≤ (r - (f : Rat))⁻¹.num ∧ c.den ≤ (r - (f : Rat))⁻¹.den := by
    intro r k1 k2
    have m1 : a - (f : Rat) ≤ r - (f : Rat) := by rw [Rat.sub_eq_add_neg, Rat.sub_eq_add_neg]; exact Rat.add_le_add_right.2 k1
    have m2 : r - (f : Rat) ≤ b - (f : Rat) := by rw [Rat.sub_eq_add_neg, Rat.sub_eq_add_neg]; exact Rat.add_le_add_right.2 k2
    have m3 := lt_of_lt_le g2 m1
    exact ⟨m3, hc.num _ (inv_le m3 m2) (inv_le g2 m1), hc.den _ (inv_le m3 m2) (inv_le g2 m1)⟩
  obtain ⟨c1, c2⟩ := key c cp
  refine ⟨?_, ?_, fun r k1 k2 => ?_, fun r k1 k2 => ?_⟩
  · rw [Rat.add_comm]; exact (Rat.sub_right_le_iff_le_add).1 hi1
  · rw [Rat.add_comm]; exact Rat.le_sub_iff.1 lo1
  · obtain ⟨m3, m4, m5⟩ := down r k1 k2
    obtain ⟨t1, t2⟩ := invQ_pos (pos_num.1 m3)
    obtain ⟨s1, s2⟩ := subI_num r f
    rw [c1]
    rw [t1, s2] at m4
    have t3 : ((((r - (f : Rat))⁻¹).den : Nat) : Int) = r.num - f * r.den := by rw [t2, s1]
    have := Int.mul_le_mul_of_nonneg_left m4 hf
    omega
  · obtain ⟨m3, m4, m5⟩ := down r k1 k2
    obtain ⟨t1, t2⟩ := invQ_pos (pos_num.1 m3)
    obtain ⟨s1, s2⟩ := subI_num r f
    rw [t1, s2] at m4
    omega
theorem step_pre {a b : Rat} (ha : 0 < a) (hab : a ≤ b) (h : ((a.floor : Int) : Rat) ≠ a) (hb : ¬ ((a.floor : Int) : Rat) + 1 ≤ b) :
    0 < (b - (a.floor : Rat))⁻¹ ∧ (b - (a.floor : Rat))⁻¹ ≤ (a - (a.floor : Rat))⁻¹ := by
  obtain ⟨g1, g2, g3, _, _⟩ := step_facts ha hab h hb
  exact ⟨inv_pos g1, inv_le g2 g3⟩
/-! ### how many words -/
/-- Numerator and denominator have at most k words. -/
def FitQ (x : Rat) (k : Nat) : Prop := Fits x.num k ∧ Fits ((x.den : Nat) : Int) k
theorem FitQ.mono {x : Rat} {m n : Nat} (h : FitQ x m) (hmn : m ≤ n) : FitQ x n := ⟨h.1.mono hmn, h.2.mono hmn⟩
theorem FitQ_low {n d : Int} {k : Nat} (h0 : d ≠ 0) (hn : Fits n k) (hd : Fits d k) : FitQ (Rat.divInt n d) k :=
  ⟨Fits_le (low_num_le n d) hn, Fits_le (by rw [Int.natAbs_natCast]; exact low_den_le h0) hd⟩
theorem den_ne (x : Rat) : ((x.den : Nat) : Int) ≠ 0 := by have := denI x; omega
theorem FitQ_add {x y : Rat} {j k : Nat} (hx : FitQ x j) (hy : FitQ y k) : FitQ (x + y) (j + k + 1) := by
  rw [← addQ]
  refine FitQ_low (Int.mul_ne_zero (den_ne x) (den_ne y)) ?_ ((Fits_mul hx.2 hy.2).mono (by omega))
  exact Fits_add (m := j + k) (n := k + j) (k := j + k) (Fits_mul hx.1 hy.2) (Fits_mul hy.1 hx.2) (by omega) (by omega)
theorem FitQ_neg {x : Rat} {k : Nat} (h : FitQ x k) : FitQ (-x) k := ⟨Fits_neg h.1, h.2⟩
theorem FitQ_sub {x y : Rat} {j k : Nat} (hx : FitQ x j) (hy : FitQ y k) : FitQ (x - y) (j + k + 1) := by
  rw [← subQ]; exact FitQ_add hx (FitQ_neg hy)
theorem FitQ_mul {x y : Rat} {j k : Nat} (hx : FitQ x j) (hy : FitQ y k) : FitQ (x * y) (j + k) := by
  rw [← mulQ]
  exact FitQ_low (Int.mul_ne_zero (den_ne x) (den_ne y)) (Fits_mul hx.1 hy.1) (Fits_mul hx.2 hy.2)
theorem FitQ_inv {x : Rat} {k : Nat} (h0 : x ≠ 0) (h : FitQ x k) : FitQ x⁻¹ k := by
  rw [← invQ_div]; exact FitQ_low (num_ne h0) h.2 h.1
theorem FitQ_div {x y : Rat} {j k : Nat} (h0 : y ≠ 0) (hx : FitQ x j) (hy : FitQ y k) : FitQ (x / y) (j + k) := by
  rw [Rat.div_def]; exact FitQ_mul hx (FitQ_inv h0 hy)
theorem FitQ_pos {x : Rat} {k : Nat} (h : FitQ x k) : 1 ≤ k := by
  rcases Nat.eq_zero_or_pos k with e | e
  · subst e
    have h0 := h.2.lt; have := denI x; rw [Nat.pow_zero] at h0; omega
  · exact e
theorem Fits_1 {k : Nat} (h : 1 ≤ k) : Fits 1 k := (Fits_lt (z := 1) (m := 1) (by decide)).mono h
theorem FitQ_int {z : Int} {k : Nat} (hk : 1 ≤ k) (h : Fits z k) : FitQ (z : Rat) k := ⟨by rw [Rat.num_intCast]; exact h, by rw [Rat.den_intCast]; exact Fits_1 hk⟩
theorem Fits_floor {x : Rat} {k : Nat} (h : FitQ x k) : Fits (x.num / (x.den : Int)) k := Fits_le (Int.natAbs_ediv_le_natAbs _ _) h.1
end Go.Proofs.YtndpjfhhigpbhaaGreat
namespace Go.Proofs.YtndpjfhhigpbhaaGreat
open Go.RowKit W
theorem AgR : Ag Tryz.prog 31 4 [.bool false, .slice none 0 0, .bool false, .slice none 0 0] := ⟨⟨_, Tryz.underlying31, rfl⟩, by kernel_rfl, rfl⟩
theorem eqZ {w : World} {v : Value} {z z' : Int} (h : z = z') (f : IsI w v z) : IsI w v z' := h ▸ f
theorem now4 {n m : Bool} {s t : Value} (h1 : noWs [.bool n, s]) (h2 : noWs [.bool m, t]) : noWs [.bool n, s, .bool m, t] := by
  intro c hc
  simp only [List.mem_cons, List.not_mem_nil, or_false] at hc
  rcases hc with h | h | h | h
  · exact h1 c (by simp [h])
  · exact h1 c (by simp [h])
  · exact h2 c (by simp [h])
  · exact h2 c (by simp [h])
theorem one0 : ∀ v ∈ [Value.bool false, .slice none 0 0], v.oneCell' = true := one2 rfl
theorem one4 {n m : Bool} {s t : Value} (h1 : ∀ v ∈ [.bool n, s], v.oneCell' = true) (h2 : ∀ v ∈ [.bool m, t], v.oneCell' = true) : ∀ v ∈ [.bool n, s, .bool m, t], v.oneCell' = true := by
  intro c hc
  simp only [List.mem_cons, List.not_mem_nil, or_false] at hc
  rcases hc with h | h | h | h
  · exact h1 c (by simp [h])
  · exact h1 c (by simp [h])
  · exact h2 c (by simp [h])
  · exact h2 c (by simp [h])
/-- What a function leaves that returns a pair of integers (as a rational number). -/
def RetP (w0 : World) (p q : Int) (e : Ending) (w' : World) : Prop := ∃ n s m t, e = .returned (.agg #[.bool n, s, .bool m, t]) ∧ IsI w' (.agg #[.bool n, s]) p ∧ IsI w' (.agg #[.bool m, t]) q ∧ Below w0.heap.size w0 w'
/-- .. and an error's number. -/
def RetPE (w0 : World) (p q c : Int) (e : Ending) (w' : World) : Prop := ∃ n s m t, e = .returned (.tuple #[.agg #[.bool n, s, .bool m, t], .int .i64 c]) ∧ IsI w' (.agg #[.bool n, s]) p ∧ IsI w' (.agg #[.bool m, t]) q ∧ Below w0.heap.size w0 w'
def RetX (w0 : World) (s : ByteArray) (e : Ending) (w' : World) : Prop := e = .returned (.string s) ∧ Below w0.heap.size w0 w'
theorem RetP.eq {w : World} {p q p' q' : Int} {e : Ending} {w' : World} (h : RetP w p q e w') (h1 : p = p') (h2 : q = q') : RetP w p' q' e w' := by subst h1 h2; exact h
theorem RetPE.eq {w : World} {p q c p' q' c' : Int} {e : Ending} {w' : World} (h : RetPE w p q c e w') (h1 : p = p') (h2 : q = q') (h3 : c = c') : RetPE w p' q' c' e w' := by subst h1 h2 h3; exact h
section
variable {ρ : Operand → Value} {o : Oper} {w : World}
theorem run_fieldR0 {x : Operand} {b : Nat} (ho : o.op = .fieldAddr 31 x 0) (hx : ρ x = .pointer (some ⟨b, 0, none⟩)) : (execOp ρ o).run Tryz.prog w = .ok (.value (.pointer (some ⟨b, 0, none⟩))) w := by
  unfold execOp; rw [ho]
  simp [hx, go_sem]
theorem run_fieldR1 {x : Operand} {b : Nat} (ho : o.op = .fieldAddr 31 x 1) (hx : ρ x = .pointer (some ⟨b, 0, none⟩)) : (execOp ρ o).run Tryz.prog w = .ok (.value (.pointer (some ⟨b, 2, none⟩))) w := by
  unfold execOp; rw [ho]
  simp [hx, go_sem]
/-- An integer is read out of a block, at an offset. -/
theorem run_loadAt {x : Operand} {b i T : Nat} {cs : List Value} {n : Bool} {s : Value} (ho : o.op = .load 29 x) (hx : ρ x = .pointer (some ⟨b, i, none⟩)) (hb : Bx w b T cs) (h0 : cs[i]? = some (.bool n)) (h1 : cs[i + 1]? = some s) :
    (execOp ρ o).run Tryz.prog w = .ok (.value (.agg #[.bool n, s])) w := by
  unfold execOp; rw [ho]
  have c0 := (hb.cell i).trans h0
  have c1 := (hb.cell (i + 1)).trans h1
  simp [hx, Instr.loadAt, Instr.sureAddr, loadVar, loadCells, loadCellsFrom, go_sem, c0, c1]
theorem run_buildR {x y : Operand} {n m : Bool} {s t : Value} (ho : o.op = .build 31 #[(0, x), (1, y)]) (hx : ρ x = .agg #[.bool n, s]) (hy : ρ y = .agg #[.bool m, t]) :
    (execOp ρ o).run Tryz.prog w = .ok (.value (.agg #[.bool n, s, .bool m, t])) w := by
  unfold execOp; rw [ho]
  have hi : (zeroValue 31).run Tryz.prog w = .ok (.agg #[.bool false, .slice none 0 0, .bool false, .slice none 0 0]) w := by kernel_rfl
  simp [go_sem, hi, hx, hy]
theorem run_buildR0 (ho : o.op = .build 31 #[]) : (execOp ρ o).run Tryz.prog w = .ok (.value (.agg #[.bool false, .slice none 0 0, .bool false, .slice none 0 0])) w := by
  unfold execOp; rw [ho]
  have hi : (zeroValue 31).run Tryz.prog w = .ok (.agg #[.bool false, .slice none 0 0, .bool false, .slice none 0 0]) w := by kernel_rfl
  simp [go_sem, hi]
theorem run_lenI {x : Operand} {ao : Option Addr} {n c : Nat} {N : Int} (ho : o.op = .call { callee := .builtin .len, args := #[x], argTypes := #[76] }) (hx : ρ x = .slice ao n c) (hN : (n : Int) = N) : (execOp ρ o).run Tryz.prog w = .ok (.value (.int .i64 N)) w := by
  subst hN; unfold execOp; rw [ho]; simp [hx, go_sem]
/-- Two integers in a new array. -/
theorem run_pair {x y : Operand} {n m : Bool} {s t : Value} (ho : o.op = .buildSlice 76 2 #[(0, x), (1, y)]) (hx : ρ x = .agg #[.bool n, s]) (hy : ρ y = .agg #[.bool m, t]) :
    (execOp ρ o).run Tryz.prog w = .ok (.value (.slice (some ⟨w.heap.size, 0, none⟩) 2 2)) (w.alloc (.cells #[.bool n, s, .bool m, t] 29)) := by
  unfold execOp; rw [ho]
  have hi : ∀ w, (zeroValue 29).run Tryz.prog w = .ok (.agg #[.bool false, .slice none 0 0]) w := fun w => by kernel_rfl
  simp [go_sem, Instr.buildSlice, hi, hx, hy]
end
section
variable {P : Program} {o : Oper} {a : Act} {w : World} {K : Act → World → Prop} {Q : Exit → Act → World → Prop} {f : Nat} {args : List Operand} {tys : Array TypeId} {vs : List Value} {l : List SF}
theorem Oper.wp_callP {p q : Int} (hf : Fn P f) (ho : o.op = .call { callee := .value (.func f), args := args.toArray, argTypes := tys }) (hc : Calls P f vs.toArray w (RetP w p q)) (hv : args.map a.eval = vs) (E : Env w l)
    (h : ∀ w' n s m t, Below w.heap.size w w' → Env w' (fI (.agg #[.bool m, t]) q :: fI (.agg #[.bool n, s]) p :: l) → K (a.put o.dst (.agg #[.bool n, s, .bool m, t])) w') : o.wp P a w K Q := by
  refine Oper.wp_call hf ho hc hv ?_
  rintro e w' ⟨n, s, m, t, rfl, hp, hq, hb⟩
  exact ⟨_, rfl, h w' n s m t hb ⟨hq, hp, E.below hb⟩⟩
theorem Oper.wp_callPE {p q c : Int} (hf : Fn P f) (ho : o.op = .call { callee := .value (.func f), args := args.toArray, argTypes := tys }) (hc : Calls P f vs.toArray w (RetPE w p q c)) (hv : args.map a.eval = vs) (E : Env w l)
    (h : ∀ w' n s m t, Below w.heap.size w w' → Env w' (fI (.agg #[.bool m, t]) q :: fI (.agg #[.bool n, s]) p :: l) → K (a.put o.dst (.tuple #[.agg #[.bool n, s, .bool m, t], .int .i64 c])) w') : o.wp P a w K Q := by
  refine Oper.wp_call hf ho hc hv ?_
  rintro e w' ⟨n, s, m, t, rfl, hp, hq, hb⟩
  exact ⟨_, rfl, h w' n s m t hb ⟨hq, hp, E.below hb⟩⟩
theorem Oper.wp_callX {z : ByteArray} (hf : Fn P f) (ho : o.op = .call { callee := .value (.func f), args := args.toArray, argTypes := tys }) (hc : Calls P f vs.toArray w (RetX w z)) (hv : args.map a.eval = vs) (E : Env w l)
    (h : ∀ w', Below w.heap.size w w' → Env w' l → K (a.put o.dst (.string z)) w') : o.wp P a w K Q := by
  refine Oper.wp_call hf ho hc hv ?_
  rintro e w' ⟨rfl, hb⟩
  exact ⟨_, rfl, h w' hb (E.below hb)⟩
theorem Oper.wp_pair {x y : Operand} {n m : Bool} {s t : Value} (ho : o.op = .buildSlice 76 2 #[(0, x), (1, y)]) (hx : a.eval x = .agg #[.bool n, s]) (hy : a.eval y = .agg #[.bool m, t])
    (h : ∀ b w', b = w.heap.size → w'.heap.size = w.heap.size + 1 → Below w.heap.size w w' → Bx w' b 29 [.bool n, s, .bool m, t] → K (a.put o.dst (.slice (some ⟨b, 0, none⟩) 2 2)) w') : o.wp Tryz.prog a w K Q :=
  Oper.wp_of_val (run_pair ho hx hy) (h _ _ rfl (by simp) ((Below.refl _ _).alloc (Nat.le_refl _) _) (bx_alloc w _ [.bool n, s, .bool m, t]))
end
theorem RunF.pair {ops : Array Oper} {S : World → Prop} {i : Nat} {o : Oper} {fr : List Value} {x y : Operand} {n m : Bool} {s t : Value} (ho : ops[i]? = some o) (hop : o.op = .buildSlice 76 2 #[(0, x), (1, y)]) (hg : o.guard = none)
    (hx : evl fr x = .agg #[.bool n, s]) (hy : evl fr y = .agg #[.bool m, t]) : RunF Tryz.prog ops S i ⟨fun b => .slice (some ⟨b, 0, none⟩) 2 2, 29, [.bool n, s, .bool m, t]⟩ ⟨fr.toArray, []⟩ :=
  ⟨o, ho, by unfold Region.wanted; rw [hg], fun w _ => run_pair hop (by rw [eval_evl]; exact hx) (by rw [eval_evl]; exact hy)⟩
/-- As wp_schedF, where what is held all the time is less than what is known: boxes that are written at the end stand apart. -/
theorem wp_schedF2 {P : Program} {ops : Array Oper} {Q : Exit → Act → World → Prop} {l l2 : List SF} {id : Nat} {a : Act} {w : World} (E : Env w l) (E2 : Env w l2) (σ : List St) (f0 : Nat) (LE : Array Bool) (hm : P.follows .mixedOrders = true) (hs : Region.noSelect ops = true)
    (hok : okF .any ops LE σ [] (Array.replicate ops.size false) = true) (hf : ((opsOf σ).length + f0 == ops.size) = true) (hQ1 : ∀ d v c a w, Q (.panic c) (a.put d v) w → Q (.panic c) a w) (hQ2 : ∀ d v c a w, Q (.panic c) a w → Q (.panic c) (a.put d v) w)
    (h : abS P ops Q (fun w => Env w l2) w.heap.size (fun a' l' => ∀ w', Env w' l' → wpAnyH P .any ops Q (fun w => Env w l2) f0 LE a' w') σ [] [] a l) : (Code.region id ops true).wp P Q a w := by
  refine wp_region_held (S := fun w => Env w l2) hm ?_
  refine ab_sound (md := .any) (f0 := f0) (LE := LE) (B0 := w.heap.size) hs (fun _ _ h hb => h.below hb) hQ1 hQ2 (fun a l' h w hE _ => h w hE) ops.size σ [] [] a l (Array.replicate ops.size false) [] _ a w.drew h hok ?_ (by have := beq_iff_eq.1 hf; simp; omega)
  exact {
    size := by simp
    avlt := fun j h => by simp at h
    rel := ⟨rfl, fun k => by simp⟩
    pts := .nil a
    early := fun e h => by cases h
    nd1 := List.nodup_nil
    nd2 := List.nodup_nil
    pend := fun j d h => by simp at h
    used := fun c h => by cases h
    base := Nat.le_refl _
    env := E.drew
    s := E2.drew }
theorem digs_oneQ : digs (1 : Int).natAbs = [1] := by
  show digs 1 = [1]
  rw [digs_pos 1 (by decide), show 1 / 4294967296 = 0 from rfl, digs_zero]
set_option maxHeartbeats 1000000 in
theorem isOne_z (va : Value) (x : Int) (w : World) (ha : IsI w va x) :
    Calls Tryz.prog 63 #[va] w (RetB w (decide (x = 1))) := by
  obtain ⟨s, rfl, ao, cap, rfl, h1, h2, h3, hn, h4⟩ := ha
  have H4 := Lib.hid h4
  clear h4 hn h3
  unfold maxLen at h2
  generalize hS : decide (x < 0) = n
  obtain ⟨W, hW, hsz, B0, k0⟩ := boxes10 w n (.slice ao (digs x.natAbs).length cap)
  have c0 := k0.1
  have c1 := k0.2
  clear k0
  by_cases hx0 : x < 0
  · rw [decide_eq_true hx0] at hS
    subst hS
    rw [decide_eq_false (show ¬ x = 1 by omega)]
    clear hx0 h1 h2 H4
    go_enter Tryz.func63, Tryz.ntmps63
    go_upto_region 1 with fail
    rw [← hW]
    clear hW
    go_wp2_with fail
    go_ret
    exact ⟨rfl, B0⟩
  · rw [decide_eq_false hx0] at hS
    subst hS
    by_cases hl : (digs x.natAbs).length = 1
    · have hb : (((digs x.natAbs).length : Int) == 1) = true := by rw [hl]; rfl
      have hlt : (digs x.natAbs).length = 0 + 1 := hl
      obtain ⟨b, off, rfl, hc⟩ := H4.out 0 (by omega)
      have hc := cell_below hc B0
      have hv : val (digs x.natAbs) = x.natAbs := val_digs _
      have hg : gd (digs x.natAbs) 0 = x.natAbs := by
        generalize digs x.natAbs = l at *
        obtain ⟨d, rfl⟩ := List.length_eq_one_iff.1 hl
        simpa [val, gd] using hv
      rw [hg, Nat.add_zero] at hc
      rw [hl] at hb c1 hW ⊢
      by_cases h1 : x = 1
      · subst h1
        rw [decide_eq_true rfl]
        clear hx0 hl hlt hv hg H4
        go_enter Tryz.func63, Tryz.ntmps63
        go_upto_region 1 with fail
        rw [← hW]
        clear hW
        go_wp2_with fail
        go_ret
        exact ⟨rfl, B0⟩
      · rw [decide_eq_false h1]
        have hg2 : (((x.natAbs : Nat) : Int) == 1) = false := by rw [beq_eq_false_iff_ne]; omega
        clear hx0 hl hlt hv hg H4
        go_enter Tryz.func63, Tryz.ntmps63
        go_upto_region 1 with fail
        rw [← hW]
        clear hW
        go_wp2_with fail
        go_ret
        exact ⟨rfl, B0⟩
    · have hb : (((digs x.natAbs).length : Int) == 1) = false := by rw [beq_eq_false_iff_ne]; omega
      rw [decide_eq_false (show ¬ x = 1 by rintro rfl; exact hl (by rw [digs_oneQ]; rfl))]
      clear hx0 hl H4
      go_enter Tryz.func63, Tryz.ntmps63
      go_upto_region 1 with fail
      rw [← hW]
      clear hW
      go_wp2_with fail
      go_ret
      exact ⟨rfl, B0⟩
end Go.Proofs.YtndpjfhhigpbhaaGreat
