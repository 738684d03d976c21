/- The order of rationals: how Cmp goes with sums, products and negatives. (Printed by g_ordq.py.) -/
import Derived.Test.YtndpjfhhigpbhaaExQ
namespace Go.Proofs.Ytndpjfhhigpbhaa
open Go.RowKit W
theorem cmpQ_congr {x y x' y' : Rat} (h1 : x < y ↔ x' < y') (h2 : x = y ↔ x' = y') : cmpQ x y = cmpQ x' y' := by
  rcases cmpQ_vals x y with ⟨h, e⟩ | ⟨h, e⟩ | ⟨h, e⟩ <;> rcases cmpQ_vals x' y' with ⟨g, k⟩ | ⟨g, k⟩ | ⟨g, k⟩ <;> rw [e, k]
  · exact absurd (h1.1 h) (by rw [g]; exact Rat.lt_irrefl)
  · exact absurd (h1.1 h) (fun q => Rat.lt_irrefl (lt_of_lt_le q (Rat.le_of_lt g)))
  · exact absurd (h2.1 h) (Rat.ne_of_lt g)
  · exact absurd (h2.1 h) (Rat.ne_of_gt g)
  · exact absurd (h1.2 g) (fun q => Rat.lt_irrefl (lt_of_lt_le q (Rat.le_of_lt h)))
  · exact absurd (h2.2 g) (Rat.ne_of_gt h)
theorem cmpQ_sub (x y : Rat) : cmpQ x y = sgn (x - y).num := by
  rcases cmpQ_vals x y with ⟨h, e⟩ | ⟨h, e⟩ | ⟨h, e⟩ <;> rw [e]
  · refine (sgnQ_neg (neg_num.1 ?_)).symm
    have h1 := Rat.neg_lt_neg ((Rat.lt_iff_sub_pos _ _).1 h)
    rw [Rat.neg_sub] at h1; exact h1
  · subst h; rw [Rat.sub_self]; rfl
  · exact (sgnQ_pos (pos_num.1 ((Rat.lt_iff_sub_pos _ _).1 h))).symm
theorem cmpQ_add (x y z : Rat) : cmpQ (x + z) (y + z) = cmpQ x y := cmpQ_congr Rat.add_lt_add_right ⟨Rat.add_right_cancel z, fun h => by rw [h]⟩
theorem cmpQ_neg (x y : Rat) : cmpQ (-x) (-y) = -(cmpQ x y) := by
  rw [← cmpQ_swap]
  exact cmpQ_congr Rat.neg_lt_neg_iff ⟨fun h => by rw [← Rat.neg_neg y, ← h, Rat.neg_neg], fun h => by rw [h]⟩
theorem cmpQ_mulpos (x y : Rat) {z : Rat} (h : 0 < z) : cmpQ (x * z) (y * z) = cmpQ x y :=
  cmpQ_congr (Rat.mul_lt_mul_right h) ⟨fun e => by rw [← Rat.mul_div_cancel (a := x) (pos_ne h), e, Rat.mul_div_cancel (pos_ne h)], fun e => by rw [e]⟩
theorem cmpQ_self (x : Rat) : cmpQ x x = 0 := by
  rcases cmpQ_vals x x with ⟨h, _⟩ | ⟨_, e⟩ | ⟨h, _⟩
  · exact absurd h Rat.lt_irrefl
  · exact e
  · exact absurd h Rat.lt_irrefl
theorem cmpQ_mul (x y z : Rat) : cmpQ (x * z) (y * z) = cmpQ x y * sgn z.num := by
  rcases Int.lt_trichotomy z.num 0 with h | h | h
  · rw [sgnQ_neg h]
    have h1 := cmpQ_mulpos x y (negpos (neg_num.2 h))
    rw [Rat.mul_neg, Rat.mul_neg, cmpQ_neg] at h1
    omega
  · rw [Rat.num_eq_zero.1 h, Rat.mul_zero, Rat.mul_zero, cmpQ_self]; show (0 : Int) = _ * 0; omega
  · rw [sgnQ_pos h, cmpQ_mulpos x y (pos_num.2 h)]; omega
theorem cmpQ_rng (x y : Rat) : -1 ≤ cmpQ x y ∧ cmpQ x y ≤ 1 := by
  rcases cmpQ_vals x y with ⟨_, e⟩ | ⟨_, e⟩ | ⟨_, e⟩ <;> rw [e] <;> decide
theorem cmpQ_negw (x y : Rat) : IntKind.i64.wrap (-(cmpQ x y)) = -(cmpQ x y) := wrap_i (by have := cmpQ_rng x y; omega)
theorem cmpQ_mulw (x y z : Rat) : IntKind.i64.wrap (cmpQ x y * sgn z.num) = cmpQ x y * sgn z.num := by
  have := cmpQ_rng (x * z) (y * z)
  rw [cmpQ_mul] at this
  exact wrap_i (by omega)
theorem cmpQ_lt0 {x y : Rat} (h : x < y) : decide (cmpQ x y < 0) = true := by
  rcases cmpQ_vals x y with ⟨_, e⟩ | ⟨g, _⟩ | ⟨g, _⟩
  · rw [e]; rfl
  · subst g; exact absurd h Rat.lt_irrefl
  · exact absurd h (fun q => Rat.lt_irrefl (lt_of_lt_le q (Rat.le_of_lt g)))
theorem run_negQ {P : Program} {ρ : Operand → Value} {o : Oper} {w : World} {t : TypeId} {x : Operand} {k : IntKind} {m c : Int} (ho : o.op = .unOp .neg t x) (hx : ρ x = .int k m) (hc : k.wrap (-m) = c) : (execOp ρ o).run P w = .ok (.value (.int k c)) w := by
  subst hc; unfold execOp; rw [ho]; simp [hx, Op.unary, Op.intArith]
theorem bne_z {a b : Int} (h : a = b) : (a != b) = false := by rw [h]; simp
theorem Valid_r (na : Bool) (sa : Value) (ma : Bool) (ta : Value) (x : Rat) (w : World) (h1 : IsI w (.agg #[.bool na, sa]) x.num) (h2 : IsI w (.agg #[.bool ma, ta]) ((x.den : Nat) : Int)) (F : FitQ x 900000000) :
    Calls Try.prog 10 #[.agg #[.bool na, sa, .bool ma, ta]] w (RetB w true) := retB_is (decide_eq_true (vq_rat x)) (Valid_pq na sa ma ta _ _ w h1 h2 F.1 F.2)
end Go.Proofs.Ytndpjfhhigpbhaa
