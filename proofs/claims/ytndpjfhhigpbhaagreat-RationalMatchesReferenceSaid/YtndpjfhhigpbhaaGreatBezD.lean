/- What Bezout leaves. -/
import Derived.Test.YtndpjfhhigpbhaaGreatBoxI
import Derived.Test.YtndpjfhhigpbhaaGreatBezM
import Derived.Test.YtndpjfhhigpbhaaGreatGcd
namespace Go.Proofs.YtndpjfhhigpbhaaGreat
open Go.RowKit W
def RetBz (w0 : World) (g u v : Int) (e : Ending) (w' : World) : Prop := ∃ a b c, e = .returned (.tuple #[a, b, c]) ∧ IsI w' a g ∧ IsI w' b u ∧ IsI w' c v ∧ Below w0.heap.size w0 w'
def RetBez (w0 : World) (x y : Int) (e : Ending) (w' : World) : Prop := ∃ g u v, BezIs x y g u v ∧ RetBz w0 g u v e w'
theorem bez_zero (x : Int) : BezIs x 0 (x.natAbs : Int) (sgn x) 0 := by
  refine ⟨?_, fun _ => ⟨?_, rfl⟩, fun h => absurd rfl h, ?_⟩
  · simp
  · unfold sgn cmpI; split <;> simp
  · unfold sgn cmpI; (repeat' split) <;> omega
theorem bez_zero' {x y : Int} (h : y = 0) : BezIs x y (x.natAbs : Int) (sgn x) 0 := by subst h; exact bez_zero x
theorem sgn_lo (z : Int) : -9223372036854775808 ≤ sgn z := by unfold sgn cmpI; (repeat' split) <;> omega
theorem sgn_hi (z : Int) : sgn z ≤ 9223372036854775807 := by unfold sgn cmpI; (repeat' split) <;> omega
theorem Fits_of3 {z y : Int} {n : Nat} (h : z.natAbs ≤ 3 * y.natAbs + 1) (hy : Fits y n) : Fits z (n + 1) := by
  refine Fits_lt ?_
  have := hy.lt
  rw [Nat.pow_succ]
  omega
theorem Fits_le {z y : Int} {n : Nat} (h : z.natAbs ≤ y.natAbs) (hy : Fits y n) : Fits z n := Fits_lt (Nat.lt_of_le_of_lt h hy.lt)
theorem Fits_le2 {z x y : Int} {n : Nat} (h : z.natAbs ≤ x.natAbs + y.natAbs) (hx : Fits x n) (hy : Fits y n) : Fits z (n + 1) := by
  refine Fits_lt ?_
  have := hy.lt
  have := hx.lt
  rw [Nat.pow_succ]
  omega
theorem Fits_abs {z : Int} {n : Nat} (h : Fits z n) : Fits (z.natAbs : Int) n := h
theorem Fits_div {x y : Int} {n : Nat} (h : Fits x n) : Fits (x / y) n := by
  refine Fits_le ?_ h
  exact Int.natAbs_ediv_le_natAbs _ _
theorem Fits_emod {x y : Int} {n : Nat} (hy : y ≠ 0) (h : Fits y n) : Fits (x % y) n := by
  refine Fits_le ?_ h
  have := Int.emod_nonneg x hy
  have := Int.emod_lt x hy
  omega
theorem emod_natAbs_lt {x y : Int} (hy : y ≠ 0) : (x % y).natAbs < y.natAbs := by
  have := Int.emod_nonneg x hy
  have := Int.emod_lt x hy
  omega
end Go.Proofs.YtndpjfhhigpbhaaGreat
