/- Contracts in the forms that the laws use. -/
import Derived.Test.YtndpjfhhigpbhaaGreatRef1
import Derived.Test.YtndpjfhhigpbhaaGreatFns
import Derived.Test.YtndpjfhhigpbhaaGreatBezD
import Derived.Test.YtndpjfhhigpbhaaGreatText
import Derived.Test.YtndpjfhhigpbhaaGreatParse
namespace Go.Proofs.YtndpjfhhigpbhaaGreat
open Go.RowKit W
theorem BezIs.unique {x y g u v g' u' v' : Int} (h : BezIs x y g u v) (h' : BezIs x y g' u' v') : g = g' ∧ u = u' ∧ v = v' := by
  have hg : g = g' := by rw [h.isg, h'.isg]
  subst hg
  by_cases hy : y = 0
  · obtain ⟨h1, h2⟩ := h.zero hy
    obtain ⟨h3, h4⟩ := h'.zero hy
    exact ⟨rfl, by rw [h1, h3], by rw [h2, h4]⟩
  · have hu : u = u' := by
      obtain ⟨l1, l2⟩ := h.low hy
      obtain ⟨l3, l4⟩ := h'.low hy
      have hs : (u - u') * x = (v' - v) * y := by
        have h1 := h.sum
        have h2 := h'.sum
        rw [Int.sub_mul, Int.sub_mul]; omega
      have hgx : g ∣ x := by rw [h.isg]; exact Int.gcd_dvd_left ..
      have hgy : g ∣ y := by rw [h.isg]; exact Int.gcd_dvd_right ..
      have hg0 : g ≠ 0 := by
        intro e
        rw [e] at hgy
        exact hy (Int.zero_dvd.1 hgy)
      have hgp : 0 < g := by have := h.isg; omega
      obtain ⟨y1, hy1⟩ := hgy
      obtain ⟨x1, hx1⟩ := hgx
      have hco : Int.gcd x1 y1 = 1 := by
        have h3 := h.isg
        rw [hx1, hy1, Int.gcd_mul_left] at h3
        have h4 : (g.natAbs : Int) * (Int.gcd x1 y1 : Int) = g := by rw [← Int.natCast_mul]; exact h3.symm
        have h5 : (g.natAbs : Int) = g := by omega
        rw [h5] at h4
        have h6 : g * (Int.gcd x1 y1 : Int) = g * 1 := by rw [h4, Int.mul_one]
        have := Int.eq_of_mul_eq_mul_left hg0 h6
        omega
      have hd : y1 ∣ (u - u') * x1 := by
        refine ⟨v' - v, ?_⟩
        have h7 : g * ((u - u') * x1) = g * (y1 * (v' - v)) := by
          rw [hx1, hy1] at hs
          have e1 : g * ((u - u') * x1) = (u - u') * (g * x1) := by grind
          have e2 : g * (y1 * (v' - v)) = (v' - v) * (g * y1) := by grind
          rw [e1, e2]; exact hs
        exact Int.eq_of_mul_eq_mul_left hg0 h7
      have hd2 : y1 ∣ u - u' := by
        have h7 := Int.natAbs_dvd_natAbs.2 hd
        rw [Int.natAbs_mul] at h7
        have h8 : Nat.Coprime y1.natAbs x1.natAbs := by
          show Nat.gcd _ _ = 1
          rw [Nat.gcd_comm]; exact hco
        exact Int.natAbs_dvd_natAbs.1 (h8.dvd_of_dvd_mul_right h7)
      have hq : (y.natAbs : Int) / g = (y1.natAbs : Int) := by
        rw [hy1, Int.natAbs_mul, Int.natCast_mul, show ((g.natAbs : Nat) : Int) = g by omega]
        exact Int.mul_ediv_cancel_left _ hg0
      rw [hq] at l2 l4
      obtain ⟨k, hk⟩ := hd2
      rcases Int.lt_trichotomy k 0 with h9 | h9 | h9
      · exfalso
        have : (y1.natAbs : Int) ≤ ((y1 * k).natAbs : Int) := by
          rw [Int.natAbs_mul]
          have : y1.natAbs * 1 ≤ y1.natAbs * k.natAbs := Nat.mul_le_mul_left _ (by omega)
          omega
        omega
      · subst h9; omega
      · exfalso
        have : (y1.natAbs : Int) ≤ ((y1 * k).natAbs : Int) := by
          rw [Int.natAbs_mul]
          have : y1.natAbs * 1 ≤ y1.natAbs * k.natAbs := Nat.mul_le_mul_left _ (by omega)
          omega
        omega
    refine ⟨rfl, hu, ?_⟩
    subst hu
    have h1 := h.sum
    have h2 := h'.sum
    have : v * y = v' * y := by omega
    exact Int.eq_of_mul_eq_mul_right hy this
theorem Parse_none (s : ByteArray) (w : World) (hs : s.size ≤ 4000) (h : parseZ s.data.toList = none) : Calls Tryz.prog 69 #[.string s] w (RetZE w 0 3) := by
  refine (Parse_s s w (by omega)).mono ?_
  rintro e w' (⟨h1, _⟩ | ⟨_, _, hr⟩ | ⟨_, h2, _⟩)
  · omega
  · exact hr
  · rw [h] at h2; cases h2
theorem Parse_some (s : ByteArray) (z : Int) (w : World) (hs : s.size ≤ 4000) (h : parseZ s.data.toList = some z) : Calls Tryz.prog 69 #[.string s] w (RetZE w z 0) := by
  refine (Parse_s s w (by omega)).mono ?_
  rintro e w' (⟨h1, _⟩ | ⟨_, h2, _⟩ | ⟨_, h2, hr⟩)
  · omega
  · rw [h] at h2; cases h2
  · rw [h] at h2; cases h2; exact hr
end Go.Proofs.YtndpjfhhigpbhaaGreat
