/- Plain arithmetic of Bezout's numbers. -/
import Derived.Test.YtndpjfhhigpbhaaGreatWords
namespace Go.Proofs.YtndpjfhhigpbhaaGreat
/-- What holds of the rounds of the extended Euclidean algorithm. -/
structure BzInv (a b r nx u st : Int) : Prop where
  c1 : ∃ k : Int, r = u * a + k * b
  c2 : ∃ k : Int, nx = st * a + k * b
  g : Int.gcd r nx = Int.gcd a b
  hu : u.natAbs ≤ 3 * b.natAbs + 1
  hs : st.natAbs ≤ 3 * b.natAbs + 1
  hr : r.natAbs ≤ a.natAbs + b.natAbs
  hn : nx.natAbs ≤ a.natAbs + b.natAbs
  ph : (r = a ∧ nx = b ∧ u = 1 ∧ st = 0) ∨ (r = b ∧ u = 0 ∧ st = 1 ∧ 0 ≤ nx ∧ nx < b.natAbs) ∨
    (0 < r ∧ 0 ≤ nx ∧ nx < r ∧ r < b.natAbs ∧ st.natAbs * r.natAbs + u.natAbs * nx.natAbs ≤ 3 * b.natAbs)
theorem BzInv.start (a b : Int) : BzInv a b a b 1 0 :=
  ⟨⟨0, by simp⟩, ⟨1, by simp⟩, rfl, by simp, by simp, by omega, by omega, .inl ⟨rfl, rfl, rfl, rfl⟩⟩
theorem gcd_step (r nx : Int) : Int.gcd nx (r % nx) = Int.gcd r nx := by
  rw [Int.emod_def, Int.gcd_comm r nx]
  exact Int.gcd_sub_mul_left_right ..
theorem BzInv.step {a b r nx u st : Int} (h : BzInv a b r nx u st) (hnx : nx ≠ 0) : BzInv a b nx (r % nx) st (u - r / nx * st) := by
  obtain ⟨⟨k1, e1⟩, ⟨k2, e2⟩, g, hu, hs, hr, hn, ph⟩ := h
  have hdm := Int.mul_ediv_add_emod r nx
  have hm0 := Int.emod_nonneg r hnx
  have hm1 := Int.emod_lt r hnx
  have hg : Int.gcd nx (r % nx) = Int.gcd a b := by rw [gcd_step]; exact g
  have hc : ∃ k : Int, r % nx = (u - r / nx * st) * a + k * b := by
    refine ⟨k1 - r / nx * k2, ?_⟩
    generalize r / nx = q at *
    generalize r % nx = m at *
    grind
  have hrn : (r % nx).natAbs ≤ a.natAbs + b.natAbs := by omega
  generalize hq : r / nx = q at *
  generalize hmm : r % nx = m at *
  rcases ph with ⟨rfl, rfl, rfl, rfl⟩ | ⟨rfl, rfl, rfl, p1, p2⟩ | ⟨p1, p2, p3, p4, p5⟩
  · refine ⟨⟨k2, e2⟩, hc, hg, hs, by simp, hn, hrn, .inr (.inl ⟨rfl, rfl, by simp, hm0, by omega⟩)⟩
  · have hq1 : q.natAbs * nx.natAbs ≤ r.natAbs + m.natAbs := by
      rw [← Int.natAbs_mul, Int.mul_comm q nx]; omega
    have hnx1 : 1 ≤ nx.natAbs := by omega
    have hq2 : q.natAbs ≤ q.natAbs * nx.natAbs := Nat.le_mul_of_pos_right _ hnx1
    have e3 : ((0 : Int) - q * 1).natAbs = q.natAbs := by omega
    refine ⟨⟨k2, e2⟩, hc, hg, hs, by rw [e3]; omega, hn, hrn, .inr (.inr ⟨by omega, hm0, by omega, p2, ?_⟩)⟩
    rw [e3]; simp only [Int.natAbs_one, Nat.one_mul]; omega
  · have hqn : 0 ≤ q := by rw [← hq]; exact Int.ediv_nonneg (by omega) p2
    have hab : (u - q * st).natAbs ≤ u.natAbs + q.natAbs * st.natAbs := by
      have := Int.natAbs_sub_le u (q * st)
      rwa [Int.natAbs_mul] at this
    have hnx1 : 1 ≤ nx.natAbs := by omega
    have hrq : r.natAbs = nx.natAbs * q.natAbs + m.natAbs := by
      rw [← Int.natAbs_mul]
      have : 0 ≤ nx * q := Int.mul_nonneg p2 hqn
      omega
    have hM : (u - q * st).natAbs * nx.natAbs + st.natAbs * m.natAbs ≤ 3 * b.natAbs := by
      refine Nat.le_trans ?_ p5
      have := Nat.mul_le_mul_right nx.natAbs hab
      rw [hrq]
      rw [Nat.add_mul] at this
      rw [Nat.mul_add]
      have e4 : q.natAbs * st.natAbs * nx.natAbs = st.natAbs * (nx.natAbs * q.natAbs) := by grind
      omega
    have hb1 : (u - q * st).natAbs ≤ 3 * b.natAbs + 1 := by
      have : (u - q * st).natAbs ≤ (u - q * st).natAbs * nx.natAbs := Nat.le_mul_of_pos_right _ hnx1
      omega
    exact ⟨⟨k2, e2⟩, hc, hg, hs, hb1, hn, hrn, .inr (.inr ⟨by omega, hm0, by omega, by omega, hM⟩)⟩
/-- What Bezout's three numbers are. -/
structure BezIs (x y : Int) (g u v : Int) : Prop where
  isg : g = (Int.gcd x y : Nat)
  zero : y = 0 → u = (if x < 0 then -1 else if x = 0 then 0 else 1) ∧ v = 0
  low : y ≠ 0 → 0 ≤ u ∧ u < (y.natAbs : Int) / g
  sum : u * x + v * y = g
end Go.Proofs.YtndpjfhhigpbhaaGreat
