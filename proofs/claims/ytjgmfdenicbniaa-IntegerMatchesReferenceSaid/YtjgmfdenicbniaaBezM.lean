/- Plain arithmetic of Bezout's numbers. -/
import Derived.Test.YtjgmfdenicbniaaWords
namespace Go.Proofs.Ytjgmfdenicbniaa
/-- What holds of the rounds of the extended Euclidean algorithm. -/
structure BzInv (a b r nx u st : Int) : Prop where
  c1 : ∃ k : Int, r = u * a + k * b
  c2 : ∃ k : Int, nx = st * a + k * b
  g : Int.gcd r nx = Int.gcd a b
  hu : u.natAbs ≤ 3 * b.natAbs + 1
  hs : st.natAbs ≤ 3 * b.natAbs + 1
  hr : r.natAbs ≤ a.natAbs + b.natAbs
  hn : nx.natAbs ≤ a.natAbs + b.natAbs
  ph : (r = a ∧ nx = b ∧ u = 1 ∧ st = 0) ∨ (r = b ∧ u = 0 ∧ st = 1 ∧ 0 ≤ nx ∧ nx < b.natAbs) ∨
    (0 < r ∧ 0 ≤ nx ∧ nx < r ∧ r < b.natAbs ∧ st.natAbs * r.natAbs + u.natAbs * nx.natAbs ≤ 3 * b.natAbs)
theorem BzInv.start (a b : Int) : BzInv a b a b 1 0 :=
  ⟨⟨0, by simp⟩, ⟨1, by simp⟩, rfl, by simp, by simp, by omega, by omega, .inl ⟨rfl, rfl, rfl, rfl⟩⟩
theorem gcd_step (r nx : Int) : Int.gcd nx (r % nx) = Int.gcd r nx := by
  rw [Int.emod_def, Int.gcd_comm r nx]
  exact Int.gcd_sub_mul_left_right ..
theorem BzInv.step {a b r nx u st : Int} (h : BzInv a b r nx u st) (hnx : nx ≠ 0) : BzInv a b nx (r % nx) st (u - r / nx * st) := by
  obtain ⟨⟨k1, e1⟩, ⟨k2, e2⟩, g, hu, hs, hr, hn, ph⟩ := h
  have hdm := Int.mul_ediv_add_emod r nx
  have hm0 := Int.emod_nonneg r hnx
  have hm1 := Int.emod_lt r hnx
  have hg : Int.gcd nx (r % nx) = Int.gcd a b := by rw [gcd_step]; exact g
  have hc : ∃ k : Int, r % nx = (u - r / nx * st) * a + k * b := by
    refine ⟨k1 - r / nx * k2, ?_⟩
    generalize r / nx = q at *
    generalize r % nx = m at *
    grind
  have hrn : (r % nx).natAbs ≤ a.natAbs + b.natAbs := by omega
  generalize hq : r / nx = q at *
  generalize hmm : r % nx = m at *
  rcases ph with ⟨rfl, rfl, rfl, rfl⟩ | ⟨rfl, rfl, rfl, p1, p2⟩ | ⟨p1, p2, p3, p4, p5⟩
  · refine ⟨⟨k2, e2⟩, hc, hg, hs, by simp, hn, hrn, .inr (.inl ⟨rfl, rfl, by simp, hm0, by omega⟩)⟩
  · have hq1 : q.natAbs * nx.natAbs ≤ r.natAbs + m.natAbs := by
      rw [← Int.natAbs_mul, Int.mul_comm q nx]; omega
    have hnx1 : 1 ≤ nx.natAbs := by omega
    have hq2 : q.natAbs ≤ q.natAbs * nx.natAbs := Nat.le_mul_of_pos_right _ hnx1
    have e3 : ((0 : Int) - q * 1).natAbs = q.natAbs := by omega
    refine ⟨⟨k2, e2⟩, hc, hg, hs, by rw [e3]; omega, hn, hrn, .inr (.inr ⟨by omega, hm0, by omega, p2, ?_⟩)⟩
    rw [e3]; simp only [Int.natAbs_one, Nat.one_mul]; omega
  · have hqn : 0 ≤ q := by rw [← hq]; exact Int.ediv_nonneg (by omega) p2
    have hab : (u - q * st).natAbs ≤ u.natAbs + q.natAbs * st.natAbs := by
      have := Int.natAbs_sub_le u (q * st)
      rwa [Int.natAbs_mul] at this
    have hnx1 : 1 ≤ nx.natAbs := by omega
    have hrq : r.natAbs = nx.natAbs * q.natAbs + m.natAbs := by
      rw [← Int.natAbs_mul]
      have : 0 ≤ nx * q := Int.mul_nonneg p2 hqn
      omega
    have hM : (u - q * st).natAbs * nx.natAbs + st.natAbs * m.natAbs ≤ 3 * b.natAbs := by
      refine Nat.le_trans ?_ p5
      have := Nat.mul_le_mul_right nx.natAbs hab
      rw [hrq]
      rw [Nat.add_mul] at this
      rw [Nat.mul_add]
      have e4 : q.natAbs * st.natAbs * nx.natAbs = st.natAbs * (nx.natAbs * q.natAbs) := by grind
      omega
    have hb1 : (u - q * st).natAbs ≤ 3 * b.natAbs + 1 := by
      have : (u - q * st).natAbs ≤ (u - q * st).natAbs * nx.natAbs := Nat.le_mul_of_pos_right _ hnx1
      omega
    exact ⟨⟨k2, e2⟩, hc, hg, hs, hb1, hn, hrn, .inr (.inr ⟨by omega, hm0, by omega, by omega, hM⟩)⟩
/-- What Bezout's three numbers are. -/
structure BezIs (x y : Int) (g u v : Int) : Prop where
  isg : g = (Int.gcd x y : Nat)
  zero : y = 0 → u = (if x < 0 then -1 else if x = 0 then 0 else 1) ∧ v = 0
  low : y ≠ 0 → 0 ≤ u ∧ u < (y.natAbs : Int) / g
  sum : u * x + v * y = g
/-- The end: the last cofactor, made small, and the other one. -/
theorem BzInv.done {a b r u u' per : Int} (h : ∃ st, BzInv a b r 0 u st) (hb : b ≠ 0) (hu' : u' = if r < 0 then -u else u) (hper : per = (b.natAbs : Int) / (r.natAbs : Int)) :
    per ≠ 0 ∧ r.natAbs ≠ 0 ∧ BezIs a b (r.natAbs : Int) (u' % per) (((r.natAbs : Int) - u' % per * a) / b) := by
  obtain ⟨st, ⟨k1, e1⟩, _, g, _⟩ := h
  have hg : r.natAbs = Int.gcd a b := by rw [← g]; simp [Int.gcd]
  have hgd : (r.natAbs : Int) ∣ b := by rw [hg]; exact Int.gcd_dvd_right ..
  have hga : (r.natAbs : Int) ∣ a := by rw [hg]; exact Int.gcd_dvd_left ..
  have hr0 : r.natAbs ≠ 0 := by
    intro e; rw [e] at hgd
    exact hb (Int.zero_dvd.1 hgd)
  obtain ⟨b1, hb1⟩ := hgd
  obtain ⟨a1, ha1⟩ := hga
  generalize hG : r.natAbs = G at *
  have hGp : (0 : Int) < (G : Int) := by omega
  have hper2 : per * G = b.natAbs := by
    rw [hper]
    refine Int.ediv_mul_cancel ?_
    have : (G : Int) ∣ b := ⟨b1, hb1⟩
    exact Int.dvd_natAbs.2 this
  have hper0 : 0 < per := by
    rcases Int.lt_or_le 0 per with h | h
    · exact h
    · exfalso
      have : per * G ≤ 0 := Int.mul_nonpos_of_nonpos_of_nonneg h (by omega)
      omega
  refine ⟨by omega, hr0, ?_⟩
  have hc : ∃ k : Int, (G : Int) = u' * a + k * b := by
    by_cases hneg : r < 0
    · rw [if_pos hneg] at hu'
      exact ⟨-k1, by rw [hu', show (G : Int) = -r by omega, e1]; grind⟩
    · rw [if_neg hneg] at hu'
      exact ⟨k1, by rw [hu', show (G : Int) = r by omega, e1]⟩
  obtain ⟨k, hk⟩ := hc
  have hdm := Int.mul_ediv_add_emod u' per
  have hbp : ∃ s : Int, per * G = s * b := by
    rcases Int.lt_or_le b 0 with h | h
    · exact ⟨-1, by omega⟩
    · exact ⟨1, by omega⟩
  obtain ⟨s, hs⟩ := hbp
  have hdvd : b ∣ ((G : Int) - u' % per * a) := by
    refine ⟨k + u' / per * a1 * s, ?_⟩
    generalize u' / per = t at *
    generalize u' % per = m at *
    have h1 : u' = per * t + m := hdm.symm
    have h2 : per * a = s * b * a1 := by rw [ha1, ← Int.mul_assoc, hs]
    rw [hk, h1]
    grind
  refine ⟨by rw [hg], fun h => absurd h hb, fun _ => ⟨Int.emod_nonneg _ (by omega), ?_⟩, ?_⟩
  · rw [← hper]; exact Int.emod_lt_of_pos _ hper0
  · rw [Int.ediv_mul_cancel hdvd]; omega
end Go.Proofs.Ytjgmfdenicbniaa
