/- Contracts in the forms that the laws use. -/
import Derived.Test.YtjgmfdenicbniaaLawA
import Derived.Test.YtjgmfdenicbniaaBez
import Derived.Test.YtjgmfdenicbniaaText
import Derived.Test.YtjgmfdenicbniaaParse
namespace Go.Proofs.Ytjgmfdenicbniaa
open Go.RowKit W
theorem BezIs.unique {x y g u v g' u' v' : Int} (h : BezIs x y g u v) (h' : BezIs x y g' u' v') : g = g' ∧ u = u' ∧ v = v' := by
  have hg : g = g' := by rw [h.isg, h'.isg]
  subst hg
  by_cases hy : y = 0
  · obtain ⟨h1, h2⟩ := h.zero hy
    obtain ⟨h3, h4⟩ := h'.zero hy
    exact ⟨rfl, by rw [h1, h3], by rw [h2, h4]⟩
  · have hu : u = u' := by
      obtain ⟨l1, l2⟩ := h.low hy
      obtain ⟨l3, l4⟩ := h'.low hy
      have hs : (u - u') * x = (v' - v) * y := by
        have h1 := h.sum
        have h2 := h'.sum
        rw [Int.sub_mul, Int.sub_mul]; omega
      have hgx : g ∣ x := by rw [h.isg]; exact Int.gcd_dvd_left ..
      have hgy : g ∣ y := by rw [h.isg]; exact Int.gcd_dvd_right ..
      have hg0 : g ≠ 0 := by
        intro e
        rw [e] at hgy
        exact hy (Int.zero_dvd.1 hgy)
      have hgp : 0 < g := by have := h.isg; omega
      obtain ⟨y1, hy1⟩ := hgy
      obtain ⟨x1, hx1⟩ := hgx
      have hco : Int.gcd x1 y1 = 1 := by
        have h3 := h.isg
        rw [hx1, hy1, Int.gcd_mul_left] at h3
        have h4 : (g.natAbs : Int) * (Int.gcd x1 y1 : Int) = g := by rw [← Int.natCast_mul]; exact h3.symm
        have h5 : (g.natAbs : Int) = g := by omega
        rw [h5] at h4
        have h6 : g * (Int.gcd x1 y1 : Int) = g * 1 := by rw [h4, Int.mul_one]
        have := Int.eq_of_mul_eq_mul_left hg0 h6
        omega
      have hd : y1 ∣ (u - u') * x1 := by
        refine ⟨v' - v, ?_⟩
        have h7 : g * ((u - u') * x1) = g * (y1 * (v' - v)) := by
          rw [hx1, hy1] at hs
          have e1 : g * ((u - u') * x1) = (u - u') * (g * x1) := by grind
          have e2 : g * (y1 * (v' - v)) = (v' - v) * (g * y1) := by grind
          rw [e1, e2]; exact hs
        exact Int.eq_of_mul_eq_mul_left hg0 h7
      have hd2 : y1 ∣ u - u' := by
        have h7 := Int.natAbs_dvd_natAbs.2 hd
        rw [Int.natAbs_mul] at h7
        have h8 : Nat.Coprime y1.natAbs x1.natAbs := by
          show Nat.gcd _ _ = 1
          rw [Nat.gcd_comm]; exact hco
        exact Int.natAbs_dvd_natAbs.1 (h8.dvd_of_dvd_mul_right h7)
      have hq : (y.natAbs : Int) / g = (y1.natAbs : Int) := by
        rw [hy1, Int.natAbs_mul, Int.natCast_mul, show ((g.natAbs : Nat) : Int) = g by omega]
        exact Int.mul_ediv_cancel_left _ hg0
      rw [hq] at l2 l4
      obtain ⟨k, hk⟩ := hd2
      rcases Int.lt_trichotomy k 0 with h9 | h9 | h9
      · exfalso
        have : (y1.natAbs : Int) ≤ ((y1 * k).natAbs : Int) := by
          rw [Int.natAbs_mul]
          have : y1.natAbs * 1 ≤ y1.natAbs * k.natAbs := Nat.mul_le_mul_left _ (by omega)
          omega
        omega
      · subst h9; omega
      · exfalso
        have : (y1.natAbs : Int) ≤ ((y1 * k).natAbs : Int) := by
          rw [Int.natAbs_mul]
          have : y1.natAbs * 1 ≤ y1.natAbs * k.natAbs := Nat.mul_le_mul_left _ (by omega)
          omega
        omega
    refine ⟨rfl, hu, ?_⟩
    subst hu
    have h1 := h.sum
    have h2 := h'.sum
    have : v * y = v' * y := by omega
    exact Int.eq_of_mul_eq_mul_right hy this
theorem Bezout_is (va vb : Value) (x y g u v : Int) (w : World) (ha : IsI w va x) (hb : IsI w vb y) (hx : Fits x 400000000) (hy : Fits y 400000000) (h : BezIs x y g u v) :
    Calls Try.prog 35 #[va, vb] w (RetBz w g u v) := by
  refine (Bezout_z va x vb y w ha hb hx hy).mono ?_
  rintro e w' ⟨g', u', v', h', hr⟩
  obtain ⟨rfl, rfl, rfl⟩ := h'.unique h
  exact hr
theorem Root_is (va : Value) (x : Int) (k r : Nat) (w : World) (ha : IsI w va x) (hx0 : 0 ≤ x) (hk : 1 ≤ k) (hk2 : k ≤ 9223372036854775807) (hx : Fits x 1000000) (h : IsRoot r k x.natAbs) :
    Calls Try.prog 27 #[va, .int .i64 k] w (RetZE w (r : Int) 0) := by
  refine (Root_z va x k w ha hx0 hk hk2 hx).mono ?_
  rintro e w' ⟨r', h', hr⟩
  rw [h'.unique h] at hr
  exact hr
theorem Parse_none (s : ByteArray) (w : World) (hs : s.size ≤ 4000) (h : parseZ s.data.toList = none) : Calls Try.prog 29 #[.string s] w (RetZE w 0 3) := by
  refine (Parse_s s w (by omega)).mono ?_
  rintro e w' (⟨h1, _⟩ | ⟨_, _, hr⟩ | ⟨_, h2, _⟩)
  · omega
  · exact hr
  · rw [h] at h2; cases h2
theorem Small_ok (va : Value) (x : Int) (w : World) (ha : IsI w va x) (h1 : -9223372036854775808 ≤ x) (h2 : x ≤ 9223372036854775807) : Calls Try.prog 32 #[va] w (RetS w x true) := by
  have := Small_z va x w ha
  rwa [(small_yes h1 h2).1, (small_yes h1 h2).2] at this
theorem Valid_not (w : World) : Calls Try.prog 15 #[.agg #[.bool true, .slice none 0 0]] w (RetB w false) := Valid_any true _ [] w (Sl_nil w)
theorem Oper.wp_callIII {P : Program} {o : Oper} {a : Act} {w : World} {K : Act → World → Prop} {Q : Exit → Act → World → Prop} {f : Nat} {args : List Operand} {tys : Array TypeId} {vs : List Value} {l : List SF} {q r c : Int}
    (hf : Fn P f) (ho : o.op = .call { callee := .value (.func f), args := args.toArray, argTypes := tys }) (hc : Calls P f vs.toArray w (RetBz w q r c)) (hv : args.map a.eval = vs) (E : Env w l)
    (h : ∀ w' n s m t p q', Below w.heap.size w w' → Env w' (fI (.agg #[.bool p, q']) c :: fI (.agg #[.bool m, t]) r :: fI (.agg #[.bool n, s]) q :: l) → K (a.put o.dst (.tuple #[.agg #[.bool n, s], .agg #[.bool m, t], .agg #[.bool p, q']])) w') : o.wp P a w K Q := by
  refine Oper.wp_call hf ho hc hv ?_
  rintro e w' ⟨v, u, r', rfl, hz, hr, hc, hb⟩
  obtain ⟨n, s, rfl, _⟩ := hz.sh
  obtain ⟨m, t, rfl, _⟩ := hr.sh
  obtain ⟨p, q', rfl, _⟩ := hc.sh
  exact ⟨_, rfl, h w' n s m t p q' hb ⟨hc, hr, hz, E.below hb⟩⟩
theorem txt_m120 : ((txtS (-120)).data.toList == (⟨#[45, 49, 50, 48]⟩ : ByteArray).data.toList) = true := by
  have e : dec 120 = [1, 2, 0] := by
    rw [dec_ge 120 (by decide), show 120 / 10 = 12 from rfl, dec_ge 12 (by decide), show 12 / 10 = 1 from rfl, dec_lt 1 (by decide)]; rfl
  have h : txt (-120) = [45, 49, 50, 48] := by
    unfold txt
    rw [show (-120 : Int).natAbs = 120 from rfl, e]; rfl
  rw [beq_iff_eq]
  show (txt (-120)).toArray.toList = _
  rw [h]
theorem bits_8 : ((bitsN (-8 : Int).natAbs : Nat) : Int) = 4 := by
  have e : digs 8 = [8] := by rw [digs_pos 8 (by decide), show 8 / 4294967296 = 0 from rfl, digs_zero]
  unfold bitsN
  rw [show (-8 : Int).natAbs = 8 from rfl, e]
  rfl
theorem parse_m0 : parseZ (⟨#[45, 48]⟩ : ByteArray).data.toList = none := by decide
theorem pow_fits2 {x : Int} {n m : Nat} (h : Fits x m) (k : Nat) (hk : n * m ≤ k) (hk1 : 1 ≤ k) : (digs (x.natAbs ^ n)).length ≤ k := by
  rcases Nat.eq_zero_or_pos n with e | e
  · subst e; rw [Nat.pow_zero, digs_pos 1 (by decide), show 1 / 4294967296 = 0 from rfl, digs_zero]
    exact hk1
  · refine digs_length_le (Nat.lt_of_lt_of_le (Nat.pow_lt_pow_left h.lt (by omega)) ?_)
    rw [← Nat.pow_mul, Nat.mul_comm]
    exact Nat.pow_le_pow_right (by decide) hk
end Go.Proofs.Ytjgmfdenicbniaa
