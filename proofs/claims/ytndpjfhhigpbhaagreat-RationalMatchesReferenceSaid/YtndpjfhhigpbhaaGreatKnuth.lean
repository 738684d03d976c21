/- Plain arithmetic of the school division: the digit that is guessed, multiplied and taken away, and put back. No program in sight. -/
import Derived.Test.YtndpjfhhigpbhaaGreatWords
namespace Go.Proofs.YtndpjfhhigpbhaaGreat.W
/-- k words of a list from place j on. -/
def seg (l : List Nat) (j k : Nat) : List Nat := (l.drop j).take k
theorem Wd_seg {l : List Nat} (h : Wd l) (j k : Nat) : Wd (seg l j k) := Wd_take (Wd_drop h j) k
theorem val_seg_succ (l : List Nat) (j k : Nat) : val (seg l j (k + 1)) = val (seg l j k) + 4294967296 ^ k * gd l (j + k) := by
  unfold seg; rw [val_take_gd, gd_drop]
theorem seg_zero (l : List Nat) (j : Nat) : seg l j 0 = [] := by unfold seg; simp
theorem seg_congr {a b : List Nat} (j k : Nat) (h : ∀ i, j ≤ i → i < j + k → gd a i = gd b i) : val (seg a j k) = val (seg b j k) := by
  induction k with
  | zero => rw [seg_zero, seg_zero]
  | succ k ih => rw [val_seg_succ, val_seg_succ, ih (fun i h1 h2 => h i h1 (by omega)), h _ (by omega) (by omega)]
theorem val_seg_set (l : List Nat) (j k x : Nat) (h : j + k < l.length) : val (seg (l.set (j + k) x) j (k + 1)) = val (seg l j k) + 4294967296 ^ k * x := by
  rw [val_seg_succ, gd_set_self _ _ _ h]
  rw [seg_congr (b := l) j k fun i h1 h2 => gd_set_other _ _ _ _ (by omega)]
theorem val_seg_lt {l : List Nat} (h : Wd l) (j k : Nat) : val (seg l j k) < 4294967296 ^ k := by
  have h1 := val_lt (Wd_seg h j k)
  have h2 : (seg l j k).length ≤ k := by unfold seg; simp; omega
  have h3 := Nat.pow_le_pow_right (n := 4294967296) (by omega) h2
  omega
/-! ### the guess -/
/-- What holds of the guess q and its remainder r: top is the number of the two first words of u, v1 the first of v, v2 the second, u2 the third of u. -/
def Guess (U V v1 top q r : Nat) : Prop := q * v1 + r = top ∧ U / V ≤ q
/-- A number by its first words: n words and one more (u), n words (v). -/
structure Tops (U V n un u1 u2 v1 v2 : Nat) : Prop where
  n2 : 2 ≤ n
  hu : ∃ low, low < 4294967296 ^ (n - 2) ∧ U = 4294967296 ^ (n - 2) * ((un * 4294967296 + u1) * 4294967296 + u2) + low
  hv : ∃ low, low < 4294967296 ^ (n - 2) ∧ V = 4294967296 ^ (n - 2) * (v1 * 4294967296 + v2) + low
  bun : un < 4294967296
  bu1 : u1 < 4294967296
  bu2 : u2 < 4294967296
  bv1 : v1 < 4294967296
  bv2 : v2 < 4294967296
  norm : 2147483648 ≤ v1
  lt : U < 4294967296 * V
section
variable {U V n un u1 u2 v1 v2 : Nat} (t : Tops U V n un u1 u2 v1 v2)
include t
theorem Tops.vpos : 0 < V := by
  obtain ⟨low, h1, h2⟩ := t.hv
  have := Nat.pow_pos (n := n - 2) (show 0 < 4294967296 by omega)
  have h3 := t.norm
  have : 0 < 4294967296 ^ (n - 2) * (v1 * 4294967296 + v2) := Nat.mul_pos this (by omega)
  omega
theorem Tops.un_le : un ≤ v1 := by
  obtain ⟨lu, h1, h2⟩ := t.hu
  obtain ⟨lv, h3, h4⟩ := t.hv
  have hlt := t.lt
  rcases Nat.lt_or_ge v1 un with h | h
  · exfalso
    have hp := Nat.pow_pos (n := n - 2) (show 0 < 4294967296 by omega)
    generalize 4294967296 ^ (n - 2) = P at *
    have hv2 := t.bv2
    have e1 : P * ((un * 4294967296 + u1) * 4294967296 + u2) ≥ P * ((v1 + 1) * 4294967296 * 4294967296) := Nat.mul_le_mul_left _ (by omega)
    have e2 : 4294967296 * V < 4294967296 * (P * (v1 * 4294967296 + v2 + 1)) := by rw [Nat.mul_add, Nat.mul_one]; omega
    have e3 : 4294967296 * (P * (v1 * 4294967296 + v2 + 1)) ≤ P * ((v1 + 1) * 4294967296 * 4294967296) := by
      rw [Nat.mul_left_comm]
      exact Nat.mul_le_mul_left _ (by omega)
    omega
  · exact h
theorem Tops.qlt : U / V < 4294967296 := Nat.div_lt_of_lt_mul (by rw [Nat.mul_comm]; exact t.lt)
theorem Tops.start : Guess U V v1 (un * 4294967296 + u1) ((un * 4294967296 + u1) / v1) ((un * 4294967296 + u1) % v1) := by
  refine ⟨by rw [Nat.mul_comm]; exact Nat.div_add_mod _ _, ?_⟩
  obtain ⟨lu, h1, h2⟩ := t.hu
  obtain ⟨lv, h3, h4⟩ := t.hv
  have hn := t.norm
  rw [Nat.le_div_iff_mul_le (by omega)]
  have hq : U / V * V ≤ U := Nat.div_mul_le_self U V
  generalize U / V = q at *
  rcases Nat.lt_or_ge (un * 4294967296 + u1) (q * v1) with h | h
  · exfalso
    have hp := Nat.pow_pos (n := n - 2) (show 0 < 4294967296 by omega)
    generalize 4294967296 ^ (n - 2) = P at *
    have hu2 := t.bu2
    have e1 : U < P * ((un * 4294967296 + u1 + 1) * 4294967296) := by
      have : P * ((un * 4294967296 + u1) * 4294967296 + u2 + 1) ≤ P * ((un * 4294967296 + u1 + 1) * 4294967296) := Nat.mul_le_mul_left _ (by omega)
      rw [Nat.mul_add, Nat.mul_one] at this
      omega
    have e2 : P * ((un * 4294967296 + u1 + 1) * 4294967296) ≤ P * (q * v1 * 4294967296) := Nat.mul_le_mul_left _ (by omega)
    have e3 : P * (q * v1 * 4294967296) ≤ q * V := by
      rw [h4]
      have : P * (q * v1 * 4294967296) = q * (P * (v1 * 4294967296)) := by grind
      rw [this]
      refine Nat.mul_le_mul_left _ ?_
      rw [Nat.mul_add P (v1 * 4294967296) v2]
      exact Nat.le_trans (Nat.le_add_right _ _) (Nat.le_add_right _ _)
    omega
  · exact h
/-- The guess fits one word and a half: its product with the second word fits 64 bits. -/
theorem Tops.bound {q r : Nat} (g : Guess U V v1 (un * 4294967296 + u1) q r) : q ≤ 4294967297 ∧ q * v2 < 18446744073709551616 := by
  have h1 := t.un_le
  have h2 := t.bu1
  have h3 := t.norm
  have h4 := g.1
  have hv := t.bv2
  have hq : q ≤ 4294967297 := by
    rcases Nat.lt_or_ge 4294967297 q with h | h
    · exfalso
      have : 4294967298 * v1 ≤ q * v1 := Nat.mul_le_mul_right _ h
      omega
    · exact h
  refine ⟨hq, ?_⟩
  have : q * v2 ≤ 4294967297 * 4294967295 := Nat.mul_le_mul hq (by omega)
  omega
/-- The test says that the guess is too great: it is lowered. -/
theorem Tops.lower {q r : Nat} (g : Guess U V v1 (un * 4294967296 + u1) q r) (h : 4294967296 ≤ q ∨ r * 4294967296 + u2 < q * v2) :
    1 ≤ q ∧ Guess U V v1 (un * 4294967296 + u1) (q - 1) (r + v1) := by
  have hql := t.qlt
  have hlt : U / V < q := by
    rcases h with h | h
    · omega
    · obtain ⟨lu, h1, h2⟩ := t.hu
      obtain ⟨lv, h3, h4⟩ := t.hv
      rw [Nat.div_lt_iff_lt_mul t.vpos]
      have hp := Nat.pow_pos (n := n - 2) (show 0 < 4294967296 by omega)
      generalize 4294967296 ^ (n - 2) = P at *
      have e0 : (un * 4294967296 + u1) * 4294967296 + u2 + 1 ≤ q * (v1 * 4294967296 + v2) := by
        rw [← g.1, Nat.mul_add, Nat.add_mul, Nat.mul_assoc]
        omega
      have e1 : P * ((un * 4294967296 + u1) * 4294967296 + u2 + 1) ≤ P * (q * (v1 * 4294967296 + v2)) := Nat.mul_le_mul_left _ e0
      have e2 : P * (q * (v1 * 4294967296 + v2)) ≤ q * V := by
        rw [Nat.mul_left_comm, h4]
        exact Nat.mul_le_mul_left _ (Nat.le_add_right _ _)
      rw [Nat.mul_add P _ 1, Nat.mul_one] at e1
      omega
  have h0 : 0 < q := Nat.lt_of_le_of_lt (Nat.zero_le _) hlt
  obtain ⟨p, rfl⟩ : ∃ p, q = p + 1 := ⟨q - 1, by omega⟩
  refine ⟨by omega, ?_, Nat.le_of_lt_succ hlt⟩
  have := g.1
  rw [Nat.add_sub_cancel]
  rw [Nat.add_mul, Nat.one_mul] at this
  omega
/-- Where the remainder has grown beyond a word, the guess passes the test. -/
theorem Tops.grown {q r : Nat} (g : Guess U V v1 (un * 4294967296 + u1) q r) (h : 4294967296 ≤ r) : q < 4294967296 ∧ q * v2 ≤ r * 4294967296 + u2 := by
  have h1 := t.un_le
  have h2 := t.bu1
  have h3 := t.norm
  have h4 := g.1
  have hv := t.bv2
  have hq : q < 4294967296 := by
    rcases Nat.lt_or_ge q 4294967296 with h' | h'
    · exact h'
    · exfalso
      have : 4294967296 * v1 ≤ q * v1 := Nat.mul_le_mul_right _ h'
      omega
  refine ⟨hq, ?_⟩
  have : q * v2 ≤ 4294967296 * 4294967296 := Nat.mul_le_mul (by omega) (by omega)
  omega
/-- A guess that passes the test is the digit or one more. -/
theorem Tops.good {q r : Nat} (g : Guess U V v1 (un * 4294967296 + u1) q r) (hq : q < 4294967296) (h : q * v2 ≤ r * 4294967296 + u2) : q * V < U + V := by
  obtain ⟨lu, h1, h2⟩ := t.hu
  obtain ⟨lv, h3, h4⟩ := t.hv
  have hn := t.norm
  have hp := Nat.pow_pos (n := n - 2) (show 0 < 4294967296 by omega)
  generalize 4294967296 ^ (n - 2) = P at *
  have e0 : q * (v1 * 4294967296 + v2) ≤ (un * 4294967296 + u1) * 4294967296 + u2 := by
    rw [← g.1, Nat.mul_add, Nat.add_mul, Nat.mul_assoc]
    omega
  have e1 : q * V ≤ q * (P * (v1 * 4294967296 + v2) + P) := by rw [h4]; exact Nat.mul_le_mul_left _ (by omega)
  have e2 : q * (P * (v1 * 4294967296 + v2) + P) = P * (q * (v1 * 4294967296 + v2)) + P * q := by grind
  have e3 : P * (q * (v1 * 4294967296 + v2)) ≤ P * ((un * 4294967296 + u1) * 4294967296 + u2) := Nat.mul_le_mul_left _ e0
  have e4 : P * q < P * (v1 * 4294967296 + v2) := Nat.mul_lt_mul_of_pos_left (by omega) hp
  omega
end
/-- The first words of a row and of a divisor. -/
theorem tops_of {l v : List Nat} {j n : Nat} (hn : 2 ≤ n) (hwl : Wd l) (hwv : Wd v) (hv : v.length = n) (hnorm : 2147483648 ≤ gd v (n - 1)) (hlt : val (seg l j (n + 1)) < 4294967296 * val v) :
    Tops (val (seg l j (n + 1))) (val v) n (gd l (j + n)) (gd l (j + (n - 1))) (gd l (j + (n - 2))) (gd v (n - 1)) (gd v (n - 2)) := by
  obtain ⟨m, rfl⟩ : ∃ m, n = m + 2 := ⟨n - 2, by omega⟩
  rw [show m + 2 - 1 = m + 1 from rfl, show m + 2 - 2 = m from rfl] at *
  refine ⟨by omega, ⟨val (seg l j m), val_seg_lt hwl j m, ?_⟩, ⟨val (v.take m), ?_, ?_⟩, gd_lt hwl _, gd_lt hwl _, gd_lt hwl _, gd_lt hwv _, gd_lt hwv _, hnorm, hlt⟩
  · rw [show m + 2 - 2 = m from rfl, val_seg_succ, val_seg_succ, val_seg_succ, Nat.pow_succ, Nat.pow_succ]
    grind
  · rw [show m + 2 - 2 = m from rfl]
    have := val_lt (Wd_take hwv m)
    rw [List.length_take, Nat.min_eq_left (by omega)] at this
    exact this
  · rw [show m + 2 - 2 = m from rfl, ← val_take_ge v (m + 2) (by omega), val_take_gd, val_take_gd, Nat.pow_succ]
    grind
/-- The guess: the digit, or one more. -/
theorem digit_of {U V q : Nat} (hV : 0 < V) (h1 : U / V ≤ q) (h2 : q * V < U + V) : (q * V ≤ U ∧ q = U / V) ∨ (U < q * V ∧ q = U / V + 1) := by
  have h3 : q < U / V + 1 + 1 := by
    have : q * V < (U / V + 1 + 1) * V := by
      have := Nat.lt_div_mul_add hV (a := U)
      rw [Nat.add_mul, Nat.add_mul]
      omega
    exact Nat.lt_of_mul_lt_mul_right this
  rcases Nat.lt_or_ge U (q * V) with h | h
  · right
    refine ⟨h, ?_⟩
    have : U / V < q := by rw [Nat.div_lt_iff_lt_mul hV]; exact h
    omega
  · left
    refine ⟨h, ?_⟩
    have : q ≤ U / V := by rw [Nat.le_div_iff_mul_le hV]; exact h
    omega
/-! ### multiplied and taken away -/
def MsInv (l v : List Nat) (q j k c b : Nat) (r : List Nat) : Prop :=
  r.length = l.length ∧ Wd r ∧ c < 4294967296 ∧ b ≤ 1 ∧ val (seg r j k) + q * val (v.take k) = val (seg l j k) + 4294967296 ^ k * (c + b) ∧ ∀ i, (i < j ∨ j + k ≤ i) → gd r i = gd l i
theorem MsInv.start {l : List Nat} (v : List Nat) (q j : Nat) (h : Wd l) : MsInv l v q j 0 0 0 l :=
  ⟨rfl, h, by omega, by omega, by simp [seg_zero, val], fun _ _ => rfl⟩
theorem MsInv.step {l v r : List Nat} {q j k c b : Nat} (h : MsInv l v q j k c b r) (hj : j + k < l.length) (t x b' : Nat) (ht : t = q * gd v k + c) (ht2 : t < 18446744073709551616) (hx : x < 4294967296) (hb : b' ≤ 1)
    (he : x + t % 4294967296 + b = gd l (j + k) + 4294967296 * b') : MsInv l v q j (k + 1) (t / 4294967296) b' (r.set (j + k) x) := by
  obtain ⟨h1, h2, h3, h4, h5, h6⟩ := h
  refine ⟨by simpa using h1, Wd_set h2 _ _ hx, by omega, hb, ?_, fun i hi => ?_⟩
  · rw [val_seg_set _ _ _ _ (by omega), val_seg_succ, val_take_gd, Nat.pow_succ]
    have e1 : 4294967296 ^ k * t = 4294967296 ^ k * (t % 4294967296) + 4294967296 ^ k * 4294967296 * (t / 4294967296) := by
      rw [Nat.mul_assoc, ← Nat.mul_add, Nat.mod_add_div]
    have e2 : 4294967296 ^ k * t = q * (4294967296 ^ k * gd v k) + 4294967296 ^ k * c := by rw [ht]; grind
    have e3 := congrArg (4294967296 ^ k * ·) he
    simp only [Nat.mul_add] at e3 h5 ⊢
    rw [Nat.mul_assoc (4294967296 ^ k) 4294967296 b']
    omega
  · rw [gd_set_other _ _ _ _ (by omega)]; exact h6 i (by omega)
/-! ### put back -/
def PbInv (l v : List Nat) (j k c : Nat) (r : List Nat) : Prop :=
  r.length = l.length ∧ Wd r ∧ c ≤ 1 ∧ val (seg r j k) + 4294967296 ^ k * c = val (seg l j k) + val (v.take k) ∧ ∀ i, (i < j ∨ j + k ≤ i) → gd r i = gd l i
theorem PbInv.start {l : List Nat} (v : List Nat) (j : Nat) (h : Wd l) : PbInv l v j 0 0 l :=
  ⟨rfl, h, by omega, by simp [seg_zero, val], fun _ _ => rfl⟩
theorem PbInv.step {l v r : List Nat} {j k c : Nat} (h : PbInv l v j k c r) (hj : j + k < l.length) (ha : gd l (j + k) < 4294967296) (hb : gd v k < 4294967296) (t : Nat) (ht : t = gd l (j + k) + gd v k + c) :
    PbInv l v j (k + 1) (t / 4294967296) (r.set (j + k) (t % 4294967296)) := by
  obtain ⟨h1, h2, h3, h4, h5⟩ := h
  refine ⟨by simpa using h1, Wd_set h2 _ _ (by omega), by omega, ?_, fun i hi => ?_⟩
  · rw [val_seg_set _ _ _ _ (by omega), val_seg_succ, val_take_gd, Nat.pow_succ]
    have e1 : 4294967296 ^ k * t = 4294967296 ^ k * (t % 4294967296) + 4294967296 ^ k * 4294967296 * (t / 4294967296) := by
      rw [Nat.mul_assoc, ← Nat.mul_add, Nat.mod_add_div]
    have e2 : 4294967296 ^ k * t = 4294967296 ^ k * gd l (j + k) + 4294967296 ^ k * gd v k + 4294967296 ^ k * c := by rw [ht]; grind
    omega
  · rw [gd_set_other _ _ _ _ (by omega)]; exact h5 i (by omega)
/-! ### both together -/
/-- What the step leaves of a row: from place j on n + 1 words that are the remainder, the others as they were. -/
def StepRow (l v : List Nat) (j n : Nat) (l' : List Nat) : Prop :=
  l'.length = l.length ∧ Wd l' ∧ val (seg l' j (n + 1)) = val (seg l j (n + 1)) % val v ∧ ∀ i, (i < j ∨ j + n + 1 ≤ i) → gd l' i = gd l i
/-- Nothing was borrowed at the end: the digit was right. -/
theorem MsInv.right {l v r : List Nat} {q j n c b : Nat} (h : MsInv l v q j n c b r) (hn : v.length = n) (hj : j + n < l.length) (hd : val (seg l j (n + 1)) / val v ≤ q) (hg : q * val v < val (seg l j (n + 1)) + val v)
    (hv : 0 < val v) (hw : Wd v) (hle : c + b ≤ gd l (j + n)) : q = val (seg l j (n + 1)) / val v ∧ StepRow l v j n (r.set (j + n) (gd l (j + n) - (c + b))) ∧ gd l (j + n) - (c + b) = 0 := by
  obtain ⟨h1, h2, h3, h4, h5, h6⟩ := h
  rw [val_take_ge v n (by omega)] at h5
  have hU := val_seg_succ l j n
  have hVlt := val_lt hw
  rw [hn] at hVlt
  have hmul : 4294967296 ^ n * gd l (j + n) = 4294967296 ^ n * (gd l (j + n) - (c + b)) + 4294967296 ^ n * (c + b) := by
    rw [← Nat.mul_add]; congr 1; omega
  have hval : val (seg (r.set (j + n) (gd l (j + n) - (c + b))) j (n + 1)) + q * val v = val (seg l j (n + 1)) := by
    rw [val_seg_set _ _ _ _ (by omega)]; omega
  have hq : q = val (seg l j (n + 1)) / val v := by
    rcases digit_of hv hd hg with ⟨_, h⟩ | ⟨h, _⟩
    · exact h
    · exfalso; omega
  have hmod : val (seg (r.set (j + n) (gd l (j + n) - (c + b))) j (n + 1)) = val (seg l j (n + 1)) % val v := by
    have := Nat.div_add_mod (val (seg l j (n + 1))) (val v)
    rw [← hq, Nat.mul_comm] at this
    omega
  have hgl : gd l (j + n) - (c + b) < 4294967296 := by
    have h7 := gd_lt h2 (j + n)
    rw [h6 (j + n) (.inr (Nat.le_refl _))] at h7
    omega
  refine ⟨hq, ⟨by simpa using h1, Wd_set h2 _ _ hgl, hmod, fun i hi => ?_⟩, ?_⟩
  · rw [gd_set_other _ _ _ _ (by omega)]; exact h6 i (by omega)
  · have hm := Nat.mod_lt (val (seg l j (n + 1))) hv
    rw [← hmod, val_seg_set _ _ _ _ (by omega)] at hm
    rcases Nat.eq_zero_or_pos (gd l (j + n) - (c + b)) with h | h
    · exact h
    · exfalso
      have : 4294967296 ^ n * 1 ≤ 4294967296 ^ n * (gd l (j + n) - (c + b)) := Nat.mul_le_mul_left _ h
      omega
/-- Something was borrowed at the end: the digit was one too great, and one word is borrowed exactly. -/
theorem MsInv.wrong {l v r : List Nat} {q j n c b : Nat} (h : MsInv l v q j n c b r) (hn : v.length = n) (hd : val (seg l j (n + 1)) / val v ≤ q) (hg : q * val v < val (seg l j (n + 1)) + val v)
    (hv : 0 < val v) (hw : Wd v) (hlt : gd l (j + n) < c + b) : q = val (seg l j (n + 1)) / val v + 1 ∧ gd l (j + n) + 1 = c + b := by
  obtain ⟨h1, h2, h3, h4, h5, h6⟩ := h
  rw [val_take_ge v n (by omega)] at h5
  have hU := val_seg_succ l j n
  have hVlt := val_lt hw
  rw [hn] at hVlt
  have hr := val_seg_lt h2 j n
  have hq : val (seg l j (n + 1)) < q * val v := by
    have : 4294967296 ^ n * (gd l (j + n) + 1) ≤ 4294967296 ^ n * (c + b) := Nat.mul_le_mul_left _ hlt
    rw [Nat.mul_add, Nat.mul_one] at this
    omega
  constructor
  · rcases digit_of hv hd hg with ⟨h, _⟩ | ⟨_, h⟩
    · exfalso; omega
    · exact h
  · rcases Nat.lt_or_ge (gd l (j + n) + 1) (c + b) with h | h
    · exfalso
      have : 4294967296 ^ n * (gd l (j + n) + 1 + 1) ≤ 4294967296 ^ n * (c + b) := Nat.mul_le_mul_left _ h
      rw [Nat.mul_add, Nat.mul_add, Nat.mul_one] at this
      omega
    · omega
/-- Put back. -/
theorem PbInv.done {l v r r0 : List Nat} {q j n c b c2 : Nat} (h : MsInv l v q j n c b r0) (hn : v.length = n) (hj : j + n < l.length) (hd : val (seg l j (n + 1)) / val v ≤ q) (hg : q * val v < val (seg l j (n + 1)) + val v)
    (hv : 0 < val v) (hw : Wd v) (hlt : gd l (j + n) < c + b) (hp : PbInv (r0.set (j + n) 4294967295) v j n c2 r) : c2 = 1 ∧ StepRow l v j n (r.set (j + n) 0) := by
  have hwr := h.wrong hn hd hg hv hw hlt
  obtain ⟨h1, h2, h3, h4, h5, h6⟩ := h
  obtain ⟨g1, g2, g3, g4, g5⟩ := hp
  rw [val_take_ge v n (by omega)] at h5 g4
  have hU := val_seg_succ l j n
  have hVlt := val_lt hw
  rw [hn] at hVlt
  have hr := val_seg_lt g2 j n
  have e1 : val (seg (r0.set (j + n) 4294967295) j n) = val (seg r0 j n) := seg_congr j n fun i a1 a2 => gd_set_other _ _ _ _ (by omega)
  rw [e1] at g4
  have e2 : 4294967296 ^ n * (c + b) = 4294967296 ^ n * gd l (j + n) + 4294967296 ^ n := by rw [← hwr.2, Nat.mul_add, Nat.mul_one]
  have hdm := Nat.div_add_mod (val (seg l j (n + 1))) (val v)
  have hqv : q * val v = val v * (val (seg l j (n + 1)) / val v) + val v := by rw [hwr.1, Nat.add_mul, Nat.one_mul, Nat.mul_comm]
  have hm := Nat.mod_lt (val (seg l j (n + 1))) hv
  have e3 : val (seg r j n) + 4294967296 ^ n * c2 = 4294967296 ^ n + val (seg l j (n + 1)) % val v := by omega
  have hc2 : c2 = 1 := by
    rcases Nat.le_one_iff_eq_zero_or_eq_one.1 g3 with h | h
    · exfalso; rw [h] at e3; omega
    · exact h
  refine ⟨hc2, ?_⟩
  have hlen : r.length = l.length := by rw [g1]; simpa using h1
  refine ⟨by simpa using hlen, Wd_set g2 _ _ (by omega), ?_, fun i hi => ?_⟩
  · rw [val_seg_set _ _ _ _ (by omega)]
    rw [hc2] at e3
    omega
  · rw [gd_set_other _ _ _ _ (by omega), g5 i (by omega), gd_set_other _ _ _ _ (by omega)]; exact h6 i (by omega)
/-! ### the whole division -/
theorem val_split (l : List Nat) (j k : Nat) (h : j + k ≤ l.length) : val l = val (l.take j) + 4294967296 ^ j * (val (seg l j k) + 4294967296 ^ k * val (l.drop (j + k))) := by
  have h1 := val_drop l j
  have h2 := val_drop (l.drop j) k
  rw [Nat.min_eq_left (by omega)] at h1
  rw [Nat.min_eq_left (by rw [List.length_drop]; omega), List.drop_drop] at h2
  unfold seg
  rw [h2, h1]
theorem take_congr {a b : List Nat} (j : Nat) (h : ∀ i, i < j → gd a i = gd b i) : val (a.take j) = val (b.take j) := by
  induction j with
  | zero => rfl
  | succ j ih => rw [val_take_gd, val_take_gd, ih (fun i hi => h i (by omega)), h j (by omega)]
theorem drop_congr {a b : List Nat} (j : Nat) (hl : a.length = b.length) (h : ∀ i, j ≤ i → gd a i = gd b i) : a.drop j = b.drop j := by
  apply ext_gd
  · simp [hl]
  · intro i _; rw [gd_drop, gd_drop]; exact h _ (by omega)
/-- The rounds of a division of U by v: k digits are to come. -/
def LdInv (v : List Nat) (U k : Nat) (l q : List Nat) : Prop :=
  Wd l ∧ Wd q ∧ val l + val v * val q = U ∧ val (l.drop k) < val v ∧ (∀ i, i < k → gd q i = 0) ∧ q.length + v.length = l.length ∧ k ≤ q.length
theorem LdInv.lt {v l q : List Nat} {U j : Nat} (h : LdInv v U (j + 1) l q) (hv : 0 < v.length) : val (seg l j (v.length + 1)) < 4294967296 * val v := by
  obtain ⟨h1, h2, h3, h4, h5, h6, h7⟩ := h
  have e : val (seg l j (v.length + 1)) ≤ val (l.drop j) := by
    have := val_drop (l.drop j) (v.length + 1)
    unfold seg
    omega
  have e2 : val (l.drop j) = gd l j + 4294967296 * val (l.drop (j + 1)) := by
    have hj : j < l.length := by omega
    rw [List.drop_eq_getElem_cons hj, val_cons, gd_eq l j hj]
  have := gd_lt h1 j
  omega
theorem LdInv.step {v l q l' : List Nat} {U j : Nat} (h : LdInv v U (j + 1) l q) (hw : Wd v) (hs : StepRow l v j v.length l') (hd : val (seg l j (v.length + 1)) / val v < 4294967296) :
    LdInv v U j l' (q.set j (val (seg l j (v.length + 1)) / val v)) := by
  obtain ⟨h1, h2, h3, h4, h5, h6, h7⟩ := h
  obtain ⟨s1, s2, s3, s4⟩ := hs
  have hVlt := val_lt hw
  have hj : j + (v.length + 1) ≤ l.length := by omega
  have hrest : val (l.drop (j + (v.length + 1))) = 0 := by
    have := val_drop (l.drop (j + 1)) v.length
    rw [List.length_drop, Nat.min_eq_left (by omega), List.drop_drop, show j + 1 + v.length = j + (v.length + 1) by omega] at this
    rcases Nat.eq_zero_or_pos (val (l.drop (j + (v.length + 1)))) with e | e
    · exact e
    · exfalso
      have : 4294967296 ^ v.length * 1 ≤ 4294967296 ^ v.length * val (l.drop (j + (v.length + 1))) := Nat.mul_le_mul_left _ e
      omega
  have hrest' : val (l'.drop (j + (v.length + 1))) = 0 := by
    rw [drop_congr (a := l') (b := l) _ s1 fun i hi => s4 i (by omega)]; exact hrest
  have e1 := val_split l j (v.length + 1) hj
  have e2 := val_split l' j (v.length + 1) (by omega)
  rw [hrest, Nat.mul_zero, Nat.add_zero] at e1
  rw [hrest', Nat.mul_zero, Nat.add_zero, s3, take_congr (a := l') (b := l) j fun i hi => s4 i (by omega)] at e2
  have e3 := val_set q j (val (seg l j (v.length + 1)) / val v) (by omega)
  rw [h5 j (by omega), Nat.mul_zero, Nat.add_zero] at e3
  refine ⟨s2, Wd_set h2 _ _ hd, ?_, ?_, fun i hi => ?_, by rw [List.length_set]; omega, by rw [List.length_set]; omega⟩
  · rw [e3, Nat.mul_add, ← h3, e1, e2]
    have hdm := Nat.div_add_mod (val (seg l j (v.length + 1))) (val v)
    generalize val (seg l j (v.length + 1)) = S at *
    have e4 : val v * (4294967296 ^ j * (S / val v)) + 4294967296 ^ j * (S % val v) = 4294967296 ^ j * S := by
      rw [Nat.mul_left_comm, ← Nat.mul_add, hdm]
    omega
  · have e5 := val_drop (l'.drop j) (v.length + 1)
    rw [List.length_drop, Nat.min_eq_left (by omega), List.drop_drop, hrest', Nat.mul_zero, Nat.add_zero] at e5
    have e6 : (l'.drop j).take (v.length + 1) = seg l' j (v.length + 1) := rfl
    rw [e6, s3] at e5
    rw [← e5]
    exact Nat.mod_lt _ (by omega)
  · rw [gd_set_other _ _ _ _ (by omega)]; exact h5 i (by omega)
theorem LdInv.done {v l q : List Nat} {U : Nat} (h : LdInv v U 0 l q) (hw : Wd v) : val q = U / val v ∧ val (l.take v.length) = U % val v := by
  obtain ⟨h1, h2, h3, h4, h5, h6, h7⟩ := h
  rw [List.drop_zero] at h4
  have hVlt := val_lt hw
  have e := val_drop l v.length
  rw [Nat.min_eq_left (by omega)] at e
  have e0 : val (l.take v.length) = val l := by
    rcases Nat.eq_zero_or_pos (val (l.drop v.length)) with e1 | e1
    · rw [e1, Nat.mul_zero, Nat.add_zero] at e; exact e
    · exfalso
      have : 4294967296 ^ v.length * 1 ≤ 4294967296 ^ v.length * val (l.drop v.length) := Nat.mul_le_mul_left _ e1
      omega
  constructor
  · rw [← h3, Nat.add_comm, Nat.mul_add_div (by omega), Nat.div_eq_of_lt h4, Nat.add_zero]
  · rw [e0, ← h3, Nat.add_comm, Nat.mul_add_mod, Nat.mod_eq_of_lt h4]
/-- The shift makes the divisor's first word great, and the dividend's row fits. -/
theorem LdInv.start {A Bn n s m : Nat} {lu lw : List Nat} (hn : (digs Bn).length = n) (hn0 : 0 < n) (hm : (digs A).length + 1 = m + n) (hu : Wd lu) (hul : lu.length = m + n) (huv : val lu = A * 2 ^ s)
    (hw : Wd lw) (hwl : lw.length = n + 1) (hwv : val lw = Bn * 2 ^ s) (hs : s < 32) (hlo : 2147483648 ≤ gd (digs Bn) (n - 1) * 2 ^ s) (hhi : gd (digs Bn) (n - 1) * 2 ^ s + 2 ^ s ≤ 4294967296) :
    val (lw.take n) = Bn * 2 ^ s ∧ (lw.take n).length = n ∧ Wd (lw.take n) ∧ 2147483648 ≤ gd (lw.take n) (n - 1) ∧ LdInv (lw.take n) (A * 2 ^ s) m lu (List.replicate m 0) := by
  obtain ⟨k, rfl⟩ : ∃ k, n = k + 1 := ⟨n - 1, by omega⟩
  rw [Nat.add_sub_cancel] at hlo hhi ⊢
  have hB := val_digs Bn
  have hB2 : val (digs Bn) = val ((digs Bn).take k) + 4294967296 ^ k * gd (digs Bn) k := by
    rw [← val_take_gd, val_take_ge _ _ (by omega)]
  rw [hB] at hB2
  have hlow := val_lt (Wd_take (Wd_digs Bn) k)
  rw [List.length_take, Nat.min_eq_left (by omega)] at hlow
  have p2 := Nat.two_pow_pos s
  have hBs : Bn * 2 ^ s < 4294967296 ^ (k + 1) := by
    rw [hB2, Nat.pow_succ]
    have e1 : (val ((digs Bn).take k) + 4294967296 ^ k * gd (digs Bn) k) * 2 ^ s < 4294967296 ^ k * (gd (digs Bn) k * 2 ^ s + 2 ^ s) := by
      rw [Nat.add_mul, Nat.mul_add, Nat.mul_assoc]
      have := Nat.mul_lt_mul_of_pos_right hlow p2
      omega
    have e2 : 4294967296 ^ k * (gd (digs Bn) k * 2 ^ s + 2 ^ s) ≤ 4294967296 ^ k * 4294967296 := Nat.mul_le_mul_left _ hhi
    omega
  have hBlo : 4294967296 ^ k * 2147483648 ≤ Bn * 2 ^ s := by
    rw [hB2, Nat.add_mul, Nat.mul_assoc]
    have := Nat.mul_le_mul_left (4294967296 ^ k) hlo
    omega
  have hV : val (lw.take (k + 1)) = Bn * 2 ^ s := by
    have e := val_drop lw (k + 1)
    rw [Nat.min_eq_left (by omega), hwv] at e
    rcases Nat.eq_zero_or_pos (val (lw.drop (k + 1))) with e1 | e1
    · rw [e1, Nat.mul_zero, Nat.add_zero] at e; exact e
    · exfalso
      have : 4294967296 ^ (k + 1) * 1 ≤ 4294967296 ^ (k + 1) * val (lw.drop (k + 1)) := Nat.mul_le_mul_left _ e1
      omega
  have hVl : (lw.take (k + 1)).length = k + 1 := by rw [List.length_take]; omega
  have hVw := Wd_take hw (k + 1)
  refine ⟨hV, hVl, hVw, ?_, hu, Wd_replicate _, ?_, ?_, fun i _ => gd_replicate _ _, by rw [List.length_replicate, hVl, hul], by simp⟩
  · have e := val_take_gd lw k
    rw [hV] at e
    rw [gd_take _ _ _ (by omega)]
    have h1 := val_lt (Wd_take hw k)
    rw [List.length_take, Nat.min_eq_left (by omega)] at h1
    rcases Nat.lt_or_ge (gd lw k) 2147483648 with h2 | h2
    · exfalso
      have : 4294967296 ^ k * (gd lw k + 1) ≤ 4294967296 ^ k * 2147483648 := Nat.mul_le_mul_left _ h2
      rw [Nat.mul_add, Nat.mul_one] at this
      omega
    · exact h2
  · rw [val_replicate, Nat.mul_zero, Nat.add_zero, huv]
  · rw [hV]
    have e := val_drop lu m
    rw [Nat.min_eq_left (by omega), huv] at e
    have hA := val_lt (Wd_digs A)
    rw [val_digs, show (digs A).length = m + k by omega, Nat.pow_add] at hA
    have hs2 : 2 ^ s ≤ 2147483648 := Nat.pow_le_pow_right (n := 2) (by omega) (show s ≤ 31 by omega)
    have h3 : A * 2 ^ s < 4294967296 ^ m * 4294967296 ^ k * 2 ^ s := Nat.mul_lt_mul_of_pos_right hA p2
    have h4 : 4294967296 ^ m * 4294967296 ^ k * 2 ^ s ≤ 4294967296 ^ m * (Bn * 2 ^ s) := by
      rw [Nat.mul_assoc]
      refine Nat.mul_le_mul_left _ ?_
      have := Nat.mul_le_mul_left (4294967296 ^ k) hs2
      omega
    have h5 : 4294967296 ^ m * val (lu.drop m) < 4294967296 ^ m * (Bn * 2 ^ s) := by omega
    exact Nat.lt_of_mul_lt_mul_left h5
theorem shift_div (A Bn s : Nat) : A * 2 ^ s / (Bn * 2 ^ s) = A / Bn := Nat.mul_div_mul_right A Bn (Nat.two_pow_pos s)
theorem shift_mod (A Bn s : Nat) : A * 2 ^ s % (Bn * 2 ^ s) / 2 ^ s = A % Bn := by
  rw [Nat.mul_mod_mul_right, Nat.mul_div_cancel _ (Nat.two_pow_pos s)]
end Go.Proofs.YtndpjfhhigpbhaaGreat.W
