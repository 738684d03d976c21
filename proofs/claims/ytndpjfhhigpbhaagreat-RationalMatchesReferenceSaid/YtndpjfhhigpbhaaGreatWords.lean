/- Plain arithmetic of numbers written as lists of words of 32 bits, the least significant word first: values, canonical lists, comparison. No program in sight. -/
namespace Go.Proofs.YtndpjfhhigpbhaaGreat.W
/-- The number whose digits in base 2^32 are a list. -/
def val : List Nat → Nat
  | [] => 0
  | x :: l => x + 4294967296 * val l
/-- All digits are words. -/
def Wd (l : List Nat) : Prop := ∀ x ∈ l, x < 4294967296
/-- The canonical digits of a number. -/
def digs (n : Nat) : List Nat := if n = 0 then [] else (n % 4294967296) :: digs (n / 4294967296)
termination_by n
decreasing_by omega
/-- A list without the digits at its end that are 0. -/
def trimW : List Nat → List Nat
  | [] => []
  | x :: l => if trimW l = [] ∧ x = 0 then [] else x :: trimW l
theorem digs_zero : digs 0 = [] := by rw [digs]; simp
theorem digs_pos (n : Nat) (h : 0 < n) : digs n = (n % 4294967296) :: digs (n / 4294967296) := by
  rw [digs, if_neg (by omega)]
theorem val_nil : val [] = 0 := rfl
theorem val_cons (x : Nat) (l : List Nat) : val (x :: l) = x + 4294967296 * val l := rfl
theorem Wd_nil : Wd [] := by intro x hx; cases hx
theorem Wd_cons {x : Nat} {l : List Nat} : Wd (x :: l) ↔ x < 4294967296 ∧ Wd l := by simp [Wd]
theorem Wd_append {a b : List Nat} : Wd (a ++ b) ↔ Wd a ∧ Wd b := by
  simp only [Wd, List.mem_append]
  exact ⟨fun h => ⟨fun x hx => h x (.inl hx), fun x hx => h x (.inr hx)⟩, fun h x hx => hx.elim (h.1 x) (h.2 x)⟩
theorem Wd_take {l : List Nat} (h : Wd l) (n : Nat) : Wd (l.take n) := fun x hx => h x (List.mem_of_mem_take hx)
theorem Wd_drop {l : List Nat} (h : Wd l) (n : Nat) : Wd (l.drop n) := fun x hx => h x (List.mem_of_mem_drop hx)
theorem Wd_get {l : List Nat} (h : Wd l) (i : Nat) : l.getD i 0 < 4294967296 := by
  by_cases hi : i < l.length
  · rw [List.getD_eq_getElem?_getD, List.getElem?_eq_getElem hi]; exact h _ (List.getElem_mem hi)
  · rw [List.getD_eq_getElem?_getD, List.getElem?_eq_none (by omega)]; simp
theorem Wd_replicate (n : Nat) : Wd (List.replicate n 0) := by
  intro x hx; rw [(List.mem_replicate.1 hx).2]; omega
theorem val_append (a b : List Nat) : val (a ++ b) = val a + 4294967296 ^ a.length * val b := by
  induction a with
  | nil => simp [val]
  | cons x a ih => simp only [List.cons_append, val_cons, ih, List.length_cons, Nat.pow_succ]; grind
theorem val_replicate (n : Nat) : val (List.replicate n 0) = 0 := by
  induction n with
  | zero => rfl
  | succ n ih => rw [List.replicate_succ, val_cons, ih]
theorem val_lt {l : List Nat} (h : Wd l) : val l < 4294967296 ^ l.length := by
  induction l with
  | nil => simp [val]
  | cons x l ih =>
    have hx := (Wd_cons.1 h).1
    have := ih (Wd_cons.1 h).2
    rw [val_cons, List.length_cons, Nat.pow_succ]
    omega
theorem val_snoc (l : List Nat) (x : Nat) : val (l ++ [x]) = val l + 4294967296 ^ l.length * x := by
  rw [val_append]; simp [val]
/-- The value of the first n words, one word more. -/
theorem val_take_succ (l : List Nat) (i : Nat) (h : i < l.length) : val (l.take (i + 1)) = val (l.take i) + 4294967296 ^ i * l.getD i 0 := by
  rw [List.take_succ_eq_append_getElem h, val_snoc, List.length_take, Nat.min_eq_left (Nat.le_of_lt h)]
  rw [List.getD_eq_getElem?_getD, List.getElem?_eq_getElem h]; rfl
theorem val_take_ge (l : List Nat) (i : Nat) (h : l.length ≤ i) : val (l.take i) = val l := by rw [List.take_of_length_le h]
theorem val_drop (l : List Nat) (i : Nat) : val (l.take i) + 4294967296 ^ (min i l.length) * val (l.drop i) = val l := by
  have := val_append (l.take i) (l.drop i)
  rw [List.take_append_drop, List.length_take] at this
  exact this.symm
/-- The word at a place, 0 behind the end. -/
def gd (l : List Nat) (i : Nat) : Nat := l.getD i 0
theorem gd_lt {l : List Nat} (h : Wd l) (i : Nat) : gd l i < 4294967296 := Wd_get h i
theorem gd_eq (l : List Nat) (i : Nat) (h : i < l.length) : gd l i = l[i] := by
  unfold gd; rw [List.getD_eq_getElem?_getD, List.getElem?_eq_getElem h]; rfl
theorem gd_ge (l : List Nat) (i : Nat) (h : l.length ≤ i) : gd l i = 0 := by
  unfold gd; rw [List.getD_eq_getElem?_getD, List.getElem?_eq_none h]; rfl
theorem gd_append_right (a b : List Nat) (i : Nat) (h : a.length ≤ i) : gd (a ++ b) i = gd b (i - a.length) := by
  unfold gd; rw [List.getD_eq_getElem?_getD, List.getElem?_append_right h, List.getD_eq_getElem?_getD]
theorem gd_set_self (l : List Nat) (i x : Nat) (h : i < l.length) : gd (l.set i x) i = x := by
  rw [gd_eq _ _ (by simpa using h)]; simp
theorem gd_set_other (l : List Nat) (i j x : Nat) (h : i ≠ j) : gd (l.set i x) j = gd l j := by
  unfold gd; simp [h]
theorem gd_replicate (n i : Nat) : gd (List.replicate n 0) i = 0 := by
  unfold gd; by_cases h : i < n <;> simp [h]
theorem gd_take (l : List Nat) (n i : Nat) (h : i < n) : gd (l.take n) i = gd l i := by
  unfold gd; rw [List.getD_eq_getElem?_getD, List.getElem?_take, if_pos h, List.getD_eq_getElem?_getD]
theorem gd_drop (l : List Nat) (n i : Nat) : gd (l.drop n) i = gd l (n + i) := by
  unfold gd; rw [List.getD_eq_getElem?_getD, List.getElem?_drop, List.getD_eq_getElem?_getD]
/-- The value of the first words, one word more, also behind the end. -/
theorem val_take_gd (l : List Nat) (i : Nat) : val (l.take (i + 1)) = val (l.take i) + 4294967296 ^ i * gd l i := by
  by_cases h : i < l.length
  · rw [val_take_succ l i h]; rfl
  · rw [val_take_ge l (i + 1) (by omega), val_take_ge l i (by omega), gd_ge l i (by omega)]; simp
theorem ext_gd {a b : List Nat} (hl : a.length = b.length) (h : ∀ i, i < a.length → gd a i = gd b i) : a = b := by
  apply List.ext_getElem hl
  intro i h1 h2
  rw [← gd_eq a i h1, ← gd_eq b i h2]; exact h i h1
theorem Wd_set {l : List Nat} (h : Wd l) (i x : Nat) (hx : x < 4294967296) : Wd (l.set i x) := by
  intro y hy
  rcases List.mem_or_eq_of_mem_set hy with h1 | h1
  · exact h y h1
  · rw [h1]; exact hx
/-- Behind 'done' there are zeros: the next one is set. -/
theorem set_done (done : List Nat) (m x : Nat) (h : 0 < m) : (done ++ List.replicate m 0).set done.length x = (done ++ [x]) ++ List.replicate (m - 1) 0 := by
  obtain ⟨k, rfl⟩ : ∃ k, m = k + 1 := ⟨m - 1, by omega⟩
  rw [List.set_append_right _ _ (by omega), Nat.sub_self, List.replicate_succ, List.set_cons_zero]
  simp
theorem val_set (l : List Nat) (i x : Nat) (h : i < l.length) : val (l.set i x) + 4294967296 ^ i * gd l i = val l + 4294967296 ^ i * x := by
  induction l generalizing i with
  | nil => simp at h
  | cons y l ih =>
    cases i with
    | zero => simp only [List.set_cons_zero, val_cons, gd]; simp; omega
    | succ i =>
      have h' : i < l.length := by simpa using h
      have e : gd (y :: l) (i + 1) = gd l i := by unfold gd; simp
      have := ih i h'
      rw [List.set_cons_succ, val_cons, val_cons, e, Nat.pow_succ]
      have e1 : 4294967296 ^ i * 4294967296 * gd l i = 4294967296 * (4294967296 ^ i * gd l i) := by grind
      have e2 : 4294967296 ^ i * 4294967296 * x = 4294967296 * (4294967296 ^ i * x) := by grind
      omega
/-! ### canonical lists -/
theorem Wd_digs (n : Nat) : Wd (digs n) := by
  induction n using Nat.strongRecOn with
  | ind n ih =>
    by_cases h : n = 0
    · subst h; rw [digs_zero]; exact Wd_nil
    · rw [digs_pos n (by omega), Wd_cons]
      exact ⟨Nat.mod_lt _ (by omega), ih _ (by omega)⟩
theorem val_digs (n : Nat) : val (digs n) = n := by
  induction n using Nat.strongRecOn with
  | ind n ih =>
    by_cases h : n = 0
    · subst h; rw [digs_zero]; rfl
    · rw [digs_pos n (by omega), val_cons, ih _ (by omega)]
      omega
theorem digs_inj {m n : Nat} (h : digs m = digs n) : m = n := by
  have := congrArg val h
  rwa [val_digs, val_digs] at this
theorem digs_nil_iff (n : Nat) : digs n = [] ↔ n = 0 := by
  constructor
  · intro h
    have := congrArg val h
    rwa [val_digs] at this
  · intro h; rw [h, digs_zero]
theorem trimW_nil_iff {l : List Nat} (h : Wd l) : trimW l = [] ↔ val l = 0 := by
  induction l with
  | nil => simp [trimW, val]
  | cons x l ih =>
    have ih := ih (Wd_cons.1 h).2
    rw [trimW, val_cons]
    by_cases h1 : trimW l = []
    · have hv := ih.1 h1
      by_cases h2 : x = 0
      · simp [h1, h2, hv]
      · simp [h1, h2]
    · have hv : ¬ val l = 0 := fun e => h1 (ih.2 e)
      simp [h1]; omega
theorem trimW_eq {l : List Nat} (h : Wd l) : trimW l = digs (val l) := by
  induction l with
  | nil => rw [val_nil, digs_zero]; rfl
  | cons x l ih =>
    have hx := (Wd_cons.1 h).1
    have hl := (Wd_cons.1 h).2
    have ih := ih hl
    rw [trimW]
    by_cases h0 : trimW l = [] ∧ x = 0
    · have h1 := (trimW_nil_iff hl).1 h0.1
      rw [if_pos h0, val_cons, h1, h0.2, digs_zero]
    · rw [if_neg h0]
      have hp : 0 < val (x :: l) := by
        rw [val_cons]
        by_cases hx0 : x = 0
        · have : trimW l ≠ [] := fun e => h0 ⟨e, hx0⟩
          have : val l ≠ 0 := fun e => this ((trimW_nil_iff hl).2 e)
          omega
        · omega
      rw [digs_pos _ hp, val_cons, ih, show (x + 4294967296 * val l) % 4294967296 = x from by omega, show (x + 4294967296 * val l) / 4294967296 = val l from by omega]
theorem trimW_append_zero (l : List Nat) : trimW (l ++ [0]) = trimW l := by
  induction l with
  | nil => simp [trimW]
  | cons x l ih => rw [List.cons_append, trimW, trimW, ih]
theorem trimW_last (l : List Nat) (x : Nat) (hx : x ≠ 0) : trimW (l ++ [x]) = l ++ [x] := by
  induction l with
  | nil => simp [trimW, hx]
  | cons y l ih => rw [List.cons_append, trimW, ih, if_neg (by simp)]
theorem trimW_length_le (l : List Nat) : (trimW l).length ≤ l.length := by
  induction l with
  | nil => simp [trimW]
  | cons x l ih => rw [trimW]; split <;> simp <;> omega
theorem trimW_take (l : List Nat) : trimW l = l.take (trimW l).length := by
  induction l with
  | nil => rfl
  | cons x l ih => rw [trimW]; split; · simp
                   · rw [List.length_cons, List.take_succ_cons, ← ih]
theorem digs_length_le {n k : Nat} (h : n < 4294967296 ^ k) : (digs n).length ≤ k := by
  induction k generalizing n with
  | zero => rw [Nat.pow_zero] at h; obtain rfl : n = 0 := by omega
            rw [digs_zero]; simp
  | succ k ih =>
    by_cases h0 : n = 0
    · subst h0; rw [digs_zero]; simp
    · rw [digs_pos n (by omega), List.length_cons]
      have := ih (n := n / 4294967296) (by rw [Nat.pow_succ] at h; exact Nat.div_lt_of_lt_mul (by rw [Nat.mul_comm]; exact h))
      omega
theorem digs_length_mono {m n : Nat} (h : m ≤ n) : (digs m).length ≤ (digs n).length := by
  have h1 := val_lt (Wd_digs n)
  rw [val_digs] at h1
  exact digs_length_le (by omega)
theorem digs_last (n : Nat) (h : 0 < n) : ∃ l x, digs n = l ++ [x] ∧ 0 < x ∧ x < 4294967296 := by
  have hw := Wd_digs n
  rcases (digs n).eq_nil_or_concat with h0 | ⟨l, x, hx⟩
  · exact absurd ((digs_nil_iff n).1 h0) (by omega)
  · rw [List.concat_eq_append] at hx
    refine ⟨l, x, hx, ?_, ?_⟩
    · rcases Nat.eq_zero_or_pos x with rfl | h1
      · exfalso
        have h2 : trimW (digs n) = digs n := by rw [trimW_eq hw, val_digs]
        rw [hx, trimW_append_zero] at h2
        have h3 := trimW_length_le l
        rw [h2] at h3
        simp at h3
        omega
      · exact h1
    · rw [hx, Wd_append] at hw
      exact hw.2 x (by simp)
/-! ### comparison -/
/-- -1, 0 or 1: how two numbers compare. -/
def cmpI (x y : Int) : Int := if x < y then -1 else if x = y then 0 else 1
/-- The last words decide, where the lists have one length. -/
theorem val_cmp_at {a b : List Nat} (hl : a.length = b.length) (ha : Wd a) (i : Nat) (hi : i < a.length) (he : ∀ j, i < j → j < a.length → gd a j = gd b j) (hx : gd a i < gd b i) : val a < val b := by
  have e : a.drop (i + 1) = b.drop (i + 1) := by
    apply ext_gd
    · simp [hl]
    · intro j hj
      rw [gd_drop, gd_drop]
      exact he _ (by omega) (by simp at hj; omega)
  have h1 := val_drop a (i + 1)
  have h2 := val_drop b (i + 1)
  rw [Nat.min_eq_left (by omega)] at h1 h2
  rw [e] at h1
  rw [val_take_gd] at h1 h2
  have h3 := val_lt (Wd_take ha i)
  rw [List.length_take, Nat.min_eq_left (by omega)] at h3
  have h4 : 4294967296 ^ i * (gd a i + 1) ≤ 4294967296 ^ i * gd b i := Nat.mul_le_mul_left _ hx
  rw [Nat.mul_add] at h4
  omega
/-- A longer canonical list is a greater number. -/
theorem digs_lt_of_length {m n : Nat} (h : (digs m).length < (digs n).length) : m < n := by
  rcases Nat.lt_or_ge m n with h1 | h1
  · exact h1
  · have := digs_length_mono h1; omega
end Go.Proofs.YtndpjfhhigpbhaaGreat.W
