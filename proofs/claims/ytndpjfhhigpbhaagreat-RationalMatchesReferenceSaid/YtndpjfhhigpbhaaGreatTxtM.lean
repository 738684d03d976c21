/- Plain facts on decimal digits. -/
import Derived.Test.YtndpjfhhigpbhaaGreatWords
namespace Go.Proofs.YtndpjfhhigpbhaaGreat.W
/-- k decimal digits of a number, the most significant first. -/
def pad : Nat → Nat → List Nat
  | 0, _ => []
  | k + 1, c => pad k (c / 10) ++ [c % 10]
/-- The number of which a list holds the decimal digits. -/
def val10 (l : List Nat) : Nat := l.foldl (fun a d => 10 * a + d) 0
/-- All are decimal digits. -/
def Dg (l : List Nat) : Prop := ∀ d ∈ l, d < 10
/-- The decimal digits of a number. -/
def dec (n : Nat) : List Nat := if n < 10 then [n] else dec (n / 10) ++ [n % 10]
termination_by n
decreasing_by omega
theorem Dg_append {a b : List Nat} : Dg (a ++ b) ↔ Dg a ∧ Dg b := by
  simp only [Dg, List.mem_append]
  exact ⟨fun h => ⟨fun x hx => h x (.inl hx), fun x hx => h x (.inr hx)⟩, fun h x hx => hx.elim (h.1 x) (h.2 x)⟩
theorem Dg_cons {a : Nat} {b : List Nat} : Dg (a :: b) ↔ a < 10 ∧ Dg b := by simp [Dg]
theorem val10_nil : val10 [] = 0 := rfl
theorem val10_snoc (l : List Nat) (d : Nat) : val10 (l ++ [d]) = 10 * val10 l + d := by simp [val10]
theorem foldl10 (l : List Nat) : ∀ a : Nat, l.foldl (fun a d => 10 * a + d) a = a * 10 ^ l.length + val10 l := by
  induction l with
  | nil => intro a; simp [val10]
  | cons d l ih =>
    intro a
    have h1 := ih (10 * a + d)
    have h2 := ih (10 * 0 + d)
    have e : val10 (d :: l) = l.foldl (fun a d => 10 * a + d) (10 * 0 + d) := rfl
    rw [List.foldl_cons, h1, e, h2, List.length_cons, Nat.pow_succ]
    grind
theorem val10_append (a b : List Nat) : val10 (a ++ b) = val10 a * 10 ^ b.length + val10 b := by
  show (a ++ b).foldl _ 0 = _
  rw [List.foldl_append, foldl10 b]; rfl
theorem val10_cons (d : Nat) (l : List Nat) : val10 (d :: l) = d * 10 ^ l.length + val10 l := by
  have := val10_append [d] l
  simpa [val10] using this
theorem pad_length : ∀ (k c : Nat), (pad k c).length = k
  | 0, _ => rfl
  | k + 1, c => by rw [pad, List.length_append, pad_length k]; rfl
theorem pad_Dg : ∀ (k c : Nat), Dg (pad k c)
  | 0, _ => fun _ h => by cases h
  | k + 1, c => by
    rw [pad, Dg_append, Dg_cons]
    exact ⟨pad_Dg k _, by omega, fun _ h => by cases h⟩
theorem val10_pad : ∀ (k c : Nat), c < 10 ^ k → val10 (pad k c) = c
  | 0, c, h => by rw [Nat.pow_zero] at h; obtain rfl : c = 0 := by omega
                  rfl
  | k + 1, c, h => by
    rw [pad, val10_snoc, val10_pad k (c / 10) (by rw [Nat.pow_succ] at h; exact Nat.div_lt_of_lt_mul (by rw [Nat.mul_comm]; exact h))]
    omega
theorem val10_lt {l : List Nat} (h : Dg l) : val10 l < 10 ^ l.length := by
  induction l with
  | nil => simp [val10]
  | cons d l ih =>
    have h1 := Dg_cons.1 h
    have h2 := ih h1.2
    rw [val10_cons, List.length_cons, Nat.pow_succ]
    have : d * 10 ^ l.length ≤ 9 * 10 ^ l.length := Nat.mul_le_mul_right _ (by omega)
    omega
theorem dec_lt (n : Nat) (h : n < 10) : dec n = [n] := by rw [dec, if_pos h]
theorem dec_ge (n : Nat) (h : 10 ≤ n) : dec n = dec (n / 10) ++ [n % 10] := by rw [dec, if_neg (by omega)]
theorem dec_Dg (n : Nat) : Dg (dec n) := by
  induction n using Nat.strongRecOn with
  | ind n ih =>
    rcases Nat.lt_or_ge n 10 with h | h
    · rw [dec_lt n h, Dg_cons]; exact ⟨h, fun _ h => by cases h⟩
    · rw [dec_ge n h, Dg_append, Dg_cons]
      exact ⟨ih _ (by omega), by omega, fun _ h => by cases h⟩
theorem val10_dec (n : Nat) : val10 (dec n) = n := by
  induction n using Nat.strongRecOn with
  | ind n ih =>
    rcases Nat.lt_or_ge n 10 with h | h
    · rw [dec_lt n h]; simp [val10]
    · rw [dec_ge n h, val10_snoc, ih _ (by omega)]; omega
theorem dec_ne (n : Nat) : dec n ≠ [] := by
  rcases Nat.lt_or_ge n 10 with h | h
  · rw [dec_lt n h]; simp
  · rw [dec_ge n h]; simp
/-- The first digit is not 0, or it is the only one. -/
def Cn (l : List Nat) : Prop := l ≠ [] ∧ (l.head? = some 0 → l.length = 1)
theorem dec_head (n : Nat) (h : 0 < n) : (dec n).head? ≠ some 0 := by
  induction n using Nat.strongRecOn with
  | ind n ih =>
    rcases Nat.lt_or_ge n 10 with h1 | h1
    · rw [dec_lt n h1]; simp; omega
    · rw [dec_ge n h1]
      have := ih (n / 10) (by omega) (by omega)
      have h2 := dec_ne (n / 10)
      cases hd : dec (n / 10) with
      | nil => exact absurd hd h2
      | cons a l => rw [hd] at this; simpa using this
theorem dec_Cn (n : Nat) : Cn (dec n) := by
  refine ⟨dec_ne n, fun h => ?_⟩
  rcases Nat.eq_zero_or_pos n with h1 | h1
  · subst h1; rw [dec_lt 0 (by omega)]; rfl
  · exact absurd h (dec_head n h1)
theorem snoc_cases {l : List Nat} (h : l ≠ []) : ∃ a d, l = a ++ [d] := by
  rcases l.eq_nil_or_concat with e | ⟨a, d, e⟩
  · exact absurd e h
  · exact ⟨a, d, by rw [e, List.concat_eq_append]⟩
/-- Canonical digits are the digits of their number. -/
theorem dec_of : ∀ (k : Nat) (l : List Nat), l.length = k → Dg l → Cn l → l = dec (val10 l)
  | 0, l, hk, _, hc => absurd (List.eq_nil_of_length_eq_zero hk) hc.1
  | k + 1, l, hk, hd, hc => by
    obtain ⟨a, d, rfl⟩ := snoc_cases hc.1
    have h1 := Dg_append.1 hd
    have hd1 : d < 10 := (Dg_cons.1 h1.2).1
    rw [val10_snoc]
    by_cases ha : a = []
    · subst ha
      rw [val10_nil, dec_lt _ (by omega)]
      simp
    · have hca : Cn a := by
        refine ⟨ha, fun h => ?_⟩
        have := hc.2 (by cases a with | nil => exact absurd rfl ha | cons x a => simpa using h)
        rw [List.length_append, List.length_singleton] at this
        have : a.length = 0 := by omega
        exact absurd (List.eq_nil_of_length_eq_zero this) ha
      have ih := dec_of k a (by simpa using hk) h1.1 hca
      have hpos : 0 < val10 a := by
        rcases Nat.eq_zero_or_pos (val10 a) with e | e
        · exfalso
          rw [e, dec_lt 0 (by omega)] at ih
          subst ih
          have := hc.2 (by simp)
          simp at this
        · exact e
      rw [dec_ge _ (by omega), show (10 * val10 a + d) / 10 = val10 a from by omega, show (10 * val10 a + d) % 10 = d from by omega, ← ih]
theorem dec_inj {m n : Nat} (h : dec m = dec n) : m = n := by
  have := congrArg val10 h
  rwa [val10_dec, val10_dec] at this
/-- Without the zeros in front. -/
def strip : List Nat → List Nat
  | [] => []
  | 0 :: l => strip l
  | d :: l => d :: l
theorem strip_val (l : List Nat) : val10 (strip l) = val10 l := by
  induction l with
  | nil => rfl
  | cons d l ih =>
    cases d with
    | zero => rw [strip, ih, val10_cons]; omega
    | succ d => rfl
theorem strip_Dg {l : List Nat} (h : Dg l) : Dg (strip l) := by
  induction l with
  | nil => exact h
  | cons d l ih =>
    cases d with
    | zero => exact ih (Dg_cons.1 h).2
    | succ d => exact h
theorem strip_head (l : List Nat) : (strip l).head? ≠ some 0 := by
  induction l with
  | nil => simp [strip]
  | cons d l ih =>
    cases d with
    | zero => exact ih
    | succ d => simp [strip]
theorem strip_dec {l : List Nat} (h : Dg l) (hp : 0 < val10 l) : strip l = dec (val10 l) := by
  have hv := strip_val l
  rw [← hv]
  refine dec_of _ _ rfl (strip_Dg h) ⟨fun e => ?_, fun e => absurd e (strip_head l)⟩
  rw [e] at hv
  rw [← hv] at hp
  exact absurd hp (by simp [val10])
theorem dec_length_le {n k : Nat} (hk : 0 < k) (h : n < 10 ^ k) : (dec n).length ≤ k := by
  induction k generalizing n with
  | zero => omega
  | succ k ih =>
    rcases Nat.lt_or_ge n 10 with h1 | h1
    · rw [dec_lt n h1]; simp
    · rw [dec_ge n h1, List.length_append, List.length_singleton]
      have hk0 : 0 < k := by
        rcases Nat.eq_zero_or_pos k with e | e
        · subst e; simp at h; omega
        · exact e
      have := ih hk0 (n := n / 10) (by rw [Nat.pow_succ] at h; exact Nat.div_lt_of_lt_mul (by rw [Nat.mul_comm]; exact h))
      omega
/-- Chunks of nine digits, the least significant first. -/
def valC : List Nat → Nat
  | [] => 0
  | c :: l => c + 1000000000 * valC l
theorem valC_snoc (l : List Nat) (c : Nat) : valC (l ++ [c]) = valC l + 1000000000 ^ l.length * c := by
  induction l with
  | nil => simp [valC]
  | cons x l ih => rw [List.cons_append, valC, valC, ih, List.length_cons, Nat.pow_succ]; grind
theorem flat_length (l : List Nat) : (l.flatMap (pad 9)).length = 9 * l.length := by
  induction l with
  | nil => rfl
  | cons c l ih => rw [List.flatMap_cons, List.length_append, ih, pad_length, List.length_cons]; omega
theorem flat_Dg (l : List Nat) : Dg (l.flatMap (pad 9)) := by
  induction l with
  | nil => exact fun _ h => by cases h
  | cons c l ih => rw [List.flatMap_cons, Dg_append]; exact ⟨pad_Dg _ _, ih⟩
theorem flat_snoc (l : List Nat) (c : Nat) : (l ++ [c]).flatMap (pad 9) = l.flatMap (pad 9) ++ pad 9 c := by simp
theorem val10_flat (l : List Nat) (h : ∀ c ∈ l, c < 1000000000) : val10 (l.reverse.flatMap (pad 9)) = valC l := by
  induction l with
  | nil => rfl
  | cons c l ih =>
    rw [List.reverse_cons, flat_snoc, val10_append, ih (fun x hx => h x (by simp [hx])), pad_length, val10_pad 9 c (h c (by simp)), valC]
    omega
/-! ### texts -/
/-- The bytes of decimal digits. -/
def bts (l : List Nat) : List UInt8 := l.map fun d => UInt8.ofNat (48 + d)
/-- The text of an integer. -/
def txt (z : Int) : List UInt8 := (if z < 0 then [45] else []) ++ bts (dec z.natAbs)
def txtS (z : Int) : ByteArray := ⟨(txt z).toArray⟩
theorem bts_inj {a b : List Nat} (ha : Dg a) (hb : Dg b) (h : bts a = bts b) : a = b := by
  induction a generalizing b with
  | nil => cases b with | nil => rfl | cons _ _ => simp [bts] at h
  | cons x a ih =>
    cases b with
    | nil => simp [bts] at h
    | cons y b =>
      have h1 := Dg_cons.1 ha
      have h2 := Dg_cons.1 hb
      simp only [bts, List.map_cons, List.cons.injEq] at h
      have e := congrArg UInt8.toNat h.1
      rw [UInt8.toNat_ofNat', UInt8.toNat_ofNat'] at e
      obtain rfl : x = y := by omega
      rw [ih h1.2 h2.2 h.2]
theorem bts_head {l : List Nat} (h : Dg l) : (bts l).head? ≠ some 45 := by
  cases l with
  | nil => simp [bts]
  | cons d l =>
    have := (Dg_cons.1 h).1
    simp only [bts, List.map_cons, List.head?_cons, Option.some.injEq, ne_eq]
    intro e
    have e := congrArg UInt8.toNat e
    rw [UInt8.toNat_ofNat'] at e
    have : (48 + d) % 2 ^ 8 = 48 + d := Nat.mod_eq_of_lt (by omega)
    rw [this] at e
    have : (45 : UInt8).toNat = 45 := rfl
    omega
theorem txt_inj {x y : Int} (h : txt x = txt y) : x = y := by
  unfold txt at h
  have hx := bts_head (dec_Dg x.natAbs)
  have hy := bts_head (dec_Dg y.natAbs)
  by_cases h1 : x < 0 <;> by_cases h2 : y < 0
  · rw [if_pos h1, if_pos h2] at h
    have := dec_inj (bts_inj (dec_Dg _) (dec_Dg _) (by simpa using h))
    omega
  · rw [if_pos h1, if_neg h2] at h
    exfalso; apply hy; simp only [List.nil_append] at h; rw [← h]; rfl
  · rw [if_neg h1, if_pos h2] at h
    exfalso; apply hx; simp only [List.nil_append] at h; rw [h]; rfl
  · rw [if_neg h1, if_neg h2] at h
    have := dec_inj (bts_inj (dec_Dg _) (dec_Dg _) (by simpa using h))
    omega
end Go.Proofs.YtndpjfhhigpbhaaGreat.W
