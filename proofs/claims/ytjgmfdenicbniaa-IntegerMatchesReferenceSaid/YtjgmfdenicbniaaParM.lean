/- Plain facts on the reading of decimal digits. -/
import Derived.Test.YtjgmfdenicbniaaTxtM
import Derived.Test.YtjgmfdenicbniaaTxtL
namespace Go.Proofs.Ytjgmfdenicbniaa
open W
/-- The digits of bytes. -/
def dgs (l : List UInt8) : List Nat := l.map fun b => b.toNat - 48
/-- Only digits, at least one, no needless zero in front? -/
def okDec (l : List UInt8) : Bool := !l.isEmpty && !(l.head? == some 48 && decide (1 < l.length)) && l.all fun b => decide (48 ≤ b.toNat) && decide (b.toNat ≤ 57)
theorem okDec_empty {l : List UInt8} (h : l.length = 0) : okDec l = false := by
  rw [List.eq_nil_of_length_eq_zero h]; rfl
theorem okDec_zero {l : List UInt8} {b : UInt8} (h0 : l[0]? = some b) (hb : b.toNat = 48) (h1 : 1 < l.length) : okDec l = false := by
  have : b = 48 := UInt8.toNat_inj.1 (by rw [hb]; rfl)
  subst this
  unfold okDec
  rw [List.head?_eq_getElem?, h0]
  simp [h1]
theorem okDec_bad {l : List UInt8} {b : UInt8} {i : Nat} (h : l[i]? = some b) (hb : b.toNat < 48 ∨ 57 < b.toNat) : okDec l = false := by
  unfold okDec
  have : (l.all fun b => decide (48 ≤ b.toNat) && decide (b.toNat ≤ 57)) = false := by
    rw [List.all_eq_false]
    refine ⟨b, List.mem_of_getElem? h, ?_⟩
    simp; omega
  rw [this, Bool.and_false]
theorem okDec_good {l : List UInt8} (h0 : 0 < l.length) (h1 : (∀ b, l[0]? = some b → b.toNat = 48 → ¬ 1 < l.length)) (h : ∀ i b, i < l.length → l[i]? = some b → 48 ≤ b.toNat ∧ b.toNat ≤ 57) : okDec l = true := by
  unfold okDec
  have e1 : l.isEmpty = false := by cases l <;> simp at h0 ⊢
  have e2 : (l.head? == some 48 && decide (1 < l.length)) = false := by
    rw [Bool.and_eq_false_iff]
    by_cases e : l.head? = some 48
    · right
      rw [decide_eq_false_iff_not]
      exact h1 48 (by rw [← List.head?_eq_getElem?]; exact e) rfl
    · left; rw [beq_eq_false_iff_ne]; exact e
  have e3 : (l.all fun b => decide (48 ≤ b.toNat) && decide (b.toNat ≤ 57)) = true := by
    rw [List.all_eq_true]
    intro b hb
    obtain ⟨i, hi, rfl⟩ := List.getElem_of_mem hb
    have := h i l[i] hi (List.getElem?_eq_getElem hi)
    simp; omega
  rw [e1, e2, e3]; rfl
theorem okDec_all {l : List UInt8} (h : okDec l = true) : ∀ b ∈ l, 48 ≤ b.toNat ∧ b.toNat ≤ 57 := by
  unfold okDec at h
  simp only [Bool.and_eq_true] at h
  intro b hb
  have := List.all_eq_true.1 h.2 b hb
  simpa using this
theorem okDec_pos {l : List UInt8} (h : okDec l = true) : 0 < l.length := by
  rcases Nat.eq_zero_or_pos l.length with e | e
  · rw [okDec_empty e] at h; cases h
  · exact e
/-- The integer of which a list of bytes is the text. -/
def parseZ (l : List UInt8) : Option Int :=
  if l.head? = some 45 then (if okDec l.tail = true ∧ l.tail ≠ [48] then some (-(val10 (dgs l.tail) : Int)) else none)
  else if okDec l = true then some (val10 (dgs l) : Int) else none
theorem str_get {s : ByteArray} {i : Nat} (h : i < s.size) : ∃ b, s[i]? = some b ∧ s.data.toList[i]? = some b := by
  refine ⟨s[i], by simp [h], ?_⟩
  have h' : i < s.data.size := h
  rw [Array.getElem?_toList, Array.getElem?_eq_getElem h']; rfl
theorem str_len (s : ByteArray) : s.data.toList.length = s.size := by rw [Array.length_toList]; rfl
theorem str_drop (s : ByteArray) (j : Nat) (_h : j ≤ s.size) : (s.extract j s.size).data.toList = s.data.toList.drop j := by
  have h1 : s.data.toList.length = s.size := str_len s
  rw [ByteArray.data_extract, Array.toList_extract, List.extract_eq_take_drop]
  rw [List.take_of_length_le]
  rw [List.length_drop, h1]
  exact Nat.le_refl _
end Go.Proofs.Ytjgmfdenicbniaa
