/- Plain facts on the reading of decimal digits. -/
import Derived.Test.YtndpjfhhigpbhaaGreatTxtM
import Derived.Test.YtndpjfhhigpbhaaGreatTxtL
namespace Go.Proofs.YtndpjfhhigpbhaaGreat
open W
/-- The digits of bytes. -/
def dgs (l : List UInt8) : List Nat := l.map fun b => b.toNat - 48
/-- Only digits, at least one, no needless zero in front? -/
def okDec (l : List UInt8) : Bool := !l.isEmpty && !(l.head? == some 48 && decide (1 < l.length)) && l.all fun b => decide (48 ≤ b.toNat) && decide (b.toNat ≤ 57)
theorem okDec_empty {l : List UInt8} (h : l.length = 0) : okDec l = false := by
  rw [List.eq_nil_of_length_eq_zero h]; rfl
theorem okDec_zero {l : List UInt8} {b : UInt8} (h0 : l[0]? = some b) (hb : b.toNat = 48) (h1 : 1 < l.length) : okDec l = false := by
  have : b = 48 := UInt8.toNat_inj.1 (by rw [hb]; rfl)
  subst this
  unfold okDec
  rw [List.head?_eq_getElem?, h0]
  simp [h1]
theorem okDec_bad {l : List UInt8} {b : UInt8} {i : Nat} (h : l[i]? = some b) (hb : b.toNat < 48 ∨ 57 < b.toNat) : okDec l = false := by
  unfold okDec
  have : (l.all fun b => decide (48 ≤ b.toNat) && decide (b.toNat ≤ 57)) = false := by
    rw [List.all_eq_false]
    refine ⟨b, List.mem_of_getElem? h, ?_⟩
    simp; omega
  rw [this, Bool.and_false]
theorem okDec_good {l : List UInt8} (h0 : 0 < l.length) (h1 : (∀ b, l[0]? = some b → b.toNat = 48 → ¬ 1 < l.length)) (h : ∀ i b, i < l.length → l[i]? = some b → 48 ≤ b.toNat ∧ b.toNat ≤ 57) : okDec l = true := by
  unfold okDec
  have e1 : l.isEmpty = false := by cases l <;> simp at h0 ⊢
  have e2 : (l.head? == some 48 && decide (1 < l.length)) = false := by
    rw [Bool.and_eq_false_iff]
    by_cases e : l.head? = some 48
    · right
      rw [decide_eq_false_iff_not]
      exact h1 48 (by rw [← List.head?_eq_getElem?]; exact e) rfl
    · left; rw [beq_eq_false_iff_ne]; exact e
  have e3 : (l.all fun b => decide (48 ≤ b.toNat) && decide (b.toNat ≤ 57)) = true := by
    rw [List.all_eq_true]
    intro b hb
    obtain ⟨i, hi, rfl⟩ := List.getElem_of_mem hb
    have := h i l[i] hi (List.getElem?_eq_getElem hi)
    simp; omega
  rw [e1, e2, e3]; rfl
theorem okDec_all {l : List UInt8} (h : okDec l = true) : ∀ b ∈ l, 48 ≤ b.toNat ∧ b.toNat ≤ 57 := by
  unfold okDec at h
  simp only [Bool.and_eq_true] at h
  intro b hb
  have := List.all_eq_true.1 h.2 b hb
  simpa using this
theorem okDec_pos {l : List UInt8} (h : okDec l = true) : 0 < l.length := by
  rcases Nat.eq_zero_or_pos l.length with e | e
  · rw [okDec_empty e] at h; cases h
  · exact e
theorem dgs_Dg {l : List UInt8} (h : okDec l = true) : Dg (dgs l) := by
  intro d hd
  obtain ⟨b, hb, rfl⟩ := List.mem_map.1 hd
  have := okDec_all h b hb
  omega
theorem bts_dgs {l : List UInt8} (h : ∀ b ∈ l, 48 ≤ b.toNat ∧ b.toNat ≤ 57) : bts (dgs l) = l := by
  unfold bts dgs
  rw [List.map_map]
  conv => rhs; rw [← List.map_id l]
  apply List.map_congr_left
  intro b hb
  have := h b hb
  simp only [Function.comp, id]
  rw [show 48 + (b.toNat - 48) = b.toNat by omega]
  simp
theorem dgs_bts {l : List Nat} (h : Dg l) : dgs (bts l) = l := by
  unfold bts dgs
  rw [List.map_map]
  conv => rhs; rw [← List.map_id l]
  apply List.map_congr_left
  intro d hd
  have := h d hd
  simp only [Function.comp, id, UInt8.toNat_ofNat']
  omega
theorem dgs_Cn {l : List UInt8} (h : okDec l = true) : Cn (dgs l) := by
  have hp := okDec_pos h
  refine ⟨fun e => ?_, fun e => ?_⟩
  · have := congrArg List.length e
    simp [dgs] at this
    subst this; simp at hp
  · unfold okDec at h
    simp only [Bool.and_eq_true, Bool.not_eq_true', Bool.and_eq_false_iff] at h
    have h2 := h.1.2
    have ha := List.all_eq_true.1 h.2
    cases l with
    | nil => simp at hp
    | cons b l =>
      have hb := ha b (by simp)
      simp only [Bool.and_eq_true, decide_eq_true_eq] at hb
      simp only [dgs, List.map_cons, List.head?_cons, Option.some.injEq] at e
      have e48 : b = 48 := UInt8.toNat_inj.1 (by show b.toNat = 48; omega)
      subst e48
      simp at h2
      simp [dgs, h2]
theorem dgs_dec {l : List UInt8} (h : okDec l = true) : dgs l = dec (val10 (dgs l)) := dec_of _ _ rfl (dgs_Dg h) (dgs_Cn h)
theorem bts_ok (n : Nat) : okDec (bts (dec n)) = true := by
  have hD := dec_Dg n
  have hC := dec_Cn n
  refine okDec_good ?_ ?_ ?_
  · simp [bts, List.length_pos_iff.2 hC.1]
  · intro b hb hb48
    cases hd : dec n with
    | nil => exact absurd hd hC.1
    | cons d l =>
      rw [hd] at hb hD hC
      simp only [bts, List.map_cons, List.getElem?_cons_zero, Option.some.injEq] at hb
      have hd10 := (Dg_cons.1 hD).1
      have e := congrArg UInt8.toNat hb
      rw [UInt8.toNat_ofNat'] at e
      have hd0 : d = 0 := by omega
      have := hC.2 (by simp [hd0])
      simp [bts] at this ⊢
      omega
  · intro i b hi hb
    have hm := List.mem_of_getElem? hb
    obtain ⟨d, hd, rfl⟩ := List.mem_map.1 hm
    have := hD d hd
    rw [UInt8.toNat_ofNat']
    omega
/-- The integer of which a list of bytes is the text. -/
def parseZ (l : List UInt8) : Option Int :=
  if l.head? = some 45 then (if okDec l.tail = true ∧ l.tail ≠ [48] then some (-(val10 (dgs l.tail) : Int)) else none)
  else if okDec l = true then some (val10 (dgs l) : Int) else none
theorem val10_pos {l : List UInt8} (h : okDec l = true) (h0 : l ≠ [48]) : 0 < val10 (dgs l) := by
  rcases Nat.eq_zero_or_pos (val10 (dgs l)) with e | e
  · exfalso
    have h1 := dgs_dec h
    rw [e, dec_lt 0 (by omega)] at h1
    have h2 := bts_dgs (okDec_all h)
    rw [h1] at h2
    exact h0 h2.symm
  · exact e
theorem parse_some {l : List UInt8} {z : Int} (h : parseZ l = some z) : txt z = l := by
  unfold parseZ at h
  by_cases hn : l.head? = some 45
  · rw [if_pos hn] at h
    by_cases hk : okDec l.tail = true ∧ l.tail ≠ [48]
    · rw [if_pos hk] at h
      simp only [Option.some.injEq] at h
      have hp := val10_pos hk.1 hk.2
      have hz : z < 0 := by omega
      unfold txt
      rw [if_pos hz, show z.natAbs = val10 (dgs l.tail) by omega, ← dgs_dec hk.1, bts_dgs (okDec_all hk.1)]
      cases l with
      | nil => simp at hn
      | cons b l => simp at hn ⊢; exact hn.symm
    · rw [if_neg hk] at h; cases h
  · rw [if_neg hn] at h
    by_cases hk : okDec l = true
    · rw [if_pos hk] at h
      simp only [Option.some.injEq] at h
      unfold txt
      rw [if_neg (by omega), show z.natAbs = val10 (dgs l) by omega, ← dgs_dec hk, bts_dgs (okDec_all hk)]; rfl
    · rw [if_neg hk] at h; cases h
theorem parse_txt (z : Int) : parseZ (txt z) = some z := by
  have hb := bts_head (dec_Dg z.natAbs)
  have hk := bts_ok z.natAbs
  have hd := dgs_bts (dec_Dg z.natAbs)
  unfold parseZ txt
  by_cases hz : z < 0
  · rw [if_pos hz]
    have h48 : bts (dec z.natAbs) ≠ [48] := by
      intro e
      have e2 := congrArg dgs e
      rw [hd] at e2
      have e3 := congrArg val10 e2
      rw [val10_dec] at e3
      have : val10 (dgs [48]) = 0 := rfl
      omega
    have h45 : ([(45 : UInt8)] ++ bts (dec z.natAbs)).head? = some 45 := rfl
    have htl : ([(45 : UInt8)] ++ bts (dec z.natAbs)).tail = bts (dec z.natAbs) := rfl
    rw [if_pos h45, htl, if_pos ⟨hk, h48⟩, hd, val10_dec]
    congr 1; omega
  · rw [if_neg hz, List.nil_append, if_neg hb, if_pos hk, hd, val10_dec]
    congr 1; omega
theorem parse_none {l : List UInt8} (h : parseZ l = none) (z : Int) : txt z ≠ l := by
  rintro rfl; rw [parse_txt] at h; cases h
theorem str_get {s : ByteArray} {i : Nat} (h : i < s.size) : ∃ b, s[i]? = some b ∧ s.data.toList[i]? = some b := by
  refine ⟨s[i], by simp [h], ?_⟩
  have h' : i < s.data.size := h
  rw [Array.getElem?_toList, Array.getElem?_eq_getElem h']; rfl
theorem str_len (s : ByteArray) : s.data.toList.length = s.size := by rw [Array.length_toList]; rfl
theorem str_drop (s : ByteArray) (j : Nat) (_h : j ≤ s.size) : (s.extract j s.size).data.toList = s.data.toList.drop j := by
  have h1 : s.data.toList.length = s.size := str_len s
  rw [ByteArray.data_extract, Array.toList_extract, List.extract_eq_take_drop]
  rw [List.take_of_length_le]
  rw [List.length_drop, h1]
  exact Nat.le_refl _
end Go.Proofs.YtndpjfhhigpbhaaGreat
