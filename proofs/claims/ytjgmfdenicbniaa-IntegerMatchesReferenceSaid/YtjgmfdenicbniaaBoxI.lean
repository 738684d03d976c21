/- Boxes of integers that are written: what is in them, carried from world to world. -/
import Derived.Test.YtjgmfdenicbniaaDivMod
namespace Go.Proofs.Ytjgmfdenicbniaa
open Go.RowKit W
/-- The box at block r holds the integer z. -/
def BoxI (w : World) (r : Nat) (z : Int) : Prop := RBox w r ∧ ∃ n s, Box w r n s ∧ IsI w (.agg #[.bool n, s]) z
theorem BoxI.cells {w : World} {r : Nat} {z : Int} (h : BoxI w r z) : ∃ (ao : Option Addr) (cap : Nat), w.cell? ⟨r, 0, none⟩ = some (.bool (decide (z < 0))) ∧ w.cell? ⟨r, 1, none⟩ = some (.slice ao (digs z.natAbs).length cap) ∧
    IsI w (.agg #[.bool (decide (z < 0)), .slice ao (digs z.natAbs).length cap]) z ∧ w.frozen? ⟨r, 0, none⟩ = false ∧ w.frozen? ⟨r, 1, none⟩ = false := by
  obtain ⟨hr, n, s, hb, hz⟩ := h
  obtain ⟨ao, cap, e, _⟩ := hz.parts
  simp only [Value.agg.injEq, Array.mk.injEq, List.cons.injEq, Value.bool.injEq, and_true] at e
  obtain ⟨rfl, rfl⟩ := e
  exact ⟨ao, cap, hb.1, hb.2, hz, hr.2.1, hr.2.2⟩
theorem BoxI.lt {w : World} {r : Nat} {z : Int} (h : BoxI w r z) : r < w.heap.size := by
  obtain ⟨ao, cap, h0, _⟩ := h.cells
  exact block_lt h0
theorem BoxI.keep {w w1 : World} {r : Nat} {z : Int} (h : BoxI w r z) (hb : Below w.heap.size w w1) : BoxI w1 r z := by
  obtain ⟨hr, n, s, hb', hz⟩ := h
  exact ⟨hr.keep hb, n, s, hb'.keep hb, hz.below hb⟩
theorem BoxI.drewN {w : World} {r : Nat} {z : Int} (h : BoxI w r z) (q : Nat) : BoxI (w.drewN q) r z := h
theorem BoxI.other {w : World} {r r' : Nat} {z : Int} (h : BoxI w r z) (h' : RBox w r') (hne : r ≠ r') (n' : Bool) (s' : Value) : BoxI ((w.setCell ⟨r', 0, none⟩ (.bool n')).setCell ⟨r', 1, none⟩ s') r z := by
  obtain ⟨hr, n, s, hb, hz⟩ := h
  exact ⟨hr.other hne n' s', n, s, ⟨store_keep hb.1 hne, store_keep hb.2 hne⟩, hz.store h' n' s'⟩
theorem BoxI.put {w : World} {r : Nat} {z : Int} {n : Bool} {ao : Option Addr} {len cap : Nat} (hr : RBox w r) (hz : IsI w (.agg #[.bool n, .slice ao len cap]) z) :
    BoxI ((w.setCell ⟨r, 0, none⟩ (.bool n)).setCell ⟨r, 1, none⟩ (.slice ao len cap)) r z := by
  have hz' := hz.store hr n (.slice ao len cap)
  obtain ⟨⟨n0, ao0, len0, cap0, h0, h1⟩, h2, h3⟩ := hr
  have e0 : ((w.setCell ⟨r, 0, none⟩ (.bool n)).setCell ⟨r, 1, none⟩ (.slice ao len cap)).cell? ⟨r, 0, none⟩ = some (.bool n) := by
    simp [go_sem, h0]
  have e1 : ((w.setCell ⟨r, 0, none⟩ (.bool n)).setCell ⟨r, 1, none⟩ (.slice ao len cap)).cell? ⟨r, 1, none⟩ = some (.slice ao len cap) := by
    simp [go_sem, h1]
  exact ⟨⟨⟨n, ao, len, cap, e0, e1⟩, by simp [h2], by simp [h3]⟩, n, _, ⟨e0, e1⟩, hz'⟩
end Go.Proofs.Ytjgmfdenicbniaa
