/- Slices of words in memory: what a slice value reads as, and how that is carried from world to world. Walk: trim. -/
import Derived.WalkKit
import Derived.Lib.Hide
import Derived.Laws.AppendOwnNone
import Derived.Deep.Draws
import Derived.Test.YtndpjfhhigpbhaaGreatProg
import Derived.Test.YtndpjfhhigpbhaaGreatWords
namespace Go.Proofs.YtndpjfhhigpbhaaGreat
open Go.RowKit W
/-- A slice value of 32-bit words that reads as a list of numbers. -/
def Sl (w : World) (v : Value) (l : List Nat) : Prop :=
  ∃ (ao : Option Addr) (cap : Nat), v = .slice ao l.length cap ∧ l.length ≤ cap ∧ cap ≤ maxLen ∧ Wd l ∧ (ao = none → cap = 0) ∧
    ∀ i, i < l.length → ∃ b off, ao = some ⟨b, off, none⟩ ∧ w.cell? ⟨b, off + i, none⟩ = some (.int .u32 ((gd l i : Nat) : Int))
theorem block_lt {w : World} {a : Addr} {v : Value} (h : w.cell? a = some v) : a.block < w.heap.size := World.block_lt_of_cell? w a h
theorem Sl.wd {w : World} {v : Value} {l : List Nat} (h : Sl w v l) : Wd l := by obtain ⟨_, _, _, _, _, h, _, _⟩ := h; exact h
theorem Sl.below {w w' : World} {v : Value} {l : List Nat} (h : Sl w v l) (hb : Below w.heap.size w w') : Sl w' v l := by
  obtain ⟨ao, cap, rfl, h1, h2, h3, hn, h4⟩ := h
  refine ⟨ao, cap, rfl, h1, h2, h3, hn, fun i hi => ?_⟩
  obtain ⟨b, off, h5, h6⟩ := h4 i hi
  exact ⟨b, off, h5, (hb.cell (block_lt h6)).trans h6⟩
theorem Sl_nil (w : World) : Sl w (.slice none 0 0) [] := ⟨none, 0, rfl, Nat.le_refl _, by unfold maxLen; omega, Wd_nil, fun _ => rfl, fun i hi => absurd hi (by simp)⟩
/-- What a function that makes a list of words leaves: a slice that reads as l, the old memory as it was. -/
def Ret (w0 : World) (l : List Nat) (e : Ending) (w' : World) : Prop := ∃ v, e = .returned v ∧ Sl w' v l ∧ Below w0.heap.size w0 w'
theorem info27 : (Tryz.prog.info? 75).map (fun i => (i.zero, i.size, i.bytes)) = some (some (.int .u32 0), 1, 4) := by kernel_rfl
/-- A row of words that the call itself made, whole. -/
def Own (w : World) (base g n : Nat) (l : List Nat) : Prop :=
  w.ownsRow base 75 1 (.slice (some ⟨g, 0, none⟩) n n) n (l.map fun x => Value.int .u32 ((x : Nat) : Int))
theorem Own.len {w : World} {base g n : Nat} {l : List Nat} (h : Own w base g n l) : l.length = n := by
  have := h.1; simpa using this
theorem Own.cell {w : World} {base g n : Nat} {l : List Nat} (h : Own w base g n l) (i : Nat) (hi : i < n) : w.cell? ⟨g, i, none⟩ = some (.int .u32 ((gd l i : Nat) : Int)) := by
  have h1 := h.cellAt i (by omega)
  have hl := h.len
  rw [h1, gd_eq l i (by omega)]
  simp [hl, hi]
theorem Own.free {w : World} {base g n : Nat} {l : List Nat} (h : Own w base g n l) (i : Nat) : w.frozen? ⟨g, i, none⟩ = false := h.frozenAt i
theorem Own.lt {w : World} {base g n : Nat} {l : List Nat} (h : Own w base g n l) : base ≤ g ∧ g < w.heap.size := World.ownsRow.lt h g rfl
theorem Own.set {w : World} {base g n : Nat} {l : List Nat} (h : Own w base g n l) (i : Nat) (X : Int) (x : Nat) (hx : X = (x : Int)) :
    Own (w.setCell ⟨g, i, none⟩ (.int .u32 X)) base g n (l.set i x) := by
  subst hx
  have := (h.stored i (.int .u32 (x : Int))).1
  unfold Own
  rw [List.map_set]
  exact this
theorem Own.sl {w : World} {base g n : Nat} {l : List Nat} (h : Own w base g n l) (hw : Wd l) : Sl w (.slice (some ⟨g, 0, none⟩) n n) l := by
  have hl := h.len
  subst hl
  refine ⟨some ⟨g, 0, none⟩, l.length, rfl, Nat.le_refl _, ?_, hw, (fun h => by cases h), fun i hi => ⟨g, 0, rfl, ?_⟩⟩
  · rcases h.2 with ⟨h', _⟩ | ⟨g', cap', cur, h', _, _, _, hcm, _⟩
    · simp at h'
    · simp only [Value.slice.injEq] at h'; omega
  · rw [Nat.zero_add]; exact h.cell i hi
theorem own_made {w1 : World} {base g n : Nat} (h : w1.ownsRow base 75 1 (.slice (some ⟨g, 0, none⟩) n n) n (madeCells (Value.cells (.int .u32 0)) (n * 1)).toList) :
    Own w1 base g n (List.replicate n 0) := by
  unfold Own
  have e : (List.replicate n 0).map (fun x => Value.int .u32 ((x : Nat) : Int)) = (madeCells (Value.cells (.int .u32 0)) (n * 1)).toList := by
    rw [Nat.mul_one, List.map_replicate]
    exact (toList_madeCells_one _ n).symm
  rw [e]; exact h
theorem Own.drewN {w : World} {base g n : Nat} {l : List Nat} (h : Own w base g n l) (q : Nat) : Own (w.drewN q) base g n l := h
theorem bel_drewN {B : Nat} {w w' : World} (h : Below B w w') (q : Nat) : Below B w (w'.drewN q) := h.trans ⟨rfl, rfl, rfl, Nat.le_refl _, fun _ _ => rfl⟩
theorem bel_undrew {B : Nat} {w w' : World} (h : Below B w.drew w') : Below B w w' := ⟨h.os, h.tape, h.output, h.size, h.block⟩
theorem bel_undrewN {B q : Nat} {w w' : World} (h : Below B (w.drewN q) w') : Below B w w' := ⟨h.os, h.tape, h.output, h.size, h.block⟩
theorem Sl.drewN {w : World} {v : Value} {l : List Nat} (h : Sl w v l) (q : Nat) : Sl (w.drewN q) v l := h
/-- make([]uint32, n): a new row of zeros. -/
theorem wpList_make_w (w : World) {ops : Array Oper} {rest : List Oper} {o : Oper} {a : Act} {Q : Exit → Act → World → Prop}
    (hg : o.guard = none) (l c : Operand) (hop : o.op = Op.makeSlice 27 l c) (L C : Int) (n : Nat)
    (hl : a.eval l = .int .i64 L) (hc : a.eval c = .int .i64 C) (hL : L = (n : Int)) (hC : C = (n : Int)) (b : n ≤ 70000000000000)
    (hK : ∀ w1, Own w1 w.heap.size w.heap.size n (List.replicate n 0) → Below w.heap.size w w1 → w.heap.size < w1.heap.size →
      wpList Tryz.prog ops Q rest (a.put o.dst (.slice (some ⟨w.heap.size, 0, none⟩) n n)) w1) :
    wpList Tryz.prog ops Q (o :: rest) a w := by
  obtain ⟨i0, hi, hz0, hz1, hz2⟩ := info_parts info27
  refine wpList_make_full w hg l c 27 hop w.heap.size 75 i0 (.int .u32 0) 1 Tryz.underlying27 hi hz0 hz1 _ _ L C n hl hc hL hC (by rw [hz2]; omega) (by unfold maxLen; omega) (Nat.le_refl _) ?_
  intro w1 h1 h2
  have ho := own_made h1
  exact hK w1 ho ((Below.refl _ _).grown h2 (Nat.le_refl _) (fun k hk => by cases hk)) ho.lt.2
/-- A cell of a slice that was there is there still. -/
theorem cell_below {w w' : World} {b o : Nat} {v : Value} (h : w.cell? ⟨b, o, none⟩ = some v) (hb : Below w.heap.size w w') : w'.cell? ⟨b, o, none⟩ = some v :=
  (hb.cell (block_lt h)).trans h
/-- A slice of words that the call itself appends to. -/
def OwnA (w : World) (base : Nat) (v : Value) (l : List Nat) : Prop :=
  w.ownsRow base 75 1 v l.length (l.map fun x => Value.int .u32 ((x : Nat) : Int))
theorem OwnA_nil (w : World) (base : Nat) : OwnA w base (.slice none 0 0) [] := World.ownsRow_nil w base 75 1
theorem OwnA.sl {w : World} {base : Nat} {v : Value} {l : List Nat} (h : OwnA w base v l) (hw : Wd l) : Sl w v l := by
  rcases h.2 with ⟨rfl, h0⟩ | ⟨g, cap, cur, rfl, hb, hg, hn, hc, hs, ht⟩
  · obtain rfl : l = [] := List.eq_nil_of_length_eq_zero h0
    exact Sl_nil w
  · refine ⟨_, _, rfl, hn, hc, hw, (fun h => by cases h), fun i hi => ⟨g, 0, rfl, ?_⟩⟩
    have h1 := World.ownsRow.cellAt h i (by omega)
    rw [Nat.zero_add, h1, gd_eq l i hi]
    simp [hi]
theorem OwnA.drewN {w : World} {base : Nat} {v : Value} {l : List Nat} (h : OwnA w base v l) (q : Nat) : OwnA (w.drewN q) base v l := h
theorem OwnA.alloc {w : World} {base : Nat} {v : Value} {l : List Nat} (h : OwnA w base v l) (o : Obj) : OwnA (w.alloc o) base v l := World.ownsRow.alloc h o
/-- append(v, u...), v nil or the call's own, u whatever reads as words. -/
theorem wpList_append_w {ops : Array Oper} {rest : List Oper} {o : Oper} {a : Act} {Q : Exit → Act → World → Prop} (w : World) (hgd : o.guard = none) (s x : Operand)
    (ho : o.op = .call { callee := .builtin .append, args := #[s, x], argTypes := #[27, 27] })
    (base : Nat) (v u : Value) (l m : List Nat) (hs : a.eval s = v) (hx : a.eval x = u) (hown : OwnA w base v l) (hu : Sl w u m) (hlen : l.length + m.length ≤ 30000000000000) (hbase : base ≤ w.heap.size)
    (h : ∀ v' w', OwnA w' base v' (l ++ m) → Below base w w' → wpList Tryz.prog ops Q rest (a.put o.dst v') w') : wpList Tryz.prog ops Q (o :: rest) a w := by
  obtain ⟨i0, hi, hz0, hz1, hz2⟩ := info_parts info27
  obtain ⟨ao, cap, rfl, h1, h2, h3, hn, h4⟩ := hu
  cases ao with
  | none =>
    obtain rfl := hn rfl
    obtain rfl : m = [] := List.eq_nil_of_length_eq_zero (by omega)
    refine wpList_append_own_none hgd s x 27 ho base 75 i0 1 Tryz.underlying27 hi v _ _ hs hown hx ?_
    exact h v w (by rwa [List.append_nil]) (Below.refl _ _)
  | some ad =>
    refine wpList_append_own w hgd s x 27 ho base 75 i0 (.int .u32 0) 1 4 Tryz.underlying27 hi hz0 hz1 hz2 rfl (by omega) v l.length _ hs hown ad m.length cap (m.map fun x => Value.int .u32 ((x : Nat) : Int)) hx (by simp) ?_ ?_ (by unfold maxLen; omega) (by omega) hbase ?_
    · intro j y hj
      have hjl : j < m.length := by
        have := (List.getElem?_eq_some_iff.1 hj).1
        simpa using this
      obtain ⟨b, off, he, hc⟩ := h4 j hjl
      cases he
      rw [Addr.add_lit, hc, gd_eq m j hjl]
      simp [hjl] at hj
      rw [← hj]
    · intro y hy
      obtain ⟨_, _, rfl⟩ := List.mem_map.1 hy
      rfl
    · intro v' w' ho' hg _
      refine h v' w' ?_ ((Below.refl _ _).grown hg hbase (fun k hk => (World.ownsRow.lt hown k hk).1))
      unfold OwnA
      rw [List.length_append, List.map_append]
      exact ho'
end Go.Proofs.YtndpjfhhigpbhaaGreat
namespace Go.Proofs.YtndpjfhhigpbhaaGreat
open Go.RowKit W
theorem trim_step (l : List Nat) (k : Nat) (hk : k < l.length) (h : gd l k = 0) : trimW (l.take (k + 1)) = trimW (l.take k) := by
  rw [List.take_succ_eq_append_getElem hk]
  have : l[k] = 0 := by rw [← gd_eq l k hk]; exact h
  rw [this, trimW_append_zero]
theorem trim_stop (l : List Nat) (k : Nat) (hk : k < l.length) (h : gd l k ≠ 0) : (trimW (l.take (k + 1))).length = k + 1 := by
  rw [List.take_succ_eq_append_getElem hk]
  have : l[k] ≠ 0 := by rw [← gd_eq l k hk]; exact h
  rw [trimW_last _ _ this]; simp; omega
theorem trim_any (ao : Option Addr) (cap : Nat) (l : List Nat) (w : World) (hlc : l.length ≤ cap) (hcm : cap ≤ maxLen)
    (hc : ∀ i, i < l.length → ∃ b off, ao = some ⟨b, off, none⟩ ∧ w.cell? ⟨b, off + i, none⟩ = some (.int .u32 ((gd l i : Nat) : Int))) :
    Calls Tryz.prog 85 #[.slice ao l.length cap] w fun e w' => e = .returned (.slice ao (trimW l).length cap) ∧ w = w' := by
  have HC := Lib.hid hc
  clear hc
  unfold maxLen at hcm
  go_enter Tryz.func85, Tryz.ntmps85
  go_wp2
  go_loop [3] (fun n => ∃ k : Nat, k ≤ l.length ∧ Hid (trimW (l.take k) = trimW l) ∧ n = .int .i64 k) (fun n => (intOf n).toNat)
  case atStart => exact ⟨l.length, Nat.le_refl _, by rw [List.take_length]; rfl, rfl⟩
  case round =>
    obtain ⟨k, hk, ht, rfl⟩ := hrel
    by_cases hk0 : k = 0
    · subst hk0
      go_wp2
      go_ret
      have : trimW l = [] := by rw [← ht.out]; rfl
      exact ⟨by rw [this]; rfl, rfl⟩
    · obtain ⟨j, rfl⟩ : ∃ j, k = j + 1 := ⟨k - 1, by omega⟩
      clear hk0
      obtain ⟨b, off, rfl, hc⟩ := HC.out j (by omega)
      by_cases hz : gd l j = 0
      · rw [hz] at hc
        have HT : Hid (trimW (l.take j) = trimW l) := by rw [← ht.out, trim_step l j (by omega) hz]; rfl
        clear hz ht
        go_wp2
        go_round
        case rel => exact ⟨j, by omega, HT, by go_num⟩
        case measure => simp [intOf]
      · have HT : (trimW l).length = j + 1 := by rw [← ht.out]; exact trim_stop l j (by omega) hz
        have hz' : (((gd l j : Nat) : Int) == 0) = false := by simpa using hz
        go_wp2
        go_ret
        exact ⟨rfl, rfl⟩
/-- trim, of whatever slice reads as a list: what it returns reads, in whatever world the slice reads so, as the canonical list. -/
theorem trim_sl (v : Value) (l : List Nat) (w : World) (h : Sl w v l) :
    Calls Tryz.prog 85 #[v] w fun e w' => w = w' ∧ ∃ v', e = .returned v' ∧ ∀ w2, Sl w2 v l → Sl w2 v' (digs (val l)) := by
  obtain ⟨ao, cap, rfl, h1, h2, h3, hn, h4⟩ := h
  refine (trim_any ao cap l w h1 h2 h4).mono fun e w' ⟨he, hw⟩ => ⟨hw, _, he, ?_⟩
  rintro w2 ⟨ao', cap', e', k1, k2, k3, kn, k4⟩
  cases e'
  rw [← trimW_eq h3]
  have hle := trimW_length_le l
  have htk := trimW_take l
  refine ⟨ao, cap, rfl, by omega, h2, by rw [htk]; exact Wd_take h3 _, hn, fun i hi => ?_⟩
  obtain ⟨b, off, h5, h6⟩ := k4 i (by omega)
  refine ⟨b, off, h5, ?_⟩
  rw [htk, gd_take _ _ _ hi]; exact h6
end Go.Proofs.YtndpjfhhigpbhaaGreat
