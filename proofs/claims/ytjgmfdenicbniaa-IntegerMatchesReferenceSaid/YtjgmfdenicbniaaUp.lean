/- up, down: shifts by any count. -/
import Derived.Test.YtjgmfdenicbniaaSmall
import Derived.Test.YtjgmfdenicbniaaLin
import Derived.Test.YtjgmfdenicbniaaQw
import Derived.Deep.RegionLaw
namespace Go.Proofs.Ytjgmfdenicbniaa
open Go.RowKit W
theorem Own.a {w : World} {base g n : Nat} {l : List Nat} (h : Own w base g n l) : OwnA w base (.slice (some ⟨g, 0, none⟩) n n) l := by
  unfold OwnA
  rw [h.len]
  exact h
theorem OwnA.below {w w' : World} {base : Nat} {v : Value} {l : List Nat} (h : OwnA w base v l) (hb : Below w.heap.size w w') : OwnA w' base v l := by
  obtain ⟨h1, h2⟩ := h
  refine ⟨h1, ?_⟩
  rcases h2 with h2 | ⟨g', cap, cur, hv, hg, hh, r⟩
  · exact Or.inl h2
  · exact Or.inr ⟨g', cap, cur, hv, hg, by rw [hb.block g' (Array.getElem?_eq_some_iff.1 hh).1]; exact hh, r⟩
/-- make([]uint32, m) as an equation. -/
theorem run_make_w (m : Nat) (w : World) (h : m ≤ 70000000000000) : (Instr.makeSlice 22 (.int .i64 m) (.int .i64 m)).run Try.prog w =
    .ok (.slice (some ⟨w.heap.size, 0, none⟩) m m) (w.alloc (.cells (madeCells #[.int .u32 0] m) 27)) := by
  obtain ⟨i0, hi, hz0, hz1, hz2⟩ := info_parts info27
  have := run_make (P := Try.prog) w 22 27 i0 (.int .u32 0) Try.underlying22 hi hz0 .i64 .i64 (m : Int) (m : Int) (by omega) (by omega) (by rw [hz2]; omega) (by omega)
  rw [hz1] at this
  simpa [Value.cells] using this
theorem own_alloc (w : World) (m : Nat) (h : m ≤ 70000000000000) : Own (w.alloc (.cells (madeCells #[.int .u32 0] m) 27)) w.heap.size w.heap.size m (List.replicate m 0) :=
  own_made (by
    have e : madeCells (Value.cells (.int .u32 0)) (m * 1) = madeCells #[.int .u32 0] m := by rw [Nat.mul_one]; rfl
    rw [e]
    exact World.ownsRow_lit w _ m (Nat.le_refl _) (by unfold maxLen; omega) (by rw [size_madeCells, Nat.mul_one]))
theorem OwnA.base {w : World} {base base' : Nat} {v : Value} {l : List Nat} (h : OwnA w base v l) (hb : base' ≤ base) : OwnA w base' v l := by
  obtain ⟨h1, h2⟩ := h
  refine ⟨h1, ?_⟩
  rcases h2 with h2 | ⟨g', cap, cur, hv, hg, r⟩
  · exact Or.inl h2
  · exact Or.inr ⟨g', cap, cur, hv, by omega, r⟩
theorem made_first {w w1 : World} {m : Nat} (h : m ≤ 70000000000000) (hb : Below (w.alloc (.cells (madeCells #[.int .u32 0] m) 27)).drew.heap.size (w.alloc (.cells (madeCells #[.int .u32 0] m) 27)).drew w1) :
    OwnA w1 w.heap.size (.slice (some ⟨w.heap.size, 0, none⟩) m m) (List.replicate m 0) ∧ Below w.heap.size w w1 := by
  have h1 := own_alloc w m h
  have h2 : Below w.heap.size w (w.alloc (.cells (madeCells #[.int .u32 0] m) 27)).drew := ((Below.refl _ _).alloc (Nat.le_refl _) _).drew
  exact ⟨(Own.below (w := (w.alloc (.cells (madeCells #[.int .u32 0] m) 27)).drew) h1 hb).a, h2.trans (hb.mono h2.size)⟩
theorem made_second {w w1 : World} {m : Nat} (h : m ≤ 70000000000000) (hb : Below w.drew.heap.size w.drew w1) :
    OwnA (w1.alloc (.cells (madeCells #[.int .u32 0] m) 27)) w.heap.size (.slice (some ⟨w1.heap.size, 0, none⟩) m m) (List.replicate m 0) ∧ Below w.heap.size w (w1.alloc (.cells (madeCells #[.int .u32 0] m) 27)) :=
  ⟨(own_alloc w1 m h).a.base hb.size, Below.alloc (a := w) ⟨hb.os, hb.tape, hb.output, hb.size, hb.block⟩ hb.size _⟩
/-- append(v, u...) as one step of a region that draws. -/
theorem step_append_w {ops : Array Oper} {o : Oper} {a : Act} {w : World} {K : Act → World → Prop} {Q : Exit → Act → World → Prop} {E : Prop} (hgd : o.guard = none) (s x : Operand)
    (ho : o.op = .call { callee := .builtin .append, args := #[s, x], argTypes := #[22, 22] })
    (base : Nat) (v u : Value) (l m : List Nat) (hs : a.eval s = v) (hx : a.eval x = u) (hown : OwnA w base v l) (hu : Sl w u m) (hlen : l.length + m.length ≤ 30000000000000) (hbase : base ≤ w.heap.size)
    (h : ∀ v' w', OwnA w' base v' (l ++ m) → Below base w w' → K (a.put o.dst v') w') :
    if Region.wanted o (yielded ops a.tmps) = true then Oper.wp Try.prog o a w K Q else E := by
  have hw : Region.wanted o (yielded ops a.tmps) = true := by simp [Region.wanted, hgd]
  rw [if_pos hw]
  obtain ⟨i0, hi, hz0, hz1, hz2⟩ := info_parts info27
  obtain ⟨ao, cap, rfl, h1, h2, h3, hn, h4⟩ := hu
  cases ao with
  | none =>
    obtain rfl := hn rfl
    obtain rfl : m = [] := List.eq_nil_of_length_eq_zero (by omega)
    have hrun := run_append_owned_none (P := Try.prog) w base 22 o.type 27 i0 1 Try.underlying22 hi v _ _ hown
    unfold Oper.wp
    simp [execOp, ho, resolve, invoke, builtin, hs, hx, hrun, Result.andThen]
    exact h v w (by rwa [List.append_nil]) (Below.refl _ _)
  | some ad =>
    obtain ⟨v', w', hrun, ho', hg, _⟩ := run_append_own (P := Try.prog) w base 22 o.type 27 i0 (.int .u32 0) 1 4 Try.underlying22 hi hz0 hz1 hz2 rfl (by omega) v l.length _ hown ad m.length cap (m.map fun x => Value.int .u32 ((x : Nat) : Int)) (by simp)
      (by
        intro j y hj
        have hjl : j < m.length := by
          have := (List.getElem?_eq_some_iff.1 hj).1
          simpa using this
        obtain ⟨b, off, he, hc⟩ := h4 j hjl
        cases he
        rw [Addr.add_lit, hc, gd_eq m j hjl]
        simp [hjl] at hj
        rw [← hj])
      (by
        intro y hy
        obtain ⟨_, _, rfl⟩ := List.mem_map.1 hy
        rfl) (by unfold maxLen; omega) (by omega) hbase
    unfold Oper.wp
    simp [execOp, ho, resolve, invoke, builtin, hs, hx, hrun, Result.andThen]
    refine h v' w' ?_ ((Below.refl _ _).grown hg hbase (fun k hk => (World.ownsRow.lt hown k hk).1))
    unfold OwnA
    rw [List.length_append, List.map_append]
    exact ho'
theorem pow32 (k : Nat) : (4294967296 : Nat) ^ k = 2 ^ (32 * k) := by
  rw [Nat.pow_mul]
theorem val_up (l : List Nat) (x s : Nat) (h : val l = x * 2 ^ (s % 32)) : val (List.replicate (s / 32) 0 ++ l) = x * 2 ^ s := by
  rw [val_append, val_replicate, Nat.zero_add, List.length_replicate, h, pow32, Nat.mul_left_comm, ← Nat.pow_add, show 32 * (s / 32) + s % 32 = s by omega]
theorem val_drop_div {l : List Nat} (h : Wd l) (k : Nat) : val (l.drop k) = val l / 4294967296 ^ k := by
  by_cases hk : k ≤ l.length
  · have h1 := val_drop l k
    rw [Nat.min_eq_left hk] at h1
    have h2 := val_lt (Wd_take h k)
    rw [List.length_take, Nat.min_eq_left hk] at h2
    have hp := Nat.pow_pos (n := k) (show 0 < 4294967296 by omega)
    rw [← h1, Nat.add_comm, Nat.mul_add_div hp, Nat.div_eq_of_lt h2, Nat.add_zero]
  · rw [List.drop_eq_nil_of_le (by omega), val_nil]
    have h2 := val_lt h
    have := Nat.pow_le_pow_right (n := 4294967296) (by omega) (show l.length ≤ k by omega)
    rw [Nat.div_eq_of_lt (by omega)]
set_option maxHeartbeats 1000000 in
theorem up_sl (va : Value) (la : List Nat) (s : Nat) (w : World) (ha : Sl w va la) (hsz : la.length ≤ 1000000000) (hs : s ≤ 10000000000) :
    Calls Try.prog 87 #[va, .int .i64 s] w (Ret w (digs (val la * 2 ^ s))) := by
  have HA := Lib.hid ha
  clear ha
  have q1 : IntKind.i64.wrap ((s : Int).tdiv 32) = ((s / 32 : Nat) : Int) := by rw [IntWalk.i64_quo _ _ ⟨by omega, by omega, by omega⟩]; simp
  have q2 : (s : Int).tmod 32 = ((s % 32 : Nat) : Int) := by rw [IntWalk.rem_in _ _ (by omega)]; simp
  have q1' : (s : Int) / 32 = ((s / 32 : Nat) : Int) := by simp
  have q2' : (s : Int) % 32 = ((s % 32 : Nat) : Int) := by simp
  obtain ⟨m, hm⟩ : ∃ m, m = s / 32 := ⟨_, rfl⟩
  obtain ⟨t, ht⟩ : ∃ t, t = s % 32 := ⟨_, rfl⟩
  rw [← hm] at q1 q1'
  rw [← ht] at q2 q2'
  have hm2 : m ≤ 1000000000 := by omega
  have ht2 : t < 32 := by omega
  have HM := Lib.hid hm
  have HT := Lib.hid ht
  clear hm ht
  have q3 : IntKind.i64.wrap (m : Int) = (m : Int) := IntWalk.i64_in _ (by omega)
  have hm3 : m ≤ 70000000000000 := by omega
  have hmk := fun w => run_make_w m w (by omega)
  go_enter Try.func87, Try.ntmps87
  go_wp2_with fail
  go_region_law (first
    | (go_simp; go_at_call 83; refine (shiftLeft_sl _ la t _ ?_ hsz ht2).mono ?_; (first | exact HA.out | exact HA.out.below ((Below.refl _ _).alloc (Nat.le_refl _) _).drew); rintro e w1 ⟨rfl, lu, ou, wu, eu, bu⟩; (try simp only [World.size_alloc, World.size_drew] at ou))
    | (go_simp; go_at_call 59; refine (trim_sl _ (List.replicate m 0 ++ lu) _ ?_).mono ?_; exact ho'.sl (Wd_append.2 ⟨Wd_replicate _, wu⟩); rintro e w2 ⟨rfl, v2, rfl, hv2⟩)
    | (refine step_append_w rfl _ _ rfl w.heap.size _ _ (List.replicate m 0) lu rfl rfl ?_ ?_ ?_ ?_ ?_; (first | exact (made_first hm3 bu).1 | exact (made_second hm3 bu).1); (first | exact ou.sl wu | exact (ou.sl wu).below ((Below.refl _ _).alloc (Nat.le_refl _) _)); (have := ou.len; simp; omega); (first | exact (made_first hm3 bu).2.size | exact (made_second hm3 bu).2.size); intro v' w' ho' hb'))
  all_goals
    have hs2 := hv2 _ (ho'.sl (Wd_append.2 ⟨Wd_replicate _, wu⟩))
    have hval := val_up lu (val la) s (by rw [eu, HT.out])
    rw [← HM.out] at hval
    rw [hval] at hs2
    go_wp2_with fail
    go_ret
    refine ⟨v2, rfl, hs2, Below.trans ?_ hb'⟩
    first | exact (made_first hm3 bu).2 | exact (made_second hm3 bu).2
theorem down_zero {x n s : Nat} (h : x < 4294967296 ^ n) (hs : n ≤ s / 32) : x / 2 ^ s = 0 := by
  apply Nat.div_eq_of_lt
  have h1 := Nat.pow_le_pow_right (n := 4294967296) (by omega) hs
  have h2 : (4294967296 : Nat) ^ (s / 32) ≤ 2 ^ s := by rw [pow32]; exact Nat.pow_le_pow_right (by omega) (by omega)
  omega
theorem down_div (x s : Nat) : x / 4294967296 ^ (s / 32) / 2 ^ (s % 32) = x / 2 ^ s := by
  rw [Nat.div_div_eq_div_mul, pow32, ← Nat.pow_add, show 32 * (s / 32) + s % 32 = s by omega]
set_option maxHeartbeats 1000000 in
theorem down_sl (va : Value) (la : List Nat) (s : Nat) (w : World) (ha : Sl w va la) (hsz : la.length ≤ 1000000000) (hs : s ≤ 10000000000) :
    Calls Try.prog 88 #[va, .int .i64 s] w (Ret w (digs (val la / 2 ^ s))) := by
  obtain ⟨ao, cap, rfl, h1, h2, h3, hn, h4⟩ := ha
  have HA := Lib.hid h4
  have HN := Lib.hid hn
  have HW := Lib.hid h3
  clear h4 h3 hn
  have q1' : (s : Int) / 32 = ((s / 32 : Nat) : Int) := by simp
  have q2' : (s : Int) % 32 = ((s % 32 : Nat) : Int) := by simp
  obtain ⟨m, hm⟩ : ∃ m, m = s / 32 := ⟨_, rfl⟩
  obtain ⟨t, ht⟩ : ∃ t, t = s % 32 := ⟨_, rfl⟩
  rw [← hm] at q1'
  rw [← ht] at q2'
  have hm2 : m ≤ 1000000000 := by omega
  have ht2 : t < 32 := by omega
  have HM := Lib.hid hm
  have HT := Lib.hid ht
  clear hm ht
  unfold maxLen at h2
  by_cases hle : la.length ≤ m
  · have hd : decide ((la.length : Int) ≤ (m : Int)) = true := by simp; omega
    go_enter Try.func88, Try.ntmps88
    go_wp2_with fail
    go_ret
    refine ⟨_, rfl, ?_, Below.refl _ _⟩
    rw [down_zero (val_lt HW.out) (by rw [← HM.out]; exact hle), digs_zero]
    exact Sl_nil _
  · have hd : decide ((la.length : Int) ≤ (m : Int)) = false := by simp; omega
    obtain ⟨b, off, rfl, hc⟩ := HA.out m (by omega)
    have hlt : m < la.length := by omega
    have hcm : ¬ cap = m := by omega
    have SD : Sl w (.slice (some ⟨b, off + m, none⟩) (la.length - m) (cap - m)) (la.drop m) := by
      refine ⟨_, _, by rw [List.length_drop], by rw [List.length_drop]; omega, by unfold maxLen; omega, Wd_drop HW.out m, (fun h => by cases h), fun i hi => ?_⟩
      rw [List.length_drop] at hi
      obtain ⟨b', o', e1, e2⟩ := HA.out (m + i) (by omega)
      cases e1
      exact ⟨b, off + m, rfl, by rw [gd_drop, Nat.add_assoc]; exact e2⟩
    have HSD := Lib.hid SD
    have hdl : (la.drop m).length ≤ 1000000000 := by rw [List.length_drop]; omega
    clear SD hle hc
    go_enter Try.func88, Try.ntmps88
    go_wp2_with fail
    refine (shiftRight_sl _ (la.drop m) t _ HSD.out hdl ht2).mono ?_
    rintro e w1 ⟨v, rfl, hv, hb⟩
    rw [val_drop_div HW.out, HM.out, HT.out, down_div] at hv
    go_wp2_with fail
    go_ret
    exact ⟨v, rfl, hv, hb⟩
end Go.Proofs.Ytjgmfdenicbniaa
