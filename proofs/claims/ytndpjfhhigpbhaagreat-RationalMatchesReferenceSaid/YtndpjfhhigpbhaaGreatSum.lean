/- sum: the words of a sum. -/
import Derived.Test.YtndpjfhhigpbhaaGreatMem
namespace Go.Proofs.YtndpjfhhigpbhaaGreat
open Go.RowKit W
/-- What holds of the rounds of an addition: k words are done, the carry is c. -/
def SumInv (la lb : List Nat) (n k c : Nat) (r : List Nat) : Prop :=
  c ≤ 1 ∧ k ≤ n ∧ ∃ done : List Nat, r = done ++ List.replicate (n - k) 0 ∧ done.length = k ∧ Wd done ∧
    val done + 4294967296 ^ k * c = val (la.take k) + val (lb.take k)
theorem SumInv.start (la lb : List Nat) (n : Nat) : SumInv la lb n 0 0 (List.replicate n 0) :=
  ⟨by omega, by omega, [], by simp, rfl, Wd_nil, by simp [val]⟩
theorem SumInv.step {la lb : List Nat} {n k c : Nat} {r : List Nat} (h : SumInv la lb n k c r) (hk : k < n) (s : Nat) (hs : s = gd la k + gd lb k + c) (ha : gd la k < 4294967296) (hb : gd lb k < 4294967296) :
    SumInv la lb n (k + 1) (s / 4294967296) (r.set k (s % 4294967296)) := by
  obtain ⟨hc, hkn, done, rfl, hd, hw, hv⟩ := h
  refine ⟨by omega, by omega, done ++ [s % 4294967296], ?_, by simp [hd], ?_, ?_⟩
  · have := set_done done (n - k) (s % 4294967296) (by omega)
    rw [hd] at this
    rw [this, Nat.sub_sub]
  · rw [Wd_append, Wd_cons]; exact ⟨hw, by omega, Wd_nil⟩
  · rw [val_snoc, val_take_gd, val_take_gd, hd, Nat.pow_succ]
    have e : 4294967296 ^ k * (s % 4294967296) + 4294967296 ^ k * 4294967296 * (s / 4294967296) = 4294967296 ^ k * s := by
      rw [Nat.mul_assoc, ← Nat.mul_add, Nat.mod_add_div]
    rw [hs] at e ⊢
    rw [Nat.mul_add, Nat.mul_add] at e
    omega
/-- The last word is the carry. -/
theorem SumInv.done {la lb : List Nat} {n k c : Nat} {r : List Nat} (h : SumInv la lb n k c r) (hn : n = k + 1) (ha : la.length ≤ k) (hb : lb.length ≤ k) :
    Wd (r.set k c) ∧ val (r.set k c) = val la + val lb := by
  obtain ⟨hc, hkn, done, rfl, hd, hw, hv⟩ := h
  have e : n - k = 1 := by omega
  have := set_done done (n - k) c (by omega)
  rw [hd] at this
  rw [this, e]
  rw [val_take_ge la k ha, val_take_ge lb k hb] at hv
  simp only [Nat.sub_self, List.replicate_zero, List.append_nil]
  refine ⟨by rw [Wd_append, Wd_cons]; exact ⟨hw, by omega, Wd_nil⟩, ?_⟩
  rw [val_snoc, hd, hv]
set_option maxHeartbeats 1000000 in
theorem sum_core (v0 v1 va vb : Value) (la lb : List Nat) (w : World) (ha : Sl w va la) (hb : Sl w vb lb) (hsz : la.length ≤ 1000000000)
    (hv : (v0 = va ∧ v1 = vb ∧ lb.length ≤ la.length) ∨ (v0 = vb ∧ v1 = va ∧ lb.length < la.length)) :
    Calls Tryz.prog 79 #[v0, v1] w (Ret w (digs (val la + val lb))) := by
  obtain ⟨aoa, capa, rfl, ha1, ha2, ha3, _, ha4⟩ := ha
  obtain ⟨aob, capb, rfl, hb1, hb2, hb3, _, hb4⟩ := hb
  have HA := Lib.hid ha4
  have HB := Lib.hid hb4
  have WA := Lib.hid ha3
  have WB := Lib.hid hb3
  clear ha4 hb4 ha3 hb3
  unfold maxLen at ha2 hb2
  rcases hv with ⟨rfl, rfl, hll⟩ | ⟨rfl, rfl, hll⟩
  all_goals
    have hl : lb.length ≤ la.length := by omega
    go_enter Tryz.func79, Tryz.ntmps79
    go_wp2_with (at_make; refine wpList_make_w _ rfl _ _ rfl _ _ (la.length + 1) rfl rfl ?c1 ?c2 ?c3 ?_)
    case c1 => omega
    case c2 => omega
    case c3 => omega
    intro w1 hown hbel hsz1
    go_wp2
    go_loopw [6, 22] (fun c i wr => ∃ (k cr : Nat) (r : List Nat), k ≤ la.length ∧ cr ≤ 1 ∧ i = .int .i64 k ∧ c = .int .u64 cr ∧ SumInv la lb (la.length + 1) k cr r ∧ Own wr w.heap.size w.heap.size (la.length + 1) r ∧ Below w.heap.size w wr)
      (fun _ i _ => la.length - (intOf i).toNat)
    case atStart => exact ⟨0, 0, _, by omega, by omega, rfl, rfl, SumInv.start _ _ _, hown, hbel⟩
    case round =>
      clear hown hbel hsz1
      obtain ⟨k, cr, r, hk, hcr, rfl, rfl, hinv, hown, hbel⟩ := hrel
      by_cases hlt : k < la.length
      · obtain ⟨b, off, rfl, hca⟩ := HA.out k hlt
        have hca := cell_below hca hbel
        have hxa := gd_lt WA.out k
        have hxb := gd_lt WB.out k
        have hcr1 := hown.cell k (by omega)
        have hfr := hown.free k
        have hgd : gd la k < 4294967296 := hxa
        by_cases hltb : k < lb.length
        · obtain ⟨b2, off2, rfl, hcb⟩ := HB.out k hltb
          have hcb := cell_below hcb hbel
          go_wp2
          go_roundw
          case rel =>
            have hst := hinv.step (by omega) (gd la k + gd lb k + cr) rfl hxa hxb
            exact ⟨k + 1, _, _, by omega, hst.1, by go_num, by go_num, hst, hown.set k _ _ (by omega), hbel.setCell (Nat.le_refl _) _⟩
          case measure => simp [intOf]; omega
        · have hgb := gd_ge lb k (by omega)
          have HGB := Lib.hid hgb
          clear hgb
          go_wp2
          go_roundw
          case rel =>
            have hst := hinv.step (by omega) (gd la k + gd lb k + cr) rfl hxa hxb
            rw [HGB.out, Nat.add_zero] at hst
            exact ⟨k + 1, _, _, by omega, hst.1, by go_num, by go_num, hst, hown.set k _ _ (by omega), hbel.setCell (Nat.le_refl _) _⟩
          case measure => simp [intOf]; omega
      · obtain rfl : k = la.length := by omega
        have hcr1 := hown.cell la.length (by omega)
        have hfr := hown.free la.length
        have hd := hinv.done rfl (Nat.le_refl _) hl
        have HD := Lib.hid hd
        clear hd
        go_wp2_with fail
        refine (trim_sl _ (r.set la.length cr) _ ((hown.set la.length _ _ (by omega)).sl HD.out.1)).mono ?_
        rintro e w' ⟨rfl, v', rfl, hsl⟩
        have hsl := hsl _ ((hown.set la.length (cr : Int) cr rfl).sl HD.out.1)
        rw [HD.out.2] at hsl
        have hbel2 := hbel.setCell (p := ⟨w.heap.size, la.length, none⟩) (Nat.le_refl _) (Value.int .u32 cr)
        go_wp2
        go_ret
        exact ⟨v', rfl, hsl, hbel2⟩
/-- sum: the words of the sum. -/
theorem sum_sl (va vb : Value) (la lb : List Nat) (w : World) (ha : Sl w va la) (hb : Sl w vb lb) (hsa : la.length ≤ 1000000000) (hsb : lb.length ≤ 1000000000) :
    Calls Tryz.prog 79 #[va, vb] w (Ret w (digs (val la + val lb))) := by
  by_cases h : lb.length ≤ la.length
  · exact sum_core va vb va vb la lb w ha hb hsa (.inl ⟨rfl, rfl, h⟩)
  · have := sum_core va vb vb va lb la w hb ha hsb (.inr ⟨rfl, rfl, by omega⟩)
    rwa [Nat.add_comm] at this
end Go.Proofs.YtndpjfhhigpbhaaGreat
