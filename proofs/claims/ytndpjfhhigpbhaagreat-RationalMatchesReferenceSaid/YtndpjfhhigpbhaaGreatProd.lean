/- product: the words of a product. -/
import Derived.Test.YtndpjfhhigpbhaaGreatMem
import Derived.BigQuiet
import Derived.Deep.QuietTactic
namespace Go.Proofs.YtndpjfhhigpbhaaGreat
open Go.RowKit W
/-- Behind k whole rows. -/
def MulInv (la lb : List Nat) (k : Nat) (r : List Nat) : Prop :=
  r.length = la.length + lb.length ∧ Wd r ∧ val r = val (la.take k) * val lb ∧ ∀ j, k + lb.length ≤ j → gd r j = 0
/-- Within row k: j words of it are done, c is carried. -/
def RowInv (la lb : List Nat) (k j c : Nat) (r : List Nat) : Prop :=
  r.length = la.length + lb.length ∧ Wd r ∧ c < 4294967296 ∧ val r + 4294967296 ^ (k + j) * c = val (la.take k) * val lb + 4294967296 ^ k * (gd la k * val (lb.take j)) ∧
    ∀ j, k + lb.length ≤ j → gd r j = 0
theorem MulInv.start (la lb : List Nat) : MulInv la lb 0 (List.replicate (la.length + lb.length) 0) :=
  ⟨by simp, Wd_replicate _, by rw [val_replicate]; simp [val], fun j _ => gd_replicate _ j⟩
theorem MulInv.row {la lb : List Nat} {k : Nat} {r : List Nat} (h : MulInv la lb k r) : RowInv la lb k 0 0 r :=
  ⟨h.1, h.2.1, by omega, by rw [h.2.2.1]; simp [val], h.2.2.2⟩
theorem RowInv.step {la lb : List Nat} {k j c : Nat} {r : List Nat} (h : RowInv la lb k j c r) (hk : k < la.length) (hj : j < lb.length) (t : Nat) (ht : t = gd la k * gd lb j + gd r (k + j) + c)
    (ha : gd la k < 4294967296) (hb : gd lb j < 4294967296) :
    RowInv la lb k (j + 1) (t / 4294967296) (r.set (k + j) (t % 4294967296)) := by
  obtain ⟨h1, h2, h3, h4, h5⟩ := h
  have hr := gd_lt h2 (k + j)
  have hm : gd la k * gd lb j ≤ 4294967295 * 4294967295 := Nat.mul_le_mul (by omega) (by omega)
  refine ⟨by simpa using h1, Wd_set h2 _ _ (by omega), by omega, ?_, fun i hi => ?_⟩
  · have hs := val_set r (k + j) (t % 4294967296) (by omega)
    have e : 4294967296 ^ (k + j) * (t % 4294967296) + 4294967296 ^ (k + (j + 1)) * (t / 4294967296) = 4294967296 ^ (k + j) * t := by
      rw [← Nat.add_assoc, Nat.pow_succ, Nat.mul_assoc, ← Nat.mul_add, Nat.mod_add_div]
    rw [val_take_gd, Nat.mul_add, Nat.mul_add]
    have e2 : 4294967296 ^ k * (gd la k * (4294967296 ^ j * gd lb j)) = 4294967296 ^ (k + j) * (gd la k * gd lb j) := by rw [Nat.pow_add]; grind
    rw [e2]
    have e3 : 4294967296 ^ (k + j) * t = 4294967296 ^ (k + j) * (gd la k * gd lb j) + 4294967296 ^ (k + j) * gd r (k + j) + 4294967296 ^ (k + j) * c := by rw [ht]; grind
    omega
  · rw [gd_set_other _ _ _ _ (by omega)]; exact h5 i hi
theorem RowInv.done {la lb : List Nat} {k c : Nat} {r : List Nat} (h : RowInv la lb k lb.length c r) (hk : k < la.length) :
    MulInv la lb (k + 1) (r.set (k + lb.length) c) := by
  obtain ⟨h1, h2, h3, h4, h5⟩ := h
  refine ⟨by simpa using h1, Wd_set h2 _ _ h3, ?_, fun i hi => ?_⟩
  · have hs := val_set r (k + lb.length) c (by omega)
    rw [h5 _ (Nat.le_refl _), Nat.mul_zero, Nat.add_zero] at hs
    rw [hs, h4, val_take_ge lb _ (Nat.le_refl _), val_take_gd]
    grind
  · rw [gd_set_other _ _ _ _ (by omega)]; exact h5 i (by omega)
/-- The sums of one step, as the walk spells them. -/
theorem mul_sums {a b c d : Nat} (ha : a < 4294967296) (hb : b < 4294967296) (hc : c < 4294967296) (hd : d < 4294967296) :
    IntKind.u64.wrap ((a : Int) * (b : Int)) = (a : Int) * b ∧ IntKind.u64.wrap ((a : Int) * (b : Int) + (c : Int)) = (a : Int) * b + c ∧ IntKind.u64.wrap ((a : Int) * (b : Int) + (c : Int) + (d : Int)) = (a : Int) * b + c + d ∧
      ∃ t : Nat, t = a * b + c + d ∧ (a : Int) * b + c + d = (t : Int) ∧ t < 18446744073709551616 := by
  have h : a * b ≤ 4294967295 * 4294967295 := Nat.mul_le_mul (by omega) (by omega)
  have h' : (a : Int) * b = ((a * b : Nat) : Int) := by simp
  rw [h']
  refine ⟨IntWalk.u64_in _ (by omega), IntWalk.u64_in _ (by omega), IntWalk.u64_in _ (by omega), _, rfl, by omega, by omega⟩
theorem mul_bound {a b c d : Nat} (ha : a < 4294967296) (hb : b < 4294967296) (hc : c < 4294967296) (hd : d < 4294967296) : a * b + c + d < 18446744073709551616 ∧ a * b ≤ 18446744065119617025 := by
  have : a * b ≤ 4294967295 * 4294967295 := Nat.mul_le_mul (by omega) (by omega)
  omega
set_option maxRecDepth 100000 in
set_option maxHeartbeats 2000000 in
/-- product: the words of the product. -/
theorem product_sl (va vb : Value) (la lb : List Nat) (w : World) (ha : Sl w va la) (hb : Sl w vb lb) (hsa : la.length ≤ 1000000000) (hsb : lb.length ≤ 1000000000) :
    Calls Tryz.prog 98 #[va, vb] w (Ret w (digs (val la * val lb))) := by
  obtain ⟨aoa, capa, rfl, ha1, ha2, ha3, _, ha4⟩ := ha
  obtain ⟨aob, capb, rfl, hb1, hb2, hb3, _, hb4⟩ := hb
  have HA := Lib.hid ha4
  have HB := Lib.hid hb4
  have WA := Lib.hid ha3
  have WB := Lib.hid hb3
  clear ha4 hb4 ha3 hb3
  unfold maxLen at ha2 hb2
  go_enter Tryz.func98, Tryz.ntmps98
  go_wp2_with (at_make; refine wpList_make_w _ rfl _ _ rfl _ _ (la.length + lb.length) rfl rfl ?c1 ?c2 ?c3 ?_)
  case c1 => omega
  case c2 => omega
  case c3 => omega
  intro w1 hown hbel hsz1
  go_wp2
  go_loopw [19] (fun i wr => ∃ (k : Nat) (r : List Nat), k ≤ la.length ∧ i = .int .i64 k ∧ MulInv la lb k r ∧ Own wr w.heap.size w.heap.size (la.length + lb.length) r ∧ Below w.heap.size w wr)
    (fun i _ => la.length - (intOf i).toNat)
  case atStart => exact ⟨0, _, by omega, rfl, MulInv.start _ _, hown, hbel⟩
  case round =>
    clear hown hbel hsz1
    obtain ⟨k, r, hk, rfl, hinv, hown, hbel⟩ := hrel
    by_cases hlt : k < la.length
    · obtain ⟨b, off, rfl, hca0⟩ := HA.out k hlt
      have hca := cell_below hca0 hbel
      have hxa := gd_lt WA.out k
      go_wp2
      obtain ⟨wo, rfl⟩ : ∃ wo : World, wo = wr := ⟨_, rfl⟩
      go_loopw [7, 29] (fun c i wr => ∃ (j cr : Nat) (r : List Nat), j ≤ lb.length ∧ cr < 4294967296 ∧ i = .int .i64 j ∧ c = .int .u64 cr ∧ RowInv la lb k j cr r ∧ Own wr w.heap.size w.heap.size (la.length + lb.length) r ∧ Below w.heap.size w wr)
        (fun _ i _ => lb.length - (intOf i).toNat)
      case atStart => exact ⟨0, 0, r, by omega, by omega, rfl, rfl, hinv.row, hown, hbel⟩
      case round =>
        clear hown hbel hinv hca
        obtain ⟨j, cr, r, hj, hcr, rfl, rfl, hinv, hown, hbel⟩ := hrel
        by_cases hltb : j < lb.length
        · obtain ⟨b2, off2, rfl, hcb⟩ := HB.out j hltb
          have hcb := cell_below hcb hbel
          have hxb := gd_lt WB.out j
          have hcr1 := hown.cell (k + j) (by omega)
          have hfr := hown.free (k + j)
          have hxr := gd_lt hinv.2.1 (k + j)
          have hmb := mul_bound hxa hxb hxr hcr
          obtain ⟨s1, s2, s3, t, ht, s4, ht2⟩ := mul_sums hxa hxb hxr hcr
          have HT := Lib.hid ht
          have q1 : IntKind.i64.wrap ((k : Int) + (j : Int)) = (k : Int) + (j : Int) := IntWalk.i64_in _ (by omega)
          have q2 : (0 : Int) ≤ (k : Int) + (j : Int) := by omega
          have q3 : ((k : Int) + (j : Int)).toNat = k + j := by omega
          have q4 : ((k : Int) + (j : Int)) < (la.length : Int) + (lb.length : Int) := by omega
          clear ht hmb
          go_wp2
          go_quiet (fail)
          clear q1 q2 q3 q4 s1 s2 s3
          go_wp2
          go_roundw
          case rel =>
            exact ⟨j + 1, t / 4294967296, _, by omega, by omega, by go_num, by go_num, hinv.step hlt hltb t HT.out hxa hxb, Own.set (hown.drewN _) (k + j) _ (t % 4294967296) (by omega), (bel_drewN hbel _).setCell (Nat.le_refl _) _⟩
          case measure => simp [intOf]; omega
        · obtain rfl : j = lb.length := by omega
          have hcr1 := hown.cell (k + lb.length) (by omega)
          have hfr := hown.free (k + lb.length)
          have hd := hinv.done hlt
          go_wp2
          go_roundw
          case rel => exact ⟨k + 1, _, by omega, by go_num, hd, hown.set (k + lb.length) _ cr (by omega), hbel.setCell (Nat.le_refl _) _⟩
          case measure => simp [intOf]; omega
    · obtain rfl : k = la.length := by omega
      have HD : Hid (val r = val la * val lb) := by
        have := hinv.2.2.1
        rwa [val_take_ge la _ (Nat.le_refl _)] at this
      go_wp2_with fail
      refine (trim_sl _ r _ (hown.sl hinv.2.1)).mono ?_
      rintro e w' ⟨rfl, v', rfl, hsl⟩
      have hsl := hsl _ (hown.sl hinv.2.1)
      rw [HD.out] at hsl
      go_wp2
      go_ret
      exact ⟨v', rfl, hsl, hbel⟩
end Go.Proofs.YtndpjfhhigpbhaaGreat
