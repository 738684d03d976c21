/- The reference's functions of words: word, compared, added, taken. The reference's functions of words: times, shortly, number, euclid. The reference's division, first part: guess, lessen, restore. The reference's division, second part: divided, common. The reference's greatest common divisor of words: common; the functions of words at canonical lists. -/
import Derived.Test.YtndpjfhhigpbhaaGreatSum
import Derived.Test.YtndpjfhhigpbhaaGreatDiff
import Derived.Test.YtndpjfhhigpbhaaGreatCmp
import Derived.Test.YtndpjfhhigpbhaaGreatRef1
import Derived.Deep.RegionWith
import Derived.Test.YtndpjfhhigpbhaaGreatProd
import Derived.Test.YtndpjfhhigpbhaaGreatLin
import Derived.Test.YtndpjfhhigpbhaaGreatGcd
import Derived.Test.YtndpjfhhigpbhaaGreatQw
import Derived.Test.YtndpjfhhigpbhaaGreatDivide
import Derived.Laws.CopyOwn
namespace Go.Proofs.YtndpjfhhigpbhaaGreat
open Go.RowKit W
/-- A function that only reads, and returns a number of 64 bits. -/
def RetU (w0 : World) (n : Nat) (e : Ending) (w' : World) : Prop := e = .returned (.int .u64 (n : Int)) ∧ w0 = w'
set_option maxHeartbeats 1000000 in
theorem rword_sl (v : Value) (l : List Nat) (i : Nat) (w : World) (h : Sl w v l) (_ : i < 9223372036854775808) :
    Calls Tryz.prog 96 #[v, .int .i64 i] w (RetU w (gd l i)) := by
  obtain ⟨ao, cap, rfl, h1, h2, h3, _, h4⟩ := h
  unfold maxLen at h2
  by_cases hlt : i < l.length
  · obtain ⟨b, off, rfl, hc⟩ := h4 i hlt
    have hg := gd_lt h3 i
    clear h4 h3
    go_enter Tryz.func96, Tryz.ntmps96
    go_wp2
    go_ret
    exact ⟨rfl, rfl⟩
  · have hg := gd_ge l i (by omega)
    have HG := Lib.hid hg
    clear h4 h3 hg
    go_enter Tryz.func96, Tryz.ntmps96
    go_wp2
    go_ret
    exact ⟨by rw [HG.out]; rfl, rfl⟩
set_option maxHeartbeats 1000000 in
theorem rcompared_any (va vb : Value) (m n : Nat) (w : World) (ha : Sl w va (digs m)) (hb : Sl w vb (digs n)) :
    Calls Tryz.prog 74 #[va, vb] w (RetI w (cmpI m n)) := by
  obtain ⟨aoa, capa, rfl, ha1, ha2, ha3, _, ha4⟩ := ha
  obtain ⟨aob, capb, rfl, hb1, hb2, hb3, _, hb4⟩ := hb
  have HA := Lib.hid ha4
  have HB := Lib.hid hb4
  have WA := Lib.hid ha3
  have WB := Lib.hid hb3
  clear ha4 hb4 ha3 hb3
  unfold maxLen at ha2 hb2
  by_cases hne : (digs m).length = (digs n).length
  · have HL := Lib.hid hne
    have hl1 : ¬ ((digs m).length : Int) < (digs n).length := by omega
    have hl2 : ¬ ((digs n).length : Int) < (digs m).length := by omega
    have hl3 : (digs m).length ≤ (digs n).length := by omega
    have hl4 : (digs n).length ≤ (digs m).length := by omega
    clear hne
    go_enter Tryz.func74, Tryz.ntmps74
    go_wp2
    go_loopw [5] (fun i wr => ∃ (k : Nat) (z : Int), k ≤ (digs m).length ∧ z + 1 ≤ k ∧ k ≤ z + 1 ∧ i = .int .i64 z ∧ SameFrom (digs m) (digs n) k ∧ ∃ q, wr = w.drewN q) (fun i _ => (intOf i + 1).toNat)
    case atStart => exact ⟨_, _, Nat.le_refl _, by omega, by omega, rfl, SameFrom.start _ _, 0, rfl⟩
    case round =>
      obtain ⟨k, z, hk, hz1, hz2, rfl, hs, q, rfl⟩ := hrel
      by_cases hk0 : k = 0
      · subst hk0
        have hz : z < 0 := by omega
        go_wp2
        go_ret
        exact ⟨ret_i64 (cmpI_eq (by rw [hs.eq HL.out])).symm, q, rfl⟩
      · obtain ⟨j, rfl⟩ : ∃ j, k = j + 1 := ⟨k - 1, by omega⟩
        obtain rfl : z = (j : Int) := by omega
        clear hk0
        obtain ⟨b, off, rfl, hca⟩ := HA.out j (by omega)
        obtain ⟨b2, off2, rfl, hcb⟩ := HB.out j (by omega)
        rcases Nat.lt_trichotomy (gd (digs m) j) (gd (digs n) j) with hx | hx | hx
        · have h1 : ((gd (digs m) j : Nat) : Int) < ((gd (digs n) j : Nat) : Int) := by omega
          go_wp2
          go_quiet (fail)
          go_wp2
          go_ret
          exact ⟨ret_i64 (cmpI_lt (by have := hs.lt HL.out (by omega) hx; omega)).symm, _, by simp only [World.drewN_drewN]; rfl⟩
        · have h1 : ¬ ((gd (digs m) j : Nat) : Int) < ((gd (digs n) j : Nat) : Int) := by omega
          have h2 : ¬ ((gd (digs n) j : Nat) : Int) < ((gd (digs m) j : Nat) : Int) := by omega
          have hst := hs.step hx
          clear hx hs
          go_wp2
          go_quiet (fail)
          go_wp2
          go_quiet (fail)
          go_wp2
          go_roundw
          case rel => exact ⟨j, _, by omega, by omega, by omega, rfl, hst, (by first | exact ⟨_, rfl⟩ | exact ⟨_, by simp only [World.drewN_drewN]; rfl⟩)⟩
          case measure => simp [intOf]
        · have h1 : ¬ ((gd (digs m) j : Nat) : Int) < ((gd (digs n) j : Nat) : Int) := by omega
          have h2 : ((gd (digs n) j : Nat) : Int) < ((gd (digs m) j : Nat) : Int) := by omega
          go_wp2
          go_quiet (fail)
          go_wp2
          go_quiet (fail)
          go_wp2
          go_ret
          exact ⟨ret_i64 (cmpI_gt (by have := hs.gt HL.out (by omega) hx; omega)).symm, _, by simp only [World.drewN_drewN]; rfl⟩
  · by_cases hlt : (digs m).length < (digs n).length
    · have hmn := digs_lt_of_length hlt
      have HR := Lib.hid (cmpI_lt (x := m) (y := n) (by omega))
      have hd : ((digs m).length : Int) < (digs n).length := by omega
      clear hne hmn
      go_enter Tryz.func74, Tryz.ntmps74
      go_wp2
      go_ret
      exact ⟨ret_i64 HR.out.symm, 0, rfl⟩
    · have hmn := digs_lt_of_length (m := n) (n := m) (by omega)
      have HR := Lib.hid (cmpI_gt (x := m) (y := n) (by omega))
      have hd : ¬ ((digs m).length : Int) < (digs n).length := by omega
      have hd2 : ((digs n).length : Int) < (digs m).length := by omega
      clear hne hmn
      go_enter Tryz.func74, Tryz.ntmps74
      go_wp2
      go_ret
      exact ⟨ret_i64 HR.out.symm, 0, rfl⟩
/-- The last carry of a sum is 0 where there is room. -/
theorem SumInv.fin {la lb : List Nat} {n c : Nat} {r : List Nat} (h : SumInv la lb n n c r) (hn : n = max la.length lb.length + 1) (ha : Wd la) (hb : Wd lb) :
    Wd r ∧ val r = val la + val lb := by
  obtain ⟨hc, hkn, done, rfl, hd, hw, hv⟩ := h
  have h1 := val_lt ha
  have h2 := val_lt hb
  have h3 : 4294967296 ^ la.length ≤ 4294967296 ^ (max la.length lb.length) := Nat.pow_le_pow_right (by omega) (by omega)
  have h4 : 4294967296 ^ lb.length ≤ 4294967296 ^ (max la.length lb.length) := Nat.pow_le_pow_right (by omega) (by omega)
  have h5 : 4294967296 ^ n = 4294967296 ^ (max la.length lb.length) * 4294967296 := by rw [hn, Nat.pow_succ]
  rw [val_take_ge la n (by omega), val_take_ge lb n (by omega)] at hv
  rw [Nat.sub_self, List.replicate_zero, List.append_nil]
  refine ⟨hw, ?_⟩
  rcases Nat.le_one_iff_eq_zero_or_eq_one.1 hc with rfl | rfl
  · omega
  · exfalso; omega
set_option maxHeartbeats 2000000 in
theorem radded_sl (va vb : Value) (la lb : List Nat) (w : World) (ha : Sl w va la) (hb : Sl w vb lb) (hsa : la.length ≤ 1000000000) (hsb : lb.length ≤ 1000000000) :
    Calls Tryz.prog 73 #[va, vb] w (Ret w (digs (val la + val lb))) := by
  have HA := Lib.hid ha
  have HB := Lib.hid hb
  obtain ⟨aoa, capa, rfl, ha1, ha2, ha3, _, _⟩ := ha
  obtain ⟨aob, capb, rfl, hb1, hb2, hb3, _, _⟩ := hb
  have WA := Lib.hid ha3
  have WB := Lib.hid hb3
  clear ha3 hb3
  unfold maxLen at ha2 hb2
  obtain ⟨n, hn⟩ : ∃ n : Nat, n = max la.length lb.length + 1 := ⟨_, rfl⟩
  have hnn : n ≤ 1000000001 := by omega
  have hmax : max (la.length : Int) (lb.length : Int) = (n : Int) - 1 := by omega
  have HN := Lib.hid hn
  clear hn
  go_enter Tryz.func73, Tryz.ntmps73
  go_wp2_with (at_make; refine wpList_make_w _ rfl _ _ rfl _ _ n rfl rfl ?c1 ?c2 ?c3 ?_)
  case c1 => omega
  case c2 => omega
  case c3 => omega
  intro w1 hown hbel hsz1
  go_wp2
  go_loopw [7, 8] (fun c i wr => ∃ (k cr : Nat) (r : List Nat), k ≤ n ∧ cr ≤ 1 ∧ i = .int .i64 k ∧ c = .int .u64 cr ∧ SumInv la lb n k cr r ∧ Own wr w.heap.size w.heap.size n r ∧ Below w.heap.size w wr)
    (fun _ i _ => n - (intOf i).toNat)
  case atStart => exact ⟨0, 0, _, by omega, by omega, rfl, rfl, SumInv.start _ _ _, hown, hbel⟩
  case round =>
    clear hown hbel hsz1
    obtain ⟨k, cr, r, hk, hcr, rfl, rfl, hinv, hown, hbel⟩ := hrel
    by_cases hlt : k < n
    · have hxa := gd_lt WA.out k
      have hxb := gd_lt WB.out k
      have hcr1 := hown.cell k (by omega)
      have hfr := hown.free k
      go_wp2_with fail
      refine (rword_sl _ la k _ (HA.out.below hbel) (by omega)).mono ?_
      rintro e w' ⟨rfl, rfl⟩
      go_wp2_with fail
      refine (rword_sl _ lb k _ (HB.out.below hbel) (by omega)).mono ?_
      rintro e w' ⟨rfl, rfl⟩
      go_wp2
      go_roundw
      case rel =>
        have hst := hinv.step (by omega) (gd la k + gd lb k + cr) rfl hxa hxb
        exact ⟨k + 1, _, _, by omega, hst.1, by go_num, by go_num, hst, hown.set k _ _ (by omega), hbel.setCell (Nat.le_refl _) _⟩
      case measure => simp [intOf]; omega
    · obtain rfl : k = n := by omega
      have HD := Lib.hid (hinv.fin HN.out WA.out WB.out)
      go_wp2_with fail
      refine (rtrim_sl _ r _ (hown.sl HD.out.1)).mono ?_
      rintro e w' ⟨rfl, v', rfl, hsl⟩
      have hsl := hsl _ (hown.sl HD.out.1)
      rw [HD.out.2] at hsl
      go_wp2
      go_ret
      exact ⟨v', rfl, hsl, hbel⟩
/-- The word and the borrow of one step of taken. -/
theorem take_step (a b c : Nat) (ha : a < 4294967296) (hb : b < 4294967296) (hc : c ≤ 1) :
    ∃ t x c' : Nat, t < 18446744073709551616 ∧ t = x + 4294967296 * (1 - c') ∧ x < 4294967296 ∧ c' ≤ 1 ∧ x + b + c = a + 4294967296 * c' ∧
      (4294967296 : Int) + (a : Int) - (b : Int) - (c : Int) = (t : Int) ∧ (t : Int) % 4294967296 = (x : Int) ∧ 1 - (t : Int) / 4294967296 = (c' : Int) := by
  by_cases h : b + c ≤ a
  · exact ⟨4294967296 + a - b - c, a - b - c, 0, by omega, by omega, by omega, by omega, by omega, by omega, by omega, by omega⟩
  · exact ⟨4294967296 + a - b - c, 4294967296 + a - b - c, 1, by omega, by omega, by omega, by omega, by omega, by omega, by omega, by omega⟩
set_option maxHeartbeats 2000000 in
theorem rtaken_sl (va vb : Value) (la lb : List Nat) (w : World) (ha : Sl w va la) (hb : Sl w vb lb) (hsz : la.length ≤ 1000000000) (hl : lb.length ≤ la.length) (hle : val lb ≤ val la) :
    Calls Tryz.prog 75 #[va, vb] w (Ret w (digs (val la - val lb))) := by
  have HB := Lib.hid hb
  obtain ⟨aoa, capa, rfl, ha1, ha2, ha3, _, ha4⟩ := ha
  have HA := Lib.hid ha4
  have WA := Lib.hid ha3
  have WB := Lib.hid hb.wd
  have HLE := Lib.hid hle
  clear ha4 ha3 hle hb
  unfold maxLen at ha2
  go_enter Tryz.func75, Tryz.ntmps75
  go_wp2_with (at_make; refine wpList_make_w _ rfl _ _ rfl _ _ la.length rfl rfl ?c1 ?c2 ?c3 ?_)
  case c1 => rfl
  case c2 => rfl
  case c3 => omega
  intro w1 hown hbel hsz1
  go_wp2
  go_loopw [6, 7] (fun c i wr => ∃ (k cr : Nat) (r : List Nat), k ≤ la.length ∧ cr ≤ 1 ∧ i = .int .i64 k ∧ c = .int .u64 cr ∧ DiffInv la lb k cr r ∧ Own wr w.heap.size w.heap.size la.length r ∧ Below w.heap.size w wr)
    (fun _ i _ => la.length - (intOf i).toNat)
  case atStart => exact ⟨0, 0, _, by omega, by omega, rfl, rfl, DiffInv.start _ _, hown, hbel⟩
  case round =>
    clear hown hbel hsz1
    obtain ⟨k, cr, r, hk, hcr, rfl, rfl, hinv, hown, hbel⟩ := hrel
    by_cases hlt : k < la.length
    · obtain ⟨b, off, rfl, hca⟩ := HA.out k hlt
      have hca := cell_below hca hbel
      have hxa := gd_lt WA.out k
      have hxb := gd_lt WB.out k
      have hcr1 := hown.cell k (by omega)
      have hfr := hown.free k
      have HBw := Lib.hid (HB.out.below hbel)
      obtain ⟨t, x, c', t1, t2, t3, t4, t5, t6, t7, t8⟩ := take_step _ _ _ hxa hxb hcr
      have T5 := Lib.hid t5
      clear t5
      go_wp2_with fail
      go_region_with (first
        | (go_at_call 96; refine (rword_sl _ lb k _ (by first | exact HBw.out | exact HBw.out.drewN _) (by omega)).mono ?_; rintro e w' ⟨rfl, rfl⟩))
      all_goals
        go_wp2_with fail
        go_roundw
        case rel => exact ⟨k + 1, c', _, by omega, t4, by go_num, by go_num, hinv.step (by omega) x c' t3 t4 T5.out, Own.set (by first | exact hown | exact hown.drewN _) k _ x (by omega), (by first | exact hbel.setCell (Nat.le_refl _) _ | exact (bel_drewN hbel _).setCell (Nat.le_refl _) _)⟩
        case measure => simp [intOf]; omega
    · obtain rfl : k = la.length := by omega
      have HD := Lib.hid (hinv.done hl WA.out HLE.out)
      go_wp2_with fail
      refine (rtrim_sl _ r _ (hown.sl HD.out.1)).mono ?_
      rintro e w' ⟨rfl, v', rfl, hsl⟩
      have hsl := hsl _ (hown.sl HD.out.1)
      rw [HD.out.2] at hsl
      go_wp2
      go_ret
      exact ⟨v', rfl, hsl, hbel⟩
set_option maxRecDepth 100000 in
set_option maxHeartbeats 2000000 in
theorem rtimes_sl (va vb : Value) (la lb : List Nat) (w : World) (ha : Sl w va la) (hb : Sl w vb lb) (hsa : la.length ≤ 1000000000) (hsb : lb.length ≤ 1000000000) :
    Calls Tryz.prog 76 #[va, vb] w (Ret w (digs (val la * val lb))) := by
  obtain ⟨aoa, capa, rfl, ha1, ha2, ha3, _, ha4⟩ := ha
  obtain ⟨aob, capb, rfl, hb1, hb2, hb3, _, hb4⟩ := hb
  have HA := Lib.hid ha4
  have HB := Lib.hid hb4
  have WA := Lib.hid ha3
  have WB := Lib.hid hb3
  clear ha4 hb4 ha3 hb3
  unfold maxLen at ha2 hb2
  go_enter Tryz.func76, Tryz.ntmps76
  go_wp2_with (at_make; refine wpList_make_w _ rfl _ _ rfl _ _ (la.length + lb.length) rfl rfl ?c1 ?c2 ?c3 ?_)
  case c1 => omega
  case c2 => omega
  case c3 => omega
  intro w1 hown hbel hsz1
  go_wp2
  go_loopw [6] (fun i wr => ∃ (k : Nat) (r : List Nat), k ≤ la.length ∧ i = .int .i64 k ∧ MulInv la lb k r ∧ Own wr w.heap.size w.heap.size (la.length + lb.length) r ∧ Below w.heap.size w wr)
    (fun i _ => la.length - (intOf i).toNat)
  case atStart => exact ⟨0, _, by omega, rfl, MulInv.start _ _, hown, hbel⟩
  case round =>
    clear hown hbel hsz1
    obtain ⟨k, r, hk, rfl, hinv, hown, hbel⟩ := hrel
    by_cases hlt : k < la.length
    · obtain ⟨b, off, rfl, hca0⟩ := HA.out k hlt
      have hca := cell_below hca0 hbel
      have hxa := gd_lt WA.out k
      go_wp2
      obtain ⟨wo, rfl⟩ : ∃ wo : World, wo = wr := ⟨_, rfl⟩
      go_loopw [7, 8] (fun c i wr => ∃ (j cr : Nat) (r : List Nat), j ≤ lb.length ∧ cr < 4294967296 ∧ i = .int .i64 j ∧ c = .int .u64 cr ∧ RowInv la lb k j cr r ∧ Own wr w.heap.size w.heap.size (la.length + lb.length) r ∧ Below w.heap.size w wr)
        (fun _ i _ => lb.length - (intOf i).toNat)
      case atStart => exact ⟨0, 0, r, by omega, by omega, rfl, rfl, hinv.row, hown, hbel⟩
      case round =>
        clear hown hbel hinv hca
        obtain ⟨j, cr, r, hj, hcr, rfl, rfl, hinv, hown, hbel⟩ := hrel
        by_cases hltb : j < lb.length
        · obtain ⟨b2, off2, rfl, hcb⟩ := HB.out j hltb
          have hca := cell_below hca0 hbel
          have hcb := cell_below hcb hbel
          have hxb := gd_lt WB.out j
          have hcr1 := hown.cell (k + j) (by omega)
          have hfr := hown.free (k + j)
          have hxr := gd_lt hinv.2.1 (k + j)
          have hmb := mul_bound hxa hxb hxr hcr
          obtain ⟨s1, s2, s3, t, ht, s4, ht2⟩ := mul_sums hxa hxb hxr hcr
          have HT := Lib.hid ht
          have q1 : IntKind.i64.wrap ((k : Int) + (j : Int)) = (k : Int) + (j : Int) := IntWalk.i64_in _ (by omega)
          have q2 : (0 : Int) ≤ (k : Int) + (j : Int) := by omega
          have q3 : ((k : Int) + (j : Int)).toNat = k + j := by omega
          have q4 : ((k : Int) + (j : Int)) < (la.length : Int) + (lb.length : Int) := by omega
          clear ht hmb
          go_wp2
          go_quiet (fail)
          clear s1 s2 s3
          go_wp2
          go_roundw
          case rel =>
            exact ⟨j + 1, t / 4294967296, _, by omega, by omega, by go_num, by go_num, hinv.step hlt hltb t HT.out hxa hxb, Own.set (hown.drewN _) (k + j) _ (t % 4294967296) (by omega), (bel_drewN hbel _).setCell (Nat.le_refl _) _⟩
          case measure => simp [intOf]; omega
        · obtain rfl : j = lb.length := by omega
          have hcr1 := hown.cell (k + lb.length) (by omega)
          have hfr := hown.free (k + lb.length)
          have hd := hinv.done hlt
          go_wp2
          go_roundw
          case rel => exact ⟨k + 1, _, by omega, by go_num, hd, hown.set (k + lb.length) _ cr (by omega), hbel.setCell (Nat.le_refl _) _⟩
          case measure => simp [intOf]; omega
    · obtain rfl : k = la.length := by omega
      have HD : Hid (val r = val la * val lb) := by
        have := hinv.2.2.1
        rwa [val_take_ge la _ (Nat.le_refl _)] at this
      go_wp2_with fail
      refine (rtrim_sl _ r _ (hown.sl hinv.2.1)).mono ?_
      rintro e w' ⟨rfl, v', rfl, hsl⟩
      have hsl := hsl _ (hown.sl hinv.2.1)
      rw [HD.out] at hsl
      go_wp2
      go_ret
      exact ⟨v', rfl, hsl, hbel⟩
set_option maxHeartbeats 1000000 in
theorem rshortly_sl (va : Value) (la : List Nat) (d : Nat) (w : World) (ha : Sl w va la) (hsz : la.length ≤ 1000000000) (hd : 0 < d) (hd2 : d < 4294967296) :
    Calls Tryz.prog 90 #[va, .int .u64 d] w (RetDs w (val la / d) (val la % d)) := by
  obtain ⟨aoa, capa, rfl, ha1, ha2, ha3, _, ha4⟩ := ha
  have HA := Lib.hid ha4
  have WA := Lib.hid ha3
  clear ha4 ha3
  unfold maxLen at ha2
  go_enter Tryz.func90, Tryz.ntmps90
  go_wp2_with (at_make; refine wpList_make_w _ rfl _ _ rfl _ _ la.length rfl rfl ?c1 ?c2 ?c3 ?_)
  case c1 => rfl
  case c2 => rfl
  case c3 => omega
  intro w1 hown hbel hsz1
  go_wp2
  go_loopw [7, 8] (fun c i wr => ∃ (k cr : Nat) (z : Int) (q : List Nat), k ≤ la.length ∧ cr < d ∧ z + 1 ≤ k ∧ k ≤ z + 1 ∧ i = .int .i64 z ∧ c = .int .u64 cr ∧ DsInv la d k cr q ∧ Own wr w.heap.size w.heap.size la.length q ∧ Below w.heap.size w wr)
    (fun _ i _ => (intOf i + 1).toNat)
  case atStart => exact ⟨la.length, 0, _, _, Nat.le_refl _, hd, by omega, by omega, rfl, rfl, DsInv.start _ _ hd, hown, hbel⟩
  case round =>
    clear hown hbel hsz1
    obtain ⟨k, cr, z, q, hk, hcr, hz1, hz2, rfl, rfl, hinv, hown, hbel⟩ := hrel
    by_cases hk0 : k = 0
    · subst hk0
      have hz : z < 0 := by omega
      have HD := Lib.hid hinv.done
      go_wp2_with fail
      refine (rtrim_sl _ q _ (hown.sl HD.out.1)).mono ?_
      rintro e w' ⟨rfl, v', rfl, hsl⟩
      have hsl := hsl _ (hown.sl HD.out.1)
      rw [HD.out.2.1] at hsl
      go_wp2
      go_ret2
      exact ⟨v', by rw [← HD.out.2.2]; rfl, hsl, hbel⟩
    · obtain ⟨j, rfl⟩ : ∃ j, k = j + 1 := ⟨k - 1, by omega⟩
      obtain rfl : z = (j : Int) := by omega
      clear hk0
      obtain ⟨b, off, rfl, hca⟩ := HA.out j (by omega)
      have hca := cell_below hca hbel
      have hxa := gd_lt WA.out j
      have hcr1 := hown.cell j (by omega)
      have hfr := hown.free j
      obtain ⟨t, ht⟩ : ∃ t : Nat, t = cr * 4294967296 + gd la j := ⟨_, rfl⟩
      have hst := hinv.step (by omega) hxa t ht
      have htd : t / d < 4294967296 := by rw [ht]; exact ds_lt hxa hcr
      have htd0 : (0 : Int) ≤ (t : Int) / (d : Int) := Int.ediv_nonneg (by omega) (by omega)
      have ht2 : t < 18446744073709551616 := by omega
      have hw1 : IntKind.u64.wrap ((cr : Int) * 4294967296) = (cr : Int) * 4294967296 := IntWalk.u64_in _ (by omega)
      have hw2 : IntKind.u64.wrap ((cr : Int) * 4294967296 + ((gd la j : Nat) : Int)) = (t : Int) := by rw [IntWalk.u64_in _ (by omega)]; omega
      have hw3 : (cr : Int) * 4294967296 + ((gd la j : Nat) : Int) = (t : Int) := by omega
      have hne : ¬ (d : Int) = 0 := by omega
      clear ht hinv
      go_wp2
      go_roundw
      case rel => exact ⟨j, t % d, _, _, by omega, hst.2.2.1, by omega, by omega, rfl, by go_num, hst, hown.set j _ (t / d) (by omega), hbel.setCell (Nat.le_refl _) _⟩
      case measure => simp [intOf]
theorem two_words {n : Nat} (h : (digs n).length ≤ 2) : gd (digs n) 1 * 4294967296 + gd (digs n) 0 = n := by
  have h1 := val_take_ge (digs n) 2 h
  rw [val_take_gd, val_take_gd, val_digs] at h1
  simp [val] at h1
  omega
set_option maxHeartbeats 1000000 in
theorem rnumber_sl (v : Value) (n : Nat) (w : World) (h : Sl w v (digs n)) (h2 : (digs n).length ≤ 2) :
    Calls Tryz.prog 110 #[v] w (RetU w n) := by
  have H := Lib.hid h
  have HN := Lib.hid (two_words h2)
  have b1 := gd_lt (Wd_digs n) 1
  have b0 := gd_lt (Wd_digs n) 0
  have hw1 : IntKind.u64.wrap (((gd (digs n) 1 : Nat) : Int) * 4294967296) = ((gd (digs n) 1 : Nat) : Int) * 4294967296 := IntWalk.u64_in _ (by omega)
  have hw2 : IntKind.u64.wrap (((gd (digs n) 1 : Nat) : Int) * 4294967296 + ((gd (digs n) 0 : Nat) : Int)) = ((gd (digs n) 1 : Nat) : Int) * 4294967296 + ((gd (digs n) 0 : Nat) : Int) := IntWalk.u64_in _ (by omega)
  clear h h2
  go_enter Tryz.func110, Tryz.ntmps110
  go_wp2_with fail
  refine (rword_sl _ (digs n) 1 _ H.out (by decide)).mono ?_
  rintro e w' ⟨rfl, rfl⟩
  go_wp2_with fail
  refine (rword_sl _ (digs n) 0 _ H.out (by decide)).mono ?_
  rintro e w' ⟨rfl, rfl⟩
  go_wp2
  go_ret
  exact ⟨ret_u64 (by have := HN.out; omega), rfl⟩
set_option maxHeartbeats 1000000 in
theorem reuclid_sl (m0 n0 : Nat) (w : World) (hm : m0 < 18446744073709551616) (hn : n0 < 18446744073709551616) :
    Calls Tryz.prog 109 #[.int .u64 m0, .int .u64 n0] w (RetU w (Nat.gcd m0 n0)) := by
  obtain ⟨G, hG⟩ : ∃ G, G = Nat.gcd m0 n0 := ⟨_, rfl⟩
  rw [← hG]
  have HG : GcdIs m0 n0 G := hG.symm
  clear hG
  go_enter Tryz.func109, Tryz.ntmps109
  go_wp2
  go_loopw [0, 1] (fun sm sn wx => ∃ m n : Nat, sm = .int .u64 m ∧ sn = .int .u64 n ∧ m < 18446744073709551616 ∧ n < 18446744073709551616 ∧ GcdIs m n G ∧ w = wx) (fun _ sn _ => (intOf sn).toNat)
  case atStart => exact ⟨m0, n0, rfl, rfl, hm, hn, HG, rfl⟩
  case round =>
    obtain ⟨m, n, rfl, rfl, hm, hn, hg, rfl⟩ := hrel
    clear HG
    by_cases hn0 : n = 0
    · subst hn0
      obtain rfl := hg.done
      go_wp2
      go_ret
      exact ⟨rfl, rfl⟩
    · have hf : (0 : Int) < (n : Int) := by omega
      have hrem : (m : Int).tmod (n : Int) = ((m % n : Nat) : Int) := by rw [IntWalk.rem_in _ _ (by omega)]; simp
      have hrem' : (m : Int) % (n : Int) = ((m % n : Nat) : Int) := by simp
      have hne : ¬ (n : Int) = 0 := by omega
      have hg2 := hg.step
      have hlt := Nat.mod_lt m (show 0 < n by omega)
      obtain ⟨r, hr⟩ : ∃ r, r = m % n := ⟨_, rfl⟩
      rw [← hr] at hrem hrem' hg2 hlt
      clear hr hg hn0
      go_wp2
      go_roundw
      case rel => exact ⟨n, r, rfl, rfl, hn, by omega, hg2, by first | rfl | trivial⟩
      case measure => simp [intOf]; omega
/-- What guess returns: the digit, or one more. -/
def RetGs (w0 : World) (U V : Nat) (e : Ending) (w' : World) : Prop := ∃ q : Nat, e = .returned (.int .u64 q) ∧ q < 4294967296 ∧ U / V ≤ q ∧ q * V < U + V ∧ ∃ d, w' = w0.drewN d
set_option maxRecDepth 100000 in
set_option maxHeartbeats 4000000 in
theorem rguess_sl (g j n cu bv ov cv : Nat) (l lv : List Nat) (w : World) (hu : ∀ i, i < n + 1 → w.cell? ⟨g, j + i, none⟩ = some (.int .u32 ((gd l (j + i) : Nat) : Int))) (hwl : Wd l) (hcu : n + 1 ≤ cu) (hcu2 : cu ≤ 2000000000) (_hcv : n ≤ cv) (_hcv2 : cv ≤ maxLen)
    (hv : ∀ i, i < n → w.cell? ⟨bv, ov + i, none⟩ = some (.int .u32 ((gd lv i : Nat) : Int))) (hlv : lv.length = n) (hn : 2 ≤ n) (hwv : Wd lv) (hnorm : 2147483648 ≤ gd lv (n - 1))
    (hlt : val (seg l j (n + 1)) < 4294967296 * val lv) :
    Calls Tryz.prog 104 #[.slice (some ⟨g, j, none⟩) (n + 1) cu, .slice (some ⟨bv, ov, none⟩) n cv] w (RetGs w (val (seg l j (n + 1))) (val lv)) := by
  have T := Lib.hid (tops_of hn hwl hwv hlv hnorm hlt)
  obtain ⟨U, hU⟩ : ∃ U, U = val (seg l j (n + 1)) := ⟨_, rfl⟩
  obtain ⟨V, hV⟩ : ∃ V, V = val lv := ⟨_, rfl⟩
  rw [← hU, ← hV] at T ⊢
  have un_le := T.out.un_le
  have cn := hu n (by omega)
  have cn1 := hu (n - 1) (by omega)
  have cn2 := hu (n - 2) (by omega)
  have dn1 := hv (n - 1) (by omega)
  have dn2 := hv (n - 2) (by omega)
  have bn := gd_lt hwl (j + n)
  have bn1 := gd_lt hwl (j + (n - 1))
  have bn2 := gd_lt hwl (j + (n - 2))
  have ev1 := gd_lt hwv (n - 1)
  have ev2 := gd_lt hwv (n - 2)
  clear hU hV hlv hwl hwv hlt hv hu
  have hl1 : IntKind.i64.wrap ((n : Int) - 1) = (n : Int) - 1 := IntWalk.i64_in _ (by omega)
  have hl2 : IntKind.i64.wrap ((n : Int) - 2) = (n : Int) - 2 := IntWalk.i64_in _ (by omega)
  have hp1 : (0 : Int) ≤ (n : Int) - 1 := by omega
  have hp2 : (0 : Int) ≤ (n : Int) - 2 := by omega
  have ht1 : ((n : Int) - 1).toNat = n - 1 := by omega
  have ht2 : ((n : Int) - 2).toNat = n - 2 := by omega
  have hor1w : IntKind.u64.wrap (((gd l (j + n) : Nat) : Int) * 4294967296) = ((gd l (j + n) : Nat) : Int) * 4294967296 := IntWalk.u64_in _ (by omega)
  obtain ⟨top, htop⟩ : ∃ top : Nat, top = gd l (j + n) * 4294967296 + gd l (j + (n - 1)) := ⟨_, rfl⟩
  have hor1 : IntKind.u64.wrap (((gd l (j + n) : Nat) : Int) * 4294967296 + ((gd l (j + (n - 1)) : Nat) : Int)) = (top : Int) := by rw [IntWalk.u64_in _ (by omega)]; omega
  have hor2 : ((gd l (j + n) : Nat) : Int) * 4294967296 + ((gd l (j + (n - 1)) : Nat) : Int) = (top : Int) := by omega
  have HTOP := Lib.hid htop
  have btop : top < 18446744073709551616 := by omega
  clear htop
  go_enter Tryz.func104, Tryz.ntmps104
  go_wp2
  go_quiet (fail)
  clear hor1 hor2 hor1w
  obtain ⟨v1, hv1⟩ : ∃ v1, v1 = gd lv (n - 1) := ⟨_, rfl⟩
  obtain ⟨v2, hv2⟩ : ∃ v2, v2 = gd lv (n - 2) := ⟨_, rfl⟩
  rw [← hv1] at T hnorm un_le dn1 ev1
  rw [← hv2] at T dn2 ev2
  clear hv1 hv2
  obtain ⟨q0, hq0⟩ : ∃ q0, q0 = top / v1 := ⟨_, rfl⟩
  obtain ⟨r0, hr0⟩ : ∃ r0, r0 = top % v1 := ⟨_, rfl⟩
  have hquo : IntKind.u64.wrap ((top : Int).tdiv (v1 : Int)) = (q0 : Int) := by
    rw [hq0, IntWalk.u64_quo _ _ ⟨by omega, by omega, by omega⟩]; simp
  have hrem : (top : Int).tmod (v1 : Int) = (r0 : Int) := by
    rw [hr0, IntWalk.rem_in _ _ (by omega)]; simp
  have hquo' : IntKind.u64.wrap ((top : Int) / (v1 : Int)) = (q0 : Int) := by
    rw [← hquo, IntWalk.u64_quo _ _ ⟨by omega, by omega, by omega⟩, IntWalk.u64_in _ ⟨Int.ediv_nonneg (by omega) (by omega), by have := (IntWalk.tdiv_le (top : Int) (v1 : Int) (by omega) (by omega)).2; omega⟩]
  have hrem' : (top : Int) % (v1 : Int) = (r0 : Int) := by rw [← hrem, IntWalk.rem_in _ _ (by omega)]
  have hquo2 : (top : Int) / (v1 : Int) = (q0 : Int) := by rw [hq0]; simp
  have hv10 : ¬ (v1 : Int) = 0 := by omega
  have G0 : Guess U V v1 top q0 r0 := by rw [hq0, hr0, HTOP.out]; exact T.out.start
  have hr0b : r0 < 4294967296 := by rw [hr0]; have := Nat.mod_lt top (show 0 < v1 by omega); omega
  have hq0b : q0 ≤ top := by rw [hq0]; exact Nat.div_le_self _ _
  have hq0w : IntKind.u64.wrap (q0 : Int) = (q0 : Int) := IntWalk.u64_in _ (by omega)
  clear hq0 hr0
  go_wp2_with fail
  clear hquo hrem hquo' hrem' hquo2
  rename_i nq0
  go_loopw [7, 8] (fun s t wr => ∃ q r : Nat, s = .int .u64 q ∧ t = .int .u64 r ∧ r < 4294967296 ∧ Guess U V v1 top q r ∧ ∃ d, wr = w.drewN d) (fun s _ _ => (intOf s).toNat)
  case atStart => exact ⟨q0, r0, by first | rfl | exact val_u64 hq0w, by go_num, hr0b, G0, _, by first | rfl | (simp only [World.drewN_drewN]; rfl)⟩
  case round =>
    clear G0 hr0b
    obtain ⟨q, r, rfl, rfl, hr, G, d, rfl⟩ := hrel
    have G' := G
    rw [HTOP.out] at G'
    have hqb := T.out.bound G'
    obtain ⟨m1, m2⟩ := test_sums (v2 := v2) hqb.2 hr
    have hor : IntKind.u64.wrap ((r : Int) * 4294967296 + ((gd l (j + (n - 2)) : Nat) : Int)) = ((r * 4294967296 + gd l (j + (n - 2)) : Nat) : Int) := by rw [IntWalk.u64_in _ (by omega)]; omega
    obtain ⟨X, hX⟩ : ∃ X, X = q * v2 := ⟨_, rfl⟩
    rw [← hX] at m1
    have HX := Lib.hid hX
    have hXb : X < 18446744073709551616 := by rw [hX]; exact hqb.2
    have hqb1 : q ≤ 4294967297 := hqb.1
    clear hX hqb
    by_cases hg : 4294967296 ≤ q
    · have hd1 : decide ((4294967296 : Int) ≤ (q : Int)) = true := by simp; omega
      go_wp2
      go_quiet (fail)
      clear hl2 ht2 m1 m2 hor hd1
      have hlow := (T.out.lower G' (.inl hg)).2
      rw [← HTOP.out] at hlow
      have hq1 : 1 ≤ q := by omega
      clear G' G btop hXb hv10
      go_upto_region 7 with fail
      by_cases hr2 : 4294967296 ≤ r + v1
      · have hr3 : decide ((4294967296 : Int) ≤ (r : Int) + (v1 : Int)) = true := by simp; omega
        have hlow' := hlow
        rw [HTOP.out] at hlow'
        have hgr := T.out.grown hlow' hr2
        go_wp2_with fail
        go_ret
        exact ⟨q - 1, ret_u64 (by omega), hgr.1, hlow.2, T.out.good hlow' hgr.1 hgr.2, _, rfl⟩
      · have hr3 : decide ((4294967296 : Int) ≤ (r : Int) + (v1 : Int)) = false := by simp; omega
        go_wp2_with fail
        go_roundw
        case rel => exact ⟨q - 1, r + v1, by go_num, by go_num, by omega, hlow, _, rfl⟩
        case measure => simp [intOf]; omega
    · have hd1 : decide ((4294967296 : Int) ≤ (q : Int)) = false := by simp; omega
      by_cases ht : r * 4294967296 + gd l (j + (n - 2)) < X
      · have hd2 : decide ((((r * 4294967296 + gd l (j + (n - 2)) : Nat)) : Int) < (X : Int)) = true := by simp; omega
        go_wp2
        go_quiet (fail)
        clear hl2 ht2 m1 m2 hor hd1 hd2
        have hlow := (T.out.lower G' (.inr (by rw [← HX.out]; exact ht))).2
        have hq1 : 1 ≤ q := (T.out.lower G' (.inr (by rw [← HX.out]; exact ht))).1
        rw [← HTOP.out] at hlow
        clear G' G btop hXb hv10
        go_upto_region 7 with fail
        by_cases hr2 : 4294967296 ≤ r + v1
        · have hr3 : decide ((4294967296 : Int) ≤ (r : Int) + (v1 : Int)) = true := by simp; omega
          have hlow' := hlow
          rw [HTOP.out] at hlow'
          have hgr := T.out.grown hlow' hr2
          go_wp2_with fail
          go_ret
          exact ⟨q - 1, ret_u64 (by omega), hgr.1, hlow.2, T.out.good hlow' hgr.1 hgr.2, _, rfl⟩
        · have hr3 : decide ((4294967296 : Int) ≤ (r : Int) + (v1 : Int)) = false := by simp; omega
          go_wp2_with fail
          go_roundw
          case rel => exact ⟨q - 1, r + v1, by go_num, by go_num, by omega, hlow, _, rfl⟩
          case measure => simp [intOf]; omega
      · have hd2 : decide ((((r * 4294967296 + gd l (j + (n - 2)) : Nat)) : Int) < (X : Int)) = false := by simp; omega
        have hgood := T.out.good G' (by omega) (by rw [← HX.out]; omega)
        go_wp2
        go_quiet (fail)
        rename_i nq
        go_wp2_with fail
        go_ret
        exact ⟨q, rfl, by omega, G.2, hgood, d + nq, by simp only [World.drewN_drewN]⟩
/-- Something was borrowed: the row is one divisor too small. -/
def LessRow (l v : List Nat) (j n : Nat) (l' : List Nat) : Prop :=
  l'.length = l.length ∧ Wd l' ∧ val (seg l' j (n + 1)) + val v = 4294967296 ^ (n + 1) + val (seg l j (n + 1)) % val v ∧ ∀ i, (i < j ∨ j + n + 1 ≤ i) → gd l' i = gd l i
theorem MsInv.fin0 {l v r : List Nat} {q j n : Nat} (h : MsInv l v q j (n + 1) 0 0 r) (hn : v.length = n) (hd : val (seg l j (n + 1)) / val v ≤ q) (hg : q * val v < val (seg l j (n + 1)) + val v) (hv : 0 < val v) :
    q = val (seg l j (n + 1)) / val v ∧ StepRow l v j n r := by
  obtain ⟨h1, h2, h3, h4, h5, h6⟩ := h
  rw [val_take_ge v (n + 1) (by omega), Nat.add_zero, Nat.mul_zero, Nat.add_zero] at h5
  have hq : q = val (seg l j (n + 1)) / val v := by
    rcases digit_of hv hd hg with ⟨_, h⟩ | ⟨h, _⟩
    · exact h
    · exfalso; omega
  refine ⟨hq, h1, h2, ?_, fun i hi => h6 i (by omega)⟩
  have := Nat.div_add_mod (val (seg l j (n + 1))) (val v)
  rw [← hq, Nat.mul_comm] at this
  omega
theorem MsInv.fin1 {l v r : List Nat} {q j n : Nat} (h : MsInv l v q j (n + 1) 0 1 r) (hn : v.length = n) (hd : val (seg l j (n + 1)) / val v ≤ q) (hg : q * val v < val (seg l j (n + 1)) + val v) (hv : 0 < val v) :
    q = val (seg l j (n + 1)) / val v + 1 ∧ LessRow l v j n r := by
  obtain ⟨h1, h2, h3, h4, h5, h6⟩ := h
  rw [val_take_ge v (n + 1) (by omega), Nat.zero_add, Nat.mul_one] at h5
  have hr := val_seg_lt h2 j (n + 1)
  have hq : q = val (seg l j (n + 1)) / val v + 1 := by
    rcases digit_of hv hd hg with ⟨h, _⟩ | ⟨_, h⟩
    · exfalso; omega
    · exact h
  refine ⟨hq, h1, h2, ?_, fun i hi => h6 i (by omega)⟩
  have := Nat.div_add_mod (val (seg l j (n + 1))) (val v)
  rw [hq, Nat.add_mul, Nat.one_mul, Nat.mul_comm (val (seg l j (n + 1)) / val v)] at h5
  omega
theorem LessRow.back {l v r l' : List Nat} {j n c : Nat} (h : LessRow l v j n l') (hn : v.length = n) (hw : Wd v) (hv : 0 < val v) (hpb : PbInv l' v j (n + 1) c r) : StepRow l v j n r := by
  obtain ⟨h1, h2, h3, h4⟩ := h
  obtain ⟨g1, g2, g3, g4, g5⟩ := hpb
  rw [val_take_ge v (n + 1) (by omega), h3] at g4
  have hr := val_seg_lt g2 j (n + 1)
  have hm := Nat.mod_lt (val (seg l j (n + 1))) hv
  have hV := val_lt hw
  rw [hn] at hV
  have hps := Nat.pow_succ (n := 4294967296) (m := n)
  refine ⟨by rw [g1, h1], g2, ?_, fun i hi => by rw [g5 i (by omega), h4 i hi]⟩
  rcases Nat.le_one_iff_eq_zero_or_eq_one.1 g3 with e | e
  · rw [e] at g4; omega
  · rw [e] at g4; omega
/-- The word and the borrow of one step of lessen. -/
theorem less_step (a p c : Nat) (ha : a < 4294967296) (_hp : p < 18446744073709551616) (hc : c ≤ 1) :
    ∃ t x c' : Nat, t < 18446744073709551616 ∧ x < 4294967296 ∧ c' ≤ 1 ∧ x + p % 4294967296 + c = a + 4294967296 * c' ∧
      (4294967296 : Int) + (a : Int) - (p : Int) % 4294967296 - (c : Int) = (t : Int) ∧ (t : Int) % 4294967296 = (x : Int) ∧ 1 - (t : Int) / 4294967296 = (c' : Int) := by
  by_cases h : p % 4294967296 + c ≤ a
  · exact ⟨4294967296 + a - p % 4294967296 - c, a - p % 4294967296 - c, 0, by omega, by omega, by omega, by omega, by omega, by omega, by omega⟩
  · exact ⟨4294967296 + a - p % 4294967296 - c, 4294967296 + a - p % 4294967296 - c, 1, by omega, by omega, by omega, by omega, by omega, by omega, by omega⟩
/-- What lessen leaves. -/
def RetLs (w0 : World) (base g N q : Nat) (l lv : List Nat) (j n : Nat) (e : Ending) (w' : World) : Prop :=
  ∃ (b : Bool) (l' : List Nat), e = .returned (.bool b) ∧ Own w' base g N l' ∧ w0.grownBy w' (some g) ∧
    ((b = false ∧ q = val (seg l j (n + 1)) / val lv ∧ StepRow l lv j n l') ∨ (b = true ∧ q = val (seg l j (n + 1)) / val lv + 1 ∧ LessRow l lv j n l'))
theorem ret_bool {a b : Bool} (h : a = b) : Ending.returned (.bool a) = .returned (.bool b) := by rw [h]
set_option maxRecDepth 100000 in
set_option maxHeartbeats 4000000 in
theorem rlessen_sl (w0 : World) (base g N j n cu q : Nat) (l lv : List Nat) (vv : Value) (w : World) (ho : Own w base g N l) (hwl : Wd l) (hj : j + n < N) (hcu : n + 1 ≤ cu) (hcu2 : cu ≤ 2000000000)
    (hv : Sl w0 vv lv) (hb0 : Below w0.heap.size w0 w) (hg0 : w0.heap.size ≤ g) (hlv : lv.length = n) (hvp : 0 < val lv)
    (hq : q < 4294967296) (hd : val (seg l j (n + 1)) / val lv ≤ q) (hg : q * val lv < val (seg l j (n + 1)) + val lv) :
    Calls Tryz.prog 105 #[.slice (some ⟨g, j, none⟩) (n + 1) cu, vv, .int .u64 q] w (RetLs w base g N q l lv j n) := by
  have HV := Lib.hid hv
  have WL := Lib.hid hwl
  have HD := Lib.hid hd
  have HG := Lib.hid hg
  have HVP := Lib.hid hvp
  have HLV := Lib.hid hlv
  clear hv hwl hd hg hvp hlv
  go_enter Tryz.func105, Tryz.ntmps105
  go_wp2
  go_loopw [7, 8, 9] (fun sc sb i wr => ∃ (k c b : Nat) (r : List Nat), k ≤ n + 1 ∧ c < 4294967296 ∧ b ≤ 1 ∧ Hid (k = n + 1 → c = 0) ∧ i = .int .i64 k ∧ sc = .int .u64 c ∧ sb = .int .u64 b ∧ MsInv l lv q j k c b r ∧ Own wr base g N r ∧ w.grownBy wr (some g))
    (fun _ _ i _ => n + 1 - (intOf i).toNat)
  case atStart => exact ⟨0, 0, 0, l, by omega, by omega, by omega, fun h => rfl, rfl, rfl, rfl, MsInv.start _ _ _ WL.out, ho, World.grownBy.refl _ _⟩
  case round =>
    clear ho
    obtain ⟨k, c, b, r, hk, hc, hb, hfin, rfl, rfl, rfl, hinv, hown, hgb⟩ := hrel
    by_cases hlt : k < n + 1
    · have hcu' := hown.cell (j + k) (by omega)
      rw [hinv.2.2.2.2.2 (j + k) (.inr (Nat.le_refl _))] at hcu'
      have hfr := hown.free (j + k)
      have bu := gd_lt WL.out (j + k)
      have bv := gd_lt HV.out.wd k
      obtain ⟨s1, s2, t, ht, s3, ht2⟩ := qt_sums hq bv hc
      obtain ⟨t', x, b', u1, u2, u3, u4, u5, u6, u7⟩ := less_step (gd l (j + k)) t b bu ht2 hb
      have HT := Lib.hid ht
      have U4 := Lib.hid u4
      have hlt' : (k : Int) < (n : Int) + 1 := by omega
      have hln : ((n + 1 : Nat) : Int) = (n : Int) + 1 := by omega
      clear ht u4
      go_wp2_with fail
      refine (rword_sl vv lv k _ (HV.out.below (hb0.trans (gb_below hgb hg0 hb0.size))) (by omega)).mono ?_
      rintro e w' ⟨rfl, rfl⟩
      go_wp2_with fail
      go_roundw
      case rel =>
        have hst := hinv.step (by have := hown.len; have := hinv.1; omega) t x b' HT.out ht2 u2 u3 U4.out
        refine ⟨k + 1, t / 4294967296, b', _, by omega, hst.2.2.1, u3, ?_, by go_num, by go_num, by go_num, hst, hown.set (j + k) _ x (by omega), hown.gset hgb _ _⟩
        intro e
        have e2 : gd lv k = 0 := gd_ge lv k (by have := HLV.out; omega)
        have := HT.out
        rw [e2, Nat.mul_zero, Nat.zero_add] at this
        omega
      case measure => simp [intOf]; omega
    · obtain rfl : k = n + 1 := by omega
      obtain rfl := hfin.out rfl
      have hln : ((n + 1 : Nat) : Int) = (n : Int) + 1 := by omega
      rcases Nat.le_one_iff_eq_zero_or_eq_one.1 hb with rfl | rfl
      · have hF := Lib.hid (MsInv.fin0 (l := l) (v := lv) (r := r) (q := q) (j := j) (n := n) hinv HLV.out HD.out HG.out HVP.out)
        go_wp2_with fail
        go_ret
        exact ⟨false, r, rfl, hown, hgb, .inl ⟨rfl, hF.out⟩⟩
      · have hF := Lib.hid (MsInv.fin1 (l := l) (v := lv) (r := r) (q := q) (j := j) (n := n) hinv HLV.out HD.out HG.out HVP.out)
        go_wp2_with fail
        go_ret
        exact ⟨true, r, rfl, hown, hgb, .inr ⟨rfl, hF.out⟩⟩
/-- What restore leaves. -/
def RetRs (w0 : World) (base g N : Nat) (l lv : List Nat) (j n : Nat) (e : Ending) (w' : World) : Prop :=
  e = .returned (.tuple #[]) ∧ ∃ l' : List Nat, Own w' base g N l' ∧ w0.grownBy w' (some g) ∧ StepRow l lv j n l'
set_option maxRecDepth 100000 in
set_option maxHeartbeats 4000000 in
theorem rrestore_sl (w0 : World) (base g N j n cu : Nat) (l0 l lv : List Nat) (vv : Value) (w : World) (ho : Own w base g N l) (hl : LessRow l0 lv j n l) (hj : j + n < N) (hcu : n + 1 ≤ cu) (hcu2 : cu ≤ 2000000000)
    (hv : Sl w0 vv lv) (hb0 : Below w0.heap.size w0 w) (hg0 : w0.heap.size ≤ g) (hlv : lv.length = n) (hvp : 0 < val lv) :
    Calls Tryz.prog 106 #[.slice (some ⟨g, j, none⟩) (n + 1) cu, vv] w (RetRs w base g N l0 lv j n) := by
  have HV := Lib.hid hv
  have HL := Lib.hid hl
  have HVP := Lib.hid hvp
  have HLV := Lib.hid hlv
  clear hv hl hvp hlv
  go_enter Tryz.func106, Tryz.ntmps106
  go_wp2
  go_loopw [4, 5] (fun sc i wr => ∃ (k c : Nat) (r : List Nat), k ≤ n + 1 ∧ c ≤ 1 ∧ i = .int .i64 k ∧ sc = .int .u64 c ∧ PbInv l lv j k c r ∧ Own wr base g N r ∧ w.grownBy wr (some g))
    (fun _ i _ => n + 1 - (intOf i).toNat)
  case atStart => exact ⟨0, 0, l, by omega, by omega, rfl, rfl, PbInv.start _ _ HL.out.2.1, ho, World.grownBy.refl _ _⟩
  case round =>
    have hlen := ho.len
    clear ho
    obtain ⟨k, c, r, hk, hc, rfl, rfl, hinv, hown, hgb⟩ := hrel
    have hln : ((n + 1 : Nat) : Int) = (n : Int) + 1 := by omega
    by_cases hlt : k < n + 1
    · have hcu' := hown.cell (j + k) (by omega)
      rw [hinv.2.2.2.2 (j + k) (.inr (Nat.le_refl _))] at hcu'
      have hfr := hown.free (j + k)
      have bu := gd_lt HL.out.2.1 (j + k)
      have bv := gd_lt HV.out.wd k
      have HBw := Lib.hid (HV.out.below (hb0.trans (gb_below hgb hg0 hb0.size)))
      have hlt' : (k : Int) < (n : Int) + 1 := by omega
      have s1 : IntKind.u64.wrap (((gd l (j + k) : Nat) : Int) + ((gd lv k : Nat) : Int)) = ((gd l (j + k) : Nat) : Int) + ((gd lv k : Nat) : Int) := IntWalk.u64_in _ (by omega)
      have s2 : IntKind.u64.wrap (((gd l (j + k) : Nat) : Int) + ((gd lv k : Nat) : Int) + (c : Int)) = ((gd l (j + k) : Nat) : Int) + ((gd lv k : Nat) : Int) + (c : Int) := IntWalk.u64_in _ (by omega)
      go_wp2_with fail
      go_region_with (first
        | (go_at_call 96; refine (rword_sl vv lv k _ (by first | exact HBw.out | exact HBw.out.drewN _) (by omega)).mono ?_; rintro e w' ⟨rfl, rfl⟩))
      all_goals
        go_wp2_with fail
        go_roundw
        case rel =>
          have hst := hinv.step (by have := hown.len; have := hinv.1; omega) bu bv _ rfl
          exact ⟨k + 1, _, _, by omega, hst.2.2.1, by go_num, by go_num, hst, Own.set (by first | exact hown | exact hown.drewN _) (j + k) _ _ (by omega), by first | exact Own.gset hown hgb _ _ | exact Own.gset (hown.drewN _) (gb_drewN hgb _) _ _⟩
        case measure => simp [intOf]; omega
    · obtain rfl : k = n + 1 := by omega
      have hF := Lib.hid (HL.out.back HLV.out HV.out.wd HVP.out hinv)
      go_wp2_with fail
      exact bodyPost_end (v := .tuple #[]) (by simp [results, Tryz.results106]) rfl ⟨rfl, r, hown, hgb, hF.out⟩
/-- copy into a row of the call's own, from its first word on. -/
theorem run_copy_w (w : World) (ty : TypeId) (base g N : Nat) (l m : List Nat) (vs : Value) (hown : Own w base g N l) (hsl : Sl w vs m) (hlen : m.length ≤ N) :
    ∃ w', (Builtin.copy_ #[27, 27] ty #[.slice (some ⟨g, 0, none⟩) N N, vs]).run Tryz.prog w = .ok (.int .i64 m.length) w' ∧ Own w' base g N (m ++ l.drop m.length) ∧ Below g w w' := by
  have hsz : (Tryz.prog.info? 75).map (·.size) = some 1 := by
    obtain ⟨i0, hi, hz0, hz1, hz2⟩ := info_parts info27
    rw [hi]; simpa using hz1
  have hl := hown.len
  have hown0 := hown
  obtain ⟨h1, h2⟩ := hown
  rcases h2 with ⟨h2, _⟩ | ⟨g', cap, cur, hv, hbg, hh, hcap, hcm, hcs, htk⟩
  · simp at h2
  · simp only [Value.slice.injEq, Option.some.injEq, Addr.mk.injEq, and_true, true_and] at hv
    obtain ⟨rfl, rfl⟩ := hv
    obtain ⟨ao, c, rfl, s1, s2, s3, sn, s4⟩ := hsl
    have hcur : cur.toList = l.map fun x => Value.int .u32 ((x : Nat) : Int) := by
      rw [← htk, List.take_of_length_le (by rw [Array.length_toList, hcs]; omega)]
    by_cases hm : m.length = 0
    · have hm' : m = [] := List.eq_nil_of_length_eq_zero hm
      subst hm'
      refine ⟨w, ?_, by simpa using hown0, Below.refl _ _⟩
      have := run_copy_none (P := Tryz.prog) w 27 27 ty 75 (some ⟨g, 0, none⟩) ao N N 0 c Tryz.underlying27 hsz (Nat.zero_min _)
      exact this
    · obtain ⟨b, off, e, _⟩ := s4 0 (by omega)
      subst e
      have := run_copy_row (P := Tryz.prog) w 27 27 ty 75 g 0 N N ⟨b, off, none⟩ m.length c cur 75 (m.map fun x => Value.int .u32 ((x : Nat) : Int)) Tryz.underlying27 hsz hh
        (by rw [List.length_map]; exact (Nat.min_eq_left hlen).symm) (fun j v hj => by
          rw [List.getElem?_map] at hj
          rcases Nat.lt_or_ge j m.length with hjm | hjm
          · obtain ⟨b2, off2, e2, hc⟩ := s4 j hjm
            simp only [Option.some.injEq, Addr.mk.injEq, and_true] at e2
            obtain ⟨rfl, rfl⟩ := e2
            rw [List.getElem?_eq_getElem hjm, Option.map_some] at hj
            rw [Addr.add_lit, hc, gd_eq m j hjm]
            exact hj
          · rw [List.getElem?_eq_none hjm] at hj; simp at hj)
        (by rw [List.length_map]; omega)
        (fun v hv => by obtain ⟨x, _, rfl⟩ := List.mem_map.1 hv; rfl)
      rw [List.length_map] at this
      refine ⟨_, this, ?_, (onl_setRow _ _ _).below (Below.refl _ _) (Nat.le_refl _)⟩
      have e : (cur.toList.take 0 ++ (m.map fun x => Value.int .u32 ((x : Nat) : Int)) ++ cur.toList.drop (0 + m.length)) = (m ++ l.drop m.length).map fun x => Value.int .u32 ((x : Nat) : Int) := by
        simp only [List.take_zero, List.nil_append, Nat.zero_add, hcur, List.map_append, List.map_drop]
      rw [e]
      refine ⟨by rw [List.length_map, List.length_append, List.length_drop]; omega, .inr ⟨g, N, _, rfl, hbg, setRow_heap w g cur _ _ _ hh, hcap, hcm, ?_, ?_⟩⟩
      · simp; omega
      · rw [List.take_of_length_le (by rw [List.length_map, List.length_append, List.length_drop]; omega)]
/-- The number that makes a word great. -/
theorem scale_of (b : Nat) (h0 : 0 < b) (h1 : b < 4294967296) : ∃ d : Nat, d = 4294967296 / (b + 1) ∧ 0 < d ∧ d < 4294967296 ∧ 2147483648 ≤ b * d ∧ b * d + d ≤ 4294967296 := by
  refine ⟨_, rfl, ?_, ?_, ?_, ?_⟩
  · exact Nat.div_pos (by omega) (by omega)
  · exact Nat.div_lt_self (by omega) (by omega)
  · obtain ⟨q, hq⟩ : ∃ q, q = 4294967296 / (b + 1) := ⟨_, rfl⟩
    have hdm := Nat.div_add_mod 4294967296 (b + 1)
    have hr := Nat.mod_lt 4294967296 (show 0 < b + 1 by omega)
    rw [← hq] at hdm ⊢
    obtain ⟨r, hrr⟩ : ∃ r, r = 4294967296 % (b + 1) := ⟨_, rfl⟩
    rw [← hrr] at hdm hr
    rw [Nat.add_mul, Nat.one_mul] at hdm
    by_cases hb1 : b = 1
    · subst hb1; omega
    · by_cases hq1 : q = 1
      · rw [hq1] at hdm ⊢; omega
      · have hq0 : 0 < q := by rw [hq]; exact Nat.div_pos (by omega) (by omega)
        obtain ⟨c, rfl⟩ : ∃ c, b = c + 1 := ⟨b - 1, by omega⟩
        have : 2 * c ≤ q * c := Nat.mul_le_mul_right _ (by omega)
        rw [Nat.add_mul, Nat.one_mul] at hdm ⊢
        rw [Nat.mul_comm q c] at this
        omega
  · have := Nat.div_mul_le_self 4294967296 (b + 1)
    rw [Nat.mul_comm, Nat.add_mul, Nat.one_mul] at this
    rw [Nat.mul_comm] at this
    have h2 : b * (4294967296 / (b + 1)) + 4294967296 / (b + 1) ≤ 4294967296 := by
      have h3 := Nat.div_mul_le_self 4294967296 (b + 1)
      rw [Nat.mul_comm, Nat.add_mul, Nat.one_mul] at h3
      exact h3
    exact h2
theorem LdInv.startD {A Bn n d m : Nat} {lu : List Nat} (hn : (digs Bn).length = n) (hn0 : 0 < n) (hm : (digs A).length + 1 = m + n) (hu : Wd lu) (hul : lu.length = m + n) (huv : val lu = A * d)
    (p2 : 0 < d) (hlo : 2147483648 ≤ gd (digs Bn) (n - 1) * d) (hhi : gd (digs Bn) (n - 1) * d + d ≤ 4294967296) :
    (digs (Bn * d)).length = n ∧ 2147483648 ≤ gd (digs (Bn * d)) (n - 1) ∧ LdInv (digs (Bn * d)) (A * d) m lu (List.replicate m 0) := by
  obtain ⟨k, rfl⟩ : ∃ k, n = k + 1 := ⟨n - 1, by omega⟩
  rw [Nat.add_sub_cancel] at hlo hhi ⊢
  have hB := val_digs Bn
  have hB2 : val (digs Bn) = val ((digs Bn).take k) + 4294967296 ^ k * gd (digs Bn) k := by
    rw [← val_take_gd, val_take_ge _ _ (by omega)]
  rw [hB] at hB2
  have hlow := val_lt (Wd_take (Wd_digs Bn) k)
  rw [List.length_take, Nat.min_eq_left (by omega)] at hlow
  have hg1 : 1 ≤ gd (digs Bn) k := by
    rcases Nat.eq_zero_or_pos (gd (digs Bn) k) with e | e
    · rw [e] at hlo; omega
    · exact e
  have hd31 : d ≤ 2147483648 := by
    have : 1 * d ≤ gd (digs Bn) k * d := Nat.mul_le_mul_right _ hg1
    omega
  have hBs : Bn * d < 4294967296 ^ (k + 1) := by
    rw [hB2, Nat.pow_succ]
    have e1 : (val ((digs Bn).take k) + 4294967296 ^ k * gd (digs Bn) k) * d < 4294967296 ^ k * (gd (digs Bn) k * d + d) := by
      rw [Nat.add_mul, Nat.mul_add, Nat.mul_assoc]
      have := Nat.mul_lt_mul_of_pos_right hlow p2
      omega
    have e2 : 4294967296 ^ k * (gd (digs Bn) k * d + d) ≤ 4294967296 ^ k * 4294967296 := Nat.mul_le_mul_left _ hhi
    omega
  have hBlo : 4294967296 ^ k * 2147483648 ≤ Bn * d := by
    rw [hB2, Nat.add_mul, Nat.mul_assoc]
    have := Nat.mul_le_mul_left (4294967296 ^ k) hlo
    omega
  have hV := val_digs (Bn * d)
  have hle := digs_length_le hBs
  have hw := Wd_digs (Bn * d)
  have hge : k + 1 ≤ (digs (Bn * d)).length := by
    rcases Nat.lt_or_ge (digs (Bn * d)).length (k + 1) with e | e
    · exfalso
      have h1 := val_lt hw
      rw [hV] at h1
      have h2 : 4294967296 ^ (digs (Bn * d)).length ≤ 4294967296 ^ k := Nat.pow_le_pow_right (by omega) (by omega)
      omega
    · exact e
  have hVl : (digs (Bn * d)).length = k + 1 := by omega
  refine ⟨hVl, ?_, hu, Wd_replicate _, ?_, ?_, fun i _ => gd_replicate _ _, by rw [List.length_replicate, hVl, hul], by simp⟩
  · have e := val_take_gd (digs (Bn * d)) k
    rw [val_take_ge _ _ (by omega), hV] at e
    have h1 := val_lt (Wd_take hw k)
    rw [List.length_take, Nat.min_eq_left (by omega)] at h1
    rcases Nat.lt_or_ge (gd (digs (Bn * d)) k) 2147483648 with h2 | h2
    · exfalso
      have : 4294967296 ^ k * (gd (digs (Bn * d)) k + 1) ≤ 4294967296 ^ k * 2147483648 := Nat.mul_le_mul_left _ h2
      rw [Nat.mul_add, Nat.mul_one] at this
      omega
    · exact h2
  · rw [val_replicate, Nat.mul_zero, Nat.add_zero, huv]
  · rw [hV]
    have e := val_drop lu m
    rw [Nat.min_eq_left (by omega), huv] at e
    have hA := val_lt (Wd_digs A)
    rw [val_digs, show (digs A).length = m + k by omega, Nat.pow_add] at hA
    have h3 : A * d < 4294967296 ^ m * 4294967296 ^ k * d := Nat.mul_lt_mul_of_pos_right hA p2
    have h4 : 4294967296 ^ m * 4294967296 ^ k * d ≤ 4294967296 ^ m * (Bn * d) := by
      rw [Nat.mul_assoc]
      refine Nat.mul_le_mul_left _ ?_
      have := Nat.mul_le_mul_left (4294967296 ^ k) hd31
      omega
    have h5 : 4294967296 ^ m * val (lu.drop m) < 4294967296 ^ m * (Bn * d) := by omega
    exact Nat.lt_of_mul_lt_mul_left h5
theorem LdInv.doneD {v l q : List Nat} {U : Nat} (h : LdInv v U 0 l q) : val q = U / val v ∧ val l = U % val v := by
  obtain ⟨h1, h2, h3, h4, h5, h6, h7⟩ := h
  rw [List.drop_zero] at h4
  constructor
  · rw [← h3, Nat.add_comm, Nat.mul_add_div (by omega), Nat.div_eq_of_lt h4, Nat.add_zero]
  · rw [← h3, Nat.add_comm, Nat.mul_add_mod, Nat.mod_eq_of_lt h4]
theorem scale_div (A Bn d : Nat) (h : 0 < d) : A * d / (Bn * d) = A / Bn := Nat.mul_div_mul_right A Bn h
theorem scale_mod (A Bn d : Nat) (h : 0 < d) : A * d % (Bn * d) / d = A % Bn := by
  rw [Nat.mul_mod_mul_right, Nat.mul_div_cancel _ h]
theorem pad_val {m : List Nat} {k : Nat} (h : Wd m) (n : Nat) : Wd (m ++ (List.replicate n 0).drop k) ∧ val (m ++ (List.replicate n 0).drop k) = val m := by
  rw [List.drop_replicate]
  exact ⟨Wd_append.2 ⟨h, Wd_replicate _⟩, by rw [val_append, val_replicate]; omega⟩
set_option maxRecDepth 100000 in
set_option maxHeartbeats 8000000 in
theorem rdivided_sl (va vb : Value) (A Bn : Nat) (w : World) (ha : Sl w va (digs A)) (hb : Sl w vb (digs Bn)) (hda : (digs A).length ≤ 900000000) (hdb : (digs Bn).length ≤ 900000000) (hpos : 0 < Bn) :
    Calls Tryz.prog 87 #[va, vb] w (RetDv w (A / Bn) (A % Bn)) := by
  have S1 := Lib.hid ha
  have S2 := Lib.hid hb
  clear ha hb
  go_enter Tryz.func87, Tryz.ntmps87
  go_wp2_with fail
  refine (rcompared_any _ _ A Bn _ S1.out S2.out).mono ?_
  rintro e w' ⟨rfl, d1, rfl⟩
  by_cases hlt : A < Bn
  · rw [cmpI_lt (by omega : (A : Int) < (Bn : Int))]
    go_wp2_with fail
    go_ret2
    refine ⟨_, _, rfl, ?_, ?_, bel_drewN (Below.refl _ _) _⟩
    · rw [Nat.div_eq_of_lt hlt, digs_zero]; exact Sl_nil _
    · rw [Nat.mod_eq_of_lt hlt]; exact S1.out.drewN _
  · have hc : ¬ cmpI (A : Int) (Bn : Int) < 0 := by
      rcases Nat.lt_or_ge Bn A with h | h
      · rw [cmpI_gt (by omega)]; omega
      · rw [cmpI_eq (by omega)]; omega
    obtain ⟨aob, capb, rfl, b1, b2, b3, bn, b4⟩ := S2.out
    obtain ⟨aoa, capa, rfl, a1, a2, a3, an, a4⟩ := S1.out
    have HA4 := Lib.hid a4
    have HB4 := Lib.hid b4
    unfold maxLen at a2 b2
    have hlen := digs_length_mono (show Bn ≤ A by omega)
    have hn0 : 0 < (digs Bn).length := by
      rcases Nat.eq_zero_or_pos (digs Bn).length with e | e
      · exact absurd ((digs_nil_iff _).1 (List.eq_nil_of_length_eq_zero e)) (by omega)
      · exact e
    clear a4 b4 an bn a3 b3
    by_cases hone : (digs Bn).length = 1
    · have hob : (((digs Bn).length : Int) == 1) = true := by rw [beq_iff_eq]; omega
      obtain ⟨b, off, rfl, hcell⟩ := HB4.out 0 (by omega)
      have hg : gd (digs Bn) 0 = Bn := by
        have := val_take_ge (digs Bn) 1 (by omega)
        rw [val_take_gd, val_digs] at this
        simpa [val] using this
      rw [hg, Nat.add_zero] at hcell
      have hBlt : Bn < 4294967296 := by rw [← hg]; exact gd_lt (Wd_digs _) 0
      have HONE := Lib.hid hone
      clear hone hg
      go_wp2_with fail
      refine (rshortly_sl _ (digs A) Bn _ (S1.out.drewN _) (by omega) (by omega) hBlt).mono ?_
      rintro e w' ⟨v3, rfl, h3, hb3⟩
      rw [val_digs] at h3 ⊢
      go_wp2_with fail
      have hm := Nat.mod_lt A (show 0 < Bn by omega)
      refine (rwords_sl (A % Bn) _ (by omega)).mono ?_
      rintro e w'' ⟨v4, rfl, h4, hb4⟩
      go_wp2_with fail
      go_ret2
      exact ⟨v3, v4, rfl, h3.below hb4, h4, (bel_undrewN hb3).trans (hb4.mono hb3.size)⟩
    · have hob : (((digs Bn).length : Int) == 1) = false := by rw [beq_eq_false_iff_ne]; omega
      obtain ⟨k, hk⟩ : ∃ k, (digs Bn).length = k + 1 := ⟨(digs Bn).length - 1, by omega⟩
      obtain ⟨b, off, rfl, hcell⟩ := HB4.out k (by omega)
      have hk1 : ((digs Bn).length : Int) - 1 = (k : Int) := by omega
      have hk2 : ((digs Bn).length : Int) = (k : Int) + 1 := by omega
      have HK := Lib.hid hk
      have HK2 := Lib.hid hk2
      have hgl := gd_lt (Wd_digs Bn) k
      have hgp : 0 < gd (digs Bn) k := by
        obtain ⟨l', x, e1, e2, _⟩ := digs_last Bn hpos
        have e3 : l'.length = k := by have := congrArg List.length e1; rw [hk] at this; simp at this; omega
        rw [e1, gd_append_right _ _ _ (by omega), e3, Nat.sub_self]
        exact e2
      obtain ⟨d, hd, hd0, hd32, hlo, hhi⟩ := scale_of _ hgp hgl
      have hquo : (4294967296 : Int) / (((gd (digs Bn) k : Nat) : Int) + 1) = (d : Int) := by rw [hd]; simp
      have hquo1 : IntKind.u64.wrap (((gd (digs Bn) k : Nat) : Int) + 1) = ((gd (digs Bn) k : Nat) : Int) + 1 := IntWalk.u64_in _ (by omega)
      have hquo2 : ¬ ((gd (digs Bn) k : Nat) : Int) + 1 = 0 := by omega
      have HLO := Lib.hid hlo
      have HHI := Lib.hid hhi
      have hkp : 1 ≤ k := by omega
      have hka : k + 1 ≤ (digs A).length := by omega
      clear hk hk2 hlo hhi hone hd
      go_wp2_with fail
      refine (rwords_sl d _ (by omega)).mono ?_
      rintro e w1 ⟨vd, rfl, hvd, hb1⟩
      have S1b := S1.out.below (bel_undrewN hb1)
      have S2b := S2.out.below (bel_undrewN hb1)
      have B1 : Below w.heap.size w w1 := bel_undrewN hb1
      have HDL : (digs d).length ≤ 1 := digs_length_le (by omega)
      go_wp2_with fail
      refine (rtimes_sl _ vd (digs Bn) (digs d) _ S2b hvd (by omega) (by omega)).mono ?_
      rw [val_digs, val_digs]
      rintro e w2 ⟨vv, rfl, hvv, hb2⟩
      have S1c := S1b.below hb2
      have B2 : Below w.heap.size w w2 := B1.trans (hb2.mono B1.size)
      have HVV := Lib.hid hvv
      obtain ⟨aov, capv, rfl, v1, v2, v3, vn, v4⟩ := hvv
      have hV4 := Lib.hid v4
      clear v3 vn v4 hvd S1b S2b hb1 hb2
      go_wp2_with (at_make; refine wpList_make_w _ rfl _ _ rfl _ _ ((digs A).length + 1) rfl rfl ?c1 ?c2 ?c3 ?_)
      case c1 => omega
      case c2 => omega
      case c3 => omega
      intro w3 ou b3 hsz3
      have S1d := S1c.below b3
      have B3 : Below w.heap.size w w3 := B2.trans (b3.mono B2.size)
      go_wp2_with fail
      refine (rwords_sl d _ (by omega)).mono ?_
      rintro e w4 ⟨vd, rfl, hvd, hb4⟩
      have S1e := S1d.below hb4
      have ou4 := ou.below hb4
      have b4 := b3.trans (hb4.mono b3.size)
      go_wp2_with fail
      refine (rtimes_sl _ vd (digs A) (digs d) _ S1e hvd (by omega) (by omega)).mono ?_
      rw [val_digs, val_digs]
      rintro e w5 ⟨vu, rfl, hvu, hb5⟩
      have ou5 := ou4.below hb5
      have b5 := b4.trans (hb5.mono b4.size)
      have hAd : (digs (A * d)).length ≤ (digs A).length + 1 := by
        refine digs_length_le ?_
        have h1 := val_lt (Wd_digs A)
        rw [val_digs] at h1
        rw [Nat.pow_succ]
        exact Nat.mul_lt_mul'' h1 hd32
      obtain ⟨pad, hpad⟩ : ∃ pad, pad = digs (A * d) ++ (List.replicate ((digs A).length + 1) 0).drop (digs (A * d)).length := ⟨_, rfl⟩
      have HPAD := Lib.hid hpad
      have hpv := pad_val (k := (digs (A * d)).length) (Wd_digs (A * d)) ((digs A).length + 1)
      rw [← hpad, val_digs] at hpv
      have HPV := Lib.hid hpv
      clear hpad hpv S1c S1d S1e hvd ou ou4 hb4 hb5 b3 b4
      obtain ⟨w6, hrun, ou6, b6⟩ := run_copy_w w5 3 w2.heap.size w2.heap.size ((digs A).length + 1) _ (digs (A * d)) vu ou5 hvu hAd
      rw [← HPAD.out] at ou6
      have B6 := Lib.hid (show Below w2.heap.size w2 w6 from b5.trans (b6.mono (Nat.le_refl _)))
      have hst := LdInv.startD (A := A) (m := (digs A).length - k) (lu := pad) rfl hn0 (by have := HK.out; omega) HPV.out.1 (by rw [ou6.len]; have := HK.out; omega) HPV.out.2 hd0 (by rw [HK.out]; exact HLO.out) (by rw [HK.out]; exact HHI.out)
      obtain ⟨hVn, hVg, hL⟩ := hst
      have HVN := Lib.hid hVn
      have HVG := Lib.hid hVg
      have HVp : Hid (0 < Bn * d) := Nat.mul_pos hpos hd0
      clear b5 b6 ou5 hvu hVg
      go_wp2_with (at_make; refine wpList_make_w _ rfl _ _ rfl _ _ ((digs A).length - k) rfl rfl ?c1 ?c2 ?c3 ?_)
      case c1 => have := HK2.out; omega
      case c2 => have := HK2.out; omega
      case c3 => omega
      intro w7 oq b7 hsz7
      have ou7 := ou6.below b7
      have B7 := B6.out.trans (b7.mono B6.out.size)
      have hlt2 := ou6.lt
      clear ou6 b7 hrun
      obtain ⟨bv, ov, rfl, -⟩ := hV4.out 0 (by omega)
      rw [hVn] at HVV v1
      obtain ⟨lv, hlv⟩ : ∃ lv, lv = digs (Bn * d) := ⟨_, rfl⟩
      have hvlv : val lv = Bn * d := by rw [hlv, val_digs]
      rw [← hlv] at HVN HVG hVn hV4 hL HVV
      have HLV := Lib.hid hlv
      have HVLV := Lib.hid hvlv
      have HWV := Lib.hid (show Wd lv by rw [hlv]; exact Wd_digs _)
      clear hlv hvlv hVn hk1
      go_wp2_with fail
      go_loopw [13] (fun i wr => ∃ (m : Nat) (z : Int) (l q : List Nat), m ≤ (digs A).length - k ∧ z + 1 ≤ m ∧ m ≤ z + 1 ∧ i = .int .i64 z ∧ LdInv lv (A * d) m l q ∧
          Own wr w2.heap.size w2.heap.size ((digs A).length + 1) l ∧ Own wr w6.heap.size w6.heap.size ((digs A).length - k) q ∧ Below w2.heap.size w2 wr)
        (fun i _ => (intOf i + 1).toNat)
      case atStart => exact ⟨(digs A).length - k, _, pad, _, Nat.le_refl _, by have := HK2.out; omega, by have := HK2.out; omega, rfl, hL, ou7, oq, B7⟩
      case round =>
        clear hL ou7 oq B7
        obtain ⟨m, z, l, q, hm, hz1, hz2, rfl, hinv, ou, oq, hB3⟩ := hrel
        by_cases hm0 : m = 0
        · subst hm0
          have hz : z < 0 := by omega
          have hd := LdInv.doneD (v := lv) (l := l) (q := q) hinv
          have hwl := hinv.1
          have hwq := hinv.2.1
          rw [HVLV.out, scale_div _ _ _ hd0] at hd
          have hll := ou.len
          have HSQ := Lib.hid (oq.sl hwq)
          have HSU := Lib.hid (ou.sl hwl)
          have HD := Lib.hid hd
          have hle : (digs (val l)).length ≤ 1000000000 := by rw [← trimW_eq hwl]; have := trimW_length_le l; omega
          clear hd hwl hwq hinv
          go_wp2_with fail
          refine (rtrim_sl _ l _ HSU.out).mono ?_
          rintro e w' ⟨rfl, vt, rfl, ht⟩
          have ht := ht _ HSU.out
          go_wp2_with fail
          refine (rshortly_sl vt (digs (val l)) d _ ht hle hd0 hd32).mono ?_
          rw [val_digs, HD.out.2, scale_mod _ _ _ hd0]
          rintro e w8 ⟨vr, rfl, hvr, hb8⟩
          have HSQ8 := HSQ.out.below hb8
          go_wp2_with fail
          refine (rtrim_sl _ q _ HSQ8).mono ?_
          rintro e w' ⟨rfl, vq, rfl, hq⟩
          have hq := hq _ HSQ8
          rw [HD.out.1] at hq
          go_wp2_with fail
          go_ret2
          exact ⟨vq, vr, rfl, hq, hvr, B2.trans ((hB3.trans (hb8.mono hB3.size)).mono B2.size)⟩
        · obtain ⟨j, rfl⟩ : ∃ j, m = j + 1 := ⟨m - 1, by omega⟩
          obtain rfl : z = (j : Int) := by omega
          clear hm0
          have hjn : j + (digs Bn).length ≤ (digs A).length := by have := HK.out; omega
          have hltU := hinv.lt (by have := HVN.out; omega)
          have hq' := Nat.div_lt_of_lt_mul (by rw [Nat.mul_comm]; exact hltU : val (seg l j (lv.length + 1)) < val lv * 4294967296)
          rw [HVN.out] at hltU hq'
          have HQ := Lib.hid hq'
          have HUT := Lib.hid hltU
          clear hltU hq'
          go_wp2_with fail
          rw [show j + (digs Bn).length + 1 - j = (digs Bn).length + 1 from by omega]
          refine (rguess_sl w2.heap.size j (digs Bn).length _ bv ov capv l lv wr (fun i hi => ou.cell (j + i) (by have := HK.out; omega)) hinv.1 (by have := HK.out; omega) (by omega) v1 v2
            (fun i hi => ?_) HVN.out (by have := HK.out; omega) HWV.out HVG.out HUT.out).mono ?_
          · obtain ⟨b', o', e, hc⟩ := hV4.out i (by rw [HVN.out]; exact hi)
            simp only [Option.some.injEq, Addr.mk.injEq, and_true] at e
            obtain ⟨rfl, rfl⟩ := e
            exact cell_below hc hB3
          rintro e w8 ⟨dg, rfl, hq32, hqd, hqg, dd, rfl⟩
          go_wp2_with fail
          refine (rlessen_sl w2 w2.heap.size w2.heap.size ((digs A).length + 1) j (digs Bn).length _ dg l lv _ _ (ou.drewN dd) hinv.1 (by have := HK.out; omega) (by have := HK.out; omega) (by omega)
            HVV.out (bel_drewN hB3 dd) (Nat.le_refl _) HVN.out (by rw [HVLV.out]; exact HVp.out) hq32 hqd hqg).mono ?_
          rintro e w9 ⟨bb, l', rfl, ou9, hgb, hcase⟩
          have oq9 := (oq.drewN dd).kept hgb (by omega)
          have B9 := (bel_drewN hB3 dd).trans (gb_below hgb (Nat.le_refl _) (bel_drewN hB3 dd).size)
          rcases hcase with ⟨rfl, hq, hsr⟩ | ⟨rfl, hq, hlr⟩
          · have hst2 : LdInv lv (A * d) j l' (q.set j dg) := by
              have := hinv.step (l' := l') HWV.out (by rw [HVN.out]; exact hsr) (by rw [HVN.out]; exact HQ.out)
              rwa [HVN.out, ← hq] at this
            have hcq := oq9.cell j (by omega)
            have hfq := oq9.free j
            clear hq hqd hqg hsr hinv hgb ou oq hB3
            go_wp2_with fail
            go_roundw
            case rel => exact ⟨j, (j : Int) - 1, l', _, by omega, by omega, by omega, rfl, hst2, ou9.other oq9 (by omega) _ _, oq9.set j _ dg (by omega), B9.setCell (p := ⟨w6.heap.size, j, none⟩) (show w2.heap.size ≤ w6.heap.size by omega) _⟩
            case measure => simp [intOf]
          · have hdg1 : 1 ≤ dg := by rw [hq]; exact Nat.le_add_left _ _
            obtain ⟨D, hD⟩ : ∃ D, D = dg - 1 := ⟨_, rfl⟩
            have hDI : (dg : Int) - 1 = (D : Int) := by omega
            have hDw : IntKind.u64.wrap ((dg : Int) - 1) = (D : Int) := by rw [IntWalk.u64_in _ (by omega)]; omega
            have HDQ : Hid (D = val (seg l j ((digs Bn).length + 1)) / val lv) := by show D = _; rw [hD, hq]; exact Nat.add_sub_cancel _ _
            have hD32 : D < 4294967296 := by omega
            clear hD hq hqd hqg
            go_wp2_with fail
            refine (rrestore_sl w2 w2.heap.size w2.heap.size ((digs A).length + 1) j (digs Bn).length _ l l' lv _ _ ou9 hlr (by have := HK.out; omega) (by have := HK.out; omega) (by omega)
              HVV.out B9 (Nat.le_refl _) HVN.out (by rw [HVLV.out]; exact HVp.out)).mono ?_
            rintro e w10 ⟨rfl, l'', ou10, hgb2, hsr⟩
            have oq10 := oq9.kept hgb2 (by omega)
            have B10 := B9.trans (gb_below hgb2 (Nat.le_refl _) B9.size)
            have hst2 : LdInv lv (A * d) j l'' (q.set j D) := by
              have := hinv.step (l' := l'') HWV.out (by rw [HVN.out]; exact hsr) (by rw [HVN.out]; exact HQ.out)
              rwa [HVN.out, ← HDQ.out] at this
            have hcq := oq10.cell j (by omega)
            have hfq := oq10.free j
            clear hsr hinv hgb hgb2 ou oq ou9 oq9 hB3 hlr B9
            go_wp2_with fail
            go_roundw
            case rel => exact ⟨j, (j : Int) - 1, l'', _, by omega, by omega, by omega, rfl, hst2, ou10.other oq10 (by omega) _ _, oq10.set j _ D (by omega), B10.setCell (p := ⟨w6.heap.size, j, none⟩) (show w2.heap.size ≤ w6.heap.size by omega) _⟩
            case measure => simp [intOf]
set_option maxRecDepth 100000 in
set_option maxHeartbeats 4000000 in
theorem rcommon_sl (va vb : Value) (A Bn : Nat) (w : World) (ha : Sl w va (digs A)) (hb : Sl w vb (digs Bn)) (hda : (digs A).length ≤ 900000000) (hdb : (digs Bn).length ≤ 900000000) :
    Calls Tryz.prog 97 #[va, vb] w (Ret w (digs (Nat.gcd A Bn))) := by
  obtain ⟨G, hG⟩ : ∃ G, G = Nat.gcd A Bn := ⟨_, rfl⟩
  rw [← hG]
  have HG : GcdIs A Bn G := hG.symm
  have HA := Lib.hid hda
  have HB := Lib.hid hdb
  clear hG hda hdb
  go_enter Tryz.func97, Tryz.ntmps97
  go_wp2
  go_loopg [0, 1] Bn (fun Y vx vy wr => ∃ X, Sl wr vx (digs X) ∧ Sl wr vy (digs Y) ∧ GcdIs X Y G ∧ (digs X).length ≤ 900000000 ∧ (digs Y).length ≤ 900000000 ∧ Below w.heap.size w wr)
  case atStart => exact ⟨A, ha, hb, HG, HA.out, HB.out, Below.refl _ _⟩
  case round =>
    clear ha hb HG HA HB
    obtain ⟨Y, rfl⟩ : ∃ Y, Y = gk := ⟨_, rfl⟩
    obtain ⟨X, hX, hY, hG, hlX, hlY, hbel⟩ := hrel
    have HXS := Lib.hid hX
    have HYS := Lib.hid hY
    obtain ⟨aox, capx, rfl, x1, x2, _, _, _⟩ := hX
    obtain ⟨aoy, capy, rfl, y1, y2, _, _, _⟩ := hY
    unfold maxLen at x2 y2
    by_cases hY0 : Y = 0
    · subst hY0
      obtain rfl := hG.done
      have hd : decide ((0 : Int) < ((digs 0).length : Int)) = false := by rw [digs_zero]; rfl
      have hd' : decide (0 < (digs 0).length) = false := by rw [digs_zero]; rfl
      clear hG
      go_wp2_with fail
      go_ret
      exact ⟨_, rfl, HXS.out, hbel⟩
    · have hYl : (digs Y).length ≠ 0 := fun e => hY0 ((digs_nil_iff _).1 (List.eq_nil_of_length_eq_zero e))
      have hd : decide ((0 : Int) < ((digs Y).length : Int)) = true := by simp; omega
      have hd' : decide (0 < (digs Y).length) = true := by simp; omega
      by_cases hsm : (digs X).length ≤ 2 ∧ (digs Y).length ≤ 2
      · have e1 : decide (((digs X).length : Int) ≤ 2) = true := by simp; omega
        have e2 : decide (((digs Y).length : Int) ≤ 2) = true := by simp; omega
        have e1' : decide ((digs X).length ≤ 2) = true := by simp; omega
        have e2' : decide ((digs Y).length ≤ 2) = true := by simp; omega
        have hX64 : X < 18446744073709551616 := by
          have h1 := val_lt (Wd_digs X)
          rw [val_digs] at h1
          have h2 := Nat.pow_le_pow_right (n := 4294967296) (by omega) hsm.1
          omega
        have hY64 : Y < 18446744073709551616 := by
          have h1 := val_lt (Wd_digs Y)
          rw [val_digs] at h1
          have h2 := Nat.pow_le_pow_right (n := 4294967296) (by omega) hsm.2
          omega
        have HL1 := Lib.hid hsm.1
        have HL2 := Lib.hid hsm.2
        have HGE : Hid (Nat.gcd X Y = G) := hG
        clear hsm hYl hG
        go_wp2_with fail
        refine (rnumber_sl _ X _ HXS.out HL1.out).mono ?_
        rintro e w' ⟨rfl, rfl⟩
        go_wp2_with fail
        refine (rnumber_sl _ Y _ HYS.out HL2.out).mono ?_
        rintro e w' ⟨rfl, rfl⟩
        go_wp2_with fail
        refine (reuclid_sl X Y _ hX64 hY64).mono ?_
        rintro e w' ⟨rfl, rfl⟩
        have hg64 : Nat.gcd X Y < 18446744073709551616 := by
          have := Nat.le_of_dvd (by omega) (Nat.gcd_dvd_right X Y)
          omega
        rw [HGE.out] at hg64 ⊢
        go_wp2_with fail
        refine (rwords_sl G _ hg64).mono ?_
        rintro e w6 ⟨v6, rfl, hv6, hb6⟩
        go_wp2_with fail
        go_ret
        exact ⟨v6, rfl, hv6, hbel.trans (hb6.mono hbel.size)⟩
      · have hdec : (decide (((digs X).length : Int) ≤ 2) = false) ∨ (decide (((digs X).length : Int) ≤ 2) = true ∧ decide (((digs Y).length : Int) ≤ 2) = false) := by
          by_cases h : (digs X).length ≤ 2
          · right; exact ⟨by simp; omega, by simp; omega⟩
          · left; simp; omega
        have hYp : 0 < Y := by omega
        have hst := hG.step
        have hlt := Nat.mod_lt X hYp
        have hlr : (digs (X % Y)).length ≤ 900000000 := Nat.le_trans (digs_length_mono (Nat.le_of_lt hlt)) hlY
        clear hsm hYl
        rcases hdec with e1 | ⟨e1, e2⟩
        all_goals
          go_wp2_with fail
          refine (rdivided_sl _ _ X Y _ HXS.out HYS.out hlX hlY hYp).mono ?_
          rintro e w3 ⟨v3, u3, rfl, hv3, hu3, hb3⟩
          have HY3 := HYS.out.below hb3
          have hbel3 := hbel.trans (hb3.mono hbel.size)
          go_wp2_with fail
          go_roundg (X % Y)
          case measure => exact hlt
          case rel => exact ⟨Y, HY3, hu3, hst, hlY, hlr, hbel3⟩
theorem rcompared_d (va vb : Value) (m n : Nat) (w : World) (ha : Sl w va (digs m)) (hb : Sl w vb (digs n)) : Calls Tryz.prog 74 #[va, vb] w (RetN w (cmpI m n)) :=
  (rcompared_any va vb m n w ha hb).mono fun _ _ ⟨h, q, e⟩ => ⟨h, by rw [e]; exact bel_drewN (Below.refl _ _) _⟩
theorem radded_d (va vb : Value) (m n : Nat) (w : World) (ha : Sl w va (digs m)) (hb : Sl w vb (digs n)) (h1 : (digs m).length ≤ 1000000000) (h2 : (digs n).length ≤ 1000000000) : Calls Tryz.prog 73 #[va, vb] w (Ret w (digs (m + n))) := by
  have := radded_sl va vb _ _ w ha hb h1 h2
  rwa [val_digs, val_digs] at this
theorem rtimes_d (va vb : Value) (m n : Nat) (w : World) (ha : Sl w va (digs m)) (hb : Sl w vb (digs n)) (h1 : (digs m).length ≤ 1000000000) (h2 : (digs n).length ≤ 1000000000) : Calls Tryz.prog 76 #[va, vb] w (Ret w (digs (m * n))) := by
  have := rtimes_sl va vb _ _ w ha hb h1 h2
  rwa [val_digs, val_digs] at this
theorem rtaken_d (va vb : Value) (m n : Nat) (w : World) (ha : Sl w va (digs m)) (hb : Sl w vb (digs n)) (h1 : (digs m).length ≤ 1000000000) (h : n ≤ m) : Calls Tryz.prog 75 #[va, vb] w (Ret w (digs (m - n))) := by
  have := rtaken_sl va vb _ _ w ha hb h1 (digs_length_mono h) (by rw [val_digs, val_digs]; exact h)
  rwa [val_digs, val_digs] at this
theorem rmade_d (neg : Bool) (v : Value) (m : Nat) (z : Int) (w : World) (h : Sl w v (digs m)) (hz : sgnI neg m = z) : Calls Tryz.prog 71 #[.bool neg, v] w (RetZ w z) :=
  made_sl neg v (digs m) z w h (by rw [val_digs]; exact hz)
end Go.Proofs.YtndpjfhhigpbhaaGreat
