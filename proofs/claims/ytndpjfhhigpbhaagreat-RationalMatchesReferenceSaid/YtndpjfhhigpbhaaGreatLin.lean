/- Scans over words: scaled, shiftLeft, divideSmall, shiftRight. -/
import Derived.Test.YtndpjfhhigpbhaaGreatMem
namespace Go.Proofs.YtndpjfhhigpbhaaGreat
open Go.RowKit W
/-- Upwards, each word times m and the carry: k words are done, the carry is c. -/
def ScInv (la : List Nat) (m c0 k c : Nat) (r : List Nat) : Prop :=
  r.length = la.length + 1 ∧ Wd r ∧ c < m ∧ val r + 4294967296 ^ k * c = val (la.take k) * m + c0 ∧ ∀ j, k ≤ j → gd r j = 0
theorem ScInv.start (la : List Nat) (m c0 : Nat) (h : c0 < m) : ScInv la m c0 0 c0 (List.replicate (la.length + 1) 0) :=
  ⟨by simp, Wd_replicate _, h, by rw [val_replicate]; simp [val], fun j _ => gd_replicate _ j⟩
theorem sc_lt {a m c : Nat} (ha : a < 4294967296) (hc : c < m) : (a * m + c) / 4294967296 < m := by
  apply Nat.div_lt_of_lt_mul
  have : a * m ≤ 4294967295 * m := Nat.mul_le_mul_right _ (by omega)
  omega
theorem ScInv.step {la : List Nat} {m c0 k c : Nat} {r : List Nat} (h : ScInv la m c0 k c r) (hk : k < la.length) (ha : gd la k < 4294967296) (t : Nat) (ht : t = gd la k * m + c) :
    ScInv la m c0 (k + 1) (t / 4294967296) (r.set k (t % 4294967296)) := by
  obtain ⟨h1, h2, h3, h4, h5⟩ := h
  refine ⟨by simpa using h1, Wd_set h2 _ _ (by omega), by rw [ht]; exact sc_lt ha h3, ?_, fun j hj => ?_⟩
  · have hs := val_set r k (t % 4294967296) (by omega)
    rw [h5 k (Nat.le_refl _), Nat.mul_zero, Nat.add_zero] at hs
    have e : 4294967296 ^ k * (t % 4294967296) + 4294967296 ^ (k + 1) * (t / 4294967296) = 4294967296 ^ k * t := by
      rw [Nat.pow_succ, Nat.mul_assoc, ← Nat.mul_add, Nat.mod_add_div]
    rw [val_take_gd, Nat.add_mul]
    have e3 : 4294967296 ^ k * t = 4294967296 ^ k * gd la k * m + 4294967296 ^ k * c := by rw [ht]; grind
    omega
  · rw [gd_set_other _ _ _ _ (by omega)]; exact h5 j (by omega)
theorem ScInv.done {la : List Nat} {m c0 c : Nat} {r : List Nat} (h : ScInv la m c0 la.length c r) (hm : m ≤ 4294967296) :
    Wd (r.set la.length c) ∧ val (r.set la.length c) = val la * m + c0 := by
  obtain ⟨h1, h2, h3, h4, h5⟩ := h
  refine ⟨Wd_set h2 _ _ (by omega), ?_⟩
  have hs := val_set r la.length c (by omega)
  rw [h5 _ (Nat.le_refl _), Nat.mul_zero, Nat.add_zero] at hs
  rw [hs, h4, val_take_ge la _ (Nat.le_refl _)]
/-- The sums of one step, as the walk spells them. -/
theorem sc_sums {a m c : Nat} (ha : a < 4294967296) (hm : m < 4294967296) (hc : c < m) :
    IntKind.u64.wrap ((a : Int) * (m : Int)) = (a : Int) * m ∧ IntKind.u64.wrap ((a : Int) * (m : Int) + (c : Int)) = (a : Int) * m + c ∧
      ∃ t : Nat, t = a * m + c ∧ (a : Int) * m + c = (t : Int) ∧ t < 18446744073709551616 := by
  have h : a * m ≤ 4294967295 * 4294967295 := Nat.mul_le_mul (by omega) (by omega)
  have h' : (a : Int) * m = ((a * m : Nat) : Int) := by simp
  rw [h']
  exact ⟨IntWalk.u64_in _ (by omega), IntWalk.u64_in _ (by omega), _, rfl, by omega, by omega⟩
set_option maxHeartbeats 1000000 in
/-- scaled: a m + c. -/
theorem scaled_sl (va : Value) (la : List Nat) (m c0 : Nat) (w : World) (ha : Sl w va la) (hsz : la.length ≤ 1000000000) (hm : m < 4294967296) (hc0 : c0 < m) :
    Calls Tryz.prog 93 #[va, .int .u64 m, .int .u64 c0] w (Ret w (digs (val la * m + c0))) := by
  obtain ⟨aoa, capa, rfl, ha1, ha2, ha3, _, ha4⟩ := ha
  have HA := Lib.hid ha4
  have WA := Lib.hid ha3
  clear ha4 ha3
  unfold maxLen at ha2
  go_enter Tryz.func93, Tryz.ntmps93
  go_wp2_with (at_make; refine wpList_make_w _ rfl _ _ rfl _ _ (la.length + 1) rfl rfl ?c1 ?c2 ?c3 ?_)
  case c1 => omega
  case c2 => omega
  case c3 => omega
  intro w1 hown hbel hsz1
  go_wp2
  go_loopw [2, 16] (fun c i wr => ∃ (k cr : Nat) (r : List Nat), k ≤ la.length ∧ cr < m ∧ i = .int .i64 k ∧ c = .int .u64 cr ∧ ScInv la m c0 k cr r ∧ Own wr w.heap.size w.heap.size (la.length + 1) r ∧ Below w.heap.size w wr)
    (fun _ i _ => la.length - (intOf i).toNat)
  case atStart => exact ⟨0, c0, _, by omega, hc0, rfl, rfl, ScInv.start _ _ _ hc0, hown, hbel⟩
  case round =>
    clear hown hbel hsz1 hc0
    obtain ⟨k, cr, r, hk, hcr, rfl, rfl, hinv, hown, hbel⟩ := hrel
    by_cases hlt : k < la.length
    · obtain ⟨b, off, rfl, hca⟩ := HA.out k hlt
      have hca := cell_below hca hbel
      have hxa := gd_lt WA.out k
      have hcr1 := hown.cell k (by omega)
      have hfr := hown.free k
      obtain ⟨s1, s2, t, ht, s3, ht2⟩ := sc_sums hxa hm hcr
      have HT := Lib.hid ht
      clear ht
      go_wp2
      go_roundw
      case rel =>
        have hst := hinv.step hlt hxa t HT.out
        exact ⟨k + 1, _, _, by omega, hst.2.2.1, by go_num, by go_num, hst, hown.set k _ (t % 4294967296) (by omega), hbel.setCell (Nat.le_refl _) _⟩
      case measure => simp [intOf]; omega
    · obtain rfl : k = la.length := by omega
      have hcr1 := hown.cell la.length (by omega)
      have hfr := hown.free la.length
      have HD := Lib.hid (hinv.done (by omega))
      go_wp2_with fail
      refine (trim_sl _ (r.set la.length cr) _ ((hown.set la.length _ _ (by omega)).sl HD.out.1)).mono ?_
      rintro e w' ⟨rfl, v', rfl, hsl⟩
      have hsl := hsl _ ((hown.set la.length (cr : Int) cr rfl).sl HD.out.1)
      rw [HD.out.2] at hsl
      have hbel2 := hbel.setCell (p := ⟨w.heap.size, la.length, none⟩) (Nat.le_refl _) (Value.int .u32 cr)
      go_wp2
      go_ret
      exact ⟨v', rfl, hsl, hbel2⟩
/-- A word shifted left, and a carry below it. -/
theorem or_sum (a s c : Nat) (ha : a < 4294967296) (hs : s < 32) (hc : c < 2 ^ s) :
    bits .or .u64 (IntKind.u64.wrap ((a : Int) * 2 ^ s)) (c : Int) = ((a * 2 ^ s + c : Nat) : Int) := by
  have h1 : 2 ^ s ≤ 2147483648 := Nat.pow_le_pow_right (n := 2) (by omega) (show s ≤ 31 by omega)
  have h2 : a * 2 ^ s ≤ 4294967295 * 2147483648 := Nat.mul_le_mul (by omega) h1
  have h3 : (a : Int) * 2 ^ s = ((a * 2 ^ s : Nat) : Int) := by simp
  rw [h3, IntWalk.u64_in _ (by omega), bits_or_u64_nat _ _ (by omega) (by omega)]
  congr 1
  rw [Nat.mul_comm a, Nat.two_pow_add_eq_or_of_lt hc a]
/-- The same at 32. -/
theorem or_sum32 (a c : Nat) (ha : a < 4294967296) (hc : c < 4294967296) :
    bits .or .u64 ((a : Int) * 4294967296) (c : Int) = ((a * 4294967296 + c : Nat) : Int) := by
  have h3 : (a : Int) * 4294967296 = ((a * 4294967296 : Nat) : Int) := by simp
  rw [h3, bits_or_u64_nat _ _ (by omega) (by omega)]
  congr 1
  have := Nat.two_pow_add_eq_or_of_lt (i := 32) (by simpa using hc) a
  rw [Nat.mul_comm a]
  exact this.symm
/-- The low bits of a number. -/
theorem and_mask (t s : Nat) (hs : s < 32) (ht : t < 18446744073709551616) :
    bits .and .u64 (t : Int) (IntKind.u64.wrap (IntKind.u64.wrap (2 ^ s) - 1)) = ((t % 2 ^ s : Nat) : Int) := by
  have h0 := Nat.two_pow_pos s
  have h1 : 2 ^ s ≤ 2147483648 := Nat.pow_le_pow_right (n := 2) (by omega) (show s ≤ 31 by omega)
  have h3 : (2 : Int) ^ s = ((2 ^ s : Nat) : Int) := by simp
  rw [h3, IntWalk.u64_in ((2 ^ s : Nat) : Int) (by omega), IntWalk.u64_in _ (by omega), show ((2 ^ s : Nat) : Int) - 1 = ((2 ^ s - 1 : Nat) : Int) by omega, bits_and_u64_nat _ _ ht (by omega), Nat.and_two_pow_sub_one_eq_mod]
theorem shr_nat (t s : Nat) : (t : Int) / 2 ^ s = ((t / 2 ^ s : Nat) : Int) := by simp
/-- What shiftLeft leaves: a fresh row of one word more. -/
def RetShl (w0 : World) (n : Nat) (x : Nat) (e : Ending) (w' : World) : Prop :=
  e = .returned (.slice (some ⟨w0.heap.size, 0, none⟩) (n + 1) (n + 1)) ∧ ∃ l, Own w' w0.heap.size w0.heap.size (n + 1) l ∧ Wd l ∧ val l = x ∧ Below w0.heap.size w0 w'
set_option maxHeartbeats 1000000 in
/-- shiftLeft: a 2^s in one word more. -/
theorem shiftLeft_sl (va : Value) (la : List Nat) (s : Nat) (w : World) (ha : Sl w va la) (hsz : la.length ≤ 1000000000) (hs : s < 32) :
    Calls Tryz.prog 101 #[va, .int .i64 s] w (RetShl w la.length (val la * 2 ^ s)) := by
  obtain ⟨aoa, capa, rfl, ha1, ha2, ha3, _, ha4⟩ := ha
  have HA := Lib.hid ha4
  have WA := Lib.hid ha3
  clear ha4 ha3
  unfold maxLen at ha2
  obtain ⟨m, hm⟩ : ∃ m : Nat, m = 2 ^ s := ⟨_, rfl⟩
  have HM := Lib.hid hm
  have hm1 : 0 < m := by rw [hm]; exact Nat.two_pow_pos s
  have hm2 : m ≤ 2147483648 := by rw [hm]; exact Nat.pow_le_pow_right (n := 2) (by omega) (show s ≤ 31 by omega)
  clear hm
  go_enter Tryz.func101, Tryz.ntmps101
  go_wp2_with (at_make; refine wpList_make_w _ rfl _ _ rfl _ _ (la.length + 1) rfl rfl ?c1 ?c2 ?c3 ?_)
  case c1 => omega
  case c2 => omega
  case c3 => omega
  intro w1 hown hbel hsz1
  go_wp2
  go_loopw [6, 15] (fun c i wr => ∃ (k cr : Nat) (r : List Nat), k ≤ la.length ∧ cr < m ∧ i = .int .i64 k ∧ c = .int .u64 cr ∧ ScInv la m 0 k cr r ∧ Own wr w.heap.size w.heap.size (la.length + 1) r ∧ Below w.heap.size w wr)
    (fun _ i _ => la.length - (intOf i).toNat)
  case atStart => exact ⟨0, 0, _, by omega, hm1, rfl, rfl, ScInv.start _ _ _ hm1, hown, hbel⟩
  case round =>
    clear hown hbel hsz1
    obtain ⟨k, cr, r, hk, hcr, rfl, rfl, hinv, hown, hbel⟩ := hrel
    by_cases hlt : k < la.length
    · obtain ⟨b, off, rfl, hca⟩ := HA.out k hlt
      have hca := cell_below hca hbel
      have hxa := gd_lt WA.out k
      have hcr1 := hown.cell k (by omega)
      have hfr := hown.free k
      have hor := or_sum (gd la k) s cr hxa hs (by rw [← HM.out]; exact hcr)
      have hmul : gd la k * m ≤ 4294967295 * 2147483648 := Nat.mul_le_mul (by omega) hm2
      obtain ⟨t, ht⟩ : ∃ t : Nat, t = gd la k * m + cr := ⟨_, rfl⟩
      rw [← HM.out, ← ht] at hor
      have HT := Lib.hid ht
      have hor' : bits .or .u64 (IntKind.u64.wrap (((gd la k : Nat) : Int) * 2 ^ s)) (cr : Int) = (t : Int) := hor
      have ht2 : t < 18446744073709551616 := by omega
      clear ht hor hmul
      go_wp2
      go_roundw
      case rel =>
        have hst := hinv.step hlt hxa t HT.out
        exact ⟨k + 1, _, _, by omega, hst.2.2.1, by go_num, by go_num, hst, hown.set k _ (t % 4294967296) (by omega), hbel.setCell (Nat.le_refl _) _⟩
      case measure => simp [intOf]; omega
    · obtain rfl : k = la.length := by omega
      have hcr1 := hown.cell la.length (by omega)
      have hfr := hown.free la.length
      have HD := Lib.hid (hinv.done (by omega))
      go_wp2
      go_ret
      refine ⟨rfl, r.set la.length cr, hown.set la.length _ cr (by omega), HD.out.1, ?_, hbel.setCell (Nat.le_refl _) _⟩
      rw [HD.out.2, HM.out, Nat.add_zero]
/-- Downwards, with divisor d: k words are left, the remainder is c. -/
def DsInv (la : List Nat) (d k c : Nat) (q : List Nat) : Prop :=
  q.length = la.length ∧ Wd q ∧ c < d ∧ d * val q + 4294967296 ^ k * c + val (la.take k) = val la ∧ ∀ j, j < k → gd q j = 0
theorem DsInv.start (la : List Nat) (d : Nat) (h : 0 < d) : DsInv la d la.length 0 (List.replicate la.length 0) :=
  ⟨by simp, Wd_replicate _, h, by rw [val_replicate, List.take_length]; simp, fun j _ => gd_replicate _ j⟩
theorem ds_lt {a d c : Nat} (ha : a < 4294967296) (hc : c < d) : (c * 4294967296 + a) / d < 4294967296 := by
  apply Nat.div_lt_of_lt_mul
  have : (c + 1) * 4294967296 ≤ d * 4294967296 := Nat.mul_le_mul_right _ hc
  omega
theorem DsInv.step {la : List Nat} {d j c : Nat} {q : List Nat} (h : DsInv la d (j + 1) c q) (hj : j < la.length) (ha : gd la j < 4294967296) (t : Nat) (ht : t = c * 4294967296 + gd la j) :
    DsInv la d j (t % d) (q.set j (t / d)) := by
  obtain ⟨h1, h2, h3, h4, h5⟩ := h
  refine ⟨by simpa using h1, Wd_set h2 _ _ (by rw [ht]; exact ds_lt ha h3), Nat.mod_lt _ (by omega), ?_, fun i hi => ?_⟩
  · have hs := val_set q j (t / d) (by omega)
    rw [h5 j (by omega), Nat.mul_zero, Nat.add_zero] at hs
    rw [hs, Nat.mul_add]
    have e : d * (4294967296 ^ j * (t / d)) + 4294967296 ^ j * (t % d) = 4294967296 ^ j * t := by
      have := Nat.div_add_mod t d
      rw [show d * (4294967296 ^ j * (t / d)) = 4294967296 ^ j * (d * (t / d)) by grind, ← Nat.mul_add, this]
    have e3 : 4294967296 ^ j * t = 4294967296 ^ (j + 1) * c + 4294967296 ^ j * gd la j := by rw [ht, Nat.pow_succ]; grind
    have e4 := val_take_gd la j
    omega
  · rw [gd_set_other _ _ _ _ (by omega)]; exact h5 i (by omega)
theorem DsInv.done {la : List Nat} {d c : Nat} {q : List Nat} (h : DsInv la d 0 c q) : Wd q ∧ val q = val la / d ∧ c = val la % d := by
  obtain ⟨h1, h2, h3, h4, h5⟩ := h
  rw [List.take_zero, val_nil, Nat.pow_zero, Nat.one_mul, Nat.add_zero] at h4
  refine ⟨h2, ?_, ?_⟩
  · rw [← h4, Nat.mul_add_div (by omega), Nat.div_eq_of_lt h3, Nat.add_zero]
  · rw [← h4, Nat.mul_add_mod, Nat.mod_eq_of_lt h3]
/-- What a division leaves: quotient and remainder. -/
def RetDs (w0 : World) (q r : Nat) (e : Ending) (w' : World) : Prop := ∃ v, e = .returned (.tuple #[v, .int .u64 r]) ∧ Sl w' v (digs q) ∧ Below w0.heap.size w0 w'
set_option maxHeartbeats 1000000 in
/-- divideSmall. -/
theorem divideSmall_sl (va : Value) (la : List Nat) (d : Nat) (w : World) (ha : Sl w va la) (hsz : la.length ≤ 1000000000) (hd : 0 < d) (hd2 : d < 4294967296) :
    Calls Tryz.prog 89 #[va, .int .u64 d] w (RetDs w (val la / d) (val la % d)) := by
  obtain ⟨aoa, capa, rfl, ha1, ha2, ha3, _, ha4⟩ := ha
  have HA := Lib.hid ha4
  have WA := Lib.hid ha3
  clear ha4 ha3
  unfold maxLen at ha2
  go_enter Tryz.func89, Tryz.ntmps89
  go_wp2_with (at_make; refine wpList_make_w _ rfl _ _ rfl _ _ la.length rfl rfl ?c1 ?c2 ?c3 ?_)
  case c1 => rfl
  case c2 => rfl
  case c3 => omega
  intro w1 hown hbel hsz1
  go_wp2
  go_loopw [7, 8] (fun c i wr => ∃ (k cr : Nat) (z : Int) (q : List Nat), k ≤ la.length ∧ cr < d ∧ z + 1 ≤ k ∧ k ≤ z + 1 ∧ i = .int .i64 z ∧ c = .int .u64 cr ∧ DsInv la d k cr q ∧ Own wr w.heap.size w.heap.size la.length q ∧ Below w.heap.size w wr)
    (fun _ i _ => (intOf i + 1).toNat)
  case atStart => exact ⟨la.length, 0, _, _, Nat.le_refl _, hd, by omega, by omega, rfl, rfl, DsInv.start _ _ hd, hown, hbel⟩
  case round =>
    clear hown hbel hsz1
    obtain ⟨k, cr, z, q, hk, hcr, hz1, hz2, rfl, rfl, hinv, hown, hbel⟩ := hrel
    by_cases hk0 : k = 0
    · subst hk0
      have hz : z < 0 := by omega
      have HD := Lib.hid hinv.done
      go_wp2_with fail
      refine (trim_sl _ q _ (hown.sl HD.out.1)).mono ?_
      rintro e w' ⟨rfl, v', rfl, hsl⟩
      have hsl := hsl _ (hown.sl HD.out.1)
      rw [HD.out.2.1] at hsl
      go_wp2
      go_ret2
      exact ⟨v', by rw [← HD.out.2.2]; rfl, hsl, hbel⟩
    · obtain ⟨j, rfl⟩ : ∃ j, k = j + 1 := ⟨k - 1, by omega⟩
      obtain rfl : z = (j : Int) := by omega
      clear hk0
      obtain ⟨b, off, rfl, hca⟩ := HA.out j (by omega)
      have hca := cell_below hca hbel
      have hxa := gd_lt WA.out j
      have hcr1 := hown.cell j (by omega)
      have hfr := hown.free j
      have hor := or_sum32 cr (gd la j) (by omega) hxa
      obtain ⟨t, ht⟩ : ∃ t : Nat, t = cr * 4294967296 + gd la j := ⟨_, rfl⟩
      have hst := hinv.step (by omega) hxa t ht
      have htd : t / d < 4294967296 := by rw [ht]; exact ds_lt hxa hcr
      have htd0 : (0 : Int) ≤ (t : Int) / (d : Int) := Int.ediv_nonneg (by omega) (by omega)
      rw [← ht] at hor
      have ht2 : t < 18446744073709551616 := by omega
      have hne : ¬ (d : Int) = 0 := by omega
      clear ht hinv
      go_wp2
      go_roundw
      case rel => exact ⟨j, t % d, _, _, by omega, hst.2.2.1, by omega, by omega, rfl, by go_num, hst, hown.set j _ (t / d) (by omega), hbel.setCell (Nat.le_refl _) _⟩
      case measure => simp [intOf]
set_option maxHeartbeats 1000000 in
/-- shiftRight: a divided by 2^s. -/
theorem shiftRight_sl (va : Value) (la : List Nat) (s : Nat) (w : World) (ha : Sl w va la) (hsz : la.length ≤ 1000000000) (hs : s < 32) :
    Calls Tryz.prog 103 #[va, .int .i64 s] w (Ret w (digs (val la / 2 ^ s))) := by
  obtain ⟨aoa, capa, rfl, ha1, ha2, ha3, _, ha4⟩ := ha
  have HA := Lib.hid ha4
  have WA := Lib.hid ha3
  clear ha4 ha3
  unfold maxLen at ha2
  obtain ⟨d, hd⟩ : ∃ d : Nat, d = 2 ^ s := ⟨_, rfl⟩
  have HM := Lib.hid hd
  have hd1 : 0 < d := by rw [hd]; exact Nat.two_pow_pos s
  have hd2 : d ≤ 2147483648 := by rw [hd]; exact Nat.pow_le_pow_right (n := 2) (by omega) (show s ≤ 31 by omega)
  clear hd
  go_enter Tryz.func103, Tryz.ntmps103
  go_wp2_with (at_make; refine wpList_make_w _ rfl _ _ rfl _ _ la.length rfl rfl ?c1 ?c2 ?c3 ?_)
  case c1 => rfl
  case c2 => rfl
  case c3 => omega
  intro w1 hown hbel hsz1
  go_wp2
  go_loopw [6, 7] (fun c i wr => ∃ (k cr : Nat) (z : Int) (q : List Nat), k ≤ la.length ∧ cr < d ∧ z + 1 ≤ k ∧ k ≤ z + 1 ∧ i = .int .i64 z ∧ c = .int .u64 cr ∧ DsInv la d k cr q ∧ Own wr w.heap.size w.heap.size la.length q ∧ Below w.heap.size w wr)
    (fun _ i _ => (intOf i + 1).toNat)
  case atStart => exact ⟨la.length, 0, _, _, Nat.le_refl _, hd1, by omega, by omega, rfl, rfl, DsInv.start _ _ hd1, hown, hbel⟩
  case round =>
    clear hown hbel hsz1
    obtain ⟨k, cr, z, q, hk, hcr, hz1, hz2, rfl, rfl, hinv, hown, hbel⟩ := hrel
    by_cases hk0 : k = 0
    · subst hk0
      have hz : z < 0 := by omega
      have HD := Lib.hid hinv.done
      go_wp2_with fail
      refine (trim_sl _ q _ (hown.sl HD.out.1)).mono ?_
      rintro e w' ⟨rfl, v', rfl, hsl⟩
      have hsl := hsl _ (hown.sl HD.out.1)
      rw [HD.out.2.1, HM.out] at hsl
      go_wp2
      go_ret
      exact ⟨v', rfl, hsl, hbel⟩
    · obtain ⟨j, rfl⟩ : ∃ j, k = j + 1 := ⟨k - 1, by omega⟩
      obtain rfl : z = (j : Int) := by omega
      clear hk0
      obtain ⟨b, off, rfl, hca⟩ := HA.out j (by omega)
      have hca := cell_below hca hbel
      have hxa := gd_lt WA.out j
      have hcr1 := hown.cell j (by omega)
      have hfr := hown.free j
      have hor := or_sum32 cr (gd la j) (by omega) hxa
      obtain ⟨t, ht⟩ : ∃ t : Nat, t = cr * 4294967296 + gd la j := ⟨_, rfl⟩
      have hst := hinv.step (by omega) hxa t ht
      have htd : t / d < 4294967296 := by rw [ht]; exact ds_lt hxa hcr
      have htd0 : (0 : Int) ≤ (t : Int) / (d : Int) := Int.ediv_nonneg (by omega) (by omega)
      rw [← ht] at hor
      have ht2 : t < 18446744073709551616 := by omega
      clear ht hinv
      go_wp2
      go_roundw
      case rel =>
        refine ⟨j, t % d, _, _, by omega, hst.2.2.1, by omega, by omega, rfl, ?_, hst, hown.set j _ (t / d) ?_, hbel.setCell (Nat.le_refl _) _⟩
        · rw [and_mask t s hs ht2, HM.out]
        · rw [shr_nat, ← HM.out]; omega
      case measure => simp [intOf]
end Go.Proofs.YtndpjfhhigpbhaaGreat
