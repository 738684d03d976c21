/- Helping facts of Lin; no other conditions. -/
import Derived.Test.YtmppigbbkjepiaaGreatDoorProd
set_option maxHeartbeats 1000000
namespace Go.Proofs.YtmppigbbkjepiaaGreatDoor
open Go.Proofs.Tryz
open Go.RowKit W
def ScInv (la : List Nat) (m c0 k c : Nat) (r : List Nat) : Prop :=
  r.length = la.length + 1 ∧ Wd r ∧ c < m ∧ val r + 4294967296 ^ k * c = val (la.take k) * m + c0 ∧ ∀ j, k ≤ j → gd r j = 0
theorem ScInv.start (la : List Nat) (m c0 : Nat) (h : c0 < m) : ScInv la m c0 0 c0 (List.replicate (la.length + 1) 0) :=
  ⟨by simp, MN _, h, by rw [KX]; simp [val], fun j _ => OH _ j⟩
theorem sc_lt {a m c : Nat} (ha : a < 4294967296) (hc : c < m) : (a * m + c) / 4294967296 < m := by
  apply Nat.div_lt_of_lt_mul
  have : a * m ≤ 4294967295 * m := Nat.mul_le_mul_right _ AA
  omega
theorem ScInv.step {la : List Nat} {m c0 k c : Nat} {r : List Nat} (h : ScInv la m c0 k c r) (hk : k < la.length) (ha : gd la k < 4294967296) (t : Nat) (ht : t = gd la k * m + c) :
    ScInv la m c0 (k + 1) (t / 4294967296) (r.set k (t % 4294967296)) := by
  obtain ⟨q, p, o, v, f⟩ := h
  refine ⟨by simpa using q, RZ p _ _ AA, by rw [ht]; exact sc_lt ha o, ?_, fun j u => ?_⟩
  · have l := YI r k (t % 4294967296) AA
    rw [f k (Nat.le_refl _), Nat.mul_zero, Nat.add_zero] at l
    have e : 4294967296 ^ k * (t % 4294967296) + 4294967296 ^ (k + 1) * (t / 4294967296) = 4294967296 ^ k * t := by
      rw [Nat.pow_succ, Nat.mul_assoc, ← Nat.mul_add, Nat.mod_add_div]
    rw [DG, Nat.add_mul]
    have e3 : 4294967296 ^ k * t = 4294967296 ^ k * gd la k * m + 4294967296 ^ k * c := by rw [ht]; grind
    omega
  · rw [FN _ _ _ _ AA]; exact f j AA
theorem ScInv.done {la : List Nat} {m c0 c : Nat} {r : List Nat} (h : ScInv la m c0 la.length c r) (hm : m ≤ 4294967296) :
    Wd (r.set la.length c) ∧ val (r.set la.length c) = val la * m + c0 := by
  obtain ⟨p, l, o, k, f⟩ := h
  refine ⟨RZ l _ _ AA, ?_⟩
  have e := YI r la.length c AA
  rw [f _ (Nat.le_refl _), Nat.mul_zero, Nat.add_zero] at e
  rw [e, k, DL la _ (Nat.le_refl _)]
theorem Pt {a m c : Nat} (ha : a < 4294967296) (hm : m < 4294967296) (hc : c < m) :
    IntKind.u64.wrap ((a : Int) * (m : Int)) = (a : Int) * m ∧ IntKind.u64.wrap ((a : Int) * (m : Int) + (c : Int)) = (a : Int) * m + c ∧
      ∃ t : Nat, t = a * m + c ∧ (a : Int) * m + c = (t : Int) ∧ t < 18446744073709551616 := by
  have h : a * m ≤ 4294967295 * 4294967295 := Nat.mul_le_mul AA AA
  have e : (a : Int) * m = ((a * m : Nat) : Int) := by simp
  rw [e]
  exact ⟨IntWalk.u64_in _ AA, IntWalk.u64_in _ AA, _, rfl, by omega, by omega⟩
theorem YQ (va : Value) (la : List Nat) (m c0 : Nat) (w : World) (ha : Sl w va la) (hsz : la.length ≤ 1000000000) (hm : m < 4294967296) (hc0 : c0 < m) :
    Calls prog 174 #[va, .int .u64 m, .int .u64 c0] w (Ae w (CC (val la * m + c0))) := by
  obtain ⟨aoa, capa, rfl, ha1, ha2, ha3, _, ha4⟩ := ha
  have HA := Lib.hid ha4
  have WA := Lib.hid ha3
  clear ha4 ha3
  unfold maxLen at ha2
  go_enter func174, ntmps174
  go_wp2_with (at_make; refine EZ _ rfl _ _ rfl _ _ (la.length + 1) rfl rfl ?c1 ?c2 ?c3 ?_)
  case c1 => omega
  case c2 => omega
  case c3 => omega
  intro w1 hown hbel hsz1
  go_wp2
  go_loopw [2, 16] (fun c i wr => ∃ (k cr : Nat) (r : List Nat), k ≤ la.length ∧ cr < m ∧ i = .int .i64 k ∧ c = .int .u64 cr ∧ ScInv la m c0 k cr r ∧ Own wr w.heap.size w.heap.size (la.length + 1) r ∧ Below w.heap.size w wr)
    (fun _ i _ => la.length - (intOf i).toNat)
  case atStart => exact ⟨0, c0, _, by omega, hc0, rfl, rfl, ScInv.start _ _ _ hc0, hown, hbel⟩
  case round =>
    clear hown hbel hsz1 hc0
    obtain ⟨k, cr, r, hk, hcr, rfl, rfl, hinv, hown, hbel⟩ := hrel
    by_cases hlt : k < la.length
    · obtain ⟨b, off, rfl, hca⟩ := HA.out k hlt
      have hca := CX hca hbel
      have hxa := ES WA.out k
      have hcr1 := hown.cell k AA
      have hfr := hown.free k
      obtain ⟨s1, s2, t, ht, s3, ht2⟩ := Pt hxa hm hcr
      have HT := Lib.hid ht
      clear ht
      go_wp2
      go_roundw
      case rel =>
        have hst := hinv.step hlt hxa t HT.out
        exact ⟨k + 1, _, _, by omega, hst.2.2.1, by go_num, by go_num, hst, hown.set k _ (t % 4294967296) AA, hbel.setCell (Nat.le_refl _) _⟩
      case measure => simp [intOf]; omega
    · obtain rfl : k = la.length := by omega
      have hcr1 := hown.cell la.length AA
      have hfr := hown.free la.length
      have HD := Lib.hid (hinv.done AA)
      go_wp2_with fail
      refine (NC _ (r.set la.length cr) _ ((hown.set la.length _ _ AA).sl HD.out.1)).mono ?_
      rintro e w' ⟨rfl, v', rfl, hsl⟩
      have hsl := hsl _ ((hown.set la.length (cr : Int) cr rfl).sl HD.out.1)
      rw [HD.out.2] at hsl
      have hbel2 := hbel.setCell (p := ⟨w.heap.size, la.length, none⟩) (Nat.le_refl _) (Value.int .u32 cr)
      go_wp2
      go_ret
      exact ⟨v', rfl, hsl, hbel2⟩
theorem Wc (a s c : Nat) (ha : a < 4294967296) (hs : s < 32) (hc : c < 2 ^ s) :
    bits .or .u64 (IntKind.u64.wrap ((a : Int) * 2 ^ s)) (c : Int) = ((a * 2 ^ s + c : Nat) : Int) := by
  have f : 2 ^ s ≤ 2147483648 := Nat.pow_le_pow_right (n := 2) AA (show s ≤ 31 by omega)
  have h : a * 2 ^ s ≤ 4294967295 * 2147483648 := Nat.mul_le_mul AA f
  have e : (a : Int) * 2 ^ s = ((a * 2 ^ s : Nat) : Int) := by simp
  rw [e, IntWalk.u64_in _ AA, bits_or_u64_nat _ _ AA AA]
  congr 1
  rw [Nat.mul_comm a, Nat.two_pow_add_eq_or_of_lt hc a]
theorem bY (a c : Nat) (ha : a < 4294967296) (hc : c < 4294967296) :
    bits .or .u64 ((a : Int) * 4294967296) (c : Int) = ((a * 4294967296 + c : Nat) : Int) := by
  have e : (a : Int) * 4294967296 = ((a * 4294967296 : Nat) : Int) := by simp
  rw [e, bits_or_u64_nat _ _ AA AA]
  congr 1
  have := Nat.two_pow_add_eq_or_of_lt (i := 32) (by simpa using hc) a
  rw [Nat.mul_comm a]
  exact this.symm
theorem Oe (t s : Nat) (hs : s < 32) (ht : t < 18446744073709551616) :
    bits .and .u64 (t : Int) (IntKind.u64.wrap (IntKind.u64.wrap (2 ^ s) - 1)) = ((t % 2 ^ s : Nat) : Int) := by
  have h := Nat.two_pow_pos s
  have f : 2 ^ s ≤ 2147483648 := Nat.pow_le_pow_right (n := 2) AA (show s ≤ 31 by omega)
  have e : (2 : Int) ^ s = ((2 ^ s : Nat) : Int) := by simp
  rw [e, IntWalk.u64_in ((2 ^ s : Nat) : Int) AA, IntWalk.u64_in _ AA, show ((2 ^ s : Nat) : Int) - 1 = ((2 ^ s - 1 : Nat) : Int) by omega, bits_and_u64_nat _ _ ht AA, Nat.and_two_pow_sub_one_eq_mod]
theorem Pp (t s : Nat) : (t : Int) / 2 ^ s = ((t / 2 ^ s : Nat) : Int) := by simp
def Xk (w0 : World) (n : Nat) (x : Nat) (e : Ending) (w' : World) : Prop :=
  e = .returned (.slice (some ⟨w0.heap.size, 0, none⟩) (n + 1) (n + 1)) ∧ ∃ l, Own w' w0.heap.size w0.heap.size (n + 1) l ∧ Wd l ∧ val l = x ∧ Below w0.heap.size w0 w'
theorem bK (va : Value) (la : List Nat) (s : Nat) (w : World) (ha : Sl w va la) (hsz : la.length ≤ 1000000000) (hs : s < 32) :
    Calls prog 191 #[va, .int .i64 s] w (Xk w la.length (val la * 2 ^ s)) := by
  obtain ⟨aoa, capa, rfl, ha1, ha2, ha3, _, ha4⟩ := ha
  have HA := Lib.hid ha4
  have WA := Lib.hid ha3
  clear ha4 ha3
  unfold maxLen at ha2
  obtain ⟨m, hm⟩ : ∃ m : Nat, m = 2 ^ s := ⟨_, rfl⟩
  have HM := Lib.hid hm
  have hm1 : 0 < m := by rw [hm]; exact Nat.two_pow_pos s
  have hm2 : m ≤ 2147483648 := by rw [hm]; exact Nat.pow_le_pow_right (n := 2) AA (show s ≤ 31 by omega)
  clear hm
  go_enter func191, ntmps191
  go_wp2_with (at_make; refine EZ _ rfl _ _ rfl _ _ (la.length + 1) rfl rfl ?c1 ?c2 ?c3 ?_)
  case c1 => omega
  case c2 => omega
  case c3 => omega
  intro w1 hown hbel hsz1
  go_wp2
  go_loopw [6, 15] (fun c i wr => ∃ (k cr : Nat) (r : List Nat), k ≤ la.length ∧ cr < m ∧ i = .int .i64 k ∧ c = .int .u64 cr ∧ ScInv la m 0 k cr r ∧ Own wr w.heap.size w.heap.size (la.length + 1) r ∧ Below w.heap.size w wr)
    (fun _ i _ => la.length - (intOf i).toNat)
  case atStart => exact ⟨0, 0, _, by omega, hm1, rfl, rfl, ScInv.start _ _ _ hm1, hown, hbel⟩
  case round =>
    clear hown hbel hsz1
    obtain ⟨k, cr, r, hk, hcr, rfl, rfl, hinv, hown, hbel⟩ := hrel
    by_cases hlt : k < la.length
    · obtain ⟨b, off, rfl, hca⟩ := HA.out k hlt
      have hca := CX hca hbel
      have hxa := ES WA.out k
      have hcr1 := hown.cell k AA
      have hfr := hown.free k
      have hor := Wc (gd la k) s cr hxa hs (by rw [← HM.out]; exact hcr)
      have hmul : gd la k * m ≤ 4294967295 * 2147483648 := Nat.mul_le_mul AA hm2
      obtain ⟨t, ht⟩ : ∃ t : Nat, t = gd la k * m + cr := ⟨_, rfl⟩
      rw [← HM.out, ← ht] at hor
      have HT := Lib.hid ht
      have hor' : bits .or .u64 (IntKind.u64.wrap (((gd la k : Nat) : Int) * 2 ^ s)) (cr : Int) = (t : Int) := hor
      have ht2 : t < 18446744073709551616 := by omega
      clear ht hor hmul
      go_wp2
      go_roundw
      case rel =>
        have hst := hinv.step hlt hxa t HT.out
        exact ⟨k + 1, _, _, by omega, hst.2.2.1, by go_num, by go_num, hst, hown.set k _ (t % 4294967296) AA, hbel.setCell (Nat.le_refl _) _⟩
      case measure => simp [intOf]; omega
    · obtain rfl : k = la.length := by omega
      have hcr1 := hown.cell la.length AA
      have hfr := hown.free la.length
      have HD := Lib.hid (hinv.done AA)
      go_wp2
      go_ret
      refine ⟨O, r.set la.length cr, hown.set la.length _ cr AA, HD.out.1, ?_, hbel.setCell (Nat.le_refl _) _⟩
      rw [HD.out.2, HM.out, Nat.add_zero]
def DsInv (la : List Nat) (d k c : Nat) (q : List Nat) : Prop :=
  q.length = la.length ∧ Wd q ∧ c < d ∧ d * val q + 4294967296 ^ k * c + val (la.take k) = val la ∧ ∀ j, j < k → gd q j = 0
theorem DsInv.start (la : List Nat) (d : Nat) (h : 0 < d) : DsInv la d la.length 0 (List.replicate la.length 0) :=
  ⟨by simp, MN _, h, by rw [KX, List.take_length]; simp, fun j _ => OH _ j⟩
theorem Cw {a d c : Nat} (ha : a < 4294967296) (hc : c < d) : (c * 4294967296 + a) / d < 4294967296 := by
  apply Nat.div_lt_of_lt_mul
  have : (c + 1) * 4294967296 ≤ d * 4294967296 := Nat.mul_le_mul_right _ hc
  omega
theorem DsInv.step {la : List Nat} {d j c : Nat} {q : List Nat} (h : DsInv la d (j + 1) c q) (hj : j < la.length) (ha : gd la j < 4294967296) (t : Nat) (ht : t = c * 4294967296 + gd la j) :
    DsInv la d j (t % d) (q.set j (t / d)) := by
  obtain ⟨p, o, l, v, k⟩ := h
  refine ⟨by simpa using p, RZ o _ _ (by rw [ht]; exact Cw ha l), Nat.mod_lt _ AA, ?_, fun i u => ?_⟩
  · have f := YI q j (t / d) AA
    rw [k j AA, Nat.mul_zero, Nat.add_zero] at f
    rw [f, Nat.mul_add]
    have e : d * (4294967296 ^ j * (t / d)) + 4294967296 ^ j * (t % d) = 4294967296 ^ j * t := by
      have := Nat.div_add_mod t d
      rw [show d * (4294967296 ^ j * (t / d)) = 4294967296 ^ j * (d * (t / d)) by grind, ← Nat.mul_add, this]
    have e3 : 4294967296 ^ j * t = 4294967296 ^ (j + 1) * c + 4294967296 ^ j * gd la j := by rw [ht, Nat.pow_succ]; grind
    have e4 := DG la j
    omega
  · rw [FN _ _ _ _ AA]; exact k i AA
theorem DsInv.done {la : List Nat} {d c : Nat} {q : List Nat} (h : DsInv la d 0 c q) : Wd q ∧ val q = val la / d ∧ c = val la % d := by
  obtain ⟨o, k, f, e, l⟩ := h
  rw [List.take_zero, bA, Nat.pow_zero, Nat.one_mul, Nat.add_zero] at e
  refine ⟨k, ?_, ?_⟩
  · rw [← e, Nat.mul_add_div AA, Nat.div_eq_of_lt f, Nat.add_zero]
  · rw [← e, Nat.mul_add_mod, Nat.mod_eq_of_lt f]
def Dz (w0 : World) (q r : Nat) (e : Ending) (w' : World) : Prop := ∃ v, e = .returned (.tuple #[v, .int .u64 r]) ∧ Sl w' v (CC q) ∧ Below w0.heap.size w0 w'
theorem XR (va : Value) (la : List Nat) (d : Nat) (w : World) (ha : Sl w va la) (hsz : la.length ≤ 1000000000) (hd : 0 < d) (hd2 : d < 4294967296) :
    Calls prog 189 #[va, .int .u64 d] w (Dz w (val la / d) (val la % d)) := by
  obtain ⟨aoa, capa, rfl, ha1, ha2, ha3, _, ha4⟩ := ha
  have HA := Lib.hid ha4
  have WA := Lib.hid ha3
  clear ha4 ha3
  unfold maxLen at ha2
  go_enter func189, ntmps189
  go_wp2_with (at_make; refine EZ _ rfl _ _ rfl _ _ la.length rfl rfl ?c1 ?c2 ?c3 ?_)
  case c1 => rfl
  case c2 => rfl
  case c3 => omega
  intro w1 hown hbel hsz1
  go_wp2
  go_loopw [7, 8] (fun c i wr => ∃ (k cr : Nat) (z : Int) (q : List Nat), k ≤ la.length ∧ cr < d ∧ z + 1 ≤ k ∧ k ≤ z + 1 ∧ i = .int .i64 z ∧ c = .int .u64 cr ∧ DsInv la d k cr q ∧ Own wr w.heap.size w.heap.size la.length q ∧ Below w.heap.size w wr)
    (fun _ i _ => (intOf i + 1).toNat)
  case atStart => exact ⟨la.length, 0, _, _, Nat.le_refl _, hd, by omega, by omega, rfl, rfl, DsInv.start _ _ hd, hown, hbel⟩
  case round =>
    clear hown hbel hsz1
    obtain ⟨k, cr, z, q, hk, hcr, hz1, hz2, rfl, rfl, hinv, hown, hbel⟩ := hrel
    by_cases hk0 : k = 0
    · subst hk0
      have hz : z < 0 := by omega
      have HD := Lib.hid hinv.done
      go_wp2_with fail
      refine (NC _ q _ (hown.sl HD.out.1)).mono ?_
      rintro e w' ⟨rfl, v', rfl, hsl⟩
      have hsl := hsl _ (hown.sl HD.out.1)
      rw [HD.out.2.1] at hsl
      go_wp2
      go_ret2
      exact ⟨v', by rw [← HD.out.2.2]; rfl, hsl, hbel⟩
    · obtain ⟨j, rfl⟩ : ∃ j, k = j + 1 := ⟨k - 1, by omega⟩
      obtain rfl : z = (j : Int) := by omega
      clear hk0
      obtain ⟨b, off, rfl, hca⟩ := HA.out j AA
      have hca := CX hca hbel
      have hxa := ES WA.out j
      have hcr1 := hown.cell j AA
      have hfr := hown.free j
      have hor := bY cr (gd la j) AA hxa
      obtain ⟨t, ht⟩ : ∃ t : Nat, t = cr * 4294967296 + gd la j := ⟨_, rfl⟩
      have hst := hinv.step AA hxa t ht
      have htd : t / d < 4294967296 := by rw [ht]; exact Cw hxa hcr
      have htd0 : (0 : Int) ≤ (t : Int) / (d : Int) := Int.ediv_nonneg AA AA
      rw [← ht] at hor
      have ht2 : t < 18446744073709551616 := by omega
      have hne : ¬ (d : Int) = 0 := by omega
      clear ht hinv
      go_wp2
      go_roundw
      case rel => exact ⟨j, t % d, _, _, by omega, hst.2.2.1, by omega, by omega, rfl, by go_num, hst, hown.set j _ (t / d) AA, hbel.setCell (Nat.le_refl _) _⟩
      case measure => simp [intOf]
theorem mF (va : Value) (la : List Nat) (s : Nat) (w : World) (ha : Sl w va la) (hsz : la.length ≤ 1000000000) (hs : s < 32) :
    Calls prog 193 #[va, .int .i64 s] w (Ae w (CC (val la / 2 ^ s))) := by
  obtain ⟨aoa, capa, rfl, ha1, ha2, ha3, _, ha4⟩ := ha
  have HA := Lib.hid ha4
  have WA := Lib.hid ha3
  clear ha4 ha3
  unfold maxLen at ha2
  obtain ⟨d, hd⟩ : ∃ d : Nat, d = 2 ^ s := ⟨_, rfl⟩
  have HM := Lib.hid hd
  have hd1 : 0 < d := by rw [hd]; exact Nat.two_pow_pos s
  have hd2 : d ≤ 2147483648 := by rw [hd]; exact Nat.pow_le_pow_right (n := 2) AA (show s ≤ 31 by omega)
  clear hd
  go_enter func193, ntmps193
  go_wp2_with (at_make; refine EZ _ rfl _ _ rfl _ _ la.length rfl rfl ?c1 ?c2 ?c3 ?_)
  case c1 => rfl
  case c2 => rfl
  case c3 => omega
  intro w1 hown hbel hsz1
  go_wp2
  go_loopw [6, 7] (fun c i wr => ∃ (k cr : Nat) (z : Int) (q : List Nat), k ≤ la.length ∧ cr < d ∧ z + 1 ≤ k ∧ k ≤ z + 1 ∧ i = .int .i64 z ∧ c = .int .u64 cr ∧ DsInv la d k cr q ∧ Own wr w.heap.size w.heap.size la.length q ∧ Below w.heap.size w wr)
    (fun _ i _ => (intOf i + 1).toNat)
  case atStart => exact ⟨la.length, 0, _, _, Nat.le_refl _, hd1, by omega, by omega, rfl, rfl, DsInv.start _ _ hd1, hown, hbel⟩
  case round =>
    clear hown hbel hsz1
    obtain ⟨k, cr, z, q, hk, hcr, hz1, hz2, rfl, rfl, hinv, hown, hbel⟩ := hrel
    by_cases hk0 : k = 0
    · subst hk0
      have hz : z < 0 := by omega
      have HD := Lib.hid hinv.done
      go_wp2_with fail
      refine (NC _ q _ (hown.sl HD.out.1)).mono ?_
      rintro e w' ⟨rfl, v', rfl, hsl⟩
      have hsl := hsl _ (hown.sl HD.out.1)
      rw [HD.out.2.1, HM.out] at hsl
      go_wp2
      go_ret
      exact ⟨v', rfl, hsl, hbel⟩
    · obtain ⟨j, rfl⟩ : ∃ j, k = j + 1 := ⟨k - 1, by omega⟩
      obtain rfl : z = (j : Int) := by omega
      clear hk0
      obtain ⟨b, off, rfl, hca⟩ := HA.out j AA
      have hca := CX hca hbel
      have hxa := ES WA.out j
      have hcr1 := hown.cell j AA
      have hfr := hown.free j
      have hor := bY cr (gd la j) AA hxa
      obtain ⟨t, ht⟩ : ∃ t : Nat, t = cr * 4294967296 + gd la j := ⟨_, rfl⟩
      have hst := hinv.step AA hxa t ht
      have htd : t / d < 4294967296 := by rw [ht]; exact Cw hxa hcr
      have htd0 : (0 : Int) ≤ (t : Int) / (d : Int) := Int.ediv_nonneg AA AA
      rw [← ht] at hor
      have ht2 : t < 18446744073709551616 := by omega
      clear ht hinv
      go_wp2
      go_roundw
      case rel =>
        refine ⟨j, t % d, _, _, by omega, hst.2.2.1, by omega, by omega, O, ?_, hst, hown.set j _ (t / d) ?_, hbel.setCell (Nat.le_refl _) _⟩
        · rw [Oe t s hs ht2, HM.out]
        · rw [Pp, ← HM.out]; omega
      case measure => simp [intOf]
end Go.Proofs.YtmppigbbkjepiaaGreatDoor
