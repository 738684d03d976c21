/- Helping facts of Lin; no other conditions. Helping facts of Qw; no other conditions. -/
import Derived.Test.YtmppigbbkjepiaaGreatDoorKnuth
import Derived.BigQuiet
import Derived.Deep.QuietTactic
import Derived.Deep.CutBlock
import Derived.Deep.DeepCutAuto
set_option maxHeartbeats 1000000
namespace Go.Proofs.YtmppigbbkjepiaaGreatDoor
open Go.Proofs.Tryz
open Go.RowKit W
variable {a b base c c0 d g g' m n q u : Nat} {l la r : List Nat} {p : Prop} {row : Option Nat} {w w' w1 wr : World}
theorem ZyS (h : p := by
 clear G' G btop hXb hv10
 go_upto_region 7 with fail
 by_cases hr2 : 4294967296 <= r + v1
 . have hr3 : decide ((4294967296 : Int) <= (r : Int) + (v1 : Int)) = true := by simp; omega
   go_upto_if 81 with fail
   go_wp2_with fail
   go_meet
   have hlow' := hlow
   rw [HTOP.out] at hlow'
   have hgr := T.out.grown hlow' hr2
   exact ⟨q - 1, by go_num, hgr.1, hlow.2, T.out.good hlow' hgr.1 hgr.2, _, rfl⟩
 . have hr3 : decide ((4294967296 : Int) <= (r : Int) + (v1 : Int)) = false := by simp; omega
   go_upto_if 81 with fail
   go_wp2_with fail
   go_roundw
   case rel => exact ⟨q - 1, r + v1, by go_num, by go_num, by omega, hlow, _, rfl⟩
   case measure => simp [intOf]; omega
 ) : p := h
theorem ZEz (h : p := by
 go_wp2
 go_roundw
 case rel =>
  have hst := hinv.step hlt hxa t HT.out
  exact ⟨k + 1, _, _, by omega, hst.2.2.1, by go_num, by go_num, hst, hown.set k _ (t % 4294967296) AA, hbel.setCell (Nat.le_refl _) _⟩
 case measure => simp [intOf]; omega
 ) : p := h
theorem ZEP (h : p := by
 rw [e]
 exact ⟨IntWalk.u64_in _ AA, IntWalk.u64_in _ AA, _, rfl, by omega, by omega⟩
 ) : p := h
def ScInv (la : List Nat) (m c0 k c : Nat) (r : List Nat) : Prop :=
 r.length = la.length + 1 /\ Wd r /\ c < m /\ val r + 4294967296 ^ k * c = val (la.take k) * m + c0 /\ ∀ j, k <= j -> gd r j = 0
theorem ScInv.start (la : List Nat) (m c0 : Nat) (h : c0 < m) : ScInv la m c0 0 c0 (List.replicate (la.length + 1) 0) :=
 ⟨by simp, OD _, h, by rw [MH]; simp [val], fun j _ => PV _ j⟩
theorem sc_lt (ha : a < 4294967296) (hc : c < m) : (a * m + c) / 4294967296 < m := by
 apply Nat.div_lt_of_lt_mul
 have : a * m <= 4294967295 * m := Nat.mul_le_mul_right _ AA
 omega
theorem ScInv.step {k : Nat} (h : ScInv la m c0 k c r) (hk : k < la.length) (ha : gd la k < 4294967296) (t : Nat) (ht : t = gd la k * m + c) :
 ScInv la m c0 (k + 1) (t / 4294967296) (r.set k (t % 4294967296)) := by
 obtain ⟨q, p, o, v, f⟩ := h
 refine ⟨by simpa using q, VF p _ _ AA, by rw [ht]; exact sc_lt ha o, ?_, fun j u => ?_⟩
 . have l := bH r k (t % 4294967296) AA
   rw [f k (Nat.le_refl _), Nat.mul_zero, Nat.add_zero] at l
   have e : 4294967296 ^ k * (t % 4294967296) + 4294967296 ^ (k + 1) * (t / 4294967296) = 4294967296 ^ k * t := by
    rw [Nat.pow_succ, Nat.mul_assoc, <- Nat.mul_add, Nat.mod_add_div]
   rw [DQ, Nat.add_mul]
   have e3 : 4294967296 ^ k * t = 4294967296 ^ k * gd la k * m + 4294967296 ^ k * c := by rw [ht]; grind
   omega
 rw [GL _ _ _ _ AA]; exact f j AA
theorem ScInv.done (h : ScInv la m c0 la.length c r) (hm : m <= 4294967296) :
 Wd (r.set la.length c) /\ val (r.set la.length c) = val la * m + c0 := by
 obtain ⟨p, l, o, k, f⟩ := h
 refine ⟨VF l _ _ AA, ?_⟩
 have e := bH r la.length c AA
 rw [f _ (Nat.le_refl _), Nat.mul_zero, Nat.add_zero] at e
 rw [e, k, DX la _ (Nat.le_refl _)]
theorem Tq (ha : a < 4294967296) (hm : m < 4294967296) (hc : c < m) :
 IntKind.u64.wrap ((a : Int) * (m : Int)) = (a : Int) * m /\ IntKind.u64.wrap ((a : Int) * (m : Int) + (c : Int)) = (a : Int) * m + c /\
  ∃ t : Nat, t = a * m + c /\ (a : Int) * m + c = (t : Int) /\ t < 18446744073709551616 := by
 have h : a * m <= 4294967295 * 4294967295 := Nat.mul_le_mul AA AA
 have e : (a : Int) * m = ((a * m : Nat) : Int) := by simp
 exact ZEP
theorem bO (va : Value) (la : List Nat) (m c0 : Nat) (w : World) (ha : Sl w va la) (hsz : la.length <= 1000000000) (hm : m < 4294967296) (hc0 : c0 < m) :
 Calls prog 174 #[va, .int .u64 m, .int .u64 c0] w (Dv w (CD (val la * m + c0))) := by
 obtain ⟨aoa, capa, rfl, ha1, ha2, ha3, _, ha4⟩ := ha
 have HA := Lib.hid ha4
 have WA := Lib.hid ha3
 clear ha4 ha3
 unfold maxLen at ha2
 go_enter func174, ntmps174
 go_wp2_with (at_make; refine FU _ rfl _ _ rfl _ _ (la.length + 1) rfl rfl ?c1 ?c2 ?c3 ?_)
 case c1 => omega
 case c2 => omega
 case c3 => omega
 intro w1 hown hbel hsz1
 go_wp2
 go_loopw [2, 16] (fun c i wr => ∃ (k cr : Nat) (r : List Nat), k <= la.length /\ cr < m /\ i = .int .i64 k /\ c = .int .u64 cr /\ ScInv la m c0 k cr r /\ Own wr w.heap.size w.heap.size (la.length + 1) r /\ Below w.heap.size w wr)
  (fun _ i _ => la.length - (intOf i).toNat)
 case atStart => exact ⟨0, c0, _, by omega, hc0, rfl, rfl, ScInv.start _ _ _ hc0, hown, hbel⟩
 case round =>
  clear hown hbel hsz1 hc0
  obtain ⟨k, cr, r, hk, hcr, rfl, rfl, hinv, hown, hbel⟩ := hrel
  by_cases hlt : k < la.length
  . obtain ⟨b, off, rfl, hca⟩ := HA.out k hlt
    have hca := DB hca hbel
    have hxa := FL WA.out k
    have hcr1 := hown.cell k AA
    have hfr := hown.free k
    obtain ⟨s1, s2, t, ht, s3, ht2⟩ := Tq hxa hm hcr
    have HT := Lib.hid ht
    clear ht
    exact ZEz
  obtain rfl : k = la.length := by omega
  have hcr1 := hown.cell la.length AA
  have hfr := hown.free la.length
  have HD := Lib.hid (hinv.done AA)
  go_wp2_with fail
  refine (OO _ (r.set la.length cr) _ ((hown.set la.length _ _ AA).sl HD.out.1)).mono ?_
  rintro e w' ⟨rfl, v', rfl, hsl⟩
  have hsl := hsl _ ((hown.set la.length (cr : Int) cr rfl).sl HD.out.1)
  rw [HD.out.2] at hsl
  have hbel2 := hbel.setCell (p := ⟨w.heap.size, la.length, none⟩) (Nat.le_refl _) (Value.int .u32 cr)
  go_wp2
  go_ret
  exact ⟨v', rfl, hsl, hbel2⟩
theorem Zm (a s c : Nat) (ha : a < 4294967296) (hs : s < 32) (hc : c < 2 ^ s) :
 bits .or .u64 (IntKind.u64.wrap ((a : Int) * 2 ^ s)) (c : Int) = ((a * 2 ^ s + c : Nat) : Int) := by
 have f : 2 ^ s <= 2147483648 := Nat.pow_le_pow_right (n := 2) AA (show s <= 31 by omega)
 have h : a * 2 ^ s <= 4294967295 * 2147483648 := Nat.mul_le_mul AA f
 have e : (a : Int) * 2 ^ s = ((a * 2 ^ s : Nat) : Int) := by simp
 rw [e, IntWalk.u64_in _ AA, bits_or_u64_nat _ _ AA AA]
 congr 1
 rw [Nat.mul_comm a, Nat.two_pow_add_eq_or_of_lt hc a]
theorem gB (a c : Nat) (ha : a < 4294967296) (hc : c < 4294967296) :
 bits .or .u64 ((a : Int) * 4294967296) (c : Int) = ((a * 4294967296 + c : Nat) : Int) := by
 have e : (a : Int) * 4294967296 = ((a * 4294967296 : Nat) : Int) := by simp
 rw [e, bits_or_u64_nat _ _ AA AA]
 congr 1
 have := Nat.two_pow_add_eq_or_of_lt (i := 32) (by simpa using hc) a
 rw [Nat.mul_comm a]
 exact this.symm
theorem Rv (t s : Nat) (hs : s < 32) (ht : t < 18446744073709551616) :
 bits .and .u64 (t : Int) (IntKind.u64.wrap (IntKind.u64.wrap (2 ^ s) - 1)) = ((t % 2 ^ s : Nat) : Int) := by
 have h := Nat.two_pow_pos s
 have f : 2 ^ s <= 2147483648 := Nat.pow_le_pow_right (n := 2) AA (show s <= 31 by omega)
 have e : (2 : Int) ^ s = ((2 ^ s : Nat) : Int) := by simp
 rw [e, IntWalk.u64_in ((2 ^ s : Nat) : Int) AA, IntWalk.u64_in _ AA, show ((2 ^ s : Nat) : Int) - 1 = ((2 ^ s - 1 : Nat) : Int) by omega, bits_and_u64_nat _ _ ht AA, Nat.and_two_pow_sub_one_eq_mod]
theorem Tl (t s : Nat) : (t : Int) / 2 ^ s = ((t / 2 ^ s : Nat) : Int) := by simp
def E4 (w0 : World) (n : Nat) (x : Nat) (e : Ending) (w' : World) : Prop :=
 e = .returned (.slice (some ⟨w0.heap.size, 0, none⟩) (n + 1) (n + 1)) /\ ∃ l, Own w' w0.heap.size w0.heap.size (n + 1) l /\ Wd l /\ val l = x /\ Below w0.heap.size w0 w'
theorem eZ (va : Value) (la : List Nat) (s : Nat) (w : World) (ha : Sl w va la) (hsz : la.length <= 1000000000) (hs : s < 32) :
 Calls prog 191 #[va, .int .i64 s] w (E4 w la.length (val la * 2 ^ s)) := by
 obtain ⟨aoa, capa, rfl, ha1, ha2, ha3, _, ha4⟩ := ha
 have HA := Lib.hid ha4
 have WA := Lib.hid ha3
 clear ha4 ha3
 unfold maxLen at ha2
 obtain ⟨m, hm⟩ : ∃ m : Nat, m = 2 ^ s := ⟨_, rfl⟩
 have HM := Lib.hid hm
 have hm1 : 0 < m := by rw [hm]; exact Nat.two_pow_pos s
 have hm2 : m <= 2147483648 := by rw [hm]; exact Nat.pow_le_pow_right (n := 2) AA (show s <= 31 by omega)
 clear hm
 go_enter func191, ntmps191
 go_wp2_with (at_make; refine FU _ rfl _ _ rfl _ _ (la.length + 1) rfl rfl ?c1 ?c2 ?c3 ?_)
 case c1 => omega
 case c2 => omega
 case c3 => omega
 intro w1 hown hbel hsz1
 go_wp2
 go_loopw [6, 15] (fun c i wr => ∃ (k cr : Nat) (r : List Nat), k <= la.length /\ cr < m /\ i = .int .i64 k /\ c = .int .u64 cr /\ ScInv la m 0 k cr r /\ Own wr w.heap.size w.heap.size (la.length + 1) r /\ Below w.heap.size w wr)
  (fun _ i _ => la.length - (intOf i).toNat)
 case atStart => exact ⟨0, 0, _, by omega, hm1, rfl, rfl, ScInv.start _ _ _ hm1, hown, hbel⟩
 case round =>
  clear hown hbel hsz1
  obtain ⟨k, cr, r, hk, hcr, rfl, rfl, hinv, hown, hbel⟩ := hrel
  by_cases hlt : k < la.length
  . obtain ⟨b, off, rfl, hca⟩ := HA.out k hlt
    have hca := DB hca hbel
    have hxa := FL WA.out k
    have hcr1 := hown.cell k AA
    have hfr := hown.free k
    have hor := Zm (gd la k) s cr hxa hs (by rw [<- HM.out]; exact hcr)
    have hmul : gd la k * m <= 4294967295 * 2147483648 := Nat.mul_le_mul AA hm2
    obtain ⟨t, ht⟩ : ∃ t : Nat, t = gd la k * m + cr := ⟨_, rfl⟩
    rw [<- HM.out, <- ht] at hor
    have HT := Lib.hid ht
    have hor' : bits .or .u64 (IntKind.u64.wrap (((gd la k : Nat) : Int) * 2 ^ s)) (cr : Int) = (t : Int) := hor
    have ht2 : t < 18446744073709551616 := by omega
    clear ht hor hmul
    exact ZEz
  obtain rfl : k = la.length := by omega
  have hcr1 := hown.cell la.length AA
  have hfr := hown.free la.length
  have HD := Lib.hid (hinv.done AA)
  go_wp2
  go_ret
  refine ⟨O, r.set la.length cr, hown.set la.length _ cr AA, HD.out.1, ?_, hbel.setCell (Nat.le_refl _) _⟩
  rw [HD.out.2, HM.out, Nat.add_zero]
def DsInv (la : List Nat) (d k c : Nat) (q : List Nat) : Prop :=
 q.length = la.length /\ Wd q /\ c < d /\ d * val q + 4294967296 ^ k * c + val (la.take k) = val la /\ ∀ j, j < k -> gd q j = 0
theorem DsInv.start (la : List Nat) (d : Nat) (h : 0 < d) : DsInv la d la.length 0 (List.replicate la.length 0) :=
 ⟨by simp, OD _, h, by rw [MH, List.take_length]; simp, fun j _ => PV _ j⟩
theorem Gx (ha : a < 4294967296) (hc : c < d) : (c * 4294967296 + a) / d < 4294967296 := by
 apply Nat.div_lt_of_lt_mul
 have : (c + 1) * 4294967296 <= d * 4294967296 := Nat.mul_le_mul_right _ hc
 omega
theorem DsInv.step {j : Nat} {q : List Nat} (h : DsInv la d (j + 1) c q) (hj : j < la.length) (ha : gd la j < 4294967296) (t : Nat) (ht : t = c * 4294967296 + gd la j) :
 DsInv la d j (t % d) (q.set j (t / d)) := by
 obtain ⟨p, o, l, v, k⟩ := h
 refine ⟨by simpa using p, VF o _ _ (by rw [ht]; exact Gx ha l), Nat.mod_lt _ AA, ?_, fun i u => ?_⟩
 . have f := bH q j (t / d) AA
   rw [k j AA, Nat.mul_zero, Nat.add_zero] at f
   rw [f, Nat.mul_add]
   have e : d * (4294967296 ^ j * (t / d)) + 4294967296 ^ j * (t % d) = 4294967296 ^ j * t := by
    have := Nat.div_add_mod t d
    rw [show d * (4294967296 ^ j * (t / d)) = 4294967296 ^ j * (d * (t / d)) by grind, <- Nat.mul_add, this]
   have e3 : 4294967296 ^ j * t = 4294967296 ^ (j + 1) * c + 4294967296 ^ j * gd la j := by rw [ht, Nat.pow_succ]; grind
   have e4 := DQ la j
   omega
 rw [GL _ _ _ _ AA]; exact k i AA
theorem DsInv.done {q : List Nat} (h : DsInv la d 0 c q) : Wd q /\ val q = val la / d /\ c = val la % d := by
 obtain ⟨o, k, f, e, l⟩ := h
 rw [List.take_zero, eQ, Nat.pow_zero, Nat.one_mul, Nat.add_zero] at e
 refine ⟨k, ?_, ?_⟩
 . rw [<- e, Nat.mul_add_div AA, Nat.div_eq_of_lt f, Nat.add_zero]
 rw [<- e, Nat.mul_add_mod, Nat.mod_eq_of_lt f]
def Aj (w0 : World) (q r : Nat) (e : Ending) (w' : World) : Prop := ∃ v, e = .returned (.tuple #[v, .int .u64 r]) /\ Sl w' v (CD q) /\ Below w0.heap.size w0 w'
theorem aR (va : Value) (la : List Nat) (d : Nat) (w : World) (ha : Sl w va la) (hsz : la.length <= 1000000000) (hd : 0 < d) (hd2 : d < 4294967296) :
 Calls prog 189 #[va, .int .u64 d] w (Aj w (val la / d) (val la % d)) := by
 obtain ⟨aoa, capa, rfl, ha1, ha2, ha3, _, ha4⟩ := ha
 have HA := Lib.hid ha4
 have WA := Lib.hid ha3
 clear ha4 ha3
 unfold maxLen at ha2
 go_enter func189, ntmps189
 go_wp2_with (at_make; refine FU _ rfl _ _ rfl _ _ la.length rfl rfl ?c1 ?c2 ?c3 ?_)
 case c1 => rfl
 case c2 => rfl
 case c3 => omega
 intro w1 hown hbel hsz1
 go_wp2
 go_loopw [7, 8] (fun c i wr => ∃ (k cr : Nat) (z : Int) (q : List Nat), k <= la.length /\ cr < d /\ z + 1 <= k /\ k <= z + 1 /\ i = .int .i64 z /\ c = .int .u64 cr /\ DsInv la d k cr q /\ Own wr w.heap.size w.heap.size la.length q /\ Below w.heap.size w wr)
  (fun _ i _ => (intOf i + 1).toNat)
 case atStart => exact ⟨la.length, 0, _, _, Nat.le_refl _, hd, by omega, by omega, rfl, rfl, DsInv.start _ _ hd, hown, hbel⟩
 case round =>
  clear hown hbel hsz1
  obtain ⟨k, cr, z, q, hk, hcr, hz1, hz2, rfl, rfl, hinv, hown, hbel⟩ := hrel
  by_cases hk0 : k = 0
  . subst hk0
    have hz : z < 0 := by omega
    have HD := Lib.hid hinv.done
    go_wp2_with fail
    refine (OO _ q _ (hown.sl HD.out.1)).mono ?_
    rintro e w' ⟨rfl, v', rfl, hsl⟩
    have hsl := hsl _ (hown.sl HD.out.1)
    rw [HD.out.2.1] at hsl
    go_wp2
    go_ret2
    exact ⟨v', by rw [<- HD.out.2.2]; rfl, hsl, hbel⟩
  obtain ⟨j, rfl⟩ : ∃ j, k = j + 1 := ⟨k - 1, by omega⟩
  obtain rfl : z = (j : Int) := by omega
  clear hk0
  obtain ⟨b, off, rfl, hca⟩ := HA.out j AA
  have hca := DB hca hbel
  have hxa := FL WA.out j
  have hcr1 := hown.cell j AA
  have hfr := hown.free j
  have hor := gB cr (gd la j) AA hxa
  obtain ⟨t, ht⟩ : ∃ t : Nat, t = cr * 4294967296 + gd la j := ⟨_, rfl⟩
  have hst := hinv.step AA hxa t ht
  have htd : t / d < 4294967296 := by rw [ht]; exact Gx hxa hcr
  have htd0 : (0 : Int) <= (t : Int) / (d : Int) := Int.ediv_nonneg AA AA
  rw [<- ht] at hor
  have ht2 : t < 18446744073709551616 := by omega
  have hne : ¬ (d : Int) = 0 := by omega
  clear ht hinv
  go_wp2
  go_roundw
  case rel => exact ⟨j, t % d, _, _, by omega, hst.2.2.1, by omega, by omega, rfl, by go_num, hst, hown.set j _ (t / d) AA, hbel.setCell (Nat.le_refl _) _⟩
  case measure => simp [intOf]
theorem qF (va : Value) (la : List Nat) (s : Nat) (w : World) (ha : Sl w va la) (hsz : la.length <= 1000000000) (hs : s < 32) :
 Calls prog 193 #[va, .int .i64 s] w (Dv w (CD (val la / 2 ^ s))) := by
 obtain ⟨aoa, capa, rfl, ha1, ha2, ha3, _, ha4⟩ := ha
 have HA := Lib.hid ha4
 have WA := Lib.hid ha3
 clear ha4 ha3
 unfold maxLen at ha2
 obtain ⟨d, hd⟩ : ∃ d : Nat, d = 2 ^ s := ⟨_, rfl⟩
 have HM := Lib.hid hd
 have hd1 : 0 < d := by rw [hd]; exact Nat.two_pow_pos s
 have hd2 : d <= 2147483648 := by rw [hd]; exact Nat.pow_le_pow_right (n := 2) AA (show s <= 31 by omega)
 clear hd
 go_enter func193, ntmps193
 go_wp2_with (at_make; refine FU _ rfl _ _ rfl _ _ la.length rfl rfl ?c1 ?c2 ?c3 ?_)
 case c1 => rfl
 case c2 => rfl
 case c3 => omega
 intro w1 hown hbel hsz1
 go_wp2
 go_loopw [6, 7] (fun c i wr => ∃ (k cr : Nat) (z : Int) (q : List Nat), k <= la.length /\ cr < d /\ z + 1 <= k /\ k <= z + 1 /\ i = .int .i64 z /\ c = .int .u64 cr /\ DsInv la d k cr q /\ Own wr w.heap.size w.heap.size la.length q /\ Below w.heap.size w wr)
  (fun _ i _ => (intOf i + 1).toNat)
 case atStart => exact ⟨la.length, 0, _, _, Nat.le_refl _, hd1, by omega, by omega, rfl, rfl, DsInv.start _ _ hd1, hown, hbel⟩
 case round =>
  clear hown hbel hsz1
  obtain ⟨k, cr, z, q, hk, hcr, hz1, hz2, rfl, rfl, hinv, hown, hbel⟩ := hrel
  by_cases hk0 : k = 0
  . subst hk0
    have hz : z < 0 := by omega
    have HD := Lib.hid hinv.done
    go_wp2_with fail
    refine (OO _ q _ (hown.sl HD.out.1)).mono ?_
    rintro e w' ⟨rfl, v', rfl, hsl⟩
    have hsl := hsl _ (hown.sl HD.out.1)
    rw [HD.out.2.1, HM.out] at hsl
    go_wp2
    go_ret
    exact ⟨v', rfl, hsl, hbel⟩
  obtain ⟨j, rfl⟩ : ∃ j, k = j + 1 := ⟨k - 1, by omega⟩
  obtain rfl : z = (j : Int) := by omega
  clear hk0
  obtain ⟨b, off, rfl, hca⟩ := HA.out j AA
  have hca := DB hca hbel
  have hxa := FL WA.out j
  have hcr1 := hown.cell j AA
  have hfr := hown.free j
  have hor := gB cr (gd la j) AA hxa
  obtain ⟨t, ht⟩ : ∃ t : Nat, t = cr * 4294967296 + gd la j := ⟨_, rfl⟩
  have hst := hinv.step AA hxa t ht
  have htd : t / d < 4294967296 := by rw [ht]; exact Gx hxa hcr
  have htd0 : (0 : Int) <= (t : Int) / (d : Int) := Int.ediv_nonneg AA AA
  rw [<- ht] at hor
  have ht2 : t < 18446744073709551616 := by omega
  clear ht hinv
  go_wp2
  go_roundw
  case rel =>
   refine ⟨j, t % d, _, _, by omega, hst.2.2.1, by omega, by omega, O, ?_, hst, hown.set j _ (t / d) ?_, hbel.setCell (Nat.le_refl _) _⟩
   . rw [Rv t s hs ht2, HM.out]
   rw [Tl, <- HM.out]; omega
  case measure => simp [intOf]
theorem yP {w2 : World} (h : w.grownBy w1 row) (k : w1.grownBy w2 row) : w.grownBy w2 row :=
 ⟨k.os.trans h.os, k.tape.trans h.tape, k.output.trans h.output, Nat.le_trans h.size k.size, fun i hi hr => (k.block i (Nat.lt_of_lt_of_le hi h.size) hr).trans (h.block i hi hr)⟩
theorem oM (h : w.grownBy w1 row) (q : Nat) : w.grownBy (w1.drewN q) row := yP h ⟨rfl, rfl, rfl, Nat.le_refl _, fun _ _ _ => rfl⟩
theorem aQ {B : Nat} (h : w.grownBy w1 (some g)) (hB : B <= g) (hB2 : B <= w.heap.size) : Below B w w1 :=
 (Below.refl _ _).grown h hB2 (fun k hk => by cases hk; exact hB)
theorem Own.gset (h : Own wr base g n l) (hg : w.grownBy wr (some g)) (i : Nat) (u : Value) : w.grownBy (wr.setCell ⟨g, i, none⟩ u) (some g) :=
 yP hg (h.stored i u).2
theorem Gk {o : Nat} {v : Value} (hg : w.grownBy wr (some g)) (h : w.cell? ⟨b, o, none⟩ = some v) (hne : b ≠ g) : wr.cell? ⟨b, o, none⟩ = some v :=
 hg.cell h (by simpa using hne)
theorem Own.below (h : Own w base g n l) (hb : Below w.heap.size w w') : Own w' base g n l := by
 have t := h.lt
 obtain ⟨v, k⟩ := h
 refine ⟨v, ?_⟩
 rcases k with k | ⟨o, q, p, f, hg, u, r⟩
 . exact Or.inl k
 have e : o = g := by simp at f; exact f.1.symm
 subst e
 exact Or.inr ⟨o, q, p, f, hg, by rw [hb.block o t.2]; exact u, r⟩
theorem Own.kept (h : Own w base g n l) (hg : w.grownBy w' (some g')) (hne : g ≠ g') : Own w' base g n l :=
 World.ownsRow.kept h hg (.inr (by simpa [Value.ownBlock] using hne))
theorem Own.other {base' n' : Nat} {l' : List Nat} (h : Own w base g n l) (h' : Own w base' g' n' l') (hne : g ≠ g') (i : Nat) (u : Value) : Own (w.setCell ⟨g', i, none⟩ u) base g n l :=
 h.kept (h'.stored i u).2 hne
def RetQw (w0 : World) (base g N : Nat) (l lv : List Nat) (j n : Nat) (e : Ending) (w' : World) : Prop :=
 e = .returned (.int .u32 (val (LB l j (n + 1)) / val lv : Nat)) /\ ∃ l', Own w' base g N l' /\ WG l lv j n l' /\ w0.grownBy w' (some g)
theorem rH {r v2 : Nat} (hq : q * v2 < 18446744073709551616) (hr : r < 4294967296) :
 IntKind.u64.wrap ((q : Int) * (v2 : Int)) = ((q * v2 : Nat) : Int) /\ IntKind.u64.wrap ((r : Int) * 4294967296) = (r : Int) * 4294967296 := by
 have e : (q : Int) * v2 = ((q * v2 : Nat) : Int) := by simp
 rw [e]
 exact ⟨IntWalk.u64_in _ AA, IntWalk.u64_in _ AA⟩
theorem Fh {v : Nat} (hq : q < 4294967296) (hv : v < 4294967296) (hc : c < 4294967296) :
 IntKind.u64.wrap ((q : Int) * (v : Int)) = (q : Int) * v /\ IntKind.u64.wrap ((q : Int) * (v : Int) + (c : Int)) = (q : Int) * v + c /\
  ∃ t : Nat, t = q * v + c /\ (q : Int) * v + c = (t : Int) /\ t < 18446744073709551616 := by
 have h : q * v <= 4294967295 * 4294967295 := Nat.mul_le_mul AA AA
 have e : (q : Int) * v = ((q * v : Nat) : Int) := by simp
 exact ZEP
theorem Ip (a t c : Nat) (ha : a < 4294967296) (hc : c <= 1) :
 ∃ x c' : Nat, x < 4294967296 /\ c' <= 1 /\ x + t % 4294967296 + c = a + 4294967296 * c' /\
  IntKind.u64.wrap (IntKind.u64.wrap ((a : Int) - (t : Int) % 4294967296) - (c : Int)) % 4294967296 = (x : Int) /\
  IntKind.u64.wrap (IntKind.u64.wrap ((a : Int) - (t : Int) % 4294967296) - (c : Int)) / 9223372036854775808 = (c' : Int) := by
 simp only [IntKind.wrap_u64]
 by_cases h : t % 4294967296 + c <= a
 . exact ⟨a - t % 4294967296 - c, 0, by omega, by omega, by omega, by omega, by omega⟩
 exact ⟨4294967296 + a - t % 4294967296 - c, 1, by omega, by omega, by omega, by omega, by omega⟩
theorem Da (hu : u < 4294967296) (h : c + b <= u) : IntKind.u64.wrap (IntKind.u64.wrap ((u : Int) - (c : Int)) - (b : Int)) = ((u - (c + b) : Nat) : Int) := by
 simp only [IntKind.wrap_u64]; omega
theorem Cz (h : u + 1 = c + b) : IntKind.u64.wrap (IntKind.u64.wrap ((u : Int) - (c : Int)) - (b : Int)) = 18446744073709551615 := by
 simp only [IntKind.wrap_u64]; omega
theorem Uc {D : Nat} (h : q = D + 1) : (q : Int) - 1 = (D : Int) := by omega
theorem Ff {a b : Int} (h : a = b) : Ending.returned (.int .u32 a) = .returned (.int .u32 b) := by rw [h]
set_option maxRecDepth 100000 in
set_option maxHeartbeats 4000000 in
theorem kT (base g N j n cu gv cv : Nat) (l lv : List Nat) (w : World) (ho : Own w base g N l) (hwl : Wd l) (hj : j + n < N) (hN : N <= 2000000000) (hcu : n + 1 <= cu) (hcu2 : cu <= 2000000000) (hcv : n <= cv)
 (hv : ∀ i, i < n -> w.cell? ⟨gv, i, none⟩ = some (.int .u32 ↑(gd lv i))) (hne : gv ≠ g) (hlv : lv.length = n) (hn : 2 <= n) (hwv : Wd lv) (hnorm : 2147483648 <= gd lv (n - 1))
 (hlt : val (LB l j (n + 1)) < 4294967296 * val lv) :
 Calls prog 192 #[.slice (some ⟨g, j, none⟩) (n + 1) cu, .slice (some ⟨gv, 0, none⟩) n cv] w (RetQw w base g N l lv j n) := by
 have T := Lib.hid (Em hn hwl hwv hlv hnorm hlt)
 obtain ⟨U, hU⟩ : ∃ U, U = val (LB l j (n + 1)) := ⟨_, rfl⟩
 obtain ⟨V, hV⟩ : ∃ V, V = val lv := ⟨_, rfl⟩
 rw [<- hU, <- hV] at T
 have HU := Lib.hid hU
 have HV := Lib.hid hV
 have HVC := Lib.hid hv
 have HLV := Lib.hid hlv
 have WL := Lib.hid hwl
 have WV := Lib.hid hwv
 have HLT := Lib.hid hlt
 have un_le := T.out.un_le
 have cn := ho.cell (j + n) AA
 have cn1 := ho.cell (j + (n - 1)) AA
 have cn2 := ho.cell (j + (n - 2)) AA
 have dn1 := hv (n - 1) AA
 have dn2 := hv (n - 2) AA
 have bn := FL hwl (j + n)
 have bn1 := FL hwl (j + (n - 1))
 have bn2 := FL hwl (j + (n - 2))
 have ev1 := FL hwv (n - 1)
 have ev2 := FL hwv (n - 2)
 clear hU hV hlv hwl hwv hlt hv
 have hl1 : IntKind.i64.wrap ((n : Int) - 1) = (n : Int) - 1 := IntWalk.i64_in _ AA
 have hl2 : IntKind.i64.wrap ((n : Int) - 2) = (n : Int) - 2 := IntWalk.i64_in _ AA
 have hp1 : (0 : Int) <= (n : Int) - 1 := by omega
 have hp2 : (0 : Int) <= (n : Int) - 2 := by omega
 have ht1 : ((n : Int) - 1).toNat = n - 1 := by omega
 have ht2 : ((n : Int) - 2).toNat = n - 2 := by omega
 have hor1 := gB (gd l (j + n)) (gd l (j + (n - 1))) bn bn1
 have hor1w : IntKind.u64.wrap (((gd l (j + n) : Nat) : Int) * 4294967296) = ((gd l (j + n) : Nat) : Int) * 4294967296 := IntWalk.u64_in _ AA
 obtain ⟨bJ, htop⟩ : ∃ bJ : Nat, bJ = gd l (j + n) * 4294967296 + gd l (j + (n - 1)) := ⟨_, rfl⟩
 rw [<- htop] at hor1
 have HTOP := Lib.hid htop
 have btop : bJ < 18446744073709551616 := by omega
 clear htop
 go_enter func192, ntmps192
 go_wp2
 go_quiet (fail)
 clear hor1 hor1w
 obtain ⟨v1, hv1⟩ : ∃ v1, v1 = gd lv (n - 1) := ⟨_, rfl⟩
 obtain ⟨v2, hv2⟩ : ∃ v2, v2 = gd lv (n - 2) := ⟨_, rfl⟩
 rw [<- hv1] at T hnorm un_le dn1 ev1
 rw [<- hv2] at T dn2 ev2
 clear hv1 hv2
 obtain ⟨q0, hq0⟩ : ∃ q0, q0 = bJ / v1 := ⟨_, rfl⟩
 obtain ⟨r0, hr0⟩ : ∃ r0, r0 = bJ % v1 := ⟨_, rfl⟩
 have hquo : IntKind.u64.wrap ((bJ : Int).tdiv (v1 : Int)) = (q0 : Int) := by
  rw [hq0, IntWalk.u64_quo _ _ ⟨by omega, by omega, by omega⟩]; simp
 have hrem : (bJ : Int).tmod (v1 : Int) = (r0 : Int) := by
  rw [hr0, IntWalk.rem_in _ _ AA]; simp
 have hquo' : IntKind.u64.wrap ((bJ : Int) / (v1 : Int)) = (q0 : Int) := by
  rw [<- hquo, IntWalk.u64_quo _ _ ⟨by omega, by omega, by omega⟩, IntWalk.u64_in _ ⟨Int.ediv_nonneg AA AA, by have := (IntWalk.tdiv_le (bJ : Int) (v1 : Int) AA AA).2; omega⟩]
 have hrem' : (bJ : Int) % (v1 : Int) = (r0 : Int) := by rw [<- hrem, IntWalk.rem_in _ _ AA]
 have hv10 : ¬ (v1 : Int) = 0 := by omega
 have G0 : cV U V v1 bJ q0 r0 := by rw [hq0, hr0, HTOP.out]; exact T.out.start
 have hr0b : r0 < 4294967296 := by rw [hr0]; have := Nat.mod_lt bJ (show 0 < v1 by omega); omega
 clear hq0 hr0
 go_upto_region 3 with fail
 go_quiet (fail)
 clear hquo hrem hquo' hrem'
 go_upto_block 0 with fail
 go_cut [7] (fun s wx => ∃ q : Nat, s = .int .u64 q /\ q < 4294967296 /\ U / V <= q /\ q * V < U + V /\ ∃ d, wx = w.drewN d)
 case first =>
  go_wp2_with fail
  go_loopw [7, 8] (fun s t wr => ∃ q r : Nat, s = .int .u64 q /\ t = .int .u64 r /\ r < 4294967296 /\ cV U V v1 bJ q r /\ ∃ d, wr = w.drewN d) (fun s _ _ => (intOf s).toNat)
  case atStart => exact ⟨q0, r0, rfl, rfl, hr0b, G0, _, by first | rfl | (simp only [World.drewN_drewN]; rfl)⟩
  case round =>
   clear G0 hr0b
   obtain ⟨q, r, rfl, rfl, hr, G, d, rfl⟩ := hrel
   have G' := G
   rw [HTOP.out] at G'
   have hqb := T.out.bound G'
   obtain ⟨m1, m2⟩ := rH (v2 := v2) hqb.2 hr
   have hor := gB r (gd l (j + (n - 2))) hr bn2
   obtain ⟨X, hX⟩ : ∃ X, X = q * v2 := ⟨_, rfl⟩
   rw [<- hX] at m1
   have HX := Lib.hid hX
   have hXb : X < 18446744073709551616 := by rw [hX]; exact hqb.2
   have hqb1 : q <= 4294967297 := hqb.1
   clear hX hqb
   by_cases hg : 4294967296 <= q
   . have hd1 : decide ((4294967296 : Int) <= (q : Int)) = true := by simp; omega
     go_wp2
     go_quiet (fail)
     clear hl1 hl2 ht1 ht2 m1 m2 hor hd1
     have hlow := (T.out.lower G' (.inl hg)).2
     rw [<- HTOP.out] at hlow
     have hq1 : 1 <= q := by omega
     exact ZyS
   have hd1 : decide ((4294967296 : Int) <= (q : Int)) = false := by simp; omega
   by_cases ht : r * 4294967296 + gd l (j + (n - 2)) < X
   . have hd2 : decide ((((r * 4294967296 + gd l (j + (n - 2)) : Nat)) : Int) < (X : Int)) = true := by simp; omega
     go_wp2
     go_quiet (fail)
     clear hl1 hl2 ht1 ht2 m1 m2 hor hd1 hd2
     have hlow := (T.out.lower G' (.inr (by rw [<- HX.out]; exact ht))).2
     have hq1 : 1 <= q := (T.out.lower G' (.inr (by rw [<- HX.out]; exact ht))).1
     rw [<- HTOP.out] at hlow
     exact ZyS
   have hd2 : decide ((((r * 4294967296 + gd l (j + (n - 2)) : Nat)) : Int) < (X : Int)) = false := by simp; omega
   have hgood := T.out.good G' AA (by rw [<- HX.out]; omega)
   go_wp2
   go_quiet (fail)
   rename_i nq
   go_wp2_with fail
   go_meet
   exact ⟨q, rfl, by omega, G.2, hgood, d + nq, by simp only [World.drewN_drewN]⟩
 case rest =>
  clear hl1 hl2 ht1 ht2 G0 hr0b HTOP btop dn1 dn2 cn1 cn2 hnorm un_le
  obtain ⟨q, rfl, hq, hd, hg, d, rfl⟩ := hcut
  have ho' := ho.drewN d
  have cn' := ho'.cell (j + n) AA
  clear cn ho
  go_wp2
  go_loopw [9, 10, 83] (fun sc sb i wr => ∃ (k c b : Nat) (r : List Nat), k <= n /\ c < 4294967296 /\ b <= 1 /\ i = .int .i64 k /\ sc = .int .u64 c /\ sb = .int .u64 b /\ MsInv l lv q j k c b r /\ Own wr base g N r /\ w.grownBy wr (some g))
   (fun _ _ i _ => n - (intOf i).toNat)
  case atStart => exact ⟨0, 0, 0, l, by omega, by omega, by omega, rfl, rfl, rfl, MsInv.start _ _ _ WL.out, ho', oM (World.grownBy.refl _ _) _⟩
  case round =>
   clear ho' cn'
   obtain ⟨k, c, b, r, hk, hc, hb, rfl, rfl, rfl, hinv, hown, hgb⟩ := hrel
   by_cases hlt : k < n
   . have hcv' := Gk hgb (HVC.out k hlt) hne
     have hcu' := hown.cell (j + k) AA
     rw [hinv.2.2.2.2.2 (j + k) (.inr (Nat.le_refl _))] at hcu'
     have hfr := hown.free (j + k)
     have bu := FL WL.out (j + k)
     have bv := FL WV.out k
     obtain ⟨s1, s2, t, ht, s3, ht2⟩ := Fh hq bv hc
     have HT := Lib.hid ht
     clear ht hd hg
     go_wp2_with fail
     go_roundw
     case rel =>
      obtain ⟨x, b', h1, h2, h3, h4, h5⟩ := Ip (gd l (j + k)) t b bu hb
      have hst := hinv.step (by have := hown.len; have := hinv.1; omega) t x b' HT.out ht2 h1 h2 h3
      exact ⟨k + 1, _, b', _, by omega, hst.2.2.1, h2, by go_num, by go_num, Ej h5, hst, hown.set (j + k) _ x h4, hown.gset hgb _ _⟩
     case measure => simp [intOf]; omega
   obtain rfl : k = n := by omega
   have hcu' := hown.cell (j + k) AA
   rw [hinv.2.2.2.2.2 (j + k) (.inr (Nat.le_refl _))] at hcu'
   have hfr := hown.free (j + k)
   have hlen : j + k < l.length := by have := hown.len; have := hinv.1; omega
   rw [HU.out, HV.out] at hd hg
   have hVp : 0 < val lv := by have := T.out.vpos; rwa [HV.out] at this
   by_cases hle : c + b <= gd l (j + k)
   . have hR := hinv.right HLV.out hlen hd hg hVp WV.out hle
     have hX := Da bn hle
     rw [hR.2.2] at hX
     have HR := Lib.hid hR
     clear hle hR hd hg hVp hinv
     go_wp2_with fail
     go_ret
     have hs := HR.out.2.1
     rw [HR.out.2.2] at hs
     exact ⟨Ff (by rw [<- HR.out.1]), _, hown.set (j + k) _ 0 AH, hs, hown.gset hgb _ _⟩
   have hlt' : gd l (j + k) < c + b := by omega
   have hW := hinv.wrong HLV.out hd hg hVp WV.out hlt'
   have hX := Cz hW.2
   have HW := Lib.hid hW
   have hown1 := hown.set (j + k) 4294967295 4294967295 rfl
   have hgb1 := hown.gset hgb (j + k) (.int .u32 4294967295)
   have hr1 := VF hinv.2.1 (j + k) 4294967295 AA
   have hr1l : (r.set (j + k) 4294967295).length = l.length := by rw [List.length_set]; exact hinv.1
   have hg1 : gd (r.set (j + k) 4294967295) (j + k) = 4294967295 := kE _ _ _ (by rw [hinv.1]; exact hlen)
   have HD := Lib.hid hd
   have HG := Lib.hid hg
   have HVP := Lib.hid hVp
   have HLT2 := Lib.hid hlt'
   have HINV := Lib.hid hinv
   have HLEN := Lib.hid hlen
   obtain ⟨r1, hr1e⟩ : ∃ r1, r1 = r.set (j + k) 4294967295 := ⟨_, rfl⟩
   rw [<- hr1e] at hown1 hr1 hr1l hg1
   have HR1 := Lib.hid hr1e
   have HG1 := Lib.hid hg1
   have HR1L := Lib.hid hr1l
   clear hle hW hd hg hVp hlt' hinv hr1e hlen hg1 hr1l
   go_wp2_with fail
   clear hX hcu' hfr
   go_loopw [9, 136] (fun sc i wx => ∃ (m c2 : Nat) (r2 : List Nat), m <= k /\ c2 <= 1 /\ i = .int .i64 m /\ sc = .int .u64 c2 /\ PbInv r1 lv j m c2 r2 /\ Own wx base g N r2 /\ w.grownBy wx (some g))
    (fun _ i _ => k - (intOf i).toNat)
   case atStart => exact ⟨0, 0, r1, by omega, by omega, rfl, rfl, PbInv.start _ _ hr1, hown1, hgb1⟩
   case round =>
    clear hown1 hgb1 hown hgb
    obtain ⟨m, c2, r2, hm, hc2, rfl, rfl, hinv2, hown2, hgb2⟩ := hrel
    by_cases hlt2 : m < k
    . have hcv' := Gk hgb2 (HVC.out m hlt2) hne
      have hcu' := hown2.cell (j + m) AA
      rw [hinv2.2.2.2.2 (j + m) (.inr (Nat.le_refl _))] at hcu'
      have hfr := hown2.free (j + m)
      have bu := FL hr1 (j + m)
      have bv := FL WV.out m
      have s1 : IntKind.u64.wrap (((gd r1 (j + m) : Nat) : Int) + ((gd lv m : Nat) : Int)) = ((gd r1 (j + m) : Nat) : Int) + ((gd lv m : Nat) : Int) := IntWalk.u64_in _ AA
      have s2 : IntKind.u64.wrap (((gd r1 (j + m) : Nat) : Int) + ((gd lv m : Nat) : Int) + (c2 : Int)) = ((gd r1 (j + m) : Nat) : Int) + ((gd lv m : Nat) : Int) + (c2 : Int) := IntWalk.u64_in _ AA
      have s3 : (m : Int) < (k : Int) + 1 := by omega
      have s4 : (m : Int) < (k : Int) := by omega
      go_wp2_with fail
      go_quiet (fail)
      clear s1 s2
      go_wp2_with fail
      go_roundw
      case rel =>
       have hst := hinv2.step (by have := HLEN.out; have := HR1L.out; omega) bu bv _ rfl
       exact ⟨m + 1, _, _, by omega, hst.2.2.1, by go_num, by go_num, hst, Own.set (hown2.drewN _) (j + m) _ _ AA, Own.gset (hown2.drewN _) (oM hgb2 _) _ _⟩
      case measure => simp [intOf]; omega
    obtain rfl : m = k := by omega
    have hP := PbInv.done HINV.out HLV.out HLEN.out HD.out HG.out HVP.out WV.out HLT2.out (by rw [<- HR1.out]; exact hinv2)
    obtain ⟨rfl, hS⟩ := hP
    have hcu' := hown2.cell (j + m) AA
    rw [hinv2.2.2.2.2 (j + m) (.inr (Nat.le_refl _)), HG1.out] at hcu'
    have hfr := hown2.free (j + m)
    have hq1 : 1 <= q := by rw [HW.out.1]; exact Nat.le_add_left _ _
    go_wp2_with fail
    go_ret
    exact ⟨Ff (Uc HW.out.1), _, hown2.set (j + m) _ 0 AH, hS, hown2.gset hgb2 _ _⟩
end Go.Proofs.YtmppigbbkjepiaaGreatDoor
