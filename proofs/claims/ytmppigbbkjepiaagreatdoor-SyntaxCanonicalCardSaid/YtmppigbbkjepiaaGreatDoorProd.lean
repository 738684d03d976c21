/- difference: the words of a difference that is not negative. compare: two canonical lists of words compare as their numbers. product: the words of a product. -/
import Derived.Test.YtmppigbbkjepiaaGreatDoorMem
import Derived.BigQuiet
import Derived.Deep.QuietTactic
namespace Go.Proofs.YtmppigbbkjepiaaGreatDoor
open Go.RowKit W
def DiffInv (la lb : List Nat) (k c : Nat) (r : List Nat) : Prop :=
  c ≤ 1 ∧ k ≤ la.length ∧ ∃ done : List Nat, r = done ++ List.replicate (la.length - k) 0 ∧ done.length = k ∧ Wd done ∧
    val done + val (lb.take k) = val (la.take k) + 4294967296 ^ k * c
theorem DiffInv.start (la lb : List Nat) : DiffInv la lb 0 0 (List.replicate la.length 0) :=
  ⟨by omega, by omega, [], by simp, rfl, WT, by simp [val]⟩
theorem DiffInv.step {la lb : List Nat} {k c : Nat} {r : List Nat} (h : DiffInv la lb k c r) (hk : k < la.length) (x c' : Nat) (hx : x < 4294967296) (hc' : c' ≤ 1)
    (he : x + gd lb k + c = gd la k + 4294967296 * c') :
    DiffInv la lb (k + 1) c' (r.set k x) := by
  obtain ⟨q, o, done, rfl, f, l, p⟩ := h
  refine ⟨hc', by omega, done ++ [x], ?_, by simp [f], ?_, ?_⟩
  · have := qM done (la.length - k) x Z
    rw [f] at this
    rw [this, Nat.sub_sub]
  · rw [Wd_append, Wd_cons]; exact ⟨l, hx, WT⟩
  · rw [gT, DG, DG, f, Nat.pow_succ]
    have e := congrArg (4294967296 ^ k * ·) he
    simp only [Nat.mul_add] at e
    rw [Nat.mul_assoc]
    omega
theorem DiffInv.done {la lb : List Nat} {c : Nat} {r : List Nat} (h : DiffInv la lb la.length c r) (hb : lb.length ≤ la.length) (_ : Wd la) (hle : val lb ≤ val la) :
    Wd r ∧ val r = val la - val lb := by
  obtain ⟨l, _, done, rfl, k, e, f⟩ := h
  rw [Nat.sub_self, List.replicate_zero, List.append_nil]
  rw [DO lb _ hb, DO la _ (Nat.le_refl _)] at f
  have o := GA e
  rw [k] at o
  refine ⟨e, ?_⟩
  rcases Nat.le_one_iff_eq_zero_or_eq_one.1 l with rfl | rfl
  · omega
  · exfalso; omega
theorem xK {a b : Int} (h : a = b) : Value.int .u64 a = .int .u64 b := by rw [h]
end Go.Proofs.YtmppigbbkjepiaaGreatDoor
namespace Go.Proofs.YtmppigbbkjepiaaGreatDoor
open Go.Proofs.Tryz
open Go.RowKit W
theorem FD {a b : Int} (h : a = b) : Ending.returned (.int .i64 a) = .returned (.int .i64 b) := by rw [h]
theorem MP {x y : Int} (h : x < y) : IR x y = -1 := by unfold IR; rw [if_pos h]
theorem NT {x y : Int} (h : y < x) : IR x y = 1 := by unfold IR; rw [if_neg Z, if_neg Z]
theorem UF {x y : Int} (h : x = y) : IR x y = 0 := by unfold IR; rw [if_neg Z, if_pos h]
def SameFrom (a b : List Nat) (k : Nat) : Prop := ∀ j, k ≤ j → j < a.length → gd a j = gd b j
theorem SameFrom.start (a b : List Nat) : SameFrom a b a.length := fun j h1 h2 => by omega
theorem SameFrom.step {a b : List Nat} {k : Nat} (h : SameFrom a b (k + 1)) (e : gd a k = gd b k) : SameFrom a b k := by
  intro j o l
  rcases Nat.lt_or_ge k j with f | f
  · exact h j f l
  · obtain rfl : j = k := by omega
    exact e
theorem SameFrom.lt {m n k : Nat} (h : SameFrom (CB m) (CB n) (k + 1)) (hl : (CB m).length = (CB n).length) (hk : k < (CB m).length) (hx : gd (CB m) k < gd (CB n) k) : m < n := by
  have := gU hl (FQ m) k hk (fun j f e => h j f e) hx
  rwa [CK, CK] at this
theorem SameFrom.gt {m n k : Nat} (h : SameFrom (CB m) (CB n) (k + 1)) (hl : (CB m).length = (CB n).length) (hk : k < (CB m).length) (hx : gd (CB n) k < gd (CB m) k) : n < m := by
  have := gU hl.symm (FQ n) k Z (fun j e f => (h j e Z).symm) hx
  rwa [CK, CK] at this
theorem SameFrom.eq {m n : Nat} (h : SameFrom (CB m) (CB n) 0) (hl : (CB m).length = (CB n).length) : m = n :=
  sT (oX hl fun i hi => h i (Nat.zero_le _) hi)
def RetI (w0 : World) (x : Int) (e : Ending) (w' : World) : Prop := e = .returned (.int .i64 x) ∧ ∃ q, w' = w0.drewN q
set_option maxHeartbeats 1000000 in
theorem WO (va vb : Value) (m n : Nat) (w : World) (ha : Sl w va (CB m)) (hb : Sl w vb (CB n)) :
    Calls prog 188 #[va, vb] w (RetI w (IR m n)) := by
  obtain ⟨aoa, capa, rfl, ha1, ha2, ha3, _, ha4⟩ := ha
  obtain ⟨aob, capb, rfl, hb1, hb2, hb3, _, hb4⟩ := hb
  have HA := Lib.hid ha4
  have HB := Lib.hid hb4
  have WA := Lib.hid ha3
  have WB := Lib.hid hb3
  clear ha4 hb4 ha3 hb3
  unfold maxLen at ha2 hb2
  by_cases hne : (CB m).length = (CB n).length
  · have hd : (((CB m).length : Int) != ((CB n).length : Int)) = false := by rw [bne_eq_false_iff_eq]; omega
    have HL := Lib.hid hne
    have hl1 : (CB m).length ≤ (CB n).length := by omega
    have hl2 : (CB n).length ≤ (CB m).length := by omega
    clear hne
    go_enter func188, ntmps188
    go_wp2
    go_loopw [5] (fun i wr => ∃ (k : Nat) (z : Int), k ≤ (CB m).length ∧ z + 1 ≤ k ∧ k ≤ z + 1 ∧ i = .int .i64 z ∧ SameFrom (CB m) (CB n) k ∧ ∃ q, wr = w.drewN q) (fun i _ => (intOf i + 1).toNat)
    case atStart => exact ⟨_, _, Nat.le_refl _, by omega, by omega, rfl, SameFrom.start _ _, 0, rfl⟩
    case round =>
      obtain ⟨k, z, hk, hz1, hz2, rfl, hs, q, rfl⟩ := hrel
      by_cases hk0 : k = 0
      · subst hk0
        have hz : z < 0 := by omega
        go_wp2
        go_ret
        exact ⟨FD (UF (by rw [hs.eq HL.out])).symm, q, rfl⟩
      · obtain ⟨j, rfl⟩ : ∃ j, k = j + 1 := ⟨k - 1, by omega⟩
        obtain rfl : z = (j : Int) := by omega
        clear hk0
        obtain ⟨b, off, rfl, hca⟩ := HA.out j Z
        obtain ⟨b2, off2, rfl, hcb⟩ := HB.out j Z
        rcases Nat.lt_trichotomy (gd (CB m) j) (gd (CB n) j) with hx | hx | hx
        · have h1 : (((gd (CB m) j : Nat) : Int) != ((gd (CB n) j : Nat) : Int)) = true := by rw [bne_iff_ne]; omega
          go_wp2
          go_quiet (fail)
          go_wp2
          go_quiet (fail)
          go_wp2
          go_ret
          exact ⟨FD (MP (by have := hs.lt HL.out Z hx; omega)).symm, _, by simp only [World.drewN_drewN]; rfl⟩
        · have h1 : (((gd (CB m) j : Nat) : Int) != ((gd (CB n) j : Nat) : Int)) = false := by rw [bne_eq_false_iff_eq]; omega
          have hst := hs.step hx
          clear hx hs
          go_wp2
          go_quiet (fail)
          go_wp2
          go_roundw
          case rel => exact ⟨j, _, by omega, by omega, by omega, rfl, hst, (by first | exact ⟨_, rfl⟩ | exact ⟨_, by simp only [World.drewN_drewN]; rfl⟩)⟩
          case measure => simp [intOf]
        · have h1 : (((gd (CB m) j : Nat) : Int) != ((gd (CB n) j : Nat) : Int)) = true := by rw [bne_iff_ne]; omega
          go_wp2
          go_quiet (fail)
          go_wp2
          go_quiet (fail)
          go_wp2
          go_ret
          exact ⟨FD (NT (by have := hs.gt HL.out Z hx; omega)).symm, _, by simp only [World.drewN_drewN]; rfl⟩
  · by_cases hlt : (CB m).length < (CB n).length
    · have hmn := KQ hlt
      have HR := Lib.hid (MP (x := m) (y := n) Z)
      have hd : (((CB m).length : Int) != ((CB n).length : Int)) = true := by rw [bne_iff_ne]; omega
      clear hne hmn
      go_enter func188, ntmps188
      go_wp2
      go_ret
      exact ⟨FD HR.out.symm, 0, rfl⟩
    · have hmn := KQ (m := n) (n := m) Z
      have HR := Lib.hid (NT (x := m) (y := n) Z)
      have hd : (((CB m).length : Int) != ((CB n).length : Int)) = true := by rw [bne_iff_ne]; omega
      clear hne hmn
      go_enter func188, ntmps188
      go_wp2
      go_ret
      exact ⟨FD HR.out.symm, 0, rfl⟩
end Go.Proofs.YtmppigbbkjepiaaGreatDoor
namespace Go.Proofs.YtmppigbbkjepiaaGreatDoor
open Go.Proofs.Tryz
open Go.RowKit W
def MulInv (la lb : List Nat) (k : Nat) (r : List Nat) : Prop :=
  r.length = la.length + lb.length ∧ Wd r ∧ val r = val (la.take k) * val lb ∧ ∀ j, k + lb.length ≤ j → gd r j = 0
def RowInv (la lb : List Nat) (k j c : Nat) (r : List Nat) : Prop :=
  r.length = la.length + lb.length ∧ Wd r ∧ c < 4294967296 ∧ val r + 4294967296 ^ (k + j) * c = val (la.take k) * val lb + 4294967296 ^ k * (gd la k * val (lb.take j)) ∧
    ∀ j, k + lb.length ≤ j → gd r j = 0
theorem MulInv.start (la lb : List Nat) : MulInv la lb 0 (List.replicate (la.length + lb.length) 0) :=
  ⟨by simp, LT _, by rw [KA]; simp [val], fun j _ => NO _ j⟩
theorem MulInv.row {la lb : List Nat} {k : Nat} {r : List Nat} (h : MulInv la lb k r) : RowInv la lb k 0 0 r :=
  ⟨h.1, h.2.1, by omega, by rw [h.2.2.1]; simp [val], h.2.2.2⟩
theorem RowInv.step {la lb : List Nat} {k j c : Nat} {r : List Nat} (h : RowInv la lb k j c r) (hk : k < la.length) (hj : j < lb.length) (t : Nat) (ht : t = gd la k * gd lb j + gd r (k + j) + c)
    (ha : gd la k < 4294967296) (hb : gd lb j < 4294967296) :
    RowInv la lb k (j + 1) (t / 4294967296) (r.set (k + j) (t % 4294967296)) := by
  obtain ⟨p, f, B, z, o⟩ := h
  have v := EI f (k + j)
  have y : gd la k * gd lb j ≤ 4294967295 * 4294967295 := Nat.mul_le_mul Z Z
  refine ⟨by simpa using p, QX f _ _ Z, by omega, ?_, fun i l => ?_⟩
  · have u := XB r (k + j) (t % 4294967296) Z
    have e : 4294967296 ^ (k + j) * (t % 4294967296) + 4294967296 ^ (k + (j + 1)) * (t / 4294967296) = 4294967296 ^ (k + j) * t := by
      rw [← Nat.add_assoc, Nat.pow_succ, Nat.mul_assoc, ← Nat.mul_add, Nat.mod_add_div]
    rw [DG, Nat.mul_add, Nat.mul_add]
    have q : 4294967296 ^ k * (gd la k * (4294967296 ^ j * gd lb j)) = 4294967296 ^ (k + j) * (gd la k * gd lb j) := by rw [Nat.pow_add]; grind
    rw [q]
    have e3 : 4294967296 ^ (k + j) * t = 4294967296 ^ (k + j) * (gd la k * gd lb j) + 4294967296 ^ (k + j) * gd r (k + j) + 4294967296 ^ (k + j) * c := by rw [ht]; grind
    omega
  · rw [FG _ _ _ _ Z]; exact o i l
theorem RowInv.done {la lb : List Nat} {k c : Nat} {r : List Nat} (h : RowInv la lb k lb.length c r) (hk : k < la.length) :
    MulInv la lb (k + 1) (r.set (k + lb.length) c) := by
  obtain ⟨q, p, o, l, f⟩ := h
  refine ⟨by simpa using q, QX p _ _ o, ?_, fun i t => ?_⟩
  · have e := XB r (k + lb.length) c Z
    rw [f _ (Nat.le_refl _), Nat.mul_zero, Nat.add_zero] at e
    rw [e, l, DO lb _ (Nat.le_refl _), DG]
    grind
  · rw [FG _ _ _ _ Z]; exact f i Z
theorem rU {a b c d : Nat} (ha : a < 4294967296) (hb : b < 4294967296) (hc : c < 4294967296) (hd : d < 4294967296) :
    IntKind.u64.wrap ((a : Int) * (b : Int)) = (a : Int) * b ∧ IntKind.u64.wrap ((a : Int) * (b : Int) + (c : Int)) = (a : Int) * b + c ∧ IntKind.u64.wrap ((a : Int) * (b : Int) + (c : Int) + (d : Int)) = (a : Int) * b + c + d ∧
      ∃ t : Nat, t = a * b + c + d ∧ (a : Int) * b + c + d = (t : Int) ∧ t < 18446744073709551616 := by
  have h : a * b ≤ 4294967295 * 4294967295 := Nat.mul_le_mul Z Z
  have e : (a : Int) * b = ((a * b : Nat) : Int) := by simp
  rw [e]
  refine ⟨IntWalk.u64_in _ Z, IntWalk.u64_in _ Z, IntWalk.u64_in _ Z, _, O, by omega, by omega⟩
theorem mD {a b c d : Nat} (ha : a < 4294967296) (hb : b < 4294967296) (hc : c < 4294967296) (hd : d < 4294967296) : a * b + c + d < 18446744073709551616 ∧ a * b ≤ 18446744065119617025 := by
  have : a * b ≤ 4294967295 * 4294967295 := Nat.mul_le_mul Z Z
  omega
set_option maxRecDepth 100000 in
set_option maxHeartbeats 2000000 in
theorem vC (va vb : Value) (la lb : List Nat) (w : World) (ha : Sl w va la) (hb : Sl w vb lb) (hsa : la.length ≤ 1000000000) (hsb : lb.length ≤ 1000000000) :
    Calls prog 211 #[va, vb] w (wU w (CB (val la * val lb))) := by
  obtain ⟨aoa, capa, rfl, ha1, ha2, ha3, _, ha4⟩ := ha
  obtain ⟨aob, capb, rfl, hb1, hb2, hb3, _, hb4⟩ := hb
  have HA := Lib.hid ha4
  have HB := Lib.hid hb4
  have WA := Lib.hid ha3
  have WB := Lib.hid hb3
  clear ha4 hb4 ha3 hb3
  unfold maxLen at ha2 hb2
  go_enter func211, ntmps211
  go_wp2_with (at_make; refine EQ _ rfl _ _ rfl _ _ (la.length + lb.length) rfl rfl ?c1 ?c2 ?c3 ?_)
  case c1 => omega
  case c2 => omega
  case c3 => omega
  intro w1 hown hbel hsz1
  go_wp2
  go_loopw [19] (fun i wr => ∃ (k : Nat) (r : List Nat), k ≤ la.length ∧ i = .int .i64 k ∧ MulInv la lb k r ∧ Own wr w.heap.size w.heap.size (la.length + lb.length) r ∧ Below w.heap.size w wr)
    (fun i _ => la.length - (intOf i).toNat)
  case atStart => exact ⟨0, _, by omega, rfl, MulInv.start _ _, hown, hbel⟩
  case round =>
    clear hown hbel hsz1
    obtain ⟨k, r, hk, rfl, hinv, hown, hbel⟩ := hrel
    by_cases hlt : k < la.length
    · obtain ⟨b, off, rfl, hca0⟩ := HA.out k hlt
      have hca := CV hca0 hbel
      have hxa := EI WA.out k
      go_wp2
      obtain ⟨wo, rfl⟩ : ∃ wo : World, wo = wr := ⟨_, rfl⟩
      go_loopw [7, 29] (fun c i wr => ∃ (j cr : Nat) (r : List Nat), j ≤ lb.length ∧ cr < 4294967296 ∧ i = .int .i64 j ∧ c = .int .u64 cr ∧ RowInv la lb k j cr r ∧ Own wr w.heap.size w.heap.size (la.length + lb.length) r ∧ Below w.heap.size w wr)
        (fun _ i _ => lb.length - (intOf i).toNat)
      case atStart => exact ⟨0, 0, r, by omega, by omega, rfl, rfl, hinv.row, hown, hbel⟩
      case round =>
        clear hown hbel hinv hca
        obtain ⟨j, cr, r, hj, hcr, rfl, rfl, hinv, hown, hbel⟩ := hrel
        by_cases hltb : j < lb.length
        · obtain ⟨b2, off2, rfl, hcb⟩ := HB.out j hltb
          have hcb := CV hcb hbel
          have hxb := EI WB.out j
          have hcr1 := hown.cell (k + j) Z
          have hfr := hown.free (k + j)
          have hxr := EI hinv.2.1 (k + j)
          have hmb := mD hxa hxb hxr hcr
          obtain ⟨s1, s2, s3, t, ht, s4, ht2⟩ := rU hxa hxb hxr hcr
          have HT := Lib.hid ht
          have q1 : IntKind.i64.wrap ((k : Int) + (j : Int)) = (k : Int) + (j : Int) := IntWalk.i64_in _ Z
          have q2 : (0 : Int) ≤ (k : Int) + (j : Int) := by omega
          have q3 : ((k : Int) + (j : Int)).toNat = k + j := by omega
          have q4 : ((k : Int) + (j : Int)) < (la.length : Int) + (lb.length : Int) := by omega
          clear ht hmb
          go_wp2
          go_quiet (fail)
          clear q1 q2 q3 q4 s1 s2 s3
          go_wp2
          go_roundw
          case rel =>
            exact ⟨j + 1, t / 4294967296, _, by omega, by omega, by go_num, by go_num, hinv.step hlt hltb t HT.out hxa hxb, Own.set (hown.drewN _) (k + j) _ (t % 4294967296) Z, (IB hbel _).setCell (Nat.le_refl _) _⟩
          case measure => simp [intOf]; omega
        · obtain rfl : j = lb.length := by omega
          have hcr1 := hown.cell (k + lb.length) Z
          have hfr := hown.free (k + lb.length)
          have hd := hinv.done hlt
          go_wp2
          go_roundw
          case rel => exact ⟨k + 1, _, by omega, by go_num, hd, hown.set (k + lb.length) _ cr Z, hbel.setCell (Nat.le_refl _) _⟩
          case measure => simp [intOf]; omega
    · obtain rfl : k = la.length := by omega
      have HD : Hid (val r = val la * val lb) := by
        have := hinv.2.2.1
        rwa [DO la _ (Nat.le_refl _)] at this
      go_wp2_with fail
      refine (MC _ r _ (hown.sl hinv.2.1)).mono ?_
      rintro e w' ⟨rfl, v', rfl, hsl⟩
      have hsl := hsl _ (hown.sl hinv.2.1)
      rw [HD.out] at hsl
      go_wp2
      go_ret
      exact ⟨v', rfl, hsl, hbel⟩
end Go.Proofs.YtmppigbbkjepiaaGreatDoor
