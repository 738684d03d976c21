/- difference: the words of a difference that is not negative. -/
import Derived.Test.YtndpjfhhigpbhaaGreatMem
namespace Go.Proofs.YtndpjfhhigpbhaaGreat
open Go.RowKit W
/-- What holds of the rounds of a subtraction: k words are done, the borrow is c. -/
def DiffInv (la lb : List Nat) (k c : Nat) (r : List Nat) : Prop :=
  c ≤ 1 ∧ k ≤ la.length ∧ ∃ done : List Nat, r = done ++ List.replicate (la.length - k) 0 ∧ done.length = k ∧ Wd done ∧
    val done + val (lb.take k) = val (la.take k) + 4294967296 ^ k * c
theorem DiffInv.start (la lb : List Nat) : DiffInv la lb 0 0 (List.replicate la.length 0) :=
  ⟨by omega, by omega, [], by simp, rfl, Wd_nil, by simp [val]⟩
theorem DiffInv.step {la lb : List Nat} {k c : Nat} {r : List Nat} (h : DiffInv la lb k c r) (hk : k < la.length) (x c' : Nat) (hx : x < 4294967296) (hc' : c' ≤ 1)
    (he : x + gd lb k + c = gd la k + 4294967296 * c') :
    DiffInv la lb (k + 1) c' (r.set k x) := by
  obtain ⟨hc, hkn, done, rfl, hd, hw, hv⟩ := h
  refine ⟨hc', by omega, done ++ [x], ?_, by simp [hd], ?_, ?_⟩
  · have := set_done done (la.length - k) x (by omega)
    rw [hd] at this
    rw [this, Nat.sub_sub]
  · rw [Wd_append, Wd_cons]; exact ⟨hw, hx, Wd_nil⟩
  · rw [val_snoc, val_take_gd, val_take_gd, hd, Nat.pow_succ]
    have e := congrArg (4294967296 ^ k * ·) he
    simp only [Nat.mul_add] at e
    rw [Nat.mul_assoc]
    omega
theorem DiffInv.done {la lb : List Nat} {c : Nat} {r : List Nat} (h : DiffInv la lb la.length c r) (hb : lb.length ≤ la.length) (hw : Wd la) (hle : val lb ≤ val la) :
    Wd r ∧ val r = val la - val lb := by
  obtain ⟨hc, _, done, rfl, hd, hwd, hv⟩ := h
  rw [Nat.sub_self, List.replicate_zero, List.append_nil]
  rw [val_take_ge lb _ hb, val_take_ge la _ (Nat.le_refl _)] at hv
  have h1 := val_lt hwd
  rw [hd] at h1
  have h2 := val_lt hw
  refine ⟨hwd, ?_⟩
  rcases Nat.le_one_iff_eq_zero_or_eq_one.1 hc with rfl | rfl
  · omega
  · exfalso; omega
/-- The word and the borrow of one step, as the walk spells them. -/
theorem sub_step (a b c : Nat) (ha : a < 4294967296) (hb : b < 4294967296) (hc : c ≤ 1) :
    ∃ x c' : Nat, x < 4294967296 ∧ c' ≤ 1 ∧ x + b + c = a + 4294967296 * c' ∧
      IntKind.u64.wrap (IntKind.u64.wrap ((a : Int) - (c : Int)) - (b : Int)) % 4294967296 = (x : Int) ∧
      IntKind.u64.wrap (IntKind.u64.wrap ((a : Int) - (c : Int)) - (b : Int)) / 9223372036854775808 = (c' : Int) := by
  simp only [IntKind.wrap_u64]
  by_cases h : b + c ≤ a
  · exact ⟨a - b - c, 0, by omega, by omega, by omega, by omega, by omega⟩
  · exact ⟨4294967296 + a - b - c, 1, by omega, by omega, by omega, by omega, by omega⟩
theorem sub_step0 (a c : Nat) (ha : a < 4294967296) (hc : c ≤ 1) :
    ∃ x c' : Nat, x < 4294967296 ∧ c' ≤ 1 ∧ x + 0 + c = a + 4294967296 * c' ∧
      IntKind.u64.wrap ((a : Int) - (c : Int)) % 4294967296 = (x : Int) ∧
      IntKind.u64.wrap ((a : Int) - (c : Int)) / 9223372036854775808 = (c' : Int) := by
  simp only [IntKind.wrap_u64]
  by_cases h : c ≤ a
  · exact ⟨a - c, 0, by omega, by omega, by omega, by omega, by omega⟩
  · exact ⟨4294967296 + a - c, 1, by omega, by omega, by omega, by omega, by omega⟩
theorem val_u64 {a b : Int} (h : a = b) : Value.int .u64 a = .int .u64 b := by rw [h]
set_option maxHeartbeats 1000000 in
/-- difference: the words of the difference. -/
theorem difference_sl (va vb : Value) (la lb : List Nat) (w : World) (ha : Sl w va la) (hb : Sl w vb lb) (hsz : la.length ≤ 1000000000) (hl : lb.length ≤ la.length) (hle : val lb ≤ val la) :
    Calls Tryz.prog 80 #[va, vb] w (Ret w (digs (val la - val lb))) := by
  obtain ⟨aoa, capa, rfl, ha1, ha2, ha3, _, ha4⟩ := ha
  obtain ⟨aob, capb, rfl, hb1, hb2, hb3, _, hb4⟩ := hb
  have HA := Lib.hid ha4
  have HB := Lib.hid hb4
  have WA := Lib.hid ha3
  have WB := Lib.hid hb3
  have HLE := Lib.hid hle
  clear ha4 hb4 ha3 hb3 hle
  unfold maxLen at ha2 hb2
  go_enter Tryz.func80, Tryz.ntmps80
  go_wp2_with (at_make; refine wpList_make_w _ rfl _ _ rfl _ _ la.length rfl rfl ?c1 ?c2 ?c3 ?_)
  case c1 => rfl
  case c2 => rfl
  case c3 => omega
  intro w1 hown hbel hsz1
  go_wp2
  go_loopw [6, 14] (fun c i wr => ∃ (k cr : Nat) (r : List Nat), k ≤ la.length ∧ cr ≤ 1 ∧ i = .int .i64 k ∧ c = .int .u64 cr ∧ DiffInv la lb k cr r ∧ Own wr w.heap.size w.heap.size la.length r ∧ Below w.heap.size w wr)
    (fun _ i _ => la.length - (intOf i).toNat)
  case atStart => exact ⟨0, 0, _, by omega, by omega, rfl, rfl, DiffInv.start _ _, hown, hbel⟩
  case round =>
    clear hown hbel hsz1
    obtain ⟨k, cr, r, hk, hcr, rfl, rfl, hinv, hown, hbel⟩ := hrel
    by_cases hlt : k < la.length
    · obtain ⟨b, off, rfl, hca⟩ := HA.out k hlt
      have hca := cell_below hca hbel
      have hxa := gd_lt WA.out k
      have hxb := gd_lt WB.out k
      have hcr1 := hown.cell k (by omega)
      have hfr := hown.free k
      by_cases hltb : k < lb.length
      · obtain ⟨b2, off2, rfl, hcb⟩ := HB.out k hltb
        have hcb := cell_below hcb hbel
        go_wp2
        go_roundw
        case rel =>
          obtain ⟨x, c', h1, h2, h3, h4, h5⟩ := sub_step _ _ _ hxa hxb hcr
          exact ⟨k + 1, c', _, by omega, h2, by go_num, val_u64 h5, hinv.step (by omega) x c' h1 h2 h3, hown.set k _ _ h4, hbel.setCell (Nat.le_refl _) _⟩
        case measure => simp [intOf]; omega
      · have HGB := Lib.hid (gd_ge lb k (by omega))
        go_wp2
        go_roundw
        case rel =>
          obtain ⟨x, c', h1, h2, h3, h4, h5⟩ := sub_step0 _ _ hxa hcr
          exact ⟨k + 1, c', _, by omega, h2, by go_num, val_u64 h5, hinv.step (by omega) x c' h1 h2 (by rw [HGB.out]; exact h3), hown.set k _ _ h4, hbel.setCell (Nat.le_refl _) _⟩
        case measure => simp [intOf]; omega
    · obtain rfl : k = la.length := by omega
      have HD := Lib.hid (hinv.done hl WA.out HLE.out)
      go_wp2_with fail
      refine (trim_sl _ r _ (hown.sl HD.out.1)).mono ?_
      rintro e w' ⟨rfl, v', rfl, hsl⟩
      have hsl := hsl _ (hown.sl HD.out.1)
      rw [HD.out.2] at hsl
      go_wp2
      go_ret
      exact ⟨v', rfl, hsl, hbel⟩
end Go.Proofs.YtndpjfhhigpbhaaGreat
