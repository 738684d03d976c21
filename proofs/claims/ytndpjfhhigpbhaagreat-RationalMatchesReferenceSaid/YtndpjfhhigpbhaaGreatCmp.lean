/- compare: two canonical lists of words compare as their numbers. -/
import Derived.Test.YtndpjfhhigpbhaaGreatMem
import Derived.BigQuiet
import Derived.Deep.QuietTactic
namespace Go.Proofs.YtndpjfhhigpbhaaGreat
open Go.RowKit W
theorem ret_i64 {a b : Int} (h : a = b) : Ending.returned (.int .i64 a) = .returned (.int .i64 b) := by rw [h]
theorem cmpI_lt {x y : Int} (h : x < y) : cmpI x y = -1 := by unfold cmpI; rw [if_pos h]
theorem cmpI_gt {x y : Int} (h : y < x) : cmpI x y = 1 := by unfold cmpI; rw [if_neg (by omega), if_neg (by omega)]
theorem cmpI_eq {x y : Int} (h : x = y) : cmpI x y = 0 := by unfold cmpI; rw [if_neg (by omega), if_pos h]
/-- From k on both lists are equal. -/
def SameFrom (a b : List Nat) (k : Nat) : Prop := ∀ j, k ≤ j → j < a.length → gd a j = gd b j
theorem SameFrom.start (a b : List Nat) : SameFrom a b a.length := fun j h1 h2 => by omega
theorem SameFrom.step {a b : List Nat} {k : Nat} (h : SameFrom a b (k + 1)) (e : gd a k = gd b k) : SameFrom a b k := by
  intro j h1 h2
  rcases Nat.lt_or_ge k j with h3 | h3
  · exact h j h3 h2
  · obtain rfl : j = k := by omega
    exact e
theorem SameFrom.lt {m n k : Nat} (h : SameFrom (digs m) (digs n) (k + 1)) (hl : (digs m).length = (digs n).length) (hk : k < (digs m).length) (hx : gd (digs m) k < gd (digs n) k) : m < n := by
  have := val_cmp_at hl (Wd_digs m) k hk (fun j h1 h2 => h j h1 h2) hx
  rwa [val_digs, val_digs] at this
theorem SameFrom.gt {m n k : Nat} (h : SameFrom (digs m) (digs n) (k + 1)) (hl : (digs m).length = (digs n).length) (hk : k < (digs m).length) (hx : gd (digs n) k < gd (digs m) k) : n < m := by
  have := val_cmp_at hl.symm (Wd_digs n) k (by omega) (fun j h1 h2 => (h j h1 (by omega)).symm) hx
  rwa [val_digs, val_digs] at this
theorem SameFrom.eq {m n : Nat} (h : SameFrom (digs m) (digs n) 0) (hl : (digs m).length = (digs n).length) : m = n :=
  digs_inj (ext_gd hl fun i hi => h i (Nat.zero_le _) hi)
/-- The post of a function that reads and returns an int. -/
def RetI (w0 : World) (x : Int) (e : Ending) (w' : World) : Prop := e = .returned (.int .i64 x) ∧ ∃ q, w' = w0.drewN q
set_option maxHeartbeats 1000000 in
theorem compare_any (va vb : Value) (m n : Nat) (w : World) (ha : Sl w va (digs m)) (hb : Sl w vb (digs n)) :
    Calls Tryz.prog 57 #[va, vb] w (RetI w (cmpI m n)) := by
  obtain ⟨aoa, capa, rfl, ha1, ha2, ha3, _, ha4⟩ := ha
  obtain ⟨aob, capb, rfl, hb1, hb2, hb3, _, hb4⟩ := hb
  have HA := Lib.hid ha4
  have HB := Lib.hid hb4
  have WA := Lib.hid ha3
  have WB := Lib.hid hb3
  clear ha4 hb4 ha3 hb3
  unfold maxLen at ha2 hb2
  by_cases hne : (digs m).length = (digs n).length
  · have hd : (((digs m).length : Int) != ((digs n).length : Int)) = false := by rw [bne_eq_false_iff_eq]; omega
    have HL := Lib.hid hne
    have hl1 : (digs m).length ≤ (digs n).length := by omega
    have hl2 : (digs n).length ≤ (digs m).length := by omega
    clear hne
    go_enter Tryz.func57, Tryz.ntmps57
    go_wp2
    go_loopw [5] (fun i wr => ∃ (k : Nat) (z : Int), k ≤ (digs m).length ∧ z + 1 ≤ k ∧ k ≤ z + 1 ∧ i = .int .i64 z ∧ SameFrom (digs m) (digs n) k ∧ ∃ q, wr = w.drewN q) (fun i _ => (intOf i + 1).toNat)
    case atStart => exact ⟨_, _, Nat.le_refl _, by omega, by omega, rfl, SameFrom.start _ _, 0, rfl⟩
    case round =>
      obtain ⟨k, z, hk, hz1, hz2, rfl, hs, q, rfl⟩ := hrel
      by_cases hk0 : k = 0
      · subst hk0
        have hz : z < 0 := by omega
        go_wp2
        go_ret
        exact ⟨ret_i64 (cmpI_eq (by rw [hs.eq HL.out])).symm, q, rfl⟩
      · obtain ⟨j, rfl⟩ : ∃ j, k = j + 1 := ⟨k - 1, by omega⟩
        obtain rfl : z = (j : Int) := by omega
        clear hk0
        obtain ⟨b, off, rfl, hca⟩ := HA.out j (by omega)
        obtain ⟨b2, off2, rfl, hcb⟩ := HB.out j (by omega)
        rcases Nat.lt_trichotomy (gd (digs m) j) (gd (digs n) j) with hx | hx | hx
        · have h1 : (((gd (digs m) j : Nat) : Int) != ((gd (digs n) j : Nat) : Int)) = true := by rw [bne_iff_ne]; omega
          go_wp2
          go_quiet (fail)
          go_wp2
          go_quiet (fail)
          go_wp2
          go_ret
          exact ⟨ret_i64 (cmpI_lt (by have := hs.lt HL.out (by omega) hx; omega)).symm, _, by simp only [World.drewN_drewN]; rfl⟩
        · have h1 : (((gd (digs m) j : Nat) : Int) != ((gd (digs n) j : Nat) : Int)) = false := by rw [bne_eq_false_iff_eq]; omega
          have hst := hs.step hx
          clear hx hs
          go_wp2
          go_quiet (fail)
          go_wp2
          go_roundw
          case rel => exact ⟨j, _, by omega, by omega, by omega, rfl, hst, (by first | exact ⟨_, rfl⟩ | exact ⟨_, by simp only [World.drewN_drewN]; rfl⟩)⟩
          case measure => simp [intOf]
        · have h1 : (((gd (digs m) j : Nat) : Int) != ((gd (digs n) j : Nat) : Int)) = true := by rw [bne_iff_ne]; omega
          go_wp2
          go_quiet (fail)
          go_wp2
          go_quiet (fail)
          go_wp2
          go_ret
          exact ⟨ret_i64 (cmpI_gt (by have := hs.gt HL.out (by omega) hx; omega)).symm, _, by simp only [World.drewN_drewN]; rfl⟩
  · by_cases hlt : (digs m).length < (digs n).length
    · have hmn := digs_lt_of_length hlt
      have HR := Lib.hid (cmpI_lt (x := m) (y := n) (by omega))
      have hd : (((digs m).length : Int) != ((digs n).length : Int)) = true := by rw [bne_iff_ne]; omega
      clear hne hmn
      go_enter Tryz.func57, Tryz.ntmps57
      go_wp2
      go_ret
      exact ⟨ret_i64 HR.out.symm, 0, rfl⟩
    · have hmn := digs_lt_of_length (m := n) (n := m) (by omega)
      have HR := Lib.hid (cmpI_gt (x := m) (y := n) (by omega))
      have hd : (((digs m).length : Int) != ((digs n).length : Int)) = true := by rw [bne_iff_ne]; omega
      clear hne hmn
      go_enter Tryz.func57, Tryz.ntmps57
      go_wp2
      go_ret
      exact ⟨ret_i64 HR.out.symm, 0, rfl⟩
end Go.Proofs.YtndpjfhhigpbhaaGreat
