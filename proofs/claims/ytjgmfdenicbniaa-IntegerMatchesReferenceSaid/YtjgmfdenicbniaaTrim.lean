/- Walk: trim. -/
import Derived.Test.YtjgmfdenicbniaaMem
namespace Go.Proofs.Ytjgmfdenicbniaa
open Go.RowKit W
theorem trim_step (l : List Nat) (k : Nat) (hk : k < l.length) (h : gd l k = 0) : trimW (l.take (k + 1)) = trimW (l.take k) := by
  rw [List.take_succ_eq_append_getElem hk]
  have : l[k] = 0 := by rw [← gd_eq l k hk]; exact h
  rw [this, trimW_append_zero]
theorem trim_stop (l : List Nat) (k : Nat) (hk : k < l.length) (h : gd l k ≠ 0) : (trimW (l.take (k + 1))).length = k + 1 := by
  rw [List.take_succ_eq_append_getElem hk]
  have : l[k] ≠ 0 := by rw [← gd_eq l k hk]; exact h
  rw [trimW_last _ _ this]; simp; omega
theorem trim_any (ao : Option Addr) (cap : Nat) (l : List Nat) (w : World) (hlc : l.length ≤ cap) (hcm : cap ≤ maxLen)
    (hc : ∀ i, i < l.length → ∃ b off, ao = some ⟨b, off, none⟩ ∧ w.cell? ⟨b, off + i, none⟩ = some (.int .u32 ((gd l i : Nat) : Int))) :
    Calls Try.prog 59 #[.slice ao l.length cap] w fun e w' => e = .returned (.slice ao (trimW l).length cap) ∧ w = w' := by
  have HC := Lib.hid hc
  clear hc
  unfold maxLen at hcm
  go_enter Try.func59, Try.ntmps59
  go_wp2
  go_loop [3] (fun n => ∃ k : Nat, k ≤ l.length ∧ Hid (trimW (l.take k) = trimW l) ∧ n = .int .i64 k) (fun n => (intOf n).toNat)
  case atStart => exact ⟨l.length, Nat.le_refl _, by rw [List.take_length]; rfl, rfl⟩
  case round =>
    obtain ⟨k, hk, ht, rfl⟩ := hrel
    by_cases hk0 : k = 0
    · subst hk0
      go_wp2
      go_ret
      have : trimW l = [] := by rw [← ht.out]; rfl
      exact ⟨by rw [this]; rfl, rfl⟩
    · obtain ⟨j, rfl⟩ : ∃ j, k = j + 1 := ⟨k - 1, by omega⟩
      clear hk0
      obtain ⟨b, off, rfl, hc⟩ := HC.out j (by omega)
      by_cases hz : gd l j = 0
      · rw [hz] at hc
        have HT : Hid (trimW (l.take j) = trimW l) := by rw [← ht.out, trim_step l j (by omega) hz]; rfl
        clear hz ht
        go_wp2
        go_round
        case rel => exact ⟨j, by omega, HT, by go_num⟩
        case measure => simp [intOf]
      · have HT : (trimW l).length = j + 1 := by rw [← ht.out]; exact trim_stop l j (by omega) hz
        have hz' : (((gd l j : Nat) : Int) == 0) = false := by simpa using hz
        go_wp2
        go_ret
        exact ⟨rfl, rfl⟩
/-- trim, of whatever slice reads as a list: what it returns reads, in whatever world the slice reads so, as the canonical list. -/
theorem trim_sl (v : Value) (l : List Nat) (w : World) (h : Sl w v l) :
    Calls Try.prog 59 #[v] w fun e w' => w = w' ∧ ∃ v', e = .returned v' ∧ ∀ w2, Sl w2 v l → Sl w2 v' (digs (val l)) := by
  obtain ⟨ao, cap, rfl, h1, h2, h3, hn, h4⟩ := h
  refine (trim_any ao cap l w h1 h2 h4).mono fun e w' ⟨he, hw⟩ => ⟨hw, _, he, ?_⟩
  rintro w2 ⟨ao', cap', e', k1, k2, k3, kn, k4⟩
  cases e'
  rw [← trimW_eq h3]
  have hle := trimW_length_le l
  have htk := trimW_take l
  refine ⟨ao, cap, rfl, by omega, h2, by rw [htk]; exact Wd_take h3 _, hn, fun i hi => ?_⟩
  obtain ⟨b, off, h5, h6⟩ := k4 i (by omega)
  refine ⟨b, off, h5, ?_⟩
  rw [htk, gd_take _ _ _ hi]; exact h6
end Go.Proofs.Ytjgmfdenicbniaa
