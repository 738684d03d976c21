/- The reference for integers, first part: trim, words, made, Of, Same, Valid, Sign. The reference for integers, second part: Of, Valid, Sign, Made. -/
import Derived.Test.YtndpjfhhigpbhaaGreatBoxI
namespace Go.Proofs.YtndpjfhhigpbhaaGreat
open Go.RowKit W
theorem rtrim_any (ao : Option Addr) (cap : Nat) (l : List Nat) (w : World) (hlc : l.length ≤ cap) (hcm : cap ≤ maxLen)
    (hc : ∀ i, i < l.length → ∃ b off, ao = some ⟨b, off, none⟩ ∧ w.cell? ⟨b, off + i, none⟩ = some (.int .u32 ((gd l i : Nat) : Int))) :
    Calls Tryz.prog 95 #[.slice ao l.length cap] w fun e w' => e = .returned (.slice ao (trimW l).length cap) ∧ w = w' := by
  have HC := Lib.hid hc
  clear hc
  unfold maxLen at hcm
  go_enter Tryz.func95, Tryz.ntmps95
  go_wp2
  go_loop [3] (fun n => ∃ k : Nat, k ≤ l.length ∧ Hid (trimW (l.take k) = trimW l) ∧ n = .int .i64 k) (fun n => (intOf n).toNat)
  case atStart => exact ⟨l.length, Nat.le_refl _, by rw [List.take_length]; rfl, rfl⟩
  case round =>
    obtain ⟨k, hk, ht, rfl⟩ := hrel
    by_cases hk0 : k = 0
    · subst hk0
      go_wp2
      go_ret
      have : trimW l = [] := by rw [← ht.out]; rfl
      exact ⟨by rw [this]; rfl, rfl⟩
    · obtain ⟨j, rfl⟩ : ∃ j, k = j + 1 := ⟨k - 1, by omega⟩
      clear hk0
      obtain ⟨b, off, rfl, hc⟩ := HC.out j (by omega)
      by_cases hz : gd l j = 0
      · rw [hz] at hc
        have HT : Hid (trimW (l.take j) = trimW l) := by rw [← ht.out, trim_step l j (by omega) hz]; rfl
        clear hz ht
        go_wp2
        go_round
        case rel => exact ⟨j, by omega, HT, by go_num⟩
        case measure => simp [intOf]
      · have HT : (trimW l).length = j + 1 := by rw [← ht.out]; exact trim_stop l j (by omega) hz
        have hz' : (((gd l j : Nat) : Int) == 0) = false := by simpa using hz
        go_wp2
        go_ret
        exact ⟨rfl, rfl⟩
/-- trim, of whatever slice reads as a list: what it returns reads, in whatever world the slice reads so, as the canonical list. -/
theorem rtrim_sl (v : Value) (l : List Nat) (w : World) (h : Sl w v l) :
    Calls Tryz.prog 95 #[v] w fun e w' => w = w' ∧ ∃ v', e = .returned v' ∧ ∀ w2, Sl w2 v l → Sl w2 v' (digs (val l)) := by
  obtain ⟨ao, cap, rfl, h1, h2, h3, hn, h4⟩ := h
  refine (rtrim_any ao cap l w h1 h2 h4).mono fun e w' ⟨he, hw⟩ => ⟨hw, _, he, ?_⟩
  rintro w2 ⟨ao', cap', e', k1, k2, k3, kn, k4⟩
  cases e'
  rw [← trimW_eq h3]
  have hle := trimW_length_le l
  have htk := trimW_take l
  refine ⟨ao, cap, rfl, by omega, h2, by rw [htk]; exact Wd_take h3 _, hn, fun i hi => ?_⟩
  obtain ⟨b, off, h5, h6⟩ := k4 i (by omega)
  refine ⟨b, off, h5, ?_⟩
  rw [htk, gd_take _ _ _ hi]; exact h6
set_option maxHeartbeats 400000 in
theorem rwords_sl (m : Nat) (w : World) (h : m < 18446744073709551616) :
    Calls Tryz.prog 72 #[.int .u64 m] w (Ret w (digs m)) := by
  go_enter Tryz.func72, Tryz.ntmps72
  have hw := words_val m h
  have HV := Lib.hid hw
  clear hw
  go_wp2_with fail
  refine (rtrim_sl _ _ _ (Sl_lit2 w _ _ (m % 4294967296) (m / 4294967296) (by omega) (by omega) HV.out.1)).mono ?_
  rintro e w' ⟨rfl, v', rfl, hsl⟩
  have hsl := hsl _ (Sl_lit2 w ((m : Int) % 4294967296) ((m : Int) / 4294967296) (m % 4294967296) (m / 4294967296) (by omega) (by omega) HV.out.1)
  rw [HV.out.2] at hsl
  go_wp2
  go_ret
  exact ⟨v', rfl, hsl, (Below.refl _ _).alloc (Nat.le_refl _) _⟩
set_option maxHeartbeats 1000000 in
theorem made_sl (neg : Bool) (v : Value) (l : List Nat) (z : Int) (w : World) (h : Sl w v l) (hz : sgnI neg (val l) = z) :
    Calls Tryz.prog 71 #[.bool neg, v] w (RetZ w z) := by
  subst hz
  have H := Lib.hid h
  clear h
  go_enter Tryz.func71, Tryz.ntmps71
  go_wp2_with fail
  refine (rtrim_sl _ l _ (H.out.below ((Below.refl _ _).alloc (Nat.le_refl _) _))).mono ?_
  rintro e w' ⟨rfl, v', rfl, hsl⟩
  obtain ⟨ao, cap, rfl, g1, g2, g3, gn, g4⟩ := hsl w H.out
  have HS := Lib.hid hsl
  clear hsl g4 gn
  by_cases hz : val l = 0
  · have h0 : (digs (val l)).length = 0 := by rw [hz, digs_zero]; rfl
    have hb : decide ((0 : Int) < ((digs (val l)).length : Int)) = false := by rw [h0]; rfl
    have HZ := Lib.hid hz
    clear hz h0
    cases neg
    all_goals
      go_wp2
      refine bodyPost_ret (v := .agg #[.bool false, .slice ao (digs (val l)).length cap]) (by first | (simp [results, Tryz.results71, go_sem]; done) | (simp [results, Tryz.results71, go_sem]; exact (digs_nil_iff _).2 HZ.out)) rfl ⟨_, rfl, ⟨.slice ao (digs (val l)).length cap, ?_, ?_⟩, (Below.refl _ _).alloc (Nat.le_refl _) _⟩
      · rw [HZ.out, sgnI_zero]; rfl
      · rw [sgnI_abs]
        exact HS.out _ (H.out.below ((Below.refl _ _).alloc (Nat.le_refl _) _))
  · have h0 : (digs (val l)).length ≠ 0 := fun e => hz ((digs_nil_iff _).1 (List.eq_nil_of_length_eq_zero e))
    have hb : decide ((0 : Int) < ((digs (val l)).length : Int)) = true := by simp; omega
    have HZ := Lib.hid hz
    clear hz h0
    cases neg
    · go_wp2
      refine bodyPost_ret (v := .agg #[.bool false, .slice ao (digs (val l)).length cap]) (by simp [results, Tryz.results71, go_sem]) rfl ⟨_, rfl, ⟨.slice ao (digs (val l)).length cap, ?_, ?_⟩, (Below.refl _ _).alloc (Nat.le_refl _) _⟩
      · rw [sgnI_lt _ _ HZ.out]
      · rw [sgnI_abs]
        exact HS.out _ (H.out.below ((Below.refl _ _).alloc (Nat.le_refl _) _))
    · go_wp2
      refine bodyPost_ret (v := .agg #[.bool true, .slice ao (digs (val l)).length cap]) (by simp [results, Tryz.results71, go_sem]; exact Nat.pos_of_ne_zero fun e => HZ.out ((digs_nil_iff _).1 (List.eq_nil_of_length_eq_zero e))) rfl ⟨_, rfl, ⟨.slice ao (digs (val l)).length cap, ?_, ?_⟩, (Below.refl _ _).alloc (Nat.le_refl _) _⟩
      · rw [sgnI_lt _ _ HZ.out]
      · rw [sgnI_abs]
        exact HS.out _ (H.out.below ((Below.refl _ _).alloc (Nat.le_refl _) _))
end Go.Proofs.YtndpjfhhigpbhaaGreat
namespace Go.Proofs.YtndpjfhhigpbhaaGreat
open Go.RowKit W
set_option maxHeartbeats 1000000 in
theorem ROf_z (n : Int) (w : World) (h1 : -9223372036854775808 ≤ n) (h2 : n ≤ 9223372036854775807) :
    Calls Tryz.prog 41 #[.int .i64 n] w (RetZ w n) := by
  obtain ⟨W, hW, hsz, B0, k1⟩ := boxes01 w
  have K1 := Lib.hid k1
  clear k1
  by_cases hn : n < 0
  · obtain ⟨k, hk⟩ : ∃ k : Nat, -(n + 1) = (k : Int) := ⟨(-(n + 1)).natAbs, by omega⟩
    have hz : sgnI true (k + 1) = n := by simp [sgnI]; omega
    have HZ := Lib.hid hz
    have hk2 : k < 9223372036854775808 := by omega
    have HK := Lib.hid hk
    clear hz hk
    go_enter Tryz.func41, Tryz.ntmps41
    go_upto_region 1 with fail
    rw [← hW]
    clear hW
    go_wp2_with fail
    rw [show -(n + 1) + 1 = ((k + 1 : Nat) : Int) by have := HK.out; omega]
    refine (rwords_sl (k + 1) _ (by omega)).mono ?_
    rintro e w1 ⟨v1, rfl, hv1, hb1⟩
    go_wp2_with fail
    obtain ⟨z, hzk⟩ : ∃ z : Int, z = n := ⟨_, rfl⟩
    rw [← hzk] at HZ ⊢
    have HZK := Lib.hid hzk
    clear hzk hn h1 h2
    refine (made_sl _ _ _ z _ hv1 (by rw [val_digs]; exact HZ.out)).mono ?_
    rintro e w2 ⟨v2, rfl, hz, hb2⟩
    obtain ⟨ao2, cap2, rfl, sl2, _, _⟩ := hz.parts
    have hrb := (K1.out.keep hb1).keep hb2
    have HRB := Lib.hid hrb
    obtain ⟨⟨n0, ao0, len0, cap0, g0, g1⟩, g2, g3⟩ := hrb
    have B2 : Below w.heap.size w w2 := (B0.trans (hb1.mono B0.size)).trans (hb2.mono (Nat.le_trans B0.size hb1.size))
    go_wp2_with fail
    refine bodyPost_ret (v := .agg #[.bool (decide (z < 0)), .slice ao2 (digs z.natAbs).length cap2]) ?_ rfl ((ret_box hz HRB.out B2 (by omega)).eq HZK.out)
    simp [results, Tryz.results41, go_sem, g0, g1]
  · obtain ⟨k, rfl⟩ : ∃ k : Nat, n = (k : Int) := ⟨n.natAbs, by omega⟩
    have hz : sgnI false k = (k : Int) := rfl
    have HZ := Lib.hid hz
    have hd : decide ((k : Int) < 0) = false := by simp
    go_enter Tryz.func41, Tryz.ntmps41
    go_upto_region 1 with fail
    rw [← hW]
    clear hW
    go_wp2_with fail
    refine (rwords_sl k _ (by omega)).mono ?_
    rintro e w1 ⟨v1, rfl, hv1, hb1⟩
    go_wp2_with fail
    obtain ⟨z, hzk⟩ : ∃ z : Int, z = (k : Int) := ⟨_, rfl⟩
    rw [← hzk]
    refine (made_sl _ _ _ z _ hv1 (by rw [val_digs, hzk]; rfl)).mono ?_
    have HZK := Lib.hid hzk
    clear hzk hz hd
    rintro e w2 ⟨v2, rfl, hz, hb2⟩
    obtain ⟨ao2, cap2, rfl, sl2, _, _⟩ := hz.parts
    have hrb := (K1.out.keep hb1).keep hb2
    have HRB := Lib.hid hrb
    obtain ⟨⟨n0, ao0, len0, cap0, g0, g1⟩, g2, g3⟩ := hrb
    have B2 : Below w.heap.size w w2 := (B0.trans (hb1.mono B0.size)).trans (hb2.mono (Nat.le_trans B0.size hb1.size))
    go_wp2_with fail
    refine bodyPost_ret (v := .agg #[.bool (decide (z < 0)), .slice ao2 (digs z.natAbs).length cap2]) ?_ rfl ((ret_box hz HRB.out B2 (by omega)).eq HZK.out)
    simp [results, Tryz.results41, go_sem, g0, g1]
end Go.Proofs.YtndpjfhhigpbhaaGreat
