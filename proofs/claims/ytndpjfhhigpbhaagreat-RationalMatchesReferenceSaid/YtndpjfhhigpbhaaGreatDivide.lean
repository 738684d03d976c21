/- divide: quotient and remainder of absolute values. -/
import Derived.Test.YtndpjfhhigpbhaaGreatQw
import Derived.Test.YtndpjfhhigpbhaaGreatCmp
import Derived.Test.YtndpjfhhigpbhaaGreatSmall
import Derived.Lib.ItoaNum
import Derived.Deep.RegionWith
namespace Go.Proofs.YtndpjfhhigpbhaaGreat
open Go.RowKit W
/-- What a division leaves: two lists of words. -/
def RetDv (w0 : World) (q r : Nat) (e : Ending) (w' : World) : Prop := ∃ v u, e = .returned (.tuple #[v, u]) ∧ Sl w' v (digs q) ∧ Sl w' u (digs r) ∧ Below w0.heap.size w0 w'
/-- The shift of a word. -/
theorem shift_of (x : Nat) (h0 : 0 < x) (h1 : x < 4294967296) : ∃ s : Nat, s < 32 ∧ (32 : Int) - (Lib.bitLen x : Int) = (s : Int) ∧ 2147483648 ≤ x * 2 ^ s ∧ x * 2 ^ s + 2 ^ s ≤ 4294967296 := by
  obtain ⟨h2, h3, h4⟩ := Lib.bitLenAux_bounds 64 x (by omega) (by omega)
  have h5 := Lib.bitLen_le x 32 (by omega) h1
  unfold Lib.bitLen at *
  generalize Lib.bitLenAux 64 x = b at *
  obtain ⟨c, rfl⟩ : ∃ c, b = c + 1 := ⟨b - 1, by omega⟩
  rw [Nat.add_sub_cancel] at h3
  refine ⟨31 - c, by omega, by omega, ?_, ?_⟩
  · have := Nat.mul_le_mul_right (2 ^ (31 - c)) h3
    rw [← Nat.pow_add, show c + (31 - c) = 31 by omega] at this
    exact this
  · have := Nat.mul_le_mul_right (2 ^ (31 - c)) (show x + 1 ≤ 2 ^ (c + 1) by omega)
    rw [← Nat.pow_add, show c + 1 + (31 - c) = 32 by omega, Nat.add_mul, Nat.one_mul] at this
    exact this
set_option maxRecDepth 100000 in
set_option maxHeartbeats 4000000 in
theorem divide_sl (va vb : Value) (la lb : List Nat) (w : World) (ha : Sl w va la) (hb : Sl w vb lb) (hsa : la.length ≤ 1000000000) (hsb : lb.length ≤ 1000000000) (hpos : 0 < val lb) :
    Calls Tryz.prog 86 #[va, vb] w (RetDv w (val la / val lb) (val la % val lb)) := by
  have HA := Lib.hid ha
  have HB := Lib.hid hb
  have hda : (digs (val la)).length ≤ 1000000000 := by rw [← trimW_eq ha.wd]; exact Nat.le_trans (trimW_length_le _) hsa
  have hdb : (digs (val lb)).length ≤ 1000000000 := by rw [← trimW_eq hb.wd]; exact Nat.le_trans (trimW_length_le _) hsb
  clear ha hb
  obtain ⟨A, hA⟩ : ∃ A, A = val la := ⟨_, rfl⟩
  obtain ⟨Bn, hB⟩ : ∃ Bn, Bn = val lb := ⟨_, rfl⟩
  rw [← hA] at hda ⊢
  rw [← hB] at hdb hpos ⊢
  have HAV := Lib.hid hA
  have HBV := Lib.hid hB
  clear hA hB hsa hsb
  go_enter Tryz.func86, Tryz.ntmps86
  go_wp2_with fail
  refine (trim_sl _ la _ HA.out).mono ?_
  rintro e w' ⟨rfl, v1, rfl, h1⟩
  have S1 := Lib.hid (h1 _ HA.out)
  rw [← HAV.out] at S1
  clear h1
  go_wp2_with fail
  refine (trim_sl _ lb _ HB.out).mono ?_
  rintro e w' ⟨rfl, v2, rfl, h2⟩
  have S2 := Lib.hid (h2 _ HB.out)
  rw [← HBV.out] at S2
  clear h2
  go_wp2_with fail
  refine (compare_any _ _ A Bn _ S1.out S2.out).mono ?_
  rintro e w' ⟨rfl, d1, rfl⟩
  by_cases hlt : A < Bn
  · rw [cmpI_lt (by omega : (A : Int) < (Bn : Int))]
    go_wp2_with fail
    refine (clone_sl _ (digs A) _ (S1.out.drewN _) (by omega)).mono ?_
    rintro e w' ⟨v3, rfl, h3, hb3⟩
    go_wp2_with fail
    go_ret2
    refine ⟨_, v3, rfl, ?_, ?_, bel_undrewN hb3⟩
    · rw [Nat.div_eq_of_lt hlt, digs_zero]; exact Sl_nil _
    · rw [Nat.mod_eq_of_lt hlt]; exact h3
  · have hc : ¬ cmpI (A : Int) (Bn : Int) < 0 := by
      rcases Nat.lt_or_ge Bn A with h | h
      · rw [cmpI_gt (by omega)]; omega
      · rw [cmpI_eq (by omega)]; omega
    obtain ⟨aob, capb, rfl, b1, b2, b3, bn, b4⟩ := S2.out
    obtain ⟨aoa, capa, rfl, a1, a2, a3, an, a4⟩ := S1.out
    have HA4 := Lib.hid a4
    have HB4 := Lib.hid b4
    unfold maxLen at a2 b2
    have hlen := digs_length_mono (show Bn ≤ A by omega)
    have hn0 : 0 < (digs Bn).length := by
      rcases Nat.eq_zero_or_pos (digs Bn).length with e | e
      · exact absurd ((digs_nil_iff _).1 (List.eq_nil_of_length_eq_zero e)) (by omega)
      · exact e
    clear a4 b4 an bn a3 b3
    by_cases hone : (digs Bn).length = 1
    · have hob : (((digs Bn).length : Int) == 1) = true := by rw [beq_iff_eq]; omega
      obtain ⟨b, off, rfl, hcell⟩ := HB4.out 0 (by omega)
      have hg : gd (digs Bn) 0 = Bn := by
        have := val_take_ge (digs Bn) 1 (by omega)
        rw [val_take_gd, val_digs] at this
        simpa [val] using this
      rw [hg, Nat.add_zero] at hcell
      have hBlt : Bn < 4294967296 := by rw [← hg]; exact gd_lt (Wd_digs _) 0
      have HONE := Lib.hid hone
      clear hone hg
      go_wp2_with fail
      refine (divideSmall_sl _ (digs A) Bn _ (S1.out.drewN _) hda (by omega) hBlt).mono ?_
      rintro e w' ⟨v3, rfl, h3, hb3⟩
      rw [val_digs] at h3 ⊢
      go_wp2_with fail
      have hm := Nat.mod_lt A (show 0 < Bn by omega)
      refine (words_sl (A % Bn) _ (by omega)).mono ?_
      rintro e w'' ⟨v4, rfl, h4, hb4⟩
      go_wp2_with fail
      go_ret2
      exact ⟨v3, v4, rfl, h3.below hb4, h4, (bel_undrewN hb3).trans (hb4.mono hb3.size)⟩
    · have hob : (((digs Bn).length : Int) == 1) = false := by rw [beq_eq_false_iff_ne]; omega
      obtain ⟨k, hk⟩ : ∃ k, (digs Bn).length = k + 1 := ⟨(digs Bn).length - 1, by omega⟩
      obtain ⟨b, off, rfl, hcell⟩ := HB4.out k (by omega)
      have hk1 : ((digs Bn).length : Int) - 1 = (k : Int) := by omega
      have hk2 : ((digs Bn).length : Int) = (k : Int) + 1 := by omega
      have HK := Lib.hid hk
      have HK2 := Lib.hid hk2
      have hgl := gd_lt (Wd_digs Bn) k
      have hgp : 0 < gd (digs Bn) k := by
        obtain ⟨l', x, e1, e2, _⟩ := digs_last Bn hpos
        have e3 : l'.length = k := by have := congrArg List.length e1; rw [hk] at this; simp at this; omega
        rw [e1, gd_append_right _ _ _ (by omega), e3, Nat.sub_self]
        exact e2
      obtain ⟨s, hs32, hs, hlo, hhi⟩ := shift_of _ hgp hgl
      have HS := Lib.hid hs
      have HLO := Lib.hid hlo
      have HHI := Lib.hid hhi
      have hkp : 1 ≤ k := by omega
      have hka : k + 1 ≤ (digs A).length := by omega
      clear hk hk2 hs hlo hhi hone
      go_wp2_with fail
      refine (Tryz.bits_LeadingZeros32 _ _ (by omega) (by omega)).mono ?_
      rintro e w' ⟨rfl, rfl⟩
      rw [Int.toNat_natCast, HS.out]
      go_wp2_with fail
      refine (shiftLeft_sl _ (digs A) s _ (S1.out.drewN _) hda hs32).mono ?_
      rintro e w1 ⟨rfl, lu, ou, wu, eu, bu⟩
      rw [val_digs] at eu
      have hsz1 := ou.lt
      have S2' := Lib.hid ((S2.out.drewN d1).below bu)
      go_wp2_with fail
      refine (shiftLeft_sl _ (digs Bn) s _ S2'.out hdb hs32).mono ?_
      rintro e w2 ⟨rfl, lw, ow, ww, ew, bw⟩
      rw [val_digs] at ew
      have hsz2 := ow.lt
      rw [HK.out] at ow
      have hww := ow.len
      go_wp2_with (at_make; refine wpList_make_w _ rfl _ _ rfl _ _ ((digs A).length - k) rfl rfl ?c1 ?c2 ?c3 ?_)
      case c1 => have := HK2.out; omega
      case c2 => have := HK2.out; omega
      case c3 => omega
      intro w3 oq bq hsz3
      have hdr : (w.drewN d1).heap.size = w.heap.size := rfl
      rw [hdr] at ou hsz1 bu
      have hbw := bu.size
      rw [hdr] at hbw
      have ou3 := (ou.below bw).below bq
      have ow3 := ow.below bq
      have hB3 : Below w.heap.size w w3 := ((bel_undrewN bu).trans (bw.mono (by omega))).trans (bq.mono (by omega))
      have hst := LdInv.start (A := A) (m := (digs A).length - k) rfl hn0 (by have := HK.out; omega) wu (by rw [ou.len]; have := HK.out; omega) eu ww (by rw [hww, HK.out]) ew hs32
        (by rw [HK.out]; exact HLO.out) (by rw [HK.out]; exact HHI.out)
      obtain ⟨hV1, hV2, hV3, hV4, hL⟩ := hst
      obtain ⟨lv, hlv⟩ : ∃ lv, lv = lw.take (digs Bn).length := ⟨_, rfl⟩
      rw [← hlv] at hV1 hV2 hV3 hV4 hL
      have HLVE := Lib.hid hlv
      have HV1 := Lib.hid hV1
      have HV2 := Lib.hid hV2
      have HV3 := Lib.hid hV3
      have HV4 := Lib.hid hV4
      clear hV1 hV2 hV3 hV4 hlv eu ew hww wu ww bu bw bq ou ow hdr
      go_wp2_with fail
      go_loopw [13] (fun i wr => ∃ (m : Nat) (z : Int) (l q : List Nat), m ≤ (digs A).length - k ∧ z + 1 ≤ m ∧ m ≤ z + 1 ∧ i = .int .i64 z ∧ LdInv lv (A * 2 ^ s) m l q ∧
          Own wr w.heap.size w.heap.size ((digs A).length + 1) l ∧ Own wr w1.heap.size w1.heap.size (k + 1 + 1) lw ∧ Own wr w2.heap.size w2.heap.size ((digs A).length - k) q ∧ Below w.heap.size w wr)
        (fun i _ => (intOf i + 1).toNat)
      case atStart => exact ⟨(digs A).length - k, _, lu, _, Nat.le_refl _, by have := HK2.out; omega, by have := HK2.out; omega, rfl, hL, ou3, ow3, oq, hB3⟩
      case round =>
        clear hL ou3 ow3 oq hB3
        obtain ⟨m, z, l, q, hm, hz1, hz2, rfl, hinv, ou, ow, oq, hB3⟩ := hrel
        by_cases hm0 : m = 0
        · subst hm0
          have hz : z < 0 := by omega
          have hd := hinv.done HV3.out
          have hwl := hinv.1
          have hwq := hinv.2.1
          rw [HV1.out, HV2.out, shift_div] at hd
          have hln := ou.len
          have SQ := oq.sl hwq
          have SU : Sl wr (.slice (some ⟨w.heap.size, 0, none⟩) (digs Bn).length ((digs A).length + 1)) (l.take (digs Bn).length) := by
            obtain ⟨ao, cap, e, g1, g2, g3, gn, g4⟩ := ou.sl hwl
            simp only [Value.slice.injEq] at e
            obtain ⟨rfl, -, rfl⟩ := e
            have e2 : (l.take (digs Bn).length).length = (digs Bn).length := by rw [List.length_take]; have := HK.out; omega
            refine ⟨_, _, by rw [e2], by rw [e2]; have := HK.out; omega, g2, Wd_take g3 _, (fun h => by cases h), fun i hi => ?_⟩
            rw [e2] at hi
            obtain ⟨b', o', e3, e4⟩ := g4 i (by have := HK.out; omega)
            exact ⟨b', o', e3, by rw [gd_take _ _ _ hi]; exact e4⟩
          have HD := Lib.hid hd
          have HSQ := Lib.hid SQ
          have HSU := Lib.hid SU
          have hlt2 : (l.take (digs Bn).length).length ≤ 1000000000 := by rw [List.length_take]; omega
          clear hd hwl hwq SQ SU hinv
          go_wp2_with fail
          go_region_with (first
            | (go_at_call 85; refine (trim_sl _ q _ (HSQ.out.drewN _)).mono ?_; rintro e w' ⟨rfl, v', rfl, hv'⟩)
            | (go_at_call 103; refine (shiftRight_sl _ (l.take (digs Bn).length) s _ (HSU.out.drewN _) hlt2 hs32).mono ?_; rintro e w'' ⟨v'', rfl, hv'', hb''⟩))
          all_goals
            go_wp2_with fail
            go_ret2
            have q1 := hv' _ ((HSQ.out.drewN _).below hb'')
            rw [HD.out.1] at q1
            have q2 := HD.out.2
            rw [q2, shift_mod] at hv''
            exact ⟨v', v'', rfl, q1, hv'', hB3.trans ((bel_undrewN hb'').mono hB3.size)⟩
        · obtain ⟨j, rfl⟩ : ∃ j, m = j + 1 := ⟨m - 1, by omega⟩
          obtain rfl : z = (j : Int) := by omega
          clear hm0
          have hcq := oq.cell j (by omega)
          have hfq := oq.free j
          go_wp2_with fail
          rw [show j + (digs Bn).length + 1 - j = (digs Bn).length + 1 from by omega]
          have hlt := hinv.lt (by rw [HV2.out]; exact hn0)
          rw [HV2.out] at hlt
          have hq' := Nat.div_lt_of_lt_mul (by rw [Nat.mul_comm]; exact hlt : val (seg l j ((digs Bn).length + 1)) < val lv * 4294967296)
          refine (quotientWord_sl w.heap.size w.heap.size ((digs A).length + 1) j (digs Bn).length _ w1.heap.size _ l lv wr ou hinv.1 (by have := HK.out; omega) (by omega) (by have := HK.out; omega) (by omega) (by omega)
            (fun i hi => ?_) (by omega) HV2.out (by have := HK.out; omega) HV3.out HV4.out hlt).mono ?_
          · rw [ow.cell i (by have := HK.out; omega), HLVE.out, gd_take _ _ _ hi]
          rintro e w4 ⟨rfl, l', ou', hsr, hgb⟩
          have ow' := ow.kept hgb (by omega)
          have oq' := oq.kept hgb (by omega)
          have hB4 := hB3.trans (gb_below hgb (Nat.le_refl _) hB3.size)
          have hst2 : LdInv lv (A * 2 ^ s) j l' (q.set j (val (seg l j ((digs Bn).length + 1)) / val lv)) := by
            have := hinv.step (l' := l') HV3.out (by rw [HV2.out]; exact hsr) (by rw [HV2.out]; exact hq')
            rwa [HV2.out] at this
          obtain ⟨x, hx⟩ : ∃ x, x = val (seg l j ((digs Bn).length + 1)) / val lv := ⟨_, rfl⟩
          rw [← hx] at hst2 hq' ⊢
          have hcq := oq'.cell j (by omega)
          have hfq := oq'.free j
          clear hx hlt hsr hinv hgb ou ow oq hB3
          go_wp2_with fail
          go_roundw
          case rel => exact ⟨j, (j : Int) - 1, l', _, by omega, by omega, by omega, rfl, hst2, ou'.other oq' (by omega) _ _, ow'.other oq' (by omega) _ _, oq'.set j _ x (by omega), hB4.setCell (p := ⟨w2.heap.size, j, none⟩) (show w.heap.size ≤ w2.heap.size by omega) _⟩
          case measure => simp [intOf]
end Go.Proofs.YtndpjfhhigpbhaaGreat
