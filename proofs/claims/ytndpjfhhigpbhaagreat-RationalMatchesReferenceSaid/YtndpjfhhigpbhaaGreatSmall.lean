/- Small functions on words: clone, words, width, value, signed. -/
import Derived.Test.YtndpjfhhigpbhaaGreatMem
import Derived.Test.YtndpjfhhigpbhaaGreatShelf
namespace Go.Proofs.YtndpjfhhigpbhaaGreat
open Go.RowKit W
/-- A struct that reads as an integer in canonical form. -/
def IsI (w : World) (v : Value) (z : Int) : Prop := ∃ s, v = .agg #[.bool (decide (z < 0)), s] ∧ Sl w s (digs z.natAbs)
theorem IsI.below {w w' : World} {v : Value} {z : Int} (h : IsI w v z) (hb : Below w.heap.size w w') : IsI w' v z := by
  obtain ⟨s, rfl, hs⟩ := h
  exact ⟨s, rfl, hs.below hb⟩
/-- What a function that makes an integer leaves. -/
def RetZ (w0 : World) (z : Int) (e : Ending) (w' : World) : Prop := ∃ v, e = .returned v ∧ IsI w' v z ∧ Below w0.heap.size w0 w'
theorem clone_sl (v : Value) (l : List Nat) (w : World) (h : Sl w v l) (hlen : l.length ≤ 10000000000) :
    Calls Tryz.prog 83 #[v] w (Ret w l) := by
  have H := Lib.hid h
  clear h
  go_enter Tryz.func83, Tryz.ntmps83
  go_wp2_with (at_builtin; refine wpList_append_w _ rfl _ _ rfl w.heap.size _ _ [] l rfl rfl (OwnA_nil _ _) H.out ?c1 (Nat.le_refl _) ?_)
  case c1 => simp; omega
  intro v' w' ho hb
  go_wp2
  go_ret
  exact ⟨v', rfl, ho.sl H.out.wd, hb⟩
theorem Sl_lit2 (w : World) (X Y : Int) (x y : Nat) (hx : X = (x : Nat)) (hy : Y = (y : Nat)) (hw : Wd [x, y]) :
    Sl (w.alloc (.cells #[.int .u32 X, .int .u32 Y] 75)) (.slice (some ⟨w.heap.size, 0, none⟩) 2 2) [x, y] := by
  subst hx hy
  exact OwnA.sl (base := w.heap.size) (World.ownsRow_lit (base := w.heap.size) (size := 1) w #[.int .u32 x, .int .u32 y] 2 (Nat.le_refl _) (by unfold maxLen; omega) rfl) hw
theorem Sl_lit1 (w : World) (X : Int) (x : Nat) (hx : X = (x : Nat)) (hw : x < 4294967296) :
    Sl (w.alloc (.cells #[.int .u32 X] 75)) (.slice (some ⟨w.heap.size, 0, none⟩) 1 1) [x] := by
  subst hx
  exact OwnA.sl (base := w.heap.size) (World.ownsRow_lit (base := w.heap.size) (size := 1) w #[.int .u32 x] 1 (Nat.le_refl _) (by unfold maxLen; omega) rfl) (by rw [Wd_cons]; exact ⟨hw, Wd_nil⟩)
/-- The two words of a number of 64 bits. -/
theorem words_val (m : Nat) (h : m < 18446744073709551616) : Wd [m % 4294967296, m / 4294967296] ∧ val [m % 4294967296, m / 4294967296] = m := by
  refine ⟨by rw [Wd_cons, Wd_cons]; exact ⟨by omega, by omega, Wd_nil⟩, ?_⟩
  rw [val_cons, val_cons, val_nil]; omega
set_option maxHeartbeats 400000 in
theorem words_sl (m : Nat) (w : World) (h : m < 18446744073709551616) :
    Calls Tryz.prog 67 #[.int .u64 m] w (Ret w (digs m)) := by
  go_enter Tryz.func67, Tryz.ntmps67
  have hw := words_val m h
  have HV := Lib.hid hw
  clear hw
  go_wp2_with fail
  refine (trim_sl _ _ _ (Sl_lit2 w _ _ (m % 4294967296) (m / 4294967296) (by omega) (by omega) HV.out.1)).mono ?_
  rintro e w' ⟨rfl, v', rfl, hsl⟩
  have hsl := hsl _ (Sl_lit2 w ((m : Int) % 4294967296) ((m : Int) / 4294967296) (m % 4294967296) (m / 4294967296) (by omega) (by omega) HV.out.1)
  rw [HV.out.2] at hsl
  go_wp2
  go_ret
  exact ⟨v', rfl, hsl, (Below.refl _ _).alloc (Nat.le_refl _) _⟩
/-- The integer of a sign and an absolute value. -/
def sgnI (neg : Bool) (n : Nat) : Int := if neg then -(n : Int) else n
theorem sgnI_zero (neg : Bool) : sgnI neg 0 = 0 := by cases neg <;> rfl
theorem sgnI_abs (neg : Bool) (n : Nat) : (sgnI neg n).natAbs = n := by cases neg <;> simp [sgnI]
theorem sgnI_lt (neg : Bool) (n : Nat) (h : n ≠ 0) : decide (sgnI neg n < 0) = neg := by cases neg <;> simp [sgnI] <;> omega
theorem bitLen_le32 (x : Nat) (h : x < 4294967296) : Lib.bitLen x ≤ 32 := by
  have := Lib.bitLenAux_le 64 x 32 (by omega)
  exact this
/-- The number of bits of the absolute value, as the program reckons it. -/
def bitsN (n : Nat) : Nat := if n = 0 then 0 else 32 * ((digs n).length - 1) + Lib.bitLen (gd (digs n) ((digs n).length - 1))
theorem width_sl (v : Value) (n : Nat) (w : World) (h : Sl w v (digs n)) (hsz : (digs n).length ≤ 1000000000) :
    Calls Tryz.prog 88 #[v] w (fun e w' => e = .returned (.int .i64 (bitsN n)) ∧ w = w') := by
  obtain ⟨ao, cap, rfl, h1, h2, h3, _, h4⟩ := h
  unfold maxLen at h2
  by_cases hz : n = 0
  · subst hz
    have hd : (digs 0).length = 0 := by rw [digs_zero]; rfl
    have hb : (((digs 0).length : Int) == 0) = true := by rw [hd]; rfl
    clear hd h3 h4
    go_enter Tryz.func88, Tryz.ntmps88
    go_wp2
    go_ret
    exact ⟨rfl, rfl⟩
  · have h0 : 0 < (digs n).length := by
      rcases Nat.eq_zero_or_pos (digs n).length with e | e
      · exact absurd ((digs_nil_iff _).1 (List.eq_nil_of_length_eq_zero e)) hz
      · exact e
    obtain ⟨k, hk⟩ : ∃ k, (digs n).length = k + 1 := ⟨(digs n).length - 1, by omega⟩
    have hb : (((digs n).length : Int) == 0) = false := by rw [beq_eq_false_iff_ne]; omega
    obtain ⟨b, off, rfl, hc⟩ := h4 k (by omega)
    have hg := gd_lt h3 k
    have hr : bitsN n = 32 * k + Lib.bitLen (gd (digs n) k) := by unfold bitsN; rw [if_neg hz, hk]; rfl
    have HR := Lib.hid hr
    have HK := Lib.hid hk
    have hk1 : ((digs n).length : Int) - 1 = (k : Int) := by omega
    have hbl := bitLen_le32 (gd (digs n) k) hg
    clear hr hk hz h3 h4
    go_enter Tryz.func88, Tryz.ntmps88
    go_wp2_with fail
    refine (Tryz.bits_Len32 _ _ (by omega) (by omega)).mono ?_
    rintro e w' ⟨rfl, rfl⟩
    rw [Int.toNat_natCast]
    go_wp2
    go_ret
    exact ⟨by rw [HR.out]; simp, rfl⟩
theorem signed_sl (neg : Bool) (v : Value) (l : List Nat) (w : World) (h : Sl w v l) :
    Calls Tryz.prog 66 #[.bool neg, v] w (RetZ w (sgnI neg (val l))) := by
  have H := Lib.hid h
  clear h
  go_enter Tryz.func66, Tryz.ntmps66
  go_wp2_with fail
  refine (trim_sl _ l _ (H.out.below ((Below.refl _ _).alloc (Nat.le_refl _) _))).mono ?_
  rintro e w' ⟨rfl, v', rfl, hsl⟩
  obtain ⟨ao, cap, rfl, g1, g2, g3, gn, g4⟩ := hsl w H.out
  have HS := Lib.hid hsl
  clear hsl g4 gn
  by_cases hz : val l = 0
  · have h0 : ((digs (val l)).length : Int) = 0 := by rw [hz, digs_zero]; rfl
    have hb : (((digs (val l)).length : Int) == 0) = true := by rw [h0]; rfl
    have HZ := Lib.hid hz
    clear hz h0
    go_wp2
    refine bodyPost_ret (v := .agg #[.bool false, .slice none 0 0]) (by simp [results, Tryz.results66, go_sem]) rfl ⟨_, rfl, ⟨.slice none 0 0, ?_, ?_⟩, (Below.refl _ _).alloc (Nat.le_refl _) _⟩
    · rw [HZ.out, sgnI_zero]; rfl
    · rw [HZ.out, sgnI_zero]; simp only [Int.natAbs_zero, digs_zero]; exact Sl_nil _
  · have h0 : (digs (val l)).length ≠ 0 := fun e => hz ((digs_nil_iff _).1 (List.eq_nil_of_length_eq_zero e))
    have hb : (((digs (val l)).length : Int) == 0) = false := by rw [beq_eq_false_iff_ne]; omega
    have HZ := Lib.hid hz
    clear hz h0
    go_wp2
    refine bodyPost_ret (v := .agg #[.bool neg, .slice ao (digs (val l)).length cap]) (by simp [results, Tryz.results66, go_sem]) rfl ⟨_, rfl, ⟨.slice ao (digs (val l)).length cap, ?_, ?_⟩, (Below.refl _ _).alloc (Nat.le_refl _) _⟩
    · rw [sgnI_lt _ _ HZ.out]
    · rw [sgnI_abs]
      exact HS.out _ (H.out.below ((Below.refl _ _).alloc (Nat.le_refl _) _))
end Go.Proofs.YtndpjfhhigpbhaaGreat
