/- Helping facts of Api4; no other conditions. Helping facts of Fns; no other conditions. Helping facts of DivMod; no other conditions. Helping facts of FnsS; no other conditions. -/
import Derived.Test.YtmppigbbkjepiaaGreatDoorApi3
import Derived.Test.YtmppigbbkjepiaaGreatDoorKit
set_option maxHeartbeats 2000000
namespace Go.Proofs.YtmppigbbkjepiaaGreatDoor
open Go.Proofs.Tryz
open Go.RowKit W
theorem Qt (a : Nat) (ha : a < 4294967296) : bits .or .u64 0 ((a : Int)) = (a : Int) := by
  have := bits_or_u64_nat 0 a AA AA
  rw [Nat.zero_or] at this
  exact this
theorem Qu (m a : Nat) (hm : m < 4294967296) (ha : a < 4294967296) : bits .or .u64 (m : Int) ((a : Int) * 4294967296) = ((m + 4294967296 * a : Nat) : Int) := by
  have e : (a : Int) * 4294967296 = ((a * 4294967296 : Nat) : Int) := by simp
  rw [e, bits_or_u64_nat _ _ AA AA]
  congr 1
  have := Nat.two_pow_add_eq_or_of_lt (i := 32) (by simpa using hm) a
  rw [Nat.or_comm, Nat.mul_comm a]
  rw [show (4294967296 : Nat) = 2 ^ 32 from rfl, ← this]
  omega
theorem iJ {a b : Int} (h : a = b) : Ending.returned (.int .u64 a) = .returned (.int .u64 b) := by rw [h]
def RetV (w0 : World) (m : Nat) (e : Ending) (w' : World) : Prop := e = .returned (.int .u64 m) ∧ w0 = w'
theorem TY (v : Value) (l : List Nat) (w : World) (h : Sl w v l) (hlen : l.length ≤ 2) :
    Calls prog 162 #[v] w (RetV w (val l)) := by
  obtain ⟨ao, cap, rfl, h1, h2, h3, hn, h4⟩ := h
  have H4 := Lib.hid h4
  have H3 := Lib.hid h3
  clear h4 hn h3
  unfold maxLen at h2
  go_enter func162, ntmps162
  go_wp2_with fail
  go_loop [3, 7] (fun sm i => ∃ (k m : Nat), k ≤ l.length ∧ i = .int .i64 k ∧ sm = .int .u64 m ∧ Hid (m = val (l.take k)) ∧ m < 18446744073709551616) (fun _ i => l.length - (intOf i).toNat)
  case atStart => exact ⟨0, 0, by omega, rfl, rfl, rfl, by omega⟩
  case round =>
    obtain ⟨k, m, hk, rfl, rfl, hm, hm2⟩ := hrel
    by_cases hlt : k < l.length
    · obtain ⟨b, off, rfl, hc⟩ := H4.out k hlt
      have hg := ES H3.out k
      by_cases hk0 : k = 0
      · subst hk0
        have hm0 : m = 0 := by rw [hm.out]; rfl
        subst hm0
        have hor := Qt (gd l 0) hg
        have HV : Hid (gd l 0 = val (l.take 1)) := by
          show gd l 0 = _
          rw [DG, List.take_zero, bA, Nat.pow_zero]; omega
        rw [Nat.add_zero] at hc
        clear hm hm2
        go_wp2_with fail
        go_round
        case rel => exact ⟨1, gd l 0, by omega, rfl, rfl, HV, by omega⟩
        case measure => simp [intOf]; omega
      · obtain rfl : k = 1 := by omega
        have hm1 : m = gd l 0 := by rw [hm.out, DG, List.take_zero, bA, Nat.pow_zero]; omega
        have hg0 := ES H3.out 0
        have hor := Qu m (gd l 1) AA hg
        have HV : Hid (m + 4294967296 * gd l 1 = val (l.take 2)) := by
          show _ = _
          rw [DG, ← hm.out, Nat.pow_one]
        obtain ⟨t, ht⟩ : ∃ t, t = m + 4294967296 * gd l 1 := ⟨_, rfl⟩
        have ht2 : t < 18446744073709551616 := by omega
        rw [← ht] at hor HV
        clear hm hm1 ht
        go_wp2_with fail
        go_round
        case rel => exact ⟨2, t, by omega, rfl, rfl, HV, ht2⟩
        case measure => simp [intOf]; omega
    · obtain rfl : k = l.length := by omega
      have HV : Hid (m = val l) := by have := hm.out; rwa [List.take_length] at this
      clear hm
      go_wp2_with fail
      go_ret
      exact ⟨iJ (by rw [HV.out]), rfl⟩
def NE (z : Int) : Bool := decide (-9223372036854775808 ≤ z) && decide (z ≤ 9223372036854775807)
def WS (z : Int) : Int := if NE z then z else 0
def RetS (w0 : World) (n : Int) (b : Bool) (e : Ending) (w' : World) : Prop := e = .returned (.tuple #[.int .i64 n, .bool b]) ∧ Below w0.heap.size w0 w'
theorem RetS.eq {w : World} {n m : Int} {b c : Bool} {e : Ending} {w' : World} (h : RetS w n b e w') (h1 : n = m) (h2 : b = c) : RetS w m c e w' := by subst h1 h2; exact h
theorem Fe {z : Int} (h : 2 < (CC z.natAbs).length) : NE z = false ∧ WS z = 0 := by
  have := WF h
  have e : NE z = false := by
    unfold NE
    rw [Bool.and_eq_false_iff, decide_eq_false_iff_not, decide_eq_false_iff_not]
    omega
  exact ⟨e, by unfold WS; rw [e]; rfl⟩
theorem bJ {z : Int} (h : z < -9223372036854775808 ∨ 9223372036854775807 < z) : NE z = false ∧ WS z = 0 := by
  have e : NE z = false := by
    unfold NE
    rw [Bool.and_eq_false_iff, decide_eq_false_iff_not, decide_eq_false_iff_not]
    omega
  exact ⟨e, by unfold WS; rw [e]; rfl⟩
theorem YP {z : Int} (h1 : -9223372036854775808 ≤ z) (h2 : z ≤ 9223372036854775807) : NE z = true ∧ WS z = z := by
  have h : NE z = true := by unfold NE; rw [Bool.and_eq_true, decide_eq_true_eq, decide_eq_true_eq]; exact ⟨h1, h2⟩
  exact ⟨h, by unfold WS; rw [h]; rfl⟩
theorem Dx (va : Value) (x : Int) (w : World) (ha : IsI w va x) :
    Calls prog 147 #[va] w (RetS w (WS x) (NE x)) := by
  obtain ⟨L, t, rfl, P, H, a0⟩ := ha.parts
  have SA := Lib.hid P
  clear ha P
  obtain ⟨n, F⟩ : ∃ n, n = decide (x < 0) := ⟨_, rfl⟩
  obtain ⟨m, y⟩ : ∃ m, m = x.natAbs := ⟨_, rfl⟩
  obtain ⟨R, I⟩ : ∃ R, R = WS x := ⟨_, rfl⟩
  obtain ⟨c, G⟩ : ∃ c, c = NE x := ⟨_, rfl⟩
  rw [← F, ← y]
  rw [← y] at SA H
  rw [← I, ← G]
  have u := Lib.hid I
  have v := Lib.hid G
  have HN := Lib.hid F
  have B := Lib.hid y
  clear I G F y
  obtain ⟨W, h, X, p, D⟩ := rP w n (.slice L (CC m).length t)
  have c0 := D.1
  have c1 := D.2
  have S0 := Lib.hid (SA.out.below p)
  clear D
  by_cases q : 2 < (CC m).length
  · have hd : decide ((2 : Int) < ((CC m).length : Int)) = true := by simp; omega
    have f := Lib.hid (Fe (z := x) (by rw [← B.out]; exact q))
    go_enter func147, ntmps147
    go_upto_region 1 with fail
    rw [← h]
    clear h
    go_wp2_with fail
    go_ret2
    exact RetS.eq ⟨rfl, p⟩ (by rw [u.out, f.out.2]) (by rw [v.out, f.out.1])
  · have hd : decide ((2 : Int) < ((CC m).length : Int)) = false := by simp; omega
    have S : m < 18446744073709551616 := by
      have o := GI (FO m)
      rw [CN] at o
      have J := Nat.pow_le_pow_right (n := 4294967296) AA (show (CC m).length ≤ 2 by omega)
      omega
    cases n
    · have k : x = (m : Int) := by have o := HN.out; have J := B.out; have T : ¬ x < 0 := (by simpa using o.symm); omega
      by_cases hb : 9223372036854775808 ≤ m
      · have l : decide ((9223372036854775808 : Int) ≤ (m : Int)) = true := by simp; omega
        have f := Lib.hid (bJ (z := x) (.inr AA))
        clear k
        go_enter func147, ntmps147
        go_upto_region 1 with fail
        rw [← h]
        clear h
        go_wp2_with fail
        refine (TY _ (CC m) _ S0.out AA).mono ?_
        rintro e C ⟨rfl, rfl⟩
        rw [CN]
        go_wp2_with fail
        go_ret2
        exact RetS.eq ⟨rfl, p⟩ (by rw [u.out, f.out.2]) (by rw [v.out, f.out.1])
      · have l : decide ((9223372036854775808 : Int) ≤ (m : Int)) = false := by simp; omega
        have f := Lib.hid (YP (z := x) AA AA)
        have U := Lib.hid k
        clear k
        go_enter func147, ntmps147
        go_upto_region 1 with fail
        rw [← h]
        clear h
        go_wp2_with fail
        refine (TY _ (CC m) _ S0.out AA).mono ?_
        rintro e C ⟨rfl, rfl⟩
        rw [CN]
        go_wp2_with fail
        go_ret2
        exact RetS.eq (n := (m : Int)) (b := true) ⟨rfl, p⟩ (by rw [u.out, f.out.2, U.out]) (by rw [v.out, f.out.1])
    · have k : x = -(m : Int) := by have o := HN.out; have J := B.out; have T : x < 0 := (by simpa using o.symm); omega
      have Y : 0 < m := by have o := HN.out; have J := B.out; have T : x < 0 := (by simpa using o.symm); omega
      by_cases hb : 9223372036854775808 < m
      · have l : decide ((9223372036854775808 : Int) < (m : Int)) = true := by simp; omega
        have f := Lib.hid (bJ (z := x) (.inl AA))
        clear k
        go_enter func147, ntmps147
        go_upto_region 1 with fail
        rw [← h]
        clear h
        go_wp2_with fail
        refine (TY _ (CC m) _ S0.out AA).mono ?_
        rintro e C ⟨rfl, rfl⟩
        rw [CN]
        go_wp2_with fail
        go_ret2
        exact RetS.eq ⟨rfl, p⟩ (by rw [u.out, f.out.2]) (by rw [v.out, f.out.1])
      · have l : decide ((9223372036854775808 : Int) < (m : Int)) = false := by simp; omega
        have f := Lib.hid (YP (z := x) AA AA)
        have U := Lib.hid k
        have Q : IntKind.i64.wrap (IntKind.u64.wrap (-(m : Int))) = x := by rw [k]; simp only [IntKind.wrap_u64, IntKind.wrap_i64]; omega
        have N := Lib.hid Q
        clear k Q
        go_enter func147, ntmps147
        go_upto_region 1 with fail
        rw [← h]
        clear h
        go_wp2_with fail
        refine (TY _ (CC m) _ S0.out AA).mono ?_
        rintro e C ⟨rfl, rfl⟩
        rw [CN]
        go_wp2_with fail
        go_ret2
        exact RetS.eq (n := wrap64 (IntKind.u64.wrap (-(m : Int)))) (b := true) ⟨rfl, p⟩ (by rw [u.out, f.out.2, ← IntWalk.i64_left, N.out]) (by rw [v.out, f.out.1])
def RetZE (w0 : World) (z : Int) (c : Int) (e : Ending) (w' : World) : Prop := ∃ v, e = .returned (.tuple #[v, .int .i64 c]) ∧ IsI w' v z ∧ Below w0.heap.size w0 w'
theorem RetZE.eq {w : World} {z n c d : Int} {e : Ending} {w' : World} (h : RetZE w z c e w') (hz : z = n) (hc : c = d) : RetZE w n d e w' := by subst hz hc; exact h
theorem LL (w : World) : IsI w (.agg #[.bool false, .slice none 0 0]) 0 := ⟨_, rfl, by rw [Int.natAbs_zero, DW]; exact aS w⟩
end Go.Proofs.YtmppigbbkjepiaaGreatDoor
namespace Go.Proofs.YtmppigbbkjepiaaGreatDoor
open Go.Proofs.Tryz
open Go.RowKit W
theorem jO (n : Nat) : GY false n = (n : Int) := rfl
theorem rI {x y q r : Int} (hy : y ≠ 0) (h : x = q * y + r) (h0 : 0 ≤ r) (h1 : r < y.natAbs) : x / y = q ∧ x % y = r := by
  rcases Int.lt_or_gt_of_ne hy with k | f
  · have e := (Int.ediv_emod_unique (a := x) (b := -y) (r := r) (q := -q) AA).2 ⟨by rw [h, Int.neg_mul_neg, Int.mul_comm, Int.add_comm], h0, by omega⟩
    rw [Int.ediv_neg, Int.emod_neg] at e
    exact ⟨by omega, e.2⟩
  · exact (Int.ediv_emod_unique (a := x) (b := y) (r := r) (q := q) f).2 ⟨by rw [h, Int.mul_comm, Int.add_comm], h0, by omega⟩
theorem uZ {x y : Int} {nx ny : Bool} (hy : y ≠ 0) (hnx : nx = decide (x < 0)) (hny : ny = decide (y < 0)) :
    (nx = true ∧ 0 < x.natAbs % y.natAbs → GY (!(nx == ny)) (x.natAbs / y.natAbs + 1) = x / y ∧ ((y.natAbs - x.natAbs % y.natAbs : Nat) : Int) = x % y) ∧
    (¬ (nx = true ∧ 0 < x.natAbs % y.natAbs) → GY (!(nx == ny)) (x.natAbs / y.natAbs) = x / y ∧ ((x.natAbs % y.natAbs : Nat) : Int) = x % y) := by
  have u : 0 < y.natAbs := by omega
  have z := Nat.div_add_mod x.natAbs y.natAbs
  have B := Nat.mod_lt x.natAbs u
  generalize hq : x.natAbs / y.natAbs = q at *
  generalize hr : x.natAbs % y.natAbs = r at *
  constructor
  · rintro ⟨t, C⟩
    rw [t] at hnx
    have v : x < 0 := by simpa using hnx.symm
    have k : x = -((y.natAbs : Int) * q) - r := by omega
    subst t
    have o := rI (x := x) (y := y) (q := GY (!(true == ny)) (q + 1)) (r := ((y.natAbs - r : Nat) : Int)) hy ?_ AA AA
    · exact ⟨o.1.symm, o.2.symm⟩
    · by_cases f : y < 0
      · have e : ny = true := by rw [hny]; simpa using f
        subst e
        have l : (y.natAbs : Int) = -y := by omega
        simp only [GY]
        rw [k, l, Int.ofNat_sub AA, l]
        simp
        grind
      · have e : ny = false := by rw [hny]; simpa using f
        subst e
        have l : (y.natAbs : Int) = y := by omega
        simp only [GY]
        rw [k, l, Int.ofNat_sub AA, l]
        simp
        grind
  · intro t
    by_cases v : x < 0
    · have e1 : nx = true := by rw [hnx]; simpa using v
      have p : r = 0 := by
        rcases Nat.eq_zero_or_pos r with h | h
        · exact h
        · exact absurd ⟨e1, h⟩ t
      have k : x = -((y.natAbs : Int) * q) := by omega
      subst e1
      have o := rI (x := x) (y := y) (q := GY (!(true == ny)) q) (r := (r : Int)) hy ?_ AA AA
      · exact ⟨o.1.symm, o.2.symm⟩
      · by_cases f : y < 0
        · have e : ny = true := by rw [hny]; simpa using f
          subst e
          have l : (y.natAbs : Int) = -y := by omega
          simp only [GY]
          rw [k, l, p]
          simp
          grind
        · have e : ny = false := by rw [hny]; simpa using f
          subst e
          have l : (y.natAbs : Int) = y := by omega
          simp only [GY]
          rw [k, l, p]
          simp
          grind
    · have e1 : nx = false := by rw [hnx]; simpa using v
      have k : x = (y.natAbs : Int) * q + r := by omega
      subst e1
      have o := rI (x := x) (y := y) (q := GY (!(false == ny)) q) (r := (r : Int)) hy ?_ AA AA
      · exact ⟨o.1.symm, o.2.symm⟩
      · by_cases f : y < 0
        · have e : ny = true := by rw [hny]; simpa using f
          subst e
          have l : (y.natAbs : Int) = -y := by omega
          simp only [GY]
          rw [k, l]
          simp
          grind
        · have e : ny = false := by rw [hny]; simpa using f
          subst e
          have l : (y.natAbs : Int) = y := by omega
          simp only [GY]
          rw [k, l]
          simp
          grind
end Go.Proofs.YtmppigbbkjepiaaGreatDoor
namespace Go.Proofs.YtmppigbbkjepiaaGreatDoor
open Go.Proofs.Tryz
theorem MJ : Fn prog 126 := ⟨_, func126, by kernel_rfl, rfl⟩
theorem lF : Fn prog 165 := ⟨_, func165, by kernel_rfl, rfl⟩
theorem lD : Fn prog 194 := ⟨_, func194, by kernel_rfl, rfl⟩
theorem lC : Fn prog 91 := ⟨_, func91, by kernel_rfl, rfl⟩
theorem QJ : Fn prog 127 := ⟨_, func127, by kernel_rfl, rfl⟩
theorem QI : Fn prog 169 := ⟨_, func169, by kernel_rfl, rfl⟩
theorem DH : Fn prog 137 := ⟨_, func137, by kernel_rfl, rfl⟩
theorem TP : Fn prog 136 := ⟨_, func136, by kernel_rfl, rfl⟩
theorem ML : Fn prog 147 := ⟨_, func147, by kernel_rfl, rfl⟩
theorem eS : Fn prog 160 := ⟨_, func160, by kernel_rfl, rfl⟩
theorem lE : Fn prog 129 := ⟨_, func129, by kernel_rfl, rfl⟩
theorem mQ : Fn prog 123 := ⟨_, func123, by kernel_rfl, rfl⟩
theorem TQ : Fn prog 76 := ⟨_, func76, by kernel_rfl, rfl⟩
theorem EP : Fn prog 77 := ⟨_, func77, by kernel_rfl, rfl⟩
theorem RW : Fn prog 103 := ⟨_, func103, by kernel_rfl, rfl⟩
theorem EN : Fn prog 105 := ⟨_, func105, by kernel_rfl, rfl⟩
theorem TG : Fn prog 138 := ⟨_, func138, by kernel_rfl, rfl⟩
theorem eQ : Fn prog 139 := ⟨_, func139, by kernel_rfl, rfl⟩
theorem IC : Fn prog 58 := ⟨_, func58, by kernel_rfl, rfl⟩
theorem hZ : Fn prog 161 := ⟨_, func161, by kernel_rfl, rfl⟩
theorem VL : Fn prog 189 := ⟨_, func189, by kernel_rfl, rfl⟩
theorem GN : Fn prog 173 := ⟨_, func173, by kernel_rfl, rfl⟩
theorem LI : Fn prog 174 := ⟨_, func174, by kernel_rfl, rfl⟩
theorem VW : Fn prog 119 := ⟨_, func119, by kernel_rfl, rfl⟩
theorem iB : Fn prog 122 := ⟨_, func122, by kernel_rfl, rfl⟩
theorem OM : Fn prog 187 := ⟨_, func187, by kernel_rfl, rfl⟩
theorem QL : Fn prog 121 := ⟨_, func121, by kernel_rfl, rfl⟩
theorem eR : Fn prog 159 := ⟨_, func159, by kernel_rfl, rfl⟩
theorem mP : Fn prog 112 := ⟨_, func112, by kernel_rfl, rfl⟩
theorem RV : Fn prog 120 := ⟨_, func120, by kernel_rfl, rfl⟩
end Go.Proofs.YtmppigbbkjepiaaGreatDoor
namespace Go.Proofs.YtmppigbbkjepiaaGreatDoor
open Go.Proofs.Tryz
theorem LH : Fn prog 80 := ⟨_, func80, by kernel_rfl, rfl⟩
theorem TF : Fn prog 89 := ⟨_, func89, by kernel_rfl, rfl⟩
theorem lH : Fn prog 30 := ⟨_, func30, by kernel_rfl, rfl⟩
theorem UJ : Fn prog 132 := ⟨_, func132, by kernel_rfl, rfl⟩
theorem lG : Fn prog 92 := ⟨_, func92, by kernel_rfl, rfl⟩
theorem VU : Fn prog 130 := ⟨_, func130, by kernel_rfl, rfl⟩
theorem DV : Fn prog 81 := ⟨_, func81, by kernel_rfl, rfl⟩
theorem NH : Fn prog 44 := ⟨_, func44, by kernel_rfl, rfl⟩
theorem OJ : Fn prog 88 := ⟨_, func88, by kernel_rfl, rfl⟩
theorem DM : Fn prog 128 := ⟨_, func128, by kernel_rfl, rfl⟩
theorem TE : Fn prog 135 := ⟨_, func135, by kernel_rfl, rfl⟩
theorem FW : Fn prog 78 := ⟨_, func78, by kernel_rfl, rfl⟩
theorem RU : Fn prog 140 := ⟨_, func140, by kernel_rfl, rfl⟩
theorem QO : Fn prog 166 := ⟨_, func166, by kernel_rfl, rfl⟩
theorem NI : Fn prog 124 := ⟨_, func124, by kernel_rfl, rfl⟩
end Go.Proofs.YtmppigbbkjepiaaGreatDoor
namespace Go.Proofs.YtmppigbbkjepiaaGreatDoor
open Go.Proofs.Tryz
theorem ZM : Fn prog 60 := ⟨_, func60, by kernel_rfl, rfl⟩
theorem mO : Fn prog 57 := ⟨_, func57, by kernel_rfl, rfl⟩
theorem JA : Fn prog 22 := ⟨_, func22, by kernel_rfl, rfl⟩
theorem JW : Fn prog 55 := ⟨_, func55, by kernel_rfl, rfl⟩
end Go.Proofs.YtmppigbbkjepiaaGreatDoor
namespace Go.Proofs.YtmppigbbkjepiaaGreatDoor
open Go.RowKit W
theorem RBox.other {w : World} {r r' : Nat} (h : RBox w r) (hne : r ≠ r') (n' : Bool) (s' : Value) : RBox ((w.setCell ⟨r', 0, none⟩ (.bool n')).setCell ⟨r', 1, none⟩ s') r := by
  obtain ⟨⟨n, p, len, e, o, l⟩, k, f⟩ := h
  exact ⟨⟨n, p, len, e, LR o hne, LR l hne⟩, by simp [k], by simp [f]⟩
def RetDM (w0 : World) (q r c : Int) (e : Ending) (w' : World) : Prop := ∃ v u, e = .returned (.tuple #[v, u, .int .i64 c]) ∧ IsI w' v q ∧ IsI w' u r ∧ Below w0.heap.size w0 w'
theorem RetDM.eq {w : World} {q r c q' r' c' : Int} {e : Ending} {w' : World} (h : RetDM w q r c e w') (h1 : q = q') (h2 : r = r') (h3 : c = c') : RetDM w q' r' c' e w' := by subst h1 h2 h3; exact h
theorem Mw {x y : Int} {n : Nat} (h : Fits x n) : (CC (x.natAbs / y.natAbs)).length ≤ n := Nat.le_trans (FX (Nat.div_le_self _ _)) h
end Go.Proofs.YtmppigbbkjepiaaGreatDoor
namespace Go.Proofs.YtmppigbbkjepiaaGreatDoor
open Go.Proofs.Tryz
theorem NN : Fn prog 10 := ⟨_, func10, by kernel_rfl, rfl⟩
theorem OL : Fn prog 11 := ⟨_, func11, by kernel_rfl, rfl⟩
theorem EH : Fn prog 12 := ⟨_, func12, by kernel_rfl, rfl⟩
theorem II : Fn prog 13 := ⟨_, func13, by kernel_rfl, rfl⟩
theorem GU : Fn prog 14 := ⟨_, func14, by kernel_rfl, rfl⟩
theorem OK : Fn prog 15 := ⟨_, func15, by kernel_rfl, rfl⟩
theorem XP : Fn prog 16 := ⟨_, func16, by kernel_rfl, rfl⟩
theorem QG : Fn prog 17 := ⟨_, func17, by kernel_rfl, rfl⟩
theorem KR : Fn prog 18 := ⟨_, func18, by kernel_rfl, rfl⟩
theorem XO : Fn prog 19 := ⟨_, func19, by kernel_rfl, rfl⟩
theorem QK : Fn prog 21 := ⟨_, func21, by kernel_rfl, rfl⟩
theorem RT : Fn prog 23 := ⟨_, func23, by kernel_rfl, rfl⟩
theorem MY : Fn prog 24 := ⟨_, func24, by kernel_rfl, rfl⟩
theorem JX : Fn prog 31 := ⟨_, func31, by kernel_rfl, rfl⟩
theorem HI : Fn prog 32 := ⟨_, func32, by kernel_rfl, rfl⟩
theorem mL : Fn prog 33 := ⟨_, func33, by kernel_rfl, rfl⟩
theorem mJ : Fn prog 34 := ⟨_, func34, by kernel_rfl, rfl⟩
theorem VV : Fn prog 35 := ⟨_, func35, by kernel_rfl, rfl⟩
theorem JV : Fn prog 36 := ⟨_, func36, by kernel_rfl, rfl⟩
theorem HJ : Fn prog 37 := ⟨_, func37, by kernel_rfl, rfl⟩
theorem IK : Fn prog 38 := ⟨_, func38, by kernel_rfl, rfl⟩
theorem aK : Fn prog 39 := ⟨_, func39, by kernel_rfl, rfl⟩
theorem GM : Fn prog 42 := ⟨_, func42, by kernel_rfl, rfl⟩
theorem QH : Fn prog 43 := ⟨_, func43, by kernel_rfl, rfl⟩
theorem RS : Fn prog 45 := ⟨_, func45, by kernel_rfl, rfl⟩
theorem cU : Fn prog 46 := ⟨_, func46, by kernel_rfl, rfl⟩
theorem HH : Fn prog 47 := ⟨_, func47, by kernel_rfl, rfl⟩
theorem IL : Fn prog 54 := ⟨_, func54, by kernel_rfl, rfl⟩
theorem mM : Fn prog 56 := ⟨_, func56, by kernel_rfl, rfl⟩
theorem JL : Fn prog 59 := ⟨_, func59, by kernel_rfl, rfl⟩
theorem cT : Fn prog 82 := ⟨_, func82, by kernel_rfl, rfl⟩
theorem ZE : Fn prog 83 := ⟨_, func83, by kernel_rfl, rfl⟩
theorem EY : Fn prog 84 := ⟨_, func84, by kernel_rfl, rfl⟩
theorem JF : Fn prog 90 := ⟨_, func90, by kernel_rfl, rfl⟩
theorem mN : Fn prog 93 := ⟨_, func93, by kernel_rfl, rfl⟩
theorem PH : Fn prog 94 := ⟨_, func94, by kernel_rfl, rfl⟩
theorem OI : Fn prog 95 := ⟨_, func95, by kernel_rfl, rfl⟩
theorem GT : Fn prog 101 := ⟨_, func101, by kernel_rfl, rfl⟩
theorem iA : Fn prog 104 := ⟨_, func104, by kernel_rfl, rfl⟩
theorem GL : Fn prog 141 := ⟨_, func141, by kernel_rfl, rfl⟩
theorem EL : Fn prog 142 := ⟨_, func142, by kernel_rfl, rfl⟩
theorem aM : Fn prog 175 := ⟨_, func175, by kernel_rfl, rfl⟩
end Go.Proofs.YtmppigbbkjepiaaGreatDoor
