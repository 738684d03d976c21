/- The functions of package integer: value, Small, Pow, Root, DivMod. The functions of package integer: Root, DivMod. Every function of the program that is called has a body. (Printed by g_law01a.py.) Every function of the program that is called has a body. (Printed by g_rat1.py.) Every function of the program that is called has a body. (Printed by g_ref02b.py.) DivMod: the Euclidean quotient and rem -/
import Derived.Test.YtmppigbbkjepiaaGreatDoorApi3
import Derived.Test.YtmppigbbkjepiaaGreatDoorKit
set_option maxHeartbeats 2000000
namespace Go.Proofs.YtmppigbbkjepiaaGreatDoor
open Go.Proofs.Tryz
open Go.RowKit W
theorem Lo (a : Nat) (ha : a < 4294967296) : bits .or .u64 0 ((a : Int)) = (a : Int) := by
  have := bits_or_u64_nat 0 a Z Z
  rw [Nat.zero_or] at this
  exact this
theorem Lp (m a : Nat) (hm : m < 4294967296) (ha : a < 4294967296) : bits .or .u64 (m : Int) ((a : Int) * 4294967296) = ((m + 4294967296 * a : Nat) : Int) := by
  have e : (a : Int) * 4294967296 = ((a * 4294967296 : Nat) : Int) := by simp
  rw [e, bits_or_u64_nat _ _ Z Z]
  congr 1
  have := Nat.two_pow_add_eq_or_of_lt (i := 32) (by simpa using hm) a
  rw [Nat.or_comm, Nat.mul_comm a]
  rw [show (4294967296 : Nat) = 2 ^ 32 from rfl, ← this]
  omega
theorem fU {a b : Int} (h : a = b) : Ending.returned (.int .u64 a) = .returned (.int .u64 b) := by rw [h]
def RetV (w0 : World) (m : Nat) (e : Ending) (w' : World) : Prop := e = .returned (.int .u64 m) ∧ w0 = w'
theorem SZ (v : Value) (l : List Nat) (w : World) (h : Sl w v l) (hlen : l.length ≤ 2) :
    Calls prog 162 #[v] w (RetV w (val l)) := by
  obtain ⟨ao, cap, rfl, h1, h2, h3, hn, h4⟩ := h
  have H4 := Lib.hid h4
  have H3 := Lib.hid h3
  clear h4 hn h3
  unfold maxLen at h2
  go_enter func162, ntmps162
  go_wp2_with fail
  go_loop [3, 7] (fun sm i => ∃ (k m : Nat), k ≤ l.length ∧ i = .int .i64 k ∧ sm = .int .u64 m ∧ Hid (m = val (l.take k)) ∧ m < 18446744073709551616) (fun _ i => l.length - (intOf i).toNat)
  case atStart => exact ⟨0, 0, by omega, rfl, rfl, rfl, by omega⟩
  case round =>
    obtain ⟨k, m, hk, rfl, rfl, hm, hm2⟩ := hrel
    by_cases hlt : k < l.length
    · obtain ⟨b, off, rfl, hc⟩ := H4.out k hlt
      have hg := EI H3.out k
      by_cases hk0 : k = 0
      · subst hk0
        have hm0 : m = 0 := by rw [hm.out]; rfl
        subst hm0
        have hor := Lo (gd l 0) hg
        have HV : Hid (gd l 0 = val (l.take 1)) := by
          show gd l 0 = _
          rw [DG, List.take_zero, ZS, Nat.pow_zero]; omega
        rw [Nat.add_zero] at hc
        clear hm hm2
        go_wp2_with fail
        go_round
        case rel => exact ⟨1, gd l 0, by omega, rfl, rfl, HV, by omega⟩
        case measure => simp [intOf]; omega
      · obtain rfl : k = 1 := by omega
        have hm1 : m = gd l 0 := by rw [hm.out, DG, List.take_zero, ZS, Nat.pow_zero]; omega
        have hg0 := EI H3.out 0
        have hor := Lp m (gd l 1) Z hg
        have HV : Hid (m + 4294967296 * gd l 1 = val (l.take 2)) := by
          show _ = _
          rw [DG, ← hm.out, Nat.pow_one]
        obtain ⟨t, ht⟩ : ∃ t, t = m + 4294967296 * gd l 1 := ⟨_, rfl⟩
        have ht2 : t < 18446744073709551616 := by omega
        rw [← ht] at hor HV
        clear hm hm1 ht
        go_wp2_with fail
        go_round
        case rel => exact ⟨2, t, by omega, rfl, rfl, HV, ht2⟩
        case measure => simp [intOf]; omega
    · obtain rfl : k = l.length := by omega
      have HV : Hid (m = val l) := by have := hm.out; rwa [List.take_length] at this
      clear hm
      go_wp2_with fail
      go_ret
      exact ⟨fU (by rw [HV.out]), rfl⟩
def MF (z : Int) : Bool := decide (-9223372036854775808 ≤ z) && decide (z ≤ 9223372036854775807)
def VO (z : Int) : Int := if MF z then z else 0
def RetS (w0 : World) (n : Int) (b : Bool) (e : Ending) (w' : World) : Prop := e = .returned (.tuple #[.int .i64 n, .bool b]) ∧ Below w0.heap.size w0 w'
theorem RetS.eq {w : World} {n m : Int} {b c : Bool} {e : Ending} {w' : World} (h : RetS w n b e w') (h1 : n = m) (h2 : b = c) : RetS w m c e w' := by subst h1 h2; exact h
theorem Br {z : Int} (h : 2 < (CB z.natAbs).length) : MF z = false ∧ VO z = 0 := by
  have := VB h
  have e : MF z = false := by
    unfold MF
    rw [Bool.and_eq_false_iff, decide_eq_false_iff_not, decide_eq_false_iff_not]
    omega
  exact ⟨e, by unfold VO; rw [e]; rfl⟩
theorem ZZ {z : Int} (h : z < -9223372036854775808 ∨ 9223372036854775807 < z) : MF z = false ∧ VO z = 0 := by
  have e : MF z = false := by
    unfold MF
    rw [Bool.and_eq_false_iff, decide_eq_false_iff_not, decide_eq_false_iff_not]
    omega
  exact ⟨e, by unfold VO; rw [e]; rfl⟩
theorem XH {z : Int} (h1 : -9223372036854775808 ≤ z) (h2 : z ≤ 9223372036854775807) : MF z = true ∧ VO z = z := by
  have h : MF z = true := by unfold MF; rw [Bool.and_eq_true, decide_eq_true_eq, decide_eq_true_eq]; exact ⟨h1, h2⟩
  exact ⟨h, by unfold VO; rw [h]; rfl⟩
theorem Ao (va : Value) (x : Int) (w : World) (ha : IsI w va x) :
    Calls prog 147 #[va] w (RetS w (VO x) (MF x)) := by
  obtain ⟨N, t, rfl, Q, H, a1⟩ := ha.parts
  have SA := Lib.hid Q
  clear ha Q
  obtain ⟨n, F⟩ : ∃ n, n = decide (x < 0) := ⟨_, rfl⟩
  obtain ⟨m, y⟩ : ∃ m, m = x.natAbs := ⟨_, rfl⟩
  obtain ⟨R, J⟩ : ∃ R, R = VO x := ⟨_, rfl⟩
  obtain ⟨c, G⟩ : ∃ c, c = MF x := ⟨_, rfl⟩
  rw [← F, ← y]
  rw [← y] at SA H
  rw [← J, ← G]
  have u := Lib.hid J
  have v := Lib.hid G
  have HN := Lib.hid F
  have B := Lib.hid y
  clear J G F y
  obtain ⟨W, h, Y, p, D⟩ := gL w n (.slice N (CB m).length t)
  have c0 := D.1
  have c1 := D.2
  have S0 := Lib.hid (SA.out.below p)
  clear D
  by_cases q : 2 < (CB m).length
  · have hd : decide ((2 : Int) < ((CB m).length : Int)) = true := by simp; omega
    have f := Lib.hid (Br (z := x) (by rw [← B.out]; exact q))
    go_enter func147, ntmps147
    go_upto_region 1 with fail
    rw [← h]
    clear h
    go_wp2_with fail
    go_ret2
    exact RetS.eq ⟨rfl, p⟩ (by rw [u.out, f.out.2]) (by rw [v.out, f.out.1])
  · have hd : decide ((2 : Int) < ((CB m).length : Int)) = false := by simp; omega
    have T : m < 18446744073709551616 := by
      have o := GA (FQ m)
      rw [CK] at o
      have L := Nat.pow_le_pow_right (n := 4294967296) Z (show (CB m).length ≤ 2 by omega)
      omega
    cases n
    · have k : x = (m : Int) := by have o := HN.out; have L := B.out; have U : ¬ x < 0 := (by simpa using o.symm); omega
      by_cases hb : 9223372036854775808 ≤ m
      · have l : decide ((9223372036854775808 : Int) ≤ (m : Int)) = true := by simp; omega
        have f := Lib.hid (ZZ (z := x) (.inr Z))
        clear k
        go_enter func147, ntmps147
        go_upto_region 1 with fail
        rw [← h]
        clear h
        go_wp2_with fail
        refine (SZ _ (CB m) _ S0.out Z).mono ?_
        rintro e C ⟨rfl, rfl⟩
        rw [CK]
        go_wp2_with fail
        go_ret2
        exact RetS.eq ⟨rfl, p⟩ (by rw [u.out, f.out.2]) (by rw [v.out, f.out.1])
      · have l : decide ((9223372036854775808 : Int) ≤ (m : Int)) = false := by simp; omega
        have f := Lib.hid (XH (z := x) Z Z)
        have X := Lib.hid k
        clear k
        go_enter func147, ntmps147
        go_upto_region 1 with fail
        rw [← h]
        clear h
        go_wp2_with fail
        refine (SZ _ (CB m) _ S0.out Z).mono ?_
        rintro e C ⟨rfl, rfl⟩
        rw [CK]
        go_wp2_with fail
        go_ret2
        exact RetS.eq (n := (m : Int)) (b := true) ⟨rfl, p⟩ (by rw [u.out, f.out.2, X.out]) (by rw [v.out, f.out.1])
    · have k : x = -(m : Int) := by have o := HN.out; have L := B.out; have U : x < 0 := (by simpa using o.symm); omega
      have a0 : 0 < m := by have o := HN.out; have L := B.out; have U : x < 0 := (by simpa using o.symm); omega
      by_cases hb : 9223372036854775808 < m
      · have l : decide ((9223372036854775808 : Int) < (m : Int)) = true := by simp; omega
        have f := Lib.hid (ZZ (z := x) (.inl Z))
        clear k
        go_enter func147, ntmps147
        go_upto_region 1 with fail
        rw [← h]
        clear h
        go_wp2_with fail
        refine (SZ _ (CB m) _ S0.out Z).mono ?_
        rintro e C ⟨rfl, rfl⟩
        rw [CK]
        go_wp2_with fail
        go_ret2
        exact RetS.eq ⟨rfl, p⟩ (by rw [u.out, f.out.2]) (by rw [v.out, f.out.1])
      · have l : decide ((9223372036854775808 : Int) < (m : Int)) = false := by simp; omega
        have f := Lib.hid (XH (z := x) Z Z)
        have X := Lib.hid k
        have S : IntKind.i64.wrap (IntKind.u64.wrap (-(m : Int))) = x := by rw [k]; simp only [IntKind.wrap_u64, IntKind.wrap_i64]; omega
        have P := Lib.hid S
        clear k S
        go_enter func147, ntmps147
        go_upto_region 1 with fail
        rw [← h]
        clear h
        go_wp2_with fail
        refine (SZ _ (CB m) _ S0.out Z).mono ?_
        rintro e C ⟨rfl, rfl⟩
        rw [CK]
        go_wp2_with fail
        go_ret2
        exact RetS.eq (n := wrap64 (IntKind.u64.wrap (-(m : Int)))) (b := true) ⟨rfl, p⟩ (by rw [u.out, f.out.2, ← IntWalk.i64_left, P.out]) (by rw [v.out, f.out.1])
def bM (w0 : World) (z : Int) (c : Int) (e : Ending) (w' : World) : Prop := ∃ v, e = .returned (.tuple #[v, .int .i64 c]) ∧ IsI w' v z ∧ Below w0.heap.size w0 w'
theorem KS (w : World) : IsI w (.agg #[.bool false, .slice none 0 0]) 0 := ⟨_, rfl, by rw [Int.natAbs_zero, DU]; exact ZL w⟩
end Go.Proofs.YtmppigbbkjepiaaGreatDoor
namespace Go.Proofs.YtmppigbbkjepiaaGreatDoor
open Go.Proofs.Tryz
open Go.RowKit W
theorem iC (n : Nat) : GR false n = (n : Int) := rfl
theorem oZ {x y q r : Int} (hy : y ≠ 0) (h : x = q * y + r) (h0 : 0 ≤ r) (h1 : r < y.natAbs) : x / y = q ∧ x % y = r := by
  rcases Int.lt_or_gt_of_ne hy with k | f
  · have e := (Int.ediv_emod_unique (a := x) (b := -y) (r := r) (q := -q) Z).2 ⟨by rw [h, Int.neg_mul_neg, Int.mul_comm, Int.add_comm], h0, by omega⟩
    rw [Int.ediv_neg, Int.emod_neg] at e
    exact ⟨by omega, e.2⟩
  · exact (Int.ediv_emod_unique (a := x) (b := y) (r := r) (q := q) f).2 ⟨by rw [h, Int.mul_comm, Int.add_comm], h0, by omega⟩
theorem sS {x y : Int} {nx ny : Bool} (hy : y ≠ 0) (hnx : nx = decide (x < 0)) (hny : ny = decide (y < 0)) :
    (nx = true ∧ 0 < x.natAbs % y.natAbs → GR (!(nx == ny)) (x.natAbs / y.natAbs + 1) = x / y ∧ ((y.natAbs - x.natAbs % y.natAbs : Nat) : Int) = x % y) ∧
    (¬ (nx = true ∧ 0 < x.natAbs % y.natAbs) → GR (!(nx == ny)) (x.natAbs / y.natAbs) = x / y ∧ ((x.natAbs % y.natAbs : Nat) : Int) = x % y) := by
  have v : 0 < y.natAbs := by omega
  have B := Nat.div_add_mod x.natAbs y.natAbs
  have C := Nat.mod_lt x.natAbs v
  generalize hq : x.natAbs / y.natAbs = q at *
  generalize hr : x.natAbs % y.natAbs = r at *
  constructor
  · rintro ⟨t, D⟩
    rw [t] at hnx
    have z : x < 0 := by simpa using hnx.symm
    have k : x = -((y.natAbs : Int) * q) - r := by omega
    subst t
    have o := oZ (x := x) (y := y) (q := GR (!(true == ny)) (q + 1)) (r := ((y.natAbs - r : Nat) : Int)) hy ?_ Z Z
    · exact ⟨o.1.symm, o.2.symm⟩
    · by_cases f : y < 0
      · have e : ny = true := by rw [hny]; simpa using f
        subst e
        have l : (y.natAbs : Int) = -y := by omega
        simp only [GR]
        rw [k, l, Int.ofNat_sub Z, l]
        simp
        grind
      · have e : ny = false := by rw [hny]; simpa using f
        subst e
        have l : (y.natAbs : Int) = y := by omega
        simp only [GR]
        rw [k, l, Int.ofNat_sub Z, l]
        simp
        grind
  · intro t
    by_cases z : x < 0
    · have u : nx = true := by rw [hnx]; simpa using z
      have p : r = 0 := by
        rcases Nat.eq_zero_or_pos r with h | h
        · exact h
        · exact absurd ⟨u, h⟩ t
      have k : x = -((y.natAbs : Int) * q) := by omega
      subst u
      have o := oZ (x := x) (y := y) (q := GR (!(true == ny)) q) (r := (r : Int)) hy ?_ Z Z
      · exact ⟨o.1.symm, o.2.symm⟩
      · by_cases f : y < 0
        · have e : ny = true := by rw [hny]; simpa using f
          subst e
          have l : (y.natAbs : Int) = -y := by omega
          simp only [GR]
          rw [k, l, p]
          simp
          grind
        · have e : ny = false := by rw [hny]; simpa using f
          subst e
          have l : (y.natAbs : Int) = y := by omega
          simp only [GR]
          rw [k, l, p]
          simp
          grind
    · have u : nx = false := by rw [hnx]; simpa using z
      have k : x = (y.natAbs : Int) * q + r := by omega
      subst u
      have o := oZ (x := x) (y := y) (q := GR (!(false == ny)) q) (r := (r : Int)) hy ?_ Z Z
      · exact ⟨o.1.symm, o.2.symm⟩
      · by_cases f : y < 0
        · have e : ny = true := by rw [hny]; simpa using f
          subst e
          have l : (y.natAbs : Int) = -y := by omega
          simp only [GR]
          rw [k, l]
          simp
          grind
        · have e : ny = false := by rw [hny]; simpa using f
          subst e
          have l : (y.natAbs : Int) = y := by omega
          simp only [GR]
          rw [k, l]
          simp
          grind
end Go.Proofs.YtmppigbbkjepiaaGreatDoor
namespace Go.Proofs.YtmppigbbkjepiaaGreatDoor
open Go.Proofs.Tryz
theorem LO : Fn prog 126 := ⟨_, func126, by kernel_rfl, rfl⟩
theorem jJ : Fn prog 165 := ⟨_, func165, by kernel_rfl, rfl⟩
theorem jH : Fn prog 194 := ⟨_, func194, by kernel_rfl, rfl⟩
theorem MO : Fn prog 150 := ⟨_, func150, by kernel_rfl, rfl⟩
theorem jG : Fn prog 91 := ⟨_, func91, by kernel_rfl, rfl⟩
theorem PL : Fn prog 127 := ⟨_, func127, by kernel_rfl, rfl⟩
theorem PK : Fn prog 169 := ⟨_, func169, by kernel_rfl, rfl⟩
theorem DH : Fn prog 137 := ⟨_, func137, by kernel_rfl, rfl⟩
theorem SI : Fn prog 136 := ⟨_, func136, by kernel_rfl, rfl⟩
theorem LP : Fn prog 147 := ⟨_, func147, by kernel_rfl, rfl⟩
theorem cQ : Fn prog 160 := ⟨_, func160, by kernel_rfl, rfl⟩
theorem jI : Fn prog 129 := ⟨_, func129, by kernel_rfl, rfl⟩
theorem YI : Fn prog 123 := ⟨_, func123, by kernel_rfl, rfl⟩
theorem kW : Fn prog 151 := ⟨_, func151, by kernel_rfl, rfl⟩
theorem SJ : Fn prog 76 := ⟨_, func76, by kernel_rfl, rfl⟩
theorem EE : Fn prog 77 := ⟨_, func77, by kernel_rfl, rfl⟩
theorem LF : Fn prog 103 := ⟨_, func103, by kernel_rfl, rfl⟩
theorem ED : Fn prog 105 := ⟨_, func105, by kernel_rfl, rfl⟩
theorem RV : Fn prog 138 := ⟨_, func138, by kernel_rfl, rfl⟩
theorem cM : Fn prog 139 := ⟨_, func139, by kernel_rfl, rfl⟩
theorem GH : Fn prog 58 := ⟨_, func58, by kernel_rfl, rfl⟩
theorem eT : Fn prog 161 := ⟨_, func161, by kernel_rfl, rfl⟩
theorem UD : Fn prog 189 := ⟨_, func189, by kernel_rfl, rfl⟩
theorem GE : Fn prog 173 := ⟨_, func173, by kernel_rfl, rfl⟩
theorem KP : Fn prog 174 := ⟨_, func174, by kernel_rfl, rfl⟩
theorem UU : Fn prog 119 := ⟨_, func119, by kernel_rfl, rfl⟩
theorem eW : Fn prog 122 := ⟨_, func122, by kernel_rfl, rfl⟩
theorem NR : Fn prog 187 := ⟨_, func187, by kernel_rfl, rfl⟩
theorem PO : Fn prog 121 := ⟨_, func121, by kernel_rfl, rfl⟩
theorem cP : Fn prog 159 := ⟨_, func159, by kernel_rfl, rfl⟩
theorem kV : Fn prog 112 := ⟨_, func112, by kernel_rfl, rfl⟩
theorem JT : Fn prog 120 := ⟨_, func120, by kernel_rfl, rfl⟩
end Go.Proofs.YtmppigbbkjepiaaGreatDoor
namespace Go.Proofs.YtmppigbbkjepiaaGreatDoor
open Go.Proofs.Tryz
theorem KO : Fn prog 80 := ⟨_, func80, by kernel_rfl, rfl⟩
theorem eV : Fn prog 108 := ⟨_, func108, by kernel_rfl, rfl⟩
theorem RU : Fn prog 89 := ⟨_, func89, by kernel_rfl, rfl⟩
theorem jL : Fn prog 30 := ⟨_, func30, by kernel_rfl, rfl⟩
theorem TI : Fn prog 132 := ⟨_, func132, by kernel_rfl, rfl⟩
theorem jK : Fn prog 92 := ⟨_, func92, by kernel_rfl, rfl⟩
theorem UR : Fn prog 130 := ⟨_, func130, by kernel_rfl, rfl⟩
theorem DW : Fn prog 81 := ⟨_, func81, by kernel_rfl, rfl⟩
theorem ML : Fn prog 44 := ⟨_, func44, by kernel_rfl, rfl⟩
theorem NQ : Fn prog 88 := ⟨_, func88, by kernel_rfl, rfl⟩
theorem DL : Fn prog 128 := ⟨_, func128, by kernel_rfl, rfl⟩
theorem RT : Fn prog 135 := ⟨_, func135, by kernel_rfl, rfl⟩
theorem FN : Fn prog 78 := ⟨_, func78, by kernel_rfl, rfl⟩
theorem QV : Fn prog 140 := ⟨_, func140, by kernel_rfl, rfl⟩
theorem PS : Fn prog 166 := ⟨_, func166, by kernel_rfl, rfl⟩
theorem MM : Fn prog 124 := ⟨_, func124, by kernel_rfl, rfl⟩
end Go.Proofs.YtmppigbbkjepiaaGreatDoor
namespace Go.Proofs.YtmppigbbkjepiaaGreatDoor
open Go.Proofs.Tryz
theorem YH : Fn prog 60 := ⟨_, func60, by kernel_rfl, rfl⟩
theorem kU : Fn prog 57 := ⟨_, func57, by kernel_rfl, rfl⟩
theorem MN : Fn prog 22 := ⟨_, func22, by kernel_rfl, rfl⟩
theorem IG : Fn prog 55 := ⟨_, func55, by kernel_rfl, rfl⟩
end Go.Proofs.YtmppigbbkjepiaaGreatDoor
namespace Go.Proofs.YtmppigbbkjepiaaGreatDoor
open Go.RowKit W
def Ox (w0 : World) (q r c : Int) (e : Ending) (w' : World) : Prop := ∃ v u, e = .returned (.tuple #[v, u, .int .i64 c]) ∧ IsI w' v q ∧ IsI w' u r ∧ Below w0.heap.size w0 w'
theorem Hy {x y : Int} {n : Nat} (h : Fits x n) : (CB (x.natAbs / y.natAbs)).length ≤ n := Nat.le_trans (FO (Nat.div_le_self _ _)) h
end Go.Proofs.YtmppigbbkjepiaaGreatDoor
namespace Go.Proofs.YtmppigbbkjepiaaGreatDoor
open Go.Proofs.Tryz
theorem ZI : Fn prog 10 := ⟨_, func10, by kernel_rfl, rfl⟩
theorem EP : Fn prog 12 := ⟨_, func12, by kernel_rfl, rfl⟩
theorem LC : Fn prog 13 := ⟨_, func13, by kernel_rfl, rfl⟩
theorem QT : Fn prog 14 := ⟨_, func14, by kernel_rfl, rfl⟩
theorem WJ : Fn prog 15 := ⟨_, func15, by kernel_rfl, rfl⟩
theorem PI : Fn prog 17 := ⟨_, func17, by kernel_rfl, rfl⟩
theorem MH : Fn prog 18 := ⟨_, func18, by kernel_rfl, rfl⟩
theorem WH : Fn prog 19 := ⟨_, func19, by kernel_rfl, rfl⟩
theorem PN : Fn prog 21 := ⟨_, func21, by kernel_rfl, rfl⟩
theorem QU : Fn prog 23 := ⟨_, func23, by kernel_rfl, rfl⟩
theorem OO : Fn prog 24 := ⟨_, func24, by kernel_rfl, rfl⟩
theorem US : Fn prog 29 := ⟨_, func29, by kernel_rfl, rfl⟩
theorem JM : Fn prog 31 := ⟨_, func31, by kernel_rfl, rfl⟩
theorem GV : Fn prog 32 := ⟨_, func32, by kernel_rfl, rfl⟩
theorem kQ : Fn prog 33 := ⟨_, func33, by kernel_rfl, rfl⟩
theorem eU : Fn prog 35 := ⟨_, func35, by kernel_rfl, rfl⟩
theorem JL : Fn prog 36 := ⟨_, func36, by kernel_rfl, rfl⟩
theorem GZ : Fn prog 37 := ⟨_, func37, by kernel_rfl, rfl⟩
theorem IE : Fn prog 38 := ⟨_, func38, by kernel_rfl, rfl⟩
theorem ZG : Fn prog 39 := ⟨_, func39, by kernel_rfl, rfl⟩
theorem GD : Fn prog 42 := ⟨_, func42, by kernel_rfl, rfl⟩
theorem PJ : Fn prog 43 := ⟨_, func43, by kernel_rfl, rfl⟩
theorem QS : Fn prog 45 := ⟨_, func45, by kernel_rfl, rfl⟩
theorem bB : Fn prog 46 := ⟨_, func46, by kernel_rfl, rfl⟩
theorem GU : Fn prog 47 := ⟨_, func47, by kernel_rfl, rfl⟩
theorem IF : Fn prog 54 := ⟨_, func54, by kernel_rfl, rfl⟩
theorem kR : Fn prog 56 := ⟨_, func56, by kernel_rfl, rfl⟩
theorem HO : Fn prog 59 := ⟨_, func59, by kernel_rfl, rfl⟩
theorem PM : Fn prog 62 := ⟨_, func62, by kernel_rfl, rfl⟩
theorem LD : Fn prog 74 := ⟨_, func74, by kernel_rfl, rfl⟩
theorem WI : Fn prog 75 := ⟨_, func75, by kernel_rfl, rfl⟩
theorem bA : Fn prog 82 := ⟨_, func82, by kernel_rfl, rfl⟩
theorem XW : Fn prog 83 := ⟨_, func83, by kernel_rfl, rfl⟩
theorem EO : Fn prog 84 := ⟨_, func84, by kernel_rfl, rfl⟩
theorem IX : Fn prog 90 := ⟨_, func90, by kernel_rfl, rfl⟩
theorem kT : Fn prog 93 := ⟨_, func93, by kernel_rfl, rfl⟩
theorem OG : Fn prog 94 := ⟨_, func94, by kernel_rfl, rfl⟩
theorem NP : Fn prog 95 := ⟨_, func95, by kernel_rfl, rfl⟩
theorem GM : Fn prog 101 := ⟨_, func101, by kernel_rfl, rfl⟩
theorem UT : Fn prog 104 := ⟨_, func104, by kernel_rfl, rfl⟩
theorem OH : Fn prog 116 := ⟨_, func116, by kernel_rfl, rfl⟩
theorem LQ : Fn prog 117 := ⟨_, func117, by kernel_rfl, rfl⟩
theorem GF : Fn prog 118 := ⟨_, func118, by kernel_rfl, rfl⟩
theorem GC : Fn prog 141 := ⟨_, func141, by kernel_rfl, rfl⟩
theorem EB : Fn prog 142 := ⟨_, func142, by kernel_rfl, rfl⟩
theorem cO : Fn prog 157 := ⟨_, func157, by kernel_rfl, rfl⟩
theorem ZH : Fn prog 175 := ⟨_, func175, by kernel_rfl, rfl⟩
end Go.Proofs.YtmppigbbkjepiaaGreatDoor
