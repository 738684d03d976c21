/- The functions of package integer: sums, products, division. The functions of package integer: conversions, bits, powers, roots, division. -/
import Derived.Test.YtmppigbbkjepiaaGreatDoorDivide
import Derived.Deep.LoopGhost
set_option maxHeartbeats 4000000
namespace Go.Proofs.YtmppigbbkjepiaaGreatDoor
open Go.Proofs.Tryz
open Go.RowKit W
def Box (W : World) (b : Nat) (n : Bool) (s : Value) : Prop := W.cell? ⟨b, 0, none⟩ = some (.bool n) ∧ W.cell? ⟨b, 1, none⟩ = some s
def RBox (W : World) (b : Nat) : Prop := (∃ n ao len cap, Box W b n (.slice ao len cap)) ∧ W.frozen? ⟨b, 0, none⟩ = false ∧ W.frozen? ⟨b, 1, none⟩ = false
theorem Box.keep {W w1 : World} {b : Nat} {n : Bool} {s : Value} (h : Box W b n s) (hb : Below W.heap.size W w1) : Box w1 b n s := ⟨CV h.1 hb, CV h.2 hb⟩
theorem RBox.keep {W w1 : World} {b : Nat} (h : RBox W b) (hb : Below W.heap.size W w1) : RBox w1 b := by
  obtain ⟨⟨n, q, len, f, k⟩, o, l⟩ := h
  have e := jT k.1
  exact ⟨⟨n, q, len, f, k.keep hb⟩, (hb.frozen (p := ⟨b, 0, none⟩) e).trans o, (hb.frozen (p := ⟨b, 1, none⟩) e).trans l⟩
theorem Sl.store {w : World} {v : Value} {l : List Nat} {r : Nat} (h : Sl w v l) (hr : RBox w r) (n' : Bool) (s' : Value) : Sl ((w.setCell ⟨r, 0, none⟩ (.bool n')).setCell ⟨r, 1, none⟩ s') v l := by
  obtain ⟨⟨n, J, len, p, z, y⟩, _⟩ := hr
  obtain ⟨L, o, rfl, G, F, D, B, C⟩ := h
  refine ⟨L, o, O, G, F, D, B, fun i u => ?_⟩
  obtain ⟨b, f, H, k⟩ := C i u
  refine ⟨b, f, H, ?_⟩
  have t : (⟨b, f + i, none⟩ : Addr) ≠ ⟨r, 0, none⟩ := fun e => by rw [e, z] at k; cases k
  have q : (⟨b, f + i, none⟩ : Addr) ≠ ⟨r, 1, none⟩ := fun e => by rw [e, y] at k; cases k
  rw [World.cell?_setCell_other _ _ _ _ q.symm, World.cell?_setCell_other _ _ _ _ t.symm]
  exact k
theorem TO {w : World} {r b o : Nat} {v : Value} {n' : Bool} {s' : Value} (h : w.cell? ⟨b, o, none⟩ = some v) (hne : b ≠ r) : ((w.setCell ⟨r, 0, none⟩ (.bool n')).setCell ⟨r, 1, none⟩ s').cell? ⟨b, o, none⟩ = some v := by
  have k : (⟨r, 0, none⟩ : Addr) ≠ ⟨b, o, none⟩ := fun e => hne (congrArg Addr.block e).symm
  have f : (⟨r, 1, none⟩ : Addr) ≠ ⟨b, o, none⟩ := fun e => hne (congrArg Addr.block e).symm
  rw [World.cell?_setCell_other _ _ _ _ f, World.cell?_setCell_other _ _ _ _ k]
  exact h
theorem IsI.store {w : World} {v : Value} {z : Int} {r : Nat} (h : IsI w v z) (hr : RBox w r) (n' : Bool) (s' : Value) : IsI ((w.setCell ⟨r, 0, none⟩ (.bool n')).setCell ⟨r, 1, none⟩ s') v z := by
  obtain ⟨s, rfl, e⟩ := h
  exact ⟨s, rfl, e.store hr n' s'⟩
theorem RN {w0 w2 : World} {r : Nat} {n : Bool} {s : Value} {z : Int} (hz : IsI w2 (.agg #[.bool n, s]) z) (hr : RBox w2 r) (hB : Below w0.heap.size w0 w2) (hle : w0.heap.size ≤ r) :
    RetZ w0 z (.returned (.agg #[.bool n, s])) ((w2.setCell ⟨r, 0, none⟩ (.bool n)).setCell ⟨r, 1, none⟩ s) :=
  ⟨_, rfl, hz.store hr _ _, (hB.setCell (p := ⟨r, 0, none⟩) hle _).setCell (p := ⟨r, 1, none⟩) hle _⟩
theorem qL (x : Int) : GR (!decide (x < 0)) x.natAbs = -x := by
  by_cases h : x < 0
  · rw [decide_eq_true h]; simp [GR]; omega
  · rw [decide_eq_false h]; simp [GR]; omega
theorem OT (neg : Bool) (v : Value) (l : List Nat) (z : Int) (w : World) (h : Sl w v l) (hz : GR neg (val l) = z) :
    Calls prog 138 #[.bool neg, v] w (RetZ w z) := by
  subst hz; exact Bt neg v l w h
theorem Nj (w : World) (n1 : Bool) (s1 : Value) : ∃ W, W = ((w.alloc (.cells #[.bool n1, s1] 62)).alloc (.cells #[.bool false, .slice none 0 0] 62)) ∧ W.heap.size = w.heap.size + 2 ∧ Below w.heap.size w W ∧
    Box W w.heap.size n1 s1 ∧ RBox W (w.heap.size + 1) := by
  refine ⟨_, O, by simp, ((Below.refl _ _).alloc (Nat.le_refl _) _).alloc AG _, ⟨?_, ?_⟩, ⟨⟨false, none, 0, 0, ?_, ?_⟩, ?_, ?_⟩⟩ <;> (try simp [go_sem]) <;> rfl
theorem Ac (w : World) (n1 n2 : Bool) (s1 s2 : Value) : ∃ W, W = (((w.alloc (.cells #[.bool n1, s1] 62)).alloc (.cells #[.bool n2, s2] 62)).alloc (.cells #[.bool false, .slice none 0 0] 62)) ∧ W.heap.size = w.heap.size + 3 ∧ Below w.heap.size w W ∧
    Box W w.heap.size n1 s1 ∧ Box W (w.heap.size + 1) n2 s2 ∧ RBox W (w.heap.size + 1 + 1) := by
  refine ⟨_, O, by simp, (((Below.refl _ _).alloc (Nat.le_refl _) _).alloc AG _).alloc (by simp; omega) _, ⟨?_, ?_⟩, ⟨?_, ?_⟩, ⟨⟨false, none, 0, 0, ?_, ?_⟩, ?_, ?_⟩⟩ <;> (try simp [go_sem]) <;> rfl
theorem Neg_z (va : Value) (x : Int) (w : World) (ha : IsI w va x) (hx : Fits x 1000000000) :
    Calls prog 91 #[va] w (RetZ w (-x)) := by
  obtain ⟨q, k, rfl, D, Y, X⟩ := ha.parts
  have SA := Lib.hid D
  have HF := Lib.hid hx
  clear ha D hx
  obtain ⟨z, l⟩ : ∃ z : Int, z = -x := ⟨_, rfl⟩
  rw [← l]
  have HZ := Lib.hid l
  clear l
  obtain ⟨W, J, U, t, H, G⟩ := Nj w (decide (x < 0)) (.slice q (CB x.natAbs).length k)
  have R := H.1
  have Q := H.2
  have K1 := Lib.hid G
  clear G
  go_enter func91, ntmps91
  go_upto_region 1 with fail
  rw [← J]
  clear J
  go_region_held3 (fun C => C.cell? ⟨w.heap.size, 0, none⟩ = some (.bool (decide (x < 0))) ∧ C.cell? ⟨w.heap.size, 1, none⟩ = some (.slice q (CB x.natAbs).length k))
    (first | exact ⟨R, Q⟩ | exact ⟨N, L⟩ | exact ⟨f0, f1⟩ | go_keep)
    (first
      | (go_at_call 139; refine (WP _ (CB x.natAbs) _ ?_ ?_).mono ?_; exact SA.out.below t.drew; exact Nat.le_trans HF.out Z; rintro e w1 ⟨v1, rfl, u, f⟩; have N := CV (w := W.drew) R f; have L := CV (w := W.drew) Q f)
      | (go_at_call 138; refine (OT _ _ (CB x.natAbs) z _ u (by rw [CK, qL, HZ.out])).mono ?_; rintro e S ⟨v2, rfl, l, h⟩; have f0 := CV N h; have f1 := CV L h; obtain ⟨y, p, rfl, T, _, _⟩ := l.parts; have o := (K1.out.keep (MX f)).keep h; have B := Lib.hid o; obtain ⟨⟨n0, a0, F, P, g0, g1⟩, g2, g3⟩ := o))
  have B2 : Below w.heap.size w S := (t.trans ((MX f).mono t.size)).trans (h.mono (Nat.le_trans t.size f.size))
  go_wp2_with fail
  refine AP (v := .agg #[.bool (decide (z < 0)), .slice y (CB z.natAbs).length p]) ?_ O (RN l B.out B2 Z)
  simp [results, results91, go_sem, g0, g1]
theorem Fg {x y : Int} {nx ny : Bool} (hx : GR nx x.natAbs = x) (hy : GR ny y.natAbs = y) : GR (!(nx == ny)) (x.natAbs * y.natAbs) = x * y := by
  have e : x * y = GR nx x.natAbs * GR ny y.natAbs := by rw [hx, hy]
  rw [e]
  cases nx <;> cases ny <;> simp only [GR] <;> simp [Int.neg_mul, Int.mul_neg]
theorem Fh (z : Int) : GR (decide (z < 0)) z.natAbs = z := by
  by_cases h : z < 0
  · rw [decide_eq_true h]; simp [GR]; omega
  · rw [decide_eq_false h]; simp [GR]; omega
def IsJ (w : World) (v : Value) (z : Int) : Prop := ∃ n s, v = .agg #[.bool n, s] ∧ GR n z.natAbs = z ∧ Sl w s (CB z.natAbs)
theorem IsI.j {w : World} {v : Value} {z : Int} (h : IsI w v z) : IsJ w v z := by
  obtain ⟨s, rfl, e⟩ := h
  exact ⟨_, s, rfl, Fh z, e⟩
theorem IsJ.parts {w : World} {v : Value} {z : Int} (h : IsJ w v z) : ∃ (n : Bool) (ao : Option Addr) (cap : Nat), v = .agg #[.bool n, .slice ao (CB z.natAbs).length cap] ∧ GR n z.natAbs = z ∧ Sl w (.slice ao (CB z.natAbs).length cap) (CB z.natAbs) ∧ (CB z.natAbs).length ≤ cap ∧ cap ≤ 9223372036854775807 := by
  obtain ⟨n, s, rfl, k, l⟩ := h
  obtain ⟨ao, cap, rfl, f, e, q, o, p⟩ := l
  exact ⟨n, ao, cap, rfl, k, ⟨ao, cap, rfl, f, e, q, o, p⟩, f, by unfold maxLen at e; omega⟩
theorem QD {W w1 : World} {b o : Nat} {v : Value} (h : W.cell? ⟨b, o, none⟩ = some v) (hb : Below W.drew.heap.size W.drew w1) : w1.cell? ⟨b, o, none⟩ = some v := CV (w := W.drew) h hb
theorem Mul_j (va vb : Value) (x y : Int) (w : World) (ha : IsJ w va x) (hb : IsJ w vb y) (hx : Fits x 1000000000) (hy : Fits y 1000000000) :
    Calls prog 194 #[va, vb] w (RetZ w (x * y)) := by
  obtain ⟨J, D, l, rfl, u, sa, a7, a6⟩ := ha.parts
  obtain ⟨H, C, k, rfl, t, sb, a5, a4⟩ := hb.parts
  have SA := Lib.hid sa
  have SB := Lib.hid sb
  have Y := Lib.hid hx
  have X := Lib.hid hy
  clear ha sa hx hb sb hy
  obtain ⟨z, o⟩ : ∃ z : Int, z = x * y := ⟨_, rfl⟩
  rw [← o]
  have HZ := Lib.hid o
  clear o
  have U := Lib.hid u
  have T := Lib.hid t
  clear u t
  obtain ⟨W, hW, a3, F, N, L, k2⟩ := Ac w J H (.slice D (CB x.natAbs).length l) (.slice C (CB y.natAbs).length k)
  have c0 := N.1
  have c1 := N.2
  have c2 := L.1
  have c3 := L.2
  have K1 := Lib.hid k2
  clear N L k2
  have p : GR (!(J == H)) (x.natAbs * y.natAbs) = z := by
    rw [HZ.out]; exact Fg U.out T.out
  have R := Lib.hid p
  clear p
  go_enter func194, ntmps194
  go_upto_region 1 with fail
  rw [← hW]
  clear hW
  go_region_held3 (fun G => G.cell? ⟨w.heap.size, 0, none⟩ = some (.bool J) ∧ G.cell? ⟨w.heap.size, 1, none⟩ = some (.slice D (CB x.natAbs).length l) ∧ G.cell? ⟨w.heap.size + 1, 0, none⟩ = some (.bool H) ∧ G.cell? ⟨w.heap.size + 1, 1, none⟩ = some (.slice C (CB y.natAbs).length k))
    (first | exact ⟨c0, c1, c2, c3⟩ | exact ⟨d0, d1, d2, d3⟩ | exact ⟨f0, f1, f2, f3⟩ | exact ⟨TO f0 Z, TO f1 Z, TO f2 Z, TO f3 Z⟩)
    (first
      | (go_at_call 211; refine (vC _ _ (CB x.natAbs) (CB y.natAbs) _ ?_ ?_ ?_ ?_).mono ?_; exact SA.out.below F.drew; exact SB.out.below F.drew; exact Y.out; exact X.out; rintro e w1 ⟨v1, rfl, P, f⟩; have d0 := QD c0 f; have d1 := QD c1 f; have d2 := QD c2 f; have d3 := QD c3 f)
      | (go_at_call 138; refine (OT _ _ _ z _ P (by rw [CK, CK, CK, R.out])).mono ?_; rintro e w2 ⟨v2, rfl, o, h⟩; have f0 := CV d0 h; have f1 := CV d1 h; have f2 := CV d2 h; have f3 := CV d3 h; obtain ⟨Q, B, rfl, a2, _, _⟩ := o.parts; have q := (K1.out.keep (MX f)).keep h; have S := Lib.hid q; obtain ⟨⟨n0, a8, a0, a1, g0, g1⟩, g2, g3⟩ := q))
  have B2 : Below w.heap.size w w2 := (F.trans ((MX f).mono F.size)).trans (h.mono (Nat.le_trans F.size f.size))
  go_wp2_with fail
  refine AP (v := .agg #[.bool (decide (z < 0)), .slice Q (CB z.natAbs).length B]) ?_ O (RN o S.out B2 Z)
  simp [results, results194, go_sem, g0, g1]
theorem Mul_z (va vb : Value) (x y : Int) (w : World) (ha : IsI w va x) (hb : IsI w vb y) (hx : Fits x 1000000000) (hy : Fits y 1000000000) :
    Calls prog 194 #[va, vb] w (RetZ w (x * y)) := Mul_j va vb x y w ha.j hb.j hx hy
end Go.Proofs.YtmppigbbkjepiaaGreatDoor
set_option maxHeartbeats 1000000
namespace Go.Proofs.YtmppigbbkjepiaaGreatDoor
open Go.Proofs.Tryz
open Go.RowKit W
theorem Ad (w : World) : ∃ W, W = w.alloc (.cells #[.bool false, .slice none 0 0] 62) ∧ W.heap.size = w.heap.size + 1 ∧ Below w.heap.size w W ∧ RBox W w.heap.size := by
  refine ⟨_, O, by simp, (Below.refl _ _).alloc (Nat.le_refl _) _, ⟨⟨false, none, 0, 0, ?_, ?_⟩, ?_, ?_⟩⟩ <;> (try simp [go_sem]) <;> rfl
theorem gL (w : World) (n1 : Bool) (s1 : Value) : ∃ W, W = w.alloc (.cells #[.bool n1, s1] 62) ∧ W.heap.size = w.heap.size + 1 ∧ Below w.heap.size w W ∧ Box W w.heap.size n1 s1 := by
  refine ⟨_, O, by simp, (Below.refl _ _).alloc (Nat.le_refl _) _, ⟨?_, ?_⟩⟩ <;> (try simp [go_sem]) <;> rfl
theorem RetZ.eq {w : World} {z n : Int} {e : Ending} {w' : World} (h : RetZ w z e w') (hz : z = n) : RetZ w n e w' := by subst hz; exact h
theorem Sh (n : Int) (w : World) (h1 : -9223372036854775808 ≤ n) (h2 : n ≤ 9223372036854775807) :
    Calls prog 136 #[.int .i64 n] w (RetZ w n) := by
  obtain ⟨W, G, a0, C, T⟩ := Ad w
  have U := Lib.hid T
  clear T
  by_cases hn : n < 0
  · obtain ⟨k, hk⟩ : ∃ k : Nat, n = -(k : Int) := ⟨n.natAbs, by omega⟩
    have hc : IntKind.u64.wrap (-IntKind.u64.wrap n) = (k : Int) := by simp only [IntKind.wrap_u64]; omega
    have l : GR true k = n := by simp [GR]; omega
    have R := Lib.hid l
    have L : k < 18446744073709551616 := by omega
    clear hk l
    go_enter func136, ntmps136
    go_upto_region 1 with fail
    rw [← G]
    clear G
    go_wp2_with fail
    refine (ZR k _ L).mono ?_
    rintro e X ⟨v1, rfl, t, h⟩
    go_wp2_with fail
    obtain ⟨z, f⟩ : ∃ z : Int, z = n := ⟨_, rfl⟩
    rw [← f] at R ⊢
    have y := Lib.hid f
    clear f hn hc h1 h2
    refine (OT _ _ _ z _ t (by rw [CK]; exact R.out)).mono ?_
    rintro e H ⟨Y, rfl, l, p⟩
    obtain ⟨u, q, rfl, J, _, _⟩ := l.parts
    have o := (U.out.keep h).keep p
    have B := Lib.hid o
    obtain ⟨⟨n0, Q, D, F, P, N⟩, g2, g3⟩ := o
    have S : Below w.heap.size w H := (C.trans (h.mono C.size)).trans (p.mono (Nat.le_trans C.size h.size))
    go_wp2_with fail
    refine AP (v := .agg #[.bool (decide (z < 0)), .slice u (CB z.natAbs).length q]) ?_ O ((RN l B.out S Z).eq y.out)
    simp [results, results136, go_sem, P, N]
  · obtain ⟨k, rfl⟩ : ∃ k : Nat, n = (k : Int) := ⟨n.natAbs, by omega⟩
    have l : GR false k = (k : Int) := rfl
    have R := Lib.hid l
    go_enter func136, ntmps136
    go_upto_region 1 with fail
    rw [← G]
    clear G
    go_wp2_with fail
    refine (ZR k _ Z).mono ?_
    rintro e X ⟨v1, rfl, t, h⟩
    go_wp2_with fail
    obtain ⟨z, f⟩ : ∃ z : Int, z = (k : Int) := ⟨_, rfl⟩
    rw [← f]
    refine (OT _ _ _ z _ t (by rw [CK, f]; rfl)).mono ?_
    have y := Lib.hid f
    clear f l
    rintro e H ⟨Y, rfl, l, p⟩
    obtain ⟨u, q, rfl, J, _, _⟩ := l.parts
    have o := (U.out.keep h).keep p
    have B := Lib.hid o
    obtain ⟨⟨n0, Q, D, F, P, N⟩, g2, g3⟩ := o
    have S : Below w.heap.size w H := (C.trans (h.mono C.size)).trans (p.mono (Nat.le_trans C.size h.size))
    go_wp2_with fail
    refine AP (v := .agg #[.bool (decide (z < 0)), .slice u (CB z.natAbs).length q]) ?_ O ((RN l B.out S Z).eq y.out)
    simp [results, results136, go_sem, P, N]
def KI (n : Bool) (l : List Nat) : Bool := if l.length = 0 then !n else decide (gd l (l.length - 1) ≠ 0)
theorem Dw (n : Bool) (s : Value) (l : List Nat) (w : World) (ha : Sl w s l) :
    Calls prog 126 #[.agg #[.bool n, s]] w (JO w (KI n l)) := by
  obtain ⟨L, v, rfl, P, J, H, C, y⟩ := ha
  have N := Lib.hid y
  clear y C H
  unfold maxLen at J
  obtain ⟨W, h, B, q, t⟩ := gL w n (.slice L l.length v)
  have R := t.1
  have Q := t.2
  clear t
  by_cases f : l.length = 0
  · have e : KI n l = !n := by unfold KI; rw [if_pos f]
    rw [e]
    have G : ((l.length : Int) == 0) = true := by rw [f]; rfl
    clear e f
    go_enter func126, ntmps126
    go_upto_region 1 with fail
    rw [← h]
    clear h
    go_wp2_with fail
    go_ret
    exact ⟨rfl, q⟩
  · obtain ⟨k, p⟩ : ∃ k, l.length = k + 1 := ⟨l.length - 1, by omega⟩
    have G : ((l.length : Int) == 0) = false := by rw [beq_eq_false_iff_ne]; omega
    obtain ⟨b, z, rfl, u⟩ := N.out k Z
    have u := CV u q
    have D : (l.length : Int) - 1 = (k : Int) := by omega
    by_cases o : gd l k = 0
    · have e : KI n l = false := by unfold KI; rw [if_neg f, p, Nat.add_sub_cancel, o]; rfl
      rw [e]
      rw [o] at u
      clear e f p o
      go_enter func126, ntmps126
      go_upto_region 1 with fail
      rw [← h]
      clear h
      go_wp2_with fail
      go_ret
      exact ⟨rfl, q⟩
    · have e : KI n l = true := by unfold KI; rw [if_neg f, p, Nat.add_sub_cancel]; exact decide_eq_true o
      rw [e]
      have F : (((gd l k : Nat) : Int) != 0) = true := by rw [bne_iff_ne]; omega
      clear e f p o
      go_enter func126, ntmps126
      go_upto_region 1 with fail
      rw [← h]
      clear h
      go_wp2_with fail
      go_ret
      exact ⟨rfl, q⟩
theorem gM (va : Value) (x : Int) (w : World) (ha : IsI w va x) :
    Calls prog 126 #[va] w (JO w true) := by
  obtain ⟨s, rfl, k⟩ := ha
  have := Dw (decide (x < 0)) s _ w k
  have e : KI (decide (x < 0)) (CB x.natAbs) = true := by
    unfold KI
    by_cases h : (CB x.natAbs).length = 0
    · rw [if_pos h]
      have := (UH x).1 Z
      subst this; rfl
    · rw [if_neg h]
      have f : 0 < x.natAbs := by
        rcases Nat.eq_zero_or_pos x.natAbs with e | e
        · rw [e, DU] at h; exact absurd rfl h
        · exact e
      obtain ⟨l, y, o, p, _⟩ := XR x.natAbs f
      rw [o, List.length_append, List.length_singleton, Nat.add_sub_cancel, MG _ _ _ (Nat.le_refl _), Nat.sub_self]
      exact decide_eq_true (by show y ≠ 0; omega)
  rwa [e] at this
end Go.Proofs.YtmppigbbkjepiaaGreatDoor
