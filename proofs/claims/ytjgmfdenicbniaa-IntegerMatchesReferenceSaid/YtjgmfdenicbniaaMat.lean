/- Walk: the law IntegerMatchesReference. (Printed by g_match.py.) -/
import Derived.Test.YtjgmfdenicbniaaLawC
import Derived.Test.YtjgmfdenicbniaaKitC
import Derived.Test.YtjgmfdenicbniaaKitF
import Derived.Test.YtjgmfdenicbniaaRefB
import Derived.Test.YtjgmfdenicbniaaRefC
import Derived.Test.YtjgmfdenicbniaaNum
namespace Go.Proofs.Ytjgmfdenicbniaa
open Go.RowKit W
theorem eqI {w : World} {v : Value} {z z' : Int} (h : z = z') (f : IsI w v z) : IsI w v z' := h ▸ f
theorem bne_f' {m n : Int} (h : m = n) : (m != n) = false := by subst h; simp
theorem Oper.wp_callBez {P : Program} {o : Oper} {a : Act} {w : World} {K : Act → World → Prop} {Q : Exit → Act → World → Prop} {f : Nat} {args : List Operand} {tys : Array TypeId} {vs : List Value} {l : List SF} {x y g : Int}
    (hg0 : ((Int.gcd x y : Nat) : Int) = g) (hf : Fn P f) (ho : o.op = .call { callee := .value (.func f), args := args.toArray, argTypes := tys }) (hc : Calls P f vs.toArray w (RetBez w x y)) (hv : args.map a.eval = vs) (E : Env w l)
    (h : ∀ w' n s m t p q' u v, BezIs x y g u v → Below w.heap.size w w' → Env w' (fI (.agg #[.bool p, q']) v :: fI (.agg #[.bool m, t]) u :: fI (.agg #[.bool n, s]) g :: l) → K (a.put o.dst (.tuple #[.agg #[.bool n, s], .agg #[.bool m, t], .agg #[.bool p, q']])) w') : o.wp P a w K Q := by
  refine Oper.wp_call hf ho hc hv ?_
  rintro e w' ⟨g', u, v, hbz, va, vb, vc, rfl, hz, hr, hc, hb⟩
  have hgg : g' = g := hbz.isg.trans hg0
  rw [hgg] at hbz hz
  obtain ⟨n, s, rfl, _⟩ := hz.sh
  obtain ⟨m, t, rfl, _⟩ := hr.sh
  obtain ⟨p, q', rfl, _⟩ := hc.sh
  exact ⟨_, rfl, h w' n s m t p q' u v hbz hb ⟨hc, hr, hz, E.below hb⟩⟩
theorem RBezout_is (va vb : Value) (x y g u v : Int) (w : World) (ha : IsI w va x) (hb : IsI w vb y) (hx : Fits x 400000000) (hy : Fits y 400000000) (h : BezIs x y g u v) :
    Calls Try.prog 36 #[va, vb] w (RetBz w g u v) := by
  refine (RBezout_z va x vb y w ha hb hx hy).mono ?_
  rintro e w' ⟨g', u', v', h', hr⟩
  obtain ⟨rfl, rfl, rfl⟩ := h'.unique h
  exact hr
theorem pf12 {x : Int} {n : Nat} (Fx : Fits x 12) (hn : n ≤ 4096) : (digs (x.natAbs ^ n)).length ≤ 12 * 4096 :=
  pow_fits2 Fx _ (by rw [Nat.mul_comm]; exact Nat.mul_le_mul_left 12 hn) (by decide)
theorem Pow_zI (va : Value) (x n : Int) (w : World) (ha : IsI w va x) (Fx : Fits x 12) (h0 : ¬ n < 0) (h1 : ¬ 4096 < n) :
    Calls Try.prog 26 #[va, .int .i64 n] w (RetZE w (x ^ n.toNat) 0) := by
  obtain ⟨k, rfl⟩ : ∃ k : Nat, n = (k : Int) := ⟨n.toNat, by omega⟩
  rw [Int.toNat_natCast]
  exact Pow_z va x k w ha (by omega) (Fits.mono Fx (by decide)) (Nat.le_trans (pf12 Fx (by omega)) (by decide))
theorem RPow_zI (va : Value) (x n : Int) (w : World) (ha : IsI w va x) (Fx : Fits x 12) (h0 : ¬ n < 0) (h1 : ¬ 4096 < n) :
    Calls Try.prog 46 #[va, .int .i64 n] w (RetZE w (x ^ n.toNat) 0) := by
  obtain ⟨k, rfl⟩ : ∃ k : Nat, n = (k : Int) := ⟨n.toNat, by omega⟩
  rw [Int.toNat_natCast]
  exact RPow_z x k va w ha (by omega) (fun p hp => Nat.le_trans (pf12 Fx (by omega)) (by decide))
theorem Root_isI (va : Value) (x k : Int) (r : Nat) (w : World) (ha : IsI w va x) (Fx : Fits x 12) (h0 : ¬ x < 0) (h1 : ¬ k < 1) (h2 : k ≤ 9223372036854775807) (hr : IsRoot r k.toNat x.natAbs) :
    Calls Try.prog 27 #[va, .int .i64 k] w (RetZE w (r : Int) 0) := by
  obtain ⟨n, rfl⟩ : ∃ n : Nat, k = (n : Int) := ⟨k.toNat, by omega⟩
  rw [Int.toNat_natCast] at hr
  exact Root_is va x n r w ha (by omega) (by omega) (by omega) (Fits.mono Fx (by decide)) hr
theorem RRoot_isI (va : Value) (x k : Int) (r : Nat) (w : World) (ha : IsI w va x) (Fx : Fits x 12) (h0 : ¬ x < 0) (h1 : ¬ k < 1) (h2 : k ≤ 9223372036854775807) (hr : IsRoot r k.toNat x.natAbs) :
    Calls Try.prog 47 #[va, .int .i64 k] w (RetZE w (r : Int) 0) := by
  obtain ⟨n, rfl⟩ : ∃ n : Nat, k = (n : Int) := ⟨k.toNat, by omega⟩
  rw [Int.toNat_natCast] at hr
  refine (RRoot_z x n va w ha (by omega) (by omega) (by omega) (Fits.mono Fx (by decide))).mono ?_
  rintro e w' ⟨r', h', hr'⟩
  rw [h'.unique hr] at hr'
  exact hr'
def dq (a b : Int) : Int := if b = 0 then 0 else a / b
def dr (a b : Int) : Int := if b = 0 then 0 else a % b
def de (b : Int) : Int := if b = 0 then 10 else 0
def pv (a n : Int) : Int := if n < 0 ∨ 4096 < n then 0 else a ^ n.toNat
def pe (n : Int) : Int := if n < 0 ∨ 4096 < n then 1 else 0
def rv (a k : Int) (r : Nat) : Int := if a < 0 ∨ k < 1 then 0 else (r : Int)
def re (a k : Int) : Int := if a < 0 ∨ k < 1 then 1 else 0
theorem DivMod_all (va vb : Value) (x y : Int) (w : World) (ha : IsI w va x) (hb : IsI w vb y) (hx : Fits x 900000000) (hy : Fits y 900000000) :
    Calls Try.prog 25 #[va, vb] w (RetDM w (dq x y) (dr x y) (de y)) := by
  unfold dq dr de
  by_cases h : y = 0
  · rw [if_pos h, if_pos h, if_pos h]; exact DivMod_zero _ _ x _ ha (eqI h hb)
  · rw [if_neg h, if_neg h, if_neg h]; exact DivMod_z _ _ x y _ ha hb h hx hy
theorem RDivMod_all (va vb : Value) (x y : Int) (w : World) (ha : IsI w va x) (hb : IsI w vb y) (hx : Fits x 900000000) (hy : Fits y 900000000) :
    Calls Try.prog 34 #[va, vb] w (RetDM w (dq x y) (dr x y) (de y)) := by
  unfold dq dr de
  by_cases h : y = 0
  · rw [if_pos h, if_pos h, if_pos h]; exact RDivMod_zero _ x _ y _ ha hb h
  · rw [if_neg h, if_neg h, if_neg h]; exact RDivMod_z _ x _ y _ ha hb h hx hy
theorem Pow_all (va : Value) (x n : Int) (w : World) (ha : IsI w va x) (Fx : Fits x 12) :
    Calls Try.prog 26 #[va, .int .i64 n] w (RetZE w (pv x n) (pe n)) := by
  unfold pv pe
  by_cases h : n < 0 ∨ 4096 < n
  · rw [if_pos h, if_pos h]; exact Pow_out _ x n _ ha h
  · rw [if_neg h, if_neg h]; exact Pow_zI _ x n _ ha Fx (by omega) (by omega)
theorem RPow_all (va : Value) (x n : Int) (w : World) (ha : IsI w va x) (Fx : Fits x 12) :
    Calls Try.prog 46 #[va, .int .i64 n] w (RetZE w (pv x n) (pe n)) := by
  unfold pv pe
  by_cases h : n < 0 ∨ 4096 < n
  · rw [if_pos h, if_pos h]; exact RPow_out x n _ _ ha h
  · rw [if_neg h, if_neg h]; exact RPow_zI _ x n _ ha Fx (by omega) (by omega)
theorem Root_all (va : Value) (x k : Int) (r : Nat) (w : World) (ha : IsI w va x) (Fx : Fits x 12) (h2 : k ≤ 9223372036854775807) (hr : ¬ k < 1 → IsRoot r k.toNat x.natAbs) :
    Calls Try.prog 27 #[va, .int .i64 k] w (RetZE w (rv x k r) (re x k)) := by
  unfold rv re
  by_cases h : x < 0 ∨ k < 1
  · rw [if_pos h, if_pos h]; exact Root_out _ x k _ ha h
  · rw [if_neg h, if_neg h]; exact Root_isI _ x k r _ ha Fx (by omega) (by omega) h2 (hr (by omega))
theorem RRoot_all (va : Value) (x k : Int) (r : Nat) (w : World) (ha : IsI w va x) (Fx : Fits x 12) (h2 : k ≤ 9223372036854775807) (hr : ¬ k < 1 → IsRoot r k.toNat x.natAbs) :
    Calls Try.prog 47 #[va, .int .i64 k] w (RetZE w (rv x k r) (re x k)) := by
  unfold rv re
  by_cases h : x < 0 ∨ k < 1
  · rw [if_pos h, if_pos h]; exact RRoot_out x k _ _ ha h
  · rw [if_neg h, if_neg h]; exact RRoot_isI _ x k r _ ha Fx (by omega) (by omega) h2 (hr (by omega))
theorem bits_12 {n : Int} (h : Fits n 12) : bitsN n.natAbs ≤ 384 := by
  rcases Nat.eq_zero_or_pos n.natAbs with e | e
  · rw [e, bitsN_zero]; omega
  · have := (bitsN_bounds _ e).2.2.2; have : (digs n.natAbs).length ≤ 12 := h; omega
theorem mul_wrap {a u : Int} (h : Fits a 12) (h0 : ¬ u < 0) (h1 : ¬ 4096 < u) : IntKind.i64.wrap (u * ((bitsN a.natAbs : Nat) : Int)) = u * ((bitsN a.natAbs : Nat) : Int) := by
  have hb := bits_12 h
  generalize bitsN a.natAbs = b at *
  obtain ⟨n, rfl⟩ : ∃ n : Nat, u = (n : Int) := ⟨u.toNat, by omega⟩
  have := Nat.mul_le_mul (show n ≤ 4096 by omega) hb
  rw [← Int.natCast_mul]
  simp only [IntKind.wrap_i64]; omega
theorem isAgg_i64 (w : World) : (isAgg 3).run Try.prog w = .ok false w := by simp [go_sem]
set_option maxRecDepth 100000 in
set_option maxHeartbeats 8000000 in
theorem mat_t (u0 u1 : Int) (na : Bool) (sa : Value) (la : List Nat) (nb : Bool) (sb : Value) (lb : List Nat)  (w : World)  (hu2 : u1 ≤ 9223372036854775807) (hsa : Sl w sa la) (hsb : Sl w sb lb) :
    Calls Try.prog 11 #[.agg #[.bool na, sa], .agg #[.bool nb, sb], .agg #[.int .i64 u0, .int .i64 u1]] w (RetB w true) := by
 have E := Env.start w
 obtain ⟨a, ha⟩ : ∃ z, mkI na la 12 = z := ⟨_, rfl⟩
 have Fa : Fits a 12 := by rw [← ha]; exact mkI_fits hsa.wd
 obtain ⟨b, hb⟩ : ∃ z, mkI nb lb 12 = z := ⟨_, rfl⟩
 have Fb : Fits b 12 := by rw [← hb]; exact mkI_fits hsb.wd
 go_enter Try.func11, Try.ntmps11
 refine wp_seq ?_
 -- region 0
 refine RL ?_
 refine EF rfl (Oper.wp_box (cs := [.bool na, sa]) rfl rfl ?_)
 intro b1 w1 e1 z1 d1 x1
 have l1 : w.heap.size ≤ b1 := by rw [e1]; exact (E.1).size
 replace E := E.below d1
 clear e1 z1 d1
 replace E := E.x x1
 clear x1
 refine kw rfl ?_
 simp only [q2,q3]
 refine EF rfl (Oper.wp_box (cs := [.bool nb, sb]) rfl rfl ?_)
 intro b2 w2 e2 z2 d2 x2
 have l2_0 : b1 < b2 := by rw [e2]; exact Bx.lt (E.1)
 replace E := E.below d2
 clear e2 z2 d2
 replace E := E.x x2
 clear x2
 refine kw rfl ?_
 simp only [q2,q3]
 refine EF rfl (Oper.wp_box (cs := [.int .i64 u0, .int .i64 u1]) rfl rfl ?_)
 intro b3 w3 e3 z3 d3 x3
 have l3_0 : b2 < b3 := by rw [e3]; exact Bx.lt (E.1)
 replace E := E.below d3
 clear e3 z3 d3
 replace E := E.x x3
 clear x3
 refine kw rfl ?_
 refine AC rfl rfl rfl rfl <| ?_
 simp only [q2,q3]
 refine WN ?_
 change Code.wp _ _ _ _ _
 refine wp_seq ?_
 -- region 1
 refine RL ?_
 refine EF rfl (Oper.wp_callB fn_elaw01_sanity rfl (sanity_t _) rfl E ?_)
 clear E
 intro w4 d4 E
 clear d4
 refine kw rfl ?_
 refine A rfl rfl rfl rfl rfl <| ?_
 simp only [q2,q3]
 refine WN ?_
 change Code.wp _ _ _ _ _
 refine wp_seq ?_
 refine wp_seq ?_
 -- region 2
 refine RL ?_
 refine M rfl rfl rfl rfl rfl <| V (v := .bool false) rfl rfl (run_not (b := true) rfl rfl) <| ?_
 simp only [q2,q3]
 refine WN ?_
 change Code.wp _ _ _ _ _
 refine wp_cond_false rfl ?_
 refine wp_skip ?_
 change Code.wp _ _ _ _ _
 refine wp_seq ?_
 -- region 4
 refine RL ?_
 refine V rfl rfl (run_load_bx AgRaw rfl rfl (E.2.2.1) rfl) <| ?_
 simp only [q2,q3]
 refine EF rfl (Oper.wp_callI fn_eref01_Made rfl (Made_is na sa la 12 _ (Sl.below hsa (e3 E)) (by decide) ha) rfl E ?_)
 clear E
 intro w5 n5 s5 d5 E
 clear d5
 refine kw rfl ?_
 simp only [q2,q3]
 refine EF rfl (Oper.wp_alloc AgI rfl ?_)
 intro b6 w6 e6 z6 d6 x6
 have l6_0 : b3 < b6 := by rw [e6]; exact Bx.lt (E.2.1)
 replace E := E.below d6
 clear e6 z6 d6
 refine kw rfl ?_
 simp only [q2,q3]
 refine EF rfl (Oper.wp_store AgI rfl rfl rfl x6 rfl rfl (IsI.one (E.1)) ?_)
 intro w7 o7 y7
 replace E := (E.onl (x6.noW now0) ⟨trivial, okX (by omega), okX (by omega), okX (by omega), okW (by omega), trivial⟩ o7).b y7
 clear x6 o7 y7
 refine kn rfl ?_
 refine WN ?_
 change Code.wp _ _ _ _ _
 refine wp_seq ?_
 -- region 5
 refine RL ?_
 refine V rfl rfl (run_load_bx AgRaw rfl rfl (e3 E) rfl) <| ?_
 simp only [q2,q3]
 refine EF rfl (Oper.wp_callI fn_eref01_Made rfl (Made_is nb sb lb 12 _ (Sl.below hsb (e5 E)) (by decide) hb) rfl E ?_)
 clear E
 intro w8 n8 s8 d8 E
 clear d8
 refine kw rfl ?_
 simp only [q2,q3]
 refine EF rfl (Oper.wp_alloc AgI rfl ?_)
 intro b9 w9 e9 z9 d9 x9
 have l9_0 : b6 < b9 := by rw [e9]; exact Bx.lt (E.2.1)
 replace E := E.below d9
 clear e9 z9 d9
 refine kw rfl ?_
 simp only [q2,q3]
 refine EF rfl (Oper.wp_store AgI rfl rfl rfl x9 rfl rfl (IsI.one (E.1)) ?_)
 intro w10 o10 y10
 replace E := (E.onl (x9.noW now0) ⟨trivial, okB (by omega), trivial, okX (by omega), okX (by omega), okX (by omega), okW (by omega), trivial⟩ o10).b y10
 clear x9 o10 y10
 refine kn rfl ?_
 refine WN ?_
 change Code.wp _ _ _ _ _
 refine wp_seq ?_
 -- region 6
 refine RL ?_
 refine V rfl rfl (run_load_bx AgI rfl rfl (E.2.2.1) rfl) <| V rfl rfl (run_load_bx AgI rfl rfl (E.1) rfl) <| ?_
 simp only [q2,q3]
 refine EF rfl (Oper.wp_callIIE fn_integer_DivMod rfl (DivMod_all _ _ a b _ (e3 E) (E.2.1) (Fits.mono Fa (by decide)) (Fits.mono Fb (by decide))) rfl E ?_)
 clear E
 intro w11 n11 s11 m11 t11 d11 E
 clear d11
 refine kw rfl ?_
 refine M rfl rfl rfl rfl rfl <| V rfl rfl (run_extract (vs := [.agg #[.bool n11, s11], .agg #[.bool m11, t11], .int .i64 (de b)]) rfl rfl rfl) <| V rfl rfl (run_extract (vs := [.agg #[.bool n11, s11], .agg #[.bool m11, t11], .int .i64 (de b)]) rfl rfl rfl) <| V rfl rfl (run_extract (vs := [.agg #[.bool n11, s11], .agg #[.bool m11, t11], .int .i64 (de b)]) rfl rfl rfl) <| ?_
 simp only [q2,q3]
 refine EF rfl (Oper.wp_alloc AgI rfl ?_)
 intro b12 w12 e12 z12 d12 x12
 have l12_0 : b9 < b12 := by rw [e12]; exact Bx.lt (E.2.2.1)
 replace E := E.below d12
 clear e12 z12 d12
 refine kw rfl ?_
 simp only [q2,q3]
 refine EF rfl (Oper.wp_alloc AgI rfl ?_)
 intro b13 w13 e13 z13 d13 x13
 have l13_0 : b12 < b13 := by rw [e13]; exact Bx.lt (x12)
 replace E := E.below d13
 replace x12 := Bx.below x12 d13
 clear e13 z13 d13
 refine kw rfl ?_
 simp only [q2,q3]
 refine EF rfl (Oper.wp_store AgI rfl rfl rfl x12 rfl rfl (IsI.one (E.2.1)) ?_)
 intro w14 o14 y14
 replace E := (E.onl (x12.noW now0) ⟨trivial, trivial, okB (by omega), trivial, okB (by omega), trivial, okX (by omega), okX (by omega), okX (by omega), okW (by omega), trivial⟩ o14).b y14
 replace x13 := Bx.onl x13 (by omega) o14
 clear x12 o14 y14
 refine kn rfl ?_
 refine EF rfl (Oper.wp_store AgI rfl rfl rfl x13 rfl rfl (IsI.one (E.2.1)) ?_)
 intro w15 o15 y15
 replace E := (E.onl (x13.noW now0) ⟨okB (by omega), trivial, trivial, okB (by omega), trivial, okB (by omega), trivial, okX (by omega), okX (by omega), okX (by omega), okW (by omega), trivial⟩ o15).b y15
 clear x13 o15 y15
 refine kn rfl ?_
 refine A rfl rfl rfl rfl rfl <| ?_
 simp only [q2,q3]
 refine WN ?_
 change Code.wp _ _ _ _ _
 refine wp_seq ?_
 -- region 7
 refine RL ?_
 refine V rfl rfl (run_load_bx AgI rfl rfl (e6 E) rfl) <| V rfl rfl (run_load_bx AgI rfl rfl (e4 E) rfl) <| ?_
 simp only [q2,q3]
 refine EF rfl (Oper.wp_callIIE fn_eref01_DivMod rfl (RDivMod_all _ _ a b _ (e7 E) (e5 E) (Fits.mono Fa (by decide)) (Fits.mono Fb (by decide))) rfl E ?_)
 clear E
 intro w16 n16 s16 m16 t16 d16 E
 clear d16
 refine kw rfl ?_
 refine M rfl rfl rfl rfl rfl <| V rfl rfl (run_extract (vs := [.agg #[.bool n16, s16], .agg #[.bool m16, t16], .int .i64 (de b)]) rfl rfl rfl) <| V rfl rfl (run_extract (vs := [.agg #[.bool n16, s16], .agg #[.bool m16, t16], .int .i64 (de b)]) rfl rfl rfl) <| V rfl rfl (run_extract (vs := [.agg #[.bool n16, s16], .agg #[.bool m16, t16], .int .i64 (de b)]) rfl rfl rfl) <| ?_
 simp only [q2,q3]
 refine EF rfl (Oper.wp_alloc AgI rfl ?_)
 intro b17 w17 e17 z17 d17 x17
 have l17_0 : b13 < b17 := by rw [e17]; exact Bx.lt (E.2.2.1)
 replace E := E.below d17
 clear e17 z17 d17
 refine kw rfl ?_
 simp only [q2,q3]
 refine EF rfl (Oper.wp_alloc AgI rfl ?_)
 intro b18 w18 e18 z18 d18 x18
 have l18_0 : b17 < b18 := by rw [e18]; exact Bx.lt (x17)
 replace E := E.below d18
 replace x17 := Bx.below x17 d18
 clear e18 z18 d18
 refine kw rfl ?_
 simp only [q2,q3]
 refine EF rfl (Oper.wp_store AgI rfl rfl rfl x17 rfl rfl (IsI.one (E.2.1)) ?_)
 intro w19 o19 y19
 replace E := (E.onl (x17.noW now0) ⟨trivial, trivial, okB (by omega), okB (by omega), trivial, trivial, okB (by omega), trivial, okB (by omega), trivial, okX (by omega), okX (by omega), okX (by omega), okW (by omega), trivial⟩ o19).b y19
 replace x18 := Bx.onl x18 (by omega) o19
 clear x17 o19 y19
 refine kn rfl ?_
 refine EF rfl (Oper.wp_store AgI rfl rfl rfl x18 rfl rfl (IsI.one (E.2.1)) ?_)
 intro w20 o20 y20
 replace E := (E.onl (x18.noW now0) ⟨okB (by omega), trivial, trivial, okB (by omega), okB (by omega), trivial, trivial, okB (by omega), trivial, okB (by omega), trivial, okX (by omega), okX (by omega), okX (by omega), okW (by omega), trivial⟩ o20).b y20
 clear x18 o20 y20
 refine kn rfl ?_
 refine A rfl rfl rfl rfl rfl <| ?_
 simp only [q2,q3]
 refine WN ?_
 change Code.wp _ _ _ _ _
 refine wp_seq ?_
 obtain ⟨g, hg⟩ : ∃ g : Int, ((Int.gcd a b : Nat) : Int) = g := ⟨_, rfl⟩
 -- region 8
 refine RL ?_
 refine V rfl rfl (run_load_bx AgI rfl rfl (e10 E) rfl) <| V rfl rfl (run_load_bx AgI rfl rfl (e8 E) rfl) <| ?_
 simp only [q2,q3]
 refine EF rfl (Oper.wp_callBez hg fn_integer_Bezout rfl (Bezout_z _ _ _ _ _ (e11 E) (e9 E) (Fits.mono Fa (by decide)) (Fits.mono Fb (by decide))) rfl E ?_)
 clear E
 rintro w21 n21 s21 m21 t21 p21 q21 u v hbz d21 E
 clear d21
 refine kw rfl ?_
 refine M rfl rfl rfl rfl rfl <| V rfl rfl (run_extract (vs := [.agg #[.bool n21, s21], .agg #[.bool m21, t21], .agg #[.bool p21, q21]]) rfl rfl rfl) <| V rfl rfl (run_extract (vs := [.agg #[.bool n21, s21], .agg #[.bool m21, t21], .agg #[.bool p21, q21]]) rfl rfl rfl) <| V rfl rfl (run_extract (vs := [.agg #[.bool n21, s21], .agg #[.bool m21, t21], .agg #[.bool p21, q21]]) rfl rfl rfl) <| ?_
 simp only [q2,q3]
 refine EF rfl (Oper.wp_alloc AgI rfl ?_)
 intro b22 w22 e22 z22 d22 x22
 have l22_0 : b18 < b22 := by rw [e22]; exact Bx.lt (e3 E)
 replace E := E.below d22
 clear e22 z22 d22
 refine kw rfl ?_
 simp only [q2,q3]
 refine EF rfl (Oper.wp_alloc AgI rfl ?_)
 intro b23 w23 e23 z23 d23 x23
 have l23_0 : b22 < b23 := by rw [e23]; exact Bx.lt (x22)
 replace E := E.below d23
 replace x22 := Bx.below x22 d23
 clear e23 z23 d23
 refine kw rfl ?_
 simp only [q2,q3]
 refine EF rfl (Oper.wp_alloc AgI rfl ?_)
 intro b24 w24 e24 z24 d24 x24
 have l24_0 : b23 < b24 := by rw [e24]; exact Bx.lt (x23)
 replace E := E.below d24
 replace x22 := Bx.below x22 d24
 replace x23 := Bx.below x23 d24
 clear e24 z24 d24
 refine kw rfl ?_
 simp only [q2,q3]
 refine EF rfl (Oper.wp_store AgI rfl rfl rfl x22 rfl rfl (IsI.one (E.2.2.1)) ?_)
 intro w25 o25 y25
 replace E := (E.onl (x22.noW now0) ⟨trivial, trivial, trivial, okB (by omega), okB (by omega), trivial, trivial, okB (by omega), okB (by omega), trivial, trivial, okB (by omega), trivial, okB (by omega), trivial, okX (by omega), okX (by omega), okX (by omega), okW (by omega), trivial⟩ o25).b y25
 replace x23 := Bx.onl x23 (by omega) o25
 replace x24 := Bx.onl x24 (by omega) o25
 clear x22 o25 y25
 refine kn rfl ?_
 refine EF rfl (Oper.wp_store AgI rfl rfl rfl x23 rfl rfl (IsI.one (E.2.2.1)) ?_)
 intro w26 o26 y26
 replace E := (E.onl (x23.noW now0) ⟨okB (by omega), trivial, trivial, trivial, okB (by omega), okB (by omega), trivial, trivial, okB (by omega), okB (by omega), trivial, trivial, okB (by omega), trivial, okB (by omega), trivial, okX (by omega), okX (by omega), okX (by omega), okW (by omega), trivial⟩ o26).b y26
 replace x24 := Bx.onl x24 (by omega) o26
 clear x23 o26 y26
 refine kn rfl ?_
 refine EF rfl (Oper.wp_store AgI rfl rfl rfl x24 rfl rfl (IsI.one (E.2.2.1)) ?_)
 intro w27 o27 y27
 replace E := (E.onl (x24.noW now0) ⟨okB (by omega), okB (by omega), trivial, trivial, trivial, okB (by omega), okB (by omega), trivial, trivial, okB (by omega), okB (by omega), trivial, trivial, okB (by omega), trivial, okB (by omega), trivial, okX (by omega), okX (by omega), okX (by omega), okW (by omega), trivial⟩ o27).b y27
 clear x24 o27 y27
 refine kn rfl ?_
 refine WN ?_
 change Code.wp _ _ _ _ _
 refine wp_seq ?_
 -- region 9
 refine RL ?_
 refine V rfl rfl (run_load_bx AgI rfl rfl (e16 E) rfl) <| V rfl rfl (run_load_bx AgI rfl rfl (e14 E) rfl) <| ?_
 simp only [q2,q3]
 refine EF rfl (Oper.wp_callIII fn_eref01_Bezout rfl (RBezout_is _ _ a b g u v _ (e17 E) (e15 E) (Fits.mono Fa (by decide)) (Fits.mono Fb (by decide)) hbz) rfl E ?_)
 clear E
 intro w28 n28 s28 m28 t28 p28 q28 d28 E
 clear d28
 refine kw rfl ?_
 refine M rfl rfl rfl rfl rfl <| V rfl rfl (run_extract (vs := [.agg #[.bool n28, s28], .agg #[.bool m28, t28], .agg #[.bool p28, q28]]) rfl rfl rfl) <| V rfl rfl (run_extract (vs := [.agg #[.bool n28, s28], .agg #[.bool m28, t28], .agg #[.bool p28, q28]]) rfl rfl rfl) <| V rfl rfl (run_extract (vs := [.agg #[.bool n28, s28], .agg #[.bool m28, t28], .agg #[.bool p28, q28]]) rfl rfl rfl) <| ?_
 simp only [q2,q3]
 refine EF rfl (Oper.wp_alloc AgI rfl ?_)
 intro b29 w29 e29 z29 d29 x29
 have l29_0 : b24 < b29 := by rw [e29]; exact Bx.lt (e3 E)
 replace E := E.below d29
 clear e29 z29 d29
 refine kw rfl ?_
 simp only [q2,q3]
 refine EF rfl (Oper.wp_alloc AgI rfl ?_)
 intro b30 w30 e30 z30 d30 x30
 have l30_0 : b29 < b30 := by rw [e30]; exact Bx.lt (x29)
 replace E := E.below d30
 replace x29 := Bx.below x29 d30
 clear e30 z30 d30
 refine kw rfl ?_
 simp only [q2,q3]
 refine EF rfl (Oper.wp_alloc AgI rfl ?_)
 intro b31 w31 e31 z31 d31 x31
 have l31_0 : b30 < b31 := by rw [e31]; exact Bx.lt (x30)
 replace E := E.below d31
 replace x29 := Bx.below x29 d31
 replace x30 := Bx.below x30 d31
 clear e31 z31 d31
 refine kw rfl ?_
 simp only [q2,q3]
 refine EF rfl (Oper.wp_store AgI rfl rfl rfl x29 rfl rfl (IsI.one (E.2.2.1)) ?_)
 intro w32 o32 y32
 replace E := (E.onl (x29.noW now0) ⟨trivial, trivial, trivial, okB (by omega), okB (by omega), okB (by omega), trivial, trivial, trivial, okB (by omega), okB (by omega), trivial, trivial, okB (by omega), okB (by omega), trivial, trivial, okB (by omega), trivial, okB (by omega), trivial, okX (by omega), okX (by omega), okX (by omega), okW (by omega), trivial⟩ o32).b y32
 replace x30 := Bx.onl x30 (by omega) o32
 replace x31 := Bx.onl x31 (by omega) o32
 clear x29 o32 y32
 refine kn rfl ?_
 refine EF rfl (Oper.wp_store AgI rfl rfl rfl x30 rfl rfl (IsI.one (E.2.2.1)) ?_)
 intro w33 o33 y33
 replace E := (E.onl (x30.noW now0) ⟨okB (by omega), trivial, trivial, trivial, okB (by omega), okB (by omega), okB (by omega), trivial, trivial, trivial, okB (by omega), okB (by omega), trivial, trivial, okB (by omega), okB (by omega), trivial, trivial, okB (by omega), trivial, okB (by omega), trivial, okX (by omega), okX (by omega), okX (by omega), okW (by omega), trivial⟩ o33).b y33
 replace x31 := Bx.onl x31 (by omega) o33
 clear x30 o33 y33
 refine kn rfl ?_
 refine EF rfl (Oper.wp_store AgI rfl rfl rfl x31 rfl rfl (IsI.one (E.2.2.1)) ?_)
 intro w34 o34 y34
 replace E := (E.onl (x31.noW now0) ⟨okB (by omega), okB (by omega), trivial, trivial, trivial, okB (by omega), okB (by omega), okB (by omega), trivial, trivial, trivial, okB (by omega), okB (by omega), trivial, trivial, okB (by omega), okB (by omega), trivial, trivial, okB (by omega), trivial, okB (by omega), trivial, okX (by omega), okX (by omega), okX (by omega), okW (by omega), trivial⟩ o34).b y34
 clear x31 o34 y34
 refine kn rfl ?_
 refine WN ?_
 change Code.wp _ _ _ _ _
 refine wp_seq ?_
 refine wp_seq ?_
 -- region 10
 refine wp_schedE E ([0, 1, 2, 3, 4, 5, 6, 7, 8, 9, 10, 11, 12, 13, 14, 15, 16, 17, 18, 19, 20, 21, 22, 23, 24, 25, 26, 27, 29, 30, 28, 31, 32, 33, 34]) (by kernel_rfl) (by kernel_rfl) (by kernel_rfl) (by kernel_rfl) (by intro d v c a w h; cases d <;> exact h) ?_
 replace E := E.drew
 refine SM rfl rfl rfl rfl rfl rfl rfl rfl <| SM rfl rfl rfl rfl rfl rfl rfl rfl <| SW rfl rfl rfl rfl rfl (fun w hS => run_neI (c := false) rfl rfl rfl (bne_f' rfl)) <| SM rfl rfl rfl rfl rfl rfl rfl rfl <| ?_
 simp only [q2,q3]
 refine SW rfl rfl rfl (by kernel_rfl) rfl (fun w hS => run_load_bx AgI rfl rfl (e17 hS) rfl) <| SW rfl rfl rfl (by kernel_rfl) rfl (fun w hS => run_load_bx AgI rfl rfl (e13 hS) rfl) <| ?_
 simp only [q2,q3]
 refine S1a (o := ⟨some 71, _, _, _, _, _⟩) rfl rfl rfl rfl (Oper.wp_callB fn_eref01_Same rfl (RSame_t _ _ (dq a b) (dq a b) _ (e19 E) (e15 E) rfl) rfl E ?_)
 clear E
 intro w35 d35 E
 clear d35
 refine ⟨E, ?_⟩
 simp only [Act.put,q1,q2,q3]
 refine SW (v := .bool false) rfl rfl rfl (by kernel_rfl) rfl (fun w hS => run_not (b := true) rfl rfl) <| SW (v := .bool false) rfl rfl rfl rfl rfl (fun w hS => run_pick (b := false) rfl rfl rfl) <| SM rfl rfl rfl rfl rfl rfl rfl rfl <| SW rfl rfl rfl (by kernel_rfl) rfl (fun w hS => run_load_bx AgI rfl rfl (e16 hS) rfl) <| ?_
 simp only [q2,q3]
 refine SW rfl rfl rfl (by kernel_rfl) rfl (fun w hS => run_load_bx AgI rfl rfl (e12 hS) rfl) <| ?_
 simp only [q2,q3]
 refine S1a (o := ⟨some 77, _, _, _, _, _⟩) rfl rfl rfl rfl (Oper.wp_callB fn_eref01_Same rfl (RSame_t _ _ (dr a b) (dr a b) _ (e18 E) (e14 E) rfl) rfl E ?_)
 clear E
 intro w36 d36 E
 clear d36
 refine ⟨E, ?_⟩
 simp only [Act.put,q1,q2,q3]
 refine SW (v := .bool false) rfl rfl rfl (by kernel_rfl) rfl (fun w hS => run_not (b := true) rfl rfl) <| SW (v := .bool false) rfl rfl rfl rfl rfl (fun w hS => run_pick (b := false) rfl rfl rfl) <| SM rfl rfl rfl rfl rfl rfl rfl rfl <| SW rfl rfl rfl (by kernel_rfl) rfl (fun w hS => run_load_bx AgI rfl rfl (e8 hS) rfl) <| ?_
 simp only [q2,q3]
 refine SW rfl rfl rfl (by kernel_rfl) rfl (fun w hS => run_load_bx AgI rfl rfl (e7 hS) rfl) <| SW rfl rfl rfl (by kernel_rfl) rfl (fun w hS => run_load_bx AgI rfl rfl (e6 hS) rfl) <| SW rfl rfl rfl (by kernel_rfl) rfl (fun w hS => run_load_bx AgI rfl rfl (hS.2.2.1) rfl) <| SW rfl rfl rfl (by kernel_rfl) rfl (fun w hS => run_load_bx AgI rfl rfl (hS.2.1) rfl) <| ?_
 simp only [q2,q3]
 refine SW rfl rfl rfl (by kernel_rfl) rfl (fun w hS => run_load_bx AgI rfl rfl (hS.1) rfl) <| ?_
 simp only [q2,q3]
 refine S1a (o := ⟨some 87, _, _, _, _, _⟩) rfl rfl rfl rfl (Oper.wp_callB fn_elaw01_same3 rfl (same3_t _ g _ u _ v _ g _ u _ v _ (e11 E) (e10 E) (e9 E) (e5 E) (e4 E) (e3 E) rfl rfl rfl) rfl E ?_)
 clear E
 intro w37 d37 E
 clear d37
 refine ⟨E, ?_⟩
 simp only [Act.put,q1,q2,q3]
 refine SW (v := .bool false) rfl rfl rfl (by kernel_rfl) rfl (fun w hS => run_not (b := true) rfl rfl) <| SW (v := .bool false) rfl rfl rfl rfl rfl (fun w hS => run_pick (b := false) rfl rfl rfl) <| SM rfl rfl rfl rfl rfl rfl rfl rfl <| SW rfl rfl rfl (by kernel_rfl) rfl (fun w hS => run_load_bx AgI rfl rfl (e22 hS) rfl) <| ?_
 simp only [q2,q3]
 refine SW rfl rfl rfl (by kernel_rfl) rfl (fun w hS => run_load_bx AgI rfl rfl (e20 hS) rfl) <| SW rfl rfl rfl (by kernel_rfl) rfl (fun w hS => run_load_bx AgI rfl rfl (e22 hS) rfl) <| SW rfl rfl rfl (by kernel_rfl) rfl (fun w hS => run_load_bx AgI rfl rfl (e20 hS) rfl) <| ?_
 simp only [q2,q3]
 refine S1a (o := ⟨some 93, _, _, _, _, _⟩) rfl rfl rfl rfl (Oper.wp_callI fn_integer_Gcd rfl (Gcd_z _ _ a b _ (e23 E) (e21 E) (Fits.mono Fa (by decide)) (Fits.mono Fb (by decide))) rfl E ?_)
 clear E
 intro w38 n38 s38 d38 E
 clear d38
 refine ⟨E.2, ?_⟩
 simp only [Act.put,q1,q2,q3]
 refine S1a (o := ⟨some 96, _, _, _, _, _⟩) rfl rfl rfl rfl (Oper.wp_callI fn_eref01_Gcd rfl (RGcd_z _ a _ b _ (e24 E) (e22 E) (Fits.mono Fa (by decide)) (Fits.mono Fb (by decide))) rfl E ?_)
 clear E
 intro w39 n39 s39 d39 E
 clear d39
 refine ⟨E.2.2, ?_⟩
 simp only [Act.put,q1,q2,q3]
 refine S1a (o := ⟨some 97, _, _, _, _, _⟩) rfl rfl rfl rfl (Oper.wp_callB fn_eref01_Same rfl (RSame_t _ _ ((Nat.gcd a.natAbs b.natAbs : Nat) : Int) ((Nat.gcd a.natAbs b.natAbs : Nat) : Int) _ (E.2.1) (E.1) rfl) rfl E ?_)
 clear E
 intro w40 d40 E
 clear d40
 refine ⟨E.2.2, ?_⟩
 simp only [Act.put,q1,q2,q3]
 refine SW (v := .bool false) rfl rfl rfl (by kernel_rfl) rfl (fun w hS => run_not (b := true) rfl rfl) <| SW (v := .bool false) rfl rfl rfl rfl rfl (fun w hS => run_pick (b := false) rfl rfl rfl) <| ?_
 simp only [q2,q3]
 refine SN ?_
 change Code.wp _ _ _ _ _
 refine wp_cond_false rfl ?_
 refine wp_skip ?_
 change Code.wp _ _ _ _ _
 refine wp_seq ?_
 refine wp_seq ?_
 -- region 12
 refine wp_schedE E ([0, 1, 2, 3, 4, 5, 7, 8, 6, 9, 10, 11, 12, 13, 14, 16, 17, 15, 18, 19, 20, 21, 22, 23, 24, 26, 27, 25, 28, 29, 30, 31, 32, 33, 34, 36, 37, 35, 38, 39, 40, 41]) (by kernel_rfl) (by kernel_rfl) (by kernel_rfl) (by kernel_rfl) (by intro d v c a w h; cases d <;> exact h) ?_
 replace E := E.drew
 refine SW rfl rfl rfl rfl rfl (fun w hS => run_load_bx AgI rfl rfl (e24 hS) rfl) <| ?_
 simp only [q2,q3]
 refine S1a (o := ⟨some 101, _, _, _, _, _⟩) rfl rfl rfl rfl (Oper.wp_callB fn_elaw01_numbers rfl (numbers_t _ a _ (e25 E) Fa) rfl E ?_)
 clear E
 intro w41 d41 E
 clear d41
 refine ⟨E, ?_⟩
 simp only [Act.put,q1,q2,q3]
 refine SW (v := .bool false) rfl rfl rfl rfl rfl (fun w hS => run_not (b := true) rfl rfl) <| SM rfl rfl rfl rfl rfl rfl rfl rfl <| SW rfl rfl rfl (by kernel_rfl) rfl (fun w hS => run_load_bx AgI rfl rfl (e24 hS) rfl) <| SW rfl rfl rfl (by kernel_rfl) rfl (fun w hS => run_load_bx AgI rfl rfl (e22 hS) rfl) <| ?_
 simp only [q2,q3]
 refine SW rfl rfl rfl (by kernel_rfl) rfl (fun w hS => run_load_bx AgI rfl rfl (e24 hS) rfl) <| SW rfl rfl rfl (by kernel_rfl) rfl (fun w hS => run_load_bx AgI rfl rfl (e22 hS) rfl) <| ?_
 simp only [q2,q3]
 refine S1a (o := ⟨some 106, _, _, _, _, _⟩) rfl rfl rfl rfl (Oper.wp_callN fn_integer_Cmp rfl (Cmp_z _ _ a b _ (e25 E) (e23 E)) rfl E ?_)
 clear E
 intro w42 d42 E
 clear d42
 refine ⟨E, ?_⟩
 simp only [Act.put,q1,q2,q3]
 refine S1a (o := ⟨some 109, _, _, _, _, _⟩) rfl rfl rfl rfl (Oper.wp_callN fn_eref01_Cmp rfl (RCmp_z _ a _ b _ (e25 E) (e23 E)) rfl E ?_)
 clear E
 intro w43 d43 E
 clear d43
 refine ⟨E, ?_⟩
 simp only [Act.put,q1,q2,q3]
 refine SW rfl rfl rfl (by kernel_rfl) rfl (fun w hS => run_neI (c := false) rfl rfl rfl (bne_f' rfl)) <| SW (v := .bool false) rfl rfl rfl rfl rfl (fun w hS => run_pick (b := false) rfl rfl rfl) <| SM rfl rfl rfl rfl rfl rfl rfl rfl <| SW rfl rfl rfl (by kernel_rfl) rfl (fun w hS => run_load_bx AgI rfl rfl (e24 hS) rfl) <| ?_
 simp only [q2,q3]
 refine SW rfl rfl rfl (by kernel_rfl) rfl (fun w hS => run_load_bx AgI rfl rfl (e22 hS) rfl) <| SW rfl rfl rfl (by kernel_rfl) rfl (fun w hS => run_load_bx AgI rfl rfl (e24 hS) rfl) <| SW rfl rfl rfl (by kernel_rfl) rfl (fun w hS => run_load_bx AgI rfl rfl (e22 hS) rfl) <| ?_
 simp only [q2,q3]
 refine S1a (o := ⟨some 115, _, _, _, _, _⟩) rfl rfl rfl rfl (Oper.wp_callI fn_integer_Add rfl (Add_z _ _ a b _ (e25 E) (e23 E) (Fits.mono Fa (by decide)) (Fits.mono Fb (by decide))) rfl E ?_)
 clear E
 intro w45 n45 s45 d45 E
 clear d45
 refine ⟨E.2, ?_⟩
 simp only [Act.put,q1,q2,q3]
 have F44 : Fits (a + b) 13 := Fits_add Fa Fb (k := 12) (by decide) (by decide)
 refine S1a (o := ⟨some 118, _, _, _, _, _⟩) rfl rfl rfl rfl (Oper.wp_callI fn_eref01_Add rfl (RAdd_z _ a _ b _ (e26 E) (e24 E) (Fits.mono Fa (by decide)) (Fits.mono Fb (by decide))) rfl E ?_)
 clear E
 intro w46 n46 s46 d46 E
 clear d46
 refine ⟨E.2.2, ?_⟩
 simp only [Act.put,q1,q2,q3]
 refine S1a (o := ⟨some 119, _, _, _, _, _⟩) rfl rfl rfl rfl (Oper.wp_callB fn_eref01_Same rfl (RSame_t _ _ (a + b) (a + b) _ (E.2.1) (E.1) rfl) rfl E ?_)
 clear E
 intro w47 d47 E
 clear d47
 refine ⟨E.2.2, ?_⟩
 simp only [Act.put,q1,q2,q3]
 refine SW (v := .bool false) rfl rfl rfl (by kernel_rfl) rfl (fun w hS => run_not (b := true) rfl rfl) <| SW (v := .bool false) rfl rfl rfl rfl rfl (fun w hS => run_pick (b := false) rfl rfl rfl) <| SM rfl rfl rfl rfl rfl rfl rfl rfl <| SW rfl rfl rfl (by kernel_rfl) rfl (fun w hS => run_load_bx AgI rfl rfl (e24 hS) rfl) <| ?_
 simp only [q2,q3]
 refine SW rfl rfl rfl (by kernel_rfl) rfl (fun w hS => run_load_bx AgI rfl rfl (e22 hS) rfl) <| SW rfl rfl rfl (by kernel_rfl) rfl (fun w hS => run_load_bx AgI rfl rfl (e24 hS) rfl) <| SW rfl rfl rfl (by kernel_rfl) rfl (fun w hS => run_load_bx AgI rfl rfl (e22 hS) rfl) <| ?_
 simp only [q2,q3]
 refine S1a (o := ⟨some 125, _, _, _, _, _⟩) rfl rfl rfl rfl (Oper.wp_callI fn_integer_Sub rfl (Sub_z _ _ a b _ (e27 E) (e25 E) (Fits.mono Fa (by decide)) (Fits.mono Fb (by decide))) rfl E ?_)
 clear E
 intro w49 n49 s49 d49 E
 clear d49
 refine ⟨E.2.2.2, ?_⟩
 simp only [Act.put,q1,q2,q3]
 have F48 : Fits (a - b) 13 := Fits_sub Fa Fb (k := 12) (by decide) (by decide)
 refine S1a (o := ⟨some 128, _, _, _, _, _⟩) rfl rfl rfl rfl (Oper.wp_callI fn_eref01_Sub rfl (RSub_z _ a _ b _ (e28 E) (e26 E) (Fits.mono Fa (by decide)) (Fits.mono Fb (by decide))) rfl E ?_)
 clear E
 intro w50 n50 s50 d50 E
 clear d50
 refine ⟨E.2.2.2.2, ?_⟩
 simp only [Act.put,q1,q2,q3]
 refine S1a (o := ⟨some 129, _, _, _, _, _⟩) rfl rfl rfl rfl (Oper.wp_callB fn_eref01_Same rfl (RSame_t _ _ (a - b) (a - b) _ (E.2.1) (E.1) rfl) rfl E ?_)
 clear E
 intro w51 d51 E
 clear d51
 refine ⟨E.2.2.2.2, ?_⟩
 simp only [Act.put,q1,q2,q3]
 refine SW (v := .bool false) rfl rfl rfl (by kernel_rfl) rfl (fun w hS => run_not (b := true) rfl rfl) <| SW (v := .bool false) rfl rfl rfl rfl rfl (fun w hS => run_pick (b := false) rfl rfl rfl) <| SM rfl rfl rfl rfl rfl rfl rfl rfl <| SW rfl rfl rfl (by kernel_rfl) rfl (fun w hS => run_load_bx AgI rfl rfl (e24 hS) rfl) <| ?_
 simp only [q2,q3]
 refine SW rfl rfl rfl (by kernel_rfl) rfl (fun w hS => run_load_bx AgI rfl rfl (e22 hS) rfl) <| SW rfl rfl rfl (by kernel_rfl) rfl (fun w hS => run_load_bx AgI rfl rfl (e24 hS) rfl) <| SW rfl rfl rfl (by kernel_rfl) rfl (fun w hS => run_load_bx AgI rfl rfl (e22 hS) rfl) <| ?_
 simp only [q2,q3]
 refine S1a (o := ⟨some 135, _, _, _, _, _⟩) rfl rfl rfl rfl (Oper.wp_callI fn_integer_Mul rfl (Mul_z _ _ a b _ (e29 E) (e27 E) (Fits.mono Fa (by decide)) (Fits.mono Fb (by decide))) rfl E ?_)
 clear E
 intro w53 n53 s53 d53 E
 clear d53
 refine ⟨E.2.2.2.2.2, ?_⟩
 simp only [Act.put,q1,q2,q3]
 have F52 : Fits (a * b) 24 := Fits_mul Fa Fb
 refine S1a (o := ⟨some 138, _, _, _, _, _⟩) rfl rfl rfl rfl (Oper.wp_callI fn_eref01_Mul rfl (RMul_z _ a _ b _ (E.2.2.2.2.2.2.2.2.2.2.2.2.2.2.2.2.2.2.2.2.2.2.2.2.2.2.2.2.2.2.1) (e28 E) (Fits.mono Fa (by decide)) (Fits.mono Fb (by decide))) rfl E ?_)
 clear E
 intro w54 n54 s54 d54 E
 clear d54
 refine ⟨E.2.2.2.2.2.2, ?_⟩
 simp only [Act.put,q1,q2,q3]
 refine S1a (o := ⟨some 139, _, _, _, _, _⟩) rfl rfl rfl rfl (Oper.wp_callB fn_eref01_Same rfl (RSame_t _ _ (a * b) (a * b) _ (E.2.1) (E.1) rfl) rfl E ?_)
 clear E
 intro w55 d55 E
 clear d55
 refine ⟨E.2.2.2.2.2.2, ?_⟩
 simp only [Act.put,q1,q2,q3]
 refine SW (v := .bool false) rfl rfl rfl (by kernel_rfl) rfl (fun w hS => run_not (b := true) rfl rfl) <| SW (v := .bool false) rfl rfl rfl rfl rfl (fun w hS => run_pick (b := false) rfl rfl rfl) <| ?_
 simp only [q2,q3]
 refine SN ?_
 change Code.wp _ _ _ _ _
 refine wp_cond_false rfl ?_
 refine wp_skip ?_
 change Code.wp _ _ _ _ _
 refine wp_seq ?_
 refine wp_seq ?_
 by_cases hp0 : u0 < 0
 case pos =>
  -- region 14
  refine wp_schedE E ([0, 1, 2, 3, 4, 5, 6, 7, 8, 9, 10, 11, 12, 13, 14, 15]) (by kernel_rfl) (by kernel_rfl) (by kernel_rfl) (by kernel_rfl) (by intro d v c a w h; cases d <;> exact h) ?_
  replace E := E.drew
  refine SW (v := .pointer (some ⟨b3, 0 + 0 * 1, none⟩)) rfl rfl rfl rfl rfl (fun w hS => run_idxA (j := 0) rfl Try.underlying54 (by kernel_rfl) rfl rfl rfl (by decide)) <| SW rfl rfl rfl rfl rfl (fun w hS => run_cell rfl isAgg_i64 rfl (hS.2.2.2.2.2.2.2.2.2.2.2.2.2.2.2.2.2.2.2.2.2.2.2.2.2.2.2.2.2.2.2.2.1) rfl) <| SW rfl rfl rfl rfl rfl (fun w hS => run_ltI (c := true) rfl rfl rfl (decide_eq_true hp0)) <| SM rfl rfl rfl rfl rfl rfl rfl rfl <| ?_
  refine S0 (o := ⟨some 146, _, _, _, _, _⟩) rfl rfl (E) ?_
  simp only [Act.put,q1,q2,q3]
  refine S0 (o := ⟨some 147, _, _, _, _, _⟩) rfl rfl (E) ?_
  simp only [Act.put,q1,q2,q3]
  refine S0 (o := ⟨some 148, _, _, _, _, _⟩) rfl rfl (E) ?_
  simp only [Act.put,q1,q2,q3]
  refine SW (v := .bool true) rfl rfl rfl rfl rfl (fun w hS => run_pick (b := true) rfl rfl rfl) <| SM rfl rfl rfl rfl rfl rfl rfl rfl <| ?_
  refine S0 (o := ⟨some 151, _, _, _, _, _⟩) rfl rfl (E) ?_
  simp only [Act.put,q1,q2,q3]
  refine S0 (o := ⟨some 152, _, _, _, _, _⟩) rfl rfl (E) ?_
  simp only [Act.put,q1,q2,q3]
  refine S0 (o := ⟨some 153, _, _, _, _, _⟩) rfl rfl (E) ?_
  simp only [Act.put,q1,q2,q3]
  refine S0 (o := ⟨some 154, _, _, _, _, _⟩) rfl rfl (E) ?_
  simp only [Act.put,q1,q2,q3]
  refine S0 (o := ⟨some 155, _, _, _, _, _⟩) rfl rfl (E) ?_
  simp only [Act.put,q1,q2,q3]
  refine S0 (o := ⟨some 156, _, _, _, _, _⟩) rfl rfl (E) ?_
  simp only [Act.put,q1,q2,q3]
  refine SW (v := .bool true) rfl rfl rfl rfl rfl (fun w hS => run_pick (b := true) rfl rfl rfl) <| ?_
  simp only [q2,q3]
  refine SN ?_
  change Code.wp _ _ _ _ _
  refine wp_cond_true rfl ?_
  refine wp_seq ?_
  -- region 15
  refine RL ?_
  refine V rfl rfl (run_load_bx AgI rfl rfl (E.2.2.2.2.2.2.2.2.2.2.2.2.2.2.2.2.2.2.2.2.2.2.2.2.2.2.2.2.2.2.1) rfl) <| V (v := .pointer (some ⟨b3, 0 + 0 * 1, none⟩)) rfl rfl (run_idxA (j := 0) rfl Try.underlying54 (by kernel_rfl) rfl rfl rfl (by decide)) <| V rfl rfl (run_cell rfl isAgg_i64 rfl (E.2.2.2.2.2.2.2.2.2.2.2.2.2.2.2.2.2.2.2.2.2.2.2.2.2.2.2.2.2.2.2.2.1) rfl) <| ?_
  simp only [q2,q3]
  refine EF rfl (Oper.wp_callIE fn_integer_Pow rfl (Pow_all _ a u0 _ (E.2.2.2.2.2.2.2.2.2.2.2.2.2.2.2.2.2.2.2.2.2.2.2.2.2.2.2.2.2.2.2.1) Fa) rfl E ?_)
  clear E
  intro w56 n56 s56 d56 E
  clear d56
  refine kw rfl ?_
  refine M rfl rfl rfl rfl rfl <| V rfl rfl (run_extract (vs := [.agg #[.bool n56, s56], .int .i64 (pe u0)]) rfl rfl rfl) <| V rfl rfl (run_extract (vs := [.agg #[.bool n56, s56], .int .i64 (pe u0)]) rfl rfl rfl) <| ?_
  simp only [q2,q3]
  refine EF rfl (Oper.wp_alloc AgI rfl ?_)
  intro b57 w57 e57 z57 d57 x57
  have l57_0 : b31 < b57 := by rw [e57]; exact Bx.lt (e9 E)
  replace E := E.below d57
  clear e57 z57 d57
  refine kw rfl ?_
  simp only [q2,q3]
  refine EF rfl (Oper.wp_store AgI rfl rfl rfl x57 rfl rfl (IsI.one (E.1)) ?_)
  intro w58 o58 y58
  replace E := (E.onl (x57.noW now0) ⟨trivial, trivial, trivial, trivial, trivial, trivial, trivial, trivial, trivial, okB (by omega), okB (by omega), okB (by omega), trivial, trivial, trivial, okB (by omega), okB (by omega), okB (by omega), trivial, trivial, trivial, okB (by omega), okB (by omega), trivial, trivial, okB (by omega), okB (by omega), trivial, trivial, okB (by omega), trivial, okB (by omega), trivial, okX (by omega), okX (by omega), okX (by omega), okW (by omega), trivial⟩ o58).b y58
  clear x57 o58 y58
  refine kn rfl ?_
  refine A rfl rfl rfl rfl rfl <| ?_
  simp only [q2,q3]
  refine WN ?_
  change Code.wp _ _ _ _ _
  refine wp_seq ?_
  -- region 16
  refine RL ?_
  refine V rfl rfl (run_load_bx AgI rfl rfl (E.2.2.2.2.2.2.2.2.2.2.2.2.2.2.2.2.2.2.2.2.2.2.2.2.2.2.2.2.2.2.2.2.1) rfl) <| V (v := .pointer (some ⟨b3, 0 + 0 * 1, none⟩)) rfl rfl (run_idxA (j := 0) rfl Try.underlying54 (by kernel_rfl) rfl rfl rfl (by decide)) <| V rfl rfl (run_cell rfl isAgg_i64 rfl (E.2.2.2.2.2.2.2.2.2.2.2.2.2.2.2.2.2.2.2.2.2.2.2.2.2.2.2.2.2.2.2.2.2.2.1) rfl) <| ?_
  simp only [q2,q3]
  refine EF rfl (Oper.wp_callIE fn_eref01_Pow rfl (RPow_all _ a u0 _ (E.2.2.2.2.2.2.2.2.2.2.2.2.2.2.2.2.2.2.2.2.2.2.2.2.2.2.2.2.2.2.2.2.2.1) Fa) rfl E ?_)
  clear E
  intro w59 n59 s59 d59 E
  clear d59
  refine kw rfl ?_
  refine M rfl rfl rfl rfl rfl <| V rfl rfl (run_extract (vs := [.agg #[.bool n59, s59], .int .i64 (pe u0)]) rfl rfl rfl) <| V rfl rfl (run_extract (vs := [.agg #[.bool n59, s59], .int .i64 (pe u0)]) rfl rfl rfl) <| ?_
  simp only [q2,q3]
  refine EF rfl (Oper.wp_alloc AgI rfl ?_)
  intro b60 w60 e60 z60 d60 x60
  have l60_0 : b57 < b60 := by rw [e60]; exact Bx.lt (E.2.1)
  replace E := E.below d60
  clear e60 z60 d60
  refine kw rfl ?_
  simp only [q2,q3]
  refine EF rfl (Oper.wp_store AgI rfl rfl rfl x60 rfl rfl (IsI.one (E.1)) ?_)
  intro w61 o61 y61
  replace E := (E.onl (x60.noW now0) ⟨trivial, okB (by omega), trivial, trivial, trivial, trivial, trivial, trivial, trivial, trivial, trivial, okB (by omega), okB (by omega), okB (by omega), trivial, trivial, trivial, okB (by omega), okB (by omega), okB (by omega), trivial, trivial, trivial, okB (by omega), okB (by omega), trivial, trivial, okB (by omega), okB (by omega), trivial, trivial, okB (by omega), trivial, okB (by omega), trivial, okX (by omega), okX (by omega), okX (by omega), okW (by omega), trivial⟩ o61).b y61
  clear x60 o61 y61
  refine kn rfl ?_
  refine A rfl rfl rfl rfl rfl <| ?_
  simp only [q2,q3]
  refine WN ?_
  change Code.wp _ _ _ _ _
  refine wp_seq ?_
  -- region 17
  refine RL ?_
  refine M rfl rfl rfl rfl rfl <| M rfl rfl rfl rfl rfl <| V rfl rfl (run_neI (c := false) rfl rfl rfl (bne_f' rfl)) <| M rfl rfl rfl rfl rfl <| ?_
  simp only [q2,q3]
  refine V (by kernel_rfl) rfl (run_load_bx AgI rfl rfl (E.2.2.1) rfl) <| V (by kernel_rfl) rfl (run_load_bx AgI rfl rfl (E.1) rfl) <| ?_
  simp only [q2,q3]
  refine EF rfl (Oper.wp_callB fn_eref01_Same rfl (RSame_t _ _ (pv a u0) (pv a u0) _ (e3 E) (E.2.1) rfl) rfl E ?_)
  clear E
  intro w62 d62 E
  clear d62
  refine kw rfl ?_
  refine V (v := .bool false) (by kernel_rfl) rfl (run_not (b := true) rfl rfl) <| V (v := .bool false) rfl rfl (run_pick (b := false) rfl rfl rfl) <| ?_
  simp only [q2,q3]
  refine WN ?_
  change Code.wp _ _ _ _ _
  refine wp_cond_false rfl ?_
  refine wp_skip ?_
  change Code.wp _ _ _ _ _
  refine wp_seq ?_
  obtain ⟨r, hr⟩ : ∃ r, ¬ u1 < 1 → IsRoot r u1.toNat a.natAbs := by by_cases h : u1 < 1; exact ⟨0, fun g => absurd h g⟩; exact (IsRoot.exists u1.toNat a.natAbs (by omega)).imp fun r h _ => h
  -- region 19
  refine RL ?_
  refine V rfl rfl (run_load_bx AgI rfl rfl (E.2.2.2.2.2.2.2.2.2.2.2.2.2.2.2.2.2.2.2.2.2.2.2.2.2.2.2.2.2.2.2.2.2.2.1) rfl) <| V (v := .pointer (some ⟨b3, 0 + 1 * 1, none⟩)) rfl rfl (run_idxA (j := 1) rfl Try.underlying54 (by kernel_rfl) rfl rfl rfl (by decide)) <| V rfl rfl (run_cell rfl isAgg_i64 rfl (E.2.2.2.2.2.2.2.2.2.2.2.2.2.2.2.2.2.2.2.2.2.2.2.2.2.2.2.2.2.2.2.2.2.2.2.2.1) rfl) <| ?_
  simp only [q2,q3]
  refine EF rfl (Oper.wp_callIE fn_integer_Root rfl (Root_all _ a u1 r _ (E.2.2.2.2.2.2.2.2.2.2.2.2.2.2.2.2.2.2.2.2.2.2.2.2.2.2.2.2.2.2.2.2.2.2.2.1) Fa hu2 hr) rfl E ?_)
  clear E
  intro w63 n63 s63 d63 E
  clear d63
  refine kw rfl ?_
  refine M rfl rfl rfl rfl rfl <| V rfl rfl (run_extract (vs := [.agg #[.bool n63, s63], .int .i64 (re a u1)]) rfl rfl rfl) <| V rfl rfl (run_extract (vs := [.agg #[.bool n63, s63], .int .i64 (re a u1)]) rfl rfl rfl) <| ?_
  simp only [q2,q3]
  refine EF rfl (Oper.wp_alloc AgI rfl ?_)
  intro b64 w64 e64 z64 d64 x64
  have l64_0 : b60 < b64 := by rw [e64]; exact Bx.lt (E.2.1)
  replace E := E.below d64
  clear e64 z64 d64
  refine kw rfl ?_
  simp only [q2,q3]
  refine EF rfl (Oper.wp_store AgI rfl rfl rfl x64 rfl rfl (IsI.one (E.1)) ?_)
  intro w65 o65 y65
  replace E := (E.onl (x64.noW now0) ⟨trivial, okB (by omega), trivial, okB (by omega), trivial, trivial, trivial, trivial, trivial, trivial, trivial, trivial, trivial, okB (by omega), okB (by omega), okB (by omega), trivial, trivial, trivial, okB (by omega), okB (by omega), okB (by omega), trivial, trivial, trivial, okB (by omega), okB (by omega), trivial, trivial, okB (by omega), okB (by omega), trivial, trivial, okB (by omega), trivial, okB (by omega), trivial, okX (by omega), okX (by omega), okX (by omega), okW (by omega), trivial⟩ o65).b y65
  clear x64 o65 y65
  refine kn rfl ?_
  refine A rfl rfl rfl rfl rfl <| ?_
  simp only [q2,q3]
  refine WN ?_
  change Code.wp _ _ _ _ _
  refine wp_seq ?_
  -- region 20
  refine RL ?_
  refine V rfl rfl (run_load_bx AgI rfl rfl (E.2.2.2.2.2.2.2.2.2.2.2.2.2.2.2.2.2.2.2.2.2.2.2.2.2.2.2.2.2.2.2.2.2.2.2.2.1) rfl) <| V (v := .pointer (some ⟨b3, 0 + 1 * 1, none⟩)) rfl rfl (run_idxA (j := 1) rfl Try.underlying54 (by kernel_rfl) rfl rfl rfl (by decide)) <| V rfl rfl (run_cell rfl isAgg_i64 rfl (E.2.2.2.2.2.2.2.2.2.2.2.2.2.2.2.2.2.2.2.2.2.2.2.2.2.2.2.2.2.2.2.2.2.2.2.2.2.2.1) rfl) <| ?_
  simp only [q2,q3]
  refine EF rfl (Oper.wp_callIE fn_eref01_Root rfl (RRoot_all _ a u1 r _ (E.2.2.2.2.2.2.2.2.2.2.2.2.2.2.2.2.2.2.2.2.2.2.2.2.2.2.2.2.2.2.2.2.2.2.2.2.2.1) Fa hu2 hr) rfl E ?_)
  clear E
  intro w66 n66 s66 d66 E
  clear d66
  refine kw rfl ?_
  refine M rfl rfl rfl rfl rfl <| V rfl rfl (run_extract (vs := [.agg #[.bool n66, s66], .int .i64 (re a u1)]) rfl rfl rfl) <| V rfl rfl (run_extract (vs := [.agg #[.bool n66, s66], .int .i64 (re a u1)]) rfl rfl rfl) <| ?_
  simp only [q2,q3]
  refine EF rfl (Oper.wp_alloc AgI rfl ?_)
  intro b67 w67 e67 z67 d67 x67
  have l67_0 : b64 < b67 := by rw [e67]; exact Bx.lt (E.2.1)
  replace E := E.below d67
  clear e67 z67 d67
  refine kw rfl ?_
  simp only [q2,q3]
  refine EF rfl (Oper.wp_store AgI rfl rfl rfl x67 rfl rfl (IsI.one (E.1)) ?_)
  intro w68 o68 y68
  replace E := (E.onl (x67.noW now0) ⟨trivial, okB (by omega), trivial, okB (by omega), trivial, okB (by omega), trivial, trivial, trivial, trivial, trivial, trivial, trivial, trivial, trivial, okB (by omega), okB (by omega), okB (by omega), trivial, trivial, trivial, okB (by omega), okB (by omega), okB (by omega), trivial, trivial, trivial, okB (by omega), okB (by omega), trivial, trivial, okB (by omega), okB (by omega), trivial, trivial, okB (by omega), trivial, okB (by omega), trivial, okX (by omega), okX (by omega), okX (by omega), okW (by omega), trivial⟩ o68).b y68
  clear x67 o68 y68
  refine kn rfl ?_
  refine A rfl rfl rfl rfl rfl <| ?_
  simp only [q2,q3]
  refine WN ?_
  change Code.wp _ _ _ _ _
  refine wp_seq ?_
  -- region 21
  refine RL ?_
  refine M rfl rfl rfl rfl rfl <| M rfl rfl rfl rfl rfl <| M (by kernel_rfl) rfl rfl rfl rfl <| M (by kernel_rfl) rfl rfl rfl rfl <| ?_
  simp only [q2,q3]
  refine V (by kernel_rfl) rfl (run_eqI (c := true) rfl rfl rfl (beq_self_eq_true _)) <| V (v := .bool true) rfl rfl (run_pick (b := true) rfl rfl rfl) <| M rfl rfl rfl rfl rfl <| V (by kernel_rfl) rfl (run_load_bx AgI rfl rfl (E.2.2.1) rfl) <| ?_
  simp only [q2,q3]
  refine V (by kernel_rfl) rfl (run_load_bx AgI rfl rfl (E.1) rfl) <| ?_
  simp only [q2,q3]
  refine EF rfl (Oper.wp_callB fn_eref01_Same rfl (RSame_t _ _ (rv a u1 r) (rv a u1 r) _ (e3 E) (E.2.1) rfl) rfl E ?_)
  clear E
  intro w69 d69 E
  clear d69
  refine kw rfl ?_
  refine V (v := .bool true) rfl rfl (run_pick (b := true) rfl rfl rfl) <| A rfl rfl rfl rfl rfl <| ?_
  simp only [q2,q3]
  refine WN ?_
  change Code.wp _ _ _ _ _
  refine wp_ret ?_
  exact bodyPost_ret (v := .bool true) (by simp [results, Try.results11, asAddr]) rfl ⟨rfl, E.2.2.2.2.2.2.2.2.2.2.2.2.2.2.2.2.2.2.2.2.2.2.2.2.2.2.2.2.2.2.2.2.2.2.2.2.2.2.2.2.2.2.2.1⟩
 case neg =>
  by_cases hp1 : 4096 < u0
  case pos =>
   -- region 14
   refine wp_schedE E ([0, 1, 2, 3, 4, 5, 6, 7, 8, 9, 10, 11, 12, 13, 14, 15]) (by kernel_rfl) (by kernel_rfl) (by kernel_rfl) (by kernel_rfl) (by intro d v c a w h; cases d <;> exact h) ?_
   replace E := E.drew
   refine SW (v := .pointer (some ⟨b3, 0 + 0 * 1, none⟩)) rfl rfl rfl rfl rfl (fun w hS => run_idxA (j := 0) rfl Try.underlying54 (by kernel_rfl) rfl rfl rfl (by decide)) <| SW rfl rfl rfl rfl rfl (fun w hS => run_cell rfl isAgg_i64 rfl (hS.2.2.2.2.2.2.2.2.2.2.2.2.2.2.2.2.2.2.2.2.2.2.2.2.2.2.2.2.2.2.2.2.1) rfl) <| SW rfl rfl rfl rfl rfl (fun w hS => run_ltI (c := false) rfl rfl rfl (decide_eq_false hp0)) <| SM rfl rfl rfl rfl rfl rfl rfl rfl <| ?_
   simp only [q2,q3]
   refine SW (v := .pointer (some ⟨b3, 0 + 0 * 1, none⟩)) rfl rfl rfl (by kernel_rfl) rfl (fun w hS => run_idxA (j := 0) rfl Try.underlying54 (by kernel_rfl) rfl rfl rfl (by decide)) <| SW rfl rfl rfl (by kernel_rfl) rfl (fun w hS => run_cell rfl isAgg_i64 rfl (hS.2.2.2.2.2.2.2.2.2.2.2.2.2.2.2.2.2.2.2.2.2.2.2.2.2.2.2.2.2.2.2.2.1) rfl) <| SW rfl rfl rfl (by kernel_rfl) rfl (fun w hS => run_gtI (c := true) rfl rfl rfl (decide_eq_true hp1)) <| SW (v := .bool true) rfl rfl rfl rfl rfl (fun w hS => run_pick (b := false) rfl rfl rfl) <| ?_
   simp only [q2,q3]
   refine SM rfl rfl rfl rfl rfl rfl rfl rfl <| ?_
   refine S0 (o := ⟨some 151, _, _, _, _, _⟩) rfl rfl (E) ?_
   simp only [Act.put,q1,q2,q3]
   refine S0 (o := ⟨some 152, _, _, _, _, _⟩) rfl rfl (E) ?_
   simp only [Act.put,q1,q2,q3]
   refine S0 (o := ⟨some 153, _, _, _, _, _⟩) rfl rfl (E) ?_
   simp only [Act.put,q1,q2,q3]
   refine S0 (o := ⟨some 154, _, _, _, _, _⟩) rfl rfl (E) ?_
   simp only [Act.put,q1,q2,q3]
   refine S0 (o := ⟨some 155, _, _, _, _, _⟩) rfl rfl (E) ?_
   simp only [Act.put,q1,q2,q3]
   refine S0 (o := ⟨some 156, _, _, _, _, _⟩) rfl rfl (E) ?_
   simp only [Act.put,q1,q2,q3]
   refine SW (v := .bool true) rfl rfl rfl rfl rfl (fun w hS => run_pick (b := true) rfl rfl rfl) <| ?_
   simp only [q2,q3]
   refine SN ?_
   change Code.wp _ _ _ _ _
   refine wp_cond_true rfl ?_
   refine wp_seq ?_
   -- region 15
   refine RL ?_
   refine V rfl rfl (run_load_bx AgI rfl rfl (E.2.2.2.2.2.2.2.2.2.2.2.2.2.2.2.2.2.2.2.2.2.2.2.2.2.2.2.2.2.2.1) rfl) <| V (v := .pointer (some ⟨b3, 0 + 0 * 1, none⟩)) rfl rfl (run_idxA (j := 0) rfl Try.underlying54 (by kernel_rfl) rfl rfl rfl (by decide)) <| V rfl rfl (run_cell rfl isAgg_i64 rfl (E.2.2.2.2.2.2.2.2.2.2.2.2.2.2.2.2.2.2.2.2.2.2.2.2.2.2.2.2.2.2.2.2.1) rfl) <| ?_
   simp only [q2,q3]
   refine EF rfl (Oper.wp_callIE fn_integer_Pow rfl (Pow_all _ a u0 _ (E.2.2.2.2.2.2.2.2.2.2.2.2.2.2.2.2.2.2.2.2.2.2.2.2.2.2.2.2.2.2.2.1) Fa) rfl E ?_)
   clear E
   intro w70 n70 s70 d70 E
   clear d70
   refine kw rfl ?_
   refine M rfl rfl rfl rfl rfl <| V rfl rfl (run_extract (vs := [.agg #[.bool n70, s70], .int .i64 (pe u0)]) rfl rfl rfl) <| V rfl rfl (run_extract (vs := [.agg #[.bool n70, s70], .int .i64 (pe u0)]) rfl rfl rfl) <| ?_
   simp only [q2,q3]
   refine EF rfl (Oper.wp_alloc AgI rfl ?_)
   intro b71 w71 e71 z71 d71 x71
   have l71_0 : b31 < b71 := by rw [e71]; exact Bx.lt (e9 E)
   replace E := E.below d71
   clear e71 z71 d71
   refine kw rfl ?_
   simp only [q2,q3]
   refine EF rfl (Oper.wp_store AgI rfl rfl rfl x71 rfl rfl (IsI.one (E.1)) ?_)
   intro w72 o72 y72
   replace E := (E.onl (x71.noW now0) ⟨trivial, trivial, trivial, trivial, trivial, trivial, trivial, trivial, trivial, okB (by omega), okB (by omega), okB (by omega), trivial, trivial, trivial, okB (by omega), okB (by omega), okB (by omega), trivial, trivial, trivial, okB (by omega), okB (by omega), trivial, trivial, okB (by omega), okB (by omega), trivial, trivial, okB (by omega), trivial, okB (by omega), trivial, okX (by omega), okX (by omega), okX (by omega), okW (by omega), trivial⟩ o72).b y72
   clear x71 o72 y72
   refine kn rfl ?_
   refine A rfl rfl rfl rfl rfl <| ?_
   simp only [q2,q3]
   refine WN ?_
   change Code.wp _ _ _ _ _
   refine wp_seq ?_
   -- region 16
   refine RL ?_
   refine V rfl rfl (run_load_bx AgI rfl rfl (E.2.2.2.2.2.2.2.2.2.2.2.2.2.2.2.2.2.2.2.2.2.2.2.2.2.2.2.2.2.2.2.2.1) rfl) <| V (v := .pointer (some ⟨b3, 0 + 0 * 1, none⟩)) rfl rfl (run_idxA (j := 0) rfl Try.underlying54 (by kernel_rfl) rfl rfl rfl (by decide)) <| V rfl rfl (run_cell rfl isAgg_i64 rfl (E.2.2.2.2.2.2.2.2.2.2.2.2.2.2.2.2.2.2.2.2.2.2.2.2.2.2.2.2.2.2.2.2.2.2.1) rfl) <| ?_
   simp only [q2,q3]
   refine EF rfl (Oper.wp_callIE fn_eref01_Pow rfl (RPow_all _ a u0 _ (E.2.2.2.2.2.2.2.2.2.2.2.2.2.2.2.2.2.2.2.2.2.2.2.2.2.2.2.2.2.2.2.2.2.1) Fa) rfl E ?_)
   clear E
   intro w73 n73 s73 d73 E
   clear d73
   refine kw rfl ?_
   refine M rfl rfl rfl rfl rfl <| V rfl rfl (run_extract (vs := [.agg #[.bool n73, s73], .int .i64 (pe u0)]) rfl rfl rfl) <| V rfl rfl (run_extract (vs := [.agg #[.bool n73, s73], .int .i64 (pe u0)]) rfl rfl rfl) <| ?_
   simp only [q2,q3]
   refine EF rfl (Oper.wp_alloc AgI rfl ?_)
   intro b74 w74 e74 z74 d74 x74
   have l74_0 : b71 < b74 := by rw [e74]; exact Bx.lt (E.2.1)
   replace E := E.below d74
   clear e74 z74 d74
   refine kw rfl ?_
   simp only [q2,q3]
   refine EF rfl (Oper.wp_store AgI rfl rfl rfl x74 rfl rfl (IsI.one (E.1)) ?_)
   intro w75 o75 y75
   replace E := (E.onl (x74.noW now0) ⟨trivial, okB (by omega), trivial, trivial, trivial, trivial, trivial, trivial, trivial, trivial, trivial, okB (by omega), okB (by omega), okB (by omega), trivial, trivial, trivial, okB (by omega), okB (by omega), okB (by omega), trivial, trivial, trivial, okB (by omega), okB (by omega), trivial, trivial, okB (by omega), okB (by omega), trivial, trivial, okB (by omega), trivial, okB (by omega), trivial, okX (by omega), okX (by omega), okX (by omega), okW (by omega), trivial⟩ o75).b y75
   clear x74 o75 y75
   refine kn rfl ?_
   refine A rfl rfl rfl rfl rfl <| ?_
   simp only [q2,q3]
   refine WN ?_
   change Code.wp _ _ _ _ _
   refine wp_seq ?_
   -- region 17
   refine RL ?_
   refine M rfl rfl rfl rfl rfl <| M rfl rfl rfl rfl rfl <| V rfl rfl (run_neI (c := false) rfl rfl rfl (bne_f' rfl)) <| M rfl rfl rfl rfl rfl <| ?_
   simp only [q2,q3]
   refine V (by kernel_rfl) rfl (run_load_bx AgI rfl rfl (E.2.2.1) rfl) <| V (by kernel_rfl) rfl (run_load_bx AgI rfl rfl (E.1) rfl) <| ?_
   simp only [q2,q3]
   refine EF rfl (Oper.wp_callB fn_eref01_Same rfl (RSame_t _ _ (pv a u0) (pv a u0) _ (e3 E) (E.2.1) rfl) rfl E ?_)
   clear E
   intro w76 d76 E
   clear d76
   refine kw rfl ?_
   refine V (v := .bool false) (by kernel_rfl) rfl (run_not (b := true) rfl rfl) <| V (v := .bool false) rfl rfl (run_pick (b := false) rfl rfl rfl) <| ?_
   simp only [q2,q3]
   refine WN ?_
   change Code.wp _ _ _ _ _
   refine wp_cond_false rfl ?_
   refine wp_skip ?_
   change Code.wp _ _ _ _ _
   refine wp_seq ?_
   obtain ⟨r, hr⟩ : ∃ r, ¬ u1 < 1 → IsRoot r u1.toNat a.natAbs := by by_cases h : u1 < 1; exact ⟨0, fun g => absurd h g⟩; exact (IsRoot.exists u1.toNat a.natAbs (by omega)).imp fun r h _ => h
   -- region 19
   refine RL ?_
   refine V rfl rfl (run_load_bx AgI rfl rfl (E.2.2.2.2.2.2.2.2.2.2.2.2.2.2.2.2.2.2.2.2.2.2.2.2.2.2.2.2.2.2.2.2.2.2.1) rfl) <| V (v := .pointer (some ⟨b3, 0 + 1 * 1, none⟩)) rfl rfl (run_idxA (j := 1) rfl Try.underlying54 (by kernel_rfl) rfl rfl rfl (by decide)) <| V rfl rfl (run_cell rfl isAgg_i64 rfl (E.2.2.2.2.2.2.2.2.2.2.2.2.2.2.2.2.2.2.2.2.2.2.2.2.2.2.2.2.2.2.2.2.2.2.2.2.1) rfl) <| ?_
   simp only [q2,q3]
   refine EF rfl (Oper.wp_callIE fn_integer_Root rfl (Root_all _ a u1 r _ (E.2.2.2.2.2.2.2.2.2.2.2.2.2.2.2.2.2.2.2.2.2.2.2.2.2.2.2.2.2.2.2.2.2.2.2.1) Fa hu2 hr) rfl E ?_)
   clear E
   intro w77 n77 s77 d77 E
   clear d77
   refine kw rfl ?_
   refine M rfl rfl rfl rfl rfl <| V rfl rfl (run_extract (vs := [.agg #[.bool n77, s77], .int .i64 (re a u1)]) rfl rfl rfl) <| V rfl rfl (run_extract (vs := [.agg #[.bool n77, s77], .int .i64 (re a u1)]) rfl rfl rfl) <| ?_
   simp only [q2,q3]
   refine EF rfl (Oper.wp_alloc AgI rfl ?_)
   intro b78 w78 e78 z78 d78 x78
   have l78_0 : b74 < b78 := by rw [e78]; exact Bx.lt (E.2.1)
   replace E := E.below d78
   clear e78 z78 d78
   refine kw rfl ?_
   simp only [q2,q3]
   refine EF rfl (Oper.wp_store AgI rfl rfl rfl x78 rfl rfl (IsI.one (E.1)) ?_)
   intro w79 o79 y79
   replace E := (E.onl (x78.noW now0) ⟨trivial, okB (by omega), trivial, okB (by omega), trivial, trivial, trivial, trivial, trivial, trivial, trivial, trivial, trivial, okB (by omega), okB (by omega), okB (by omega), trivial, trivial, trivial, okB (by omega), okB (by omega), okB (by omega), trivial, trivial, trivial, okB (by omega), okB (by omega), trivial, trivial, okB (by omega), okB (by omega), trivial, trivial, okB (by omega), trivial, okB (by omega), trivial, okX (by omega), okX (by omega), okX (by omega), okW (by omega), trivial⟩ o79).b y79
   clear x78 o79 y79
   refine kn rfl ?_
   refine A rfl rfl rfl rfl rfl <| ?_
   simp only [q2,q3]
   refine WN ?_
   change Code.wp _ _ _ _ _
   refine wp_seq ?_
   -- region 20
   refine RL ?_
   refine V rfl rfl (run_load_bx AgI rfl rfl (E.2.2.2.2.2.2.2.2.2.2.2.2.2.2.2.2.2.2.2.2.2.2.2.2.2.2.2.2.2.2.2.2.2.2.2.2.1) rfl) <| V (v := .pointer (some ⟨b3, 0 + 1 * 1, none⟩)) rfl rfl (run_idxA (j := 1) rfl Try.underlying54 (by kernel_rfl) rfl rfl rfl (by decide)) <| V rfl rfl (run_cell rfl isAgg_i64 rfl (E.2.2.2.2.2.2.2.2.2.2.2.2.2.2.2.2.2.2.2.2.2.2.2.2.2.2.2.2.2.2.2.2.2.2.2.2.2.2.1) rfl) <| ?_
   simp only [q2,q3]
   refine EF rfl (Oper.wp_callIE fn_eref01_Root rfl (RRoot_all _ a u1 r _ (E.2.2.2.2.2.2.2.2.2.2.2.2.2.2.2.2.2.2.2.2.2.2.2.2.2.2.2.2.2.2.2.2.2.2.2.2.2.1) Fa hu2 hr) rfl E ?_)
   clear E
   intro w80 n80 s80 d80 E
   clear d80
   refine kw rfl ?_
   refine M rfl rfl rfl rfl rfl <| V rfl rfl (run_extract (vs := [.agg #[.bool n80, s80], .int .i64 (re a u1)]) rfl rfl rfl) <| V rfl rfl (run_extract (vs := [.agg #[.bool n80, s80], .int .i64 (re a u1)]) rfl rfl rfl) <| ?_
   simp only [q2,q3]
   refine EF rfl (Oper.wp_alloc AgI rfl ?_)
   intro b81 w81 e81 z81 d81 x81
   have l81_0 : b78 < b81 := by rw [e81]; exact Bx.lt (E.2.1)
   replace E := E.below d81
   clear e81 z81 d81
   refine kw rfl ?_
   simp only [q2,q3]
   refine EF rfl (Oper.wp_store AgI rfl rfl rfl x81 rfl rfl (IsI.one (E.1)) ?_)
   intro w82 o82 y82
   replace E := (E.onl (x81.noW now0) ⟨trivial, okB (by omega), trivial, okB (by omega), trivial, okB (by omega), trivial, trivial, trivial, trivial, trivial, trivial, trivial, trivial, trivial, okB (by omega), okB (by omega), okB (by omega), trivial, trivial, trivial, okB (by omega), okB (by omega), okB (by omega), trivial, trivial, trivial, okB (by omega), okB (by omega), trivial, trivial, okB (by omega), okB (by omega), trivial, trivial, okB (by omega), trivial, okB (by omega), trivial, okX (by omega), okX (by omega), okX (by omega), okW (by omega), trivial⟩ o82).b y82
   clear x81 o82 y82
   refine kn rfl ?_
   refine A rfl rfl rfl rfl rfl <| ?_
   simp only [q2,q3]
   refine WN ?_
   change Code.wp _ _ _ _ _
   refine wp_seq ?_
   -- region 21
   refine RL ?_
   refine M rfl rfl rfl rfl rfl <| M rfl rfl rfl rfl rfl <| M (by kernel_rfl) rfl rfl rfl rfl <| M (by kernel_rfl) rfl rfl rfl rfl <| ?_
   simp only [q2,q3]
   refine V (by kernel_rfl) rfl (run_eqI (c := true) rfl rfl rfl (beq_self_eq_true _)) <| V (v := .bool true) rfl rfl (run_pick (b := true) rfl rfl rfl) <| M rfl rfl rfl rfl rfl <| V (by kernel_rfl) rfl (run_load_bx AgI rfl rfl (E.2.2.1) rfl) <| ?_
   simp only [q2,q3]
   refine V (by kernel_rfl) rfl (run_load_bx AgI rfl rfl (E.1) rfl) <| ?_
   simp only [q2,q3]
   refine EF rfl (Oper.wp_callB fn_eref01_Same rfl (RSame_t _ _ (rv a u1 r) (rv a u1 r) _ (e3 E) (E.2.1) rfl) rfl E ?_)
   clear E
   intro w83 d83 E
   clear d83
   refine kw rfl ?_
   refine V (v := .bool true) rfl rfl (run_pick (b := true) rfl rfl rfl) <| A rfl rfl rfl rfl rfl <| ?_
   simp only [q2,q3]
   refine WN ?_
   change Code.wp _ _ _ _ _
   refine wp_ret ?_
   exact bodyPost_ret (v := .bool true) (by simp [results, Try.results11, asAddr]) rfl ⟨rfl, E.2.2.2.2.2.2.2.2.2.2.2.2.2.2.2.2.2.2.2.2.2.2.2.2.2.2.2.2.2.2.2.2.2.2.2.2.2.2.2.2.2.2.2.1⟩
  case neg =>
   by_cases hp2 : u0 * ((bitsN a.natAbs : Nat) : Int) ≤ 20000
   case pos =>
    -- region 14
    refine wp_schedE E ([0, 1, 2, 3, 4, 5, 6, 7, 8, 9, 10, 11, 12, 13, 14, 15]) (by kernel_rfl) (by kernel_rfl) (by kernel_rfl) (by kernel_rfl) (by intro d v c a w h; cases d <;> exact h) ?_
    replace E := E.drew
    refine SW (v := .pointer (some ⟨b3, 0 + 0 * 1, none⟩)) rfl rfl rfl rfl rfl (fun w hS => run_idxA (j := 0) rfl Try.underlying54 (by kernel_rfl) rfl rfl rfl (by decide)) <| SW rfl rfl rfl rfl rfl (fun w hS => run_cell rfl isAgg_i64 rfl (hS.2.2.2.2.2.2.2.2.2.2.2.2.2.2.2.2.2.2.2.2.2.2.2.2.2.2.2.2.2.2.2.2.1) rfl) <| SW rfl rfl rfl rfl rfl (fun w hS => run_ltI (c := false) rfl rfl rfl (decide_eq_false hp0)) <| SM rfl rfl rfl rfl rfl rfl rfl rfl <| ?_
    simp only [q2,q3]
    refine SW (v := .pointer (some ⟨b3, 0 + 0 * 1, none⟩)) rfl rfl rfl (by kernel_rfl) rfl (fun w hS => run_idxA (j := 0) rfl Try.underlying54 (by kernel_rfl) rfl rfl rfl (by decide)) <| SW rfl rfl rfl (by kernel_rfl) rfl (fun w hS => run_cell rfl isAgg_i64 rfl (hS.2.2.2.2.2.2.2.2.2.2.2.2.2.2.2.2.2.2.2.2.2.2.2.2.2.2.2.2.2.2.2.2.1) rfl) <| SW rfl rfl rfl (by kernel_rfl) rfl (fun w hS => run_gtI (c := false) rfl rfl rfl (decide_eq_false hp1)) <| SW (v := .bool false) rfl rfl rfl rfl rfl (fun w hS => run_pick (b := false) rfl rfl rfl) <| ?_
    simp only [q2,q3]
    refine SM rfl rfl rfl rfl rfl rfl rfl rfl <| SW (v := .pointer (some ⟨b3, 0 + 0 * 1, none⟩)) rfl rfl rfl (by kernel_rfl) rfl (fun w hS => run_idxA (j := 0) rfl Try.underlying54 (by kernel_rfl) rfl rfl rfl (by decide)) <| SW rfl rfl rfl (by kernel_rfl) rfl (fun w hS => run_cell rfl isAgg_i64 rfl (hS.2.2.2.2.2.2.2.2.2.2.2.2.2.2.2.2.2.2.2.2.2.2.2.2.2.2.2.2.2.2.2.2.1) rfl) <| SW rfl rfl rfl (by kernel_rfl) rfl (fun w hS => run_load_bx AgI rfl rfl (hS.2.2.2.2.2.2.2.2.2.2.2.2.2.2.2.2.2.2.2.2.2.2.2.2.2.2.2.2.2.2.1) rfl) <| ?_
    simp only [q2,q3]
    refine S1a (o := ⟨some 154, _, _, _, _, _⟩) rfl rfl rfl rfl (Oper.wp_callN fn_eref01_Bits rfl (RBits_z _ a _ (E.2.2.2.2.2.2.2.2.2.2.2.2.2.2.2.2.2.2.2.2.2.2.2.2.2.2.2.2.2.2.2.1) (Fits.mono Fa (by decide))) rfl E ?_)
    clear E
    intro w84 d84 E
    clear d84
    refine ⟨E, ?_⟩
    simp only [Act.put,q1,q2,q3]
    refine SW (v := .int .i64 (u0 * ((bitsN a.natAbs : Nat) : Int))) rfl rfl rfl (by kernel_rfl) rfl (fun w hS => run_mulI rfl rfl rfl (mul_wrap Fa hp0 hp1)) <| SW rfl rfl rfl (by kernel_rfl) rfl (fun w hS => run_leI (c := true) rfl rfl rfl (decide_eq_true hp2)) <| SW (v := .bool true) rfl rfl rfl rfl rfl (fun w hS => run_pick (b := false) rfl rfl rfl) <| ?_
    simp only [q2,q3]
    refine SN ?_
    change Code.wp _ _ _ _ _
    refine wp_cond_true rfl ?_
    refine wp_seq ?_
    -- region 15
    refine RL ?_
    refine V rfl rfl (run_load_bx AgI rfl rfl (E.2.2.2.2.2.2.2.2.2.2.2.2.2.2.2.2.2.2.2.2.2.2.2.2.2.2.2.2.2.2.1) rfl) <| V (v := .pointer (some ⟨b3, 0 + 0 * 1, none⟩)) rfl rfl (run_idxA (j := 0) rfl Try.underlying54 (by kernel_rfl) rfl rfl rfl (by decide)) <| V rfl rfl (run_cell rfl isAgg_i64 rfl (E.2.2.2.2.2.2.2.2.2.2.2.2.2.2.2.2.2.2.2.2.2.2.2.2.2.2.2.2.2.2.2.2.1) rfl) <| ?_
    simp only [q2,q3]
    refine EF rfl (Oper.wp_callIE fn_integer_Pow rfl (Pow_all _ a u0 _ (E.2.2.2.2.2.2.2.2.2.2.2.2.2.2.2.2.2.2.2.2.2.2.2.2.2.2.2.2.2.2.2.1) Fa) rfl E ?_)
    clear E
    intro w85 n85 s85 d85 E
    clear d85
    refine kw rfl ?_
    refine M rfl rfl rfl rfl rfl <| V rfl rfl (run_extract (vs := [.agg #[.bool n85, s85], .int .i64 (pe u0)]) rfl rfl rfl) <| V rfl rfl (run_extract (vs := [.agg #[.bool n85, s85], .int .i64 (pe u0)]) rfl rfl rfl) <| ?_
    simp only [q2,q3]
    refine EF rfl (Oper.wp_alloc AgI rfl ?_)
    intro b86 w86 e86 z86 d86 x86
    have l86_0 : b31 < b86 := by rw [e86]; exact Bx.lt (e9 E)
    replace E := E.below d86
    clear e86 z86 d86
    refine kw rfl ?_
    simp only [q2,q3]
    refine EF rfl (Oper.wp_store AgI rfl rfl rfl x86 rfl rfl (IsI.one (E.1)) ?_)
    intro w87 o87 y87
    replace E := (E.onl (x86.noW now0) ⟨trivial, trivial, trivial, trivial, trivial, trivial, trivial, trivial, trivial, okB (by omega), okB (by omega), okB (by omega), trivial, trivial, trivial, okB (by omega), okB (by omega), okB (by omega), trivial, trivial, trivial, okB (by omega), okB (by omega), trivial, trivial, okB (by omega), okB (by omega), trivial, trivial, okB (by omega), trivial, okB (by omega), trivial, okX (by omega), okX (by omega), okX (by omega), okW (by omega), trivial⟩ o87).b y87
    clear x86 o87 y87
    refine kn rfl ?_
    refine A rfl rfl rfl rfl rfl <| ?_
    simp only [q2,q3]
    refine WN ?_
    change Code.wp _ _ _ _ _
    refine wp_seq ?_
    -- region 16
    refine RL ?_
    refine V rfl rfl (run_load_bx AgI rfl rfl (E.2.2.2.2.2.2.2.2.2.2.2.2.2.2.2.2.2.2.2.2.2.2.2.2.2.2.2.2.2.2.2.2.1) rfl) <| V (v := .pointer (some ⟨b3, 0 + 0 * 1, none⟩)) rfl rfl (run_idxA (j := 0) rfl Try.underlying54 (by kernel_rfl) rfl rfl rfl (by decide)) <| V rfl rfl (run_cell rfl isAgg_i64 rfl (E.2.2.2.2.2.2.2.2.2.2.2.2.2.2.2.2.2.2.2.2.2.2.2.2.2.2.2.2.2.2.2.2.2.2.1) rfl) <| ?_
    simp only [q2,q3]
    refine EF rfl (Oper.wp_callIE fn_eref01_Pow rfl (RPow_all _ a u0 _ (E.2.2.2.2.2.2.2.2.2.2.2.2.2.2.2.2.2.2.2.2.2.2.2.2.2.2.2.2.2.2.2.2.2.1) Fa) rfl E ?_)
    clear E
    intro w88 n88 s88 d88 E
    clear d88
    refine kw rfl ?_
    refine M rfl rfl rfl rfl rfl <| V rfl rfl (run_extract (vs := [.agg #[.bool n88, s88], .int .i64 (pe u0)]) rfl rfl rfl) <| V rfl rfl (run_extract (vs := [.agg #[.bool n88, s88], .int .i64 (pe u0)]) rfl rfl rfl) <| ?_
    simp only [q2,q3]
    refine EF rfl (Oper.wp_alloc AgI rfl ?_)
    intro b89 w89 e89 z89 d89 x89
    have l89_0 : b86 < b89 := by rw [e89]; exact Bx.lt (E.2.1)
    replace E := E.below d89
    clear e89 z89 d89
    refine kw rfl ?_
    simp only [q2,q3]
    refine EF rfl (Oper.wp_store AgI rfl rfl rfl x89 rfl rfl (IsI.one (E.1)) ?_)
    intro w90 o90 y90
    replace E := (E.onl (x89.noW now0) ⟨trivial, okB (by omega), trivial, trivial, trivial, trivial, trivial, trivial, trivial, trivial, trivial, okB (by omega), okB (by omega), okB (by omega), trivial, trivial, trivial, okB (by omega), okB (by omega), okB (by omega), trivial, trivial, trivial, okB (by omega), okB (by omega), trivial, trivial, okB (by omega), okB (by omega), trivial, trivial, okB (by omega), trivial, okB (by omega), trivial, okX (by omega), okX (by omega), okX (by omega), okW (by omega), trivial⟩ o90).b y90
    clear x89 o90 y90
    refine kn rfl ?_
    refine A rfl rfl rfl rfl rfl <| ?_
    simp only [q2,q3]
    refine WN ?_
    change Code.wp _ _ _ _ _
    refine wp_seq ?_
    -- region 17
    refine RL ?_
    refine M rfl rfl rfl rfl rfl <| M rfl rfl rfl rfl rfl <| V rfl rfl (run_neI (c := false) rfl rfl rfl (bne_f' rfl)) <| M rfl rfl rfl rfl rfl <| ?_
    simp only [q2,q3]
    refine V (by kernel_rfl) rfl (run_load_bx AgI rfl rfl (E.2.2.1) rfl) <| V (by kernel_rfl) rfl (run_load_bx AgI rfl rfl (E.1) rfl) <| ?_
    simp only [q2,q3]
    refine EF rfl (Oper.wp_callB fn_eref01_Same rfl (RSame_t _ _ (pv a u0) (pv a u0) _ (e3 E) (E.2.1) rfl) rfl E ?_)
    clear E
    intro w91 d91 E
    clear d91
    refine kw rfl ?_
    refine V (v := .bool false) (by kernel_rfl) rfl (run_not (b := true) rfl rfl) <| V (v := .bool false) rfl rfl (run_pick (b := false) rfl rfl rfl) <| ?_
    simp only [q2,q3]
    refine WN ?_
    change Code.wp _ _ _ _ _
    refine wp_cond_false rfl ?_
    refine wp_skip ?_
    change Code.wp _ _ _ _ _
    refine wp_seq ?_
    obtain ⟨r, hr⟩ : ∃ r, ¬ u1 < 1 → IsRoot r u1.toNat a.natAbs := by by_cases h : u1 < 1; exact ⟨0, fun g => absurd h g⟩; exact (IsRoot.exists u1.toNat a.natAbs (by omega)).imp fun r h _ => h
    -- region 19
    refine RL ?_
    refine V rfl rfl (run_load_bx AgI rfl rfl (E.2.2.2.2.2.2.2.2.2.2.2.2.2.2.2.2.2.2.2.2.2.2.2.2.2.2.2.2.2.2.2.2.2.2.1) rfl) <| V (v := .pointer (some ⟨b3, 0 + 1 * 1, none⟩)) rfl rfl (run_idxA (j := 1) rfl Try.underlying54 (by kernel_rfl) rfl rfl rfl (by decide)) <| V rfl rfl (run_cell rfl isAgg_i64 rfl (E.2.2.2.2.2.2.2.2.2.2.2.2.2.2.2.2.2.2.2.2.2.2.2.2.2.2.2.2.2.2.2.2.2.2.2.2.1) rfl) <| ?_
    simp only [q2,q3]
    refine EF rfl (Oper.wp_callIE fn_integer_Root rfl (Root_all _ a u1 r _ (E.2.2.2.2.2.2.2.2.2.2.2.2.2.2.2.2.2.2.2.2.2.2.2.2.2.2.2.2.2.2.2.2.2.2.2.1) Fa hu2 hr) rfl E ?_)
    clear E
    intro w92 n92 s92 d92 E
    clear d92
    refine kw rfl ?_
    refine M rfl rfl rfl rfl rfl <| V rfl rfl (run_extract (vs := [.agg #[.bool n92, s92], .int .i64 (re a u1)]) rfl rfl rfl) <| V rfl rfl (run_extract (vs := [.agg #[.bool n92, s92], .int .i64 (re a u1)]) rfl rfl rfl) <| ?_
    simp only [q2,q3]
    refine EF rfl (Oper.wp_alloc AgI rfl ?_)
    intro b93 w93 e93 z93 d93 x93
    have l93_0 : b89 < b93 := by rw [e93]; exact Bx.lt (E.2.1)
    replace E := E.below d93
    clear e93 z93 d93
    refine kw rfl ?_
    simp only [q2,q3]
    refine EF rfl (Oper.wp_store AgI rfl rfl rfl x93 rfl rfl (IsI.one (E.1)) ?_)
    intro w94 o94 y94
    replace E := (E.onl (x93.noW now0) ⟨trivial, okB (by omega), trivial, okB (by omega), trivial, trivial, trivial, trivial, trivial, trivial, trivial, trivial, trivial, okB (by omega), okB (by omega), okB (by omega), trivial, trivial, trivial, okB (by omega), okB (by omega), okB (by omega), trivial, trivial, trivial, okB (by omega), okB (by omega), trivial, trivial, okB (by omega), okB (by omega), trivial, trivial, okB (by omega), trivial, okB (by omega), trivial, okX (by omega), okX (by omega), okX (by omega), okW (by omega), trivial⟩ o94).b y94
    clear x93 o94 y94
    refine kn rfl ?_
    refine A rfl rfl rfl rfl rfl <| ?_
    simp only [q2,q3]
    refine WN ?_
    change Code.wp _ _ _ _ _
    refine wp_seq ?_
    -- region 20
    refine RL ?_
    refine V rfl rfl (run_load_bx AgI rfl rfl (E.2.2.2.2.2.2.2.2.2.2.2.2.2.2.2.2.2.2.2.2.2.2.2.2.2.2.2.2.2.2.2.2.2.2.2.2.1) rfl) <| V (v := .pointer (some ⟨b3, 0 + 1 * 1, none⟩)) rfl rfl (run_idxA (j := 1) rfl Try.underlying54 (by kernel_rfl) rfl rfl rfl (by decide)) <| V rfl rfl (run_cell rfl isAgg_i64 rfl (E.2.2.2.2.2.2.2.2.2.2.2.2.2.2.2.2.2.2.2.2.2.2.2.2.2.2.2.2.2.2.2.2.2.2.2.2.2.2.1) rfl) <| ?_
    simp only [q2,q3]
    refine EF rfl (Oper.wp_callIE fn_eref01_Root rfl (RRoot_all _ a u1 r _ (E.2.2.2.2.2.2.2.2.2.2.2.2.2.2.2.2.2.2.2.2.2.2.2.2.2.2.2.2.2.2.2.2.2.2.2.2.2.1) Fa hu2 hr) rfl E ?_)
    clear E
    intro w95 n95 s95 d95 E
    clear d95
    refine kw rfl ?_
    refine M rfl rfl rfl rfl rfl <| V rfl rfl (run_extract (vs := [.agg #[.bool n95, s95], .int .i64 (re a u1)]) rfl rfl rfl) <| V rfl rfl (run_extract (vs := [.agg #[.bool n95, s95], .int .i64 (re a u1)]) rfl rfl rfl) <| ?_
    simp only [q2,q3]
    refine EF rfl (Oper.wp_alloc AgI rfl ?_)
    intro b96 w96 e96 z96 d96 x96
    have l96_0 : b93 < b96 := by rw [e96]; exact Bx.lt (E.2.1)
    replace E := E.below d96
    clear e96 z96 d96
    refine kw rfl ?_
    simp only [q2,q3]
    refine EF rfl (Oper.wp_store AgI rfl rfl rfl x96 rfl rfl (IsI.one (E.1)) ?_)
    intro w97 o97 y97
    replace E := (E.onl (x96.noW now0) ⟨trivial, okB (by omega), trivial, okB (by omega), trivial, okB (by omega), trivial, trivial, trivial, trivial, trivial, trivial, trivial, trivial, trivial, okB (by omega), okB (by omega), okB (by omega), trivial, trivial, trivial, okB (by omega), okB (by omega), okB (by omega), trivial, trivial, trivial, okB (by omega), okB (by omega), trivial, trivial, okB (by omega), okB (by omega), trivial, trivial, okB (by omega), trivial, okB (by omega), trivial, okX (by omega), okX (by omega), okX (by omega), okW (by omega), trivial⟩ o97).b y97
    clear x96 o97 y97
    refine kn rfl ?_
    refine A rfl rfl rfl rfl rfl <| ?_
    simp only [q2,q3]
    refine WN ?_
    change Code.wp _ _ _ _ _
    refine wp_seq ?_
    -- region 21
    refine RL ?_
    refine M rfl rfl rfl rfl rfl <| M rfl rfl rfl rfl rfl <| M (by kernel_rfl) rfl rfl rfl rfl <| M (by kernel_rfl) rfl rfl rfl rfl <| ?_
    simp only [q2,q3]
    refine V (by kernel_rfl) rfl (run_eqI (c := true) rfl rfl rfl (beq_self_eq_true _)) <| V (v := .bool true) rfl rfl (run_pick (b := true) rfl rfl rfl) <| M rfl rfl rfl rfl rfl <| V (by kernel_rfl) rfl (run_load_bx AgI rfl rfl (E.2.2.1) rfl) <| ?_
    simp only [q2,q3]
    refine V (by kernel_rfl) rfl (run_load_bx AgI rfl rfl (E.1) rfl) <| ?_
    simp only [q2,q3]
    refine EF rfl (Oper.wp_callB fn_eref01_Same rfl (RSame_t _ _ (rv a u1 r) (rv a u1 r) _ (e3 E) (E.2.1) rfl) rfl E ?_)
    clear E
    intro w98 d98 E
    clear d98
    refine kw rfl ?_
    refine V (v := .bool true) rfl rfl (run_pick (b := true) rfl rfl rfl) <| A rfl rfl rfl rfl rfl <| ?_
    simp only [q2,q3]
    refine WN ?_
    change Code.wp _ _ _ _ _
    refine wp_ret ?_
    exact bodyPost_ret (v := .bool true) (by simp [results, Try.results11, asAddr]) rfl ⟨rfl, E.2.2.2.2.2.2.2.2.2.2.2.2.2.2.2.2.2.2.2.2.2.2.2.2.2.2.2.2.2.2.2.2.2.2.2.2.2.2.2.2.2.2.2.1⟩
   case neg =>
    -- region 14
    refine wp_schedE E ([0, 1, 2, 3, 4, 5, 6, 7, 8, 9, 10, 11, 12, 13, 14, 15]) (by kernel_rfl) (by kernel_rfl) (by kernel_rfl) (by kernel_rfl) (by intro d v c a w h; cases d <;> exact h) ?_
    replace E := E.drew
    refine SW (v := .pointer (some ⟨b3, 0 + 0 * 1, none⟩)) rfl rfl rfl rfl rfl (fun w hS => run_idxA (j := 0) rfl Try.underlying54 (by kernel_rfl) rfl rfl rfl (by decide)) <| SW rfl rfl rfl rfl rfl (fun w hS => run_cell rfl isAgg_i64 rfl (hS.2.2.2.2.2.2.2.2.2.2.2.2.2.2.2.2.2.2.2.2.2.2.2.2.2.2.2.2.2.2.2.2.1) rfl) <| SW rfl rfl rfl rfl rfl (fun w hS => run_ltI (c := false) rfl rfl rfl (decide_eq_false hp0)) <| SM rfl rfl rfl rfl rfl rfl rfl rfl <| ?_
    simp only [q2,q3]
    refine SW (v := .pointer (some ⟨b3, 0 + 0 * 1, none⟩)) rfl rfl rfl (by kernel_rfl) rfl (fun w hS => run_idxA (j := 0) rfl Try.underlying54 (by kernel_rfl) rfl rfl rfl (by decide)) <| SW rfl rfl rfl (by kernel_rfl) rfl (fun w hS => run_cell rfl isAgg_i64 rfl (hS.2.2.2.2.2.2.2.2.2.2.2.2.2.2.2.2.2.2.2.2.2.2.2.2.2.2.2.2.2.2.2.2.1) rfl) <| SW rfl rfl rfl (by kernel_rfl) rfl (fun w hS => run_gtI (c := false) rfl rfl rfl (decide_eq_false hp1)) <| SW (v := .bool false) rfl rfl rfl rfl rfl (fun w hS => run_pick (b := false) rfl rfl rfl) <| ?_
    simp only [q2,q3]
    refine SM rfl rfl rfl rfl rfl rfl rfl rfl <| SW (v := .pointer (some ⟨b3, 0 + 0 * 1, none⟩)) rfl rfl rfl (by kernel_rfl) rfl (fun w hS => run_idxA (j := 0) rfl Try.underlying54 (by kernel_rfl) rfl rfl rfl (by decide)) <| SW rfl rfl rfl (by kernel_rfl) rfl (fun w hS => run_cell rfl isAgg_i64 rfl (hS.2.2.2.2.2.2.2.2.2.2.2.2.2.2.2.2.2.2.2.2.2.2.2.2.2.2.2.2.2.2.2.2.1) rfl) <| SW rfl rfl rfl (by kernel_rfl) rfl (fun w hS => run_load_bx AgI rfl rfl (hS.2.2.2.2.2.2.2.2.2.2.2.2.2.2.2.2.2.2.2.2.2.2.2.2.2.2.2.2.2.2.1) rfl) <| ?_
    simp only [q2,q3]
    refine S1a (o := ⟨some 154, _, _, _, _, _⟩) rfl rfl rfl rfl (Oper.wp_callN fn_eref01_Bits rfl (RBits_z _ a _ (E.2.2.2.2.2.2.2.2.2.2.2.2.2.2.2.2.2.2.2.2.2.2.2.2.2.2.2.2.2.2.2.1) (Fits.mono Fa (by decide))) rfl E ?_)
    clear E
    intro w99 d99 E
    clear d99
    refine ⟨E, ?_⟩
    simp only [Act.put,q1,q2,q3]
    refine SW (v := .int .i64 (u0 * ((bitsN a.natAbs : Nat) : Int))) rfl rfl rfl (by kernel_rfl) rfl (fun w hS => run_mulI rfl rfl rfl (mul_wrap Fa hp0 hp1)) <| SW rfl rfl rfl (by kernel_rfl) rfl (fun w hS => run_leI (c := false) rfl rfl rfl (decide_eq_false hp2)) <| SW (v := .bool false) rfl rfl rfl rfl rfl (fun w hS => run_pick (b := false) rfl rfl rfl) <| ?_
    simp only [q2,q3]
    refine SN ?_
    change Code.wp _ _ _ _ _
    refine wp_cond_false rfl ?_
    refine wp_skip ?_
    change Code.wp _ _ _ _ _
    refine wp_seq ?_
    obtain ⟨r, hr⟩ : ∃ r, ¬ u1 < 1 → IsRoot r u1.toNat a.natAbs := by by_cases h : u1 < 1; exact ⟨0, fun g => absurd h g⟩; exact (IsRoot.exists u1.toNat a.natAbs (by omega)).imp fun r h _ => h
    -- region 19
    refine RL ?_
    refine V rfl rfl (run_load_bx AgI rfl rfl (E.2.2.2.2.2.2.2.2.2.2.2.2.2.2.2.2.2.2.2.2.2.2.2.2.2.2.2.2.2.2.1) rfl) <| V (v := .pointer (some ⟨b3, 0 + 1 * 1, none⟩)) rfl rfl (run_idxA (j := 1) rfl Try.underlying54 (by kernel_rfl) rfl rfl rfl (by decide)) <| V rfl rfl (run_cell rfl isAgg_i64 rfl (E.2.2.2.2.2.2.2.2.2.2.2.2.2.2.2.2.2.2.2.2.2.2.2.2.2.2.2.2.2.2.2.2.1) rfl) <| ?_
    simp only [q2,q3]
    refine EF rfl (Oper.wp_callIE fn_integer_Root rfl (Root_all _ a u1 r _ (E.2.2.2.2.2.2.2.2.2.2.2.2.2.2.2.2.2.2.2.2.2.2.2.2.2.2.2.2.2.2.2.1) Fa hu2 hr) rfl E ?_)
    clear E
    intro w100 n100 s100 d100 E
    clear d100
    refine kw rfl ?_
    refine M rfl rfl rfl rfl rfl <| V rfl rfl (run_extract (vs := [.agg #[.bool n100, s100], .int .i64 (re a u1)]) rfl rfl rfl) <| V rfl rfl (run_extract (vs := [.agg #[.bool n100, s100], .int .i64 (re a u1)]) rfl rfl rfl) <| ?_
    simp only [q2,q3]
    refine EF rfl (Oper.wp_alloc AgI rfl ?_)
    intro b101 w101 e101 z101 d101 x101
    have l101_0 : b31 < b101 := by rw [e101]; exact Bx.lt (e9 E)
    replace E := E.below d101
    clear e101 z101 d101
    refine kw rfl ?_
    simp only [q2,q3]
    refine EF rfl (Oper.wp_store AgI rfl rfl rfl x101 rfl rfl (IsI.one (E.1)) ?_)
    intro w102 o102 y102
    replace E := (E.onl (x101.noW now0) ⟨trivial, trivial, trivial, trivial, trivial, trivial, trivial, trivial, trivial, okB (by omega), okB (by omega), okB (by omega), trivial, trivial, trivial, okB (by omega), okB (by omega), okB (by omega), trivial, trivial, trivial, okB (by omega), okB (by omega), trivial, trivial, okB (by omega), okB (by omega), trivial, trivial, okB (by omega), trivial, okB (by omega), trivial, okX (by omega), okX (by omega), okX (by omega), okW (by omega), trivial⟩ o102).b y102
    clear x101 o102 y102
    refine kn rfl ?_
    refine A rfl rfl rfl rfl rfl <| ?_
    simp only [q2,q3]
    refine WN ?_
    change Code.wp _ _ _ _ _
    refine wp_seq ?_
    -- region 20
    refine RL ?_
    refine V rfl rfl (run_load_bx AgI rfl rfl (E.2.2.2.2.2.2.2.2.2.2.2.2.2.2.2.2.2.2.2.2.2.2.2.2.2.2.2.2.2.2.2.2.1) rfl) <| V (v := .pointer (some ⟨b3, 0 + 1 * 1, none⟩)) rfl rfl (run_idxA (j := 1) rfl Try.underlying54 (by kernel_rfl) rfl rfl rfl (by decide)) <| V rfl rfl (run_cell rfl isAgg_i64 rfl (E.2.2.2.2.2.2.2.2.2.2.2.2.2.2.2.2.2.2.2.2.2.2.2.2.2.2.2.2.2.2.2.2.2.2.1) rfl) <| ?_
    simp only [q2,q3]
    refine EF rfl (Oper.wp_callIE fn_eref01_Root rfl (RRoot_all _ a u1 r _ (E.2.2.2.2.2.2.2.2.2.2.2.2.2.2.2.2.2.2.2.2.2.2.2.2.2.2.2.2.2.2.2.2.2.1) Fa hu2 hr) rfl E ?_)
    clear E
    intro w103 n103 s103 d103 E
    clear d103
    refine kw rfl ?_
    refine M rfl rfl rfl rfl rfl <| V rfl rfl (run_extract (vs := [.agg #[.bool n103, s103], .int .i64 (re a u1)]) rfl rfl rfl) <| V rfl rfl (run_extract (vs := [.agg #[.bool n103, s103], .int .i64 (re a u1)]) rfl rfl rfl) <| ?_
    simp only [q2,q3]
    refine EF rfl (Oper.wp_alloc AgI rfl ?_)
    intro b104 w104 e104 z104 d104 x104
    have l104_0 : b101 < b104 := by rw [e104]; exact Bx.lt (E.2.1)
    replace E := E.below d104
    clear e104 z104 d104
    refine kw rfl ?_
    simp only [q2,q3]
    refine EF rfl (Oper.wp_store AgI rfl rfl rfl x104 rfl rfl (IsI.one (E.1)) ?_)
    intro w105 o105 y105
    replace E := (E.onl (x104.noW now0) ⟨trivial, okB (by omega), trivial, trivial, trivial, trivial, trivial, trivial, trivial, trivial, trivial, okB (by omega), okB (by omega), okB (by omega), trivial, trivial, trivial, okB (by omega), okB (by omega), okB (by omega), trivial, trivial, trivial, okB (by omega), okB (by omega), trivial, trivial, okB (by omega), okB (by omega), trivial, trivial, okB (by omega), trivial, okB (by omega), trivial, okX (by omega), okX (by omega), okX (by omega), okW (by omega), trivial⟩ o105).b y105
    clear x104 o105 y105
    refine kn rfl ?_
    refine A rfl rfl rfl rfl rfl <| ?_
    simp only [q2,q3]
    refine WN ?_
    change Code.wp _ _ _ _ _
    refine wp_seq ?_
    -- region 21
    refine RL ?_
    refine M rfl rfl rfl rfl rfl <| M rfl rfl rfl rfl rfl <| M (by kernel_rfl) rfl rfl rfl rfl <| M (by kernel_rfl) rfl rfl rfl rfl <| ?_
    simp only [q2,q3]
    refine V (by kernel_rfl) rfl (run_eqI (c := true) rfl rfl rfl (beq_self_eq_true _)) <| V (v := .bool true) rfl rfl (run_pick (b := true) rfl rfl rfl) <| M rfl rfl rfl rfl rfl <| V (by kernel_rfl) rfl (run_load_bx AgI rfl rfl (E.2.2.1) rfl) <| ?_
    simp only [q2,q3]
    refine V (by kernel_rfl) rfl (run_load_bx AgI rfl rfl (E.1) rfl) <| ?_
    simp only [q2,q3]
    refine EF rfl (Oper.wp_callB fn_eref01_Same rfl (RSame_t _ _ (rv a u1 r) (rv a u1 r) _ (e3 E) (E.2.1) rfl) rfl E ?_)
    clear E
    intro w106 d106 E
    clear d106
    refine kw rfl ?_
    refine V (v := .bool true) rfl rfl (run_pick (b := true) rfl rfl rfl) <| A rfl rfl rfl rfl rfl <| ?_
    simp only [q2,q3]
    refine WN ?_
    change Code.wp _ _ _ _ _
    refine wp_ret ?_
    exact bodyPost_ret (v := .bool true) (by simp [results, Try.results11, asAddr]) rfl ⟨rfl, E.2.2.2.2.2.2.2.2.2.2.2.2.2.2.2.2.2.2.2.2.2.2.2.2.2.2.2.2.2.2.2.2.2.2.2.2.2.2.2.1⟩
end Go.Proofs.Ytjgmfdenicbniaa
