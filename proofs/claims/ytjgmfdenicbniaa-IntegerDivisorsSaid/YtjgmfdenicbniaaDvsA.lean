/- The reference's Sign, the helper divides. (Printed by g_divisors.py.) -/
import Derived.Test.YtjgmfdenicbniaaLawC
namespace Go.Proofs.Ytjgmfdenicbniaa
open Go.RowKit W
theorem eqI {w : World} {v : Value} {z z' : Int} (h : z = z') (f : IsI w v z) : IsI w v z' := h ▸ f
theorem abs_i {w : World} {n : Bool} {s : Value} {z : Int} (h : IsI w (.agg #[.bool n, s]) z) : IsI w (.agg #[.bool false, s]) (z.natAbs : Int) :=
  ⟨s, by rw [decide_eq_false (by omega)], by rw [Int.natAbs_natCast]; exact h.sl⟩
theorem run_buildIm {ρ : Operand → Value} {o : Oper} {w : World} {x : Operand} {v : Value} {ao : Option Addr} {n c : Nat} (ho : o.op = .build 24 #[(1, x)]) (hx : ρ x = v) (hv : v = .slice ao n c) : (execOp ρ o).run Try.prog w = .ok (.value (.agg #[.bool false, v])) w := by
  subst hv
  unfold execOp; rw [ho]
  have hi : (zeroValue 24).run Try.prog w = .ok (.agg #[.bool false, .slice none 0 0]) w := by kernel_rfl
  simp [go_sem, hi, hx]
theorem bne_f' {m n : Int} (h : m = n) : (m != n) = false := by subst h; simp
theorem run_minI {ρ : Operand → Value} {o : Oper} {w : World} {x y : Operand} {k : IntKind} {m n : Int} {tys : Array TypeId} (ho : o.op = .call { callee := .builtin .min, args := #[x, y], argTypes := tys }) (hx : ρ x = .int k m) (hy : ρ y = .int k n) :
    (execOp ρ o).run Try.prog w = .ok (.value (.int k (if m < n then m else n))) w := by
  unfold execOp; rw [ho]; simp [hx, hy, go_sem]; rw [Int.min_def]; split <;> split <;> omega
theorem min_sgn {z : Int} (h : ¬ z < 0) : (if (((digs z.natAbs).length : Nat) : Int) < 1 then (((digs z.natAbs).length : Nat) : Int) else 1) = sgn z := by
  by_cases e : z = 0
  · subst e; rw [Int.natAbs_zero, digs_zero]; rfl
  · have := len_pos e
    rw [if_neg (by omega)]; exact (cmpI_gt (by omega)).symm
theorem Oper.wp_callBez {P : Program} {o : Oper} {a : Act} {w : World} {K : Act → World → Prop} {Q : Exit → Act → World → Prop} {f : Nat} {args : List Operand} {tys : Array TypeId} {vs : List Value} {l : List SF} {x y g : Int}
    (hg0 : ((Int.gcd x y : Nat) : Int) = g) (hf : Fn P f) (ho : o.op = .call { callee := .value (.func f), args := args.toArray, argTypes := tys }) (hc : Calls P f vs.toArray w (RetBez w x y)) (hv : args.map a.eval = vs) (E : Env w l)
    (h : ∀ w' n s m t p q' u v, BezIs x y g u v → Below w.heap.size w w' → Env w' (fI (.agg #[.bool p, q']) v :: fI (.agg #[.bool m, t]) u :: fI (.agg #[.bool n, s]) g :: l) → K (a.put o.dst (.tuple #[.agg #[.bool n, s], .agg #[.bool m, t], .agg #[.bool p, q']])) w') : o.wp P a w K Q := by
  refine Oper.wp_call hf ho hc hv ?_
  rintro e w' ⟨g', u, v, hbz, va, vb, vc, rfl, hz, hr, hc, hb⟩
  have hgg : g' = g := hbz.isg.trans hg0
  rw [hgg] at hbz hz
  obtain ⟨n, s, rfl, _⟩ := hz.sh
  obtain ⟨m, t, rfl, _⟩ := hr.sh
  obtain ⟨p, q', rfl, _⟩ := hc.sh
  exact ⟨_, rfl, h w' n s m t p q' u v hbz hb ⟨hc, hr, hz, E.below hb⟩⟩
theorem Gcd_is (va vb : Value) (x y : Int) (w : World) (ha : IsI w va x) (hb : IsI w vb y) (hx : Fits x 900000000) (hy : Fits y 900000000) {g : Int} (hg : ((Nat.gcd x.natAbs y.natAbs : Nat) : Int) = g) :
    Calls Try.prog 38 #[va, vb] w (RetZ w g) := hg ▸ Gcd_z va vb x y w ha hb hx hy
theorem gcd_sw {x y g : Int} (hg : ((Nat.gcd x.natAbs y.natAbs : Nat) : Int) = g) : ((Nat.gcd y.natAbs (-x).natAbs : Nat) : Int) = g := by rw [Int.natAbs_neg, Nat.gcd_comm]; exact hg
theorem gcd_nn {x y g : Int} (hg : ((Nat.gcd x.natAbs y.natAbs : Nat) : Int) = g) : ¬ g < 0 := by omega
theorem gcd_l {x y g : Int} (hg : ((Nat.gcd x.natAbs y.natAbs : Nat) : Int) = g) : g ∣ x := by subst hg; exact Int.ofNat_dvd_left.2 (Nat.gcd_dvd_left _ _)
theorem gcd_r {x y g : Int} (hg : ((Nat.gcd x.natAbs y.natAbs : Nat) : Int) = g) : g ∣ y := by subst hg; exact Int.ofNat_dvd_left.2 (Nat.gcd_dvd_right _ _)
theorem gcd_c {a b c g : Int} (hg : ((Nat.gcd (a * c).natAbs (b * c).natAbs : Nat) : Int) = g) : c ∣ g := by
  subst hg
  refine Int.ofNat_dvd_right.2 (Nat.dvd_gcd ?_ ?_) <;> rw [Int.natAbs_mul] <;> exact Nat.dvd_mul_left _ _
theorem gcd_nz {x y g : Int} (hg : ((Nat.gcd x.natAbs y.natAbs : Nat) : Int) = g) (hy : y ≠ 0) : g ≠ 0 := by
  intro e; have := gcd_r hg; rw [e] at this; exact hy (Int.zero_dvd.1 this)
theorem gcd_fits {x y g : Int} {n : Nat} (hg : ((Nat.gcd x.natAbs y.natAbs : Nat) : Int) = g) (hx : Fits x n) (hy : Fits y n) : Fits g n := by
  subst hg
  rcases Nat.eq_zero_or_pos y.natAbs with e | e
  · refine Fits_le ?_ hx; rw [e, Nat.gcd_zero_right, Int.natAbs_natCast]; exact Nat.le_refl _
  · exact Fits_le (by rw [Int.natAbs_natCast]; exact Nat.gcd_le_right _ e) hy
theorem bez_u {x y g u v : Int} (h : BezIs x y g u v) (hy : y = 0) : u = sgn x := by rw [(h.zero hy).1]; unfold sgn cmpI; rfl
theorem bez_lt {x y g u v : Int} (h : BezIs x y g u v) (hy : y ≠ 0) : decide (cmpI u ((y.natAbs : Int) / g) < 0) = true := by rw [cmpI_lt (h.low hy).2]; rfl
theorem bez_ub {x y g u v : Int} (h : BezIs x y g u v) (hy : y ≠ 0) : u.natAbs ≤ y.natAbs := by
  have ⟨h1, h2⟩ := h.low hy
  have h3 : (y.natAbs : Int) / g ≤ y.natAbs := by rw [h.isg, ← Int.natCast_ediv]; exact Int.ofNat_le.2 (Nat.div_le_self _ _)
  omega
theorem bez_fu {x y g u v : Int} {n : Nat} (h : BezIs x y g u v) (hf : Fits y n) : Fits u (n + 1) := by
  refine Fits_of3 ?_ hf
  by_cases hy : y = 0
  · rw [(h.zero hy).1]; split
    · simp
    · split <;> simp
  · have := bez_ub h hy; omega
theorem bez_fv {x y g u v : Int} {n : Nat} (h : BezIs x y g u v) (hx : Fits x n) (_hf : Fits y n) : Fits v (n + 2) := by
  refine (Fits_of3 (y := x) ?_ hx).mono (by omega)
  by_cases hy : y = 0
  · rw [(h.zero hy).2]; simp
  · have h1 := h.sum
    have hgy : g.natAbs ≤ y.natAbs := by rw [h.isg, Int.natAbs_natCast]; exact Nat.le_of_dvd (by omega) (by rw [Int.gcd]; exact Nat.gcd_dvd_right _ _)
    have h2 : v * y = g - u * x := by omega
    have h3 : v.natAbs * y.natAbs ≤ y.natAbs + y.natAbs * x.natAbs := by
      rw [← Int.natAbs_mul, h2]
      have h4 : (u * x).natAbs ≤ y.natAbs * x.natAbs := by rw [Int.natAbs_mul]; exact Nat.mul_le_mul_right _ (bez_ub h hy)
      omega
    have h5 : y.natAbs * v.natAbs ≤ y.natAbs * (1 + x.natAbs) := by rw [Nat.mul_comm, Nat.mul_add, Nat.mul_one]; exact h3
    have := Nat.le_of_mul_le_mul_left h5 (by omega)
    omega
set_option maxRecDepth 100000 in
set_option maxHeartbeats 4000000 in
theorem RSign_z  (va : Value) (z : Int) (w : World) (hva : IsI w va z)  :
    Calls Try.prog 49 #[va] w (RetN w (sgn z)) := by
 have E := Env.start w
 obtain ⟨nva, sva, rfl, _, _⟩ := hva.sh
 replace E := E.i hva
 clear hva
 go_enter Try.func49, Try.ntmps49
 refine wp_seq ?_
 -- region 0
 refine wp_region_lit ?_
 refine L1 rfl (Oper.wp_box rfl rfl ?_)
 intro b1 w1 e1 z1 d1 x1
 have l1 : w.heap.size ≤ b1 := by rw [e1]; exact (E.2.1).size
 replace E := E.below d1
 clear e1 z1 d1
 replace E := E.b x1
 clear x1
 simp only [Act.put,q1,q2,q3]
 refine LV (v := .int .i64 0) rfl (run_assign rfl rfl) ?_
 simp only [Act.put,q1,q2,q3]
 refine wpList_nil ?_
 change Code.wp _ _ _ _ _
 refine wp_seq ?_
 refine wp_seq ?_
 by_cases hz : z < 0
 case pos =>
  obtain rfl : nva = true := (IsI.sign (E.2.1)).trans (decide_eq_true hz)
  -- region 1
  refine wp_region_lit ?_
  refine LV (v := .pointer (some ⟨b1, 0, none⟩)) rfl (run_fieldI0 rfl rfl) ?_
  simp only [Act.put,q1,q2,q3]
  refine LV (v := .bool true) rfl (run_cell rfl isAgg_bool rfl (E.1) rfl) ?_
  simp only [Act.put,q1,q2,q3]
  refine wpList_nil ?_
  change Code.wp _ _ _ _ _
  refine wp_cond_true rfl ?_
  refine wp_seq ?_
  -- region 2
  refine wp_region_lit ?_
  refine LV (v := .int .i64 (-1)) rfl (run_assign rfl rfl) ?_
  simp only [Act.put,q1,q2,q3]
  refine wpList_nil ?_
  change Code.wp _ _ _ _ _
  refine wp_ret ?_
  exact bodyPost_ret (v := .int .i64 (-1)) (by simp [results, Try.results49, asAddr]) rfl ⟨congrArg (fun z => Ending.returned (.int .i64 z)) ((cmpI_lt hz).symm), E.2.2.1⟩
 case neg =>
  obtain rfl : nva = false := (IsI.sign (E.2.1)).trans (decide_eq_false hz)
  -- region 1
  refine wp_region_lit ?_
  refine LV (v := .pointer (some ⟨b1, 0, none⟩)) rfl (run_fieldI0 rfl rfl) ?_
  simp only [Act.put,q1,q2,q3]
  refine LV (v := .bool false) rfl (run_cell rfl isAgg_bool rfl (E.1) rfl) ?_
  simp only [Act.put,q1,q2,q3]
  refine wpList_nil ?_
  change Code.wp _ _ _ _ _
  refine wp_cond_false rfl ?_
  refine wp_skip ?_
  change Code.wp _ _ _ _ _
  refine wp_seq ?_
  -- region 3
  refine wp_region_lit ?_
  refine LV (v := .pointer (some ⟨b1, 1, none⟩)) rfl (run_fieldI1 rfl rfl) ?_
  simp only [Act.put,q1,q2,q3]
  refine LV (v := sva) rfl (run_cell rfl isAgg_words rfl (E.1) rfl) ?_
  simp only [Act.put,q1,q2,q3]
  obtain ⟨ao2, cap2, hs2⟩ := IsI.slice (E.2.1)
  refine LV (v := .int .i64 (((digs z.natAbs).length : Nat) : Int)) rfl (run_len rfl hs2) ?_
  simp only [Act.put,q1,q2,q3]
  refine LV (v := .int .i64 (if (((digs z.natAbs).length : Nat) : Int) < 1 then (((digs z.natAbs).length : Nat) : Int) else 1)) rfl (run_minI rfl rfl rfl) ?_
  simp only [Act.put,q1,q2,q3]
  refine LV (v := .int .i64 (if (((digs z.natAbs).length : Nat) : Int) < 1 then (((digs z.natAbs).length : Nat) : Int) else 1)) rfl (run_assign rfl rfl) ?_
  simp only [Act.put,q1,q2,q3]
  refine wpList_nil ?_
  change Code.wp _ _ _ _ _
  refine wp_ret ?_
  exact bodyPost_ret (v := .int .i64 (if (((digs z.natAbs).length : Nat) : Int) < 1 then (((digs z.natAbs).length : Nat) : Int) else 1)) (by simp [results, Try.results49, asAddr]) rfl ⟨congrArg (fun z => Ending.returned (.int .i64 z)) (min_sgn hz), E.2.2.1⟩
set_option maxRecDepth 100000 in
set_option maxHeartbeats 4000000 in
theorem Divides_t  (vy : Value) (y : Int) (vx : Value) (x : Int) (w : World) (hvy : IsI w vy y) (hvx : IsI w vx x) (hfy : Fits y 900000000) (hfx : Fits x 900000000) (hdv : y ∣ x) :
    Calls Try.prog 48 #[vy, vx] w (RetB w true) := by
 have E := Env.start w
 obtain ⟨nvy, svy, rfl, _, _⟩ := hvy.sh
 replace E := E.i hvy
 clear hvy
 obtain ⟨nvx, svx, rfl, _, _⟩ := hvx.sh
 replace E := E.i hvx
 clear hvx
 go_enter Try.func48, Try.ntmps48
 refine wp_seq ?_
 -- region 0
 refine wp_region_lit ?_
 refine L1 rfl (Oper.wp_box rfl rfl ?_)
 intro b1 w1 e1 z1 d1 x1
 have l1 : w.heap.size ≤ b1 := by rw [e1]; exact (E.2.2.1).size
 replace E := E.below d1
 clear e1 z1 d1
 replace E := E.b x1
 clear x1
 simp only [Act.put,q1,q2,q3]
 refine L1 rfl (Oper.wp_box rfl rfl ?_)
 intro b2 w2 e2 z2 d2 x2
 have l2_0 : b1 < b2 := by rw [e2]; exact Bx.lt (E.1)
 replace E := E.below d2
 clear e2 z2 d2
 replace E := E.b x2
 clear x2
 simp only [Act.put,q1,q2,q3]
 refine LV (v := .bool false) rfl (run_assign rfl rfl) ?_
 simp only [Act.put,q1,q2,q3]
 refine wpList_nil ?_
 change Code.wp _ _ _ _ _
 refine wp_seq ?_
 by_cases hy0 : y = 0
 case pos =>
  have hx0 : x = 0 := by rw [hy0] at hdv; exact Int.zero_dvd.1 hdv
  -- region 1
  refine wp_region_lit ?_
  refine LV (v := .agg #[.bool nvx, svx]) rfl (run_load_bx AgI rfl rfl (E.1) rfl) ?_
  simp only [Act.put,q1,q2,q3]
  refine LV (v := .agg #[.bool nvy, svy]) rfl (run_load_bx AgI rfl rfl (E.2.1) rfl) ?_
  simp only [Act.put,q1,q2,q3]
  refine L1 rfl (Oper.wp_callIIE fn_integer_DivMod rfl (DivMod_zero _ _ x _ (E.2.2.1) (eqI hy0 (E.2.2.2.1))) rfl E ?_)
  clear E
  intro w3 n3 s3 m3 t3 d3 E
  clear d3
  simp only [Act.put,q1,q2,q3]
  refine LV (v := .tuple #[.agg #[.bool n3, s3], .agg #[.bool m3, t3], .int .i64 10]) rfl (run_move rfl rfl) ?_
  simp only [Act.put,q1,q2,q3]
  refine LV (v := .agg #[.bool n3, s3]) rfl (run_extract (vs := [.agg #[.bool n3, s3], .agg #[.bool m3, t3], .int .i64 10]) rfl rfl rfl) ?_
  simp only [Act.put,q1,q2,q3]
  refine LV (v := .agg #[.bool m3, t3]) rfl (run_extract (vs := [.agg #[.bool n3, s3], .agg #[.bool m3, t3], .int .i64 10]) rfl rfl rfl) ?_
  simp only [Act.put,q1,q2,q3]
  refine LV (v := .int .i64 10) rfl (run_extract (vs := [.agg #[.bool n3, s3], .agg #[.bool m3, t3], .int .i64 10]) rfl rfl rfl) ?_
  simp only [Act.put,q1,q2,q3]
  refine L1 rfl (Oper.wp_alloc AgI rfl ?_)
  intro b4 w4 e4 z4 d4 x4
  have l4_0 : b2 < b4 := by rw [e4]; exact Bx.lt (E.2.2.1)
  replace E := E.below d4
  clear e4 z4 d4
  simp only [Act.put,q1,q2,q3]
  refine L1 rfl (Oper.wp_alloc AgI rfl ?_)
  intro b5 w5 e5 z5 d5 x5
  have l5_0 : b4 < b5 := by rw [e5]; exact Bx.lt (x4)
  replace E := E.below d5
  replace x4 := Bx.below x4 d5
  clear e5 z5 d5
  simp only [Act.put,q1,q2,q3]
  refine L1 rfl (Oper.wp_store AgI rfl rfl rfl x4 rfl rfl (IsI.one (E.2.1)) ?_)
  intro w6 o6 y6
  replace E := (E.onl (x4.noW now0) ⟨trivial, trivial, okB (by omega), okB (by omega), trivial, trivial, okW (by omega), trivial⟩ o6).b y6
  replace x5 := Bx.onl x5 (by omega) o6
  clear x4 o6 y6
  simp only [Act.put]
  refine L1 rfl (Oper.wp_store AgI rfl rfl rfl x5 rfl rfl (IsI.one (E.2.1)) ?_)
  intro w7 o7 y7
  replace E := (E.onl (x5.noW now0) ⟨okB (by omega), trivial, trivial, okB (by omega), okB (by omega), trivial, trivial, okW (by omega), trivial⟩ o7).b y7
  clear x5 o7 y7
  simp only [Act.put]
  refine LV (v := .int .i64 10) rfl (run_assign rfl rfl) ?_
  simp only [Act.put,q1,q2,q3]
  refine wpList_nil ?_
  change Code.wp _ _ _ _ _
  refine wp_seq ?_
  -- region 2
  refine wp_region_lit ?_
  refine LV (v := .pointer (some ⟨b2, 1, none⟩)) rfl (run_fieldI1 rfl rfl) ?_
  simp only [Act.put,q1,q2,q3]
  refine LV (v := svx) rfl (run_cell rfl isAgg_words rfl (E.2.2.2.2.1) rfl) ?_
  simp only [Act.put,q1,q2,q3]
  obtain ⟨ao8, cap8, hs8⟩ := IsI.slice (E.2.2.2.2.2.2.1)
  refine LV (v := .int .i64 (((digs x.natAbs).length : Nat) : Int)) rfl (run_len rfl hs8) ?_
  simp only [Act.put,q1,q2,q3]
  refine LV (v := .bool true) rfl (run_eqI (c := true) rfl rfl rfl (len_eq0 hx0)) ?_
  simp only [Act.put,q1,q2,q3]
  refine LV (v := .bool true) rfl (run_move rfl rfl) ?_
  simp only [Act.put,q1,q2,q3]
  have hzz := 1
  clear hzz
  refine L0 ?_ ?_
  · rfl
  simp only [Act.put,q1,q2,q3]
  have hzz := 1
  clear hzz
  refine L0 ?_ ?_
  · rfl
  simp only [Act.put,q1,q2,q3]
  have hzz := 1
  clear hzz
  refine L0 ?_ ?_
  · rfl
  simp only [Act.put,q1,q2,q3]
  have hzz := 1
  clear hzz
  refine L0 ?_ ?_
  · kernel_rfl
  simp only [Act.put,q1,q2,q3]
  have hzz := 1
  clear hzz
  refine L0 ?_ ?_
  · kernel_rfl
  simp only [Act.put,q1,q2,q3]
  have hzz := 1
  clear hzz
  refine L0 ?_ ?_
  · kernel_rfl
  simp only [Act.put,q1,q2,q3]
  have hzz := 1
  clear hzz
  refine L0 ?_ ?_
  · kernel_rfl
  simp only [Act.put,q1,q2,q3]
  have hzz := 1
  clear hzz
  refine L0 ?_ ?_
  · rfl
  simp only [Act.put,q1,q2,q3]
  refine LV (v := .bool true) rfl (run_pick (b := true) rfl rfl rfl) ?_
  simp only [Act.put,q1,q2,q3]
  refine LV (v := .bool true) rfl (run_assign rfl rfl) ?_
  simp only [Act.put,q1,q2,q3]
  refine wpList_nil ?_
  change Code.wp _ _ _ _ _
  refine wp_ret ?_
  exact bodyPost_ret (v := .bool true) (by simp [results, Try.results48, asAddr]) rfl ⟨rfl, E.2.2.2.2.2.2.2.2.1⟩
 case neg =>
  by_cases hx0 : x = 0
  case pos =>
   -- region 1
   refine wp_region_lit ?_
   refine LV (v := .agg #[.bool nvx, svx]) rfl (run_load_bx AgI rfl rfl (E.1) rfl) ?_
   simp only [Act.put,q1,q2,q3]
   refine LV (v := .agg #[.bool nvy, svy]) rfl (run_load_bx AgI rfl rfl (E.2.1) rfl) ?_
   simp only [Act.put,q1,q2,q3]
   refine L1 rfl (Oper.wp_callIIE fn_integer_DivMod rfl (DivMod_z _ _ x y _ (E.2.2.1) (E.2.2.2.1) (hy0) (Fits.mono hfx (by decide)) (Fits.mono hfy (by decide))) rfl E ?_)
   clear E
   intro w11 n11 s11 m11 t11 d11 E
   clear d11
   simp only [Act.put,q1,q2,q3]
   have F9 : Fits (x / y) 900000000 := Fits_div (y := y) hfx
   have F10 : Fits (x % y) 900000000 := Fits_emod (x := x) hy0 hfy
   refine LV (v := .tuple #[.agg #[.bool n11, s11], .agg #[.bool m11, t11], .int .i64 0]) rfl (run_move rfl rfl) ?_
   simp only [Act.put,q1,q2,q3]
   refine LV (v := .agg #[.bool n11, s11]) rfl (run_extract (vs := [.agg #[.bool n11, s11], .agg #[.bool m11, t11], .int .i64 0]) rfl rfl rfl) ?_
   simp only [Act.put,q1,q2,q3]
   refine LV (v := .agg #[.bool m11, t11]) rfl (run_extract (vs := [.agg #[.bool n11, s11], .agg #[.bool m11, t11], .int .i64 0]) rfl rfl rfl) ?_
   simp only [Act.put,q1,q2,q3]
   refine LV (v := .int .i64 0) rfl (run_extract (vs := [.agg #[.bool n11, s11], .agg #[.bool m11, t11], .int .i64 0]) rfl rfl rfl) ?_
   simp only [Act.put,q1,q2,q3]
   refine L1 rfl (Oper.wp_alloc AgI rfl ?_)
   intro b12 w12 e12 z12 d12 x12
   have l12_0 : b2 < b12 := by rw [e12]; exact Bx.lt (E.2.2.1)
   replace E := E.below d12
   clear e12 z12 d12
   simp only [Act.put,q1,q2,q3]
   refine L1 rfl (Oper.wp_alloc AgI rfl ?_)
   intro b13 w13 e13 z13 d13 x13
   have l13_0 : b12 < b13 := by rw [e13]; exact Bx.lt (x12)
   replace E := E.below d13
   replace x12 := Bx.below x12 d13
   clear e13 z13 d13
   simp only [Act.put,q1,q2,q3]
   refine L1 rfl (Oper.wp_store AgI rfl rfl rfl x12 rfl rfl (IsI.one (E.2.1)) ?_)
   intro w14 o14 y14
   replace E := (E.onl (x12.noW now0) ⟨trivial, trivial, okB (by omega), okB (by omega), trivial, trivial, okW (by omega), trivial⟩ o14).b y14
   replace x13 := Bx.onl x13 (by omega) o14
   clear x12 o14 y14
   simp only [Act.put]
   refine L1 rfl (Oper.wp_store AgI rfl rfl rfl x13 rfl rfl (IsI.one (E.2.1)) ?_)
   intro w15 o15 y15
   replace E := (E.onl (x13.noW now0) ⟨okB (by omega), trivial, trivial, okB (by omega), okB (by omega), trivial, trivial, okW (by omega), trivial⟩ o15).b y15
   clear x13 o15 y15
   simp only [Act.put]
   refine LV (v := .int .i64 0) rfl (run_assign rfl rfl) ?_
   simp only [Act.put,q1,q2,q3]
   refine wpList_nil ?_
   change Code.wp _ _ _ _ _
   refine wp_seq ?_
   -- region 2
   refine wp_region_lit ?_
   refine LV (v := .pointer (some ⟨b2, 1, none⟩)) rfl (run_fieldI1 rfl rfl) ?_
   simp only [Act.put,q1,q2,q3]
   refine LV (v := svx) rfl (run_cell rfl isAgg_words rfl (E.2.2.2.2.1) rfl) ?_
   simp only [Act.put,q1,q2,q3]
   obtain ⟨ao16, cap16, hs16⟩ := IsI.slice (E.2.2.2.2.2.2.1)
   refine LV (v := .int .i64 (((digs x.natAbs).length : Nat) : Int)) rfl (run_len rfl hs16) ?_
   simp only [Act.put,q1,q2,q3]
   refine LV (v := .bool true) rfl (run_eqI (c := true) rfl rfl rfl (len_eq0 hx0)) ?_
   simp only [Act.put,q1,q2,q3]
   refine LV (v := .bool true) rfl (run_move rfl rfl) ?_
   simp only [Act.put,q1,q2,q3]
   have hzz := 1
   clear hzz
   refine L0 ?_ ?_
   · rfl
   simp only [Act.put,q1,q2,q3]
   have hzz := 1
   clear hzz
   refine L0 ?_ ?_
   · rfl
   simp only [Act.put,q1,q2,q3]
   have hzz := 1
   clear hzz
   refine L0 ?_ ?_
   · rfl
   simp only [Act.put,q1,q2,q3]
   have hzz := 1
   clear hzz
   refine L0 ?_ ?_
   · kernel_rfl
   simp only [Act.put,q1,q2,q3]
   have hzz := 1
   clear hzz
   refine L0 ?_ ?_
   · kernel_rfl
   simp only [Act.put,q1,q2,q3]
   have hzz := 1
   clear hzz
   refine L0 ?_ ?_
   · kernel_rfl
   simp only [Act.put,q1,q2,q3]
   have hzz := 1
   clear hzz
   refine L0 ?_ ?_
   · kernel_rfl
   simp only [Act.put,q1,q2,q3]
   have hzz := 1
   clear hzz
   refine L0 ?_ ?_
   · rfl
   simp only [Act.put,q1,q2,q3]
   refine LV (v := .bool true) rfl (run_pick (b := true) rfl rfl rfl) ?_
   simp only [Act.put,q1,q2,q3]
   refine LV (v := .bool true) rfl (run_assign rfl rfl) ?_
   simp only [Act.put,q1,q2,q3]
   refine wpList_nil ?_
   change Code.wp _ _ _ _ _
   refine wp_ret ?_
   exact bodyPost_ret (v := .bool true) (by simp [results, Try.results48, asAddr]) rfl ⟨rfl, E.2.2.2.2.2.2.2.2.1⟩
  case neg =>
   -- region 1
   refine wp_region_lit ?_
   refine LV (v := .agg #[.bool nvx, svx]) rfl (run_load_bx AgI rfl rfl (E.1) rfl) ?_
   simp only [Act.put,q1,q2,q3]
   refine LV (v := .agg #[.bool nvy, svy]) rfl (run_load_bx AgI rfl rfl (E.2.1) rfl) ?_
   simp only [Act.put,q1,q2,q3]
   refine L1 rfl (Oper.wp_callIIE fn_integer_DivMod rfl (DivMod_z _ _ x y _ (E.2.2.1) (E.2.2.2.1) (hy0) (Fits.mono hfx (by decide)) (Fits.mono hfy (by decide))) rfl E ?_)
   clear E
   intro w19 n19 s19 m19 t19 d19 E
   clear d19
   simp only [Act.put,q1,q2,q3]
   have F17 : Fits (x / y) 900000000 := Fits_div (y := y) hfx
   have F18 : Fits (x % y) 900000000 := Fits_emod (x := x) hy0 hfy
   refine LV (v := .tuple #[.agg #[.bool n19, s19], .agg #[.bool m19, t19], .int .i64 0]) rfl (run_move rfl rfl) ?_
   simp only [Act.put,q1,q2,q3]
   refine LV (v := .agg #[.bool n19, s19]) rfl (run_extract (vs := [.agg #[.bool n19, s19], .agg #[.bool m19, t19], .int .i64 0]) rfl rfl rfl) ?_
   simp only [Act.put,q1,q2,q3]
   refine LV (v := .agg #[.bool m19, t19]) rfl (run_extract (vs := [.agg #[.bool n19, s19], .agg #[.bool m19, t19], .int .i64 0]) rfl rfl rfl) ?_
   simp only [Act.put,q1,q2,q3]
   refine LV (v := .int .i64 0) rfl (run_extract (vs := [.agg #[.bool n19, s19], .agg #[.bool m19, t19], .int .i64 0]) rfl rfl rfl) ?_
   simp only [Act.put,q1,q2,q3]
   refine L1 rfl (Oper.wp_alloc AgI rfl ?_)
   intro b20 w20 e20 z20 d20 x20
   have l20_0 : b2 < b20 := by rw [e20]; exact Bx.lt (E.2.2.1)
   replace E := E.below d20
   clear e20 z20 d20
   simp only [Act.put,q1,q2,q3]
   refine L1 rfl (Oper.wp_alloc AgI rfl ?_)
   intro b21 w21 e21 z21 d21 x21
   have l21_0 : b20 < b21 := by rw [e21]; exact Bx.lt (x20)
   replace E := E.below d21
   replace x20 := Bx.below x20 d21
   clear e21 z21 d21
   simp only [Act.put,q1,q2,q3]
   refine L1 rfl (Oper.wp_store AgI rfl rfl rfl x20 rfl rfl (IsI.one (E.2.1)) ?_)
   intro w22 o22 y22
   replace E := (E.onl (x20.noW now0) ⟨trivial, trivial, okB (by omega), okB (by omega), trivial, trivial, okW (by omega), trivial⟩ o22).b y22
   replace x21 := Bx.onl x21 (by omega) o22
   clear x20 o22 y22
   simp only [Act.put]
   refine L1 rfl (Oper.wp_store AgI rfl rfl rfl x21 rfl rfl (IsI.one (E.2.1)) ?_)
   intro w23 o23 y23
   replace E := (E.onl (x21.noW now0) ⟨okB (by omega), trivial, trivial, okB (by omega), okB (by omega), trivial, trivial, okW (by omega), trivial⟩ o23).b y23
   clear x21 o23 y23
   simp only [Act.put]
   refine LV (v := .int .i64 0) rfl (run_assign rfl rfl) ?_
   simp only [Act.put,q1,q2,q3]
   refine wpList_nil ?_
   change Code.wp _ _ _ _ _
   refine wp_seq ?_
   -- region 2
   refine wp_region_lit ?_
   refine LV (v := .pointer (some ⟨b2, 1, none⟩)) rfl (run_fieldI1 rfl rfl) ?_
   simp only [Act.put,q1,q2,q3]
   refine LV (v := svx) rfl (run_cell rfl isAgg_words rfl (E.2.2.2.2.1) rfl) ?_
   simp only [Act.put,q1,q2,q3]
   obtain ⟨ao24, cap24, hs24⟩ := IsI.slice (E.2.2.2.2.2.2.1)
   refine LV (v := .int .i64 (((digs x.natAbs).length : Nat) : Int)) rfl (run_len rfl hs24) ?_
   simp only [Act.put,q1,q2,q3]
   refine LV (v := .bool false) rfl (run_eqI (c := false) rfl rfl rfl (len_ne0 hx0)) ?_
   simp only [Act.put,q1,q2,q3]
   refine LV (v := .bool false) rfl (run_move rfl rfl) ?_
   simp only [Act.put,q1,q2,q3]
   refine LV (v := .int .i64 0) rfl (run_move rfl rfl) ?_
   simp only [Act.put,q1,q2,q3]
   refine LV (v := .bool true) rfl (run_eqI (c := true) rfl rfl rfl (by decide)) ?_
   simp only [Act.put,q1,q2,q3]
   refine LV (v := .bool true) rfl (run_move rfl rfl) ?_
   simp only [Act.put,q1,q2,q3]
   refine LV (v := .pointer (some ⟨b21, 1, none⟩)) rfl (run_fieldI1 rfl rfl) ?_
   simp only [Act.put,q1,q2,q3]
   refine LV (v := t19) rfl (run_cell rfl isAgg_words rfl (E.1) rfl) ?_
   simp only [Act.put,q1,q2,q3]
   obtain ⟨ao25, cap25, hs25⟩ := IsI.slice (E.2.2.1)
   refine LV (v := .int .i64 (((digs (x % y).natAbs).length : Nat) : Int)) rfl (run_len rfl hs25) ?_
   simp only [Act.put,q1,q2,q3]
   refine LV (v := .bool true) rfl (run_eqI (c := true) rfl rfl rfl (len_eq0 (Int.emod_eq_zero_of_dvd hdv))) ?_
   simp only [Act.put,q1,q2,q3]
   refine LV (v := .bool true) rfl (run_pick (b := true) rfl rfl rfl) ?_
   simp only [Act.put,q1,q2,q3]
   refine LV (v := .bool true) rfl (run_pick (b := false) rfl rfl rfl) ?_
   simp only [Act.put,q1,q2,q3]
   refine LV (v := .bool true) rfl (run_assign rfl rfl) ?_
   simp only [Act.put,q1,q2,q3]
   refine wpList_nil ?_
   change Code.wp _ _ _ _ _
   refine wp_ret ?_
   exact bodyPost_ret (v := .bool true) (by simp [results, Try.results48, asAddr]) rfl ⟨rfl, E.2.2.2.2.2.2.2.2.1⟩
end Go.Proofs.Ytjgmfdenicbniaa
