/- The helpers of the laws on rationals, and their examples. (Printed by g_law02.py.) -/
import Derived.Test.YtndpjfhhigpbhaaGreatSameQ
import Derived.Test.YtndpjfhhigpbhaaGreatRat3
import Derived.Test.YtndpjfhhigpbhaaGreatRat2
namespace Go.Proofs.YtndpjfhhigpbhaaGreat
open Go.RowKit W
theorem Made_is (a b : Int) (k : Nat) (x : Rat) (w : World) (hx : madeQ a b k = x) (ha1 : -128 ≤ a) (ha2 : a ≤ 127) (hb1 : -128 ≤ b) (hb2 : b ≤ 127) (hk : k < 256) :
    Calls Tryz.prog 5 #[.agg #[.int .i8 a, .int .i8 b, .int .u8 ((k : Nat) : Int)]] w (RetP w x.num ((x.den : Nat) : Int)) := by
  subst hx; exact Made_q a b k w ha1 ha2 hb1 hb2 hk
theorem run_loadW {ρ : Operand → Value} {o : Oper} {w : World} {x : Operand} {b i T : Nat} {cs : List Value} {v0 v1 v2 : Value} (ho : o.op = .load 24 x) (hx : ρ x = .pointer (some ⟨b, i, none⟩)) (hb : Bx w b T cs) (h0 : cs[i]? = some v0) (h1 : cs[i + 1]? = some v1) (h2 : cs[i + 1 + 1]? = some v2) :
    (execOp ρ o).run Tryz.prog w = .ok (.value (.agg #[v0, v1, v2])) w := by
  unfold execOp; rw [ho]
  have c0 := (hb.cell i).trans h0
  have c1 := (hb.cell (i + 1)).trans h1
  have c2 := (hb.cell (i + 2)).trans h2
  simp [hx, Instr.loadAt, Instr.sureAddr, loadVar, loadCells, loadCellsFrom, go_sem, c0, c1, c2]
theorem AgW : Ag Tryz.prog 24 3 [.int .i8 0, .int .i8 0, .int .u8 0] := ⟨⟨_, Tryz.underlying24, rfl⟩, by kernel_rfl, rfl⟩
theorem Same_t (na : Bool) (sa : Value) (ma : Bool) (ta : Value) (p q : Int) (nb : Bool) (sb : Value) (mb : Bool) (tb : Value) (p' q' : Int) (w : World) (h1 : IsI w (.agg #[.bool na, sa]) p) (h2 : IsI w (.agg #[.bool ma, ta]) q) (h3 : IsI w (.agg #[.bool nb, sb]) p') (h4 : IsI w (.agg #[.bool mb, tb]) q') (hp : p = p') (hq : q = q') :
    Calls Tryz.prog 6 #[.agg #[.bool na, sa, .bool ma, ta], .agg #[.bool nb, sb, .bool mb, tb]] w (RetB w true) :=
  retB_is (decide_eq_true ⟨hp, hq⟩) (Same_q na sa ma ta p q nb sb mb tb p' q' w h1 h2 h3 h4)
theorem Same_rq (na : Bool) (sa : Value) (ma : Bool) (ta : Value) (x : Rat) (nb : Bool) (sb : Value) (mb : Bool) (tb : Value) (y : Rat) (w : World) (h1 : IsI w (.agg #[.bool na, sa]) x.num) (h2 : IsI w (.agg #[.bool ma, ta]) ((x.den : Nat) : Int)) (h3 : IsI w (.agg #[.bool nb, sb]) y.num) (h4 : IsI w (.agg #[.bool mb, tb]) ((y.den : Nat) : Int)) :
    Calls Tryz.prog 6 #[.agg #[.bool na, sa, .bool ma, ta], .agg #[.bool nb, sb, .bool mb, tb]] w (RetB w (decide (x = y))) :=
  retB_is (decide_eq_decide.2 ⟨fun h => Rat.ext h.1 (Int.ofNat_inj.1 h.2), fun h => by subst h; exact ⟨rfl, rfl⟩⟩) (Same_q na sa ma ta _ _ nb sb mb tb _ _ w h1 h2 h3 h4)
theorem run_fieldIo0 {ρ : Operand → Value} {o : Oper} {w : World} {x : Operand} {b i : Nat} (ho : o.op = .fieldAddr 29 x 0) (hx : ρ x = .pointer (some ⟨b, i, none⟩)) : (execOp ρ o).run Tryz.prog w = .ok (.value (.pointer (some ⟨b, i, none⟩))) w := by
  unfold execOp; rw [ho]
  simp [hx, go_sem]
theorem run_fieldIo1 {ρ : Operand → Value} {o : Oper} {w : World} {x : Operand} {b i j : Nat} (ho : o.op = .fieldAddr 29 x 1) (hx : ρ x = .pointer (some ⟨b, i, none⟩)) (hj : i + 1 = j := by rfl) : (execOp ρ o).run Tryz.prog w = .ok (.value (.pointer (some ⟨b, j, none⟩))) w := by
  subst hj
  unfold execOp; rw [ho]
  simp [hx, go_sem]
theorem ret_true {a : Bool} (h : a = true) : Ending.returned (.bool a) = .returned (.bool true) := by rw [h]
set_option maxRecDepth 100000 in
set_option maxHeartbeats 8000000 in
theorem is_t  (na : Bool) (sa : Value) (ma : Bool) (ta : Value) (p q : Int) (nb : Bool) (sb : Value) (mb : Bool) (tb : Value) (p' q' : Int)  (w : World)  (hna : IsI w (.agg #[.bool na, sa]) p) (hda : IsI w (.agg #[.bool ma, ta]) q) (hnb : IsI w (.agg #[.bool nb, sb]) (p')) (hdb : IsI w (.agg #[.bool mb, tb]) (q')) (hp : p = p') (hq : q = q') :
    Calls Tryz.prog 39 #[.agg #[.bool na, sa, .bool ma, ta], .int .i64 0, .agg #[.bool nb, sb, .bool mb, tb]] w (RetB w true) := by
 have E := Env.start w
 replace E := (E.i hna).i hda
 clear hna hda
 replace E := (E.i hnb).i hdb
 clear hnb hdb
 go_enter Tryz.func39, Tryz.ntmps39
 refine wp_seq ?_
 -- region 0
 refine RL ?_
 refine EF rfl (Oper.wp_box (cs := [.bool na, sa, .bool ma, ta]) rfl rfl ?_)
 intro b1 w1 e1 z1 d1 x1
 have l1 : w.heap.size ≤ b1 := by rw [e1]; exact (e4 E).size
 replace E := E.below d1
 clear e1 z1 d1
 replace E := E.x x1
 clear x1
 refine kw rfl ?_
 simp only [q2,q3]
 refine EF rfl (Oper.wp_box (cs := [.bool nb, sb, .bool mb, tb]) rfl rfl ?_)
 intro b2 w2 e2 z2 d2 x2
 have l2_0 : b1 < b2 := by rw [e2]; exact Bx.lt (E.1)
 replace E := E.below d2
 clear e2 z2 d2
 replace E := E.x x2
 clear x2
 refine kw rfl ?_
 refine AC rfl rfl rfl rfl <| ?_
 simp only [q2,q3]
 refine WN ?_
 change Code.wp _ _ _ _ _
 refine wp_seq ?_
 -- region 1
 refine RL ?_
 refine M rfl rfl rfl rfl rfl <| V rfl rfl (run_eqI (c := true) rfl rfl rfl (by decide)) <| M rfl rfl rfl rfl rfl <| V (by kernel_rfl) rfl (run_load_bx AgR rfl rfl (E.2.1) rfl) <| ?_
 simp only [q2,q3]
 refine V (by kernel_rfl) rfl (run_load_bx AgR rfl rfl (E.1) rfl) <| ?_
 simp only [q2,q3]
 refine EF rfl (Oper.wp_callB fn_eref02_Same rfl (Same_t _ _ _ _ p q _ _ _ _ (p') (q') _ (e5 E) (e4 E) (e3 E) (E.2.2.1) hp hq) rfl E ?_)
 clear E
 intro w3 d3 E
 clear d3
 refine kw rfl ?_
 refine V (v := .bool true) rfl rfl (run_pick (b := true) rfl rfl rfl) <| A rfl rfl rfl rfl rfl <| ?_
 simp only [q2,q3]
 refine WN ?_
 change Code.wp _ _ _ _ _
 refine wp_ret ?_
 exact bodyPost_ret (v := .bool true) (by simp [results, Tryz.results39, asAddr]) rfl ⟨rfl, e6 E⟩
set_option maxRecDepth 100000 in
set_option maxHeartbeats 8000000 in
theorem alike_t (e : Int) (na : Bool) (sa : Value) (ma : Bool) (ta : Value) (p q : Int) (nb : Bool) (sb : Value) (mb : Bool) (tb : Value) (p' q' : Int)  (w : World)  (hna : IsI w (.agg #[.bool na, sa]) p) (hda : IsI w (.agg #[.bool ma, ta]) q) (hnb : IsI w (.agg #[.bool nb, sb]) (p')) (hdb : IsI w (.agg #[.bool mb, tb]) (q')) (hp : p = p') (hq : q = q') :
    Calls Tryz.prog 24 #[.agg #[.bool na, sa, .bool ma, ta], .int .i64 e, .agg #[.bool nb, sb, .bool mb, tb], .int .i64 e] w (RetB w true) := by
 have E := Env.start w
 replace E := (E.i hna).i hda
 clear hna hda
 replace E := (E.i hnb).i hdb
 clear hnb hdb
 go_enter Tryz.func24, Tryz.ntmps24
 refine wp_seq ?_
 -- region 0
 refine RL ?_
 refine EF rfl (Oper.wp_box (cs := [.bool na, sa, .bool ma, ta]) rfl rfl ?_)
 intro b1 w1 e1 z1 d1 x1
 have l1 : w.heap.size ≤ b1 := by rw [e1]; exact (e4 E).size
 replace E := E.below d1
 clear e1 z1 d1
 replace E := E.x x1
 clear x1
 refine kw rfl ?_
 simp only [q2,q3]
 refine EF rfl (Oper.wp_box (cs := [.bool nb, sb, .bool mb, tb]) rfl rfl ?_)
 intro b2 w2 e2 z2 d2 x2
 have l2_0 : b1 < b2 := by rw [e2]; exact Bx.lt (E.1)
 replace E := E.below d2
 clear e2 z2 d2
 replace E := E.x x2
 clear x2
 refine kw rfl ?_
 refine AC rfl rfl rfl rfl <| ?_
 simp only [q2,q3]
 refine WN ?_
 change Code.wp _ _ _ _ _
 refine wp_seq ?_
 -- region 1
 refine RL ?_
 refine M rfl rfl rfl rfl rfl <| M rfl rfl rfl rfl rfl <| V rfl rfl (run_eqI (c := true) rfl rfl rfl (beq_self_eq_true _)) <| M rfl rfl rfl rfl rfl <| ?_
 simp only [q2,q3]
 refine V (by kernel_rfl) rfl (run_load_bx AgR rfl rfl (E.2.1) rfl) <| V (by kernel_rfl) rfl (run_load_bx AgR rfl rfl (E.1) rfl) <| ?_
 simp only [q2,q3]
 refine EF rfl (Oper.wp_callB fn_eref02_Same rfl (Same_t _ _ _ _ p q _ _ _ _ (p') (q') _ (e5 E) (e4 E) (e3 E) (E.2.2.1) hp hq) rfl E ?_)
 clear E
 intro w3 d3 E
 clear d3
 refine kw rfl ?_
 refine V (v := .bool true) rfl rfl (run_pick (b := true) rfl rfl rfl) <| A rfl rfl rfl rfl rfl <| ?_
 simp only [q2,q3]
 refine WN ?_
 change Code.wp _ _ _ _ _
 refine wp_ret ?_
 exact bodyPost_ret (v := .bool true) (by simp [results, Tryz.results24, asAddr]) rfl ⟨rfl, e6 E⟩
set_option maxRecDepth 100000 in
set_option maxHeartbeats 8000000 in
theorem fails_t (e : Int) (na : Bool) (sa : Value) (ma : Bool) (ta : Value) (p q : Int)  (w : World)  (hna : IsI w (.agg #[.bool na, sa]) p) (hda : IsI w (.agg #[.bool ma, ta]) q) (hp : p = 0) (hq : q = 0) :
    Calls Tryz.prog 40 #[.agg #[.bool na, sa, .bool ma, ta], .int .i64 e, .int .i64 e] w (RetB w true) := by
 have E := Env.start w
 replace E := (E.i hna).i hda
 clear hna hda
 go_enter Tryz.func40, Tryz.ntmps40
 refine wp_seq ?_
 -- region 0
 refine RL ?_
 refine EF rfl (Oper.wp_box (cs := [.bool na, sa, .bool ma, ta]) rfl rfl ?_)
 intro b1 w1 e1 z1 d1 x1
 have l1 : w.heap.size ≤ b1 := by rw [e1]; exact (E.2.2.1).size
 replace E := E.below d1
 clear e1 z1 d1
 replace E := E.x x1
 clear x1
 refine kw rfl ?_
 refine AC rfl rfl rfl rfl <| ?_
 simp only [q2,q3]
 refine WN ?_
 change Code.wp _ _ _ _ _
 refine wp_seq ?_
 have sp := IsI.sign (E.2.2.1)
 have sq := IsI.sign (E.2.1)
 have nz : na = false := by rw [sp, hp]; rfl
 have mz : ma = false := by rw [sq, hq]; rfl
 -- region 1
 refine RL ?_
 refine M rfl rfl rfl rfl rfl <| M rfl rfl rfl rfl rfl <| V rfl rfl (run_eqI (c := true) rfl rfl rfl (beq_self_eq_true _)) <| M rfl rfl rfl rfl rfl <| ?_
 simp only [q2,q3]
 refine V (by kernel_rfl) rfl (run_fieldR0 rfl rfl) <| V (by kernel_rfl) rfl (run_fieldIo1 rfl rfl) <| V (by kernel_rfl) rfl (run_cell rfl isAgg_words rfl (E.1) rfl) <| ?_
 obtain ⟨ao3, cap3, hs3⟩ := IsI.slice (E.2.2.1)
 refine V (v := .int .i64 (((digs p.natAbs).length : Nat) : Int)) (by kernel_rfl) rfl (run_len rfl hs3) <| ?_
 simp only [q2,q3]
 refine V (by kernel_rfl) rfl (run_eqI (c := true) rfl rfl rfl (len_eq0 hp)) <| V (v := .bool true) rfl rfl (run_pick (b := true) rfl rfl rfl) <| M rfl rfl rfl rfl rfl <| V (by kernel_rfl) rfl (run_fieldR1 rfl rfl) <| ?_
 simp only [q2,q3]
 refine V (by kernel_rfl) rfl (run_fieldIo1 rfl rfl) <| V (by kernel_rfl) rfl (run_cell rfl isAgg_words rfl (E.1) rfl) <| ?_
 obtain ⟨ao5, cap5, hs5⟩ := IsI.slice (E.2.1)
 refine V (v := .int .i64 (((digs q.natAbs).length : Nat) : Int)) (by kernel_rfl) rfl (run_len rfl hs5) <| V (by kernel_rfl) rfl (run_eqI (c := true) rfl rfl rfl (len_eq0 hq)) <| ?_
 simp only [q2,q3]
 refine V (v := .bool true) rfl rfl (run_pick (b := true) rfl rfl rfl) <| M rfl rfl rfl rfl rfl <| V (by kernel_rfl) rfl (run_fieldR0 rfl rfl) <| V (by kernel_rfl) rfl (run_fieldIo0 rfl rfl) <| ?_
 simp only [q2,q3]
 refine V (by kernel_rfl) rfl (run_cell rfl isAgg_bool rfl (E.1) rfl) <| V (v := .bool true) (by kernel_rfl) rfl ((run_not (b := na) rfl rfl).trans (by rw [nz]; rfl)) <| V (v := .bool true) rfl rfl (run_pick (b := true) rfl rfl rfl) <| M rfl rfl rfl rfl rfl <| ?_
 simp only [q2,q3]
 refine V (by kernel_rfl) rfl (run_fieldR1 rfl rfl) <| V (by kernel_rfl) rfl (run_fieldIo0 rfl rfl) <| V (by kernel_rfl) rfl (run_cell rfl isAgg_bool rfl (E.1) rfl) <| V (v := .bool true) (by kernel_rfl) rfl ((run_not (b := ma) rfl rfl).trans (by rw [mz]; rfl)) <| ?_
 simp only [q2,q3]
 refine V (v := .bool true) rfl rfl (run_pick (b := true) rfl rfl rfl) <| A rfl rfl rfl rfl rfl <| ?_
 simp only [q2,q3]
 refine WN ?_
 change Code.wp _ _ _ _ _
 refine wp_ret ?_
 exact bodyPost_ret (v := .bool true) (by simp [results, Tryz.results40, asAddr]) rfl ⟨rfl, e3 E⟩
set_option maxRecDepth 100000 in
set_option maxHeartbeats 8000000 in
theorem over_z  (n : Int) (d : Int) (w : World)  (hd : d ≠ 0) (h1 : -9223372036854775808 ≤ n) (h2 : n ≤ 9223372036854775807) (h3 : -9223372036854775808 ≤ d) (h4 : d ≤ 9223372036854775807) :
    Calls Tryz.prog 37 #[.int .i64 n, .int .i64 d] w (RetP w (Rat.divInt n d).num (((Rat.divInt n d).den : Nat) : Int)) := by
 have E := Env.start w
 go_enter Tryz.func37, Tryz.ntmps37
 refine wp_seq ?_
 -- region 0
 refine RL ?_
 refine EF rfl (Oper.wp_alloc AgR rfl ?_)
 intro b1 w1 e1 z1 d1 x1
 have l1 : w.heap.size ≤ b1 := by rw [e1]; exact (E.1).size
 replace E := E.below d1
 clear e1 z1 d1
 refine kw rfl ?_
 simp only [q2,q3]
 refine WN ?_
 change Code.wp _ _ _ _ _
 refine wp_seq ?_
 -- region 1
 refine RL ?_
 refine M rfl rfl rfl rfl rfl <| ?_
 simp only [q2,q3]
 refine EF rfl (Oper.wp_callI fn_integer_Of rfl (Of_z n _ h1 h2) rfl E ?_)
 clear E
 intro w3 n3 s3 d3 E
 replace x1 := x1.below d3
 clear d3
 refine kw rfl ?_
 have F2 : Fits n 4 := Fits_of64 h1 h2
 refine M rfl rfl rfl rfl rfl <| ?_
 simp only [q2,q3]
 refine EF rfl (Oper.wp_callI fn_integer_Of rfl (Of_z d _ h3 h4) rfl E ?_)
 clear E
 intro w5 n5 s5 d5 E
 replace x1 := x1.below d5
 clear d5
 refine kw rfl ?_
 have F4 : Fits d 4 := Fits_of64 h3 h4
 simp only [q2,q3]
 refine EF rfl (Oper.wp_callPE fn_rational_New rfl (New_z _ n _ d _ (E.2.1) (E.1) hd (Fits.mono F2 (by decide)) (Fits.mono F4 (by decide))) rfl E ?_)
 clear E
 intro w7 n7 s7 m7 t7 d7 E
 replace x1 := x1.below d7
 clear d7
 refine kw rfl ?_
 have F6 : FitQ (Rat.divInt n d) 4 := FitQ_low (k := 4) hd (Fits.mono F2 (by decide)) (Fits.mono F4 (by decide))
 refine M rfl rfl rfl rfl rfl <| V rfl rfl (run_extract (vs := [.agg #[.bool n7, s7, .bool m7, t7], .int .i64 0]) rfl rfl rfl) <| V rfl rfl (run_extract (vs := [.agg #[.bool n7, s7, .bool m7, t7], .int .i64 0]) rfl rfl rfl) <| ?_
 simp only [q2,q3]
 refine EF rfl (Oper.wp_alloc AgR rfl ?_)
 intro b8 w8 e8 z8 d8 x8
 have l8_0 : b1 < b8 := by rw [e8]; exact Bx.lt (x1)
 replace E := E.below d8
 replace x1 := Bx.below x1 d8
 clear e8 z8 d8
 refine kw rfl ?_
 simp only [q2,q3]
 refine EF rfl (Oper.wp_store AgR rfl rfl rfl x8 rfl rfl (one4 (IsI.one (E.2.1)) (IsI.one (E.1))) ?_)
 intro w9 o9 y9
 replace E := (E.onl (x8.noW (now4 now0 now0)) ⟨trivial, trivial, trivial, trivial, okW (by omega), trivial⟩ o9).x y9
 replace x1 := Bx.onl x1 (by omega) o9
 clear x8 o9 y9
 refine kn rfl ?_
 refine A rfl rfl rfl rfl rfl <| ?_
 simp only [q2,q3]
 refine WN ?_
 change Code.wp _ _ _ _ _
 refine wp_seq ?_
 -- region 2
 refine RL ?_
 refine V rfl rfl (run_load_bx AgR rfl rfl (E.1) rfl) <| ?_
 simp only [q2,q3]
 refine EF rfl (Oper.wp_store AgR rfl rfl rfl x1 rfl rfl (one4 (IsI.one (E.2.2.1)) (IsI.one (E.2.1))) ?_)
 intro w10 o10 y10
 replace E := (E.onl (x1.noW (now4 now0 now0)) ⟨okX (by omega), trivial, trivial, trivial, trivial, okW (by omega), trivial⟩ o10).x y10
 clear x1 o10 y10
 refine kn rfl ?_
 refine WN ?_
 change Code.wp _ _ _ _ _
 refine wp_ret ?_
 have r11 := res_box AgR (E.1) rfl
 exact bodyPost_ret (v := .agg #[.bool n7, s7, .bool m7, t7]) (by simp [results, Tryz.results37, asAddr, r11]) rfl ⟨_, _, _, _, rfl, eqZ rfl (e3 E), eqZ rfl (E.2.2.1), e6 E⟩
theorem simp_floor' {a b c : Rat} (ha : 0 < a) (hab : a ≤ b) (h : ((a.floor : Int) : Rat) = a) (hc : a = c) : IsSimp c a b := by
  have := simp_floor ha hab h
  rw [h, hc] at this; rw [hc]; exact this
theorem simp_step' {a b c d lo hi : Rat} (ha : 0 < a) (hab : a ≤ b) (h : ((a.floor : Int) : Rat) ≠ a) (hb : ¬ ((a.floor : Int) : Rat) + 1 ≤ b) (e1 : (b - (a.floor : Rat))⁻¹ = lo) (e2 : (a - (a.floor : Rat))⁻¹ = hi) (e3 : (a.floor : Rat) + c⁻¹ = d)
    (hc : IsSimp c lo hi) : IsSimp d a b := by
  subst e1 e2 e3; exact simp_step ha hab h hb hc
theorem ex_simp1 : IsSimp (Rat.divInt 1 2) (Rat.divInt 1 3) (Rat.divInt 1 2) :=
  simp_step' (c := 2) (lo := 2) (hi := 3) (by decide +kernel) (by decide +kernel) (by decide +kernel) (by decide +kernel) (by decide +kernel) (by decide +kernel) (by decide +kernel) (simp_floor' (by decide +kernel) (by decide +kernel) (by decide +kernel) rfl)
theorem ex_simp2 : IsSimp (Rat.divInt 7 5) (Rat.divInt 7 5) (Rat.divInt 10 7) :=
  simp_step' (c := Rat.divInt 5 2) (lo := Rat.divInt 7 3) (hi := Rat.divInt 5 2) (by decide +kernel) (by decide +kernel) (by decide +kernel) (by decide +kernel) (by decide +kernel) (by decide +kernel) (by decide +kernel)
    (simp_step' (c := 2) (lo := 2) (hi := 3) (by decide +kernel) (by decide +kernel) (by decide +kernel) (by decide +kernel) (by decide +kernel) (by decide +kernel) (by decide +kernel) (simp_floor' (by decide +kernel) (by decide +kernel) (by decide +kernel) rfl))
theorem RetBt.is {w w' : World} {x y c : Rat} {e : Ending} (h : RetBt w x y e w') (hxy : x ≤ y) (hc : IsBet c x y) : RetPE w c.num ((c.den : Nat) : Int) 0 e w' := by
  obtain ⟨d, hd, hr⟩ := h
  rw [hd.unique hxy hc] at hr; exact hr
theorem ParQ.is {w w' : World} {R : Int → Int → Int → Ending → World → Prop} {s : ByteArray} {e : Ending} {x : Rat} (h : ParQ w R s e w') (hs : s.size ≤ 4000) (hx : s = txtQ x) : R x.num ((x.den : Nat) : Int) 0 e w' := by
  rcases h with ⟨h, _⟩ | ⟨_, h, _⟩ | ⟨y, _, h, r⟩
  · omega
  · exact absurd hx (h x)
  · rw [← txtQ_inj (h.symm.trans hx)]; exact r
theorem ParQ.no {w w' : World} {R : Int → Int → Int → Ending → World → Prop} {s : ByteArray} {e : Ending} (h : ParQ w R s e w') (hs : s.size ≤ 4000) (hx : ∀ x, s ≠ txtQ x) : R 0 0 3 e w' := by
  rcases h with ⟨h, _⟩ | ⟨_, _, r⟩ | ⟨y, _, h, _⟩
  · omega
  · exact r
  · exact absurd h (hx y)
theorem Parse_is (s : ByteArray) (x : Rat) (w : World) (hs : s.size ≤ 4000) (hx : s = txtQ x) : Calls Tryz.prog 38 #[.string s] w (RetPE w x.num ((x.den : Nat) : Int) 0) := (Parse_q s w).mono fun _ _ h => h.is hs hx
theorem Parse_no (s : ByteArray) (w : World) (hs : s.size ≤ 4000) (hx : ∀ x, s ≠ txtQ x) : Calls Tryz.prog 38 #[.string s] w (RetPE w 0 0 3) := (Parse_q s w).mono fun _ _ h => h.no hs hx
theorem ex_txt : (⟨#[45, 51, 47, 50]⟩ : ByteArray) = txtQ (Rat.divInt (-3) 2) := ba_ext (pq_ok (a := [45, 51]) (b := [50]) (n := -3) (d := 2) (by decide) (by decide) (by decide) (by decide))
theorem ex_bad (x : Rat) : (⟨#[50, 47, 52]⟩ : ByteArray) ≠ txtQ x := fun e => pq_bad3 (a := [50]) (b := [52]) (n := 2) (d := 4) (by decide) (by decide) (by decide) (.inl (by decide)) x (lst e)
theorem ex_eq : Rat.divInt 6 (-4) = Rat.divInt (-3) 2 := by decide +kernel
theorem digs_small (n : Nat) (h0 : 0 < n) (h : n < 4294967296) : digs n = [n] := by rw [digs_pos n h0, Nat.mod_eq_of_lt h, Nat.div_eq_of_lt h, digs_zero]
theorem bits_small (n : Nat) (h0 : 0 < n) (h : n < 4294967296) : bitsN n = Lib.bitLen n := by
  unfold bitsN
  rw [if_neg (by omega), digs_small n h0 h]
  simp [gd]
theorem ex_bits : (((bitsN (Rat.divInt 6 (-4)).num.natAbs : Nat) : Int) + ((bitsN ((((Rat.divInt 6 (-4)).den : Nat) : Int)).natAbs : Nat) : Int) == 4) = true := by
  rw [show (Rat.divInt 6 (-4)).num.natAbs = 3 by decide +kernel, show ((((Rat.divInt 6 (-4)).den : Nat) : Int)).natAbs = 2 by decide +kernel, bits_small 3 (by decide) (by decide), bits_small 2 (by decide) (by decide)]
  rfl
theorem run_buildW {ρ : Operand → Value} {o : Oper} {w : World} {x y : Operand} {a b : Int} (ho : o.op = .build 24 #[(0, x), (1, y)]) (hx : ρ x = .int .i8 a) (hy : ρ y = .int .i8 b) :
    (execOp ρ o).run Tryz.prog w = .ok (.value (.agg #[.int .i8 a, .int .i8 b, .int .u8 ((0 : Nat) : Int)])) w := by
  unfold execOp; rw [ho]
  have hi : (zeroValue 24).run Tryz.prog w = .ok (.agg #[.int .i8 0, .int .i8 0, .int .u8 0]) w := by kernel_rfl
  simp [go_sem, hi, hx, hy]
theorem oneW {a b : Int} {c : Int} : ∀ v ∈ [Value.int .i8 a, .int .i8 b, .int .u8 c], v.oneCell' = true := by
  intro v hv
  simp only [List.mem_cons, List.not_mem_nil, or_false] at hv
  rcases hv with rfl | rfl | rfl <;> rfl
theorem nowW {w : World} {b T : Nat} {x y z : Int} (h : Bx w b T [.int .i8 x, .int .i8 y, .int .u8 z]) : NoW w b := h.noW (by
  intro c hc n e
  subst e
  simp at hc)
set_option maxRecDepth 100000 in
set_option maxHeartbeats 8000000 in
theorem examples_t   (w : World)   :
    Calls Tryz.prog 4 #[] w (RetB w true) := by
 have E := Env.start w
 go_enter Tryz.func4, Tryz.ntmps4
 refine wp_seq ?_
 -- region 0
 refine RL ?_
 refine AC rfl rfl rfl rfl <| ?_
 simp only [q2]
 refine WN ?_
 change Code.wp _ _ _ _ _
 refine wp_seq ?_
 -- region 1
 refine RL ?_
 refine EF rfl (Oper.wp_callI fn_integer_Of rfl (Of_z 6 _ (by decide) (by decide)) rfl E ?_)
 clear E
 intro w1 n1 s1 d1 E
 clear d1
 refine kw rfl ?_
 simp only [q2,q3]
 refine EF rfl (Oper.wp_callI fn_integer_Of rfl (Of_z (-4) _ (by decide) (by decide)) rfl E ?_)
 clear E
 intro w2 n2 s2 d2 E
 clear d2
 refine kw rfl ?_
 simp only [q2,q3]
 refine EF rfl (Oper.wp_callPE fn_rational_New rfl (New_z _ 6 _ (-4) _ (E.2.1) (E.1) (by decide) (Fits.mono (Fits_lt (m := 4) (by decide) : Fits 6 4) (by decide)) (Fits.mono (Fits_lt (m := 4) (by decide) : Fits (-4) 4) (by decide))) rfl E ?_)
 clear E
 intro w4 n4 s4 m4 t4 d4 E
 clear d4
 refine kw rfl ?_
 have F3 : FitQ (Rat.divInt 6 (-4)) 4 := FitQ_low (k := 4) (by decide) (Fits.mono (Fits_lt (m := 4) (by decide) : Fits 6 4) (by decide)) (Fits.mono (Fits_lt (m := 4) (by decide) : Fits (-4) 4) (by decide))
 refine M rfl rfl rfl rfl rfl <| V rfl rfl (run_extract (vs := [.agg #[.bool n4, s4, .bool m4, t4], .int .i64 0]) rfl rfl rfl) <| V rfl rfl (run_extract (vs := [.agg #[.bool n4, s4, .bool m4, t4], .int .i64 0]) rfl rfl rfl) <| ?_
 simp only [q2,q3]
 refine EF rfl (Oper.wp_alloc AgR rfl ?_)
 intro b5 w5 e5 z5 d5 x5
 have l5 : w.heap.size ≤ b5 := by rw [e5]; exact (e4 E).size
 replace E := E.below d5
 clear e5 z5 d5
 refine kw rfl ?_
 simp only [q2,q3]
 refine EF rfl (Oper.wp_store AgR rfl rfl rfl x5 rfl rfl (one4 (IsI.one (E.2.1)) (IsI.one (E.1))) ?_)
 intro w6 o6 y6
 replace E := (E.onl (x5.noW (now4 now0 now0)) ⟨trivial, trivial, trivial, trivial, okW (by omega), trivial⟩ o6).x y6
 clear x5 o6 y6
 refine kn rfl ?_
 refine A rfl rfl rfl rfl rfl <| ?_
 simp only [q2,q3]
 refine WN ?_
 change Code.wp _ _ _ _ _
 refine wp_seq ?_
 -- region 2
 refine RL ?_
 refine EF rfl (Oper.wp_callI fn_integer_Of rfl (Of_z 1 _ (by decide) (by decide)) rfl E ?_)
 clear E
 intro w7 n7 s7 d7 E
 clear d7
 refine kw rfl ?_
 simp only [q2,q3]
 refine EF rfl (Oper.wp_callI fn_integer_Of rfl (Of_z 0 _ (by decide) (by decide)) rfl E ?_)
 clear E
 intro w8 n8 s8 d8 E
 clear d8
 refine kw rfl ?_
 simp only [q2,q3]
 refine EF rfl (Oper.wp_callPE fn_rational_New rfl (New_zero _ 1 _ 0 _ (E.2.1) (E.1) (rfl)) rfl E ?_)
 clear E
 intro w9 n9 s9 m9 t9 d9 E
 clear d9
 refine kw rfl ?_
 refine M rfl rfl rfl rfl rfl <| V rfl rfl (run_extract (vs := [.agg #[.bool n9, s9, .bool m9, t9], .int .i64 10]) rfl rfl rfl) <| V rfl rfl (run_extract (vs := [.agg #[.bool n9, s9, .bool m9, t9], .int .i64 10]) rfl rfl rfl) <| ?_
 simp only [q2,q3]
 refine EF rfl (Oper.wp_alloc AgR rfl ?_)
 intro b10 w10 e10 z10 d10 x10
 have l10_0 : b5 < b10 := by rw [e10]; exact Bx.lt (e4 E)
 replace E := E.below d10
 clear e10 z10 d10
 refine kw rfl ?_
 simp only [q2,q3]
 refine EF rfl (Oper.wp_store AgR rfl rfl rfl x10 rfl rfl (one4 (IsI.one (E.2.1)) (IsI.one (E.1))) ?_)
 intro w11 o11 y11
 replace E := (E.onl (x10.noW (now4 now0 now0)) ⟨trivial, trivial, trivial, trivial, okX (by omega), trivial, trivial, trivial, trivial, okW (by omega), trivial⟩ o11).x y11
 clear x10 o11 y11
 refine kn rfl ?_
 refine A rfl rfl rfl rfl rfl <| ?_
 simp only [q2,q3]
 refine WN ?_
 change Code.wp _ _ _ _ _
 refine wp_seq ?_
 -- region 3
 refine RL ?_
 refine EF rfl (Oper.wp_callP fn_elaw02_over rfl (over_z 1 3 _ (by decide) (by decide) (by decide) (by decide) (by decide)) rfl E ?_)
 clear E
 intro w13 n13 s13 m13 t13 d13 E
 clear d13
 refine kw rfl ?_
 have F12 : FitQ (Rat.divInt 1 3) 4 := FitQ_low (k := 4) (by decide) (Fits_lt (by decide)) (Fits_lt (by decide))
 simp only [q2,q3]
 refine EF rfl (Oper.wp_callP fn_elaw02_over rfl (over_z 1 2 _ (by decide) (by decide) (by decide) (by decide) (by decide)) rfl E ?_)
 clear E
 intro w15 n15 s15 m15 t15 d15 E
 clear d15
 refine kw rfl ?_
 have F14 : FitQ (Rat.divInt 1 2) 4 := FitQ_low (k := 4) (by decide) (Fits_lt (by decide)) (Fits_lt (by decide))
 simp only [q2,q3]
 refine EF rfl (Oper.wp_callPE fn_rational_Between rfl ((Between_le _ _ _ _ (Rat.divInt 1 3) _ _ _ _ (Rat.divInt 1 2) _ (e3 E) (E.2.2.1) (E.2.1) (E.1) (by decide +kernel) (FitQ.mono F12 (by decide)) (FitQ.mono F14 (by decide))).mono fun _ _ h => h.is (by decide +kernel) (.inl ⟨by decide +kernel, ex_simp1⟩)) rfl E ?_)
 clear E
 intro w16 n16 s16 m16 t16 d16 E
 clear d16
 refine kw rfl ?_
 refine M rfl rfl rfl rfl rfl <| V rfl rfl (run_extract (vs := [.agg #[.bool n16, s16, .bool m16, t16], .int .i64 0]) rfl rfl rfl) <| V rfl rfl (run_extract (vs := [.agg #[.bool n16, s16, .bool m16, t16], .int .i64 0]) rfl rfl rfl) <| ?_
 simp only [q2,q3]
 refine EF rfl (Oper.wp_alloc AgR rfl ?_)
 intro b17 w17 e17 z17 d17 x17
 have l17_0 : b10 < b17 := by rw [e17]; exact Bx.lt (e6 E)
 replace E := E.below d17
 clear e17 z17 d17
 refine kw rfl ?_
 simp only [q2,q3]
 refine EF rfl (Oper.wp_store AgR rfl rfl rfl x17 rfl rfl (one4 (IsI.one (E.2.1)) (IsI.one (E.1))) ?_)
 intro w18 o18 y18
 replace E := (E.onl (x17.noW (now4 now0 now0)) ⟨trivial, trivial, trivial, trivial, trivial, trivial, okX (by omega), trivial, trivial, trivial, trivial, okX (by omega), trivial, trivial, trivial, trivial, okW (by omega), trivial⟩ o18).x y18
 clear x17 o18 y18
 refine kn rfl ?_
 refine A rfl rfl rfl rfl rfl <| ?_
 simp only [q2,q3]
 refine WN ?_
 change Code.wp _ _ _ _ _
 refine wp_seq ?_
 -- region 4
 refine RL ?_
 refine EF rfl (Oper.wp_callP fn_elaw02_over rfl (over_z 7 5 _ (by decide) (by decide) (by decide) (by decide) (by decide)) rfl E ?_)
 clear E
 intro w20 n20 s20 m20 t20 d20 E
 clear d20
 refine kw rfl ?_
 have F19 : FitQ (Rat.divInt 7 5) 4 := FitQ_low (k := 4) (by decide) (Fits_lt (by decide)) (Fits_lt (by decide))
 simp only [q2,q3]
 refine EF rfl (Oper.wp_callP fn_elaw02_over rfl (over_z 10 7 _ (by decide) (by decide) (by decide) (by decide) (by decide)) rfl E ?_)
 clear E
 intro w22 n22 s22 m22 t22 d22 E
 clear d22
 refine kw rfl ?_
 have F21 : FitQ (Rat.divInt 10 7) 4 := FitQ_low (k := 4) (by decide) (Fits_lt (by decide)) (Fits_lt (by decide))
 simp only [q2,q3]
 refine EF rfl (Oper.wp_callPE fn_rational_Between rfl ((Between_le _ _ _ _ (Rat.divInt 7 5) _ _ _ _ (Rat.divInt 10 7) _ (e3 E) (E.2.2.1) (E.2.1) (E.1) (by decide +kernel) (FitQ.mono F19 (by decide)) (FitQ.mono F21 (by decide))).mono fun _ _ h => h.is (by decide +kernel) (.inl ⟨by decide +kernel, ex_simp2⟩)) rfl E ?_)
 clear E
 intro w23 n23 s23 m23 t23 d23 E
 clear d23
 refine kw rfl ?_
 refine M rfl rfl rfl rfl rfl <| V rfl rfl (run_extract (vs := [.agg #[.bool n23, s23, .bool m23, t23], .int .i64 0]) rfl rfl rfl) <| V rfl rfl (run_extract (vs := [.agg #[.bool n23, s23, .bool m23, t23], .int .i64 0]) rfl rfl rfl) <| ?_
 simp only [q2,q3]
 refine EF rfl (Oper.wp_alloc AgR rfl ?_)
 intro b24 w24 e24 z24 d24 x24
 have l24_0 : b17 < b24 := by rw [e24]; exact Bx.lt (e6 E)
 replace E := E.below d24
 clear e24 z24 d24
 refine kw rfl ?_
 simp only [q2,q3]
 refine EF rfl (Oper.wp_store AgR rfl rfl rfl x24 rfl rfl (one4 (IsI.one (E.2.1)) (IsI.one (E.1))) ?_)
 intro w25 o25 y25
 replace E := (E.onl (x24.noW (now4 now0 now0)) ⟨trivial, trivial, trivial, trivial, trivial, trivial, okX (by omega), trivial, trivial, trivial, trivial, trivial, trivial, okX (by omega), trivial, trivial, trivial, trivial, okX (by omega), trivial, trivial, trivial, trivial, okW (by omega), trivial⟩ o25).x y25
 clear x24 o25 y25
 refine kn rfl ?_
 refine A rfl rfl rfl rfl rfl <| ?_
 simp only [q2,q3]
 refine WN ?_
 change Code.wp _ _ _ _ _
 refine wp_seq ?_
 -- region 5
 refine RL ?_
 refine EF rfl (Oper.wp_callPE fn_rational_Parse rfl (Parse_is ⟨#[45, 51, 47, 50]⟩ (Rat.divInt (-3) 2) _ (by decide) ex_txt) rfl E ?_)
 clear E
 intro w26 n26 s26 m26 t26 d26 E
 clear d26
 refine kw rfl ?_
 refine M rfl rfl rfl rfl rfl <| V rfl rfl (run_extract (vs := [.agg #[.bool n26, s26, .bool m26, t26], .int .i64 0]) rfl rfl rfl) <| V rfl rfl (run_extract (vs := [.agg #[.bool n26, s26, .bool m26, t26], .int .i64 0]) rfl rfl rfl) <| ?_
 simp only [q2,q3]
 refine EF rfl (Oper.wp_alloc AgR rfl ?_)
 intro b27 w27 e27 z27 d27 x27
 have l27_0 : b24 < b27 := by rw [e27]; exact Bx.lt (E.2.2.1)
 replace E := E.below d27
 clear e27 z27 d27
 refine kw rfl ?_
 simp only [q2,q3]
 refine EF rfl (Oper.wp_store AgR rfl rfl rfl x27 rfl rfl (one4 (IsI.one (E.2.1)) (IsI.one (E.1))) ?_)
 intro w28 o28 y28
 replace E := (E.onl (x27.noW (now4 now0 now0)) ⟨trivial, trivial, okX (by omega), trivial, trivial, trivial, trivial, trivial, trivial, okX (by omega), trivial, trivial, trivial, trivial, trivial, trivial, okX (by omega), trivial, trivial, trivial, trivial, okX (by omega), trivial, trivial, trivial, trivial, okW (by omega), trivial⟩ o28).x y28
 clear x27 o28 y28
 refine kn rfl ?_
 refine A rfl rfl rfl rfl rfl <| ?_
 simp only [q2,q3]
 refine WN ?_
 change Code.wp _ _ _ _ _
 refine wp_seq ?_
 -- region 6
 refine RL ?_
 refine EF rfl (Oper.wp_callPE fn_rational_Parse rfl (Parse_no ⟨#[50, 47, 52]⟩ _ (by decide) ex_bad) rfl E ?_)
 clear E
 intro w29 n29 s29 m29 t29 d29 E
 clear d29
 refine kw rfl ?_
 refine M rfl rfl rfl rfl rfl <| V rfl rfl (run_extract (vs := [.agg #[.bool n29, s29, .bool m29, t29], .int .i64 3]) rfl rfl rfl) <| V rfl rfl (run_extract (vs := [.agg #[.bool n29, s29, .bool m29, t29], .int .i64 3]) rfl rfl rfl) <| ?_
 simp only [q2,q3]
 refine EF rfl (Oper.wp_alloc AgR rfl ?_)
 intro b30 w30 e30 z30 d30 x30
 have l30_0 : b27 < b30 := by rw [e30]; exact Bx.lt (E.2.2.1)
 replace E := E.below d30
 clear e30 z30 d30
 refine kw rfl ?_
 simp only [q2,q3]
 refine EF rfl (Oper.wp_store AgR rfl rfl rfl x30 rfl rfl (one4 (IsI.one (E.2.1)) (IsI.one (E.1))) ?_)
 intro w31 o31 y31
 replace E := (E.onl (x30.noW (now4 now0 now0)) ⟨trivial, trivial, okX (by omega), trivial, trivial, okX (by omega), trivial, trivial, trivial, trivial, trivial, trivial, okX (by omega), trivial, trivial, trivial, trivial, trivial, trivial, okX (by omega), trivial, trivial, trivial, trivial, okX (by omega), trivial, trivial, trivial, trivial, okW (by omega), trivial⟩ o31).x y31
 clear x30 o31 y31
 refine kn rfl ?_
 refine A rfl rfl rfl rfl rfl <| ?_
 simp only [q2,q3]
 refine WN ?_
 change Code.wp _ _ _ _ _
 refine wp_seq ?_
 -- region 7
 refine RL ?_
 refine V (v := .agg #[.int .i8 (-3), .int .i8 2, .int .u8 ((0 : Nat) : Int)]) rfl rfl (run_buildW rfl rfl rfl) <| ?_
 simp only [q2,q3]
 refine EF rfl (Oper.wp_alloc AgW rfl ?_)
 intro b32 w32 e32 z32 d32 x32
 have l32_0 : b30 < b32 := by rw [e32]; exact Bx.lt (E.1)
 replace E := E.below d32
 clear e32 z32 d32
 refine kw rfl ?_
 simp only [q2,q3]
 refine EF rfl (Oper.wp_store AgW rfl rfl rfl x32 rfl rfl oneW ?_)
 intro w33 o33 y33
 replace E := (E.onl (nowW x32) ⟨okX (by omega), trivial, trivial, okX (by omega), trivial, trivial, okX (by omega), trivial, trivial, trivial, trivial, trivial, trivial, okX (by omega), trivial, trivial, trivial, trivial, trivial, trivial, okX (by omega), trivial, trivial, trivial, trivial, okX (by omega), trivial, trivial, trivial, trivial, okW (by omega), trivial⟩ o33).x y33
 clear x32 o33 y33
 refine kn rfl ?_
 refine WN ?_
 change Code.wp _ _ _ _ _
 refine wp_seq ?_
 refine wp_seq ?_
 -- region 8
 refine wp_schedE E ([0, 1, 2, 3, 4, 5, 6, 7, 8, 9, 10, 11, 12, 13, 14, 15, 16, 17, 18, 19, 20, 21, 22, 23]) (by kernel_rfl) (by kernel_rfl) (by kernel_rfl) (by kernel_rfl) (by intro d v c a w h; cases d <;> exact h) ?_
 replace E := E.drew
 refine SW rfl rfl rfl rfl rfl (fun w hS => run_load_bx AgR rfl rfl (e26 hS) rfl) <| SM rfl rfl rfl rfl rfl rfl rfl rfl <| SW rfl rfl rfl rfl rfl (fun w hS => run_load_bx AgW rfl rfl (hS.1) rfl) <| ?_
 simp only [q2,q3]
 refine S1a (o := ⟨some 50, _, _, _, _, _⟩) rfl rfl rfl rfl (Oper.wp_callP fn_eref02_Made rfl (Made_q (-3) 2 0 _ (by decide) (by decide) (by decide) (by decide) (by decide)) rfl E ?_)
 clear E
 intro w34 n34 s34 m34 t34 d34 E
 clear d34
 refine ⟨E.2.2, ?_⟩
 simp only [Act.put,q1,q2,q3]
 refine S1a (o := ⟨some 51, _, _, _, _, _⟩) rfl rfl rfl rfl (Oper.wp_callB fn_elaw02_is rfl (is_t _ _ _ _ ((Rat.divInt 6 (-4)).num) (((Rat.divInt 6 (-4)).den : Nat) : Int) _ _ _ _ ((madeQ (-3) 2 0).num) (((madeQ (-3) 2 0).den : Nat) : Int) _ (E.2.2.2.2.2.2.2.2.2.2.2.2.2.2.2.2.2.2.2.2.2.2.2.2.2.2.2.2.2.2.1) (e29 E) (E.2.1) (E.1) (congrArg Rat.num (by decide +kernel : (Rat.divInt 6 (-4)) = (madeQ (-3) 2 0))) (congrArg (fun z => ((Rat.den z : Nat) : Int)) (by decide +kernel : (Rat.divInt 6 (-4)) = (madeQ (-3) 2 0)))) rfl E ?_)
 clear E
 intro w35 d35 E
 clear d35
 refine ⟨E.2.2, ?_⟩
 simp only [Act.put,q1,q2,q3]
 refine SW (v := .bool false) rfl rfl rfl rfl rfl (fun w hS => run_not (b := true) rfl rfl) <| SM rfl rfl rfl rfl rfl rfl rfl rfl <| SW rfl rfl rfl (by kernel_rfl) rfl (fun w hS => run_load_bx AgR rfl rfl (e21 hS) rfl) <| SM rfl rfl rfl (by kernel_rfl) rfl rfl rfl rfl <| ?_
 simp only [q2,q3]
 refine S1a (o := ⟨some 56, _, _, _, _, _⟩) rfl rfl rfl rfl (Oper.wp_callB fn_elaw02_fails rfl (fails_t 10 _ _ _ _ 0 0 _ (e25 E) (e24 E) rfl rfl) rfl E ?_)
 clear E
 intro w36 d36 E
 clear d36
 refine ⟨E.2.2, ?_⟩
 simp only [Act.put,q1,q2,q3]
 refine SW (v := .bool false) rfl rfl rfl (by kernel_rfl) rfl (fun w hS => run_not (b := true) rfl rfl) <| SW (v := .bool false) rfl rfl rfl rfl rfl (fun w hS => run_pick (b := false) rfl rfl rfl) <| SM rfl rfl rfl rfl rfl rfl rfl rfl <| SW rfl rfl rfl (by kernel_rfl) rfl (fun w hS => run_load_bx AgR rfl rfl (e26 hS) rfl) <| ?_
 simp only [q2,q3]
 refine S1a (o := ⟨some 61, _, _, _, _, _⟩) rfl rfl rfl rfl (Oper.wp_callX fn_rational_Text rfl (Text_q _ _ _ _ (Rat.divInt 6 (-4)) _ (E.2.2.2.2.2.2.2.2.2.2.2.2.2.2.2.2.2.2.2.2.2.2.2.2.2.2.2.2.2.2.1) (e29 E) (FitQ.mono F3 (by decide))) rfl E ?_)
 clear E
 intro w37 d37 E
 clear d37
 refine ⟨E.2.2, ?_⟩
 simp only [Act.put,q1,q2,q3]
 refine SW rfl rfl rfl (by kernel_rfl) rfl (fun w hS => run_neS rfl rfl rfl (bne_l' (by rw [ex_eq]; exact (lst ex_txt).symm))) <| SW (v := .bool false) rfl rfl rfl rfl rfl (fun w hS => run_pick (b := false) rfl rfl rfl) <| SM rfl rfl rfl rfl rfl rfl rfl rfl <| SW rfl rfl rfl (by kernel_rfl) rfl (fun w hS => run_load_bx AgR rfl rfl (e26 hS) rfl) <| ?_
 simp only [q2,q3]
 refine S1a (o := ⟨some 66, _, _, _, _, _⟩) rfl rfl rfl rfl (Oper.wp_callI fn_rational_Floor rfl (Floor_q _ _ _ _ (Rat.divInt 6 (-4)) _ (E.2.2.2.2.2.2.2.2.2.2.2.2.2.2.2.2.2.2.2.2.2.2.2.2.2.2.2.2.2.2.1) (e29 E) (FitQ.mono F3 (by decide))) rfl E ?_)
 clear E
 intro w39 n39 s39 d39 E
 clear d39
 refine ⟨E.2.2.2, ?_⟩
 simp only [Act.put,q1,q2,q3]
 have F38 : Fits ((Rat.divInt 6 (-4)).floor) 4 := Fits_floorQ F3
 refine S1a (o := ⟨some 67, _, _, _, _, _⟩) rfl rfl rfl rfl (Oper.wp_callI fn_integer_Of rfl (Of_z (-2) _ (by decide) (by decide)) rfl E ?_)
 clear E
 intro w40 n40 s40 d40 E
 clear d40
 refine ⟨E.2.2.2.2, ?_⟩
 simp only [Act.put,q1,q2,q3]
 refine S1a (o := ⟨some 68, _, _, _, _, _⟩) rfl rfl rfl rfl (Oper.wp_callN fn_integer_Cmp rfl (Cmp_z _ _ ((Rat.divInt 6 (-4)).floor) (-2) _ (E.2.1) (E.1)) rfl E ?_)
 clear E
 intro w41 d41 E
 clear d41
 refine ⟨E.2.2.2.2, ?_⟩
 simp only [Act.put,q1,q2,q3]
 refine SW rfl rfl rfl (by kernel_rfl) rfl (fun w hS => run_neI (c := false) rfl rfl rfl (by decide +kernel)) <| SW (v := .bool false) rfl rfl rfl rfl rfl (fun w hS => run_pick (b := false) rfl rfl rfl) <| ?_
 simp only [q2,q3]
 refine SN ?_
 change Code.wp _ _ _ _ _
 refine wp_cond_false rfl ?_
 refine wp_skip ?_
 change Code.wp _ _ _ _ _
 refine wp_seq ?_
 -- region 10
 refine wp_schedE E ([0, 1, 2, 3, 4, 5, 6, 7, 8, 9, 10, 11, 12, 13, 14, 15, 16, 17, 18, 19, 20, 21, 22, 23, 24, 25, 26, 27, 28, 29, 30, 31, 32, 33]) (by kernel_rfl) (by kernel_rfl) (by kernel_rfl) (by kernel_rfl) (by intro d v c a w h; cases d <;> exact h) ?_
 replace E := E.drew
 refine SW rfl rfl rfl rfl rfl (fun w hS => run_load_bx AgR rfl rfl (e18 hS) rfl) <| SM rfl rfl rfl rfl rfl rfl rfl rfl <| SW (v := .agg #[.int .i8 1, .int .i8 2, .int .u8 ((0 : Nat) : Int)]) rfl rfl rfl rfl rfl (fun w hS => run_buildW rfl rfl rfl) <| ?_
 simp only [q2,q3]
 refine S1a (o := ⟨some 74, _, _, _, _, _⟩) rfl rfl rfl rfl (Oper.wp_callP fn_eref02_Made rfl (Made_q 1 2 0 _ (by decide) (by decide) (by decide) (by decide) (by decide)) rfl E ?_)
 clear E
 intro w42 n42 s42 m42 t42 d42 E
 clear d42
 refine ⟨E.2.2, ?_⟩
 simp only [Act.put,q1,q2,q3]
 refine S1a (o := ⟨some 75, _, _, _, _, _⟩) rfl rfl rfl rfl (Oper.wp_callB fn_elaw02_is rfl (is_t _ _ _ _ ((Rat.divInt 1 2).num) (((Rat.divInt 1 2).den : Nat) : Int) _ _ _ _ ((madeQ 1 2 0).num) (((madeQ 1 2 0).den : Nat) : Int) _ (e22 E) (e21 E) (E.2.1) (E.1) (congrArg Rat.num (by decide +kernel : (Rat.divInt 1 2) = (madeQ 1 2 0))) (congrArg (fun z => ((Rat.den z : Nat) : Int)) (by decide +kernel : (Rat.divInt 1 2) = (madeQ 1 2 0)))) rfl E ?_)
 clear E
 intro w43 d43 E
 clear d43
 refine ⟨E.2.2, ?_⟩
 simp only [Act.put,q1,q2,q3]
 refine SM rfl rfl rfl rfl rfl rfl rfl rfl <| SW rfl rfl rfl (by kernel_rfl) rfl (fun w hS => run_load_bx AgR rfl rfl (e11 hS) rfl) <| SM rfl rfl rfl (by kernel_rfl) rfl rfl rfl rfl <| SW (v := .agg #[.int .i8 7, .int .i8 5, .int .u8 ((0 : Nat) : Int)]) rfl rfl rfl (by kernel_rfl) rfl (fun w hS => run_buildW rfl rfl rfl) <| ?_
 simp only [q2,q3]
 refine S1a (o := ⟨some 80, _, _, _, _, _⟩) rfl rfl rfl rfl (Oper.wp_callP fn_eref02_Made rfl (Made_q 7 5 0 _ (by decide) (by decide) (by decide) (by decide) (by decide)) rfl E ?_)
 clear E
 intro w44 n44 s44 m44 t44 d44 E
 clear d44
 refine ⟨E.2.2.2.2, ?_⟩
 simp only [Act.put,q1,q2,q3]
 refine S1a (o := ⟨some 81, _, _, _, _, _⟩) rfl rfl rfl rfl (Oper.wp_callB fn_elaw02_is rfl (is_t _ _ _ _ ((Rat.divInt 7 5).num) (((Rat.divInt 7 5).den : Nat) : Int) _ _ _ _ ((madeQ 7 5 0).num) (((madeQ 7 5 0).den : Nat) : Int) _ (e17 E) (e16 E) (E.2.1) (E.1) (congrArg Rat.num (by decide +kernel : (Rat.divInt 7 5) = (madeQ 7 5 0))) (congrArg (fun z => ((Rat.den z : Nat) : Int)) (by decide +kernel : (Rat.divInt 7 5) = (madeQ 7 5 0)))) rfl E ?_)
 clear E
 intro w45 d45 E
 clear d45
 refine ⟨E.2.2.2.2, ?_⟩
 simp only [Act.put,q1,q2,q3]
 refine SW (v := .bool true) rfl rfl rfl rfl rfl (fun w hS => run_pick (b := true) rfl rfl rfl) <| SM rfl rfl rfl rfl rfl rfl rfl rfl <| SW rfl rfl rfl (by kernel_rfl) rfl (fun w hS => run_load_bx AgR rfl rfl (e8 hS) rfl) <| SM rfl rfl rfl (by kernel_rfl) rfl rfl rfl rfl <| ?_
 simp only [q2,q3]
 refine SW rfl rfl rfl (by kernel_rfl) rfl (fun w hS => run_load_bx AgR rfl rfl (hS.2.2.2.2.2.2.2.2.2.2.2.2.2.2.2.2.2.2.2.2.2.2.2.2.2.2.2.2.2.2.1) rfl) <| ?_
 simp only [q2,q3]
 refine S1a (o := ⟨some 87, _, _, _, _, _⟩) rfl rfl rfl rfl (Oper.wp_callB fn_elaw02_is rfl (is_t _ _ _ _ ((Rat.divInt (-3) 2).num) (((Rat.divInt (-3) 2).den : Nat) : Int) _ _ _ _ ((Rat.divInt 6 (-4)).num) (((Rat.divInt 6 (-4)).den : Nat) : Int) _ (e14 E) (e13 E) (E.2.2.2.2.2.2.2.2.2.2.2.2.2.2.2.2.2.2.2.2.2.2.2.2.2.2.2.2.2.2.2.2.2.2.2.2.1) (E.2.2.2.2.2.2.2.2.2.2.2.2.2.2.2.2.2.2.2.2.2.2.2.2.2.2.2.2.2.2.2.2.2.2.2.1) (congrArg Rat.num (by decide +kernel : (Rat.divInt (-3) 2) = (Rat.divInt 6 (-4)))) (congrArg (fun z => ((Rat.den z : Nat) : Int)) (by decide +kernel : (Rat.divInt (-3) 2) = (Rat.divInt 6 (-4))))) rfl E ?_)
 clear E
 intro w46 d46 E
 clear d46
 refine ⟨E.2.2.2.2, ?_⟩
 simp only [Act.put,q1,q2,q3]
 refine SW (v := .bool true) rfl rfl rfl rfl rfl (fun w hS => run_pick (b := true) rfl rfl rfl) <| SM rfl rfl rfl rfl rfl rfl rfl rfl <| SW rfl rfl rfl (by kernel_rfl) rfl (fun w hS => run_load_bx AgR rfl rfl (e5 hS) rfl) <| SM rfl rfl rfl (by kernel_rfl) rfl rfl rfl rfl <| ?_
 simp only [q2,q3]
 refine S1a (o := ⟨some 92, _, _, _, _, _⟩) rfl rfl rfl rfl (Oper.wp_callB fn_elaw02_fails rfl (fails_t 3 _ _ _ _ 0 0 _ (e11 E) (e10 E) rfl rfl) rfl E ?_)
 clear E
 intro w47 d47 E
 clear d47
 refine ⟨E.2.2.2.2, ?_⟩
 simp only [Act.put,q1,q2,q3]
 refine SW (v := .bool true) rfl rfl rfl rfl rfl (fun w hS => run_pick (b := true) rfl rfl rfl) <| SM rfl rfl rfl rfl rfl rfl rfl rfl <| SW rfl rfl rfl (by kernel_rfl) rfl (fun w hS => run_load_bx AgR rfl rfl (hS.2.2.2.2.2.2.2.2.2.2.2.2.2.2.2.2.2.2.2.2.2.2.2.2.2.2.2.2.2.2.1) rfl) <| ?_
 simp only [q2,q3]
 refine S1a (o := ⟨some 96, _, _, _, _, _⟩) rfl rfl rfl rfl (Oper.wp_callN fn_rational_Bits rfl (Bits_q _ _ _ _ (Rat.divInt 6 (-4)) _ (E.2.2.2.2.2.2.2.2.2.2.2.2.2.2.2.2.2.2.2.2.2.2.2.2.2.2.2.2.2.2.2.2.2.2.2.2.1) (E.2.2.2.2.2.2.2.2.2.2.2.2.2.2.2.2.2.2.2.2.2.2.2.2.2.2.2.2.2.2.2.2.2.2.2.1) (FitQ.mono F3 (by decide))) rfl E ?_)
 clear E
 intro w48 d48 E
 clear d48
 refine ⟨E.2.2.2.2, ?_⟩
 simp only [Act.put,q1,q2,q3]
 refine SW rfl rfl rfl (by kernel_rfl) rfl (fun w hS => run_eqI (c := true) rfl rfl rfl ex_bits) <| SW (v := .bool true) rfl rfl rfl rfl rfl (fun w hS => run_pick (b := true) rfl rfl rfl) <| SM rfl rfl rfl rfl rfl rfl rfl rfl <| SW rfl rfl rfl (by kernel_rfl) rfl (fun w hS => run_load_bx AgR rfl rfl (hS.2.2.2.2.2.2.2.2.2.2.2.2.2.2.2.2.2.2.2.2.2.2.2.2.2.2.2.2.2.2.1) rfl) <| ?_
 simp only [q2,q3]
 refine S1a (o := ⟨some 101, _, _, _, _, _⟩) rfl rfl rfl rfl (Oper.wp_callN fn_rational_Sign rfl (Sign_q _ _ _ _ (Rat.divInt 6 (-4)) _ (E.2.2.2.2.2.2.2.2.2.2.2.2.2.2.2.2.2.2.2.2.2.2.2.2.2.2.2.2.2.2.2.2.2.2.2.2.1) (E.2.2.2.2.2.2.2.2.2.2.2.2.2.2.2.2.2.2.2.2.2.2.2.2.2.2.2.2.2.2.2.2.2.2.2.1)) rfl E ?_)
 clear E
 intro w49 d49 E
 clear d49
 refine ⟨E.2.2.2.2, ?_⟩
 simp only [Act.put,q1,q2,q3]
 refine SW rfl rfl rfl (by kernel_rfl) rfl (fun w hS => run_eqI (c := true) rfl rfl rfl (by decide +kernel)) <| SW (v := .bool true) rfl rfl rfl rfl rfl (fun w hS => run_pick (b := true) rfl rfl rfl) <| SA rfl rfl rfl rfl rfl rfl rfl rfl <| ?_
 simp only [q2,q3]
 refine SN ?_
 change Code.wp _ _ _ _ _
 refine wp_ret ?_
 exact bodyPost_ret (v := .bool true) (by simp [results, Tryz.results4, asAddr]) rfl ⟨rfl, E.2.2.2.2.2.2.2.2.2.2.2.2.2.2.2.2.2.2.2.2.2.2.2.2.2.2.2.2.2.2.2.2.2.2.2.2.2.2.2.1⟩
end Go.Proofs.YtndpjfhhigpbhaaGreat
