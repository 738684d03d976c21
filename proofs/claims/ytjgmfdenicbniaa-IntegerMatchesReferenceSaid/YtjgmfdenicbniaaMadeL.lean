/- Facts for the walk of the reference's Made. Walk: the reference's Made. (Printed by g_made.py.) -/
import Derived.Test.YtjgmfdenicbniaaLawB
namespace Go.Proofs.Ytjgmfdenicbniaa
open Go.RowKit W
/-- These facts last where a block that they allow is written, whatever it holds. -/
def Pl : List SF → Prop
  | [] => True
  | f :: l => (∀ w w' b, f.p w → f.ok b → Onl b w w' → f.p w') ∧ Pl l
theorem Env.pl {w w' : World} {b : Nat} : ∀ {l : List SF}, Pl l → Env w l → Ok b l → Onl b w w' → Env w' l
  | [], _, _, _, _ => trivial
  | _ :: _, hp, h, ho, hb => ⟨hp.1 _ _ _ h.1 ho.1 hb, Env.pl hp.2 h.2 ho.2 hb⟩
theorem plX {b T : Nat} {cs : List Value} : ∀ w w' c, (fX b T cs).p w → (fX b T cs).ok c → Onl c w w' → (fX b T cs).p w' := fun _ _ _ h ho hb => Bx.onl h ho hb
theorem plB {b : Nat} {n : Bool} {s : Value} : ∀ w w' c, (fB b n s).p w → (fB b n s).ok c → Onl c w w' → (fB b n s).p w' := fun _ _ _ h ho hb => Bx.onl h ho hb
theorem plW {w0 : World} : ∀ w w' c, (fW w0).p w → (fW w0).ok c → Onl c w w' → (fW w0).p w' := fun _ _ _ h ho hb => hb.below h ho
/-- append to a row of words of the call's own. -/
theorem Oper.wp_appendW {o : Oper} {a : Act} {w : World} {K : Act → World → Prop} {Q : Exit → Act → World → Prop} (s x : Operand)
    (ho : o.op = .call { callee := .builtin .append, args := #[s, x], argTypes := #[22, 22] })
    (base : Nat) {l : List SF} (v : Value) (n : Nat) (xs : List Value) (hs : a.eval s = v) (hown : RowG w base 27 1 (fun _ => True) v n xs) (E : Env w l) (hpl : Pl l) (hok : ∀ g, v.ownBlock = some g → base ≤ g → Ok g l)
    (ad : Addr) (m c : Nat) (news : List Value) (hx : a.eval x = .slice (some ad) m c) (hl : news.length = m * 1) (hnews : ∀ j u, news[j]? = some u → w.cell? (ad.add j) = some u) (h1 : ∀ u ∈ news, u.oneCell' = true)
    (h63 : n + m ≤ maxLen) (hbytes : (n + m) * 4 ≤ 140737488355328) (hbase : base ≤ w.heap.size)
    (h : ∀ v' w', RowG w' base 27 1 (fun _ => True) v' (n + m) (xs ++ news) → Env w' l → K (a.put o.dst v') w') : o.wp Try.prog a w K Q := by
  obtain ⟨i0, hi, hz0, hz1, hz2⟩ := info_parts info27
  obtain ⟨v', w', hr, h2, h3⟩ := run_append_G (P := Try.prog) (w := w) base 22 o.type 27 i0 (.int .u32 0) 1 4 Try.underlying22 hi hz0 hz1 hz2 rfl (by decide) (fun _ => True) (fun _ _ => trivial) v n xs hown ad m c news hl hnews h1 (fun _ _ => trivial) h63 hbytes hbase
  unfold Oper.wp execOp
  simp only [ho, resolve, invoke, builtin, Sem.run_bind, Sem.run_pure, Result.andThen_ok, List.map_toArray, List.map_cons, List.map_nil, hs, hx, hr]
  refine h v' w' h2 ?_
  rcases h3 with ⟨h3, _⟩ | ⟨g, hg, _, h3⟩
  · exact E.below h3
  · exact E.pl hpl (hok g hg (hown.blk hg).1) h3
/-- The cells of words. -/
def wcs (l : List Nat) : List Value := l.map fun x => Value.int .u32 ((x : Nat) : Int)
theorem wcs_append (a b : List Nat) : wcs (a ++ b) = wcs a ++ wcs b := by simp [wcs]
theorem RowG.sl {w : World} {base n : Nat} {G : Value → Prop} {v : Value} {l : List Nat} (h : RowG w base 27 1 G v n (wcs l)) (hw : Wd l) : Sl w v l := by
  have hn : l.length = n := by have := h.1; simpa [wcs] using this
  subst hn
  exact OwnA.sl (base := base) h.own hw
theorem Sl.at {w : World} {v : Value} {l : List Nat} {i : Nat} (h : Sl w v l) (hi : i < l.length) : ∃ b off cap, v = .slice (some ⟨b, off, none⟩) l.length cap ∧ w.cell? ⟨b, off + i * 1, none⟩ = some (.int .u32 ((gd l i : Nat) : Int)) := by
  obtain ⟨ao, cap, rfl, _, _, _, _, h4⟩ := h
  obtain ⟨b, off, rfl, hc⟩ := h4 i hi
  exact ⟨b, off, cap, rfl, by rw [Nat.mul_one]; exact hc⟩
/-- The integer that Made makes. -/
def mkI (n : Bool) (l : List Nat) (k : Nat) : Int := sgnI n (val (l.take k))
theorem mkI_fits {n : Bool} {l : List Nat} {k : Nat} (hw : Wd l) : Fits (mkI n l k) k := by
  refine Fits_lt ?_
  unfold mkI
  rw [sgnI_abs]
  exact Nat.lt_of_lt_of_le (val_lt (Wd_take hw k)) (Nat.pow_le_pow_right (by decide) (by rw [List.length_take]; omega))
theorem AgRaw : Ag Try.prog 25 2 [.bool false, .slice none 0 0] := ⟨⟨_, Try.underlying25, rfl⟩, by kernel_rfl, rfl⟩
section
variable {ρ : Operand → Value} {o : Oper} {w : World}
theorem run_fieldRaw0 {x : Operand} {b : Nat} (ho : o.op = .fieldAddr 25 x 0) (hx : ρ x = .pointer (some ⟨b, 0, none⟩)) : (execOp ρ o).run Try.prog w = .ok (.value (.pointer (some ⟨b, 0, none⟩))) w := by
  unfold execOp; rw [ho]
  simp [hx, go_sem]
theorem run_fieldRaw1 {x : Operand} {b : Nat} (ho : o.op = .fieldAddr 25 x 1) (hx : ρ x = .pointer (some ⟨b, 0, none⟩)) : (execOp ρ o).run Try.prog w = .ok (.value (.pointer (some ⟨b, 1, none⟩))) w := by
  unfold execOp; rw [ho]
  simp [hx, go_sem]
end
section
variable {P : Program} {o : Oper} {a : Act} {w : World} {K : Act → World → Prop} {Q : Exit → Act → World → Prop}
theorem Oper.wp_lit0 (ho : o.op = .buildSlice 22 0 #[])
    (h : ∀ b w', b = w.heap.size → w'.heap.size = w.heap.size + 1 → Below w.heap.size w w' → (∀ base, base ≤ b → RowG w' base 27 1 (fun _ => True) (.slice (some ⟨b, 0, none⟩) 0 0) 0 []) → K (a.put o.dst (.slice (some ⟨b, 0, none⟩) 0 0)) w') : o.wp Try.prog a w K Q := by
  have hr : (execOp a.eval o).run Try.prog w = .ok (.value (.slice (some ⟨w.heap.size, 0, none⟩) 0 0)) (w.alloc (.cells #[] 27)) := by
    unfold execOp; rw [ho]
    simp [go_sem, Instr.buildSlice]
  refine Oper.wp_of_val hr (h _ _ rfl (by simp) ((Below.refl _ _).alloc (Nat.le_refl _) _) fun base hb => ⟨rfl, .inr ⟨w.heap.size, 0, #[], rfl, hb, ?_, Nat.le_refl _, by unfold maxLen; omega, rfl, rfl, fun u hu => by cases hu⟩⟩)
  unfold World.alloc; simp
theorem Oper.wp_litw {x : Operand} {v : Int} (ho : o.op = .buildSlice 22 1 #[(0, x)]) (hx : a.eval x = .int .u32 v)
    (h : ∀ b w', b = w.heap.size → w'.heap.size = w.heap.size + 1 → Below w.heap.size w w' → Bx w' b 27 [.int .u32 v] → K (a.put o.dst (.slice (some ⟨b, 0, none⟩) 1 1)) w') : o.wp Try.prog a w K Q := by
  have hr : ∀ ρ : Operand → Value, ρ x = .int .u32 v → (execOp ρ o).run Try.prog w = .ok (.value (.slice (some ⟨w.heap.size, 0, none⟩) 1 1)) (w.alloc (.cells #[.int .u32 v] 27)) := by
    intro ρ hx
    unfold execOp; rw [ho]
    simp [go_sem, Instr.buildSlice, hx]
  have hr := hr _ hx
  exact Oper.wp_of_val hr (h _ _ rfl (by simp) ((Below.refl _ _).alloc (Nat.le_refl _) _) (bx_alloc w _ [.int .u32 v]))
end
theorem isAgg_u32 (w : World) : (isAgg 27).run Try.prog w = .ok false w := by
  simp [go_sem]
end Go.Proofs.Ytjgmfdenicbniaa
namespace Go.Proofs.Ytjgmfdenicbniaa
open Go.RowKit W
set_option maxRecDepth 100000 in
set_option maxHeartbeats 4000000 in
theorem Made_r (n : Bool) (sx : Value) (l : List Nat) (k : Nat)  (w : World)  (hsl : Sl w sx l) (hk9 : k ≤ 1000) :
    Calls Try.prog 14 #[.agg #[.bool n, sx], .int .i64 ((k : Nat) : Int)] w (RetZ w (mkI n l k)) := by
 have E := Env.start w
 obtain ⟨aox, capx, hsx⟩ := Sl.shape hsl
 go_enter Try.func14, Try.ntmps14
 refine wp_seq ?_
 -- region 0
 refine wp_region_lit ?_
 refine L1 rfl (Oper.wp_box (cs := [.bool n, sx]) rfl rfl ?_)
 intro b0 w0 e0 z0 d0 x0
 have l0 : w.heap.size ≤ b0 := by rw [e0]; exact (E.1).size
 replace E := (E.below d0).x x0
 clear e0 z0 d0 x0
 simp only [Act.put,q1,q2,q3]
 refine L1 rfl (Oper.wp_alloc AgI rfl ?_)
 intro b1 w1 e1 z1 d1 x1
 have l1_0 : b0 < b1 := by rw [e1]; exact Bx.lt (E.1)
 replace E := E.below d1
 clear e1 z1 d1
 simp only [Act.put,q1,q2,q3]
 refine wpList_nil ?_
 change Code.wp _ _ _ _ _
 refine wp_seq ?_
 -- region 1
 refine wp_region_lit ?_
 refine L1 rfl (Oper.wp_lit0 rfl ?_)
 have hb1 := Bx.lt x1
 intro b5 w5 e5 z5 d5 x5
 have l5 : b1 + 1 ≤ b5 := by rw [e5]; exact hb1
 replace E := (E.below d5).g (x5 (b1 + 1) l5)
 replace x1 := x1.below d5
 clear e5 z5 d5 x5 hb1
 simp only [Act.put,q1,q2,q3]
 refine LV (v := .slice (some ⟨b5, 0, none⟩) 0 0) rfl (run_assign rfl rfl) ?_
 simp only [Act.put,q1,q2,q3]
 refine wpList_nil ?_
 change Code.wp _ _ _ _ _
 refine wp_seq ?_
 refine wp_seq ?_
 -- region 2
 refine wp_region_lit ?_
 refine LV (v := .int .i64 0) rfl (run_assign rfl rfl) ?_
 simp only [Act.put,q1,q2,q3]
 refine wpList_nil ?_
 change Code.wp _ _ _ _ _
 refine wp_block ?_
 replace E := E.b x1
 clear x1
 refine wp_loop_ghost (fun mz a w' => ∃ (i : Nat) (vr : Value) (g8 g9 g10 g11 g12 g13 g14 g15 g16 g17 g18 g19 g20 g21 g22 g23 g24 g25 g26 g27 : Value), a = ⟨#[.agg #[.bool n, sx], .int .i64 ((k : Nat) : Int), .pointer (some ⟨b0, 0, none⟩), undef, .pointer (some ⟨b1, 0, none⟩), vr, .int .i64 ((i : Nat) : Int), .slice (some ⟨b5, 0, none⟩) 0 0, g8, g9, g10, g11, g12, g13, g14, g15, g16, g17, g18, g19, g20, g21, g22, g23, g24, g25, g26, g27, undef, undef, undef, undef], []⟩ ∧ Env w' [fG (b1 + 1) 27 1 (fun _ => True) vr i (wcs (l.take i)), fB b1 false (.slice none 0 0), fX b0 (25) ([.bool n, sx]), fW w] ∧ mz = l.length - i ∧ i ≤ l.length ∧ i ≤ k) (l.length) ⟨0, .slice (some ⟨b5, 0, none⟩) 0 0, _, _, _, _, _, _, _, _, _, _, _, _, _, _, _, _, _, _, _, _, rfl, (Env.g (Env.b (Env.x (Env.ww (Env.nil _) (E.2.2.2.1)) (E.2.2.1)) (E.1)) (E.2.1)), rfl, ⟨Nat.zero_le _, Nat.zero_le _⟩⟩ ?_
 rintro m2 _ w2 ⟨i, vr, g8, g9, g10, g11, g12, g13, g14, g15, g16, g17, g18, g19, g20, g21, g22, g23, g24, g25, g26, g27, rfl, E, hm2, hI2⟩
 by_cases hl2 : i = l.length
 case pos =>
  refine wp_seq ?_
  refine wp_seq ?_
  -- region 3
  refine wp_region_lit ?_
  refine LV (v := .int .i64 ((i : Nat) : Int)) rfl (run_move rfl rfl) ?_
  simp only [Act.put,q1,q2,q3]
  refine LV (v := .pointer (some ⟨b0, 1, none⟩)) rfl (run_fieldRaw1 rfl rfl) ?_
  simp only [Act.put,q1,q2,q3]
  refine LV (v := sx) rfl (run_cell rfl isAgg_words rfl (E.2.2.1) rfl) ?_
  simp only [Act.put,q1,q2,q3]
  refine LV (v := .int .i64 ((l.length : Nat) : Int)) rfl (run_len rfl hsx) ?_
  simp only [Act.put,q1,q2,q3]
  refine LV (v := .bool false) rfl (run_ltI (c := false) rfl rfl rfl (by rw [decide_eq_false_iff_not]; omega)) ?_
  simp only [Act.put,q1,q2,q3]
  refine LV (v := .bool false) rfl (run_move rfl rfl) ?_
  simp only [Act.put,q1,q2,q3]
  refine L0 rfl ?_
  simp only [Act.put,q1,q2,q3]
  refine L0 rfl ?_
  simp only [Act.put,q1,q2,q3]
  refine L0 rfl ?_
  simp only [Act.put,q1,q2,q3]
  refine LV (v := .bool false) rfl (run_pick (b := false) rfl rfl rfl) ?_
  simp only [Act.put,q1,q2,q3]
  refine wpList_nil ?_
  change Code.wp _ _ _ _ _
  refine wp_cond_false rfl ?_
  refine wp_exit ?_
  change Code.wp _ _ _ _ _
  refine wp_seq ?_
  -- region 6
  refine wp_region_lit ?_
  refine LV (v := .pointer (some ⟨b0, 0, none⟩)) rfl (run_fieldRaw0 rfl rfl) ?_
  simp only [Act.put,q1,q2,q3]
  refine LV (v := .bool n) rfl (run_cell rfl isAgg_bool rfl (E.2.2.1) rfl) ?_
  simp only [Act.put,q1,q2,q3]
  refine LV (v := vr) rfl (run_move rfl rfl) ?_
  simp only [Act.put,q1,q2,q3]
  have hsi := RowG.sl (E.1) (Wd_take hsl.wd i)
  have hzz : sgnI n (val (l.take i)) = mkI n l k := by unfold mkI; congr 2; rw [List.take_eq_take_iff]; have := hI2; omega
  refine L1 rfl (Oper.wp_callI fn_eref01_made rfl (made_sl n _ (l.take i) _ _ hsi hzz) rfl E ?_)
  clear E hsi
  intro w4 n4 s4 d4 E
  clear d4
  simp only [Act.put,q1,q2,q3]
  have x6 := E.2.2.1
  replace E := ((E.2.2.2).g (E.2.1)).i (E.1)
  refine L1 rfl (Oper.wp_store AgI rfl rfl rfl x6 rfl rfl (IsI.one (E.1)) ?_)
  intro w5 o5 y5
  replace E := (E.onl (x6.noW now0) ⟨trivial, okG (fun h => absurd (RowG.blk (E.2.1) h).1 (by omega)), okX (by omega), okW (by omega), trivial⟩ o5).b y5
  clear x6 o5 y5
  simp only [Act.put]
  refine wpList_nil ?_
  change Code.wp _ _ _ _ _
  refine wp_ret ?_
  have r7 := res_box AgI (E.1) rfl
  exact bodyPost_ret (v := .agg #[.bool n4, s4]) (by simp [results, Try.results14, asAddr, r7]) rfl ⟨_, rfl, E.2.1, E.2.2.2.2.1⟩
 case neg =>
  by_cases hk2 : i = k
  case pos =>
   refine wp_seq ?_
   refine wp_seq ?_
   -- region 3
   refine wp_region_lit ?_
   refine LV (v := .int .i64 ((i : Nat) : Int)) rfl (run_move rfl rfl) ?_
   simp only [Act.put,q1,q2,q3]
   refine LV (v := .pointer (some ⟨b0, 1, none⟩)) rfl (run_fieldRaw1 rfl rfl) ?_
   simp only [Act.put,q1,q2,q3]
   refine LV (v := sx) rfl (run_cell rfl isAgg_words rfl (E.2.2.1) rfl) ?_
   simp only [Act.put,q1,q2,q3]
   refine LV (v := .int .i64 ((l.length : Nat) : Int)) rfl (run_len rfl hsx) ?_
   simp only [Act.put,q1,q2,q3]
   refine LV (v := .bool true) rfl (run_ltI (c := true) rfl rfl rfl (by rw [decide_eq_true_eq]; have := hI2.1; omega)) ?_
   simp only [Act.put,q1,q2,q3]
   refine LV (v := .bool true) rfl (run_move rfl rfl) ?_
   simp only [Act.put,q1,q2,q3]
   refine LV (v := .int .i64 ((i : Nat) : Int)) rfl (run_move rfl rfl) ?_
   simp only [Act.put,q1,q2,q3]
   refine LV (v := .int .i64 ((k : Nat) : Int)) rfl (run_move rfl rfl) ?_
   simp only [Act.put,q1,q2,q3]
   refine LV (v := .bool false) rfl (run_ltI (c := false) rfl rfl rfl (by rw [decide_eq_false_iff_not]; omega)) ?_
   simp only [Act.put,q1,q2,q3]
   refine LV (v := .bool false) rfl (run_pick (b := true) rfl rfl rfl) ?_
   simp only [Act.put,q1,q2,q3]
   refine wpList_nil ?_
   change Code.wp _ _ _ _ _
   refine wp_cond_false rfl ?_
   refine wp_exit ?_
   change Code.wp _ _ _ _ _
   refine wp_seq ?_
   -- region 6
   refine wp_region_lit ?_
   refine LV (v := .pointer (some ⟨b0, 0, none⟩)) rfl (run_fieldRaw0 rfl rfl) ?_
   simp only [Act.put,q1,q2,q3]
   refine LV (v := .bool n) rfl (run_cell rfl isAgg_bool rfl (E.2.2.1) rfl) ?_
   simp only [Act.put,q1,q2,q3]
   refine LV (v := vr) rfl (run_move rfl rfl) ?_
   simp only [Act.put,q1,q2,q3]
   have hsi := RowG.sl (E.1) (Wd_take hsl.wd i)
   have hzz : sgnI n (val (l.take i)) = mkI n l k := by unfold mkI; congr 2; rw [List.take_eq_take_iff]; have := hI2; omega
   refine L1 rfl (Oper.wp_callI fn_eref01_made rfl (made_sl n _ (l.take i) _ _ hsi hzz) rfl E ?_)
   clear E hsi
   intro w9 n9 s9 d9 E
   clear d9
   simp only [Act.put,q1,q2,q3]
   have x11 := E.2.2.1
   replace E := ((E.2.2.2).g (E.2.1)).i (E.1)
   refine L1 rfl (Oper.wp_store AgI rfl rfl rfl x11 rfl rfl (IsI.one (E.1)) ?_)
   intro w10 o10 y10
   replace E := (E.onl (x11.noW now0) ⟨trivial, okG (fun h => absurd (RowG.blk (E.2.1) h).1 (by omega)), okX (by omega), okW (by omega), trivial⟩ o10).b y10
   clear x11 o10 y10
   simp only [Act.put]
   refine wpList_nil ?_
   change Code.wp _ _ _ _ _
   refine wp_ret ?_
   have r12 := res_box AgI (E.1) rfl
   exact bodyPost_ret (v := .agg #[.bool n9, s9]) (by simp [results, Try.results14, asAddr, r12]) rfl ⟨_, rfl, E.2.1, E.2.2.2.2.1⟩
  case neg =>
   have hi9 : i < l.length := by have := hI2.1; omega
   have hi8 : i < k := by have := hI2.2; omega
   refine wp_seq ?_
   refine wp_seq ?_
   -- region 3
   refine wp_region_lit ?_
   refine LV (v := .int .i64 ((i : Nat) : Int)) rfl (run_move rfl rfl) ?_
   simp only [Act.put,q1,q2,q3]
   refine LV (v := .pointer (some ⟨b0, 1, none⟩)) rfl (run_fieldRaw1 rfl rfl) ?_
   simp only [Act.put,q1,q2,q3]
   refine LV (v := sx) rfl (run_cell rfl isAgg_words rfl (E.2.2.1) rfl) ?_
   simp only [Act.put,q1,q2,q3]
   refine LV (v := .int .i64 ((l.length : Nat) : Int)) rfl (run_len rfl hsx) ?_
   simp only [Act.put,q1,q2,q3]
   refine LV (v := .bool true) rfl (run_ltI (c := true) rfl rfl rfl (by rw [decide_eq_true_eq]; have := hI2.1; omega)) ?_
   simp only [Act.put,q1,q2,q3]
   refine LV (v := .bool true) rfl (run_move rfl rfl) ?_
   simp only [Act.put,q1,q2,q3]
   refine LV (v := .int .i64 ((i : Nat) : Int)) rfl (run_move rfl rfl) ?_
   simp only [Act.put,q1,q2,q3]
   refine LV (v := .int .i64 ((k : Nat) : Int)) rfl (run_move rfl rfl) ?_
   simp only [Act.put,q1,q2,q3]
   refine LV (v := .bool true) rfl (run_ltI (c := true) rfl rfl rfl (by rw [decide_eq_true_eq]; have := hI2.2; omega)) ?_
   simp only [Act.put,q1,q2,q3]
   refine LV (v := .bool true) rfl (run_pick (b := true) rfl rfl rfl) ?_
   simp only [Act.put,q1,q2,q3]
   refine wpList_nil ?_
   change Code.wp _ _ _ _ _
   refine wp_cond_true rfl ?_
   refine wp_skip ?_
   change Code.wp _ _ _ _ _
   refine wp_seq ?_
   refine wp_block ?_
   -- region 5
   refine wp_region_lit ?_
   refine LV (v := vr) rfl (run_move rfl rfl) ?_
   simp only [Act.put,q1,q2,q3]
   refine LV (v := .pointer (some ⟨b0, 1, none⟩)) rfl (run_fieldRaw1 rfl rfl) ?_
   simp only [Act.put,q1,q2,q3]
   refine LV (v := sx) rfl (run_cell rfl isAgg_words rfl (E.2.2.1) rfl) ?_
   simp only [Act.put,q1,q2,q3]
   refine LV (v := .int .i64 ((i : Nat) : Int)) rfl (run_move rfl rfl) ?_
   simp only [Act.put,q1,q2,q3]
   obtain ⟨gb, go, cp, hsx2, hcl⟩ := Sl.at (Sl.below hsl (E.2.2.2.1)) hi9
   refine LV (v := .pointer (some ⟨gb, go + i * 1, none⟩)) rfl (run_idx rfl Try.underlying22 (by kernel_rfl) hsx2 rfl rfl hi9) ?_
   simp only [Act.put,q1,q2,q3]
   refine LV (v := .int .u32 ((gd l i : Nat) : Int)) rfl (run_loadC rfl isAgg_u32 rfl hcl) ?_
   simp only [Act.put,q1,q2,q3]
   refine L1 rfl (Oper.wp_litw rfl rfl ?_)
   intro b6 w6 e6 z6 d6 x6
   replace E := (E.below d6).x x6
   clear e6 z6 d6 x6
   simp only [Act.put,q1,q2,q3]
   have hb1 := Bx.lt (E.2.2.1)
   refine L1 rfl (Oper.wp_appendW _ _ rfl (b1 + 1) (l := [fB b1 false (.slice none 0 0), fX b0 (25) ([.bool n, sx]), fW w]) vr i (wcs (l.take i)) rfl (E.2.1) (Env.b (Env.x (Env.ww (Env.nil _) (E.2.2.2.2.1)) (E.2.2.2.1)) (E.2.2.1)) ⟨plB, plX, plW, trivial⟩ (fun g hg hb => ⟨okB (by omega), okX (by omega), okW (by omega), trivial⟩) ⟨b6, 0, none⟩ 1 1 [.int .u32 ((gd l i : Nat) : Int)] rfl rfl (fun j u hu => by rw [Addr.add_lit, Nat.zero_add, Bx.cell (E.1)]; exact hu) (fun u hu => by simp at hu; subst hu; rfl) (by unfold maxLen; omega) (by omega) hb1 ?_)
   clear E
   intro v14 w14 hR14 E
   replace E := E.g hR14
   clear hR14 hb1
   simp only [Act.put,q1,q2,q3]
   refine LV (v := v14) rfl (run_assign rfl rfl) ?_
   simp only [Act.put,q1,q2,q3]
   refine wpList_nil ?_
   change Code.wp _ _ _ _ _
   -- region 4
   refine wp_region_lit ?_
   refine LV (v := .int .i64 ((i : Nat) : Int)) rfl (run_move rfl rfl) ?_
   simp only [Act.put,q1,q2,q3]
   refine LV (v := .int .i64 ((i + 1 : Nat) : Int)) rfl (run_addI rfl rfl rfl (by rw [IntWalk.i64_in _ (by omega)]; omega)) ?_
   simp only [Act.put,q1,q2,q3]
   refine LV (v := .int .i64 ((i + 1 : Nat) : Int)) rfl (run_assign rfl rfl) ?_
   simp only [Act.put,q1,q2,q3]
   refine wpList_nil ?_
   have hO := E.1
   rw [show wcs (l.take i) ++ [.int .u32 ((gd l i : Nat) : Int)] = wcs (l.take (i + 1)) by rw [take_snoc_gd l i hi9, wcs_append]; rfl] at hO
   replace E := E.g hO
   exact ⟨_, (by omega), i + 1, v14, _, _, _, _, _, _, _, _, _, _, _, _, _, _, _, _, _, _, _, _, rfl, (Env.g (Env.b (Env.x (Env.ww (Env.nil _) (E.2.2.2.2.1)) (E.2.2.2.1)) (E.2.2.1)) (E.1)), rfl, ⟨by omega, by omega⟩⟩
end Go.Proofs.Ytjgmfdenicbniaa
