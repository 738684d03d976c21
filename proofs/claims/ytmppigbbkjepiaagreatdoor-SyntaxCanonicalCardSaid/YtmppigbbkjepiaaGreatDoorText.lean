/- Walk: integer.Text. (Printed by g_text.py.) -/
import Derived.Test.YtmppigbbkjepiaaGreatDoorDecim
namespace Go.Proofs.YtmppigbbkjepiaaGreatDoor
open Go.Proofs.Tryz
open Go.RowKit W
set_option maxRecDepth 100000 in
set_option maxHeartbeats 8000000 in
theorem wS (va : Value) (x : Int) (w : World) (hva : IsI w va x) (Fx : Fits x 1000000) :
    Calls prog 169 #[va] w (RetT w x) := by
 have E := Env.start w
 obtain ⟨f, e, rfl, _, _⟩ := hva.sh
 replace E := E.i hva
 clear hva
 have b6 := FY E.1
 go_enter func169, ntmps169
 refine zG ?_
 refine EF O (CI O O ?_)
 intro t w1 e1 z1 d1 x1
 have l1 : w.heap.size ≤ t := by rw [e1]; exact E.2.1.size
 replace E := E.below d1
 clear e1 z1 d1
 replace E := E.b x1
 clear x1
 refine zG ?_
 refine EF O (EH eT O (Bh _ _ _ (IsI.sl E.2.1)) O E ?_)
 clear E
 intro w2 v2 _ E
 refine zG ?_
 refine EF O (EH cM O (WP _ (CB x.natAbs) _ E.1 (Nat.le_trans (Fx : Fits x 1000000) AD)) O E ?_)
 clear E
 intro w3 v3 _ E
 replace E := E.g (WU _ (t + 1) 217 9 ZD)
 refine zG ?_
 refine wp_loop_ghost (fun mz a w' => ∃ (m : Nat) (L : List Nat) (vc : Value) (X : Value) (g5 g6 g7 bl bk bj ad ac ab aa a9 a8 T S R Q P N J H G F C B a3 a2 a1 a0 : Value), a = ⟨#[.agg #[.bool f, e], .pointer (some ⟨t, 0, none⟩), .string ⟨#[]⟩, vc, X, g5, g6, g7, undef, undef, .pointer (some ⟨t, 1, none⟩), e, v2, v3, bl, bk, bj, ad, ac, ab, aa, a9, a8, T, S, R, Q, P, N, J, H, G, F, C, B, a3, a2, a1, a0, undef, undef, undef, undef, undef, undef, undef, undef, undef, undef, undef, undef, undef, undef, undef, undef, undef, undef, undef, undef, undef, undef, undef, undef, undef, undef, undef, undef, undef, undef, undef, undef], []⟩ ∧ Env w' [fG (t + 1) (217) 9 ZD vc L.length (cA (L.flatMap (TY 9))), fS X (CB m), fB t f e, fI (.agg #[.bool f, e]) x, fW w] ∧ mz = m ∧ x.natAbs = ZT L + 1000000000 ^ L.length * m ∧ (∀ c ∈ L, c < 1000000000) ∧ m ≤ x.natAbs ∧ (L ≠ [] → x.natAbs ≠ 0) ∧ L.length ≤ 2000001) (x.natAbs) ⟨x.natAbs, [], .slice none 0 0, v3, _, _, _, _, _, _, _, _, _, _, _, _, _, _, _, _, _, _, _, _, _, _, _, _, _, _, _, _, O, (Env.g zE E.1), O, ⟨by simp [ZT], by simp, Nat.le_refl _, fun h => absurd O h, by simp⟩⟩ ?_
 rintro m4 _ w4 ⟨m, L, vc, X, g5, g6, g7, bl, bk, bj, ad, ac, ab, aa, a9, a8, T, S, R, Q, P, N, J, H, G, F, C, B, a3, a2, a1, a0, rfl, E, c2, o⟩
 by_cases hz : m = 0
 case neg =>
  have hk := tC o.1 hz (Fits.lt Fx)
  have c5 : m % 1000000000 < 1000000000 := Nat.mod_lt _ AD
  have c4 : (CB m).length ≤ 1000000000 := Nat.le_trans (FO o.2.2.1) (Nat.le_trans (Fx : Fits x 1000000) AD)
  obtain ⟨cm, ca, b7⟩ := Sl.shape E.2.1
  refine zG ?_
  refine V (v := .int .i64 ↑((CB m).length)) O O (RM O b7) ?_
  refine zG ?_
  refine V (v := .bool true) O O (TV (c := true) O O O ((by rw [decide_eq_true_eq]; have := Hl hz; omega))) ?_
  refine zG ?_
  refine EF O (kH UD O (wG _ m 1000000000 _ E.2.1 c4 AD AD) O E ?_)
  clear E
  intro ct y _ E
  have lc : ∀ gg, vc.ownBlock = some gg → gg < _ := fun gg hg => (RowG.blk E.2.1 hg).2
  refine zG ?_
  refine EF O (CA Ag9 O ?_)
  intro ae cr VE bp bn b3
  have cx : t < ae := by rw [VE]; exact Bx.lt E.2.2.2.1
  rw [← VE] at lc
  replace E := (E.below bn).x b3
  clear VE bp bn b3
  have a5 := E.1
  rw [Nf (m % 1000000000)] at a5
  replace E := E.x a5
  refine zG ?_
  refine wp_loop_ghost (fun mz a w' => ∃ (j : Nat) (cu : Nat) (g7 T S R Q P N J H G F C B : Value), a = ⟨#[.agg #[.bool f, e], .pointer (some ⟨t, 0, none⟩), .string ⟨#[]⟩, vc, y, .int .u64 ↑cu, .pointer (some ⟨ae, 0, none⟩), g7, undef, undef, .pointer (some ⟨t, 1, none⟩), e, v2, v3, X, .int .i64 ↑((CB m).length), .bool true, .tuple #[y, .int .u64 ↑(m % 1000000000)], X, .tuple #[y, .int .u64 ↑(m % 1000000000)], y, .int .u64 ↑(m % 1000000000), .int .i64 ↑j, T, S, R, Q, P, N, J, H, G, F, C, B, a3, a2, a1, a0, undef, undef, undef, undef, undef, undef, undef, undef, undef, undef, undef, undef, undef, undef, undef, undef, undef, undef, undef, undef, undef, undef, undef, undef, undef, undef, undef, undef, undef, undef, undef, undef], []⟩ ∧ Env w' [fX ae (217) (cl j (m % 1000000000)), fS y (CB (m / 1000000000)), fG (t + 1) (217) 9 ZD vc L.length (cA (L.flatMap (TY 9))), fS X (CB m), fB t f e, fI (.agg #[.bool f, e]) x, fW w] ∧ mz = 9 - j ∧ j ≤ 9 ∧ cu = m % 1000000000 / 10 ^ j) (9) ⟨0, m % 1000000000, _, _, _, _, _, _, _, _, _, _, _, _, _, O, (Env.x (Env.s (Env.g zE E.2.2.2.1) E.2.2.1) E.1), O, ⟨by decide, by simp⟩⟩ ?_
  rintro cw _ cq ⟨j, cu, g7, T, S, R, Q, P, N, J, H, G, F, C, B, rfl, E, cc, af⟩
  by_cases hj : j = 9
  case pos =>
   subst hj
   have b5 := E.1
   rw [Ng] at b5
   refine zG ?_
   refine V (v := .agg (cA (TY 9 (m % 1000000000))).toArray) O O (CT Ag9 O O b5 (by rw [JU, GT])) ?_
   refine zG ?_
   refine EF O (DY underlying216 Ag9 (by rw [JU, GT]) AD AD O O ?_)
   intro cb cp e15 bo bm b2
   replace E := (E.below bm).x b2
   clear e15 bo bm b2
   obtain ⟨i9, aj, bt, bv, c6⟩ := info_parts Ct
   have d3 := Bx.lt E.2.2.2.2.2.1
   refine zG ?_
   refine EF O (UX _ _ _ O (t + 1) 217 i9 _ 9 9 underlying216 aj bt bv c6 O AD ZD Hs yZ vc L.length (cA (L.flatMap (TY 9))) O E.2.2.2.1 (l := [fS y (CB (m / 1000000000)), fS X (CB m), fB t f e, fI (.agg #[.bool f, e]) x, fW w]) zE (fun g hg hb => ⟨BW, BW, okB Z, BW, JD Z, BW⟩) ⟨cb, 0, none⟩ 1 1 (cA (TY 9 (m % 1000000000))) O (by rw [JU, GT]) (fun j u hu => by rw [Addr.add_lit, Nat.zero_add, Bx.cell E.1]; exact hu) (zV _) (rY _) (by unfold maxLen; omega) Z Z ?_)
   clear E
   intro bq co E
   have hO := E.1
   rw [← ZJ, ← cR] at hO
   replace E := E.g (n := (L ++ [m % 1000000000]).length) (by rw [List.length_append, List.length_singleton]; exact hO)
   refine zG ?_
   exact ⟨_, (by rw [c2]; omega), m / 1000000000, L ++ [m % 1000000000], bq, y, _, _, _, _, _, _, _, _, _, _, _, _, _, _, _, _, _, _, _, _, _, _, _, _, _, _, _, _, O, (Env.g zE E.1), O, ⟨wL o.1, Dq o.2.1 m, Nat.le_trans (Nat.div_le_self _ _) o.2.2.1, fun _ => (by have := o.2.2.1; omega), by rw [List.length_append, List.length_singleton]; omega⟩⟩
  have ai : j < 9 := by have := af.1; omega
  have ak := af.2
  have d2 : cu < 1000000000 := by rw [ak]; exact Nat.lt_of_le_of_lt (Nat.div_le_self _ _) c5
  refine zG ?_
  refine V (v := .int .i64 ↑(8 - j)) O O (GJ O O O (by rw [IntWalk.i64_in _ Z]; omega)) ?_
  refine zG ?_
  refine V (v := .int .u64 ↑(cu % 10)) O O (FB O O O AD (VL _ 10)) ?_
  refine zG ?_
  refine V (v := .int .u64 ↑(48 + cu % 10)) O O (JJ O O O (EJ Z Z)) ?_
  refine zG ?_
  refine V (v := .int .u8 ↑(48 + cu % 10)) O O (ES O O (by rw [underlying161]; rfl) underlying5 (OQ Z Z)) ?_
  refine zG ?_
  refine V (v := .pointer (some ⟨ae, 0 + (8 - j) * 1, none⟩)) O O (DX O underlying217 I O O O Z) ?_
  have ah := E.1
  replace E := (Env.s (Env.g (Env.s (Env.b (Env.i (Env.ww (Env.nil _) E.2.2.2.2.2.2.1) E.2.2.2.2.2.1) E.2.2.2.2.1) E.2.2.2.1) E.2.2.1) E.2.1)
  refine zG ?_
  refine EF O (CF (v := .int .u8 ↑(48 + cu % 10)) O I O O O ah (by rw [Dp _ Z]; omega) ?_)
  intro cn b4 ag
  rw [Rm ai (by rw [ak])] at ag
  replace E := (E.onl (ah.noW (Rn _ _)) ⟨BW, okG (fun h => absurd (lc _ h) (Nat.lt_irrefl _)), BW, okB Z, BW, JD Z, BW⟩ b4).x ag
  clear ah b4 ag
  refine zG ?_
  refine V (v := .int .u64 ↑(cu / 10)) O O (Fr O O O AD (Lf Z)) ?_
  refine zG ?_
  exact ⟨_, Z, j + 1, cu / 10, _, _, _, _, _, _, _, _, _, _, _, _, _, rfl, (Env.x (Env.s (Env.g zE E.2.2.1) E.2.1) E.1), rfl, ⟨by omega, by rw [ak, Nat.pow_succ, ← Nat.div_div_eq_div_mul]⟩⟩
 obtain ⟨d8, ck, bz⟩ := Sl.shape E.2.1
 refine zG ?_
 refine V (v := .int .i64 ↑((CB m).length)) O O (RM O bz) ?_
 refine zG ?_
 refine V (v := .bool false) O O (TV (c := false) O O O ((by rw [hz, DU]; rfl))) ?_
 rw [hz, Nat.mul_zero, Nat.add_zero] at o
 by_cases hL : L = []
 case pos =>
  have a5 : x = 0 := by have h1 := o.1; rw [hL, ZT] at h1; omega
  obtain ⟨d7, cj, bx⟩ := RowG.shape E.1
  refine zG ?_
  refine V (v := .int .i64 ↑L.length) O O (aD O bx) ?_
  refine zG ?_
  refine V (v := .bool true) O O (GQ (c := true) O O O (by rw [hL]; rfl)) ?_
  refine zG ?_
  exact ⟨by rw [a5, Ej], E.2.2.2.2.1⟩
 have d4 := List.length_pos_iff.2 hL
 obtain ⟨d6, ci, bw⟩ := RowG.shape E.1
 refine zG ?_
 refine V (v := .int .i64 ↑L.length) O O (aD O bw) ?_
 obtain ⟨U, k, rfl, cg, cf⟩ := RowG.pos E.1 Z
 have d0 := (RowG.blk (g := U) E.1 rfl).2
 have ch := Bx.lt E.2.2.1
 refine zG ?_
 refine V (v := .int .i64 ↑L.length) O O (aD O O) ?_
 replace E := (E.n (Nat.le_refl _)).g (WU _ w4.heap.size 5 1 ZD)
 refine zG ?_
 refine wp_loop_ghost (fun mz a w' => ∃ (i : Nat) (vt : Value) (g9 bi b0 az ay ax aw av au ar aq ap ao an : Value), a = ⟨#[.agg #[.bool f, e], .pointer (some ⟨t, 0, none⟩), .string ⟨#[]⟩, .slice (some ⟨U, 0, none⟩) L.length k, X, g5, g6, g7, vt, g9, .pointer (some ⟨t, 1, none⟩), e, v2, v3, X, .int .i64 ↑((CB m).length), .bool false, ad, ac, ab, aa, a9, a8, T, S, R, Q, P, N, J, H, G, F, C, B, a3, a2, a1, a0, .slice (some ⟨U, 0, none⟩) L.length k, .int .i64 ↑L.length, .bool false, .slice (some ⟨U, 0, none⟩) L.length k, .int .i64 ↑L.length, .int .i64 ↑i, bi, b0, az, ay, ax, aw, av, au, ar, aq, ap, ao, an, undef, undef, undef, undef, undef, undef, undef, undef, undef, undef, undef, undef, undef], []⟩ ∧ Env w' [fG w4.heap.size (5) 1 ZD vt (9 * i) (cA ((L.reverse.take i).flatMap (TY 9))), fN w4.heap.size, fG (t + 1) (217) 9 ZD (.slice (some ⟨U, 0, none⟩) L.length k) L.length (cA (L.flatMap (TY 9))), fB t f e, fI (.agg #[.bool f, e]) x, fW w] ∧ mz = L.length - i ∧ i ≤ L.length) (L.length) ⟨0, .slice none 0 0, _, _, _, _, _, _, _, _, _, _, _, _, _, _, O, (Env.g (Env.n (Env.g zE E.2.2.1) E.2.1) E.1), O, Nat.zero_le _⟩ ?_
 rintro m8 _ w8 ⟨i, vt, g9, bi, b0, az, ay, ax, aw, av, au, ar, aq, ap, ao, an, rfl, E, cz, d5⟩
 by_cases hi : i = L.length
 case neg =>
  have aj : i < L.length := by omega
  refine zG ?_
  refine V (v := .int .i64 ↑L.length) O O (aD O O) ?_
  refine zG ?_
  refine V (v := .int .i64 ↑(L.length - 1)) O O (GJ O O O (by rw [IntWalk.i64_in _ Z]; omega)) ?_
  refine zG ?_
  refine V (v := .int .i64 ↑(L.length - 1 - i)) O O (GJ O O O (by rw [IntWalk.i64_in _ Z]; omega)) ?_
  refine zG ?_
  refine V (v := .pointer (some ⟨U, 0 + (L.length - 1 - i) * 9, none⟩)) O O (TU O underlying216 I O O O Z) ?_
  refine zG ?_
  refine V (v := .slice (some ⟨U, 0 + (L.length - 1 - i) * 9, none⟩) 9 9) O O (qN O O) ?_
  obtain ⟨i1, c3, bu, c0, c7⟩ := info_parts Mg
  refine zG ?_
  refine EF O (UX _ _ _ O w4.heap.size 5 i1 _ 1 1 underlying42 c3 bu c0 c7 O AD ZD Cr yZ vt (9 * i) (cA ((L.reverse.take i).flatMap (TY 9))) O E.1 (l := [fN w4.heap.size, fG (t + 1) (217) 9 ZD (.slice (some ⟨U, 0, none⟩) L.length k) L.length (cA (L.flatMap (TY 9))), fB t f e, fI (.agg #[.bool f, e]) x, fW w]) (Env.n (Env.g zE E.2.2.1) E.2.1) (fun g hg hb => ⟨BW, okG (fun h => by simp only [Value.ownBlock, Option.some.injEq] at h; omega), okB Z, BW, JD Z, BW⟩) ⟨U, 0 + (L.length - 1 - i) * 9, none⟩ 9 9 (cA (TY 9 (gd L (L.length - 1 - i)))) O (by rw [JU, GT]) (fun j u hu => by have ai : j < 9 := (by have := (List.getElem?_eq_some_iff.1 hu).1; rwa [JU, GT] at this); rw [Addr.add_lit]; exact RowG.cell E.2.2.1 (by rw [Hx L _ j Z ai]; exact hu)) (zV _) (rY _) (by unfold maxLen; omega) Z E.2.1 ?_)
  clear E
  intro br cv E
  have hO := E.1
  rw [← ZJ, ← cR, ← oC L i aj, show 9 * i + 9 = 9 * (i + 1) from by omega] at hO
  replace E := E.g hO
  refine zG ?_
  exact ⟨_, Z, i + 1, br, _, _, _, _, _, _, _, _, _, _, _, _, _, _, rfl, (Env.g (Env.n (Env.g zE E.2.2.2.1) E.2.2.1) E.1), rfl, Z⟩
 rw [hi, ← List.length_reverse, List.take_length, List.length_reverse] at E
 obtain ⟨D, hD⟩ : ∃ D, D = L.reverse.flatMap (TY 9) := ⟨_, rfl⟩
 rw [← hD] at E
 have a7 : D.length = 9 * L.length := by rw [hD, sM, List.length_reverse]
 have c9 : Dg D := by rw [hD]; exact Mm _
 have b9 : DE D = x.natAbs := by rw [hD, uD L o.2.1]; exact o.1.symm
 obtain ⟨gt, a4, rfl, ce, cd⟩ := RowG.pos E.1 Z
 have c1 : 0 < DE D := by rw [b9]; exact Nat.pos_of_ne_zero (o.2.2.2.1 hL)
 have ba : KM D = VG x.natAbs := by rw [Bp c9 c1, b9]
 have c8 : KM D ≠ [] := by rw [ba]; exact wJ _
 refine zG ?_
 refine wp_loop_ghost (fun mz a w' => ∃ (p : Nat) (bh bg bf bd bc bb : Value), a = ⟨#[.agg #[.bool f, e], .pointer (some ⟨t, 0, none⟩), .string ⟨#[]⟩, .slice (some ⟨U, 0, none⟩) L.length k, X, g5, g6, g7, .slice (some ⟨gt, p, none⟩) (9 * L.length - p) (a4 - p), g9, .pointer (some ⟨t, 1, none⟩), e, v2, v3, X, .int .i64 ↑((CB m).length), .bool false, ad, ac, ab, aa, a9, a8, T, S, R, Q, P, N, J, H, G, F, C, B, a3, a2, a1, a0, .slice (some ⟨U, 0, none⟩) L.length k, .int .i64 ↑L.length, .bool false, .slice (some ⟨U, 0, none⟩) L.length k, .int .i64 ↑L.length, .int .i64 ↑i, .bool false, b0, az, ay, ax, aw, av, au, ar, aq, ap, ao, an, bh, bg, bf, bd, bc, bb, undef, undef, undef, undef, undef, undef, undef], []⟩ ∧ Env w' [fG w4.heap.size (5) 1 ZD (.slice (some ⟨gt, 0, none⟩) (9 * L.length) a4) (9 * L.length) (cA D), fN w4.heap.size, fG (t + 1) (217) 9 ZD (.slice (some ⟨U, 0, none⟩) L.length k) L.length (cA (L.flatMap (TY 9))), fB t f e, fI (.agg #[.bool f, e]) x, fW w] ∧ mz = 9 * L.length - p ∧ p < 9 * L.length ∧ KM (D.drop p) = KM D) (9 * L.length) ⟨0, _, _, _, _, _, _, O, (Env.g (Env.n (Env.g zE E.2.2.1) E.2.1) E.1), O, ⟨by omega, O⟩⟩ ?_
 rintro m9 _ w9 ⟨p, bh, bg, bf, bd, bc, bb, rfl, E, cy, a6⟩
 have Y : p < D.length := by rw [a7]; exact a6.1
 by_cases hp : gd D p = 0
 case pos =>
  have b8 := uM Y hp a6.2 c8
  rw [a7] at b8
  refine zG ?_
  refine V (v := .pointer (some ⟨gt, p + 0 * 1, none⟩)) O O (TU O underlying42 I O O O Z) ?_
  have am : _ = _ := RowG.cell E.1 (gK D p Y)
  refine zG ?_
  refine V (v := .int .u8 ↑(48 + gd D p)) O O (IT O sF O am) ?_
  refine zG ?_
  refine V (v := .slice (some ⟨gt, p + 1, none⟩) (9 * L.length - p - 1) (a4 - p - 1)) O O (Cd O O O Z Z Z) ?_
  refine zG ?_
  exact ⟨_, Z, p + 1, _, _, _, _, _, _, rfl, (Env.g (Env.n (Env.g zE E.2.2.1) E.2.1) E.1), rfl, ⟨b8, hZ Y hp a6.2⟩⟩
 have z := uP Y hp a6.2
 rw [ba] at z
 refine zG ?_
 refine V (v := .pointer (some ⟨gt, p + 0 * 1, none⟩)) O O (TU O underlying42 I O O O Z) ?_
 have am : _ = _ := RowG.cell E.1 (gK D p Y)
 refine zG ?_
 refine V (v := .int .u8 ↑(48 + gd D p)) O O (IT O sF O am) ?_
 by_cases hx : x < 0
 case neg =>
  refine zG ?_
  refine AO (congrArg Value.bool (by rw [b6]; simp [hx])) ?_
  have al : ∀ q, q < 9 * L.length - p → _ = _ := fun q hq => RowG.cell E.1 (gK D (p + q) Z)
  refine zG ?_
  refine V (v := .string (strOfNums ((D.drop p).map fun d => ((48 + d : Nat) : Int)))) O O (xY O underlying42 underlying5 underlying9 O (by rw [List.length_map, List.length_drop, a7]) (fun q hq => by rw [al q hq, zN D p q Z])) ?_
  refine zG ?_
  exact ⟨congrArg (fun s => Ending.returned (.string s)) (Ke hx z), E.2.2.2.2.2.1⟩
 refine zG ?_
 refine AN (congrArg Value.bool (by rw [b6]; simp [hx])) ?_
 have al : ∀ q, q < 9 * L.length - p → _ = _ := fun q hq => RowG.cell E.1 (gK D (p + q) Z)
 refine zG ?_
 refine V (v := .string (strOfNums ((D.drop p).map fun d => ((48 + d : Nat) : Int)))) O O (xY O underlying42 underlying5 underlying9 O (by rw [List.length_map, List.length_drop, a7]) (fun q hq => by rw [al q hq, zN D p q Z])) ?_
 refine zG ?_
 refine V (v := .string ((⟨#[45]⟩ : ByteArray) ++ strOfNums ((D.drop p).map fun d => ((48 + d : Nat) : Int)))) O O (fQ O O O (by rw [strOfNums_size, List.length_map, List.length_drop]; show 1 + _ ≤ _; omega)) ?_
 refine zG ?_
 exact ⟨congrArg (fun s => Ending.returned (.string s)) (Kf hx z), E.2.2.2.2.2.1⟩
end Go.Proofs.YtmppigbbkjepiaaGreatDoor
