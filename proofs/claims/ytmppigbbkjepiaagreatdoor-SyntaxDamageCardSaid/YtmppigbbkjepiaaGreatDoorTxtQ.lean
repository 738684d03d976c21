/- Helping facts of Text; no other conditions. Helping facts of RefT; no other conditions. Helping facts of StoreS; no other conditions. Helping facts of LawB; no other conditions. Helping facts of MadeL; no other conditions. Helping facts of TxtQ; no other conditions. -/
import Derived.Test.YtmppigbbkjepiaaGreatDoorRefA
import Derived.Test.YtmppigbbkjepiaaGreatDoorParse
import Derived.Test.YtmppigbbkjepiaaGreatDoorMono
import Derived.Test.YtmppigbbkjepiaaGreatDoorShelf
import Derived.Lib.CutLaws
import Derived.Lib.IndexLaws
import Derived.Laws.Strings3
import Derived.Shelf.RegionOpenPlain
import Derived.WalkKit
import Derived.Lib.Walk
import Derived.BigCall
import Derived.BigGuard
namespace Go.Proofs.YtmppigbbkjepiaaGreatDoor
open Go.Proofs.Tryz
open Go.RowKit W
set_option maxRecDepth 100000 in
set_option maxHeartbeats 8000000 in
theorem Ac (va : Value) (x : Int) (w : World) (hva : IsI w va x) (Fx : Fits x 1000000) :
    Calls prog 169 #[va] w (RetT w x) := by
 have E := Env.start w
 obtain ⟨f, e, rfl, _, _⟩ := hva.sh
 replace E := E.i hva
 have b3 := KV E.1
 go_enter func169, ntmps169
 refine zG ?_
 refine EF O (CI O O ?_)
 intro t w1 e1 z1 d1 x1
 have l1 : w.heap.size ≤ t := by rw [e1]; exact E.2.1.size
 replace E := E.below d1
 clear e1
 replace E := E.b x1
 refine zG ?_
 refine EF O (ER hZ O (Et _ _ _ (IsI.sl E.2.1)) O E ?_)
 intro w2 v2 d2 E
 refine zG ?_
 refine EF O (ER eQ O (XU _ (CC x.natAbs) _ E.1 (Nat.le_trans (Fx : Fits x 1000000) AE)) O E ?_)
 intro w3 v3 d3 E
 replace E := E.g (YB _ (t + 1) 217 9 aG)
 refine zG ?_
 refine wp_loop_ghost (fun mz a w' => ∃ (m : Nat) (L : List Nat) (vc : Value) (U : Value) (g5 g6 g7 bi bh bg ad ac ab aa a9 a8 S R Q P N J I H G F C B a2 a1 a0 Y : Value), a = ⟨#[.agg #[.bool f, e], .pointer (some ⟨t, 0, none⟩), .string ⟨#[]⟩, vc, U, g5, g6, g7, undef, undef, .pointer (some ⟨t, 1, none⟩), e, v2, v3, bi, bh, bg, ad, ac, ab, aa, a9, a8, S, R, Q, P, N, J, I, H, G, F, C, B, a2, a1, a0, Y, undef, undef, undef, undef, undef, undef, undef, undef, undef, undef, undef, undef, undef, undef, undef, undef, undef, undef, undef, undef, undef, undef, undef, undef, undef, undef, undef, undef, undef, undef, undef, undef], []⟩ ∧ Env w' [fG (t + 1) (217) 9 aG vc L.length (dW (L.flatMap (VG 9))), fS U (CC m), fB t f e, fI (.agg #[.bool f, e]) x, fW w] ∧ mz = m ∧ x.natAbs = bB L + 1000000000 ^ L.length * m ∧ (∀ c ∈ L, c < 1000000000) ∧ m ≤ x.natAbs ∧ (L ≠ [] → x.natAbs ≠ 0) ∧ L.length ≤ 2000001) (x.natAbs) ⟨x.natAbs, [], .slice none 0 0, v3, _, _, _, _, _, _, _, _, _, _, _, _, _, _, _, _, _, _, _, _, _, _, _, _, _, _, _, _, O, (Env.g zE E.1), O, ⟨by simp [bB], by simp, Nat.le_refl _, fun h => absurd O h, by simp⟩⟩ ?_
 rintro m4 _ w4 ⟨m, L, vc, U, g5, g6, g7, bi, bh, bg, ad, ac, ab, aa, a9, a8, S, R, Q, P, N, J, I, H, G, F, C, B, a2, a1, a0, Y, rfl, E, bx, o⟩
 by_cases hz : m = 0
 case neg =>
  have hk := vK o.1 hz (Fits.lt Fx)
  have c2 : m % 1000000000 < 1000000000 := Nat.mod_lt _ AE
  have c1 : (CC m).length ≤ 1000000000 := Nat.le_trans (FX o.2.2.1) (Nat.le_trans (Fx : Fits x 1000000) AE)
  obtain ⟨ck, c9, b4⟩ := Sl.shape E.2.1
  refine zG ?_
  refine V (v := .int .i64 ↑((CC m).length)) O O (ST O b4) ?_
  refine zG ?_
  refine V (v := .bool true) O O (VB (c := true) O O O ((by rw [decide_eq_true_eq]; have := Md hz; omega))) ?_
  refine zG ?_
  refine EF O (lZ VL O (zP _ m 1000000000 _ E.2.1 c1 AE AE) O E ?_)
  intro cv y d9 E
  have lc : ∀ gg, vc.ownBlock = some gg → gg < _ := fun gg hg => (RowG.blk E.2.1 hg).2
  refine zG ?_
  refine EF O (CB Ag9 O ?_)
  intro ae ct TI cn c8 bk
  have cy : t < ae := by rw [TI]; exact Bx.lt E.2.2.2.1
  rw [← TI] at lc
  replace E := (E.below c8).x bk
  clear TI
  have a4 := E.1
  rw [Sr (m % 1000000000)] at a4
  replace E := E.x a4
  refine zG ?_
  refine wp_loop_ghost (fun mz a w' => ∃ (j : Nat) (cu : Nat) (g7 S R Q P N J I H G F C B : Value), a = ⟨#[.agg #[.bool f, e], .pointer (some ⟨t, 0, none⟩), .string ⟨#[]⟩, vc, y, .int .u64 ↑cu, .pointer (some ⟨ae, 0, none⟩), g7, undef, undef, .pointer (some ⟨t, 1, none⟩), e, v2, v3, U, .int .i64 ↑((CC m).length), .bool true, .tuple #[y, .int .u64 ↑(m % 1000000000)], U, .tuple #[y, .int .u64 ↑(m % 1000000000)], y, .int .u64 ↑(m % 1000000000), .int .i64 ↑j, S, R, Q, P, N, J, I, H, G, F, C, B, a2, a1, a0, Y, undef, undef, undef, undef, undef, undef, undef, undef, undef, undef, undef, undef, undef, undef, undef, undef, undef, undef, undef, undef, undef, undef, undef, undef, undef, undef, undef, undef, undef, undef, undef, undef], []⟩ ∧ Env w' [fX ae (217) (cl j (m % 1000000000)), fS y (CC (m / 1000000000)), fG (t + 1) (217) 9 aG vc L.length (dW (L.flatMap (VG 9))), fS U (CC m), fB t f e, fI (.agg #[.bool f, e]) x, fW w] ∧ mz = 9 - j ∧ j ≤ 9 ∧ cu = m % 1000000000 / 10 ^ j) (9) ⟨0, m % 1000000000, _, _, _, _, _, _, _, _, _, _, _, _, _, O, (Env.x (Env.s (Env.g zE E.2.2.2.1) E.2.2.1) E.1), O, ⟨by decide, by simp⟩⟩ ?_
  rintro cx _ cr ⟨j, cu, g7, S, R, Q, P, N, J, I, H, G, F, C, B, rfl, E, cb, af⟩
  by_cases hj : j = 9
  case pos =>
   subst hj
   have b2 := E.1
   rw [Ss] at b2
   refine zG ?_
   refine V (v := .agg (dW (VG 9 (m % 1000000000))).toArray) O O (CT Ag9 O O b2 (by rw [KN, GZ])) ?_
   refine zG ?_
   refine EF O (DT underlying216 Ag9 (by rw [KN, GZ]) AE AE O O ?_)
   intro ca cq Iy cm c7 bj
   replace E := (E.below c7).x bj
   clear Iy
   obtain ⟨i9, ah, bo, bq, c3⟩ := info_parts Hc
   have d6 := Bx.lt E.2.2.2.2.2.1
   refine zG ?_
   refine EF O (VZ _ _ _ O (t + 1) 217 i9 _ 9 9 underlying216 ah bo bq c3 O AE aG Ml Ck vc L.length (dW (L.flatMap (VG 9))) O E.2.2.2.1 (l := [fS y (CC (m / 1000000000)), fS U (CC m), fB t f e, fI (.agg #[.bool f, e]) x, fW w]) zE (fun g hg hb => ⟨BX, BX, okB AA, BX, IS AA, BX⟩) ⟨ca, 0, none⟩ 1 1 (dW (VG 9 (m % 1000000000))) O (by rw [KN, GZ]) (fun j u hu => by rw [Addr.add_lit, Nat.zero_add, Bx.cell E.1]; exact hu) (Db _) (uH _) (by unfold maxLen; omega) AA AA ?_)
   intro bl cp E
   have hO := E.1
   rw [← aO, ← eT] at hO
   replace E := E.g (n := (L ++ [m % 1000000000]).length) (by rw [List.length_append, List.length_singleton]; exact hO)
   refine zG ?_
   exact ⟨_, (by rw [bx]; omega), m / 1000000000, L ++ [m % 1000000000], bl, y, _, _, _, _, _, _, _, _, _, _, _, _, _, _, _, _, _, _, _, _, _, _, _, _, _, _, _, _, O, (Env.g zE E.1), O, ⟨zW o.1, Hz o.2.1 m, Nat.le_trans (Nat.div_le_self _ _) o.2.2.1, fun _ => (by have := o.2.2.1; omega), by rw [List.length_append, List.length_singleton]; omega⟩⟩
  have ag : j < 9 := by have := af.1; omega
  have ai := af.2
  have d5 : cu < 1000000000 := by rw [ai]; exact Nat.lt_of_le_of_lt (Nat.div_le_self _ _) c2
  refine zG ?_
  refine V (v := .int .i64 ↑(8 - j)) O O (JC O O O (by rw [IntWalk.i64_in _ AA]; omega)) ?_
  refine zG ?_
  refine V (v := .int .u64 ↑(cu % 10)) O O (DZ O O O AE (JS _ 10)) ?_
  refine zG ?_
  refine V (v := .int .u64 ↑(48 + cu % 10)) O O (JD O O O (FD AA AA)) ?_
  refine zG ?_
  refine V (v := .int .u8 ↑(48 + cu % 10)) O O (EO O O (by rw [underlying161]; rfl) underlying5 (PT AA AA)) ?_
  refine zG ?_
  refine V (v := .pointer (some ⟨ae, 0 + (8 - j) * 1, none⟩)) O O (DS O underlying217 Z O O O AA) ?_
  have b0 := E.1
  replace E := (Env.s (Env.g (Env.s (Env.b (Env.i (Env.ww (Env.nil _) E.2.2.2.2.2.2.1) E.2.2.2.2.2.1) E.2.2.2.2.1) E.2.2.2.1) E.2.2.1) E.2.1)
  refine zG ?_
  refine EF O (CF (v := .int .u8 ↑(48 + cu % 10)) O Z O O O b0 (by rw [Hy _ AA]; omega) ?_)
  intro co bn az
  rw [Wx ag (by rw [ai])] at az
  replace E := (E.onl (b0.noW (Wy _ _)) ⟨BX, okG (fun h => absurd (lc _ h) (Nat.lt_irrefl _)), BX, okB AA, BX, IS AA, BX⟩ bn).x az
  refine zG ?_
  refine V (v := .int .u64 ↑(cu / 10)) O O (Kf O O O AE (Qj AA)) ?_
  refine zG ?_
  exact ⟨_, AA, j + 1, cu / 10, _, _, _, _, _, _, _, _, _, _, _, _, _, rfl, (Env.x (Env.s (Env.g zE E.2.2.1) E.2.1) E.1), rfl, ⟨by omega, by rw [ai, Nat.pow_succ, ← Nat.div_div_eq_div_mul]⟩⟩
 obtain ⟨dc, cj, bu⟩ := Sl.shape E.2.1
 refine zG ?_
 refine V (v := .int .i64 ↑((CC m).length)) O O (ST O bu) ?_
 refine zG ?_
 refine V (v := .bool false) O O (VB (c := false) O O O ((by rw [hz, DW]; rfl))) ?_
 rw [hz, Nat.mul_zero, Nat.add_zero] at o
 by_cases hL : L = []
 case pos =>
  have a4 : x = 0 := by have h1 := o.1; rw [hL, bB] at h1; omega
  obtain ⟨db, ci, bt⟩ := RowG.shape E.1
  refine zG ?_
  refine V (v := .int .i64 ↑L.length) O O (bN O bt) ?_
  refine zG ?_
  refine V (v := .bool true) O O (EW (c := true) O O O (by rw [hL]; rfl)) ?_
  refine zG ?_
  exact ⟨by rw [a4, sM], E.2.2.2.2.1⟩
 have d7 := List.length_pos_iff.2 hL
 obtain ⟨da, ch, br⟩ := RowG.shape E.1
 refine zG ?_
 refine V (v := .int .i64 ↑L.length) O O (bN O br) ?_
 obtain ⟨T, k, rfl, cf, ce⟩ := RowG.pos E.1 AA
 have d4 := (RowG.blk (g := T) E.1 rfl).2
 have cg := Bx.lt E.2.2.1
 refine zG ?_
 refine V (v := .int .i64 ↑L.length) O O (bN O O) ?_
 replace E := (E.n (Nat.le_refl _)).g (YB _ w4.heap.size 5 1 aG)
 refine zG ?_
 refine wp_loop_ghost (fun mz a w' => ∃ (i : Nat) (vt : Value) (g9 bf ay ax aw av au ar aq ap ao an am al : Value), a = ⟨#[.agg #[.bool f, e], .pointer (some ⟨t, 0, none⟩), .string ⟨#[]⟩, .slice (some ⟨T, 0, none⟩) L.length k, U, g5, g6, g7, vt, g9, .pointer (some ⟨t, 1, none⟩), e, v2, v3, U, .int .i64 ↑((CC m).length), .bool false, ad, ac, ab, aa, a9, a8, S, R, Q, P, N, J, I, H, G, F, C, B, a2, a1, a0, Y, .slice (some ⟨T, 0, none⟩) L.length k, .int .i64 ↑L.length, .bool false, .slice (some ⟨T, 0, none⟩) L.length k, .int .i64 ↑L.length, .int .i64 ↑i, bf, ay, ax, aw, av, au, ar, aq, ap, ao, an, am, al, undef, undef, undef, undef, undef, undef, undef, undef, undef, undef, undef, undef, undef], []⟩ ∧ Env w' [fG w4.heap.size (5) 1 aG vt (9 * i) (dW ((L.reverse.take i).flatMap (VG 9))), fN w4.heap.size, fG (t + 1) (217) 9 aG (.slice (some ⟨T, 0, none⟩) L.length k) L.length (dW (L.flatMap (VG 9))), fB t f e, fI (.agg #[.bool f, e]) x, fW w] ∧ mz = L.length - i ∧ i ≤ L.length) (L.length) ⟨0, .slice none 0 0, _, _, _, _, _, _, _, _, _, _, _, _, _, _, O, (Env.g (Env.n (Env.g zE E.2.2.1) E.2.1) E.1), O, Nat.zero_le _⟩ ?_
 rintro m8 _ w8 ⟨i, vt, g9, bf, ay, ax, aw, av, au, ar, aq, ap, ao, an, am, al, rfl, E, d0, d8⟩
 by_cases hi : i = L.length
 case neg =>
  have ah : i < L.length := by omega
  refine zG ?_
  refine V (v := .int .i64 ↑L.length) O O (bN O O) ?_
  refine zG ?_
  refine V (v := .int .i64 ↑(L.length - 1)) O O (JC O O O (by rw [IntWalk.i64_in _ AA]; omega)) ?_
  refine zG ?_
  refine V (v := .int .i64 ↑(L.length - 1 - i)) O O (JC O O O (by rw [IntWalk.i64_in _ AA]; omega)) ?_
  refine zG ?_
  refine V (v := .pointer (some ⟨T, 0 + (L.length - 1 - i) * 9, none⟩)) O O (SX O underlying216 Z O O O AA) ?_
  refine zG ?_
  refine V (v := .slice (some ⟨T, 0 + (L.length - 1 - i) * 9, none⟩) 9 9) O O (tD O O) ?_
  obtain ⟨i1, c0, bp, bv, c4⟩ := info_parts Rp
  refine zG ?_
  refine EF O (VZ _ _ _ O w4.heap.size 5 i1 _ 1 1 underlying42 c0 bp bv c4 O AE aG Gz Ck vt (9 * i) (dW ((L.reverse.take i).flatMap (VG 9))) O E.1 (l := [fN w4.heap.size, fG (t + 1) (217) 9 aG (.slice (some ⟨T, 0, none⟩) L.length k) L.length (dW (L.flatMap (VG 9))), fB t f e, fI (.agg #[.bool f, e]) x, fW w]) (Env.n (Env.g zE E.2.2.1) E.2.1) (fun g hg hb => ⟨BX, okG (fun h => by simp only [Value.ownBlock, Option.some.injEq] at h; omega), okB AA, BX, IS AA, BX⟩) ⟨T, 0 + (L.length - 1 - i) * 9, none⟩ 9 9 (dW (VG 9 (gd L (L.length - 1 - i)))) O (by rw [KN, GZ]) (fun j u hu => by have ag : j < 9 := (by have := (List.getElem?_eq_some_iff.1 hu).1; rwa [KN, GZ] at this); rw [Addr.add_lit]; exact RowG.cell E.2.2.1 (by rw [Mt L _ j AA ag]; exact hu)) (Db _) (uH _) (by unfold maxLen; omega) AA E.2.1 ?_)
  intro bm cw E
  have hO := E.1
  rw [← aO, ← eT, ← qF L i ah, show 9 * i + 9 = 9 * (i + 1) from by omega] at hO
  replace E := E.g hO
  refine zG ?_
  exact ⟨_, AA, i + 1, bm, _, _, _, _, _, _, _, _, _, _, _, _, _, _, rfl, (Env.g (Env.n (Env.g zE E.2.2.2.1) E.2.2.1) E.1), rfl, AA⟩
 rw [hi, ← List.length_reverse, List.take_length, List.length_reverse] at E
 obtain ⟨D, hD⟩ : ∃ D, D = L.reverse.flatMap (VG 9) := ⟨_, rfl⟩
 rw [← hD] at E
 have a7 : D.length = 9 * L.length := by rw [hD, uR, List.length_reverse]
 have c6 : Dg D := by rw [hD]; exact Rw _
 have b6 : DE D = x.natAbs := by rw [hD, wM L o.2.1]; exact o.1.symm
 obtain ⟨gt, a3, rfl, cd, cc⟩ := RowG.pos E.1 AA
 have bw : 0 < DE D := by rw [b6]; exact Nat.pos_of_ne_zero (o.2.2.2.1 hL)
 have b7 : LF D = WM x.natAbs := by rw [Fb c6 bw, b6]
 have c5 : LF D ≠ [] := by rw [b7]; exact rM _
 refine zG ?_
 refine wp_loop_ghost (fun mz a w' => ∃ (p : Nat) (bd bc bb ba b9 b8 : Value), a = ⟨#[.agg #[.bool f, e], .pointer (some ⟨t, 0, none⟩), .string ⟨#[]⟩, .slice (some ⟨T, 0, none⟩) L.length k, U, g5, g6, g7, .slice (some ⟨gt, p, none⟩) (9 * L.length - p) (a3 - p), g9, .pointer (some ⟨t, 1, none⟩), e, v2, v3, U, .int .i64 ↑((CC m).length), .bool false, ad, ac, ab, aa, a9, a8, S, R, Q, P, N, J, I, H, G, F, C, B, a2, a1, a0, Y, .slice (some ⟨T, 0, none⟩) L.length k, .int .i64 ↑L.length, .bool false, .slice (some ⟨T, 0, none⟩) L.length k, .int .i64 ↑L.length, .int .i64 ↑i, .bool false, ay, ax, aw, av, au, ar, aq, ap, ao, an, am, al, bd, bc, bb, ba, b9, b8, undef, undef, undef, undef, undef, undef, undef], []⟩ ∧ Env w' [fG w4.heap.size (5) 1 aG (.slice (some ⟨gt, 0, none⟩) (9 * L.length) a3) (9 * L.length) (dW D), fN w4.heap.size, fG (t + 1) (217) 9 aG (.slice (some ⟨T, 0, none⟩) L.length k) L.length (dW (L.flatMap (VG 9))), fB t f e, fI (.agg #[.bool f, e]) x, fW w] ∧ mz = 9 * L.length - p ∧ p < 9 * L.length ∧ LF (D.drop p) = LF D) (9 * L.length) ⟨0, _, _, _, _, _, _, O, (Env.g (Env.n (Env.g zE E.2.2.1) E.2.1) E.1), O, ⟨by omega, O⟩⟩ ?_
 rintro m9 _ w9 ⟨p, bd, bc, bb, ba, b9, b8, rfl, E, cz, a6⟩
 have X : p < D.length := by rw [a7]; exact a6.1
 by_cases hp : gd D p = 0
 case pos =>
  have b5 := wW X hp a6.2 c5
  rw [a7] at b5
  refine zG ?_
  refine V (v := .pointer (some ⟨gt, p + 0 * 1, none⟩)) O O (SX O underlying42 Z O O O AA) ?_
  have ak : _ = _ := RowG.cell E.1 (iV D p X)
  refine zG ?_
  refine V (v := .int .u8 ↑(48 + gd D p)) O O (GF O uM O ak) ?_
  refine zG ?_
  refine V (v := .slice (some ⟨gt, p + 1, none⟩) (9 * L.length - p - 1) (a3 - p - 1)) O O (Fo O O O AA AA AA) ?_
  refine zG ?_
  exact ⟨_, AA, p + 1, _, _, _, _, _, _, rfl, (Env.g (Env.n (Env.g zE E.2.2.1) E.2.1) E.1), rfl, ⟨b5, jM X hp a6.2⟩⟩
 have z := wZ X hp a6.2
 rw [b7] at z
 refine zG ?_
 refine V (v := .pointer (some ⟨gt, p + 0 * 1, none⟩)) O O (SX O underlying42 Z O O O AA) ?_
 have ak : _ = _ := RowG.cell E.1 (iV D p X)
 refine zG ?_
 refine V (v := .int .u8 ↑(48 + gd D p)) O O (GF O uM O ak) ?_
 by_cases hx : x < 0
 case neg =>
  refine zG ?_
  refine AP (congrArg Value.bool (by rw [b3]; simp [hx])) ?_
  have aj : ∀ q, q < 9 * L.length - p → _ = _ := fun q hq => RowG.cell E.1 (iV D (p + q) AA)
  refine zG ?_
  refine V (v := .string (strOfNums ((D.drop p).map fun d => ((48 + d : Nat) : Int)))) O O (pS O underlying42 underlying5 underlying9 O (by rw [List.length_map, List.length_drop, a7]) (fun q hq => by rw [aj q hq, Cx D p q AA])) ?_
  refine zG ?_
  exact ⟨congrArg (fun s => Ending.returned (.string s)) (Ph hx z), E.2.2.2.2.2.1⟩
 refine zG ?_
 refine AO (congrArg Value.bool (by rw [b3]; simp [hx])) ?_
 have aj : ∀ q, q < 9 * L.length - p → _ = _ := fun q hq => RowG.cell E.1 (iV D (p + q) AA)
 refine zG ?_
 refine V (v := .string (strOfNums ((D.drop p).map fun d => ((48 + d : Nat) : Int)))) O O (pS O underlying42 underlying5 underlying9 O (by rw [List.length_map, List.length_drop, a7]) (fun q hq => by rw [aj q hq, Cx D p q AA])) ?_
 refine zG ?_
 refine V (v := .string ((⟨#[45]⟩ : ByteArray) ++ strOfNums ((D.drop p).map fun d => ((48 + d : Nat) : Int)))) O O (iI O O O (by rw [strOfNums_size, List.length_map, List.length_drop]; show 1 + _ ≤ _; omega)) ?_
 refine zG ?_
 exact ⟨congrArg (fun s => Ending.returned (.string s)) (Pi hx z), E.2.2.2.2.2.1⟩
end Go.Proofs.YtmppigbbkjepiaaGreatDoor
namespace Go.Proofs.YtmppigbbkjepiaaGreatDoor
open Go.RowKit W
def TxI (n m : Nat) (D : List Nat) : Prop := m ≤ n ∧ Dg D ∧ ((0 < m ∧ WM n = WM m ++ D) ∨ (m = 0 ∧ WM n = D))
theorem TxI.start {n : Nat} (h : 0 < n) : TxI n n [] := ⟨Nat.le_refl _, (fun _ h => by cases h), .inl ⟨h, by simp⟩⟩
theorem TxI.step {n m : Nat} {D : List Nat} (h : TxI n m D) (hm : 0 < m) : TxI n (m / 10) (m % 10 :: D) := by
  obtain ⟨l, k, e⟩ := h
  rcases e with ⟨_, e⟩ | ⟨e, _⟩
  · refine ⟨by omega, Dg_cons.2 ⟨by omega, k⟩, ?_⟩
    by_cases f : m < 10
    · exact .inr ⟨by omega, by rw [e, ON m f, Nat.mod_eq_of_lt f]; rfl⟩
    · exact .inl ⟨by omega, by rw [e, TS m AA, List.append_assoc]; rfl⟩
  · omega
theorem TxI.len {n m : Nat} {D : List Nat} (h : TxI n m D) : D.length ≤ (WM n).length := by
  rcases h.2.2 with ⟨_, h⟩ | ⟨_, h⟩ <;> rw [h] <;> simp
theorem No {z : Int} {F : Nat} (h : Fits z F) (hF : 0 < F) : (WM z.natAbs).length ≤ 10 * F := by
  refine mS AA ?_
  rw [Nat.pow_mul]
  exact Nat.lt_of_lt_of_le h.lt (Nat.pow_le_pow_left AE _)
theorem Df (l : List Nat) : (aQ l).length = l.length := by simp [aQ]
theorem Pv {P : Program} {ρ : Operand → Value} {o : Oper} {w : World} {t t' : TypeId} {x y : Operand} {a b : ByteArray} {c : Bool} (ho : o.op = .binOp .neq t x y t') (hx : ρ x = .string a) (hy : ρ y = .string b) (hc : (a.data.toList != b.data.toList) = c) : (execOp ρ o).run P w = .ok (.value (.bool c)) w := by
  unfold execOp; rw [ho]
  subst hc
  simp only [hx, hy, eqGuard_at_string, binOp, Op.stringOp, Sem.run_bind, Sem.run_pure, Result.andThen_ok, ByteArray.toList_eq]
  rfl
end Go.Proofs.YtmppigbbkjepiaaGreatDoor
namespace Go.Proofs.YtmppigbbkjepiaaGreatDoor
open Go.RowKit W
theorem Oper.wp_storeAt {P : Program} {o : Oper} {a : Act} {w : World} {K : Act → World → Prop} {Q : Exit → Act → World → Prop} {T TB b i : Nat} {x y : Operand} {cs : List Value} {v : Value} (ho : o.op = .store T x y) (hs : ∀ w, (sizeOf T).run P w = .ok 1 w)
    (hx : a.eval x = .pointer (some ⟨b, i, none⟩)) (hy : a.eval y = v) (hcell : v.cells = #[v]) (h1 : v.oneCell' = true) (hb : Bx w b TB cs) (hi : i < cs.length)
    (h : ∀ w', Onl b w w' → Bx w' b TB (cs.set i v) → K (a.put o.dst undef) w') : o.wp P a w K Q := by
  have e := run_storeCells_at (P := P) b i TB [v] 0 cs.toArray w hb (by simp; omega) (by simpa using h1)
  have f : cs.take i ++ [v] ++ cs.drop (i + 1) = cs.set i v := by
    rw [List.set_eq_take_append_cons_drop, if_pos hi]; simp
  unfold Oper.wp execOp
  simp only [ho, hx, hy, Instr.storeAt, Instr.sureAddr, Sem.run_bind, Sem.run_pure, Result.andThen_ok, storeVar, hcell, hs]
  simp only [List.size_toArray, List.length_cons, List.length_nil, Nat.zero_add, ne_eq, not_true_eq_false, if_false, Nat.add_zero] at e ⊢
  rw [f] at e
  simp [e, Oper.upon]
  exact h _ (LX _ _ _) (UM hb _)
end Go.Proofs.YtmppigbbkjepiaaGreatDoor
namespace Go.Proofs.YtmppigbbkjepiaaGreatDoor
open Go.Proofs.Tryz
open Go.RowKit W
theorem VQ (s : ByteArray) (w : World) (hs : s.size ≤ 4000) (h : DP s.data.toList = none) : Calls prog 137 #[.string s] w (RetZE w 0 3) := by
  refine (rX s w AA).mono ?_
  rintro e l (⟨o, _⟩ | ⟨_, _, k⟩ | ⟨_, f, _⟩)
  · omega
  · exact k
  · rw [h] at f; cases f
theorem KO (s : ByteArray) (z : Int) (w : World) (hs : s.size ≤ 4000) (h : DP s.data.toList = some z) : Calls prog 137 #[.string s] w (RetZE w z 0) := by
  refine (rX s w AA).mono ?_
  rintro e l (⟨o, _⟩ | ⟨_, f, _⟩ | ⟨_, f, k⟩)
  · omega
  · rw [h] at f; cases f
  · rw [h] at f; cases f; exact k
theorem lU (va : Value) (x : Int) (w : World) (ha : IsI w va x) (h1 : -9223372036854775808 ≤ x) (h2 : x ≤ 9223372036854775807) : Calls prog 147 #[va] w (RetS w x true) := by
  have := Dx va x w ha
  rwa [(YP h1 h2).1, (YP h1 h2).2] at this
end Go.Proofs.YtmppigbbkjepiaaGreatDoor
namespace Go.Proofs.YtmppigbbkjepiaaGreatDoor
open Go.RowKit W
def Pl : List SF → Prop
  | [] => True
  | f :: l => (∀ w w' b, f.p w → f.ok b → Onl b w w' → f.p w') ∧ Pl l
theorem Sl.at {w : World} {v : Value} {l : List Nat} {i : Nat} (h : Sl w v l) (hi : i < l.length) : ∃ b off cap, v = .slice (some ⟨b, off, none⟩) l.length cap ∧ w.cell? ⟨b, off + i * 1, none⟩ = some (.int .u32 ↑(gd l i)) := by
  obtain ⟨k, cap, rfl, _, _, _, _, f⟩ := h
  obtain ⟨b, off, rfl, e⟩ := f i hi
  exact ⟨b, off, cap, rfl, by rw [Nat.mul_one]; exact e⟩
end Go.Proofs.YtmppigbbkjepiaaGreatDoor
set_option maxHeartbeats 2000000
set_option maxRecDepth 100000
namespace Go.Proofs.YtmppigbbkjepiaaGreatDoor
open Go.Proofs.Tryz
open Go.RowKit W
def JZ (x : Rat) : ByteArray := if ((x.den : Nat) : Int) = 1 then PB x.num else PB x.num ++ ⟨#[47]⟩ ++ PB ((x.den : Nat) : Int)
theorem LO (z : Int) : (PB z).data.toList = txt z := by unfold PB; simp
theorem KY (z : Int) : (47 : UInt8) ∉ txt z := by
  intro h
  unfold txt at h
  rcases List.mem_append.1 h with h | h
  · split at h
    · simp at h
    · cases h
  · obtain ⟨d, k, e⟩ := List.mem_map.1 h
    have l := OO z.natAbs d k
    have f : (UInt8.ofNat (48 + d)).toNat = (47 : UInt8).toNat := by rw [e]
    rw [UInt8.toNat_ofNat'] at f
    change _ = 47 at f
    omega
theorem bD {z : Int} {k : Nat} (h : Fits z k) (hk : 0 < k) : (PB z).size ≤ 10 * k + 1 := by
  have e : (PB z).size = (txt z).length := by rw [← LO]; rfl
  rw [e]
  unfold txt
  rw [List.length_append, Df]
  have := No h hk
  split <;> simp <;> omega
theorem XW {a b : ByteArray} (h : a.data.toList = b.data.toList) : a = b := by
  cases a; cases b; simp at h ⊢; exact h
theorem IF (x : Rat) : (JZ x).data.toList = if ((x.den : Nat) : Int) = 1 then txt x.num else txt x.num ++ 47 :: txt ((x.den : Nat) : Int) := by
  unfold JZ
  split
  · exact LO _
  · rw [ByteArray.data_append, ByteArray.data_append, Array.toList_append, Array.toList_append, LO, LO]; simp
theorem QS {a b c d : List UInt8} (ha : (47 : UInt8) ∉ a) (hc : (47 : UInt8) ∉ c) (h : a ++ 47 :: b = c ++ 47 :: d) : a = c ∧ b = d := by
  induction a generalizing c with
  | nil =>
    cases c with
    | nil => simpa using h
    | cons y c => simp at h; exact absurd (by rw [h.1]; simp) hc
  | cons x a ih =>
    cases c with
    | nil => simp at h; exact absurd (by rw [h.1]; simp) ha
    | cons y c =>
      simp only [List.cons_append, List.cons.injEq] at h
      obtain ⟨f, e⟩ := ih (fun g => ha (List.mem_cons_of_mem _ g)) (fun g => hc (List.mem_cons_of_mem _ g)) h.2
      exact ⟨by rw [h.1, f], e⟩
def vq (n d : Int) : Prop := 0 < d ∧ Nat.gcd n.natAbs d.natAbs = 1
theorem Jc (x : Rat) : vq x.num ((x.den : Nat) : Int) := ⟨Sg x, by rw [Int.natAbs_natCast]; exact x.reduced⟩
theorem pJ {n d : Int} (h : vq n d) : (Rat.divInt n d).num = n ∧ (((Rat.divInt n d).den : Nat) : Int) = d := Rg h.1 (by rw [h.2]; rfl)
theorem sL (n : Int) : vq n 1 := ⟨by decide, by simp⟩
section
variable {l a b : List UInt8} {n d : Int}
theorem Lh (ha : DP l = some n) : l = (JZ (n : Rat)).data.toList := by
  rw [IF]
  rw [if_pos AH, Rat.num_intCast, LU ha]
theorem Br (hs : (47 : UInt8) ∉ l) (ha : DP l = none) (x : Rat) : l ≠ (JZ x).data.toList := by
  intro e
  rw [IF] at e
  split at e
  · exact aE ha _ e.symm
  · rw [e] at hs; simp at hs
theorem Bu (hs : (47 : UInt8) ∉ a) (ha : DP a = none) (x : Rat) : a ++ 47 :: b ≠ (JZ x).data.toList := by
  intro e
  rw [IF] at e
  split at e
  · exact KY x.num (by rw [← e]; simp)
  · exact aE ha _ (QS hs (KY _) e).1.symm
theorem Bt (hs : (47 : UInt8) ∉ a) (hb : DP b = none) (x : Rat) : a ++ 47 :: b ≠ (JZ x).data.toList := by
  intro e
  rw [IF] at e
  split at e
  · exact KY x.num (by rw [← e]; simp)
  · exact aE hb _ (QS hs (KY _) e).2.symm
theorem qC (hs : (47 : UInt8) ∉ a) (ha : DP a = some n) (hb : DP b = some d) (h : ¬ vq n d ∨ d = 1) (x : Rat) : a ++ 47 :: b ≠ (JZ x).data.toList := by
  intro e
  rw [IF] at e
  split at e
  · exact KY x.num (by rw [← e]; simp)
  · rename_i h1
    obtain ⟨e1, e2⟩ := QS hs (KY _) e
    rw [← LU ha] at e1
    rw [← LU hb] at e2
    rw [bC e1, bC e2] at h
    rcases h with h | h
    · exact h (Jc x)
    · exact h1 h
theorem Tz (ha : DP a = some n) (hb : DP b = some d) (h : vq n d) (h1 : d ≠ 1) : a ++ 47 :: b = (JZ (Rat.divInt n d)).data.toList := by
  obtain ⟨e1, e2⟩ := pJ h
  rw [IF, e1, e2, if_neg h1, LU ha, LU hb]
end
theorem sN {x y : Rat} (h : JZ x = JZ y) : x = y := by
  have h : (JZ x).data.toList = (JZ y).data.toList := by rw [h]
  rw [IF, IF] at h
  split at h <;> split at h <;> rename_i h1 h2
  · exact Rat.ext (bC h) AA
  · exact absurd (by rw [h]; simp) (KY x.num)
  · exact absurd (by rw [← h]; simp) (KY y.num)
  · obtain ⟨e1, e2⟩ := QS (KY _) (KY _) h
    have := bC e2
    exact Rat.ext (bC e1) AA
inductive ParQ (w0 : World) (R : Int → Int → Int → Ending → World → Prop) (s : ByteArray) (e : Ending) (w' : World) : Prop
  | big (h : 4000 < s.size) (r : R 0 0 2 e w')
  | form (h : s.size ≤ 4000) (h' : ∀ x, s ≠ JZ x) (r : R 0 0 3 e w')
  | ok (x : Rat) (h : s.size ≤ 4000) (h' : s = JZ x) (r : R x.num ((x.den : Nat) : Int) 0 e w')
theorem Sm {l : List UInt8} {c : UInt8} (h : c ∈ l) : ∃ a b, l = a ++ c :: b ∧ c ∉ a := by
  induction l with
  | nil => cases h
  | cons x l ih =>
    by_cases f : x = c
    · exact ⟨[], l, by simp [f], by simp⟩
    · rcases List.mem_cons.1 h with e | e
      · exact absurd e.symm f
      · obtain ⟨a, b, e1, e2⟩ := ih e
        exact ⟨x :: a, b, by simp [e1], by simp [e2, Ne.symm f]⟩
theorem NS {l : List UInt8} {d : Int} (hs : l.length ≤ 4000) (h : DP l = some d) : Fits d 4000 := by
  have k := LU h
  have f : (WM d.natAbs).length ≤ 4000 := by
    have : (txt d).length ≤ 4000 := by rw [k]; exact hs
    unfold txt aQ at this; rw [List.length_append, List.length_map] at this; omega
  have e := jE (OO d.natAbs)
  rw [QY] at e
  exact (MO (m := (WM d.natAbs).length) (Nat.lt_of_lt_of_le e (Nat.pow_le_pow_left AE _))).mono f
end Go.Proofs.YtmppigbbkjepiaaGreatDoor
namespace Go.Proofs.YtmppigbbkjepiaaGreatDoor
open Go.Proofs.Tryz
open Go.RowKit W
theorem fnc_Index : Fn prog 146 := ⟨_, func146, by kernel_rfl, rfl⟩
theorem fnc_Cut0 : Fn prog 99 := ⟨_, func99, by kernel_rfl, rfl⟩
theorem VK : Fn prog 52 := ⟨_, func52, by kernel_rfl, rfl⟩
theorem Iv (s sep : ByteArray) (c : UInt8) (hsep : sep = ⟨#[c]⟩) (w : World) (h : Lib.indexByte s.data.toList c = -1) :
    Calls prog 99 #[.string s, .string sep] w fun e w' => e = .returned (.tuple #[.string s, .string ByteArray.empty, .bool false]) ∧ ∃ n, w' = w.drewN n := by
  have f : ∀ w, Calls prog 146 #[.string s, .string sep] w fun e w' => e = .returned (.int .i64 (-1)) ∧ w' = w := fun w => by rw [hsep, ← h]; exact Tryz.stringslite_Index_one s c w
  have k : ∀ args w, (callFunc 146 args).run prog w = .ok (.enter 146 args) w := fnc_Index.run
  clear hsep h
  go_enter func99, ntmps99
  go_wp2_with (go_at_fn 146; refine (f _).mono ?_; rintro e w' ⟨rfl, rfl⟩)
  go_ret3
  exact ⟨rfl, 0, rfl⟩
theorem Pe (s sep : ByteArray) (c : UInt8) (i : Nat) (hsep : sep = ⟨#[c]⟩) (w : World) (h : Lib.indexByte s.data.toList c = (i : Int)) (hroom : i + sep.size ≤ s.size) (hs : s.size < 4294967281) :
    Calls prog 99 #[.string s, .string sep] w fun e w' => e = .returned (.tuple #[.string (s.extract 0 i), .string (s.extract (i + sep.size) s.size), .bool true]) ∧ ∃ n, w' = w.drewN n := by
  have k : ∀ w, Calls prog 146 #[.string s, .string sep] w fun e w' => e = .returned (.int .i64 (i : Int)) ∧ w' = w := fun w => by rw [hsep, ← h]; exact Tryz.stringslite_Index_one s c w
  have l : ∀ args w, (callFunc 146 args).run prog w = .ok (.enter 146 args) w := fnc_Index.run
  have f : prog.follows .mixedOrders = true := by kernel_rfl
  have t : (0 : Int) ≤ ↑i := by omega
  have q : (↑i : Int) ≤ ↑s.size := by omega
  have p : (0 : Int) ≤ ↑i + ↑sep.size := by omega
  have o : (↑i + ↑sep.size : Int) ≤ ↑s.size := by omega
  clear hsep h
  go_enter func99, ntmps99
  go_wp2_with (go_at_fn 146; refine (k _).mono ?_; rintro e w' ⟨rfl, rfl⟩)
  go_region_o
  go_wp2
  go_ret3
  exact ⟨rfl, 1, rfl⟩
theorem Pc {s sep : ByteArray} {v : Value} (h : ∀ w, Calls prog 99 #[.string s, .string sep] w fun e w' => e = .returned v ∧ ∃ n, w' = w.drewN n) {a b : ByteArray} {f : Bool} (hv : v = .tuple #[.string a, .string b, .bool f]) (w : World) :
    Calls prog 52 #[.string s, .string sep] w fun e w' => e = .returned (.tuple #[.string a, .string b, .bool f]) ∧ ∃ n, w' = w.drewN n := by
  subst hv
  have k : ∀ args w, (callFunc 99 args).run prog w = .ok (.enter 99 args) w := fnc_Cut0.run
  go_enter func52, ntmps52
  go_wp2_with (go_at_fn 99; refine (h _).mono ?_; rintro e w' ⟨rfl, n, rfl⟩)
  go_ret3
  exact ⟨rfl, n, rfl⟩
def Om (w0 : World) (v : Value) (e : Ending) (w' : World) : Prop := e = .returned v ∧ Below w0.heap.size w0 w'
theorem Pd (s : ByteArray) (c : UInt8) (w : World) (h : c ∉ s.data.toList) : Calls prog 52 #[.string s, .string ⟨#[c]⟩] w (Om w (.tuple #[.string s, .string ByteArray.empty, .bool false])) := by
  have k : Lib.indexByte s.data.toList c = -1 := by
    have := Lib.indexByte_ge s.data.toList c
    rcases Int.lt_or_le (Lib.indexByte s.data.toList c) 0 with e | e
    · omega
    · obtain ⟨o, f⟩ : ∃ o : Nat, Lib.indexByte s.data.toList c = o := ⟨(Lib.indexByte s.data.toList c).toNat, by omega⟩
      exact absurd (List.mem_of_getElem? (Lib.indexByte_some f).1) h
  refine (Pc (fun w => Iv s _ c O w k) O w).mono ?_
  rintro e l ⟨rfl, n, rfl⟩
  exact ⟨rfl, Below.drewN (Below.refl _ _) n⟩
theorem dV (s a b : ByteArray) (c : UInt8) (w : World) (h : s.data.toList = a.data.toList ++ c :: b.data.toList) (hc : c ∉ a.data.toList) (hs : s.size < 4294967281) :
    Calls prog 52 #[.string s, .string ⟨#[c]⟩] w (Om w (.tuple #[.string a, .string b, .bool true])) := by
  have l : s.data.toList[a.size]? = some c := by
    rw [h, List.getElem?_append_right (by rw [Lib.size_eq]; exact Nat.le_refl _), Lib.size_eq, Nat.sub_self]; rfl
  have u : Lib.indexByte s.data.toList c = ((a.size : Nat) : Int) := by
    have := Lib.indexByte_ge s.data.toList c
    rcases Int.lt_or_le (Lib.indexByte s.data.toList c) 0 with e | e
    · exact absurd l (Lib.indexByte_none AA _)
    · obtain ⟨o, f⟩ : ∃ o : Nat, Lib.indexByte s.data.toList c = o := ⟨(Lib.indexByte s.data.toList c).toNat, by omega⟩
      obtain ⟨q, v⟩ := Lib.indexByte_some f
      rcases Nat.lt_trichotomy o a.size with k | k | k
      · rw [h, List.getElem?_append_left (by rw [← Lib.size_eq]; exact k)] at q
        exact absurd (List.mem_of_getElem? q) hc
      · rw [f, k]
      · exact absurd l (v _ k)
  have t : s.size = a.size + (b.size + 1) := by
    rw [Lib.size_eq, h, Lib.size_eq, Lib.size_eq]; simp
  have p : (⟨#[c]⟩ : ByteArray).size = 1 := rfl
  have e1 : s.extract 0 a.size = a := XW (by rw [Lib.extract_eq, h, show a.size = a.data.toList.length from Lib.size_eq a]; simp)
  have e2 : s.extract (a.size + (⟨#[c]⟩ : ByteArray).size) s.size = b := XW (by
    rw [Lib.extract_eq, p, t, h]
    rw [List.drop_append, List.drop_of_length_le (by rw [Lib.size_eq]; omega), show a.size + 1 - a.data.toList.length = 1 by rw [Lib.size_eq]; omega]
    simp
    rw [List.take_of_length_le]; rw [← Lib.size_eq]; omega)
  refine (Pc (fun w => Pe s _ c a.size O w u (by rw [p]; omega) hs) (by rw [e1, e2]) w).mono ?_
  rintro e y ⟨rfl, n, rfl⟩
  exact ⟨rfl, Below.drewN (Below.refl _ _) n⟩
section
variable {P : Program} {o : Oper} {a : Act} {w : World} {K : Act → World → Prop} {Q : Exit → Act → World → Prop} {f : Nat} {args : List Operand} {tys : Array TypeId} {vs : List Value} {l : List SF}
theorem IP {v : Value} (hf : Fn P f) (ho : o.op = .call { callee := .value (.func f), args := args.toArray, argTypes := tys }) (hc : Calls P f vs.toArray w (Om w v)) (hv : args.map a.eval = vs) (E : Env w l)
    (h : ∀ w', Below w.heap.size w w' → Env w' l → K (a.put o.dst v) w') : o.wp P a w K Q := by
  refine DB hf ho hc hv ?_
  rintro e w' ⟨rfl, k⟩
  exact ⟨_, rfl, h w' k (E.below k)⟩
end
end Go.Proofs.YtmppigbbkjepiaaGreatDoor
