/- Helping facts of Text; no other conditions. Helping facts of LawB; no other conditions. Helping facts of MadeL; no other conditions. Helping facts of RefT; no other conditions. Helping facts of TxtQ; no other conditions. -/
import Derived.Test.YtmppigbbkjepiaaGreatDoorParse
import Derived.Test.YtmppigbbkjepiaaGreatDoorRefA
import Derived.Test.YtmppigbbkjepiaaGreatDoorRat1
import Derived.Test.YtmppigbbkjepiaaGreatDoorShelf
import Derived.Lib.CutLaws
import Derived.Lib.IndexLaws
import Derived.Laws.Strings3
import Derived.Shelf.RegionOpenPlain
import Derived.WalkKit
import Derived.Lib.Walk
import Derived.BigCall
import Derived.BigGuard
namespace Go.Proofs.YtmppigbbkjepiaaGreatDoor
open Go.Proofs.Tryz
open Go.RowKit W
variable {D : List Nat} {R a b : ByteArray} {d x z : Int} {l : List UInt8} {m n : Nat} {p : Prop} {v : Value} {w : World}
theorem YQC (h : p := by rw [IntWalk.i64_in _ AA]; omega) : p := h
theorem Zqm (h : p := by
 rintro e l ⟨rfl, n, rfl⟩
 exact ⟨rfl, Below.drewN (Below.refl _ _) n⟩
 ) : p := h
set_option maxRecDepth 100000 in
set_option maxHeartbeats 8000000 in
theorem Da (va : Value) (x : Int) (w : World) (hva : IsI w va x) (Fx : Fits x 1000000) :
 Calls prog 169 #[va] w (C3 w x) := by
 have E := Env.start w
 obtain ⟨f, e, rfl, _, _⟩ := hva.sh
 replace E := E.i hva
 have b3 := GF E.1
 go_enter func169, ntmps169
 refine zG ?_
 refine EF O (CI O O ?_)
 intro t w1 e1 z1 d1 x1
 have l1 : w.heap.size <= t := by rw [e1]; exact E.2.1.size
 replace E := E.below d1
 clear e1
 replace E := E.b x1
 refine zG ?_
 refine EF O (FC jX O (Hm _ _ _ (IsI.sl E.2.1)) O E ?_)
 intro w2 v2 d2 E
 refine zG ?_
 refine EF O (FC iB O (ZE _ (CC x.natAbs) _ E.1 (Nat.le_trans (Fx : Fits x 1000000) AE)) O E ?_)
 intro w3 v3 d3 E
 replace E := E.g (ZI _ (t + 1) 217 9 bU)
 refine zG ?_
 refine wp_loop_ghost (fun mz a w' => ∃ (m : Nat) (L : List Nat) (vc : Value) (U : Value) (g5 g6 g7 bi bh bg ad ac ab aa a9 a8 S R Q P N J I H G F C B a2 a1 a0 Y : Value), a = ⟨#[.agg #[.bool f, e], .pointer (some ⟨t, 0, none⟩), .string ⟨#[]⟩, vc, U, g5, g6, g7, undef, undef, .pointer (some ⟨t, 1, none⟩), e, v2, v3, bi, bh, bg, ad, ac, ab, aa, a9, a8, S, R, Q, P, N, J, I, H, G, F, C, B, a2, a1, a0, Y, undef, undef, undef, undef, undef, undef, undef, undef, undef, undef, undef, undef, undef, undef, undef, undef, undef, undef, undef, undef, undef, undef, undef, undef, undef, undef, undef, undef, undef, undef, undef, undef], []⟩ /\ Env w' [fG (t + 1) (217) 9 bU vc L.length (gP (L.flatMap (WC 9))), fS U (CC m), fB t f e, fI (.agg #[.bool f, e]) x, fW w] /\ mz = m /\ x.natAbs = cR L + 1000000000 ^ L.length * m /\ (∀ c ∈ L, c < 1000000000) /\ m <= x.natAbs /\ (L ≠ [] -> x.natAbs ≠ 0) /\ L.length <= 2000001) (x.natAbs) ⟨x.natAbs, [], .slice none 0 0, v3, _, _, _, _, _, _, _, _, _, _, _, _, _, _, _, _, _, _, _, _, _, _, _, _, _, _, _, _, O, (Env.g zE E.1), O, ⟨by simp [cR], by simp, Nat.le_refl _, fun h => absurd O h, by simp⟩⟩ ?_
 rintro m4 _ w4 ⟨m, L, vc, U, g5, g6, g7, bi, bh, bg, ad, ac, ab, aa, a9, a8, S, R, Q, P, N, J, I, H, G, F, C, B, a2, a1, a0, Y, rfl, E, bx, o⟩
 by_cases hz : m = 0
 case neg =>
  have hk := yL o.1 hz (Fits.lt Fx)
  have c2 : m % 1000000000 < 1000000000 := Nat.mod_lt _ AE
  have c1 : (CC m).length <= 1000000000 := Nat.le_trans (FS o.2.2.1) (Nat.le_trans (Fx : Fits x 1000000) AE)
  obtain ⟨ck, c9, b4⟩ := Sl.shape E.2.1
  refine zG ?_
  refine V (v := .int .i64 ↑((CC m).length)) O O (NS O b4) ?_
  refine zG ?_
  refine V (v := .bool true) O O (RS (c := true) O O O ((by rw [decide_eq_true_eq]; have := Ou hz; omega))) ?_
  refine zG ?_
  refine EF O (ZO WM O (Cp _ m 1000000000 _ E.2.1 c1 AE AE) O E ?_)
  intro cv y d9 E
  have lc : ∀ gg, vc.ownBlock = some gg -> gg < _ := fun gg hg => (RowG.blk E.2.1 hg).2
  refine zG ?_
  refine EF O (CB Ag9 O ?_)
  intro ae ct WP cn c8 bk
  have cy : t < ae := by rw [WP]; exact Bx.lt E.2.2.2.1
  rw [<- WP] at lc
  replace E := (E.below c8).x bk
  clear WP
  have a4 := E.1
  rw [Vu (m % 1000000000)] at a4
  replace E := E.x a4
  refine zG ?_
  refine wp_loop_ghost (fun mz a w' => ∃ (j : Nat) (cu : Nat) (g7 S R Q P N J I H G F C B : Value), a = ⟨#[.agg #[.bool f, e], .pointer (some ⟨t, 0, none⟩), .string ⟨#[]⟩, vc, y, .int .u64 ↑cu, .pointer (some ⟨ae, 0, none⟩), g7, undef, undef, .pointer (some ⟨t, 1, none⟩), e, v2, v3, U, .int .i64 ↑((CC m).length), .bool true, .tuple #[y, .int .u64 ↑(m % 1000000000)], U, .tuple #[y, .int .u64 ↑(m % 1000000000)], y, .int .u64 ↑(m % 1000000000), .int .i64 ↑j, S, R, Q, P, N, J, I, H, G, F, C, B, a2, a1, a0, Y, undef, undef, undef, undef, undef, undef, undef, undef, undef, undef, undef, undef, undef, undef, undef, undef, undef, undef, undef, undef, undef, undef, undef, undef, undef, undef, undef, undef, undef, undef, undef, undef], []⟩ /\ Env w' [fX ae (217) (cl j (m % 1000000000)), fS y (CC (m / 1000000000)), fG (t + 1) (217) 9 bU vc L.length (gP (L.flatMap (WC 9))), fS U (CC m), fB t f e, fI (.agg #[.bool f, e]) x, fW w] /\ mz = 9 - j /\ j <= 9 /\ cu = m % 1000000000 / 10 ^ j) (9) ⟨0, m % 1000000000, _, _, _, _, _, _, _, _, _, _, _, _, _, O, (Env.x (Env.s (Env.g zE E.2.2.2.1) E.2.2.1) E.1), O, ⟨by decide, by simp⟩⟩ ?_
  rintro cx _ cr ⟨j, cu, g7, S, R, Q, P, N, J, I, H, G, F, C, B, rfl, E, cb, af⟩
  by_cases hj : j = 9
  case pos =>
   subst hj
   have b2 := E.1
   rw [Vv] at b2
   refine zG ?_
   refine V (v := .agg (gP (WC 9 (m % 1000000000))).toArray) O O (CY Ag9 O O b2 (by rw [KX, IG])) ?_
   refine zG ?_
   refine EF O (DZ underlying216 Ag9 (by rw [KX, IG]) AE AE O O ?_)
   intro ca cq Xm cm c7 bj
   replace E := (E.below c7).x bj
   clear Xm
   obtain ⟨i9, ah, bo, bq, c3⟩ := info_parts Jk
   have d6 := Bx.lt E.2.2.2.2.2.1
   refine zG ?_
   refine EF O (XK _ _ _ O (t + 1) 217 i9 _ 9 9 underlying216 ah bo bq c3 O AE bU Pd Ey vc L.length (gP (L.flatMap (WC 9))) O E.2.2.2.1 (l := [fS y (CC (m / 1000000000)), fS U (CC m), fB t f e, fI (.agg #[.bool f, e]) x, fW w]) zE (fun g hg hb => ⟨BX, BX, okB AA, BX, IK AA, BX⟩) ⟨ca, 0, none⟩ 1 1 (gP (WC 9 (m % 1000000000))) O (by rw [KX, IG]) (fun j u hu => by rw [Addr.add_lit, Nat.zero_add, Bx.cell E.1]; exact hu) (Fs _) (xC _) (by unfold maxLen; omega) AA AA ?_)
   intro bl cp E
   have hO := E.1
   rw [<- cA, <- iF] at hO
   replace E := E.g (n := (L ++ [m % 1000000000]).length) (by rw [List.length_append, List.length_singleton]; exact hO)
   refine zG ?_
   exact ⟨_, (by rw [bx]; omega), m / 1000000000, L ++ [m % 1000000000], bl, y, _, _, _, _, _, _, _, _, _, _, _, _, _, _, _, _, _, _, _, _, _, _, _, _, _, _, _, _, O, (Env.g zE E.1), O, ⟨Ct o.1, Kd o.2.1 m, Nat.le_trans (Nat.div_le_self _ _) o.2.2.1, fun _ => (by have := o.2.2.1; omega), by rw [List.length_append, List.length_singleton]; omega⟩⟩
  have ag : j < 9 := by have := af.1; omega
  have ai := af.2
  have d5 : cu < 1000000000 := by rw [ai]; exact Nat.lt_of_le_of_lt (Nat.div_le_self _ _) c2
  refine zG ?_
  refine V (v := .int .i64 ↑(8 - j)) O O (GN O O O YQC) ?_
  refine zG ?_
  refine V (v := .int .u64 ↑(cu % 10)) O O (EC O O O AE (KE _ 10)) ?_
  refine zG ?_
  refine V (v := .int .u64 ↑(48 + cu % 10)) O O (IY O O O (EX AA AA)) ?_
  refine zG ?_
  refine V (v := .int .u8 ↑(48 + cu % 10)) O O (DR O O (by rw [underlying161]; rfl) underlying5 (OH AA AA)) ?_
  refine zG ?_
  refine V (v := .pointer (some ⟨ae, 0 + (8 - j) * 1, none⟩)) O O (EA O underlying217 Z O O O AA) ?_
  have b0 := E.1
  replace E := (Env.s (Env.g (Env.s (Env.b (Env.i (Env.ww (Env.nil _) E.2.2.2.2.2.2.1) E.2.2.2.2.2.1) E.2.2.2.2.1) E.2.2.2.1) E.2.2.1) E.2.1)
  refine zG ?_
  refine EF O (CG (v := .int .u8 ↑(48 + cu % 10)) O Z O O O b0 (by rw [Kc _ AA]; omega) ?_)
  intro co bn az
  rw [A5 ag (by rw [ai])] at az
  replace E := (E.onl (b0.noW (A6 _ _)) ⟨BX, okG (fun h => absurd (lc _ h) (Nat.lt_irrefl _)), BX, okB AA, BX, IK AA, BX⟩ bn).x az
  refine zG ?_
  refine V (v := .int .u64 ↑(cu / 10)) O O (vV O O O AE (Tg AA)) ?_
  refine zG ?_
  exact ⟨_, AA, j + 1, cu / 10, _, _, _, _, _, _, _, _, _, _, _, _, _, rfl, (Env.x (Env.s (Env.g zE E.2.2.1) E.2.1) E.1), rfl, ⟨by omega, by rw [ai, Nat.pow_succ, <- Nat.div_div_eq_div_mul]⟩⟩
 obtain ⟨dc, cj, bu⟩ := Sl.shape E.2.1
 refine zG ?_
 refine V (v := .int .i64 ↑((CC m).length)) O O (NS O bu) ?_
 refine zG ?_
 refine V (v := .bool false) O O (RS (c := false) O O O ((by rw [hz, DX]; rfl))) ?_
 rw [hz, Nat.mul_zero, Nat.add_zero] at o
 by_cases hL : L = []
 . have a4 : x = 0 := by have h1 := o.1; rw [hL, cR] at h1; omega
   obtain ⟨db, ci, bt⟩ := RowG.shape E.1
   refine zG ?_
   refine V (v := .int .i64 ↑L.length) O O (dF O bt) ?_
   refine zG ?_
   refine V (v := .bool true) O O (EU (c := true) O O O (by rw [hL]; rfl)) ?_
   refine zG ?_
   exact ⟨by rw [a4, txt_zero], E.2.2.2.2.1⟩
 have d7 := List.length_pos_iff.2 hL
 obtain ⟨da, ch, br⟩ := RowG.shape E.1
 refine zG ?_
 refine V (v := .int .i64 ↑L.length) O O (dF O br) ?_
 obtain ⟨T, k, rfl, cf, ce⟩ := RowG.pos E.1 AA
 have d4 := (RowG.blk (g := T) E.1 rfl).2
 have cg := Bx.lt E.2.2.1
 refine zG ?_
 refine V (v := .int .i64 ↑L.length) O O (dF O O) ?_
 replace E := (E.n (Nat.le_refl _)).g (ZI _ w4.heap.size 5 1 bU)
 refine zG ?_
 refine wp_loop_ghost (fun mz a w' => ∃ (i : Nat) (vt : Value) (g9 bf ay ax aw av au ar aq ap ao an am al : Value), a = ⟨#[.agg #[.bool f, e], .pointer (some ⟨t, 0, none⟩), .string ⟨#[]⟩, .slice (some ⟨T, 0, none⟩) L.length k, U, g5, g6, g7, vt, g9, .pointer (some ⟨t, 1, none⟩), e, v2, v3, U, .int .i64 ↑((CC m).length), .bool false, ad, ac, ab, aa, a9, a8, S, R, Q, P, N, J, I, H, G, F, C, B, a2, a1, a0, Y, .slice (some ⟨T, 0, none⟩) L.length k, .int .i64 ↑L.length, .bool false, .slice (some ⟨T, 0, none⟩) L.length k, .int .i64 ↑L.length, .int .i64 ↑i, bf, ay, ax, aw, av, au, ar, aq, ap, ao, an, am, al, undef, undef, undef, undef, undef, undef, undef, undef, undef, undef, undef, undef, undef], []⟩ /\ Env w' [fG w4.heap.size (5) 1 bU vt (9 * i) (gP ((L.reverse.take i).flatMap (WC 9))), fN w4.heap.size, fG (t + 1) (217) 9 bU (.slice (some ⟨T, 0, none⟩) L.length k) L.length (gP (L.flatMap (WC 9))), fB t f e, fI (.agg #[.bool f, e]) x, fW w] /\ mz = L.length - i /\ i <= L.length) (L.length) ⟨0, .slice none 0 0, _, _, _, _, _, _, _, _, _, _, _, _, _, _, O, (Env.g (Env.n (Env.g zE E.2.2.1) E.2.1) E.1), O, Nat.zero_le _⟩ ?_
 rintro m8 _ w8 ⟨i, vt, g9, bf, ay, ax, aw, av, au, ar, aq, ap, ao, an, am, al, rfl, E, d0, d8⟩
 by_cases hi : i = L.length
 case neg =>
  have ah : i < L.length := by omega
  refine zG ?_
  refine V (v := .int .i64 ↑L.length) O O (dF O O) ?_
  refine zG ?_
  refine V (v := .int .i64 ↑(L.length - 1)) O O (GN O O O YQC) ?_
  refine zG ?_
  refine V (v := .int .i64 ↑(L.length - 1 - i)) O O (GN O O O YQC) ?_
  refine zG ?_
  refine V (v := .pointer (some ⟨T, 0 + (L.length - 1 - i) * 9, none⟩)) O O (VY O underlying216 Z O O O AA) ?_
  refine zG ?_
  refine V (v := .slice (some ⟨T, 0 + (L.length - 1 - i) * 9, none⟩) 9 9) O O (vU O O) ?_
  obtain ⟨i1, c0, bp, bv, c4⟩ := info_parts Ul
  refine zG ?_
  refine EF O (XK _ _ _ O w4.heap.size 5 i1 _ 1 1 underlying42 c0 bp bv c4 O AE bU Ji Ey vt (9 * i) (gP ((L.reverse.take i).flatMap (WC 9))) O E.1 (l := [fN w4.heap.size, fG (t + 1) (217) 9 bU (.slice (some ⟨T, 0, none⟩) L.length k) L.length (gP (L.flatMap (WC 9))), fB t f e, fI (.agg #[.bool f, e]) x, fW w]) (Env.n (Env.g zE E.2.2.1) E.2.1) (fun g hg hb => ⟨BX, okG (fun h => by simp only [Value.ownBlock, Option.some.injEq] at h; omega), okB AA, BX, IK AA, BX⟩) ⟨T, 0 + (L.length - 1 - i) * 9, none⟩ 9 9 (gP (WC 9 (gd L (L.length - 1 - i)))) O (by rw [KX, IG]) (fun j u hu => by have ag : j < 9 := (by have := (List.getElem?_eq_some_iff.1 hu).1; rwa [KX, IG] at this); rw [Addr.add_lit]; exact RowG.cell E.2.2.1 (by rw [Po L _ j AA ag]; exact hu)) (Fs _) (xC _) (by unfold maxLen; omega) AA E.2.1 ?_)
  intro bm cw E
  have hO := E.1
  rw [<- cA, <- iF, <- tA L i ah, show 9 * i + 9 = 9 * (i + 1) from by omega] at hO
  replace E := E.g hO
  refine zG ?_
  exact ⟨_, AA, i + 1, bm, _, _, _, _, _, _, _, _, _, _, _, _, _, _, rfl, (Env.g (Env.n (Env.g zE E.2.2.2.1) E.2.2.1) E.1), rfl, AA⟩
 rw [hi, <- List.length_reverse, List.take_length, List.length_reverse] at E
 obtain ⟨D, hD⟩ : ∃ D, D = L.reverse.flatMap (WC 9) := ⟨_, rfl⟩
 rw [<- hD] at E
 have a7 : D.length = 9 * L.length := by rw [hD, xO, List.length_reverse]
 have c6 : Dg D := by rw [hD]; exact Uv _
 have b6 : DI D = x.natAbs := by rw [hD, Ab L o.2.1]; exact o.1.symm
 obtain ⟨gt, a3, rfl, cd, cc⟩ := RowG.pos E.1 AA
 have bw : 0 < DI D := by rw [b6]; exact Nat.pos_of_ne_zero (o.2.2.2.1 hL)
 have b7 : LTq D = VO x.natAbs := by rw [Hw c6 bw, b6]
 have c5 : LTq D ≠ [] := by rw [b7]; exact uD _
 refine zG ?_
 refine wp_loop_ghost (fun mz a w' => ∃ (p : Nat) (bd bc bb ba b9 b8 : Value), a = ⟨#[.agg #[.bool f, e], .pointer (some ⟨t, 0, none⟩), .string ⟨#[]⟩, .slice (some ⟨T, 0, none⟩) L.length k, U, g5, g6, g7, .slice (some ⟨gt, p, none⟩) (9 * L.length - p) (a3 - p), g9, .pointer (some ⟨t, 1, none⟩), e, v2, v3, U, .int .i64 ↑((CC m).length), .bool false, ad, ac, ab, aa, a9, a8, S, R, Q, P, N, J, I, H, G, F, C, B, a2, a1, a0, Y, .slice (some ⟨T, 0, none⟩) L.length k, .int .i64 ↑L.length, .bool false, .slice (some ⟨T, 0, none⟩) L.length k, .int .i64 ↑L.length, .int .i64 ↑i, .bool false, ay, ax, aw, av, au, ar, aq, ap, ao, an, am, al, bd, bc, bb, ba, b9, b8, undef, undef, undef, undef, undef, undef, undef], []⟩ /\ Env w' [fG w4.heap.size (5) 1 bU (.slice (some ⟨gt, 0, none⟩) (9 * L.length) a3) (9 * L.length) (gP D), fN w4.heap.size, fG (t + 1) (217) 9 bU (.slice (some ⟨T, 0, none⟩) L.length k) L.length (gP (L.flatMap (WC 9))), fB t f e, fI (.agg #[.bool f, e]) x, fW w] /\ mz = 9 * L.length - p /\ p < 9 * L.length /\ LTq (D.drop p) = LTq D) (9 * L.length) ⟨0, _, _, _, _, _, _, O, (Env.g (Env.n (Env.g zE E.2.2.1) E.2.1) E.1), O, ⟨by omega, O⟩⟩ ?_
 rintro m9 _ w9 ⟨p, bd, bc, bb, ba, b9, b8, rfl, E, cz, a6⟩
 have X : p < D.length := by rw [a7]; exact a6.1
 by_cases hp : gd D p = 0
 case pos =>
  have b5 := Am X hp a6.2 c5
  rw [a7] at b5
  refine zG ?_
  refine V (v := .pointer (some ⟨gt, p + 0 * 1, none⟩)) O O (VY O underlying42 Z O O O AA) ?_
  have ak : _ = _ := RowG.cell E.1 (lF D p X)
  refine zG ?_
  refine V (v := .int .u8 ↑(48 + gd D p)) O O (FX O xG O ak) ?_
  refine zG ?_
  refine V (v := .slice (some ⟨gt, p + 1, none⟩) (9 * L.length - p - 1) (a3 - p - 1)) O O (Ii O O O AA AA AA) ?_
  refine zG ?_
  exact ⟨_, AA, p + 1, _, _, _, _, _, _, rfl, (Env.g (Env.n (Env.g zE E.2.2.1) E.2.1) E.1), rfl, ⟨b5, mB X hp a6.2⟩⟩
 have z := Ap X hp a6.2
 rw [b7] at z
 refine zG ?_
 refine V (v := .pointer (some ⟨gt, p + 0 * 1, none⟩)) O O (VY O underlying42 Z O O O AA) ?_
 have ak : _ = _ := RowG.cell E.1 (lF D p X)
 refine zG ?_
 refine V (v := .int .u8 ↑(48 + gd D p)) O O (FX O xG O ak) ?_
 by_cases hx : x < 0
 case neg =>
  refine zG ?_
  refine AP (congrArg Value.bool (by rw [b3]; simp [hx])) ?_
  have aj : ∀ q, q < 9 * L.length - p -> _ = _ := fun q hq => RowG.cell E.1 (lF D (p + q) AA)
  refine zG ?_
  refine V (v := .string (strOfNums ((D.drop p).map fun d => ((48 + d : Nat) : Int)))) O O (sL O underlying42 underlying5 underlying9 O (by rw [List.length_map, List.length_drop, a7]) (fun q hq => by rw [aj q hq, Fl D p q AA])) ?_
  refine zG ?_
  exact ⟨congrArg (fun s => Ending.returned (.string s)) (Sd hx z), E.2.2.2.2.2.1⟩
 refine zG ?_
 refine AO (congrArg Value.bool (by rw [b3]; simp [hx])) ?_
 have aj : ∀ q, q < 9 * L.length - p -> _ = _ := fun q hq => RowG.cell E.1 (lF D (p + q) AA)
 refine zG ?_
 refine V (v := .string (strOfNums ((D.drop p).map fun d => ((48 + d : Nat) : Int)))) O O (sL O underlying42 underlying5 underlying9 O (by rw [List.length_map, List.length_drop, a7]) (fun q hq => by rw [aj q hq, Fl D p q AA])) ?_
 refine zG ?_
 refine V (v := .string ((⟨#[45]⟩ : ByteArray) ++ strOfNums ((D.drop p).map fun d => ((48 + d : Nat) : Int)))) O O (TY O O O (by rw [strOfNums_size, List.length_map, List.length_drop]; show 1 + _ <= _; omega)) ?_
 refine zG ?_
 exact ⟨congrArg (fun s => Ending.returned (.string s)) (Se hx z), E.2.2.2.2.2.1⟩
theorem WU (s : ByteArray) (w : World) (hs : s.size <= 4000) (h : DW s.data.toList = none) : Calls prog 137 #[.string s] w (RetZE w 0 3) := by
 refine (uS s w AA).mono ?_
 rintro e l (⟨o, _⟩ | ⟨_, _, k⟩ | ⟨_, f, _⟩)
 . omega
 . exact k
 rw [h] at f; cases f
theorem LA (s : ByteArray) (z : Int) (w : World) (hs : s.size <= 4000) (h : DW s.data.toList = some z) : Calls prog 137 #[.string s] w (RetZE w z 0) := by
 refine (uS s w AA).mono ?_
 rintro e l (⟨o, _⟩ | ⟨_, f, _⟩ | ⟨_, f, k⟩)
 . omega
 . rw [h] at f; cases f
 rw [h] at f; cases f; exact k
theorem oP (va : Value) (x : Int) (w : World) (ha : IsI w va x) (h1 : -9223372036854775808 <= x) (h2 : x <= 9223372036854775807) : Calls prog 147 #[va] w (RetS w x true) := by
 have := Gs va x w ha
 rwa [(ZX h1 h2).1, (ZX h1 h2).2] at this
def Pl : List SF -> Prop
 | [] => True
 | f :: l => (∀ w w' b, f.p w -> f.ok b -> Onl b w w' -> f.p w') /\ Pl l
theorem Sl.at {l : List Nat} {i : Nat} (h : Sl w v l) (hi : i < l.length) : ∃ b off cap, v = .slice (some ⟨b, off, none⟩) l.length cap /\ w.cell? ⟨b, off + i * 1, none⟩ = some (.int .u32 ↑(gd l i)) := by
 obtain ⟨k, cap, rfl, _, _, _, _, f⟩ := h
 obtain ⟨b, off, rfl, e⟩ := f i hi
 exact ⟨b, off, cap, rfl, by rw [Nat.mul_one]; exact e⟩
theorem Az (v : Value) (m d : Nat) (w : World) (h : Sl w v (CC m)) (hf : (CC m).length <= 1000000000) (hd : 0 < d) (hd2 : d < 4294967296) :
 Calls prog 155 #[v, .int .u64 d] w (yU w (m / d) (m % d)) := by
 have := YJ v (CC m) d w h hf hd hd2
 rwa [CO] at this
def TxI (n m : Nat) (D : List Nat) : Prop := m <= n /\ Dg D /\ ((0 < m /\ VO n = VO m ++ D) ∨ (m = 0 /\ VO n = D))
theorem TxI.start (h : 0 < n) : TxI n n [] := ⟨Nat.le_refl _, (fun _ h => by cases h), .inl ⟨h, by simp⟩⟩
theorem TxI.step (h : TxI n m D) (hm : 0 < m) : TxI n (m / 10) (m % 10 :: D) := by
 obtain ⟨l, k, e⟩ := h
 rcases e with ⟨_, e⟩ | ⟨e, _⟩
 . refine ⟨by omega, Dg_cons.2 ⟨by omega, k⟩, ?_⟩
   by_cases f : m < 10
   . exact .inr ⟨by omega, by rw [e, PK m f, Nat.mod_eq_of_lt f]; rfl⟩
   exact .inl ⟨by omega, by rw [e, UT m AA, List.append_assoc]; rfl⟩
 omega
theorem TxI.len (h : TxI n m D) : D.length <= (VO n).length := by
 rcases h.2.2 with ⟨_, h⟩ | ⟨_, h⟩ <;> rw [h] <;> simp
theorem oE {F : Nat} (h : Fits z F) (hF : 0 < F) : (VO z.natAbs).length <= 10 * F := by
 refine pO AA ?_
 rw [Nat.pow_mul]
 exact Nat.lt_of_lt_of_le h.lt (Nat.pow_le_pow_left AE _)
theorem uE (l : List Nat) : (XG l).length = l.length := by simp [XG]
theorem Vw {d : Nat} (hd : d < 10) (h : R.data.toList = XG D) : (strOfNums [((48 + d : Nat) : Int)] ++ R).data.toList = XG (d :: D) := by
 have := oK [d] (Dg_cons.2 ⟨hd, fun _ h => by cases h⟩)
 rw [ByteArray.data_append, Array.toList_append, h]
 simp only [List.map_cons, List.map_nil] at this
 rw [this]; rfl
theorem Ms (h : x < 0) (hR : R.data.toList = XG (VO x.natAbs)) : (⟨#[45]⟩ : ByteArray) ++ R = MC x := by
 apply ByteArray.ext
 apply Array.ext'
 rw [ByteArray.data_append, Array.toList_append, hR]
 simp [MC, txt, h]
theorem Mr (h : ¬ x < 0) (hR : R.data.toList = XG (VO x.natAbs)) : R = MC x := by
 apply ByteArray.ext
 apply Array.ext'
 rw [hR]
 simp [MC, txt, h]
theorem txt_0 (h : x = 0) : (⟨#[48]⟩ : ByteArray) = MC x := by subst h; exact txt_zero.symm
theorem Ns {b T : Nat} {v : Int} (h : Bx w b T [.int .u8 v]) : ∀ i, i < 1 -> w.cell? ⟨b, 0 + i, none⟩ = some (.int .u8 ([v].getD i 0)) := by
 intro i e
 obtain rfl : i = 0 := by omega
 exact h.cell 0
theorem Lh (h : R.data.toList = XG D) : R.size = D.length := by rw [<- IB, h, uE]
set_option maxRecDepth 100000 in
set_option maxHeartbeats 4000000 in
theorem lK (va : Value) (x : Int) (w : World) (hva : IsI w va x) (Fx : Fits x 1000000000) :
 Calls prog 110 #[va] w (C3 w x) := by
 have E := Env.start w
 obtain ⟨f, e, rfl, _, _⟩ := hva.sh
 replace E := E.i hva
 go_enter func110, ntmps110
 refine zG ?_
 refine EF O (CI O O ?_)
 intro X w1 e1 z1 d1 x1
 replace E := E.below d1
 clear e1
 replace E := E.b x1
 by_cases k : x = 0
 . obtain ⟨ag, ab, a3⟩ := IsI.slice E.2.1
   refine zG ?_
   refine V (v := .int .i64 ↑((CC x.natAbs).length)) O O (NS O a3) ?_
   refine V O O (EU (c := true) O O O (Ug k)) ?_
   refine zG ?_
   exact ⟨congrArg (fun s => Ending.returned (.string s)) (txt_0 k), E.2.2.1⟩
 obtain ⟨af, aa, a2⟩ := IsI.slice E.2.1
 refine zG ?_
 refine V (v := .int .i64 ↑((CC x.natAbs).length)) O O (NS O a2) ?_
 refine V O O (EU (c := false) O O O (lB k)) ?_
 replace E := E.s (IsI.sl E.2.1)
 refine zG ?_
 refine wp_loop_ghost (fun mz a w' => ∃ (m : Nat) (D : List Nat) (R : ByteArray) (Y : Value) (g5 g6 S Q P N L J I H G F C B z y u t : Value), a = ⟨#[.agg #[.bool f, e], .pointer (some ⟨X, 0, none⟩), .string ⟨#[]⟩, .string R, Y, g5, g6, .pointer (some ⟨X, 1, none⟩), e, .int .i64 ↑((CC x.natAbs).length), .bool false, .pointer (some ⟨X, 1, none⟩), e, S, Q, P, N, L, J, I, H, G, F, C, B, z, y, u, t, undef, undef, undef, undef, undef], []⟩ /\ Env w' [fS Y (CC m), fB X f e, fI (.agg #[.bool f, e]) x, fW w] /\ mz = m /\ TxI x.natAbs m D /\ R.data.toList = XG D) (x.natAbs) ⟨x.natAbs, [], ⟨#[]⟩, e, _, _, _, _, _, _, _, _, _, _, _, _, _, _, _, _, _, _, O, zE, O, ⟨TxI.start (Ny k), O⟩⟩ ?_
 rintro m6 _ w6 ⟨m, D, R, Y, g5, g6, S, Q, P, N, L, J, I, H, G, F, C, B, z, y, u, t, rfl, E, a6, a7⟩
 obtain ⟨l, o⟩ := a7
 by_cases U : 0 < m
 case neg =>
  have hR : R.data.toList = XG (VO x.natAbs) := by rcases l.2.2 with ⟨h, _⟩ | ⟨_, h⟩; exact absurd h U; rw [h]; exact o
  obtain ⟨ac, a8, p⟩ := Sl.shp E.1
  refine zG ?_
  refine V (v := .int .i64 ↑((CC m).length)) O O (NS O p) ?_
  refine V O O (RS (c := false) O O O (lenz U)) ?_
  by_cases T : x < 0
  case neg =>
   obtain rfl : f = false := (GF E.2.2.1).trans (decide_eq_false T)
   refine zG ?_
   exact ⟨congrArg (fun s => Ending.returned (.string s)) (Mr T hR), e3 E⟩
  obtain rfl : f = true := (GF E.2.2.1).trans (decide_eq_true T)
  refine zG ?_
  refine V (v := .string ((⟨#[45]⟩ : ByteArray) ++ R)) O O (TY O O O (by have h1 := Lh hR; have h2 := oE Fx AE; show 1 + _ <= _; omega)) ?_
  refine zG ?_
  exact ⟨congrArg (fun s => Ending.returned (.string s)) (Ms T hR), e3 E⟩
 have a0 := l.step U
 have a4 : (CC m).length <= 1000000000 := Nat.le_trans (FS l.1) Fx
 have ad : R.size <= 10000000000 := by rw [Lh o]; exact Nat.le_trans l.len (oE Fx AE)
 have q : m % 10 < 10 := Nat.mod_lt _ AE
 obtain ⟨ae, a9, a1⟩ := Sl.shp E.1
 refine zG ?_
 refine V (v := .int .i64 ↑((CC m).length)) O O (NS O a1) ?_
 refine V O O (RS (c := true) O O O (lenp U)) ?_
 refine zG ?_
 refine EF O (ZO eW O (Az _ m 10 _ E.1 a4 AE AE) O E ?_)
 intro w8 v8 d8 E
 refine zG ?_
 refine V (v := .int .u64 ↑(48 + m % 10)) O O (IY O O O (EX AA AA)) ?_
 refine V (v := .int .u8 ↑(48 + m % 10)) O O (DR O O (by rw [underlying161]; rfl) underlying5 (OH AA AA)) ?_
 refine zG ?_
 refine EF O (uV O O E ?_)
 intro w9 b9 d9 E
 refine zG ?_
 refine V (v := .string (strOfNums [((48 + m % 10 : Nat) : Int)])) O O (sL O underlying42 underlying5 underlying9 O O (Ns E.1)) ?_
 refine zG ?_
 refine V (v := .string (strOfNums [((48 + m % 10 : Nat) : Int)] ++ R)) O O (TY O O O (by rw [strOfNums_size]; show 1 + _ <= _; omega)) ?_
 refine zG ?_
 exact ⟨_, (by rw [a6]; omega), m / 10, (m % 10 :: D), (strOfNums [((48 + m % 10 : Nat) : Int)] ++ R), v8, _, _, _, _, _, _, _, _, _, _, _, _, _, _, _, _, _, _, O, zE, O, ⟨a0, Vw q o⟩⟩
theorem Su {P : Program} {ρ : Operand -> Value} {o : Oper} {t t' : TypeId} {x y : Operand} {c : Bool} (ho : o.op = .binOp .neq t x y t') (hx : ρ x = .string a) (hy : ρ y = .string b) (hc : (a.data.toList != b.data.toList) = c) : (execOp ρ o).run P w = .ok (.value (.bool c)) w := by
 unfold execOp; rw [ho]
 subst hc
 simp only [hx, hy, eqGuard_at_string, binOp, Op.stringOp, Sem.run_bind, Sem.run_pure, Result.andThen_ok, ByteArray.toList_eq]
 rfl
set_option maxHeartbeats 2000000
set_option maxRecDepth 100000
def KD (x : Rat) : ByteArray := if ((x.den : Nat) : Int) = 1 then MC x.num else MC x.num ++ ⟨#[47]⟩ ++ MC ((x.den : Nat) : Int)
theorem MB (z : Int) : (MC z).data.toList = txt z := by unfold MC; simp
theorem LL (z : Int) : (47 : UInt8) ∉ txt z := by
 intro h
 unfold txt at h
 rcases List.mem_append.1 h with h | h
 . split at h
   . simp at h
   cases h
 obtain ⟨d, k, e⟩ := List.mem_map.1 h
 have l := PL z.natAbs d k
 have f : (UInt8.ofNat (48 + d)).toNat = (47 : UInt8).toNat := by rw [e]
 rw [UInt8.toNat_ofNat'] at f
 change _ = 47 at f
 omega
theorem cU {k : Nat} (h : Fits z k) (hk : 0 < k) : (MC z).size <= 10 * k + 1 := by
 have e : (MC z).size = (txt z).length := by rw [<- MB]; rfl
 rw [e]
 unfold txt
 rw [List.length_append, uE]
 have := oE h hk
 split <;> simp <;> omega
theorem cD (h : a.data.toList = b.data.toList) : a = b := by
 cases a; cases b; simp at h ⊢; exact h
theorem IT (x : Rat) : (KD x).data.toList = if ((x.den : Nat) : Int) = 1 then txt x.num else txt x.num ++ 47 :: txt ((x.den : Nat) : Int) := by
 unfold KD
 split
 . exact MB _
 rw [ByteArray.data_append, ByteArray.data_append, Array.toList_append, Array.toList_append, MB, MB]; simp
theorem RQ {a b c d : List UInt8} (ha : (47 : UInt8) ∉ a) (hc : (47 : UInt8) ∉ c) (h : a ++ 47 :: b = c ++ 47 :: d) : a = c /\ b = d := by
 induction a generalizing c with
 | nil =>
   cases c with
   | nil => simpa using h
   | cons y c => simp at h; exact absurd (by rw [h.1]; simp) hc
 | cons x a ih =>
   cases c with
   | nil => simp at h; exact absurd (by rw [h.1]; simp) ha
   | cons y c =>
     simp only [List.cons_append, List.cons.injEq] at h
     obtain ⟨f, e⟩ := ih (fun g => ha (List.mem_cons_of_mem _ g)) (fun g => hc (List.mem_cons_of_mem _ g)) h.2
     exact ⟨by rw [h.1, f], e⟩
def vq (n d : Int) : Prop := 0 < d /\ Nat.gcd n.natAbs d.natAbs = 1
theorem zZ (x : Rat) : vq x.num ((x.den : Nat) : Int) := ⟨Vl x, by rw [Int.natAbs_natCast]; exact x.reduced⟩
theorem sB {n : Int} (h : vq n d) : (Rat.divInt n d).num = n /\ (((Rat.divInt n d).den : Nat) : Int) = d := Ue h.1 (by rw [h.2]; rfl)
theorem vD (n : Int) : vq n 1 := ⟨by decide, by simp⟩
section
variable {l a b : List UInt8} {n d : Int}
theorem Nj (ha : DW l = some n) : l = (KD (n : Rat)).data.toList := by
 rw [IT]
 rw [if_pos AH, Rat.num_intCast, MJ ha]
theorem Ej (hs : (47 : UInt8) ∉ l) (ha : DW l = none) (x : Rat) : l ≠ (KD x).data.toList := by
 intro e
 rw [IT] at e
 split at e
 . exact bQ ha _ e.symm
 rw [e] at hs; simp at hs
theorem Em (hs : (47 : UInt8) ∉ a) (ha : DW a = none) (x : Rat) : a ++ 47 :: b ≠ (KD x).data.toList := by
 intro e
 rw [IT] at e
 split at e
 . exact LL x.num (by rw [<- e]; simp)
 exact bQ ha _ (RQ hs (LL _) e).1.symm
theorem Ek (hs : (47 : UInt8) ∉ a) (hb : DW b = none) (x : Rat) : a ++ 47 :: b ≠ (KD x).data.toList := by
 intro e
 rw [IT] at e
 split at e
 . exact LL x.num (by rw [<- e]; simp)
 exact bQ hb _ (RQ hs (LL _) e).2.symm
theorem sX (hs : (47 : UInt8) ∉ a) (ha : DW a = some n) (hb : DW b = some d) (h : ¬ vq n d ∨ d = 1) (x : Rat) : a ++ 47 :: b ≠ (KD x).data.toList := by
 intro e
 rw [IT] at e
 split at e
 . exact LL x.num (by rw [<- e]; simp)
 rename_i h1
 obtain ⟨e1, e2⟩ := RQ hs (LL _) e
 rw [<- MJ ha] at e1
 rw [<- MJ hb] at e2
 rw [cT e1, cT e2] at h
 rcases h with h | h
 . exact h (zZ x)
 exact h1 h
theorem Xc (ha : DW a = some n) (hb : DW b = some d) (h : vq n d) (h1 : d ≠ 1) : a ++ 47 :: b = (KD (Rat.divInt n d)).data.toList := by
 obtain ⟨e1, e2⟩ := sB h
 rw [IT, e1, e2, if_neg h1, MJ ha, MJ hb]
end
theorem vG {x y : Rat} (h : KD x = KD y) : x = y := by
 have h : (KD x).data.toList = (KD y).data.toList := by rw [h]
 rw [IT, IT] at h
 split at h <;> split at h <;> rename_i h1 h2
 . exact Rat.ext (cT h) AA
 . exact absurd (by rw [h]; simp) (LL x.num)
 . exact absurd (by rw [<- h]; simp) (LL y.num)
 obtain ⟨e1, e2⟩ := RQ (LL _) (LL _) h
 have := cT e2
 exact Rat.ext (cT e1) AA
inductive ParQ (w0 : World) (R : Int -> Int -> Int -> Ending -> World -> Prop) (s : ByteArray) (e : Ending) (w' : World) : Prop
 | big (h : 4000 < s.size) (r : R 0 0 2 e w')
 | form (h : s.size <= 4000) (h' : ∀ x, s ≠ KD x) (r : R 0 0 3 e w')
 | ok (x : Rat) (h : s.size <= 4000) (h' : s = KD x) (r : R x.num ((x.den : Nat) : Int) 0 e w')
theorem Vp {c : UInt8} (h : c ∈ l) : ∃ a b, l = a ++ c :: b /\ c ∉ a := by
 induction l with
 | nil => cases h
 | cons x l ih =>
   by_cases f : x = c
   . exact ⟨[], l, by simp [f], by simp⟩
   rcases List.mem_cons.1 h with e | e
   . exact absurd e.symm f
   obtain ⟨a, b, e1, e2⟩ := ih e
   exact ⟨x :: a, b, by simp [e1], by simp [e2, Ne.symm f]⟩
theorem OK (hs : l.length <= 4000) (h : DW l = some d) : Fits d 4000 := by
 have k := MJ h
 have f : (VO d.natAbs).length <= 4000 := by
  have : (txt d).length <= 4000 := by rw [k]; exact hs
  unfold txt XG at this; rw [List.length_append, List.length_map] at this; omega
 have e := lR (PL d.natAbs)
 rw [RX] at e
 exact (NF (m := (VO d.natAbs).length) (Nat.lt_of_lt_of_le e (Nat.pow_le_pow_left AE _))).mono f
theorem fnc_Index : Fn prog 146 := ⟨_, func146, by kernel_rfl, rfl⟩
theorem fnc_Cut0 : Fn prog 99 := ⟨_, func99, by kernel_rfl, rfl⟩
theorem WK : Fn prog 52 := ⟨_, func52, by kernel_rfl, rfl⟩
theorem Ks (s sep : ByteArray) (c : UInt8) (hsep : sep = ⟨#[c]⟩) (w : World) (h : Lib.indexByte s.data.toList c = -1) :
 Calls prog 99 #[.string s, .string sep] w fun e w' => e = .returned (.tuple #[.string s, .string ByteArray.empty, .bool false]) /\ ∃ n, w' = w.drewN n := by
 have f : ∀ w, Calls prog 146 #[.string s, .string sep] w fun e w' => e = .returned (.int .i64 (-1)) /\ w' = w := fun w => by rw [hsep, <- h]; exact Tryz.stringslite_Index_one s c w
 have k : ∀ args w, (callFunc 146 args).run prog w = .ok (.enter 146 args) w := fnc_Index.run
 clear hsep h
 go_enter func99, ntmps99
 go_wp2_with (go_at_fn 146; refine (f _).mono ?_; rintro e w' ⟨rfl, rfl⟩)
 go_ret3
 exact ⟨rfl, 0, rfl⟩
theorem Rw (s sep : ByteArray) (c : UInt8) (i : Nat) (hsep : sep = ⟨#[c]⟩) (w : World) (h : Lib.indexByte s.data.toList c = (i : Int)) (hroom : i + sep.size <= s.size) (hs : s.size < 4294967281) :
 Calls prog 99 #[.string s, .string sep] w fun e w' => e = .returned (.tuple #[.string (s.extract 0 i), .string (s.extract (i + sep.size) s.size), .bool true]) /\ ∃ n, w' = w.drewN n := by
 have k : ∀ w, Calls prog 146 #[.string s, .string sep] w fun e w' => e = .returned (.int .i64 (i : Int)) /\ w' = w := fun w => by rw [hsep, <- h]; exact Tryz.stringslite_Index_one s c w
 have l : ∀ args w, (callFunc 146 args).run prog w = .ok (.enter 146 args) w := fnc_Index.run
 have f : prog.follows .mixedOrders = true := by kernel_rfl
 have t : (0 : Int) <= ↑i := by omega
 have q : (↑i : Int) <= ↑s.size := by omega
 have p : (0 : Int) <= ↑i + ↑sep.size := by omega
 have o : (↑i + ↑sep.size : Int) <= ↑s.size := by omega
 clear hsep h
 go_enter func99, ntmps99
 go_wp2_with (go_at_fn 146; refine (k _).mono ?_; rintro e w' ⟨rfl, rfl⟩)
 go_region_o
 go_wp2
 go_ret3
 exact ⟨rfl, 1, rfl⟩
theorem Ru {s sep : ByteArray} (h : ∀ w, Calls prog 99 #[.string s, .string sep] w fun e w' => e = .returned v /\ ∃ n, w' = w.drewN n) {f : Bool} (hv : v = .tuple #[.string a, .string b, .bool f]) (w : World) :
 Calls prog 52 #[.string s, .string sep] w fun e w' => e = .returned (.tuple #[.string a, .string b, .bool f]) /\ ∃ n, w' = w.drewN n := by
 subst hv
 have k : ∀ args w, (callFunc 99 args).run prog w = .ok (.enter 99 args) w := fnc_Cut0.run
 go_enter func52, ntmps52
 go_wp2_with (go_at_fn 99; refine (h _).mono ?_; rintro e w' ⟨rfl, n, rfl⟩)
 go_ret3
 exact ⟨rfl, n, rfl⟩
def Qz (w0 : World) (v : Value) (e : Ending) (w' : World) : Prop := e = .returned v /\ Below w0.heap.size w0 w'
theorem Rv (s : ByteArray) (c : UInt8) (w : World) (h : c ∉ s.data.toList) : Calls prog 52 #[.string s, .string ⟨#[c]⟩] w (Qz w (.tuple #[.string s, .string ByteArray.empty, .bool false])) := by
 have k : Lib.indexByte s.data.toList c = -1 := by
  have := Lib.indexByte_ge s.data.toList c
  rcases Int.lt_or_le (Lib.indexByte s.data.toList c) 0 with e | e
  . omega
  obtain ⟨o, f⟩ : ∃ o : Nat, Lib.indexByte s.data.toList c = o := ⟨(Lib.indexByte s.data.toList c).toNat, by omega⟩
  exact absurd (List.mem_of_getElem? (Lib.indexByte_some f).1) h
 refine (Ru (fun w => Ks s _ c O w k) O w).mono ?_
 exact Zqm
theorem gO (s a b : ByteArray) (c : UInt8) (w : World) (h : s.data.toList = a.data.toList ++ c :: b.data.toList) (hc : c ∉ a.data.toList) (hs : s.size < 4294967281) :
 Calls prog 52 #[.string s, .string ⟨#[c]⟩] w (Qz w (.tuple #[.string a, .string b, .bool true])) := by
 have l : s.data.toList[a.size]? = some c := by
  rw [h, List.getElem?_append_right (by rw [Lib.size_eq]; exact Nat.le_refl _), Lib.size_eq, Nat.sub_self]; rfl
 have u : Lib.indexByte s.data.toList c = ((a.size : Nat) : Int) := by
  have := Lib.indexByte_ge s.data.toList c
  rcases Int.lt_or_le (Lib.indexByte s.data.toList c) 0 with e | e
  . exact absurd l (Lib.indexByte_none AA _)
  obtain ⟨o, f⟩ : ∃ o : Nat, Lib.indexByte s.data.toList c = o := ⟨(Lib.indexByte s.data.toList c).toNat, by omega⟩
  obtain ⟨q, v⟩ := Lib.indexByte_some f
  rcases Nat.lt_trichotomy o a.size with k | k | k
  . rw [h, List.getElem?_append_left (by rw [<- Lib.size_eq]; exact k)] at q
    exact absurd (List.mem_of_getElem? q) hc
  . rw [f, k]
  exact absurd l (v _ k)
 have t : s.size = a.size + (b.size + 1) := by
  rw [Lib.size_eq, h, Lib.size_eq, Lib.size_eq]; simp
 have p : (⟨#[c]⟩ : ByteArray).size = 1 := rfl
 have e1 : s.extract 0 a.size = a := cD (by rw [Lib.extract_eq, h, show a.size = a.data.toList.length from Lib.size_eq a]; simp)
 have e2 : s.extract (a.size + (⟨#[c]⟩ : ByteArray).size) s.size = b := cD (by
  rw [Lib.extract_eq, p, t, h]
  rw [List.drop_append, List.drop_of_length_le (by rw [Lib.size_eq]; omega), show a.size + 1 - a.data.toList.length = 1 by rw [Lib.size_eq]; omega]
  simp
  rw [List.take_of_length_le]; rw [<- Lib.size_eq]; omega)
 refine (Ru (fun w => Rw s _ c a.size O w u (by rw [p]; omega) hs) (by rw [e1, e2]) w).mono ?_
 exact Zqm
section
variable {P : Program} {o : Oper} {a : Act} {w : World} {K : Act -> World -> Prop} {Q : Exit -> Act -> World -> Prop} {f : Nat} {args : List Operand} {tys : Array TypeId} {vs : List Value} {l : List SF}
theorem JF (hf : Fn P f) (ho : o.op = .call { callee := .value (.func f), args := args.toArray, argTypes := tys }) (hc : Calls P f vs.toArray w (Qz w v)) (hv : args.map a.eval = vs) (E : Env w l)
 (h : ∀ w', Below w.heap.size w w' -> Env w' l -> K (a.put o.dst v) w') : o.wp P a w K Q := by
 refine DG hf ho hc hv ?_
 rintro e w' ⟨rfl, k⟩
 exact ⟨_, rfl, h w' k (E.below k)⟩
end
end Go.Proofs.YtmppigbbkjepiaaGreatDoor
