/- Helping facts of Bck; no other conditions. -/
import Derived.Test.YtmppigbbkjepiaaGreatDoorMade32
namespace Go.Proofs.YtmppigbbkjepiaaGreatDoor
open Go.Proofs.Tryz
open Go.RowKit W
theorem Ik {ops : Array Oper} {S : World → Prop} {i : Nat} {o : Oper} {fr : List Value} {x y z : Operand} {s t u : ByteArray} (ho : ops[i]? = some o) (hop : o.op = .buildSlice 30 3 #[(0, x), (1, y), (2, z)]) (hg : o.guard = none)
    (hx : KL fr x = .string s) (hy : KL fr y = .string t) (hz : KL fr z = .string u) : RunF prog ops S i ⟨fun b => .slice (some ⟨b, 0, none⟩) 3 3, 9, [.string s, .string t, .string u]⟩ ⟨fr.toArray, []⟩ :=
  ⟨o, ho, by unfold Region.wanted; rw [hg], fun w _ => tC hop (by rw [KS]; exact hx) (by rw [KS]; exact hy) (by rw [KS]; exact hz)⟩
set_option maxRecDepth 100000 in
set_option maxHeartbeats 8000000 in
theorem bck_t (va : Value) (la : List (List Int)) (n0 : Nat) (vl vy : Value) (ll : List (List (List Int))) (ly : List Nat) (w : World) (hRa : IsR elA (DD w.heap.size) w va la) (hn0 : n0 < 256) (hRl : IsR Nh (DD w.heap.size) w vl ll) (hRy : IsR Ni (DD w.heap.size) w vy ly) (hG : Glob w) :
    Calls prog 8 #[.agg #[va], .agg #[.int .u8 ↑n0, vl, vy]] w (NP w true) := by
 have E := Env.start w
 obtain ⟨aq, a0, rfl, ct, co⟩ := hRa.shp
 obtain ⟨ap, Y, rfl, cr, cn⟩ := hRl.shp
 obtain ⟨ao, X, rfl, cq, cm⟩ := hRy.shp
 have cu := hG.two
 replace E := (((E.r hRa (DK _)).r hRl (DK _)).r hRy (DK _)).gl hG
 go_enter func8, ntmps8
 refine yG ?_
 refine EF O (CI (cs := [.slice aq la.length a0]) O O ?_)
 intro b1 w1 bp z1 d1 x1
 have l1 : w.heap.size ≤ b1 := by rw [bp]; exact (e4 E).size
 replace E := E.below d1
 replace E := E.x x1
 refine yG ?_
 refine EF O (CI (cs := [.int .u8 ↑n0, .slice ap ll.length Y, .slice ao ly.length X]) O O ?_)
 intro b2 w2 bo z2 d2 x2
 have c6 : b1 < b2 := by rw [bo]; exact Bx.lt E.1
 replace E := E.below d2
 replace E := E.x x2
 refine yG ?_
 refine EF O (CA NN O (aN _ E.2.2.1.1) O E ?_)
 intro w3 d3 E
 have b3 : b2 < w3.heap.size := Bx.lt E.1
 have b0 : b1 < w3.heap.size := Bx.lt E.2.1
 refine yG ?_
 refine PA E [.op 1, .op 3, .av 0, .av 5, .op 2, .op 4, .op 0, .op 5, .op 6, .op 7] 1 (#[true, true, true, true, true, true, true, true, false]) Z Z Z Z AF AF ?_
 refine FP (v := .agg #[.slice aq la.length a0]) O O O O O (fun w hS => CD Ee O O (Bx.cs (hS.2.1)) O) ?_
 refine FP (v := .agg #[.int .u8 ↑n0, .slice ap ll.length Y, .slice ao ly.length X]) O O O O O (fun w hS => CD Pf O O (Bx.cs (hS.1)) O) ?_
 refine FA _ (Ik (s := bs [120]) (t := bs [121, 95, 49]) (u := bs [90, 101, 100]) O O O O O O) ?_
 refine FA _ (RunF.alloc LK O O O) ?_
 have c7 : w.heap.size ≤ w3.heap.size := (e6 E).size
 refine yG ?_
 refine FE O O O O ?_
 intro w8 E
 refine CW OL O (iY _ la 3 4 6 _ (BW (e5 E)) AE AE AE) O E ?_
 intro w7 v7 d7 f7 E
 have z7 := d7.size
 replace E := E.sz (Nat.le_refl w7.heap.size)
 obtain ⟨p, z, am⟩ := f7
 obtain ⟨bb, ba, rfl, c8, _⟩ := am.shp
 replace E := E.r (e := JP) (S := DX w8.heap.size w7.heap.size) am (fun _ g => g.2)
 refine kF2 d7 E O ?_
 have az : b1 < w7.heap.size := Bx.lt (e3 E)
 refine yG ?_
 refine FE O O O O ?_
 intro I E
 have ae : w7.heap.size ≤ I.heap.size := CR E.2.1
 refine CW XP O (vX n0 _ _ ll ly _ hn0 (BW (e6 E)) (BW (e5 E))) O E ?_
 intro w9 v9 d9 f9 E
 have z9 := d9.size
 replace E := E.sz (Nat.le_refl w9.heap.size)
 obtain ⟨nn, ii, Q, P, sn, ai, bn, J, cf, ch, cg, rfl, L, a8, a7⟩ := f9
 obtain ⟨N, a4⟩ : ∃ l, nm3.take nn = l := ⟨_, rfl⟩
 have a6 := J.sy ai bn
 rw [a4] at a6
 have bk := (yH ai).2
 rw [a4] at bk
 have cp := J.len
 have al := J.qe.pols
 have ak := J.re.pols
 dsimp only at L a8 a7
 rw [a4] at L
 obtain ⟨bw, bt, rfl, _, _⟩ := L.shp
 obtain ⟨c0, bv, rfl, _, _⟩ := a8.shp
 obtain ⟨bx, bu, rfl, _, _⟩ := a7.shp
 replace E := E.r (e := NY) (S := DX I.heap.size w9.heap.size) a7 (fun _ g => g.2)
 replace E := E.r (e := NY) (S := DX I.heap.size w9.heap.size) a8 (fun _ g => g.2)
 replace E := E.r (e := elS) (S := DX I.heap.size w9.heap.size) L (fun _ g => g.2)
 have af := kC a6
 have ah := kH a6
 refine kF2 d9 E O ?_
 refine yG ?_
 refine FF O O ?_
 intro G cw b9
 have bi : b2 < G := by omega
 simp only [List.mem_append, List.mem_range'_1, not_or, List.not_mem_nil, not_false_eq_true, true_and] at b9
 refine yG ?_
 refine FF O O ?_
 intro a9 cv ad
 have bh : b2 < a9 := by omega
 have b8 : a9 ≠ G := by rintro rfl; exact ad AH
 simp only [List.mem_append, List.mem_cons, List.mem_range'_1, not_or, List.not_mem_nil, not_false_eq_true, true_and] at ad
 refine FP (v := .slice (some ⟨G, 0, none⟩) 3 3) O O O O O (fun w hS => KH O O) ?_
 refine FP (v := .slice bb p.length ba) O O O O O (fun w hS => KH O O) ?_
 refine yG ?_
 intro ce E
 refine H1 (i := 8) Z ?_
 have ab := E.1
 replace E := WJ E
 refine HE (o := ⟨none, _, _, _, _, _⟩) O O (BY LK O O O ab O O (CG O (CG O (CG O (CG O ED)))) ?_)
 intro B bd b5
 replace E := oY E ab bd b5 (ds := [.slice bw N.length bt, .slice c0 Q.length bv, .slice bx P.length bu, .int .i64 ↑sn])
 refine ⟨E.2.2.2.2.2.2.2.2, ?_⟩
 refine yG ?_
 refine HN Z ?_
 have bm : IsR elS (DX w.heap.size B.heap.size) B (.slice (some ⟨G, 0, none⟩) 3 3) nm3 := NA (l := nm3) E.2.1 ⟨by omega, Bx.lt E.2.1⟩ AE
 refine yG ?_
 replace E := (E.sz (Nat.le_refl B.heap.size)).r bm (fun k hk => hk.2)
 have ck : nm3.length = 3 := rfl
 have ag := z.poly (j := 3) (vars := nm3) AE AE AE AE AE
 have cj := z.txt (j := 3) (vars := nm3) AE AE AE AE
 refine yG ?_
 refine EF O (BZ EH O ((by have f := PK _ p _ nm3 B (BW (e8 E)) (BW E.1) z.ok (z.fit AE AE) (by have := z.len; omega) AA (QP E).1; rw [ag.1] at f; exact f)) O E ?_)
 intro H d4 E
 have bj : w.heap.size ≤ H.heap.size := (e16 E).size
 refine yG ?_
 refine EF O (IQ (r := (p, 0, 0)) II O (by have f := aT (DQ nm3 p) _ nm3 H (BW E.1) AE AA (QP E).1; rw [ag.2] at f; exact f) O E ?_)
 intro y ci br an E
 have ca := br.size
 replace E := E.sz (Nat.le_refl y.heap.size)
 have aj := an
 obtain ⟨c2, c1, rfl, bl, _⟩ := an.shp
 replace E := E.r (e := JP) (S := DX H.heap.size y.heap.size) (show IsR JP (DX H.heap.size y.heap.size) y _ p from aj) (fun _ g => g.2)
 refine yG ?_
 refine EF O (BZ QG O ((by have f := lY _ N _ Q _ P sn y (BW (e6 E)) (BW (e7 E)) (BW (e8 E)) al ak AA (iU E).1; rw [af] at f; exact f)) O E ?_)
 intro b7 d0 E
 refine yG ?_
 refine EF O (ME (r := (⟨N, Q, P, sn⟩, 0, 0)) KR O (by have f := YC (SH ⟨N, Q, P, sn⟩) b7 (iU E).1; rw [ah] at f; exact f) O E ?_)
 intro ac a1 c3 R a3 c5 U a2 c4 T cz C F D E
 dsimp only at C F D E
 subst C F D
 replace E := E.sz (Nat.le_refl ac.heap.size)
 refine yG ?_
 refine EF O (CB LK O ?_)
 intro q cd h c9 bq aa
 have bg : a9 < q := by rw [h]; exact Bx.lt (e8 E)
 have bf : G < q := by rw [h]; exact Bx.lt (e9 E)
 have ay : ac.heap.size ≤ q := by rw [h]; exact CR E.1
 have ax : y.heap.size ≤ q := by rw [h]; exact CR (e5 E)
 have aw : B.heap.size ≤ q := by rw [h]; exact CR (e7 E)
 have au : w9.heap.size ≤ q := by rw [h]; exact CR (TI E)
 have ar : w7.heap.size ≤ q := by rw [h]; exact CR (Iy E)
 replace E := E.below bq
 refine yG ?_
 refine EF O (BY LK O O O aa O O (CG O (CG O (CG O (CG O ED)))) ?_)
 intro cc bc b4
 replace E := oY E aa bc b4 (ds := [.slice a1 N.length R, .slice a3 Q.length U, .slice a2 P.length T, .int .i64 ↑sn])
 refine yG ?_
 refine EF O (CA GU O (CU (show decide (p = p) = true by simp) (TL _ p _ p _ (BW (Iy E)) (BW (e5 E)) (by have := z.len; omega))) O E ?_)
 intro b6 cy E
 refine yG ?_
 refine EF O (CA XO O (CU (decide_eq_true ⟨O, O, O, O⟩) (vS _ N _ Q _ P sn (.slice a1 N.length R) N (.slice a3 Q.length U) Q (.slice a2 P.length T) P sn b6 (BW (QQ E)) (BW (QP E)) (BW (TI E)) (BW E.2.2.1) (BW (e3 E)) (BW (e4 E)) (fun e he => (al e he).2.2) (fun e he => (ak e he).2.2) AA AA AA )) O E ?_)
 intro cb cx E
 refine yG ?_
 exact ⟨rfl, Cv E⟩
end Go.Proofs.YtmppigbbkjepiaaGreatDoor
