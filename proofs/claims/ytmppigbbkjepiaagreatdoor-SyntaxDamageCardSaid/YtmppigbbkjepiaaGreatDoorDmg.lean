/- Helping facts of Dmg; no other conditions. -/
import Derived.Test.YtmppigbbkjepiaaGreatDoorMade32
namespace Go.Proofs.YtmppigbbkjepiaaGreatDoor
open Go.Proofs.Tryz
open Go.RowKit W
theorem Py {ρ : Operand → Value} {o : Oper} {w : World} {x : Operand} {n : Int} (ho : o.op = .buildSlice 42 1 #[(0, x)]) (hx : ρ x = .int .u8 n) :
    (execOp ρ o).run prog w = .ok (.value (.slice (some ⟨w.heap.size, 0, none⟩) 1 1)) (w.alloc (.cells #[.int .u8 n] 5)) := by
  unfold execOp; rw [ho]
  simp [go_sem, Instr.buildSlice, hx]
theorem wD {o : Oper} {a : Act} {w : World} {K : Act → World → Prop} {Q : Exit → Act → World → Prop} {x : Operand} {n : Int} (ho : o.op = .buildSlice 42 1 #[(0, x)]) (hx : a.eval x = .int .u8 n)
    (h : ∀ b w', b = w.heap.size → w'.heap.size = w.heap.size + 1 → Below w.heap.size w w' → Bx w' b 5 [.int .u8 n] → K (a.put o.dst (.slice (some ⟨b, 0, none⟩) 1 1)) w') : o.wp prog a w K Q :=
  DI (Py ho hx) (h _ _ rfl AH ((Below.refl _ _).alloc (Nat.le_refl _) _) (HO w _ [.int .u8 n]))
theorem Kc {ρ : Operand → Value} {o : Oper} {w : World} {x : Operand} {b n : Nat} (ho : o.op = .convert 42 9 x) (hx : ρ x = .slice (some ⟨b, 0, none⟩) 1 1) (hb : Bx w b 5 [.int .u8 ↑n]) :
    (execOp ρ o).run prog w = .ok (.value (.string (bs [UInt8.ofNat n]))) w := by
  have h := pS ho underlying42 underlying5 underlying9 hx (xs := [((n : Nat) : Int)]) rfl (fun i e => by
    obtain rfl : i = 0 := by omega
    rw [hb.cell]; rfl)
  rwa [show strOfNums [((n : Nat) : Int)] = bs [UInt8.ofNat n] from XW (by unfold strOfNums bs; simp)] at h
theorem Fr {ρ : Operand → Value} {o : Oper} {w : World} {x y z u v : Operand} {a b c d e : ByteArray} (ho : o.op = .buildSlice 30 5 #[(0, x), (1, y), (2, z), (3, u), (4, v)]) (hx : ρ x = .string a) (hy : ρ y = .string b) (hz : ρ z = .string c) (hu : ρ u = .string d) (hv : ρ v = .string e) :
    (execOp ρ o).run prog w = .ok (.value (.slice (some ⟨w.heap.size, 0, none⟩) 5 5)) (w.alloc (.cells #[.string a, .string b, .string c, .string d, .string e] 9)) := by
  unfold execOp; rw [ho]
  simp [go_sem, Instr.buildSlice, hx, hy, hz, hu, hv]
theorem mX {o : Oper} {a : Act} {w : World} {K : Act → World → Prop} {Q : Exit → Act → World → Prop} {x y z u v : Operand} {p q r s t : Bs} (ho : o.op = .buildSlice 30 5 #[(0, x), (1, y), (2, z), (3, u), (4, v)]) (hx : a.eval x = .string (bs p)) (hy : a.eval y = .string (bs q)) (hz : a.eval z = .string (bs r)) (hu : a.eval u = .string (bs s)) (hv : a.eval v = .string (bs t))
    (h : ∀ b w', b = w.heap.size → w'.heap.size = w.heap.size + 1 → Below w.heap.size w w' → Bx w' b 9 ([p, q, r, s, t].map fun x => Value.string (bs x)) → K (a.put o.dst (.slice (some ⟨b, 0, none⟩) 5 5)) w') : o.wp prog a w K Q :=
  DI (Fr ho hx hy hz hu hv) (h _ _ rfl AH ((Below.refl _ _).alloc (Nat.le_refl _) _) (HO w _ [.string (bs p), .string (bs q), .string (bs r), .string (bs s), .string (bs t)]))
theorem Jn (s : Sy) : 1 ≤ (SH s).length := by rw [pM]; simp only [List.length_append, List.length_cons]; omega
theorem Mu {X : Bs} {i : Nat} {b : UInt8} (h : X.length ≤ 99000) : ∀ x ∈ [(X.take i ++ [b]) ++ X.drop (i + 1), X.take i ++ X.drop (i + 1), (X.take i ++ [b]) ++ X.drop i, X.take i, X ++ [b]], x.length ≤ 100000 := by
  intro x e
  simp only [List.mem_cons, List.not_mem_nil, or_false] at e
  rcases e with rfl | rfl | rfl | rfl | rfl <;> simp only [List.length_append, List.length_take, List.length_drop, List.length_cons, List.length_nil] <;> omega
theorem Nw {x : Bs} {j : Nat} {c : UInt8} (h : x[j]? = some c) : (x.take (j + 1)).count 10 = (x.take j).count 10 + if c = 10 then 1 else 0 := by
  obtain ⟨f, e⟩ := List.getElem?_eq_some_iff.1 h
  rw [List.take_succ_eq_append_getElem f, List.count_append, e, List.count_cons, List.count_nil]; simp
theorem b10 {c : UInt8} : ((c.toNat : Nat) : Int) = 10 ↔ c = 10 := by
  constructor
  · intro h
    exact UInt8.toNat_inj.1 (by have : c.toNat = 10 := by omega
                                rw [this]; rfl)
  · rintro rfl; rfl
set_option maxRecDepth 100000 in
set_option maxHeartbeats 8000000 in
theorem dmg_t (n0 at0 by0 : Nat) (vl vy : Value) (ll : List (List (List Int))) (ly : List Nat) (w : World) (hn0 : n0 < 256) (hat : at0 < 65536) (_hby : by0 < 256) (hRl : IsR Nh (DD w.heap.size) w vl ll) (hRy : IsR Ni (DD w.heap.size) w vy ly) (hG : Glob w) :
    Calls prog 4 #[.agg #[.int .u8 ↑n0, vl, vy], .int .u16 ↑at0, .int .u8 ↑by0] w (NP w true) := by
 have E := Env.start w
 obtain ⟨N, z, rfl, eh, ea⟩ := hRl.shp
 obtain ⟨L, y, rfl, ef, dz⟩ := hRy.shp
 have ek := hG.two
 replace E := ((E.r hRl (DK _)).r hRy (DK _)).gl hG
 go_enter func4, ntmps4
 refine yG ?_
 refine EF O (CI (cs := [.int .u8 ↑n0, .slice N ll.length z, .slice L ly.length y]) O O ?_)
 intro b1 w1 cy z1 d1 x1
 have l1 : w.heap.size ≤ b1 := by rw [cy]; exact (e3 E).size
 replace E := E.below d1
 replace E := E.x x1
 refine yG ?_
 refine EF O (CA NN O (aN _ E.2.1.1) O E ?_)
 intro w2 d2 E
 refine yG ?_
 refine V O O (CD Pf O O (Bx.cs E.1) O) ?_
 have c2 : b1 < w2.heap.size := Bx.lt E.1
 have dk : w.heap.size ≤ w2.heap.size := (e4 E).size
 refine yG ?_
 refine EF O (CW XP O (vX n0 _ _ ll ly _ hn0 (BW (e3 E)) (BW E.2.2.1)) O E ?_)
 intro Y v3 d3 f3 E
 have z3 := d3.size
 replace E := E.sz (Nat.le_refl Y.heap.size)
 obtain ⟨nn, ii, R, Q, sn, b5, cm, aq, dv, dx, dw, rfl, ae, au, ar⟩ := f3
 obtain ⟨P, am⟩ : ∃ l, nm3.take nn = l := ⟨_, rfl⟩
 have ad := aq.sy b5 cm
 rw [am] at ad
 have cd := (yH b5).2
 rw [am] at cd
 have cu := aq.qe.pols
 have ct := aq.re.pols
 dsimp only at ae au ar
 rw [am] at ae
 obtain ⟨H, D, rfl, _, _⟩ := ae.shp
 obtain ⟨J, G, rfl, _, _⟩ := au.shp
 obtain ⟨I, F, rfl, _, _⟩ := ar.shp
 replace E := E.r (e := NY) (S := DX w2.heap.size Y.heap.size) ar (fun _ g => g.2)
 replace E := E.r (e := NY) (S := DX w2.heap.size Y.heap.size) au (fun _ g => g.2)
 replace E := E.r (e := elS) (S := DX w2.heap.size Y.heap.size) ae (fun _ g => g.2)
 have ai := kC ad
 have b2 := bF ad
 refine yG ?_
 refine EF O (CB LK O ?_)
 intro b4 w4 bg z4 d4 x4
 have dj : b1 < b4 := by rw [bg]; exact Bx.lt (e4 E)
 have c8 : Y.heap.size ≤ b4 := by rw [bg]; exact CR (e3 E)
 replace E := E.below d4
 refine yG ?_
 refine EF O (BY LK O O O x4 O O (CG O (CG O (CG O (CG O ED)))) ?_)
 intro w5 o5 y5
 replace E := oY E x4 o5 y5 (ds := [.slice H P.length D, .slice J R.length G, .slice I Q.length F, .int .i64 ↑sn])
 obtain ⟨X, hX⟩ : ∃ x, SH ⟨P, R, Q, sn⟩ = x := ⟨_, rfl⟩
 have cr := Jn ⟨P, R, Q, sn⟩
 rw [hX] at ai b2 cr
 refine yG ?_
 refine EF O (BZ QG O ((by have U := lY _ P _ R _ Q sn w5 (BW E.2.1) (BW E.2.2.1) (BW (e3 E)) cu ct AA (e6 E).1; rw [ai] at U; exact U)) O E ?_)
 intro w6 d6 E
 obtain ⟨i, hi⟩ : ∃ i, i = at0 % X.length := ⟨_, rfl⟩
 have ck : i < X.length := by rw [hi]; exact Nat.mod_lt _ AA
 refine yG ?_
 refine V (v := .int .i64 ↑at0) O O (EO O O (by rw [underlying45]; rfl) underlying3 (LM O AA)) ?_
 refine yG ?_
 refine V (v := .int .i64 ↑i) O O (DZ O O O AA ((JS at0 X.length).trans (by rw [hi]))) ?_
 refine yG ?_
 refine EF O (wD (n := ((by0 : Nat) : Int)) O O ?_)
 intro b7 w7 cx z7 d7 x7
 have di : b4 < b7 := by rw [cx]; exact Bx.lt E.1
 replace E := E.below d7
 replace E := E.x x7
 refine yG ?_
 refine V (v := .string (bs ([UInt8.ofNat by0]))) O O (Kc O O E.1) ?_
 obtain ⟨B, cq⟩ : ∃ b, UInt8.ofNat by0 = b := ⟨_, rfl⟩
 refine yG ?_
 rw [cq]
 refine sE E [0,1,2,3,4,5,6,7,8,9,10,11,12,13,14,15,16,17,18,19,20,21,22,23,24,25,26,27,28,29,30,31,32,33,34] ?_
 replace E := E.drew
 refine yG ?_
 refine SW (v := .string (bs (X.take i))) O O O O O (fun w hS => UB (a := X) (j := i) O underlying9 O O O AA) ?_
 refine yG ?_
 refine SW (v := .string (bs ((X.take i) ++ ([B])))) O O O O O (fun w hS => Kr (a := X.take i) (b := [B]) O O O (by simp only [List.length_take, List.length_cons, List.length_nil]; omega)) ?_
 refine yG ?_
 refine SW (v := .string (bs (X.drop (i + 1)))) O O O O O (fun w hS => eL (a := X) (j := (i + 1)) O underlying9 O O O AA) ?_
 refine yG ?_
 refine SW (v := .string (bs (((X.take i) ++ ([B])) ++ (X.drop (i + 1))))) O O O O O (fun w hS => Kr (a := (X.take i) ++ ([B])) (b := X.drop (i + 1)) O O O (by simp only [List.length_append, List.length_take, List.length_drop, List.length_cons, List.length_nil]; omega)) ?_
 refine yG ?_
 refine SW (v := .string (bs (X.take i))) O O O O O (fun w hS => UB (a := X) (j := i) O underlying9 O O O AA) ?_
 refine yG ?_
 refine SW (v := .string (bs (X.drop (i + 1)))) O O O O O (fun w hS => eL (a := X) (j := (i + 1)) O underlying9 O O O AA) ?_
 refine yG ?_
 refine SW (v := .string (bs ((X.take i) ++ (X.drop (i + 1))))) O O O O O (fun w hS => Kr (a := X.take i) (b := X.drop (i + 1)) O O O (by simp only [List.length_take, List.length_drop]; omega)) ?_
 refine yG ?_
 refine SW (v := .string (bs (X.take i))) O O O O O (fun w hS => UB (a := X) (j := i) O underlying9 O O O AA) ?_
 refine yG ?_
 refine SW (v := .string (bs ((X.take i) ++ ([B])))) O O O O O (fun w hS => Kr (a := X.take i) (b := [B]) O O O (by simp only [List.length_take, List.length_cons, List.length_nil]; omega)) ?_
 refine yG ?_
 refine SW (v := .string (bs (X.drop i))) O O O O O (fun w hS => eL (a := X) (j := i) O underlying9 O O O AA) ?_
 refine yG ?_
 refine SW (v := .string (bs (((X.take i) ++ ([B])) ++ (X.drop i)))) O O O O O (fun w hS => Kr (a := (X.take i) ++ ([B])) (b := X.drop i) O O O (by simp only [List.length_append, List.length_take, List.length_drop, List.length_cons, List.length_nil]; omega)) ?_
 refine yG ?_
 refine SW (v := .string (bs (X.take i))) O O O O O (fun w hS => UB (a := X) (j := i) O underlying9 O O O AA) ?_
 refine yG ?_
 refine JM (o := ⟨some 81, _, _, _, _, _⟩) O O O O (mX (p := ((X.take i) ++ ([B])) ++ (X.drop (i + 1))) (q := (X.take i) ++ (X.drop (i + 1))) (r := ((X.take i) ++ ([B])) ++ (X.drop i)) (s := X.take i) (t := X ++ ([B])) O O O O O O ?_)
 intro b8 w8 cz z8 d8 x8
 obtain ⟨l5, ao⟩ : ∃ l, [((X.take i) ++ ([B])) ++ (X.drop (i + 1)), (X.take i) ++ (X.drop (i + 1)), ((X.take i) ++ ([B])) ++ (X.drop i), X.take i, X ++ ([B])] = l := ⟨_, rfl⟩
 rw [ao] at x8
 have cw : ∀ x ∈ l5, x.length ≤ 100000 := by rw [← ao]; exact Mu AA
 have bd : l5.length = 5 := by rw [← ao]; rfl
 have b3 : IsR elS (DX w7.drew.heap.size w8.heap.size) w8 (.slice (some ⟨b8, 0, none⟩) l5.length l5.length) l5 := NA (l := l5) x8 ⟨Nat.le_of_eq cz.symm, by omega⟩ (by rw [bd]; decide)
 rw [bd] at b3
 replace E := ((E.below d8).sz (Nat.le_refl w8.heap.size)).r b3 (fun _ g => g.2)
 refine ⟨E.2.2, ?_⟩
 refine yG ?_
 refine wp_loop_ghost (fun mz a w' => ∃ (k : Nat) (f : List Value), f = a.tmps.toList ∧ a = ⟨#[.agg #[.int .u8 ↑n0, .slice N ll.length z, .slice L ly.length y], .int .u16 ↑at0, .int .u8 ↑by0, .pointer (some ⟨b1, 0, none⟩), undef, undef, CE f 6, .bool true, .pointer (some ⟨b4, 0, none⟩), .string (bs X), .int .i64 ((0 : Nat) : Int), .int .i64 ↑i, .string (bs ([B])), .slice (some ⟨b8, 0, none⟩) 5 5, .int .i64 ↑k, CE f 15, CE f 16, CE f 17, CE f 18, CE f 19, undef, undef, undef, .bool true, .bool true, .bool false, .agg #[.int .u8 ↑n0, .slice N ll.length z, .slice L ly.length y], .agg #[.slice H P.length D, .slice J R.length G, .slice I Q.length F, .int .i64 ↑sn], .tuple #[.string (bs X), .int .i64 ((0 : Nat) : Int)], .agg #[.slice H P.length D, .slice J R.length G, .slice I Q.length F, .int .i64 ↑sn], .tuple #[.string (bs X), .int .i64 ((0 : Nat) : Int)], .string (bs X), .int .i64 ((0 : Nat) : Int), .int .i64 ((0 : Nat) : Int), .bool false, .bool false, .string (bs X), .int .i64 ↑X.length, .bool false, .bool false, .int .u16 ↑at0, .int .i64 ↑at0, .string (bs X), .int .i64 ↑X.length, .int .i64 ↑i, .int .u8 ↑by0, .slice (some ⟨b7, 0, none⟩) 1 1, .string (bs ([B])), .string (bs X), .int .i64 ↑i, .string (bs (X.take i)), .string (bs ([B])), .string (bs ((X.take i) ++ ([B]))), .string (bs X), .int .i64 ↑i, .int .i64 ↑(i + 1), .string (bs (X.drop (i + 1))), .string (bs (((X.take i) ++ ([B])) ++ (X.drop (i + 1)))), .string (bs X), .int .i64 ↑i, .string (bs (X.take i)), .string (bs X), .int .i64 ↑i, .int .i64 ↑(i + 1), .string (bs (X.drop (i + 1))), .string (bs ((X.take i) ++ (X.drop (i + 1)))), .string (bs X), .int .i64 ↑i, .string (bs (X.take i)), .string (bs ([B])), .string (bs ((X.take i) ++ ([B]))), .string (bs X), .int .i64 ↑i, .string (bs (X.drop i)), .string (bs (((X.take i) ++ ([B])) ++ (X.drop i))), .string (bs X), .int .i64 ↑i, .string (bs (X.take i)), .string (bs X), .string (bs ([B])), .string (bs (X ++ ([B]))), .slice (some ⟨b8, 0, none⟩) 5 5, CE f 82, CE f 83, CE f 84, CE f 85, CE f 86, CE f 87, CE f 88, CE f 89, CE f 90, CE f 91, CE f 92, CE f 93, CE f 94, CE f 95, CE f 96, CE f 97, CE f 98, CE f 99, CE f 100, CE f 101, CE f 102, CE f 103, CE f 104, CE f 105, CE f 106, CE f 107, CE f 108, CE f 109, CE f 110, CE f 111, CE f 112, CE f 113, CE f 114, CE f 115, CE f 116, CE f 117, CE f 118, CE f 119, CE f 120, CE f 121, CE f 122, CE f 123, CE f 124, CE f 125, CE f 126, CE f 127, CE f 128, CE f 129, CE f 130, CE f 131, CE f 132, CE f 133, CE f 134, CE f 135, CE f 136, CE f 137, CE f 138, CE f 139, CE f 140, CE f 141, CE f 142, CE f 143, CE f 144, CE f 145, CE f 146, undef, undef, undef, undef, undef, undef, undef, undef, undef, undef, undef, undef, undef], []⟩ ∧ Env w' [fR elS (DX w7.drew.heap.size w8.heap.size) (.slice (some ⟨b8, 0, none⟩) 5 5) l5, oZ w8.heap.size, fX b7 (5) ([.int .u8 ↑by0]), fX b4 (48) ([.slice H P.length D, .slice J R.length G, .slice I Q.length F, .int .i64 ↑sn]), fR elS (DX w2.heap.size Y.heap.size) (.slice H P.length D) P, fR NY (DX w2.heap.size Y.heap.size) (.slice J R.length G) R, fR NY (DX w2.heap.size Y.heap.size) (.slice I Q.length F) Q, oZ Y.heap.size, fX b1 (44) ([.int .u8 ↑n0, .slice N ll.length z, .slice L ly.length y]), fGl, fR Ni (DD w.heap.size) (.slice L ly.length y) ly, fR Nh (DD w.heap.size) (.slice N ll.length z) ll, fW w] ∧ mz = 5 - k ∧ k ≤ 5) (5) ⟨0, _, O, O, zE, O, (Nat.zero_le _)⟩ ?_
 rintro m9 _ w9 ⟨k, f, -, rfl, E, an, ej⟩
 by_cases ed : k < 5
 case neg =>
  obtain ⟨⟨zv, zq, zr, zn⟩, m2, bf, ah⟩ : ∃ a b c, FZ (X.take i) = (a, b, c) := ⟨_, _, _, rfl⟩
  have eg : bf = 440 := Sj ad (i := i) (by rw [hX]; exact ck) (by rw [hX]; exact ah)
  refine yG ?_
  refine V (v := .string (bs (X.take i))) O O (UB (a := X) (j := i) O underlying9 O O O AA) ?_
  have cb : w.heap.size ≤ w9.heap.size := (QP E).size
  refine yG ?_
  refine EF O (ME (r := (⟨zv, zq, zr, zn⟩, m2, bf)) KR O (by have U := YC (X.take i) w9 (e9 E).1; rw [ah] at U; exact U) O E ?_)
  intro ax bn db bh br dg bl bp dd bj d5 a7 ab a9 E
  dsimp only at a7 ab a9 E
  subst a7 ab a9
  have dm := d5.size
  replace E := E.sz (Nat.le_refl ax.heap.size)
  refine yG ?_
  refine EF O (CB LK O ?_)
  intro af dr a2 dl d0 av
  have c9 : b7 < af := by rw [a2]; exact Bx.lt (e6 E)
  have bw : ax.heap.size ≤ af := by rw [a2]; exact CR E.1
  have bv : w8.heap.size ≤ af := by rw [a2]; exact CR (e5 E)
  have bu : Y.heap.size ≤ af := by rw [a2]; exact CR (QQ E)
  replace E := E.below d0
  refine yG ?_
  refine EF O (BY LK O O O av O O (CG O (CG O (CG O (CG O ED)))) ?_)
  intro dq c6 c3
  replace E := oY E av c6 c3 (ds := [.slice bn zv.length bh, .slice br zq.length bl, .slice bp zr.length bj, .int .i64 ↑zn])
  refine yG ?_
  exact ⟨rfl, sG E⟩
 obtain ⟨C, b0⟩ : ∃ x, l5[k]? = some x := ⟨_, List.getElem?_eq_getElem (show k < l5.length by omega)⟩
 obtain ⟨T, a4, _, a0, bc, cp, ch⟩ := IsR.at E.1.1 b0
 obtain rfl := (show _ = [Value.string (bs C)] from ch)
 have cj : T < _ := E.1.2 _ bc
 replace E := E.c cp cj
 have ei : w7.drew.heap.size ≤ T ∧ T < w8.heap.size := bc
 have cv := cw C (List.mem_of_getElem? b0)
 refine yG ?_
 refine wp_loop_ghost (fun mz a w' => ∃ (j : Nat) (ln : Nat) (u : List Value), a = ⟨#[.agg #[.int .u8 ↑n0, .slice N ll.length z, .slice L ly.length y], .int .u16 ↑at0, .int .u8 ↑by0, .pointer (some ⟨b1, 0, none⟩), undef, undef, CE f 6, .bool true, .pointer (some ⟨b4, 0, none⟩), .string (bs X), .int .i64 ((0 : Nat) : Int), .int .i64 ↑i, .string (bs ([B])), .slice (some ⟨b8, 0, none⟩) 5 5, .int .i64 ↑k, .int .i64 ↑ln, .int .i64 ↑j, CE f 17, CE f 18, CE f 19, undef, undef, undef, .bool true, .bool true, .bool false, .agg #[.int .u8 ↑n0, .slice N ll.length z, .slice L ly.length y], .agg #[.slice H P.length D, .slice J R.length G, .slice I Q.length F, .int .i64 ↑sn], .tuple #[.string (bs X), .int .i64 ((0 : Nat) : Int)], .agg #[.slice H P.length D, .slice J R.length G, .slice I Q.length F, .int .i64 ↑sn], .tuple #[.string (bs X), .int .i64 ((0 : Nat) : Int)], .string (bs X), .int .i64 ((0 : Nat) : Int), .int .i64 ((0 : Nat) : Int), .bool false, .bool false, .string (bs X), .int .i64 ↑X.length, .bool false, .bool false, .int .u16 ↑at0, .int .i64 ↑at0, .string (bs X), .int .i64 ↑X.length, .int .i64 ↑i, .int .u8 ↑by0, .slice (some ⟨b7, 0, none⟩) 1 1, .string (bs ([B])), .string (bs X), .int .i64 ↑i, .string (bs (X.take i)), .string (bs ([B])), .string (bs ((X.take i) ++ ([B]))), .string (bs X), .int .i64 ↑i, .int .i64 ↑(i + 1), .string (bs (X.drop (i + 1))), .string (bs (((X.take i) ++ ([B])) ++ (X.drop (i + 1)))), .string (bs X), .int .i64 ↑i, .string (bs (X.take i)), .string (bs X), .int .i64 ↑i, .int .i64 ↑(i + 1), .string (bs (X.drop (i + 1))), .string (bs ((X.take i) ++ (X.drop (i + 1)))), .string (bs X), .int .i64 ↑i, .string (bs (X.take i)), .string (bs ([B])), .string (bs ((X.take i) ++ ([B]))), .string (bs X), .int .i64 ↑i, .string (bs (X.drop i)), .string (bs (((X.take i) ++ ([B])) ++ (X.drop i))), .string (bs X), .int .i64 ↑i, .string (bs (X.take i)), .string (bs X), .string (bs ([B])), .string (bs (X ++ ([B]))), .slice (some ⟨b8, 0, none⟩) 5 5, .int .i64 ↑k, .slice (some ⟨b8, 0, none⟩) 5 5, .int .i64 5, .bool true, CE f 86, CE f 87, CE u 0, CE u 1, CE u 2, CE u 3, CE u 4, CE u 5, CE u 6, CE u 7, CE u 8, CE u 9, CE u 10, CE u 11, CE u 12, CE u 13, CE u 14, CE u 15, CE u 16, CE u 17, CE f 106, CE f 107, CE f 108, CE f 109, CE f 110, CE f 111, CE f 112, CE f 113, CE f 114, CE f 115, CE f 116, CE f 117, CE f 118, CE f 119, CE f 120, CE f 121, CE f 122, CE f 123, CE f 124, CE f 125, CE f 126, CE f 127, CE f 128, CE f 129, CE f 130, CE f 131, CE f 132, CE f 133, CE f 134, CE f 135, CE f 136, CE f 137, CE f 138, CE f 139, CE f 140, CE f 141, CE f 142, CE f 143, CE f 144, CE f 145, CE f 146, undef, undef, undef, undef, undef, undef, undef, undef, undef, undef, undef, undef, undef], []⟩ ∧ Env w' [fC T (a4 + k * 1) [.string (bs C)], fR elS (DX w7.drew.heap.size w8.heap.size) (.slice (some ⟨b8, 0, none⟩) 5 5) l5, oZ w8.heap.size, fX b7 (5) ([.int .u8 ↑by0]), fX b4 (48) ([.slice H P.length D, .slice J R.length G, .slice I Q.length F, .int .i64 ↑sn]), fR elS (DX w2.heap.size Y.heap.size) (.slice H P.length D) P, fR NY (DX w2.heap.size Y.heap.size) (.slice J R.length G) R, fR NY (DX w2.heap.size Y.heap.size) (.slice I Q.length F) Q, oZ Y.heap.size, fX b1 (44) ([.int .u8 ↑n0, .slice N ll.length z, .slice L ly.length y]), fGl, fR Ni (DD w.heap.size) (.slice L ly.length y) ly, fR Nh (DD w.heap.size) (.slice N ll.length z) ll, fW w] ∧ mz = C.length - j ∧ (j ≤ C.length ∧ ln = 1 + (C.take j).count 10)) (C.length) ⟨0, 1, [CE f 88, CE f 89, CE f 90, CE f 91, CE f 92, CE f 93, CE f 94, CE f 95, CE f 96, CE f 97, CE f 98, CE f 99, CE f 100, CE f 101, CE f 102, CE f 103, CE f 104, CE f 105], O, zE, O, ⟨Nat.zero_le _, O⟩⟩ ?_
 rintro dy _ az ⟨j, ln, u, rfl, E, aj, ak⟩
 obtain ⟨ak, hJ⟩ := ak
 by_cases hj : j < C.length
 case pos =>
  obtain ⟨c, hc⟩ : ∃ c, C[j]? = some c := ⟨_, List.getElem?_eq_getElem hj⟩
  have b6 := Nw hc
  refine yG ?_
  refine iD O O a0 O (show k < 5 by omega) ?_
  by_cases a1 : c = 10
  case neg =>
   refine yG ?_
   refine iD O O a0 O (show k < 5 by omega) ?_
   refine yG ?_
   refine V O O (EW (c := false) O O O (by rw [beq_eq_false_iff_ne]; exact fun g => a1 (b10.1 g))) ?_
   refine yG ?_
   exact ⟨_, (by rw [aj]; omega), (j + 1), ln, [.int .i64 ↑j, .slice (some ⟨b8, 0, none⟩) 5 5, .int .i64 ↑k, .pointer (some ⟨T, a4 + k * 1, none⟩), .string (bs C), .int .i64 ↑C.length, .bool true, .int .i64 ↑j, .int .i64 ↑(j + 1), .slice (some ⟨b8, 0, none⟩) 5 5, .int .i64 ↑k, .pointer (some ⟨T, a4 + k * 1, none⟩), .string (bs C), .int .i64 ↑j, .int .u8 ↑c.toNat, .bool false, CE u 16, CE u 17], O, zE, O, ⟨by omega, by rw [b6, if_neg a1]; omega⟩⟩
  refine yG ?_
  refine iD O O a0 O (show k < 5 by omega) ?_
  refine yG ?_
  refine V O O (EW (c := true) O O O (by rw [beq_iff_eq]; exact b10.2 a1)) ?_
  refine yG ?_
  refine V (v := .int .i64 ↑(ln + 1)) O O (JD O O O (LM AA (by have := List.count_le_length (a := (10 : UInt8)) (l := C.take j); rw [List.length_take] at this; omega))) ?_
  refine yG ?_
  exact ⟨_, (by rw [aj]; omega), (j + 1), (ln + 1), [.int .i64 ↑j, .slice (some ⟨b8, 0, none⟩) 5 5, .int .i64 ↑k, .pointer (some ⟨T, a4 + k * 1, none⟩), .string (bs C), .int .i64 ↑C.length, .bool true, .int .i64 ↑j, .int .i64 ↑(j + 1), .slice (some ⟨b8, 0, none⟩) 5 5, .int .i64 ↑k, .pointer (some ⟨T, a4 + k * 1, none⟩), .string (bs C), .int .i64 ↑j, .int .u8 ↑c.toNat, .bool true, .int .i64 ↑ln, .int .i64 ↑(ln + 1)], O, zE, O, ⟨by omega, by rw [b6, if_pos a1]; omega⟩⟩
 refine yG ?_
 refine iD O O a0 O (show k < 5 by omega) ?_
 obtain ⟨⟨uv, uq, ur, un⟩, m, ge, a6⟩ : ∃ a b c, FZ C = (a, b, c) := ⟨_, _, _, rfl⟩
 have ap := Np (s := ⟨P, R, Q, sn⟩) cv a6
 rw [hX] at ap
 rw [List.take_of_length_le AA] at hJ
 refine yG ?_
 refine iD O O a0 O (show k < 5 by omega) ?_
 have cc : w.heap.size ≤ az.heap.size := (TI E).size
 refine yG ?_
 refine EF O (ME (r := (⟨uv, uq, ur, un⟩, m, ge)) KR O (by have U := YC C az (QM E).1; rw [a6] at U; exact U) O E ?_)
 intro ay bo dc bi bt dh bm bq de bk da a8 ac aa E
 dsimp only at a8 ac aa E
 subst a8 ac aa
 have dp := da.size
 replace E := E.sz (Nat.le_refl ay.heap.size)
 refine yG ?_
 refine EF O (CB LK O ?_)
 intro ag du a3 dn d9 aw
 have ca : b7 < ag := by rw [a3]; exact Bx.lt (e7 E)
 have c1 : ay.heap.size ≤ ag := by rw [a3]; exact CR E.1
 have c0 : w8.heap.size ≤ ag := by rw [a3]; exact CR (e6 E)
 have bx : Y.heap.size ≤ ag := by rw [a3]; exact CR (QP E)
 replace E := E.below d9
 refine yG ?_
 refine EF O (BY LK O O O aw O O (CG O (CG O (CG O (CG O ED)))) ?_)
 intro c5 c7 c4
 replace E := oY E aw c7 c4 (ds := [.slice bo uv.length bi, .slice bt uq.length bm, .slice bq ur.length bk, .int .i64 ↑un])
 by_cases cn : ge = 0
 case neg =>
  obtain ⟨ee, _, ec, eb⟩ := ap.resolve_left (fun g => cn g.1)
  refine yG ?_
  exact ⟨_, (by rw [an]; omega), (k + 1), _, O, O, zE, O, AA⟩
 obtain ⟨co, ci⟩ := ap.resolve_right (fun g => by omega)
 rw [co] at a6
 obtain ⟨ba, b9⟩ := xZ a6
 obtain ⟨_, cg, cf, ce⟩ := Pn (XH a6).2.2.1
 refine yG ?_
 dsimp only at ba b9 cg cf ce
 by_cases al : C = X
 case pos =>
  refine yG ?_
  refine iD O O a0 O (show k < 5 by omega) ?_
  refine yG ?_
  refine V Z O (GR (a := C) (b := X) (c := false) O O O (by rw [bne_eq_false_iff_eq]; exact al)) ?_
  refine yG ?_
  exact ⟨_, (by rw [an]; omega), (k + 1), _, O, O, zE, O, AA⟩
 refine yG ?_
 refine iD O O a0 O (show k < 5 by omega) ?_
 refine yG ?_
 refine V Z O (GR (a := C) (b := X) (c := true) O O O (by rw [bne_iff_ne]; exact al)) ?_
 refine yG ?_
 refine EF O (CA XO O (CU (decide_eq_false (fun h => ci al (by rw [h.1, h.2.1, h.2.2.1, h.2.2.2]))) (vS _ uv _ uq _ ur un (.slice H P.length D) P (.slice J R.length G) R (.slice I Q.length F) Q sn c5 (BW E.2.2.1) (BW (e3 E)) (BW (e4 E)) (BW (QM E)) (BW (QQ E)) (BW (QP E)) (fun e he => (ba e he).2.2) (fun e he => (b9 e he).2.2) AA AA AA )) O E ?_)
 intro dt el E
 refine yG ?_
 exact ⟨_, (by rw [an]; omega), (k + 1), _, O, O, zE, O, AA⟩
end Go.Proofs.YtmppigbbkjepiaaGreatDoor
