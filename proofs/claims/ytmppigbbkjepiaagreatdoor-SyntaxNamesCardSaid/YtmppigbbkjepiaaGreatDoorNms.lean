/- Helping facts of Nms; no other conditions. -/
import Derived.Test.YtmppigbbkjepiaaGreatDoorMade6
namespace Go.Proofs.YtmppigbbkjepiaaGreatDoor
open Go.Proofs.Tryz
open Go.RowKit W
theorem bP {P : Program} {ρ : Operand → Value} {o : Oper} {w : World} {t t' : TypeId} {x y : Operand} {m n : Int} {c a b : Nat} (ho : o.op = .binOp .and t x y t') (hx : ρ x = .int .u8 m) (hy : ρ y = .int .u8 n) (hm : m = (a : Int)) (hn : n = (b : Int)) (ha : a < 256) (hb : b < 256) (hc : a &&& b = c) :
    (execOp ρ o).run P w = .ok (.value (.int .u8 ↑c)) w := by
  subst hm hn hc
  have f : (BitVec.ofNat 8 a &&& BitVec.ofNat 8 b).toNat = a &&& b := by
    rw [BitVec.toNat_and, BitVec.toNat_ofNat, BitVec.toNat_ofNat, Nat.mod_eq_of_lt ha, Nat.mod_eq_of_lt hb]
  have e : IntKind.u8.wrap (((a &&& b : Nat)) : Int) = ((a &&& b : Nat) : Int) := by simp [IntKind.wrap, IntKind.bits, IntKind.signed]; omega
  unfold execOp; rw [ho]
  simp only [hx, hy, eqGuard_at_int, binOp_and, Op.intBits, IntKind.bits, BitVec.ofInt_natCast]
  refine Eq.trans (b := Result.ok (Next.value (.int .u8 (IntKind.u8.wrap (((BitVec.ofNat 8 a &&& BitVec.ofNat 8 b).toNat : Nat) : Int)))) w) O ?_
  rw [f, e]
theorem Kq {ρ : Operand → Value} {o : Oper} {w : World} {x y z u : Operand} {a b c d : Option Addr} {m n k l m' n' k' l' : Nat} (ho : o.op = .buildSlice 31 4 #[(0, x), (1, y), (2, z), (3, u)]) (hx : ρ x = .slice a m m') (hy : ρ y = .slice b n n') (hz : ρ z = .slice c k k') (hu : ρ u = .slice d l l') :
    (execOp ρ o).run prog w = .ok (.value (.slice (some ⟨w.heap.size, 0, none⟩) 4 4)) (w.alloc (.cells #[.slice a m m', .slice b n n', .slice c k k', .slice d l l'] 30)) := by
  unfold execOp; rw [ho]
  simp [go_sem, Instr.buildSlice, hx, hy, hz, hu]
theorem rZ {o : Oper} {a : Act} {w : World} {K : Act → World → Prop} {Q : Exit → Act → World → Prop} {x y z u : Operand} {e b c d : Option Addr} {m n k l m' n' k' l' : Nat} (ho : o.op = .buildSlice 31 4 #[(0, x), (1, y), (2, z), (3, u)]) (hx : a.eval x = .slice e m m') (hy : a.eval y = .slice b n n') (hz : a.eval z = .slice c k k') (hu : a.eval u = .slice d l l')
    (h : ∀ g w', g = w.heap.size → w'.heap.size = w.heap.size + 1 → Below w.heap.size w w' → Bx w' g 30 [.slice e m m', .slice b n n', .slice c k k', .slice d l l'] → K (a.put o.dst (.slice (some ⟨g, 0, none⟩) 4 4)) w') : o.wp prog a w K Q :=
  DI (Kq ho hx hy hz hu) (h _ _ rfl AH ((Below.refl _ _).alloc (Nat.le_refl _) _) (HO w _ [.slice e m m', .slice b n n', .slice c k k', .slice d l l']))
theorem bit4 {n : Nat} (h : n < 8) : n < 4 ↔ ¬ (n / 4) &&& 1 = 1 := by
  have : ∀ n : Fin 8, n.val < 4 ↔ ¬ (n.val / 4) &&& 1 = 1 := by decide +kernel
  exact this ⟨n, h⟩
theorem Gs {d k : Nat} {p q : List Tm} (h : MadeOk 3 d k p) (h2 : MadeOk 3 d k q) {vars : List Bs} (hv : DF 3 vars = true) (hl : vars.length = 3) (hd : d ≤ 6) (hk : k ≤ 6) (he : DQ vars p = DQ vars q) : p = q := by
  have a := (h.poly hv AA AA hd hk).2
  have b := (h2.poly hv AA AA hd hk).2
  rw [he, b] at a
  simpa using a.symm
set_option maxRecDepth 100000 in
set_option maxHeartbeats 8000000 in
theorem nms_t (va vb : Value) (la lb : List (List Int)) (z : Nat) (w : World) (hRa : IsR elA (DD w.heap.size) w va la) (hRb : IsR elA (DD w.heap.size) w vb lb) (_hz : z < 256) (hG : Glob w) :
    Calls prog 3 #[.agg #[va, vb], .int .u8 ↑z] w (NP w true) := by
 have E := Env.start w
 obtain ⟨ad, R, rfl, br, bo⟩ := hRa.shp
 obtain ⟨ac, Q, rfl, bq, bn⟩ := hRb.shp
 replace E := ((E.r hRa (DK _)).r hRb (DK _)).gl hG
 go_enter func3, ntmps3
 refine yG ?_
 refine EF O (CI (cs := [.slice ad la.length R, .slice ac lb.length Q]) O O ?_)
 intro b1 w1 bw z1 d1 x1
 replace E := E.below d1
 replace E := E.x x1
 refine yG ?_
 refine EF O (CA NN O (aN _ E.2.1.1) O E ?_)
 intro w2 d2 E
 refine yG ?_
 refine sE E [0,1,3,4,2,5,6,7] ?_
 replace E := E.drew
 refine SW (v := .pointer (some ⟨b1, 0 + 0 * 1, none⟩)) O O O O O (fun w hS => DS (j := 0) O underlying25 Z O O O AE) ?_
 refine SW O O O O O (fun w hS => CD Ee O O (Cs.sub (Bx.cs (hS.1)) 0 (ds := [.slice ad la.length R]) (fun j x e => by cases j with | zero => exact e | succ j => simp at e)) O) ?_
 refine SW (v := .pointer (some ⟨b1, 0 + 1 * 1, none⟩)) O O O O O (fun w hS => DS (j := 1) O underlying25 Z O O O AE) ?_
 refine SW O O O O O (fun w hS => CD Ee O O (Cs.sub (Bx.cs (hS.1)) 1 (ds := [.slice ac lb.length Q]) (fun j x e => by cases j with | zero => exact e | succ j => simp at e)) O) ?_
 refine yG ?_
 refine JM (o := ⟨some 26, _, _, _, _, _⟩) O O O O (CW OL O (iY _ la 3 3 4 _ (BW (e3 E)) AE AE AE) O E ?_)
 intro w3 v3 d3 f3 E
 replace E := E.sz (Nat.le_refl w3.heap.size)
 obtain ⟨p, y, a9⟩ := f3
 obtain ⟨bl, bj, rfl, ay, _⟩ := a9.shp
 replace E := E.r (e := JP) (S := DX w2.drew.heap.size w3.heap.size) a9 (fun _ g => g.2)
 refine ⟨E.2.2, ?_⟩
 refine yG ?_
 refine JM (o := ⟨some 29, _, _, _, _, _⟩) O O O O (CW OL O (iY _ lb 3 3 4 _ (BW (e4 E)) AE AE AE) O E ?_)
 intro w4 v4 d4 f4 E
 replace E := E.sz (Nat.le_refl w4.heap.size)
 obtain ⟨q, L, a8⟩ := f4
 obtain ⟨bk, bi, rfl, ax, _⟩ := a8.shp
 replace E := E.r (e := JP) (S := DX w3.heap.size w4.heap.size) a8 (fun _ g => g.2)
 refine ⟨E.2.2.2.2, ?_⟩
 have bu : w.heap.size ≤ w4.heap.size := (e8 E).size
 refine yG ?_
 refine EF O (OU (s := [120]) (t := [121]) (u := [122]) O O O O ?_)
 intro b5 w5 ap z5 d5 x5
 have ai : IsR elS (DX w4.heap.size w5.heap.size) w5 (.slice (some ⟨b5, 0, none⟩) [[120], [121], [122]].length 3) [[120], [121], [122]] := NA (l := [[120], [121], [122]]) x5 ⟨Nat.le_of_eq ap.symm, by omega⟩ AE
 replace E := ((E.below d5).sz (Nat.le_refl w5.heap.size)).r ai (fun _ g => g.2)
 refine yG ?_
 refine EF O (OU (s := [98]) (t := [97]) (u := [99]) O O O O ?_)
 intro b6 w6 ao z6 d6 x6
 have ah : IsR elS (DX w5.heap.size w6.heap.size) w6 (.slice (some ⟨b6, 0, none⟩) [[98], [97], [99]].length 3) [[98], [97], [99]] := NA (l := [[98], [97], [99]]) x6 ⟨Nat.le_of_eq ao.symm, by omega⟩ AE
 replace E := ((E.below d6).sz (Nat.le_refl w6.heap.size)).r ah (fun _ g => g.2)
 refine yG ?_
 refine EF O (OU (s := [120, 95, 49]) (t := [120, 95, 49, 49]) (u := [120]) O O O O ?_)
 intro b7 w7 an z7 d7 x7
 have ag : IsR elS (DX w6.heap.size w7.heap.size) w7 (.slice (some ⟨b7, 0, none⟩) [[120, 95, 49], [120, 95, 49, 49], [120]].length 3) [[120, 95, 49], [120, 95, 49, 49], [120]] := NA (l := [[120, 95, 49], [120, 95, 49, 49], [120]]) x7 ⟨Nat.le_of_eq an.symm, by omega⟩ AE
 replace E := ((E.below d7).sz (Nat.le_refl w7.heap.size)).r ag (fun _ g => g.2)
 refine yG ?_
 refine EF O (OU (s := [65]) (t := [97]) (u := [65, 95]) O O O O ?_)
 intro b8 w8 am z8 d8 x8
 have af : IsR elS (DX w7.heap.size w8.heap.size) w8 (.slice (some ⟨b8, 0, none⟩) [[65], [97], [65, 95]].length 3) [[65], [97], [65, 95]] := NA (l := [[65], [97], [65, 95]]) x8 ⟨Nat.le_of_eq am.symm, by omega⟩ AE
 replace E := ((E.below d8).sz (Nat.le_refl w8.heap.size)).r af (fun _ g => g.2)
 refine yG ?_
 refine EF O (rZ O O O O O ?_)
 intro b9 Y bv z9 d9 x9
 replace E := E.below d9
 replace E := E.x x9
 obtain ⟨j, hj⟩ : ∃ j, z % 4 = j := ⟨_, rfl⟩
 have bp : j < 4 := by omega
 have a2 : ∃ bb f, [.slice (some ⟨b5, 0, none⟩) ([[120], [121], [122]].length) 3, .slice (some ⟨b6, 0, none⟩) ([[98], [97], [99]].length) 3, .slice (some ⟨b7, 0, none⟩) ([[120, 95, 49], [120, 95, 49, 49], [120]].length) 3, .slice (some ⟨b8, 0, none⟩) ([[65], [97], [65, 95]].length) 3][0 + j * 1]? = some (Value.slice (some ⟨bb, 0, none⟩) 3 3) ∧ IsR elS (DX w.heap.size Y.heap.size) Y (.slice (some ⟨bb, 0, none⟩) 3 3) f ∧ DF 3 f = true ∧ f.length = 3 := by
  rcases (show j = 0 ∨ j = 1 ∨ j = 2 ∨ j = 3 by omega) with rfl | rfl | rfl | rfl
  · exact ⟨_, _, rfl, (e7 E).1.mono (fun k I => ⟨Nat.le_trans (show w.heap.size ≤ w4.heap.size by omega) I.1, (e7 E).2 k I⟩), by decide +kernel, rfl⟩
  · exact ⟨_, _, rfl, (e5 E).1.mono (fun k I => ⟨Nat.le_trans (show w.heap.size ≤ w5.heap.size by omega) I.1, (e5 E).2 k I⟩), by decide +kernel, rfl⟩
  · exact ⟨_, _, rfl, (e3 E).1.mono (fun k I => ⟨Nat.le_trans (show w.heap.size ≤ w6.heap.size by omega) I.1, (e3 E).2 k I⟩), by decide +kernel, rfl⟩
  · exact ⟨_, _, rfl, E.2.1.1.mono (fun k I => ⟨Nat.le_trans (show w.heap.size ≤ w7.heap.size by omega) I.1, E.2.1.2 k I⟩), by decide +kernel, rfl⟩
 obtain ⟨bb, f, X, U, J, a0⟩ := a2
 replace E := E.r U (fun k I => I.2)
 obtain ⟨az, aw⟩ : ∃ n, n = Y.heap.size := ⟨_, rfl⟩
 have a4 := y.poly J AE AA AE AE
 have aj := L.poly J AE AA AE AE
 have bm := y.txt J AE AE AE
 refine yG ?_
 refine V (v := .int .u8 ↑j) O O (DZ O O O AE ((JS z 4).trans (by rw [hj]))) ?_
 refine V (v := .pointer (some ⟨b9, 0 + j * 1, none⟩)) O O (SX (j := j) O underlying31 Z O O O AA) ?_
 refine yG ?_
 refine V O O (CP O aI O E.2.1 X) ?_
 refine yG ?_
 refine EF O (BZ EH O ((by have B := PK _ p _ f Y (BW (QP E)) (BW E.1) y.ok (y.fit AE AE) (by have := y.len; omega) AA (Iy E).1; rw [a4.1] at B; exact B)) O E ?_)
 intro ae ca E
 refine yG ?_
 refine EF O (BZ EH O ((by have B := PK _ q _ f ae (BW (QM E)) (BW E.1) L.ok (L.fit AE AE) (by have := L.len; omega) AA (Iy E).1; rw [aj.1] at B; exact B)) O E ?_)
 intro T c9 E
 refine yG ?_
 refine EF O (IQ (r := (p, 0, 0)) II O (by have B := aT (DQ f p) _ f T (BW E.1) AA AA (Iy E).1; rw [a4.2] at B; exact B) O E ?_)
 intro D bh c8 ab E
 replace E := E.sz (Nat.le_refl D.heap.size)
 have a7 := ab
 obtain ⟨av, ar, rfl, al, _⟩ := ab.shp
 replace E := E.r (e := JP) (S := DX T.heap.size D.heap.size) (show IsR JP (DX T.heap.size D.heap.size) D _ p from a7) (fun _ g => g.2)
 obtain ⟨qz, nz, ez, a3⟩ : ∃ a b c, FC (f.take 2) (DQ f p) = (a, b, c) := ⟨_, _, _, rfl⟩
 have P := Es y J a0 AE AE a3
 have a1 := y.uses
 refine yG ?_
 refine V (v := .slice (some ⟨bb, 0, none⟩) 2 3) O O (WW (i := 2) (sz := 1) O underlying30 Z O O O AA) ?_
 replace E := E.r (e := elS) (S := DX w.heap.size Y.heap.size) (IsR.take (i := 2) E.2.2.1.1 AA) (E.2.2.1.2)
 refine yG ?_
 refine EF O (IQ (r := (qz, nz, ez)) II O (by have B := aT (DQ f p) _ (f.take 2) D (BW E.1) (by rw [List.length_take]; omega) AA (e18 E).1; rw [a3] at B; exact B) O E ?_)
 intro N bg c7 aa E
 replace E := E.sz (Nat.le_refl N.heap.size)
 have a6 := aa
 obtain ⟨au, aq, rfl, ak, _⟩ := aa.shp
 replace E := E.r (e := JP) (S := DX D.heap.size N.heap.size) (show IsR JP (DX D.heap.size N.heap.size) N _ qz from a6) (fun _ g => g.2)
 by_cases H : p = q
 case pos =>
  refine yG ?_
  refine EF O (CA GU O (CU (show decide (p = p) = true by simp) (TL _ p _ p _ (BW (e3 E)) (BW (sG E)) (by have := y.len; omega))) O E ?_)
  intro bf c6 E
  refine yG ?_
  refine V Z O (MU (a := DQ f p) (b := DQ f q) (c := true) O O O (by rw [beq_iff_eq, H])) ?_
  refine yG ?_
  refine EF O (CA GU O (CU (decide_eq_true H) (TL _ p _ q _ (BW (sG E)) (BW (Iy E)) (by have := y.len; omega))) O E ?_)
  intro bd c5 E
  refine yG ?_
  refine V Z O (YR (a := true) (b := true) (c := false) O underlying4 O O O) ?_
  obtain ⟨bt, F⟩ : ∃ b, (EA p / 4) &&& 1 = b := ⟨_, rfl⟩
  have G := bit4 a1
  rw [F] at G
  by_cases C : EA p < 4
  case pos =>
   refine yG ?_
   refine EF O (BZ OK O (dL _ p _ (BW (sG E)) (by have := y.len; omega)) O E ?_)
   intro bc c4 E
   refine yG ?_
   refine V (v := .int .u8 ↑(EA p / 4)) O O (OC (m := EA p) (n := 2) O O O O) ?_
   refine V (v := .int .u8 ↑bt) O O (bP (a := EA p / 4) (b := 1) O O O O O AA AE F) ?_
   refine V O O (EW (c := false) O O O (by rw [beq_eq_false_iff_ne]; have := G.1 C; omega)) ?_
   refine yG ?_
   refine V O O (VD (a := true) (b := true) (c := true) O underlying4 O O O) ?_
   refine yG ?_
   exact ⟨rfl, Cv E⟩
  refine yG ?_
  refine EF O (BZ OK O (dL _ p _ (BW (sG E)) (by have := y.len; omega)) O E ?_)
  intro ba c3 E
  refine yG ?_
  refine V (v := .int .u8 ↑(EA p / 4)) O O (OC (m := EA p) (n := 2) O O O O) ?_
  refine V (v := .int .u8 ↑bt) O O (bP (a := EA p / 4) (b := 1) O O O O O AA AE F) ?_
  refine V O O (EW (c := true) O O O (by rw [beq_iff_eq]; exact (Decidable.not_not.1 fun g => C (G.2 (fun h => g AA))))) ?_
  refine yG ?_
  refine V O O (VD (a := false) (b := false) (c := true) O underlying4 O O O) ?_
  refine yG ?_
  exact ⟨rfl, Cv E⟩
 refine yG ?_
 refine EF O (CA GU O (CU (show decide (p = p) = true by simp) (TL _ p _ p _ (BW (e3 E)) (BW (sG E)) (by have := y.len; omega))) O E ?_)
 intro b4 c2 E
 refine yG ?_
 refine V Z O (MU (a := DQ f p) (b := DQ f q) (c := false) O O O (by rw [beq_eq_false_iff_ne]; exact fun g => H (Gs y L J a0 AE AE g))) ?_
 refine yG ?_
 refine EF O (CA GU O (CU (decide_eq_false H) (TL _ p _ q _ (BW (sG E)) (BW (Iy E)) (by have := y.len; omega))) O E ?_)
 intro b3 c1 E
 refine yG ?_
 refine V Z O (YR (a := false) (b := false) (c := false) O underlying4 O O O) ?_
 obtain ⟨bt, F⟩ : ∃ b, (EA p / 4) &&& 1 = b := ⟨_, rfl⟩
 have G := bit4 a1
 rw [F] at G
 by_cases C : EA p < 4
 case pos =>
  refine yG ?_
  refine EF O (BZ OK O (dL _ p _ (BW (sG E)) (by have := y.len; omega)) O E ?_)
  intro b2 c0 E
  refine yG ?_
  refine V (v := .int .u8 ↑(EA p / 4)) O O (OC (m := EA p) (n := 2) O O O O) ?_
  refine V (v := .int .u8 ↑bt) O O (bP (a := EA p / 4) (b := 1) O O O O O AA AE F) ?_
  refine V O O (EW (c := false) O O O (by rw [beq_eq_false_iff_ne]; have := G.1 C; omega)) ?_
  refine yG ?_
  refine V O O (VD (a := true) (b := true) (c := true) O underlying4 O O O) ?_
  refine yG ?_
  exact ⟨rfl, Cv E⟩
 refine yG ?_
 refine EF O (BZ OK O (dL _ p _ (BW (sG E)) (by have := y.len; omega)) O E ?_)
 intro b0 bx E
 refine yG ?_
 refine V (v := .int .u8 ↑(EA p / 4)) O O (OC (m := EA p) (n := 2) O O O O) ?_
 refine V (v := .int .u8 ↑bt) O O (bP (a := EA p / 4) (b := 1) O O O O O AA AE F) ?_
 refine V O O (EW (c := true) O O O (by rw [beq_iff_eq]; exact (Decidable.not_not.1 fun g => C (G.2 (fun h => g AA))))) ?_
 refine yG ?_
 refine V O O (VD (a := false) (b := false) (c := true) O underlying4 O O O) ?_
 refine yG ?_
 exact ⟨rfl, Cv E⟩
end Go.Proofs.YtmppigbbkjepiaaGreatDoor
