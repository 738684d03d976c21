/- Helping facts of EntS; no other conditions. Helping facts of OpnS; no other conditions. Helping facts of LawP; no other conditions. Helping facts of Same32; no other conditions. Helping facts of MadeP; no other conditions. -/
import Derived.Test.YtmppigbbkjepiaaGreatDoorCards
import Derived.Test.YtmppigbbkjepiaaGreatDoorTie
import Derived.WalkKit
import Derived.ProofKit
import Derived.OpenShut
import Derived.Deep.DeepHandedRow
import Derived.Lib.LaidTab
import Derived.Lib.SmallJoins
import Derived.Carry
import Derived.HandedShaped
import Derived.SliceStrings
import Derived.Test.YtmppigbbkjepiaaGreatDoorLawS
namespace Go.Proofs.YtmppigbbkjepiaaGreatDoor
open Go.Proofs.Tryz
open Go.ChangeShapes Go.WideShapes Go.ChangeAt Go.RowKit Go.Joins W
def lst44 : List (String × DataW Unit) := [("math/bits.deBruijn32tab", Rows.laid_math_bits_deBruijn32tab), ("math/bits.deBruijn64tab", Rows.laid_math_bits_deBruijn64tab), ("internal/strconv.uint64pow10", Rows.laid_internal_strconv_uint64pow10), ("unicode/utf8.acceptRanges", Rows.laid_unicode_utf8_acceptRanges), ("unicode/utf8.first", Rows.laid_unicode_utf8_first)]
theorem Li : (prog.globals[1]?).map (·.type) = some 222 := by kernel_rfl
theorem Ib : prog.cellsOf 222 = 20 := by kernel_rfl
theorem Ia : prog.cellsOf 161 = 1 := by kernel_rfl
theorem Glob.of {W : World} (h : laidMetH prog lst44 W) (hsh : W.ShapedOpen prog) : Glob W := by
  have f := h.filter (fun x => x.1 == "internal/strconv.uint64pow10")
  have e : (lst44.filter fun x => x.1 == "internal/strconv.uint64pow10") = [("internal/strconv.uint64pow10", Lib.tabData .u64 Lib.pow10Tab)] := by kernel_rfl
  rw [e] at f
  exact ⟨Lib.tabIs_of_head (rest := []) XM Li underlying222 underlying161 Ia Ib f,
    Go.Proofs.cell_of_shapedOpen_int (zero := #[.int .i64 0]) (t := 3) hsh (of_decide_eq_true Z) Z rfl Z Z underlying3⟩
def litV : DataW Unit → List Value
  | .lit (.int k z) => [.int k z]
  | .agg l => l.flatMap fun d => match d with
    | .lit (.int k z) => [.int k z]
    | _ => []
  | _ => []
def tabV : DataW Unit → Array Value
  | .agg l => (l.flatMap litV).toArray
  | _ => #[]
def Mf (d : DataW Unit) : Obj → Obj
  | .cells _ t frozen => .cells (tabV d) t frozen
  | o => o
noncomputable def laidWorld (os : Os) : World :=
  { World.holding prog os ⟨#[], #[], []⟩ with heap := (((((World.holding prog os ⟨#[], #[], []⟩).heap.modify 1 (Mf Rows.laid_internal_strconv_uint64pow10)).modify 2 (Mf Rows.laid_unicode_utf8_first)).modify 3 (Mf Rows.laid_unicode_utf8_acceptRanges)).modify 4 (Mf Rows.laid_math_bits_deBruijn32tab)).modify 5 (Mf Rows.laid_math_bits_deBruijn64tab) }
end Go.Proofs.YtmppigbbkjepiaaGreatDoor
namespace Go.Proofs.YtmppigbbkjepiaaGreatDoor
open Go.ChangeShapes Go.WideShapes Go.ChangeAt Go.RowKit Go.Joins W
theorem Su {W : World} {a : Addr} {v : Value} (h : W.cell? a = some v) : a.block < W.heap.size ∧ a.spot = none := by
  unfold World.cell? at h
  split at h
  · rename_i hb
    split at h
    · cases h
    · rename_i hs
      exact ⟨(Array.getElem?_eq_some_iff.1 hb).1, by simpa using hs⟩
  · cases h
theorem yJ {a : Int} (h : (Lit.int .u16 a).wf = true) : ∃ n : Nat, a = (n : Int) ∧ n < 65536 := by
  have e : 0 ≤ a ∧ a < 65536 := by
    simp [Lit.wf, IntKind.min, IntKind.max, IntKind.signed, IntKind.bits] at h
    omega
  exact ⟨a.toNat, by omega, by omega⟩
end Go.Proofs.YtmppigbbkjepiaaGreatDoor
namespace Go.Proofs.YtmppigbbkjepiaaGreatDoor
open Go.RowKit W
theorem xZ {t : Bs} {s : Sy} {n : Nat} (h : FZ t = (s, n, 0)) : SE s.eqs ∧ SE s.neqs := by
  unfold FZ at h
  by_cases q : 100000 < t.length
  · rw [if_pos q] at h; simp at h
  · rw [if_neg q] at h
    obtain ⟨v, B, D, k, z, y, C⟩ := zF h
    have p : v ≠ [] := by
      rintro rfl
      simp only [IV, Option.some.injEq] at k
      subst k; exact z rfl
    have u := (Bj p k).1
    have l := xK Uk k
    subst y
    refine ⟨fun e f => ⟨(u.all false e f).2.2.1, fun t o => FitQ.mono ((l.fit false e f).1 t o) AE, by have := (l.fit false e f).2; omega⟩, fun e f => ⟨(u.all true e f).2.2.1, fun t o => FitQ.mono ((l.fit true e f).1 t o) AE, by have := (l.fit true e f).2; omega⟩⟩
theorem kC {s : Sy} (h : SyOk s) : RN s = (SH s, 0) := by
  obtain ⟨l, f⟩ := h
  unfold RN
  rw [if_neg (by rw [l]; simp), if_neg]
  unfold ZL
  simp only [List.any_eq_true, decide_eq_true_eq, not_exists, not_and]
  intro e k
  rcases mrg_in.1 k with ⟨_, g⟩ | ⟨_, g⟩
  · have := (f _ (.inl g)).2; omega
  · have := (f _ (.inr g)).2; omega
theorem kH {s : Sy} (h : SyOk s) : FZ (SH s) = (s, 0, 0) := by
  obtain ⟨o, l, k, f⟩ := kU h
  unfold FZ
  rw [if_neg (by have := bF h; omega)]
  have e : EM 10 (SH s) = QF s ++ [[]] := dZ 10 AH (Cu s h)
  rw [e, iS l AH]
  simp only [oQ, if_true]
  rw [if_neg f, k]
theorem Pn {s : Sy} (h : SyOk s) : DF 4 s.vars = true ∧ s.vars.length ≤ 4 ∧ s.eqs.length ≤ 12 ∧ s.neqs.length ≤ 12 := by
  obtain ⟨e, k, f, _⟩ := wT h.1
  exact ⟨e, IY e, k, f⟩
theorem sR {s u : Sy} (hs : SyOk s) (hu : SyOk u) {r : Bs} (h : SH s = SH u ++ r) : r = [] := by
  obtain ⟨v, D, G, C⟩ := kU hu
  have e := kH hs
  unfold FZ at e
  rw [if_neg (by have := bF hs; omega), h] at e
  have f : EM 10 (SH u ++ r) = QF u ++ EM 10 r := by
    have o := Cu u hu
    unfold SH
    rw [yU]
    have : ∀ l : List Bs, (∀ x ∈ l, (10 : UInt8) ∉ x) → EM 10 ((l.flatMap fun x => x ++ [10]) ++ r) = l ++ EM 10 r := by
      intro l
      induction l with
      | nil => intro _; simp
      | cons x l ih =>
        intro t
        rw [List.flatMap_cons, List.append_assoc, List.append_assoc, List.singleton_append, bI 10 (t x AH), ih (fun y z => t y (by simp [z]))]; rfl
    exact this _ (fun x B => o x (List.mem_append_left _ B))
  rw [f, iS D (NK _ _)] at e
  cases r with
  | nil => rfl
  | cons b q =>
    exfalso
    cases k : EM 10 (b :: q) with
    | nil => exact NK _ _ k
    | cons x l =>
      rw [k] at e
      have F : (QF u).length ≠ 0 := by unfold QF; simp
      cases l with
      | nil =>
        have p := kV 10 (b :: q)
        rw [k] at p
        simp only [jn] at p
        subst p
        simp [oQ] at e
      | cons y l =>
        have : FS ((QF u).length + 1) v x = none := by
          unfold FS; rw [if_neg AA, if_pos C]
        simp [oQ, this] at e
end Go.Proofs.YtmppigbbkjepiaaGreatDoor
set_option maxHeartbeats 8000000
set_option maxRecDepth 100000
namespace Go.Proofs.YtmppigbbkjepiaaGreatDoor
open Go.Proofs.Tryz
open Go.RowKit W
theorem Xb {a b c d : Prop} [Decidable a] [Decidable b] [Decidable c] [Decidable d] (h1 : a) (h2 : b) (h3 : c) (h4 : d) : decide (a ∧ b ∧ c ∧ d) = true := decide_eq_true ⟨h1, h2, h3, h4⟩
theorem lQ {a b c d : Prop} [Decidable a] [Decidable b] [Decidable c] [Decidable d] (h : ¬ (a ∧ b ∧ c ∧ d)) : decide (a ∧ b ∧ c ∧ d) = false := decide_eq_false h
theorem SC (vq : Value) (q : List (Nat × List Tm)) (vr : Value) (r : List (Nat × List Tm)) (w : World) (hRq : IsR NY (DD w.heap.size) w vq q) (hRr : IsR NY (DD w.heap.size) w vr r) (hP : ∀ e ∈ q, e.2.length ≤ 1000000) (hL : q.length ≤ 1000000) :
    Calls prog 54 #[vq, vr] w (NP w (decide (q = r))) := by
 have E := Env.start w
 obtain ⟨F, u, rfl, ad, ab⟩ := hRq.shp
 replace E := E.r hRq (DK _)
 obtain ⟨D, t, rfl, ac, aa⟩ := hRr.shp
 replace E := E.r hRr (DK _)
 go_enter func54, ntmps54
 by_cases hl : q.length = r.length
 case neg =>
  refine yG ?_
  exact ⟨KI (decide_eq_false (yI hl)).symm, E.2.2.1⟩
 refine yG ?_
 refine wp_loop_ghost (fun mz a w' => ∃ (i : Nat) (f : List Value), f = a.tmps.toList ∧ a = ⟨#[.slice F q.length u, .slice D r.length t, undef, undef, CE f 4, .int .i64 ↑i, .slice F q.length u, .int .i64 ↑q.length, .slice D r.length t, .int .i64 ↑r.length, .bool false, CE f 11, CE f 12, CE f 13, CE f 14, CE f 15, CE f 16, CE f 17, CE f 18, CE f 19, CE f 20, CE f 21, CE f 22, CE f 23, CE f 24, CE f 25, CE f 26, CE f 27, CE f 28, CE f 29, CE f 30, CE f 31, CE f 32, CE f 33, CE f 34, CE f 35, CE f 36, CE f 37, CE f 38, CE f 39, CE f 40, CE f 41], []⟩ ∧ Env w' [fR NY (DD w.heap.size) (.slice D r.length t) r, fR NY (DD w.heap.size) (.slice F q.length u) q, fW w] ∧ mz = q.length - i ∧ (i ≤ q.length ∧ q.take i = r.take i)) (q.length) ⟨0, _, O, O, zE, O, ⟨Nat.zero_le _, O⟩⟩ ?_
 rintro m1 _ w1 ⟨i, f, -, rfl, E, R, J⟩
 obtain ⟨J, hJ⟩ := J
 by_cases hi : i < q.length
 case neg =>
  refine yG ?_
  exact ⟨KI (decide_eq_true (rG hl hJ hi)).symm, E.2.2.1⟩
 obtain ⟨⟨Q, B⟩, h⟩ : ∃ x, q[i]? = some x := ⟨_, List.getElem?_eq_getElem hi⟩
 obtain ⟨N, a4, _, p, a0, X, ⟨_, rfl, H⟩⟩ := IsR.at E.2.1.1 h
 obtain ⟨a9, a7, rfl, a2, _⟩ := H.shp
 have T : N < _ := E.2.1.2 _ a0
 replace E := (E.r H E.2.1.2).c X T
 obtain ⟨⟨P, z⟩, k⟩ : ∃ x, r[i]? = some x := ⟨_, List.getElem?_eq_getElem (show i < r.length by omega)⟩
 obtain ⟨L, a3, _, l, Y, U, ⟨_, rfl, G⟩⟩ := IsR.at E.2.2.1.1 k
 obtain ⟨a8, a6, rfl, a1, _⟩ := G.shp
 have S : L < _ := E.2.2.1.2 _ Y
 replace E := (E.r G E.2.2.1.2).c U S
 have C := hP _ (List.mem_of_getElem? h)
 dsimp only at C
 by_cases I : Q = P
 case neg =>
  refine yG ?_
  refine sE E [0,1,2,3,4,5,6,7,8,9,10,11,12,13,14,15,16,17,18,19,20,21,22,23,24] ?_
  replace E := E.drew
  refine yG ?_
  refine dI O O O p O (List.getElem?_eq_some_iff.1 h).1 ?_
  refine yG ?_
  refine dI O O O l O (List.getElem?_eq_some_iff.1 k).1 ?_
  refine yG ?_
  exact ⟨KI (decide_eq_false (Cb h k (fun g => I (Prod.mk.inj g).1))).symm, e6 E⟩
 by_cases y : B = z
 case neg =>
  refine yG ?_
  refine sE E [0,1,2,3,4,5,6,7,8,9,10,11,12,13,14,15,16,17,18,19,20,21,22,23,24] ?_
  replace E := E.drew
  refine yG ?_
  refine dI O O O p O (List.getElem?_eq_some_iff.1 h).1 ?_
  refine yG ?_
  refine dI O O O l O (List.getElem?_eq_some_iff.1 k).1 ?_
  refine yG ?_
  refine dI O O O p O (List.getElem?_eq_some_iff.1 h).1 ?_
  refine yG ?_
  refine dI O O O l O (List.getElem?_eq_some_iff.1 k).1 ?_
  refine yG ?_
  refine JM (o := ⟨some 39, _, _, _, _, _⟩) O O O O (CA GU O (TL _ B _ z _ (BW (e3 E)) (BW E.2.1) C) O E ?_)
  intro w3 d3 E
  refine ⟨E, ?_⟩
  refine yG ?_
  refine SW (v := .bool (!(decide (B = z)))) O O O Z O (fun w hS => UY (b := (decide (B = z))) O O) ?_
  refine yG ?_
  refine AO (congrArg Value.bool (by rw [decide_eq_false y]; rfl)) ?_
  refine yG ?_
  exact ⟨KI (decide_eq_false (Cb h k (fun g => y (Prod.mk.inj g).2))).symm, e6 E⟩
 refine yG ?_
 refine sE E [0,1,2,3,4,5,6,7,8,9,10,11,12,13,14,15,16,17,18,19,20,21,22,23,24] ?_
 replace E := E.drew
 refine yG ?_
 refine dI O O O p O (List.getElem?_eq_some_iff.1 h).1 ?_
 refine yG ?_
 refine dI O O O l O (List.getElem?_eq_some_iff.1 k).1 ?_
 refine yG ?_
 refine dI O O O p O (List.getElem?_eq_some_iff.1 h).1 ?_
 refine yG ?_
 refine dI O O O l O (List.getElem?_eq_some_iff.1 k).1 ?_
 refine yG ?_
 refine JM (o := ⟨some 39, _, _, _, _, _⟩) O O O O (CA GU O (TL _ B _ z _ (BW (e3 E)) (BW E.2.1) C) O E ?_)
 intro w2 d2 E
 refine ⟨E, ?_⟩
 refine yG ?_
 refine SW (v := .bool (!(decide (B = z)))) O O O Z O (fun w hS => UY (b := (decide (B = z))) O O) ?_
 refine yG ?_
 refine AP (congrArg Value.bool (by rw [decide_eq_true y]; rfl)) ?_
 refine yG ?_
 exact ⟨_, (by rw [R]; omega), (i + 1), _, O, O, zE, O, ⟨by omega, pK hJ h k (by rw [I, y])⟩⟩
theorem vS (vv : Value) (v : List Bs) (vq : Value) (q : List (Nat × List Tm)) (vr : Value) (r : List (Nat × List Tm)) (n : Nat) (vk : Value) (k : List Bs) (vy : Value) (y : List (Nat × List Tm)) (vz : Value) (z : List (Nat × List Tm)) (m : Nat) (w : World) (hRv : IsR elS (DD w.heap.size) w vv v) (hRq : IsR NY (DD w.heap.size) w vq q) (hRr : IsR NY (DD w.heap.size) w vr r) (hRk : IsR elS (DD w.heap.size) w vk k) (hRy : IsR NY (DD w.heap.size) w vy y) (hRz : IsR NY (DD w.heap.size) w vz z) (hPq : ∀ e ∈ q, e.2.length ≤ 1000000) (hPr : ∀ e ∈ r, e.2.length ≤ 1000000) (hLq : q.length ≤ 1000000) (hLr : r.length ≤ 1000000) (hLv : v.length ≤ 1000000) :
    Calls prog 19 #[.agg #[vv, vq, vr, .int .i64 ↑n], .agg #[vk, vy, vz, .int .i64 ↑m]] w (NP w (decide (v = k ∧ q = y ∧ r = z ∧ n = m))) := by
 have E := Env.start w
 obtain ⟨G, o, rfl, am, ag⟩ := hRv.shp
 replace E := E.r hRv (DK _)
 obtain ⟨I, t, rfl, ao, ai⟩ := hRq.shp
 replace E := E.r hRq (DK _)
 obtain ⟨H, p, rfl, an, ah⟩ := hRr.shp
 replace E := E.r hRr (DK _)
 obtain ⟨J, u, rfl, ap, aj⟩ := hRk.shp
 replace E := E.r hRk (DK _)
 obtain ⟨F, l, rfl, al, af⟩ := hRy.shp
 replace E := E.r hRy (DK _)
 obtain ⟨D, h, rfl, ak, ae⟩ := hRz.shp
 replace E := E.r hRz (DK _)
 go_enter func19, ntmps19
 refine yG ?_
 refine EF O (CI (cs := [.slice G v.length o, .slice I q.length t, .slice H r.length p, .int .i64 ↑n]) O O ?_)
 intro N w1 ar z1 d1 x1
 replace E := E.below d1
 replace E := E.x x1
 refine yG ?_
 refine EF O (CI (cs := [.slice J k.length u, .slice F y.length l, .slice D z.length h, .int .i64 ↑m]) O O ?_)
 intro L w2 aq z2 d2 x2
 replace E := E.below d2
 replace E := E.x x2
 by_cases hl : v.length = k.length
 case neg =>
  refine yG ?_
  exact ⟨KI (lQ (fun g => yI hl g.1)).symm, e8 E⟩
 by_cases hn : n = m
 case neg =>
  refine yG ?_
  exact ⟨KI (lQ (fun g => hn g.2.2.2)).symm, e8 E⟩
 by_cases P : q = y
 case neg =>
  refine yG ?_
  refine EF O (CA IL O (CU (decide_eq_false P) (SC _ q _ y _ (BW (e6 E)) (BW (e3 E)) hPq hLq)) O E ?_)
  intro w8 d8 E
  refine yG ?_
  exact ⟨KI (lQ (fun g => P g.2.1)).symm, e8 E⟩
 by_cases X : r = z
 case neg =>
  refine yG ?_
  refine EF O (CA IL O (CU (decide_eq_true P) (SC _ q _ y _ (BW (e6 E)) (BW (e3 E)) hPq hLq)) O E ?_)
  intro w6 d6 E
  refine yG ?_
  refine EF O (CA IL O (CU (decide_eq_false X) (SC _ r _ z _ (BW (e5 E)) (BW E.2.2.1) hPr hLr)) O E ?_)
  intro w7 d7 E
  refine yG ?_
  exact ⟨KI (lQ (fun g => X g.2.2.1)).symm, e8 E⟩
 refine yG ?_
 refine EF O (CA IL O (CU (decide_eq_true P) (SC _ q _ y _ (BW (e6 E)) (BW (e3 E)) hPq hLq)) O E ?_)
 intro w3 d3 E
 refine yG ?_
 refine EF O (CA IL O (CU (decide_eq_true X) (SC _ r _ z _ (BW (e5 E)) (BW E.2.2.1) hPr hLr)) O E ?_)
 intro w4 d4 E
 refine yG ?_
 refine wp_loop_ghost (fun mz a w' => ∃ (i : Nat) (f : List Value), f = a.tmps.toList ∧ a = ⟨#[.agg #[.slice G v.length o, .slice I q.length t, .slice H r.length p, .int .i64 ↑n], .agg #[.slice J k.length u, .slice F y.length l, .slice D z.length h, .int .i64 ↑m], .pointer (some ⟨N, 0, none⟩), .pointer (some ⟨L, 0, none⟩), CE f 4, .int .i64 ↑i, .pointer (some ⟨N, 0, none⟩), .slice G v.length o, .int .i64 ↑v.length, .pointer (some ⟨L, 0, none⟩), .slice J k.length u, .int .i64 ↑k.length, .bool false, .bool false, .pointer (some ⟨N, 3, none⟩), .int .i64 ↑n, .pointer (some ⟨L, 3, none⟩), .int .i64 ↑m, .bool false, .bool false, .bool false, .pointer (some ⟨N, 1, none⟩), .slice I q.length t, .pointer (some ⟨L, 1, none⟩), .slice F y.length l, .bool true, .bool false, .bool false, .bool false, .pointer (some ⟨N, 2, none⟩), .slice H r.length p, .pointer (some ⟨L, 2, none⟩), .slice D z.length h, .bool true, .bool false, .bool false, CE f 36, CE f 37, CE f 38, CE f 39, CE f 40, CE f 41, CE f 42, CE f 43, CE f 44, CE f 45, CE f 46, CE f 47, CE f 48, CE f 49, CE f 50, CE f 51, CE f 52, CE f 53], []⟩ ∧ Env w' [fX L (48) ([.slice J k.length u, .slice F y.length l, .slice D z.length h, .int .i64 ↑m]), fX N (48) ([.slice G v.length o, .slice I q.length t, .slice H r.length p, .int .i64 ↑n]), fR NY (DD w.heap.size) (.slice D z.length h) z, fR NY (DD w.heap.size) (.slice F y.length l) y, fR elS (DD w.heap.size) (.slice J k.length u) k, fR NY (DD w.heap.size) (.slice H r.length p) r, fR NY (DD w.heap.size) (.slice I q.length t) q, fR elS (DD w.heap.size) (.slice G v.length o) v, fW w] ∧ mz = v.length - i ∧ (i ≤ v.length ∧ v.take i = k.take i)) (v.length) ⟨0, _, O, O, zE, O, ⟨Nat.zero_le _, O⟩⟩ ?_
 rintro m5 _ w5 ⟨i, f, -, rfl, E, a4, S⟩
 obtain ⟨S, hJ⟩ := S
 by_cases hi : i < v.length
 case neg =>
  refine yG ?_
  exact ⟨KI (Xb (rG hl hJ hi) P X hn).symm, e8 E⟩
 obtain ⟨U, C⟩ : ∃ x, v[i]? = some x := ⟨_, List.getElem?_eq_getElem hi⟩
 obtain ⟨a1, ad, _, R, ab, a9, a3⟩ := IsR.at (e7 E).1 C
 obtain rfl := (show _ = [Value.string (bs U)] from a3)
 have a7 : a1 < _ := (e7 E).2 _ ab
 replace E := E.c a9 a7
 obtain ⟨T, B⟩ : ∃ x, k[i]? = some x := ⟨_, List.getElem?_eq_getElem (show i < k.length by omega)⟩
 obtain ⟨a0, ac, _, Q, aa, a8, a2⟩ := IsR.at (e5 E).1 B
 obtain rfl := (show _ = [Value.string (bs T)] from a2)
 have a6 : a0 < _ := (e5 E).2 _ aa
 replace E := E.c a8 a6
 by_cases Y : U = T
 case neg =>
  refine yG ?_
  refine sE E [0,1,2,3,4,5,6,7,8,9,10] ?_
  replace E := E.drew
  refine yG ?_
  refine aSS O O O R O (List.getElem?_eq_some_iff.1 C).1 ?_
  refine yG ?_
  refine aSS O O O Q O (List.getElem?_eq_some_iff.1 B).1 ?_
  refine yG ?_
  refine SW O O O O O (fun w hS => GR (a := U) (b := T) (c := true) O O O (by rw [bne_iff_ne]; exact Y)) ?_
  refine yG ?_
  exact ⟨KI (lQ (fun g => Cb C B Y g.1)).symm, QM E⟩
 refine yG ?_
 refine sE E [0,1,2,3,4,5,6,7,8,9,10] ?_
 replace E := E.drew
 refine yG ?_
 refine aSS O O O R O (List.getElem?_eq_some_iff.1 C).1 ?_
 refine yG ?_
 refine aSS O O O Q O (List.getElem?_eq_some_iff.1 B).1 ?_
 refine yG ?_
 refine SW O O O O O (fun w hS => GR (a := U) (b := T) (c := false) O O O (by rw [bne_eq_false_iff_eq]; exact Y)) ?_
 refine yG ?_
 exact ⟨_, (by rw [a4]; omega), (i + 1), _, O, O, zE, O, ⟨by omega, pK hJ C B Y⟩⟩
end Go.Proofs.YtmppigbbkjepiaaGreatDoor
namespace Go.Proofs.YtmppigbbkjepiaaGreatDoor
open Go.RowKit W
structure MadeOk (n d k : Nat) (p : List Tm) : Prop where
  ok : EJ p
  win : ∀ t ∈ p, within n t.2
  deg : ∀ t ∈ p, QA t.2 8 ≤ d
  len : p.length ≤ k
  sml : ∀ t ∈ p, ∃ z : Int, t.1 = (z : Rat) ∧ z.natAbs ≤ 3 * k
theorem yK (n d : Nat) : MadeOk n d 0 [] := ⟨⟨fun t h => (by cases h), dU⟩, fun t h => (by cases h), fun t h => (by cases h), Nat.le_refl _, fun t h => (by cases h)⟩
theorem MadeOk.mono {n d k k' : Nat} {p : List Tm} (h : MadeOk n d k p) (hk : k ≤ k') : MadeOk n d k' p :=
  ⟨h.ok, h.win, h.deg, Nat.le_trans h.len hk, fun t ht => by obtain ⟨z, h1, h2⟩ := h.sml t ht; exact ⟨z, h1, by omega⟩⟩
theorem qG {A : Tm → Prop} {u : Tm} (h : A u) : ∀ t ∈ [u], A t := by intro t ht; rw [List.mem_singleton] at ht; subst ht; exact h
theorem yL {n d k : Nat} {p : List Tm} (h : MadeOk n d k p) {c : Int} (hc : c.natAbs ≤ 3) {m : List Nat} (hm : EK m) (hw : within n m) (hd : QA m 8 ≤ d) :
    MadeOk n d (k + 1) (LD p (RH (c : Rat) [(((1 : Int) : Rat), m)])) := by
  by_cases o : (c : Rat) = 0
  · rw [show RH (c : Rat) [(((1 : Int) : Rat), m)] = [] from fL o, dF]
    exact h.mono (Nat.le_succ k)
  · rw [Fk (qG (A := fun t => EK t.2) hm) o]
    simp only [List.map_cons, List.map_nil]
    rw [show (c : Rat) * ((1 : Int) : Rat) = (c : Rat) from Rat.mul_one _]
    have q : EJ [((c : Rat), m)] := PolyOk_cons.2 ⟨⟨o, hm⟩, (by intro t f; cases f), ⟨fun t f => (by cases f), dU⟩⟩
    refine ⟨Td h.ok q, ?_, ?_, ?_, ?_⟩
    · exact lR (A := fun t => within n t.2) (B := fun t => within n t.2) (C := fun t => within n t.2) (fun _ h => h) (fun _ h => h) (fun _ _ e _ _ _ => e) h.win (qG (A := fun t => within n t.2) hw)
    · exact lR (A := fun t => QA t.2 8 ≤ d) (B := fun t => QA t.2 8 ≤ d) (C := fun t => QA t.2 8 ≤ d) (fun _ h => h) (fun _ h => h) (fun _ _ e _ _ _ => e) h.deg (qG (A := fun t => QA t.2 8 ≤ d) hd)
    · have e := vP p [((c : Rat), m)]
      have l := h.len
      simp only [List.length_cons, List.length_nil] at e; omega
    · exact lR (A := fun t => ∃ z : Int, t.1 = (z : Rat) ∧ z.natAbs ≤ 3 * k) (B := fun t => ∃ z : Int, t.1 = (z : Rat) ∧ z.natAbs ≤ 3) (C := fun t => ∃ z : Int, t.1 = (z : Rat) ∧ z.natAbs ≤ 3 * (k + 1))
        (fun _ ⟨z, e, l⟩ => ⟨z, e, by omega⟩) (fun _ ⟨z, e, l⟩ => ⟨z, e, by omega⟩) (fun _ _ ⟨z, e, l⟩ ⟨y, h3, h4⟩ _ _ => ⟨z + y, by rw [e, h3, Rat.intCast_add], by omega⟩) h.sml (qG (A := fun t => ∃ z : Int, t.1 = (z : Rat) ∧ z.natAbs ≤ 3) ⟨c, rfl, hc⟩)
theorem MadeOk.fit {n d k : Nat} {p : List Tm} (h : MadeOk n d k p) (hk : k ≤ 6) {j : Nat} (hj : 4 ≤ j) : ∀ t ∈ p, FitQ t.1 j := fun t ht => by
  obtain ⟨z, h1, h2⟩ := h.sml t ht
  rw [h1]; exact FitQ.mono (OX (k := 4) AE (EV AA AA)) hj
theorem Cz {d : Int} {b : Int} (hd : d ≤ b) : ∀ {p : List Tm}, (∀ t ∈ p, ((QA t.2 8 : Nat) : Int) ≤ b) → Sh d p ≤ b
  | [], _ => hd
  | t :: p, h => by
    unfold Sh; rw [List.foldl_cons]
    refine Cz ?_ (p := p) (fun u hu => h u (by simp [hu]))
    have := h t AH
    split <;> omega
theorem MadeOk.fits {n d k : Nat} {p : List Tm} (h : MadeOk n d k p) (hd : d ≤ 12) : MB n p = true :=
  fits_iff.2 ⟨(KC h.ok).2 h.win, Cz AA (fun t ht => by have := h.deg t ht; omega)⟩
theorem Ba : ∀ {l : List Nat} {i v : Nat}, i < l.length → (l.set i v).sum + l.getD i 0 = l.sum + v
  | a :: l, 0, v, _ => by simp only [List.set_cons_zero, List.sum_cons, List.getD_cons_zero]; omega
  | a :: l, i + 1, v, h => by
    have := Ba (l := l) (i := i) (v := v) (by simpa using h)
    simp only [List.set_cons_succ, List.sum_cons, List.getD_cons_succ]; omega
theorem uD {m : List Nat} (h : m.length = 8) : QA m 8 = m.sum := by unfold QA; rw [List.take_of_length_le AA]
structure RowM (d i left : Nat) (m : List Nat) : Prop where
  ok : EK m
  zer : within i m
  sum : QA m 8 + left = d
theorem Fz (d : Nat) : RowM d 0 d zeroM := ⟨CZ, aX 0, by rw [show QA zeroM 8 = 0 by decide]; omega⟩
theorem RowM.step {d i left v : Nat} {m : List Nat} (h : RowM d i left m) (hi : i < 8) (hv : v ≤ left) (hd : d ≤ 65535) : RowM d (i + 1) (left - v) (m.set i v) := by
  have f := h.sum
  have e := h.ok.1
  refine ⟨qP h.ok AA, fun j k => ?_, ?_⟩
  · have := h.zer j AA
    unfold me at this ⊢
    rw [List.getD_eq_getElem?_getD, List.getElem?_set_ne AA, ← List.getD_eq_getElem?_getD]; exact this
  · rw [uD e] at f
    rw [uD (by rw [List.length_set]; exact e)]
    have p := Ba (l := m) (i := i) (v := v) AA
    have o : m.getD i 0 = 0 := h.zer i (Nat.le_refl _)
    omega
theorem rA (b : UInt8) {k : Nat} : ∀ {l : List Bs}, (∀ x ∈ l, x.length ≤ k) → (jn b l).length ≤ l.length * (k + 1)
  | [], _ => Nat.zero_le _
  | [x], h => by have := h x AH; simp only [jn, List.length_cons, List.length_nil]; omega
  | x :: y :: r, h => by
    have h1 := h x AH
    have h2 := rA b (l := y :: r) (fun z hz => h z (by simp only [List.mem_cons] at hz ⊢; exact .inr hz))
    rw [KK b x AH]
    simp only [List.length_append, List.length_cons] at h2 ⊢
    rw [Nat.add_mul (r.length + 1) 1 (k + 1)]; omega
theorem Me : ∀ {l : List Nat} {n : Nat}, n ∈ l → n ≤ l.sum
  | a :: l, n, h => by
    rw [List.sum_cons]
    rcases List.mem_cons.1 h with rfl | h
    · omega
    · have := Me h; omega
theorem dig1 {n : Nat} (h : n ≤ 6) : (txt (n : Int)).length ≤ 1 := by
  have : ∀ n : Fin 7, (txt ((n.val : Nat) : Int)).length ≤ 1 := by decide +kernel
  exact this ⟨n, by omega⟩
theorem dig2 {n : Nat} (h : n ≤ 18) : (txt (n : Int)).length ≤ 2 := by
  have : ∀ n : Fin 19, (txt ((n.val : Nat) : Int)).length ≤ 2 := by decide +kernel
  exact this ⟨n, by omega⟩
theorem Jh (n : Nat) : (JZ (((n : Nat) : Int) : Rat)).data.toList = txt (n : Int) := by
  unfold JZ; rw [if_pos (by rw [Rat.den_intCast]; rfl), Rat.num_intCast]; exact LO _
theorem Tf (z : Int) : QN (z : Rat) = (((z.natAbs : Nat) : Int) : Rat) := by
  by_cases h : (z : Rat) < 0
  · rw [YA h, ← Rat.intCast_neg]
    have : z < 0 := by rwa [show (0 : Rat) = ((0 : Int) : Rat) from rfl, Rat.intCast_lt_intCast] at h
    congr 1; omega
  · rw [UO h]
    have : ¬ z < 0 := by rwa [show (0 : Rat) = ((0 : Int) : Rat) from rfl, Rat.intCast_lt_intCast] at h
    congr 1; omega
theorem uT : ∀ (vs : List Bs) (m : List Nat), (FJ vs m).length ≤ vs.length
  | [], _ => by simp [FJ]
  | _ :: _, [] => by simp [FJ]
  | v :: vs, n :: ns => by
    have := uT vs ns
    have h : (RX v n).length ≤ 1 := by unfold RX; split <;> first | (simp; done) | (split <;> simp)
    simp only [FJ, List.length_append, List.length_cons]; omega
theorem oW {j : Nat} : ∀ {vs : List Bs} {m : List Nat}, (∀ v ∈ vs, v.length ≤ 12) → (∀ n ∈ m, n ≤ 6) → ∀ x ∈ FJ vs m, x.length ≤ 14
  | [], _, _, _ => by simp [FJ]
  | _ :: _, [], _, _ => by simp [FJ]
  | v :: vs, n :: ns, hv, hn => by
    intro x hx
    rcases List.mem_append.1 hx with h | h
    · have h1 := hv v AH
      have h2 := dig1 (hn n AH)
      unfold RX at h
      split at h
      · cases h
      split at h
      · rw [List.mem_singleton] at h; subst h; omega
      · rw [List.mem_singleton] at h; subst h; simp only [List.length_append, List.length_cons]; omega
    · exact oW (j := j) (fun v h => hv v (by simp [h])) (fun v h => hn v (by simp [h])) x h
theorem Ew {vars : List Bs} {c : Rat} {m : List Nat} (hv : ∀ v ∈ vars, v.length ≤ 12) (hl : vars.length ≤ 4) (hm : ∀ n ∈ m, n ≤ 6) (hc : (JZ c).data.toList.length ≤ 2) : (FB vars c m).length ≤ 75 := by
  have o := uT vars m
  have f := oW (j := 0) hv hm
  have e : ∀ {a b : Nat}, a ≤ b * (14 + 1) → b ≤ 5 → a ≤ 75 := fun h g => by omega
  unfold FB
  split
  · refine e (rA 42 (k := 14) (fun x l => ?_)) (by simp only [List.length_cons]; omega)
    rcases List.mem_cons.1 l with rfl | h
    · omega
    · exact f x h
  · exact e (rA 42 (k := 14) f) AA
theorem jK {vars : List Bs} {k : Nat} : ∀ {p : List Tm} (b : Bool), (∀ t ∈ p, (FB vars (QN t.1) t.2).length ≤ k) → (GQ vars b p).length ≤ p.length * (k + 3)
  | [], _, _ => by simp [GQ]
  | (c, m) :: p, b, h => by
    have h1 := h (c, m) AH
    have h2 := jK (p := p) false (fun t ht => h t (by simp [ht]))
    have h3 : (RG b (decide (c < 0))).length ≤ 3 := by unfold RG; split <;> split <;> decide
    simp only [GQ, List.length_append, List.length_cons]
    rw [Nat.add_mul p.length 1 (k + 3)]; simp only at h1; omega
theorem MadeOk.txt {n d k j : Nat} {p : List Tm} (h : MadeOk n d k p) {vars : List Bs} (hv : DF j vars = true) (hj : j ≤ 4) (hd : d ≤ 6) (hk : k ≤ 6) : (DQ vars p).length ≤ 500 := by
  unfold DQ
  split
  · decide
  · have q := jK (k := 75) (vars := vars) (p := p) true (fun t l => by
      obtain ⟨z, q, B⟩ := h.sml t l
      have u := (h.ok.1 t l).2
      refine Ew (fun v f => kY (FV hv v f)) (Nat.le_trans (IY hv) hj) (fun e y => ?_) ?_
      · have o := h.deg t l
        unfold QA at o; rw [List.take_of_length_le (by rw [u.1]; exact Nat.le_refl _)] at o
        have := Me y; omega
      · rw [q, Tf, Jh]; exact dig2 AA)
    have B := h.len
    have : p.length * (75 + 3) ≤ 6 * (75 + 3) := Nat.mul_le_mul_right _ AA
    omega
theorem MadeOk.poly {n d k j : Nat} {p : List Tm} (h : MadeOk n d k p) {vars : List Bs} (hv : DF j vars = true) (hj : j ≤ 4) (hn : n ≤ vars.length) (hd : d ≤ 6) (hk : k ≤ 6) :
    RO vars p = (DQ vars p, 0) ∧ FC vars (DQ vars p) = (p, 0, 0) := by
  have l : DF 8 vars = true := by
    unfold DF at hv ⊢; simp only [Bool.and_eq_true, decide_eq_true_eq] at hv ⊢; exact ⟨⟨by omega, hv.1.2⟩, hv.2⟩
  have f := h.txt hv hj hd hk
  have e : ∀ t ∈ p, within vars.length t.2 := fun t f i o => h.win t f i AA
  exact ⟨kD l ((KC h.ok).2 e) AA, VE l h.ok e AA⟩
def nm3 : List Bs := [[120], [121, 95, 49], [90, 101, 100]]
structure MadeL (n next : Nat) (q : List En) : Prop where
  all : ∀ e ∈ q, 1 ≤ e.1 ∧ e.1 < next ∧ MadeOk n 2 3 e.2
  pw : (FT q).Pairwise (· < ·)
structure MadeS (n i : Nat) (q r : List En) (next : Nat) : Prop where
  lo : 1 ≤ next
  hi : next ≤ 1 + 4 * i
  len : q.length + r.length = i
  qe : MadeL n next q
  re : MadeL n next r
  dis : ∀ i ∈ FT q, i ∉ FT r
theorem MadeL.up {n a b : Nat} {q : List En} (h : MadeL n a q) (hb : a ≤ b) : MadeL n b q := ⟨fun e he => by obtain ⟨h1, h2, h3⟩ := h.all e he; exact ⟨h1, by omega, h3⟩, h.pw⟩
theorem MadeL.add {n a g : Nat} {q : List En} {p : List Tm} (h : MadeL n a q) (ha : 1 ≤ a) (hp : MadeOk n 2 3 p) : MadeL n (a + g + 1) (q ++ [(a + g, p)]) := by
  refine ⟨fun e f => ?_, ?_⟩
  · rcases List.mem_append.1 f with f | f
    · obtain ⟨t, u, o⟩ := h.all e f; exact ⟨t, by omega, o⟩
    · rw [List.mem_singleton] at f; subst f; exact ⟨by simp only; omega, by simp only; omega, hp⟩
  · rw [MX]
    refine List.pairwise_append.2 ⟨h.pw, by simp, fun x l y k => ?_⟩
    rw [List.mem_singleton] at k; subst k
    obtain ⟨e, f, rfl⟩ := ids_in.1 l
    have := (h.all e f).2.1; simp only; omega
theorem Gx (n : Nat) : MadeS n 0 [] [] 1 := ⟨Nat.le_refl _, Nat.le_refl _, rfl, ⟨fun e h => (by cases h), .nil⟩, ⟨fun e h => (by cases h), .nil⟩, fun e h => (by cases h)⟩
theorem MadeS.eq {n i next g : Nat} {q r : List En} {p : List Tm} (h : MadeS n i q r next) (hg : g ≤ 3) (hp : MadeOk n 2 3 p) : MadeS n (i + 1) (q ++ [(next + g, p)]) r (next + g + 1) := by
  refine ⟨by omega, by have := h.hi; omega, by have := h.len; simp only [List.length_append, List.length_cons, List.length_nil]; omega, h.qe.add h.lo hp, h.re.up AA, fun x f k => ?_⟩
  rw [MX] at f
  rcases List.mem_append.1 f with f | f
  · exact h.dis x f k
  · rw [List.mem_singleton] at f; subst f
    obtain ⟨e, l, o⟩ := ids_in.1 k
    have := (h.re.all e l).2.1; simp only at o; omega
theorem MadeS.neq {n i next g : Nat} {q r : List En} {p : List Tm} (h : MadeS n i q r next) (hg : g ≤ 3) (hp : MadeOk n 2 3 p) : MadeS n (i + 1) q (r ++ [(next + g, p)]) (next + g + 1) := by
  refine ⟨by omega, by have := h.hi; omega, by have := h.len; simp only [List.length_append, List.length_cons, List.length_nil]; omega, h.qe.up AA, h.re.add h.lo hp, fun x k f => ?_⟩
  rw [MX] at f
  rcases List.mem_append.1 f with f | f
  · exact h.dis x k f
  · rw [List.mem_singleton] at f; subst f
    obtain ⟨e, l, o⟩ := ids_in.1 k
    have := (h.qe.all e l).2.1; simp only at o; omega
theorem yH {n : Nat} (h : n ≤ 3) : DF 4 (nm3.take n) = true ∧ (nm3.take n).length = n := by
  have : ∀ n : Fin 4, DF 4 (nm3.take n.val) = true ∧ (nm3.take n.val).length = n.val := by decide +kernel
  exact this ⟨n, by omega⟩
theorem MadeL.lis {n next : Nat} {q : List En} (h : MadeL n next q) (hl : q.length ≤ 12) : JO n next q = true := by
  unfold JO
  simp only [Bool.and_eq_true, decide_eq_true_eq, List.all_eq_true]
  exact ⟨⟨hl, fun e f => by obtain ⟨o, l, k⟩ := h.all e f; exact ⟨⟨o, l⟩, k.fits AA⟩⟩, h.pw⟩
theorem MadeS.sy {n i next : Nat} {q r : List En} (h : MadeS n i q r next) (hn : n ≤ 3) (hi : i ≤ 6) : SyOk ⟨nm3.take n, q, r, next⟩ := by
  obtain ⟨k, o⟩ := yH hn
  have p := h.lo
  have u := h.hi
  have t := h.len
  refine ⟨?_, fun e f => ?_⟩
  · unfold JN
    simp only [Bool.and_eq_true, decide_eq_true_eq]
    rw [o]
    exact ⟨⟨⟨⟨⟨k, p⟩, by omega⟩, h.qe.lis AA⟩, h.re.lis AA⟩, h.dis⟩
  · have l : MadeOk n 2 3 e.2 := by
      rcases f with f | f
      · exact (h.qe.all e f).2.2
      · exact (h.re.all e f).2.2
    exact ⟨l.ok, by have := l.txt k AA AA AA; simp only; omega⟩
theorem MadeL.pols {n next : Nat} {q : List En} (h : MadeL n next q) : SE q := fun e he => by
  have hp := (h.all e he).2.2
  exact ⟨hp.ok, hp.fit AA AA, by have := hp.len; omega⟩
theorem eV : ∀ {vs : List Bs} {m : List Nat}, within 0 m → FJ vs m = []
  | [], _, _ => by simp [FJ]
  | _ :: _, [], _ => by simp [FJ]
  | v :: vs, n :: ns, h => by
    have h0 : n = 0 := h 0 (Nat.le_refl _)
    rw [FJ, eV (vs := vs) (m := ns) (fun i _ => h (i + 1) (Nat.zero_le _)), h0]; rfl
theorem oV : ∀ {k : Nat} {vs : List Bs} {m : List Nat}, within k m → FJ (vs.take k) m = FJ vs m
  | 0, vs, m, h => by rw [eV h, eV h]
  | _ + 1, [], _, _ => by simp
  | _ + 1, _ :: _, [], _ => by simp [FJ]
  | k + 1, v :: vs, n :: ns, h => by
    rw [List.take_succ_cons, FJ, FJ, oV (k := k) (fun i hi => h (i + 1) AA)]
theorem fO {k : Nat} {vs : List Bs} : ∀ {p : List Tm} {b : Bool}, (∀ t ∈ p, within k t.2) → GQ (vs.take k) b p = GQ vs b p
  | [], _, _ => by simp [GQ]
  | (c, m) :: p, b, h => by
    rw [GQ, GQ, fO (p := p) (fun t ht => h t (by simp [ht]))]
    unfold FB; rw [oV (h (c, m) AH)]
theorem aD {k : Nat} {vs : List Bs} {p : List Tm} (h : ∀ t ∈ p, within k t.2) : DQ (vs.take k) p = DQ vs p := by unfold DQ; rw [fO h]
theorem yX {vs : List Bs} {j : Nat} (h : DF j vs = true) (k : Nat) : DF 8 (vs.take k) = true ∨ 8 < j := by
  by_cases f : 8 < j
  · exact .inr f
  refine .inl ?_
  unfold DF at h ⊢
  simp only [Bool.and_eq_true, decide_eq_true_eq, List.all_eq_true] at h ⊢
  exact ⟨⟨by rw [List.length_take]; omega, fun x e => h.1.2 x (List.mem_of_mem_take e)⟩, h.2.sublist (List.take_sublist k vs)⟩
theorem Es {d k : Nat} {p : List Tm} (h : MadeOk 3 d k p) {vars : List Bs} (hv : DF 3 vars = true) (hl : vars.length = 3) (hd : d ≤ 6) (hk : k ≤ 6) {q : List Tm} {n e : Nat} (hr : FC (vars.take 2) (DQ vars p) = (q, n, e)) :
    e = 0 ↔ EA p < 4 := by
  obtain ⟨_, C⟩ := h.poly hv AA AA hd hk
  have l := h.txt hv AA hd hk
  constructor
  · intro B
    rw [B] at hr
    obtain ⟨_, H, G, F, D, y⟩ := SZ hr
    have f : ∀ t ∈ q, within 2 t.2 := fun t l i u => D t l i (by rw [List.length_take]; omega)
    rw [aD f] at y
    have v : DF 8 vars = true := by
      unfold DF at hv ⊢; simp only [Bool.and_eq_true, decide_eq_true_eq] at hv ⊢; exact ⟨⟨by omega, hv.1.2⟩, hv.2⟩
    have o := VE v F (fun t l i u => f t l i AA) (by rw [y]; omega)
    rw [y, C] at o
    have : p = q := by simpa using o
    subst this
    exact (KC h.ok (n := 2)).2 f
  · intro z
    have f := (KC h.ok (n := 2)).1 z
    rw [← aD f] at hr
    have v : DF 8 (vars.take 2) = true := (yX hv 2).resolve_right AA
    have o := VE v h.ok (fun t l i u => f t l i (by rw [List.length_take] at u; omega)) (by rw [aD f]; omega)
    rw [o] at hr
    simpa using (congrArg (·.2.2) hr).symm
theorem MadeOk.uses {d k : Nat} {p : List Tm} (h : MadeOk 3 d k p) : EA p < 8 := (KC h.ok (n := 3)).2 h.win
theorem nO (b : UInt8) : ∀ l : Bs, (EM b l).length = 1 + l.count b
  | [] => by simp [EM]
  | x :: l => by
    have ih := nO b l
    rw [EM]
    by_cases h : x = b
    · rw [if_pos h, h, List.count_cons_self, List.length_cons]; omega
    · rw [if_neg h, List.count_cons_of_ne h]
      cases hs : EM b l with
      | nil => exact absurd hs (NK b l)
      | cons y r => rw [hs] at ih; simpa using ih
theorem Np {s u : Sy} {a : Bs} {m e : Nat} (hl : a.length ≤ 100000) (h : FZ a = (u, m, e)) : (e = 0 ∧ (a ≠ SH s → u ≠ s)) ∨ (e = 440 ∧ u = Ii ∧ 1 ≤ m ∧ m ≤ 1 + a.count 10) := by
  by_cases f : e = 0
  · refine .inl ⟨f, fun o l => o ?_⟩
    rw [f] at h
    rw [← l]; exact (XH h).2.2.2.symm
  · obtain ⟨q, p⟩ := Gh h f
    rcases p with ⟨g, _⟩ | ⟨_, v, t, k⟩
    · omega
    · rw [nO] at k; exact .inr ⟨v, q, t, k⟩
theorem Sj {s u : Sy} (hs : SyOk s) {i m e : Nat} (hi : i < (SH s).length) (h : FZ ((SH s).take i) = (u, m, e)) : e = 440 := by
  rcases Np (s := s) (by rw [List.length_take]; have := bF hs; omega) h with ⟨g, _⟩ | ⟨g, _⟩
  · exfalso
    rw [g] at h
    obtain ⟨_, _, l, k⟩ := XH h
    have := sR hs l (r := (SH s).drop i) (by rw [k, List.take_append_drop])
    have f := congrArg List.length this
    rw [List.length_drop, List.length_nil] at f; omega
  · exact g
end Go.Proofs.YtmppigbbkjepiaaGreatDoor
