/- Helping facts of Rds; no other conditions. -/
import Derived.Test.YtmppigbbkjepiaaGreatDoorSame32
import Derived.Test.YtmppigbbkjepiaaGreatDoorRRead3
set_option maxHeartbeats 8000000
set_option maxRecDepth 100000
namespace Go.Proofs.YtmppigbbkjepiaaGreatDoor
open Go.Proofs.Tryz
open Go.RowKit W
variable {K : Act -> World -> Prop} {N b i n : Nat} {Q : Exit -> Act -> World -> Prop} {a : Act} {o : Oper} {w : World} {x y : Operand}
def WD (N i : Nat) : List Value := List.replicate i (.int .u8 49) ++ List.replicate (N - i) (.int .u8 0)
theorem Kj (h : i <= N) : (WD N i).length = N := by simp [WD]; omega
theorem Kh (h : i < N) : (WD N i).set i (.int .u8 49) = WD N (i + 1) := by
 unfold WD
 rw [List.set_append_right _ _ AH, List.length_replicate, Nat.sub_self, show N - i = (N - (i + 1)) + 1 by omega, List.replicate_succ, List.set_cons_zero, List.replicate_succ' (n := i), List.append_assoc]
 rfl
theorem Kk (N : Nat) : WD N N = (List.replicate N (49 : Int)).map fun n => Value.int .u8 n := by simp [WD]
theorem Ki (N i : Nat) : UP (WD N i) := by
 intro c f n e
 unfold WD at f
 rcases List.mem_append.1 f with h | h
 . rw [(List.mem_replicate.1 h).2] at e; cases e
 rw [(List.mem_replicate.1 h).2] at e; cases e
theorem vU {j : Nat} {v : Int} {cs : List Value} (ho : o.op = .store 5 x y) (hx : a.eval x = .pointer (some ⟨b, j, none⟩)) (hy : a.eval y = .int .u8 v)
 (hb : Bx w b 5 cs) (hj : j < cs.length) (h : ∀ w', Onl b w w' -> Bx w' b 5 (cs.set j (.int .u8 v)) -> K (a.put o.dst undef) w') : o.wp prog a w K Q := by
 have k : ∀ w, (sizeOf 5).run prog w = .ok 1 w := fun w => by kernel_rfl
 have f := run_storeCells_at (P := prog) b j 5 [.int .u8 v] 0 cs.toArray w hb (by simp; omega) (by intro v e; simp at e; subst e; rfl)
 have l : cs.take j ++ [.int .u8 v] ++ cs.drop (j + 1) = cs.set j (.int .u8 v) := by rw [List.set_eq_take_append_cons_drop, if_pos hj]; simp
 simp only [Nat.add_zero, List.length_cons, List.length_nil, Nat.zero_add, l] at f
 unfold Oper.wp execOp
 simp only [ho, hx, hy, Instr.storeAt, Instr.sureAddr, Sem.run_bind, Sem.run_pure, Result.andThen_ok, storeVar, Value.cells, k]
 simp [f, Oper.upon]
 exact h _ (NJ _ _ _) (XZ hb _)
theorem Zz : (prog.info? 5).map (fun i => (i.zero, i.size, i.bytes)) = some (some (.int .u8 0), 1, 1) := by kernel_rfl
theorem Zy (n : Nat) : madeCells #[.int .u8 0] n = (List.replicate n (Value.int .u8 0)).toArray := by
 apply Array.ext
 . simp [madeCells]
 intro i f e
 simp [madeCells, Nat.mod_one]
theorem vW (ho : o.op = .makeSlice 42 x y) (hx : a.eval x = .int .i64 ↑n) (hy : a.eval y = .int .i64 ↑n) (hn : n <= 1000000)
 (h : ∀ b w', b = w.heap.size -> w'.heap.size = w.heap.size + 1 -> Below w.heap.size w w' -> Bx w' b 5 (WD n 0) -> K (a.put o.dst (.slice (some ⟨b, 0, none⟩) n n)) w') : o.wp prog a w K Q := by
 obtain ⟨i, t, q, p, l⟩ := info_parts Zz
 have f := run_make (P := prog) w 42 5 i (.int .u8 0) underlying42 t q .i64 .i64 (n : Int) (n : Int) AA AA (by rw [l]; omega) AA
 rw [p] at f
 simp only [Int.toNat_natCast, Nat.mul_one, Value.cells, Zy] at f
 have k : Below w.heap.size w (w.alloc (.cells (List.replicate n (Value.int .u8 0)).toArray 5)) := (Below.refl _ _).alloc (Nat.le_refl _) _
 refine DV (v := .slice (some ⟨w.heap.size, 0, none⟩) n n) (w' := w.alloc (.cells (List.replicate n (Value.int .u8 0)).toArray 5)) ?_ (h _ _ O AH k ?_)
 . unfold execOp; rw [ho]; simp [hx, hy, f]
 have := KS w 5 (List.replicate n (Value.int .u8 0))
 have e : WD n 0 = List.replicate n (Value.int .u8 0) := by simp [WD]
 rw [e]; exact this
theorem Uu (h : Bx w b 5 (WD N N)) : ∀ i, i < N -> w.cell? ⟨b, 0 + i, none⟩ = some (.int .u8 ((List.replicate N (49 : Int)).getD i 0)) := by
 intro i e
 rw [Kk] at h
 rw [Nat.zero_add, h.cell, List.getElem?_map, List.getElem?_eq_getElem (by simpa using e)]
 simp [e]
def aI (N : Nat) : Bs := List.replicate N 49
theorem Pg (N : Nat) : strOfNums (List.replicate N (49 : Int)) = bs (aI N) := WY (by unfold strOfNums bs aI; simp)
theorem x_ok : DM 8 [[120]] = true := by decide
theorem Ph {p : List Tm} {e : Nat} (h : EE [[120]] (aI N) = (p, n, e)) : (e = 2 ↔ 4000 < N) := by
 have f : (aI N).length = N := by simp [aI]
 constructor
 . intro k
   obtain ⟨_, g⟩ := Jl h AA
   rcases g with ⟨g, _⟩ | ⟨_, g, _⟩ | ⟨_, g, _⟩
   . rw [x_ok] at g; cases g
   . omega
   omega
 intro l
 rw [Cc x_ok AA] at h
 simp only [Prod.mk.injEq] at h; exact h.2.2.symm
theorem Tb (k : Nat) : ((k : Nat) : Int).tmod 20 = ((k % 20 : Nat) : Int) := XI k 20
theorem Nq {ρ : Operand -> Value} (ho : o.op = .convert 42 9 x) (hx : ρ x = .slice (some ⟨b, 0, none⟩) N N) (h : ∀ i, i < N -> w.cell? ⟨b, 0 + i, none⟩ = some (.int .u8 ((List.replicate N (49 : Int)).getD i 0))) :
 (execOp ρ o).run prog w = .ok (.value (.string (bs (aI N)))) w := by
 rw [<- Pg]; exact lN ho underlying42 underlying5 underlying9 hx AH h
theorem Zw (l : Nat) : ((min l 10 : Nat) : Int) = if (10 : Int) < ((l : Nat) : Int) then 10 else ((l : Nat) : Int) := by
 by_cases h : (10 : Int) < ((l : Nat) : Int)
 . rw [if_pos h, Nat.min_eq_right AA]; rfl
 rw [if_neg h, Nat.min_eq_left AA]
theorem Mg {α : Type} (l : List α) : l.take 10 = [] ++ l.take (min l.length 10) := by
 rw [List.nil_append]
 by_cases h : l.length <= 10
 . rw [Nat.min_eq_left h, List.take_length, List.take_of_length_le h]
 rw [Nat.min_eq_right AA]
theorem Uy (vl : Value) (l : List Bs) (w : World) (hRl : IsR elS (DL w.heap.size) w vl l) :
 Calls prog 20 #[vl] w (pT w (qU w (l.take 10))) := by
 have E := Env.start w
 obtain ⟨o, f, rfl, B, y⟩ := hRl.shp
 replace E := E.r hRl (DZ _)
 go_enter func20, ntmps20
 refine yG ?_
 refine EF O (OG RT_S O ?_)
 intro t H h F D u
 have J : w.heap.size <= t := by rw [h]; exact E.2.1.size
 replace E := E.below D
 replace E := E.x u
 refine yG ?_
 refine V (v := .int .i64 ↑(min l.length 10)) O O (wW O O O (Zw _).symm) ?_
 refine yG ?_
 refine V (v := .slice o (min l.length 10) f) O O (RW (i := (min l.length 10)) (sz := 1) O underlying30 Z O O O AA) ?_
 replace E := E.r (e := elS) (S := DL w.heap.size) (IsR.take (i := (min l.length 10)) E.2.1.1 AA) (E.2.1.2)
 have p := E.2.1
 replace E := QP E
 refine yG ?_
 refine EF O (iL (S := WW) O (l := []) (l2 := l.take (min l.length 10)) O (Acc.lit0 (e := elS) (base := t) (S := WW) p (Nat.le_refl _) jY) (RO _) E (fun g hg C q => ⟨FV (CY AA), FV (CY AA), OP AA, BX⟩) O (E.1.1) (by simp only [List.length_nil, List.length_take]; unfold maxLen; omega) (by simp only [List.length_nil, List.length_take]; omega) (Nat.le_of_lt (Bx.lt p)) ?_)
 intro I G E
 refine yG ?_
 exact ⟨_, rfl, (by rw [Mg l]; exact E.1.1.row (fun k g => g.elim) (fun _ C q _ => ⟨by omega, q⟩)), e3 E⟩
theorem rds_t (n : Nat) (t : Bs) (vl : Value) (l : List Bs) (w : World) (hRl : IsR elS (DL w.heap.size) w vl l) (_hn : n < 65536) (hG : Glob w) :
 Calls prog 6 #[.string (bs t), vl, .int .u16 ↑n] w (LN w true) := by
 have E := Env.start w
 obtain ⟨T, D, rfl, ar, aq⟩ := hRl.shp
 replace E := E.r hRl (DZ _)
 have au := hG.two
 replace E := E.gl hG
 go_enter func6, ntmps6
 refine yG ?_
 refine EF O (CA VB O (oW _ E.1.1) O E ?_)
 intro w1 d1 E
 by_cases am : ((t.length : Nat) : Int) > 4100
 . refine yG ?_
   exact ⟨rfl, E.2.2.1⟩
 refine yG ?_
 refine EF O (DE kZ O (Uy _ l w1 (BW E.2.1)) O E ?_)
 intro G v2 d2 f2 E
 replace E := E.sz (Nat.le_refl G.heap.size)
 obtain ⟨B, q, rfl, ah, _⟩ := f2.shp
 replace E := E.r (e := elS) (S := EM w1.heap.size G.heap.size) f2 (fun _ g => g.2)
 obtain ⟨p, pos, F, R⟩ : ∃ a b c, EE (l.take 10) t = (a, b, c) := ⟨_, _, _, rfl⟩
 obtain ⟨ao, an⟩ := TY R
 have J : (l.take 10).length <= 1000000 := by rw [List.length_take]; omega
 refine yG ?_
 refine EF O (HH (r := (p, pos, F)) LJ O (by have f := jM t _ (l.take 10) G (BW E.1) J AA E.2.2.1.1; rw [R] at f; exact f) O E ?_)
 intro h v3 d3 f3 E
 replace E := E.sz (Nat.le_refl h.heap.size)
 have a9 := f3
 obtain ⟨y, o, rfl, ag, _⟩ := f3.shp
 replace E := E.r (e := JQ) (S := EM G.heap.size h.heap.size) (show IsR JQ (EM G.heap.size h.heap.size) h _ p from a9) (fun _ g => g.2)
 refine yG ?_
 refine EF O (HH (r := (p, pos, F)) UW O (by have f := vM t _ (l.take 10) h (BW E.2.2.1) J AA ; rw [R] at f; exact f) O E ?_)
 intro Q v4 d4 f4 E
 replace E := E.sz (Nat.le_refl Q.heap.size)
 have a8 := f4
 obtain ⟨u, k, rfl, af, _⟩ := f4.shp
 replace E := E.r (e := JQ) (S := EM h.heap.size Q.heap.size) (show IsR JQ (EM h.heap.size Q.heap.size) Q _ p from a8) (fun _ g => g.2)
 obtain ⟨N, hN⟩ : ∃ N, 3990 + n % 20 = N := ⟨_, rfl⟩
 refine yG ?_
 refine V (v := .int .u16 ↑(n % 20)) O O (FD O O O AE (Tb n)) ?_
 refine V (v := .int .i64 ↑(n % 20)) O O (FI O O (by rw [underlying45]; rfl) underlying3 (NC O AA)) ?_
 refine V (v := .int .i64 ↑N) O O (KM O O O (by rw [<- hN]; exact NC O AA)) ?_
 refine yG ?_
 refine EF O (vW O O O AA ?_)
 intro P w5 H z5 d5 x5
 have l5 : w.heap.size <= P := by rw [H]; exact (e8 E).size
 have a2 : Q.heap.size <= P := by rw [H]; exact CS E.2.1
 have a1 : h.heap.size <= P := by rw [H]; exact CS (e3 E)
 have a0 : G.heap.size <= P := by rw [H]; exact CS (e5 E)
 replace E := E.below d5
 replace E := E.x x5
 refine yG ?_
 refine wp_loop_ghost (fun mz a w' => ∃ (i : Nat) (C : List Value), C = a.tmps.toList /\ a = ⟨(.string (bs t) :: .slice T l.length D :: .int .u16 ↑n :: gr C 3 3 (.bool false :: .bool true :: .slice B ((l.take 10).length) q :: .slice y p.length o :: .int .i64 ↑pos :: .int .i64 ↑F :: .slice u p.length k :: .int .i64 ↑pos :: .int .i64 ↑F :: .slice (some ⟨P, 0, none⟩) N N :: .int .i64 ↑i :: gr C 17 3 (.bool true :: .bool true :: .bool false :: .string (bs t) :: .int .i64 ↑t.length :: .bool false :: undef :: .slice T l.length D :: .slice B ((l.take 10).length) q :: .tuple #[.slice y p.length o, .int .i64 ↑pos, .int .i64 ↑F] :: .string (bs t) :: .slice B ((l.take 10).length) q :: .tuple #[.slice y p.length o, .int .i64 ↑pos, .int .i64 ↑F] :: .slice y p.length o :: .int .i64 ↑pos :: .int .i64 ↑F :: .tuple #[.slice u p.length k, .int .i64 ↑pos, .int .i64 ↑F] :: .string (bs t) :: .slice B ((l.take 10).length) q :: .tuple #[.slice u p.length k, .int .i64 ↑pos, .int .i64 ↑F] :: .slice u p.length k :: .int .i64 ↑pos :: .int .i64 ↑F :: .int .u16 ↑n :: .int .u16 ↑(n % 20) :: .int .i64 ↑(n % 20) :: .int .i64 ↑N :: .slice (some ⟨P, 0, none⟩) N N :: gr C 48 41 []))).toArray, []⟩ /\ Env w' [fX P (5) (WD N i), fR JQ (EM h.heap.size Q.heap.size) (.slice u p.length k) p, iR Q.heap.size, fR JQ (EM G.heap.size h.heap.size) (.slice y p.length o) p, iR h.heap.size, fR elS (EM w1.heap.size G.heap.size) (.slice B ((l.take 10).length) q) (l.take 10), iR G.heap.size, fGl, fR elS (DL w.heap.size) (.slice T l.length D) l, fW w] /\ mz = N - i /\ i <= N) (N) ⟨0, _, O, O, zE, O, Nat.zero_le _⟩ ?_
 rintro m6 _ w6 ⟨i, C, -, rfl, E, a6, aa⟩
 dsimp only [gr, Nat.reduceAdd]
 by_cases hi : i < N
 case pos =>
  refine yG ?_
  refine V (v := .pointer (some ⟨P, 0 + i * 1, none⟩)) O O (VP (j := i) O underlying42 Z O O O AA) ?_
  have x8 := E.1
  replace E := YE E
  refine yG ?_
  refine EF O (vU (j := 0 + i * 1) O O O x8 (by rw [Kj AA]; omega) ?_)
  intro w7 o7 y7
  rw [show 0 + i * 1 = i by omega, Kh hi] at y7
  replace E := (E.onl (x8.noW (Ki _ _)) zK o7).x y7
  refine yG ?_
  exact ⟨_, (by rw [a6]; omega), (i + 1), _, O, O, zE, O, AA⟩
 have a7 : i = N := by have := aa; omega
 have xf := E.1
 rw [a7] at xf
 have a3 := Uu xf
 obtain ⟨p3, U, ac, I⟩ : ∃ a b c, EE [[120]] (aI N) = (a, b, c) := ⟨_, _, _, rfl⟩
 have L := Ph I
 have ap : (aI N).length = N := by simp [aI]
 refine yG ?_
 refine V (v := .string (bs (aI N))) O O (Nq O O a3) ?_
 refine yG ?_
 refine EF O (GZ (s := (bs ([120]))) O O ?_)
 intro b9 Y av z9 d9 x9
 replace E := E.below d9
 replace E := E.x x9
 have a4 : IsR elS (DL Y.heap.size) Y (.slice (some ⟨b9, 0, none⟩) 1 1) [[120]] := iM E.1 (Bx.lt E.1) rfl
 refine yG ?_
 refine EF O (HH (r := (p3, U, ac)) LJ O (by have f := jM (aI N) _ [[120]] Y a4 AE AA (e8 E).1; rw [I] at f; exact f) O E ?_)
 intro ak al ay ab E
 obtain ⟨ae, ad, rfl, a5, _⟩ := ab.shp
 by_cases X : 4000 < N
 case pos =>
  refine yG ?_
  refine EF O (CA NO O (CT (show decide (p = p) = true by simp) (iI _ p _ p _ (BW (e4 E)) (BW E.2.2.1) AA)) O E ?_)
  intro aj ax E
  refine yG ?_
  refine V Z O (fL (a := true) (b := true) (c := true) O underlying4 O O (O)) ?_
  refine yG ?_
  exact ⟨rfl, RD E⟩
 refine yG ?_
 refine EF O (CA NO O (CT (show decide (p = p) = true by simp) (iI _ p _ p _ (BW (e4 E)) (BW E.2.2.1) AA)) O E ?_)
 intro ai aw E
 refine yG ?_
 refine V Z O (fL (a := false) (b := false) (c := true) O underlying4 O O (O)) ?_
 refine yG ?_
 exact ⟨rfl, RD E⟩
theorem rds_s (s : ByteArray) (vl : Value) (l : List Bs) (n : Nat) (w : World) (hl : IsR elS (DL w.heap.size) w vl l) (hn : n < 65536) (hG : Glob w) :
 Calls prog 6 #[.string s, vl, .int .u16 ↑n] w (LN w true) := by
 have h := rds_t n s.data.toList vl l w hl hn hG
 rwa [sZ] at h
end Go.Proofs.YtmppigbbkjepiaaGreatDoor
