/- Helping facts of Made32; no other conditions. -/
import Derived.Test.YtmppigbbkjepiaaGreatDoorMade6
namespace Go.Proofs.YtmppigbbkjepiaaGreatDoor
open Go.Proofs.Tryz
open Go.RowKit W
theorem oK (w : World) : (isAgg 5).run prog w = .ok false w := by simp [go_sem]
theorem Pf : Ag prog 44 3 [.int .u8 0, .slice none 0 0, .slice none 0 0] := ⟨⟨_, underlying44, rfl⟩, by kernel_rfl, rfl⟩
theorem xI {P : Program} {ρ : Operand → Value} {o : Oper} {w : World} {T e sz len cap i : Nat} {ao : Option Addr} {x y z : Operand} (ho : o.op = .slice T x none (some y) (some z)) (hT : P.underlying T = some (.slice e)) (hs : (P.info? e).map (·.size) = some sz) (hx : ρ x = .slice ao len cap) (hy : ρ y = .int .i64 ↑i) (hz : ρ z = .int .i64 ↑i) (hi : i ≤ cap) :
    (execOp ρ o).run P w = .ok (.value (.slice ao i i)) w := by
  unfold execOp; rw [ho]
  cases f : P.info? e with
  | none => simp [f] at hs
  | some inf =>
    simp [f] at hs
    simp [hx, hy, hz, Instr.sliceAt, Instr.slice, run_underlying hT, Instr.sliceBounds, Instr.sliceBound, asIntOf, sizeOf, typeInfo, f, hi, Addr.add]
theorem Ip {α : Type} {e : El α} {S : Nat → Prop} {w : World} {ao : Option Addr} {n cap : Nat} {l : List α} (h : IsR e S w (.slice ao n cap) l) {i : Nat} (hi : i ≤ l.length) (hm : i ≤ maxLen) : IsR e S w (.slice ao i i) (l.take i) := by
  obtain ⟨q, o, f, u, t, p⟩ := h.take hi
  simp only [Value.slice.injEq] at f
  obtain ⟨rfl, k, rfl⟩ := f
  exact ⟨ao, i, by rw [← k], by rw [← k]; exact Nat.le_refl _, hm, p⟩
def SyAt (b z : Nat) (vv : Value) (q r : List En) (next : Nat) (w : World) : Prop := ∃ S ve vn, Bx w b 48 [vv, ve, vn, .int .i64 ↑next] ∧ Two b S w (.slice none 0 0) ve vn [] q r ∧ (∀ k, S k → k < z) ∧ (∀ g, ve.ownBlock = some g → g < z) ∧ (∀ g, vn.ownBlock = some g → g < z) ∧ b < z ∧ z ≤ w.heap.size
theorem SyAt.below {b z next : Nat} {vv : Value} {q r : List En} {w w' : World} (h : SyAt b z vv q r next w) (hb : Below w.heap.size w w') : SyAt b z vv q r next w' := by
  obtain ⟨S, f, e, v, u, t, p, o, l, k⟩ := h
  exact ⟨S, f, e, v.below hb, u.below hb, t, p, o, l, Nat.le_trans k hb.size⟩
theorem SyAt.onl {b z next c : Nat} {vv : Value} {q r : List En} {w w' : World} (h : SyAt b z vv q r next w) (hn : wK w c) (hc : c < b ∨ z ≤ c) (ho : Onl c w w') : SyAt b z vv q r next w' := by
  obtain ⟨S, o, l, F, e, v, u, t, D, C⟩ := h
  have f : ¬ S c := by intro g; have := (e.set c g).1; have := v c g; omega
  have B : o.ownBlock ≠ some c := fun g => by have := (e.eqs.lt g).1; have := u c g; omega
  have y : l.ownBlock ≠ some c := fun g => by have := (e.neqs.lt g).1; have := t c g; omega
  exact ⟨S, o, l, F.onl AA ho, ⟨e.vars.keep (Keep.onl hn ho f), e.eqs.onl e.lt hn B f ho, e.neqs.onl e.lt hn y f ho, e.apart, fun k p => ⟨(e.set k p).1, by rw [ho.size]; exact e.lt k p⟩⟩, v, u, t, D, by rw [ho.size]; exact C⟩
def fSy (b z : Nat) (vv : Value) (q r : List En) (next : Nat) : SF := ⟨fun w => SyAt b z vv q r next w, fun c => c < b ∨ z ≤ c, fun h hb => h.below hb, fun h hn ho hb => h.onl hn ho hb⟩
theorem okSy {b z next c : Nat} {vv : Value} {q r : List En} (h : c < b ∨ z ≤ c) : (fSy b z vv q r next).ok c := h
theorem Env.sy {w : World} {L : List SF} {b z next : Nat} {vv : Value} {q r : List En} (E : Env w L) (h : SyAt b z vv q r next w) : Env w (fSy b z vv q r next :: L) := ⟨h, E⟩
theorem Tj {b z next : Nat} {vv : Value} {q r : List En} {w : World} (h : SyAt b z vv q r next w) : w.cell? ⟨b, 3, none⟩ = some (.int .i64 ↑next) := by
  obtain ⟨S, k, f, e, _⟩ := h
  rw [e.cell]; rfl
theorem Tk {b z next : Nat} {vv : Value} {q r : List En} {w : World} (h : SyAt b z vv q r next w) : b < z := by
  obtain ⟨S, k, f, _, _, _, _, _, e, _⟩ := h
  exact e
theorem SyAt.lt {b z next : Nat} {vv : Value} {q r : List En} {w : World} (h : SyAt b z vv q r next w) : b < w.heap.size := by
  obtain ⟨S, k, f, e, _⟩ := h
  exact e.lt
theorem SyAt.zero {b z next : Nat} {vv : Value} {w : World} (h : Bx w b 48 [vv, .slice none 0 0, .slice none 0 0, .int .i64 ↑next]) (h1 : b < z) (h2 : z ≤ w.heap.size) : SyAt b z vv [] [] next w :=
  ⟨WI, _, _, h, ⟨IsR.nil _ _ _, Acc.nil _ _ _ _ _, Acc.nil _ _ _ _ _, fun g hg => by simp [Value.ownBlock] at hg, fun k hk => hk.elim⟩, fun k hk => hk.elim, fun g hg => by simp [Value.ownBlock] at hg, fun g hg => by simp [Value.ownBlock] at hg, h1, h2⟩
def NewMs (w0 w' : World) (v : Value) : Prop := ∃ n i q r next, n ≤ 3 ∧ i ≤ 6 ∧ MadeS n i q r next ∧ NewSy w0 ⟨nm3.take n, q, r, next⟩ w' v
set_option maxRecDepth 100000 in
set_option maxHeartbeats 8000000 in
theorem vX (n0 : Nat) (vl vy : Value) (l : List (List (List Int))) (y : List Nat) (w : World) (_hn0 : n0 < 256) (hRl : IsR Nh (DD w.heap.size) w vl l) (hRy : IsR Ni (DD w.heap.size) w vy y) :
    Calls prog 16 #[.agg #[.int .u8 ↑n0, vl, vy]] w (Ad w (NewMs w)) := by
 have E := Env.start w
 obtain ⟨ae, Y, rfl, f6, ey⟩ := hRl.shp
 obtain ⟨a7, P, rfl, f5, ex⟩ := hRy.shp
 replace E := (E.r hRl (DK _)).r hRy (DK _)
 obtain ⟨n, hn⟩ : ∃ n, n0 % 4 = n := ⟨_, rfl⟩
 have ew : n ≤ 3 := by omega
 go_enter func16, ntmps16
 refine yG ?_
 refine EF O (CI (cs := [.int .u8 ↑n0, .slice ae l.length Y, .slice a7 y.length P]) O O ?_)
 intro b1 w1 du z1 d1 x1
 have l1 : w.heap.size ≤ b1 := by rw [du]; exact E.2.2.1.size
 replace E := E.below d1
 replace E := E.x x1
 refine yG ?_
 refine EF O (CB LK O ?_)
 intro b2 w2 dt z2 d2 x2
 have eb : b1 < b2 := by rw [dt]; exact Bx.lt E.1
 replace E := E.below d2
 replace E := E.x x2
 have ed : b2 < w2.heap.size := Bx.lt E.1
 have eu : w.heap.size ≤ w2.heap.size := (e4 E).size
 refine yG ?_
 refine EF O (OU (s := [120]) (t := [121, 95, 49]) (u := [90, 101, 100]) O O O O ?_)
 intro U w3 dv z3 d3 x3
 have db : IsR elS (DX w2.heap.size w3.heap.size) w3 (.slice (some ⟨U, 0, none⟩) nm3.length 3) nm3 := NA (l := nm3) x3 ⟨Nat.le_of_eq dv.symm, by omega⟩ AE
 replace E := ((E.below d3).sz (Nat.le_refl w3.heap.size)).r db (fun _ g => g.2)
 refine yG ?_
 refine V O O (ZU O O O) ?_
 refine V O O (CP O oK O (e3 E) O) ?_
 refine V (v := .int .u8 ↑n) O O (DZ O O O AE ((JS n0 4).trans (by rw [hn]))) ?_
 refine V (v := .int .i64 ↑n) O O (EO O O (by rw [underlying5]; rfl) underlying3 (LM O AA)) ?_
 refine yG ?_
 refine V (v := .slice (some ⟨U, 0, none⟩) n n) O O (xI (i := n) (sz := 1) O underlying30 Z O O O AA) ?_
 replace E := E.r (e := elS) (S := DX w2.heap.size w3.heap.size) (Ip (i := n) E.1.1 (show n ≤ nm3.length by show n ≤ 3; omega) (by unfold maxLen; omega)) (E.1.2)
 refine yG ?_
 refine V (v := .agg #[.slice (some ⟨U, 0, none⟩) n n, .slice none 0 0, .slice none 0 0, .int .i64 1]) O O (NQ O O O) ?_
 refine yG ?_
 refine EF O (CB LK O ?_)
 intro b4 w4 c9 z4 d4 x4
 have ea : b2 < b4 := by rw [c9]; exact Bx.lt (e3 E)
 have d9 : w3.heap.size ≤ b4 := by rw [c9]; exact CR E.2.2.1
 replace E := E.below d4
 refine yG ?_
 refine EF O (BY LK O O O x4 O O (CG O (CG O (CG O (CG O ED)))) ?_)
 intro w5 o5 y5
 replace E := oY E x4 o5 y5 (ds := [.slice (some ⟨U, 0, none⟩) n n, .slice none 0 0, .slice none 0 0, .int .i64 1])
 have b7 : SyAt b4 w5.heap.size (.slice (some ⟨U, 0, none⟩) n n) [] [] 1 w5 := SyAt.zero (next := 1) E.1 (Bx.lt E.1) (Nat.le_refl _)
 obtain ⟨z0, bi⟩ : ∃ z, z = w5.heap.size := ⟨_, rfl⟩
 rw [← bi] at b7
 have dp : b4 < z0 := by rw [bi]; exact Bx.lt E.1
 replace E := ((GB (GB (GB (Env.x (Env.x (GB (GB (Env.ww (Env.nil _) (e8 E)) (e7 E)) (e6 E)) (e5 E)) (e4 E)) (e3 E)) E.2.2.1) E.2.1).sz (Nat.le_of_eq bi)).sy b7
 refine yG ?_
 refine wp_loop_ghost (fun mz a w' => ∃ (i : Nat) (z : Nat) (nx : Nat) (q : List En) (r : List En) (B : List Value), B = a.tmps.toList ∧ a = ⟨#[.agg #[.int .u8 ↑n0, .slice ae l.length Y, .slice a7 y.length P], .pointer (some ⟨b1, 0, none⟩), .pointer (some ⟨b2, 0, none⟩), .slice (some ⟨U, 0, none⟩) nm3.length 3, .int .i64 ↑n, .pointer (some ⟨b4, 0, none⟩), .int .i64 ↑i, CE B 7, CE B 8, .slice (some ⟨U, 0, none⟩) nm3.length 3, .pointer (some ⟨b1, 0, none⟩), .int .u8 ↑n0, .int .u8 ↑n, .int .i64 ↑n, .slice (some ⟨U, 0, none⟩) nm3.length 3, .int .i64 ↑n, .int .i64 ↑n, .slice (some ⟨U, 0, none⟩) n n, .agg #[.slice (some ⟨U, 0, none⟩) n n, .slice none 0 0, .slice none 0 0, .int .i64 1], CE B 19, CE B 20, CE B 21, CE B 22, CE B 23, CE B 24, CE B 25, CE B 26, CE B 27, CE B 28, CE B 29, CE B 30, CE B 31, CE B 32, CE B 33, CE B 34, CE B 35, CE B 36, CE B 37, CE B 38, CE B 39, CE B 40, CE B 41, CE B 42, CE B 43, CE B 44, CE B 45, CE B 46, CE B 47, CE B 48, CE B 49, CE B 50, CE B 51, CE B 52, CE B 53, CE B 54, CE B 55, CE B 56, CE B 57, CE B 58, CE B 59, CE B 60, CE B 61, CE B 62, CE B 63, CE B 64, CE B 65, CE B 66, CE B 67, CE B 68, CE B 69, CE B 70, CE B 71, CE B 72, CE B 73, CE B 74, CE B 75, undef], []⟩ ∧ Env w' [fSy b4 z (.slice (some ⟨U, 0, none⟩) n n) q r nx, oZ z, fR elS (DX w2.heap.size w3.heap.size) (.slice (some ⟨U, 0, none⟩) n n) (nm3.take n), fR elS (DX w2.heap.size w3.heap.size) (.slice (some ⟨U, 0, none⟩) nm3.length 3) nm3, oZ w3.heap.size, fX b2 (48) ([.slice none 0 0, .slice none 0 0, .slice none 0 0, .int .i64 0]), fX b1 (44) ([.int .u8 ↑n0, .slice ae l.length Y, .slice a7 y.length P]), fR Ni (DD w.heap.size) (.slice a7 y.length P) y, fR Nh (DD w.heap.size) (.slice ae l.length Y) l, fW w] ∧ mz = 6 - i ∧ (i ≤ 6 ∧ i ≤ l.length ∧ MadeS n i q r nx)) (6) ⟨0, z0, 1, [], [], _, O, O, zE, O, ⟨Nat.zero_le _, Nat.zero_le _, Gx n⟩⟩ ?_
 rintro m6 _ w6 ⟨i, z, nx, q, r, B, -, rfl, E, c6, dq⟩
 obtain ⟨f2, f1, hJ⟩ := dq
 have f0 := hJ.len
 have ez := hJ.hi
 by_cases dh : i < l.length
 case neg =>
  refine yG ?_
  refine V O O (KG O O O) ?_
  obtain ⟨S, ve, vn, hX, hT, bl, a2, a1, _, bh⟩ := E.1
  refine yG ?_
  replace E := WJ E
  have ab : ¬ S b4 := fun h => Nat.lt_irrefl _ (hT.set _ h).1
  have T := hT.lt
  have ad := hT.eqs.own
  have ac := hT.neqs.own
  have af := hT.apart
  obtain ⟨_, R, Q, _, ag⟩ := hT
  have J : ∀ k, S k → b4 < k := fun k h => (ag k h).1
  obtain ⟨a4, N, rfl⟩ := R.shp
  obtain ⟨a3, L, rfl⟩ := Q.shp
  obtain ⟨rb, a6⟩ : ∃ n, n = b4 + 1 := ⟨_, rfl⟩
  rw [← a6] at R Q
  have an := hX.lt
  replace E := (((E.sz (show rb ≤ w6.heap.size by omega)).x hX).a R T).a Q T
  have bp := e8 E
  refine yG ?_
  replace E := dl8 E
  refine yG ?_
  refine EF O (BY LK O O O bp O O (CG O (CG (Acc.one E.2.1.1) (CG (Acc.one E.1.1) (CG O ED)))) ?_)
  intro eh cy cm
  replace E := (E.onl (bp.noW (CL AH (CL AH (CL AH (CL AH EB))))) ⟨MT (fun h => by have := (Acc.lt E.1.1 h).1; omega) (by first | exact ab | exact ad _ C | exact ac _ C | exact (fun h => by have := T _ h; omega) | exact (fun h => by have := J _ h; omega)), MT (fun h => by have := (Acc.lt E.2.1.1 h).1; omega) (by first | exact ab | exact ad _ C | exact ac _ C | exact (fun h => by have := T _ h; omega) | exact (fun h => by have := J _ h; omega)), CQ AA, BX, BX, DR (MP AA), DR (MP AA), BX, CQ AA, DR (CJ AA), DR (CJ AA), IS AA, BX⟩ cy).x (cs := [.slice (some ⟨U, 0, none⟩) n n, .slice a4 q.length N, .slice a3 r.length L, .int .i64 ↑nx]) cm
  have rr := CY LK E.1 rfl
  refine yG ?_
  exact AQ (v := .agg #[.slice (some ⟨U, 0, none⟩) n n, .slice a4 q.length N, .slice a3 r.length L, .int .i64 ↑nx]) (by simp [results, results16, asAddr, rr]) O ⟨_, O, ⟨n, i, q, r, nx, by omega, by omega, hJ, _, _, _, O, (e6 E).1.mono (fun k hk => ⟨by have := hk.1; omega, (e6 E).2 k hk⟩), (E.2.2.1.1.row (fun k hk => ⟨by have := J k hk; omega, E.2.2.1.2 k hk⟩) (fun g h3 h4 _ => ⟨by omega, h4⟩)), (E.2.1.1.row (fun k hk => ⟨by have := J k hk; omega, E.2.1.2 k hk⟩) (fun g h3 h4 _ => ⟨by omega, h4⟩))⟩, QP E⟩
 by_cases f4 : i < 6
 case neg =>
  refine yG ?_
  refine V O O (KG O O O) ?_
  obtain ⟨S, ve, vn, hX, hT, bl, a2, a1, _, bh⟩ := E.1
  refine yG ?_
  replace E := WJ E
  have ab : ¬ S b4 := fun h => Nat.lt_irrefl _ (hT.set _ h).1
  have T := hT.lt
  have ad := hT.eqs.own
  have ac := hT.neqs.own
  have af := hT.apart
  obtain ⟨_, R, Q, _, ag⟩ := hT
  have J : ∀ k, S k → b4 < k := fun k h => (ag k h).1
  obtain ⟨a4, N, rfl⟩ := R.shp
  obtain ⟨a3, L, rfl⟩ := Q.shp
  obtain ⟨rb, a6⟩ : ∃ n, n = b4 + 1 := ⟨_, rfl⟩
  rw [← a6] at R Q
  have an := hX.lt
  replace E := (((E.sz (show rb ≤ w6.heap.size by omega)).x hX).a R T).a Q T
  have bq := e8 E
  refine yG ?_
  replace E := dl8 E
  refine yG ?_
  refine EF O (BY LK O O O bq O O (CG O (CG (Acc.one E.2.1.1) (CG (Acc.one E.1.1) (CG O ED)))) ?_)
  intro ei cz cn
  replace E := (E.onl (bq.noW (CL AH (CL AH (CL AH (CL AH EB))))) ⟨MT (fun h => by have := (Acc.lt E.1.1 h).1; omega) (by first | exact ab | exact ad _ C | exact ac _ C | exact (fun h => by have := T _ h; omega) | exact (fun h => by have := J _ h; omega)), MT (fun h => by have := (Acc.lt E.2.1.1 h).1; omega) (by first | exact ab | exact ad _ C | exact ac _ C | exact (fun h => by have := T _ h; omega) | exact (fun h => by have := J _ h; omega)), CQ AA, BX, BX, DR (MP AA), DR (MP AA), BX, CQ AA, DR (CJ AA), DR (CJ AA), IS AA, BX⟩ cz).x (cs := [.slice (some ⟨U, 0, none⟩) n n, .slice a4 q.length N, .slice a3 r.length L, .int .i64 ↑nx]) cn
  have rr := CY LK E.1 rfl
  refine yG ?_
  exact AQ (v := .agg #[.slice (some ⟨U, 0, none⟩) n n, .slice a4 q.length N, .slice a3 r.length L, .int .i64 ↑nx]) (by simp [results, results16, asAddr, rr]) O ⟨_, O, ⟨n, i, q, r, nx, by omega, by omega, hJ, _, _, _, O, (e6 E).1.mono (fun k hk => ⟨by have := hk.1; omega, (e6 E).2 k hk⟩), (E.2.2.1.1.row (fun k hk => ⟨by have := J k hk; omega, E.2.2.1.2 k hk⟩) (fun g h3 h4 _ => ⟨by omega, h4⟩)), (E.2.1.1.row (fun k hk => ⟨by have := J k hk; omega, E.2.1.2 k hk⟩) (fun g h3 h4 _ => ⟨by omega, h4⟩))⟩, QP E⟩
 refine yG ?_
 refine V O O (KG O O O) ?_
 refine V O O (CP O XL O (e6 E) O) ?_
 refine V (v := .int .i64 ((l.length : Nat) : Int)) O O (Kn (n := l.length) O underlying41 O) ?_
 try simp only [q2,q3]
 refine V O O (PN (c := true) O O O (by rw [decide_eq_true_eq]; omega)) ?_
 refine M O O O O O ?_
 refine M (by kernel_rfl) O O O O ?_
 refine V (by kernel_rfl) O (PN (c := true) O O O (by rw [decide_eq_true_eq]; omega)) ?_
 try simp only [q2,q3]
 refine V (v := .bool true) O O (Kh (b := true) O O O) ?_
 try simp only [q2,q3]
 refine WN ?_
 change Code.wp _ _ _ _ _
 refine wp_cond_true O ?_
 refine wp_skip ?_
 change Code.wp _ _ _ _ _
 refine wp_seq ?_
 refine wp_block ?_
 refine wp_seq ?_
 refine RL ?_
 refine AC O O O O ?_
 try simp only [q2,q3]
 refine WN ?_
 change Code.wp _ _ _ _ _
 refine wp_seq ?_
 refine Uq (fun a w' => ∃ (X : Nat) (gc : List Value), a = ⟨#[.agg #[.int .u8 ↑n0, .slice ae l.length Y, .slice a7 y.length P], .pointer (some ⟨b1, 0, none⟩), .pointer (some ⟨b2, 0, none⟩), .slice (some ⟨U, 0, none⟩) nm3.length 3, .int .i64 ↑n, .pointer (some ⟨b4, 0, none⟩), .int .i64 ↑i, .int .i64 ↑X, CE B 8, .slice (some ⟨U, 0, none⟩) nm3.length 3, .pointer (some ⟨b1, 0, none⟩), .int .u8 ↑n0, .int .u8 ↑n, .int .i64 ↑n, .slice (some ⟨U, 0, none⟩) nm3.length 3, .int .i64 ↑n, .int .i64 ↑n, .slice (some ⟨U, 0, none⟩) n n, .agg #[.slice (some ⟨U, 0, none⟩) n n, .slice none 0 0, .slice none 0 0, .int .i64 1], .int .i64 ↑i, .pointer (some ⟨b1, 1, none⟩), .slice ae l.length Y, .int .i64 ↑l.length, .bool true, .bool true, .int .i64 ↑i, .bool true, .bool true, CE B 28, CE B 29, CE gc 0, CE gc 1, CE gc 2, CE gc 3, CE gc 4, CE gc 5, CE gc 6, CE gc 7, CE gc 8, CE gc 9, CE gc 10, CE gc 11, CE gc 12, CE gc 13, CE gc 14, CE B 45, CE B 46, CE B 47, CE B 48, CE B 49, CE B 50, CE B 51, CE B 52, CE B 53, CE B 54, CE B 55, CE B 56, CE B 57, CE B 58, CE B 59, CE B 60, CE B 61, CE B 62, CE B 63, CE B 64, CE B 65, CE B 66, CE B 67, CE B 68, CE B 69, CE B 70, CE B 71, CE B 72, CE B 73, CE B 74, CE B 75, undef], []⟩ ∧ X ≤ 3 ∧ Env w' [fSy b4 z (.slice (some ⟨U, 0, none⟩) n n) q r nx, oZ z, fR elS (DX w2.heap.size w3.heap.size) (.slice (some ⟨U, 0, none⟩) n n) (nm3.take n), fR elS (DX w2.heap.size w3.heap.size) (.slice (some ⟨U, 0, none⟩) nm3.length 3) nm3, oZ w3.heap.size, fX b2 (48) ([.slice none 0 0, .slice none 0 0, .slice none 0 0, .int .i64 0]), fX b1 (44) ([.int .u8 ↑n0, .slice ae l.length Y, .slice a7 y.length P]), fR Ni (DD w.heap.size) (.slice a7 y.length P) y, fR Nh (DD w.heap.size) (.slice ae l.length Y) l, fW w]) ?_ ?_
 case refine_1 =>
  by_cases da : 0 < y.length
  case neg =>
   refine yG ?_
   refine V O O (KE O O O) ?_
   refine yG ?_
   exact ⟨0, [.pointer (some ⟨b1, 2, none⟩), .slice a7 y.length P, .int .i64 ↑y.length, .bool false, CE B 34, CE B 35, CE B 36, CE B 37, CE B 38, CE B 39, CE B 40, CE B 41, CE B 42, CE B 43, CE B 44], rfl, AA, zE⟩
  refine yG ?_
  refine V O O (KE O O O) ?_
  obtain ⟨j, hj⟩ : ∃ j, j = i % y.length := ⟨_, rfl⟩
  have dg : j < y.length := by rw [hj]; exact Nat.mod_lt _ da
  obtain ⟨xB, c4⟩ : ∃ x, y[j]? = some x := ⟨_, List.getElem?_eq_getElem dg⟩
  obtain ⟨bg, bx, _, dm, dn, dk, ⟨rfl, ev⟩⟩ := IsR.at (e7 E).1 c4
  have de : bg < _ := (e7 E).2 _ dn
  replace E := E.c dk de
  obtain ⟨X, di⟩ : ∃ g : Nat, xB % 4 = g := ⟨_, rfl⟩
  have ec : X ≤ 3 := by omega
  refine yG ?_
  refine sE E [0,1,2,3,4,5,6,7,8,9,10,11] ?_
  replace E := E.drew
  refine SW O O O O O (fun w hS => KE O O O) ?_
  refine yG ?_
  refine SW O O O O O (fun w hS => KE O O O) ?_
  refine yG ?_
  refine SW (v := .int .i64 ↑j) O O O O O (fun w hS => DZ O O O AA ((JS i y.length).trans (by rw [hj]))) ?_
  refine SW (v := .pointer (some ⟨bg, bx + j * 1, none⟩)) O O O O O (fun w hS => NL (i := j) O underlying42 Z O dm O O (List.getElem?_eq_some_iff.1 c4).1) ?_
  refine yG ?_
  refine SW O O O O O (fun w hS => GF O oK O ((hS.1).1 0 _ O)) ?_
  refine SW (v := .int .u8 ↑X) O O O O O (fun w hS => DZ O O O AE ((JS xB 4).trans (by rw [di]))) ?_
  refine SW (v := .int .i64 ↑X) O O O O O (fun w hS => EO O O (by rw [underlying5]; rfl) underlying3 (LM O AA)) ?_
  refine yG ?_
  exact ⟨X, [.pointer (some ⟨b1, 2, none⟩), .slice a7 y.length P, .int .i64 ↑y.length, .bool true, .pointer (some ⟨b1, 2, none⟩), .slice a7 y.length P, .int .i64 ↑i, .pointer (some ⟨b1, 2, none⟩), .slice a7 y.length P, .int .i64 ↑y.length, .int .i64 ↑j, .pointer (some ⟨bg, bx + j * 1, none⟩), .int .u8 ↑xB, .int .u8 ↑X, .int .i64 ↑X], rfl, AA, zE⟩
 case refine_2 =>
  rintro _ w7 ⟨X, gc, rfl, b8, E⟩
  obtain ⟨xW, c3⟩ : ∃ x, l[i]? = some x := ⟨_, List.getElem?_eq_getElem dh⟩
  obtain ⟨bf, cx, _, dl, c7, dj, ⟨_, rfl, c5⟩⟩ := IsR.at (e8 E).1 c3
  obtain ⟨dz, cb, rfl, _, _⟩ := c5.shp
  have dd : bf < _ := (e8 E).2 _ c7
  have f7 : bf < w.heap.size := c7
  replace E := (E.r c5 (e8 E).2).c dj dd
  have et : z ≤ w7.heap.size := CR (e3 E)
  have dp := Tk E.2.2.1
  have ci : w3.heap.size ≤ w7.heap.size := CR (e6 E)
  have ck : b2 < w7.heap.size := Bx.lt (e7 E)
  have cj : b1 < w7.heap.size := Bx.lt (e8 E)
  refine yG ?_
  refine PA E [.op 0, .op 1, .op 2, .op 3, .op 4, .op 5, .op 6, .op 7, .op 8, .op 9, .av 12, .op 10, .op 11, .op 12] 1 (#[true, true, true, true, true, true, true, true, true, true, true, true, true, false]) Z Z Z Z AF AF ?_
  refine FP (v := .pointer (some ⟨b4, 3, none⟩)) O O O O O (fun w hS => RJ O O O) ?_
  refine FP (v := .int .i64 ↑nx) O O O O O (fun w hS => GF O DA O (Tj (hS.2.2.1))) ?_
  refine FP (v := .int .i64 ↑X) O O O O O (fun w hS => GE O O) ?_
  refine FP (v := .int .i64 ↑(nx + X)) O O O O O (fun w hS => JD O O O (LM AA AA)) ?_
  refine yG ?_
  refine FP (v := .pointer (some ⟨b1, 1, none⟩)) O O O O O (fun w hS => KG O O O) ?_
  refine FP (v := .slice ae l.length Y) O O O O O (fun w hS => CP O XL O (e8 hS) O) ?_
  refine FP (v := .int .i64 ↑i) O O O O O (fun w hS => GE O O) ?_
  refine FP (v := .pointer (some ⟨bf, cx + i * 1, none⟩)) O O O O O (fun w hS => NL (i := i) O underlying41 Z O dl O O (List.getElem?_eq_some_iff.1 c3).1) ?_
  refine yG ?_
  refine FP (v := .agg #[.slice dz xW.length cb]) O O O O O (fun w hS => CD Ee O O ((hS.1).1) O) ?_
  refine FP (v := .int .i64 ↑n) O O O O O (fun w hS => GE O O) ?_
  refine FA _ (RunF.alloc OY O O O) ?_
  refine yG ?_
  refine FE O O O O ?_
  intro au E
  have c2 : z ≤ au.heap.size := CR (e3 E)
  refine CW OL O (iY _ xW n 2 3 _ (BW E.2.1) AA AE AE) O E ?_
  intro aw er ca dr E
  have eg := ca.size
  replace E := E.sz (Nat.le_refl aw.heap.size)
  obtain ⟨p, c8, b9⟩ := dr
  obtain ⟨aa, a9, rfl, dc, _⟩ := b9.shp
  replace E := E.r (e := JP) (S := DX au.heap.size aw.heap.size) b9 (fun _ g => g.2)
  refine kF2 ca E O ?_
  refine FP (v := .agg #[.int .i64 ↑(nx + X), .slice aa p.length a9]) O O O O O (fun w hS => RK O O O) ?_
  refine yG ?_
  refine FF O O ?_
  intro dy f8 cw
  have es : w.heap.size ≤ dy := by omega
  simp only [List.mem_append, List.mem_range'_1, not_or, List.not_mem_nil, not_false_eq_true, true_and] at cw
  refine yG ?_
  intro ep E
  refine H1 (i := 13) Z ?_
  have bw := E.1
  replace E := WJ E
  refine HE (o := ⟨none, _, _, _, _, _⟩) O O (BY OY O O O bw O O (CG O (CG O ED)) ?_)
  intro a8 d8 ct
  replace E := (E.onl (bw.noW (CL AH (CL AH EB))) ⟨DR (MP AA), BX, SI AA, DR (CJ AA), okSy AA, BX, DR (MP AA), DR (MP AA), BX, CQ AA, CQ AA, DR (CJ AA), DR (CJ AA), IS AA, BX⟩ d8).x (cs := [.int .i64 ↑(nx + X), .slice aa p.length a9]) ct
  refine ⟨E.2.2.2, ?_⟩
  refine yG ?_
  refine HN Z ?_
  by_cases f3 : i % 3 = 2
  case neg =>
   refine yG ?_
   refine V (v := .int .i64 ↑(i % 3)) O O (DZ O O O AE (JS i 3)) ?_
   obtain ⟨S, ve, vn, hX, hT, bl, a2, a1, _, bh⟩ := e5 E
   refine yG ?_
   replace E := dl5 E
   have ab : ¬ S b4 := fun h => Nat.lt_irrefl _ (hT.set _ h).1
   have T := hT.lt
   have ad := hT.eqs.own
   have ac := hT.neqs.own
   have af := hT.apart
   obtain ⟨_, R, Q, _, ag⟩ := hT
   have J : ∀ k, S k → b4 < k := fun k h => (ag k h).1
   obtain ⟨a4, N, rfl⟩ := R.shp
   obtain ⟨a3, L, rfl⟩ := Q.shp
   obtain ⟨rb, a6⟩ : ∃ n, n = b4 + 1 := ⟨_, rfl⟩
   rw [← a6] at R Q
   have an := hX.lt
   replace E := (((E.sz (show rb ≤ a8.heap.size by omega)).x hX).a R T).a Q T
   obtain ⟨S2, a0⟩ : ∃ f, f = (fun k => S k ∨ DX au.heap.size aw.heap.size k) := ⟨_, rfl⟩
   have ap : Acc NY 83 rb S2 a8 (.slice a4 q.length N) q := by rw [a0]; exact E.2.1.1.mono (fun _ => .inl) (fun g C hs => hs.elim (ad g C) (fun hm => by have := a2 g C; have := hm.1; omega))
   have ao : Acc NY 83 rb S2 a8 (.slice a3 r.length L) r := by rw [a0]; exact E.1.1.mono (fun _ => .inl) (fun g C hs => hs.elim (ac g C) (fun hm => by have := a1 g C; have := hm.1; omega))
   have bm : IsR JP S2 a8 (.slice aa p.length a9) p := by rw [a0]; exact (e5 E).1.mono (fun _ => .inr)
   have I : ¬ S2 b4 := by rw [a0]; exact fun h => h.elim ab (fun hm => by have := hm.1; omega)
   have D : ∀ k, S2 k → k < a8.heap.size := by rw [a0]; exact fun k h => h.elim (fun g => E.2.1.2 k g) (fun hm => (e5 E).2 k hm)
   have F : ∀ k, S2 k → b4 < k := by rw [a0]; exact fun k h => h.elim (fun g => J k g) (fun hm => by have := hm.1; omega)
   have H := ap.own
   have G := ao.own
   replace E := (((((Env.x (GB (Env.x (GB (GB (GB (GB (GB (GB (GB (Env.x (Env.x (GB (GB (Env.ww (Env.nil _) (sG E)) (e16 E)) (Iy E)) (iU E)) (TI E)) (QP E)) (QQ E)) (QM E)) (e9 E)) (e8 E)) (e7 E)) (e6 E)) (e4 E)) (e3 E)) E.2.2.1)).r bm D)).a ap D).a ao D
   refine yG ?_
   refine EF O (DT (cs := [.int .i64 ↑(nx + X), .slice aa p.length a9]) underlying46 OY O AE AE O O ?_)
   intro cc el ba ee dw cu
   have cf : rb ≤ cc := by rw [ba]; exact CR (e4 E)
   have ce : z ≤ cc := by rw [ba]; exact CR (e9 E)
   replace E := E.below dw
   replace E := E.x cu
   have aq := E.2.2.1
   have c0 := Acc.nw aq.1
   refine yG ?_
   replace E := mC E
   have bj := fun g C => (E.2.1.1.lt (g := g) C).2
   refine EF O (QW (x := (nx + X, p)) Tp O (l := q) O aq.1 aq.2 E (fun g C h1 h2 => ⟨CQ (by have := a2 g C; omega), MT (fun h => af g C h) (by first | exact I | exact H _ C | exact G _ C | exact (fun h => by have := D _ h; omega) | exact (fun h => by have := F _ h; omega)), DR (by first | exact I | exact H _ C | exact G _ C | exact (fun h => by have := D _ h; omega) | exact (fun h => by have := F _ h; omega)), CQ (by have := a2 g C; omega), BX, CQ (by have := a2 g C; omega), BX, SI AA, DR (CJ AA), BX, DR (MP (by have := a2 g C; omega)), DR (MP (by have := a2 g C; omega)), BX, CQ (by have := a2 g C; omega), CQ (by have := a2 g C; omega), DR (CJ AA), DR (CJ AA), IS AA, BX⟩) O E.1 (⟨_, O, E.2.2.1.1⟩) (by unfold maxLen; omega) AA (CR (e4 E)) ?_)
   intro ah ek ax E
   have az : ∀ g, (ah : Value).ownBlock = some g → ((.slice a3 r.length L) : Value).ownBlock = some g → False := fun g h1 h2 => ax g (bj g h2) (fun h3 => af g h3 h2) h1
   have H := E.1.1.own
   have aj : ∀ g, (ah : Value).ownBlock = some g → g ≠ b4 := fun g C => by have := (E.1.1.lt C).1; omega
   have bt := e4 E
   refine yG ?_
   replace E := pC E
   refine yG ?_
   refine EF O (CF (v := ah) O Z (Acc.one E.1.1) O O bt AH ?_)
   intro ej d5 cp
   replace E := (E.onl (bt.noW (CL AH (CL c0 (CL (Acc.nw E.2.2.1.1) (CL AH EB))))) ⟨MT (fun h => aj _ h rfl) (by first | exact I | exact H _ C | exact G _ C | exact (fun h => by have := D _ h; omega) | exact (fun h => by have := F _ h; omega)), CQ AA, MT (fun h => by have := (E.2.2.1.1.lt h).1; omega) (by first | exact I | exact H _ C | exact G _ C | exact (fun h => by have := D _ h; omega) | exact (fun h => by have := F _ h; omega)), DR (by first | exact I | exact H _ C | exact G _ C | exact (fun h => by have := D _ h; omega) | exact (fun h => by have := F _ h; omega)), BX, CQ AA, BX, SI AA, DR (CJ AA), BX, DR (MP AA), DR (MP AA), BX, CQ AA, CQ AA, DR (CJ AA), DR (CJ AA), IS AA, BX⟩ d5).x (cs := [.slice (some ⟨U, 0, none⟩) n n, ah, .slice a3 r.length L, .int .i64 ↑nx]) cp
   have br := E.1
   refine yG ?_
   replace E := WJ E
   refine yG ?_
   refine EF O (CF (v := .int .i64 ↑(nx + X + 1)) O Z O O O br AH ?_)
   intro bc d0 co
   replace E := (E.onl (br.noW (CL AH (CL (Acc.nw E.1.1) (CL (Acc.nw E.2.2.1.1) (CL AH EB))))) ⟨MT (fun h => aj _ h rfl) (by first | exact I | exact H _ C | exact G _ C | exact (fun h => by have := D _ h; omega) | exact (fun h => by have := F _ h; omega)), CQ AA, MT (fun h => by have := (E.2.2.1.1.lt h).1; omega) (by first | exact I | exact H _ C | exact G _ C | exact (fun h => by have := D _ h; omega) | exact (fun h => by have := F _ h; omega)), DR (by first | exact I | exact H _ C | exact G _ C | exact (fun h => by have := D _ h; omega) | exact (fun h => by have := F _ h; omega)), BX, CQ AA, BX, SI AA, DR (CJ AA), BX, DR (MP AA), DR (MP AA), BX, CQ AA, CQ AA, DR (CJ AA), DR (CJ AA), IS AA, BX⟩ d0).x (cs := [.slice (some ⟨U, 0, none⟩) n n, ah, .slice a3 r.length L, .int .i64 ↑(nx + X + 1)]) co
   have al : SyAt b4 bc.heap.size (.slice (some ⟨U, 0, none⟩) n n) (q ++ [(nx + X, p)]) r (nx + X + 1) bc := ⟨S2, _, _, E.1, ⟨IsR.nil _ _ _, by rw [← a6]; exact E.2.1.1, by rw [← a6]; exact (e3 E).1, az, fun k h => ⟨(F k h), E.2.1.2 k h⟩⟩, fun k h => E.2.1.2 k h, fun g C => (E.2.1.1.lt C).2, fun g C => ((e3 E).1.lt C).2, Bx.lt E.1, Nat.le_refl _⟩
   obtain ⟨bn, b5⟩ : ∃ z, z = bc.heap.size := ⟨_, rfl⟩
   rw [← b5] at al
   refine yG ?_
   replace E := (E.sz (Nat.le_of_eq b5)).sy al
   exact ⟨_, (by rw [c6]; omega), (i + 1), bn, (nx + X + 1), (q ++ [(nx + X, p)]), r, _, O, O, zE, O, ⟨by omega, by omega, hJ.eq b8 c8⟩⟩
  refine yG ?_
  refine V (v := .int .i64 ↑(i % 3)) O O (DZ O O O AE (JS i 3)) ?_
  obtain ⟨S, ve, vn, hX, hT, bl, a2, a1, _, bh⟩ := e5 E
  refine yG ?_
  replace E := dl5 E
  have ab : ¬ S b4 := fun h => Nat.lt_irrefl _ (hT.set _ h).1
  have T := hT.lt
  have ad := hT.eqs.own
  have ac := hT.neqs.own
  have af := hT.apart
  obtain ⟨_, R, Q, _, ag⟩ := hT
  have J : ∀ k, S k → b4 < k := fun k h => (ag k h).1
  obtain ⟨a4, N, rfl⟩ := R.shp
  obtain ⟨a3, L, rfl⟩ := Q.shp
  obtain ⟨rb, a6⟩ : ∃ n, n = b4 + 1 := ⟨_, rfl⟩
  rw [← a6] at R Q
  have an := hX.lt
  replace E := (((E.sz (show rb ≤ a8.heap.size by omega)).x hX).a R T).a Q T
  obtain ⟨S2, a0⟩ : ∃ f, f = (fun k => S k ∨ DX au.heap.size aw.heap.size k) := ⟨_, rfl⟩
  have ap : Acc NY 83 rb S2 a8 (.slice a4 q.length N) q := by rw [a0]; exact E.2.1.1.mono (fun _ => .inl) (fun g C hs => hs.elim (ad g C) (fun hm => by have := a2 g C; have := hm.1; omega))
  have ao : Acc NY 83 rb S2 a8 (.slice a3 r.length L) r := by rw [a0]; exact E.1.1.mono (fun _ => .inl) (fun g C hs => hs.elim (ac g C) (fun hm => by have := a1 g C; have := hm.1; omega))
  have bm : IsR JP S2 a8 (.slice aa p.length a9) p := by rw [a0]; exact (e5 E).1.mono (fun _ => .inr)
  have I : ¬ S2 b4 := by rw [a0]; exact fun h => h.elim ab (fun hm => by have := hm.1; omega)
  have D : ∀ k, S2 k → k < a8.heap.size := by rw [a0]; exact fun k h => h.elim (fun g => E.2.1.2 k g) (fun hm => (e5 E).2 k hm)
  have F : ∀ k, S2 k → b4 < k := by rw [a0]; exact fun k h => h.elim (fun g => J k g) (fun hm => by have := hm.1; omega)
  have H := ap.own
  have G := ao.own
  replace E := (((((Env.x (GB (Env.x (GB (GB (GB (GB (GB (GB (GB (Env.x (Env.x (GB (GB (Env.ww (Env.nil _) (sG E)) (e16 E)) (Iy E)) (iU E)) (TI E)) (QP E)) (QQ E)) (QM E)) (e9 E)) (e8 E)) (e7 E)) (e6 E)) (e4 E)) (e3 E)) E.2.2.1)).r bm D)).a ap D).a ao D
  refine yG ?_
  refine EF O (DT (cs := [.int .i64 ↑(nx + X), .slice aa p.length a9]) underlying46 OY O AE AE O O ?_)
  intro cd eo bb ef dx cv
  have ch : rb ≤ cd := by rw [bb]; exact CR (e4 E)
  have cg : z ≤ cd := by rw [bb]; exact CR (e9 E)
  replace E := E.below dx
  replace E := E.x cv
  have ar := E.2.1
  have c1 := Acc.nw ar.1
  refine yG ?_
  replace E := XQ E
  have bk := fun g C => (E.2.1.1.lt (g := g) C).2
  refine EF O (QW (x := (nx + X, p)) Tp O (l := r) O ar.1 ar.2 E (fun g C h1 h2 => ⟨CQ (by have := a1 g C; omega), MT (fun h => (fun g h1 h2 => af g h2 h1) g C h) (by first | exact I | exact H _ C | exact G _ C | exact (fun h => by have := D _ h; omega) | exact (fun h => by have := F _ h; omega)), DR (by first | exact I | exact H _ C | exact G _ C | exact (fun h => by have := D _ h; omega) | exact (fun h => by have := F _ h; omega)), CQ (by have := a1 g C; omega), BX, CQ (by have := a1 g C; omega), BX, SI AA, DR (CJ AA), BX, DR (MP (by have := a1 g C; omega)), DR (MP (by have := a1 g C; omega)), BX, CQ (by have := a1 g C; omega), CQ (by have := a1 g C; omega), DR (CJ AA), DR (CJ AA), IS AA, BX⟩) O E.1 (⟨_, O, E.2.2.1.1⟩) (by unfold maxLen; omega) AA (CR (e4 E)) ?_)
  intro ai en ay E
  have b0 : ∀ g, (ai : Value).ownBlock = some g → ((.slice a4 q.length N) : Value).ownBlock = some g → False := fun g h1 h2 => ay g (bk g h2) (fun h3 => (fun g h1 h2 => af g h2 h1) g h3 h2) h1
  have G := E.1.1.own
  have ak : ∀ g, (ai : Value).ownBlock = some g → g ≠ b4 := fun g C => by have := (E.1.1.lt C).1; omega
  have bv := e4 E
  refine yG ?_
  replace E := pC E
  refine yG ?_
  refine EF O (CF (v := ai) O Z (Acc.one E.1.1) O O bv AH ?_)
  intro em d7 cr
  replace E := (E.onl (bv.noW (CL AH (CL (Acc.nw E.2.2.1.1) (CL c1 (CL AH EB))))) ⟨MT (fun h => ak _ h rfl) (by first | exact I | exact H _ C | exact G _ C | exact (fun h => by have := D _ h; omega) | exact (fun h => by have := F _ h; omega)), CQ AA, MT (fun h => by have := (E.2.2.1.1.lt h).1; omega) (by first | exact I | exact H _ C | exact G _ C | exact (fun h => by have := D _ h; omega) | exact (fun h => by have := F _ h; omega)), DR (by first | exact I | exact H _ C | exact G _ C | exact (fun h => by have := D _ h; omega) | exact (fun h => by have := F _ h; omega)), BX, CQ AA, BX, SI AA, DR (CJ AA), BX, DR (MP AA), DR (MP AA), BX, CQ AA, CQ AA, DR (CJ AA), DR (CJ AA), IS AA, BX⟩ d7).x (cs := [.slice (some ⟨U, 0, none⟩) n n, .slice a4 q.length N, ai, .int .i64 ↑nx]) cr
  have bu := E.1
  refine yG ?_
  replace E := WJ E
  refine yG ?_
  refine EF O (CF (v := .int .i64 ↑(nx + X + 1)) O Z O O O bu AH ?_)
  intro bd d6 cq
  replace E := (E.onl (bu.noW (CL AH (CL (Acc.nw E.2.2.1.1) (CL (Acc.nw E.1.1) (CL AH EB))))) ⟨MT (fun h => ak _ h rfl) (by first | exact I | exact H _ C | exact G _ C | exact (fun h => by have := D _ h; omega) | exact (fun h => by have := F _ h; omega)), CQ AA, MT (fun h => by have := (E.2.2.1.1.lt h).1; omega) (by first | exact I | exact H _ C | exact G _ C | exact (fun h => by have := D _ h; omega) | exact (fun h => by have := F _ h; omega)), DR (by first | exact I | exact H _ C | exact G _ C | exact (fun h => by have := D _ h; omega) | exact (fun h => by have := F _ h; omega)), BX, CQ AA, BX, SI AA, DR (CJ AA), BX, DR (MP AA), DR (MP AA), BX, CQ AA, CQ AA, DR (CJ AA), DR (CJ AA), IS AA, BX⟩ d6).x (cs := [.slice (some ⟨U, 0, none⟩) n n, .slice a4 q.length N, ai, .int .i64 ↑(nx + X + 1)]) cq
  have am : SyAt b4 bd.heap.size (.slice (some ⟨U, 0, none⟩) n n) q (r ++ [(nx + X, p)]) (nx + X + 1) bd := ⟨S2, _, _, E.1, ⟨IsR.nil _ _ _, by rw [← a6]; exact (e3 E).1, by rw [← a6]; exact E.2.1.1, (fun g h1 h2 => b0 g h2 h1), fun k h => ⟨(F k h), (e3 E).2 k h⟩⟩, fun k h => (e3 E).2 k h, fun g C => ((e3 E).1.lt C).2, fun g C => (E.2.1.1.lt C).2, Bx.lt E.1, Nat.le_refl _⟩
  obtain ⟨bo, b6⟩ : ∃ z, z = bd.heap.size := ⟨_, rfl⟩
  rw [← b6] at am
  refine yG ?_
  replace E := (E.sz (Nat.le_of_eq b6)).sy am
  exact ⟨_, (by rw [c6]; omega), (i + 1), bo, (nx + X + 1), q, (r ++ [(nx + X, p)]), _, O, O, zE, O, ⟨by omega, by omega, hJ.neq b8 c8⟩⟩
end Go.Proofs.YtmppigbbkjepiaaGreatDoor
