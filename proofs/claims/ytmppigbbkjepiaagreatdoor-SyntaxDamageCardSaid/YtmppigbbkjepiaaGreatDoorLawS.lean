/- Helping facts of KitX; no other conditions. Helping facts of LawS; no other conditions. -/
import Derived.Test.YtmppigbbkjepiaaGreatDoorPrint
import Derived.Test.YtmppigbbkjepiaaGreatDoorRef6
namespace Go.Proofs.YtmppigbbkjepiaaGreatDoor
open Go.Proofs.Tryz
open Go.RowKit W
section
variable {ρ : Operand → Value} {o : Oper} {w : World}
theorem Kd {x y : Operand} {s t : ByteArray} (ho : o.op = .buildSlice 30 2 #[(0, x), (1, y)]) (hx : ρ x = .string s) (hy : ρ y = .string t) :
    (execOp ρ o).run prog w = .ok (.value (.slice (some ⟨w.heap.size, 0, none⟩) 2 2)) (w.alloc (.cells #[.string s, .string t] 9)) := by
  unfold execOp; rw [ho]
  simp [go_sem, Instr.buildSlice, hx, hy]
theorem tC {x y z : Operand} {s t u : ByteArray} (ho : o.op = .buildSlice 30 3 #[(0, x), (1, y), (2, z)]) (hx : ρ x = .string s) (hy : ρ y = .string t) (hz : ρ z = .string u) :
    (execOp ρ o).run prog w = .ok (.value (.slice (some ⟨w.heap.size, 0, none⟩) 3 3)) (w.alloc (.cells #[.string s, .string t, .string u] 9)) := by
  unfold execOp; rw [ho]
  simp [go_sem, Instr.buildSlice, hx, hy, hz]
theorem fZ {x y : Operand} {a b : Nat} (ho : o.op = .build 67 #[(0, x), (1, y)]) (hx : ρ x = .int .i64 ↑a) (hy : ρ y = .int .i64 ↑b) :
    (execOp ρ o).run prog w = .ok (.value (.agg (GP [a, b, 0, 0, 0, 0, 0, 0]).toArray)) w := by
  unfold execOp; rw [ho]
  have e : (zeroValue 67).run prog w = .ok (.agg #[.int .i64 0, .int .i64 0, .int .i64 0, .int .i64 0, .int .i64 0, .int .i64 0, .int .i64 0, .int .i64 0]) w := by kernel_rfl
  simp [go_sem, e, hx, hy, GP]
theorem tK {x y : Operand} {a b : Int} (ho : o.op = .build 79 #[(0, x), (1, y)]) (hx : ρ x = .int .i8 a) (hy : ρ y = .int .i8 b) :
    (execOp ρ o).run prog w = .ok (.value (.agg #[.int .i8 a, .int .i8 b, .int .u8 0])) w := by
  unfold execOp; rw [ho]
  have e : (zeroValue 79).run prog w = .ok (.agg #[.int .i8 0, .int .i8 0, .int .u8 0]) w := by kernel_rfl
  simp [go_sem, e, hx, hy]
theorem tI {x y z u : Operand} {ao bo co : Option Addr} {k c k' c' k'' c'' : Nat} {n : Int} (ho : o.op = .build 48 #[(0, x), (1, y), (2, z), (3, u)]) (hx : ρ x = .slice ao k c) (hy : ρ y = .slice bo k' c') (hz : ρ z = .slice co k'' c'') (hu : ρ u = .int .i64 n) :
    (execOp ρ o).run prog w = .ok (.value (.agg #[.slice ao k c, .slice bo k' c', .slice co k'' c'', .int .i64 n])) w := by
  unfold execOp; rw [ho]
  simp [go_sem, hx, hy, hz, hu]
end
section
variable {o : Oper} {a : Act} {w : World} {K : Act → World → Prop} {Q : Exit → Act → World → Prop}
theorem dP {x y : Operand} {s t : Bs} (ho : o.op = .buildSlice 30 2 #[(0, x), (1, y)]) (hx : a.eval x = .string (bs s)) (hy : a.eval y = .string (bs t))
    (h : ∀ b w', b = w.heap.size → w'.heap.size = w.heap.size + 1 → Below w.heap.size w w' → Bx w' b 9 [.string (bs s), .string (bs t)] → K (a.put o.dst (.slice (some ⟨b, 0, none⟩) 2 2)) w') : o.wp prog a w K Q :=
  DI (Kd ho hx hy) (h _ _ rfl AH ((Below.refl _ _).alloc (Nat.le_refl _) _) (HO w _ [.string (bs s), .string (bs t)]))
theorem OU {x y z : Operand} {s t u : Bs} (ho : o.op = .buildSlice 30 3 #[(0, x), (1, y), (2, z)]) (hx : a.eval x = .string (bs s)) (hy : a.eval y = .string (bs t)) (hz : a.eval z = .string (bs u))
    (h : ∀ b w', b = w.heap.size → w'.heap.size = w.heap.size + 1 → Below w.heap.size w w' → Bx w' b 9 [.string (bs s), .string (bs t), .string (bs u)] → K (a.put o.dst (.slice (some ⟨b, 0, none⟩) 3 3)) w') : o.wp prog a w K Q :=
  DI (tC ho hx hy hz) (h _ _ rfl AH ((Below.refl _ _).alloc (Nat.le_refl _) _) (HO w _ [.string (bs s), .string (bs t), .string (bs u)]))
end
theorem ME {P : Program} {f : Nat} {o : Oper} {a : Act} {w : World} {K : Act → World → Prop} {Q : Exit → Act → World → Prop} {args : List Operand} {tys : Array TypeId} {vs : List Value} {L : List SF} {r : Ps} (hf : Fn P f)
    (ho : o.op = .call { callee := .value (.func f), args := args.toArray, argTypes := tys }) (hc : Calls P f vs.toArray w (Oo w r)) (hv : args.map a.eval = vs) (E : Env w L)
    (h : ∀ w' aov lv cv aoe le ce aon ln cn, Below w.heap.size w w' → lv = r.1.vars.length → le = r.1.eqs.length → ln = r.1.neqs.length →
      Env w' (fR elS (DX w.heap.size w'.heap.size) (.slice aov lv cv) r.1.vars :: fR NY (DX w.heap.size w'.heap.size) (.slice aoe le ce) r.1.eqs :: fR NY (DX w.heap.size w'.heap.size) (.slice aon ln cn) r.1.neqs :: L) →
      K (a.put o.dst (.tuple #[.agg #[.slice aov lv cv, .slice aoe le ce, .slice aon ln cn, .int .i64 ↑r.1.next], .int .i64 ↑r.2.1, .int .i64 ↑r.2.2])) w') : o.wp P a w K Q := by
  refine DB hf ho hc hv ?_
  rintro e w' ⟨_, rfl, ⟨t, v, u, rfl, q, p, l⟩, k⟩
  obtain ⟨aov, cv, rfl, _⟩ := q.shp
  obtain ⟨aoe, ce, rfl, _⟩ := p.shp
  obtain ⟨aon, cn, rfl, _⟩ := l.shp
  exact ⟨_, rfl, h w' _ _ _ _ _ _ _ _ _ k rfl rfl rfl ((((E.below k).r l (fun _ g => g.2)).r p (fun _ g => g.2)).r q (fun _ g => g.2))⟩
end Go.Proofs.YtmppigbbkjepiaaGreatDoor
set_option maxHeartbeats 8000000
set_option maxRecDepth 100000
namespace Go.Proofs.YtmppigbbkjepiaaGreatDoor
open Go.Proofs.Tryz
open Go.RowKit W
def xyB : List Bs := [[120], [121]]
def fT (c : Int) (a b : Nat) : List Tm := KD ((c : Int) : Rat) [a, b, 0, 0, 0, 0, 0, 0] (MR ((1 : Int) : Rat))
def ZH (t : Bs) (n : Nat) : Bool := decide ((FC xyB t).1.length = 0) && (decide ((FC xyB t).2.1 = n) && decide ((FC xyB t).2.2 = 440))
theorem iG {t : Bs} {n : Nat} {p : List Tm} {k e : Nat} {b : Bool} (h : FC xyB t = (p, k, e)) (hb : b = (decide (p.length = 0) && (decide (k = n) && decide (e = 440)))) : Ending.returned (.bool b) = .returned (.bool (ZH t n)) := by
  unfold ZH; rw [h, hb]
theorem qO {a b : Nat} (ha : a ≤ 65535) (hb : b ≤ 65535) : EK [a, b, 0, 0, 0, 0, 0, 0] := by
  refine ⟨O, fun e f => ?_⟩
  simp only [List.mem_cons, List.not_mem_nil, or_false] at f
  omega
theorem nM {m : List Nat} (hm : EK m) (c : Rat) : ∀ t ∈ MR c, lT m t.2 := by
  intro t e
  unfold MR at e
  split at e
  · cases e
  · simp at e; subst e
    intro i
    have := sW hm i
    show me m i + me zeroM i ≤ 65535; omega
theorem oT {c : Rat} {n : Nat} (h : FitQ c n) : ∀ t ∈ MR c, FitQ t.1 n := by
  intro t e
  unfold MR at e
  split at e
  · cases e
  · simp at e; subst e; exact h
theorem lM (c : Rat) : (MR c).length ≤ 1 := by unfold MR; split <;> simp
theorem qH : FitQ ((1 : Int) : Rat) 4 := OX (k := 4) AE (EV AE AE)
def xD (p : List Tm) : Bool := p.all fun t => decide (t.1.num.natAbs < 1000) && decide (t.1.den < 1000)
theorem LA {p : List Tm} (h : xD p = true) {n : Nat} (hn : 4 ≤ n) : ∀ t ∈ p, FitQ t.1 n := by
  intro t e
  unfold xD at h
  have := List.all_eq_true.1 h t e
  simp only [Bool.and_eq_true, decide_eq_true_eq] at this
  exact FitQ.mono ⟨EV AA AA, EV AA AA⟩ hn
theorem Mp : FitQ (IU 1 2 0) 20 := ⟨(EV AK AK).mono AE, (EV AK AK).mono AE⟩
def eH : List Tm := [(mkRat 1 2, [1, 3, 0, 0, 0, 0, 0, 0])]
def eA : List Tm := [(-1, [2, 0, 0, 0, 0, 0, 0, 0])]
def eB : List Tm := [(-1, [2, 0, 0, 0, 0, 0, 0, 0]), (mkRat 1 2, [1, 3, 0, 0, 0, 0, 0, 0])]
def eC : List Tm := [(-1, [0, 1, 0, 0, 0, 0, 0, 0])]
def eD : List Tm := [(3, [0, 0, 0, 0, 0, 0, 0, 0])]
def eE : List Tm := [(-1, [0, 1, 0, 0, 0, 0, 0, 0]), (3, [0, 0, 0, 0, 0, 0, 0, 0])]
def Ix : List Tm := [(-1, [2, 0, 0, 0, 0, 0, 0, 0]), (mkRat 1 2, [1, 3, 0, 0, 0, 0, 0, 0]), (-1, [0, 1, 0, 0, 0, 0, 0, 0]), (3, [0, 0, 0, 0, 0, 0, 0, 0])]
def eF : List Tm := [(1, [2, 0, 0, 0, 0, 0, 0, 0])]
def eG : List Tm := [(1, [0, 1, 0, 0, 0, 0, 0, 0])]
def eI : List Tm := [(1, [2, 0, 0, 0, 0, 0, 0, 0]), (-1, [0, 1, 0, 0, 0, 0, 0, 0])]
def eJ : List Tm := [(1, [1, 0, 0, 0, 0, 0, 0, 0])]
def exT : Bs := [45, 120, 94, 50, 32, 43, 32, 49, 47, 50, 42, 120, 42, 121, 94, 51, 32, 45, 32, 121, 32, 43, 32, 51]
def exS : Bs := [118, 97, 114, 115, 32, 120, 32, 121, 10, 49, 58, 32, 120, 94, 50, 32, 45, 32, 121, 32, 61, 32, 48, 10, 51, 58, 32, 120, 32, 33, 61, 32, 48, 10, 110, 101, 120, 116, 32, 52, 10]
theorem eH_is : KD (IU 1 2 0) [1, 3, 0, 0, 0, 0, 0, 0] (MR ((1 : Int) : Rat)) = eH := by decide +kernel
theorem eA_is : fT (-1) 2 0 = eA := by decide +kernel
theorem eB_is : LD eA eH = eB := by decide +kernel
theorem eC_is : fT (-1) 0 1 = eC := by decide +kernel
theorem eD_is : fT 3 0 0 = eD := by decide +kernel
theorem eE_is : LD eC eD = eE := by decide +kernel
theorem Wq : LD eB eE = Ix := by decide +kernel
theorem eF_is : fT 1 2 0 = eF := by decide +kernel
theorem eG_is : fT 1 0 1 = eG := by decide +kernel
theorem eI_is : Ux eF eG = eI := by decide +kernel
theorem eJ_is : fT 1 1 0 = eJ := by decide +kernel
theorem Wn : RO xyB Ix = (exT, 0) := by decide +kernel
theorem Nd : FC xyB exT = (Ix, 0, 0) := by decide +kernel
theorem Wm : RO xyB [] = ([48], 0) := by decide +kernel
theorem Wo : RN ⟨xyB, [(1, eI)], [(3, eJ)], 4⟩ = (exS, 0) := by decide +kernel
theorem Vy : (FZ [110, 101, 120, 116, 32, 49, 10]).2 = (1, 440) := by decide +kernel
theorem Vx : (FZ [118, 97, 114, 115, 32, 120, 10]).2 = (2, 440) := by decide +kernel
theorem Wp : EJ Ix := (SZ Nd).2.2.2.1
theorem Ub {p : List Tm} {t : Bs} (h : FC xyB t = (p, 0, 0)) : EJ p := (SZ h).2.2.2.1
theorem eI_ok : EJ eI := Ub (t := [120, 94, 50, 32, 45, 32, 121]) AK
theorem eJ_ok : EJ eJ := Ub (t := [120]) AK
theorem Wf : EJ [] := ⟨fun t ht => (by cases ht), dU⟩
theorem Ua {n : Nat} {p : List Tm} (h : EJ p) (hs : xD p = true) (hl : p.length ≤ 1000000) : SE [(n, p)] := by
  intro e f
  simp only [List.mem_cons, List.not_mem_nil, or_false] at f
  subst f; exact ⟨h, LA hs AE, hl⟩
theorem dY (c : Int) (a : Nat) (b : Nat) (w : World) (h1 : -9223372036854775808 ≤ c) (h2 : c ≤ 9223372036854775807) (ha : a ≤ 65535) (hb : b ≤ 65535) :
    Calls prog 31 #[.int .i64 c, .int .i64 ↑a, .int .i64 ↑b] w (vV w (fT c a b)) := by
 have E := Env.start w
 go_enter func31, ntmps31
 refine yG ?_
 refine EF O (CV JA O (UP c _ h1 h2) O E ?_)
 intro F R P U L d2 E
 have D : FitQ ((c : Int) : Rat) 4 := OX (k := 4) AE (EV h1 h2)
 refine yG ?_
 refine V (v := .agg (GP ([a, b, 0, 0, 0, 0, 0, 0])).toArray) O O (fZ (a := a) (b := b) O O O) ?_
 refine yG ?_
 refine EF O (CV JA O (UP 1 _ AE AE) O E ?_)
 intro u Q N T J d4 E
 refine yG ?_
 refine EF O (CW RT O (vY _ _ _ _ ((1 : Int) : Rat) _ E.2.1 E.1) O E ?_)
 intro f H Y t E
 replace E := E.sz (Nat.le_refl f.heap.size)
 obtain ⟨C, z, rfl, q, _⟩ := t.shp
 replace E := E.r (e := JP) (S := DX u.heap.size f.heap.size) t (fun _ g => g.2)
 have o : w.heap.size ≤ f.heap.size := (e6 E).size
 refine yG ?_
 refine EF O (CW QK O (lX _ _ _ _ ((c : Int) : Rat) ([a, b, 0, 0, 0, 0, 0, 0]) _ (MR ((1 : Int) : Rat)) _ (e5 E) (e4 E) (qO ha hb) (BW E.1) (FitQ.mono D AE) (oT (FitQ.mono qH AE)) (nM (qO ha hb) _) (Nat.le_trans (lM _) AE)) O E ?_)
 intro l G X h E
 replace E := E.sz (Nat.le_refl l.heap.size)
 obtain ⟨I, rfl, h⟩ := h
 obtain ⟨B, y, rfl, p, _⟩ := h.shp
 replace E := E.r (e := JP) (S := DX f.heap.size l.heap.size) h (fun _ g => g.2)
 refine yG ?_
 exact ⟨_, rfl, (by rw [show fT c a b = KD ((c : Int) : Rat) [a, b, 0, 0, 0, 0, 0, 0] (MR ((1 : Int) : Rat)) from rfl]; exact NewP.up E.1 AA), e8 E⟩
theorem UW (t : Bs) (n : Nat) (w : World) (ht : t.length ≤ 1000000) (hG : Glob w) :
    Calls prog 32 #[.string (bs t), .int .i64 ↑n] w (NP w (ZH t n)) := by
 have E := Env.start w
 replace E := E.gl hG
 go_enter func32, ntmps32
 obtain ⟨p, pos, F, f⟩ : ∃ a b c, FC xyB t = (a, b, c) := ⟨_, _, _, rfl⟩
 refine yG ?_
 refine EF O (dP (s := [120]) (t := [121]) O O O ?_)
 intro L o B N J G
 have y : IsR elS (DX w.heap.size o.heap.size) o (.slice (some ⟨L, 0, none⟩) xyB.length 2) xyB := NA (l := xyB) G ⟨Nat.le_of_eq B.symm, by omega⟩ AE
 replace E := ((E.below J).sz (Nat.le_refl o.heap.size)).r y (fun _ g => g.2)
 refine yG ?_
 refine EF O (IQ (r := (p, pos, F)) II O (by have u := aT t _ xyB o (BW E.1) AE ht E.2.2.1.1; rw [f] at u; exact u) O E ?_)
 intro v P Q D E
 replace E := E.sz (Nat.le_refl v.heap.size)
 have z := D
 obtain ⟨I, H, rfl, C, _⟩ := D.shp
 skip
 replace E := E.r (e := JP) (S := DX o.heap.size v.heap.size) (show IsR JP (DX o.heap.size v.heap.size) v _ p from z) (fun _ g => g.2)
 by_cases h : p.length = 0
 case neg =>
  refine yG ?_
  exact ⟨iG f (by rw [decide_eq_false h]; simp), e5 E⟩
 by_cases k : pos = n
 case neg =>
  refine yG ?_
  exact ⟨iG f (by simp [h, k]), e5 E⟩
 by_cases q : F = 440
 case pos =>
  refine yG ?_
  exact ⟨iG f (by simp [h, k, q]), e5 E⟩
 refine yG ?_
 exact ⟨iG f (by simp [h, k, q]), e5 E⟩
theorem aN (w : World) (hG : Glob w) :
    Calls prog 10 #[] w (NP w true) := by
 have E := Env.start w
 have fs := hG.two
 replace E := E.gl hG
 go_enter func10, ntmps10
 refine yG ?_
 refine V (v := .agg #[.int .i8 1, .int .i8 2, .int .u8 0]) O O (tK O O O) ?_
 refine yG ?_
 refine EF O (CV lH O (Xs 1 2 0 w AE AE AE AE AE) O E ?_)
 intro w2 n2 s2 m2 t2 d2 E
 have F1 : FitQ (IU 1 2 0) 20 := Mp
 refine yG ?_
 refine V (v := .agg (GP ([1, 3, 0, 0, 0, 0, 0, 0])).toArray) O O (fZ (a := 1) (b := 3) O O O) ?_
 refine yG ?_
 refine EF O (CV JA O (UP 1 _ AE AE) O E ?_)
 intro w4 n4 s4 m4 t4 d4 E
 refine yG ?_
 refine EF O (CW RT O (vY _ _ _ _ ((1 : Int) : Rat) _ E.2.1 E.1) O E ?_)
 intro w5 v5 d5 f5 E
 replace E := E.sz (Nat.le_refl w5.heap.size)
 obtain ⟨fr, fm, rfl, ed, _⟩ := f5.shp
 replace E := E.r (e := JP) (S := DX w4.heap.size w5.heap.size) f5 (fun _ g => g.2)
 refine yG ?_
 refine EF O (CW QK O ((by have f := lX _ _ _ _ (IU 1 2 0) ([1, 3, 0, 0, 0, 0, 0, 0]) _ (MR ((1 : Int) : Rat)) _ (e5 E) (e4 E) (qO AE AE) (BW E.1) (FitQ.mono F1 AE) (oT (FitQ.mono qH AE)) (nM (qO AE AE) _) (Nat.le_trans (lM _) AE); rw [eH_is] at f; exact f)) O E ?_)
 intro w6 v6 d6 f6 E
 replace E := E.sz (Nat.le_refl w6.heap.size)
 obtain ⟨u6, rfl, f6⟩ := f6
 obtain ⟨fq, fl, rfl, ec, _⟩ := f6.shp
 replace E := E.r (e := JP) (S := DX w5.heap.size w6.heap.size) f6 (fun _ g => g.2)
 refine yG ?_
 refine EF O (CW JX O ((by have f := dY (-1) 2 0 w6 AE AE AE AE; rw [eA_is] at f; exact f)) O E ?_)
 intro Y v7 d7 f7 E
 replace E := E.sz (Nat.le_refl Y.heap.size)
 obtain ⟨fp, fk, rfl, eb, _⟩ := f7.shp
 replace E := E.r (e := JP) (S := DX w6.heap.size Y.heap.size) f7 (fun _ g => g.2)
 refine yG ?_
 refine EF O (CW MY O ((by have f := dM _ eA _ eH Y (BW E.1) (BW E.2.2.1) (LA (p := eA) AK AE) (LA (p := eH) AK AE) AE AE; rw [eB_is] at f; exact f)) O E ?_)
 intro X v8 d8 f8 E
 replace E := E.sz (Nat.le_refl X.heap.size)
 obtain ⟨fo, fj, rfl, ea, _⟩ := f8.shp
 replace E := E.r (e := JP) (S := DX Y.heap.size X.heap.size) f8 (fun _ g => g.2)
 refine yG ?_
 refine EF O (CW JX O ((by have f := dY (-1) 0 1 X AE AE AE AE; rw [eC_is] at f; exact f)) O E ?_)
 intro U v9 d9 f9 E
 replace E := E.sz (Nat.le_refl U.heap.size)
 obtain ⟨fn, fi, rfl, dz, _⟩ := f9.shp
 replace E := E.r (e := JP) (S := DX X.heap.size U.heap.size) f9 (fun _ g => g.2)
 refine yG ?_
 refine EF O (CW JX O ((by have f := dY 3 0 0 U AE AE AE AE; rw [eD_is] at f; exact f)) O E ?_)
 intro G fh gb b6 E
 replace E := E.sz (Nat.le_refl G.heap.size)
 obtain ⟨dy, dr, rfl, db, _⟩ := b6.shp
 replace E := E.r (e := JP) (S := DX U.heap.size G.heap.size) b6 (fun _ g => g.2)
 refine yG ?_
 refine EF O (CW MY O ((by have f := dM _ eC _ eD G (BW E.2.2.1) (BW E.1) (LA (p := eC) AK AE) (LA (p := eD) AK AE) AE AE; rw [eE_is] at f; exact f)) O E ?_)
 intro F fg ga b5 E
 replace E := E.sz (Nat.le_refl F.heap.size)
 obtain ⟨dx, dq, rfl, da, _⟩ := b5.shp
 replace E := E.r (e := JP) (S := DX G.heap.size F.heap.size) b5 (fun _ g => g.2)
 refine yG ?_
 refine EF O (CW MY O ((by have f := dM _ eB _ eE F (BW (e6 E)) (BW E.1) (LA (p := eB) AK AE) (LA (p := eE) AK AE) AE AE; rw [Wq] at f; exact f)) O E ?_)
 intro a1 ff g9 b4 E
 replace E := E.sz (Nat.le_refl a1.heap.size)
 obtain ⟨dw, dp, rfl, d3, _⟩ := b4.shp
 replace E := E.r (e := JP) (S := DX F.heap.size a1.heap.size) b4 (fun _ g => g.2)
 refine yG ?_
 refine EF O (dP (s := [120]) (t := [121]) O O O ?_)
 intro a2 D b8 em dk cm
 have aq : IsR elS (DX a1.heap.size D.heap.size) D (.slice (some ⟨a2, 0, none⟩) xyB.length 2) xyB := NA (l := xyB) cm ⟨Nat.le_of_eq b8.symm, by omega⟩ AE
 replace E := ((E.below dk).sz (Nat.le_refl D.heap.size)).r aq (fun _ g => g.2)
 refine yG ?_
 refine EF O (BZ EH O ((by have f := PK _ Ix _ xyB D (BW E.2.2.1) (BW E.1) Wp (LA (p := Ix) AK AE) AE AE (Xv E).1; rw [Wn] at f; exact f)) O E ?_)
 intro J g8 E
 have cw : w.heap.size ≤ J.heap.size := (Cv E).size
 refine yG ?_
 refine EF O (IQ (r := (Ix, 0, 0)) II O (by have f := aT exT _ xyB J (BW E.1) AE AE (Xv E).1; rw [Nd] at f; exact f) O E ?_)
 intro z fe dj b3 E
 have el := dj.size
 replace E := E.sz (Nat.le_refl z.heap.size)
 have aw := b3
 obtain ⟨dv, dn, rfl, d1, _⟩ := b3.shp
 skip
 replace E := E.r (e := JP) (S := DX J.heap.size z.heap.size) (show IsR JP (DX J.heap.size z.heap.size) z _ Ix from aw) (fun _ g => g.2)
 refine yG ?_
 refine EF O (BZ EH O ((by have f := PK (.slice none 0 0) [] _ xyB z (IsR.nil _ _ _) (BW E.2.2.1) Wf (fun t ht => by cases ht) AE AE (Nj E).1; rw [Wm] at f; exact f)) O E ?_)
 intro f4 g7 E
 refine yG ?_
 refine V Z O (GR (a := exT) (b := [45, 120, 94, 50, 32, 43, 32, 49, 47, 50, 42, 120, 42, 121, 94, 51, 32, 45, 32, 121, 32, 43, 32, 51]) (c := false) O O O AE) ?_
 refine yG ?_
 refine V Z O (GR (a := [48]) (b := [48]) (c := false) O O O AE) ?_
 refine yG ?_
 refine EF O (CA GU O (CU (show decide (Ix = Ix) = true by simp) (TL _ Ix _ Ix _ (BW (e4 E)) (BW E.1) AE)) O E ?_)
 intro f3 g6 E
 refine yG ?_
 refine EF O (CA HI O (CU (show ZH ([120, 32, 43, 32, 120, 94, 50]) 4 = true by decide +kernel) (UW ([120, 32, 43, 32, 120, 94, 50]) 4 _ AE (Nj E).1)) O E ?_)
 intro f2 g5 E
 refine yG ?_
 refine EF O (CA HI O (CU (show ZH ([120, 32, 43]) 4 = true by decide +kernel) (UW ([120, 32, 43]) 4 _ AE (Nj E).1)) O E ?_)
 intro f1 g4 E
 refine yG ?_
 refine EF O (CA HI O (CU (show ZH ([50, 42, 120, 32, 45, 32]) 6 = true by decide +kernel) (UW ([50, 42, 120, 32, 45, 32]) 6 _ AE (Nj E).1)) O E ?_)
 intro f0 g3 E
 refine yG ?_
 refine EF O (CA HI O (CU (show ZH ([49, 42, 120]) 0 = true by decide +kernel) (UW ([49, 42, 120]) 0 _ AE (Nj E).1)) O E ?_)
 intro ez g2 E
 refine yG ?_
 refine EF O (CA HI O (CU (show ZH ([121, 42, 120]) 0 = true by decide +kernel) (UW ([121, 42, 120]) 0 _ AE (Nj E).1)) O E ?_)
 intro ey g1 E
 refine yG ?_
 refine EF O (CA HI O (CU (show ZH ([120, 32, 32, 43, 32, 49]) 2 = true by decide +kernel) (UW ([120, 32, 32, 43, 32, 49]) 2 _ AE (Nj E).1)) O E ?_)
 intro ex g0 E
 refine yG ?_
 refine EF O (CA HI O (CU (show ZH ([45, 48]) 0 = true by decide +kernel) (UW ([45, 48]) 0 _ AE (Nj E).1)) O E ?_)
 intro a7 fz E
 refine yG ?_
 refine EF O (CW JX O ((by have f := dY 1 2 0 a7 AE AE AE AE; rw [eF_is] at f; exact f)) O E ?_)
 intro C fd fy b2 E
 replace E := E.sz (Nat.le_refl C.heap.size)
 obtain ⟨du, dm, rfl, d0, _⟩ := b2.shp
 replace E := E.r (e := JP) (S := DX a7.heap.size C.heap.size) b2 (fun _ g => g.2)
 refine yG ?_
 refine EF O (CW JX O ((by have f := dY 1 0 1 C AE AE AE AE; rw [eG_is] at f; exact f)) O E ?_)
 intro B fc fx b1 E
 replace E := E.sz (Nat.le_refl B.heap.size)
 obtain ⟨dt, dl, rfl, cz, _⟩ := b1.shp
 replace E := E.r (e := JP) (S := DX C.heap.size B.heap.size) b1 (fun _ g => g.2)
 refine yG ?_
 refine EF O (CW mL O ((by have f := Tq _ eF _ eG B (BW E.2.2.1) (BW E.1) (LA (p := eF) AK AE) (LA (p := eG) AK AE) AE AE; rw [eI_is] at f; exact f)) O E ?_)
 intro I fb fw b0 E
 replace E := E.sz (Nat.le_refl I.heap.size)
 obtain ⟨T, Q, rfl, cy, _⟩ := b0.shp
 replace E := E.r (e := JP) (S := DX B.heap.size I.heap.size) b0 (fun _ g => g.2)
 refine yG ?_
 refine V (v := .agg #[.int .i64 1, .slice T eI.length Q]) O O (RK O O O) ?_
 refine yG ?_
 refine EF O (DT (cs := [.int .i64 1, .slice T eI.length Q]) underlying46 OY O AE AE O O ?_)
 intro N a0 ee ek di ck
 replace E := E.below di
 replace E := E.x ck
 have ar : N < a0.heap.size := Bx.lt E.1
 refine yG ?_
 refine EF O (CW JX O ((by have f := dY 1 1 0 a0 AE AE AE AE; rw [eJ_is] at f; exact f)) O E ?_)
 intro H fa dh az E
 have ej := dh.size
 replace E := E.sz (Nat.le_refl H.heap.size)
 obtain ⟨R, P, rfl, cx, _⟩ := az.shp
 replace E := E.r (e := JP) (S := DX a0.heap.size H.heap.size) az (fun _ g => g.2)
 refine yG ?_
 refine V (v := .agg #[.int .i64 3, .slice R eJ.length P]) O O (RK O O O) ?_
 refine yG ?_
 refine EF O (DT (cs := [.int .i64 3, .slice R eJ.length P]) underlying46 OY O AE AE O O ?_)
 intro L ew b7 ei dg cj
 have cv : N < L := by rw [b7]; exact Bx.lt E.2.2.1
 replace E := E.below dg
 replace E := E.x cj
 refine yG ?_
 refine V (v := .agg #[.slice (some ⟨a2, 0, none⟩) xyB.length 2, .slice (some ⟨N, 0, none⟩) 1 1, .slice (some ⟨L, 0, none⟩) 1 1, .int .i64 4]) O O (tI O O O O O) ?_
 refine yG ?_
 refine EF O (CB LK O ?_)
 intro u ev o eh de a6
 have cu : L < u := by rw [o]; exact Bx.lt E.1
 have cf : H.heap.size ≤ u := by rw [o]; exact CR E.2.2.1
 have ce : I.heap.size ≤ u := by rw [o]; exact CR (e5 E)
 have cd : B.heap.size ≤ u := by rw [o]; exact CR (e7 E)
 have cc : C.heap.size ≤ u := by rw [o]; exact CR (e9 E)
 have cb : z.heap.size ≤ u := by rw [o]; exact CR (QQ E)
 have ca : D.heap.size ≤ u := by rw [o]; exact CR (TI E)
 have c9 : F.heap.size ≤ u := by rw [o]; exact CR (sG E)
 have c8 : G.heap.size ≤ u := by rw [o]; exact CR (e19 E)
 have c7 : U.heap.size ≤ u := by rw [o]; exact CR (e21 E)
 have ap : X.heap.size ≤ u := by rw [o]; exact CR (Cv E)
 have ao : Y.heap.size ≤ u := by rw [o]; exact CR (e25 E)
 have an : w6.heap.size ≤ u := by rw [o]; exact CR (e27 E)
 have am : w5.heap.size ≤ u := by rw [o]; exact CR (e29 E)
 replace E := E.below de
 refine yG ?_
 refine EF O (BY LK O O O a6 O O (CG O (CG O (CG O (CG O ED)))) ?_)
 intro cn cq ci
 replace E := oY E a6 cq ci (ds := [.slice (some ⟨a2, 0, none⟩) xyB.length 2, .slice (some ⟨N, 0, none⟩) 1 1, .slice (some ⟨L, 0, none⟩) 1 1, .int .i64 4])
 refine yG ?_
 refine EF O (BZ QG O ((by have f := lY _ xyB _ [(1, eI)] _ [(3, eJ)] 4 cn (BW (TI E)) (dR (e4 E) (Bx.lt (e4 E)) ⟨_, O, (BW (e5 E))⟩) (dR E.2.1 (Bx.lt E.2.1) ⟨_, O, (BW E.2.2.1)⟩) (Ua eI_ok AK AE) (Ua eJ_ok AK AE) AE E.2.2.2.2.2.2.2.2.2.2.2.2.2.2.2.2.2.2.2.2.2.2.2.2.2.2.2.2.2.2.2.2.2.2.2.1.1; rw [Wo] at f; exact f)) O E ?_)
 intro eu fv E
 refine yG ?_
 refine EF O (ME KR O (YC ([110, 101, 120, 116, 32, 49, 10]) _ E.2.2.2.2.2.2.2.2.2.2.2.2.2.2.2.2.2.2.2.2.2.2.2.2.2.2.2.2.2.2.2.2.2.2.2.1.1) O E ?_)
 intro et bh a9 ba bl ad bf bj ab bc fu _ _ _ E
 replace E := E.2.2.2
 skip
 obtain ⟨av, ay⟩ : (FZ ([110, 101, 120, 116, 32, 49, 10])).2.1 = 1 ∧ (FZ ([110, 101, 120, 116, 32, 49, 10])).2.2 = 440 := by rw [Vy]; exact ⟨rfl, rfl⟩
 rw [av, ay]
 refine yG ?_
 refine EF O (CB LK O ?_)
 intro q es k eg dd a4
 have ct : u < q := by rw [k]; exact Bx.lt E.1
 have c6 : H.heap.size ≤ q := by rw [k]; exact CR (e3 E)
 have c5 : I.heap.size ≤ q := by rw [k]; exact CR (e6 E)
 have c4 : B.heap.size ≤ q := by rw [k]; exact CR (e8 E)
 have c3 : C.heap.size ≤ q := by rw [k]; exact CR (QM E)
 have c2 : z.heap.size ≤ q := by rw [k]; exact CR (QP E)
 have c1 : D.heap.size ≤ q := by rw [k]; exact CR (iU E)
 have c0 : F.heap.size ≤ q := by rw [k]; exact CR (e18 E)
 have bx : G.heap.size ≤ q := by rw [k]; exact CR (e20 E)
 have bw : U.heap.size ≤ q := by rw [k]; exact CR (Xv E)
 have al : X.heap.size ≤ q := by rw [k]; exact CR (Nj E)
 have ak : Y.heap.size ≤ q := by rw [k]; exact CR (e26 E)
 have aj : w6.heap.size ≤ q := by rw [k]; exact CR (e28 E)
 have ai : w5.heap.size ≤ q := by rw [k]; exact CR E.2.2.2.2.2.2.2.2.2.2.2.2.2.2.2.2.2.2.2.2.2.2.2.2.2.2.2.2.2.2.1
 replace E := E.below dd
 refine yG ?_
 refine EF O (BY LK O O O a4 O O (CG O (CG O (CG O (CG O ED)))) ?_)
 intro er cp ch
 replace E := oY E a4 cp ch (ds := [.slice bh a9 ba, .slice bl ad bf, .slice bj ab bc, .int .i64 ↑((FZ ([110, 101, 120, 116, 32, 49, 10])).1.next)])
 refine yG ?_
 refine EF O (ME KR O (YC ([118, 97, 114, 115, 32, 120, 10]) _ E.2.2.2.2.2.2.2.2.2.2.2.2.2.2.2.2.2.2.2.2.2.2.2.2.2.2.2.2.2.2.2.2.2.2.2.2.1.1) O E ?_)
 intro ep bg a8 b9 bk ac bd bi aa bb ft _ _ _ E
 replace E := E.2.2.2
 skip
 obtain ⟨au, ax⟩ : (FZ ([118, 97, 114, 115, 32, 120, 10])).2.1 = 2 ∧ (FZ ([118, 97, 114, 115, 32, 120, 10])).2.2 = 440 := by rw [Vx]; exact ⟨rfl, rfl⟩
 rw [au, ax]
 refine yG ?_
 refine EF O (CB LK O ?_)
 intro y eo h ef dc a3
 have cr : q < y := by rw [h]; exact Bx.lt E.1
 have bv : H.heap.size ≤ y := by rw [h]; exact CR (e4 E)
 have bu : I.heap.size ≤ y := by rw [h]; exact CR (e7 E)
 have bt : B.heap.size ≤ y := by rw [h]; exact CR (e9 E)
 have br : C.heap.size ≤ y := by rw [h]; exact CR (QQ E)
 have bq : z.heap.size ≤ y := by rw [h]; exact CR (TI E)
 have bp : D.heap.size ≤ y := by rw [h]; exact CR (Iy E)
 have bo : F.heap.size ≤ y := by rw [h]; exact CR (e19 E)
 have bn : G.heap.size ≤ y := by rw [h]; exact CR (e21 E)
 have bm : U.heap.size ≤ y := by rw [h]; exact CR (Cv E)
 have ah : X.heap.size ≤ y := by rw [h]; exact CR (e25 E)
 have ag : Y.heap.size ≤ y := by rw [h]; exact CR (e27 E)
 have af : w6.heap.size ≤ y := by rw [h]; exact CR (e29 E)
 have ae : w5.heap.size ≤ y := by rw [h]; exact CR E.2.2.2.2.2.2.2.2.2.2.2.2.2.2.2.2.2.2.2.2.2.2.2.2.2.2.2.2.2.2.2.1
 replace E := E.below dc
 refine yG ?_
 refine EF O (BY LK O O O a3 O O (CG O (CG O (CG O (CG O ED)))) ?_)
 intro en co cg
 replace E := oY E a3 co cg (ds := [.slice bg a8 b9, .slice bk ac bd, .slice bi aa bb, .int .i64 ↑((FZ ([118, 97, 114, 115, 32, 120, 10])).1.next)])
 refine yG ?_
 refine V Z O (MU (a := exS) (b := [118, 97, 114, 115, 32, 120, 32, 121, 10, 49, 58, 32, 120, 94, 50, 32, 45, 32, 121, 32, 61, 32, 48, 10, 51, 58, 32, 120, 32, 33, 61, 32, 48, 10, 110, 101, 120, 116, 32, 52, 10]) (c := true) O O O AE) ?_
 refine yG ?_
 exact ⟨rfl, E.2.2.2.2.2.2.2.2.2.2.2.2.2.2.2.2.2.2.2.2.2.2.2.2.2.2.2.2.2.2.2.2.2.2.2.2.2.2.1⟩
end Go.Proofs.YtmppigbbkjepiaaGreatDoor
