/- Rules for what the laws of chapter 44 build: literals of names, monomials, systems. The helpers of chapter 44's laws: term, stops, examples. (Printed by g_lawS.py.) -/
import Derived.Test.YtmppigbbkjepiaaGreatDoorPrint
import Derived.Test.YtmppigbbkjepiaaGreatDoorRef6
namespace Go.Proofs.YtmppigbbkjepiaaGreatDoor
open Go.Proofs.Tryz
open Go.RowKit W
section
variable {ρ : Operand → Value} {o : Oper} {w : World}
theorem Fm {x y : Operand} {s t : ByteArray} (ho : o.op = .buildSlice 30 2 #[(0, x), (1, y)]) (hx : ρ x = .string s) (hy : ρ y = .string t) :
    (execOp ρ o).run prog w = .ok (.value (.slice (some ⟨w.heap.size, 0, none⟩) 2 2)) (w.alloc (.cells #[.string s, .string t] 9)) := by
  unfold execOp; rw [ho]
  simp [go_sem, Instr.buildSlice, hx, hy]
theorem dJ {x y : Operand} {a b : Nat} (ho : o.op = .build 67 #[(0, x), (1, y)]) (hx : ρ x = .int .i64 ↑a) (hy : ρ y = .int .i64 ↑b) :
    (execOp ρ o).run prog w = .ok (.value (.agg (GN [a, b, 0, 0, 0, 0, 0, 0]).toArray)) w := by
  unfold execOp; rw [ho]
  have e : (zeroValue 67).run prog w = .ok (.agg #[.int .i64 0, .int .i64 0, .int .i64 0, .int .i64 0, .int .i64 0, .int .i64 0, .int .i64 0, .int .i64 0]) w := by kernel_rfl
  simp [go_sem, e, hx, hy, GN]
theorem qX {x y : Operand} {a b : Int} (ho : o.op = .build 79 #[(0, x), (1, y)]) (hx : ρ x = .int .i8 a) (hy : ρ y = .int .i8 b) :
    (execOp ρ o).run prog w = .ok (.value (.agg #[.int .i8 a, .int .i8 b, .int .u8 0])) w := by
  unfold execOp; rw [ho]
  have e : (zeroValue 79).run prog w = .ok (.agg #[.int .i8 0, .int .i8 0, .int .u8 0]) w := by kernel_rfl
  simp [go_sem, e, hx, hy]
theorem qV {x y z u : Operand} {ao bo co : Option Addr} {k c k' c' k'' c'' : Nat} {n : Int} (ho : o.op = .build 48 #[(0, x), (1, y), (2, z), (3, u)]) (hx : ρ x = .slice ao k c) (hy : ρ y = .slice bo k' c') (hz : ρ z = .slice co k'' c'') (hu : ρ u = .int .i64 n) :
    (execOp ρ o).run prog w = .ok (.value (.agg #[.slice ao k c, .slice bo k' c', .slice co k'' c'', .int .i64 n])) w := by
  unfold execOp; rw [ho]
  simp [go_sem, hx, hy, hz, hu]
end
section
variable {o : Oper} {a : Act} {w : World} {K : Act → World → Prop} {Q : Exit → Act → World → Prop}
theorem UK {x y : Operand} {s t : Bs} (ho : o.op = .buildSlice 30 2 #[(0, x), (1, y)]) (hx : a.eval x = .string (bs s)) (hy : a.eval y = .string (bs t))
    (h : ∀ b w', b = w.heap.size → w'.heap.size = w.heap.size + 1 → Below w.heap.size w w' → Bx w' b 9 [.string (bs s), .string (bs t)] → K (a.put o.dst (.slice (some ⟨b, 0, none⟩) 2 2)) w') : o.wp prog a w K Q :=
  DT (Fm ho hx hy) (h _ _ rfl AG ((Below.refl _ _).alloc (Nat.le_refl _) _) (JZ w _ [.string (bs s), .string (bs t)]))
end
theorem NZ {P : Program} {f : Nat} {o : Oper} {a : Act} {w : World} {K : Act → World → Prop} {Q : Exit → Act → World → Prop} {args : List Operand} {tys : Array TypeId} {vs : List Value} {L : List SF} {r : Ps} (hf : Fn P f)
    (ho : o.op = .call { callee := .value (.func f), args := args.toArray, argTypes := tys }) (hc : Calls P f vs.toArray w (Jh w r)) (hv : args.map a.eval = vs) (E : Env w L)
    (h : ∀ w' aov lv cv aoe le ce aon ln cn, Below w.heap.size w w' → lv = r.1.vars.length → le = r.1.eqs.length → ln = r.1.neqs.length →
      Env w' (fR elS (GL w.heap.size w'.heap.size) (.slice aov lv cv) r.1.vars :: fR NH (GL w.heap.size w'.heap.size) (.slice aoe le ce) r.1.eqs :: fR NH (GL w.heap.size w'.heap.size) (.slice aon ln cn) r.1.neqs :: L) →
      K (a.put o.dst (.tuple #[.agg #[.slice aov lv cv, .slice aoe le ce, .slice aon ln cn, .int .i64 ↑r.1.next], .int .i64 ↑r.2.1, .int .i64 ↑r.2.2])) w') : o.wp P a w K Q := by
  refine DB hf ho hc hv ?_
  rintro e w' ⟨_, rfl, ⟨t, v, u, rfl, q, p, l⟩, k⟩
  obtain ⟨aov, cv, rfl, _⟩ := q.shp
  obtain ⟨aoe, ce, rfl, _⟩ := p.shp
  obtain ⟨aon, cn, rfl, _⟩ := l.shp
  exact ⟨_, rfl, h w' _ _ _ _ _ _ _ _ _ k rfl rfl rfl ((((E.below k).r l (fun _ g => g.2)).r p (fun _ g => g.2)).r q (fun _ g => g.2))⟩
end Go.Proofs.YtmppigbbkjepiaaGreatDoor
set_option maxHeartbeats 8000000
set_option maxRecDepth 100000
namespace Go.Proofs.YtmppigbbkjepiaaGreatDoor
open Go.Proofs.Tryz
open Go.RowKit W
def xyB : List Bs := [[120], [121]]
def dF (c : Int) (a b : Nat) : List Tm := KJ ((c : Int) : Rat) [a, b, 0, 0, 0, 0, 0, 0] (LY ((1 : Int) : Rat))
def YC (t : Bs) (n : Nat) : Bool := decide ((EV xyB t).1.length = 0) && (decide ((EV xyB t).2.1 = n) && decide ((EV xyB t).2.2 = 440))
theorem fL {t : Bs} {n : Nat} {p : List Tm} {k e : Nat} {b : Bool} (h : EV xyB t = (p, k, e)) (hb : b = (decide (p.length = 0) && (decide (k = n) && decide (e = 440)))) : Ending.returned (.bool b) = .returned (.bool (YC t n)) := by
  unfold YC; rw [h, hb]
theorem oI {a b : Nat} (ha : a ≤ 65535) (hb : b ≤ 65535) : ER [a, b, 0, 0, 0, 0, 0, 0] := by
  refine ⟨O, fun e f => ?_⟩
  simp only [List.mem_cons, List.not_mem_nil, or_false] at f
  omega
theorem lP {m : List Nat} (hm : ER m) (c : Rat) : ∀ t ∈ LY c, jZ m t.2 := by
  intro t e
  unfold LY at e
  split at e
  · cases e
  · simp at e; subst e
    intro i
    have := qH hm i
    show me m i + me zeroM i ≤ 65535; omega
theorem mP {c : Rat} {n : Nat} (h : FitQ c n) : ∀ t ∈ LY c, FitQ t.1 n := by
  intro t e
  unfold LY at e
  split at e
  · cases e
  · simp at e; subst e; exact h
theorem jQ (c : Rat) : (LY c).length ≤ 1 := by unfold LY; split <;> simp
theorem yM : FitQ ((1 : Int) : Rat) 4 := RC (k := 4) AD (EY AD AD)
def uR (p : List Tm) : Bool := p.all fun t => decide (t.1.num.natAbs < 1000) && decide (t.1.den < 1000)
theorem KC {p : List Tm} (h : uR p = true) {n : Nat} (hn : 4 ≤ n) : ∀ t ∈ p, FitQ t.1 n := by
  intro t e
  unfold uR at h
  have := List.all_eq_true.1 h t e
  simp only [Bool.and_eq_true, decide_eq_true_eq] at this
  exact FitQ.mono ⟨EY Z Z, EY Z Z⟩ hn
theorem Hv : FitQ (IM 1 2 0) 20 := ⟨(EY AJ AJ).mono AD, (EY AJ AJ).mono AD⟩
def eH : List Tm := [(mkRat 1 2, [1, 3, 0, 0, 0, 0, 0, 0])]
def eA : List Tm := [(-1, [2, 0, 0, 0, 0, 0, 0, 0])]
def eB : List Tm := [(-1, [2, 0, 0, 0, 0, 0, 0, 0]), (mkRat 1 2, [1, 3, 0, 0, 0, 0, 0, 0])]
def eC : List Tm := [(-1, [0, 1, 0, 0, 0, 0, 0, 0])]
def eD : List Tm := [(3, [0, 0, 0, 0, 0, 0, 0, 0])]
def eE : List Tm := [(-1, [0, 1, 0, 0, 0, 0, 0, 0]), (3, [0, 0, 0, 0, 0, 0, 0, 0])]
def Eg : List Tm := [(-1, [2, 0, 0, 0, 0, 0, 0, 0]), (mkRat 1 2, [1, 3, 0, 0, 0, 0, 0, 0]), (-1, [0, 1, 0, 0, 0, 0, 0, 0]), (3, [0, 0, 0, 0, 0, 0, 0, 0])]
def eF : List Tm := [(1, [2, 0, 0, 0, 0, 0, 0, 0])]
def eG : List Tm := [(1, [0, 1, 0, 0, 0, 0, 0, 0])]
def eI : List Tm := [(1, [2, 0, 0, 0, 0, 0, 0, 0]), (-1, [0, 1, 0, 0, 0, 0, 0, 0])]
def eJ : List Tm := [(1, [1, 0, 0, 0, 0, 0, 0, 0])]
def exT : Bs := [45, 120, 94, 50, 32, 43, 32, 49, 47, 50, 42, 120, 42, 121, 94, 51, 32, 45, 32, 121, 32, 43, 32, 51]
def exS : Bs := [118, 97, 114, 115, 32, 120, 32, 121, 10, 49, 58, 32, 120, 94, 50, 32, 45, 32, 121, 32, 61, 32, 48, 10, 51, 58, 32, 120, 32, 33, 61, 32, 48, 10, 110, 101, 120, 116, 32, 52, 10]
theorem eH_is : KJ (IM 1 2 0) [1, 3, 0, 0, 0, 0, 0, 0] (LY ((1 : Int) : Rat)) = eH := by decide +kernel
theorem eA_is : dF (-1) 2 0 = eA := by decide +kernel
theorem eB_is : MY eA eH = eB := by decide +kernel
theorem eC_is : dF (-1) 0 1 = eC := by decide +kernel
theorem eD_is : dF 3 0 0 = eD := by decide +kernel
theorem eE_is : MY eC eD = eE := by decide +kernel
theorem Rb : MY eB eE = Eg := by decide +kernel
theorem eF_is : dF 1 2 0 = eF := by decide +kernel
theorem eG_is : dF 1 0 1 = eG := by decide +kernel
theorem eI_is : Pg eF eG = eI := by decide +kernel
theorem eJ_is : dF 1 1 0 = eJ := by decide +kernel
theorem Qy : QN xyB Eg = (exT, 0) := by decide +kernel
theorem Ie : EV xyB exT = (Eg, 0, 0) := by decide +kernel
theorem Qx : QN xyB [] = ([48], 0) := by decide +kernel
theorem Qz : PF ⟨xyB, [(1, eI)], [(3, eJ)], 4⟩ = (exS, 0) := by decide +kernel
theorem Qj : (GB [110, 101, 120, 116, 32, 49, 10]).2 = (1, 440) := by decide +kernel
theorem Qi : (GB [118, 97, 114, 115, 32, 120, 10]).2 = (2, 440) := by decide +kernel
theorem Ra : GW Eg := (RO Ie).2.2.2.1
theorem Oh {p : List Tm} {t : Bs} (h : EV xyB t = (p, 0, 0)) : GW p := (RO h).2.2.2.1
theorem eI_ok : GW eI := Oh (t := [120, 94, 50, 32, 45, 32, 121]) AJ
theorem eJ_ok : GW eJ := Oh (t := [120]) AJ
theorem Qp : GW [] := ⟨fun t ht => (by cases ht), tU⟩
theorem Og {n : Nat} {p : List Tm} (h : GW p) (hs : uR p = true) (hl : p.length ≤ 1000000) : MZ [(n, p)] := by
  intro e f
  simp only [List.mem_cons, List.not_mem_nil, or_false] at f
  subst f; exact ⟨h, KC hs AD, hl⟩
theorem cC (c : Int) (a : Nat) (b : Nat) (w : World) (h1 : -9223372036854775808 ≤ c) (h2 : c ≤ 9223372036854775807) (ha : a ≤ 65535) (hb : b ≤ 65535) :
    Calls prog 31 #[.int .i64 c, .int .i64 ↑a, .int .i64 ↑b] w (tJ w (dF c a b)) := by
 have E := Env.start w
 go_enter func31, ntmps31
 refine yG ?_
 refine EF O (CZ MN O (bN c _ h1 h2) O E ?_)
 clear E
 intro F T Q X N _ E
 have D : FitQ ((c : Int) : Rat) 4 := RC (k := 4) AD (EY h1 h2)
 refine yG ?_
 refine V (v := .agg (GN ([a, b, 0, 0, 0, 0, 0, 0])).toArray) O O (dJ (a := a) (b := b) O O O) ?_
 refine yG ?_
 refine EF O (CZ MN O (bN 1 _ AD AD) O E ?_)
 clear E
 intro u R P U L _ E
 refine yG ?_
 refine EF O (DN QU O (tM _ _ _ _ ((1 : Int) : Rat) _ E.2.1 E.1) O E ?_)
 clear E
 intro f H _ t E
 replace E := E.sz (Nat.le_refl f.heap.size)
 obtain ⟨C, z, rfl, q, _⟩ := t.shp
 replace E := E.r (e := KG) (S := GL u.heap.size f.heap.size) t (fun _ g => g.2)
 have o : w.heap.size ≤ f.heap.size := (e6 E).size
 refine yG ?_
 refine EF O (DN PN O (kE _ _ _ _ ((c : Int) : Rat) ([a, b, 0, 0, 0, 0, 0, 0]) _ (LY ((1 : Int) : Rat)) _ (e5 E) (e4 E) (oI ha hb) (BV E.1) (FitQ.mono D AD) (mP (FitQ.mono yM AD)) (lP (oI ha hb) _) (Nat.le_trans (jQ _) AD)) O E ?_)
 clear E
 intro l G _ h E
 replace E := E.sz (Nat.le_refl l.heap.size)
 obtain ⟨J, rfl, h⟩ := h
 obtain ⟨B, y, rfl, p, _⟩ := h.shp
 replace E := E.r (e := KG) (S := GL f.heap.size l.heap.size) h (fun _ g => g.2)
 refine yG ?_
 exact ⟨_, rfl, (by rw [show dF c a b = KJ ((c : Int) : Rat) [a, b, 0, 0, 0, 0, 0, 0] (LY ((1 : Int) : Rat)) from rfl]; exact pS E.1 Z), e8 E⟩
theorem TP (t : Bs) (n : Nat) (w : World) (ht : t.length ≤ 1000000) (hG : Glob w) :
    Calls prog 32 #[.string (bs t), .int .i64 ↑n] w (JO w (YC t n)) := by
 have E := Env.start w
 replace E := E.gl hG
 go_enter func32, ntmps32
 obtain ⟨p, pos, G, f⟩ : ∃ a b c, EV xyB t = (a, b, c) := ⟨_, _, _, rfl⟩
 refine yG ?_
 refine EF O (UK (s := [120]) (t := [121]) O O O ?_)
 intro N o B P L C
 have q : IsR elS (GL w.heap.size o.heap.size) o (.slice (some ⟨N, 0, none⟩) xyB.length 2) xyB := bW (l := xyB) C ⟨Nat.le_of_eq B.symm, by omega⟩ AD
 replace E := ((E.below L).sz (Nat.le_refl o.heap.size)).r q (fun _ g => g.2)
 clear q C
 refine yG ?_
 refine EF O (LJ (r := (p, pos, G)) LC O (by have v := kD t _ xyB o (BV E.1) AD ht E.2.2.1.1; rw [f] at v; exact v) O E ?_)
 clear E
 intro y Q _ F E
 replace E := E.sz (Nat.le_refl y.heap.size)
 have z := F
 obtain ⟨J, H, rfl, D, _⟩ := F.shp
 skip
 replace E := E.r (e := KG) (S := GL o.heap.size y.heap.size) (show IsR KG (GL o.heap.size y.heap.size) y _ p from z) (fun _ g => g.2)
 by_cases h : p.length = 0
 case neg =>
  refine yG ?_
  exact ⟨fL f (by rw [decide_eq_false h]; simp), e5 E⟩
 by_cases k : pos = n
 case neg =>
  refine yG ?_
  exact ⟨fL f (by simp [h, k]), e5 E⟩
 by_cases u : G = 440
 case pos =>
  refine yG ?_
  exact ⟨fL f (by simp [h, k, u]), e5 E⟩
 refine yG ?_
 exact ⟨fL f (by simp [h, k, u]), e5 E⟩
theorem wB (w : World) (hG : Glob w) :
    Calls prog 10 #[] w (JO w true) := by
 have E := Env.start w
 have ff := hG.two
 replace E := E.gl hG
 go_enter func10, ntmps10
 refine yG ?_
 refine V (v := .agg #[.int .i8 1, .int .i8 2, .int .u8 0]) O O (qX O O O) ?_
 refine yG ?_
 refine EF O (CZ jL O (Sj 1 2 0 w AD AD AD AD AD) O E ?_)
 clear E
 intro w2 n2 s2 m2 t2 _ E
 have F1 : FitQ (IM 1 2 0) 20 := Hv
 refine yG ?_
 refine V (v := .agg (GN ([1, 3, 0, 0, 0, 0, 0, 0])).toArray) O O (dJ (a := 1) (b := 3) O O O) ?_
 refine yG ?_
 refine EF O (CZ MN O (bN 1 _ AD AD) O E ?_)
 clear E
 intro w4 n4 s4 m4 t4 _ E
 refine yG ?_
 refine EF O (DN QU O (tM _ _ _ _ ((1 : Int) : Rat) _ E.2.1 E.1) O E ?_)
 clear E
 intro w5 v5 _ f5 E
 replace E := E.sz (Nat.le_refl w5.heap.size)
 obtain ⟨fe, f4, rfl, dz, _⟩ := f5.shp
 replace E := E.r (e := KG) (S := GL w4.heap.size w5.heap.size) f5 (fun _ g => g.2)
 refine yG ?_
 refine EF O (DN PN O ((by have f := kE _ _ _ _ (IM 1 2 0) ([1, 3, 0, 0, 0, 0, 0, 0]) _ (LY ((1 : Int) : Rat)) _ (e5 E) (e4 E) (oI AD AD) (BV E.1) (FitQ.mono F1 AD) (mP (FitQ.mono yM AD)) (lP (oI AD AD) _) (Nat.le_trans (jQ _) AD); rw [eH_is] at f; exact f)) O E ?_)
 clear E
 intro w6 v6 _ f6 E
 replace E := E.sz (Nat.le_refl w6.heap.size)
 obtain ⟨u6, rfl, f6⟩ := f6
 obtain ⟨fd, f3, rfl, dy, _⟩ := f6.shp
 replace E := E.r (e := KG) (S := GL w5.heap.size w6.heap.size) f6 (fun _ g => g.2)
 refine yG ?_
 refine EF O (DN JM O ((by have f := cC (-1) 2 0 w6 AD AD AD AD; rw [eA_is] at f; exact f)) O E ?_)
 clear E
 intro w7 v7 _ f7 E
 replace E := E.sz (Nat.le_refl w7.heap.size)
 obtain ⟨fc, f2, rfl, dx, _⟩ := f7.shp
 replace E := E.r (e := KG) (S := GL w6.heap.size w7.heap.size) f7 (fun _ g => g.2)
 refine yG ?_
 refine EF O (DN OO O ((by have f := gO _ eA _ eH w7 (BV E.1) (BV E.2.2.1) (KC (p := eA) AJ AD) (KC (p := eH) AJ AD) AD AD; rw [eB_is] at f; exact f)) O E ?_)
 clear E
 intro w8 v8 _ f8 E
 replace E := E.sz (Nat.le_refl w8.heap.size)
 obtain ⟨fb, f1, rfl, dw, _⟩ := f8.shp
 replace E := E.r (e := KG) (S := GL w7.heap.size w8.heap.size) f8 (fun _ g => g.2)
 refine yG ?_
 refine EF O (DN JM O ((by have f := cC (-1) 0 1 w8 AD AD AD AD; rw [eC_is] at f; exact f)) O E ?_)
 clear E
 intro w9 v9 _ f9 E
 replace E := E.sz (Nat.le_refl w9.heap.size)
 obtain ⟨fa, f0, rfl, dv, _⟩ := f9.shp
 replace E := E.r (e := KG) (S := GL w8.heap.size w9.heap.size) f9 (fun _ g => g.2)
 refine yG ?_
 refine EF O (DN JM O ((by have f := cC 3 0 0 w9 AD AD AD AD; rw [eD_is] at f; exact f)) O E ?_)
 clear E
 intro G ez _ bd E
 replace E := E.sz (Nat.le_refl G.heap.size)
 obtain ⟨du, dn, rfl, dd, _⟩ := bd.shp
 replace E := E.r (e := KG) (S := GL w9.heap.size G.heap.size) bd (fun _ g => g.2)
 refine yG ?_
 refine EF O (DN OO O ((by have f := gO _ eC _ eD G (BV E.2.2.1) (BV E.1) (KC (p := eC) AJ AD) (KC (p := eD) AJ AD) AD AD; rw [eE_is] at f; exact f)) O E ?_)
 clear E
 intro F ey _ bc E
 replace E := E.sz (Nat.le_refl F.heap.size)
 obtain ⟨dt, dm, rfl, dc, _⟩ := bc.shp
 replace E := E.r (e := KG) (S := GL G.heap.size F.heap.size) bc (fun _ g => g.2)
 refine yG ?_
 refine EF O (DN OO O ((by have f := gO _ eB _ eE F (BV (e6 E)) (BV E.1) (KC (p := eB) AJ AD) (KC (p := eE) AJ AD) AD AD; rw [Rb] at f; exact f)) O E ?_)
 clear E
 intro a4 ex _ bb E
 replace E := E.sz (Nat.le_refl a4.heap.size)
 obtain ⟨ds, dl, rfl, db, _⟩ := bb.shp
 replace E := E.r (e := KG) (S := GL F.heap.size a4.heap.size) bb (fun _ g => g.2)
 refine yG ?_
 refine EF O (UK (s := [120]) (t := [121]) O O O ?_)
 intro a5 D bg e2 dh ab
 have X : IsR elS (GL a4.heap.size D.heap.size) D (.slice (some ⟨a5, 0, none⟩) xyB.length 2) xyB := bW (l := xyB) ab ⟨Nat.le_of_eq bg.symm, by omega⟩ AD
 replace E := ((E.below dh).sz (Nat.le_refl D.heap.size)).r X (fun _ g => g.2)
 clear X ab
 refine yG ?_
 refine EF O (BZ EP O ((by have f := RA _ Eg _ xyB D (BV E.2.2.1) (BV E.1) Ra (KC (p := Eg) AJ AD) AD AD (Rc E).1; rw [Qy] at f; exact f)) O E ?_)
 clear E
 intro L _ E
 have d5 : w.heap.size ≤ L.heap.size := (Mt E).size
 refine yG ?_
 refine EF O (LJ (r := (Eg, 0, 0)) LC O (by have f := kD exT _ xyB L (BV E.1) AD AD (Rc E).1; rw [Ie] at f; exact f) O E ?_)
 clear E
 intro z ew bn ba E
 have e1 := bn.size
 clear bn
 replace E := E.sz (Nat.le_refl z.heap.size)
 have b3 := ba
 obtain ⟨dr, dk, rfl, da, _⟩ := ba.shp
 skip
 replace E := E.r (e := KG) (S := GL L.heap.size z.heap.size) (show IsR KG (GL L.heap.size z.heap.size) z _ Eg from b3) (fun _ g => g.2)
 refine yG ?_
 refine EF O (BZ EP O ((by have f := RA (.slice none 0 0) [] _ xyB z (IsR.nil _ _ _) (BV E.2.2.1) Qp (fun t ht => by cases ht) AD AD (Ms E).1; rw [Qx] at f; exact f)) O E ?_)
 clear E
 intro er _ E
 refine yG ?_
 refine V I O (GX (a := exT) (b := [45, 120, 94, 50, 32, 43, 32, 49, 47, 50, 42, 120, 42, 121, 94, 51, 32, 45, 32, 121, 32, 43, 32, 51]) (c := false) O O O AD) ?_
 refine yG ?_
 refine V I O (GX (a := [48]) (b := [48]) (c := false) O O O AD) ?_
 refine yG ?_
 refine EF O (BY QT O (CQ (show decide (Eg = Eg) = true by simp) (pM _ Eg _ Eg _ (BV (e4 E)) (BV E.1) AD)) O E ?_)
 clear E
 intro ep _ E
 refine yG ?_
 refine EF O (BY GV O (CQ (show YC ([120, 32, 43, 32, 120, 94, 50]) 4 = true by decide +kernel) (TP ([120, 32, 43, 32, 120, 94, 50]) 4 _ AD (Ms E).1)) O E ?_)
 clear E
 intro eo _ E
 refine yG ?_
 refine EF O (BY GV O (CQ (show YC ([120, 32, 43]) 4 = true by decide +kernel) (TP ([120, 32, 43]) 4 _ AD (Ms E).1)) O E ?_)
 clear E
 intro en _ E
 refine yG ?_
 refine EF O (BY GV O (CQ (show YC ([50, 42, 120, 32, 45, 32]) 6 = true by decide +kernel) (TP ([50, 42, 120, 32, 45, 32]) 6 _ AD (Ms E).1)) O E ?_)
 clear E
 intro em _ E
 refine yG ?_
 refine EF O (BY GV O (CQ (show YC ([49, 42, 120]) 0 = true by decide +kernel) (TP ([49, 42, 120]) 0 _ AD (Ms E).1)) O E ?_)
 clear E
 intro el _ E
 refine yG ?_
 refine EF O (BY GV O (CQ (show YC ([121, 42, 120]) 0 = true by decide +kernel) (TP ([121, 42, 120]) 0 _ AD (Ms E).1)) O E ?_)
 clear E
 intro ek _ E
 refine yG ?_
 refine EF O (BY GV O (CQ (show YC ([120, 32, 32, 43, 32, 49]) 2 = true by decide +kernel) (TP ([120, 32, 32, 43, 32, 49]) 2 _ AD (Ms E).1)) O E ?_)
 clear E
 intro ej _ E
 refine yG ?_
 refine EF O (BY GV O (CQ (show YC ([45, 48]) 0 = true by decide +kernel) (TP ([45, 48]) 0 _ AD (Ms E).1)) O E ?_)
 clear E
 intro ac _ E
 refine yG ?_
 refine EF O (DN JM O ((by have f := cC 1 2 0 ac AD AD AD AD; rw [eF_is] at f; exact f)) O E ?_)
 clear E
 intro C ev _ b9 E
 replace E := E.sz (Nat.le_refl C.heap.size)
 obtain ⟨dq, dj, rfl, d9, _⟩ := b9.shp
 replace E := E.r (e := KG) (S := GL ac.heap.size C.heap.size) b9 (fun _ g => g.2)
 refine yG ?_
 refine EF O (DN JM O ((by have f := cC 1 0 1 C AD AD AD AD; rw [eG_is] at f; exact f)) O E ?_)
 clear E
 intro B eu _ b8 E
 replace E := E.sz (Nat.le_refl B.heap.size)
 obtain ⟨dp, di, rfl, d8, _⟩ := b8.shp
 replace E := E.r (e := KG) (S := GL C.heap.size B.heap.size) b8 (fun _ g => g.2)
 refine yG ?_
 refine EF O (DN kQ O ((by have f := Nu _ eF _ eG B (BV E.2.2.1) (BV E.1) (KC (p := eF) AJ AD) (KC (p := eG) AJ AD) AD AD; rw [eI_is] at f; exact f)) O E ?_)
 clear E
 intro J et _ b7 E
 replace E := E.sz (Nat.le_refl J.heap.size)
 obtain ⟨U, R, rfl, d7, _⟩ := b7.shp
 replace E := E.r (e := KG) (S := GL B.heap.size J.heap.size) b7 (fun _ g => g.2)
 refine yG ?_
 refine V (v := .agg #[.int .i64 1, .slice U eI.length R]) O O (TX O O O) ?_
 refine yG ?_
 refine EF O (DY (cs := [.int .i64 1, .slice U eI.length R]) underlying46 PB O AD AD O O ?_)
 intro P a3 bf cz bm aa
 replace E := (E.below bm).x aa
 clear bf cz bm aa
 have b0 : P < a3.heap.size := Bx.lt E.1
 refine yG ?_
 refine EF O (DN JM O ((by have f := cC 1 1 0 a3 AD AD AD AD; rw [eJ_is] at f; exact f)) O E ?_)
 clear E
 intro H es bl b6 E
 have e0 := bl.size
 clear bl
 replace E := E.sz (Nat.le_refl H.heap.size)
 obtain ⟨T, Q, rfl, d6, _⟩ := b6.shp
 replace E := E.r (e := KG) (S := GL a3.heap.size H.heap.size) b6 (fun _ g => g.2)
 refine yG ?_
 refine V (v := .agg #[.int .i64 3, .slice T eJ.length Q]) O O (TX O O O) ?_
 refine yG ?_
 refine EF O (DY (cs := [.int .i64 3, .slice T eJ.length Q]) underlying46 PB O AD AD O O ?_)
 intro N ei Y cy bk a9
 have d4 : P < N := by rw [Y]; exact Bx.lt E.2.2.1
 replace E := (E.below bk).x a9
 clear Y cy bk a9
 refine yG ?_
 refine V (v := .agg #[.slice (some ⟨a5, 0, none⟩) xyB.length 2, .slice (some ⟨P, 0, none⟩) 1 1, .slice (some ⟨N, 0, none⟩) 1 1, .int .i64 4]) O O (qV O O O O O) ?_
 refine yG ?_
 refine EF O (CA RE O ?_)
 intro u eh o cx bj a2
 have d3 : N < u := by rw [o]; exact Bx.lt E.1
 have cu : H.heap.size ≤ u := by rw [o]; exact CU E.2.2.1
 have ct : J.heap.size ≤ u := by rw [o]; exact CU (e5 E)
 have cr : B.heap.size ≤ u := by rw [o]; exact CU (e7 E)
 have cq : C.heap.size ≤ u := by rw [o]; exact CU (e9 E)
 have cp : z.heap.size ≤ u := by rw [o]; exact CU (RG E)
 have co : D.heap.size ≤ u := by rw [o]; exact CU (VE E)
 have cn : F.heap.size ≤ u := by rw [o]; exact CU (e17 E)
 have cm : G.heap.size ≤ u := by rw [o]; exact CU (e19 E)
 have ck : w9.heap.size ≤ u := by rw [o]; exact CU (e21 E)
 have az : w8.heap.size ≤ u := by rw [o]; exact CU (Mt E)
 have ay : w7.heap.size ≤ u := by rw [o]; exact CU (e25 E)
 have ax : w6.heap.size ≤ u := by rw [o]; exact CU (e27 E)
 have aw : w5.heap.size ≤ u := by rw [o]; exact CU (e29 E)
 replace E := E.below bj
 clear o cx bj
 refine yG ?_
 refine EF O (BX RE O O O a2 O O (CM O (CM O (CM O (CM O EX)))) ?_)
 intro d0 af a8
 replace E := (E.onl (a2.noW (CE AG (CE AG (CE AG (CE AG CX))))) zK af).x (cs := [.slice (some ⟨a5, 0, none⟩) xyB.length 2, .slice (some ⟨P, 0, none⟩) 1 1, .slice (some ⟨N, 0, none⟩) 1 1, .int .i64 4]) a8
 clear a2 af a8
 refine yG ?_
 refine EF O (BZ PI O ((by have f := kG _ xyB _ [(1, eI)] _ [(3, eJ)] 4 d0 (BV (VE E)) (kI (e4 E) (Bx.lt (e4 E)) ⟨_, O, (BV (e5 E))⟩) (kI E.2.1 (Bx.lt E.2.1) ⟨_, O, (BV E.2.2.1)⟩) (Og eI_ok AJ AD) (Og eJ_ok AJ AD) AD E.2.2.2.2.2.2.2.2.2.2.2.2.2.2.2.2.2.2.2.2.2.2.2.2.2.2.2.2.2.2.2.2.2.2.2.1.1; rw [Qz] at f; exact f)) O E ?_)
 clear E
 intro eg _ E
 refine yG ?_
 refine EF O (NZ MH O (bQ ([110, 101, 120, 116, 32, 49, 10]) _ E.2.2.2.2.2.2.2.2.2.2.2.2.2.2.2.2.2.2.2.2.2.2.2.2.2.2.2.2.2.2.2.2.2.2.2.1.1) O E ?_)
 clear E
 intro ef bw ah bp c1 al bu bz aj br dg _ _ _ E
 replace E := E.2.2.2
 skip
 clear dg
 obtain ⟨b2, b5⟩ : (GB ([110, 101, 120, 116, 32, 49, 10])).2.1 = 1 ∧ (GB ([110, 101, 120, 116, 32, 49, 10])).2.2 = 440 := by rw [Qj]; exact ⟨rfl, rfl⟩
 rw [b2, b5]
 refine yG ?_
 refine EF O (CA RE O ?_)
 intro q ee k cw bi a1
 have d2 : u < q := by rw [k]; exact Bx.lt E.1
 have cj : H.heap.size ≤ q := by rw [k]; exact CU (e3 E)
 have ci : J.heap.size ≤ q := by rw [k]; exact CU (e6 E)
 have ch : B.heap.size ≤ q := by rw [k]; exact CU (e8 E)
 have cg : C.heap.size ≤ q := by rw [k]; exact CU (PP E)
 have cf : z.heap.size ≤ q := by rw [k]; exact CU (XX E)
 have ce : D.heap.size ≤ q := by rw [k]; exact CU (kX E)
 have cd : F.heap.size ≤ q := by rw [k]; exact CU (e18 E)
 have cc : G.heap.size ≤ q := by rw [k]; exact CU (e20 E)
 have cb : w9.heap.size ≤ q := by rw [k]; exact CU (Rc E)
 have av : w8.heap.size ≤ q := by rw [k]; exact CU (Ms E)
 have au : w7.heap.size ≤ q := by rw [k]; exact CU (e26 E)
 have ar : w6.heap.size ≤ q := by rw [k]; exact CU (e28 E)
 have aq : w5.heap.size ≤ q := by rw [k]; exact CU E.2.2.2.2.2.2.2.2.2.2.2.2.2.2.2.2.2.2.2.2.2.2.2.2.2.2.2.2.2.2.1
 replace E := E.below bi
 clear k cw bi
 refine yG ?_
 refine EF O (BX RE O O O a1 O O (CM O (CM O (CM O (CM O EX)))) ?_)
 intro ed ae a7
 replace E := (E.onl (a1.noW (CE AG (CE AG (CE AG (CE AG CX))))) zK ae).x (cs := [.slice bw ah bp, .slice c1 al bu, .slice bz aj br, .int .i64 ↑((GB ([110, 101, 120, 116, 32, 49, 10])).1.next)]) a7
 clear a1 ae a7
 refine yG ?_
 refine EF O (NZ MH O (bQ ([118, 97, 114, 115, 32, 120, 10]) _ E.2.2.2.2.2.2.2.2.2.2.2.2.2.2.2.2.2.2.2.2.2.2.2.2.2.2.2.2.2.2.2.2.2.2.2.2.1.1) O E ?_)
 clear E
 intro ec bv ag bo c0 ak bt bx ai bq de _ _ _ E
 replace E := E.2.2.2
 skip
 clear de
 obtain ⟨b1, b4⟩ : (GB ([118, 97, 114, 115, 32, 120, 10])).2.1 = 2 ∧ (GB ([118, 97, 114, 115, 32, 120, 10])).2.2 = 440 := by rw [Qi]; exact ⟨rfl, rfl⟩
 rw [b1, b4]
 refine yG ?_
 refine EF O (CA RE O ?_)
 intro y eb h cv bh a0
 have d1 : q < y := by rw [h]; exact Bx.lt E.1
 have ca : H.heap.size ≤ y := by rw [h]; exact CU (e4 E)
 have c9 : J.heap.size ≤ y := by rw [h]; exact CU (e7 E)
 have c8 : B.heap.size ≤ y := by rw [h]; exact CU (e9 E)
 have c7 : C.heap.size ≤ y := by rw [h]; exact CU (RG E)
 have c6 : z.heap.size ≤ y := by rw [h]; exact CU (VE E)
 have c5 : D.heap.size ≤ y := by rw [h]; exact CU (e15 E)
 have c4 : F.heap.size ≤ y := by rw [h]; exact CU (e19 E)
 have c3 : G.heap.size ≤ y := by rw [h]; exact CU (e21 E)
 have c2 : w9.heap.size ≤ y := by rw [h]; exact CU (Mt E)
 have ap : w8.heap.size ≤ y := by rw [h]; exact CU (e25 E)
 have ao : w7.heap.size ≤ y := by rw [h]; exact CU (e27 E)
 have an : w6.heap.size ≤ y := by rw [h]; exact CU (e29 E)
 have am : w5.heap.size ≤ y := by rw [h]; exact CU E.2.2.2.2.2.2.2.2.2.2.2.2.2.2.2.2.2.2.2.2.2.2.2.2.2.2.2.2.2.2.2.1
 replace E := E.below bh
 clear h cv bh
 refine yG ?_
 refine EF O (BX RE O O O a0 O O (CM O (CM O (CM O (CM O EX)))) ?_)
 intro ea ad a6
 replace E := (E.onl (a0.noW (CE AG (CE AG (CE AG (CE AG CX))))) zK ad).x (cs := [.slice bv ag bo, .slice c0 ak bt, .slice bx ai bq, .int .i64 ↑((GB ([118, 97, 114, 115, 32, 120, 10])).1.next)]) a6
 clear a0 ad a6
 refine yG ?_
 refine V I O (JY (a := exS) (b := [118, 97, 114, 115, 32, 120, 32, 121, 10, 49, 58, 32, 120, 94, 50, 32, 45, 32, 121, 32, 61, 32, 48, 10, 51, 58, 32, 120, 32, 33, 61, 32, 48, 10, 110, 101, 120, 116, 32, 52, 10]) (c := true) O O O AD) ?_
 refine yG ?_
 exact ⟨rfl, E.2.2.2.2.2.2.2.2.2.2.2.2.2.2.2.2.2.2.2.2.2.2.2.2.2.2.2.2.2.2.2.2.2.2.2.2.2.2.1⟩
end Go.Proofs.YtmppigbbkjepiaaGreatDoor
