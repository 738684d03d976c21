/- Helping facts of KitX; no other conditions. Helping facts of LawS; no other conditions. Helping facts of LawP; no other conditions. Helping facts of Entry; no other conditions. Helping facts of EntS; no other conditions. Helping facts of Rds; no other conditions. Helping facts of OpnS; no other conditions. Helping facts of MadeP; no other conditions. -/
import Derived.Test.YtmppigbbkjepiaaGreatDoorPrint
import Derived.Test.YtmppigbbkjepiaaGreatDoorRef6
import Derived.Test.YtmppigbbkjepiaaGreatDoorRows
import Derived.ProofKit
import Derived.Lib.SmallJoins
import Derived.Carry
import Derived.Test.YtmppigbbkjepiaaGreatDoorCards
import Derived.Test.YtmppigbbkjepiaaGreatDoorTie
import Derived.WalkKit
import Derived.OpenShut
import Derived.Deep.DeepHandedRow
import Derived.Lib.LaidTab
import Derived.HandedShaped
import Derived.SliceStrings
namespace Go.Proofs.YtmppigbbkjepiaaGreatDoor
open Go.Proofs.Tryz
open Go.RowKit W
variable {H : Type} {W : World} {a b d g i j k k' n next : Nat} {c : Rat} {m : List Nat} {p : Prop} {s t : ByteArray} {v : Value} {x y z : Operand}
theorem YVP (h : p := by cases h) : p := h
theorem Yqd (h : p := by simp [DataW.TrodAll]) : p := h
section
variable {ρ : Operand -> Value} {o : Oper} {w : World}
theorem Mf (ho : o.op = .buildSlice 30 2 #[(0, x), (1, y)]) (hx : ρ x = .string s) (hy : ρ y = .string t) :
 (execOp ρ o).run prog w = .ok (.value (.slice (some ⟨w.heap.size, 0, none⟩) 2 2)) (w.alloc (.cells #[.string s, .string t] 9)) := by
 unfold execOp; rw [ho]
 simp [go_sem, Instr.buildSlice, hx, hy]
theorem Me {u : ByteArray} (ho : o.op = .buildSlice 30 3 #[(0, x), (1, y), (2, z)]) (hx : ρ x = .string s) (hy : ρ y = .string t) (hz : ρ z = .string u) :
 (execOp ρ o).run prog w = .ok (.value (.slice (some ⟨w.heap.size, 0, none⟩) 3 3)) (w.alloc (.cells #[.string s, .string t, .string u] 9)) := by
 unfold execOp; rw [ho]
 simp [go_sem, Instr.buildSlice, hx, hy, hz]
theorem iV (ho : o.op = .build 67 #[(0, x), (1, y)]) (hx : ρ x = .int .i64 ↑a) (hy : ρ y = .int .i64 ↑b) :
 (execOp ρ o).run prog w = .ok (.value (.agg (GK [a, b, 0, 0, 0, 0, 0, 0]).toArray)) w := by
 unfold execOp; rw [ho]
 have e : (zeroValue 67).run prog w = .ok (.agg #[.int .i64 0, .int .i64 0, .int .i64 0, .int .i64 0, .int .i64 0, .int .i64 0, .int .i64 0, .int .i64 0]) w := by kernel_rfl
 simp [go_sem, e, hx, hy, GK]
theorem wF (ho : o.op = .build 67 #[(0, x)]) (hx : ρ x = .int .i64 ↑a) :
 (execOp ρ o).run prog w = .ok (.value (.agg (GK [a, 0, 0, 0, 0, 0, 0, 0]).toArray)) w := by
 unfold execOp; rw [ho]
 have e : (zeroValue 67).run prog w = .ok (.agg #[.int .i64 0, .int .i64 0, .int .i64 0, .int .i64 0, .int .i64 0, .int .i64 0, .int .i64 0, .int .i64 0]) w := by kernel_rfl
 simp [go_sem, e, hx, GK]
theorem wE {a b : Int} (ho : o.op = .build 79 #[(0, x), (1, y)]) (hx : ρ x = .int .i8 a) (hy : ρ y = .int .i8 b) :
 (execOp ρ o).run prog w = .ok (.value (.agg #[.int .i8 a, .int .i8 b, .int .u8 0])) w := by
 unfold execOp; rw [ho]
 have e : (zeroValue 79).run prog w = .ok (.agg #[.int .i8 0, .int .i8 0, .int .u8 0]) w := by kernel_rfl
 simp [go_sem, e, hx, hy]
theorem wC {u : Operand} {ao bo co : Option Addr} {c c' k'' c'' : Nat} {n : Int} (ho : o.op = .build 48 #[(0, x), (1, y), (2, z), (3, u)]) (hx : ρ x = .slice ao k c) (hy : ρ y = .slice bo k' c') (hz : ρ z = .slice co k'' c'') (hu : ρ u = .int .i64 n) :
 (execOp ρ o).run prog w = .ok (.value (.agg #[.slice ao k c, .slice bo k' c', .slice co k'' c'', .int .i64 n])) w := by
 unfold execOp; rw [ho]
 simp [go_sem, hx, hy, hz, hu]
end
section
variable {o : Oper} {a : Act} {w : World} {K : Act -> World -> Prop} {Q : Exit -> Act -> World -> Prop}
theorem gH {s t : Bs} (ho : o.op = .buildSlice 30 2 #[(0, x), (1, y)]) (hx : a.eval x = .string (bs s)) (hy : a.eval y = .string (bs t))
 (h : ∀ b w', b = w.heap.size -> w'.heap.size = w.heap.size + 1 -> Below w.heap.size w w' -> Bx w' b 9 [.string (bs s), .string (bs t)] -> K (a.put o.dst (.slice (some ⟨b, 0, none⟩) 2 2)) w') : o.wp prog a w K Q :=
 DO (Mf ho hx hy) (h _ _ rfl AH ((Below.refl _ _).alloc (Nat.le_refl _) _) (JD w _ [.string (bs s), .string (bs t)]))
theorem uT {s t u : Bs} (ho : o.op = .buildSlice 30 3 #[(0, x), (1, y), (2, z)]) (hx : a.eval x = .string (bs s)) (hy : a.eval y = .string (bs t)) (hz : a.eval z = .string (bs u))
 (h : ∀ b w', b = w.heap.size -> w'.heap.size = w.heap.size + 1 -> Below w.heap.size w w' -> Bx w' b 9 [.string (bs s), .string (bs t), .string (bs u)] -> K (a.put o.dst (.slice (some ⟨b, 0, none⟩) 3 3)) w') : o.wp prog a w K Q :=
 DO (Me ho hx hy hz) (h _ _ rfl AH ((Below.refl _ _).alloc (Nat.le_refl _) _) (JD w _ [.string (bs s), .string (bs t), .string (bs u)]))
end
theorem ZL {P : Program} {f : Nat} {o : Oper} {a : Act} {w : World} {K : Act -> World -> Prop} {Q : Exit -> Act -> World -> Prop} {args : List Operand} {tys : Array TypeId} {vs : List Value} {L : List SF} {r : Ps} (hf : Fn P f)
 (ho : o.op = .call { callee := .value (.func f), args := args.toArray, argTypes := tys }) (hc : Calls P f vs.toArray w (Ra w r)) (hv : args.map a.eval = vs) (E : Env w L)
 (h : ∀ w' aov lv cv aoe le ce aon ln cn, Below w.heap.size w w' -> lv = r.1.vars.length -> le = r.1.eqs.length -> ln = r.1.neqs.length ->
   Env w' (fR elS (EY w.heap.size w'.heap.size) (.slice aov lv cv) r.1.vars :: fR MS (EY w.heap.size w'.heap.size) (.slice aoe le ce) r.1.eqs :: fR MS (EY w.heap.size w'.heap.size) (.slice aon ln cn) r.1.neqs :: L) ->
   K (a.put o.dst (.tuple #[.agg #[.slice aov lv cv, .slice aoe le ce, .slice aon ln cn, .int .i64 ↑r.1.next], .int .i64 ↑r.2.1, .int .i64 ↑r.2.2])) w') : o.wp P a w K Q := by
 refine DG hf ho hc hv ?_
 rintro e w' ⟨_, rfl, ⟨t, v, u, rfl, q, p, l⟩, k⟩
 obtain ⟨aov, cv, rfl, _⟩ := q.shp
 obtain ⟨aoe, ce, rfl, _⟩ := p.shp
 obtain ⟨aon, cn, rfl, _⟩ := l.shp
 exact ⟨_, rfl, h w' _ _ _ _ _ _ _ _ _ k rfl rfl rfl ((((E.below k).r l (fun _ g => g.2)).r p (fun _ g => g.2)).r q (fun _ g => g.2))⟩
set_option maxHeartbeats 8000000
set_option maxRecDepth 100000
def xyB : List Bs := [[120], [121]]
def iS (c : Int) (a b : Nat) : List Tm := JY ((c : Int) : Rat) [a, b, 0, 0, 0, 0, 0, 0] (KY ((1 : Int) : Rat))
def aS (t : Bs) (n : Nat) : Bool := decide ((GO xyB t).1.length = 0) && (decide ((GO xyB t).2.1 = n) && decide ((GO xyB t).2.2 = 440))
theorem kJ {t : Bs} {p : List Tm} {e : Nat} {b : Bool} (h : GO xyB t = (p, k, e)) (hb : b = (decide (p.length = 0) && (decide (k = n) && decide (e = 440)))) : Ending.returned (.bool b) = .returned (.bool (aS t n)) := by
 unfold aS; rw [h, hb]
theorem YP (ha : a <= 65535) (hb : b <= 65535) : EG [a, b, 0, 0, 0, 0, 0, 0] := by
 refine ⟨O, fun e f => ?_⟩
 simp only [List.mem_cons, List.not_mem_nil, or_false] at f
 omega
theorem gT (hm : EG m) (c : Rat) : ∀ t ∈ KY c, oO m t.2 := by
 intro t e
 unfold KY at e
 split at e
 . cases e
 simp at e; subst e
 intro i
 have := vO hm i
 show me m i + me zeroM i <= 65535; omega
theorem aE {c : Rat} (h : FitQ c n) : ∀ t ∈ KY c, FitQ t.1 n := by
 intro t e
 unfold KY at e
 split at e
 . cases e
 simp at e; subst e; exact h
theorem WQ (c : Rat) : (KY c).length <= 1 := by unfold KY; split <;> simp
theorem dR : FitQ ((1 : Int) : Rat) 4 := IA (k := 4) AE (DY AE AE)
def Ar (p : List Tm) : Bool := p.all fun t => decide (t.1.num.natAbs < 1000) && decide (t.1.den < 1000)
theorem LM {p : List Tm} (h : Ar p = true) (hn : 4 <= n) : ∀ t ∈ p, FitQ t.1 n := by
 intro t e
 unfold Ar at h
 have := List.all_eq_true.1 h t e
 simp only [Bool.and_eq_true, decide_eq_true_eq] at this
 exact FitQ.mono ⟨DY AA AA, DY AA AA⟩ hn
theorem Pi : FitQ (JK 1 2 0) 20 := ⟨(DY AK AK).mono AE, (DY AK AK).mono AE⟩
def eH : List Tm := [(mkRat 1 2, [1, 3, 0, 0, 0, 0, 0, 0])]
def eA : List Tm := [(-1, [2, 0, 0, 0, 0, 0, 0, 0])]
def eB : List Tm := [(-1, [2, 0, 0, 0, 0, 0, 0, 0]), (mkRat 1 2, [1, 3, 0, 0, 0, 0, 0, 0])]
def eC : List Tm := [(-1, [0, 1, 0, 0, 0, 0, 0, 0])]
def eD : List Tm := [(3, [0, 0, 0, 0, 0, 0, 0, 0])]
def eE : List Tm := [(-1, [0, 1, 0, 0, 0, 0, 0, 0]), (3, [0, 0, 0, 0, 0, 0, 0, 0])]
def Ku : List Tm := [(-1, [2, 0, 0, 0, 0, 0, 0, 0]), (mkRat 1 2, [1, 3, 0, 0, 0, 0, 0, 0]), (-1, [0, 1, 0, 0, 0, 0, 0, 0]), (3, [0, 0, 0, 0, 0, 0, 0, 0])]
def eF : List Tm := [(1, [2, 0, 0, 0, 0, 0, 0, 0])]
def eG : List Tm := [(1, [0, 1, 0, 0, 0, 0, 0, 0])]
def eI : List Tm := [(1, [2, 0, 0, 0, 0, 0, 0, 0]), (-1, [0, 1, 0, 0, 0, 0, 0, 0])]
def eJ : List Tm := [(1, [1, 0, 0, 0, 0, 0, 0, 0])]
def exT : Bs := [45, 120, 94, 50, 32, 43, 32, 49, 47, 50, 42, 120, 42, 121, 94, 51, 32, 45, 32, 121, 32, 43, 32, 51]
def exS : Bs := [118, 97, 114, 115, 32, 120, 32, 121, 10, 49, 58, 32, 120, 94, 50, 32, 45, 32, 121, 32, 61, 32, 48, 10, 51, 58, 32, 120, 32, 33, 61, 32, 48, 10, 110, 101, 120, 116, 32, 52, 10]
theorem eH_is : JY (JK 1 2 0) [1, 3, 0, 0, 0, 0, 0, 0] (KY ((1 : Int) : Rat)) = eH := by decide +kernel
theorem eA_is : iS (-1) 2 0 = eA := by decide +kernel
theorem eB_is : KZ eA eH = eB := by decide +kernel
theorem eC_is : iS (-1) 0 1 = eC := by decide +kernel
theorem eD_is : iS 3 0 0 = eD := by decide +kernel
theorem eE_is : KZ eC eD = eE := by decide +kernel
theorem Zs : KZ eB eE = Ku := by decide +kernel
theorem eF_is : iS 1 2 0 = eF := by decide +kernel
theorem eG_is : iS 1 0 1 = eG := by decide +kernel
theorem eI_is : Xz eF eG = eI := by decide +kernel
theorem eJ_is : iS 1 1 0 = eJ := by decide +kernel
theorem Zp : QT xyB Ku = (exT, 0) := by decide +kernel
theorem Pz : GO xyB exT = (Ku, 0, 0) := by decide +kernel
theorem Zo : QT xyB [] = ([48], 0) := by decide +kernel
theorem Zq : MH ⟨xyB, [(1, eI)], [(3, eJ)], 4⟩ = (exS, 0) := by decide +kernel
theorem Yx : (KS [110, 101, 120, 116, 32, 49, 10]).2 = (1, 440) := by decide +kernel
theorem Yw : (KS [118, 97, 114, 115, 32, 120, 10]).2 = (2, 440) := by decide +kernel
theorem Zr : ED Ku := (iW Pz).2.2.2.1
theorem Xe {p : List Tm} {t : Bs} (h : GO xyB t = (p, 0, 0)) : ED p := (iW h).2.2.2.1
theorem eI_ok : ED eI := Xe (t := [120, 94, 50, 32, 45, 32, 121]) AK
theorem eJ_ok : ED eJ := Xe (t := [120]) AK
theorem Nv : ED [] := ⟨fun t ht => (by cases ht), ZQ⟩
theorem Xd {p : List Tm} (h : ED p) (hs : Ar p = true) (hl : p.length <= 1000000) : PR [(n, p)] := by
 intro e f
 simp only [List.mem_cons, List.not_mem_nil, or_false] at f
 subst f; exact ⟨h, LM hs AE, hl⟩
theorem gR (c : Int) (a : Nat) (b : Nat) (w : World) (h1 : -9223372036854775808 <= c) (h2 : c <= 9223372036854775807) (ha : a <= 65535) (hb : b <= 65535) :
 Calls prog 31 #[.int .i64 c, .int .i64 ↑a, .int .i64 ↑b] w (yT w (iS c a b)) := by
 have E := Env.start w
 go_enter func31, ntmps31
 refine yG ?_
 refine EF O (CV EN O (LJ c _ h1 h2) O E ?_)
 intro F R P U L d2 E
 have D : FitQ ((c : Int) : Rat) 4 := IA (k := 4) AE (DY h1 h2)
 refine yG ?_
 refine V (v := .agg (GK ([a, b, 0, 0, 0, 0, 0, 0])).toArray) O O (iV (a := a) (b := b) O O O) ?_
 refine yG ?_
 refine EF O (CV EN O (LJ 1 _ AE AE) O E ?_)
 intro u Q N T J d4 E
 refine yG ?_
 refine EF O (CZ OE O (oT _ _ _ _ ((1 : Int) : Rat) _ E.2.1 E.1) O E ?_)
 intro f H Y t E
 replace E := E.sz (Nat.le_refl f.heap.size)
 obtain ⟨C, z, rfl, q, _⟩ := t.shp
 replace E := E.r (e := JL) (S := EY u.heap.size f.heap.size) t (fun _ g => g.2)
 have o : w.heap.size <= f.heap.size := (e6 E).size
 refine yG ?_
 refine EF O (CZ NY O (gC _ _ _ _ ((c : Int) : Rat) ([a, b, 0, 0, 0, 0, 0, 0]) _ (KY ((1 : Int) : Rat)) _ (e5 E) (e4 E) (YP ha hb) (BW E.1) (FitQ.mono D AE) (aE (FitQ.mono dR AE)) (gT (YP ha hb) _) (Nat.le_trans (WQ _) AE)) O E ?_)
 intro l G X h E
 replace E := E.sz (Nat.le_refl l.heap.size)
 obtain ⟨I, rfl, h⟩ := h
 obtain ⟨B, y, rfl, p, _⟩ := h.shp
 replace E := E.r (e := JL) (S := EY f.heap.size l.heap.size) h (fun _ g => g.2)
 refine yG ?_
 exact ⟨_, rfl, (by rw [show iS c a b = JY ((c : Int) : Rat) [a, b, 0, 0, 0, 0, 0, 0] (KY ((1 : Int) : Rat)) from rfl]; exact NewP.up E.1 AA), e8 E⟩
theorem VU (t : Bs) (n : Nat) (w : World) (ht : t.length <= 1000000) (hG : Glob w) :
 Calls prog 32 #[.string (bs t), .int .i64 ↑n] w (LI w (aS t n)) := by
 have E := Env.start w
 replace E := E.gl hG
 go_enter func32, ntmps32
 obtain ⟨p, pos, F, f⟩ : ∃ a b c, GO xyB t = (a, b, c) := ⟨_, _, _, rfl⟩
 refine yG ?_
 refine EF O (gH (s := [120]) (t := [121]) O O O ?_)
 intro L o B N J G
 have y : IsR elS (EY w.heap.size o.heap.size) o (.slice (some ⟨L, 0, none⟩) xyB.length 2) xyB := gK (l := xyB) G ⟨Nat.le_of_eq B.symm, by omega⟩ AE
 replace E := ((E.below J).sz (Nat.le_refl o.heap.size)).r y (fun _ g => g.2)
 refine yG ?_
 refine EF O (PV (r := (p, pos, F)) PC O (by have u := uO t _ xyB o (BW E.1) AE ht E.2.2.1.1; rw [f] at u; exact u) O E ?_)
 intro v P Q D E
 replace E := E.sz (Nat.le_refl v.heap.size)
 have z := D
 obtain ⟨I, H, rfl, C, _⟩ := D.shp
 skip
 replace E := E.r (e := JL) (S := EY o.heap.size v.heap.size) (show IsR JL (EY o.heap.size v.heap.size) v _ p from z) (fun _ g => g.2)
 by_cases h : p.length = 0
 case neg =>
  refine yG ?_
  exact ⟨kJ f (by rw [decide_eq_false h]; simp), e5 E⟩
 by_cases k : pos = n
 case neg =>
  refine yG ?_
  exact ⟨kJ f (by simp [h, k]), e5 E⟩
 by_cases q : F = 440
 . refine yG ?_
   exact ⟨kJ f (by simp [h, k, q]), e5 E⟩
 refine yG ?_
 exact ⟨kJ f (by simp [h, k, q]), e5 E⟩
theorem Ck (w : World) (hG : Glob w) :
 Calls prog 10 #[] w (LI w true) := by
 have E := Env.start w
 have fs := hG.two
 replace E := E.gl hG
 go_enter func10, ntmps10
 refine yG ?_
 refine V (v := .agg #[.int .i8 1, .int .i8 2, .int .u8 0]) O O (wE O O O) ?_
 refine yG ?_
 refine EF O (CV nW O (D1 1 2 0 w AE AE AE AE AE) O E ?_)
 intro w2 n2 s2 m2 t2 d2 E
 have F1 : FitQ (JK 1 2 0) 20 := Pi
 refine yG ?_
 refine V (v := .agg (GK ([1, 3, 0, 0, 0, 0, 0, 0])).toArray) O O (iV (a := 1) (b := 3) O O O) ?_
 refine yG ?_
 refine EF O (CV EN O (LJ 1 _ AE AE) O E ?_)
 intro w4 n4 s4 m4 t4 d4 E
 refine yG ?_
 refine EF O (CZ OE O (oT _ _ _ _ ((1 : Int) : Rat) _ E.2.1 E.1) O E ?_)
 intro w5 v5 d5 f5 E
 replace E := E.sz (Nat.le_refl w5.heap.size)
 obtain ⟨fr, fm, rfl, ed, _⟩ := f5.shp
 replace E := E.r (e := JL) (S := EY w4.heap.size w5.heap.size) f5 (fun _ g => g.2)
 refine yG ?_
 refine EF O (CZ NY O ((by have f := gC _ _ _ _ (JK 1 2 0) ([1, 3, 0, 0, 0, 0, 0, 0]) _ (KY ((1 : Int) : Rat)) _ (e5 E) (e4 E) (YP AE AE) (BW E.1) (FitQ.mono F1 AE) (aE (FitQ.mono dR AE)) (gT (YP AE AE) _) (Nat.le_trans (WQ _) AE); rw [eH_is] at f; exact f)) O E ?_)
 intro w6 v6 d6 f6 E
 replace E := E.sz (Nat.le_refl w6.heap.size)
 obtain ⟨u6, rfl, f6⟩ := f6
 obtain ⟨fq, fl, rfl, ec, _⟩ := f6.shp
 replace E := E.r (e := JL) (S := EY w5.heap.size w6.heap.size) f6 (fun _ g => g.2)
 refine yG ?_
 refine EF O (CZ KJ O ((by have f := gR (-1) 2 0 w6 AE AE AE AE; rw [eA_is] at f; exact f)) O E ?_)
 intro Y v7 d7 f7 E
 replace E := E.sz (Nat.le_refl Y.heap.size)
 obtain ⟨fp, fk, rfl, eb, _⟩ := f7.shp
 replace E := E.r (e := JL) (S := EY w6.heap.size Y.heap.size) f7 (fun _ g => g.2)
 refine yG ?_
 refine EF O (CZ LN O ((by have f := aM _ eA _ eH Y (BW E.1) (BW E.2.2.1) (LM (p := eA) AK AE) (LM (p := eH) AK AE) AE AE; rw [eB_is] at f; exact f)) O E ?_)
 intro X v8 d8 f8 E
 replace E := E.sz (Nat.le_refl X.heap.size)
 obtain ⟨fo, fj, rfl, ea, _⟩ := f8.shp
 replace E := E.r (e := JL) (S := EY Y.heap.size X.heap.size) f8 (fun _ g => g.2)
 refine yG ?_
 refine EF O (CZ KJ O ((by have f := gR (-1) 0 1 X AE AE AE AE; rw [eC_is] at f; exact f)) O E ?_)
 intro U v9 d9 f9 E
 replace E := E.sz (Nat.le_refl U.heap.size)
 obtain ⟨fn, fi, rfl, dz, _⟩ := f9.shp
 replace E := E.r (e := JL) (S := EY X.heap.size U.heap.size) f9 (fun _ g => g.2)
 refine yG ?_
 refine EF O (CZ KJ O ((by have f := gR 3 0 0 U AE AE AE AE; rw [eD_is] at f; exact f)) O E ?_)
 intro G fh gb b6 E
 replace E := E.sz (Nat.le_refl G.heap.size)
 obtain ⟨dy, dr, rfl, db, _⟩ := b6.shp
 replace E := E.r (e := JL) (S := EY U.heap.size G.heap.size) b6 (fun _ g => g.2)
 refine yG ?_
 refine EF O (CZ LN O ((by have f := aM _ eC _ eD G (BW E.2.2.1) (BW E.1) (LM (p := eC) AK AE) (LM (p := eD) AK AE) AE AE; rw [eE_is] at f; exact f)) O E ?_)
 intro F fg ga b5 E
 replace E := E.sz (Nat.le_refl F.heap.size)
 obtain ⟨dx, dq, rfl, da, _⟩ := b5.shp
 replace E := E.r (e := JL) (S := EY G.heap.size F.heap.size) b5 (fun _ g => g.2)
 refine yG ?_
 refine EF O (CZ LN O ((by have f := aM _ eB _ eE F (BW (e6 E)) (BW E.1) (LM (p := eB) AK AE) (LM (p := eE) AK AE) AE AE; rw [Zs] at f; exact f)) O E ?_)
 intro a1 ff g9 b4 E
 replace E := E.sz (Nat.le_refl a1.heap.size)
 obtain ⟨dw, dp, rfl, d3, _⟩ := b4.shp
 replace E := E.r (e := JL) (S := EY F.heap.size a1.heap.size) b4 (fun _ g => g.2)
 refine yG ?_
 refine EF O (gH (s := [120]) (t := [121]) O O O ?_)
 intro a2 D b8 em dk cm
 have aq : IsR elS (EY a1.heap.size D.heap.size) D (.slice (some ⟨a2, 0, none⟩) xyB.length 2) xyB := gK (l := xyB) cm ⟨Nat.le_of_eq b8.symm, by omega⟩ AE
 replace E := ((E.below dk).sz (Nat.le_refl D.heap.size)).r aq (fun _ g => g.2)
 refine yG ?_
 refine EF O (BZ FL O ((by have f := TS _ Ku _ xyB D (BW E.2.2.1) (BW E.1) Zr (LM (p := Ku) AK AE) AE AE (Zu E).1; rw [Zp] at f; exact f)) O E ?_)
 intro J g8 E
 have cw : w.heap.size <= J.heap.size := (Vi E).size
 refine yG ?_
 refine EF O (PV (r := (Ku, 0, 0)) PC O (by have f := uO exT _ xyB J (BW E.1) AE AE (Zu E).1; rw [Pz] at f; exact f) O E ?_)
 intro z fe dj b3 E
 have el := dj.size
 replace E := E.sz (Nat.le_refl z.heap.size)
 have aw := b3
 obtain ⟨dv, dn, rfl, d1, _⟩ := b3.shp
 skip
 replace E := E.r (e := JL) (S := EY J.heap.size z.heap.size) (show IsR JL (EY J.heap.size z.heap.size) z _ Ku from aw) (fun _ g => g.2)
 refine yG ?_
 refine EF O (BZ FL O ((by have f := TS (.slice none 0 0) [] _ xyB z (IsR.nil _ _ _) (BW E.2.2.1) Nv (fun t ht => by cases ht) AE AE (Vh E).1; rw [Zo] at f; exact f)) O E ?_)
 intro f4 g7 E
 refine yG ?_
 refine V Z O (HJ (a := exT) (b := [45, 120, 94, 50, 32, 43, 32, 49, 47, 50, 42, 120, 42, 121, 94, 51, 32, 45, 32, 121, 32, 43, 32, 51]) (c := false) O O O AE) ?_
 refine yG ?_
 refine V Z O (HJ (a := [48]) (b := [48]) (c := false) O O O AE) ?_
 refine yG ?_
 refine EF O (CA nU O (CU (show decide (Ku = Ku) = true by simp) (Ww _ Ku _ Ku _ (BW (e4 E)) (BW E.1) AE)) O E ?_)
 intro f3 g6 E
 refine yG ?_
 refine EF O (CA II O (CU (show aS ([120, 32, 43, 32, 120, 94, 50]) 4 = true by decide +kernel) (VU ([120, 32, 43, 32, 120, 94, 50]) 4 _ AE (Vh E).1)) O E ?_)
 intro f2 g5 E
 refine yG ?_
 refine EF O (CA II O (CU (show aS ([120, 32, 43]) 4 = true by decide +kernel) (VU ([120, 32, 43]) 4 _ AE (Vh E).1)) O E ?_)
 intro f1 g4 E
 refine yG ?_
 refine EF O (CA II O (CU (show aS ([50, 42, 120, 32, 45, 32]) 6 = true by decide +kernel) (VU ([50, 42, 120, 32, 45, 32]) 6 _ AE (Vh E).1)) O E ?_)
 intro f0 g3 E
 refine yG ?_
 refine EF O (CA II O (CU (show aS ([49, 42, 120]) 0 = true by decide +kernel) (VU ([49, 42, 120]) 0 _ AE (Vh E).1)) O E ?_)
 intro ez g2 E
 refine yG ?_
 refine EF O (CA II O (CU (show aS ([121, 42, 120]) 0 = true by decide +kernel) (VU ([121, 42, 120]) 0 _ AE (Vh E).1)) O E ?_)
 intro ey g1 E
 refine yG ?_
 refine EF O (CA II O (CU (show aS ([120, 32, 32, 43, 32, 49]) 2 = true by decide +kernel) (VU ([120, 32, 32, 43, 32, 49]) 2 _ AE (Vh E).1)) O E ?_)
 intro ex g0 E
 refine yG ?_
 refine EF O (CA II O (CU (show aS ([45, 48]) 0 = true by decide +kernel) (VU ([45, 48]) 0 _ AE (Vh E).1)) O E ?_)
 intro a7 fz E
 refine yG ?_
 refine EF O (CZ KJ O ((by have f := gR 1 2 0 a7 AE AE AE AE; rw [eF_is] at f; exact f)) O E ?_)
 intro C fd fy b2 E
 replace E := E.sz (Nat.le_refl C.heap.size)
 obtain ⟨du, dm, rfl, d0, _⟩ := b2.shp
 replace E := E.r (e := JL) (S := EY a7.heap.size C.heap.size) b2 (fun _ g => g.2)
 refine yG ?_
 refine EF O (CZ KJ O ((by have f := gR 1 0 1 C AE AE AE AE; rw [eG_is] at f; exact f)) O E ?_)
 intro B fc fx b1 E
 replace E := E.sz (Nat.le_refl B.heap.size)
 obtain ⟨dt, dl, rfl, cz, _⟩ := b1.shp
 replace E := E.r (e := JL) (S := EY C.heap.size B.heap.size) b1 (fun _ g => g.2)
 refine yG ?_
 refine EF O (CZ pH O ((by have f := Ws _ eF _ eG B (BW E.2.2.1) (BW E.1) (LM (p := eF) AK AE) (LM (p := eG) AK AE) AE AE; rw [eI_is] at f; exact f)) O E ?_)
 intro I fb fw b0 E
 replace E := E.sz (Nat.le_refl I.heap.size)
 obtain ⟨T, Q, rfl, cy, _⟩ := b0.shp
 replace E := E.r (e := JL) (S := EY B.heap.size I.heap.size) b0 (fun _ g => g.2)
 refine yG ?_
 refine V (v := .agg #[.int .i64 1, .slice T eI.length Q]) O O (TC O O O) ?_
 refine yG ?_
 refine EF O (DZ (cs := [.int .i64 1, .slice T eI.length Q]) underlying46 NH O AE AE O O ?_)
 intro N a0 ee ek di ck
 replace E := E.below di
 replace E := E.x ck
 have ar : N < a0.heap.size := Bx.lt E.1
 refine yG ?_
 refine EF O (CZ KJ O ((by have f := gR 1 1 0 a0 AE AE AE AE; rw [eJ_is] at f; exact f)) O E ?_)
 intro H fa dh az E
 have ej := dh.size
 replace E := E.sz (Nat.le_refl H.heap.size)
 obtain ⟨R, P, rfl, cx, _⟩ := az.shp
 replace E := E.r (e := JL) (S := EY a0.heap.size H.heap.size) az (fun _ g => g.2)
 refine yG ?_
 refine V (v := .agg #[.int .i64 3, .slice R eJ.length P]) O O (TC O O O) ?_
 refine yG ?_
 refine EF O (DZ (cs := [.int .i64 3, .slice R eJ.length P]) underlying46 NH O AE AE O O ?_)
 intro L ew b7 ei dg cj
 have cv : N < L := by rw [b7]; exact Bx.lt E.2.2.1
 replace E := E.below dg
 replace E := E.x cj
 refine yG ?_
 refine V (v := .agg #[.slice (some ⟨a2, 0, none⟩) xyB.length 2, .slice (some ⟨N, 0, none⟩) 1 1, .slice (some ⟨L, 0, none⟩) 1 1, .int .i64 4]) O O (wC O O O O O) ?_
 refine yG ?_
 refine EF O (CB OU O ?_)
 intro u ev o eh de a6
 have cu : L < u := by rw [o]; exact Bx.lt E.1
 have cf : H.heap.size <= u := by rw [o]; exact CR E.2.2.1
 have ce : I.heap.size <= u := by rw [o]; exact CR (e5 E)
 have cd : B.heap.size <= u := by rw [o]; exact CR (e7 E)
 have cc : C.heap.size <= u := by rw [o]; exact CR (e9 E)
 have cb : z.heap.size <= u := by rw [o]; exact CR (RJ E)
 have ca : D.heap.size <= u := by rw [o]; exact CR (WP E)
 have c9 : F.heap.size <= u := by rw [o]; exact CR (Xl E)
 have c8 : G.heap.size <= u := by rw [o]; exact CR (e19 E)
 have c7 : U.heap.size <= u := by rw [o]; exact CR (e21 E)
 have ap : X.heap.size <= u := by rw [o]; exact CR (Vi E)
 have ao : Y.heap.size <= u := by rw [o]; exact CR (e25 E)
 have an : w6.heap.size <= u := by rw [o]; exact CR (e27 E)
 have am : w5.heap.size <= u := by rw [o]; exact CR (e29 E)
 replace E := E.below de
 refine yG ?_
 refine EF O (BY OU O O O a6 O O (CK O (CK O (CK O (CK O EK)))) ?_)
 intro cn cq ci
 replace E := oY E a6 cq ci (ds := [.slice (some ⟨a2, 0, none⟩) xyB.length 2, .slice (some ⟨N, 0, none⟩) 1 1, .slice (some ⟨L, 0, none⟩) 1 1, .int .i64 4])
 refine yG ?_
 refine EF O (BZ RC O ((by have f := oU _ xyB _ [(1, eI)] _ [(3, eJ)] 4 cn (BW (WP E)) (gL (e4 E) (Bx.lt (e4 E)) ⟨_, O, (BW (e5 E))⟩) (gL E.2.1 (Bx.lt E.2.1) ⟨_, O, (BW E.2.2.1)⟩) (Xd eI_ok AK AE) (Xd eJ_ok AK AE) AE E.2.2.2.2.2.2.2.2.2.2.2.2.2.2.2.2.2.2.2.2.2.2.2.2.2.2.2.2.2.2.2.2.2.2.2.1.1; rw [Zq] at f; exact f)) O E ?_)
 intro eu fv E
 refine yG ?_
 refine EF O (ZL WY O (yZ ([110, 101, 120, 116, 32, 49, 10]) _ E.2.2.2.2.2.2.2.2.2.2.2.2.2.2.2.2.2.2.2.2.2.2.2.2.2.2.2.2.2.2.2.2.2.2.2.1.1) O E ?_)
 intro et bh a9 ba bl ad bf bj ab bc fu _ _ _ E
 replace E := E.2.2.2
 skip
 obtain ⟨av, ay⟩ : (KS ([110, 101, 120, 116, 32, 49, 10])).2.1 = 1 /\ (KS ([110, 101, 120, 116, 32, 49, 10])).2.2 = 440 := by rw [Yx]; exact ⟨rfl, rfl⟩
 rw [av, ay]
 refine yG ?_
 refine EF O (CB OU O ?_)
 intro q es k eg dd a4
 have ct : u < q := by rw [k]; exact Bx.lt E.1
 have c6 : H.heap.size <= q := by rw [k]; exact CR (e3 E)
 have c5 : I.heap.size <= q := by rw [k]; exact CR (e6 E)
 have c4 : B.heap.size <= q := by rw [k]; exact CR (e8 E)
 have c3 : C.heap.size <= q := by rw [k]; exact CR (RA E)
 have c2 : z.heap.size <= q := by rw [k]; exact CR (UH E)
 have c1 : D.heap.size <= q := by rw [k]; exact CR (iI E)
 have c0 : F.heap.size <= q := by rw [k]; exact CR (Zv E)
 have bx : G.heap.size <= q := by rw [k]; exact CR (e20 E)
 have bw : U.heap.size <= q := by rw [k]; exact CR (Zu E)
 have al : X.heap.size <= q := by rw [k]; exact CR (Vh E)
 have ak : Y.heap.size <= q := by rw [k]; exact CR (e26 E)
 have aj : w6.heap.size <= q := by rw [k]; exact CR (e28 E)
 have ai : w5.heap.size <= q := by rw [k]; exact CR E.2.2.2.2.2.2.2.2.2.2.2.2.2.2.2.2.2.2.2.2.2.2.2.2.2.2.2.2.2.2.1
 replace E := E.below dd
 refine yG ?_
 refine EF O (BY OU O O O a4 O O (CK O (CK O (CK O (CK O EK)))) ?_)
 intro er cp ch
 replace E := oY E a4 cp ch (ds := [.slice bh a9 ba, .slice bl ad bf, .slice bj ab bc, .int .i64 ↑((KS ([110, 101, 120, 116, 32, 49, 10])).1.next)])
 refine yG ?_
 refine EF O (ZL WY O (yZ ([118, 97, 114, 115, 32, 120, 10]) _ E.2.2.2.2.2.2.2.2.2.2.2.2.2.2.2.2.2.2.2.2.2.2.2.2.2.2.2.2.2.2.2.2.2.2.2.2.1.1) O E ?_)
 intro ep bg a8 b9 bk ac bd bi aa bb ft _ _ _ E
 replace E := E.2.2.2
 skip
 obtain ⟨au, ax⟩ : (KS ([118, 97, 114, 115, 32, 120, 10])).2.1 = 2 /\ (KS ([118, 97, 114, 115, 32, 120, 10])).2.2 = 440 := by rw [Yw]; exact ⟨rfl, rfl⟩
 rw [au, ax]
 refine yG ?_
 refine EF O (CB OU O ?_)
 intro y eo h ef dc a3
 have cr : q < y := by rw [h]; exact Bx.lt E.1
 have bv : H.heap.size <= y := by rw [h]; exact CR (e4 E)
 have bu : I.heap.size <= y := by rw [h]; exact CR (e7 E)
 have bt : B.heap.size <= y := by rw [h]; exact CR (e9 E)
 have br : C.heap.size <= y := by rw [h]; exact CR (RJ E)
 have bq : z.heap.size <= y := by rw [h]; exact CR (WP E)
 have bp : D.heap.size <= y := by rw [h]; exact CR (Xm E)
 have bo : F.heap.size <= y := by rw [h]; exact CR (e19 E)
 have bn : G.heap.size <= y := by rw [h]; exact CR (e21 E)
 have bm : U.heap.size <= y := by rw [h]; exact CR (Vi E)
 have ah : X.heap.size <= y := by rw [h]; exact CR (e25 E)
 have ag : Y.heap.size <= y := by rw [h]; exact CR (e27 E)
 have af : w6.heap.size <= y := by rw [h]; exact CR (e29 E)
 have ae : w5.heap.size <= y := by rw [h]; exact CR E.2.2.2.2.2.2.2.2.2.2.2.2.2.2.2.2.2.2.2.2.2.2.2.2.2.2.2.2.2.2.2.1
 replace E := E.below dc
 refine yG ?_
 refine EF O (BY OU O O O a3 O O (CK O (CK O (CK O (CK O EK)))) ?_)
 intro en co cg
 replace E := oY E a3 co cg (ds := [.slice bg a8 b9, .slice bk ac bd, .slice bi aa bb, .int .i64 ↑((KS ([118, 97, 114, 115, 32, 120, 10])).1.next)])
 refine yG ?_
 refine V Z O (FT (a := exS) (b := [118, 97, 114, 115, 32, 120, 32, 121, 10, 49, 58, 32, 120, 94, 50, 32, 45, 32, 121, 32, 61, 32, 48, 10, 51, 58, 32, 120, 32, 33, 61, 32, 48, 10, 110, 101, 120, 116, 32, 52, 10]) (c := true) O O O AE) ?_
 refine yG ?_
 exact ⟨rfl, E.2.2.2.2.2.2.2.2.2.2.2.2.2.2.2.2.2.2.2.2.2.2.2.2.2.2.2.2.2.2.2.2.2.2.2.2.2.2.1⟩
theorem Bi {s : Sy} (h : SyOk s) : MH s = (mA s, 0) := by
 obtain ⟨l, f⟩ := h
 unfold MH
 rw [if_neg (by rw [l]; simp), if_neg]
 unfold YR
 simp only [List.any_eq_true, decide_eq_true_eq, not_exists, not_and]
 intro e k
 rcases mrg_in.1 k with ⟨_, g⟩ | ⟨_, g⟩
 . have := (f _ (.inl g)).2; omega
 have := (f _ (.inr g)).2; omega
theorem Bo {s : Sy} (h : SyOk s) : KS (mA s) = (s, 0, 0) := by
 obtain ⟨o, l, k, f⟩ := Cd h
 unfold KS
 rw [if_neg (by have := vM h; omega)]
 have e : FG 10 (mA s) = bT s ++ [[]] := gU 10 AH (Vd s h)
 rw [e, tU l AH]
 simp only [Pj, if_true]
 rw [if_neg f, k]
open Go.ChangeShapes Go.WideShapes Go.ChangeAt Go.Joins
theorem Tryz.own : ownKnob prog.godebug = none := by kernel_rfl
theorem Tryz.laidOut : laidOutB prog = true := by kernel_rfl
theorem aQ {H : Type} {enc : TypeId × Value -> H} {W W' : World} (hb : Below W.heap.size W W') : ∀ {ts : List TypeId} {vs : List Value} {ds : List (DataW H)} {ps : List MemPlace},
 DataW.TrodAll enc prog W 0 (fun _ => true) true ts vs ds ps -> (∀ t ∈ ts, prog.readableRec t = true /\ t < prog.types.size) -> (∀ x ∈ ps, x.block < W.heap.size) ->
 DataW.TrodAll enc prog W' 0 (fun b => decide (b < W.heap.size)) true ts vs ds ps
 | [], [], [], _, h, _, _ => h
 | t :: ts, v :: vs, d :: ds, ps, h, hr, hlt => by
   obtain ⟨p, q, h1, h2, rfl⟩ := h
   refine ⟨p, q, Below.trod Tryz.laidOut (hr t AH).1 (hr t AH).2 h1 hb (fun x hx => hlt x (List.mem_append_left _ hx)), aQ hb h2 (fun t ht => hr t (List.mem_cons_of_mem _ ht)) (fun x hx => hlt x (List.mem_append_right _ hx)), O⟩
 | [], _ :: _, _, _, h, _, _ => absurd h Yqd
 | [], [], _ :: _, _, h, _, _ => absurd h Yqd
 | _ :: _, [], _, _, h, _, _ => absurd h Yqd
 | _ :: _, _ :: _, [], _, h, _, _ => absurd h Yqd
def lst44 : List (String × DataW Unit) := [("math/bits.deBruijn32tab", Rows.laid_math_bits_deBruijn32tab), ("math/bits.deBruijn64tab", Rows.laid_math_bits_deBruijn64tab), ("internal/strconv.uint64pow10", Rows.laid_internal_strconv_uint64pow10), ("unicode/utf8.acceptRanges", Rows.laid_unicode_utf8_acceptRanges), ("unicode/utf8.first", Rows.laid_unicode_utf8_first)]
theorem Nk : (prog.globals[1]?).map (·.type) = some 222 := by kernel_rfl
theorem Kf : prog.cellsOf 222 = 20 := by kernel_rfl
theorem Ke : prog.cellsOf 161 = 1 := by kernel_rfl
theorem Glob.of (h : laidMetH prog lst44 W) (hsh : W.ShapedOpen prog) : Glob W := by
 have f := h.filter (fun x => x.1 == "internal/strconv.uint64pow10")
 have e : (lst44.filter fun x => x.1 == "internal/strconv.uint64pow10") = [("internal/strconv.uint64pow10", Lib.tabData .u64 Lib.pow10Tab)] := by kernel_rfl
 rw [e] at f
 exact ⟨Lib.tabIs_of_head (rest := []) YV Nk underlying222 underlying161 Ke Kf f,
  Go.Proofs.cell_of_shapedOpen_int (zero := #[.int .i64 0]) (t := 3) hsh (of_decide_eq_true Z) Z rfl Z Z underlying3⟩
def litV : DataW Unit -> List Value
 | .lit (.int k z) => [.int k z]
 | .agg l => l.flatMap fun d => match d with
   | .lit (.int k z) => [.int k z]
   | _ => []
 | _ => []
def tabV : DataW Unit -> Array Value
 | .agg l => (l.flatMap litV).toArray
 | _ => #[]
def Ow (d : DataW Unit) : Obj -> Obj
 | .cells _ t frozen => .cells (tabV d) t frozen
 | o => o
noncomputable def laidWorld (os : Os) : World :=
 { World.holding prog os ⟨#[], #[], []⟩ with heap := (((((World.holding prog os ⟨#[], #[], []⟩).heap.modify 1 (Ow Rows.laid_internal_strconv_uint64pow10)).modify 2 (Ow Rows.laid_unicode_utf8_first)).modify 3 (Ow Rows.laid_unicode_utf8_acceptRanges)).modify 4 (Ow Rows.laid_math_bits_deBruijn32tab)).modify 5 (Ow Rows.laid_math_bits_deBruijn64tab) }
theorem Zk (l : Nat) : ((min l 10 : Nat) : Int) = if (10 : Int) < ((l : Nat) : Int) then 10 else ((l : Nat) : Int) := by
 by_cases h : (10 : Int) < ((l : Nat) : Int)
 . rw [if_pos h, Nat.min_eq_right AA]; rfl
 rw [if_neg h, Nat.min_eq_left AA]
theorem Lg {α : Type} (l : List α) : l.take 10 = [] ++ l.take (min l.length 10) := by
 rw [List.nil_append]
 by_cases h : l.length <= 10
 . rw [Nat.min_eq_left h, List.take_length, List.take_of_length_le h]
 rw [Nat.min_eq_right AA]
set_option maxRecDepth 100000 in
set_option maxHeartbeats 8000000 in
theorem Tw (vl : Value) (l : List Bs) (w : World) (hRl : IsR elS (CX w.heap.size) w vl l) :
 Calls prog 20 #[vl] w (uN w (NewL w (l.take 10))) := by
 have E := Env.start w
 obtain ⟨o, f, rfl, z, y⟩ := hRl.shp
 replace E := E.r hRl (DF _)
 go_enter func20, ntmps20
 refine yG ?_
 refine EF O (PS RT_S O ?_)
 intro t G h D C u
 have I : w.heap.size <= t := by rw [h]; exact E.2.1.size
 replace E := E.below C
 replace E := E.x u
 refine yG ?_
 refine V (v := .int .i64 ↑(min l.length 10)) O O (vW O O O (Zk _).symm) ?_
 refine yG ?_
 refine V (v := .slice o (min l.length 10) f) O O (QQ (i := (min l.length 10)) (sz := 1) O underlying30 Z O O O AA) ?_
 replace E := E.r (e := elS) (S := CX w.heap.size) (IsR.take (i := (min l.length 10)) E.2.1.1 AA) (E.2.1.2)
 have p := E.2.1
 replace E := XS E
 refine yG ?_
 refine EF O (gJ (S := VH) O (l := []) (l2 := l.take (min l.length 10)) O (Acc.lit0 (e := elS) (base := t) (S := VH) p (Nat.le_refl _) GI) (QL _) E (fun g hg B q => ⟨DP (CJ AA), DP (CJ AA), IK AA, BX⟩) O (E.1.1) (by simp only [List.length_nil, List.length_take]; unfold maxLen; omega) (by simp only [List.length_nil, List.length_take]; omega) (Nat.le_of_lt (Bx.lt p)) ?_)
 intro H F E
 refine yG ?_
 exact ⟨_, rfl, (by rw [Lg l]; exact E.1.1.row (fun k g => g.elim) (fun _ B q _ => ⟨by omega, q⟩)), e3 E⟩
theorem Fw {a : Addr} (h : W.cell? a = some v) : a.block < W.heap.size /\ a.spot = none := by
 unfold World.cell? at h
 split at h
 . rename_i hb
   split at h
   . cases h
   rename_i hs
   exact ⟨(Array.getElem?_eq_some_iff.1 hb).1, by simpa using hs⟩
 cases h
theorem Vz (s : ByteArray) : bs s.data.toList = s := by cases s; simp [bs]
theorem Hu {enc : TypeId × Value -> H} {fuel : Nat} {c : Value} {x : DataW H × List MemPlace} (h : DataW.trod enc prog W 0 (fun _ => true) true fuel 30 [c] = some x) : ∃ l, IsR elS (CX W.heap.size) W c l := by
 rcases open_strings underlying30 underlying9 Z h with ⟨t, _⟩ | ⟨a, len, C, D, t, _, z, B, f, _, G, _⟩
 . simp only [List.cons.injEq, and_true] at t
   subst t
   exact ⟨[], IsR.nil _ _ _⟩
 simp only [List.cons.injEq, and_true] at t
 subst t
 simp only [if_true] at f
 refine ⟨(D.take len).map fun s => s.data.toList, some a, C, ?_, ?_, B, fun i x F => ?_⟩
 . rw [List.length_map, List.length_take, f, Nat.min_eq_left z]
 . rw [List.length_map, List.length_take]; omega
 rw [List.getElem?_map, Option.map_eq_some_iff] at F
 obtain ⟨s, N, rfl⟩ := F
 obtain ⟨Q, p⟩ := List.getElem?_eq_some_iff.1 N
 rw [List.length_take] at Q
 have q := G i AA
 have I := G 0 AA
 rw [Addr.add_zero'] at I
 obtain ⟨R, v⟩ := Fw I
 obtain ⟨b, o, J⟩ := a
 have k : J = none := v
 subst k
 have L : D.getD i ByteArray.empty = s := by
  rw [List.getElem_take] at p
  rw [List.getD_eq_getElem?_getD, List.getElem?_eq_getElem AA, p]; rfl
 rw [L] at q
 refine ⟨b, o, [.string (bs s.data.toList)], O, R, fun j y u => ?_, O⟩
 have P : j = 0 := by
  have := (List.getElem?_eq_some_iff.1 u).1
  simp at this; omega
 subst P
 simp only [List.getElem?_cons_zero, Option.some.injEq] at u
 subst u
 rw [Vz]
 have e : (⟨b, o + i * elS.sz + 0, none⟩ : Addr) = (⟨b, o, none⟩ : Addr).add i := by
  rw [Addr.add_lit]; show (⟨b, o + i * 1 + 0, none⟩ : Addr) = _; simp
 rw [e]; exact q
set_option maxRecDepth 100000 in
theorem Iw {enc : TypeId × Value -> H} {r : Reach} {b0 : Nat} {d : DataW H} {p : List MemPlace} (hv : Value.okWide prog W r b0 30 v) (h : DataW.Trod enc prog W 0 (fun _ => true) true 30 v d p) :
 ∃ vl, v = vl /\ ∃ l, IsR elS (CX W.heap.size) W vl l := by
 obtain ⟨o, len, k, rfl⟩ := okWide_slice underlying30 hv
 obtain ⟨e, f⟩ := h
 exact ⟨_, rfl, Hu f⟩
theorem Bv {a : Int} (h : (Lit.int .u16 a).wf = true) : ∃ n : Nat, a = (n : Int) /\ n < 65536 := by
 have e : 0 <= a /\ a < 65536 := by
  simp [Lit.wf, IntKind.min, IntKind.max, IntKind.signed, IntKind.bits] at h
  omega
 exact ⟨a.toNat, by omega, by omega⟩
structure MadeOk (n d k : Nat) (p : List Tm) : Prop where
 ok : ED p
 win : ∀ t ∈ p, within n t.2
 deg : ∀ t ∈ p, OZ t.2 8 <= d
 len : p.length <= k
 sml : ∀ t ∈ p, ∃ z : Int, t.1 = (z : Rat) /\ z.natAbs <= 3 * k
theorem Bz (n d : Nat) : MadeOk n d 0 [] := ⟨⟨fun t h => YVP, ZQ⟩, fun t h => YVP, fun t h => YVP, Nat.le_refl _, fun t h => YVP⟩
theorem MadeOk.mono {p : List Tm} (h : MadeOk n d k p) (hk : k <= k') : MadeOk n d k' p :=
 ⟨h.ok, h.win, h.deg, Nat.le_trans h.len hk, fun t ht => by obtain ⟨z, h1, h2⟩ := h.sml t ht; exact ⟨z, h1, by omega⟩⟩
theorem tB {A : Tm -> Prop} {u : Tm} (h : A u) : ∀ t ∈ [u], A t := by intro t ht; rw [List.mem_singleton] at ht; subst ht; exact h
theorem Ca {p : List Tm} (h : MadeOk n d k p) {c : Int} (hc : c.natAbs <= 3) (hm : EG m) (hw : within n m) (hd : OZ m 8 <= d) :
 MadeOk n d (k + 1) (KZ p (SX (c : Rat) [(((1 : Int) : Rat), m)])) := by
 by_cases o : (c : Rat) = 0
 . rw [show SX (c : Rat) [(((1 : Int) : Rat), m)] = [] from XX o, fQ]
   exact h.mono (Nat.le_succ k)
 rw [Ie (tB (A := fun t => EG t.2) hm) o]
 simp only [List.map_cons, List.map_nil]
 rw [show (c : Rat) * ((1 : Int) : Rat) = (c : Rat) from Rat.mul_one _]
 have q : ED [((c : Rat), m)] := PolyOk_cons.2 ⟨⟨o, hm⟩, (by intro t f; cases f), ⟨fun t f => (by cases f), ZQ⟩⟩
 refine ⟨Gj h.ok q, ?_, ?_, ?_, ?_⟩
 . exact fT (A := fun t => within n t.2) (B := fun t => within n t.2) (C := fun t => within n t.2) (fun _ h => h) (fun _ h => h) (fun _ _ e _ _ _ => e) h.win (tB (A := fun t => within n t.2) hw)
 . exact fT (A := fun t => OZ t.2 8 <= d) (B := fun t => OZ t.2 8 <= d) (C := fun t => OZ t.2 8 <= d) (fun _ h => h) (fun _ h => h) (fun _ _ e _ _ _ => e) h.deg (tB (A := fun t => OZ t.2 8 <= d) hd)
 . have e := oN p [((c : Rat), m)]
   have l := h.len
   simp only [List.length_cons, List.length_nil] at e; omega
 exact fT (A := fun t => ∃ z : Int, t.1 = (z : Rat) /\ z.natAbs <= 3 * k) (B := fun t => ∃ z : Int, t.1 = (z : Rat) /\ z.natAbs <= 3) (C := fun t => ∃ z : Int, t.1 = (z : Rat) /\ z.natAbs <= 3 * (k + 1))
  (fun _ ⟨z, e, l⟩ => ⟨z, e, by omega⟩) (fun _ ⟨z, e, l⟩ => ⟨z, e, by omega⟩) (fun _ _ ⟨z, e, l⟩ ⟨y, h3, h4⟩ _ _ => ⟨z + y, by rw [e, h3, Rat.intCast_add], by omega⟩) h.sml (tB (A := fun t => ∃ z : Int, t.1 = (z : Rat) /\ z.natAbs <= 3) ⟨c, rfl, hc⟩)
theorem MadeOk.fit {p : List Tm} (h : MadeOk n d k p) (hk : k <= 6) (hj : 4 <= j) : ∀ t ∈ p, FitQ t.1 j := fun t ht => by
 obtain ⟨z, h1, h2⟩ := h.sml t ht
 rw [h1]; exact FitQ.mono (IA (k := 4) AE (DY AA AA)) hj
theorem Fo {d : Int} {b : Int} (hd : d <= b) : ∀ {p : List Tm}, (∀ t ∈ p, ((OZ t.2 8 : Nat) : Int) <= b) -> Vm d p <= b
 | [], _ => hd
 | t :: p, h => by
   unfold Vm; rw [List.foldl_cons]
   refine Fo ?_ (p := p) (fun u hu => h u (by simp [hu]))
   have := h t AH
   split <;> omega
theorem MadeOk.fits {p : List Tm} (h : MadeOk n d k p) (hd : d <= 12) : LH n p = true :=
 fits_iff.2 ⟨(cS h.ok).2 h.win, Fo AA (fun t ht => by have := h.deg t ht; omega)⟩
theorem Dw : ∀ {l : List Nat} {i v : Nat}, i < l.length -> (l.set i v).sum + l.getD i 0 = l.sum + v
 | a :: l, 0, v, _ => by simp only [List.set_cons_zero, List.sum_cons, List.getD_cons_zero]; omega
 | a :: l, i + 1, v, h => by
   have := Dw (l := l) (i := i) (v := v) (by simpa using h)
   simp only [List.set_cons_succ, List.sum_cons, List.getD_cons_succ]; omega
theorem wY (h : m.length = 8) : OZ m 8 = m.sum := by unfold OZ; rw [List.take_of_length_le AA]
structure RowM (d i left : Nat) (m : List Nat) : Prop where
 ok : EG m
 zer : within i m
 sum : OZ m 8 + left = d
theorem Ip (d : Nat) : RowM d 0 d zeroM := ⟨DH, cO 0, by rw [show OZ zeroM 8 = 0 by decide]; omega⟩
theorem RowM.step {left v : Nat} (h : RowM d i left m) (hi : i < 8) (hv : v <= left) (hd : d <= 65535) : RowM d (i + 1) (left - v) (m.set i v) := by
 have f := h.sum
 have e := h.ok.1
 refine ⟨tH h.ok AA, fun j k => ?_, ?_⟩
 . have := h.zer j AA
   unfold me at this ⊢
   rw [List.getD_eq_getElem?_getD, List.getElem?_set_ne AA, <- List.getD_eq_getElem?_getD]; exact this
 rw [wY e] at f
 rw [wY (by rw [List.length_set]; exact e)]
 have p := Dw (l := m) (i := i) (v := v) AA
 have o : m.getD i 0 = 0 := h.zer i (Nat.le_refl _)
 omega
theorem tR (b : UInt8) {k : Nat} : ∀ {l : List Bs}, (∀ x ∈ l, x.length <= k) -> (jn b l).length <= l.length * (k + 1)
 | [], _ => Nat.zero_le _
 | [x], h => by have := h x AH; simp only [jn, List.length_cons, List.length_nil]; omega
 | x :: y :: r, h => by
   have h1 := h x AH
   have h2 := tR b (l := y :: r) (fun z hz => h z (by simp only [List.mem_cons] at hz ⊢; exact .inr hz))
   rw [IP b x AH]
   simp only [List.length_append, List.length_cons] at h2 ⊢
   rw [Nat.add_mul (r.length + 1) 1 (k + 1)]; omega
theorem Ov : ∀ {l : List Nat} {n : Nat}, n ∈ l -> n <= l.sum
 | a :: l, n, h => by
   rw [List.sum_cons]
   rcases List.mem_cons.1 h with rfl | h
   . omega
   have := Ov h; omega
theorem dig1 (h : n <= 6) : (txt (n : Int)).length <= 1 := by
 have : ∀ n : Fin 7, (txt ((n.val : Nat) : Int)).length <= 1 := by decide +kernel
 exact this ⟨n, by omega⟩
theorem dig2 (h : n <= 18) : (txt (n : Int)).length <= 2 := by
 have : ∀ n : Fin 19, (txt ((n.val : Nat) : Int)).length <= 2 := by decide +kernel
 exact this ⟨n, by omega⟩
theorem La (n : Nat) : (KD (((n : Nat) : Int) : Rat)).data.toList = txt (n : Int) := by
 unfold KD; rw [if_pos (by rw [Rat.den_intCast]; rfl), Rat.num_intCast]; exact MB _
theorem Wg (z : Int) : KA (z : Rat) = (((z.natAbs : Nat) : Int) : Rat) := by
 by_cases h : (z : Rat) < 0
 . rw [VL h, <- Rat.intCast_neg]
   have : z < 0 := by rwa [show (0 : Rat) = ((0 : Int) : Rat) from rfl, Rat.intCast_lt_intCast] at h
   congr 1; omega
 rw [SH h]
 have : ¬ z < 0 := by rwa [show (0 : Rat) = ((0 : Int) : Rat) from rfl, Rat.intCast_lt_intCast] at h
 congr 1; omega
theorem xS : ∀ (vs : List Bs) (m : List Nat), (ER vs m).length <= vs.length
 | [], _ => by simp [ER]
 | _ :: _, [] => by simp [ER]
 | v :: vs, n :: ns => by
   have := xS vs ns
   have h : (RI v n).length <= 1 := by unfold RI; split; · simp
                                       split <;> simp
   simp only [ER, List.length_append, List.length_cons]; omega
theorem rN {j : Nat} : ∀ {vs : List Bs} {m : List Nat}, (∀ v ∈ vs, v.length <= 12) -> (∀ n ∈ m, n <= 6) -> ∀ x ∈ ER vs m, x.length <= 14
 | [], _, _, _ => by simp [ER]
 | _ :: _, [], _, _ => by simp [ER]
 | v :: vs, n :: ns, hv, hn => by
   intro x hx
   rcases List.mem_append.1 hx with h | h
   . have h1 := hv v AH
     have h2 := dig1 (hn n AH)
     unfold RI at h
     split at h
     . cases h
     split at h
     . rw [List.mem_singleton] at h; subst h; omega
     rw [List.mem_singleton] at h; subst h; simp only [List.length_append, List.length_cons]; omega
   exact rN (j := j) (fun v h => hv v (by simp [h])) (fun v h => hn v (by simp [h])) x h
theorem Hp {vars : List Bs} {m : List Nat} (hv : ∀ v ∈ vars, v.length <= 12) (hl : vars.length <= 4) (hm : ∀ n ∈ m, n <= 6) (hc : (KD c).data.toList.length <= 2) : (ET vars c m).length <= 75 := by
 have o := xS vars m
 have f := rN (j := 0) hv hm
 have e : ∀ {a b : Nat}, a <= b * (14 + 1) -> b <= 5 -> a <= 75 := fun h g => by omega
 unfold ET
 split
 . refine e (tR 42 (k := 14) (fun x l => ?_)) (by simp only [List.length_cons]; omega)
   rcases List.mem_cons.1 l with rfl | h
   . omega
   exact f x h
 exact e (tR 42 (k := 14) f) AA
theorem lX {vars : List Bs} {k : Nat} : ∀ {p : List Tm} (b : Bool), (∀ t ∈ p, (ET vars (KA t.1) t.2).length <= k) -> (IW vars b p).length <= p.length * (k + 3)
 | [], _, _ => by simp [IW]
 | (c, m) :: p, b, h => by
   have h1 := h (c, m) AH
   have h2 := lX (p := p) false (fun t ht => h t (by simp [ht]))
   have h3 : (SS b (decide (c < 0))).length <= 3 := by unfold SS; split <;> split <;> decide
   simp only [IW, List.length_append, List.length_cons]
   rw [Nat.add_mul p.length 1 (k + 3)]; simp only at h1; omega
theorem MadeOk.txt {p : List Tm} (h : MadeOk n d k p) {vars : List Bs} (hv : DL j vars = true) (hj : j <= 4) (hd : d <= 6) (hk : k <= 6) : (DS vars p).length <= 500 := by
 unfold DS
 split
 . decide
 have q := lX (k := 75) (vars := vars) (p := p) true (fun t l => by
  obtain ⟨z, q, B⟩ := h.sml t l
  have u := (h.ok.1 t l).2
  refine Hp (fun v f => eM (FJ hv v f)) (Nat.le_trans (GR hv) hj) (fun e y => ?_) ?_
  . have o := h.deg t l
    unfold OZ at o; rw [List.take_of_length_le (by rw [u.1]; exact Nat.le_refl _)] at o
    have := Ov y; omega
  rw [q, Wg, La]; exact dig2 AA)
 have B := h.len
 have : p.length * (75 + 3) <= 6 * (75 + 3) := Nat.mul_le_mul_right _ AA
 omega
def nm3 : List Bs := [[120], [121, 95, 49], [90, 101, 100]]
structure MadeL (n next : Nat) (q : List En) : Prop where
 all : ∀ e ∈ q, 1 <= e.1 /\ e.1 < next /\ MadeOk n 2 3 e.2
 pw : (EL q).Pairwise (· < ·)
structure MadeS (n i : Nat) (q r : List En) (next : Nat) : Prop where
 lo : 1 <= next
 hi : next <= 1 + 4 * i
 len : q.length + r.length = i
 qe : MadeL n next q
 re : MadeL n next r
 dis : ∀ i ∈ EL q, i ∉ EL r
theorem MadeL.up {q : List En} (h : MadeL n a q) (hb : a <= b) : MadeL n b q := ⟨fun e he => by obtain ⟨h1, h2, h3⟩ := h.all e he; exact ⟨h1, by omega, h3⟩, h.pw⟩
theorem MadeL.add {q : List En} {p : List Tm} (h : MadeL n a q) (ha : 1 <= a) (hp : MadeOk n 2 3 p) : MadeL n (a + g + 1) (q ++ [(a + g, p)]) := by
 refine ⟨fun e f => ?_, ?_⟩
 . rcases List.mem_append.1 f with f | f
   . obtain ⟨t, u, o⟩ := h.all e f; exact ⟨t, by omega, o⟩
   rw [List.mem_singleton] at f; subst f; exact ⟨by simp only; omega, by simp only; omega, hp⟩
 rw [QW]
 refine List.pairwise_append.2 ⟨h.pw, by simp, fun x l y k => ?_⟩
 rw [List.mem_singleton] at k; subst k
 obtain ⟨e, f, rfl⟩ := ids_in.1 l
 have := (h.all e f).2.1; simp only; omega
theorem Jg (n : Nat) : MadeS n 0 [] [] 1 := ⟨Nat.le_refl _, Nat.le_refl _, rfl, ⟨fun e h => YVP, .nil⟩, ⟨fun e h => YVP, .nil⟩, fun e h => YVP⟩
theorem MadeS.eq {q r : List En} {p : List Tm} (h : MadeS n i q r next) (hg : g <= 3) (hp : MadeOk n 2 3 p) : MadeS n (i + 1) (q ++ [(next + g, p)]) r (next + g + 1) := by
 refine ⟨by omega, by have := h.hi; omega, by have := h.len; simp only [List.length_append, List.length_cons, List.length_nil]; omega, h.qe.add h.lo hp, h.re.up AA, fun x f k => ?_⟩
 rw [QW] at f
 rcases List.mem_append.1 f with f | f
 . exact h.dis x f k
 rw [List.mem_singleton] at f; subst f
 obtain ⟨e, l, o⟩ := ids_in.1 k
 have := (h.re.all e l).2.1; simp only at o; omega
theorem MadeS.neq {q r : List En} {p : List Tm} (h : MadeS n i q r next) (hg : g <= 3) (hp : MadeOk n 2 3 p) : MadeS n (i + 1) q (r ++ [(next + g, p)]) (next + g + 1) := by
 refine ⟨by omega, by have := h.hi; omega, by have := h.len; simp only [List.length_append, List.length_cons, List.length_nil]; omega, h.qe.up AA, h.re.add h.lo hp, fun x k f => ?_⟩
 rw [QW] at f
 rcases List.mem_append.1 f with f | f
 . exact h.dis x k f
 rw [List.mem_singleton] at f; subst f
 obtain ⟨e, l, o⟩ := ids_in.1 k
 have := (h.qe.all e l).2.1; simp only at o; omega
theorem Bu (h : n <= 3) : DL 4 (nm3.take n) = true /\ (nm3.take n).length = n := by
 have : ∀ n : Fin 4, DL 4 (nm3.take n.val) = true /\ (nm3.take n.val).length = n.val := by decide +kernel
 exact this ⟨n, by omega⟩
theorem MadeL.lis {q : List En} (h : MadeL n next q) (hl : q.length <= 12) : ID n next q = true := by
 unfold ID
 simp only [Bool.and_eq_true, decide_eq_true_eq, List.all_eq_true]
 exact ⟨⟨hl, fun e f => by obtain ⟨o, l, k⟩ := h.all e f; exact ⟨⟨o, l⟩, k.fits AA⟩⟩, h.pw⟩
theorem MadeS.sy {q r : List En} (h : MadeS n i q r next) (hn : n <= 3) (hi : i <= 6) : SyOk ⟨nm3.take n, q, r, next⟩ := by
 obtain ⟨k, o⟩ := Bu hn
 have p := h.lo
 have u := h.hi
 have t := h.len
 refine ⟨?_, fun e f => ?_⟩
 . unfold GH
   simp only [Bool.and_eq_true, decide_eq_true_eq]
   rw [o]
   exact ⟨⟨⟨⟨⟨k, p⟩, by omega⟩, h.qe.lis AA⟩, h.re.lis AA⟩, h.dis⟩
 have l : MadeOk n 2 3 e.2 := by
  rcases f with f | f
  . exact (h.qe.all e f).2.2
  exact (h.re.all e f).2.2
 exact ⟨l.ok, by have := l.txt k AA AA AA; simp only; omega⟩
theorem MadeL.pols {q : List En} (h : MadeL n next q) : PR q := fun e he => by
 have hp := (h.all e he).2.2
 exact ⟨hp.ok, hp.fit AA AA, by have := hp.len; omega⟩
end Go.Proofs.YtmppigbbkjepiaaGreatDoor
