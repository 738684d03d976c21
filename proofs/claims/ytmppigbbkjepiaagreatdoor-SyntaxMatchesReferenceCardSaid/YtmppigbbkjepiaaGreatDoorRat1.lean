/- Helping facts of RatL; no other conditions. Helping facts of Rat1; no other conditions. -/
import Derived.Test.YtmppigbbkjepiaaGreatDoorKitF
import Derived.Test.YtmppigbbkjepiaaGreatDoorDecim
namespace Go.Proofs.YtmppigbbkjepiaaGreatDoor
open Go.Proofs.Tryz
open Go.RowKit W
variable {b i j k : Nat} {c d n p' q q' x y z : Int} {e : Ending} {m : Bool} {p : Prop} {s t : Value} {w w' : World}
theorem ZFg (h : p := by
 go_enter func128, ntmps128
 go_upto_region 1 with fail
 rw [<- f]
 clear f
 go_wp2_with fail
 go_ret
 exact ⟨rfl, p⟩
 ) : p := h
theorem ZQq (h : p := by
 intro c e
 simp only [List.mem_cons, List.not_mem_nil, or_false] at e
 rcases e with h | h | h | h
 . exact h1 c (by simp [h])
 . exact h1 c (by simp [h])
 . exact h2 c (by simp [h])
 . exact h2 c (by simp [h])
 ) : p := h
theorem ZPg (h : p := by
 refine DG hf ho hc hv ?_
 rintro e w' ⟨n, s, m, t, rfl, v, u, k⟩
 exact ⟨_, rfl, h w' n s m t k ⟨u, v, E.below k⟩⟩
 ) : p := h
theorem Zqz (h : p := by
 refine zG ?_
 exact ⟨_, (by rw [e]; omega), (i + 1), o, l, _, O, O, zE, O, AA⟩
 ) : p := h
theorem kY (h : 0 < d) : (Rat.divInt n d).num = n / ((Nat.gcd n.natAbs d.natAbs : Nat) : Int) := by
 rw [Rat.num_divInt, Int.sign_eq_one_of_pos h, Int.one_mul, Nat.gcd_comm]; rfl
theorem kZ (h : 0 < d) : (((Rat.divInt n d).den : Nat) : Int) = d / ((Nat.gcd n.natAbs d.natAbs : Nat) : Int) := by
 rw [Rat.den_divInt, if_neg AA, Nat.gcd_comm, Int.natCast_ediv, Int.natAbs_of_nonneg AA]; rfl
theorem eK (h : d ≠ 0) : ((Nat.gcd n.natAbs d.natAbs : Nat) : Int) ≠ 0 := by
 have : 0 < Nat.gcd n.natAbs d.natAbs := Nat.gcd_pos_of_pos_right _ AA
 omega
theorem Ue (h : 0 < d) (hg : ((Nat.gcd n.natAbs d.natAbs : Nat) : Int) = 1) : (Rat.divInt n d).num = n /\ (((Rat.divInt n d).den : Nat) : Int) = d := by
 rw [kY h, kZ h, hg, Int.ediv_one, Int.ediv_one]; exact ⟨rfl, rfl⟩
theorem jC (h : d < 0) : (Rat.divInt n d).num = n / (-((Nat.gcd n.natAbs d.natAbs : Nat) : Int)) := by
 rw [show Rat.divInt n d = Rat.divInt (-n) (-d) from (Rat.neg_divInt_neg n d).symm, kY AA, Int.natAbs_neg, Int.natAbs_neg, Int.ediv_neg, Int.neg_ediv_of_dvd]
 exact Int.ofNat_dvd_left.2 (Nat.gcd_dvd_left _ _)
theorem jD (h : d < 0) : (((Rat.divInt n d).den : Nat) : Int) = d / (-((Nat.gcd n.natAbs d.natAbs : Nat) : Int)) := by
 rw [show Rat.divInt n d = Rat.divInt (-n) (-d) from (Rat.neg_divInt_neg n d).symm, kZ AA, Int.natAbs_neg, Int.natAbs_neg, Int.ediv_neg, Int.neg_ediv_of_dvd]
 exact Int.ofNat_dvd_left.2 (Nat.gcd_dvd_right _ _)
theorem Cb (n d : Int) : (Rat.divInt n d).num.natAbs <= n.natAbs := by
 rcases Int.lt_trichotomy d 0 with h | h | h
 . rw [jC h, Int.ediv_neg, Int.natAbs_neg]; exact Int.natAbs_ediv_le_natAbs _ _
 . subst h; simp
 rw [kY h]; exact Int.natAbs_ediv_le_natAbs _ _
theorem Cc (h0 : d ≠ 0) : (Rat.divInt n d).den <= d.natAbs := by
 have e : ((((Rat.divInt n d).den : Nat) : Int)).natAbs = (Rat.divInt n d).den := Int.natAbs_natCast _
 rcases Int.lt_trichotomy d 0 with h | h | h
 . rw [<- e, jD h, Int.ediv_neg, Int.natAbs_neg]; exact Int.natAbs_ediv_le_natAbs _ _
 . exact absurd h h0
 rw [<- e, kZ h]; exact Int.natAbs_ediv_le_natAbs _ _
theorem Vl (x : Rat) : 0 < ((x.den : Nat) : Int) := Int.natCast_pos.2 x.den_pos
theorem B4 (x y : Rat) : Rat.divInt (x.num * y.den + y.num * x.den) ((x.den : Int) * y.den) = x + y := by
 rw [<- Int.natCast_mul, Rat.divInt_ofNat, Rat.add_def']
theorem Zi (x y : Rat) : Rat.divInt (x.num * y.num) ((x.den : Int) * y.den) = x * y := by
 rw [<- Int.natCast_mul, Rat.divInt_ofNat, Rat.mul_def']
theorem Ze {x : Rat} (h : x ≠ 0) : x.num ≠ 0 := fun e => h (Rat.num_eq_zero.1 e)
def fL (x y : Rat) : Int := JC (x.num * y.den) (y.num * x.den)
theorem iJ (x y : Rat) : (x < y /\ fL x y = -1) ∨ (x = y /\ fL x y = 0) ∨ (y < x /\ fL x y = 1) := by
 have h := Rat.lt_iff x y; have f := Rat.lt_iff y x; have e := @Rat.eq_iff_mul_eq_mul x y
 unfold fL JC
 split
 . exact .inl ⟨h.2 ‹_›, rfl⟩
 split
 . exact .inr (.inl ⟨e.2 ‹_›, rfl⟩)
 exact .inr (.inr ⟨f.2 AA, rfl⟩)
theorem ST (h : 0 < z) : OP z = 1 := by unfold OP JC; rw [if_neg AA, if_neg AA]
theorem YD (h : z < 0) : OP z = -1 := by unfold OP JC; rw [if_pos h]
theorem yK {x y : Rat} (h : OP x.num < OP y.num) : fL x y = -1 := by
 have k := Vl x; have l := Vl y
 have : x.num * y.den < y.num * x.den := by
  rcases Int.lt_trichotomy x.num 0 with f | f | f
  . have o := Int.mul_neg_of_neg_of_pos f l
    rcases Int.lt_trichotomy y.num 0 with e | e | e
    . rw [YD f, YD e] at h; omega
    . rw [e, Int.zero_mul]; exact o
    have := Int.mul_pos e k; omega
  . rcases Int.lt_trichotomy y.num 0 with e | e | e
    . rw [f, YD e] at h; exact absurd h AE
    . rw [f, e] at h; omega
    have := Int.mul_pos e k; rw [f, Int.zero_mul]; omega
  rcases Int.lt_trichotomy y.num 0 with e | e | e
  . rw [ST f, YD e] at h; omega
  . rw [e, ST f] at h; exact absurd h AE
  rw [ST f, ST e] at h; omega
 unfold fL JC; rw [if_pos this]
theorem Jy (x y : Rat) : fL y x = -fL x y := by
 unfold fL JC; split <;> split <;> (try split) <;> omega
theorem Qk {x y : Rat} (h : OP y.num < OP x.num) : fL x y = 1 := by
 have := yK h; have := Jy x y; omega
theorem pos_num {x : Rat} : 0 < x ↔ 0 < x.num := by
 rw [Rat.lt_iff]; simp
def FitQ (x : Rat) (k : Nat) : Prop := Fits x.num k /\ Fits ((x.den : Nat) : Int) k
theorem FitQ.mono {x : Rat} {m n : Nat} (h : FitQ x m) (hmn : m <= n) : FitQ x n := ⟨h.1.mono hmn, h.2.mono hmn⟩
theorem zP (h0 : d ≠ 0) (hn : Fits n k) (hd : Fits d k) : FitQ (Rat.divInt n d) k :=
 ⟨lN (Cb n d) hn, lN (by rw [Int.natAbs_natCast]; exact Cc h0) hd⟩
theorem ZC (x : Rat) : ((x.den : Nat) : Int) ≠ 0 := by have := Vl x; omega
theorem Rq {x y : Rat} (hx : FitQ x j) (hy : FitQ y k) : FitQ (x + y) (j + k + 1) := by
 rw [<- B4]
 refine zP (Int.mul_ne_zero (ZC x) (ZC y)) ?_ ((GU hx.2 hy.2).mono AA)
 exact gN (m := j + k) (n := k + j) (k := j + k) (GU hx.1 hy.2) (GU hy.1 hx.2) AA AA
theorem QZ {x : Rat} (h : FitQ x k) : FitQ (-x) k := ⟨D4 h.1, h.2⟩
theorem Rp {x y : Rat} (hx : FitQ x j) (hy : FitQ y k) : FitQ (x * y) (j + k) := by
 rw [<- Zi]
 exact zP (Int.mul_ne_zero (ZC x) (ZC y)) (GU hx.1 hy.1) (GU hx.2 hy.2)
theorem Ro (h : 1 <= k) : Fits 1 k := (NF (z := 1) (m := 1) AE).mono h
theorem IA (hk : 1 <= k) (h : Fits z k) : FitQ (z : Rat) k := ⟨by rw [Rat.num_intCast]; exact h, by rw [Rat.den_intCast]; exact Ro hk⟩
theorem GP : Ag prog 64 4 [.bool false, .slice none 0 0, .bool false, .slice none 0 0] := ⟨⟨_, underlying64, rfl⟩, by kernel_rfl, rfl⟩
theorem WO {v : Value} {z' : Int} (h : z = z') (f : IsI w v z) : IsI w v z' := h ▸ f
theorem QC {n : Bool} (h1 : TU [.bool n, s]) (h2 : TU [.bool m, t]) : TU [.bool n, s, .bool m, t] := by
 exact ZQq
theorem OQ : ∀ v ∈ [Value.bool false, .slice none 0 0], v.oneCell' = true := one2 rfl
theorem LR {n m : Bool} (h1 : ∀ v ∈ [.bool n, s], v.oneCell' = true) (h2 : ∀ v ∈ [.bool m, t], v.oneCell' = true) : ∀ v ∈ [.bool n, s, .bool m, t], v.oneCell' = true := by
 exact ZQq
def RetP (w0 : World) (p q : Int) (e : Ending) (w' : World) : Prop := ∃ n s m t, e = .returned (.agg #[.bool n, s, .bool m, t]) /\ IsI w' (.agg #[.bool n, s]) p /\ IsI w' (.agg #[.bool m, t]) q /\ Below w0.heap.size w0 w'
def RetPE (w0 : World) (p q c : Int) (e : Ending) (w' : World) : Prop := ∃ n s m t, e = .returned (.tuple #[.agg #[.bool n, s, .bool m, t], .int .i64 c]) /\ IsI w' (.agg #[.bool n, s]) p /\ IsI w' (.agg #[.bool m, t]) q /\ Below w0.heap.size w0 w'
def RetX (w0 : World) (s : ByteArray) (e : Ending) (w' : World) : Prop := e = .returned (.string s) /\ Below w0.heap.size w0 w'
theorem RetP.eq {p : Int} (h : RetP w p q e w') (h1 : p = p') (h2 : q = q') : RetP w p' q' e w' := by subst h1 h2; exact h
theorem RetPE.eq {p c' : Int} (h : RetPE w p q c e w') (h1 : p = p') (h2 : q = q') (h3 : c = c') : RetPE w p' q' c' e w' := by subst h1 h2 h3; exact h
section
variable {ρ : Operand -> Value} {o : Oper} {w : World}
theorem DN {x : Operand} (ho : o.op = .fieldAddr 64 x 0) (hx : ρ x = .pointer (some ⟨b, 0, none⟩)) : (execOp ρ o).run prog w = .ok (.value (.pointer (some ⟨b, 0, none⟩))) w := by
 unfold execOp; rw [ho]
 simp [hx, go_sem]
theorem DD {x : Operand} (ho : o.op = .fieldAddr 64 x 1) (hx : ρ x = .pointer (some ⟨b, 0, none⟩)) : (execOp ρ o).run prog w = .ok (.value (.pointer (some ⟨b, 2, none⟩))) w := by
 unfold execOp; rw [ho]
 simp [hx, go_sem]
theorem CN {x : Operand} {T : Nat} {cs : List Value} {n : Bool} (ho : o.op = .load 62 x) (hx : ρ x = .pointer (some ⟨b, i, none⟩)) (hb : Bx w b T cs) (h0 : cs[i]? = some (.bool n)) (h1 : cs[i + 1]? = some s) :
 (execOp ρ o).run prog w = .ok (.value (.agg #[.bool n, s])) w := by
 unfold execOp; rw [ho]
 have f := (hb.cell i).trans h0
 have e := (hb.cell (i + 1)).trans h1
 simp [hx, Instr.loadAt, Instr.sureAddr, loadVar, loadCells, loadCellsFrom, go_sem, f, e]
theorem KR {x y : Operand} {n : Bool} (ho : o.op = .build 64 #[(0, x), (1, y)]) (hx : ρ x = .agg #[.bool n, s]) (hy : ρ y = .agg #[.bool m, t]) :
 (execOp ρ o).run prog w = .ok (.value (.agg #[.bool n, s, .bool m, t])) w := by
 unfold execOp; rw [ho]
 have e : (zeroValue 64).run prog w = .ok (.agg #[.bool false, .slice none 0 0, .bool false, .slice none 0 0]) w := by kernel_rfl
 simp [go_sem, e, hx, hy]
theorem OJ (ho : o.op = .build 64 #[]) : (execOp ρ o).run prog w = .ok (.value (.agg #[.bool false, .slice none 0 0, .bool false, .slice none 0 0])) w := by
 unfold execOp; rw [ho]
 have e : (zeroValue 64).run prog w = .ok (.agg #[.bool false, .slice none 0 0, .bool false, .slice none 0 0]) w := by kernel_rfl
 simp [go_sem, e]
theorem Mn {x : Operand} {ao : Option Addr} {n c : Nat} {N : Int} (ho : o.op = .call { callee := .builtin .len, args := #[x], argTypes := #[215] }) (hx : ρ x = .slice ao n c) (hN : (n : Int) = N) : (execOp ρ o).run prog w = .ok (.value (.int .i64 N)) w := by
 subst hN; unfold execOp; rw [ho]; simp [hx, go_sem]
theorem Mj {x y : Operand} {n : Bool} (ho : o.op = .buildSlice 215 2 #[(0, x), (1, y)]) (hx : ρ x = .agg #[.bool n, s]) (hy : ρ y = .agg #[.bool m, t]) :
 (execOp ρ o).run prog w = .ok (.value (.slice (some ⟨w.heap.size, 0, none⟩) 2 2)) (w.alloc (.cells #[.bool n, s, .bool m, t] 62)) := by
 unfold execOp; rw [ho]
 have e : ∀ w, (zeroValue 62).run prog w = .ok (.agg #[.bool false, .slice none 0 0]) w := fun w => by kernel_rfl
 simp [go_sem, Instr.buildSlice, e, hx, hy]
end
section
variable {P : Program} {o : Oper} {a : Act} {w : World} {K : Act -> World -> Prop} {Q : Exit -> Act -> World -> Prop} {f : Nat} {args : List Operand} {tys : Array TypeId} {vs : List Value} {l : List SF}
theorem CV {p : Int} (hf : Fn P f) (ho : o.op = .call { callee := .value (.func f), args := args.toArray, argTypes := tys }) (hc : Calls P f vs.toArray w (RetP w p q)) (hv : args.map a.eval = vs) (E : Env w l)
 (h : ∀ w' n s m t, Below w.heap.size w w' -> Env w' (fI (.agg #[.bool m, t]) q :: fI (.agg #[.bool n, s]) p :: l) -> K (a.put o.dst (.agg #[.bool n, s, .bool m, t])) w') : o.wp P a w K Q := by
 exact ZPg
theorem ZM {p : Int} (hf : Fn P f) (ho : o.op = .call { callee := .value (.func f), args := args.toArray, argTypes := tys }) (hc : Calls P f vs.toArray w (RetPE w p q c)) (hv : args.map a.eval = vs) (E : Env w l)
 (h : ∀ w' n s m t, Below w.heap.size w w' -> Env w' (fI (.agg #[.bool m, t]) q :: fI (.agg #[.bool n, s]) p :: l) -> K (a.put o.dst (.tuple #[.agg #[.bool n, s, .bool m, t], .int .i64 c])) w') : o.wp P a w K Q := by
 exact ZPg
end
theorem rW {ops : Array Oper} {S : World -> Prop} {o : Oper} {fr : List Value} {x y : Operand} {n : Bool} (ho : ops[i]? = some o) (hop : o.op = .buildSlice 215 2 #[(0, x), (1, y)]) (hg : o.guard = none)
 (hx : LO fr x = .agg #[.bool n, s]) (hy : LO fr y = .agg #[.bool m, t]) : RunF prog ops S i ⟨fun b => .slice (some ⟨b, 0, none⟩) 2 2, 62, [.bool n, s, .bool m, t]⟩ ⟨fr.toArray, []⟩ :=
 ⟨o, ho, by unfold Region.wanted; rw [hg], fun w _ => Mj hop (by rw [PJ]; exact hx) (by rw [PJ]; exact hy)⟩
theorem Jr : CC (1 : Int).natAbs = [1] := by
 show CC 1 = [1]
 rw [TO 1 AE, show 1 / 4294967296 = 0 from rfl, DX]
set_option maxHeartbeats 1000000 in
theorem LU (va : Value) (x : Int) (w : World) (ha : IsI w va x) :
 Calls prog 128 #[va] w (LI w (decide (x = 1))) := by
 obtain ⟨s, rfl, L, y, rfl, q, C, I, G, B⟩ := ha
 have o := Lib.hid B
 clear B G I
 unfold maxLen at C
 generalize hS : decide (x < 0) = n
 obtain ⟨W, f, F, p, t⟩ := lG w n (.slice L (CC x.natAbs).length y)
 have N := t.1
 have J := t.2
 clear t
 by_cases e : x < 0
 . rw [decide_eq_true e] at hS
   subst hS
   rw [decide_eq_false (show ¬ x = 1 by omega)]
   clear e q C o
   exact ZFg
 rw [decide_eq_false e] at hS
 subst hS
 by_cases h : (CC x.natAbs).length = 1
 . have z : (((CC x.natAbs).length : Int) == 1) = true := by rw [h]; rfl
   have k : (CC x.natAbs).length = 0 + 1 := h
   obtain ⟨b, D, rfl, v⟩ := o.out 0 AA
   have v := DB v p
   have u : val (CC x.natAbs) = x.natAbs := CO _
   have hg : gd (CC x.natAbs) 0 = x.natAbs := by
    generalize CC x.natAbs = l at *
    obtain ⟨d, rfl⟩ := List.length_eq_one_iff.1 h
    simpa [val, gd] using u
   rw [hg, Nat.add_zero] at v
   rw [h] at z J f ⊢
   by_cases q : x = 1
   . subst q
     rw [decide_eq_true rfl]
     clear e h k u hg o
     exact ZFg
   rw [decide_eq_false q]
   have H : (((x.natAbs : Nat) : Int) == 1) = false := by rw [beq_eq_false_iff_ne]; omega
   clear e h k u hg o
   exact ZFg
 have z : (((CC x.natAbs).length : Int) == 1) = false := by rw [beq_eq_false_iff_ne]; omega
 rw [decide_eq_false (show ¬ x = 1 by rintro rfl; exact h (by rw [Jr]; rfl))]
 clear e h o
 exact ZFg
set_option maxHeartbeats 8000000
set_option maxRecDepth 100000
theorem Dz (h : z < 0) : decide (OP z < 0) = true := by rw [YD h]; rfl
theorem Lv (h : 0 < z) : decide (OP z < 0) = false := by rw [ST h]; rfl
theorem Rn (hy : y ≠ 0) (h : Fits y k) : Fits ((Nat.gcd x.natAbs y.natAbs : Nat) : Int) k :=
 lN (by rw [Int.natAbs_natCast]; exact Nat.le_of_dvd AA (Nat.gcd_dvd_right _ _)) h
theorem DY (h1 : -9223372036854775808 <= n) (h2 : n <= 9223372036854775807) : Fits n 4 := NF AA
def pz (x y : Int) (i : Nat) : Int := if i = 0 then 1 else if i = 1 then x else x * y
theorem pzA0 (h : i = 0) (hx : x = 1) : pz x y i = pz x y (i + 1) := by subst h; simp [pz, hx]
theorem pzA1 (h : i = 1) (hy : y = 1) : pz x y i = pz x y (i + 1) := by subst h; simp [pz, hy]
theorem pzB0 (h : i = 0) : x = pz x y (i + 1) := by subst h; simp [pz]
theorem pzB1 (h : i = 1) (hx : pz x y i = 1) : y = pz x y (i + 1) := by subst h; simp [pz] at hx ⊢; simp [hx]
theorem pzC1 (h : i = 1) : pz x y i * y = pz x y (i + 1) := by subst h; simp [pz]
theorem Ys (h : i = 0) : decide (pz x y i = 1) = true := by subst h; rfl
theorem Yt (h : ¬ i < 2) : pz x y i = x * y := by unfold pz; rw [if_neg AA, if_neg AA]
theorem Wz (h : i < 2) (hk : 1 <= k) (hx : Fits x k) : Fits (pz x y i) k := by
 unfold pz; split
 . exact Ro hk
 rw [if_pos AA]; exact hx
theorem qP (b : Nat) (nx : Bool) (sx : Value) (ny : Bool) (sy : Value) (x y : Int) (w : World) (h1 : IsI w (.agg #[.bool nx, sx]) x) (h2 : IsI w (.agg #[.bool ny, sy]) y) (hb : Bx w b 62 [.bool nx, sx, .bool ny, sy]) (Fx : Fits x 400000000) (Fy : Fits y 400000000) :
 Calls prog 166 #[.slice (some ⟨b, 0, none⟩) 2 2] w (RetZ w (x * y)) := by
 have E := Env.start w
 have lb := Bx.lt hb
 replace E := ((E.i h1).i h2).x hb
 go_enter func166, ntmps166
 refine zG ?_
 refine EF O (CB GD O ?_)
 intro C w1 e1 z1 d1 k
 have l1 : w.heap.size <= C := by rw [e1]; exact (e3 E).size
 replace E := E.below d1
 clear e1
 refine zG ?_
 refine EF O (CH UP O (C9 1 _ AE AE) O E ?_)
 intro w2 n2 s2 d2 E
 replace k := k.below d2
 refine zG ?_
 refine EF O (CB GD O ?_)
 intro B w3 e3 z3 d3 x3
 have a1 : C < B := by rw [e3]; exact Bx.lt (k)
 replace E := E.below d3
 replace k := Bx.below k d3
 clear e3
 refine zG ?_
 refine EF O (BY GD O O O x3 O O (IsI.one E.1) ?_)
 intro w4 o4 y4
 replace E := oB E x3 o4 y4
 replace k := Bx.onl k AA o4
 refine zG ?_
 refine V (v := .int .i64 2) O O (Mn O O O) ?_
 replace E := E.b k
 replace E := E.i (WO (show (1 : Int) = pz x y 0 from rfl) E.2.2.1)
 refine zG ?_
 refine wp_loop_ghost (fun mz a w' => ∃ (i : Nat) (o : Bool) (l : Value) (h : List Value), h = a.tmps.toList /\ a = ⟨(.slice (some ⟨b, 0, none⟩) 2 2 :: undef :: .pointer (some ⟨C, 0, none⟩) :: .pointer (some ⟨B, 0, none⟩) :: undef :: CF h 5 :: .agg #[.bool n2, s2] :: .slice (some ⟨b, 0, none⟩) 2 2 :: .int .i64 2 :: .int .i64 ↑i :: gr h 10 15 []).toArray, []⟩ /\ Env w' [fB C false (.slice none 0 0), fB B o l, fI (.agg #[.bool o, l]) (pz x y i), fX b (62) ([.bool nx, sx, .bool ny, sy]), fI (.agg #[.bool ny, sy]) y, fI (.agg #[.bool nx, sx]) x, fW w] /\ mz = 2 - i /\ i <= 2) (2) ⟨0, n2, s2, _, O, O, zE, O, AE⟩ ?_
 rintro m5 _ w5 ⟨i, o, l, h, -, rfl, E, e, ag⟩
 dsimp only [gr, Nat.reduceAdd]
 by_cases hi : i < 2
 case neg =>
  have p := E.1
  refine zG ?_
  replace E := VI E
  refine zG ?_
  refine EF O (BY GD O O O p O O (IsI.one E.2.1) ?_)
  intro a3 N D
  replace E := oB E p N D
  have r1 := DA GD E.1 rfl
  refine zG ?_
  exact AQ (v := .agg #[.bool o, l]) (by simp [results, results166, asAddr, r1]) O ⟨_, O, WO (Yt hi) E.2.2.1, e6 E⟩
 by_cases f : i = 0
 case pos =>
  refine zG ?_
  refine V (v := .pointer (some ⟨b, 0 + i * 2, none⟩)) O O (VY (j := i) O underlying215 Z O O O AA) ?_
  refine V O O (CN O O (e3 E) (by rw [f]; rfl) (by rw [f]; rfl)) ?_
  refine zG ?_
  refine EF O (CB GD O ?_)
  intro b6 w6 e6 z6 d6 x6
  have a0 : B < b6 := by rw [e6]; exact Bx.lt E.2.1
  replace E := E.below d6
  clear e6
  refine zG ?_
  refine EF O (BY GD O O O x6 O O (IsI.one (e5 E)) ?_)
  intro w7 o7 y7
  replace E := oB E x6 o7 y7
  by_cases h1 : x = 1
  . refine zG ?_
    refine EF O (CA DT O (LU _ x _ (e6 E)) O E ?_)
    intro w8 d8 E
    refine zG ?_
    refine AO (congrArg Value.bool (decide_eq_true h1)) ?_
    replace E := E.i (WO (z' := pz x y (i + 1)) (pzA0 f h1) (e3 E))
    exact Zqz
  refine zG ?_
  refine EF O (CA DT O (LU _ x _ (e6 E)) O E ?_)
  intro w9 d9 E
  refine zG ?_
  refine AP (congrArg Value.bool (decide_eq_false h1)) ?_
  refine zG ?_
  refine EF O (CA DT O (LU _ (pz x y i) _ (e3 E)) O E ?_)
  intro af am E
  refine zG ?_
  refine AO (congrArg Value.bool (Ys f)) ?_
  have z := E.2.2.1
  refine zG ?_
  replace E := kB E
  refine zG ?_
  refine EF O (BY GD O O O z O O (IsI.one (e5 E)) ?_)
  intro ae S I
  replace E := oB E z S I
  replace E := E.i (WO (z' := pz x y (i + 1)) (pzB0 f) (e6 E))
  refine zG ?_
  exact ⟨_, (by rw [e]; omega), (i + 1), nx, sx, _, O, O, zE, O, AA⟩
 replace f : i = 1 := by omega
 refine zG ?_
 refine V (v := .pointer (some ⟨b, 0 + i * 2, none⟩)) O O (VY (j := i) O underlying215 Z O O O AA) ?_
 refine V O O (CN O O (e3 E) (by rw [f]; rfl) (by rw [f]; rfl)) ?_
 refine zG ?_
 refine EF O (CB GD O ?_)
 intro Y ad WP a2 X u
 have U : B < Y := by rw [WP]; exact Bx.lt E.2.1
 replace E := E.below X
 clear WP
 refine zG ?_
 refine EF O (BY GD O O O u O O (IsI.one (e4 E)) ?_)
 intro ac R H
 replace E := oB E u R H
 by_cases h1 : y = 1
 . refine zG ?_
   refine EF O (CA DT O (LU _ y _ (e5 E)) O E ?_)
   intro ab al E
   refine zG ?_
   refine AO (congrArg Value.bool (decide_eq_true h1)) ?_
   replace E := E.i (WO (z' := pz x y (i + 1)) (pzA1 f h1) (e3 E))
   exact Zqz
 refine zG ?_
 refine EF O (CA DT O (LU _ y _ (e5 E)) O E ?_)
 intro aa ak E
 refine zG ?_
 refine AP (congrArg Value.bool (decide_eq_false h1)) ?_
 by_cases h2 : pz x y i = 1
 case pos =>
  refine zG ?_
  refine EF O (CA DT O (LU _ (pz x y i) _ (e3 E)) O E ?_)
  intro a9 aj E
  refine zG ?_
  refine AO (congrArg Value.bool (decide_eq_true h2)) ?_
  have t := E.2.2.1
  refine zG ?_
  replace E := kB E
  refine zG ?_
  refine EF O (BY GD O O O t O O (IsI.one (e4 E)) ?_)
  intro a8 Q G
  replace E := oB E t Q G
  replace E := E.i (WO (z' := pz x y (i + 1)) (pzB1 f h2) (e5 E))
  refine zG ?_
  exact ⟨_, (by rw [e]; omega), (i + 1), ny, sy, _, O, O, zE, O, AA⟩
 refine zG ?_
 refine EF O (CA DT O (LU _ (pz x y i) _ (e3 E)) O E ?_)
 intro a7 ai E
 refine zG ?_
 refine AP (congrArg Value.bool (decide_eq_false h2)) ?_
 refine zG ?_
 refine EF O (CH nP O (Mul_z _ _ (pz x y i) y _ (e3 E) (e5 E) (Fits.mono (Wz hi AE Fx) AE) (Fits.mono Fy AE)) O E ?_)
 intro a6 T J ah E
 have q := e3 E
 refine zG ?_
 replace E := Fk E
 refine zG ?_
 refine EF O (BY GD O O O q O O (IsI.one E.1) ?_)
 intro a4 P F
 replace E := oB E q P F
 replace E := E.i (WO (z' := pz x y (i + 1)) (pzC1 f) E.2.1)
 refine zG ?_
 exact ⟨_, (by rw [e]; omega), (i + 1), T, J, _, O, O, zE, O, AA⟩
theorem Dl (va : Value) (n : Int) (w : World) (hva : IsI w va n) :
 Calls prog 135 #[va] w (RetP w ((n : Int) : Rat).num (((((n : Int) : Rat)).den : Nat) : Int)) := by
 have E := Env.start w
 obtain ⟨h, f, rfl, _, _⟩ := hva.sh
 replace E := E.i hva
 go_enter func135, ntmps135
 refine zG ?_
 refine EF O (CI O O ?_)
 intro q N e1 H D u
 have P : w.heap.size <= q := by rw [e1]; exact E.2.1.size
 replace E := E.below D
 clear e1
 replace E := E.b u
 refine zG ?_
 refine EF O (CB GP O ?_)
 intro F L e2 G C e
 have p : q < F := by rw [e2]; exact Bx.lt E.1
 replace E := E.below C
 clear e2
 refine zG ?_
 refine sE E [0,1,2,3] ?_
 replace E := E.drew
 replace e := Bx.drew e
 refine zG ?_
 refine GZ (o := ⟨some 4, _, _, _, _, _⟩) O O O O (CH UP O (C9 1 _ AE AE) O E ?_)
 intro J l k B E
 replace e := e.below B
 refine ⟨E.2, ?_⟩
 refine zG ?_
 refine SW (v := .agg #[.bool h, f, .bool l, k]) O O O O O (fun w Q => KR O O O) ?_
 refine zG ?_
 refine GZ (o := ⟨none, _, _, _, _, _⟩) O O O O (BY GP O O O e O O (LR (IsI.one E.2.2.1) (IsI.one E.1)) ?_)
 intro I z t
 replace E := (E.onl (e.noW (QC FV FV)) zK z).x t
 refine ⟨E.2.2, ?_⟩
 have r1 := DA GP E.1 rfl
 refine zG ?_
 exact AQ (v := .agg #[.bool h, f, .bool l, k]) (by simp [results, results135, asAddr, r1]) O ⟨_, _, _, _, O, WO O (e3 E), WO O E.2.1, e4 E⟩
theorem uM (n : Int) (w : World) (h1 : -9223372036854775808 <= n) (h2 : n <= 9223372036854775807) :
 Calls prog 88 #[.int .i64 n] w (RetP w ((n : Int) : Rat).num (((((n : Int) : Rat)).den : Nat) : Int)) := by
 have E := Env.start w
 go_enter func88, ntmps88
 refine zG ?_
 refine EF O (CB GP O ?_)
 intro z G e1 B y e
 have J : w.heap.size <= z := by rw [e1]; exact E.1.size
 replace E := E.below y
 clear e1
 refine zG ?_
 refine EF O (CH UP O (C9 n _ h1 h2) O E ?_)
 intro F I H u E
 replace e := e.below u
 have L : Fits n 4 := DY h1 h2
 refine zG ?_
 refine EF O (CV UE O (Dl _ n _ E.1) O E ?_)
 intro D p k q h t E
 replace e := e.below t
 refine zG ?_
 refine EF O (BY GP O O O e O O (LR (IsI.one E.2.1) (IsI.one E.1)) ?_)
 intro C o f
 replace E := (E.onl (e.noW (QC FV FV)) zK o).x f
 have r1 := DA GP E.1 rfl
 refine zG ?_
 exact AQ (v := .agg #[.bool p, k, .bool q, h]) (by simp [results, results88, asAddr, r1]) O ⟨_, _, _, _, O, WO O E.2.2.1, WO O E.2.1, e4 E⟩
theorem Gz (na : Bool) (sa : Value) (ma : Bool) (ta : Value) (x : Rat) (w : World) (hna : IsI w (.agg #[.bool na, sa]) x.num) (hda : IsI w (.agg #[.bool ma, ta]) ((x.den : Nat) : Int)) (Fx : FitQ x 100000000) :
 Calls prog 44 #[.agg #[.bool na, sa, .bool ma, ta]] w (RetP w (-x).num (((-x).den : Nat) : Int)) := by
 have E := Env.start w
 replace E := (E.i hna).i hda
 go_enter func44, ntmps44
 refine zG ?_
 refine EF O (CI (cs := [.bool na, sa, .bool ma, ta]) O O ?_)
 intro p L e1 G C t
 have N : w.heap.size <= p := by rw [e1]; exact E.2.2.1.size
 replace E := E.below C
 clear e1
 replace E := E.x t
 refine zG ?_
 refine EF O (CB GP O ?_)
 intro D J e2 F B e
 have l : p < D := by rw [e2]; exact Bx.lt E.1
 replace E := E.below B
 clear e2
 refine zG ?_
 refine sE E [0,1,3,4,2,5,6] ?_
 replace E := E.drew
 replace e := Bx.drew e
 refine SW O O O O O (fun w f => DN O O) ?_
 refine SW O O O O O (fun w f => CN O O (f.1) O O) ?_
 refine SW O O O O O (fun w f => DD O O) ?_
 refine SW O O O O O (fun w f => CN O O (f.1) O O) ?_
 refine zG ?_
 refine GZ (o := ⟨some 5, _, _, _, _, _⟩) O O O O (CH nO O (Neg_z _ x.num _ E.2.2.1 (Fits.mono Fx.1 AE)) O E ?_)
 intro I k h z E
 replace e := e.below z
 refine ⟨E.2, ?_⟩
 refine zG ?_
 refine SW (v := .agg #[.bool k, h, .bool ma, ta]) O O O O O (fun w f => KR O O O) ?_
 refine zG ?_
 refine GZ (o := ⟨none, _, _, _, _, _⟩) O O O O (BY GP O O O e O O (LR (IsI.one E.1) (IsI.one E.2.2.1)) ?_)
 intro H y q
 replace E := (E.onl (e.noW (QC FV FV)) zK y).x q
 refine ⟨E.2.2, ?_⟩
 have r1 := DA GP E.1 rfl
 refine zG ?_
 exact AQ (v := .agg #[.bool k, h, .bool ma, ta]) (by simp [results, results44, asAddr, r1]) O ⟨_, _, _, _, O, WO O E.2.1, WO O (e3 E), e5 E⟩
theorem QG (na : Bool) (sa : Value) (ma : Bool) (ta : Value) (x : Rat) (w : World) (hna : IsI w (.agg #[.bool na, sa]) x.num) (hda : IsI w (.agg #[.bool ma, ta]) ((x.den : Nat) : Int)) :
 Calls prog 81 #[.agg #[.bool na, sa, .bool ma, ta]] w (XR w (OP x.num)) := by
 have E := Env.start w
 replace E := (E.i hna).i hda
 go_enter func81, ntmps81
 refine zG ?_
 refine EF O (CI (cs := [.bool na, sa, .bool ma, ta]) O O ?_)
 intro p l e1 h f e
 replace E := E.below f
 clear e1
 replace E := E.x e
 refine zG ?_
 refine V O O (DN O O) ?_
 refine V O O (CN O O E.1 O O) ?_
 refine zG ?_
 refine EF O (CE RF O (oQ _ x.num _ E.2.2.1) O E ?_)
 intro k o E
 refine zG ?_
 exact ⟨rfl, e3 E⟩
theorem Xq (na : Bool) (sa : Value) (ma : Bool) (ta : Value) (x : Rat) (nb : Bool) (sb : Value) (mb : Bool) (tb : Value) (y : Rat) (w : World) (hna : IsI w (.agg #[.bool na, sa]) x.num) (hda : IsI w (.agg #[.bool ma, ta]) ((x.den : Nat) : Int)) (hnb : IsI w (.agg #[.bool nb, sb]) y.num) (hdb : IsI w (.agg #[.bool mb, tb]) ((y.den : Nat) : Int)) (Fx : FitQ x 100000000) (Fy : FitQ y 100000000) :
 Calls prog 130 #[.agg #[.bool na, sa, .bool ma, ta], .agg #[.bool nb, sb, .bool mb, tb]] w (XR w (fL x y)) := by
 have E := Env.start w
 replace E := (E.i hna).i hda
 replace E := (E.i hnb).i hdb
 go_enter func130, ntmps130
 refine zG ?_
 refine EF O (CI (cs := [.bool na, sa, .bool ma, ta]) O O ?_)
 intro t w1 e1 U S z
 replace E := E.below S
 clear e1
 replace E := E.x z
 refine zG ?_
 refine EF O (CI (cs := [.bool nb, sb, .bool mb, tb]) O O ?_)
 intro f w2 e2 T P u
 replace E := E.below P
 clear e2
 replace E := E.x u
 refine zG ?_
 refine sE E [0,2,1,3,4,5] ?_
 replace E := E.drew
 refine SW O O O O O (fun w e => CY GP O O (e.2.1) O) ?_
 refine SW O O O O O (fun w e => CY GP O O (e.1) O) ?_
 refine zG ?_
 refine GZ (o := ⟨some 8, _, _, _, _, _⟩) O O O O (CE EB O (QG _ _ _ _ x _ (e5 E) (e4 E)) O E ?_)
 intro w3 d3 E
 refine ⟨E, ?_⟩
 refine zG ?_
 refine GZ (o := ⟨some 10, _, _, _, _, _⟩) O O O O (CE EB O (QG _ _ _ _ y _ (e3 E) E.2.2.1) O E ?_)
 intro B d4 E
 refine ⟨E, ?_⟩
 by_cases h1 : (OP x.num) = (OP y.num)
 case neg =>
  by_cases J : (OP x.num) < (OP y.num)
  . refine zG ?_
    exact ⟨FO (yK J).symm, e6 E⟩
  refine zG ?_
  exact ⟨FO (Qk AA).symm, e6 E⟩
 have k : f < B.heap.size := Bx.lt E.1
 refine zG ?_
 refine MV E [.op 0, .op 1, .op 2, .op 3, .op 6, .op 7, .op 8, .op 9, .av 4, .av 10, .op 4, .op 5, .op 10] 3 (#[true, true, true, true, true, true, true, true, true, true, true, false, false, false]) Z Z Z Z AF AF ?_
 refine FP (v := .pointer (some ⟨t, 0, none⟩)) O O O O O (fun w e => DN O O) ?_
 refine FP (v := .agg #[.bool na, sa]) O O O O O (fun w e => CN O O (e.2.1) O O) ?_
 refine FP (v := .pointer (some ⟨f, 2, none⟩)) O O O O O (fun w e => DD O O) ?_
 refine FP (v := .agg #[.bool mb, tb]) O O O O O (fun w e => CN O O (e.1) O O) ?_
 refine zG ?_
 refine FP (v := .pointer (some ⟨f, 0, none⟩)) O O O O O (fun w e => DN O O) ?_
 refine FP (v := .agg #[.bool nb, sb]) O O O O O (fun w e => CN O O (e.1) O O) ?_
 refine FP (v := .pointer (some ⟨t, 2, none⟩)) O O O O O (fun w e => DD O O) ?_
 refine FP (v := .agg #[.bool ma, ta]) O O O O O (fun w e => CN O O (e.2.1) O O) ?_
 refine FA _ (rW O O O O O) ?_
 refine FA _ (rW O O O O O) ?_
 refine zG ?_
 refine FF O O ?_
 intro q f6 u6
 have p : f < q := by omega
 refine zG ?_
 refine FE O O O O ?_
 intro X E
 refine CH RK O (qP q _ _ _ _ x.num ((y.den : Nat) : Int) _ (e6 E) (e3 E) E.1 (Fits.mono Fx.1 AE) (Fits.mono Fy.2 AE)) O E ?_
 intro Y n8 s8 N E
 refine kF N E O ?_
 refine zG ?_
 refine FF O O ?_
 intro l L G
 refine zG ?_
 intro F E
 refine H1 (i := 11) Z ?_
 refine HE (o := ⟨some 28, _, _, _, _, _⟩) O O (CH RK O (qP l _ _ _ _ y.num ((x.den : Nat) : Int) _ (e6 E) (e7 E) E.1 (Fits.mono Fy.1 AE) (Fits.mono Fx.2 AE)) O E ?_)
 intro D I H R E
 refine ⟨E.2.2.2.2, ?_⟩
 refine zG ?_
 refine H1 (i := 12) Z ?_
 refine HE (o := ⟨some 29, _, _, _, _, _⟩) O O (CE nR O (Cmp_z _ _ (x.num * ((y.den : Nat) : Int)) (y.num * ((x.den : Nat) : Int)) _ E.2.2.1 E.1) O E ?_)
 intro C Q E
 refine ⟨E.2.2.2.2, ?_⟩
 refine zG ?_
 refine HP (i := 13) (o := ⟨some 4, _, _, _, _, _⟩) (v := .int .i64 (JC (x.num * ((y.den : Nat) : Int)) (y.num * ((x.den : Nat) : Int)))) O Z (fun _ _ _ h => h) O (fun w e => IF O O) (E.2.2.2.2) ?_
 refine zG ?_
 refine HN Z ?_
 refine zG ?_
 exact ⟨rfl, RA E⟩
end Go.Proofs.YtmppigbbkjepiaaGreatDoor
