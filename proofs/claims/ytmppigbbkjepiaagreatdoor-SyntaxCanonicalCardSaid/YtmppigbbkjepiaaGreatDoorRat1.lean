/- Plain laws of rational numbers: lowest terms, order, the simplest number of an interval; how many words they have. Rationals: two integers in four cells. Their rules, and isOne. Package rational, up to its order. (Printed by g_rat1.py.) -/
import Derived.Test.YtmppigbbkjepiaaGreatDoorKitF
import Derived.Test.YtmppigbbkjepiaaGreatDoorDecim
namespace Go.Proofs.YtmppigbbkjepiaaGreatDoor
open Go.Proofs.Tryz
open Go.RowKit W
theorem gE {n d : Int} (h : 0 < d) : (Rat.divInt n d).num = n / ((Nat.gcd n.natAbs d.natAbs : Nat) : Int) := by
  rw [Rat.num_divInt, Int.sign_eq_one_of_pos h, Int.one_mul, Nat.gcd_comm]; rfl
theorem gF {n d : Int} (h : 0 < d) : (((Rat.divInt n d).den : Nat) : Int) = d / ((Nat.gcd n.natAbs d.natAbs : Nat) : Int) := by
  rw [Rat.den_divInt, if_neg Z, Nat.gcd_comm, Int.natCast_ediv, Int.natAbs_of_nonneg Z]; rfl
theorem aU {n d : Int} (h : d ≠ 0) : ((Nat.gcd n.natAbs d.natAbs : Nat) : Int) ≠ 0 := by
  have : 0 < Nat.gcd n.natAbs d.natAbs := Nat.gcd_pos_of_pos_right _ Z
  omega
theorem Lx {n d : Int} (h : 0 < d) (hg : ((Nat.gcd n.natAbs d.natAbs : Nat) : Int) = 1) : (Rat.divInt n d).num = n ∧ (((Rat.divInt n d).den : Nat) : Int) = d := by
  rw [gE h, gF h, hg, Int.ediv_one, Int.ediv_one]; exact ⟨rfl, rfl⟩
theorem dP {n d : Int} (h : d < 0) : (Rat.divInt n d).num = n / (-((Nat.gcd n.natAbs d.natAbs : Nat) : Int)) := by
  rw [show Rat.divInt n d = Rat.divInt (-n) (-d) from (Rat.neg_divInt_neg n d).symm, gE Z, Int.natAbs_neg, Int.natAbs_neg, Int.ediv_neg, Int.neg_ediv_of_dvd]
  exact Int.ofNat_dvd_left.2 (Nat.gcd_dvd_left _ _)
theorem dQ {n d : Int} (h : d < 0) : (((Rat.divInt n d).den : Nat) : Int) = d / (-((Nat.gcd n.natAbs d.natAbs : Nat) : Int)) := by
  rw [show Rat.divInt n d = Rat.divInt (-n) (-d) from (Rat.neg_divInt_neg n d).symm, gF Z, Int.natAbs_neg, Int.natAbs_neg, Int.ediv_neg, Int.neg_ediv_of_dvd]
  exact Int.ofNat_dvd_left.2 (Nat.gcd_dvd_right _ _)
theorem vQ (n d : Int) : (Rat.divInt n d).num.natAbs ≤ n.natAbs := by
  rcases Int.lt_trichotomy d 0 with h | h | h
  · rw [dP h, Int.ediv_neg, Int.natAbs_neg]; exact Int.natAbs_ediv_le_natAbs _ _
  · subst h; simp
  · rw [gE h]; exact Int.natAbs_ediv_le_natAbs _ _
theorem vR {n d : Int} (h0 : d ≠ 0) : (Rat.divInt n d).den ≤ d.natAbs := by
  have e : ((((Rat.divInt n d).den : Nat) : Int)).natAbs = (Rat.divInt n d).den := Int.natAbs_natCast _
  rcases Int.lt_trichotomy d 0 with h | h | h
  · rw [← e, dQ h, Int.ediv_neg, Int.natAbs_neg]; exact Int.natAbs_ediv_le_natAbs _ _
  · exact absurd h h0
  · rw [← e, gF h]; exact Int.natAbs_ediv_le_natAbs _ _
theorem Mv (x : Rat) : 0 < ((x.den : Nat) : Int) := Int.natCast_pos.2 x.den_pos
theorem Rv (x y : Rat) : Rat.divInt (x.num * y.den + y.num * x.den) ((x.den : Int) * y.den) = x + y := by
  rw [← Int.natCast_mul, Rat.divInt_ofNat, Rat.add_def']
theorem Qr (x y : Rat) : Rat.divInt (x.num * y.num) ((x.den : Int) * y.den) = x * y := by
  rw [← Int.natCast_mul, Rat.divInt_ofNat, Rat.mul_def']
theorem Qo {x : Rat} (h : x ≠ 0) : x.num ≠ 0 := fun e => h (Rat.num_eq_zero.1 e)
def cT (x y : Rat) : Int := IR (x.num * y.den) (y.num * x.den)
theorem mT (x y : Rat) : (x < y ∧ cT x y = -1) ∨ (x = y ∧ cT x y = 0) ∨ (y < x ∧ cT x y = 1) := by
  have h := Rat.lt_iff x y; have f := Rat.lt_iff y x; have e := @Rat.eq_iff_mul_eq_mul x y
  unfold cT IR
  split
  · exact .inl ⟨h.2 ‹_›, rfl⟩
  · split
    · exact .inr (.inl ⟨e.2 ‹_›, rfl⟩)
    · exact .inr (.inr ⟨f.2 Z, rfl⟩)
theorem QH {z : Int} (h : 0 < z) : NA z = 1 := by unfold NA IR; rw [if_neg Z, if_neg Z]
theorem VQ {z : Int} (h : z < 0) : NA z = -1 := by unfold NA IR; rw [if_pos h]
theorem tB {x y : Rat} (h : NA x.num < NA y.num) : cT x y = -1 := by
  have k := Mv x; have l := Mv y
  have : x.num * y.den < y.num * x.den := by
    rcases Int.lt_trichotomy x.num 0 with f | f | f
    · have o := Int.mul_neg_of_neg_of_pos f l
      rcases Int.lt_trichotomy y.num 0 with e | e | e
      · rw [VQ f, VQ e] at h; omega
      · rw [e, Int.zero_mul]; exact o
      · have := Int.mul_pos e k; omega
    · rcases Int.lt_trichotomy y.num 0 with e | e | e
      · rw [f, VQ e] at h; exact absurd h AD
      · rw [f, e] at h; omega
      · have := Int.mul_pos e k; rw [f, Int.zero_mul]; omega
    · rcases Int.lt_trichotomy y.num 0 with e | e | e
      · rw [QH f, VQ e] at h; omega
      · rw [e, QH f] at h; exact absurd h AD
      · rw [QH f, QH e] at h; omega
  unfold cT IR; rw [if_pos this]
theorem Dk (x y : Rat) : cT y x = -cT x y := by
  unfold cT IR; split <;> split <;> (try split) <;> omega
theorem Iu {x y : Rat} (h : NA y.num < NA x.num) : cT x y = 1 := by
  have := tB h; have := Dk x y; omega
theorem pos_num {x : Rat} : 0 < x ↔ 0 < x.num := by
  rw [Rat.lt_iff]; simp
def FitQ (x : Rat) (k : Nat) : Prop := Fits x.num k ∧ Fits ((x.den : Nat) : Int) k
theorem FitQ.mono {x : Rat} {m n : Nat} (h : FitQ x m) (hmn : m ≤ n) : FitQ x n := ⟨h.1.mono hmn, h.2.mono hmn⟩
theorem tT {n d : Int} {k : Nat} (h0 : d ≠ 0) (hn : Fits n k) (hd : Fits d k) : FitQ (Rat.divInt n d) k :=
  ⟨gP (vQ n d) hn, gP (by rw [Int.natAbs_natCast]; exact vR h0) hd⟩
theorem WM (x : Rat) : ((x.den : Nat) : Int) ≠ 0 := by have := Mv x; omega
theorem FitQ_add {x y : Rat} {j k : Nat} (hx : FitQ x j) (hy : FitQ y k) : FitQ (x + y) (j + k + 1) := by
  rw [← Rv]
  refine tT (Int.mul_ne_zero (WM x) (WM y)) ?_ ((FZ hx.2 hy.2).mono Z)
  exact bY (m := j + k) (n := k + j) (k := j + k) (FZ hx.1 hy.2) (FZ hy.1 hx.2) Z Z
theorem WZ {x : Rat} {k : Nat} (h : FitQ x k) : FitQ (-x) k := ⟨tS h.1, h.2⟩
theorem Ju {x y : Rat} {j k : Nat} (hx : FitQ x j) (hy : FitQ y k) : FitQ (x * y) (j + k) := by
  rw [← Qr]
  exact tT (Int.mul_ne_zero (WM x) (WM y)) (FZ hx.1 hy.1) (FZ hx.2 hy.2)
theorem Jt {k : Nat} (h : 1 ≤ k) : Fits 1 k := (LU (z := 1) (m := 1) AD).mono h
theorem RC {z : Int} {k : Nat} (hk : 1 ≤ k) (h : Fits z k) : FitQ (z : Rat) k := ⟨by rw [Rat.num_intCast]; exact h, by rw [Rat.den_intCast]; exact Jt hk⟩
end Go.Proofs.YtmppigbbkjepiaaGreatDoor
namespace Go.Proofs.YtmppigbbkjepiaaGreatDoor
open Go.Proofs.Tryz
open Go.RowKit W
theorem GI : Ag prog 64 4 [.bool false, .slice none 0 0, .bool false, .slice none 0 0] := ⟨⟨_, underlying64, rfl⟩, by kernel_rfl, rfl⟩
theorem VD {w : World} {v : Value} {z z' : Int} (h : z = z') (f : IsI w v z) : IsI w v z' := h ▸ f
theorem NL {n m : Bool} {s t : Value} (h1 : VC [.bool n, s]) (h2 : VC [.bool m, t]) : VC [.bool n, s, .bool m, t] := by
  intro c e
  simp only [List.mem_cons, List.not_mem_nil, or_false] at e
  rcases e with h | h | h | h
  · exact h1 c (by simp [h])
  · exact h1 c (by simp [h])
  · exact h2 c (by simp [h])
  · exact h2 c (by simp [h])
theorem NG : ∀ v ∈ [Value.bool false, .slice none 0 0], v.oneCell' = true := one2 rfl
theorem LM {n m : Bool} {s t : Value} (h1 : ∀ v ∈ [.bool n, s], v.oneCell' = true) (h2 : ∀ v ∈ [.bool m, t], v.oneCell' = true) : ∀ v ∈ [.bool n, s, .bool m, t], v.oneCell' = true := by
  intro c e
  simp only [List.mem_cons, List.not_mem_nil, or_false] at e
  rcases e with h | h | h | h
  · exact h1 c (by simp [h])
  · exact h1 c (by simp [h])
  · exact h2 c (by simp [h])
  · exact h2 c (by simp [h])
def pK (w0 : World) (p q : Int) (e : Ending) (w' : World) : Prop := ∃ n s m t, e = .returned (.agg #[.bool n, s, .bool m, t]) ∧ IsI w' (.agg #[.bool n, s]) p ∧ IsI w' (.agg #[.bool m, t]) q ∧ Below w0.heap.size w0 w'
def Aq (w0 : World) (p q c : Int) (e : Ending) (w' : World) : Prop := ∃ n s m t, e = .returned (.tuple #[.agg #[.bool n, s, .bool m, t], .int .i64 c]) ∧ IsI w' (.agg #[.bool n, s]) p ∧ IsI w' (.agg #[.bool m, t]) q ∧ Below w0.heap.size w0 w'
def RetX (w0 : World) (s : ByteArray) (e : Ending) (w' : World) : Prop := e = .returned (.string s) ∧ Below w0.heap.size w0 w'
section
variable {ρ : Operand → Value} {o : Oper} {w : World}
theorem DV {x : Operand} {b : Nat} (ho : o.op = .fieldAddr 64 x 0) (hx : ρ x = .pointer (some ⟨b, 0, none⟩)) : (execOp ρ o).run prog w = .ok (.value (.pointer (some ⟨b, 0, none⟩))) w := by
  unfold execOp; rw [ho]
  simp [hx, go_sem]
theorem DK {x : Operand} {b : Nat} (ho : o.op = .fieldAddr 64 x 1) (hx : ρ x = .pointer (some ⟨b, 0, none⟩)) : (execOp ρ o).run prog w = .ok (.value (.pointer (some ⟨b, 2, none⟩))) w := by
  unfold execOp; rw [ho]
  simp [hx, go_sem]
theorem CO {x : Operand} {b i T : Nat} {cs : List Value} {n : Bool} {s : Value} (ho : o.op = .load 62 x) (hx : ρ x = .pointer (some ⟨b, i, none⟩)) (hb : Bx w b T cs) (h0 : cs[i]? = some (.bool n)) (h1 : cs[i + 1]? = some s) :
    (execOp ρ o).run prog w = .ok (.value (.agg #[.bool n, s])) w := by
  unfold execOp; rw [ho]
  have f := (hb.cell i).trans h0
  have e := (hb.cell (i + 1)).trans h1
  simp [hx, Instr.loadAt, Instr.sureAddr, loadVar, loadCells, loadCellsFrom, go_sem, f, e]
theorem KY {x y : Operand} {n m : Bool} {s t : Value} (ho : o.op = .build 64 #[(0, x), (1, y)]) (hx : ρ x = .agg #[.bool n, s]) (hy : ρ y = .agg #[.bool m, t]) :
    (execOp ρ o).run prog w = .ok (.value (.agg #[.bool n, s, .bool m, t])) w := by
  unfold execOp; rw [ho]
  have e : (zeroValue 64).run prog w = .ok (.agg #[.bool false, .slice none 0 0, .bool false, .slice none 0 0]) w := by kernel_rfl
  simp [go_sem, e, hx, hy]
theorem NB (ho : o.op = .build 64 #[]) : (execOp ρ o).run prog w = .ok (.value (.agg #[.bool false, .slice none 0 0, .bool false, .slice none 0 0])) w := by
  unfold execOp; rw [ho]
  have e : (zeroValue 64).run prog w = .ok (.agg #[.bool false, .slice none 0 0, .bool false, .slice none 0 0]) w := by kernel_rfl
  simp [go_sem, e]
theorem Ga {x : Operand} {ao : Option Addr} {n c : Nat} {N : Int} (ho : o.op = .call { callee := .builtin .len, args := #[x], argTypes := #[215] }) (hx : ρ x = .slice ao n c) (hN : (n : Int) = N) : (execOp ρ o).run prog w = .ok (.value (.int .i64 N)) w := by
  subst hN; unfold execOp; rw [ho]; simp [hx, go_sem]
theorem Fu {x y : Operand} {n m : Bool} {s t : Value} (ho : o.op = .buildSlice 215 2 #[(0, x), (1, y)]) (hx : ρ x = .agg #[.bool n, s]) (hy : ρ y = .agg #[.bool m, t]) :
    (execOp ρ o).run prog w = .ok (.value (.slice (some ⟨w.heap.size, 0, none⟩) 2 2)) (w.alloc (.cells #[.bool n, s, .bool m, t] 62)) := by
  unfold execOp; rw [ho]
  have e : ∀ w, (zeroValue 62).run prog w = .ok (.agg #[.bool false, .slice none 0 0]) w := fun w => by kernel_rfl
  simp [go_sem, Instr.buildSlice, e, hx, hy]
end
section
variable {P : Program} {o : Oper} {a : Act} {w : World} {K : Act → World → Prop} {Q : Exit → Act → World → Prop} {f : Nat} {args : List Operand} {tys : Array TypeId} {vs : List Value} {l : List SF}
theorem CZ {p q : Int} (hf : Fn P f) (ho : o.op = .call { callee := .value (.func f), args := args.toArray, argTypes := tys }) (hc : Calls P f vs.toArray w (pK w p q)) (hv : args.map a.eval = vs) (E : Env w l)
    (h : ∀ w' n s m t, Below w.heap.size w w' → Env w' (fI (.agg #[.bool m, t]) q :: fI (.agg #[.bool n, s]) p :: l) → K (a.put o.dst (.agg #[.bool n, s, .bool m, t])) w') : o.wp P a w K Q := by
  refine DB hf ho hc hv ?_
  rintro e w' ⟨n, s, m, t, rfl, v, u, k⟩
  exact ⟨_, rfl, h w' n s m t k ⟨u, v, E.below k⟩⟩
theorem WY {p q c : Int} (hf : Fn P f) (ho : o.op = .call { callee := .value (.func f), args := args.toArray, argTypes := tys }) (hc : Calls P f vs.toArray w (Aq w p q c)) (hv : args.map a.eval = vs) (E : Env w l)
    (h : ∀ w' n s m t, Below w.heap.size w w' → Env w' (fI (.agg #[.bool m, t]) q :: fI (.agg #[.bool n, s]) p :: l) → K (a.put o.dst (.tuple #[.agg #[.bool n, s, .bool m, t], .int .i64 c])) w') : o.wp P a w K Q := by
  refine DB hf ho hc hv ?_
  rintro e w' ⟨n, s, m, t, rfl, v, u, k⟩
  exact ⟨_, rfl, h w' n s m t k ⟨u, v, E.below k⟩⟩
end
theorem nA {ops : Array Oper} {S : World → Prop} {i : Nat} {o : Oper} {fr : List Value} {x y : Operand} {n m : Bool} {s t : Value} (ho : ops[i]? = some o) (hop : o.op = .buildSlice 215 2 #[(0, x), (1, y)]) (hg : o.guard = none)
    (hx : KE fr x = .agg #[.bool n, s]) (hy : KE fr y = .agg #[.bool m, t]) : RunF prog ops S i ⟨fun b => .slice (some ⟨b, 0, none⟩) 2 2, 62, [.bool n, s, .bool m, t]⟩ ⟨fr.toArray, []⟩ :=
  ⟨o, ho, by unfold Region.wanted; rw [hg], fun w _ => Fu hop (by rw [NS]; exact hx) (by rw [NS]; exact hy)⟩
theorem Da : CB (1 : Int).natAbs = [1] := by
  show CB 1 = [1]
  rw [QW 1 AD, show 1 / 4294967296 = 0 from rfl, DU]
set_option maxHeartbeats 1000000 in
theorem KN (va : Value) (x : Int) (w : World) (ha : IsI w va x) :
    Calls prog 128 #[va] w (JO w (decide (x = 1))) := by
  obtain ⟨s, rfl, P, z, rfl, q, D, L, H, C⟩ := ha
  have o := Lib.hid C
  clear C H L
  unfold maxLen at D
  generalize hS : decide (x < 0) = n
  obtain ⟨W, f, G, p, t⟩ := gL w n (.slice P (CB x.natAbs).length z)
  have Q := t.1
  have N := t.2
  clear t
  by_cases e : x < 0
  · rw [decide_eq_true e] at hS
    subst hS
    rw [decide_eq_false (show ¬ x = 1 by omega)]
    clear e q D o
    go_enter func128, ntmps128
    go_upto_region 1 with fail
    rw [← f]
    clear f
    go_wp2_with fail
    go_ret
    exact ⟨rfl, p⟩
  · rw [decide_eq_false e] at hS
    subst hS
    by_cases h : (CB x.natAbs).length = 1
    · have B : (((CB x.natAbs).length : Int) == 1) = true := by rw [h]; rfl
      have k : (CB x.natAbs).length = 0 + 1 := h
      obtain ⟨b, F, rfl, y⟩ := o.out 0 Z
      have y := CV y p
      have u : val (CB x.natAbs) = x.natAbs := CK _
      have v : gd (CB x.natAbs) 0 = x.natAbs := by
        generalize CB x.natAbs = l at *
        obtain ⟨d, rfl⟩ := List.length_eq_one_iff.1 h
        simpa [val, gd] using u
      rw [v, Nat.add_zero] at y
      rw [h] at B N f ⊢
      by_cases q : x = 1
      · subst q
        rw [decide_eq_true rfl]
        clear e h k u v o
        go_enter func128, ntmps128
        go_upto_region 1 with fail
        rw [← f]
        clear f
        go_wp2_with fail
        go_ret
        exact ⟨rfl, p⟩
      · rw [decide_eq_false q]
        have J : (((x.natAbs : Nat) : Int) == 1) = false := by rw [beq_eq_false_iff_ne]; omega
        clear e h k u v o
        go_enter func128, ntmps128
        go_upto_region 1 with fail
        rw [← f]
        clear f
        go_wp2_with fail
        go_ret
        exact ⟨rfl, p⟩
    · have B : (((CB x.natAbs).length : Int) == 1) = false := by rw [beq_eq_false_iff_ne]; omega
      rw [decide_eq_false (show ¬ x = 1 by rintro rfl; exact h (by rw [Da]; rfl))]
      clear e h o
      go_enter func128, ntmps128
      go_upto_region 1 with fail
      rw [← f]
      clear f
      go_wp2_with fail
      go_ret
      exact ⟨rfl, p⟩
end Go.Proofs.YtmppigbbkjepiaaGreatDoor
set_option maxHeartbeats 8000000
set_option maxRecDepth 100000
namespace Go.Proofs.YtmppigbbkjepiaaGreatDoor
open Go.Proofs.Tryz
open Go.RowKit W
theorem xU {z : Int} (h : z < 0) : decide (NA z < 0) = true := by rw [VQ h]; rfl
theorem Ff {z : Int} (h : 0 < z) : decide (NA z < 0) = false := by rw [QH h]; rfl
theorem Js {x y : Int} {k : Nat} (hy : y ≠ 0) (h : Fits y k) : Fits ((Nat.gcd x.natAbs y.natAbs : Nat) : Int) k :=
  gP (by rw [Int.natAbs_natCast]; exact Nat.le_of_dvd Z (Nat.gcd_dvd_right _ _)) h
theorem EY {n : Int} (h1 : -9223372036854775808 ≤ n) (h2 : n ≤ 9223372036854775807) : Fits n 4 := LU Z
def pz (x y : Int) (i : Nat) : Int := if i = 0 then 1 else if i = 1 then x else x * y
theorem pzA0 {x y : Int} {i : Nat} (h : i = 0) (hx : x = 1) : pz x y i = pz x y (i + 1) := by subst h; simp [pz, hx]
theorem pzA1 {x y : Int} {i : Nat} (h : i = 1) (hy : y = 1) : pz x y i = pz x y (i + 1) := by subst h; simp [pz, hy]
theorem pzB0 {x y : Int} {i : Nat} (h : i = 0) : x = pz x y (i + 1) := by subst h; simp [pz]
theorem pzB1 {x y : Int} {i : Nat} (h : i = 1) (hx : pz x y i = 1) : y = pz x y (i + 1) := by subst h; simp [pz] at hx ⊢; simp [hx]
theorem pzC1 {x y : Int} {i : Nat} (h : i = 1) : pz x y i * y = pz x y (i + 1) := by subst h; simp [pz]
theorem Qe {x y : Int} {i : Nat} (h : i = 0) : decide (pz x y i = 1) = true := by subst h; rfl
theorem Qf {x y : Int} {i : Nat} (h : ¬ i < 2) : pz x y i = x * y := by unfold pz; rw [if_neg Z, if_neg Z]
theorem Nz {x y : Int} {i k : Nat} (h : i < 2) (hk : 1 ≤ k) (hx : Fits x k) : Fits (pz x y i) k := by
  unfold pz; split
  · exact Jt hk
  · rw [if_pos Z]; exact hx
theorem lX (b : Nat) (nx : Bool) (sx : Value) (ny : Bool) (sy : Value) (x y : Int) (w : World) (h1 : IsI w (.agg #[.bool nx, sx]) x) (h2 : IsI w (.agg #[.bool ny, sy]) y) (hb : Bx w b 62 [.bool nx, sx, .bool ny, sy]) (Fx : Fits x 400000000) (Fy : Fits y 400000000) :
    Calls prog 166 #[.slice (some ⟨b, 0, none⟩) 2 2] w (RetZ w (x * y)) := by
 have E := Env.start w
 have lb := Bx.lt hb
 replace E := ((E.i h1).i h2).x hb
 clear h1 h2 hb
 go_enter func166, ntmps166
 refine zG ?_
 refine EF O (CA FM O ?_)
 intro b1 w1 e1 z1 d1 h
 have l1 : w.heap.size ≤ b1 := by rw [e1]; exact (e3 E).size
 replace E := E.below d1
 clear e1 z1 d1
 refine zG ?_
 refine EF O (CG SI O (Sh 1 _ AD AD) O E ?_)
 clear E
 intro w2 n2 s2 d2 E
 replace h := h.below d2
 clear d2
 refine zG ?_
 refine EF O (CA FM O ?_)
 intro b3 w3 e3 z3 d3 x3
 have ae : b1 < b3 := by rw [e3]; exact Bx.lt (h)
 replace E := E.below d3
 replace h := Bx.below h d3
 clear e3 z3 d3
 refine zG ?_
 refine EF O (BX FM O O O x3 O O (IsI.one E.1) ?_)
 intro w4 o4 y4
 replace E := (E.onl (x3.noW CW) zK o4).b y4
 replace h := Bx.onl h Z o4
 clear x3 o4 y4
 refine zG ?_
 refine V (v := .int .i64 2) O O (Ga O O O) ?_
 replace E := E.b h
 clear h
 replace E := E.i (VD (show (1 : Int) = pz x y 0 from rfl) E.2.2.1)
 refine zG ?_
 refine wp_loop_ghost (fun mz a w' => ∃ (i : Nat) (u : Bool) (t : Value) (g5 a5 a4 a3 a2 a1 a0 Y X U T S R Q P : Value), a = ⟨#[.slice (some ⟨b, 0, none⟩) 2 2, undef, .pointer (some ⟨b1, 0, none⟩), .pointer (some ⟨b3, 0, none⟩), undef, g5, .agg #[.bool n2, s2], .slice (some ⟨b, 0, none⟩) 2 2, .int .i64 2, .int .i64 ↑i, a5, a4, a3, a2, a1, a0, Y, X, U, T, S, R, Q, P, undef], []⟩ ∧ Env w' [fB b1 false (.slice none 0 0), fB b3 u t, fI (.agg #[.bool u, t]) (pz x y i), fX b (62) ([.bool nx, sx, .bool ny, sy]), fI (.agg #[.bool ny, sy]) y, fI (.agg #[.bool nx, sx]) x, fW w] ∧ mz = 2 - i ∧ i ≤ 2) (2) ⟨0, n2, s2, _, _, _, _, _, _, _, _, _, _, _, _, _, _, _, O, zE, O, AD⟩ ?_
 rintro m5 _ w5 ⟨i, u, t, g5, a5, a4, a3, a2, a1, a0, Y, X, U, T, S, R, Q, P, rfl, E, e, ar⟩
 by_cases hi : i < 2
 case neg =>
  have k := E.1
  refine zG ?_
  replace E := Sp E
  refine zG ?_
  refine EF O (BX FM O O O k O O (IsI.one E.2.1) ?_)
  intro af G z
  replace E := (E.onl (k.noW CW) zK G).b z
  clear k G z
  have a9 := CY FM E.1 rfl
  refine zG ?_
  exact AP (v := .agg #[.bool u, t]) (by simp [results, results166, asAddr, a9]) O ⟨_, O, VD (Qf hi) E.2.2.1, e6 E⟩
 by_cases f : i = 0
 case pos =>
  refine zG ?_
  refine V (v := .pointer (some ⟨b, 0 + i * 2, none⟩)) O O (TU (j := i) O underlying215 I O O O Z) ?_
  refine V O O (CO O O (e3 E) (by rw [f]; rfl) (by rw [f]; rfl)) ?_
  refine zG ?_
  refine EF O (CA FM O ?_)
  intro b6 w6 e6 z6 d6 x6
  have ad : b3 < b6 := by rw [e6]; exact Bx.lt E.2.1
  replace E := E.below d6
  clear e6 z6 d6
  refine zG ?_
  refine EF O (BX FM O O O x6 O O (IsI.one (e5 E)) ?_)
  intro w7 o7 y7
  replace E := (E.onl (x6.noW CW) zK o7).b y7
  clear x6 o7 y7
  by_cases h1 : x = 1
  case pos =>
   refine zG ?_
   refine EF O (BY DL O (KN _ x _ (e6 E)) O E ?_)
   clear E
   intro w8 _ E
   refine zG ?_
   refine AN (congrArg Value.bool (decide_eq_true h1)) ?_
   replace E := E.i (VD (z' := pz x y (i + 1)) (pzA0 f h1) (e3 E))
   refine zG ?_
   exact ⟨_, (by rw [e]; omega), (i + 1), u, t, _, _, _, _, _, _, _, _, _, _, _, _, _, _, _, O, zE, O, Z⟩
  refine zG ?_
  refine EF O (BY DL O (KN _ x _ (e6 E)) O E ?_)
  clear E
  intro w9 _ E
  refine zG ?_
  refine AO (congrArg Value.bool (decide_eq_false h1)) ?_
  refine zG ?_
  refine EF O (BY DL O (KN _ (pz x y i) _ (e3 E)) O E ?_)
  clear E
  intro aq _ E
  refine zG ?_
  refine AN (congrArg Value.bool (Qe f)) ?_
  have q := E.2.2.1
  refine zG ?_
  replace E := Sq E
  refine zG ?_
  refine EF O (BX FM O O O q O O (IsI.one (e5 E)) ?_)
  intro ap N F
  replace E := (E.onl (q.noW (IsI.now E.2.2.1)) zK N).b F
  clear q N F
  replace E := E.i (VD (z' := pz x y (i + 1)) (pzB0 f) (e6 E))
  refine zG ?_
  exact ⟨_, (by rw [e]; omega), (i + 1), nx, sx, _, _, _, _, _, _, _, _, _, _, _, _, _, _, _, O, zE, O, Z⟩
 replace f : i = 1 := by omega
 refine zG ?_
 refine V (v := .pointer (some ⟨b, 0 + i * 2, none⟩)) O O (TU (j := i) O underlying215 I O O O Z) ?_
 refine V O O (CO O O (e3 E) (by rw [f]; rfl) (by rw [f]; rfl)) ?_
 refine zG ?_
 refine EF O (CA FM O ?_)
 intro ac ao VE a7 a6 p
 have ab : b3 < ac := by rw [VE]; exact Bx.lt E.2.1
 replace E := E.below a6
 clear VE a7 a6
 refine zG ?_
 refine EF O (BX FM O O O p O O (IsI.one (e4 E)) ?_)
 intro an L D
 replace E := (E.onl (p.noW CW) zK L).b D
 clear p L D
 by_cases h1 : y = 1
 case pos =>
  refine zG ?_
  refine EF O (BY DL O (KN _ y _ (e5 E)) O E ?_)
  clear E
  intro am _ E
  refine zG ?_
  refine AN (congrArg Value.bool (decide_eq_true h1)) ?_
  replace E := E.i (VD (z' := pz x y (i + 1)) (pzA1 f h1) (e3 E))
  refine zG ?_
  exact ⟨_, (by rw [e]; omega), (i + 1), u, t, _, _, _, _, _, _, _, _, _, _, _, _, _, _, _, O, zE, O, Z⟩
 refine zG ?_
 refine EF O (BY DL O (KN _ y _ (e5 E)) O E ?_)
 clear E
 intro al _ E
 refine zG ?_
 refine AO (congrArg Value.bool (decide_eq_false h1)) ?_
 by_cases h2 : pz x y i = 1
 case pos =>
  refine zG ?_
  refine EF O (BY DL O (KN _ (pz x y i) _ (e3 E)) O E ?_)
  clear E
  intro ak _ E
  refine zG ?_
  refine AN (congrArg Value.bool (decide_eq_true h2)) ?_
  have o := E.2.2.1
  refine zG ?_
  replace E := Sq E
  refine zG ?_
  refine EF O (BX FM O O O o O O (IsI.one (e4 E)) ?_)
  intro aj J C
  replace E := (E.onl (o.noW (IsI.now E.2.2.1)) zK J).b C
  clear o J C
  replace E := E.i (VD (z' := pz x y (i + 1)) (pzB1 f h2) (e5 E))
  refine zG ?_
  exact ⟨_, (by rw [e]; omega), (i + 1), ny, sy, _, _, _, _, _, _, _, _, _, _, _, _, _, _, _, O, zE, O, Z⟩
 refine zG ?_
 refine EF O (BY DL O (KN _ (pz x y i) _ (e3 E)) O E ?_)
 clear E
 intro ai _ E
 refine zG ?_
 refine AO (congrArg Value.bool (decide_eq_false h2)) ?_
 refine zG ?_
 refine EF O (CG jH O (Mul_z _ _ (pz x y i) y _ (e3 E) (e5 E) (Fits.mono (Nz hi AD Fx) AD) (Fits.mono Fy AD)) O E ?_)
 clear E
 intro ah aa a8 _ E
 have l := e3 E
 refine zG ?_
 replace E := Su E
 refine zG ?_
 refine EF O (BX FM O O O l O O (IsI.one E.1) ?_)
 intro ag H B
 replace E := (E.onl (l.noW (IsI.now (e3 E))) zK H).b B
 clear l H B
 replace E := E.i (VD (z' := pz x y (i + 1)) (pzC1 f) E.2.1)
 refine zG ?_
 exact ⟨_, (by rw [e]; omega), (i + 1), aa, a8, _, _, _, _, _, _, _, _, _, _, _, _, _, _, _, O, zE, O, Z⟩
theorem xH (va : Value) (n : Int) (w : World) (hva : IsI w va n) :
    Calls prog 135 #[va] w (pK w ((n : Int) : Rat).num (((((n : Int) : Rat)).den : Nat) : Int)) := by
 have E := Env.start w
 obtain ⟨h, f, rfl, _, _⟩ := hva.sh
 replace E := E.i hva
 clear hva
 go_enter func135, ntmps135
 refine zG ?_
 refine EF O (CI O O ?_)
 intro F R z H D l
 have S : w.heap.size ≤ F := by rw [z]; exact E.2.1.size
 replace E := E.below D
 clear z H D
 replace E := E.b l
 clear l
 refine zG ?_
 refine EF O (CA GI O ?_)
 intro L Q y G C e
 have u : F < L := by rw [y]; exact Bx.lt E.1
 replace E := E.below C
 clear y G C
 refine zG ?_
 refine sE E [0,1,2,3] ?_
 replace E := E.drew
 replace e := Bx.drew e
 refine zG ?_
 refine JF (o := ⟨some 4, _, _, _, _, _⟩) O O O O (CG SI O (Sh 1 _ AD AD) O E ?_)
 clear E
 intro P t p B E
 replace e := e.below B
 clear B
 refine ⟨E.2, ?_⟩
 refine zG ?_
 refine SW (v := .agg #[.bool h, f, .bool t, p]) O O O O O (fun w T => KY O O O) ?_
 refine zG ?_
 refine JF (o := ⟨none, _, _, _, _, _⟩) O O O O (BX GI O O O e O O (LM (IsI.one E.2.2.1) (IsI.one E.1)) ?_)
 intro N q k
 replace E := (E.onl (e.noW (NL CW CW)) zK q).x k
 clear e q k
 refine ⟨E.2.2, ?_⟩
 have J := CY GI E.1 rfl
 refine zG ?_
 exact AP (v := .agg #[.bool h, f, .bool t, p]) (by simp [results, results135, asAddr, J]) O ⟨_, _, _, _, O, VD O (e3 E), VD O E.2.1, e4 E⟩
theorem pJ (n : Int) (w : World) (h1 : -9223372036854775808 ≤ n) (h2 : n ≤ 9223372036854775807) :
    Calls prog 88 #[.int .i64 n] w (pK w ((n : Int) : Rat).num (((((n : Int) : Rat)).den : Nat) : Int)) := by
 have E := Env.start w
 go_enter func88, ntmps88
 refine zG ?_
 refine EF O (CA GI O ?_)
 intro C H k q p e
 have N : w.heap.size ≤ C := by rw [k]; exact E.1.size
 replace E := E.below p
 clear k q p
 refine zG ?_
 refine EF O (CG SI O (Sh n _ h1 h2) O E ?_)
 clear E
 intro G L J o E
 replace e := e.below o
 clear o
 have P : Fits n 4 := EY h1 h2
 refine zG ?_
 refine EF O (CZ RT O (xH _ n _ E.1) O E ?_)
 clear E
 intro F z u B t l E
 replace e := e.below l
 clear l
 refine zG ?_
 refine EF O (BX GI O O O e O O (LM (IsI.one E.2.1) (IsI.one E.1)) ?_)
 intro D h f
 replace E := (E.onl (e.noW (NL CW CW)) zK h).x f
 clear e h f
 have y := CY GI E.1 rfl
 refine zG ?_
 exact AP (v := .agg #[.bool z, u, .bool B, t]) (by simp [results, results88, asAddr, y]) O ⟨_, _, _, _, O, VD O E.2.2.1, VD O E.2.1, e4 E⟩
theorem Aw (na : Bool) (sa : Value) (ma : Bool) (ta : Value) (x : Rat) (w : World) (hna : IsI w (.agg #[.bool na, sa]) x.num) (hda : IsI w (.agg #[.bool ma, ta]) ((x.den : Nat) : Int)) (Fx : FitQ x 100000000) :
    Calls prog 44 #[.agg #[.bool na, sa, .bool ma, ta]] w (pK w (-x).num (((-x).den : Nat) : Int)) := by
 have E := Env.start w
 replace E := (E.i hna).i hda
 clear hna hda
 go_enter func44, ntmps44
 refine zG ?_
 refine EF O (CI (cs := [.bool na, sa, .bool ma, ta]) O O ?_)
 intro D Q y G C k
 have R : w.heap.size ≤ D := by rw [y]; exact E.2.2.1.size
 replace E := (E.below C).x k
 clear y G C k
 refine zG ?_
 refine EF O (CA GI O ?_)
 intro J P u F B e
 have t : D < J := by rw [u]; exact Bx.lt E.1
 replace E := E.below B
 clear u F B
 refine zG ?_
 refine sE E [0,1,3,4,2,5,6] ?_
 replace E := E.drew
 replace e := Bx.drew e
 refine SW O O O O O (fun w f => DV O O) ?_
 refine SW O O O O O (fun w f => CO O O (f.1) O O) ?_
 refine SW O O O O O (fun w f => DK O O) ?_
 refine SW O O O O O (fun w f => CO O O (f.1) O O) ?_
 refine zG ?_
 refine JF (o := ⟨some 5, _, _, _, _, _⟩) O O O O (CG jG O (Neg_z _ x.num _ E.2.2.1 (Fits.mono Fx.1 AD)) O E ?_)
 clear E
 intro N q l z E
 replace e := e.below z
 clear z
 refine ⟨E.2, ?_⟩
 refine zG ?_
 refine SW (v := .agg #[.bool q, l, .bool ma, ta]) O O O O O (fun w f => KY O O O) ?_
 refine zG ?_
 refine JF (o := ⟨none, _, _, _, _, _⟩) O O O O (BX GI O O O e O O (LM (IsI.one E.1) (IsI.one E.2.2.1)) ?_)
 intro L p h
 replace E := (E.onl (e.noW (NL CW CW)) zK p).x h
 clear e p h
 refine ⟨E.2.2, ?_⟩
 have H := CY GI E.1 rfl
 refine zG ?_
 exact AP (v := .agg #[.bool q, l, .bool ma, ta]) (by simp [results, results44, asAddr, H]) O ⟨_, _, _, _, O, VD O E.2.1, VD O (e3 E), e5 E⟩
theorem OK (na : Bool) (sa : Value) (ma : Bool) (ta : Value) (x : Rat) (w : World) (hna : IsI w (.agg #[.bool na, sa]) x.num) (hda : IsI w (.agg #[.bool ma, ta]) ((x.den : Nat) : Int)) :
    Calls prog 81 #[.agg #[.bool na, sa, .bool ma, ta]] w (XY w (NA x.num)) := by
 have E := Env.start w
 replace E := (E.i hna).i hda
 clear hna hda
 go_enter func81, ntmps81
 refine zG ?_
 refine EF O (CI (cs := [.bool na, sa, .bool ma, ta]) O O ?_)
 intro p o k h f e
 replace E := (E.below f).x e
 clear k h f e
 refine zG ?_
 refine V O O (DV O O) ?_
 refine V O O (CO O O E.1 O O) ?_
 refine zG ?_
 refine EF O (CH PL O (kB _ x.num _ E.2.2.1) O E ?_)
 clear E
 intro l _ E
 refine zG ?_
 exact ⟨rfl, e3 E⟩
theorem Oz (na : Bool) (sa : Value) (ma : Bool) (ta : Value) (x : Rat) (nb : Bool) (sb : Value) (mb : Bool) (tb : Value) (y : Rat) (w : World) (hna : IsI w (.agg #[.bool na, sa]) x.num) (hda : IsI w (.agg #[.bool ma, ta]) ((x.den : Nat) : Int)) (hnb : IsI w (.agg #[.bool nb, sb]) y.num) (hdb : IsI w (.agg #[.bool mb, tb]) ((y.den : Nat) : Int)) (Fx : FitQ x 100000000) (Fy : FitQ y 100000000) :
    Calls prog 130 #[.agg #[.bool na, sa, .bool ma, ta], .agg #[.bool nb, sb, .bool mb, tb]] w (XY w (cT x y)) := by
 have E := Env.start w
 replace E := (E.i hna).i hda
 clear hna hda
 replace E := (E.i hnb).i hdb
 clear hnb hdb
 go_enter func130, ntmps130
 refine zG ?_
 refine EF O (CI (cs := [.bool na, sa, .bool ma, ta]) O O ?_)
 intro C w1 U F z q
 replace E := (E.below z).x q
 clear U F z q
 refine zG ?_
 refine EF O (CI (cs := [.bool nb, sb, .bool mb, tb]) O O ?_)
 intro f w2 T D u p
 replace E := (E.below u).x p
 clear T D u p
 refine zG ?_
 refine sE E [0,2,1,3,4,5] ?_
 replace E := E.drew
 refine SW O O O O O (fun w e => CT GI O O (e.2.1) O) ?_
 refine SW O O O O O (fun w e => CT GI O O (e.1) O) ?_
 refine zG ?_
 refine JF (o := ⟨some 8, _, _, _, _, _⟩) O O O O (CH DW O (OK _ _ _ _ x _ (e5 E) (e4 E)) O E ?_)
 clear E
 intro w3 _ E
 refine ⟨E, ?_⟩
 refine zG ?_
 refine JF (o := ⟨some 10, _, _, _, _, _⟩) O O O O (CH DW O (OK _ _ _ _ y _ (e3 E) E.2.2.1) O E ?_)
 clear E
 intro G _ E
 refine ⟨E, ?_⟩
 by_cases h1 : (NA x.num) = (NA y.num)
 case neg =>
  by_cases R : (NA x.num) < (NA y.num)
  case pos =>
   refine zG ?_
   exact ⟨FD (tB R).symm, e6 E⟩
  refine zG ?_
  exact ⟨FD (Iu Z).symm, e6 E⟩
 have k : f < G.heap.size := Bx.lt E.1
 refine zG ?_
 refine SX E [.op 0, .op 1, .op 2, .op 3, .op 6, .op 7, .op 8, .op 9, .av 4, .av 10, .op 4, .op 5, .op 10] 3 (#[true, true, true, true, true, true, true, true, true, true, true, false, false, false]) I I I I AE AE ?_
 refine FP (v := .pointer (some ⟨C, 0, none⟩)) O O O O O (fun w e => DV O O) ?_
 refine FP (v := .agg #[.bool na, sa]) O O O O O (fun w e => CO O O (e.2.1) O O) ?_
 refine FP (v := .pointer (some ⟨f, 2, none⟩)) O O O O O (fun w e => DK O O) ?_
 refine FP (v := .agg #[.bool mb, tb]) O O O O O (fun w e => CO O O (e.1) O O) ?_
 refine zG ?_
 refine FP (v := .pointer (some ⟨f, 0, none⟩)) O O O O O (fun w e => DV O O) ?_
 refine FP (v := .agg #[.bool nb, sb]) O O O O O (fun w e => CO O O (e.1) O O) ?_
 refine FP (v := .pointer (some ⟨C, 2, none⟩)) O O O O O (fun w e => DK O O) ?_
 refine FP (v := .agg #[.bool ma, ta]) O O O O O (fun w e => CO O O (e.2.1) O O) ?_
 refine FA _ (nA O O O O O) ?_
 refine FA _ (nA O O O O O) ?_
 refine zG ?_
 refine FF O O ?_
 intro B f6 u6
 have t : f < B := by omega
 clear E
 refine zG ?_
 refine FE O O O O ?_
 intro Y E
 refine CG PS O (lX B _ _ _ _ x.num ((y.den : Nat) : Int) _ (e6 E) (e3 E) E.1 (Fits.mono Fx.1 AD) (Fits.mono Fy.2 AD)) O E ?_
 clear E
 intro w8 n8 s8 X E
 refine kF X E O ?_
 refine zG ?_
 refine FF O O ?_
 intro l S N
 clear E
 refine zG ?_
 intro L E
 refine H1 (i := 11) I ?_
 refine HE (o := ⟨some 28, _, _, _, _, _⟩) O O (CG PS O (lX l _ _ _ _ y.num ((x.den : Nat) : Int) _ (e6 E) (e7 E) E.1 (Fits.mono Fy.1 AD) (Fits.mono Fx.2 AD)) O E ?_)
 clear E
 intro J Q P _ E
 refine ⟨E.2.2.2.2, ?_⟩
 refine zG ?_
 refine H1 (i := 12) I ?_
 refine HE (o := ⟨some 29, _, _, _, _, _⟩) O O (CH jJ O (Cmp_z _ _ (x.num * ((y.den : Nat) : Int)) (y.num * ((x.den : Nat) : Int)) _ E.2.2.1 E.1) O E ?_)
 clear E
 intro H _ E
 refine ⟨E.2.2.2.2, ?_⟩
 refine zG ?_
 refine HP (i := 13) (o := ⟨some 4, _, _, _, _, _⟩) (v := .int .i64 (IR (x.num * ((y.den : Nat) : Int)) (y.num * ((x.den : Nat) : Int)))) O I (fun _ _ _ h => h) O (fun w e => MT O O) (E.2.2.2.2) ?_
 refine zG ?_
 refine HN I ?_
 refine zG ?_
 exact ⟨rfl, PP E⟩
end Go.Proofs.YtmppigbbkjepiaaGreatDoor
