/- Helping facts of RatL; no other conditions. Helping facts of TxtQ; no other conditions. Helping facts of Rat1; no other conditions. -/
import Derived.Test.YtmppigbbkjepiaaGreatDoorKitF
import Derived.Test.YtmppigbbkjepiaaGreatDoorRefT
import Derived.Test.YtmppigbbkjepiaaGreatDoorShelf
import Derived.Lib.CutLaws
import Derived.Lib.IndexLaws
import Derived.Laws.Strings3
import Derived.Shelf.RegionOpenPlain
import Derived.WalkKit
import Derived.Lib.Walk
import Derived.BigCall
import Derived.BigGuard
namespace Go.Proofs.YtmppigbbkjepiaaGreatDoor
open Go.Proofs.Tryz
open Go.RowKit W
variable {a : ByteArray} {b i j k : Nat} {c d n p' q q' y z : Int} {e : Ending} {l : List UInt8} {m : Bool} {p : Prop} {s t v : Value} {w w' : World} {x : Rat}
theorem ZFg (h : p := by
 go_enter func128, ntmps128
 go_upto_region 1 with fail
 rw [<- f]
 clear f
 go_wp2_with fail
 go_ret
 exact ⟨rfl, p⟩
 ) : p := h
theorem ZQq (h : p := by
 intro c e
 simp only [List.mem_cons, List.not_mem_nil, or_false] at e
 rcases e with h | h | h | h
 . exact h1 c (by simp [h])
 . exact h1 c (by simp [h])
 . exact h2 c (by simp [h])
 . exact h2 c (by simp [h])
 ) : p := h
theorem ZNM (h : p := by
 refine CZ hf ho hc hv ?_
 rintro e w' ⟨n, s, m, t, rfl, v, u, k⟩
 exact ⟨_, rfl, h w' n s m t k ⟨u, v, E.below k⟩⟩
 ) : p := h
theorem ZuL (h : p := by
 refine CZ hf ho hc hv ?_
 rintro e w' ⟨rfl, k⟩
 exact ⟨_, rfl, h w' k (E.below k)⟩
 ) : p := h
theorem Zqz (h : p := by
 refine zG ?_
 exact ⟨_, (by rw [e]; omega), (i + 1), o, l, _, O, O, zE, O, AA⟩
 ) : p := h
theorem Z5D (h : p := by
 rintro e l ⟨rfl, n, rfl⟩
 exact ⟨rfl, Below.drewN (Below.refl _ _) n⟩
 ) : p := h
theorem lZ (h : 0 < d) : (Rat.divInt n d).num = n / ((Nat.gcd n.natAbs d.natAbs : Nat) : Int) := by
 rw [Rat.num_divInt, Int.sign_eq_one_of_pos h, Int.one_mul, Nat.gcd_comm]; rfl
theorem mA (h : 0 < d) : (((Rat.divInt n d).den : Nat) : Int) = d / ((Nat.gcd n.natAbs d.natAbs : Nat) : Int) := by
 rw [Rat.den_divInt, if_neg AA, Nat.gcd_comm, Int.natCast_ediv, Int.natAbs_of_nonneg AA]; rfl
theorem gH (h : d ≠ 0) : ((Nat.gcd n.natAbs d.natAbs : Nat) : Int) ≠ 0 := by
 have : 0 < Nat.gcd n.natAbs d.natAbs := Nat.gcd_pos_of_pos_right _ AA
 omega
theorem Vb (h : 0 < d) (hg : ((Nat.gcd n.natAbs d.natAbs : Nat) : Int) = 1) : (Rat.divInt n d).num = n /\ (((Rat.divInt n d).den : Nat) : Int) = d := by
 rw [lZ h, mA h, hg, Int.ediv_one, Int.ediv_one]; exact ⟨rfl, rfl⟩
theorem jZ (h : d < 0) : (Rat.divInt n d).num = n / (-((Nat.gcd n.natAbs d.natAbs : Nat) : Int)) := by
 rw [show Rat.divInt n d = Rat.divInt (-n) (-d) from (Rat.neg_divInt_neg n d).symm, lZ AA, Int.natAbs_neg, Int.natAbs_neg, Int.ediv_neg, Int.neg_ediv_of_dvd]
 exact Int.ofNat_dvd_left.2 (Nat.gcd_dvd_left _ _)
theorem kA (h : d < 0) : (((Rat.divInt n d).den : Nat) : Int) = d / (-((Nat.gcd n.natAbs d.natAbs : Nat) : Int)) := by
 rw [show Rat.divInt n d = Rat.divInt (-n) (-d) from (Rat.neg_divInt_neg n d).symm, mA AA, Int.natAbs_neg, Int.natAbs_neg, Int.ediv_neg, Int.neg_ediv_of_dvd]
 exact Int.ofNat_dvd_left.2 (Nat.gcd_dvd_right _ _)
theorem Cv (n d : Int) : (Rat.divInt n d).num.natAbs <= n.natAbs := by
 rcases Int.lt_trichotomy d 0 with h | h | h
 . rw [jZ h, Int.ediv_neg, Int.natAbs_neg]; exact Int.natAbs_ediv_le_natAbs _ _
 . subst h; simp
 rw [lZ h]; exact Int.natAbs_ediv_le_natAbs _ _
theorem Cw (h0 : d ≠ 0) : (Rat.divInt n d).den <= d.natAbs := by
 have e : ((((Rat.divInt n d).den : Nat) : Int)).natAbs = (Rat.divInt n d).den := Int.natAbs_natCast _
 rcases Int.lt_trichotomy d 0 with h | h | h
 . rw [<- e, kA h, Int.ediv_neg, Int.natAbs_neg]; exact Int.natAbs_ediv_le_natAbs _ _
 . exact absurd h h0
 rw [<- e, mA h]; exact Int.natAbs_ediv_le_natAbs _ _
theorem We (x : Rat) : 0 < ((x.den : Nat) : Int) := Int.natCast_pos.2 x.den_pos
theorem D3 (x y : Rat) : Rat.divInt (x.num * y.den + y.num * x.den) ((x.den : Int) * y.den) = x + y := by
 rw [<- Int.natCast_mul, Rat.divInt_ofNat, Rat.add_def']
theorem Zt (x y : Rat) : Rat.divInt (x.num * y.num) ((x.den : Int) * y.den) = x * y := by
 rw [<- Int.natCast_mul, Rat.divInt_ofNat, Rat.mul_def']
theorem Zo (h : x ≠ 0) : x.num ≠ 0 := fun e => h (Rat.num_eq_zero.1 e)
def gZ (x y : Rat) : Int := JR (x.num * y.den) (y.num * x.den)
theorem sX (x y : Rat) : (x < y /\ gZ x y = -1) ∨ (x = y /\ gZ x y = 0) ∨ (y < x /\ gZ x y = 1) := by
 have h := Rat.lt_iff x y; have f := Rat.lt_iff y x; have e := @Rat.eq_iff_mul_eq_mul x y
 unfold gZ JR
 split
 . exact .inl ⟨h.2 ‹_›, rfl⟩
 split
 . exact .inr (.inl ⟨e.2 ‹_›, rfl⟩)
 exact .inr (.inr ⟨f.2 AA, rfl⟩)
theorem UG (h : 0 < z) : OY z = 1 := by unfold OY JR; rw [if_neg AA, if_neg AA]
theorem ZX (h : z < 0) : OY z = -1 := by unfold OY JR; rw [if_pos h]
theorem zZ {y : Rat} (h : OY x.num < OY y.num) : gZ x y = -1 := by
 have k := We x; have l := We y
 have : x.num * y.den < y.num * x.den := by
  rcases Int.lt_trichotomy x.num 0 with f | f | f
  . have o := Int.mul_neg_of_neg_of_pos f l
    rcases Int.lt_trichotomy y.num 0 with e | e | e
    . rw [ZX f, ZX e] at h; omega
    . rw [e, Int.zero_mul]; exact o
    have := Int.mul_pos e k; omega
  . rcases Int.lt_trichotomy y.num 0 with e | e | e
    . rw [f, ZX e] at h; exact absurd h AE
    . rw [f, e] at h; omega
    have := Int.mul_pos e k; rw [f, Int.zero_mul]; omega
  rcases Int.lt_trichotomy y.num 0 with e | e | e
  . rw [UG f, ZX e] at h; omega
  . rw [e, UG f] at h; exact absurd h AE
  rw [UG f, UG e] at h; omega
 unfold gZ JR; rw [if_pos this]
theorem Kx (x y : Rat) : gZ y x = -gZ x y := by
 unfold gZ JR; split <;> split <;> (try split) <;> omega
theorem Rm {y : Rat} (h : OY y.num < OY x.num) : gZ x y = 1 := by
 have := zZ h; have := Kx x y; omega
theorem pos_num : 0 < x ↔ 0 < x.num := by
 rw [Rat.lt_iff]; simp
def FitQ (x : Rat) (k : Nat) : Prop := Fits x.num k /\ Fits ((x.den : Nat) : Int) k
theorem FitQ.mono {m n : Nat} (h : FitQ x m) (hmn : m <= n) : FitQ x n := ⟨h.1.mono hmn, h.2.mono hmn⟩
theorem bF (h0 : d ≠ 0) (hn : Fits n k) (hd : Fits d k) : FitQ (Rat.divInt n d) k :=
 ⟨mR (Cv n d) hn, mR (by rw [Int.natAbs_natCast]; exact Cw h0) hd⟩
theorem aT (x : Rat) : ((x.den : Nat) : Int) ≠ 0 := by have := We x; omega
theorem FitQ_add {y : Rat} (hx : FitQ x j) (hy : FitQ y k) : FitQ (x + y) (j + k + 1) := by
 rw [<- D3]
 refine bF (Int.mul_ne_zero (aT x) (aT y)) ?_ ((IB hx.2 hy.2).mono AA)
 exact iO (m := j + k) (n := k + j) (k := j + k) (IB hx.1 hy.2) (IB hy.1 hx.2) AA AA
theorem VK (h : FitQ x k) : FitQ (-x) k := ⟨Ax h.1, h.2⟩
theorem Sr {y : Rat} (hx : FitQ x j) (hy : FitQ y k) : FitQ (x * y) (j + k) := by
 rw [<- Zt]
 exact bF (Int.mul_ne_zero (aT x) (aT y)) (IB hx.1 hy.1) (IB hx.2 hy.2)
theorem Ef (h : 1 <= k) : Fits 1 k := (NB (z := 1) (m := 1) AE).mono h
theorem MG (hk : 1 <= k) (h : Fits z k) : FitQ (z : Rat) k := ⟨by rw [Rat.num_intCast]; exact h, by rw [Rat.den_intCast]; exact Ef hk⟩
theorem EY : Ag prog 64 4 [.bool false, .slice none 0 0, .bool false, .slice none 0 0] := ⟨⟨_, underlying64, rfl⟩, by kernel_rfl, rfl⟩
theorem VM {z' : Int} (h : z = z') (f : IsI w v z) : IsI w v z' := h ▸ f
theorem LM {n : Bool} (h1 : UP [.bool n, s]) (h2 : UP [.bool m, t]) : UP [.bool n, s, .bool m, t] := by
 exact ZQq
theorem GB : ∀ v ∈ [Value.bool false, .slice none 0 0], v.oneCell' = true := one2 rfl
theorem IF {n m : Bool} (h1 : ∀ v ∈ [.bool n, s], v.oneCell' = true) (h2 : ∀ v ∈ [.bool m, t], v.oneCell' = true) : ∀ v ∈ [.bool n, s, .bool m, t], v.oneCell' = true := by
 exact ZQq
def RetP (w0 : World) (p q : Int) (e : Ending) (w' : World) : Prop := ∃ n s m t, e = .returned (.agg #[.bool n, s, .bool m, t]) /\ IsI w' (.agg #[.bool n, s]) p /\ IsI w' (.agg #[.bool m, t]) q /\ Below w0.heap.size w0 w'
def RetPE (w0 : World) (p q c : Int) (e : Ending) (w' : World) : Prop := ∃ n s m t, e = .returned (.tuple #[.agg #[.bool n, s, .bool m, t], .int .i64 c]) /\ IsI w' (.agg #[.bool n, s]) p /\ IsI w' (.agg #[.bool m, t]) q /\ Below w0.heap.size w0 w'
def D9 (w0 : World) (s : ByteArray) (e : Ending) (w' : World) : Prop := e = .returned (.string s) /\ Below w0.heap.size w0 w'
theorem RetP.eq {p : Int} (h : RetP w p q e w') (h1 : p = p') (h2 : q = q') : RetP w p' q' e w' := by subst h1 h2; exact h
theorem RetPE.eq {p c' : Int} (h : RetPE w p q c e w') (h1 : p = p') (h2 : q = q') (h3 : c = c') : RetPE w p' q' c' e w' := by subst h1 h2 h3; exact h
section
variable {ρ : Operand -> Value} {o : Oper} {w : World}
theorem DU {x : Operand} (ho : o.op = .fieldAddr 64 x 0) (hx : ρ x = .pointer (some ⟨b, 0, none⟩)) : (execOp ρ o).run prog w = .ok (.value (.pointer (some ⟨b, 0, none⟩))) w := by
 unfold execOp; rw [ho]
 simp [hx, go_sem]
theorem DD {x : Operand} (ho : o.op = .fieldAddr 64 x 1) (hx : ρ x = .pointer (some ⟨b, 0, none⟩)) : (execOp ρ o).run prog w = .ok (.value (.pointer (some ⟨b, 2, none⟩))) w := by
 unfold execOp; rw [ho]
 simp [hx, go_sem]
theorem CN {x : Operand} {T : Nat} {cs : List Value} {n : Bool} (ho : o.op = .load 62 x) (hx : ρ x = .pointer (some ⟨b, i, none⟩)) (hb : Bx w b T cs) (h0 : cs[i]? = some (.bool n)) (h1 : cs[i + 1]? = some s) :
 (execOp ρ o).run prog w = .ok (.value (.agg #[.bool n, s])) w := by
 unfold execOp; rw [ho]
 have f := (hb.cell i).trans h0
 have e := (hb.cell (i + 1)).trans h1
 simp [hx, Instr.loadAt, Instr.sureAddr, loadVar, loadCells, loadCellsFrom, go_sem, f, e]
theorem IE {x y : Operand} {n : Bool} (ho : o.op = .build 64 #[(0, x), (1, y)]) (hx : ρ x = .agg #[.bool n, s]) (hy : ρ y = .agg #[.bool m, t]) :
 (execOp ρ o).run prog w = .ok (.value (.agg #[.bool n, s, .bool m, t])) w := by
 unfold execOp; rw [ho]
 have e : (zeroValue 64).run prog w = .ok (.agg #[.bool false, .slice none 0 0, .bool false, .slice none 0 0]) w := by kernel_rfl
 simp [go_sem, e, hx, hy]
theorem GQ (ho : o.op = .build 64 #[]) : (execOp ρ o).run prog w = .ok (.value (.agg #[.bool false, .slice none 0 0, .bool false, .slice none 0 0])) w := by
 unfold execOp; rw [ho]
 have e : (zeroValue 64).run prog w = .ok (.agg #[.bool false, .slice none 0 0, .bool false, .slice none 0 0]) w := by kernel_rfl
 simp [go_sem, e]
theorem Nu {x : Operand} {ao : Option Addr} {n c : Nat} {N : Int} (ho : o.op = .call { callee := .builtin .len, args := #[x], argTypes := #[215] }) (hx : ρ x = .slice ao n c) (hN : (n : Int) = N) : (execOp ρ o).run prog w = .ok (.value (.int .i64 N)) w := by
 subst hN; unfold execOp; rw [ho]; simp [hx, go_sem]
theorem Np {x y : Operand} {n : Bool} (ho : o.op = .buildSlice 215 2 #[(0, x), (1, y)]) (hx : ρ x = .agg #[.bool n, s]) (hy : ρ y = .agg #[.bool m, t]) :
 (execOp ρ o).run prog w = .ok (.value (.slice (some ⟨w.heap.size, 0, none⟩) 2 2)) (w.alloc (.cells #[.bool n, s, .bool m, t] 62)) := by
 unfold execOp; rw [ho]
 have e : ∀ w, (zeroValue 62).run prog w = .ok (.agg #[.bool false, .slice none 0 0]) w := fun w => by kernel_rfl
 simp [go_sem, Instr.buildSlice, e, hx, hy]
end
section
variable {P : Program} {o : Oper} {a : Act} {w : World} {K : Act -> World -> Prop} {Q : Exit -> Act -> World -> Prop} {f : Nat} {args : List Operand} {tys : Array TypeId} {vs : List Value} {l : List SF}
theorem CV {p : Int} (hf : Fn P f) (ho : o.op = .call { callee := .value (.func f), args := args.toArray, argTypes := tys }) (hc : Calls P f vs.toArray w (RetP w p q)) (hv : args.map a.eval = vs) (E : Env w l)
 (h : ∀ w' n s m t, Below w.heap.size w w' -> Env w' (fI (.agg #[.bool m, t]) q :: fI (.agg #[.bool n, s]) p :: l) -> K (a.put o.dst (.agg #[.bool n, s, .bool m, t])) w') : o.wp P a w K Q := by
 exact ZNM
theorem QN {p : Int} (hf : Fn P f) (ho : o.op = .call { callee := .value (.func f), args := args.toArray, argTypes := tys }) (hc : Calls P f vs.toArray w (RetPE w p q c)) (hv : args.map a.eval = vs) (E : Env w l)
 (h : ∀ w' n s m t, Below w.heap.size w w' -> Env w' (fI (.agg #[.bool m, t]) q :: fI (.agg #[.bool n, s]) p :: l) -> K (a.put o.dst (.tuple #[.agg #[.bool n, s, .bool m, t], .int .i64 c])) w') : o.wp P a w K Q := by
 exact ZNM
theorem XD {z : ByteArray} (hf : Fn P f) (ho : o.op = .call { callee := .value (.func f), args := args.toArray, argTypes := tys }) (hc : Calls P f vs.toArray w (D9 w z)) (hv : args.map a.eval = vs) (E : Env w l)
 (h : ∀ w', Below w.heap.size w w' -> Env w' l -> K (a.put o.dst (.string z)) w') : o.wp P a w K Q := by
 exact ZuL
end
theorem tC {ops : Array Oper} {S : World -> Prop} {o : Oper} {fr : List Value} {x y : Operand} {n : Bool} (ho : ops[i]? = some o) (hop : o.op = .buildSlice 215 2 #[(0, x), (1, y)]) (hg : o.guard = none)
 (hx : MN fr x = .agg #[.bool n, s]) (hy : MN fr y = .agg #[.bool m, t]) : RunF prog ops S i ⟨fun b => .slice (some ⟨b, 0, none⟩) 2 2, 62, [.bool n, s, .bool m, t]⟩ ⟨fr.toArray, []⟩ :=
 ⟨o, ho, by unfold Region.wanted; rw [hg], fun w _ => Np hop (by rw [QB]; exact hx) (by rw [QB]; exact hy)⟩
theorem Ku : CD (1 : Int).natAbs = [1] := by
 show CD 1 = [1]
 rw [VD 1 AE, show 1 / 4294967296 = 0 from rfl, EG]
set_option maxHeartbeats 1000000 in
theorem MW (va : Value) (x : Int) (w : World) (ha : IsI w va x) :
 Calls prog 128 #[va] w (LN w (decide (x = 1))) := by
 obtain ⟨s, rfl, N, y, rfl, q, D, J, H, C⟩ := ha
 have o := Lib.hid C
 clear C H J
 unfold maxLen at D
 generalize hS : decide (x < 0) = n
 obtain ⟨W, f, G, p, t⟩ := mJ w n (.slice N (CD x.natAbs).length y)
 have P := t.1
 have L := t.2
 clear t
 by_cases e : x < 0
 . rw [decide_eq_true e] at hS
   subst hS
   rw [decide_eq_false (show ¬ x = 1 by omega)]
   clear e q D o
   exact ZFg
 rw [decide_eq_false e] at hS
 subst hS
 by_cases h : (CD x.natAbs).length = 1
 . have B : (((CD x.natAbs).length : Int) == 1) = true := by rw [h]; rfl
   have k : (CD x.natAbs).length = 0 + 1 := h
   obtain ⟨b, F, rfl, v⟩ := o.out 0 AA
   have v := DB v p
   have u : val (CD x.natAbs) = x.natAbs := CO _
   have hg : gd (CD x.natAbs) 0 = x.natAbs := by
    generalize CD x.natAbs = l at *
    obtain ⟨d, rfl⟩ := List.length_eq_one_iff.1 h
    simpa [val, gd] using u
   rw [hg, Nat.add_zero] at v
   rw [h] at B L f ⊢
   by_cases q : x = 1
   . subst q
     rw [decide_eq_true rfl]
     clear e h k u hg o
     exact ZFg
   rw [decide_eq_false q]
   have I : (((x.natAbs : Nat) : Int) == 1) = false := by rw [beq_eq_false_iff_ne]; omega
   clear e h k u hg o
   exact ZFg
 have B : (((CD x.natAbs).length : Int) == 1) = false := by rw [beq_eq_false_iff_ne]; omega
 rw [decide_eq_false (show ¬ x = 1 by rintro rfl; exact h (by rw [Ku]; rfl))]
 clear e h o
 exact ZFg
set_option maxHeartbeats 2000000
set_option maxRecDepth 100000
def NF (x : Rat) : ByteArray := if ((x.den : Nat) : Int) = 1 then NT x.num else NT x.num ++ ⟨#[47]⟩ ++ NT ((x.den : Nat) : Int)
theorem NE (z : Int) : (NT z).data.toList = txt z := by unfold NT; simp
theorem MJ (z : Int) : (47 : UInt8) ∉ txt z := by
 intro h
 unfold txt at h
 rcases List.mem_append.1 h with h | h
 . split at h
   . simp at h
   cases h
 obtain ⟨d, k, e⟩ := List.mem_map.1 h
 have l := RE z.natAbs d k
 have f : (UInt8.ofNat (48 + d)).toNat = (47 : UInt8).toNat := by rw [e]
 rw [UInt8.toNat_ofNat'] at f
 change _ = 47 at f
 omega
theorem eW (h : Fits z k) (hk : 0 < k) : (NT z).size <= 10 * k + 1 := by
 have e : (NT z).size = (txt z).length := by rw [<- NE]; rfl
 rw [e]
 unfold txt
 rw [List.length_append, vF]
 have := pC h hk
 split <;> simp <;> omega
theorem WY {b : ByteArray} (h : a.data.toList = b.data.toList) : a = b := by
 cases a; cases b; simp at h ⊢; exact h
theorem NU (x : Rat) : (NF x).data.toList = if ((x.den : Nat) : Int) = 1 then txt x.num else txt x.num ++ 47 :: txt ((x.den : Nat) : Int) := by
 unfold NF
 split
 . exact NE _
 rw [ByteArray.data_append, ByteArray.data_append, Array.toList_append, Array.toList_append, NE, NE]; simp
theorem TO {a b c d : List UInt8} (ha : (47 : UInt8) ∉ a) (hc : (47 : UInt8) ∉ c) (h : a ++ 47 :: b = c ++ 47 :: d) : a = c /\ b = d := by
 induction a generalizing c with
 | nil =>
   cases c with
   | nil => simpa using h
   | cons y c => simp at h; exact absurd (by rw [h.1]; simp) hc
 | cons x a ih =>
   cases c with
   | nil => simp at h; exact absurd (by rw [h.1]; simp) ha
   | cons y c =>
     simp only [List.cons_append, List.cons.injEq] at h
     obtain ⟨f, e⟩ := ih (fun g => ha (List.mem_cons_of_mem _ g)) (fun g => hc (List.mem_cons_of_mem _ g)) h.2
     exact ⟨by rw [h.1, f], e⟩
def vq (n d : Int) : Prop := 0 < d /\ Nat.gcd n.natAbs d.natAbs = 1
theorem Lx (x : Rat) : vq x.num ((x.den : Nat) : Int) := ⟨We x, by rw [Int.natAbs_natCast]; exact x.reduced⟩
theorem WK (h : vq n d) : (Rat.divInt n d).num = n /\ (((Rat.divInt n d).den : Nat) : Int) = d := Vb h.1 (by rw [h.2]; rfl)
theorem ZS (n : Int) : vq n 1 := ⟨by decide, by simp⟩
section
variable {l a b : List UInt8} {n d : Int}
theorem Oz (ha : DN l = some n) : l = (NF (n : Rat)).data.toList := by
 rw [NU]
 rw [if_pos AH, Rat.num_intCast, NI ha]
theorem tY (hs : (47 : UInt8) ∉ l) (ha : DN l = none) (x : Rat) : l ≠ (NF x).data.toList := by
 intro e
 rw [NU] at e
 split at e
 . exact dK ha _ e.symm
 rw [e] at hs; simp at hs
theorem lV (hs : (47 : UInt8) ∉ a) (ha : DN a = none) (x : Rat) : a ++ 47 :: b ≠ (NF x).data.toList := by
 intro e
 rw [NU] at e
 split at e
 . exact MJ x.num (by rw [<- e]; simp)
 exact dK ha _ (TO hs (MJ _) e).1.symm
theorem tZ (hs : (47 : UInt8) ∉ a) (hb : DN b = none) (x : Rat) : a ++ 47 :: b ≠ (NF x).data.toList := by
 intro e
 rw [NU] at e
 split at e
 . exact MJ x.num (by rw [<- e]; simp)
 exact dK hb _ (TO hs (MJ _) e).2.symm
theorem bS (hs : (47 : UInt8) ∉ a) (ha : DN a = some n) (hb : DN b = some d) (h : ¬ vq n d ∨ d = 1) (x : Rat) : a ++ 47 :: b ≠ (NF x).data.toList := by
 intro e
 rw [NU] at e
 split at e
 . exact MJ x.num (by rw [<- e]; simp)
 rename_i h1
 obtain ⟨e1, e2⟩ := TO hs (MJ _) e
 rw [<- NI ha] at e1
 rw [<- NI hb] at e2
 rw [eV e1, eV e2] at h
 rcases h with h | h
 . exact h (Lx x)
 exact h1 h
theorem Fk (ha : DN a = some n) (hb : DN b = some d) (h : vq n d) (h1 : d ≠ 1) : a ++ 47 :: b = (NF (Rat.divInt n d)).data.toList := by
 obtain ⟨e1, e2⟩ := WK h
 rw [NU, e1, e2, if_neg h1, NI ha, NI hb]
end
theorem wF {y : Rat} (h : NF x = NF y) : x = y := by
 have h : (NF x).data.toList = (NF y).data.toList := by rw [h]
 rw [NU, NU] at h
 split at h <;> split at h <;> rename_i h1 h2
 . exact Rat.ext (eV h) AA
 . exact absurd (by rw [h]; simp) (MJ x.num)
 . exact absurd (by rw [<- h]; simp) (MJ y.num)
 obtain ⟨e1, e2⟩ := TO (MJ _) (MJ _) h
 have := eV e2
 exact Rat.ext (eV e1) AA
inductive ParQ (w0 : World) (R : Int -> Int -> Int -> Ending -> World -> Prop) (s : ByteArray) (e : Ending) (w' : World) : Prop
 | big (h : 4000 < s.size) (r : R 0 0 2 e w')
 | form (h : s.size <= 4000) (h' : ∀ x, s ≠ NF x) (r : R 0 0 3 e w')
 | ok (x : Rat) (h : s.size <= 4000) (h' : s = NF x) (r : R x.num ((x.den : Nat) : Int) 0 e w')
theorem Wi {c : UInt8} (h : c ∈ l) : ∃ a b, l = a ++ c :: b /\ c ∉ a := by
 induction l with
 | nil => cases h
 | cons x l ih =>
   by_cases f : x = c
   . exact ⟨[], l, by simp [f], by simp⟩
   rcases List.mem_cons.1 h with e | e
   . exact absurd e.symm f
   obtain ⟨a, b, e1, e2⟩ := ih e
   exact ⟨x :: a, b, by simp [e1], by simp [e2, Ne.symm f]⟩
theorem JE (hs : l.length <= 4000) (h : DN l = some d) : Fits d 4000 := by
 have k := NI h
 have f : (YF d.natAbs).length <= 4000 := by
  have : (txt d).length <= 4000 := by rw [k]; exact hs
  unfold txt ZQ at this; rw [List.length_append, List.length_map] at this; omega
 have e := eS (RE d.natAbs)
 rw [TW] at e
 exact (NB (m := (YF d.natAbs).length) (Nat.lt_of_lt_of_le e (Nat.pow_le_pow_left AE _))).mono f
theorem fnc_Index : Fn prog 146 := ⟨_, func146, by kernel_rfl, rfl⟩
theorem fnc_Cut0 : Fn prog 99 := ⟨_, func99, by kernel_rfl, rfl⟩
theorem YU : Fn prog 52 := ⟨_, func52, by kernel_rfl, rfl⟩
theorem Lp (s sep : ByteArray) (c : UInt8) (hsep : sep = ⟨#[c]⟩) (w : World) (h : Lib.indexByte s.data.toList c = -1) :
 Calls prog 99 #[.string s, .string sep] w fun e w' => e = .returned (.tuple #[.string s, .string ByteArray.empty, .bool false]) /\ ∃ n, w' = w.drewN n := by
 have f : ∀ w, Calls prog 146 #[.string s, .string sep] w fun e w' => e = .returned (.int .i64 (-1)) /\ w' = w := fun w => by rw [hsep, <- h]; exact Tryz.stringslite_Index_one s c w
 have k : ∀ args w, (callFunc 146 args).run prog w = .ok (.enter 146 args) w := fnc_Index.run
 clear hsep h
 go_enter func99, ntmps99
 go_wp2_with (go_at_fn 146; refine (f _).mono ?_; rintro e w' ⟨rfl, rfl⟩)
 go_ret3
 exact ⟨rfl, 0, rfl⟩
theorem Sx (s sep : ByteArray) (c : UInt8) (i : Nat) (hsep : sep = ⟨#[c]⟩) (w : World) (h : Lib.indexByte s.data.toList c = (i : Int)) (hroom : i + sep.size <= s.size) (hs : s.size < 4294967281) :
 Calls prog 99 #[.string s, .string sep] w fun e w' => e = .returned (.tuple #[.string (s.extract 0 i), .string (s.extract (i + sep.size) s.size), .bool true]) /\ ∃ n, w' = w.drewN n := by
 have k : ∀ w, Calls prog 146 #[.string s, .string sep] w fun e w' => e = .returned (.int .i64 (i : Int)) /\ w' = w := fun w => by rw [hsep, <- h]; exact Tryz.stringslite_Index_one s c w
 have l : ∀ args w, (callFunc 146 args).run prog w = .ok (.enter 146 args) w := fnc_Index.run
 have f : prog.follows .mixedOrders = true := by kernel_rfl
 have t : (0 : Int) <= ↑i := by omega
 have q : (↑i : Int) <= ↑s.size := by omega
 have p : (0 : Int) <= ↑i + ↑sep.size := by omega
 have o : (↑i + ↑sep.size : Int) <= ↑s.size := by omega
 clear hsep h
 go_enter func99, ntmps99
 go_wp2_with (go_at_fn 146; refine (k _).mono ?_; rintro e w' ⟨rfl, rfl⟩)
 go_region_o
 go_wp2
 go_ret3
 exact ⟨rfl, 1, rfl⟩
theorem Sv {s sep : ByteArray} (h : ∀ w, Calls prog 99 #[.string s, .string sep] w fun e w' => e = .returned v /\ ∃ n, w' = w.drewN n) {b : ByteArray} {f : Bool} (hv : v = .tuple #[.string a, .string b, .bool f]) (w : World) :
 Calls prog 52 #[.string s, .string sep] w fun e w' => e = .returned (.tuple #[.string a, .string b, .bool f]) /\ ∃ n, w' = w.drewN n := by
 subst hv
 have k : ∀ args w, (callFunc 99 args).run prog w = .ok (.enter 99 args) w := fnc_Cut0.run
 go_enter func52, ntmps52
 go_wp2_with (go_at_fn 99; refine (h _).mono ?_; rintro e w' ⟨rfl, n, rfl⟩)
 go_ret3
 exact ⟨rfl, n, rfl⟩
def Sd (w0 : World) (v : Value) (e : Ending) (w' : World) : Prop := e = .returned v /\ Below w0.heap.size w0 w'
theorem Sw (s : ByteArray) (c : UInt8) (w : World) (h : c ∉ s.data.toList) : Calls prog 52 #[.string s, .string ⟨#[c]⟩] w (Sd w (.tuple #[.string s, .string ByteArray.empty, .bool false])) := by
 have k : Lib.indexByte s.data.toList c = -1 := by
  have := Lib.indexByte_ge s.data.toList c
  rcases Int.lt_or_le (Lib.indexByte s.data.toList c) 0 with e | e
  . omega
  obtain ⟨o, f⟩ : ∃ o : Nat, Lib.indexByte s.data.toList c = o := ⟨(Lib.indexByte s.data.toList c).toNat, by omega⟩
  exact absurd (List.mem_of_getElem? (Lib.indexByte_some f).1) h
 refine (Sv (fun w => Lp s _ c O w k) O w).mono ?_
 exact Z5D
theorem iP (s a b : ByteArray) (c : UInt8) (w : World) (h : s.data.toList = a.data.toList ++ c :: b.data.toList) (hc : c ∉ a.data.toList) (hs : s.size < 4294967281) :
 Calls prog 52 #[.string s, .string ⟨#[c]⟩] w (Sd w (.tuple #[.string a, .string b, .bool true])) := by
 have l : s.data.toList[a.size]? = some c := by
  rw [h, List.getElem?_append_right (by rw [Lib.size_eq]; exact Nat.le_refl _), Lib.size_eq, Nat.sub_self]; rfl
 have u : Lib.indexByte s.data.toList c = ((a.size : Nat) : Int) := by
  have := Lib.indexByte_ge s.data.toList c
  rcases Int.lt_or_le (Lib.indexByte s.data.toList c) 0 with e | e
  . exact absurd l (Lib.indexByte_none AA _)
  obtain ⟨o, f⟩ : ∃ o : Nat, Lib.indexByte s.data.toList c = o := ⟨(Lib.indexByte s.data.toList c).toNat, by omega⟩
  obtain ⟨q, v⟩ := Lib.indexByte_some f
  rcases Nat.lt_trichotomy o a.size with k | k | k
  . rw [h, List.getElem?_append_left (by rw [<- Lib.size_eq]; exact k)] at q
    exact absurd (List.mem_of_getElem? q) hc
  . rw [f, k]
  exact absurd l (v _ k)
 have t : s.size = a.size + (b.size + 1) := by
  rw [Lib.size_eq, h, Lib.size_eq, Lib.size_eq]; simp
 have p : (⟨#[c]⟩ : ByteArray).size = 1 := rfl
 have e1 : s.extract 0 a.size = a := WY (by rw [Lib.extract_eq, h, show a.size = a.data.toList.length from Lib.size_eq a]; simp)
 have e2 : s.extract (a.size + (⟨#[c]⟩ : ByteArray).size) s.size = b := WY (by
  rw [Lib.extract_eq, p, t, h]
  rw [List.drop_append, List.drop_of_length_le (by rw [Lib.size_eq]; omega), show a.size + 1 - a.data.toList.length = 1 by rw [Lib.size_eq]; omega]
  simp
  rw [List.take_of_length_le]; rw [<- Lib.size_eq]; omega)
 refine (Sv (fun w => Sx s _ c a.size O w u (by rw [p]; omega) hs) (by rw [e1, e2]) w).mono ?_
 exact Z5D
section
variable {P : Program} {o : Oper} {a : Act} {w : World} {K : Act -> World -> Prop} {Q : Exit -> Act -> World -> Prop} {f : Nat} {args : List Operand} {tys : Array TypeId} {vs : List Value} {l : List SF}
theorem JU (hf : Fn P f) (ho : o.op = .call { callee := .value (.func f), args := args.toArray, argTypes := tys }) (hc : Calls P f vs.toArray w (Sd w v)) (hv : args.map a.eval = vs) (E : Env w l)
 (h : ∀ w', Below w.heap.size w w' -> Env w' l -> K (a.put o.dst v) w') : o.wp P a w K Q := by
 exact ZuL
end
set_option maxHeartbeats 8000000
set_option maxRecDepth 100000
theorem Ew (h : z < 0) : decide (OY z < 0) = true := by rw [ZX h]; rfl
theorem Na (h : 0 < z) : decide (OY z < 0) = false := by rw [UG h]; rfl
theorem Sq {x : Int} (hy : y ≠ 0) (h : Fits y k) : Fits ((Nat.gcd x.natAbs y.natAbs : Nat) : Int) k :=
 mR (by rw [Int.natAbs_natCast]; exact Nat.le_of_dvd AA (Nat.gcd_dvd_right _ _)) h
theorem EU (h1 : -9223372036854775808 <= n) (h2 : n <= 9223372036854775807) : Fits n 4 := NB AA
def pz (x y : Int) (i : Nat) : Int := if i = 0 then 1 else if i = 1 then x else x * y
theorem pzA0 {x : Int} (h : i = 0) (hx : x = 1) : pz x y i = pz x y (i + 1) := by subst h; simp [pz, hx]
theorem pzA1 {x : Int} (h : i = 1) (hy : y = 1) : pz x y i = pz x y (i + 1) := by subst h; simp [pz, hy]
theorem pzB0 {x : Int} (h : i = 0) : x = pz x y (i + 1) := by subst h; simp [pz]
theorem pzB1 {x : Int} (h : i = 1) (hx : pz x y i = 1) : y = pz x y (i + 1) := by subst h; simp [pz] at hx ⊢; simp [hx]
theorem pzC1 {x : Int} (h : i = 1) : pz x y i * y = pz x y (i + 1) := by subst h; simp [pz]
theorem Zf {x : Int} (h : i = 0) : decide (pz x y i = 1) = true := by subst h; rfl
theorem Zg {x : Int} (h : ¬ i < 2) : pz x y i = x * y := by unfold pz; rw [if_neg AA, if_neg AA]
theorem Xl {x : Int} (h : i < 2) (hk : 1 <= k) (hx : Fits x k) : Fits (pz x y i) k := by
 unfold pz; split
 . exact Ef hk
 rw [if_pos AA]; exact hx
theorem rU (b : Nat) (nx : Bool) (sx : Value) (ny : Bool) (sy : Value) (x y : Int) (w : World) (h1 : IsI w (.agg #[.bool nx, sx]) x) (h2 : IsI w (.agg #[.bool ny, sy]) y) (hb : Bx w b 62 [.bool nx, sx, .bool ny, sy]) (Fx : Fits x 400000000) (Fy : Fits y 400000000) :
 Calls prog 166 #[.slice (some ⟨b, 0, none⟩) 2 2] w (RetZ w (x * y)) := by
 have E := Env.start w
 have lb := Bx.lt hb
 replace E := ((E.i h1).i h2).x hb
 go_enter func166, ntmps166
 refine zG ?_
 refine EF O (BZ EC O ?_)
 intro D w1 e1 z1 d1 k
 have l1 : w.heap.size <= D := by rw [e1]; exact (e3 E).size
 replace E := E.below d1
 clear e1
 refine zG ?_
 refine EF O (CH WR O (E7 1 _ AE AE) O E ?_)
 intro w2 n2 s2 d2 E
 replace k := k.below d2
 refine zG ?_
 refine EF O (BZ EC O ?_)
 intro C w3 e3 z3 d3 x3
 have a2 : D < C := by rw [e3]; exact Bx.lt (k)
 replace E := E.below d3
 replace k := Bx.below k d3
 clear e3
 refine zG ?_
 refine EF O (BY EC O O O x3 O O (IsI.one E.1) ?_)
 intro w4 o4 y4
 replace E := oB E x3 o4 y4
 replace k := Bx.onl k AA o4
 refine zG ?_
 refine V (v := .int .i64 2) O O (Nu O O O) ?_
 replace E := E.b k
 replace E := E.i (VM (show (1 : Int) = pz x y 0 from rfl) E.2.2.1)
 refine zG ?_
 refine wp_loop_ghost (fun mz a w' => ∃ (i : Nat) (o : Bool) (l : Value) (h : List Value), h = a.tmps.toList /\ a = ⟨(.slice (some ⟨b, 0, none⟩) 2 2 :: undef :: .pointer (some ⟨D, 0, none⟩) :: .pointer (some ⟨C, 0, none⟩) :: undef :: CJ h 5 :: .agg #[.bool n2, s2] :: .slice (some ⟨b, 0, none⟩) 2 2 :: .int .i64 2 :: .int .i64 ↑i :: gr h 10 15 []).toArray, []⟩ /\ Env w' [fB D false (.slice none 0 0), fB C o l, fI (.agg #[.bool o, l]) (pz x y i), fX b (62) ([.bool nx, sx, .bool ny, sy]), fI (.agg #[.bool ny, sy]) y, fI (.agg #[.bool nx, sx]) x, fW w] /\ mz = 2 - i /\ i <= 2) (2) ⟨0, n2, s2, _, O, O, zE, O, AE⟩ ?_
 rintro m5 _ w5 ⟨i, o, l, h, -, rfl, E, e, ag⟩
 dsimp only [gr, Nat.reduceAdd]
 by_cases hi : i < 2
 case neg =>
  have p := E.1
  refine zG ?_
  replace E := YE E
  refine zG ?_
  refine EF O (BY EC O O O p O O (IsI.one E.2.1) ?_)
  intro a4 P F
  replace E := oB E p P F
  have r1 := CL EC E.1 rfl
  refine zG ?_
  exact AQ (v := .agg #[.bool o, l]) (by simp [results, results166, asAddr, r1]) O ⟨_, O, VM (Zg hi) E.2.2.1, e6 E⟩
 by_cases f : i = 0
 case pos =>
  refine zG ?_
  refine V (v := .pointer (some ⟨b, 0 + i * 2, none⟩)) O O (VP (j := i) O underlying215 Z O O O AA) ?_
  refine V O O (CN O O (e3 E) (by rw [f]; rfl) (by rw [f]; rfl)) ?_
  refine zG ?_
  refine EF O (BZ EC O ?_)
  intro b6 w6 e6 z6 d6 x6
  have a1 : C < b6 := by rw [e6]; exact Bx.lt E.2.1
  replace E := E.below d6
  clear e6
  refine zG ?_
  refine EF O (BY EC O O O x6 O O (IsI.one (e5 E)) ?_)
  intro w7 o7 y7
  replace E := oB E x6 o7 y7
  by_cases h1 : x = 1
  . refine zG ?_
    refine EF O (CA EB O (MW _ x _ (e6 E)) O E ?_)
    intro w8 d8 E
    refine zG ?_
    refine AO (congrArg Value.bool (decide_eq_true h1)) ?_
    replace E := E.i (VM (z' := pz x y (i + 1)) (pzA0 f h1) (e3 E))
    exact Zqz
  refine zG ?_
  refine EF O (CA EB O (MW _ x _ (e6 E)) O E ?_)
  intro w9 d9 E
  refine zG ?_
  refine AP (congrArg Value.bool (decide_eq_false h1)) ?_
  refine zG ?_
  refine EF O (CA EB O (MW _ (pz x y i) _ (e3 E)) O E ?_)
  intro af am E
  refine zG ?_
  refine AO (congrArg Value.bool (Zf f)) ?_
  have B := E.2.2.1
  refine zG ?_
  replace E := VC E
  refine zG ?_
  refine EF O (BY EC O O O B O O (IsI.one (e5 E)) ?_)
  intro ae T J
  replace E := oB E B T J
  replace E := E.i (VM (z' := pz x y (i + 1)) (pzB0 f) (e6 E))
  refine zG ?_
  exact ⟨_, (by rw [e]; omega), (i + 1), nx, sx, _, O, O, zE, O, AA⟩
 replace f : i = 1 := by omega
 refine zG ?_
 refine V (v := .pointer (some ⟨b, 0 + i * 2, none⟩)) O O (VP (j := i) O underlying215 Z O O O AA) ?_
 refine V O O (CN O O (e3 E) (by rw [f]; rfl) (by rw [f]; rfl)) ?_
 refine zG ?_
 refine EF O (BZ EC O ?_)
 intro a0 ad XX a3 Y u
 have X : C < a0 := by rw [XX]; exact Bx.lt E.2.1
 replace E := E.below Y
 clear XX
 refine zG ?_
 refine EF O (BY EC O O O u O O (IsI.one (e4 E)) ?_)
 intro ac S I
 replace E := oB E u S I
 by_cases h1 : y = 1
 . refine zG ?_
   refine EF O (CA EB O (MW _ y _ (e5 E)) O E ?_)
   intro ab al E
   refine zG ?_
   refine AO (congrArg Value.bool (decide_eq_true h1)) ?_
   replace E := E.i (VM (z' := pz x y (i + 1)) (pzA1 f h1) (e3 E))
   exact Zqz
 refine zG ?_
 refine EF O (CA EB O (MW _ y _ (e5 E)) O E ?_)
 intro aa ak E
 refine zG ?_
 refine AP (congrArg Value.bool (decide_eq_false h1)) ?_
 by_cases h2 : pz x y i = 1
 case pos =>
  refine zG ?_
  refine EF O (CA EB O (MW _ (pz x y i) _ (e3 E)) O E ?_)
  intro a9 aj E
  refine zG ?_
  refine AO (congrArg Value.bool (decide_eq_true h2)) ?_
  have t := E.2.2.1
  refine zG ?_
  replace E := VC E
  refine zG ?_
  refine EF O (BY EC O O O t O O (IsI.one (e4 E)) ?_)
  intro a8 R H
  replace E := oB E t R H
  replace E := E.i (VM (z' := pz x y (i + 1)) (pzB1 f h2) (e5 E))
  refine zG ?_
  exact ⟨_, (by rw [e]; omega), (i + 1), ny, sy, _, O, O, zE, O, AA⟩
 refine zG ?_
 refine EF O (CA EB O (MW _ (pz x y i) _ (e3 E)) O E ?_)
 intro a7 ai E
 refine zG ?_
 refine AP (congrArg Value.bool (decide_eq_false h2)) ?_
 refine zG ?_
 refine EF O (CH oO O (Mul_z _ _ (pz x y i) y _ (e3 E) (e5 E) (Fits.mono (Xl hi AE Fx) AE) (Fits.mono Fy AE)) O E ?_)
 intro a6 U L ah E
 have q := e3 E
 refine zG ?_
 replace E := qC E
 refine zG ?_
 refine EF O (BY EC O O O q O O (IsI.one E.1) ?_)
 intro a5 Q G
 replace E := oB E q Q G
 replace E := E.i (VM (z' := pz x y (i + 1)) (pzC1 f) E.2.1)
 refine zG ?_
 exact ⟨_, (by rw [e]; omega), (i + 1), U, L, _, O, O, zE, O, AA⟩
theorem Eh (va : Value) (n : Int) (w : World) (hva : IsI w va n) :
 Calls prog 135 #[va] w (RetP w ((n : Int) : Rat).num (((((n : Int) : Rat)).den : Nat) : Int)) := by
 have E := Env.start w
 obtain ⟨h, f, rfl, _, _⟩ := hva.sh
 replace E := E.i hva
 go_enter func135, ntmps135
 refine zG ?_
 refine EF O (CM O O ?_)
 intro q P e1 I F u
 have Q : w.heap.size <= q := by rw [e1]; exact E.2.1.size
 replace E := E.below F
 clear e1
 replace E := E.b u
 refine zG ?_
 refine EF O (BZ EY O ?_)
 intro G N e2 H D e
 have p : q < G := by rw [e2]; exact Bx.lt E.1
 replace E := E.below D
 clear e2
 refine zG ?_
 refine sE E [0,1,2,3] ?_
 replace E := E.drew
 replace e := Bx.drew e
 refine zG ?_
 refine GG (o := ⟨some 4, _, _, _, _, _⟩) O O O O (CH WR O (E7 1 _ AE AE) O E ?_)
 intro L l k C E
 replace e := e.below C
 refine ⟨E.2, ?_⟩
 refine zG ?_
 refine SW (v := .agg #[.bool h, f, .bool l, k]) O O O O O (fun w R => IE O O O) ?_
 refine zG ?_
 refine GG (o := ⟨none, _, _, _, _, _⟩) O O O O (BY EY O O O e O O (IF (IsI.one E.2.2.1) (IsI.one E.1)) ?_)
 intro J B t
 replace E := (E.onl (e.noW (LM EZ EZ)) zK B).x t
 refine ⟨E.2.2, ?_⟩
 have r1 := CL EY E.1 rfl
 refine zG ?_
 exact AQ (v := .agg #[.bool h, f, .bool l, k]) (by simp [results, results135, asAddr, r1]) O ⟨_, _, _, _, O, VM O (e3 E), VM O E.2.1, e4 E⟩
theorem vL (n : Int) (w : World) (h1 : -9223372036854775808 <= n) (h2 : n <= 9223372036854775807) :
 Calls prog 88 #[.int .i64 n] w (RetP w ((n : Int) : Rat).num (((((n : Int) : Rat)).den : Nat) : Int)) := by
 have E := Env.start w
 go_enter func88, ntmps88
 refine zG ?_
 refine EF O (BZ EY O ?_)
 intro B H e1 C y e
 have L : w.heap.size <= B := by rw [e1]; exact E.1.size
 replace E := E.below y
 clear e1
 refine zG ?_
 refine EF O (CH WR O (E7 n _ h1 h2) O E ?_)
 intro G J I u E
 replace e := e.below u
 have N : Fits n 4 := EU h1 h2
 refine zG ?_
 refine EF O (CV VY O (Eh _ n _ E.1) O E ?_)
 intro F p k q h t E
 replace e := e.below t
 refine zG ?_
 refine EF O (BY EY O O O e O O (IF (IsI.one E.2.1) (IsI.one E.1)) ?_)
 intro D o f
 replace E := (E.onl (e.noW (LM EZ EZ)) zK o).x f
 have r1 := CL EY E.1 rfl
 refine zG ?_
 exact AQ (v := .agg #[.bool p, k, .bool q, h]) (by simp [results, results88, asAddr, r1]) O ⟨_, _, _, _, O, VM O E.2.2.1, VM O E.2.1, e4 E⟩
theorem Hx (na : Bool) (sa : Value) (ma : Bool) (ta : Value) (x : Rat) (w : World) (hna : IsI w (.agg #[.bool na, sa]) x.num) (hda : IsI w (.agg #[.bool ma, ta]) ((x.den : Nat) : Int)) (Fx : FitQ x 100000000) :
 Calls prog 44 #[.agg #[.bool na, sa, .bool ma, ta]] w (RetP w (-x).num (((-x).den : Nat) : Int)) := by
 have E := Env.start w
 replace E := (E.i hna).i hda
 go_enter func44, ntmps44
 refine zG ?_
 refine EF O (CM (cs := [.bool na, sa, .bool ma, ta]) O O ?_)
 intro p N e1 H D t
 have P : w.heap.size <= p := by rw [e1]; exact E.2.2.1.size
 replace E := E.below D
 clear e1
 replace E := E.x t
 refine zG ?_
 refine EF O (BZ EY O ?_)
 intro F L e2 G C e
 have l : p < F := by rw [e2]; exact Bx.lt E.1
 replace E := E.below C
 clear e2
 refine zG ?_
 refine sE E [0,1,3,4,2,5,6] ?_
 replace E := E.drew
 replace e := Bx.drew e
 refine SW O O O O O (fun w f => DU O O) ?_
 refine SW O O O O O (fun w f => CN O O (f.1) O O) ?_
 refine SW O O O O O (fun w f => DD O O) ?_
 refine SW O O O O O (fun w f => CN O O (f.1) O O) ?_
 refine zG ?_
 refine GG (o := ⟨some 5, _, _, _, _, _⟩) O O O O (CH oN O (Neg_z _ x.num _ E.2.2.1 (Fits.mono Fx.1 AE)) O E ?_)
 intro J k h B E
 replace e := e.below B
 refine ⟨E.2, ?_⟩
 refine zG ?_
 refine SW (v := .agg #[.bool k, h, .bool ma, ta]) O O O O O (fun w f => IE O O O) ?_
 refine zG ?_
 refine GG (o := ⟨none, _, _, _, _, _⟩) O O O O (BY EY O O O e O O (IF (IsI.one E.1) (IsI.one E.2.2.1)) ?_)
 intro I y q
 replace E := (E.onl (e.noW (LM EZ EZ)) zK y).x q
 refine ⟨E.2.2, ?_⟩
 have r1 := CL EY E.1 rfl
 refine zG ?_
 exact AQ (v := .agg #[.bool k, h, .bool ma, ta]) (by simp [results, results44, asAddr, r1]) O ⟨_, _, _, _, O, VM O E.2.1, VM O (e3 E), e5 E⟩
theorem RF (na : Bool) (sa : Value) (ma : Bool) (ta : Value) (x : Rat) (w : World) (hna : IsI w (.agg #[.bool na, sa]) x.num) (hda : IsI w (.agg #[.bool ma, ta]) ((x.den : Nat) : Int)) :
 Calls prog 81 #[.agg #[.bool na, sa, .bool ma, ta]] w (VI w (OY x.num)) := by
 have E := Env.start w
 replace E := (E.i hna).i hda
 go_enter func81, ntmps81
 refine zG ?_
 refine EF O (CM (cs := [.bool na, sa, .bool ma, ta]) O O ?_)
 intro p l e1 h f e
 replace E := E.below f
 clear e1
 replace E := E.x e
 refine zG ?_
 refine V O O (DU O O) ?_
 refine V O O (CN O O E.1 O O) ?_
 refine zG ?_
 refine EF O (CB TE O (pR _ x.num _ E.2.2.1) O E ?_)
 intro k o E
 refine zG ?_
 exact ⟨rfl, e3 E⟩
theorem Yf (na : Bool) (sa : Value) (ma : Bool) (ta : Value) (x : Rat) (nb : Bool) (sb : Value) (mb : Bool) (tb : Value) (y : Rat) (w : World) (hna : IsI w (.agg #[.bool na, sa]) x.num) (hda : IsI w (.agg #[.bool ma, ta]) ((x.den : Nat) : Int)) (hnb : IsI w (.agg #[.bool nb, sb]) y.num) (hdb : IsI w (.agg #[.bool mb, tb]) ((y.den : Nat) : Int)) (Fx : FitQ x 100000000) (Fy : FitQ y 100000000) :
 Calls prog 130 #[.agg #[.bool na, sa, .bool ma, ta], .agg #[.bool nb, sb, .bool mb, tb]] w (VI w (gZ x y)) := by
 have E := Env.start w
 replace E := (E.i hna).i hda
 replace E := (E.i hnb).i hdb
 go_enter func130, ntmps130
 refine zG ?_
 refine EF O (CM (cs := [.bool na, sa, .bool ma, ta]) O O ?_)
 intro t w1 e1 X T B
 replace E := E.below T
 clear e1
 replace E := E.x B
 refine zG ?_
 refine EF O (CM (cs := [.bool nb, sb, .bool mb, tb]) O O ?_)
 intro f w2 e2 U Q u
 replace E := E.below Q
 clear e2
 replace E := E.x u
 refine zG ?_
 refine sE E [0,2,1,3,4,5] ?_
 replace E := E.drew
 refine SW O O O O O (fun w e => CU EY O O (e.2.1) O) ?_
 refine SW O O O O O (fun w e => CU EY O O (e.1) O) ?_
 refine zG ?_
 refine GG (o := ⟨some 8, _, _, _, _, _⟩) O O O O (CB EN O (RF _ _ _ _ x _ (e5 E) (e4 E)) O E ?_)
 intro w3 d3 E
 refine ⟨E, ?_⟩
 refine zG ?_
 refine GG (o := ⟨some 10, _, _, _, _, _⟩) O O O O (CB EN O (RF _ _ _ _ y _ (e3 E) E.2.2.1) O E ?_)
 intro C d4 E
 refine ⟨E, ?_⟩
 by_cases h1 : (OY x.num) = (OY y.num)
 case neg =>
  by_cases L : (OY x.num) < (OY y.num)
  . refine zG ?_
    exact ⟨FW (zZ L).symm, e6 E⟩
  refine zG ?_
  exact ⟨FW (Rm AA).symm, e6 E⟩
 have k : f < C.heap.size := Bx.lt E.1
 refine zG ?_
 refine QT E [.op 0, .op 1, .op 2, .op 3, .op 6, .op 7, .op 8, .op 9, .av 4, .av 10, .op 4, .op 5, .op 10] 3 (#[true, true, true, true, true, true, true, true, true, true, true, false, false, false]) Z Z Z Z AF AF ?_
 refine FP (v := .pointer (some ⟨t, 0, none⟩)) O O O O O (fun w e => DU O O) ?_
 refine FP (v := .agg #[.bool na, sa]) O O O O O (fun w e => CN O O (e.2.1) O O) ?_
 refine FP (v := .pointer (some ⟨f, 2, none⟩)) O O O O O (fun w e => DD O O) ?_
 refine FP (v := .agg #[.bool mb, tb]) O O O O O (fun w e => CN O O (e.1) O O) ?_
 refine zG ?_
 refine FP (v := .pointer (some ⟨f, 0, none⟩)) O O O O O (fun w e => DU O O) ?_
 refine FP (v := .agg #[.bool nb, sb]) O O O O O (fun w e => CN O O (e.1) O O) ?_
 refine FP (v := .pointer (some ⟨t, 2, none⟩)) O O O O O (fun w e => DD O O) ?_
 refine FP (v := .agg #[.bool ma, ta]) O O O O O (fun w e => CN O O (e.2.1) O O) ?_
 refine FA _ (tC O O O O O) ?_
 refine FA _ (tC O O O O O) ?_
 refine zG ?_
 refine FF O O ?_
 intro q f6 u6
 have p : f < q := by omega
 refine zG ?_
 refine FE O O O O ?_
 intro Y E
 refine CH TL O (rU q _ _ _ _ x.num ((y.den : Nat) : Int) _ (e6 E) (e3 E) E.1 (Fits.mono Fx.1 AE) (Fits.mono Fy.2 AE)) O E ?_
 intro w8 n8 s8 P E
 refine kF P E O ?_
 refine zG ?_
 refine FF O O ?_
 intro l N H
 refine zG ?_
 intro G E
 refine H1 (i := 11) Z ?_
 refine HE (o := ⟨some 28, _, _, _, _, _⟩) O O (CH TL O (rU l _ _ _ _ y.num ((x.den : Nat) : Int) _ (e6 E) (e7 E) E.1 (Fits.mono Fy.1 AE) (Fits.mono Fx.2 AE)) O E ?_)
 intro F J I S E
 refine ⟨E.2.2.2.2, ?_⟩
 refine zG ?_
 refine H1 (i := 12) Z ?_
 refine HE (o := ⟨some 29, _, _, _, _, _⟩) O O (CB oQ O (Cmp_z _ _ (x.num * ((y.den : Nat) : Int)) (y.num * ((x.den : Nat) : Int)) _ E.2.2.1 E.1) O E ?_)
 intro D R E
 refine ⟨E.2.2.2.2, ?_⟩
 refine zG ?_
 refine HP (i := 13) (o := ⟨some 4, _, _, _, _, _⟩) (v := .int .i64 (JR (x.num * ((y.den : Nat) : Int)) (y.num * ((x.den : Nat) : Int)))) O Z (fun _ _ _ h => h) O (fun w e => KX O O) (E.2.2.2.2) ?_
 refine zG ?_
 refine HN Z ?_
 refine zG ?_
 exact ⟨rfl, RD E⟩
end Go.Proofs.YtmppigbbkjepiaaGreatDoor
