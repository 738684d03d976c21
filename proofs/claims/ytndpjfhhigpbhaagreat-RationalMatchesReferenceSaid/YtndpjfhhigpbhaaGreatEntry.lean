/- From a call's contract to the statement: arguments that are read, and read as before. Arguments of the laws on rationals, taken apart. -/
import Derived.Test.YtndpjfhhigpbhaaGreatLawB
import Derived.Test.YtndpjfhhigpbhaaGreatRows
import Derived.ProofKit
import Derived.Lib.SmallJoins
import Derived.Carry
import Derived.Test.YtndpjfhhigpbhaaGreatSameQ
import Derived.Deep.Strs
namespace Go.Proofs.YtndpjfhhigpbhaaGreat
open Go.ChangeShapes Go.WideShapes Go.ChangeAt Go.RowKit Go.Joins W
theorem Tryz.own : ownKnob Tryz.prog.godebug = none := by kernel_rfl
theorem Tryz.laidOut : laidOutB Tryz.prog = true := by kernel_rfl
theorem Tryz.cellsInt : Tryz.prog.cellsOf 29 = 2 := by kernel_rfl
theorem Tryz.cellsWord : Tryz.prog.cellsOf 75 = 1 := by kernel_rfl
theorem nats_of {zs : List Int} (h : ∀ n ∈ zs, (Lit.int .u32 n).wf = true) : ∃ l : List Nat, zs = l.map (fun x => ((x : Nat) : Int)) ∧ Wd l := by
  induction zs with
  | nil => exact ⟨[], rfl, Wd_nil⟩
  | cons z zs ih =>
    obtain ⟨l, rfl, hl⟩ := ih fun n hn => h n (List.mem_cons_of_mem _ hn)
    have hz := h z (by simp)
    have hz1 : 0 ≤ z ∧ z < 4294967296 := by
      simp [Lit.wf, IntKind.min, IntKind.max, IntKind.signed, IntKind.bits] at hz
      omega
    refine ⟨z.toNat :: l, ?_, Wd_cons.2 ⟨by omega, hl⟩⟩
    rw [List.map_cons, Int.toNat_of_nonneg hz1.1]
section
variable {H : Type} {enc : TypeId × Value → H} {W : World}
theorem sl_open {fuel : Nat} {c : Value} {x : DataW H × List MemPlace} (h : DataW.trod enc Tryz.prog W 0 (fun _ => true) true fuel 27 [c] = some x) : ∃ l, Sl W c l := by
  rcases open_ints Tryz.underlying27 Tryz.underlying75 Tryz.cellsWord h with ⟨h1, _⟩ | ⟨a, len, cap, zs, h1, _, hlc, hcm, hzl, _, hc, hw⟩
  · simp only [List.cons.injEq, and_true] at h1
    subst h1
    exact ⟨[], Sl_nil W⟩
  · simp only [List.cons.injEq, and_true] at h1
    subst h1
    simp only [if_true] at hzl
    obtain ⟨l, rfl, hl⟩ := nats_of hw
    rw [List.length_map] at hzl
    refine ⟨l.take len, some a, cap, by rw [List.length_take, hzl, Nat.min_eq_left hlc], by rw [List.length_take]; omega, hcm, Wd_take hl _, (fun h => by cases h), fun i hi => ?_⟩
    rw [List.length_take] at hi
    have hci := hc i (by rw [List.length_map]; omega)
    have hsp : a.spot = none := by
      have h0 := hc 0 (by rw [List.length_map]; omega)
      rw [Addr.add_zero'] at h0
      unfold World.cell? at h0
      split at h0
      · split at h0
        · cases h0
        · rename_i hs; simpa using hs
      · cases h0
    refine ⟨a.block, a.off, by cases a; simp_all, ?_⟩
    have ea : a.add i = ⟨a.block, a.off + i, none⟩ := by
      obtain ⟨b, o, sp⟩ := a
      subst hsp
      exact Addr.add_lit b o i
    rw [ea] at hci
    rw [hci, gd_take _ _ _ (by omega), gd_eq l i (by omega)]
    simp [show i < l.length by omega]
set_option maxRecDepth 100000 in
theorem open_Int {r : Reach} {b0 : Nat} {v : Value} {d : DataW H} {p : List MemPlace} (hv : Value.okWide Tryz.prog W r b0 29 v) (h : DataW.Trod enc Tryz.prog W 0 (fun _ => true) true 29 v d p) :
    ∃ n s l, v = .agg #[.bool n, s] ∧ Sl W s l := by
  obtain ⟨c0, c1, y0, y1, m, rfl, rfl, rfl, hy0, hy1⟩ := open_agg2 Tryz.underlying29 (by kernel_rfl) Tryz.cellsInt hv h
  obtain ⟨n, e0, _⟩ := DataW.trod_bool Tryz.underlying4 hy0
  simp only [List.cons.injEq, and_true] at e0
  subst e0
  obtain ⟨l, hl⟩ := sl_open hy1
  exact ⟨n, c1, l, rfl, hl⟩
end
/-- Arguments are read behind the call as before. -/
theorem trodAll_below {H : Type} {enc : TypeId × Value → H} {W W' : World} (hb : Below W.heap.size W W') : ∀ {ts : List TypeId} {vs : List Value} {ds : List (DataW H)} {ps : List MemPlace},
    DataW.TrodAll enc Tryz.prog W 0 (fun _ => true) true ts vs ds ps → (∀ t ∈ ts, Tryz.prog.readableRec t = true ∧ t < Tryz.prog.types.size) → (∀ x ∈ ps, x.block < W.heap.size) →
    DataW.TrodAll enc Tryz.prog W' 0 (fun b => decide (b < W.heap.size)) true ts vs ds ps
  | [], [], [], _, h, _, _ => h
  | t :: ts, v :: vs, d :: ds, ps, h, hr, hlt => by
    obtain ⟨p, q, h1, h2, rfl⟩ := h
    refine ⟨p, q, Below.trod Tryz.laidOut (hr t (by simp)).1 (hr t (by simp)).2 h1 hb (fun x hx => hlt x (List.mem_append_left _ hx)), trodAll_below hb h2 (fun t ht => hr t (List.mem_cons_of_mem _ ht)) (fun x hx => hlt x (List.mem_append_right _ hx)), rfl⟩
  | [], _ :: _, _, _, h, _, _ => absurd h (by simp [DataW.TrodAll])
  | [], [], _ :: _, _, h, _, _ => absurd h (by simp [DataW.TrodAll])
  | _ :: _, [], _, _, h, _, _ => absurd h (by simp [DataW.TrodAll])
  | _ :: _, _ :: _, [], _, h, _, _ => absurd h (by simp [DataW.TrodAll])
end Go.Proofs.YtndpjfhhigpbhaaGreat
namespace Go.Proofs.YtndpjfhhigpbhaaGreat
open Go.ChangeShapes Go.WideShapes Go.ChangeAt Go.RowKit Go.Joins W
theorem array6 {α : Type} {cs : Array α} (h : cs.size = 6) : ∃ c0 c1 c2 c3 c4 c5, cs = #[c0, c1, c2, c3, c4, c5] := by
  obtain ⟨l⟩ := cs
  match l, h with
  | [c0, c1, c2, c3, c4, c5], _ => exact ⟨c0, c1, c2, c3, c4, c5, rfl⟩
theorem array9 {α : Type} {cs : Array α} (h : cs.size = 9) : ∃ c0 c1 c2 c3 c4 c5 c6 c7 c8, cs = #[c0, c1, c2, c3, c4, c5, c6, c7, c8] := by
  obtain ⟨l⟩ := cs
  match l, h with
  | [c0, c1, c2, c3, c4, c5, c6, c7, c8], _ => exact ⟨c0, c1, c2, c3, c4, c5, c6, c7, c8, rfl⟩
section
variable {H : Type} {enc : TypeId × Value → H} {P : Program} {w : World} {base : Nat} {spare : Nat → Bool} {held : Bool}
theorem trod_raws2 {t e : TypeId} {fuel : Nat} {c0 c1 c2 c3 c4 c5 : Value} {x : DataW H × List MemPlace} (ht : P.underlying t = some (.array 2 e)) (hce : P.cellsOf e = 3)
    (h : DataW.trod enc P w base spare held fuel t [c0, c1, c2, c3, c4, c5] = some x) :
    ∃ y0 y1 n, DataW.trod enc P w base spare held n e [c0, c1, c2] = some y0 ∧ DataW.trod enc P w base spare held n e [c3, c4, c5] = some y1 := by
  cases fuel with
  | zero => simp [DataW.trod] at h
  | succ n =>
    unfold DataW.trod at h
    rw [ht] at h
    have r2 : List.range 2 = [0, 1] := rfl
    simp [r2, hce] at h
    obtain ⟨_, h⟩ := h
    cases h0 : DataW.trod enc P w base spare held n e [c0, c1, c2] with
    | none => simp [h0] at h
    | some y0 =>
      cases h1 : DataW.trod enc P w base spare held n e [c3, c4, c5] with
      | none => simp [h0, h1] at h
      | some y1 => exact ⟨y0, y1, n, h0, h1⟩
theorem trod_raws3 {t e : TypeId} {fuel : Nat} {c0 c1 c2 c3 c4 c5 c6 c7 c8 : Value} {x : DataW H × List MemPlace} (ht : P.underlying t = some (.array 3 e)) (hce : P.cellsOf e = 3)
    (h : DataW.trod enc P w base spare held fuel t [c0, c1, c2, c3, c4, c5, c6, c7, c8] = some x) :
    ∃ y0 y1 y2 n, DataW.trod enc P w base spare held n e [c0, c1, c2] = some y0 ∧ DataW.trod enc P w base spare held n e [c3, c4, c5] = some y1 ∧ DataW.trod enc P w base spare held n e [c6, c7, c8] = some y2 := by
  cases fuel with
  | zero => simp [DataW.trod] at h
  | succ n =>
    unfold DataW.trod at h
    rw [ht] at h
    have r3 : List.range 3 = [0, 1, 2] := rfl
    simp [r3, hce] at h
    obtain ⟨_, h⟩ := h
    cases h0 : DataW.trod enc P w base spare held n e [c0, c1, c2] with
    | none => simp [h0] at h
    | some y0 =>
      cases h1 : DataW.trod enc P w base spare held n e [c3, c4, c5] with
      | none => simp [h0, h1] at h
      | some y1 =>
        cases h2 : DataW.trod enc P w base spare held n e [c6, c7, c8] with
        | none => simp [h0, h1, h2] at h
        | some y2 => exact ⟨y0, y1, y2, n, h0, h1, h2⟩
end
/-- Three cells that read as a Raw. -/
def RawC (c0 c1 c2 : Value) (a b : Int) (k : Nat) : Prop := c0 = .int .i8 a ∧ c1 = .int .i8 b ∧ c2 = .int .u8 ((k : Nat) : Int) ∧ -128 ≤ a ∧ a ≤ 127 ∧ -128 ≤ b ∧ b ≤ 127 ∧ k < 256
set_option maxRecDepth 100000 in
theorem raw_open {H : Type} {enc : TypeId × Value → H} {W : World} {n : Nat} {c0 c1 c2 : Value} {y : DataW H × List MemPlace} (h : DataW.trod enc Tryz.prog W 0 (fun _ => true) true n 24 [c0, c1, c2] = some y) :
    ∃ a b k, RawC c0 c1 c2 a b k := by
  obtain ⟨y0, y1, y2, m, _, _, h0, h1, h2⟩ := Go.Deep.trod_struct3 Tryz.underlying24 h
  have k1 : Tryz.prog.cellsOf 22 = 1 := by kernel_rfl
  have k2 : Tryz.prog.cellsOf 5 = 1 := by kernel_rfl
  simp only [k1, k2, List.drop_zero, List.take_succ_cons, List.take_zero, List.drop_succ_cons] at h0 h1 h2
  obtain ⟨a, e0, _, w0⟩ := DataW.trod_int Tryz.underlying22 h0
  obtain ⟨b, e1, _, w1⟩ := DataW.trod_int Tryz.underlying22 h1
  obtain ⟨k, e2, _, w2⟩ := DataW.trod_int Tryz.underlying5 h2
  simp only [List.cons.injEq, and_true] at e0 e1 e2
  simp [Lit.wf, IntKind.min, IntKind.max, IntKind.signed, IntKind.bits] at w0 w1 w2
  exact ⟨a, b, k.toNat, e0, e1, by rw [e2, Int.toNat_of_nonneg w2.1], by omega, by omega, by omega, by omega, by omega⟩
theorem int_open {H : Type} {enc : TypeId × Value → H} {W : World} {n : Nat} {c0 c1 : Value} {y : DataW H × List MemPlace} (h : DataW.trod enc Tryz.prog W 0 (fun _ => true) true n 29 [c0, c1] = some y) :
    ∃ b l, c0 = .bool b ∧ Sl W c1 l := by
  obtain ⟨y0, y1, m, _, _, h0, h1⟩ := trod_struct2 Tryz.underlying29 h
  have k1 : Tryz.prog.cellsOf 4 = 1 := by kernel_rfl
  have k2 : Tryz.prog.cellsOf 27 = 1 := by kernel_rfl
  simp only [k1, k2, List.drop_zero, List.take_succ_cons, List.take_zero, List.drop_succ_cons] at h0 h1
  obtain ⟨b, e0, _⟩ := DataW.trod_bool Tryz.underlying4 h0
  simp only [List.cons.injEq, and_true] at e0
  obtain ⟨l, hl⟩ := sl_open h1
  exact ⟨b, l, e0, hl⟩
set_option maxRecDepth 100000 in
theorem open_Rat {H : Type} {enc : TypeId × Value → H} {W : World} {r : Reach} {b0 : Nat} {v : Value} {d : DataW H} {p : List MemPlace} (hv : Value.okWide Tryz.prog W r b0 31 v) (h : DataW.Trod enc Tryz.prog W 0 (fun _ => true) true 31 v d p) :
    ∃ n s m u l j, v = .agg #[.bool n, s, .bool m, u] ∧ Sl W s l ∧ Sl W u j := by
  obtain ⟨cs, rfl, hsz⟩ : ∃ cs, v = .agg cs ∧ cs.size = 4 := by
    simp only [Value.okWide, Tryz.underlying31] at hv
    obtain ⟨cs, h1, h2, _⟩ := hv
    exact ⟨cs, h1, h2.trans (by kernel_rfl)⟩
  obtain ⟨c0, c1, c2, c3, rfl⟩ := array4 hsz
  obtain ⟨fuel, hf⟩ := h
  have hf' : DataW.trod enc Tryz.prog W 0 (fun _ => true) true fuel 31 [c0, c1, c2, c3] = some (d, p) := hf
  obtain ⟨y0, y1, m, _, _, h0, h1⟩ := trod_struct2 Tryz.underlying31 hf'
  have k1 : Tryz.prog.cellsOf 29 = 2 := by kernel_rfl
  simp only [k1, List.drop_zero, List.take_succ_cons, List.take_zero, List.drop_succ_cons] at h0 h1
  obtain ⟨b, l, e0, hl⟩ := int_open h0
  obtain ⟨b', l', e1, hl'⟩ := int_open h1
  subst e0 e1
  exact ⟨b, c1, b', c3, l, l', rfl, hl, hl'⟩
set_option maxRecDepth 100000 in
theorem open_raws2 {H : Type} {enc : TypeId × Value → H} {W : World} {r : Reach} {b0 : Nat} {v : Value} {d : DataW H} {p : List MemPlace} (hv : Value.okWide Tryz.prog W r b0 25 v) (h : DataW.Trod enc Tryz.prog W 0 (fun _ => true) true 25 v d p) :
    ∃ c0 c1 c2 c3 c4 c5 a0 b0 k0 a1 b1 k1, v = .agg #[c0, c1, c2, c3, c4, c5] ∧ RawC c0 c1 c2 a0 b0 k0 ∧ RawC c3 c4 c5 a1 b1 k1 := by
  obtain ⟨cs, rfl, hsz⟩ : ∃ cs, v = .agg cs ∧ cs.size = 6 := by
    simp only [Value.okWide, Tryz.underlying25] at hv
    obtain ⟨cs, h1, h2, _⟩ := hv
    exact ⟨cs, h1, h2.trans (by kernel_rfl)⟩
  obtain ⟨c0, c1, c2, c3, c4, c5, rfl⟩ := array6 hsz
  obtain ⟨fuel, hf⟩ := h
  have hf' : DataW.trod enc Tryz.prog W 0 (fun _ => true) true fuel 25 [c0, c1, c2, c3, c4, c5] = some (d, p) := hf
  obtain ⟨y0, y1, n, h0, h1⟩ := trod_raws2 Tryz.underlying25 (by kernel_rfl) hf'
  obtain ⟨a0, b0, k0, r0⟩ := raw_open h0
  obtain ⟨a1, b1, k1, r1⟩ := raw_open h1
  exact ⟨c0, c1, c2, c3, c4, c5, a0, b0, k0, a1, b1, k1, rfl, r0, r1⟩
end Go.Proofs.YtndpjfhhigpbhaaGreat
