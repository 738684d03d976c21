/- From a call's contract to the statement: arguments that are read, and read as before. -/
import Derived.Test.YtjgmfdenicbniaaMadeL
import Derived.Test.YtjgmfdenicbniaaRows
import Derived.ProofKit
import Derived.Lib.SmallJoins
import Derived.Carry
namespace Go.Proofs.Ytjgmfdenicbniaa
open Go.ChangeShapes Go.WideShapes Go.ChangeAt Go.RowKit Go.Joins W
theorem Try.own : ownKnob Try.prog.godebug = none := by kernel_rfl
theorem Try.laidOut : laidOutB Try.prog = true := by kernel_rfl
theorem Try.cellsRaw : Try.prog.cellsOf 25 = 2 := by kernel_rfl
theorem Try.cellsWord : Try.prog.cellsOf 27 = 1 := by kernel_rfl
theorem nats_of {zs : List Int} (h : ∀ n ∈ zs, (Lit.int .u32 n).wf = true) : ∃ l : List Nat, zs = l.map (fun x => ((x : Nat) : Int)) ∧ Wd l := by
  induction zs with
  | nil => exact ⟨[], rfl, Wd_nil⟩
  | cons z zs ih =>
    obtain ⟨l, rfl, hl⟩ := ih fun n hn => h n (List.mem_cons_of_mem _ hn)
    have hz := h z (by simp)
    have hz1 : 0 ≤ z ∧ z < 4294967296 := by
      simp [Lit.wf, IntKind.min, IntKind.max, IntKind.signed, IntKind.bits] at hz
      omega
    refine ⟨z.toNat :: l, ?_, Wd_cons.2 ⟨by omega, hl⟩⟩
    rw [List.map_cons, Int.toNat_of_nonneg hz1.1]
section
variable {H : Type} {enc : TypeId × Value → H} {W : World}
theorem sl_open {fuel : Nat} {c : Value} {x : DataW H × List MemPlace} (h : DataW.trod enc Try.prog W 0 (fun _ => true) true fuel 22 [c] = some x) : ∃ l, Sl W c l := by
  rcases open_ints Try.underlying22 Try.underlying27 Try.cellsWord h with ⟨h1, _⟩ | ⟨a, len, cap, zs, h1, _, hlc, hcm, hzl, _, hc, hw⟩
  · simp only [List.cons.injEq, and_true] at h1
    subst h1
    exact ⟨[], Sl_nil W⟩
  · simp only [List.cons.injEq, and_true] at h1
    subst h1
    simp only [if_true] at hzl
    obtain ⟨l, rfl, hl⟩ := nats_of hw
    rw [List.length_map] at hzl
    refine ⟨l.take len, some a, cap, by rw [List.length_take, hzl, Nat.min_eq_left hlc], by rw [List.length_take]; omega, hcm, Wd_take hl _, (fun h => by cases h), fun i hi => ?_⟩
    rw [List.length_take] at hi
    have hci := hc i (by rw [List.length_map]; omega)
    have hsp : a.spot = none := by
      have h0 := hc 0 (by rw [List.length_map]; omega)
      rw [Addr.add_zero'] at h0
      unfold World.cell? at h0
      split at h0
      · split at h0
        · cases h0
        · rename_i hs; simpa using hs
      · cases h0
    refine ⟨a.block, a.off, by cases a; simp_all, ?_⟩
    have ea : a.add i = ⟨a.block, a.off + i, none⟩ := by
      obtain ⟨b, o, sp⟩ := a
      subst hsp
      exact Addr.add_lit b o i
    rw [ea] at hci
    rw [hci, gd_take _ _ _ (by omega), gd_eq l i (by omega)]
    simp [show i < l.length by omega]
theorem open_Raw {r : Reach} {b0 : Nat} {v : Value} {d : DataW H} {p : List MemPlace} (hv : Value.okWide Try.prog W r b0 25 v) (h : DataW.Trod enc Try.prog W 0 (fun _ => true) true 25 v d p) :
    ∃ n s l, v = .agg #[.bool n, s] ∧ Sl W s l := by
  obtain ⟨c0, c1, y0, y1, m, rfl, rfl, rfl, hy0, hy1⟩ := open_agg2 Try.underlying25 (by kernel_rfl) Try.cellsRaw hv h
  obtain ⟨n, e0, _⟩ := DataW.trod_bool Try.underlying4 hy0
  simp only [List.cons.injEq, and_true] at e0
  subst e0
  obtain ⟨l, hl⟩ := sl_open hy1
  exact ⟨n, c1, l, rfl, hl⟩
end
/-- Arguments are read behind the call as before. -/
theorem trodAll_below {H : Type} {enc : TypeId × Value → H} {W W' : World} (hb : Below W.heap.size W W') : ∀ {ts : List TypeId} {vs : List Value} {ds : List (DataW H)} {ps : List MemPlace},
    DataW.TrodAll enc Try.prog W 0 (fun _ => true) true ts vs ds ps → (∀ t ∈ ts, Try.prog.readableRec t = true ∧ t < Try.prog.types.size) → (∀ x ∈ ps, x.block < W.heap.size) →
    DataW.TrodAll enc Try.prog W' 0 (fun b => decide (b < W.heap.size)) true ts vs ds ps
  | [], [], [], _, h, _, _ => h
  | t :: ts, v :: vs, d :: ds, ps, h, hr, hlt => by
    obtain ⟨p, q, h1, h2, rfl⟩ := h
    refine ⟨p, q, Below.trod Try.laidOut (hr t (by simp)).1 (hr t (by simp)).2 h1 hb (fun x hx => hlt x (List.mem_append_left _ hx)), trodAll_below hb h2 (fun t ht => hr t (List.mem_cons_of_mem _ ht)) (fun x hx => hlt x (List.mem_append_right _ hx)), rfl⟩
  | [], _ :: _, _, _, h, _, _ => absurd h (by simp [DataW.TrodAll])
  | [], [], _ :: _, _, h, _, _ => absurd h (by simp [DataW.TrodAll])
  | _ :: _, [], _, _, h, _, _ => absurd h (by simp [DataW.TrodAll])
  | _ :: _, _ :: _, [], _, h, _, _ => absurd h (by simp [DataW.TrodAll])
end Go.Proofs.Ytjgmfdenicbniaa
