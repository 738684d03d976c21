/- For every input the law IntegerMatchesReference of eliminantlaw01 returns true, and each argument reads afterwards as it read before. No condition. -/
import Derived.Test.YtjgmfdenicbniaaMat
import Derived.Test.YtjgmfdenicbniaaEntry
import Derived.Laws.IdiomArrays
namespace Go.Proofs.Ytjgmfdenicbniaa
open Go.ChangeShapes Go.WideShapes Go.ChangeAt Go.RowKit Go.Joins W
theorem trod_array2 {H : Type} {enc : TypeId × Value → H} {P : Program} {w : World} {base : Nat} {spare : Nat → Bool} {held : Bool} {t e : TypeId} {fuel : Nat} {c0 c1 : Value} {x : DataW H × List MemPlace} (ht : P.underlying t = some (.array 2 e)) (hce : P.cellsOf e = 1)
    (h : DataW.trod enc P w base spare held fuel t [c0, c1] = some x) :
    ∃ y0 y1 n, x = (.agg [y0.1, y1.1], y0.2 ++ y1.2) ∧ DataW.trod enc P w base spare held n e [c0] = some y0 ∧ DataW.trod enc P w base spare held n e [c1] = some y1 := by
  cases fuel with
  | zero => simp [DataW.trod] at h
  | succ n =>
    unfold DataW.trod at h
    rw [ht] at h
    have r2 : List.range 2 = [0, 1] := rfl
    simp [r2, hce] at h
    obtain ⟨_, h⟩ := h
    cases h0 : DataW.trod enc P w base spare held n e [c0] with
    | none => simp [h0] at h
    | some y0 =>
      cases h1 : DataW.trod enc P w base spare held n e [c1] with
      | none => simp [h0, h1] at h
      | some y1 =>
        simp [h0, h1] at h
        exact ⟨y0, y1, n, h.symm, h0, h1⟩
theorem open_i64x2 {H : Type} {enc : TypeId × Value → H} {W : World} {r : Reach} {b0 : Nat} {v : Value} {d : DataW H} {p : List MemPlace} (hv : Value.okWide Try.prog W r b0 54 v) (h : DataW.Trod enc Try.prog W 0 (fun _ => true) true 54 v d p) :
    ∃ u0 u1 : Int, v = .agg #[.int .i64 u0, .int .i64 u1] ∧ u1 ≤ 9223372036854775807 := by
  obtain ⟨cs, rfl, hsz⟩ : ∃ cs, v = .agg cs ∧ cs.size = 2 := by
    simp only [Value.okWide, Try.underlying54] at hv
    obtain ⟨cs, h1, h2, _⟩ := hv
    exact ⟨cs, h1, h2.trans (by kernel_rfl)⟩
  obtain ⟨c0, c1, rfl⟩ := array2 hsz
  obtain ⟨fuel, hf⟩ := h
  have one : ∀ {n : Nat} {c : Value} {y : DataW H × List MemPlace}, DataW.trod enc Try.prog W 0 (fun _ => true) true n 3 [c] = some y → ∃ u : Int, c = .int .i64 u ∧ u ≤ 9223372036854775807 := by
    intro n c y hy
    obtain ⟨z, e, _, hw⟩ := DataW.trod_int Try.underlying3 hy
    simp only [List.cons.injEq, and_true] at e
    simp [Lit.wf, IntKind.min, IntKind.max, IntKind.signed, IntKind.bits] at hw
    exact ⟨z, e, by omega⟩
  have hf' : DataW.trod enc Try.prog W 0 (fun _ => true) true fuel 54 [c0, c1] = some (d, p) := hf
  obtain ⟨y0, y1, n, _, h0, h1⟩ := trod_array2 Try.underlying54 (by kernel_rfl) hf'
  obtain ⟨u0, rfl, _⟩ := one h0
  obtain ⟨u1, rfl, h2⟩ := one h1
  exact ⟨u0, u1, rfl, h2⟩
set_option maxRecDepth 100000 in
theorem mat_lifted (os : Os) (started : os.Started) (H : Type) (enc : TypeId × Value → H) :
    ReturnsInHanded {} Try.checked os 11 .any (Rows.integerMatchesReferenceSpec.pre6 enc Try.prog Try.f11 Rows.integerMatchesReferenceRow.domain false) (Rows.integerMatchesReferenceSpec.post enc Try.prog Try.f11 false true false false) := by
  refine returnsInHanded_of_change (C := Try.checked) Try.own started (by kernel_rfl) Try.func11
    (ChangeSpec.witness6 (enc := enc) (C := Try.checked) false ⟨#[], #[.agg #[.bool false, .slice none 0 0], .agg #[.bool false, .slice none 0 0], .agg #[.int .i64 0, .int .i64 0]], []⟩ 8 (by kernel_rfl) (by kernel_rfl) (by kernel_rfl) (by kernel_rfl)) ?_
  intro W base args ds gs before hval0 hW hcnd _
  have hval : ∀ (j : Nat) t v, Try.f11.params[j]? = some t → args[j]? = some v → Value.okWide Try.prog W .any base t v := hval0
  have hW' := hW
  obtain ⟨p, q, hA0, hV, rfl, hfz, hnd⟩ := hW
  have hA : DataW.TrodAll enc Try.prog W 0 (fun _ => true) true Try.f11.params.toList args.toList ds p := hA0
  have hAB := hA
  rw [Try.params11] at hA hval hAB
  obtain ⟨v0, v1, v2, d0, d1, d2, p0, p1, p2, rfl, rfl, rfl, h0, h1, h2⟩ := trodAll_three hA
  obtain ⟨rfl, rfl⟩ := trodVars_none hV
  obtain ⟨n0, s0, l0, rfl, hs0⟩ := open_Raw (hval 0 25 v0 rfl rfl) h0
  obtain ⟨n1, s1, l1, rfl, hs1⟩ := open_Raw (hval 1 25 v1 rfl rfl) h1
  obtain ⟨u0, u1, rfl, hu2⟩ := open_i64x2 (hval 2 54 v2 rfl rfl) h2
  clear hA0 hval0
  simp only [List.append_nil] at hW'
  have hlt := hW'.lt
  refine (mat_t u0 u1 n0 s0 l0 n1 s1 l1 W hu2 hs0 hs1).mono fun e W' ⟨he, hB⟩ => ?_
  subst he
  refine ⟨_, rfl, _, _, _, [], _, [], hW', trodAll_mk1 (shut_bool Try.underlying4 true), trodAll_below hB hAB (by intro t ht; change t ∈ [25, 25, 54] at ht; simp only [List.mem_cons, List.not_mem_nil, or_false] at ht; rcases ht with rfl | rfl | rfl <;> exact ⟨by kernel_rfl, of_decide_eq_true (by kernel_rfl)⟩) (fun x hx => hlt x hx), rfl, hB.frame _, fun h => by cases h⟩
theorem mat_holds : Rows.IntegerMatchesReferenceSaid :=
  OpenClaim.holds_of_wide 11 Try.f11 rfl rfl rfl rfl rfl rfl rfl ⟨rfl, rfl, rfl, rfl, rfl⟩ rfl rfl rfl rfl rfl (by kernel_rfl) Try.func11 (by kernel_rfl)
    (of_decide_eq_true (by kernel_rfl)) (by unfold Func.isWrapper; first | (rw [if_pos (by decide +kernel)]; kernel_rfl) | (rw [if_neg (by decide +kernel)]; exact ⟨rfl, rfl⟩))
    (fun os started H enc _ => mat_lifted os started H enc)
end Go.Proofs.Ytjgmfdenicbniaa
