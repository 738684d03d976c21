/- For every input the law RationalSimplest of eliminantlaw02 returns true, and each argument reads afterwards as it read before. No condition. -/
import Derived.Test.YtndpjfhhigpbhaaSmq
import Derived.Test.YtndpjfhhigpbhaaEntry
namespace Go.Proofs.Ytndpjfhhigpbhaa
open Go.ChangeShapes Go.WideShapes Go.ChangeAt Go.RowKit Go.Joins W
set_option maxRecDepth 100000 in
theorem smq_lifted (os : Os) (started : os.Started) (H : Type) (enc : TypeId × Value → H) :
    ReturnsInHanded {} Try.checked os 7 .any (Rows.rationalSimplestSpec.pre6 enc Try.prog Try.f7 Rows.rationalSimplestRow.domain false) (Rows.rationalSimplestSpec.post enc Try.prog Try.f7 false true false false) := by
  refine returnsInHanded_of_change (C := Try.checked) Try.own started (by kernel_rfl) Try.func7
    (ChangeSpec.witness6 (enc := enc) (C := Try.checked) false ⟨#[], #[.agg #[.int .i8 0, .int .i8 0, .int .u8 0, .int .i8 0, .int .i8 0, .int .u8 0]], []⟩ 8 (by kernel_rfl) (by kernel_rfl) (by kernel_rfl) (by kernel_rfl)) ?_
  intro W base args ds gs before hval0 hW hcnd _
  have hval : ∀ (j : Nat) t v, Try.f7.params[j]? = some t → args[j]? = some v → Value.okWide Try.prog W .any base t v := hval0
  have hW' := hW
  obtain ⟨p, q, hA0, hV, rfl, hfz, hnd⟩ := hW
  have hA : DataW.TrodAll enc Try.prog W 0 (fun _ => true) true Try.f7.params.toList args.toList ds p := hA0
  have hAB := hA
  rw [Try.params7] at hA hval hAB
  obtain ⟨v0, d0, rfl, rfl, h0⟩ := trodAll_one hA
  obtain ⟨rfl, rfl⟩ := trodVars_none hV
  obtain ⟨_, _, _, _, _, _, a0, b0, k0, a1, b1, k1, rfl, ⟨rfl, rfl, rfl, r0⟩, ⟨rfl, rfl, rfl, r1⟩⟩ := open_raws2 (hval 0 46 v0 rfl rfl) h0
  clear hA0 hval0
  simp only [List.append_nil] at hW'
  have hlt := hW'.lt
  refine (smq_t a0 b0 k0 a1 b1 k1 W r0 r1).mono fun e W' ⟨he, hB⟩ => ?_
  subst he
  refine ⟨_, rfl, _, _, _, [], _, [], hW', trodAll_mk1 (shut_bool Try.underlying4 true), trodAll_below hB hAB (by intro t ht; change t ∈ [46] at ht; simp only [List.mem_cons, List.not_mem_nil, or_false] at ht; rcases ht with rfl <;> exact ⟨by kernel_rfl, of_decide_eq_true (by kernel_rfl)⟩) (fun x hx => hlt x hx), rfl, hB.frame _, fun h => by cases h⟩
theorem smq_holds : Rows.RationalSimplestSaid :=
  OpenClaim.holds_of_wide 7 Try.f7 rfl rfl rfl rfl rfl rfl rfl ⟨rfl, rfl, rfl, rfl, rfl⟩ rfl rfl rfl rfl rfl (by kernel_rfl) Try.func7 (by kernel_rfl)
    (of_decide_eq_true (by kernel_rfl)) (by unfold Func.isWrapper; first | (rw [if_pos (by decide +kernel)]; kernel_rfl) | (rw [if_neg (by decide +kernel)]; exact ⟨rfl, rfl⟩))
    (fun os started H enc _ => smq_lifted os started H enc)
end Go.Proofs.Ytndpjfhhigpbhaa
