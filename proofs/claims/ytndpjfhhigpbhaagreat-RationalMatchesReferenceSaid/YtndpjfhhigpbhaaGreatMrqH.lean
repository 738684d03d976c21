/- For every input the law RationalMatchesReference of eliminantlaw02 returns true, and each argument reads afterwards as it read before. No condition. -/
import Derived.Test.YtndpjfhhigpbhaaGreatMrq
import Derived.Test.YtndpjfhhigpbhaaGreatEntry
namespace Go.Proofs.YtndpjfhhigpbhaaGreat
open Go.ChangeShapes Go.WideShapes Go.ChangeAt Go.RowKit Go.Joins W
set_option maxRecDepth 100000 in
theorem mrq_lifted (os : Os) (started : os.Started) (H : Type) (enc : TypeId × Value → H) :
    ReturnsInHanded {} Tryz.checked os 3 .any (Rows.rationalMatchesReferenceSpec.pre6 enc Tryz.prog Tryz.f3 Rows.rationalMatchesReferenceRow.domain false) (Rows.rationalMatchesReferenceSpec.post enc Tryz.prog Tryz.f3 false true false false) := by
  refine returnsInHanded_of_change (C := Tryz.checked) Tryz.own started (by kernel_rfl) Tryz.func3
    (ChangeSpec.witness6 (enc := enc) (C := Tryz.checked) false ⟨#[], #[.agg #[.int .i8 0, .int .i8 0, .int .u8 0, .int .i8 0, .int .i8 0, .int .u8 0], .int .i64 0], []⟩ 8 (by kernel_rfl) (by kernel_rfl) (by kernel_rfl) (by kernel_rfl)) ?_
  intro W base args ds gs before hval0 hW hcnd _
  have hval : ∀ (j : Nat) t v, Tryz.f3.params[j]? = some t → args[j]? = some v → Value.okWide Tryz.prog W .any base t v := hval0
  have hW' := hW
  obtain ⟨p, q, hA0, hV, rfl, hfz, hnd⟩ := hW
  have hA : DataW.TrodAll enc Tryz.prog W 0 (fun _ => true) true Tryz.f3.params.toList args.toList ds p := hA0
  have hAB := hA
  rw [Tryz.params3] at hA hval hAB
  obtain ⟨v0, v1, d0, d1, p0, p1, rfl, rfl, rfl, h0, h1⟩ := trodAll_two hA
  obtain ⟨rfl, rfl⟩ := trodVars_none hV
  obtain ⟨_, _, _, _, _, _, a0, b0, k0, a1, b1, k1, rfl, ⟨rfl, rfl, rfl, r0⟩, ⟨rfl, rfl, rfl, r1⟩⟩ := open_raws2 (hval 0 25 v0 rfl rfl) h0
  obtain ⟨ia1, rfl, rfl, rfl, wa1⟩ := open_int Tryz.underlying2 (hval 1 2 v1 rfl rfl) h1
  clear hA0 hval0
  simp only [List.append_nil] at hW'
  have hlt := hW'.lt
  refine (mrq_t a0 b0 k0 a1 b1 k1 ia1 W r0 r1 (i64_rngq wa1)).mono fun e W' ⟨he, hB⟩ => ?_
  subst he
  refine ⟨_, rfl, _, _, _, [], _, [], hW', trodAll_mk1 (shut_bool Tryz.underlying4 true), trodAll_below hB hAB (by intro t ht; change t ∈ [25, 2] at ht; simp only [List.mem_cons, List.not_mem_nil, or_false] at ht; rcases ht with rfl | rfl <;> exact ⟨by kernel_rfl, of_decide_eq_true (by kernel_rfl)⟩) (fun x hx => hlt x (by simpa only [List.append_nil] using hx)), rfl, hB.frame _, fun h => by cases h⟩
theorem mrq_holds : Rows.RationalMatchesReferenceSaid :=
  OpenClaim.holds_of_wide 3 Tryz.f3 rfl rfl rfl rfl rfl rfl rfl ⟨rfl, rfl, rfl, rfl, rfl⟩ rfl rfl rfl rfl rfl (by kernel_rfl) Tryz.func3 (by kernel_rfl)
    (of_decide_eq_true (by kernel_rfl)) (by unfold Func.isWrapper; first | (rw [if_pos (by decide +kernel)]; kernel_rfl) | (rw [if_neg (by decide +kernel)]; exact ⟨rfl, rfl⟩))
    (fun os started H enc _ => mrq_lifted os started H enc)
end Go.Proofs.YtndpjfhhigpbhaaGreat
