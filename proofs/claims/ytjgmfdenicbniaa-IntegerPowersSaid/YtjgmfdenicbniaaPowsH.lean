/- For every input the law IntegerPowers of eliminantlaw01 returns true, and each argument reads afterwards as it read before. No condition. -/
import Derived.Test.YtjgmfdenicbniaaPows
import Derived.Test.YtjgmfdenicbniaaEntry
import Derived.Laws.IdiomArrays
namespace Go.Proofs.Ytjgmfdenicbniaa
open Go.ChangeShapes Go.WideShapes Go.ChangeAt Go.RowKit Go.Joins W
theorem open_u8x3 {H : Type} {enc : TypeId × Value → H} {W : World} {r : Reach} {b0 : Nat} {v : Value} {d : DataW H} {p : List MemPlace} (hv : Value.okWide Try.prog W r b0 41 v) (h : DataW.Trod enc Try.prog W 0 (fun _ => true) true 41 v d p) :
    ∃ u0 u1 u2 : Nat, v = .agg #[.int .u8 ((u0 : Nat) : Int), .int .u8 ((u1 : Nat) : Int), .int .u8 ((u2 : Nat) : Int)] := by
  obtain ⟨cs, rfl, hsz⟩ : ∃ cs, v = .agg cs ∧ cs.size = 3 := by
    simp only [Value.okWide, Try.underlying41] at hv
    obtain ⟨cs, h1, h2, _⟩ := hv
    exact ⟨cs, h1, h2.trans (by kernel_rfl)⟩
  obtain ⟨c0, c1, c2, rfl⟩ := array3 hsz
  obtain ⟨fuel, hf⟩ := h
  have one : ∀ {n : Nat} {c : Value} {y : DataW H × List MemPlace}, DataW.trod enc Try.prog W 0 (fun _ => true) true n 5 [c] = some y → ∃ u : Nat, c = .int .u8 ((u : Nat) : Int) := by
    intro n c y hy
    obtain ⟨z, e, _, hw⟩ := DataW.trod_int Try.underlying5 hy
    simp only [List.cons.injEq, and_true] at e
    simp [Lit.wf, IntKind.min, IntKind.max, IntKind.signed, IntKind.bits] at hw
    exact ⟨z.toNat, by rw [e, Int.toNat_of_nonneg hw.1]⟩
  have hf' : DataW.trod enc Try.prog W 0 (fun _ => true) true fuel 41 [c0, c1, c2] = some (d, p) := by
    obtain ⟨e0, e1, e2⟩ : True ∧ True ∧ True := ⟨trivial, trivial, trivial⟩
    exact hf
  obtain ⟨y0, y1, y2, n, _, h0, h1, h2⟩ := trod_array3 Try.underlying41 (by kernel_rfl) hf'
  obtain ⟨u0, rfl⟩ := one h0
  obtain ⟨u1, rfl⟩ := one h1
  obtain ⟨u2, rfl⟩ := one h2
  exact ⟨u0, u1, u2, rfl⟩
set_option maxRecDepth 100000 in
theorem pows_lifted (os : Os) (started : os.Started) (H : Type) (enc : TypeId × Value → H) :
    ReturnsInHanded {} Try.checked os 7 .any (Rows.integerPowersSpec.pre6 enc Try.prog Try.f7 Rows.integerPowersRow.domain false) (Rows.integerPowersSpec.post enc Try.prog Try.f7 false true false false) := by
  refine returnsInHanded_of_change (C := Try.checked) Try.own started (by kernel_rfl) Try.func7
    (ChangeSpec.witness6 (enc := enc) (C := Try.checked) false ⟨#[], #[.agg #[.bool false, .slice none 0 0], .agg #[.bool false, .slice none 0 0], .agg #[.int .u8 0, .int .u8 0, .int .u8 0]], []⟩ 8 (by kernel_rfl) (by kernel_rfl) (by kernel_rfl) (by kernel_rfl)) ?_
  intro W base args ds gs before hval0 hW hcnd _
  have hval : ∀ (j : Nat) t v, Try.f7.params[j]? = some t → args[j]? = some v → Value.okWide Try.prog W .any base t v := hval0
  have hW' := hW
  obtain ⟨p, q, hA0, hV, rfl, hfz, hnd⟩ := hW
  have hA : DataW.TrodAll enc Try.prog W 0 (fun _ => true) true Try.f7.params.toList args.toList ds p := hA0
  have hAB := hA
  rw [Try.params7] at hA hval hAB
  obtain ⟨v0, v1, v2, d0, d1, d2, p0, p1, p2, rfl, rfl, rfl, h0, h1, h2⟩ := trodAll_three hA
  obtain ⟨rfl, rfl⟩ := trodVars_none hV
  obtain ⟨n0, s0, l0, rfl, hs0⟩ := open_Raw (hval 0 25 v0 rfl rfl) h0
  obtain ⟨n1, s1, l1, rfl, hs1⟩ := open_Raw (hval 1 25 v1 rfl rfl) h1
  obtain ⟨u0, u1, u2, rfl⟩ := open_u8x3 (hval 2 41 v2 rfl rfl) h2
  clear hA0 hval0
  simp only [List.append_nil] at hW'
  have hlt := hW'.lt
  refine (pows_t u0 u1 u2 n0 s0 l0 n1 s1 l1 W hs0 hs1).mono fun e W' ⟨he, hB⟩ => ?_
  subst he
  refine ⟨_, rfl, _, _, _, [], _, [], hW', trodAll_mk1 (shut_bool Try.underlying4 true), trodAll_below hB hAB (by intro t ht; change t ∈ [25, 25, 41] at ht; simp only [List.mem_cons, List.not_mem_nil, or_false] at ht; rcases ht with rfl | rfl | rfl <;> exact ⟨by kernel_rfl, of_decide_eq_true (by kernel_rfl)⟩) (fun x hx => hlt x hx), rfl, hB.frame _, fun h => by cases h⟩
theorem pows_holds : Rows.IntegerPowersSaid :=
  OpenClaim.holds_of_wide 7 Try.f7 rfl rfl rfl rfl rfl rfl rfl ⟨rfl, rfl, rfl, rfl, rfl⟩ rfl rfl rfl rfl rfl (by kernel_rfl) Try.func7 (by kernel_rfl)
    (of_decide_eq_true (by kernel_rfl)) (by unfold Func.isWrapper; first | (rw [if_pos (by decide +kernel)]; kernel_rfl) | (rw [if_neg (by decide +kernel)]; exact ⟨rfl, rfl⟩))
    (fun os started H enc _ => pows_lifted os started H enc)
end Go.Proofs.Ytjgmfdenicbniaa
