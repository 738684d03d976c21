/- For every input the law SyntaxCanonical of eliminantlaw44 returns true, and each argument reads afterwards as it read before. The card: the listed variables of Go's library hold at the call what their text lays (tied). No other condition. -/
import Derived.Test.YtmppigbbkjepiaaGreatDoorCnn
set_option maxRecDepth 100000
namespace Go.Proofs.YtmppigbbkjepiaaGreatDoor
open Go.Proofs.Tryz
open Go.ChangeShapes Go.WideShapes Go.ChangeAt Go.RowKit Go.Joins W
theorem Mz (os : Os) : laidMet prog Rows.syntaxCanonicalRow.laid ((laidWorld os).forCall (fun _ _ => 0) ⟨#[], #[.string ⟨#[]⟩, .string ⟨#[]⟩], []⟩).memory :=
  laidMet_of_run' 8 (by kernel_rfl) (by kernel_rfl)
theorem Di (os : Os) {H : Type} (enc : TypeId × Value → H) : ∃ places, DataW.whole enc prog ((laidWorld os).forCall (fun _ _ => 0) ⟨#[], #[.string ⟨#[]⟩, .string ⟨#[]⟩], []⟩).memory Tryz.f9.params.toList Rows.syntaxCanonicalSpec.vars false (#[.string ⟨#[]⟩, .string ⟨#[]⟩] : Array Value).toList 12 = some ([.lit (.string []), .lit (.string [])], [], places) :=
  ⟨[], by kernel_rfl⟩
theorem pE (H : Type) (enc : TypeId × Value → H) (W : World) (base : Nat) (args : Array Value) (ds gs : List (DataW H)) (before : List MemPlace)
    (hval0 : ∀ (j : Nat) t v, Tryz.f9.params[j]? = some t → args[j]? = some v → Value.okWide prog W .any base t v)
    (hW : DataW.Whole enc prog Tryz.f9.params.toList Rows.syntaxCanonicalSpec.vars false W args.toList ds gs before) (hL : laidMetH prog Rows.syntaxCanonicalRow.laid W) (hsh : W.ShapedOpen prog) :
    Calls prog 9 args W fun e W' => ∃ v, e = .returned v ∧ Rows.syntaxCanonicalSpec.post enc prog Tryz.f9 false true false false W args v W' := by
  have R : Glob W := Glob.of hL hsh
  have f : ∀ (j : Nat) t v, Tryz.f9.params[j]? = some t → args[j]? = some v → Value.okWide prog W .any base t v := hval0
  have k := hW
  obtain ⟨p, q, o, Q, rfl, P, N⟩ := hW
  have z : DataW.TrodAll enc prog W 0 (fun _ => true) true Tryz.f9.params.toList args.toList ds p := o
  have l := z
  rw [Tryz.params9] at z f l
  obtain ⟨F, D, d0, Y, X, U, rfl, rfl, rfl, T, S⟩ := trodAll_two z
  obtain ⟨rfl, rfl⟩ := trodVars_none Q
  obtain ⟨J, rfl, rfl, rfl, C⟩ := Go.ChangeMaps.open_string underlying9 (f 0 9 F rfl rfl) T
  obtain ⟨G, rfl, rfl, rfl, B⟩ := Go.ChangeMaps.open_string underlying9 (f 1 9 D rfl rfl) S
  clear o hval0
  simp only [List.append_nil] at k
  have y := k.lt
  refine (cnn_s J G W R).mono fun e W' ⟨he, hB⟩ => ?_
  subst he
  refine ⟨_, O, _, _, _, [], _, [], k, trodAll_mk1 (shut_bool underlying4 true), YA hB l (by intro t u; change t ∈ [9, 9] at u; simp only [List.mem_cons, List.not_mem_nil, or_false] at u; rcases u with rfl | rfl <;> exact ⟨by kernel_rfl, of_decide_eq_true (by kernel_rfl)⟩) (fun x L => y x (by simpa only [List.append_nil, List.nil_append] using L)), O, hB.frame _, fun h => by cases h⟩
theorem wK (os : Os) (started : os.Started) (H : Type) (enc : TypeId × Value → H) (F : Stop.Interp) :
    ReturnsInHanded {} Tryz.checked os 9 .any ((OpenSpec.ofChange Rows.syntaxCanonicalSpec).preRow enc prog Tryz.f9 Rows.syntaxCanonicalRow.domain false Rows.syntaxCanonicalRow.laid) (((OpenSpec.ofChange Rows.syntaxCanonicalSpec).at F).post enc prog Tryz.f9 false true false false) := by
  obtain ⟨o, q⟩ := Di os enc
  refine returnsInHanded_of_row (C := Tryz.checked) (s := OpenSpec.ofChange Rows.syntaxCanonicalSpec) Tryz.own started (by kernel_rfl) func9
    (witness_row_at (enc := enc) (C := Tryz.checked) false (laidWorld os) #[.string ⟨#[]⟩, .string ⟨#[]⟩] rfl (by kernel_rfl) (by kernel_rfl) (by kernel_rfl)
      (OpenSpec.preRow_of_cond 12 q (by kernel_rfl) (fun k t => by cases t) (by kernel_rfl) (Mz os))) ?_
  intro W h l z y e f u _ _ _ v p _
  exact pE H enc W h l z y e f u v p
theorem It : Rows.SyntaxCanonicalSaid :=
  OpenClaim.holds_of_cond 9 Tryz.f9 rfl rfl rfl rfl rfl rfl rfl ⟨rfl, rfl, rfl, rfl, rfl⟩ rfl rfl rfl rfl rfl (by kernel_rfl) func9 (by kernel_rfl)
    (of_decide_eq_true (by kernel_rfl)) (by unfold Func.isWrapper; first | (rw [if_pos (by decide +kernel)]; kernel_rfl) | (rw [if_neg (by decide +kernel)]; exact ⟨rfl, rfl⟩))
    (fun os started H enc _ F => by rw [OpenClaim.pre_eq_preRow]; exact wK os started H enc F)
theorem Dj (f : FuncId) (fn : Func) (hf : Tryz.pinned.checked.prog.funcNamed "eliminant/eliminantlaw44.SyntaxCanonical" = some f) (hfn : Tryz.pinned.checked.prog.funcs[f]? = some fn) :
    false = Tryz.pinned.checked.prog.looks [] ∧ ∀ (j : Nat) t, fn.params[j]? = some t → Tryz.pinned.checked.prog.wantsStandIn t = false := by
  obtain rfl : f = 9 := Option.some.inj ((show prog.funcNamed "eliminant/eliminantlaw44.SyntaxCanonical" = some 9 by kernel_rfl).symm.trans hf) |>.symm
  obtain rfl : fn = Tryz.f9 := (Option.some.inj (func9.symm.trans hfn)).symm
  refine ⟨by kernel_rfl, fun j t e => ?_⟩
  rw [Tryz.params9] at e
  have h : t ∈ [9, 9] := by simpa using Array.mem_of_getElem? e
  simp only [List.mem_cons, List.not_mem_nil, or_false] at h
  rcases h with rfl | rfl
  · exact (show prog.wantsStandIn 9 = false by kernel_rfl)
  · exact (show prog.wantsStandIn 9 = false by kernel_rfl)
theorem cnn_holds : Rows.SyntaxCanonicalCardSaid :=
  Claim7.holds_tied_plain_at .later [] _ _ _ _ It (fun _ h => by cases h) (by kernel_rfl) (fun _ h => by cases h) syntaxCanonical_row_tie rfl ⟨rfl, rfl⟩ (by kernel_rfl) rfl Dj (by kernel_rfl)
end Go.Proofs.YtmppigbbkjepiaaGreatDoor
