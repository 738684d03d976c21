/- Helping facts of NmsH; no other conditions. -/
import Derived.Test.YtmppigbbkjepiaaGreatDoorNms
set_option maxRecDepth 100000
namespace Go.Proofs.YtmppigbbkjepiaaGreatDoor
open Go.Proofs.Tryz
open Go.ChangeShapes Go.WideShapes Go.ChangeAt Go.RowKit Go.Joins W
theorem Qy (os : Os) : laidMet prog Rows.syntaxNamesRow.laid ((laidWorld os).forCall (fun _ _ => 0) ⟨#[], #[.agg #[.slice none 0 0, .slice none 0 0], .int .u8 0], []⟩).memory :=
  laidMet_of_run' 8 (by kernel_rfl) (by kernel_rfl)
theorem Gk (os : Os) {H : Type} (enc : TypeId × Value → H) : ∃ places, DataW.whole enc prog ((laidWorld os).forCall (fun _ _ => 0) ⟨#[], #[.agg #[.slice none 0 0, .slice none 0 0], .int .u8 0], []⟩).memory Tryz.f3.params.toList Rows.syntaxNamesSpec.vars false (#[.agg #[.slice none 0 0, .slice none 0 0], .int .u8 0] : Array Value).toList 12 = some ([.agg [.agg [.nil], .agg [.nil]], .lit (.int .u8 0)], [], places) :=
  ⟨[], by kernel_rfl⟩
set_option maxHeartbeats 8000000 in
theorem qM (H : Type) (enc : TypeId × Value → H) (W : World) (base : Nat) (args : Array Value) (ds gs : List (DataW H)) (before : List MemPlace)
    (hval0 : ∀ (j : Nat) t v, Tryz.f3.params[j]? = some t → args[j]? = some v → Value.okWide prog W .any base t v)
    (hW : DataW.Whole enc prog Tryz.f3.params.toList Rows.syntaxNamesSpec.vars false W args.toList ds gs before) (hL : laidMetH prog Rows.syntaxNamesRow.laid W) (hsh : W.ShapedOpen prog) :
    Calls prog 3 args W fun e W' => ∃ v, e = .returned v ∧ Rows.syntaxNamesSpec.post enc prog Tryz.f3 false true false false W args v W' := by
  have X : Glob W := Glob.of hL hsh
  have f : ∀ (j : Nat) t v, Tryz.f3.params[j]? = some t → args[j]? = some v → Value.okWide prog W .any base t v := hval0
  have k := hW
  obtain ⟨p, q, y, U, rfl, T, S⟩ := hW
  have I : DataW.TrodAll enc prog W 0 (fun _ => true) true Tryz.f3.params.toList args.toList ds p := y
  have u := I
  rw [Tryz.params3] at I f u
  obtain ⟨P, N, d0, d1, p0, p1, rfl, rfl, rfl, h0, Y⟩ := trodAll_two I
  obtain ⟨rfl, rfl⟩ := trodVars_none U
  obtain ⟨L, J, rfl, C, o, B, l⟩ := yC (f 0 25 P rfl rfl) h0
  obtain ⟨Q, rfl, rfl, rfl, z⟩ := open_int underlying5 (f 1 5 N rfl rfl) Y
  obtain ⟨a1, rfl, G⟩ := oF z
  clear y hval0
  simp only [List.append_nil] at k
  have F := k.lt
  refine (nms_t L J C B a1 W o l G X).mono fun e W' ⟨he, hB⟩ => ?_
  subst he
  refine ⟨_, O, _, _, _, [], _, [], k, trodAll_mk1 (shut_bool underlying4 true), PM hB u (by intro t D; change t ∈ [25, 5] at D; simp only [List.mem_cons, List.not_mem_nil, or_false] at D; rcases D with rfl | rfl <;> exact ⟨by kernel_rfl, of_decide_eq_true (by kernel_rfl)⟩) (fun x R => F x (by simpa only [List.append_nil, List.nil_append] using R)), O, hB.frame _, fun h => by cases h⟩
theorem yF (os : Os) (started : os.Started) (H : Type) (enc : TypeId × Value → H) (F : Stop.Interp) :
    ReturnsInHanded {} Tryz.checked os 3 .any ((OpenSpec.ofChange Rows.syntaxNamesSpec).preRow enc prog Tryz.f3 Rows.syntaxNamesRow.domain false Rows.syntaxNamesRow.laid) (((OpenSpec.ofChange Rows.syntaxNamesSpec).at F).post enc prog Tryz.f3 false true false false) := by
  obtain ⟨l, p⟩ := Gk os enc
  refine returnsInHanded_of_row (C := Tryz.checked) (s := OpenSpec.ofChange Rows.syntaxNamesSpec) Tryz.own started (by kernel_rfl) func3
    (witness_row_at (enc := enc) (C := Tryz.checked) false (laidWorld os) #[.agg #[.slice none 0 0, .slice none 0 0], .int .u8 0] rfl (by kernel_rfl) (by kernel_rfl) (by kernel_rfl)
      (OpenSpec.preRow_of_cond 12 p (by kernel_rfl) (fun k q => by cases q) (by kernel_rfl) (Qy os))) ?_
  intro W base h y v e f t _ _ _ u o _
  exact qM H enc W base h y v e f t u o
theorem Lq : Rows.SyntaxNamesSaid :=
  OpenClaim.holds_of_cond 3 Tryz.f3 rfl rfl rfl rfl rfl rfl rfl ⟨rfl, rfl, rfl, rfl, rfl⟩ rfl rfl rfl rfl rfl (by kernel_rfl) func3 (by kernel_rfl)
    (of_decide_eq_true (by kernel_rfl)) (by unfold Func.isWrapper; first | (rw [if_pos (by decide +kernel)]; kernel_rfl) | (rw [if_neg (by decide +kernel)]; exact ⟨rfl, rfl⟩))
    (fun os started H enc _ F => by rw [OpenClaim.pre_eq_preRow]; exact yF os started H enc F)
theorem Gl (f : FuncId) (fn : Func) (hf : Tryz.pinned.checked.prog.funcNamed "eliminant/eliminantlaw44.SyntaxNames" = some f) (hfn : Tryz.pinned.checked.prog.funcs[f]? = some fn) :
    false = Tryz.pinned.checked.prog.looks [] ∧ ∀ (j : Nat) t, fn.params[j]? = some t → Tryz.pinned.checked.prog.wantsStandIn t = false := by
  obtain rfl : f = 3 := Option.some.inj ((show prog.funcNamed "eliminant/eliminantlaw44.SyntaxNames" = some 3 by kernel_rfl).symm.trans hf) |>.symm
  obtain rfl : fn = Tryz.f3 := (Option.some.inj (func3.symm.trans hfn)).symm
  refine ⟨by kernel_rfl, fun j t e => ?_⟩
  rw [Tryz.params3] at e
  have h : t ∈ [25, 5] := by simpa using Array.mem_of_getElem? e
  simp only [List.mem_cons, List.not_mem_nil, or_false] at h
  rcases h with rfl | rfl
  · exact (show prog.wantsStandIn 25 = false by kernel_rfl)
  · exact (show prog.wantsStandIn 5 = false by kernel_rfl)
theorem nms_holds : Rows.SyntaxNamesCardSaid :=
  Claim7.holds_tied_plain_at .later [] _ _ _ _ Lq (fun _ h => by cases h) (by kernel_rfl) (fun _ h => by cases h) syntaxNames_row_tie rfl ⟨rfl, rfl⟩ (by kernel_rfl) rfl Gl (by kernel_rfl)
end Go.Proofs.YtmppigbbkjepiaaGreatDoor
