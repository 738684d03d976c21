/- Helping facts of BckH; no other conditions. -/
import Derived.Test.YtmppigbbkjepiaaGreatDoorBck
set_option maxRecDepth 100000
namespace Go.Proofs.YtmppigbbkjepiaaGreatDoor
open Go.Proofs.Tryz
open Go.ChangeShapes Go.WideShapes Go.ChangeAt Go.RowKit Go.Joins W
theorem Tb (os : Os) : laidMet prog Rows.syntaxBackRow.laid ((laidWorld os).forCall (fun _ _ => 0) ⟨#[], #[.agg #[.slice none 0 0], .agg #[.int .u8 0, .slice none 0 0, .slice none 0 0]], []⟩).memory :=
  laidMet_of_run' 8 (by kernel_rfl) (by kernel_rfl)
theorem Ic (os : Os) {H : Type} (enc : TypeId × Value → H) : ∃ places, DataW.whole enc prog ((laidWorld os).forCall (fun _ _ => 0) ⟨#[], #[.agg #[.slice none 0 0], .agg #[.int .u8 0, .slice none 0 0, .slice none 0 0]], []⟩).memory Tryz.f8.params.toList Rows.syntaxBackSpec.vars false (#[.agg #[.slice none 0 0], .agg #[.int .u8 0, .slice none 0 0, .slice none 0 0]] : Array Value).toList 12 = some ([.agg [.nil], .agg [.lit (.int .u8 0), .nil, .nil]], [], places) :=
  ⟨[], by kernel_rfl⟩
set_option maxHeartbeats 8000000 in
theorem rR (H : Type) (enc : TypeId × Value → H) (W : World) (base : Nat) (args : Array Value) (ds gs : List (DataW H)) (before : List MemPlace)
    (hval0 : ∀ (j : Nat) t v, Tryz.f8.params[j]? = some t → args[j]? = some v → Value.okWide prog W .any base t v)
    (hW : DataW.Whole enc prog Tryz.f8.params.toList Rows.syntaxBackSpec.vars false W args.toList ds gs before) (hL : laidMetH prog Rows.syntaxBackRow.laid W) (hsh : W.ShapedOpen prog) :
    Calls prog 8 args W fun e W' => ∃ v, e = .returned v ∧ Rows.syntaxBackSpec.post enc prog Tryz.f8 false true false false W args v W' := by
  have Y : Glob W := Glob.of hL hsh
  have f : ∀ (j : Nat) t v, Tryz.f8.params[j]? = some t → args[j]? = some v → Value.okWide prog W .any base t v := hval0
  have k := hW
  obtain ⟨p, q, y, X, rfl, U, T⟩ := hW
  have I : DataW.TrodAll enc prog W 0 (fun _ => true) true Tryz.f8.params.toList args.toList ds p := y
  have u := I
  rw [Tryz.params8] at I f u
  obtain ⟨P, N, d0, d1, p0, p1, rfl, rfl, rfl, h0, h1⟩ := trodAll_two I
  obtain ⟨rfl, rfl⟩ := trodVars_none X
  obtain ⟨c0, rfl, Q, D⟩ := Gi (f 0 24 P rfl rfl) h0
  obtain ⟨R, J, L, rfl, F, z, l, B, o⟩ := kK (f 1 44 N rfl rfl) h1
  clear y hval0
  simp only [List.append_nil] at k
  have G := k.lt
  refine (bck_t c0 Q R J L z B W D F l o Y).mono fun e W' ⟨he, hB⟩ => ?_
  subst he
  refine ⟨_, O, _, _, _, [], _, [], k, trodAll_mk1 (shut_bool underlying4 true), PM hB u (by intro t C; change t ∈ [24, 44] at C; simp only [List.mem_cons, List.not_mem_nil, or_false] at C; rcases C with rfl | rfl <;> exact ⟨by kernel_rfl, of_decide_eq_true (by kernel_rfl)⟩) (fun x S => G x S), O, hB.frame _, fun h => by cases h⟩
theorem zZ (os : Os) (started : os.Started) (H : Type) (enc : TypeId × Value → H) (F : Stop.Interp) :
    ReturnsInHanded {} Tryz.checked os 8 .any ((OpenSpec.ofChange Rows.syntaxBackSpec).preRow enc prog Tryz.f8 Rows.syntaxBackRow.domain false Rows.syntaxBackRow.laid) (((OpenSpec.ofChange Rows.syntaxBackSpec).at F).post enc prog Tryz.f8 false true false false) := by
  obtain ⟨l, p⟩ := Ic os enc
  refine returnsInHanded_of_row (C := Tryz.checked) (s := OpenSpec.ofChange Rows.syntaxBackSpec) Tryz.own started (by kernel_rfl) func8
    (witness_row_at (enc := enc) (C := Tryz.checked) false (laidWorld os) #[.agg #[.slice none 0 0], .agg #[.int .u8 0, .slice none 0 0, .slice none 0 0]] rfl (by kernel_rfl) (by kernel_rfl) (by kernel_rfl)
      (OpenSpec.preRow_of_cond 12 p (by kernel_rfl) (fun k q => by cases q) (by kernel_rfl) (Tb os))) ?_
  intro W base h y v e f t _ _ _ u o _
  exact rR H enc W base h y v e f t u o
theorem Od : Rows.SyntaxBackSaid :=
  OpenClaim.holds_of_cond 8 Tryz.f8 rfl rfl rfl rfl rfl rfl rfl ⟨rfl, rfl, rfl, rfl, rfl⟩ rfl rfl rfl rfl rfl (by kernel_rfl) func8 (by kernel_rfl)
    (of_decide_eq_true (by kernel_rfl)) (by unfold Func.isWrapper; first | (rw [if_pos (by decide +kernel)]; kernel_rfl) | (rw [if_neg (by decide +kernel)]; exact ⟨rfl, rfl⟩))
    (fun os started H enc _ F => by rw [OpenClaim.pre_eq_preRow]; exact zZ os started H enc F)
theorem Id (f : FuncId) (fn : Func) (hf : Tryz.pinned.checked.prog.funcNamed "eliminant/eliminantlaw44.SyntaxBack" = some f) (hfn : Tryz.pinned.checked.prog.funcs[f]? = some fn) :
    false = Tryz.pinned.checked.prog.looks [] ∧ ∀ (j : Nat) t, fn.params[j]? = some t → Tryz.pinned.checked.prog.wantsStandIn t = false := by
  obtain rfl : f = 8 := Option.some.inj ((show prog.funcNamed "eliminant/eliminantlaw44.SyntaxBack" = some 8 by kernel_rfl).symm.trans hf) |>.symm
  obtain rfl : fn = Tryz.f8 := (Option.some.inj (func8.symm.trans hfn)).symm
  refine ⟨by kernel_rfl, fun j t e => ?_⟩
  rw [Tryz.params8] at e
  have h : t ∈ [24, 44] := by simpa using Array.mem_of_getElem? e
  simp only [List.mem_cons, List.not_mem_nil, or_false] at h
  rcases h with rfl | rfl
  · exact (show prog.wantsStandIn 24 = false by kernel_rfl)
  · exact (show prog.wantsStandIn 44 = false by kernel_rfl)
theorem bck_holds : Rows.SyntaxBackCardSaid :=
  Claim7.holds_tied_plain_at .later [] _ _ _ _ Od (fun _ h => by cases h) (by kernel_rfl) (fun _ h => by cases h) syntaxBack_row_tie rfl ⟨rfl, rfl⟩ (by kernel_rfl) rfl Id (by kernel_rfl)
end Go.Proofs.YtmppigbbkjepiaaGreatDoor
