/- For every input the law SyntaxParses of eliminantlaw44 returns true, and each argument reads afterwards as it read before. The card: the listed variables of Go's library hold at the call what their text lays (tied). No other condition. -/
import Derived.Test.YtmppigbbkjepiaaGreatDoorPsr
set_option maxRecDepth 100000
namespace Go.Proofs.YtmppigbbkjepiaaGreatDoor
open Go.Proofs.Tryz
open Go.ChangeShapes Go.WideShapes Go.ChangeAt Go.RowKit Go.Joins W
theorem Uh (os : Os) : laidMet prog Rows.syntaxParsesRow.laid ((laidWorld os).forCall (fun _ _ => 0) ⟨#[], #[.string ⟨#[]⟩], []⟩).memory :=
 laidMet_of_run' 8 (by kernel_rfl) (by kernel_rfl)
theorem Jp (os : Os) {H : Type} (enc : TypeId × Value -> H) : ∃ places, DataW.whole enc prog ((laidWorld os).forCall (fun _ _ => 0) ⟨#[], #[.string ⟨#[]⟩], []⟩).memory Tryz.f7.params.toList Rows.syntaxParsesSpec.vars false (#[.string ⟨#[]⟩] : Array Value).toList 12 = some ([.lit (.string [])], [], places) :=
 ⟨[], by kernel_rfl⟩
set_option maxHeartbeats 8000000 in
theorem tX (H : Type) (enc : TypeId × Value -> H) (W : World) (base : Nat) (args : Array Value) (ds gs : List (DataW H)) (before : List MemPlace)
 (hval0 : ∀ (j : Nat) t v, Tryz.f7.params[j]? = some t -> args[j]? = some v -> Value.okWide prog W .any base t v)
 (hW : DataW.Whole enc prog Tryz.f7.params.toList Rows.syntaxParsesSpec.vars false W args.toList ds gs before) (hL : laidMetH prog Rows.syntaxParsesRow.laid W) (hsh : W.ShapedOpen prog) :
 Calls prog 7 args W fun e W' => ∃ v, e = .returned v /\ Rows.syntaxParsesSpec.post enc prog Tryz.f7 false true false false W args v W' := by
 have N : Glob W := Glob.of hL hsh
 have f : ∀ (j : Nat) t v, Tryz.f7.params[j]? = some t -> args[j]? = some v -> Value.okWide prog W .any base t v := hval0
 have k := hW
 obtain ⟨p, q, o, L, rfl, J, I⟩ := hW
 have B : DataW.TrodAll enc prog W 0 (fun _ => true) true Tryz.f7.params.toList args.toList ds p := o
 have l := B
 rw [Tryz.params7] at B f l
 obtain ⟨D, Q, rfl, rfl, P⟩ := trodAll_one B
 obtain ⟨rfl, rfl⟩ := trodVars_none L
 obtain ⟨F, rfl, rfl, rfl, C⟩ := Go.ChangeMaps.open_string underlying9 (f 0 9 D rfl rfl) P
 clear o hval0
 simp only [List.append_nil] at k
 have y := k.lt
 refine (psr_s F W N).mono fun e W' ⟨he, hB⟩ => ?_
 subst he
 refine ⟨_, O, _, _, _, [], _, [], k, trodAll_mk1 (shut_bool underlying4 true), WO hB l (by intro t u; change t ∈ [9] at u; simp only [List.mem_cons, List.not_mem_nil, or_false] at u; rcases u with rfl <;> exact ⟨by kernel_rfl, of_decide_eq_true (by kernel_rfl)⟩) (fun x G => y x (by simpa only [List.append_nil, List.nil_append] using G)), O, hB.frame _, fun h => by cases h⟩
theorem Ch (os : Os) (started : os.Started) (H : Type) (enc : TypeId × Value -> H) (F : Stop.Interp) :
 ReturnsInHanded {} Tryz.checked os 7 .any ((OpenSpec.ofChange Rows.syntaxParsesSpec).preRow enc prog Tryz.f7 Rows.syntaxParsesRow.domain false Rows.syntaxParsesRow.laid) (((OpenSpec.ofChange Rows.syntaxParsesSpec).at F).post enc prog Tryz.f7 false true false false) := by
 obtain ⟨l, p⟩ := Jp os enc
 refine returnsInHanded_of_row (C := Tryz.checked) (s := OpenSpec.ofChange Rows.syntaxParsesSpec) Tryz.own started (by kernel_rfl) func7
  (witness_row_at (enc := enc) (C := Tryz.checked) false (laidWorld os) #[.string ⟨#[]⟩] rfl (by kernel_rfl) (by kernel_rfl) (by kernel_rfl)
    (OpenSpec.preRow_of_cond 12 p (by kernel_rfl) (fun k q => by cases q) (by kernel_rfl) (Uh os))) ?_
 intro W base h y v e f t _ _ _ u o _
 exact tX H enc W base h y v e f t u o
theorem Ow : Rows.SyntaxParsesSaid :=
 OpenClaim.holds_of_cond 7 Tryz.f7 rfl rfl rfl rfl rfl rfl rfl ⟨rfl, rfl, rfl, rfl, rfl⟩ rfl rfl rfl rfl rfl (by kernel_rfl) func7 (by kernel_rfl)
  (of_decide_eq_true (by kernel_rfl)) (by unfold Func.isWrapper; first | (rw [if_pos (by decide +kernel)]; kernel_rfl) | (rw [if_neg (by decide +kernel)]; exact ⟨rfl, rfl⟩))
  (fun os started H enc _ F => by rw [OpenClaim.pre_eq_preRow]; exact Ch os started H enc F)
theorem Jq (f : FuncId) (fn : Func) (hf : Tryz.pinned.checked.prog.funcNamed "eliminant/eliminantlaw44.SyntaxParses" = some f) (hfn : Tryz.pinned.checked.prog.funcs[f]? = some fn) :
 false = Tryz.pinned.checked.prog.looks [] /\ ∀ (j : Nat) t, fn.params[j]? = some t -> Tryz.pinned.checked.prog.wantsStandIn t = false := by
 obtain rfl : f = 7 := Option.some.inj ((show prog.funcNamed "eliminant/eliminantlaw44.SyntaxParses" = some 7 by kernel_rfl).symm.trans hf) |>.symm
 obtain rfl : fn = Tryz.f7 := (Option.some.inj (func7.symm.trans hfn)).symm
 refine ⟨by kernel_rfl, fun j t e => ?_⟩
 rw [Tryz.params7] at e
 have h : t ∈ [9] := by simpa using Array.mem_of_getElem? e
 simp only [List.mem_cons, List.not_mem_nil, or_false] at h
 rcases h with rfl
 . exact (show prog.wantsStandIn 9 = false by kernel_rfl)
theorem psr_holds : Rows.SyntaxParsesCardSaid :=
 Claim7.holds_tied_plain_at .later [] _ _ _ _ Ow (fun _ h => by cases h) (by kernel_rfl) (fun _ h => by cases h) syntaxParses_row_tie rfl ⟨rfl, rfl⟩ (by kernel_rfl) rfl Jq (by kernel_rfl)
end Go.Proofs.YtmppigbbkjepiaaGreatDoor
