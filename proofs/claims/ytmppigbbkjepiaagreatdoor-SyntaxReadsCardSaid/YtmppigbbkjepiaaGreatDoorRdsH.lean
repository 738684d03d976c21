/- Helping facts of RdsH; no other conditions. -/
import Derived.Test.YtmppigbbkjepiaaGreatDoorRds
import Derived.Test.YtmppigbbkjepiaaGreatDoorOpnS
set_option maxRecDepth 100000
namespace Go.Proofs.YtmppigbbkjepiaaGreatDoor
open Go.Proofs.Tryz
open Go.ChangeShapes Go.WideShapes Go.ChangeAt Go.RowKit Go.Joins W
theorem Tu (os : Os) : laidMet prog Rows.syntaxReadsRow.laid ((laidWorld os).forCall (fun _ _ => 0) ⟨#[], #[.string ⟨#[]⟩, .slice none 0 0, .int .u16 0], []⟩).memory :=
 laidMet_of_run' 8 (by kernel_rfl) (by kernel_rfl)
theorem Jm (os : Os) {H : Type} (enc : TypeId × Value -> H) : ∃ places, DataW.whole enc prog ((laidWorld os).forCall (fun _ _ => 0) ⟨#[], #[.string ⟨#[]⟩, .slice none 0 0, .int .u16 0], []⟩).memory Tryz.f6.params.toList Rows.syntaxReadsSpec.vars false (#[.string ⟨#[]⟩, .slice none 0 0, .int .u16 0] : Array Value).toList 12 = some ([.lit (.string []), .nil, .lit (.int .u16 0)], [], places) :=
 ⟨[], by kernel_rfl⟩
set_option maxHeartbeats 8000000 in
theorem tU (H : Type) (enc : TypeId × Value -> H) (W : World) (base : Nat) (args : Array Value) (ds gs : List (DataW H)) (before : List MemPlace)
 (hval0 : ∀ (j : Nat) t v, Tryz.f6.params[j]? = some t -> args[j]? = some v -> Value.okWide prog W .any base t v)
 (hW : DataW.Whole enc prog Tryz.f6.params.toList Rows.syntaxReadsSpec.vars false W args.toList ds gs before) (hL : laidMetH prog Rows.syntaxReadsRow.laid W) (hsh : W.ShapedOpen prog) :
 Calls prog 6 args W fun e W' => ∃ v, e = .returned v /\ Rows.syntaxReadsSpec.post enc prog Tryz.f6 false true false false W args v W' := by
 have Y : Glob W := Glob.of hL hsh
 have f : ∀ (j : Nat) t v, Tryz.f6.params[j]? = some t -> args[j]? = some v -> Value.okWide prog W .any base t v := hval0
 have k := hW
 obtain ⟨p, q, o, X, rfl, U, T⟩ := hW
 have F : DataW.TrodAll enc prog W 0 (fun _ => true) true Tryz.f6.params.toList args.toList ds p := o
 have l := F
 rw [Tryz.params6] at F f l
 obtain ⟨N, G, L, d0, d1, d2, p0, p1, p2, rfl, rfl, rfl, h0, h1, h2⟩ := trodAll_three F
 obtain ⟨rfl, rfl⟩ := trodVars_none X
 obtain ⟨P, rfl, rfl, rfl, I⟩ := Go.ChangeMaps.open_string underlying9 (f 0 9 N rfl rfl) h0
 obtain ⟨J, rfl, Q, C⟩ := Jt (f 1 30 G rfl rfl) h1
 obtain ⟨R, rfl, rfl, rfl, u⟩ := open_int underlying45 (f 2 45 L rfl rfl) h2
 obtain ⟨a2, rfl, D⟩ := Cu u
 clear o hval0
 simp only [List.append_nil] at k
 have B := k.lt
 refine (rds_s P G Q a2 W C D Y).mono fun e W' ⟨he, hB⟩ => ?_
 subst he
 refine ⟨_, O, _, _, _, [], _, [], k, trodAll_mk1 (shut_bool underlying4 true), WO hB l (by intro t y; change t ∈ [9, 30, 45] at y; simp only [List.mem_cons, List.not_mem_nil, or_false] at y; rcases y with rfl | rfl | rfl <;> exact ⟨by kernel_rfl, of_decide_eq_true (by kernel_rfl)⟩) (fun x S => B x (by simpa only [List.append_nil, List.nil_append] using S)), O, hB.frame _, fun h => by cases h⟩
theorem Cd (os : Os) (started : os.Started) (H : Type) (enc : TypeId × Value -> H) (F : Stop.Interp) :
 ReturnsInHanded {} Tryz.checked os 6 .any ((OpenSpec.ofChange Rows.syntaxReadsSpec).preRow enc prog Tryz.f6 Rows.syntaxReadsRow.domain false Rows.syntaxReadsRow.laid) (((OpenSpec.ofChange Rows.syntaxReadsSpec).at F).post enc prog Tryz.f6 false true false false) := by
 obtain ⟨l, p⟩ := Jm os enc
 refine returnsInHanded_of_row (C := Tryz.checked) (s := OpenSpec.ofChange Rows.syntaxReadsSpec) Tryz.own started (by kernel_rfl) func6
  (witness_row_at (enc := enc) (C := Tryz.checked) false (laidWorld os) #[.string ⟨#[]⟩, .slice none 0 0, .int .u16 0] rfl (by kernel_rfl) (by kernel_rfl) (by kernel_rfl)
    (OpenSpec.preRow_of_cond 12 p (by kernel_rfl) (fun k q => by cases q) (by kernel_rfl) (Tu os))) ?_
 intro W base h y v e f t _ _ _ u o _
 exact tU H enc W base h y v e f t u o
theorem Oe : Rows.SyntaxReadsSaid :=
 OpenClaim.holds_of_cond 6 Tryz.f6 rfl rfl rfl rfl rfl rfl rfl ⟨rfl, rfl, rfl, rfl, rfl⟩ rfl rfl rfl rfl rfl (by kernel_rfl) func6 (by kernel_rfl)
  (of_decide_eq_true (by kernel_rfl)) (by unfold Func.isWrapper; first | (rw [if_pos (by decide +kernel)]; kernel_rfl) | (rw [if_neg (by decide +kernel)]; exact ⟨rfl, rfl⟩))
  (fun os started H enc _ F => by rw [OpenClaim.pre_eq_preRow]; exact Cd os started H enc F)
theorem Jn (f : FuncId) (fn : Func) (hf : Tryz.pinned.checked.prog.funcNamed "eliminant/eliminantlaw44.SyntaxReads" = some f) (hfn : Tryz.pinned.checked.prog.funcs[f]? = some fn) :
 false = Tryz.pinned.checked.prog.looks [] /\ ∀ (j : Nat) t, fn.params[j]? = some t -> Tryz.pinned.checked.prog.wantsStandIn t = false := by
 obtain rfl : f = 6 := Option.some.inj ((show prog.funcNamed "eliminant/eliminantlaw44.SyntaxReads" = some 6 by kernel_rfl).symm.trans hf) |>.symm
 obtain rfl : fn = Tryz.f6 := (Option.some.inj (func6.symm.trans hfn)).symm
 refine ⟨by kernel_rfl, fun j t e => ?_⟩
 rw [Tryz.params6] at e
 have h : t ∈ [9, 30, 45] := by simpa using Array.mem_of_getElem? e
 simp only [List.mem_cons, List.not_mem_nil, or_false] at h
 rcases h with rfl | rfl | rfl
 . exact (show prog.wantsStandIn 9 = false by kernel_rfl)
 . exact (show prog.wantsStandIn 30 = false by kernel_rfl)
 exact (show prog.wantsStandIn 45 = false by kernel_rfl)
theorem rds_holds : Rows.SyntaxReadsCardSaid :=
 Claim7.holds_tied_plain_at .later [] _ _ _ _ Oe (fun _ h => by cases h) (by kernel_rfl) (fun _ h => by cases h) syntaxReads_row_tie rfl ⟨rfl, rfl⟩ (by kernel_rfl) rfl Jn (by kernel_rfl)
end Go.Proofs.YtmppigbbkjepiaaGreatDoor
