/- For every input the law SyntaxMatchesReference of eliminantlaw44 returns true, and each argument reads afterwards as it read before. The card: the listed variables of Go's library hold at the call what their text lays (tied). No other condition. -/
import Derived.Test.YtmppigbbkjepiaaGreatDoorMch
set_option maxRecDepth 100000
namespace Go.Proofs.YtmppigbbkjepiaaGreatDoor
open Go.Proofs.Tryz
open Go.ChangeShapes Go.WideShapes Go.ChangeAt Go.RowKit Go.Joins W
theorem Uc (os : Os) : laidMet prog Rows.syntaxMatchesReferenceRow.laid ((laidWorld os).forCall (fun _ _ => 0) ⟨#[], #[.agg #[.slice none 0 0, .int .u8 0, .slice none 0 0, .slice none 0 0], .slice none 0 0, .int .u16 0], []⟩).memory :=
 laidMet_of_run' 8 (by kernel_rfl) (by kernel_rfl)
theorem Je (os : Os) {H : Type} (enc : TypeId × Value -> H) : ∃ places, DataW.whole enc prog ((laidWorld os).forCall (fun _ _ => 0) ⟨#[], #[.agg #[.slice none 0 0, .int .u8 0, .slice none 0 0, .slice none 0 0], .slice none 0 0, .int .u16 0], []⟩).memory Tryz.f5.params.toList Rows.syntaxMatchesReferenceSpec.vars false (#[.agg #[.slice none 0 0, .int .u8 0, .slice none 0 0, .slice none 0 0], .slice none 0 0, .int .u16 0] : Array Value).toList 12 = some ([.agg [.agg [.nil], .agg [.lit (.int .u8 0), .nil, .nil]], .nil, .lit (.int .u16 0)], [], places) :=
 ⟨[], by kernel_rfl⟩
set_option maxHeartbeats 8000000 in
theorem tJ (H : Type) (enc : TypeId × Value -> H) (W : World) (base : Nat) (args : Array Value) (ds gs : List (DataW H)) (before : List MemPlace)
 (hval0 : ∀ (j : Nat) t v, Tryz.f5.params[j]? = some t -> args[j]? = some v -> Value.okWide prog W .any base t v)
 (hW : DataW.Whole enc prog Tryz.f5.params.toList Rows.syntaxMatchesReferenceSpec.vars false W args.toList ds gs before) (hL : laidMetH prog Rows.syntaxMatchesReferenceRow.laid W) (hsh : W.ShapedOpen prog) :
 Calls prog 5 args W fun e W' => ∃ v, e = .returned v /\ Rows.syntaxMatchesReferenceSpec.post enc prog Tryz.f5 false true false false W args v W' := by
 have hG : Glob W := Glob.of hL hsh
 have f : ∀ (j : Nat) t v, Tryz.f5.params[j]? = some t -> args[j]? = some v -> Value.okWide prog W .any base t v := hval0
 have k := hW
 obtain ⟨p, q, y, hV, rfl, a3, a1⟩ := hW
 have N : DataW.TrodAll enc prog W 0 (fun _ => true) true Tryz.f5.params.toList args.toList ds p := y
 have u := N
 rw [Tryz.params5] at N f u
 obtain ⟨U, R, T, d0, d1, d2, p0, p1, p2, rfl, rfl, rfl, h0, h1, h2⟩ := trodAll_three N
 obtain ⟨rfl, rfl⟩ := trodVars_none hV
 obtain ⟨c0, Y, P, Q, rfl, X, F, G, B, l, C, o⟩ := wR (f 0 56 U rfl rfl) h0
 obtain ⟨S, rfl, l1, J⟩ := Iw (f 1 30 R rfl rfl) h1
 obtain ⟨a0, rfl, rfl, rfl, z⟩ := open_int underlying45 (f 2 45 T rfl rfl) h2
 obtain ⟨a2, rfl, L⟩ := Bv z
 clear y hval0
 simp only [List.append_nil] at k
 have I := k.lt
 refine (mch_t c0 P Q R X Y B C l1 a2 W F G l o J L hG).mono fun e W' ⟨he, hB⟩ => ?_
 subst he
 refine ⟨_, O, _, _, _, [], _, [], k, trodAll_mk1 (shut_bool underlying4 true), aQ hB u (by intro t D; change t ∈ [56, 30, 45] at D; simp only [List.mem_cons, List.not_mem_nil, or_false] at D; rcases D with rfl | rfl | rfl <;> exact ⟨by kernel_rfl, of_decide_eq_true (by kernel_rfl)⟩) (fun x hx => I x (by simpa only [List.append_nil, List.nil_append] using hx)), O, hB.frame _, fun h => by cases h⟩
theorem Bw (os : Os) (started : os.Started) (H : Type) (enc : TypeId × Value -> H) (F : Stop.Interp) :
 ReturnsInHanded {} Tryz.checked os 5 .any ((OpenSpec.ofChange Rows.syntaxMatchesReferenceSpec).preRow enc prog Tryz.f5 Rows.syntaxMatchesReferenceRow.domain false Rows.syntaxMatchesReferenceRow.laid) (((OpenSpec.ofChange Rows.syntaxMatchesReferenceSpec).at F).post enc prog Tryz.f5 false true false false) := by
 obtain ⟨l, p⟩ := Je os enc
 refine returnsInHanded_of_row (C := Tryz.checked) (s := OpenSpec.ofChange Rows.syntaxMatchesReferenceSpec) Tryz.own started (by kernel_rfl) func5
  (witness_row_at (enc := enc) (C := Tryz.checked) false (laidWorld os) #[.agg #[.slice none 0 0, .int .u8 0, .slice none 0 0, .slice none 0 0], .slice none 0 0, .int .u16 0] rfl (by kernel_rfl) (by kernel_rfl) (by kernel_rfl)
    (OpenSpec.preRow_of_cond 12 p (by kernel_rfl) (fun k q => by cases q) (by kernel_rfl) (Uc os))) ?_
 intro W base h y v e f t _ _ _ u o _
 exact tJ H enc W base h y v e f t u o
theorem Om : Rows.SyntaxMatchesReferenceSaid :=
 OpenClaim.holds_of_cond 5 Tryz.f5 rfl rfl rfl rfl rfl rfl rfl ⟨rfl, rfl, rfl, rfl, rfl⟩ rfl rfl rfl rfl rfl (by kernel_rfl) func5 (by kernel_rfl)
  (of_decide_eq_true (by kernel_rfl)) (by unfold Func.isWrapper; first | (rw [if_pos (by decide +kernel)]; kernel_rfl) | (rw [if_neg (by decide +kernel)]; exact ⟨rfl, rfl⟩))
  (fun os started H enc _ F => by rw [OpenClaim.pre_eq_preRow]; exact Bw os started H enc F)
theorem Jf (f : FuncId) (fn : Func) (hf : Tryz.pinned.checked.prog.funcNamed "eliminant/eliminantlaw44.SyntaxMatchesReference" = some f) (hfn : Tryz.pinned.checked.prog.funcs[f]? = some fn) :
 false = Tryz.pinned.checked.prog.looks [] /\ ∀ (j : Nat) t, fn.params[j]? = some t -> Tryz.pinned.checked.prog.wantsStandIn t = false := by
 obtain rfl : f = 5 := Option.some.inj ((show prog.funcNamed "eliminant/eliminantlaw44.SyntaxMatchesReference" = some 5 by kernel_rfl).symm.trans hf) |>.symm
 obtain rfl : fn = Tryz.f5 := (Option.some.inj (func5.symm.trans hfn)).symm
 refine ⟨by kernel_rfl, fun j t e => ?_⟩
 rw [Tryz.params5] at e
 have h : t ∈ [56, 30, 45] := by simpa using Array.mem_of_getElem? e
 simp only [List.mem_cons, List.not_mem_nil, or_false] at h
 rcases h with rfl | rfl | rfl
 . exact (show prog.wantsStandIn 56 = false by kernel_rfl)
 . exact (show prog.wantsStandIn 30 = false by kernel_rfl)
 exact (show prog.wantsStandIn 45 = false by kernel_rfl)
theorem mch_holds : Rows.SyntaxMatchesReferenceCardSaid :=
 Claim7.holds_tied_plain_at .later [] _ _ _ _ Om (fun _ h => by cases h) (by kernel_rfl) (fun _ h => by cases h) syntaxMatchesReference_row_tie rfl ⟨rfl, rfl⟩ (by kernel_rfl) rfl Jf (by kernel_rfl)
end Go.Proofs.YtmppigbbkjepiaaGreatDoor
