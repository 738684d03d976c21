/- Helping facts of DmgH; no other conditions. -/
import Derived.Test.YtmppigbbkjepiaaGreatDoorDmg
set_option maxRecDepth 100000
namespace Go.Proofs.YtmppigbbkjepiaaGreatDoor
open Go.Proofs.Tryz
open Go.ChangeShapes Go.WideShapes Go.ChangeAt Go.RowKit Go.Joins W
theorem Se (os : Os) : laidMet prog Rows.syntaxDamageRow.laid ((laidWorld os).forCall (fun _ _ => 0) ⟨#[], #[.agg #[.int .u8 0, .slice none 0 0, .slice none 0 0], .int .u16 0, .int .u8 0], []⟩).memory :=
  laidMet_of_run' 8 (by kernel_rfl) (by kernel_rfl)
theorem Hj (os : Os) {H : Type} (enc : TypeId × Value → H) : ∃ places, DataW.whole enc prog ((laidWorld os).forCall (fun _ _ => 0) ⟨#[], #[.agg #[.int .u8 0, .slice none 0 0, .slice none 0 0], .int .u16 0, .int .u8 0], []⟩).memory Tryz.f4.params.toList Rows.syntaxDamageSpec.vars false (#[.agg #[.int .u8 0, .slice none 0 0, .slice none 0 0], .int .u16 0, .int .u8 0] : Array Value).toList 12 = some ([.agg [.lit (.int .u8 0), .nil, .nil], .lit (.int .u16 0), .lit (.int .u8 0)], [], places) :=
  ⟨[], by kernel_rfl⟩
set_option maxHeartbeats 8000000 in
theorem rJ (H : Type) (enc : TypeId × Value → H) (W : World) (base : Nat) (args : Array Value) (ds gs : List (DataW H)) (before : List MemPlace)
    (hval0 : ∀ (j : Nat) t v, Tryz.f4.params[j]? = some t → args[j]? = some v → Value.okWide prog W .any base t v)
    (hW : DataW.Whole enc prog Tryz.f4.params.toList Rows.syntaxDamageSpec.vars false W args.toList ds gs before) (hL : laidMetH prog Rows.syntaxDamageRow.laid W) (hsh : W.ShapedOpen prog) :
    Calls prog 4 args W fun e W' => ∃ v, e = .returned v ∧ Rows.syntaxDamageSpec.post enc prog Tryz.f4 false true false false W args v W' := by
  have hG : Glob W := Glob.of hL hsh
  have f : ∀ (j : Nat) t v, Tryz.f4.params[j]? = some t → args[j]? = some v → Value.okWide prog W .any base t v := hval0
  have k := hW
  obtain ⟨p, q, y, hV, rfl, a3, a0⟩ := hW
  have N : DataW.TrodAll enc prog W 0 (fun _ => true) true Tryz.f4.params.toList args.toList ds p := y
  have u := N
  rw [Tryz.params4] at N f u
  obtain ⟨T, S, R, d0, d1, d2, p0, p1, p2, rfl, rfl, rfl, h0, h1, h2⟩ := trodAll_three N
  obtain ⟨rfl, rfl⟩ := trodVars_none hV
  obtain ⟨U, P, Q, rfl, G, C, l, D, o⟩ := kK (f 0 44 T rfl rfl) h0
  obtain ⟨Y, rfl, rfl, rfl, B⟩ := open_int underlying45 (f 1 45 S rfl rfl) h1
  obtain ⟨a1, rfl, L⟩ := yJ B
  obtain ⟨X, rfl, rfl, rfl, z⟩ := open_int underlying5 (f 2 5 R rfl rfl) h2
  obtain ⟨a2, rfl, J⟩ := oF z
  clear y hval0
  simp only [List.append_nil] at k
  have I := k.lt
  refine (dmg_t U a1 a2 P Q C D W G L J l o hG).mono fun e W' ⟨he, hB⟩ => ?_
  subst he
  refine ⟨_, O, _, _, _, [], _, [], k, trodAll_mk1 (shut_bool underlying4 true), PM hB u (by intro t F; change t ∈ [44, 45, 5] at F; simp only [List.mem_cons, List.not_mem_nil, or_false] at F; rcases F with rfl | rfl | rfl <;> exact ⟨by kernel_rfl, of_decide_eq_true (by kernel_rfl)⟩) (fun x hx => I x (by simpa only [List.append_nil, List.nil_append] using hx)), O, hB.frame _, fun h => by cases h⟩
theorem zL (os : Os) (started : os.Started) (H : Type) (enc : TypeId × Value → H) (F : Stop.Interp) :
    ReturnsInHanded {} Tryz.checked os 4 .any ((OpenSpec.ofChange Rows.syntaxDamageSpec).preRow enc prog Tryz.f4 Rows.syntaxDamageRow.domain false Rows.syntaxDamageRow.laid) (((OpenSpec.ofChange Rows.syntaxDamageSpec).at F).post enc prog Tryz.f4 false true false false) := by
  obtain ⟨l, p⟩ := Hj os enc
  refine returnsInHanded_of_row (C := Tryz.checked) (s := OpenSpec.ofChange Rows.syntaxDamageSpec) Tryz.own started (by kernel_rfl) func4
    (witness_row_at (enc := enc) (C := Tryz.checked) false (laidWorld os) #[.agg #[.int .u8 0, .slice none 0 0, .slice none 0 0], .int .u16 0, .int .u8 0] rfl (by kernel_rfl) (by kernel_rfl) (by kernel_rfl)
      (OpenSpec.preRow_of_cond 12 p (by kernel_rfl) (fun k q => by cases q) (by kernel_rfl) (Se os))) ?_
  intro W base h y v e f t _ _ _ u o _
  exact rJ H enc W base h y v e f t u o
theorem Nk : Rows.SyntaxDamageSaid :=
  OpenClaim.holds_of_cond 4 Tryz.f4 rfl rfl rfl rfl rfl rfl rfl ⟨rfl, rfl, rfl, rfl, rfl⟩ rfl rfl rfl rfl rfl (by kernel_rfl) func4 (by kernel_rfl)
    (of_decide_eq_true (by kernel_rfl)) (by unfold Func.isWrapper; first | (rw [if_pos (by decide +kernel)]; kernel_rfl) | (rw [if_neg (by decide +kernel)]; exact ⟨rfl, rfl⟩))
    (fun os started H enc _ F => by rw [OpenClaim.pre_eq_preRow]; exact zL os started H enc F)
theorem Hk (f : FuncId) (fn : Func) (hf : Tryz.pinned.checked.prog.funcNamed "eliminant/eliminantlaw44.SyntaxDamage" = some f) (hfn : Tryz.pinned.checked.prog.funcs[f]? = some fn) :
    false = Tryz.pinned.checked.prog.looks [] ∧ ∀ (j : Nat) t, fn.params[j]? = some t → Tryz.pinned.checked.prog.wantsStandIn t = false := by
  obtain rfl : f = 4 := Option.some.inj ((show prog.funcNamed "eliminant/eliminantlaw44.SyntaxDamage" = some 4 by kernel_rfl).symm.trans hf) |>.symm
  obtain rfl : fn = Tryz.f4 := (Option.some.inj (func4.symm.trans hfn)).symm
  refine ⟨by kernel_rfl, fun j t e => ?_⟩
  rw [Tryz.params4] at e
  have h : t ∈ [44, 45, 5] := by simpa using Array.mem_of_getElem? e
  simp only [List.mem_cons, List.not_mem_nil, or_false] at h
  rcases h with rfl | rfl | rfl
  · exact (show prog.wantsStandIn 44 = false by kernel_rfl)
  · exact (show prog.wantsStandIn 45 = false by kernel_rfl)
  · exact (show prog.wantsStandIn 5 = false by kernel_rfl)
theorem dmg_holds : Rows.SyntaxDamageCardSaid :=
  Claim7.holds_tied_plain_at .later [] _ _ _ _ Nk (fun _ h => by cases h) (by kernel_rfl) (fun _ h => by cases h) syntaxDamage_row_tie rfl ⟨rfl, rfl⟩ (by kernel_rfl) rfl Hk (by kernel_rfl)
end Go.Proofs.YtmppigbbkjepiaaGreatDoor
