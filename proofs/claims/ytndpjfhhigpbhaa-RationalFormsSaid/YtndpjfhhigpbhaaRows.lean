/-
  No cell of these rows narrows 'for every input' (looked for: loops, veiled, ifaces, maps, wideKeys, modest, calm, conditions, laid).
  DERIVED. THE GIVEN ROWS OF THIS SEAT. 6 by the template 'for every input the law returns true; each argument reads behind the call as it read before'; 0 by the template 'total and deterministic' (their statements: YtndpjfhhigpbhaaTotals.lean).
  GIVEN WITH THE SEED: the statements are not yours to turn. If you find one false, say at which input.
  Laid BY PROGRAM, IN A SANDBOX (cutbox-rows.mjs): the forced cells as the released guide's own fill.sh prints them over the translation c596d7dcfd643f56… (all of the seat's roots in one cut). By AI agents, Wed Nov 11 2026. No macro, syntax, notation, axiom, sorry.
-/
import Derived.Test.YtndpjfhhigpbhaaChecked
import GoSem.Claim
import GoSem.ClaimJoined
import GoSem.ClaimMapViews
import Derived.JoinedTies
import Derived.KernelRfl
namespace Go.Proofs.Ytndpjfhhigpbhaa
/- THE CELL 'sum', in the pinned program and in every row, IS THE sha256 OF THE DUMP (.gsa) THAT YtndpjfhhigpbhaaProg.lean LOADS. Nothing in Lean hashes anything: it is a label: what it is worth is what the hold of that sum in a sandbox is worth. -/
noncomputable def Try.pinned : Pinned := { name := "ytndpjfhhigpbhaa", sum := "c596d7dcfd643f56a23e5ac214b684916111b99deb4ef03e31acf5692868b4c1", checked := Try.checked }
namespace Rows
def none {H : Type} : Left H := { results := [], args := [] }

/-- 'eliminantlaw02.RationalForms': WHATEVER THE INPUT: true; the input reads as it did. -/
def rationalFormsSpec : ChangeSpec := { name := "rationalForms", fn := fun _ => fun
  | [d1, d2, d3] => { results := [.lit (.bool true)], args := [d1, d2, d3] }
  | _ => none }
def rationalFormsRow : OpenClaim := { program := "ytndpjfhhigpbhaa", sum := "c596d7dcfd643f56a23e5ac214b684916111b99deb4ef03e31acf5692868b4c1", func := "eliminant/eliminantlaw02.RationalForms", spec := "rationalForms", inPlace := ["internal/bytealg.IndexByteString", "internal/bytealg.IndexString"], unfollowed := true, recurses := true, named := ["internal/bytealg.MaxLen"], apart := false }
def RationalFormsSaid : Prop := rationalFormsRow.holds Try.pinned (OpenSpec.ofChange rationalFormsSpec)

/-- ITS FALSE NEIGHBOUR: 'it returns false'. Refute it at one input. -/
def rationalFormsWrong : ChangeSpec := { name := "rationalForms", fn := fun _ => fun
  | [d1, d2, d3] => { results := [.lit (.bool false)], args := [d1, d2, d3] }
  | _ => none }
def RationalFormsWrongFalsely : Prop := rationalFormsRow.holds Try.pinned (OpenSpec.ofChange rationalFormsWrong)

/-- 'eliminantlaw02.RationalLowest': WHATEVER THE INPUT: true; the input reads as it did. -/
def rationalLowestSpec : ChangeSpec := { name := "rationalLowest", fn := fun _ => fun
  | [d1, d2] => { results := [.lit (.bool true)], args := [d1, d2] }
  | _ => none }
def rationalLowestRow : OpenClaim := { program := "ytndpjfhhigpbhaa", sum := "c596d7dcfd643f56a23e5ac214b684916111b99deb4ef03e31acf5692868b4c1", func := "eliminant/eliminantlaw02.RationalLowest", spec := "rationalLowest", inPlace := ["internal/bytealg.IndexByteString", "internal/bytealg.IndexString"], unfollowed := true, recurses := true, named := ["internal/bytealg.MaxLen"], apart := false }
def RationalLowestSaid : Prop := rationalLowestRow.holds Try.pinned (OpenSpec.ofChange rationalLowestSpec)

/-- ITS FALSE NEIGHBOUR: 'it returns false'. Refute it at one input. -/
def rationalLowestWrong : ChangeSpec := { name := "rationalLowest", fn := fun _ => fun
  | [d1, d2] => { results := [.lit (.bool false)], args := [d1, d2] }
  | _ => none }
def RationalLowestWrongFalsely : Prop := rationalLowestRow.holds Try.pinned (OpenSpec.ofChange rationalLowestWrong)

/-- 'eliminantlaw02.RationalTexts': WHATEVER THE INPUT: true; the input reads as it did. -/
def rationalTextsSpec : ChangeSpec := { name := "rationalTexts", fn := fun _ => fun
  | [d] => { results := [.lit (.bool true)], args := [d] }
  | _ => none }
def rationalTextsRow : OpenClaim := { program := "ytndpjfhhigpbhaa", sum := "c596d7dcfd643f56a23e5ac214b684916111b99deb4ef03e31acf5692868b4c1", func := "eliminant/eliminantlaw02.RationalTexts", spec := "rationalTexts", inPlace := ["internal/bytealg.IndexByteString", "internal/bytealg.IndexString"], unfollowed := true, recurses := true, named := ["internal/bytealg.MaxLen"], apart := false }
def RationalTextsSaid : Prop := rationalTextsRow.holds Try.pinned (OpenSpec.ofChange rationalTextsSpec)

/-- ITS FALSE NEIGHBOUR: 'it returns false'. Refute it at one input. -/
def rationalTextsWrong : ChangeSpec := { name := "rationalTexts", fn := fun _ => fun
  | [d] => { results := [.lit (.bool false)], args := [d] }
  | _ => none }
def RationalTextsWrongFalsely : Prop := rationalTextsRow.holds Try.pinned (OpenSpec.ofChange rationalTextsWrong)

/-- 'eliminantlaw02.RationalOrdered': WHATEVER THE INPUT: true; the input reads as it did. -/
def rationalOrderedSpec : ChangeSpec := { name := "rationalOrdered", fn := fun _ => fun
  | [d] => { results := [.lit (.bool true)], args := [d] }
  | _ => none }
def rationalOrderedRow : OpenClaim := { program := "ytndpjfhhigpbhaa", sum := "c596d7dcfd643f56a23e5ac214b684916111b99deb4ef03e31acf5692868b4c1", func := "eliminant/eliminantlaw02.RationalOrdered", spec := "rationalOrdered", inPlace := ["internal/bytealg.IndexByteString", "internal/bytealg.IndexString"], unfollowed := true, recurses := true, named := ["internal/bytealg.MaxLen"], apart := false }
def RationalOrderedSaid : Prop := rationalOrderedRow.holds Try.pinned (OpenSpec.ofChange rationalOrderedSpec)

/-- ITS FALSE NEIGHBOUR: 'it returns false'. Refute it at one input. -/
def rationalOrderedWrong : ChangeSpec := { name := "rationalOrdered", fn := fun _ => fun
  | [d] => { results := [.lit (.bool false)], args := [d] }
  | _ => none }
def RationalOrderedWrongFalsely : Prop := rationalOrderedRow.holds Try.pinned (OpenSpec.ofChange rationalOrderedWrong)

/-- 'eliminantlaw02.RationalSimplest': WHATEVER THE INPUT: true; the input reads as it did. -/
def rationalSimplestSpec : ChangeSpec := { name := "rationalSimplest", fn := fun _ => fun
  | [d] => { results := [.lit (.bool true)], args := [d] }
  | _ => none }
def rationalSimplestRow : OpenClaim := { program := "ytndpjfhhigpbhaa", sum := "c596d7dcfd643f56a23e5ac214b684916111b99deb4ef03e31acf5692868b4c1", func := "eliminant/eliminantlaw02.RationalSimplest", spec := "rationalSimplest", inPlace := ["internal/bytealg.IndexByteString", "internal/bytealg.IndexString"], unfollowed := true, recurses := true, named := ["internal/bytealg.MaxLen"], apart := false }
def RationalSimplestSaid : Prop := rationalSimplestRow.holds Try.pinned (OpenSpec.ofChange rationalSimplestSpec)

/-- ITS FALSE NEIGHBOUR: 'it returns false'. Refute it at one input. -/
def rationalSimplestWrong : ChangeSpec := { name := "rationalSimplest", fn := fun _ => fun
  | [d] => { results := [.lit (.bool false)], args := [d] }
  | _ => none }
def RationalSimplestWrongFalsely : Prop := rationalSimplestRow.holds Try.pinned (OpenSpec.ofChange rationalSimplestWrong)

/-- 'eliminantlaw02.RationalField': WHATEVER THE INPUT: true; the input reads as it did. -/
def rationalFieldSpec : ChangeSpec := { name := "rationalField", fn := fun _ => fun
  | [d] => { results := [.lit (.bool true)], args := [d] }
  | _ => none }
def rationalFieldRow : OpenClaim := { program := "ytndpjfhhigpbhaa", sum := "c596d7dcfd643f56a23e5ac214b684916111b99deb4ef03e31acf5692868b4c1", func := "eliminant/eliminantlaw02.RationalField", spec := "rationalField", inPlace := ["internal/bytealg.IndexByteString", "internal/bytealg.IndexString"], unfollowed := true, recurses := true, named := ["internal/bytealg.MaxLen"], apart := false }
def RationalFieldSaid : Prop := rationalFieldRow.holds Try.pinned (OpenSpec.ofChange rationalFieldSpec)

/-- ITS FALSE NEIGHBOUR: 'it returns false'. Refute it at one input. -/
def rationalFieldWrong : ChangeSpec := { name := "rationalField", fn := fun _ => fun
  | [d] => { results := [.lit (.bool false)], args := [d] }
  | _ => none }
def RationalFieldWrongFalsely : Prop := rationalFieldRow.holds Try.pinned (OpenSpec.ofChange rationalFieldWrong)

/- THE SECOND FORM. 'bulk': how many values and letters a reading holds, each counted each time it is reached (what is shared counts as often as it is met; a slice's spare places count too). A statement '..UptoSaid' is the law's where the arguments, and the package variables that the reading takes, are together of bulk at most 1048576: NARROWER than '..Said'. Prove '..Said' where nothing that the law and all that it calls make is longer than what came in: it says more and counts as full. Else prove '..UptoSaid'. A law counts once. -/
mutual
def uptoBulk {H : Type} : DataW H → Nat
  | .lit (.string bytes) => bytes.length + 1
  | .lit _ => 1
  | .nil => 1
  | .ptr d => uptoBulk d + 1
  | .slice elems spare => uptoBulkAll elems + uptoBulkAll spare + 1
  | .agg parts => uptoBulkAll parts + 1
  | .iface _ d => uptoBulk d + 1
  | .map entries => uptoBulkEntries entries + 1
  | .held _ => 1
def uptoBulkAll {H : Type} : List (DataW H) → Nat
  | [] => 0
  | d :: r => uptoBulk d + uptoBulkAll r
def uptoBulkEntries {H : Type} : List (Lit × DataW H) → Nat
  | [] => 0
  | x :: r => uptoBulkEntry x + uptoBulkEntries r
def uptoBulkEntry {H : Type} : Lit × DataW H → Nat
  | (.string bytes, d) => bytes.length + uptoBulk d + 1
  | (_, d) => uptoBulk d + 1
 end
def uptoSmall : (H : Type) → List (DataW H) → Bool := fun _ ds => decide (uptoBulkAll ds ≤ 1048576)
def OpenSpec.upto (s : _root_.Go.ChangeSpec) : _root_.Go.OpenSpec := { _root_.Go.OpenSpec.ofChange s with cond := some uptoSmall }

/-- 'eliminantlaw02.RationalForms', WHERE WHAT IT READS IS OF BULK AT MOST 1048576: true; the input reads as it did. -/
def rationalFormsUptoRow : OpenClaim := { program := "ytndpjfhhigpbhaa", sum := "c596d7dcfd643f56a23e5ac214b684916111b99deb4ef03e31acf5692868b4c1", func := "eliminant/eliminantlaw02.RationalForms", spec := "rationalForms", inPlace := ["internal/bytealg.IndexByteString", "internal/bytealg.IndexString"], unfollowed := true, recurses := true, named := ["internal/bytealg.MaxLen"], apart := false, narrowed := true }
def RationalFormsUptoSaid : Prop := rationalFormsUptoRow.holds Try.pinned (OpenSpec.upto rationalFormsSpec)

/-- 'eliminantlaw02.RationalLowest', WHERE WHAT IT READS IS OF BULK AT MOST 1048576: true; the input reads as it did. -/
def rationalLowestUptoRow : OpenClaim := { program := "ytndpjfhhigpbhaa", sum := "c596d7dcfd643f56a23e5ac214b684916111b99deb4ef03e31acf5692868b4c1", func := "eliminant/eliminantlaw02.RationalLowest", spec := "rationalLowest", inPlace := ["internal/bytealg.IndexByteString", "internal/bytealg.IndexString"], unfollowed := true, recurses := true, named := ["internal/bytealg.MaxLen"], apart := false, narrowed := true }
def RationalLowestUptoSaid : Prop := rationalLowestUptoRow.holds Try.pinned (OpenSpec.upto rationalLowestSpec)

/-- 'eliminantlaw02.RationalTexts', WHERE WHAT IT READS IS OF BULK AT MOST 1048576: true; the input reads as it did. -/
def rationalTextsUptoRow : OpenClaim := { program := "ytndpjfhhigpbhaa", sum := "c596d7dcfd643f56a23e5ac214b684916111b99deb4ef03e31acf5692868b4c1", func := "eliminant/eliminantlaw02.RationalTexts", spec := "rationalTexts", inPlace := ["internal/bytealg.IndexByteString", "internal/bytealg.IndexString"], unfollowed := true, recurses := true, named := ["internal/bytealg.MaxLen"], apart := false, narrowed := true }
def RationalTextsUptoSaid : Prop := rationalTextsUptoRow.holds Try.pinned (OpenSpec.upto rationalTextsSpec)

/-- 'eliminantlaw02.RationalOrdered', WHERE WHAT IT READS IS OF BULK AT MOST 1048576: true; the input reads as it did. -/
def rationalOrderedUptoRow : OpenClaim := { program := "ytndpjfhhigpbhaa", sum := "c596d7dcfd643f56a23e5ac214b684916111b99deb4ef03e31acf5692868b4c1", func := "eliminant/eliminantlaw02.RationalOrdered", spec := "rationalOrdered", inPlace := ["internal/bytealg.IndexByteString", "internal/bytealg.IndexString"], unfollowed := true, recurses := true, named := ["internal/bytealg.MaxLen"], apart := false, narrowed := true }
def RationalOrderedUptoSaid : Prop := rationalOrderedUptoRow.holds Try.pinned (OpenSpec.upto rationalOrderedSpec)

/-- 'eliminantlaw02.RationalSimplest', WHERE WHAT IT READS IS OF BULK AT MOST 1048576: true; the input reads as it did. -/
def rationalSimplestUptoRow : OpenClaim := { program := "ytndpjfhhigpbhaa", sum := "c596d7dcfd643f56a23e5ac214b684916111b99deb4ef03e31acf5692868b4c1", func := "eliminant/eliminantlaw02.RationalSimplest", spec := "rationalSimplest", inPlace := ["internal/bytealg.IndexByteString", "internal/bytealg.IndexString"], unfollowed := true, recurses := true, named := ["internal/bytealg.MaxLen"], apart := false, narrowed := true }
def RationalSimplestUptoSaid : Prop := rationalSimplestUptoRow.holds Try.pinned (OpenSpec.upto rationalSimplestSpec)

/-- 'eliminantlaw02.RationalField', WHERE WHAT IT READS IS OF BULK AT MOST 1048576: true; the input reads as it did. -/
def rationalFieldUptoRow : OpenClaim := { program := "ytndpjfhhigpbhaa", sum := "c596d7dcfd643f56a23e5ac214b684916111b99deb4ef03e31acf5692868b4c1", func := "eliminant/eliminantlaw02.RationalField", spec := "rationalField", inPlace := ["internal/bytealg.IndexByteString", "internal/bytealg.IndexString"], unfollowed := true, recurses := true, named := ["internal/bytealg.MaxLen"], apart := false, narrowed := true }
def RationalFieldUptoSaid : Prop := rationalFieldUptoRow.holds Try.pinned (OpenSpec.upto rationalFieldSpec)

end Rows
end Go.Proofs.Ytndpjfhhigpbhaa
