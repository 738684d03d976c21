/-
  No cell of these rows narrows 'for every input' (looked for: loops, veiled, ifaces, maps, wideKeys, modest, calm, conditions, laid).
  DERIVED. THE GIVEN ROWS OF THIS SEAT. 10 by the template 'for every input the law returns true; each argument reads behind the call as it read before'; 0 by the template 'total and deterministic' (their statements: YtjgmfdenicbniaaTotals.lean).
  GIVEN WITH THE SEED: the statements are not yours to turn. If you find one false, say at which input.
  Laid BY PROGRAM, IN A SANDBOX (cutbox-rows.mjs): the forced cells as the released guide's own fill.sh prints them over the translation 3724f8163e028ad1… (all of the seat's roots in one cut). By AI agents, Wed Nov 11 2026. No macro, syntax, notation, axiom, sorry.
-/
import Derived.Test.YtjgmfdenicbniaaChecked
import GoSem.Claim
import GoSem.ClaimJoined
import GoSem.ClaimMapViews
import Derived.JoinedTies
import Derived.KernelRfl
namespace Go.Proofs.Ytjgmfdenicbniaa
/- THE CELL 'sum', in the pinned program and in every row, IS THE sha256 OF THE DUMP (.gsa) THAT YtjgmfdenicbniaaProg.lean LOADS. Nothing in Lean hashes anything: it is a label: what it is worth is what the hold of that sum in a sandbox is worth. -/
noncomputable def Try.pinned : Pinned := { name := "ytjgmfdenicbniaa", sum := "3724f8163e028ad132a62a750bb93824b0566c9328888b8ed734eec5fa28bb26", checked := Try.checked }
namespace Rows
def none {H : Type} : Left H := { results := [], args := [] }

/-- 'eliminantlaw01.IntegerCanonical': WHATEVER THE INPUT: true; the input reads as it did. -/
def integerCanonicalSpec : ChangeSpec := { name := "integerCanonical", fn := fun _ => fun
  | [d1, d2] => { results := [.lit (.bool true)], args := [d1, d2] }
  | _ => none }
def integerCanonicalRow : OpenClaim := { program := "ytjgmfdenicbniaa", sum := "3724f8163e028ad132a62a750bb93824b0566c9328888b8ed734eec5fa28bb26", func := "eliminant/eliminantlaw01.IntegerCanonical", spec := "integerCanonical", recurses := true, apart := false }
def IntegerCanonicalSaid : Prop := integerCanonicalRow.holds Try.pinned (OpenSpec.ofChange integerCanonicalSpec)

/-- ITS FALSE NEIGHBOUR: 'it returns false'. Refute it at one input. -/
def integerCanonicalWrong : ChangeSpec := { name := "integerCanonical", fn := fun _ => fun
  | [d1, d2] => { results := [.lit (.bool false)], args := [d1, d2] }
  | _ => none }
def IntegerCanonicalWrongFalsely : Prop := integerCanonicalRow.holds Try.pinned (OpenSpec.ofChange integerCanonicalWrong)

/-- 'eliminantlaw01.IntegerRing': WHATEVER THE INPUT: true; the input reads as it did. -/
def integerRingSpec : ChangeSpec := { name := "integerRing", fn := fun _ => fun
  | [d1, d2, d3] => { results := [.lit (.bool true)], args := [d1, d2, d3] }
  | _ => none }
def integerRingRow : OpenClaim := { program := "ytjgmfdenicbniaa", sum := "3724f8163e028ad132a62a750bb93824b0566c9328888b8ed734eec5fa28bb26", func := "eliminant/eliminantlaw01.IntegerRing", spec := "integerRing", recurses := true, apart := false }
def IntegerRingSaid : Prop := integerRingRow.holds Try.pinned (OpenSpec.ofChange integerRingSpec)

/-- ITS FALSE NEIGHBOUR: 'it returns false'. Refute it at one input. -/
def integerRingWrong : ChangeSpec := { name := "integerRing", fn := fun _ => fun
  | [d1, d2, d3] => { results := [.lit (.bool false)], args := [d1, d2, d3] }
  | _ => none }
def IntegerRingWrongFalsely : Prop := integerRingRow.holds Try.pinned (OpenSpec.ofChange integerRingWrong)

/-- 'eliminantlaw01.IntegerOrder': WHATEVER THE INPUT: true; the input reads as it did. -/
def integerOrderSpec : ChangeSpec := { name := "integerOrder", fn := fun _ => fun
  | [d1, d2, d3] => { results := [.lit (.bool true)], args := [d1, d2, d3] }
  | _ => none }
def integerOrderRow : OpenClaim := { program := "ytjgmfdenicbniaa", sum := "3724f8163e028ad132a62a750bb93824b0566c9328888b8ed734eec5fa28bb26", func := "eliminant/eliminantlaw01.IntegerOrder", spec := "integerOrder", recurses := true, apart := false }
def IntegerOrderSaid : Prop := integerOrderRow.holds Try.pinned (OpenSpec.ofChange integerOrderSpec)

/-- ITS FALSE NEIGHBOUR: 'it returns false'. Refute it at one input. -/
def integerOrderWrong : ChangeSpec := { name := "integerOrder", fn := fun _ => fun
  | [d1, d2, d3] => { results := [.lit (.bool false)], args := [d1, d2, d3] }
  | _ => none }
def IntegerOrderWrongFalsely : Prop := integerOrderRow.holds Try.pinned (OpenSpec.ofChange integerOrderWrong)

/-- 'eliminantlaw01.IntegerDivides': WHATEVER THE INPUT: true; the input reads as it did. -/
def integerDividesSpec : ChangeSpec := { name := "integerDivides", fn := fun _ => fun
  | [d1, d2, d3] => { results := [.lit (.bool true)], args := [d1, d2, d3] }
  | _ => none }
def integerDividesRow : OpenClaim := { program := "ytjgmfdenicbniaa", sum := "3724f8163e028ad132a62a750bb93824b0566c9328888b8ed734eec5fa28bb26", func := "eliminant/eliminantlaw01.IntegerDivides", spec := "integerDivides", recurses := true, apart := false }
def IntegerDividesSaid : Prop := integerDividesRow.holds Try.pinned (OpenSpec.ofChange integerDividesSpec)

/-- ITS FALSE NEIGHBOUR: 'it returns false'. Refute it at one input. -/
def integerDividesWrong : ChangeSpec := { name := "integerDivides", fn := fun _ => fun
  | [d1, d2, d3] => { results := [.lit (.bool false)], args := [d1, d2, d3] }
  | _ => none }
def IntegerDividesWrongFalsely : Prop := integerDividesRow.holds Try.pinned (OpenSpec.ofChange integerDividesWrong)

/-- 'eliminantlaw01.IntegerPowers': WHATEVER THE INPUT: true; the input reads as it did. -/
def integerPowersSpec : ChangeSpec := { name := "integerPowers", fn := fun _ => fun
  | [d1, d2, d3] => { results := [.lit (.bool true)], args := [d1, d2, d3] }
  | _ => none }
def integerPowersRow : OpenClaim := { program := "ytjgmfdenicbniaa", sum := "3724f8163e028ad132a62a750bb93824b0566c9328888b8ed734eec5fa28bb26", func := "eliminant/eliminantlaw01.IntegerPowers", spec := "integerPowers", recurses := true, apart := false }
def IntegerPowersSaid : Prop := integerPowersRow.holds Try.pinned (OpenSpec.ofChange integerPowersSpec)

/-- ITS FALSE NEIGHBOUR: 'it returns false'. Refute it at one input. -/
def integerPowersWrong : ChangeSpec := { name := "integerPowers", fn := fun _ => fun
  | [d1, d2, d3] => { results := [.lit (.bool false)], args := [d1, d2, d3] }
  | _ => none }
def IntegerPowersWrongFalsely : Prop := integerPowersRow.holds Try.pinned (OpenSpec.ofChange integerPowersWrong)

/-- 'eliminantlaw01.IntegerTexts': WHATEVER THE INPUT: true; the input reads as it did. -/
def integerTextsSpec : ChangeSpec := { name := "integerTexts", fn := fun _ => fun
  | [d1, d2, d3] => { results := [.lit (.bool true)], args := [d1, d2, d3] }
  | _ => none }
def integerTextsRow : OpenClaim := { program := "ytjgmfdenicbniaa", sum := "3724f8163e028ad132a62a750bb93824b0566c9328888b8ed734eec5fa28bb26", func := "eliminant/eliminantlaw01.IntegerTexts", spec := "integerTexts", recurses := true, apart := false }
def IntegerTextsSaid : Prop := integerTextsRow.holds Try.pinned (OpenSpec.ofChange integerTextsSpec)

/-- ITS FALSE NEIGHBOUR: 'it returns false'. Refute it at one input. -/
def integerTextsWrong : ChangeSpec := { name := "integerTexts", fn := fun _ => fun
  | [d1, d2, d3] => { results := [.lit (.bool false)], args := [d1, d2, d3] }
  | _ => none }
def IntegerTextsWrongFalsely : Prop := integerTextsRow.holds Try.pinned (OpenSpec.ofChange integerTextsWrong)

/-- 'eliminantlaw01.IntegerParses': WHATEVER THE INPUT: true; the input reads as it did. -/
def integerParsesSpec : ChangeSpec := { name := "integerParses", fn := fun _ => fun
  | [d1, d2] => { results := [.lit (.bool true)], args := [d1, d2] }
  | _ => none }
def integerParsesRow : OpenClaim := { program := "ytjgmfdenicbniaa", sum := "3724f8163e028ad132a62a750bb93824b0566c9328888b8ed734eec5fa28bb26", func := "eliminant/eliminantlaw01.IntegerParses", spec := "integerParses", recurses := true, apart := false }
def IntegerParsesSaid : Prop := integerParsesRow.holds Try.pinned (OpenSpec.ofChange integerParsesSpec)

/-- ITS FALSE NEIGHBOUR: 'it returns false'. Refute it at one input. -/
def integerParsesWrong : ChangeSpec := { name := "integerParses", fn := fun _ => fun
  | [d1, d2] => { results := [.lit (.bool false)], args := [d1, d2] }
  | _ => none }
def IntegerParsesWrongFalsely : Prop := integerParsesRow.holds Try.pinned (OpenSpec.ofChange integerParsesWrong)

/-- 'eliminantlaw01.IntegerSmall': WHATEVER THE INPUT: true; the input reads as it did. -/
def integerSmallSpec : ChangeSpec := { name := "integerSmall", fn := fun _ => fun
  | [d1, d2] => { results := [.lit (.bool true)], args := [d1, d2] }
  | _ => none }
def integerSmallRow : OpenClaim := { program := "ytjgmfdenicbniaa", sum := "3724f8163e028ad132a62a750bb93824b0566c9328888b8ed734eec5fa28bb26", func := "eliminant/eliminantlaw01.IntegerSmall", spec := "integerSmall", recurses := true, apart := false }
def IntegerSmallSaid : Prop := integerSmallRow.holds Try.pinned (OpenSpec.ofChange integerSmallSpec)

/-- ITS FALSE NEIGHBOUR: 'it returns false'. Refute it at one input. -/
def integerSmallWrong : ChangeSpec := { name := "integerSmall", fn := fun _ => fun
  | [d1, d2] => { results := [.lit (.bool false)], args := [d1, d2] }
  | _ => none }
def IntegerSmallWrongFalsely : Prop := integerSmallRow.holds Try.pinned (OpenSpec.ofChange integerSmallWrong)

/-- 'eliminantlaw01.IntegerMatchesReference': WHATEVER THE INPUT: true; the input reads as it did. -/
def integerMatchesReferenceSpec : ChangeSpec := { name := "integerMatchesReference", fn := fun _ => fun
  | [d1, d2, d3] => { results := [.lit (.bool true)], args := [d1, d2, d3] }
  | _ => none }
def integerMatchesReferenceRow : OpenClaim := { program := "ytjgmfdenicbniaa", sum := "3724f8163e028ad132a62a750bb93824b0566c9328888b8ed734eec5fa28bb26", func := "eliminant/eliminantlaw01.IntegerMatchesReference", spec := "integerMatchesReference", recurses := true, apart := false }
def IntegerMatchesReferenceSaid : Prop := integerMatchesReferenceRow.holds Try.pinned (OpenSpec.ofChange integerMatchesReferenceSpec)

/-- ITS FALSE NEIGHBOUR: 'it returns false'. Refute it at one input. -/
def integerMatchesReferenceWrong : ChangeSpec := { name := "integerMatchesReference", fn := fun _ => fun
  | [d1, d2, d3] => { results := [.lit (.bool false)], args := [d1, d2, d3] }
  | _ => none }
def IntegerMatchesReferenceWrongFalsely : Prop := integerMatchesReferenceRow.holds Try.pinned (OpenSpec.ofChange integerMatchesReferenceWrong)

/-- 'eliminantlaw01.IntegerDivisors': WHATEVER THE INPUT: true; the input reads as it did. -/
def integerDivisorsSpec : ChangeSpec := { name := "integerDivisors", fn := fun _ => fun
  | [d1, d2, d3] => { results := [.lit (.bool true)], args := [d1, d2, d3] }
  | _ => none }
def integerDivisorsRow : OpenClaim := { program := "ytjgmfdenicbniaa", sum := "3724f8163e028ad132a62a750bb93824b0566c9328888b8ed734eec5fa28bb26", func := "eliminant/eliminantlaw01.IntegerDivisors", spec := "integerDivisors", recurses := true, apart := false }
def IntegerDivisorsSaid : Prop := integerDivisorsRow.holds Try.pinned (OpenSpec.ofChange integerDivisorsSpec)

/-- ITS FALSE NEIGHBOUR: 'it returns false'. Refute it at one input. -/
def integerDivisorsWrong : ChangeSpec := { name := "integerDivisors", fn := fun _ => fun
  | [d1, d2, d3] => { results := [.lit (.bool false)], args := [d1, d2, d3] }
  | _ => none }
def IntegerDivisorsWrongFalsely : Prop := integerDivisorsRow.holds Try.pinned (OpenSpec.ofChange integerDivisorsWrong)

/- THE SECOND FORM. 'bulk': how many values and letters a reading holds, each counted each time it is reached (what is shared counts as often as it is met; a slice's spare places count too). A statement '..UptoSaid' is the law's where the arguments, and the package variables that the reading takes, are together of bulk at most 1048576: NARROWER than '..Said'. Prove '..Said' where nothing that the law and all that it calls make is longer than what came in: it says more and counts as full. Else prove '..UptoSaid'. A law counts once. -/
mutual
def uptoBulk {H : Type} : DataW H → Nat
  | .lit (.string bytes) => bytes.length + 1
  | .lit _ => 1
  | .nil => 1
  | .ptr d => uptoBulk d + 1
  | .slice elems spare => uptoBulkAll elems + uptoBulkAll spare + 1
  | .agg parts => uptoBulkAll parts + 1
  | .iface _ d => uptoBulk d + 1
  | .map entries => uptoBulkEntries entries + 1
  | .held _ => 1
def uptoBulkAll {H : Type} : List (DataW H) → Nat
  | [] => 0
  | d :: r => uptoBulk d + uptoBulkAll r
def uptoBulkEntries {H : Type} : List (Lit × DataW H) → Nat
  | [] => 0
  | x :: r => uptoBulkEntry x + uptoBulkEntries r
def uptoBulkEntry {H : Type} : Lit × DataW H → Nat
  | (.string bytes, d) => bytes.length + uptoBulk d + 1
  | (_, d) => uptoBulk d + 1
 end
def uptoSmall : (H : Type) → List (DataW H) → Bool := fun _ ds => decide (uptoBulkAll ds ≤ 1048576)
def OpenSpec.upto (s : _root_.Go.ChangeSpec) : _root_.Go.OpenSpec := { _root_.Go.OpenSpec.ofChange s with cond := some uptoSmall }

/-- 'eliminantlaw01.IntegerCanonical', WHERE WHAT IT READS IS OF BULK AT MOST 1048576: true; the input reads as it did. -/
def integerCanonicalUptoRow : OpenClaim := { program := "ytjgmfdenicbniaa", sum := "3724f8163e028ad132a62a750bb93824b0566c9328888b8ed734eec5fa28bb26", func := "eliminant/eliminantlaw01.IntegerCanonical", spec := "integerCanonical", recurses := true, apart := false, narrowed := true }
def IntegerCanonicalUptoSaid : Prop := integerCanonicalUptoRow.holds Try.pinned (OpenSpec.upto integerCanonicalSpec)

/-- 'eliminantlaw01.IntegerRing', WHERE WHAT IT READS IS OF BULK AT MOST 1048576: true; the input reads as it did. -/
def integerRingUptoRow : OpenClaim := { program := "ytjgmfdenicbniaa", sum := "3724f8163e028ad132a62a750bb93824b0566c9328888b8ed734eec5fa28bb26", func := "eliminant/eliminantlaw01.IntegerRing", spec := "integerRing", recurses := true, apart := false, narrowed := true }
def IntegerRingUptoSaid : Prop := integerRingUptoRow.holds Try.pinned (OpenSpec.upto integerRingSpec)

/-- 'eliminantlaw01.IntegerOrder', WHERE WHAT IT READS IS OF BULK AT MOST 1048576: true; the input reads as it did. -/
def integerOrderUptoRow : OpenClaim := { program := "ytjgmfdenicbniaa", sum := "3724f8163e028ad132a62a750bb93824b0566c9328888b8ed734eec5fa28bb26", func := "eliminant/eliminantlaw01.IntegerOrder", spec := "integerOrder", recurses := true, apart := false, narrowed := true }
def IntegerOrderUptoSaid : Prop := integerOrderUptoRow.holds Try.pinned (OpenSpec.upto integerOrderSpec)

/-- 'eliminantlaw01.IntegerDivides', WHERE WHAT IT READS IS OF BULK AT MOST 1048576: true; the input reads as it did. -/
def integerDividesUptoRow : OpenClaim := { program := "ytjgmfdenicbniaa", sum := "3724f8163e028ad132a62a750bb93824b0566c9328888b8ed734eec5fa28bb26", func := "eliminant/eliminantlaw01.IntegerDivides", spec := "integerDivides", recurses := true, apart := false, narrowed := true }
def IntegerDividesUptoSaid : Prop := integerDividesUptoRow.holds Try.pinned (OpenSpec.upto integerDividesSpec)

/-- 'eliminantlaw01.IntegerPowers', WHERE WHAT IT READS IS OF BULK AT MOST 1048576: true; the input reads as it did. -/
def integerPowersUptoRow : OpenClaim := { program := "ytjgmfdenicbniaa", sum := "3724f8163e028ad132a62a750bb93824b0566c9328888b8ed734eec5fa28bb26", func := "eliminant/eliminantlaw01.IntegerPowers", spec := "integerPowers", recurses := true, apart := false, narrowed := true }
def IntegerPowersUptoSaid : Prop := integerPowersUptoRow.holds Try.pinned (OpenSpec.upto integerPowersSpec)

/-- 'eliminantlaw01.IntegerTexts', WHERE WHAT IT READS IS OF BULK AT MOST 1048576: true; the input reads as it did. -/
def integerTextsUptoRow : OpenClaim := { program := "ytjgmfdenicbniaa", sum := "3724f8163e028ad132a62a750bb93824b0566c9328888b8ed734eec5fa28bb26", func := "eliminant/eliminantlaw01.IntegerTexts", spec := "integerTexts", recurses := true, apart := false, narrowed := true }
def IntegerTextsUptoSaid : Prop := integerTextsUptoRow.holds Try.pinned (OpenSpec.upto integerTextsSpec)

/-- 'eliminantlaw01.IntegerParses', WHERE WHAT IT READS IS OF BULK AT MOST 1048576: true; the input reads as it did. -/
def integerParsesUptoRow : OpenClaim := { program := "ytjgmfdenicbniaa", sum := "3724f8163e028ad132a62a750bb93824b0566c9328888b8ed734eec5fa28bb26", func := "eliminant/eliminantlaw01.IntegerParses", spec := "integerParses", recurses := true, apart := false, narrowed := true }
def IntegerParsesUptoSaid : Prop := integerParsesUptoRow.holds Try.pinned (OpenSpec.upto integerParsesSpec)

/-- 'eliminantlaw01.IntegerSmall', WHERE WHAT IT READS IS OF BULK AT MOST 1048576: true; the input reads as it did. -/
def integerSmallUptoRow : OpenClaim := { program := "ytjgmfdenicbniaa", sum := "3724f8163e028ad132a62a750bb93824b0566c9328888b8ed734eec5fa28bb26", func := "eliminant/eliminantlaw01.IntegerSmall", spec := "integerSmall", recurses := true, apart := false, narrowed := true }
def IntegerSmallUptoSaid : Prop := integerSmallUptoRow.holds Try.pinned (OpenSpec.upto integerSmallSpec)

/-- 'eliminantlaw01.IntegerMatchesReference', WHERE WHAT IT READS IS OF BULK AT MOST 1048576: true; the input reads as it did. -/
def integerMatchesReferenceUptoRow : OpenClaim := { program := "ytjgmfdenicbniaa", sum := "3724f8163e028ad132a62a750bb93824b0566c9328888b8ed734eec5fa28bb26", func := "eliminant/eliminantlaw01.IntegerMatchesReference", spec := "integerMatchesReference", recurses := true, apart := false, narrowed := true }
def IntegerMatchesReferenceUptoSaid : Prop := integerMatchesReferenceUptoRow.holds Try.pinned (OpenSpec.upto integerMatchesReferenceSpec)

/-- 'eliminantlaw01.IntegerDivisors', WHERE WHAT IT READS IS OF BULK AT MOST 1048576: true; the input reads as it did. -/
def integerDivisorsUptoRow : OpenClaim := { program := "ytjgmfdenicbniaa", sum := "3724f8163e028ad132a62a750bb93824b0566c9328888b8ed734eec5fa28bb26", func := "eliminant/eliminantlaw01.IntegerDivisors", spec := "integerDivisors", recurses := true, apart := false, narrowed := true }
def IntegerDivisorsUptoSaid : Prop := integerDivisorsUptoRow.holds Try.pinned (OpenSpec.upto integerDivisorsSpec)

end Rows
end Go.Proofs.Ytjgmfdenicbniaa
