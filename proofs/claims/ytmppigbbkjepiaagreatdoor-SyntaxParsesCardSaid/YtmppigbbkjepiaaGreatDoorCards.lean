/-
  DERIVED. GIVEN WITH THE SEED: THE CARDS: each row of YtmppigbbkjepiaaGreatDoorRows.lean that lists a variable, with what it lists TIED to the program's text (the seventh form; the later family's looks); each row that meets fmt, with fmt's text TOLD by the authors' own Lean function (tested against real Go, not proved from fmt's source: count such statements apart). THE CARD IS WHAT COUNTS. Prove the row's statement (the work); the ties are given (YtmppigbbkjepiaaGreatDoorTie.lean); close each card by the builder's one call (the guide's Derived/Test/ToyasCard.lean, 'card_holds'). Laid BY PROGRAM, IN A SANDBOX (cutbox-door.mjs). By AI agents, Wed Nov 11 2026. No macro, syntax, notation, axiom, sorry.
-/
import Derived.Test.YtmppigbbkjepiaaGreatDoorRows
import GoSem.ClaimSeven
namespace Go.Proofs.YtmppigbbkjepiaaGreatDoor
namespace Rows

/-- THE TIED CARD OF 'eliminantlaw44.SyntaxNames'. -/
def syntaxNamesCard : Claim7 := { stood := { row := syntaxNamesRow, standIns := [], harness := (true, "99dee31e5839c108cf38e8a7c8859696aa22ae3d57e4308fcb3e67dd7c1c3da8"), looks := false }, kinds := [], alts := [], laidByText := true, laidKinds := [.data, .data, .data, .data, .pinned], laidTests := true, laidLooks := .later }
def SyntaxNamesCardSaid : Prop := Claim7.holds Tryz.pinned (.plain (OpenSpec.ofChange syntaxNamesSpec)) syntaxNamesCard

/-- THE TIED CARD OF 'eliminantlaw44.SyntaxDamage'. -/
def syntaxDamageCard : Claim7 := { stood := { row := syntaxDamageRow, standIns := [], harness := (true, "99dee31e5839c108cf38e8a7c8859696aa22ae3d57e4308fcb3e67dd7c1c3da8"), looks := false }, kinds := [], alts := [], laidByText := true, laidKinds := [.data, .data, .data, .data, .pinned], laidTests := true, laidLooks := .later }
def SyntaxDamageCardSaid : Prop := Claim7.holds Tryz.pinned (.plain (OpenSpec.ofChange syntaxDamageSpec)) syntaxDamageCard

/-- THE TIED CARD OF 'eliminantlaw44.SyntaxMatchesReference'. -/
def syntaxMatchesReferenceCard : Claim7 := { stood := { row := syntaxMatchesReferenceRow, standIns := [], harness := (true, "99dee31e5839c108cf38e8a7c8859696aa22ae3d57e4308fcb3e67dd7c1c3da8"), looks := false }, kinds := [], alts := [], laidByText := true, laidKinds := [.data, .data, .data, .data, .pinned], laidTests := true, laidLooks := .later }
def SyntaxMatchesReferenceCardSaid : Prop := Claim7.holds Tryz.pinned (.plain (OpenSpec.ofChange syntaxMatchesReferenceSpec)) syntaxMatchesReferenceCard

/-- THE TIED CARD OF 'eliminantlaw44.SyntaxReads'. -/
def syntaxReadsCard : Claim7 := { stood := { row := syntaxReadsRow, standIns := [], harness := (true, "99dee31e5839c108cf38e8a7c8859696aa22ae3d57e4308fcb3e67dd7c1c3da8"), looks := false }, kinds := [], alts := [], laidByText := true, laidKinds := [.data, .data, .data, .data, .pinned], laidTests := true, laidLooks := .later }
def SyntaxReadsCardSaid : Prop := Claim7.holds Tryz.pinned (.plain (OpenSpec.ofChange syntaxReadsSpec)) syntaxReadsCard

/-- THE TIED CARD OF 'eliminantlaw44.SyntaxParses'. -/
def syntaxParsesCard : Claim7 := { stood := { row := syntaxParsesRow, standIns := [], harness := (true, "99dee31e5839c108cf38e8a7c8859696aa22ae3d57e4308fcb3e67dd7c1c3da8"), looks := false }, kinds := [], alts := [], laidByText := true, laidKinds := [.data, .data, .data, .data, .pinned], laidTests := true, laidLooks := .later }
def SyntaxParsesCardSaid : Prop := Claim7.holds Tryz.pinned (.plain (OpenSpec.ofChange syntaxParsesSpec)) syntaxParsesCard

/-- THE TIED CARD OF 'eliminantlaw44.SyntaxBack'. -/
def syntaxBackCard : Claim7 := { stood := { row := syntaxBackRow, standIns := [], harness := (true, "99dee31e5839c108cf38e8a7c8859696aa22ae3d57e4308fcb3e67dd7c1c3da8"), looks := false }, kinds := [], alts := [], laidByText := true, laidKinds := [.data, .data, .data, .data, .pinned], laidTests := true, laidLooks := .later }
def SyntaxBackCardSaid : Prop := Claim7.holds Tryz.pinned (.plain (OpenSpec.ofChange syntaxBackSpec)) syntaxBackCard

/-- THE TIED CARD OF 'eliminantlaw44.SyntaxCanonical'. -/
def syntaxCanonicalCard : Claim7 := { stood := { row := syntaxCanonicalRow, standIns := [], harness := (true, "99dee31e5839c108cf38e8a7c8859696aa22ae3d57e4308fcb3e67dd7c1c3da8"), looks := false }, kinds := [], alts := [], laidByText := true, laidKinds := [.data, .data, .data, .data, .pinned], laidTests := true, laidLooks := .later }
def SyntaxCanonicalCardSaid : Prop := Claim7.holds Tryz.pinned (.plain (OpenSpec.ofChange syntaxCanonicalSpec)) syntaxCanonicalCard

/-- THE SECOND FORM's CARD OF 'eliminantlaw44.SyntaxNames'. -/
def syntaxNamesUptoCard : Claim7 := { stood := { row := syntaxNamesUptoRow, standIns := [], harness := (true, "99dee31e5839c108cf38e8a7c8859696aa22ae3d57e4308fcb3e67dd7c1c3da8"), looks := false }, kinds := [], alts := [], laidByText := true, laidKinds := [.data, .data, .data, .data, .pinned], laidTests := true, laidLooks := .later }
def SyntaxNamesUptoCardSaid : Prop := Claim7.holds Tryz.pinned (.plain (OpenSpec.upto syntaxNamesSpec)) syntaxNamesUptoCard

/-- THE SECOND FORM's CARD OF 'eliminantlaw44.SyntaxDamage'. -/
def syntaxDamageUptoCard : Claim7 := { stood := { row := syntaxDamageUptoRow, standIns := [], harness := (true, "99dee31e5839c108cf38e8a7c8859696aa22ae3d57e4308fcb3e67dd7c1c3da8"), looks := false }, kinds := [], alts := [], laidByText := true, laidKinds := [.data, .data, .data, .data, .pinned], laidTests := true, laidLooks := .later }
def SyntaxDamageUptoCardSaid : Prop := Claim7.holds Tryz.pinned (.plain (OpenSpec.upto syntaxDamageSpec)) syntaxDamageUptoCard

/-- THE SECOND FORM's CARD OF 'eliminantlaw44.SyntaxMatchesReference'. -/
def syntaxMatchesReferenceUptoCard : Claim7 := { stood := { row := syntaxMatchesReferenceUptoRow, standIns := [], harness := (true, "99dee31e5839c108cf38e8a7c8859696aa22ae3d57e4308fcb3e67dd7c1c3da8"), looks := false }, kinds := [], alts := [], laidByText := true, laidKinds := [.data, .data, .data, .data, .pinned], laidTests := true, laidLooks := .later }
def SyntaxMatchesReferenceUptoCardSaid : Prop := Claim7.holds Tryz.pinned (.plain (OpenSpec.upto syntaxMatchesReferenceSpec)) syntaxMatchesReferenceUptoCard

/-- THE SECOND FORM's CARD OF 'eliminantlaw44.SyntaxReads'. -/
def syntaxReadsUptoCard : Claim7 := { stood := { row := syntaxReadsUptoRow, standIns := [], harness := (true, "99dee31e5839c108cf38e8a7c8859696aa22ae3d57e4308fcb3e67dd7c1c3da8"), looks := false }, kinds := [], alts := [], laidByText := true, laidKinds := [.data, .data, .data, .data, .pinned], laidTests := true, laidLooks := .later }
def SyntaxReadsUptoCardSaid : Prop := Claim7.holds Tryz.pinned (.plain (OpenSpec.upto syntaxReadsSpec)) syntaxReadsUptoCard

/-- THE SECOND FORM's CARD OF 'eliminantlaw44.SyntaxParses'. -/
def syntaxParsesUptoCard : Claim7 := { stood := { row := syntaxParsesUptoRow, standIns := [], harness := (true, "99dee31e5839c108cf38e8a7c8859696aa22ae3d57e4308fcb3e67dd7c1c3da8"), looks := false }, kinds := [], alts := [], laidByText := true, laidKinds := [.data, .data, .data, .data, .pinned], laidTests := true, laidLooks := .later }
def SyntaxParsesUptoCardSaid : Prop := Claim7.holds Tryz.pinned (.plain (OpenSpec.upto syntaxParsesSpec)) syntaxParsesUptoCard

/-- THE SECOND FORM's CARD OF 'eliminantlaw44.SyntaxBack'. -/
def syntaxBackUptoCard : Claim7 := { stood := { row := syntaxBackUptoRow, standIns := [], harness := (true, "99dee31e5839c108cf38e8a7c8859696aa22ae3d57e4308fcb3e67dd7c1c3da8"), looks := false }, kinds := [], alts := [], laidByText := true, laidKinds := [.data, .data, .data, .data, .pinned], laidTests := true, laidLooks := .later }
def SyntaxBackUptoCardSaid : Prop := Claim7.holds Tryz.pinned (.plain (OpenSpec.upto syntaxBackSpec)) syntaxBackUptoCard

/-- THE SECOND FORM's CARD OF 'eliminantlaw44.SyntaxCanonical'. -/
def syntaxCanonicalUptoCard : Claim7 := { stood := { row := syntaxCanonicalUptoRow, standIns := [], harness := (true, "99dee31e5839c108cf38e8a7c8859696aa22ae3d57e4308fcb3e67dd7c1c3da8"), looks := false }, kinds := [], alts := [], laidByText := true, laidKinds := [.data, .data, .data, .data, .pinned], laidTests := true, laidLooks := .later }
def SyntaxCanonicalUptoCardSaid : Prop := Claim7.holds Tryz.pinned (.plain (OpenSpec.upto syntaxCanonicalSpec)) syntaxCanonicalUptoCard
end Rows
end Go.Proofs.YtmppigbbkjepiaaGreatDoor
