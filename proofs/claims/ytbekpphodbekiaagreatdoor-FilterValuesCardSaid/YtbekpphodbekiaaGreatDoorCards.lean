/-
  DERIVED. GIVEN WITH THE SEED: THE CARDS: each row of YtbekpphodbekiaaGreatDoorRows.lean that lists a variable, with what it lists TIED to the program's text (the seventh form; the later family's looks); each row that meets fmt, with fmt's text TOLD by the authors' own Lean function (tested against real Go, not proved from fmt's source: count such statements apart). THE CARD IS WHAT COUNTS. Prove the row's statement (the work); the ties are given (YtbekpphodbekiaaGreatDoorTie.lean); close each card by the builder's one call (the guide's Derived/Test/ToyasCard.lean, 'card_holds'). Laid BY PROGRAM, IN A SANDBOX (cutbox-door.mjs). By AI agents, Wed Nov 11 2026. No macro, syntax, notation, axiom, sorry.
-/
import Derived.Test.YtbekpphodbekiaaGreatDoorRows
import GoSem.ClaimSeven
namespace Go.Proofs.YtbekpphodbekiaaGreatDoor
namespace Rows

/-- THE TIED CARD OF 'chancerylaw8.FilterLogic'. -/
def filterLogicCard : Claim7 := { stood := { row := filterLogicRow, standIns := [], harness := (true, "8895e48f18c2032b84db34ffd38cb7447cb38ab2783114d49f68efdca9670250"), looks := true }, kinds := [], alts := [], laidByText := true, laidKinds := [.data, .pinned], laidTests := true, laidLooks := .later }
def FilterLogicCardSaid : Prop := Claim7.holds Tryz.pinned (.plain (OpenSpec.ofChange filterLogicSpec)) filterLogicCard

/-- THE TIED CARD OF 'chancerylaw8.FilterValues'. -/
def filterValuesCard : Claim7 := { stood := { row := filterValuesRow, standIns := [], harness := (true, "8895e48f18c2032b84db34ffd38cb7447cb38ab2783114d49f68efdca9670250"), looks := true }, kinds := [], alts := [], laidByText := true, laidKinds := [.data, .pinned], laidTests := true, laidLooks := .later }
def FilterValuesCardSaid : Prop := Claim7.holds Tryz.pinned (.plain (OpenSpec.ofChange filterValuesSpec)) filterValuesCard

/-- THE SECOND FORM's CARD OF 'chancerylaw8.FilterLogic'. -/
def filterLogicUptoCard : Claim7 := { stood := { row := filterLogicUptoRow, standIns := [], harness := (true, "8895e48f18c2032b84db34ffd38cb7447cb38ab2783114d49f68efdca9670250"), looks := true }, kinds := [], alts := [], laidByText := true, laidKinds := [.data, .pinned], laidTests := true, laidLooks := .later }
def FilterLogicUptoCardSaid : Prop := Claim7.holds Tryz.pinned (.plain (OpenSpec.upto filterLogicSpec)) filterLogicUptoCard

/-- THE SECOND FORM's CARD OF 'chancerylaw8.FilterValues'. -/
def filterValuesUptoCard : Claim7 := { stood := { row := filterValuesUptoRow, standIns := [], harness := (true, "8895e48f18c2032b84db34ffd38cb7447cb38ab2783114d49f68efdca9670250"), looks := true }, kinds := [], alts := [], laidByText := true, laidKinds := [.data, .pinned], laidTests := true, laidLooks := .later }
def FilterValuesUptoCardSaid : Prop := Claim7.holds Tryz.pinned (.plain (OpenSpec.upto filterValuesSpec)) filterValuesUptoCard
end Rows
end Go.Proofs.YtbekpphodbekiaaGreatDoor
