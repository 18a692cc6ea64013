/-
  DERIVED. GIVEN WITH THE SEED: THE CARDS: each row of YtbjmpmgiigombaaGreatDoorRows.lean that lists a variable, with what it lists TIED to the program's text (the seventh form; the later family's looks); each row that meets fmt, with fmt's text TOLD by the authors' own Lean function (tested against real Go, not proved from fmt's source: count such statements apart). THE CARD IS WHAT COUNTS. Prove the row's statement (the work); the ties are given (YtbjmpmgiigombaaGreatDoorTie.lean); close each card by the builder's one call (the guide's Derived/Test/ToyasCard.lean, 'card_holds'). Laid BY PROGRAM, IN A SANDBOX (cutbox-door.mjs). By AI agents, Wed Nov 11 2026. No macro, syntax, notation, axiom, sorry.
-/
import Derived.Test.YtbjmpmgiigombaaGreatDoorRows
import GoSem.ClaimSeven
namespace Go.Proofs.YtbjmpmgiigombaaGreatDoor
namespace Rows

/-- THE TIED CARD OF 'chancerylaw16.AclParses'. -/
def aclParsesCard : Claim7 := { stood := { row := aclParsesRow, standIns := [], harness := (true, "b55b099b78cac45d7d9cd22ff01e83ff96147c8d4ada4d4eca8d00ac9842ab90"), looks := true }, kinds := [], alts := [], laidByText := true, laidKinds := [.data, .pinned], laidTests := true, laidLooks := .later }
def AclParsesCardSaid : Prop := Claim7.holds Tryz.pinned (.plain (OpenSpec.ofChange aclParsesSpec)) aclParsesCard

/-- THE TIED CARD OF 'chancerylaw16.AclBack'. -/
def aclBackCard : Claim7 := { stood := { row := aclBackRow, standIns := [], harness := (true, "b55b099b78cac45d7d9cd22ff01e83ff96147c8d4ada4d4eca8d00ac9842ab90"), looks := true }, kinds := [], alts := [], laidByText := true, laidKinds := [.data, .pinned], laidTests := true, laidLooks := .later }
def AclBackCardSaid : Prop := Claim7.holds Tryz.pinned (.plain (OpenSpec.ofChange aclBackSpec)) aclBackCard

/-- THE TIED CARD OF 'chancerylaw16.AclFirst'. -/
def aclFirstCard : Claim7 := { stood := { row := aclFirstRow, standIns := [], harness := (true, "b55b099b78cac45d7d9cd22ff01e83ff96147c8d4ada4d4eca8d00ac9842ab90"), looks := true }, kinds := [], alts := [], laidByText := true, laidKinds := [.data, .pinned], laidTests := true, laidLooks := .later }
def AclFirstCardSaid : Prop := Claim7.holds Tryz.pinned (.plain (OpenSpec.ofChange aclFirstSpec)) aclFirstCard

/-- THE SECOND FORM's CARD OF 'chancerylaw16.AclParses'. -/
def aclParsesUptoCard : Claim7 := { stood := { row := aclParsesUptoRow, standIns := [], harness := (true, "b55b099b78cac45d7d9cd22ff01e83ff96147c8d4ada4d4eca8d00ac9842ab90"), looks := true }, kinds := [], alts := [], laidByText := true, laidKinds := [.data, .pinned], laidTests := true, laidLooks := .later }
def AclParsesUptoCardSaid : Prop := Claim7.holds Tryz.pinned (.plain (OpenSpec.upto aclParsesSpec)) aclParsesUptoCard

/-- THE SECOND FORM's CARD OF 'chancerylaw16.AclBack'. -/
def aclBackUptoCard : Claim7 := { stood := { row := aclBackUptoRow, standIns := [], harness := (true, "b55b099b78cac45d7d9cd22ff01e83ff96147c8d4ada4d4eca8d00ac9842ab90"), looks := true }, kinds := [], alts := [], laidByText := true, laidKinds := [.data, .pinned], laidTests := true, laidLooks := .later }
def AclBackUptoCardSaid : Prop := Claim7.holds Tryz.pinned (.plain (OpenSpec.upto aclBackSpec)) aclBackUptoCard

/-- THE SECOND FORM's CARD OF 'chancerylaw16.AclFirst'. -/
def aclFirstUptoCard : Claim7 := { stood := { row := aclFirstUptoRow, standIns := [], harness := (true, "b55b099b78cac45d7d9cd22ff01e83ff96147c8d4ada4d4eca8d00ac9842ab90"), looks := true }, kinds := [], alts := [], laidByText := true, laidKinds := [.data, .pinned], laidTests := true, laidLooks := .later }
def AclFirstUptoCardSaid : Prop := Claim7.holds Tryz.pinned (.plain (OpenSpec.upto aclFirstSpec)) aclFirstUptoCard
end Rows
end Go.Proofs.YtbjmpmgiigombaaGreatDoor
