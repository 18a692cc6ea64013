/-
  DERIVED. GIVEN WITH THE SEED: THE CARDS: each row of YtcjobpcbppcdnaaGreatDoorRows.lean that lists a variable, with what it lists TIED to the program's text (the seventh form; the later family's looks); each row that meets fmt, with fmt's text TOLD by the authors' own Lean function (tested against real Go, not proved from fmt's source: count such statements apart). THE CARD IS WHAT COUNTS. Prove the row's statement (the work); the ties are given (YtcjobpcbppcdnaaGreatDoorTie.lean); close each card by the builder's one call (the guide's Derived/Test/ToyasCard.lean, 'card_holds'). Laid BY PROGRAM, IN A SANDBOX (cutbox-door.mjs). By AI agents, Wed Nov 11 2026. No macro, syntax, notation, axiom, sorry.
-/
import Derived.Test.YtcjobpcbppcdnaaGreatDoorRows
import GoSem.ClaimSeven
namespace Go.Proofs.YtcjobpcbppcdnaaGreatDoor
namespace Rows

/-- THE TIED CARD OF 'chancerylaw6.SchemaDouble'. -/
def schemaDoubleCard : Claim7 := { stood := { row := schemaDoubleRow, standIns := [], harness := (true, "fb1b26c91800fe31c2805a08f4eedc556427ab2677864848697c823a0f79338a"), looks := true }, kinds := [], alts := [], laidByText := true, laidKinds := [.data, .pinned], laidTests := true, laidLooks := .later }
def SchemaDoubleCardSaid : Prop := Claim7.holds Tryz.pinned (.plain (OpenSpec.ofChange schemaDoubleSpec)) schemaDoubleCard

/-- THE TIED CARD OF 'chancerylaw6.SchemaOrder'. -/
def schemaOrderCard : Claim7 := { stood := { row := schemaOrderRow, standIns := [], harness := (true, "fb1b26c91800fe31c2805a08f4eedc556427ab2677864848697c823a0f79338a"), looks := true }, kinds := [], alts := [], laidByText := true, laidKinds := [.data, .pinned], laidTests := true, laidLooks := .later }
def SchemaOrderCardSaid : Prop := Claim7.holds Tryz.pinned (.plain (OpenSpec.ofChange schemaOrderSpec)) schemaOrderCard

/-- THE TIED CARD OF 'chancerylaw6.SchemaKeyed'. -/
def schemaKeyedCard : Claim7 := { stood := { row := schemaKeyedRow, standIns := [], harness := (true, "fb1b26c91800fe31c2805a08f4eedc556427ab2677864848697c823a0f79338a"), looks := true }, kinds := [], alts := [], laidByText := true, laidKinds := [.data, .pinned], laidTests := true, laidLooks := .later }
def SchemaKeyedCardSaid : Prop := Claim7.holds Tryz.pinned (.plain (OpenSpec.ofChange schemaKeyedSpec)) schemaKeyedCard

/-- THE TIED CARD OF 'chancerylaw6.SchemaClasses'. -/
def schemaClassesCard : Claim7 := { stood := { row := schemaClassesRow, standIns := [], harness := (true, "fb1b26c91800fe31c2805a08f4eedc556427ab2677864848697c823a0f79338a"), looks := true }, kinds := [], alts := [], laidByText := true, laidKinds := [.data, .pinned], laidTests := true, laidLooks := .later }
def SchemaClassesCardSaid : Prop := Claim7.holds Tryz.pinned (.plain (OpenSpec.ofChange schemaClassesSpec)) schemaClassesCard

/-- THE SECOND FORM's CARD OF 'chancerylaw6.SchemaDouble'. -/
def schemaDoubleUptoCard : Claim7 := { stood := { row := schemaDoubleUptoRow, standIns := [], harness := (true, "fb1b26c91800fe31c2805a08f4eedc556427ab2677864848697c823a0f79338a"), looks := true }, kinds := [], alts := [], laidByText := true, laidKinds := [.data, .pinned], laidTests := true, laidLooks := .later }
def SchemaDoubleUptoCardSaid : Prop := Claim7.holds Tryz.pinned (.plain (OpenSpec.upto schemaDoubleSpec)) schemaDoubleUptoCard

/-- THE SECOND FORM's CARD OF 'chancerylaw6.SchemaOrder'. -/
def schemaOrderUptoCard : Claim7 := { stood := { row := schemaOrderUptoRow, standIns := [], harness := (true, "fb1b26c91800fe31c2805a08f4eedc556427ab2677864848697c823a0f79338a"), looks := true }, kinds := [], alts := [], laidByText := true, laidKinds := [.data, .pinned], laidTests := true, laidLooks := .later }
def SchemaOrderUptoCardSaid : Prop := Claim7.holds Tryz.pinned (.plain (OpenSpec.upto schemaOrderSpec)) schemaOrderUptoCard

/-- THE SECOND FORM's CARD OF 'chancerylaw6.SchemaKeyed'. -/
def schemaKeyedUptoCard : Claim7 := { stood := { row := schemaKeyedUptoRow, standIns := [], harness := (true, "fb1b26c91800fe31c2805a08f4eedc556427ab2677864848697c823a0f79338a"), looks := true }, kinds := [], alts := [], laidByText := true, laidKinds := [.data, .pinned], laidTests := true, laidLooks := .later }
def SchemaKeyedUptoCardSaid : Prop := Claim7.holds Tryz.pinned (.plain (OpenSpec.upto schemaKeyedSpec)) schemaKeyedUptoCard

/-- THE SECOND FORM's CARD OF 'chancerylaw6.SchemaClasses'. -/
def schemaClassesUptoCard : Claim7 := { stood := { row := schemaClassesUptoRow, standIns := [], harness := (true, "fb1b26c91800fe31c2805a08f4eedc556427ab2677864848697c823a0f79338a"), looks := true }, kinds := [], alts := [], laidByText := true, laidKinds := [.data, .pinned], laidTests := true, laidLooks := .later }
def SchemaClassesUptoCardSaid : Prop := Claim7.holds Tryz.pinned (.plain (OpenSpec.upto schemaClassesSpec)) schemaClassesUptoCard
end Rows
end Go.Proofs.YtcjobpcbppcdnaaGreatDoor
