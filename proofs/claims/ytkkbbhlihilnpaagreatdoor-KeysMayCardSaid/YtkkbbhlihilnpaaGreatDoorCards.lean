/-
  DERIVED. GIVEN WITH THE SEED: THE CARDS: each row of YtkkbbhlihilnpaaGreatDoorRows.lean that lists a variable, with what it lists TIED to the program's text (the seventh form; the later family's looks); each row that meets fmt, with fmt's text TOLD by the authors' own Lean function (tested against real Go, not proved from fmt's source: count such statements apart). THE CARD IS WHAT COUNTS. Prove the row's statement (the work); the ties are given (YtkkbbhlihilnpaaGreatDoorTie.lean); close each card by the builder's one call (the guide's Derived/Test/ToyasCard.lean, 'card_holds'). Laid BY PROGRAM, IN A SANDBOX (cutbox-door.mjs). By AI agents, Wed Nov 11 2026. No macro, syntax, notation, axiom, sorry.
-/
import Derived.Test.YtkkbbhlihilnpaaGreatDoorRows
import GoSem.ClaimSeven
namespace Go.Proofs.YtkkbbhlihilnpaaGreatDoor
namespace Rows

/-- THE TIED CARD OF 'chancerylaw14.KeysMay'. -/
def keysMayCard : Claim7 := { stood := { row := keysMayRow, standIns := [], harness := (true, "7ab2fcbd210791438ad000f7eea00ddde5c930d8a500201948c011c4fe548cb9"), looks := true }, kinds := [], alts := [], laidByText := true, laidKinds := [.data, .pinned], laidTests := true, laidLooks := .later }
def KeysMayCardSaid : Prop := Claim7.holds Tryz.pinned (.plain (OpenSpec.ofChange keysMaySpec)) keysMayCard

/-- THE TIED CARD OF 'chancerylaw7.EntryRight'. -/
def entryRightCard : Claim7 := { stood := { row := entryRightRow, standIns := [], harness := (true, "7ab2fcbd210791438ad000f7eea00ddde5c930d8a500201948c011c4fe548cb9"), looks := true }, kinds := [], alts := [], laidByText := true, laidKinds := [.data, .pinned], laidTests := true, laidLooks := .later }
def EntryRightCardSaid : Prop := Claim7.holds Tryz.pinned (.plain (OpenSpec.ofChange entryRightSpec)) entryRightCard

/-- THE TIED CARD OF 'chancerylaw7.EntryStill'. -/
def entryStillCard : Claim7 := { stood := { row := entryStillRow, standIns := [], harness := (true, "7ab2fcbd210791438ad000f7eea00ddde5c930d8a500201948c011c4fe548cb9"), looks := true }, kinds := [], alts := [], laidByText := true, laidKinds := [.data, .pinned], laidTests := true, laidLooks := .later }
def EntryStillCardSaid : Prop := Claim7.holds Tryz.pinned (.plain (OpenSpec.ofChange entryStillSpec)) entryStillCard

/-- THE TIED CARD OF 'chancerylaw7.EntryPasses'. -/
def entryPassesCard : Claim7 := { stood := { row := entryPassesRow, standIns := [], harness := (true, "7ab2fcbd210791438ad000f7eea00ddde5c930d8a500201948c011c4fe548cb9"), looks := true }, kinds := [], alts := [], laidByText := true, laidKinds := [.data, .pinned], laidTests := true, laidLooks := .later }
def EntryPassesCardSaid : Prop := Claim7.holds Tryz.pinned (.plain (OpenSpec.ofChange entryPassesSpec)) entryPassesCard

/-- THE TIED CARD OF 'chancerylaw7.EntryPermits'. -/
def entryPermitsCard : Claim7 := { stood := { row := entryPermitsRow, standIns := [], harness := (true, "7ab2fcbd210791438ad000f7eea00ddde5c930d8a500201948c011c4fe548cb9"), looks := true }, kinds := [], alts := [], laidByText := true, laidKinds := [.data, .pinned], laidTests := true, laidLooks := .later }
def EntryPermitsCardSaid : Prop := Claim7.holds Tryz.pinned (.plain (OpenSpec.ofChange entryPermitsSpec)) entryPermitsCard

/-- THE SECOND FORM's CARD OF 'chancerylaw14.KeysMay'. -/
def keysMayUptoCard : Claim7 := { stood := { row := keysMayUptoRow, standIns := [], harness := (true, "7ab2fcbd210791438ad000f7eea00ddde5c930d8a500201948c011c4fe548cb9"), looks := true }, kinds := [], alts := [], laidByText := true, laidKinds := [.data, .pinned], laidTests := true, laidLooks := .later }
def KeysMayUptoCardSaid : Prop := Claim7.holds Tryz.pinned (.plain (OpenSpec.upto keysMaySpec)) keysMayUptoCard

/-- THE SECOND FORM's CARD OF 'chancerylaw7.EntryRight'. -/
def entryRightUptoCard : Claim7 := { stood := { row := entryRightUptoRow, standIns := [], harness := (true, "7ab2fcbd210791438ad000f7eea00ddde5c930d8a500201948c011c4fe548cb9"), looks := true }, kinds := [], alts := [], laidByText := true, laidKinds := [.data, .pinned], laidTests := true, laidLooks := .later }
def EntryRightUptoCardSaid : Prop := Claim7.holds Tryz.pinned (.plain (OpenSpec.upto entryRightSpec)) entryRightUptoCard

/-- THE SECOND FORM's CARD OF 'chancerylaw7.EntryStill'. -/
def entryStillUptoCard : Claim7 := { stood := { row := entryStillUptoRow, standIns := [], harness := (true, "7ab2fcbd210791438ad000f7eea00ddde5c930d8a500201948c011c4fe548cb9"), looks := true }, kinds := [], alts := [], laidByText := true, laidKinds := [.data, .pinned], laidTests := true, laidLooks := .later }
def EntryStillUptoCardSaid : Prop := Claim7.holds Tryz.pinned (.plain (OpenSpec.upto entryStillSpec)) entryStillUptoCard

/-- THE SECOND FORM's CARD OF 'chancerylaw7.EntryPasses'. -/
def entryPassesUptoCard : Claim7 := { stood := { row := entryPassesUptoRow, standIns := [], harness := (true, "7ab2fcbd210791438ad000f7eea00ddde5c930d8a500201948c011c4fe548cb9"), looks := true }, kinds := [], alts := [], laidByText := true, laidKinds := [.data, .pinned], laidTests := true, laidLooks := .later }
def EntryPassesUptoCardSaid : Prop := Claim7.holds Tryz.pinned (.plain (OpenSpec.upto entryPassesSpec)) entryPassesUptoCard

/-- THE SECOND FORM's CARD OF 'chancerylaw7.EntryPermits'. -/
def entryPermitsUptoCard : Claim7 := { stood := { row := entryPermitsUptoRow, standIns := [], harness := (true, "7ab2fcbd210791438ad000f7eea00ddde5c930d8a500201948c011c4fe548cb9"), looks := true }, kinds := [], alts := [], laidByText := true, laidKinds := [.data, .pinned], laidTests := true, laidLooks := .later }
def EntryPermitsUptoCardSaid : Prop := Claim7.holds Tryz.pinned (.plain (OpenSpec.upto entryPermitsSpec)) entryPermitsUptoCard
end Rows
end Go.Proofs.YtkkbbhlihilnpaaGreatDoor
