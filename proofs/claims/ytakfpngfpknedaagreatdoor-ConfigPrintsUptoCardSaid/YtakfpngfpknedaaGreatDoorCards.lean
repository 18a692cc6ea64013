/-
  DERIVED. GIVEN WITH THE SEED: THE CARDS: each row of YtakfpngfpknedaaGreatDoorRows.lean that lists a variable, with what it lists TIED to the program's text (the seventh form; the later family's looks); each row that meets fmt, with fmt's text TOLD by the authors' own Lean function (tested against real Go, not proved from fmt's source: count such statements apart). THE CARD IS WHAT COUNTS. Prove the row's statement (the work); the ties are given (YtakfpngfpknedaaGreatDoorTie.lean); close each card by the builder's one call (the guide's Derived/Test/ToyasCard.lean, 'card_holds'). Laid BY PROGRAM, IN A SANDBOX (cutbox-door.mjs). By AI agents, Wed Nov 11 2026. No macro, syntax, notation, axiom, sorry.
-/
import Derived.Test.YtakfpngfpknedaaGreatDoorRows
import GoSem.ClaimSeven
namespace Go.Proofs.YtakfpngfpknedaaGreatDoor
namespace Rows

/-- THE TIED CARD OF 'chancerylaw19.ConfigOnce'. -/
def configOnceCard : Claim7 := { stood := { row := configOnceRow, standIns := [], harness := (true, "643fe5cd6c8494d43c4127874d7f5e6f0610cb5d57579b2943964b84b44f812e"), looks := true }, kinds := [], alts := [], laidByText := true, laidKinds := [.data, .data, .data, .data, .sentinel, .sentinel, .pinned], laidTests := true, laidLooks := .later }
def ConfigOnceCardSaid : Prop := Claim7.holds Tryz.pinned (.plain (OpenSpec.ofChange configOnceSpec)) configOnceCard

/-- THE TIED CARD OF 'chancerylaw19.ConfigNone'. -/
def configNoneCard : Claim7 := { stood := { row := configNoneRow, standIns := [], harness := (true, "643fe5cd6c8494d43c4127874d7f5e6f0610cb5d57579b2943964b84b44f812e"), looks := true }, kinds := [], alts := [], laidByText := true, laidKinds := [.data, .data, .data, .data, .sentinel, .sentinel, .pinned], laidTests := true, laidLooks := .later }
def ConfigNoneCardSaid : Prop := Claim7.holds Tryz.pinned (.plain (OpenSpec.ofChange configNoneSpec)) configNoneCard

/-- THE TIED CARD OF 'chancerylaw19.ConfigPrints'. -/
def configPrintsCard : Claim7 := { stood := { row := configPrintsRow, standIns := [], harness := (true, "643fe5cd6c8494d43c4127874d7f5e6f0610cb5d57579b2943964b84b44f812e"), looks := true }, kinds := [], alts := [], laidByText := true, laidKinds := [.data, .data, .data, .data, .sentinel, .sentinel, .pinned], laidTests := true, laidLooks := .later }
def ConfigPrintsCardSaid : Prop := Claim7.holds Tryz.pinned (.plain (OpenSpec.ofChange configPrintsSpec)) configPrintsCard

/-- THE TIED CARD OF 'chancerylaw19.ConfigBack'. -/
def configBackCard : Claim7 := { stood := { row := configBackRow, standIns := [], harness := (true, "643fe5cd6c8494d43c4127874d7f5e6f0610cb5d57579b2943964b84b44f812e"), looks := true }, kinds := [], alts := [], laidByText := true, laidKinds := [.data, .data, .data, .data, .sentinel, .sentinel, .pinned], laidTests := true, laidLooks := .later }
def ConfigBackCardSaid : Prop := Claim7.holds Tryz.pinned (.plain (OpenSpec.ofChange configBackSpec)) configBackCard

/-- THE SECOND FORM's CARD OF 'chancerylaw19.ConfigOnce'. -/
def configOnceUptoCard : Claim7 := { stood := { row := configOnceUptoRow, standIns := [], harness := (true, "643fe5cd6c8494d43c4127874d7f5e6f0610cb5d57579b2943964b84b44f812e"), looks := true }, kinds := [], alts := [], laidByText := true, laidKinds := [.data, .data, .data, .data, .sentinel, .sentinel, .pinned], laidTests := true, laidLooks := .later }
def ConfigOnceUptoCardSaid : Prop := Claim7.holds Tryz.pinned (.plain (OpenSpec.upto configOnceSpec)) configOnceUptoCard

/-- THE SECOND FORM's CARD OF 'chancerylaw19.ConfigNone'. -/
def configNoneUptoCard : Claim7 := { stood := { row := configNoneUptoRow, standIns := [], harness := (true, "643fe5cd6c8494d43c4127874d7f5e6f0610cb5d57579b2943964b84b44f812e"), looks := true }, kinds := [], alts := [], laidByText := true, laidKinds := [.data, .data, .data, .data, .sentinel, .sentinel, .pinned], laidTests := true, laidLooks := .later }
def ConfigNoneUptoCardSaid : Prop := Claim7.holds Tryz.pinned (.plain (OpenSpec.upto configNoneSpec)) configNoneUptoCard

/-- THE SECOND FORM's CARD OF 'chancerylaw19.ConfigPrints'. -/
def configPrintsUptoCard : Claim7 := { stood := { row := configPrintsUptoRow, standIns := [], harness := (true, "643fe5cd6c8494d43c4127874d7f5e6f0610cb5d57579b2943964b84b44f812e"), looks := true }, kinds := [], alts := [], laidByText := true, laidKinds := [.data, .data, .data, .data, .sentinel, .sentinel, .pinned], laidTests := true, laidLooks := .later }
def ConfigPrintsUptoCardSaid : Prop := Claim7.holds Tryz.pinned (.plain (OpenSpec.upto configPrintsSpec)) configPrintsUptoCard

/-- THE SECOND FORM's CARD OF 'chancerylaw19.ConfigBack'. -/
def configBackUptoCard : Claim7 := { stood := { row := configBackUptoRow, standIns := [], harness := (true, "643fe5cd6c8494d43c4127874d7f5e6f0610cb5d57579b2943964b84b44f812e"), looks := true }, kinds := [], alts := [], laidByText := true, laidKinds := [.data, .data, .data, .data, .sentinel, .sentinel, .pinned], laidTests := true, laidLooks := .later }
def ConfigBackUptoCardSaid : Prop := Claim7.holds Tryz.pinned (.plain (OpenSpec.upto configBackSpec)) configBackUptoCard
end Rows
end Go.Proofs.YtakfpngfpknedaaGreatDoor
