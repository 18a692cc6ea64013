/-
  DERIVED. GIVEN WITH THE SEED: THE CARDS: each row of YtconnibnpckadaaGreatDoorRows.lean that lists a variable, with what it lists TIED to the program's text (the seventh form; the later family's looks); each row that meets fmt, with fmt's text TOLD by the authors' own Lean function (tested against real Go, not proved from fmt's source: count such statements apart). THE CARD IS WHAT COUNTS. Prove the row's statement (the work); the ties are given (YtconnibnpckadaaGreatDoorTie.lean); close each card by the builder's one call (the guide's Derived/Test/ToyasCard.lean, 'card_holds'). Laid BY PROGRAM, IN A SANDBOX (cutbox-door.mjs). By AI agents, Wed Nov 11 2026. No macro, syntax, notation, axiom, sorry.
-/
import Derived.Test.YtconnibnpckadaaGreatDoorRows
import GoSem.ClaimSeven
namespace Go.Proofs.YtconnibnpckadaaGreatDoor
namespace Rows

/-- THE TIED CARD OF 'chancerylaw8.FilterBack'. -/
def filterBackCard : Claim7 := { stood := { row := filterBackRow, standIns := [], harness := (true, "054b07220c066145b90cd33163b47b9431430f73cc0578f4e68956d2d0568018"), looks := true }, kinds := [], alts := [], laidByText := true, laidKinds := [.data, .pinned], laidTests := true, laidLooks := .later }
def FilterBackCardSaid : Prop := Claim7.holds Tryz.pinned (.plain (OpenSpec.ofChange filterBackSpec)) filterBackCard

/-- THE TIED CARD OF 'chancerylaw8.FilterSpelt'. -/
def filterSpeltCard : Claim7 := { stood := { row := filterSpeltRow, standIns := [], harness := (true, "054b07220c066145b90cd33163b47b9431430f73cc0578f4e68956d2d0568018"), looks := true }, kinds := [], alts := [], laidByText := true, laidKinds := [.data, .pinned], laidTests := true, laidLooks := .later }
def FilterSpeltCardSaid : Prop := Claim7.holds Tryz.pinned (.plain (OpenSpec.ofChange filterSpeltSpec)) filterSpeltCard

/-- THE SECOND FORM's CARD OF 'chancerylaw8.FilterBack'. -/
def filterBackUptoCard : Claim7 := { stood := { row := filterBackUptoRow, standIns := [], harness := (true, "054b07220c066145b90cd33163b47b9431430f73cc0578f4e68956d2d0568018"), looks := true }, kinds := [], alts := [], laidByText := true, laidKinds := [.data, .pinned], laidTests := true, laidLooks := .later }
def FilterBackUptoCardSaid : Prop := Claim7.holds Tryz.pinned (.plain (OpenSpec.upto filterBackSpec)) filterBackUptoCard

/-- THE SECOND FORM's CARD OF 'chancerylaw8.FilterSpelt'. -/
def filterSpeltUptoCard : Claim7 := { stood := { row := filterSpeltUptoRow, standIns := [], harness := (true, "054b07220c066145b90cd33163b47b9431430f73cc0578f4e68956d2d0568018"), looks := true }, kinds := [], alts := [], laidByText := true, laidKinds := [.data, .pinned], laidTests := true, laidLooks := .later }
def FilterSpeltUptoCardSaid : Prop := Claim7.holds Tryz.pinned (.plain (OpenSpec.upto filterSpeltSpec)) filterSpeltUptoCard
end Rows
end Go.Proofs.YtconnibnpckadaaGreatDoor
