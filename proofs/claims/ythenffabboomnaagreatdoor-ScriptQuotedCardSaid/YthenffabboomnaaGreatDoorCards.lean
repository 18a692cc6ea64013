/-
  DERIVED. GIVEN WITH THE SEED: THE CARDS: each row of YthenffabboomnaaGreatDoorRows.lean that lists a variable, with what it lists TIED to the program's text (the seventh form; the later family's looks); each row that meets fmt, with fmt's text TOLD by the authors' own Lean function (tested against real Go, not proved from fmt's source: count such statements apart). THE CARD IS WHAT COUNTS. Prove the row's statement (the work); the ties are given (YthenffabboomnaaGreatDoorTie.lean); close each card by the builder's one call (the guide's Derived/Test/ToyasCard.lean, 'card_holds'). Laid BY PROGRAM, IN A SANDBOX (cutbox-door.mjs). By AI agents, Wed Nov 11 2026. No macro, syntax, notation, axiom, sorry.
-/
import Derived.Test.YthenffabboomnaaGreatDoorRows
import GoSem.ClaimSeven
namespace Go.Proofs.YthenffabboomnaaGreatDoor
namespace Rows

/-- THE TIED CARD OF 'chancerylaw27.ScriptLines'. -/
def scriptLinesCard : Claim7 := { stood := { row := scriptLinesRow, standIns := [], harness := (true, "6a63cd9b76d3106fa4f46758daf063264acf1cc0e53c9b39bfe464f03448425c"), looks := true }, kinds := [], alts := [], laidByText := true, laidKinds := [.data, .data, .data, .data, .sentinel, .sentinel, .pinned], laidTests := true, laidLooks := .later }
def ScriptLinesCardSaid : Prop := Claim7.holds Tryz.pinned (.plain (OpenSpec.ofChange scriptLinesSpec)) scriptLinesCard

/-- THE TIED CARD OF 'chancerylaw27.ScriptQuoted'. -/
def scriptQuotedCard : Claim7 := { stood := { row := scriptQuotedRow, standIns := [], harness := (true, "6a63cd9b76d3106fa4f46758daf063264acf1cc0e53c9b39bfe464f03448425c"), looks := true }, kinds := [], alts := [], laidByText := true, laidKinds := [.data, .data, .data, .data, .sentinel, .sentinel, .pinned], laidTests := true, laidLooks := .later }
def ScriptQuotedCardSaid : Prop := Claim7.holds Tryz.pinned (.plain (OpenSpec.ofChange scriptQuotedSpec)) scriptQuotedCard

/-- THE TIED CARD OF 'chancerylaw27.ScriptBack'. -/
def scriptBackCard : Claim7 := { stood := { row := scriptBackRow, standIns := [], harness := (true, "6a63cd9b76d3106fa4f46758daf063264acf1cc0e53c9b39bfe464f03448425c"), looks := true }, kinds := [], alts := [], laidByText := true, laidKinds := [.data, .data, .data, .data, .sentinel, .sentinel, .pinned], laidTests := true, laidLooks := .later }
def ScriptBackCardSaid : Prop := Claim7.holds Tryz.pinned (.plain (OpenSpec.ofChange scriptBackSpec)) scriptBackCard

/-- THE SECOND FORM's CARD OF 'chancerylaw27.ScriptLines'. -/
def scriptLinesUptoCard : Claim7 := { stood := { row := scriptLinesUptoRow, standIns := [], harness := (true, "6a63cd9b76d3106fa4f46758daf063264acf1cc0e53c9b39bfe464f03448425c"), looks := true }, kinds := [], alts := [], laidByText := true, laidKinds := [.data, .data, .data, .data, .sentinel, .sentinel, .pinned], laidTests := true, laidLooks := .later }
def ScriptLinesUptoCardSaid : Prop := Claim7.holds Tryz.pinned (.plain (OpenSpec.upto scriptLinesSpec)) scriptLinesUptoCard

/-- THE SECOND FORM's CARD OF 'chancerylaw27.ScriptQuoted'. -/
def scriptQuotedUptoCard : Claim7 := { stood := { row := scriptQuotedUptoRow, standIns := [], harness := (true, "6a63cd9b76d3106fa4f46758daf063264acf1cc0e53c9b39bfe464f03448425c"), looks := true }, kinds := [], alts := [], laidByText := true, laidKinds := [.data, .data, .data, .data, .sentinel, .sentinel, .pinned], laidTests := true, laidLooks := .later }
def ScriptQuotedUptoCardSaid : Prop := Claim7.holds Tryz.pinned (.plain (OpenSpec.upto scriptQuotedSpec)) scriptQuotedUptoCard

/-- THE SECOND FORM's CARD OF 'chancerylaw27.ScriptBack'. -/
def scriptBackUptoCard : Claim7 := { stood := { row := scriptBackUptoRow, standIns := [], harness := (true, "6a63cd9b76d3106fa4f46758daf063264acf1cc0e53c9b39bfe464f03448425c"), looks := true }, kinds := [], alts := [], laidByText := true, laidKinds := [.data, .data, .data, .data, .sentinel, .sentinel, .pinned], laidTests := true, laidLooks := .later }
def ScriptBackUptoCardSaid : Prop := Claim7.holds Tryz.pinned (.plain (OpenSpec.upto scriptBackSpec)) scriptBackUptoCard
end Rows
end Go.Proofs.YthenffabboomnaaGreatDoor
