/-
  DERIVED. GIVEN WITH THE SEED: THE CARDS: each row of YtgpecklibcgifaaGreatDoorRows.lean that lists a variable, with what it lists TIED to the program's text (the seventh form; the later family's looks); each row that meets fmt, with fmt's text TOLD by the authors' own Lean function (tested against real Go, not proved from fmt's source: count such statements apart). THE CARD IS WHAT COUNTS. Prove the row's statement (the work); the ties are given (YtgpecklibcgifaaGreatDoorTie.lean); close each card by the builder's one call (the guide's Derived/Test/ToyasCard.lean, 'card_holds'). Laid BY PROGRAM, IN A SANDBOX (cutbox-door.mjs). By AI agents, Wed Nov 11 2026. No macro, syntax, notation, axiom, sorry.
-/
import Derived.Test.YtgpecklibcgifaaGreatDoorRows
import GoSem.ClaimSeven
namespace Go.Proofs.YtgpecklibcgifaaGreatDoor
namespace Rows

/-- THE TIED CARD OF 'chancerylaw5.SyntaxNumbers'. -/
def syntaxNumbersCard : Claim7 := { stood := { row := syntaxNumbersRow, standIns := [], harness := (true, "223e63fd58f269294a8560c1d119087cd1f7002f35a0f71a5a89c120a25b42dc"), looks := true }, kinds := [], alts := [], laidByText := true, laidKinds := [.data, .pinned], laidTests := true, laidLooks := .later }
def SyntaxNumbersCardSaid : Prop := Claim7.holds Tryz.pinned (.plain (OpenSpec.ofChange syntaxNumbersSpec)) syntaxNumbersCard

/-- THE TIED CARD OF 'chancerylaw5.SyntaxRules'. -/
def syntaxRulesCard : Claim7 := { stood := { row := syntaxRulesRow, standIns := [], harness := (true, "223e63fd58f269294a8560c1d119087cd1f7002f35a0f71a5a89c120a25b42dc"), looks := true }, kinds := [], alts := [], laidByText := true, laidKinds := [.data, .pinned], laidTests := true, laidLooks := .later }
def SyntaxRulesCardSaid : Prop := Claim7.holds Tryz.pinned (.plain (OpenSpec.ofChange syntaxRulesSpec)) syntaxRulesCard

/-- THE TIED CARD OF 'chancerylaw5.SyntaxTwice'. -/
def syntaxTwiceCard : Claim7 := { stood := { row := syntaxTwiceRow, standIns := [], harness := (true, "223e63fd58f269294a8560c1d119087cd1f7002f35a0f71a5a89c120a25b42dc"), looks := true }, kinds := [], alts := [], laidByText := true, laidKinds := [.data, .pinned], laidTests := true, laidLooks := .later }
def SyntaxTwiceCardSaid : Prop := Claim7.holds Tryz.pinned (.plain (OpenSpec.ofChange syntaxTwiceSpec)) syntaxTwiceCard

/-- THE TIED CARD OF 'chancerylaw5.SyntaxOrders'. -/
def syntaxOrdersCard : Claim7 := { stood := { row := syntaxOrdersRow, standIns := [], harness := (true, "223e63fd58f269294a8560c1d119087cd1f7002f35a0f71a5a89c120a25b42dc"), looks := true }, kinds := [], alts := [], laidByText := true, laidKinds := [.data, .pinned], laidTests := true, laidLooks := .later }
def SyntaxOrdersCardSaid : Prop := Claim7.holds Tryz.pinned (.plain (OpenSpec.ofChange syntaxOrdersSpec)) syntaxOrdersCard

/-- THE TIED CARD OF 'chancerylaw5.SyntaxNames'. -/
def syntaxNamesCard : Claim7 := { stood := { row := syntaxNamesRow, standIns := [], harness := (true, "223e63fd58f269294a8560c1d119087cd1f7002f35a0f71a5a89c120a25b42dc"), looks := true }, kinds := [], alts := [], laidByText := true, laidKinds := [.data, .pinned], laidTests := true, laidLooks := .later }
def SyntaxNamesCardSaid : Prop := Claim7.holds Tryz.pinned (.plain (OpenSpec.ofChange syntaxNamesSpec)) syntaxNamesCard

/-- THE TIED CARD OF 'chancerylaw5.SyntaxForms'. -/
def syntaxFormsCard : Claim7 := { stood := { row := syntaxFormsRow, standIns := [], harness := (true, "223e63fd58f269294a8560c1d119087cd1f7002f35a0f71a5a89c120a25b42dc"), looks := true }, kinds := [], alts := [], laidByText := true, laidKinds := [.data, .pinned], laidTests := true, laidLooks := .later }
def SyntaxFormsCardSaid : Prop := Claim7.holds Tryz.pinned (.plain (OpenSpec.ofChange syntaxFormsSpec)) syntaxFormsCard

/-- THE TIED CARD OF 'chancerylaw5.SyntaxPieces'. -/
def syntaxPiecesCard : Claim7 := { stood := { row := syntaxPiecesRow, standIns := [], harness := (true, "223e63fd58f269294a8560c1d119087cd1f7002f35a0f71a5a89c120a25b42dc"), looks := true }, kinds := [], alts := [], laidByText := true, laidKinds := [.data, .pinned], laidTests := true, laidLooks := .later }
def SyntaxPiecesCardSaid : Prop := Claim7.holds Tryz.pinned (.plain (OpenSpec.ofChange syntaxPiecesSpec)) syntaxPiecesCard

/-- THE SECOND FORM's CARD OF 'chancerylaw5.SyntaxNumbers'. -/
def syntaxNumbersUptoCard : Claim7 := { stood := { row := syntaxNumbersUptoRow, standIns := [], harness := (true, "223e63fd58f269294a8560c1d119087cd1f7002f35a0f71a5a89c120a25b42dc"), looks := true }, kinds := [], alts := [], laidByText := true, laidKinds := [.data, .pinned], laidTests := true, laidLooks := .later }
def SyntaxNumbersUptoCardSaid : Prop := Claim7.holds Tryz.pinned (.plain (OpenSpec.upto syntaxNumbersSpec)) syntaxNumbersUptoCard

/-- THE SECOND FORM's CARD OF 'chancerylaw5.SyntaxRules'. -/
def syntaxRulesUptoCard : Claim7 := { stood := { row := syntaxRulesUptoRow, standIns := [], harness := (true, "223e63fd58f269294a8560c1d119087cd1f7002f35a0f71a5a89c120a25b42dc"), looks := true }, kinds := [], alts := [], laidByText := true, laidKinds := [.data, .pinned], laidTests := true, laidLooks := .later }
def SyntaxRulesUptoCardSaid : Prop := Claim7.holds Tryz.pinned (.plain (OpenSpec.upto syntaxRulesSpec)) syntaxRulesUptoCard

/-- THE SECOND FORM's CARD OF 'chancerylaw5.SyntaxTwice'. -/
def syntaxTwiceUptoCard : Claim7 := { stood := { row := syntaxTwiceUptoRow, standIns := [], harness := (true, "223e63fd58f269294a8560c1d119087cd1f7002f35a0f71a5a89c120a25b42dc"), looks := true }, kinds := [], alts := [], laidByText := true, laidKinds := [.data, .pinned], laidTests := true, laidLooks := .later }
def SyntaxTwiceUptoCardSaid : Prop := Claim7.holds Tryz.pinned (.plain (OpenSpec.upto syntaxTwiceSpec)) syntaxTwiceUptoCard

/-- THE SECOND FORM's CARD OF 'chancerylaw5.SyntaxOrders'. -/
def syntaxOrdersUptoCard : Claim7 := { stood := { row := syntaxOrdersUptoRow, standIns := [], harness := (true, "223e63fd58f269294a8560c1d119087cd1f7002f35a0f71a5a89c120a25b42dc"), looks := true }, kinds := [], alts := [], laidByText := true, laidKinds := [.data, .pinned], laidTests := true, laidLooks := .later }
def SyntaxOrdersUptoCardSaid : Prop := Claim7.holds Tryz.pinned (.plain (OpenSpec.upto syntaxOrdersSpec)) syntaxOrdersUptoCard

/-- THE SECOND FORM's CARD OF 'chancerylaw5.SyntaxNames'. -/
def syntaxNamesUptoCard : Claim7 := { stood := { row := syntaxNamesUptoRow, standIns := [], harness := (true, "223e63fd58f269294a8560c1d119087cd1f7002f35a0f71a5a89c120a25b42dc"), looks := true }, kinds := [], alts := [], laidByText := true, laidKinds := [.data, .pinned], laidTests := true, laidLooks := .later }
def SyntaxNamesUptoCardSaid : Prop := Claim7.holds Tryz.pinned (.plain (OpenSpec.upto syntaxNamesSpec)) syntaxNamesUptoCard

/-- THE SECOND FORM's CARD OF 'chancerylaw5.SyntaxForms'. -/
def syntaxFormsUptoCard : Claim7 := { stood := { row := syntaxFormsUptoRow, standIns := [], harness := (true, "223e63fd58f269294a8560c1d119087cd1f7002f35a0f71a5a89c120a25b42dc"), looks := true }, kinds := [], alts := [], laidByText := true, laidKinds := [.data, .pinned], laidTests := true, laidLooks := .later }
def SyntaxFormsUptoCardSaid : Prop := Claim7.holds Tryz.pinned (.plain (OpenSpec.upto syntaxFormsSpec)) syntaxFormsUptoCard

/-- THE SECOND FORM's CARD OF 'chancerylaw5.SyntaxPieces'. -/
def syntaxPiecesUptoCard : Claim7 := { stood := { row := syntaxPiecesUptoRow, standIns := [], harness := (true, "223e63fd58f269294a8560c1d119087cd1f7002f35a0f71a5a89c120a25b42dc"), looks := true }, kinds := [], alts := [], laidByText := true, laidKinds := [.data, .pinned], laidTests := true, laidLooks := .later }
def SyntaxPiecesUptoCardSaid : Prop := Claim7.holds Tryz.pinned (.plain (OpenSpec.upto syntaxPiecesSpec)) syntaxPiecesUptoCard
end Rows
end Go.Proofs.YtgpecklibcgifaaGreatDoor
