/-
  DERIVED. GIVEN WITH THE SEED: THE CARDS: each row of YtnnopncgpcbjaaaGreatDoorRows.lean that lists a variable, with what it lists TIED to the program's text (the seventh form; the later family's looks); each row that meets fmt, with fmt's text TOLD by the authors' own Lean function (tested against real Go, not proved from fmt's source: count such statements apart). THE CARD IS WHAT COUNTS. Prove the row's statement (the work); the ties are given (YtnnopncgpcbjaaaGreatDoorTie.lean); close each card by the builder's one call (the guide's Derived/Test/ToyasCard.lean, 'card_holds'). Laid BY PROGRAM, IN A SANDBOX (cutbox-door.mjs). By AI agents, Wed Nov 11 2026. No macro, syntax, notation, axiom, sorry.
-/
import Derived.Test.YtnnopncgpcbjaaaGreatDoorRows
import GoSem.ClaimSeven
namespace Go.Proofs.YtnnopncgpcbjaaaGreatDoor
namespace Rows

/-- THE TIED CARD OF 'chancerylaw7.EntryRight'. -/
def entryRightCard : Claim7 := { stood := { row := entryRightRow, standIns := [], harness := (true, "26013ba2c5e929e77f92e61e34ad4771ad1a638cac929151e2dfab063baa6a26"), looks := true }, kinds := [], alts := [], laidByText := true, laidKinds := [.data, .pinned], laidTests := true, laidLooks := .later }
def EntryRightCardSaid : Prop := Claim7.holds Tryz.pinned (.plain (OpenSpec.ofChange entryRightSpec)) entryRightCard

/-- THE TIED CARD OF 'chancerylaw16.AclParses'. -/
def aclParsesCard : Claim7 := { stood := { row := aclParsesRow, standIns := [], harness := (true, "26013ba2c5e929e77f92e61e34ad4771ad1a638cac929151e2dfab063baa6a26"), looks := true }, kinds := [], alts := [], laidByText := true, laidKinds := [.data, .pinned], laidTests := true, laidLooks := .later }
def AclParsesCardSaid : Prop := Claim7.holds Tryz.pinned (.plain (OpenSpec.ofChange aclParsesSpec)) aclParsesCard

/-- THE TIED CARD OF 'chancerylaw16.AclBack'. -/
def aclBackCard : Claim7 := { stood := { row := aclBackRow, standIns := [], harness := (true, "26013ba2c5e929e77f92e61e34ad4771ad1a638cac929151e2dfab063baa6a26"), looks := true }, kinds := [], alts := [], laidByText := true, laidKinds := [.data, .pinned], laidTests := true, laidLooks := .later }
def AclBackCardSaid : Prop := Claim7.holds Tryz.pinned (.plain (OpenSpec.ofChange aclBackSpec)) aclBackCard

/-- THE TIED CARD OF 'chancerylaw16.AclFirst'. -/
def aclFirstCard : Claim7 := { stood := { row := aclFirstRow, standIns := [], harness := (true, "26013ba2c5e929e77f92e61e34ad4771ad1a638cac929151e2dfab063baa6a26"), looks := true }, kinds := [], alts := [], laidByText := true, laidKinds := [.data, .pinned], laidTests := true, laidLooks := .later }
def AclFirstCardSaid : Prop := Claim7.holds Tryz.pinned (.plain (OpenSpec.ofChange aclFirstSpec)) aclFirstCard

/-- THE TIED CARD OF 'chancerylaw16.AclInvalid'. -/
def aclInvalidCard : Claim7 := { stood := { row := aclInvalidRow, standIns := [], harness := (true, "26013ba2c5e929e77f92e61e34ad4771ad1a638cac929151e2dfab063baa6a26"), looks := true }, kinds := [], alts := [], laidByText := true, laidKinds := [.data, .pinned], laidTests := true, laidLooks := .later }
def AclInvalidCardSaid : Prop := Claim7.holds Tryz.pinned (.plain (OpenSpec.ofChange aclInvalidSpec)) aclInvalidCard

/-- THE TIED CARD OF 'chancerylaw16.AclWho'. -/
def aclWhoCard : Claim7 := { stood := { row := aclWhoRow, standIns := [], harness := (true, "26013ba2c5e929e77f92e61e34ad4771ad1a638cac929151e2dfab063baa6a26"), looks := true }, kinds := [], alts := [], laidByText := true, laidKinds := [.data, .pinned], laidTests := true, laidLooks := .later }
def AclWhoCardSaid : Prop := Claim7.holds Tryz.pinned (.plain (OpenSpec.ofChange aclWhoSpec)) aclWhoCard

/-- THE TIED CARD OF 'chancerylaw7.EntryStill'. -/
def entryStillCard : Claim7 := { stood := { row := entryStillRow, standIns := [], harness := (true, "26013ba2c5e929e77f92e61e34ad4771ad1a638cac929151e2dfab063baa6a26"), looks := true }, kinds := [], alts := [], laidByText := true, laidKinds := [.data, .pinned], laidTests := true, laidLooks := .later }
def EntryStillCardSaid : Prop := Claim7.holds Tryz.pinned (.plain (OpenSpec.ofChange entryStillSpec)) entryStillCard

/-- THE TIED CARD OF 'chancerylaw7.EntryPasses'. -/
def entryPassesCard : Claim7 := { stood := { row := entryPassesRow, standIns := [], harness := (true, "26013ba2c5e929e77f92e61e34ad4771ad1a638cac929151e2dfab063baa6a26"), looks := true }, kinds := [], alts := [], laidByText := true, laidKinds := [.data, .pinned], laidTests := true, laidLooks := .later }
def EntryPassesCardSaid : Prop := Claim7.holds Tryz.pinned (.plain (OpenSpec.ofChange entryPassesSpec)) entryPassesCard

/-- THE TIED CARD OF 'chancerylaw7.EntryPermits'. -/
def entryPermitsCard : Claim7 := { stood := { row := entryPermitsRow, standIns := [], harness := (true, "26013ba2c5e929e77f92e61e34ad4771ad1a638cac929151e2dfab063baa6a26"), looks := true }, kinds := [], alts := [], laidByText := true, laidKinds := [.data, .pinned], laidTests := true, laidLooks := .later }
def EntryPermitsCardSaid : Prop := Claim7.holds Tryz.pinned (.plain (OpenSpec.ofChange entryPermitsSpec)) entryPermitsCard

/-- THE SECOND FORM's CARD OF 'chancerylaw7.EntryRight'. -/
def entryRightUptoCard : Claim7 := { stood := { row := entryRightUptoRow, standIns := [], harness := (true, "26013ba2c5e929e77f92e61e34ad4771ad1a638cac929151e2dfab063baa6a26"), looks := true }, kinds := [], alts := [], laidByText := true, laidKinds := [.data, .pinned], laidTests := true, laidLooks := .later }
def EntryRightUptoCardSaid : Prop := Claim7.holds Tryz.pinned (.plain (OpenSpec.upto entryRightSpec)) entryRightUptoCard

/-- THE SECOND FORM's CARD OF 'chancerylaw16.AclParses'. -/
def aclParsesUptoCard : Claim7 := { stood := { row := aclParsesUptoRow, standIns := [], harness := (true, "26013ba2c5e929e77f92e61e34ad4771ad1a638cac929151e2dfab063baa6a26"), looks := true }, kinds := [], alts := [], laidByText := true, laidKinds := [.data, .pinned], laidTests := true, laidLooks := .later }
def AclParsesUptoCardSaid : Prop := Claim7.holds Tryz.pinned (.plain (OpenSpec.upto aclParsesSpec)) aclParsesUptoCard

/-- THE SECOND FORM's CARD OF 'chancerylaw16.AclBack'. -/
def aclBackUptoCard : Claim7 := { stood := { row := aclBackUptoRow, standIns := [], harness := (true, "26013ba2c5e929e77f92e61e34ad4771ad1a638cac929151e2dfab063baa6a26"), looks := true }, kinds := [], alts := [], laidByText := true, laidKinds := [.data, .pinned], laidTests := true, laidLooks := .later }
def AclBackUptoCardSaid : Prop := Claim7.holds Tryz.pinned (.plain (OpenSpec.upto aclBackSpec)) aclBackUptoCard

/-- THE SECOND FORM's CARD OF 'chancerylaw16.AclFirst'. -/
def aclFirstUptoCard : Claim7 := { stood := { row := aclFirstUptoRow, standIns := [], harness := (true, "26013ba2c5e929e77f92e61e34ad4771ad1a638cac929151e2dfab063baa6a26"), looks := true }, kinds := [], alts := [], laidByText := true, laidKinds := [.data, .pinned], laidTests := true, laidLooks := .later }
def AclFirstUptoCardSaid : Prop := Claim7.holds Tryz.pinned (.plain (OpenSpec.upto aclFirstSpec)) aclFirstUptoCard

/-- THE SECOND FORM's CARD OF 'chancerylaw16.AclInvalid'. -/
def aclInvalidUptoCard : Claim7 := { stood := { row := aclInvalidUptoRow, standIns := [], harness := (true, "26013ba2c5e929e77f92e61e34ad4771ad1a638cac929151e2dfab063baa6a26"), looks := true }, kinds := [], alts := [], laidByText := true, laidKinds := [.data, .pinned], laidTests := true, laidLooks := .later }
def AclInvalidUptoCardSaid : Prop := Claim7.holds Tryz.pinned (.plain (OpenSpec.upto aclInvalidSpec)) aclInvalidUptoCard

/-- THE SECOND FORM's CARD OF 'chancerylaw16.AclWho'. -/
def aclWhoUptoCard : Claim7 := { stood := { row := aclWhoUptoRow, standIns := [], harness := (true, "26013ba2c5e929e77f92e61e34ad4771ad1a638cac929151e2dfab063baa6a26"), looks := true }, kinds := [], alts := [], laidByText := true, laidKinds := [.data, .pinned], laidTests := true, laidLooks := .later }
def AclWhoUptoCardSaid : Prop := Claim7.holds Tryz.pinned (.plain (OpenSpec.upto aclWhoSpec)) aclWhoUptoCard

/-- THE SECOND FORM's CARD OF 'chancerylaw7.EntryStill'. -/
def entryStillUptoCard : Claim7 := { stood := { row := entryStillUptoRow, standIns := [], harness := (true, "26013ba2c5e929e77f92e61e34ad4771ad1a638cac929151e2dfab063baa6a26"), looks := true }, kinds := [], alts := [], laidByText := true, laidKinds := [.data, .pinned], laidTests := true, laidLooks := .later }
def EntryStillUptoCardSaid : Prop := Claim7.holds Tryz.pinned (.plain (OpenSpec.upto entryStillSpec)) entryStillUptoCard

/-- THE SECOND FORM's CARD OF 'chancerylaw7.EntryPasses'. -/
def entryPassesUptoCard : Claim7 := { stood := { row := entryPassesUptoRow, standIns := [], harness := (true, "26013ba2c5e929e77f92e61e34ad4771ad1a638cac929151e2dfab063baa6a26"), looks := true }, kinds := [], alts := [], laidByText := true, laidKinds := [.data, .pinned], laidTests := true, laidLooks := .later }
def EntryPassesUptoCardSaid : Prop := Claim7.holds Tryz.pinned (.plain (OpenSpec.upto entryPassesSpec)) entryPassesUptoCard

/-- THE SECOND FORM's CARD OF 'chancerylaw7.EntryPermits'. -/
def entryPermitsUptoCard : Claim7 := { stood := { row := entryPermitsUptoRow, standIns := [], harness := (true, "26013ba2c5e929e77f92e61e34ad4771ad1a638cac929151e2dfab063baa6a26"), looks := true }, kinds := [], alts := [], laidByText := true, laidKinds := [.data, .pinned], laidTests := true, laidLooks := .later }
def EntryPermitsUptoCardSaid : Prop := Claim7.holds Tryz.pinned (.plain (OpenSpec.upto entryPermitsSpec)) entryPermitsUptoCard
end Rows
end Go.Proofs.YtnnopncgpcbjaaaGreatDoor
