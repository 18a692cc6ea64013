/-
  NARROWER THAN 'FOR EVERY INPUT', by the rows' own cells (each row's printed sentence says how): KeysMay: laid · EntryRight: laid · EntryStill: laid · EntryPasses: laid · EntryPermits: laid.
  DERIVED. THE GIVEN ROWS OF THIS SEAT. 5 by the template 'for every input the law returns true; each argument reads behind the call as it read before'; 0 by the template 'total and deterministic' (their statements: YtkkbbhlihilnpaaGreatDoorTotals.lean).
  GIVEN WITH THE SEED: the statements are not yours to turn. If you find one false, say at which input.
  Laid BY PROGRAM, IN A SANDBOX (cutbox-rows.mjs): the forced cells as the released guide's own fill.sh prints them over the translation ca1135fcc87d48ba… (all of the seat's roots in one cut). By AI agents, Wed Nov 11 2026. No macro, syntax, notation, axiom, sorry.
-/
import Derived.Test.YtkkbbhlihilnpaaGreatDoorChecked
import GoSem.PinnedTables
import GoSem.Claim
import GoSem.ClaimJoined
import GoSem.ClaimMapViews
import Derived.JoinedTies
import Derived.KernelRfl
namespace Go.Proofs.YtkkbbhlihilnpaaGreatDoor
/- THE CELL 'sum', in the pinned program and in every row, IS THE sha256 OF THE DUMP (.gsa) THAT YtkkbbhlihilnpaaGreatDoorProg.lean LOADS. Nothing in Lean hashes anything: it is a label: what it is worth is what the hold of that sum in a sandbox is worth. -/
noncomputable def Tryz.pinned : Pinned := { name := "ytkkbbhlihilnpaagreatdoor", sum := "ca1135fcc87d48ba83396c7ebc600cf30a822da80612f81256cf9d0a0ff77902", checked := Tryz.checked }
namespace Rows
def none {H : Type} : Left H := { results := [], args := [] }

/- WHAT THE LISTED PACKAGE-LEVEL VARIABLES READ AS WHEN THE CALL BEGINS. Each datum BY PROGRAM (the guide's laid-datum.mjs) off the statement by which the dump's own 'gosem.cut.vars' lays the variable. In a bare row this is a premise. The card (YtkkbbhlihilnpaaGreatDoorCards.lean) ties it to the program's text. -/
def laid_unicode_utf8_acceptRanges {H : Type} : DataW H := .agg [.agg [.lit (.int .u8 128), .lit (.int .u8 191)], .agg [.lit (.int .u8 160), .lit (.int .u8 191)], .agg [.lit (.int .u8 128), .lit (.int .u8 159)], .agg [.lit (.int .u8 144), .lit (.int .u8 191)], .agg [.lit (.int .u8 128), .lit (.int .u8 143)], .agg [.lit (.int .u8 0), .lit (.int .u8 0)], .agg [.lit (.int .u8 0), .lit (.int .u8 0)], .agg [.lit (.int .u8 0), .lit (.int .u8 0)], .agg [.lit (.int .u8 0), .lit (.int .u8 0)], .agg [.lit (.int .u8 0), .lit (.int .u8 0)], .agg [.lit (.int .u8 0), .lit (.int .u8 0)], .agg [.lit (.int .u8 0), .lit (.int .u8 0)], .agg [.lit (.int .u8 0), .lit (.int .u8 0)], .agg [.lit (.int .u8 0), .lit (.int .u8 0)], .agg [.lit (.int .u8 0), .lit (.int .u8 0)], .agg [.lit (.int .u8 0), .lit (.int .u8 0)]]
/-- One of Go's own tables, pinned by name: the form's constant. -/
def laid_unicode_utf8_first : DataW Unit := Go.Pinned.utf8First

/-- 'chancerylaw14.KeysMay': WHATEVER THE INPUT: true; the input reads as it did. -/
def keysMaySpec : ChangeSpec := { name := "keysMay", fn := fun _ => fun
  | [d1, d2] => { results := [.lit (.bool true)], args := [d1, d2] }
  | _ => none }
def keysMayRow : OpenClaim := { program := "ytkkbbhlihilnpaagreatdoor", sum := "ca1135fcc87d48ba83396c7ebc600cf30a822da80612f81256cf9d0a0ff77902", func := "chancery/chancerylaw14.KeysMay", spec := "keysMay", inPlace := ["internal/bytealg.IndexByteString", "internal/bytealg.IndexString", "internal/bytealg.CountString", "internal/bytealg.abigen_runtime_cmpstring", "internal/abi.NoEscape", "internal/bytealg.MakeNoZero"], unfollowed := true, recurses := true, named := ["internal/bytealg.MaxLen", "unicode/utf8.first", "unicode/utf8.acceptRanges"], plainKeys := false, apart := false, laid := [("unicode/utf8.acceptRanges", laid_unicode_utf8_acceptRanges), ("unicode/utf8.first", laid_unicode_utf8_first)] }
def KeysMaySaid : Prop := keysMayRow.holds Tryz.pinned (OpenSpec.ofChange keysMaySpec)

/-- ITS FALSE NEIGHBOUR: 'it returns false'. Refute it at one input. -/
def keysMayWrong : ChangeSpec := { name := "keysMay", fn := fun _ => fun
  | [d1, d2] => { results := [.lit (.bool false)], args := [d1, d2] }
  | _ => none }
def KeysMayWrongFalsely : Prop := keysMayRow.holds Tryz.pinned (OpenSpec.ofChange keysMayWrong)

/-- 'chancerylaw7.EntryRight': WHATEVER THE INPUT: true; the input reads as it did. -/
def entryRightSpec : ChangeSpec := { name := "entryRight", fn := fun _ => fun
  | [d1, d2] => { results := [.lit (.bool true)], args := [d1, d2] }
  | _ => none }
def entryRightRow : OpenClaim := { program := "ytkkbbhlihilnpaagreatdoor", sum := "ca1135fcc87d48ba83396c7ebc600cf30a822da80612f81256cf9d0a0ff77902", func := "chancery/chancerylaw7.EntryRight", spec := "entryRight", inPlace := ["internal/bytealg.IndexByteString", "internal/bytealg.IndexString", "internal/bytealg.CountString", "internal/bytealg.abigen_runtime_cmpstring", "internal/abi.NoEscape", "internal/bytealg.MakeNoZero"], unfollowed := true, recurses := true, named := ["internal/bytealg.MaxLen", "unicode/utf8.first", "unicode/utf8.acceptRanges"], plainKeys := false, apart := false, laid := [("unicode/utf8.acceptRanges", laid_unicode_utf8_acceptRanges), ("unicode/utf8.first", laid_unicode_utf8_first)] }
def EntryRightSaid : Prop := entryRightRow.holds Tryz.pinned (OpenSpec.ofChange entryRightSpec)

/-- ITS FALSE NEIGHBOUR: 'it returns false'. Refute it at one input. -/
def entryRightWrong : ChangeSpec := { name := "entryRight", fn := fun _ => fun
  | [d1, d2] => { results := [.lit (.bool false)], args := [d1, d2] }
  | _ => none }
def EntryRightWrongFalsely : Prop := entryRightRow.holds Tryz.pinned (OpenSpec.ofChange entryRightWrong)

/-- 'chancerylaw7.EntryStill': WHATEVER THE INPUT: true; the input reads as it did. -/
def entryStillSpec : ChangeSpec := { name := "entryStill", fn := fun _ => fun
  | [d1, d2, d3, d4] => { results := [.lit (.bool true)], args := [d1, d2, d3, d4] }
  | _ => none }
def entryStillRow : OpenClaim := { program := "ytkkbbhlihilnpaagreatdoor", sum := "ca1135fcc87d48ba83396c7ebc600cf30a822da80612f81256cf9d0a0ff77902", func := "chancery/chancerylaw7.EntryStill", spec := "entryStill", inPlace := ["internal/bytealg.IndexByteString", "internal/bytealg.IndexString", "internal/bytealg.CountString", "internal/bytealg.abigen_runtime_cmpstring", "internal/abi.NoEscape", "internal/bytealg.MakeNoZero"], unfollowed := true, recurses := true, named := ["internal/bytealg.MaxLen", "unicode/utf8.first", "unicode/utf8.acceptRanges"], plainKeys := false, apart := false, laid := [("unicode/utf8.acceptRanges", laid_unicode_utf8_acceptRanges), ("unicode/utf8.first", laid_unicode_utf8_first)] }
def EntryStillSaid : Prop := entryStillRow.holds Tryz.pinned (OpenSpec.ofChange entryStillSpec)

/-- ITS FALSE NEIGHBOUR: 'it returns false'. Refute it at one input. -/
def entryStillWrong : ChangeSpec := { name := "entryStill", fn := fun _ => fun
  | [d1, d2, d3, d4] => { results := [.lit (.bool false)], args := [d1, d2, d3, d4] }
  | _ => none }
def EntryStillWrongFalsely : Prop := entryStillRow.holds Tryz.pinned (OpenSpec.ofChange entryStillWrong)

/-- 'chancerylaw7.EntryPasses': WHATEVER THE INPUT: true; the input reads as it did. -/
def entryPassesSpec : ChangeSpec := { name := "entryPasses", fn := fun _ => fun
  | [d1, d2, d3, d4] => { results := [.lit (.bool true)], args := [d1, d2, d3, d4] }
  | _ => none }
def entryPassesRow : OpenClaim := { program := "ytkkbbhlihilnpaagreatdoor", sum := "ca1135fcc87d48ba83396c7ebc600cf30a822da80612f81256cf9d0a0ff77902", func := "chancery/chancerylaw7.EntryPasses", spec := "entryPasses", inPlace := ["internal/bytealg.IndexByteString", "internal/bytealg.IndexString", "internal/bytealg.CountString", "internal/bytealg.abigen_runtime_cmpstring", "internal/abi.NoEscape", "internal/bytealg.MakeNoZero"], unfollowed := true, recurses := true, named := ["internal/bytealg.MaxLen", "unicode/utf8.first", "unicode/utf8.acceptRanges"], plainKeys := false, apart := false, laid := [("unicode/utf8.acceptRanges", laid_unicode_utf8_acceptRanges), ("unicode/utf8.first", laid_unicode_utf8_first)] }
def EntryPassesSaid : Prop := entryPassesRow.holds Tryz.pinned (OpenSpec.ofChange entryPassesSpec)

/-- ITS FALSE NEIGHBOUR: 'it returns false'. Refute it at one input. -/
def entryPassesWrong : ChangeSpec := { name := "entryPasses", fn := fun _ => fun
  | [d1, d2, d3, d4] => { results := [.lit (.bool false)], args := [d1, d2, d3, d4] }
  | _ => none }
def EntryPassesWrongFalsely : Prop := entryPassesRow.holds Tryz.pinned (OpenSpec.ofChange entryPassesWrong)

/-- 'chancerylaw7.EntryPermits': WHATEVER THE INPUT: true; the input reads as it did. -/
def entryPermitsSpec : ChangeSpec := { name := "entryPermits", fn := fun _ => fun
  | [d1, d2, d3] => { results := [.lit (.bool true)], args := [d1, d2, d3] }
  | _ => none }
def entryPermitsRow : OpenClaim := { program := "ytkkbbhlihilnpaagreatdoor", sum := "ca1135fcc87d48ba83396c7ebc600cf30a822da80612f81256cf9d0a0ff77902", func := "chancery/chancerylaw7.EntryPermits", spec := "entryPermits", inPlace := ["internal/bytealg.IndexByteString", "internal/bytealg.IndexString", "internal/bytealg.CountString", "internal/bytealg.abigen_runtime_cmpstring", "internal/abi.NoEscape", "internal/bytealg.MakeNoZero"], unfollowed := true, recurses := true, named := ["internal/bytealg.MaxLen", "unicode/utf8.first", "unicode/utf8.acceptRanges"], plainKeys := false, apart := false, laid := [("unicode/utf8.acceptRanges", laid_unicode_utf8_acceptRanges), ("unicode/utf8.first", laid_unicode_utf8_first)] }
def EntryPermitsSaid : Prop := entryPermitsRow.holds Tryz.pinned (OpenSpec.ofChange entryPermitsSpec)

/-- ITS FALSE NEIGHBOUR: 'it returns false'. Refute it at one input. -/
def entryPermitsWrong : ChangeSpec := { name := "entryPermits", fn := fun _ => fun
  | [d1, d2, d3] => { results := [.lit (.bool false)], args := [d1, d2, d3] }
  | _ => none }
def EntryPermitsWrongFalsely : Prop := entryPermitsRow.holds Tryz.pinned (OpenSpec.ofChange entryPermitsWrong)

/- THE SECOND FORM. 'bulk': how many values and letters a reading holds, each counted each time it is reached (what is shared counts as often as it is met; a slice's spare places count too). A statement '..UptoSaid' is the law's where the arguments, and the package variables that the reading takes, are together of bulk at most 1048576: NARROWER than '..Said'. Prove '..Said' where nothing that the law and all that it calls make is longer than what came in: it says more and counts as full. Else prove '..UptoSaid'. A law counts once. -/
mutual
def uptoBulk {H : Type} : DataW H → Nat
  | .lit (.string bytes) => bytes.length + 1
  | .lit _ => 1
  | .nil => 1
  | .ptr d => uptoBulk d + 1
  | .slice elems spare => uptoBulkAll elems + uptoBulkAll spare + 1
  | .agg parts => uptoBulkAll parts + 1
  | .iface _ d => uptoBulk d + 1
  | .map entries => uptoBulkEntries entries + 1
  | .held _ => 1
def uptoBulkAll {H : Type} : List (DataW H) → Nat
  | [] => 0
  | d :: r => uptoBulk d + uptoBulkAll r
def uptoBulkEntries {H : Type} : List (Lit × DataW H) → Nat
  | [] => 0
  | x :: r => uptoBulkEntry x + uptoBulkEntries r
def uptoBulkEntry {H : Type} : Lit × DataW H → Nat
  | (.string bytes, d) => bytes.length + uptoBulk d + 1
  | (_, d) => uptoBulk d + 1
 end
def uptoSmall : (H : Type) → List (DataW H) → Bool := fun _ ds => decide (uptoBulkAll ds ≤ 1048576)
def OpenSpec.upto (s : _root_.Go.ChangeSpec) : _root_.Go.OpenSpec := { _root_.Go.OpenSpec.ofChange s with cond := some uptoSmall }

/-- 'chancerylaw14.KeysMay', WHERE WHAT IT READS IS OF BULK AT MOST 1048576: true; the input reads as it did. -/
def keysMayUptoRow : OpenClaim := { program := "ytkkbbhlihilnpaagreatdoor", sum := "ca1135fcc87d48ba83396c7ebc600cf30a822da80612f81256cf9d0a0ff77902", func := "chancery/chancerylaw14.KeysMay", spec := "keysMay", inPlace := ["internal/bytealg.IndexByteString", "internal/bytealg.IndexString", "internal/bytealg.CountString", "internal/bytealg.abigen_runtime_cmpstring", "internal/abi.NoEscape", "internal/bytealg.MakeNoZero"], unfollowed := true, recurses := true, named := ["internal/bytealg.MaxLen", "unicode/utf8.first", "unicode/utf8.acceptRanges"], plainKeys := false, apart := false, laid := [("unicode/utf8.acceptRanges", laid_unicode_utf8_acceptRanges), ("unicode/utf8.first", laid_unicode_utf8_first)], narrowed := true }
def KeysMayUptoSaid : Prop := keysMayUptoRow.holds Tryz.pinned (OpenSpec.upto keysMaySpec)

/-- 'chancerylaw7.EntryRight', WHERE WHAT IT READS IS OF BULK AT MOST 1048576: true; the input reads as it did. -/
def entryRightUptoRow : OpenClaim := { program := "ytkkbbhlihilnpaagreatdoor", sum := "ca1135fcc87d48ba83396c7ebc600cf30a822da80612f81256cf9d0a0ff77902", func := "chancery/chancerylaw7.EntryRight", spec := "entryRight", inPlace := ["internal/bytealg.IndexByteString", "internal/bytealg.IndexString", "internal/bytealg.CountString", "internal/bytealg.abigen_runtime_cmpstring", "internal/abi.NoEscape", "internal/bytealg.MakeNoZero"], unfollowed := true, recurses := true, named := ["internal/bytealg.MaxLen", "unicode/utf8.first", "unicode/utf8.acceptRanges"], plainKeys := false, apart := false, laid := [("unicode/utf8.acceptRanges", laid_unicode_utf8_acceptRanges), ("unicode/utf8.first", laid_unicode_utf8_first)], narrowed := true }
def EntryRightUptoSaid : Prop := entryRightUptoRow.holds Tryz.pinned (OpenSpec.upto entryRightSpec)

/-- 'chancerylaw7.EntryStill', WHERE WHAT IT READS IS OF BULK AT MOST 1048576: true; the input reads as it did. -/
def entryStillUptoRow : OpenClaim := { program := "ytkkbbhlihilnpaagreatdoor", sum := "ca1135fcc87d48ba83396c7ebc600cf30a822da80612f81256cf9d0a0ff77902", func := "chancery/chancerylaw7.EntryStill", spec := "entryStill", inPlace := ["internal/bytealg.IndexByteString", "internal/bytealg.IndexString", "internal/bytealg.CountString", "internal/bytealg.abigen_runtime_cmpstring", "internal/abi.NoEscape", "internal/bytealg.MakeNoZero"], unfollowed := true, recurses := true, named := ["internal/bytealg.MaxLen", "unicode/utf8.first", "unicode/utf8.acceptRanges"], plainKeys := false, apart := false, laid := [("unicode/utf8.acceptRanges", laid_unicode_utf8_acceptRanges), ("unicode/utf8.first", laid_unicode_utf8_first)], narrowed := true }
def EntryStillUptoSaid : Prop := entryStillUptoRow.holds Tryz.pinned (OpenSpec.upto entryStillSpec)

/-- 'chancerylaw7.EntryPasses', WHERE WHAT IT READS IS OF BULK AT MOST 1048576: true; the input reads as it did. -/
def entryPassesUptoRow : OpenClaim := { program := "ytkkbbhlihilnpaagreatdoor", sum := "ca1135fcc87d48ba83396c7ebc600cf30a822da80612f81256cf9d0a0ff77902", func := "chancery/chancerylaw7.EntryPasses", spec := "entryPasses", inPlace := ["internal/bytealg.IndexByteString", "internal/bytealg.IndexString", "internal/bytealg.CountString", "internal/bytealg.abigen_runtime_cmpstring", "internal/abi.NoEscape", "internal/bytealg.MakeNoZero"], unfollowed := true, recurses := true, named := ["internal/bytealg.MaxLen", "unicode/utf8.first", "unicode/utf8.acceptRanges"], plainKeys := false, apart := false, laid := [("unicode/utf8.acceptRanges", laid_unicode_utf8_acceptRanges), ("unicode/utf8.first", laid_unicode_utf8_first)], narrowed := true }
def EntryPassesUptoSaid : Prop := entryPassesUptoRow.holds Tryz.pinned (OpenSpec.upto entryPassesSpec)

/-- 'chancerylaw7.EntryPermits', WHERE WHAT IT READS IS OF BULK AT MOST 1048576: true; the input reads as it did. -/
def entryPermitsUptoRow : OpenClaim := { program := "ytkkbbhlihilnpaagreatdoor", sum := "ca1135fcc87d48ba83396c7ebc600cf30a822da80612f81256cf9d0a0ff77902", func := "chancery/chancerylaw7.EntryPermits", spec := "entryPermits", inPlace := ["internal/bytealg.IndexByteString", "internal/bytealg.IndexString", "internal/bytealg.CountString", "internal/bytealg.abigen_runtime_cmpstring", "internal/abi.NoEscape", "internal/bytealg.MakeNoZero"], unfollowed := true, recurses := true, named := ["internal/bytealg.MaxLen", "unicode/utf8.first", "unicode/utf8.acceptRanges"], plainKeys := false, apart := false, laid := [("unicode/utf8.acceptRanges", laid_unicode_utf8_acceptRanges), ("unicode/utf8.first", laid_unicode_utf8_first)], narrowed := true }
def EntryPermitsUptoSaid : Prop := entryPermitsUptoRow.holds Tryz.pinned (OpenSpec.upto entryPermitsSpec)

end Rows
end Go.Proofs.YtkkbbhlihilnpaaGreatDoor
