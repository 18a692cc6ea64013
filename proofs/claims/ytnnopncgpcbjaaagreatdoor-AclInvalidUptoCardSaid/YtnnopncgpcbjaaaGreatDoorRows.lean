/-
  NARROWER THAN 'FOR EVERY INPUT', by the rows' own cells (each row's printed sentence says how): EntryRight: laid · AclParses: laid · AclBack: laid · AclFirst: laid · AclInvalid: laid · AclWho: laid · EntryStill: laid · EntryPasses: laid · EntryPermits: laid.
  DERIVED. THE GIVEN ROWS OF THIS SEAT. 9 by the template 'for every input the law returns true; each argument reads behind the call as it read before'; 0 by the template 'total and deterministic' (their statements: YtnnopncgpcbjaaaGreatDoorTotals.lean).
  GIVEN WITH THE SEED: the statements are not yours to turn. If you find one false, say at which input.
  Laid BY PROGRAM, IN A SANDBOX (cutbox-rows.mjs): the forced cells as the released guide's own fill.sh prints them over the translation 940ace3c2b9930a3… (all of the seat's roots in one cut). By AI agents, Wed Nov 11 2026. No macro, syntax, notation, axiom, sorry.
-/
import Derived.Test.YtnnopncgpcbjaaaGreatDoorChecked
import GoSem.PinnedTables
import GoSem.Claim
import GoSem.ClaimJoined
import GoSem.ClaimMapViews
import Derived.JoinedTies
import Derived.KernelRfl
namespace Go.Proofs.YtnnopncgpcbjaaaGreatDoor
/- THE CELL 'sum', in the pinned program and in every row, IS THE sha256 OF THE DUMP (.gsa) THAT YtnnopncgpcbjaaaGreatDoorProg.lean LOADS. Nothing in Lean hashes anything: it is a label: what it is worth is what the hold of that sum in a sandbox is worth. -/
noncomputable def Tryz.pinned : Pinned := { name := "ytnnopncgpcbjaaagreatdoor", sum := "940ace3c2b9930a3535f1d6a4067c457f2517a7d4a78577c094ba20be3af6caa", checked := Tryz.checked }
namespace Rows
def none {H : Type} : Left H := { results := [], args := [] }

/- WHAT THE LISTED PACKAGE-LEVEL VARIABLES READ AS WHEN THE CALL BEGINS. Each datum BY PROGRAM (the guide's laid-datum.mjs) off the statement by which the dump's own 'gosem.cut.vars' lays the variable. In a bare row this is a premise. The card (YtnnopncgpcbjaaaGreatDoorCards.lean) ties it to the program's text. -/
def laid_unicode_utf8_acceptRanges {H : Type} : DataW H := .agg [.agg [.lit (.int .u8 128), .lit (.int .u8 191)], .agg [.lit (.int .u8 160), .lit (.int .u8 191)], .agg [.lit (.int .u8 128), .lit (.int .u8 159)], .agg [.lit (.int .u8 144), .lit (.int .u8 191)], .agg [.lit (.int .u8 128), .lit (.int .u8 143)], .agg [.lit (.int .u8 0), .lit (.int .u8 0)], .agg [.lit (.int .u8 0), .lit (.int .u8 0)], .agg [.lit (.int .u8 0), .lit (.int .u8 0)], .agg [.lit (.int .u8 0), .lit (.int .u8 0)], .agg [.lit (.int .u8 0), .lit (.int .u8 0)], .agg [.lit (.int .u8 0), .lit (.int .u8 0)], .agg [.lit (.int .u8 0), .lit (.int .u8 0)], .agg [.lit (.int .u8 0), .lit (.int .u8 0)], .agg [.lit (.int .u8 0), .lit (.int .u8 0)], .agg [.lit (.int .u8 0), .lit (.int .u8 0)], .agg [.lit (.int .u8 0), .lit (.int .u8 0)]]
/-- One of Go's own tables, pinned by name: the form's constant. -/
def laid_unicode_utf8_first : DataW Unit := Go.Pinned.utf8First

/-- 'chancerylaw7.EntryRight': WHATEVER THE INPUT: true; the input reads as it did. -/
def entryRightSpec : ChangeSpec := { name := "entryRight", fn := fun _ => fun
  | [d1, d2] => { results := [.lit (.bool true)], args := [d1, d2] }
  | _ => none }
def entryRightRow : OpenClaim := { program := "ytnnopncgpcbjaaagreatdoor", sum := "940ace3c2b9930a3535f1d6a4067c457f2517a7d4a78577c094ba20be3af6caa", func := "chancery/chancerylaw7.EntryRight", spec := "entryRight", inPlace := ["internal/bytealg.IndexByteString", "internal/bytealg.IndexString", "internal/bytealg.CountString", "internal/bytealg.abigen_runtime_cmpstring", "internal/abi.NoEscape", "internal/bytealg.MakeNoZero"], unfollowed := true, recurses := true, named := ["internal/bytealg.MaxLen", "unicode/utf8.first", "unicode/utf8.acceptRanges"], plainKeys := false, apart := false, laid := [("unicode/utf8.acceptRanges", laid_unicode_utf8_acceptRanges), ("unicode/utf8.first", laid_unicode_utf8_first)] }
def EntryRightSaid : Prop := entryRightRow.holds Tryz.pinned (OpenSpec.ofChange entryRightSpec)

/-- ITS FALSE NEIGHBOUR: 'it returns false'. Refute it at one input. -/
def entryRightWrong : ChangeSpec := { name := "entryRight", fn := fun _ => fun
  | [d1, d2] => { results := [.lit (.bool false)], args := [d1, d2] }
  | _ => none }
def EntryRightWrongFalsely : Prop := entryRightRow.holds Tryz.pinned (OpenSpec.ofChange entryRightWrong)

/-- 'chancerylaw16.AclParses': WHATEVER THE INPUT: true; the input reads as it did. -/
def aclParsesSpec : ChangeSpec := { name := "aclParses", fn := fun _ => fun
  | [d] => { results := [.lit (.bool true)], args := [d] }
  | _ => none }
def aclParsesRow : OpenClaim := { program := "ytnnopncgpcbjaaagreatdoor", sum := "940ace3c2b9930a3535f1d6a4067c457f2517a7d4a78577c094ba20be3af6caa", func := "chancery/chancerylaw16.AclParses", spec := "aclParses", inPlace := ["internal/bytealg.IndexByteString", "internal/bytealg.IndexString", "internal/bytealg.CountString", "internal/bytealg.abigen_runtime_cmpstring", "internal/abi.NoEscape", "internal/bytealg.MakeNoZero"], unfollowed := true, recurses := true, named := ["internal/bytealg.MaxLen", "unicode/utf8.first", "unicode/utf8.acceptRanges"], plainKeys := false, apart := false, laid := [("unicode/utf8.acceptRanges", laid_unicode_utf8_acceptRanges), ("unicode/utf8.first", laid_unicode_utf8_first)] }
def AclParsesSaid : Prop := aclParsesRow.holds Tryz.pinned (OpenSpec.ofChange aclParsesSpec)

/-- ITS FALSE NEIGHBOUR: 'it returns false'. Refute it at one input. -/
def aclParsesWrong : ChangeSpec := { name := "aclParses", fn := fun _ => fun
  | [d] => { results := [.lit (.bool false)], args := [d] }
  | _ => none }
def AclParsesWrongFalsely : Prop := aclParsesRow.holds Tryz.pinned (OpenSpec.ofChange aclParsesWrong)

/-- 'chancerylaw16.AclBack': WHATEVER THE INPUT: true; the input reads as it did. -/
def aclBackSpec : ChangeSpec := { name := "aclBack", fn := fun _ => fun
  | [d1, d2] => { results := [.lit (.bool true)], args := [d1, d2] }
  | _ => none }
def aclBackRow : OpenClaim := { program := "ytnnopncgpcbjaaagreatdoor", sum := "940ace3c2b9930a3535f1d6a4067c457f2517a7d4a78577c094ba20be3af6caa", func := "chancery/chancerylaw16.AclBack", spec := "aclBack", inPlace := ["internal/bytealg.IndexByteString", "internal/bytealg.IndexString", "internal/bytealg.CountString", "internal/bytealg.abigen_runtime_cmpstring", "internal/abi.NoEscape", "internal/bytealg.MakeNoZero"], unfollowed := true, recurses := true, named := ["internal/bytealg.MaxLen", "unicode/utf8.first", "unicode/utf8.acceptRanges"], plainKeys := false, apart := false, laid := [("unicode/utf8.acceptRanges", laid_unicode_utf8_acceptRanges), ("unicode/utf8.first", laid_unicode_utf8_first)] }
def AclBackSaid : Prop := aclBackRow.holds Tryz.pinned (OpenSpec.ofChange aclBackSpec)

/-- ITS FALSE NEIGHBOUR: 'it returns false'. Refute it at one input. -/
def aclBackWrong : ChangeSpec := { name := "aclBack", fn := fun _ => fun
  | [d1, d2] => { results := [.lit (.bool false)], args := [d1, d2] }
  | _ => none }
def AclBackWrongFalsely : Prop := aclBackRow.holds Tryz.pinned (OpenSpec.ofChange aclBackWrong)

/-- 'chancerylaw16.AclFirst': WHATEVER THE INPUT: true; the input reads as it did. -/
def aclFirstSpec : ChangeSpec := { name := "aclFirst", fn := fun _ => fun
  | [d1, d2, d3, d4, d5, d6] => { results := [.lit (.bool true)], args := [d1, d2, d3, d4, d5, d6] }
  | _ => none }
def aclFirstRow : OpenClaim := { program := "ytnnopncgpcbjaaagreatdoor", sum := "940ace3c2b9930a3535f1d6a4067c457f2517a7d4a78577c094ba20be3af6caa", func := "chancery/chancerylaw16.AclFirst", spec := "aclFirst", inPlace := ["internal/bytealg.IndexByteString", "internal/bytealg.IndexString", "internal/bytealg.CountString", "internal/bytealg.abigen_runtime_cmpstring", "internal/abi.NoEscape", "internal/bytealg.MakeNoZero"], unfollowed := true, recurses := true, named := ["internal/bytealg.MaxLen", "unicode/utf8.first", "unicode/utf8.acceptRanges"], plainKeys := false, apart := false, laid := [("unicode/utf8.acceptRanges", laid_unicode_utf8_acceptRanges), ("unicode/utf8.first", laid_unicode_utf8_first)] }
def AclFirstSaid : Prop := aclFirstRow.holds Tryz.pinned (OpenSpec.ofChange aclFirstSpec)

/-- ITS FALSE NEIGHBOUR: 'it returns false'. Refute it at one input. -/
def aclFirstWrong : ChangeSpec := { name := "aclFirst", fn := fun _ => fun
  | [d1, d2, d3, d4, d5, d6] => { results := [.lit (.bool false)], args := [d1, d2, d3, d4, d5, d6] }
  | _ => none }
def AclFirstWrongFalsely : Prop := aclFirstRow.holds Tryz.pinned (OpenSpec.ofChange aclFirstWrong)

/-- 'chancerylaw16.AclInvalid': WHATEVER THE INPUT: true; the input reads as it did. -/
def aclInvalidSpec : ChangeSpec := { name := "aclInvalid", fn := fun _ => fun
  | [d1, d2, d3, d4, d5] => { results := [.lit (.bool true)], args := [d1, d2, d3, d4, d5] }
  | _ => none }
def aclInvalidRow : OpenClaim := { program := "ytnnopncgpcbjaaagreatdoor", sum := "940ace3c2b9930a3535f1d6a4067c457f2517a7d4a78577c094ba20be3af6caa", func := "chancery/chancerylaw16.AclInvalid", spec := "aclInvalid", inPlace := ["internal/bytealg.IndexByteString", "internal/bytealg.IndexString", "internal/bytealg.CountString", "internal/bytealg.abigen_runtime_cmpstring", "internal/abi.NoEscape", "internal/bytealg.MakeNoZero"], unfollowed := true, recurses := true, named := ["internal/bytealg.MaxLen", "unicode/utf8.first", "unicode/utf8.acceptRanges"], plainKeys := false, apart := false, laid := [("unicode/utf8.acceptRanges", laid_unicode_utf8_acceptRanges), ("unicode/utf8.first", laid_unicode_utf8_first)] }
def AclInvalidSaid : Prop := aclInvalidRow.holds Tryz.pinned (OpenSpec.ofChange aclInvalidSpec)

/-- ITS FALSE NEIGHBOUR: 'it returns false'. Refute it at one input. -/
def aclInvalidWrong : ChangeSpec := { name := "aclInvalid", fn := fun _ => fun
  | [d1, d2, d3, d4, d5] => { results := [.lit (.bool false)], args := [d1, d2, d3, d4, d5] }
  | _ => none }
def AclInvalidWrongFalsely : Prop := aclInvalidRow.holds Tryz.pinned (OpenSpec.ofChange aclInvalidWrong)

/-- 'chancerylaw16.AclWho': WHATEVER THE INPUT: true; the input reads as it did. -/
def aclWhoSpec : ChangeSpec := { name := "aclWho", fn := fun _ => fun
  | [d1, d2, d3, d4] => { results := [.lit (.bool true)], args := [d1, d2, d3, d4] }
  | _ => none }
def aclWhoRow : OpenClaim := { program := "ytnnopncgpcbjaaagreatdoor", sum := "940ace3c2b9930a3535f1d6a4067c457f2517a7d4a78577c094ba20be3af6caa", func := "chancery/chancerylaw16.AclWho", spec := "aclWho", inPlace := ["internal/bytealg.IndexByteString", "internal/bytealg.IndexString", "internal/bytealg.CountString", "internal/bytealg.abigen_runtime_cmpstring", "internal/abi.NoEscape", "internal/bytealg.MakeNoZero"], unfollowed := true, recurses := true, named := ["internal/bytealg.MaxLen", "unicode/utf8.first", "unicode/utf8.acceptRanges"], plainKeys := false, apart := false, laid := [("unicode/utf8.acceptRanges", laid_unicode_utf8_acceptRanges), ("unicode/utf8.first", laid_unicode_utf8_first)] }
def AclWhoSaid : Prop := aclWhoRow.holds Tryz.pinned (OpenSpec.ofChange aclWhoSpec)

/-- ITS FALSE NEIGHBOUR: 'it returns false'. Refute it at one input. -/
def aclWhoWrong : ChangeSpec := { name := "aclWho", fn := fun _ => fun
  | [d1, d2, d3, d4] => { results := [.lit (.bool false)], args := [d1, d2, d3, d4] }
  | _ => none }
def AclWhoWrongFalsely : Prop := aclWhoRow.holds Tryz.pinned (OpenSpec.ofChange aclWhoWrong)

/-- 'chancerylaw7.EntryStill': WHATEVER THE INPUT: true; the input reads as it did. -/
def entryStillSpec : ChangeSpec := { name := "entryStill", fn := fun _ => fun
  | [d1, d2, d3, d4] => { results := [.lit (.bool true)], args := [d1, d2, d3, d4] }
  | _ => none }
def entryStillRow : OpenClaim := { program := "ytnnopncgpcbjaaagreatdoor", sum := "940ace3c2b9930a3535f1d6a4067c457f2517a7d4a78577c094ba20be3af6caa", func := "chancery/chancerylaw7.EntryStill", spec := "entryStill", inPlace := ["internal/bytealg.IndexByteString", "internal/bytealg.IndexString", "internal/bytealg.CountString", "internal/bytealg.abigen_runtime_cmpstring", "internal/abi.NoEscape", "internal/bytealg.MakeNoZero"], unfollowed := true, recurses := true, named := ["internal/bytealg.MaxLen", "unicode/utf8.first", "unicode/utf8.acceptRanges"], plainKeys := false, apart := false, laid := [("unicode/utf8.acceptRanges", laid_unicode_utf8_acceptRanges), ("unicode/utf8.first", laid_unicode_utf8_first)] }
def EntryStillSaid : Prop := entryStillRow.holds Tryz.pinned (OpenSpec.ofChange entryStillSpec)

/-- ITS FALSE NEIGHBOUR: 'it returns false'. Refute it at one input. -/
def entryStillWrong : ChangeSpec := { name := "entryStill", fn := fun _ => fun
  | [d1, d2, d3, d4] => { results := [.lit (.bool false)], args := [d1, d2, d3, d4] }
  | _ => none }
def EntryStillWrongFalsely : Prop := entryStillRow.holds Tryz.pinned (OpenSpec.ofChange entryStillWrong)

/-- 'chancerylaw7.EntryPasses': WHATEVER THE INPUT: true; the input reads as it did. -/
def entryPassesSpec : ChangeSpec := { name := "entryPasses", fn := fun _ => fun
  | [d1, d2, d3, d4] => { results := [.lit (.bool true)], args := [d1, d2, d3, d4] }
  | _ => none }
def entryPassesRow : OpenClaim := { program := "ytnnopncgpcbjaaagreatdoor", sum := "940ace3c2b9930a3535f1d6a4067c457f2517a7d4a78577c094ba20be3af6caa", func := "chancery/chancerylaw7.EntryPasses", spec := "entryPasses", inPlace := ["internal/bytealg.IndexByteString", "internal/bytealg.IndexString", "internal/bytealg.CountString", "internal/bytealg.abigen_runtime_cmpstring", "internal/abi.NoEscape", "internal/bytealg.MakeNoZero"], unfollowed := true, recurses := true, named := ["internal/bytealg.MaxLen", "unicode/utf8.first", "unicode/utf8.acceptRanges"], plainKeys := false, apart := false, laid := [("unicode/utf8.acceptRanges", laid_unicode_utf8_acceptRanges), ("unicode/utf8.first", laid_unicode_utf8_first)] }
def EntryPassesSaid : Prop := entryPassesRow.holds Tryz.pinned (OpenSpec.ofChange entryPassesSpec)

/-- ITS FALSE NEIGHBOUR: 'it returns false'. Refute it at one input. -/
def entryPassesWrong : ChangeSpec := { name := "entryPasses", fn := fun _ => fun
  | [d1, d2, d3, d4] => { results := [.lit (.bool false)], args := [d1, d2, d3, d4] }
  | _ => none }
def EntryPassesWrongFalsely : Prop := entryPassesRow.holds Tryz.pinned (OpenSpec.ofChange entryPassesWrong)

/-- 'chancerylaw7.EntryPermits': WHATEVER THE INPUT: true; the input reads as it did. -/
def entryPermitsSpec : ChangeSpec := { name := "entryPermits", fn := fun _ => fun
  | [d1, d2, d3] => { results := [.lit (.bool true)], args := [d1, d2, d3] }
  | _ => none }
def entryPermitsRow : OpenClaim := { program := "ytnnopncgpcbjaaagreatdoor", sum := "940ace3c2b9930a3535f1d6a4067c457f2517a7d4a78577c094ba20be3af6caa", func := "chancery/chancerylaw7.EntryPermits", spec := "entryPermits", inPlace := ["internal/bytealg.IndexByteString", "internal/bytealg.IndexString", "internal/bytealg.CountString", "internal/bytealg.abigen_runtime_cmpstring", "internal/abi.NoEscape", "internal/bytealg.MakeNoZero"], unfollowed := true, recurses := true, named := ["internal/bytealg.MaxLen", "unicode/utf8.first", "unicode/utf8.acceptRanges"], plainKeys := false, apart := false, laid := [("unicode/utf8.acceptRanges", laid_unicode_utf8_acceptRanges), ("unicode/utf8.first", laid_unicode_utf8_first)] }
def EntryPermitsSaid : Prop := entryPermitsRow.holds Tryz.pinned (OpenSpec.ofChange entryPermitsSpec)

/-- ITS FALSE NEIGHBOUR: 'it returns false'. Refute it at one input. -/
def entryPermitsWrong : ChangeSpec := { name := "entryPermits", fn := fun _ => fun
  | [d1, d2, d3] => { results := [.lit (.bool false)], args := [d1, d2, d3] }
  | _ => none }
def EntryPermitsWrongFalsely : Prop := entryPermitsRow.holds Tryz.pinned (OpenSpec.ofChange entryPermitsWrong)

/- THE SECOND FORM. 'bulk': how many values and letters a reading holds, each counted each time it is reached (what is shared counts as often as it is met; a slice's spare places count too). A statement '..UptoSaid' is the law's where the arguments, and the package variables that the reading takes, are together of bulk at most 1048576: NARROWER than '..Said'. Prove '..Said' where nothing that the law and all that it calls make is longer than what came in: it says more and counts as full. Else prove '..UptoSaid'. A law counts once. -/
mutual
def uptoBulk {H : Type} : DataW H → Nat
  | .lit (.string bytes) => bytes.length + 1
  | .lit _ => 1
  | .nil => 1
  | .ptr d => uptoBulk d + 1
  | .slice elems spare => uptoBulkAll elems + uptoBulkAll spare + 1
  | .agg parts => uptoBulkAll parts + 1
  | .iface _ d => uptoBulk d + 1
  | .map entries => uptoBulkEntries entries + 1
  | .held _ => 1
def uptoBulkAll {H : Type} : List (DataW H) → Nat
  | [] => 0
  | d :: r => uptoBulk d + uptoBulkAll r
def uptoBulkEntries {H : Type} : List (Lit × DataW H) → Nat
  | [] => 0
  | x :: r => uptoBulkEntry x + uptoBulkEntries r
def uptoBulkEntry {H : Type} : Lit × DataW H → Nat
  | (.string bytes, d) => bytes.length + uptoBulk d + 1
  | (_, d) => uptoBulk d + 1
 end
def uptoSmall : (H : Type) → List (DataW H) → Bool := fun _ ds => decide (uptoBulkAll ds ≤ 1048576)
def OpenSpec.upto (s : _root_.Go.ChangeSpec) : _root_.Go.OpenSpec := { _root_.Go.OpenSpec.ofChange s with cond := some uptoSmall }

/-- 'chancerylaw7.EntryRight', WHERE WHAT IT READS IS OF BULK AT MOST 1048576: true; the input reads as it did. -/
def entryRightUptoRow : OpenClaim := { program := "ytnnopncgpcbjaaagreatdoor", sum := "940ace3c2b9930a3535f1d6a4067c457f2517a7d4a78577c094ba20be3af6caa", func := "chancery/chancerylaw7.EntryRight", spec := "entryRight", inPlace := ["internal/bytealg.IndexByteString", "internal/bytealg.IndexString", "internal/bytealg.CountString", "internal/bytealg.abigen_runtime_cmpstring", "internal/abi.NoEscape", "internal/bytealg.MakeNoZero"], unfollowed := true, recurses := true, named := ["internal/bytealg.MaxLen", "unicode/utf8.first", "unicode/utf8.acceptRanges"], plainKeys := false, apart := false, laid := [("unicode/utf8.acceptRanges", laid_unicode_utf8_acceptRanges), ("unicode/utf8.first", laid_unicode_utf8_first)], narrowed := true }
def EntryRightUptoSaid : Prop := entryRightUptoRow.holds Tryz.pinned (OpenSpec.upto entryRightSpec)

/-- 'chancerylaw16.AclParses', WHERE WHAT IT READS IS OF BULK AT MOST 1048576: true; the input reads as it did. -/
def aclParsesUptoRow : OpenClaim := { program := "ytnnopncgpcbjaaagreatdoor", sum := "940ace3c2b9930a3535f1d6a4067c457f2517a7d4a78577c094ba20be3af6caa", func := "chancery/chancerylaw16.AclParses", spec := "aclParses", inPlace := ["internal/bytealg.IndexByteString", "internal/bytealg.IndexString", "internal/bytealg.CountString", "internal/bytealg.abigen_runtime_cmpstring", "internal/abi.NoEscape", "internal/bytealg.MakeNoZero"], unfollowed := true, recurses := true, named := ["internal/bytealg.MaxLen", "unicode/utf8.first", "unicode/utf8.acceptRanges"], plainKeys := false, apart := false, laid := [("unicode/utf8.acceptRanges", laid_unicode_utf8_acceptRanges), ("unicode/utf8.first", laid_unicode_utf8_first)], narrowed := true }
def AclParsesUptoSaid : Prop := aclParsesUptoRow.holds Tryz.pinned (OpenSpec.upto aclParsesSpec)

/-- 'chancerylaw16.AclBack', WHERE WHAT IT READS IS OF BULK AT MOST 1048576: true; the input reads as it did. -/
def aclBackUptoRow : OpenClaim := { program := "ytnnopncgpcbjaaagreatdoor", sum := "940ace3c2b9930a3535f1d6a4067c457f2517a7d4a78577c094ba20be3af6caa", func := "chancery/chancerylaw16.AclBack", spec := "aclBack", inPlace := ["internal/bytealg.IndexByteString", "internal/bytealg.IndexString", "internal/bytealg.CountString", "internal/bytealg.abigen_runtime_cmpstring", "internal/abi.NoEscape", "internal/bytealg.MakeNoZero"], unfollowed := true, recurses := true, named := ["internal/bytealg.MaxLen", "unicode/utf8.first", "unicode/utf8.acceptRanges"], plainKeys := false, apart := false, laid := [("unicode/utf8.acceptRanges", laid_unicode_utf8_acceptRanges), ("unicode/utf8.first", laid_unicode_utf8_first)], narrowed := true }
def AclBackUptoSaid : Prop := aclBackUptoRow.holds Tryz.pinned (OpenSpec.upto aclBackSpec)

/-- 'chancerylaw16.AclFirst', WHERE WHAT IT READS IS OF BULK AT MOST 1048576: true; the input reads as it did. -/
def aclFirstUptoRow : OpenClaim := { program := "ytnnopncgpcbjaaagreatdoor", sum := "940ace3c2b9930a3535f1d6a4067c457f2517a7d4a78577c094ba20be3af6caa", func := "chancery/chancerylaw16.AclFirst", spec := "aclFirst", inPlace := ["internal/bytealg.IndexByteString", "internal/bytealg.IndexString", "internal/bytealg.CountString", "internal/bytealg.abigen_runtime_cmpstring", "internal/abi.NoEscape", "internal/bytealg.MakeNoZero"], unfollowed := true, recurses := true, named := ["internal/bytealg.MaxLen", "unicode/utf8.first", "unicode/utf8.acceptRanges"], plainKeys := false, apart := false, laid := [("unicode/utf8.acceptRanges", laid_unicode_utf8_acceptRanges), ("unicode/utf8.first", laid_unicode_utf8_first)], narrowed := true }
def AclFirstUptoSaid : Prop := aclFirstUptoRow.holds Tryz.pinned (OpenSpec.upto aclFirstSpec)

/-- 'chancerylaw16.AclInvalid', WHERE WHAT IT READS IS OF BULK AT MOST 1048576: true; the input reads as it did. -/
def aclInvalidUptoRow : OpenClaim := { program := "ytnnopncgpcbjaaagreatdoor", sum := "940ace3c2b9930a3535f1d6a4067c457f2517a7d4a78577c094ba20be3af6caa", func := "chancery/chancerylaw16.AclInvalid", spec := "aclInvalid", inPlace := ["internal/bytealg.IndexByteString", "internal/bytealg.IndexString", "internal/bytealg.CountString", "internal/bytealg.abigen_runtime_cmpstring", "internal/abi.NoEscape", "internal/bytealg.MakeNoZero"], unfollowed := true, recurses := true, named := ["internal/bytealg.MaxLen", "unicode/utf8.first", "unicode/utf8.acceptRanges"], plainKeys := false, apart := false, laid := [("unicode/utf8.acceptRanges", laid_unicode_utf8_acceptRanges), ("unicode/utf8.first", laid_unicode_utf8_first)], narrowed := true }
def AclInvalidUptoSaid : Prop := aclInvalidUptoRow.holds Tryz.pinned (OpenSpec.upto aclInvalidSpec)

/-- 'chancerylaw16.AclWho', WHERE WHAT IT READS IS OF BULK AT MOST 1048576: true; the input reads as it did. -/
def aclWhoUptoRow : OpenClaim := { program := "ytnnopncgpcbjaaagreatdoor", sum := "940ace3c2b9930a3535f1d6a4067c457f2517a7d4a78577c094ba20be3af6caa", func := "chancery/chancerylaw16.AclWho", spec := "aclWho", inPlace := ["internal/bytealg.IndexByteString", "internal/bytealg.IndexString", "internal/bytealg.CountString", "internal/bytealg.abigen_runtime_cmpstring", "internal/abi.NoEscape", "internal/bytealg.MakeNoZero"], unfollowed := true, recurses := true, named := ["internal/bytealg.MaxLen", "unicode/utf8.first", "unicode/utf8.acceptRanges"], plainKeys := false, apart := false, laid := [("unicode/utf8.acceptRanges", laid_unicode_utf8_acceptRanges), ("unicode/utf8.first", laid_unicode_utf8_first)], narrowed := true }
def AclWhoUptoSaid : Prop := aclWhoUptoRow.holds Tryz.pinned (OpenSpec.upto aclWhoSpec)

/-- 'chancerylaw7.EntryStill', WHERE WHAT IT READS IS OF BULK AT MOST 1048576: true; the input reads as it did. -/
def entryStillUptoRow : OpenClaim := { program := "ytnnopncgpcbjaaagreatdoor", sum := "940ace3c2b9930a3535f1d6a4067c457f2517a7d4a78577c094ba20be3af6caa", func := "chancery/chancerylaw7.EntryStill", spec := "entryStill", inPlace := ["internal/bytealg.IndexByteString", "internal/bytealg.IndexString", "internal/bytealg.CountString", "internal/bytealg.abigen_runtime_cmpstring", "internal/abi.NoEscape", "internal/bytealg.MakeNoZero"], unfollowed := true, recurses := true, named := ["internal/bytealg.MaxLen", "unicode/utf8.first", "unicode/utf8.acceptRanges"], plainKeys := false, apart := false, laid := [("unicode/utf8.acceptRanges", laid_unicode_utf8_acceptRanges), ("unicode/utf8.first", laid_unicode_utf8_first)], narrowed := true }
def EntryStillUptoSaid : Prop := entryStillUptoRow.holds Tryz.pinned (OpenSpec.upto entryStillSpec)

/-- 'chancerylaw7.EntryPasses', WHERE WHAT IT READS IS OF BULK AT MOST 1048576: true; the input reads as it did. -/
def entryPassesUptoRow : OpenClaim := { program := "ytnnopncgpcbjaaagreatdoor", sum := "940ace3c2b9930a3535f1d6a4067c457f2517a7d4a78577c094ba20be3af6caa", func := "chancery/chancerylaw7.EntryPasses", spec := "entryPasses", inPlace := ["internal/bytealg.IndexByteString", "internal/bytealg.IndexString", "internal/bytealg.CountString", "internal/bytealg.abigen_runtime_cmpstring", "internal/abi.NoEscape", "internal/bytealg.MakeNoZero"], unfollowed := true, recurses := true, named := ["internal/bytealg.MaxLen", "unicode/utf8.first", "unicode/utf8.acceptRanges"], plainKeys := false, apart := false, laid := [("unicode/utf8.acceptRanges", laid_unicode_utf8_acceptRanges), ("unicode/utf8.first", laid_unicode_utf8_first)], narrowed := true }
def EntryPassesUptoSaid : Prop := entryPassesUptoRow.holds Tryz.pinned (OpenSpec.upto entryPassesSpec)

/-- 'chancerylaw7.EntryPermits', WHERE WHAT IT READS IS OF BULK AT MOST 1048576: true; the input reads as it did. -/
def entryPermitsUptoRow : OpenClaim := { program := "ytnnopncgpcbjaaagreatdoor", sum := "940ace3c2b9930a3535f1d6a4067c457f2517a7d4a78577c094ba20be3af6caa", func := "chancery/chancerylaw7.EntryPermits", spec := "entryPermits", inPlace := ["internal/bytealg.IndexByteString", "internal/bytealg.IndexString", "internal/bytealg.CountString", "internal/bytealg.abigen_runtime_cmpstring", "internal/abi.NoEscape", "internal/bytealg.MakeNoZero"], unfollowed := true, recurses := true, named := ["internal/bytealg.MaxLen", "unicode/utf8.first", "unicode/utf8.acceptRanges"], plainKeys := false, apart := false, laid := [("unicode/utf8.acceptRanges", laid_unicode_utf8_acceptRanges), ("unicode/utf8.first", laid_unicode_utf8_first)], narrowed := true }
def EntryPermitsUptoSaid : Prop := entryPermitsUptoRow.holds Tryz.pinned (OpenSpec.upto entryPermitsSpec)

end Rows
end Go.Proofs.YtnnopncgpcbjaaaGreatDoor
