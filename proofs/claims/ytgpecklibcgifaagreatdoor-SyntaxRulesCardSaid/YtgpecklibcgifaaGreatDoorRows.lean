/-
  NARROWER THAN 'FOR EVERY INPUT', by the rows' own cells (each row's printed sentence says how): SyntaxNumbers: laid · SyntaxRules: laid · SyntaxTwice: laid · SyntaxOrders: laid · SyntaxNames: laid · SyntaxForms: laid · SyntaxPieces: laid.
  DERIVED. THE GIVEN ROWS OF THIS SEAT. 7 by the template 'for every input the law returns true; each argument reads behind the call as it read before'; 0 by the template 'total and deterministic' (their statements: YtgpecklibcgifaaGreatDoorTotals.lean).
  GIVEN WITH THE SEED: the statements are not yours to turn. If you find one false, say at which input.
  Laid BY PROGRAM, IN A SANDBOX (cutbox-rows.mjs): the forced cells as the released guide's own fill.sh prints them over the translation b42635a53e51f209… (all of the seat's roots in one cut). By AI agents, Wed Nov 11 2026. No macro, syntax, notation, axiom, sorry.
-/
import Derived.Test.YtgpecklibcgifaaGreatDoorChecked
import GoSem.PinnedTables
import GoSem.Claim
import GoSem.ClaimJoined
import GoSem.ClaimMapViews
import Derived.JoinedTies
import Derived.KernelRfl
namespace Go.Proofs.YtgpecklibcgifaaGreatDoor
/- THE CELL 'sum', in the pinned program and in every row, IS THE sha256 OF THE DUMP (.gsa) THAT YtgpecklibcgifaaGreatDoorProg.lean LOADS. Nothing in Lean hashes anything: it is a label: what it is worth is what the hold of that sum in a sandbox is worth. -/
noncomputable def Tryz.pinned : Pinned := { name := "ytgpecklibcgifaagreatdoor", sum := "b42635a53e51f209521f2e75ec422893f65e276b7dc2235b0fc85e060d0bfb82", checked := Tryz.checked }
namespace Rows
def none {H : Type} : Left H := { results := [], args := [] }

/- WHAT THE LISTED PACKAGE-LEVEL VARIABLES READ AS WHEN THE CALL BEGINS. Each datum BY PROGRAM (the guide's laid-datum.mjs) off the statement by which the dump's own 'gosem.cut.vars' lays the variable. In a bare row this is a premise. The card (YtgpecklibcgifaaGreatDoorCards.lean) ties it to the program's text. -/
def laid_unicode_utf8_acceptRanges {H : Type} : DataW H := .agg [.agg [.lit (.int .u8 128), .lit (.int .u8 191)], .agg [.lit (.int .u8 160), .lit (.int .u8 191)], .agg [.lit (.int .u8 128), .lit (.int .u8 159)], .agg [.lit (.int .u8 144), .lit (.int .u8 191)], .agg [.lit (.int .u8 128), .lit (.int .u8 143)], .agg [.lit (.int .u8 0), .lit (.int .u8 0)], .agg [.lit (.int .u8 0), .lit (.int .u8 0)], .agg [.lit (.int .u8 0), .lit (.int .u8 0)], .agg [.lit (.int .u8 0), .lit (.int .u8 0)], .agg [.lit (.int .u8 0), .lit (.int .u8 0)], .agg [.lit (.int .u8 0), .lit (.int .u8 0)], .agg [.lit (.int .u8 0), .lit (.int .u8 0)], .agg [.lit (.int .u8 0), .lit (.int .u8 0)], .agg [.lit (.int .u8 0), .lit (.int .u8 0)], .agg [.lit (.int .u8 0), .lit (.int .u8 0)], .agg [.lit (.int .u8 0), .lit (.int .u8 0)]]
/-- One of Go's own tables, pinned by name: the form's constant. -/
def laid_unicode_utf8_first : DataW Unit := Go.Pinned.utf8First

/-- 'chancerylaw5.SyntaxNumbers': WHATEVER THE INPUT: true; the input reads as it did. -/
def syntaxNumbersSpec : ChangeSpec := { name := "syntaxNumbers", fn := fun _ => fun
  | [d1, d2] => { results := [.lit (.bool true)], args := [d1, d2] }
  | _ => none }
def syntaxNumbersRow : OpenClaim := { program := "ytgpecklibcgifaagreatdoor", sum := "b42635a53e51f209521f2e75ec422893f65e276b7dc2235b0fc85e060d0bfb82", func := "chancery/chancerylaw5.SyntaxNumbers", spec := "syntaxNumbers", inPlace := ["internal/bytealg.IndexByteString", "internal/bytealg.IndexString", "internal/bytealg.CountString", "internal/bytealg.abigen_runtime_cmpstring", "internal/abi.NoEscape", "internal/bytealg.MakeNoZero"], unfollowed := true, recurses := true, named := ["unicode/utf8.first", "unicode/utf8.acceptRanges", "internal/bytealg.MaxLen"], plainKeys := false, apart := false, laid := [("unicode/utf8.acceptRanges", laid_unicode_utf8_acceptRanges), ("unicode/utf8.first", laid_unicode_utf8_first)] }
def SyntaxNumbersSaid : Prop := syntaxNumbersRow.holds Tryz.pinned (OpenSpec.ofChange syntaxNumbersSpec)

/-- ITS FALSE NEIGHBOUR: 'it returns false'. Refute it at one input. -/
def syntaxNumbersWrong : ChangeSpec := { name := "syntaxNumbers", fn := fun _ => fun
  | [d1, d2] => { results := [.lit (.bool false)], args := [d1, d2] }
  | _ => none }
def SyntaxNumbersWrongFalsely : Prop := syntaxNumbersRow.holds Tryz.pinned (OpenSpec.ofChange syntaxNumbersWrong)

/-- 'chancerylaw5.SyntaxRules': WHATEVER THE INPUT: true; the input reads as it did. -/
def syntaxRulesSpec : ChangeSpec := { name := "syntaxRules", fn := fun _ => fun
  | [d1, d2, d3] => { results := [.lit (.bool true)], args := [d1, d2, d3] }
  | _ => none }
def syntaxRulesRow : OpenClaim := { program := "ytgpecklibcgifaagreatdoor", sum := "b42635a53e51f209521f2e75ec422893f65e276b7dc2235b0fc85e060d0bfb82", func := "chancery/chancerylaw5.SyntaxRules", spec := "syntaxRules", inPlace := ["internal/bytealg.IndexByteString", "internal/bytealg.IndexString", "internal/bytealg.CountString", "internal/bytealg.abigen_runtime_cmpstring", "internal/abi.NoEscape", "internal/bytealg.MakeNoZero"], unfollowed := true, recurses := true, named := ["unicode/utf8.first", "unicode/utf8.acceptRanges", "internal/bytealg.MaxLen"], plainKeys := false, apart := false, laid := [("unicode/utf8.acceptRanges", laid_unicode_utf8_acceptRanges), ("unicode/utf8.first", laid_unicode_utf8_first)] }
def SyntaxRulesSaid : Prop := syntaxRulesRow.holds Tryz.pinned (OpenSpec.ofChange syntaxRulesSpec)

/-- ITS FALSE NEIGHBOUR: 'it returns false'. Refute it at one input. -/
def syntaxRulesWrong : ChangeSpec := { name := "syntaxRules", fn := fun _ => fun
  | [d1, d2, d3] => { results := [.lit (.bool false)], args := [d1, d2, d3] }
  | _ => none }
def SyntaxRulesWrongFalsely : Prop := syntaxRulesRow.holds Tryz.pinned (OpenSpec.ofChange syntaxRulesWrong)

/-- 'chancerylaw5.SyntaxTwice': WHATEVER THE INPUT: true; the input reads as it did. -/
def syntaxTwiceSpec : ChangeSpec := { name := "syntaxTwice", fn := fun _ => fun
  | [d] => { results := [.lit (.bool true)], args := [d] }
  | _ => none }
def syntaxTwiceRow : OpenClaim := { program := "ytgpecklibcgifaagreatdoor", sum := "b42635a53e51f209521f2e75ec422893f65e276b7dc2235b0fc85e060d0bfb82", func := "chancery/chancerylaw5.SyntaxTwice", spec := "syntaxTwice", inPlace := ["internal/bytealg.IndexByteString", "internal/bytealg.IndexString", "internal/bytealg.CountString", "internal/bytealg.abigen_runtime_cmpstring", "internal/abi.NoEscape", "internal/bytealg.MakeNoZero"], unfollowed := true, recurses := true, named := ["unicode/utf8.first", "unicode/utf8.acceptRanges", "internal/bytealg.MaxLen"], plainKeys := false, apart := false, laid := [("unicode/utf8.acceptRanges", laid_unicode_utf8_acceptRanges), ("unicode/utf8.first", laid_unicode_utf8_first)] }
def SyntaxTwiceSaid : Prop := syntaxTwiceRow.holds Tryz.pinned (OpenSpec.ofChange syntaxTwiceSpec)

/-- ITS FALSE NEIGHBOUR: 'it returns false'. Refute it at one input. -/
def syntaxTwiceWrong : ChangeSpec := { name := "syntaxTwice", fn := fun _ => fun
  | [d] => { results := [.lit (.bool false)], args := [d] }
  | _ => none }
def SyntaxTwiceWrongFalsely : Prop := syntaxTwiceRow.holds Tryz.pinned (OpenSpec.ofChange syntaxTwiceWrong)

/-- 'chancerylaw5.SyntaxOrders': WHATEVER THE INPUT: true; the input reads as it did. -/
def syntaxOrdersSpec : ChangeSpec := { name := "syntaxOrders", fn := fun _ => fun
  | [d1, d2, d3] => { results := [.lit (.bool true)], args := [d1, d2, d3] }
  | _ => none }
def syntaxOrdersRow : OpenClaim := { program := "ytgpecklibcgifaagreatdoor", sum := "b42635a53e51f209521f2e75ec422893f65e276b7dc2235b0fc85e060d0bfb82", func := "chancery/chancerylaw5.SyntaxOrders", spec := "syntaxOrders", inPlace := ["internal/bytealg.IndexByteString", "internal/bytealg.IndexString", "internal/bytealg.CountString", "internal/bytealg.abigen_runtime_cmpstring", "internal/abi.NoEscape", "internal/bytealg.MakeNoZero"], unfollowed := true, recurses := true, named := ["unicode/utf8.first", "unicode/utf8.acceptRanges", "internal/bytealg.MaxLen"], plainKeys := false, apart := false, laid := [("unicode/utf8.acceptRanges", laid_unicode_utf8_acceptRanges), ("unicode/utf8.first", laid_unicode_utf8_first)] }
def SyntaxOrdersSaid : Prop := syntaxOrdersRow.holds Tryz.pinned (OpenSpec.ofChange syntaxOrdersSpec)

/-- ITS FALSE NEIGHBOUR: 'it returns false'. Refute it at one input. -/
def syntaxOrdersWrong : ChangeSpec := { name := "syntaxOrders", fn := fun _ => fun
  | [d1, d2, d3] => { results := [.lit (.bool false)], args := [d1, d2, d3] }
  | _ => none }
def SyntaxOrdersWrongFalsely : Prop := syntaxOrdersRow.holds Tryz.pinned (OpenSpec.ofChange syntaxOrdersWrong)

/-- 'chancerylaw5.SyntaxNames': WHATEVER THE INPUT: true; the input reads as it did. -/
def syntaxNamesSpec : ChangeSpec := { name := "syntaxNames", fn := fun _ => fun
  | [d1, d2] => { results := [.lit (.bool true)], args := [d1, d2] }
  | _ => none }
def syntaxNamesRow : OpenClaim := { program := "ytgpecklibcgifaagreatdoor", sum := "b42635a53e51f209521f2e75ec422893f65e276b7dc2235b0fc85e060d0bfb82", func := "chancery/chancerylaw5.SyntaxNames", spec := "syntaxNames", inPlace := ["internal/bytealg.IndexByteString", "internal/bytealg.IndexString", "internal/bytealg.CountString", "internal/bytealg.abigen_runtime_cmpstring", "internal/abi.NoEscape", "internal/bytealg.MakeNoZero"], unfollowed := true, recurses := true, named := ["unicode/utf8.first", "unicode/utf8.acceptRanges", "internal/bytealg.MaxLen"], plainKeys := false, apart := false, laid := [("unicode/utf8.acceptRanges", laid_unicode_utf8_acceptRanges), ("unicode/utf8.first", laid_unicode_utf8_first)] }
def SyntaxNamesSaid : Prop := syntaxNamesRow.holds Tryz.pinned (OpenSpec.ofChange syntaxNamesSpec)

/-- ITS FALSE NEIGHBOUR: 'it returns false'. Refute it at one input. -/
def syntaxNamesWrong : ChangeSpec := { name := "syntaxNames", fn := fun _ => fun
  | [d1, d2] => { results := [.lit (.bool false)], args := [d1, d2] }
  | _ => none }
def SyntaxNamesWrongFalsely : Prop := syntaxNamesRow.holds Tryz.pinned (OpenSpec.ofChange syntaxNamesWrong)

/-- 'chancerylaw5.SyntaxForms': WHATEVER THE INPUT: true; the input reads as it did. -/
def syntaxFormsSpec : ChangeSpec := { name := "syntaxForms", fn := fun _ => fun
  | [d1, d2] => { results := [.lit (.bool true)], args := [d1, d2] }
  | _ => none }
def syntaxFormsRow : OpenClaim := { program := "ytgpecklibcgifaagreatdoor", sum := "b42635a53e51f209521f2e75ec422893f65e276b7dc2235b0fc85e060d0bfb82", func := "chancery/chancerylaw5.SyntaxForms", spec := "syntaxForms", inPlace := ["internal/bytealg.IndexByteString", "internal/bytealg.IndexString", "internal/bytealg.CountString", "internal/bytealg.abigen_runtime_cmpstring", "internal/abi.NoEscape", "internal/bytealg.MakeNoZero"], unfollowed := true, recurses := true, named := ["unicode/utf8.first", "unicode/utf8.acceptRanges", "internal/bytealg.MaxLen"], plainKeys := false, apart := false, laid := [("unicode/utf8.acceptRanges", laid_unicode_utf8_acceptRanges), ("unicode/utf8.first", laid_unicode_utf8_first)] }
def SyntaxFormsSaid : Prop := syntaxFormsRow.holds Tryz.pinned (OpenSpec.ofChange syntaxFormsSpec)

/-- ITS FALSE NEIGHBOUR: 'it returns false'. Refute it at one input. -/
def syntaxFormsWrong : ChangeSpec := { name := "syntaxForms", fn := fun _ => fun
  | [d1, d2] => { results := [.lit (.bool false)], args := [d1, d2] }
  | _ => none }
def SyntaxFormsWrongFalsely : Prop := syntaxFormsRow.holds Tryz.pinned (OpenSpec.ofChange syntaxFormsWrong)

/-- 'chancerylaw5.SyntaxPieces': WHATEVER THE INPUT: true; the input reads as it did. -/
def syntaxPiecesSpec : ChangeSpec := { name := "syntaxPieces", fn := fun _ => fun
  | [d1, d2, d3, d4] => { results := [.lit (.bool true)], args := [d1, d2, d3, d4] }
  | _ => none }
def syntaxPiecesRow : OpenClaim := { program := "ytgpecklibcgifaagreatdoor", sum := "b42635a53e51f209521f2e75ec422893f65e276b7dc2235b0fc85e060d0bfb82", func := "chancery/chancerylaw5.SyntaxPieces", spec := "syntaxPieces", inPlace := ["internal/bytealg.IndexByteString", "internal/bytealg.IndexString", "internal/bytealg.CountString", "internal/bytealg.abigen_runtime_cmpstring", "internal/abi.NoEscape", "internal/bytealg.MakeNoZero"], unfollowed := true, recurses := true, named := ["unicode/utf8.first", "unicode/utf8.acceptRanges", "internal/bytealg.MaxLen"], plainKeys := false, apart := false, laid := [("unicode/utf8.acceptRanges", laid_unicode_utf8_acceptRanges), ("unicode/utf8.first", laid_unicode_utf8_first)] }
def SyntaxPiecesSaid : Prop := syntaxPiecesRow.holds Tryz.pinned (OpenSpec.ofChange syntaxPiecesSpec)

/-- ITS FALSE NEIGHBOUR: 'it returns false'. Refute it at one input. -/
def syntaxPiecesWrong : ChangeSpec := { name := "syntaxPieces", fn := fun _ => fun
  | [d1, d2, d3, d4] => { results := [.lit (.bool false)], args := [d1, d2, d3, d4] }
  | _ => none }
def SyntaxPiecesWrongFalsely : Prop := syntaxPiecesRow.holds Tryz.pinned (OpenSpec.ofChange syntaxPiecesWrong)

/- THE SECOND FORM. 'bulk': how many values and letters a reading holds, each counted each time it is reached (what is shared counts as often as it is met; a slice's spare places count too). A statement '..UptoSaid' is the law's where the arguments, and the package variables that the reading takes, are together of bulk at most 1048576: NARROWER than '..Said'. Prove '..Said' where nothing that the law and all that it calls make is longer than what came in: it says more and counts as full. Else prove '..UptoSaid'. A law counts once. -/
mutual
def uptoBulk {H : Type} : DataW H → Nat
  | .lit (.string bytes) => bytes.length + 1
  | .lit _ => 1
  | .nil => 1
  | .ptr d => uptoBulk d + 1
  | .slice elems spare => uptoBulkAll elems + uptoBulkAll spare + 1
  | .agg parts => uptoBulkAll parts + 1
  | .iface _ d => uptoBulk d + 1
  | .map entries => uptoBulkEntries entries + 1
  | .held _ => 1
def uptoBulkAll {H : Type} : List (DataW H) → Nat
  | [] => 0
  | d :: r => uptoBulk d + uptoBulkAll r
def uptoBulkEntries {H : Type} : List (Lit × DataW H) → Nat
  | [] => 0
  | x :: r => uptoBulkEntry x + uptoBulkEntries r
def uptoBulkEntry {H : Type} : Lit × DataW H → Nat
  | (.string bytes, d) => bytes.length + uptoBulk d + 1
  | (_, d) => uptoBulk d + 1
 end
def uptoSmall : (H : Type) → List (DataW H) → Bool := fun _ ds => decide (uptoBulkAll ds ≤ 1048576)
def OpenSpec.upto (s : _root_.Go.ChangeSpec) : _root_.Go.OpenSpec := { _root_.Go.OpenSpec.ofChange s with cond := some uptoSmall }

/-- 'chancerylaw5.SyntaxNumbers', WHERE WHAT IT READS IS OF BULK AT MOST 1048576: true; the input reads as it did. -/
def syntaxNumbersUptoRow : OpenClaim := { program := "ytgpecklibcgifaagreatdoor", sum := "b42635a53e51f209521f2e75ec422893f65e276b7dc2235b0fc85e060d0bfb82", func := "chancery/chancerylaw5.SyntaxNumbers", spec := "syntaxNumbers", inPlace := ["internal/bytealg.IndexByteString", "internal/bytealg.IndexString", "internal/bytealg.CountString", "internal/bytealg.abigen_runtime_cmpstring", "internal/abi.NoEscape", "internal/bytealg.MakeNoZero"], unfollowed := true, recurses := true, named := ["unicode/utf8.first", "unicode/utf8.acceptRanges", "internal/bytealg.MaxLen"], plainKeys := false, apart := false, laid := [("unicode/utf8.acceptRanges", laid_unicode_utf8_acceptRanges), ("unicode/utf8.first", laid_unicode_utf8_first)], narrowed := true }
def SyntaxNumbersUptoSaid : Prop := syntaxNumbersUptoRow.holds Tryz.pinned (OpenSpec.upto syntaxNumbersSpec)

/-- 'chancerylaw5.SyntaxRules', WHERE WHAT IT READS IS OF BULK AT MOST 1048576: true; the input reads as it did. -/
def syntaxRulesUptoRow : OpenClaim := { program := "ytgpecklibcgifaagreatdoor", sum := "b42635a53e51f209521f2e75ec422893f65e276b7dc2235b0fc85e060d0bfb82", func := "chancery/chancerylaw5.SyntaxRules", spec := "syntaxRules", inPlace := ["internal/bytealg.IndexByteString", "internal/bytealg.IndexString", "internal/bytealg.CountString", "internal/bytealg.abigen_runtime_cmpstring", "internal/abi.NoEscape", "internal/bytealg.MakeNoZero"], unfollowed := true, recurses := true, named := ["unicode/utf8.first", "unicode/utf8.acceptRanges", "internal/bytealg.MaxLen"], plainKeys := false, apart := false, laid := [("unicode/utf8.acceptRanges", laid_unicode_utf8_acceptRanges), ("unicode/utf8.first", laid_unicode_utf8_first)], narrowed := true }
def SyntaxRulesUptoSaid : Prop := syntaxRulesUptoRow.holds Tryz.pinned (OpenSpec.upto syntaxRulesSpec)

/-- 'chancerylaw5.SyntaxTwice', WHERE WHAT IT READS IS OF BULK AT MOST 1048576: true; the input reads as it did. -/
def syntaxTwiceUptoRow : OpenClaim := { program := "ytgpecklibcgifaagreatdoor", sum := "b42635a53e51f209521f2e75ec422893f65e276b7dc2235b0fc85e060d0bfb82", func := "chancery/chancerylaw5.SyntaxTwice", spec := "syntaxTwice", inPlace := ["internal/bytealg.IndexByteString", "internal/bytealg.IndexString", "internal/bytealg.CountString", "internal/bytealg.abigen_runtime_cmpstring", "internal/abi.NoEscape", "internal/bytealg.MakeNoZero"], unfollowed := true, recurses := true, named := ["unicode/utf8.first", "unicode/utf8.acceptRanges", "internal/bytealg.MaxLen"], plainKeys := false, apart := false, laid := [("unicode/utf8.acceptRanges", laid_unicode_utf8_acceptRanges), ("unicode/utf8.first", laid_unicode_utf8_first)], narrowed := true }
def SyntaxTwiceUptoSaid : Prop := syntaxTwiceUptoRow.holds Tryz.pinned (OpenSpec.upto syntaxTwiceSpec)

/-- 'chancerylaw5.SyntaxOrders', WHERE WHAT IT READS IS OF BULK AT MOST 1048576: true; the input reads as it did. -/
def syntaxOrdersUptoRow : OpenClaim := { program := "ytgpecklibcgifaagreatdoor", sum := "b42635a53e51f209521f2e75ec422893f65e276b7dc2235b0fc85e060d0bfb82", func := "chancery/chancerylaw5.SyntaxOrders", spec := "syntaxOrders", inPlace := ["internal/bytealg.IndexByteString", "internal/bytealg.IndexString", "internal/bytealg.CountString", "internal/bytealg.abigen_runtime_cmpstring", "internal/abi.NoEscape", "internal/bytealg.MakeNoZero"], unfollowed := true, recurses := true, named := ["unicode/utf8.first", "unicode/utf8.acceptRanges", "internal/bytealg.MaxLen"], plainKeys := false, apart := false, laid := [("unicode/utf8.acceptRanges", laid_unicode_utf8_acceptRanges), ("unicode/utf8.first", laid_unicode_utf8_first)], narrowed := true }
def SyntaxOrdersUptoSaid : Prop := syntaxOrdersUptoRow.holds Tryz.pinned (OpenSpec.upto syntaxOrdersSpec)

/-- 'chancerylaw5.SyntaxNames', WHERE WHAT IT READS IS OF BULK AT MOST 1048576: true; the input reads as it did. -/
def syntaxNamesUptoRow : OpenClaim := { program := "ytgpecklibcgifaagreatdoor", sum := "b42635a53e51f209521f2e75ec422893f65e276b7dc2235b0fc85e060d0bfb82", func := "chancery/chancerylaw5.SyntaxNames", spec := "syntaxNames", inPlace := ["internal/bytealg.IndexByteString", "internal/bytealg.IndexString", "internal/bytealg.CountString", "internal/bytealg.abigen_runtime_cmpstring", "internal/abi.NoEscape", "internal/bytealg.MakeNoZero"], unfollowed := true, recurses := true, named := ["unicode/utf8.first", "unicode/utf8.acceptRanges", "internal/bytealg.MaxLen"], plainKeys := false, apart := false, laid := [("unicode/utf8.acceptRanges", laid_unicode_utf8_acceptRanges), ("unicode/utf8.first", laid_unicode_utf8_first)], narrowed := true }
def SyntaxNamesUptoSaid : Prop := syntaxNamesUptoRow.holds Tryz.pinned (OpenSpec.upto syntaxNamesSpec)

/-- 'chancerylaw5.SyntaxForms', WHERE WHAT IT READS IS OF BULK AT MOST 1048576: true; the input reads as it did. -/
def syntaxFormsUptoRow : OpenClaim := { program := "ytgpecklibcgifaagreatdoor", sum := "b42635a53e51f209521f2e75ec422893f65e276b7dc2235b0fc85e060d0bfb82", func := "chancery/chancerylaw5.SyntaxForms", spec := "syntaxForms", inPlace := ["internal/bytealg.IndexByteString", "internal/bytealg.IndexString", "internal/bytealg.CountString", "internal/bytealg.abigen_runtime_cmpstring", "internal/abi.NoEscape", "internal/bytealg.MakeNoZero"], unfollowed := true, recurses := true, named := ["unicode/utf8.first", "unicode/utf8.acceptRanges", "internal/bytealg.MaxLen"], plainKeys := false, apart := false, laid := [("unicode/utf8.acceptRanges", laid_unicode_utf8_acceptRanges), ("unicode/utf8.first", laid_unicode_utf8_first)], narrowed := true }
def SyntaxFormsUptoSaid : Prop := syntaxFormsUptoRow.holds Tryz.pinned (OpenSpec.upto syntaxFormsSpec)

/-- 'chancerylaw5.SyntaxPieces', WHERE WHAT IT READS IS OF BULK AT MOST 1048576: true; the input reads as it did. -/
def syntaxPiecesUptoRow : OpenClaim := { program := "ytgpecklibcgifaagreatdoor", sum := "b42635a53e51f209521f2e75ec422893f65e276b7dc2235b0fc85e060d0bfb82", func := "chancery/chancerylaw5.SyntaxPieces", spec := "syntaxPieces", inPlace := ["internal/bytealg.IndexByteString", "internal/bytealg.IndexString", "internal/bytealg.CountString", "internal/bytealg.abigen_runtime_cmpstring", "internal/abi.NoEscape", "internal/bytealg.MakeNoZero"], unfollowed := true, recurses := true, named := ["unicode/utf8.first", "unicode/utf8.acceptRanges", "internal/bytealg.MaxLen"], plainKeys := false, apart := false, laid := [("unicode/utf8.acceptRanges", laid_unicode_utf8_acceptRanges), ("unicode/utf8.first", laid_unicode_utf8_first)], narrowed := true }
def SyntaxPiecesUptoSaid : Prop := syntaxPiecesUptoRow.holds Tryz.pinned (OpenSpec.upto syntaxPiecesSpec)

end Rows
end Go.Proofs.YtgpecklibcgifaaGreatDoor
