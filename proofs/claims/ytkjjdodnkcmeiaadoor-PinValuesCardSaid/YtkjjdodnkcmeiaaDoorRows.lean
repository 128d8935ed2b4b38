/-
  NARROWER THAN 'FOR EVERY INPUT', by the rows' own cells (each row's printed sentence says how): PinBlocks: laid · PinRight: laid · PinValues: laid · PinValue: laid · PinBack: laid · PinThere: laid.
  DERIVED. THE GIVEN ROWS OF THIS SEAT. 6 by the template 'for every input the law returns true; each argument reads behind the call as it read before'; 0 by the template 'total and deterministic' (their statements: YtkjjdodnkcmeiaaDoorTotals.lean).
  GIVEN WITH THE SEED: the statements are not yours to turn. If you find one false, say at which input.
  Laid BY PROGRAM, IN A SANDBOX (cutbox-rows.mjs): the forced cells as the released guide's own fill.sh prints them over the translation 41ba807c1b66e562… (all of the seat's roots in one cut). By AI agents, Wed Nov 11 2026. No macro, syntax, notation, axiom, sorry.
-/
import Derived.Test.YtkjjdodnkcmeiaaDoorChecked
import GoSem.PinnedTables
import GoSem.Claim
import GoSem.ClaimJoined
import GoSem.ClaimMapViews
import Derived.JoinedTies
import Derived.KernelRfl
namespace Go.Proofs.YtkjjdodnkcmeiaaDoor
/- THE CELL 'sum', in the pinned program and in every row, IS THE sha256 OF THE DUMP (.gsa) THAT YtkjjdodnkcmeiaaDoorProg.lean LOADS. Nothing in Lean hashes anything: it is a label: what it is worth is what the hold of that sum in a sandbox is worth. -/
noncomputable def Tryd.pinned : Pinned := { name := "ytkjjdodnkcmeiaadoor", sum := "41ba807c1b66e562625158f62bba274a13c4e1e2e8726da73311aef833a6bf9b", checked := Tryd.checked }
namespace Rows
def none {H : Type} : Left H := { results := [], args := [] }

/- WHAT THE LISTED PACKAGE-LEVEL VARIABLES READ AS WHEN THE CALL BEGINS. Each datum BY PROGRAM (the guide's laid-datum.mjs) off the statement by which the dump's own 'gosem.cut.vars' lays the variable. In a bare row this is a premise. The card (YtkjjdodnkcmeiaaDoorCards.lean) ties it to the program's text. -/
def laid_unicode_utf8_acceptRanges {H : Type} : DataW H := .agg [.agg [.lit (.int .u8 128), .lit (.int .u8 191)], .agg [.lit (.int .u8 160), .lit (.int .u8 191)], .agg [.lit (.int .u8 128), .lit (.int .u8 159)], .agg [.lit (.int .u8 144), .lit (.int .u8 191)], .agg [.lit (.int .u8 128), .lit (.int .u8 143)], .agg [.lit (.int .u8 0), .lit (.int .u8 0)], .agg [.lit (.int .u8 0), .lit (.int .u8 0)], .agg [.lit (.int .u8 0), .lit (.int .u8 0)], .agg [.lit (.int .u8 0), .lit (.int .u8 0)], .agg [.lit (.int .u8 0), .lit (.int .u8 0)], .agg [.lit (.int .u8 0), .lit (.int .u8 0)], .agg [.lit (.int .u8 0), .lit (.int .u8 0)], .agg [.lit (.int .u8 0), .lit (.int .u8 0)], .agg [.lit (.int .u8 0), .lit (.int .u8 0)], .agg [.lit (.int .u8 0), .lit (.int .u8 0)], .agg [.lit (.int .u8 0), .lit (.int .u8 0)]]
/-- One of Go's own tables, pinned by name: the form's constant. -/
def laid_unicode_utf8_first : DataW Unit := Go.Pinned.utf8First

/-- 'turnstilelaw6.PinBlocks': WHATEVER THE INPUT: true; the input reads as it did. -/
def pinBlocksSpec : ChangeSpec := { name := "pinBlocks", fn := fun _ => fun
  | [d1, d2, d3, d4, d5] => { results := [.lit (.bool true)], args := [d1, d2, d3, d4, d5] }
  | _ => none }
def pinBlocksRow : OpenClaim := { program := "ytkjjdodnkcmeiaadoor", sum := "41ba807c1b66e562625158f62bba274a13c4e1e2e8726da73311aef833a6bf9b", func := "turnstile/turnstilelaw6.PinBlocks", spec := "pinBlocks", inPlace := ["internal/bytealg.IndexByteString", "internal/abi.NoEscape", "internal/bytealg.MakeNoZero", "internal/bytealg.IndexString"], named := ["unicode/utf8.first", "unicode/utf8.acceptRanges", "internal/bytealg.MaxLen"], apart := false, laid := [("unicode/utf8.acceptRanges", laid_unicode_utf8_acceptRanges), ("unicode/utf8.first", laid_unicode_utf8_first)] }
def PinBlocksSaid : Prop := pinBlocksRow.holds Tryd.pinned (OpenSpec.ofChange pinBlocksSpec)

/-- ITS FALSE NEIGHBOUR: 'it returns false'. Refute it at one input. -/
def pinBlocksWrong : ChangeSpec := { name := "pinBlocks", fn := fun _ => fun
  | [d1, d2, d3, d4, d5] => { results := [.lit (.bool false)], args := [d1, d2, d3, d4, d5] }
  | _ => none }
def PinBlocksWrongFalsely : Prop := pinBlocksRow.holds Tryd.pinned (OpenSpec.ofChange pinBlocksWrong)

/-- 'turnstilelaw6.PinRight': WHATEVER THE INPUT: true; the input reads as it did. -/
def pinRightSpec : ChangeSpec := { name := "pinRight", fn := fun _ => fun
  | [d1, d2, d3, d4] => { results := [.lit (.bool true)], args := [d1, d2, d3, d4] }
  | _ => none }
def pinRightRow : OpenClaim := { program := "ytkjjdodnkcmeiaadoor", sum := "41ba807c1b66e562625158f62bba274a13c4e1e2e8726da73311aef833a6bf9b", func := "turnstile/turnstilelaw6.PinRight", spec := "pinRight", inPlace := ["internal/bytealg.IndexByteString", "internal/abi.NoEscape", "internal/bytealg.MakeNoZero", "internal/bytealg.IndexString"], named := ["unicode/utf8.first", "unicode/utf8.acceptRanges", "internal/bytealg.MaxLen"], apart := false, laid := [("unicode/utf8.acceptRanges", laid_unicode_utf8_acceptRanges), ("unicode/utf8.first", laid_unicode_utf8_first)] }
def PinRightSaid : Prop := pinRightRow.holds Tryd.pinned (OpenSpec.ofChange pinRightSpec)

/-- ITS FALSE NEIGHBOUR: 'it returns false'. Refute it at one input. -/
def pinRightWrong : ChangeSpec := { name := "pinRight", fn := fun _ => fun
  | [d1, d2, d3, d4] => { results := [.lit (.bool false)], args := [d1, d2, d3, d4] }
  | _ => none }
def PinRightWrongFalsely : Prop := pinRightRow.holds Tryd.pinned (OpenSpec.ofChange pinRightWrong)

/-- 'turnstilelaw6.PinValues': WHATEVER THE INPUT: true; the input reads as it did. -/
def pinValuesSpec : ChangeSpec := { name := "pinValues", fn := fun _ => fun
  | [d1, d2, d3, d4] => { results := [.lit (.bool true)], args := [d1, d2, d3, d4] }
  | _ => none }
def pinValuesRow : OpenClaim := { program := "ytkjjdodnkcmeiaadoor", sum := "41ba807c1b66e562625158f62bba274a13c4e1e2e8726da73311aef833a6bf9b", func := "turnstile/turnstilelaw6.PinValues", spec := "pinValues", inPlace := ["internal/bytealg.IndexByteString", "internal/abi.NoEscape", "internal/bytealg.MakeNoZero", "internal/bytealg.IndexString"], unfollowed := true, recurses := true, named := ["unicode/utf8.first", "unicode/utf8.acceptRanges", "internal/bytealg.MaxLen"], apart := false, laid := [("unicode/utf8.acceptRanges", laid_unicode_utf8_acceptRanges), ("unicode/utf8.first", laid_unicode_utf8_first)] }
def PinValuesSaid : Prop := pinValuesRow.holds Tryd.pinned (OpenSpec.ofChange pinValuesSpec)

/-- ITS FALSE NEIGHBOUR: 'it returns false'. Refute it at one input. -/
def pinValuesWrong : ChangeSpec := { name := "pinValues", fn := fun _ => fun
  | [d1, d2, d3, d4] => { results := [.lit (.bool false)], args := [d1, d2, d3, d4] }
  | _ => none }
def PinValuesWrongFalsely : Prop := pinValuesRow.holds Tryd.pinned (OpenSpec.ofChange pinValuesWrong)

/-- 'turnstilelaw6.PinValue': WHATEVER THE INPUT: true; the input reads as it did. -/
def pinValueSpec : ChangeSpec := { name := "pinValue", fn := fun _ => fun
  | [d1, d2, d3, d4, d5, d6, d7, d8] => { results := [.lit (.bool true)], args := [d1, d2, d3, d4, d5, d6, d7, d8] }
  | _ => none }
def pinValueRow : OpenClaim := { program := "ytkjjdodnkcmeiaadoor", sum := "41ba807c1b66e562625158f62bba274a13c4e1e2e8726da73311aef833a6bf9b", func := "turnstile/turnstilelaw6.PinValue", spec := "pinValue", inPlace := ["internal/bytealg.IndexByteString", "internal/abi.NoEscape", "internal/bytealg.MakeNoZero", "internal/bytealg.IndexString"], unfollowed := true, recurses := true, named := ["unicode/utf8.first", "unicode/utf8.acceptRanges", "internal/bytealg.MaxLen"], apart := false, laid := [("unicode/utf8.acceptRanges", laid_unicode_utf8_acceptRanges), ("unicode/utf8.first", laid_unicode_utf8_first)] }
def PinValueSaid : Prop := pinValueRow.holds Tryd.pinned (OpenSpec.ofChange pinValueSpec)

/-- ITS FALSE NEIGHBOUR: 'it returns false'. Refute it at one input. -/
def pinValueWrong : ChangeSpec := { name := "pinValue", fn := fun _ => fun
  | [d1, d2, d3, d4, d5, d6, d7, d8] => { results := [.lit (.bool false)], args := [d1, d2, d3, d4, d5, d6, d7, d8] }
  | _ => none }
def PinValueWrongFalsely : Prop := pinValueRow.holds Tryd.pinned (OpenSpec.ofChange pinValueWrong)

/-- 'turnstilelaw6.PinBack': WHATEVER THE INPUT: true; the input reads as it did. -/
def pinBackSpec : ChangeSpec := { name := "pinBack", fn := fun _ => fun
  | [d1, d2, d3, d4, d5, d6, d7] => { results := [.lit (.bool true)], args := [d1, d2, d3, d4, d5, d6, d7] }
  | _ => none }
def pinBackRow : OpenClaim := { program := "ytkjjdodnkcmeiaadoor", sum := "41ba807c1b66e562625158f62bba274a13c4e1e2e8726da73311aef833a6bf9b", func := "turnstile/turnstilelaw6.PinBack", spec := "pinBack", inPlace := ["internal/bytealg.IndexByteString", "internal/abi.NoEscape", "internal/bytealg.MakeNoZero", "internal/bytealg.IndexString"], unfollowed := true, recurses := true, named := ["unicode/utf8.first", "unicode/utf8.acceptRanges", "internal/bytealg.MaxLen"], apart := false, laid := [("unicode/utf8.acceptRanges", laid_unicode_utf8_acceptRanges), ("unicode/utf8.first", laid_unicode_utf8_first)] }
def PinBackSaid : Prop := pinBackRow.holds Tryd.pinned (OpenSpec.ofChange pinBackSpec)

/-- ITS FALSE NEIGHBOUR: 'it returns false'. Refute it at one input. -/
def pinBackWrong : ChangeSpec := { name := "pinBack", fn := fun _ => fun
  | [d1, d2, d3, d4, d5, d6, d7] => { results := [.lit (.bool false)], args := [d1, d2, d3, d4, d5, d6, d7] }
  | _ => none }
def PinBackWrongFalsely : Prop := pinBackRow.holds Tryd.pinned (OpenSpec.ofChange pinBackWrong)

/-- 'turnstilelaw6.PinThere': WHATEVER THE INPUT: true; the input reads as it did. -/
def pinThereSpec : ChangeSpec := { name := "pinThere", fn := fun _ => fun
  | [d1, d2, d3, d4, d5, d6, d7, d8, d9, d10] => { results := [.lit (.bool true)], args := [d1, d2, d3, d4, d5, d6, d7, d8, d9, d10] }
  | _ => none }
def pinThereRow : OpenClaim := { program := "ytkjjdodnkcmeiaadoor", sum := "41ba807c1b66e562625158f62bba274a13c4e1e2e8726da73311aef833a6bf9b", func := "turnstile/turnstilelaw6.PinThere", spec := "pinThere", inPlace := ["internal/bytealg.IndexByteString", "internal/abi.NoEscape", "internal/bytealg.MakeNoZero", "internal/bytealg.IndexString"], unfollowed := true, recurses := true, named := ["unicode/utf8.first", "unicode/utf8.acceptRanges", "internal/bytealg.MaxLen"], apart := false, laid := [("unicode/utf8.acceptRanges", laid_unicode_utf8_acceptRanges), ("unicode/utf8.first", laid_unicode_utf8_first)] }
def PinThereSaid : Prop := pinThereRow.holds Tryd.pinned (OpenSpec.ofChange pinThereSpec)

/-- ITS FALSE NEIGHBOUR: 'it returns false'. Refute it at one input. -/
def pinThereWrong : ChangeSpec := { name := "pinThere", fn := fun _ => fun
  | [d1, d2, d3, d4, d5, d6, d7, d8, d9, d10] => { results := [.lit (.bool false)], args := [d1, d2, d3, d4, d5, d6, d7, d8, d9, d10] }
  | _ => none }
def PinThereWrongFalsely : Prop := pinThereRow.holds Tryd.pinned (OpenSpec.ofChange pinThereWrong)

/- THE SECOND FORM. 'bulk': how many values and letters a reading holds, each counted each time it is reached (what is shared counts as often as it is met; a slice's spare places count too). A statement '..UptoSaid' is the law's where the arguments, and the package variables that the reading takes, are together of bulk at most 1048576: NARROWER than '..Said'. Prove '..Said' where nothing that the law and all that it calls make is longer than what came in: it says more and counts as full. Else prove '..UptoSaid'. A law counts once. -/
mutual
def uptoBulk {H : Type} : DataW H → Nat
  | .lit (.string bytes) => bytes.length + 1
  | .lit _ => 1
  | .nil => 1
  | .ptr d => uptoBulk d + 1
  | .slice elems spare => uptoBulkAll elems + uptoBulkAll spare + 1
  | .agg parts => uptoBulkAll parts + 1
  | .iface _ d => uptoBulk d + 1
  | .map entries => uptoBulkEntries entries + 1
  | .held _ => 1
def uptoBulkAll {H : Type} : List (DataW H) → Nat
  | [] => 0
  | d :: r => uptoBulk d + uptoBulkAll r
def uptoBulkEntries {H : Type} : List (Lit × DataW H) → Nat
  | [] => 0
  | x :: r => uptoBulkEntry x + uptoBulkEntries r
def uptoBulkEntry {H : Type} : Lit × DataW H → Nat
  | (.string bytes, d) => bytes.length + uptoBulk d + 1
  | (_, d) => uptoBulk d + 1
 end
def uptoSmall : (H : Type) → List (DataW H) → Bool := fun _ ds => decide (uptoBulkAll ds ≤ 1048576)
def OpenSpec.upto (s : _root_.Go.ChangeSpec) : _root_.Go.OpenSpec := { _root_.Go.OpenSpec.ofChange s with cond := some uptoSmall }

/-- 'turnstilelaw6.PinBlocks', WHERE WHAT IT READS IS OF BULK AT MOST 1048576: true; the input reads as it did. -/
def pinBlocksUptoRow : OpenClaim := { program := "ytkjjdodnkcmeiaadoor", sum := "41ba807c1b66e562625158f62bba274a13c4e1e2e8726da73311aef833a6bf9b", func := "turnstile/turnstilelaw6.PinBlocks", spec := "pinBlocks", inPlace := ["internal/bytealg.IndexByteString", "internal/abi.NoEscape", "internal/bytealg.MakeNoZero", "internal/bytealg.IndexString"], named := ["unicode/utf8.first", "unicode/utf8.acceptRanges", "internal/bytealg.MaxLen"], apart := false, laid := [("unicode/utf8.acceptRanges", laid_unicode_utf8_acceptRanges), ("unicode/utf8.first", laid_unicode_utf8_first)], narrowed := true }
def PinBlocksUptoSaid : Prop := pinBlocksUptoRow.holds Tryd.pinned (OpenSpec.upto pinBlocksSpec)

/-- 'turnstilelaw6.PinRight', WHERE WHAT IT READS IS OF BULK AT MOST 1048576: true; the input reads as it did. -/
def pinRightUptoRow : OpenClaim := { program := "ytkjjdodnkcmeiaadoor", sum := "41ba807c1b66e562625158f62bba274a13c4e1e2e8726da73311aef833a6bf9b", func := "turnstile/turnstilelaw6.PinRight", spec := "pinRight", inPlace := ["internal/bytealg.IndexByteString", "internal/abi.NoEscape", "internal/bytealg.MakeNoZero", "internal/bytealg.IndexString"], named := ["unicode/utf8.first", "unicode/utf8.acceptRanges", "internal/bytealg.MaxLen"], apart := false, laid := [("unicode/utf8.acceptRanges", laid_unicode_utf8_acceptRanges), ("unicode/utf8.first", laid_unicode_utf8_first)], narrowed := true }
def PinRightUptoSaid : Prop := pinRightUptoRow.holds Tryd.pinned (OpenSpec.upto pinRightSpec)

/-- 'turnstilelaw6.PinValues', WHERE WHAT IT READS IS OF BULK AT MOST 1048576: true; the input reads as it did. -/
def pinValuesUptoRow : OpenClaim := { program := "ytkjjdodnkcmeiaadoor", sum := "41ba807c1b66e562625158f62bba274a13c4e1e2e8726da73311aef833a6bf9b", func := "turnstile/turnstilelaw6.PinValues", spec := "pinValues", inPlace := ["internal/bytealg.IndexByteString", "internal/abi.NoEscape", "internal/bytealg.MakeNoZero", "internal/bytealg.IndexString"], unfollowed := true, recurses := true, named := ["unicode/utf8.first", "unicode/utf8.acceptRanges", "internal/bytealg.MaxLen"], apart := false, laid := [("unicode/utf8.acceptRanges", laid_unicode_utf8_acceptRanges), ("unicode/utf8.first", laid_unicode_utf8_first)], narrowed := true }
def PinValuesUptoSaid : Prop := pinValuesUptoRow.holds Tryd.pinned (OpenSpec.upto pinValuesSpec)

/-- 'turnstilelaw6.PinValue', WHERE WHAT IT READS IS OF BULK AT MOST 1048576: true; the input reads as it did. -/
def pinValueUptoRow : OpenClaim := { program := "ytkjjdodnkcmeiaadoor", sum := "41ba807c1b66e562625158f62bba274a13c4e1e2e8726da73311aef833a6bf9b", func := "turnstile/turnstilelaw6.PinValue", spec := "pinValue", inPlace := ["internal/bytealg.IndexByteString", "internal/abi.NoEscape", "internal/bytealg.MakeNoZero", "internal/bytealg.IndexString"], unfollowed := true, recurses := true, named := ["unicode/utf8.first", "unicode/utf8.acceptRanges", "internal/bytealg.MaxLen"], apart := false, laid := [("unicode/utf8.acceptRanges", laid_unicode_utf8_acceptRanges), ("unicode/utf8.first", laid_unicode_utf8_first)], narrowed := true }
def PinValueUptoSaid : Prop := pinValueUptoRow.holds Tryd.pinned (OpenSpec.upto pinValueSpec)

/-- 'turnstilelaw6.PinBack', WHERE WHAT IT READS IS OF BULK AT MOST 1048576: true; the input reads as it did. -/
def pinBackUptoRow : OpenClaim := { program := "ytkjjdodnkcmeiaadoor", sum := "41ba807c1b66e562625158f62bba274a13c4e1e2e8726da73311aef833a6bf9b", func := "turnstile/turnstilelaw6.PinBack", spec := "pinBack", inPlace := ["internal/bytealg.IndexByteString", "internal/abi.NoEscape", "internal/bytealg.MakeNoZero", "internal/bytealg.IndexString"], unfollowed := true, recurses := true, named := ["unicode/utf8.first", "unicode/utf8.acceptRanges", "internal/bytealg.MaxLen"], apart := false, laid := [("unicode/utf8.acceptRanges", laid_unicode_utf8_acceptRanges), ("unicode/utf8.first", laid_unicode_utf8_first)], narrowed := true }
def PinBackUptoSaid : Prop := pinBackUptoRow.holds Tryd.pinned (OpenSpec.upto pinBackSpec)

/-- 'turnstilelaw6.PinThere', WHERE WHAT IT READS IS OF BULK AT MOST 1048576: true; the input reads as it did. -/
def pinThereUptoRow : OpenClaim := { program := "ytkjjdodnkcmeiaadoor", sum := "41ba807c1b66e562625158f62bba274a13c4e1e2e8726da73311aef833a6bf9b", func := "turnstile/turnstilelaw6.PinThere", spec := "pinThere", inPlace := ["internal/bytealg.IndexByteString", "internal/abi.NoEscape", "internal/bytealg.MakeNoZero", "internal/bytealg.IndexString"], unfollowed := true, recurses := true, named := ["unicode/utf8.first", "unicode/utf8.acceptRanges", "internal/bytealg.MaxLen"], apart := false, laid := [("unicode/utf8.acceptRanges", laid_unicode_utf8_acceptRanges), ("unicode/utf8.first", laid_unicode_utf8_first)], narrowed := true }
def PinThereUptoSaid : Prop := pinThereUptoRow.holds Tryd.pinned (OpenSpec.upto pinThereSpec)

end Rows
end Go.Proofs.YtkjjdodnkcmeiaaDoor
