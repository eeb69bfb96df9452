/-
  NARROWER THAN 'FOR EVERY INPUT', by the rows' own cells (each row's printed sentence says how): ParseIs: laid · ParseWhites: laid · ParseCounts: laid · ParseLists: laid · ParseTexts: laid · ParseDeep: laid · ParseSane: laid.
  DERIVED. THE GIVEN ROWS OF THIS SEAT. 7 by the template 'for every input the law returns true; each argument reads behind the call as it read before'; 0 by the template 'total and deterministic' (their statements: YtckpndbmpigegaaDoorTotals.lean).
  GIVEN WITH THE SEED: the statements are not yours to turn. If you find one false, say at which input.
  Laid BY PROGRAM, IN A SANDBOX (cutbox-rows.mjs): the forced cells as the released guide's own fill.sh prints them over the translation 26a6f041b7f2f642… (all of the seat's roots in one cut). By AI agents, Wed Nov 11 2026. No macro, syntax, notation, axiom, sorry.
-/
import Derived.Test.YtckpndbmpigegaaDoorChecked
import GoSem.PinnedTables
import GoSem.Claim
import GoSem.ClaimJoined
import GoSem.ClaimMapViews
import Derived.JoinedTies
import Derived.KernelRfl
namespace Go.Proofs.YtckpndbmpigegaaDoor
/- THE CELL 'sum', in the pinned program and in every row, IS THE sha256 OF THE DUMP (.gsa) THAT YtckpndbmpigegaaDoorProg.lean LOADS. Nothing in Lean hashes anything: it is a label: what it is worth is what the hold of that sum in a sandbox is worth. -/
noncomputable def Tryd.pinned : Pinned := { name := "ytckpndbmpigegaadoor", sum := "26a6f041b7f2f642f0716d2b7ffa2713caf9d372b595ad0e853c4c49cb0c818f", checked := Tryd.checked }
namespace Rows
def none {H : Type} : Left H := { results := [], args := [] }

/- WHAT THE LISTED PACKAGE-LEVEL VARIABLES READ AS WHEN THE CALL BEGINS. Each datum BY PROGRAM (the guide's laid-datum.mjs) off the statement by which the dump's own 'gosem.cut.vars' lays the variable. In a bare row this is a premise. The card (YtckpndbmpigegaaDoorCards.lean) ties it to the program's text. -/
def laid_unicode_utf8_acceptRanges {H : Type} : DataW H := .agg [.agg [.lit (.int .u8 128), .lit (.int .u8 191)], .agg [.lit (.int .u8 160), .lit (.int .u8 191)], .agg [.lit (.int .u8 128), .lit (.int .u8 159)], .agg [.lit (.int .u8 144), .lit (.int .u8 191)], .agg [.lit (.int .u8 128), .lit (.int .u8 143)], .agg [.lit (.int .u8 0), .lit (.int .u8 0)], .agg [.lit (.int .u8 0), .lit (.int .u8 0)], .agg [.lit (.int .u8 0), .lit (.int .u8 0)], .agg [.lit (.int .u8 0), .lit (.int .u8 0)], .agg [.lit (.int .u8 0), .lit (.int .u8 0)], .agg [.lit (.int .u8 0), .lit (.int .u8 0)], .agg [.lit (.int .u8 0), .lit (.int .u8 0)], .agg [.lit (.int .u8 0), .lit (.int .u8 0)], .agg [.lit (.int .u8 0), .lit (.int .u8 0)], .agg [.lit (.int .u8 0), .lit (.int .u8 0)], .agg [.lit (.int .u8 0), .lit (.int .u8 0)]]
/-- One of Go's own tables, pinned by name: the form's constant. -/
def laid_unicode_utf8_first : DataW Unit := Go.Pinned.utf8First

/-- 'orangerylaw04.ParseIs': WHATEVER THE INPUT: true; the input reads as it did. -/
def parseIsSpec : ChangeSpec := { name := "parseIs", fn := fun _ => fun
  | [d1, d2] => { results := [.lit (.bool true)], args := [d1, d2] }
  | _ => none }
def parseIsRow : OpenClaim := { program := "ytckpndbmpigegaadoor", sum := "26a6f041b7f2f642f0716d2b7ffa2713caf9d372b595ad0e853c4c49cb0c818f", func := "orangery/orangerylaw04.ParseIs", spec := "parseIs", inPlace := ["internal/bytealg.IndexByteString", "internal/bytealg.IndexString"], unfollowed := true, recurses := true, named := ["unicode/utf8.first", "unicode/utf8.acceptRanges", "internal/bytealg.MaxLen"], apart := false, laid := [("unicode/utf8.acceptRanges", laid_unicode_utf8_acceptRanges), ("unicode/utf8.first", laid_unicode_utf8_first)] }
def ParseIsSaid : Prop := parseIsRow.holds Tryd.pinned (OpenSpec.ofChange parseIsSpec)

/-- ITS FALSE NEIGHBOUR: 'it returns false'. Refute it at one input. -/
def parseIsWrong : ChangeSpec := { name := "parseIs", fn := fun _ => fun
  | [d1, d2] => { results := [.lit (.bool false)], args := [d1, d2] }
  | _ => none }
def ParseIsWrongFalsely : Prop := parseIsRow.holds Tryd.pinned (OpenSpec.ofChange parseIsWrong)

/-- 'orangerylaw04.ParseWhites': WHATEVER THE INPUT: true; the input reads as it did. -/
def parseWhitesSpec : ChangeSpec := { name := "parseWhites", fn := fun _ => fun
  | [d1, d2, d3] => { results := [.lit (.bool true)], args := [d1, d2, d3] }
  | _ => none }
def parseWhitesRow : OpenClaim := { program := "ytckpndbmpigegaadoor", sum := "26a6f041b7f2f642f0716d2b7ffa2713caf9d372b595ad0e853c4c49cb0c818f", func := "orangery/orangerylaw04.ParseWhites", spec := "parseWhites", inPlace := ["internal/bytealg.IndexByteString", "internal/bytealg.IndexString"], unfollowed := true, recurses := true, named := ["unicode/utf8.first", "unicode/utf8.acceptRanges", "internal/bytealg.MaxLen"], apart := false, laid := [("unicode/utf8.acceptRanges", laid_unicode_utf8_acceptRanges), ("unicode/utf8.first", laid_unicode_utf8_first)] }
def ParseWhitesSaid : Prop := parseWhitesRow.holds Tryd.pinned (OpenSpec.ofChange parseWhitesSpec)

/-- ITS FALSE NEIGHBOUR: 'it returns false'. Refute it at one input. -/
def parseWhitesWrong : ChangeSpec := { name := "parseWhites", fn := fun _ => fun
  | [d1, d2, d3] => { results := [.lit (.bool false)], args := [d1, d2, d3] }
  | _ => none }
def ParseWhitesWrongFalsely : Prop := parseWhitesRow.holds Tryd.pinned (OpenSpec.ofChange parseWhitesWrong)

/-- 'orangerylaw04.ParseCounts': WHATEVER THE INPUT: true; the input reads as it did. -/
def parseCountsSpec : ChangeSpec := { name := "parseCounts", fn := fun _ => fun
  | [d1, d2] => { results := [.lit (.bool true)], args := [d1, d2] }
  | _ => none }
def parseCountsRow : OpenClaim := { program := "ytckpndbmpigegaadoor", sum := "26a6f041b7f2f642f0716d2b7ffa2713caf9d372b595ad0e853c4c49cb0c818f", func := "orangery/orangerylaw04.ParseCounts", spec := "parseCounts", inPlace := ["internal/bytealg.IndexByteString", "internal/bytealg.IndexString"], unfollowed := true, recurses := true, named := ["unicode/utf8.first", "unicode/utf8.acceptRanges", "internal/bytealg.MaxLen"], apart := false, laid := [("unicode/utf8.acceptRanges", laid_unicode_utf8_acceptRanges), ("unicode/utf8.first", laid_unicode_utf8_first)] }
def ParseCountsSaid : Prop := parseCountsRow.holds Tryd.pinned (OpenSpec.ofChange parseCountsSpec)

/-- ITS FALSE NEIGHBOUR: 'it returns false'. Refute it at one input. -/
def parseCountsWrong : ChangeSpec := { name := "parseCounts", fn := fun _ => fun
  | [d1, d2] => { results := [.lit (.bool false)], args := [d1, d2] }
  | _ => none }
def ParseCountsWrongFalsely : Prop := parseCountsRow.holds Tryd.pinned (OpenSpec.ofChange parseCountsWrong)

/-- 'orangerylaw04.ParseLists': WHATEVER THE INPUT: true; the input reads as it did. -/
def parseListsSpec : ChangeSpec := { name := "parseLists", fn := fun _ => fun
  | [d1, d2] => { results := [.lit (.bool true)], args := [d1, d2] }
  | _ => none }
def parseListsRow : OpenClaim := { program := "ytckpndbmpigegaadoor", sum := "26a6f041b7f2f642f0716d2b7ffa2713caf9d372b595ad0e853c4c49cb0c818f", func := "orangery/orangerylaw04.ParseLists", spec := "parseLists", inPlace := ["internal/bytealg.IndexByteString", "internal/bytealg.IndexString"], unfollowed := true, recurses := true, named := ["unicode/utf8.first", "unicode/utf8.acceptRanges", "internal/bytealg.MaxLen"], apart := false, laid := [("unicode/utf8.acceptRanges", laid_unicode_utf8_acceptRanges), ("unicode/utf8.first", laid_unicode_utf8_first)] }
def ParseListsSaid : Prop := parseListsRow.holds Tryd.pinned (OpenSpec.ofChange parseListsSpec)

/-- ITS FALSE NEIGHBOUR: 'it returns false'. Refute it at one input. -/
def parseListsWrong : ChangeSpec := { name := "parseLists", fn := fun _ => fun
  | [d1, d2] => { results := [.lit (.bool false)], args := [d1, d2] }
  | _ => none }
def ParseListsWrongFalsely : Prop := parseListsRow.holds Tryd.pinned (OpenSpec.ofChange parseListsWrong)

/-- 'orangerylaw04.ParseTexts': WHATEVER THE INPUT: true; the input reads as it did. -/
def parseTextsSpec : ChangeSpec := { name := "parseTexts", fn := fun _ => fun
  | [d1, d2, d3] => { results := [.lit (.bool true)], args := [d1, d2, d3] }
  | _ => none }
def parseTextsRow : OpenClaim := { program := "ytckpndbmpigegaadoor", sum := "26a6f041b7f2f642f0716d2b7ffa2713caf9d372b595ad0e853c4c49cb0c818f", func := "orangery/orangerylaw04.ParseTexts", spec := "parseTexts", inPlace := ["internal/bytealg.IndexByteString", "internal/bytealg.IndexString"], unfollowed := true, recurses := true, named := ["unicode/utf8.first", "unicode/utf8.acceptRanges", "internal/bytealg.MaxLen"], apart := false, laid := [("unicode/utf8.acceptRanges", laid_unicode_utf8_acceptRanges), ("unicode/utf8.first", laid_unicode_utf8_first)] }
def ParseTextsSaid : Prop := parseTextsRow.holds Tryd.pinned (OpenSpec.ofChange parseTextsSpec)

/-- ITS FALSE NEIGHBOUR: 'it returns false'. Refute it at one input. -/
def parseTextsWrong : ChangeSpec := { name := "parseTexts", fn := fun _ => fun
  | [d1, d2, d3] => { results := [.lit (.bool false)], args := [d1, d2, d3] }
  | _ => none }
def ParseTextsWrongFalsely : Prop := parseTextsRow.holds Tryd.pinned (OpenSpec.ofChange parseTextsWrong)

/-- 'orangerylaw04.ParseDeep': WHATEVER THE INPUT: true; the input reads as it did. -/
def parseDeepSpec : ChangeSpec := { name := "parseDeep", fn := fun _ => fun
  | [d1, d2] => { results := [.lit (.bool true)], args := [d1, d2] }
  | _ => none }
def parseDeepRow : OpenClaim := { program := "ytckpndbmpigegaadoor", sum := "26a6f041b7f2f642f0716d2b7ffa2713caf9d372b595ad0e853c4c49cb0c818f", func := "orangery/orangerylaw04.ParseDeep", spec := "parseDeep", inPlace := ["internal/bytealg.IndexByteString", "internal/bytealg.IndexString"], unfollowed := true, recurses := true, named := ["unicode/utf8.first", "unicode/utf8.acceptRanges", "internal/bytealg.MaxLen"], apart := false, laid := [("unicode/utf8.acceptRanges", laid_unicode_utf8_acceptRanges), ("unicode/utf8.first", laid_unicode_utf8_first)] }
def ParseDeepSaid : Prop := parseDeepRow.holds Tryd.pinned (OpenSpec.ofChange parseDeepSpec)

/-- ITS FALSE NEIGHBOUR: 'it returns false'. Refute it at one input. -/
def parseDeepWrong : ChangeSpec := { name := "parseDeep", fn := fun _ => fun
  | [d1, d2] => { results := [.lit (.bool false)], args := [d1, d2] }
  | _ => none }
def ParseDeepWrongFalsely : Prop := parseDeepRow.holds Tryd.pinned (OpenSpec.ofChange parseDeepWrong)

/-- 'orangerylaw04.ParseSane': WHATEVER THE INPUT: true; the input reads as it did. -/
def parseSaneSpec : ChangeSpec := { name := "parseSane", fn := fun _ => fun
  | [d] => { results := [.lit (.bool true)], args := [d] }
  | _ => none }
def parseSaneRow : OpenClaim := { program := "ytckpndbmpigegaadoor", sum := "26a6f041b7f2f642f0716d2b7ffa2713caf9d372b595ad0e853c4c49cb0c818f", func := "orangery/orangerylaw04.ParseSane", spec := "parseSane", inPlace := ["internal/bytealg.IndexByteString", "internal/bytealg.IndexString"], unfollowed := true, recurses := true, named := ["unicode/utf8.first", "unicode/utf8.acceptRanges", "internal/bytealg.MaxLen"], apart := false, laid := [("unicode/utf8.acceptRanges", laid_unicode_utf8_acceptRanges), ("unicode/utf8.first", laid_unicode_utf8_first)] }
def ParseSaneSaid : Prop := parseSaneRow.holds Tryd.pinned (OpenSpec.ofChange parseSaneSpec)

/-- ITS FALSE NEIGHBOUR: 'it returns false'. Refute it at one input. -/
def parseSaneWrong : ChangeSpec := { name := "parseSane", fn := fun _ => fun
  | [d] => { results := [.lit (.bool false)], args := [d] }
  | _ => none }
def ParseSaneWrongFalsely : Prop := parseSaneRow.holds Tryd.pinned (OpenSpec.ofChange parseSaneWrong)

/- THE SECOND FORM. 'bulk': how many values and letters a reading holds, each counted each time it is reached (what is shared counts as often as it is met; a slice's spare places count too). A statement '..UptoSaid' is the law's where the arguments, and the package variables that the reading takes, are together of bulk at most 1048576: NARROWER than '..Said'. Prove '..Said' where nothing that the law and all that it calls make is longer than what came in: it says more and counts as full. Else prove '..UptoSaid'. A law counts once. -/
mutual
def uptoBulk {H : Type} : DataW H → Nat
  | .lit (.string bytes) => bytes.length + 1
  | .lit _ => 1
  | .nil => 1
  | .ptr d => uptoBulk d + 1
  | .slice elems spare => uptoBulkAll elems + uptoBulkAll spare + 1
  | .agg parts => uptoBulkAll parts + 1
  | .iface _ d => uptoBulk d + 1
  | .map entries => uptoBulkEntries entries + 1
  | .held _ => 1
def uptoBulkAll {H : Type} : List (DataW H) → Nat
  | [] => 0
  | d :: r => uptoBulk d + uptoBulkAll r
def uptoBulkEntries {H : Type} : List (Lit × DataW H) → Nat
  | [] => 0
  | x :: r => uptoBulkEntry x + uptoBulkEntries r
def uptoBulkEntry {H : Type} : Lit × DataW H → Nat
  | (.string bytes, d) => bytes.length + uptoBulk d + 1
  | (_, d) => uptoBulk d + 1
 end
def uptoSmall : (H : Type) → List (DataW H) → Bool := fun _ ds => decide (uptoBulkAll ds ≤ 1048576)
def OpenSpec.upto (s : _root_.Go.ChangeSpec) : _root_.Go.OpenSpec := { _root_.Go.OpenSpec.ofChange s with cond := some uptoSmall }

/-- 'orangerylaw04.ParseIs', WHERE WHAT IT READS IS OF BULK AT MOST 1048576: true; the input reads as it did. -/
def parseIsUptoRow : OpenClaim := { program := "ytckpndbmpigegaadoor", sum := "26a6f041b7f2f642f0716d2b7ffa2713caf9d372b595ad0e853c4c49cb0c818f", func := "orangery/orangerylaw04.ParseIs", spec := "parseIs", inPlace := ["internal/bytealg.IndexByteString", "internal/bytealg.IndexString"], unfollowed := true, recurses := true, named := ["unicode/utf8.first", "unicode/utf8.acceptRanges", "internal/bytealg.MaxLen"], apart := false, laid := [("unicode/utf8.acceptRanges", laid_unicode_utf8_acceptRanges), ("unicode/utf8.first", laid_unicode_utf8_first)], narrowed := true }
def ParseIsUptoSaid : Prop := parseIsUptoRow.holds Tryd.pinned (OpenSpec.upto parseIsSpec)

/-- 'orangerylaw04.ParseWhites', WHERE WHAT IT READS IS OF BULK AT MOST 1048576: true; the input reads as it did. -/
def parseWhitesUptoRow : OpenClaim := { program := "ytckpndbmpigegaadoor", sum := "26a6f041b7f2f642f0716d2b7ffa2713caf9d372b595ad0e853c4c49cb0c818f", func := "orangery/orangerylaw04.ParseWhites", spec := "parseWhites", inPlace := ["internal/bytealg.IndexByteString", "internal/bytealg.IndexString"], unfollowed := true, recurses := true, named := ["unicode/utf8.first", "unicode/utf8.acceptRanges", "internal/bytealg.MaxLen"], apart := false, laid := [("unicode/utf8.acceptRanges", laid_unicode_utf8_acceptRanges), ("unicode/utf8.first", laid_unicode_utf8_first)], narrowed := true }
def ParseWhitesUptoSaid : Prop := parseWhitesUptoRow.holds Tryd.pinned (OpenSpec.upto parseWhitesSpec)

/-- 'orangerylaw04.ParseCounts', WHERE WHAT IT READS IS OF BULK AT MOST 1048576: true; the input reads as it did. -/
def parseCountsUptoRow : OpenClaim := { program := "ytckpndbmpigegaadoor", sum := "26a6f041b7f2f642f0716d2b7ffa2713caf9d372b595ad0e853c4c49cb0c818f", func := "orangery/orangerylaw04.ParseCounts", spec := "parseCounts", inPlace := ["internal/bytealg.IndexByteString", "internal/bytealg.IndexString"], unfollowed := true, recurses := true, named := ["unicode/utf8.first", "unicode/utf8.acceptRanges", "internal/bytealg.MaxLen"], apart := false, laid := [("unicode/utf8.acceptRanges", laid_unicode_utf8_acceptRanges), ("unicode/utf8.first", laid_unicode_utf8_first)], narrowed := true }
def ParseCountsUptoSaid : Prop := parseCountsUptoRow.holds Tryd.pinned (OpenSpec.upto parseCountsSpec)

/-- 'orangerylaw04.ParseLists', WHERE WHAT IT READS IS OF BULK AT MOST 1048576: true; the input reads as it did. -/
def parseListsUptoRow : OpenClaim := { program := "ytckpndbmpigegaadoor", sum := "26a6f041b7f2f642f0716d2b7ffa2713caf9d372b595ad0e853c4c49cb0c818f", func := "orangery/orangerylaw04.ParseLists", spec := "parseLists", inPlace := ["internal/bytealg.IndexByteString", "internal/bytealg.IndexString"], unfollowed := true, recurses := true, named := ["unicode/utf8.first", "unicode/utf8.acceptRanges", "internal/bytealg.MaxLen"], apart := false, laid := [("unicode/utf8.acceptRanges", laid_unicode_utf8_acceptRanges), ("unicode/utf8.first", laid_unicode_utf8_first)], narrowed := true }
def ParseListsUptoSaid : Prop := parseListsUptoRow.holds Tryd.pinned (OpenSpec.upto parseListsSpec)

/-- 'orangerylaw04.ParseTexts', WHERE WHAT IT READS IS OF BULK AT MOST 1048576: true; the input reads as it did. -/
def parseTextsUptoRow : OpenClaim := { program := "ytckpndbmpigegaadoor", sum := "26a6f041b7f2f642f0716d2b7ffa2713caf9d372b595ad0e853c4c49cb0c818f", func := "orangery/orangerylaw04.ParseTexts", spec := "parseTexts", inPlace := ["internal/bytealg.IndexByteString", "internal/bytealg.IndexString"], unfollowed := true, recurses := true, named := ["unicode/utf8.first", "unicode/utf8.acceptRanges", "internal/bytealg.MaxLen"], apart := false, laid := [("unicode/utf8.acceptRanges", laid_unicode_utf8_acceptRanges), ("unicode/utf8.first", laid_unicode_utf8_first)], narrowed := true }
def ParseTextsUptoSaid : Prop := parseTextsUptoRow.holds Tryd.pinned (OpenSpec.upto parseTextsSpec)

/-- 'orangerylaw04.ParseDeep', WHERE WHAT IT READS IS OF BULK AT MOST 1048576: true; the input reads as it did. -/
def parseDeepUptoRow : OpenClaim := { program := "ytckpndbmpigegaadoor", sum := "26a6f041b7f2f642f0716d2b7ffa2713caf9d372b595ad0e853c4c49cb0c818f", func := "orangery/orangerylaw04.ParseDeep", spec := "parseDeep", inPlace := ["internal/bytealg.IndexByteString", "internal/bytealg.IndexString"], unfollowed := true, recurses := true, named := ["unicode/utf8.first", "unicode/utf8.acceptRanges", "internal/bytealg.MaxLen"], apart := false, laid := [("unicode/utf8.acceptRanges", laid_unicode_utf8_acceptRanges), ("unicode/utf8.first", laid_unicode_utf8_first)], narrowed := true }
def ParseDeepUptoSaid : Prop := parseDeepUptoRow.holds Tryd.pinned (OpenSpec.upto parseDeepSpec)

/-- 'orangerylaw04.ParseSane', WHERE WHAT IT READS IS OF BULK AT MOST 1048576: true; the input reads as it did. -/
def parseSaneUptoRow : OpenClaim := { program := "ytckpndbmpigegaadoor", sum := "26a6f041b7f2f642f0716d2b7ffa2713caf9d372b595ad0e853c4c49cb0c818f", func := "orangery/orangerylaw04.ParseSane", spec := "parseSane", inPlace := ["internal/bytealg.IndexByteString", "internal/bytealg.IndexString"], unfollowed := true, recurses := true, named := ["unicode/utf8.first", "unicode/utf8.acceptRanges", "internal/bytealg.MaxLen"], apart := false, laid := [("unicode/utf8.acceptRanges", laid_unicode_utf8_acceptRanges), ("unicode/utf8.first", laid_unicode_utf8_first)], narrowed := true }
def ParseSaneUptoSaid : Prop := parseSaneUptoRow.holds Tryd.pinned (OpenSpec.upto parseSaneSpec)

end Rows
end Go.Proofs.YtckpndbmpigegaaDoor
