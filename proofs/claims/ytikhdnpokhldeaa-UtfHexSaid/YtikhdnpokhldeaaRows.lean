/-
  No cell of these rows narrows 'for every input' (looked for: loops, veiled, ifaces, maps, wideKeys, modest, calm, conditions, laid).
  DERIVED. THE GIVEN ROWS OF THIS SEAT. 8 by the template 'for every input the law returns true; each argument reads behind the call as it read before'; 0 by the template 'total and deterministic' (their statements: YtikhdnpokhldeaaTotals.lean).
  GIVEN WITH THE SEED: the statements are not yours to turn. If you find one false, say at which input.
  Laid BY PROGRAM, IN A SANDBOX (cutbox-rows.mjs): the forced cells as the released guide's own fill.sh prints them over the translation e6ffd8f7c76f7a65… (all of the seat's roots in one cut). By AI agents, Wed Nov 11 2026. No macro, syntax, notation, axiom, sorry.
-/
import Derived.Test.YtikhdnpokhldeaaChecked
import GoSem.Claim
import GoSem.ClaimJoined
import GoSem.ClaimMapViews
import Derived.JoinedTies
import Derived.KernelRfl
namespace Go.Proofs.Ytikhdnpokhldeaa
/- THE CELL 'sum', in the pinned program and in every row, IS THE sha256 OF THE DUMP (.gsa) THAT YtikhdnpokhldeaaProg.lean LOADS. Nothing in Lean hashes anything: it is a label: what it is worth is what the hold of that sum in a sandbox is worth. -/
noncomputable def Try.pinned : Pinned := { name := "ytikhdnpokhldeaa", sum := "e6ffd8f7c76f7a6569be31bc8c1dae0e6d60d4c563a15892b5259771edfa372c", checked := Try.checked }
namespace Rows
def none {H : Type} : Left H := { results := [], args := [] }

/-- 'orangerylaw01.UtfBack': WHATEVER THE INPUT: true; the input reads as it did. -/
def utfBackSpec : ChangeSpec := { name := "utfBack", fn := fun _ => fun
  | [d1, d2] => { results := [.lit (.bool true)], args := [d1, d2] }
  | _ => none }
def utfBackRow : OpenClaim := { program := "ytikhdnpokhldeaa", sum := "e6ffd8f7c76f7a6569be31bc8c1dae0e6d60d4c563a15892b5259771edfa372c", func := "orangery/orangerylaw01.UtfBack", spec := "utfBack", inPlace := ["internal/abi.NoEscape", "internal/bytealg.IndexByteString"], apart := false }
def UtfBackSaid : Prop := utfBackRow.holds Try.pinned (OpenSpec.ofChange utfBackSpec)

/-- ITS FALSE NEIGHBOUR: 'it returns false'. Refute it at one input. -/
def utfBackWrong : ChangeSpec := { name := "utfBack", fn := fun _ => fun
  | [d1, d2] => { results := [.lit (.bool false)], args := [d1, d2] }
  | _ => none }
def UtfBackWrongFalsely : Prop := utfBackRow.holds Try.pinned (OpenSpec.ofChange utfBackWrong)

/-- 'orangerylaw01.UtfJoins': WHATEVER THE INPUT: true; the input reads as it did. -/
def utfJoinsSpec : ChangeSpec := { name := "utfJoins", fn := fun _ => fun
  | [d1, d2, d3] => { results := [.lit (.bool true)], args := [d1, d2, d3] }
  | _ => none }
def utfJoinsRow : OpenClaim := { program := "ytikhdnpokhldeaa", sum := "e6ffd8f7c76f7a6569be31bc8c1dae0e6d60d4c563a15892b5259771edfa372c", func := "orangery/orangerylaw01.UtfJoins", spec := "utfJoins", inPlace := ["internal/abi.NoEscape", "internal/bytealg.IndexByteString"], unfollowed := true, recurses := true, apart := false }
def UtfJoinsSaid : Prop := utfJoinsRow.holds Try.pinned (OpenSpec.ofChange utfJoinsSpec)

/-- ITS FALSE NEIGHBOUR: 'it returns false'. Refute it at one input. -/
def utfJoinsWrong : ChangeSpec := { name := "utfJoins", fn := fun _ => fun
  | [d1, d2, d3] => { results := [.lit (.bool false)], args := [d1, d2, d3] }
  | _ => none }
def UtfJoinsWrongFalsely : Prop := utfJoinsRow.holds Try.pinned (OpenSpec.ofChange utfJoinsWrong)

/-- 'orangerylaw01.UtfOrder': WHATEVER THE INPUT: true; the input reads as it did. -/
def utfOrderSpec : ChangeSpec := { name := "utfOrder", fn := fun _ => fun
  | [d1, d2, d3] => { results := [.lit (.bool true)], args := [d1, d2, d3] }
  | _ => none }
def utfOrderRow : OpenClaim := { program := "ytikhdnpokhldeaa", sum := "e6ffd8f7c76f7a6569be31bc8c1dae0e6d60d4c563a15892b5259771edfa372c", func := "orangery/orangerylaw01.UtfOrder", spec := "utfOrder", inPlace := ["internal/abi.NoEscape", "internal/bytealg.IndexByteString"], unfollowed := true, recurses := true, apart := false }
def UtfOrderSaid : Prop := utfOrderRow.holds Try.pinned (OpenSpec.ofChange utfOrderSpec)

/-- ITS FALSE NEIGHBOUR: 'it returns false'. Refute it at one input. -/
def utfOrderWrong : ChangeSpec := { name := "utfOrder", fn := fun _ => fun
  | [d1, d2, d3] => { results := [.lit (.bool false)], args := [d1, d2, d3] }
  | _ => none }
def UtfOrderWrongFalsely : Prop := utfOrderRow.holds Try.pinned (OpenSpec.ofChange utfOrderWrong)

/-- 'orangerylaw01.UtfFirst': WHATEVER THE INPUT: true; the input reads as it did. -/
def utfFirstSpec : ChangeSpec := { name := "utfFirst", fn := fun _ => fun
  | [d] => { results := [.lit (.bool true)], args := [d] }
  | _ => none }
def utfFirstRow : OpenClaim := { program := "ytikhdnpokhldeaa", sum := "e6ffd8f7c76f7a6569be31bc8c1dae0e6d60d4c563a15892b5259771edfa372c", func := "orangery/orangerylaw01.UtfFirst", spec := "utfFirst", inPlace := ["internal/abi.NoEscape", "internal/bytealg.IndexByteString"], unfollowed := true, recurses := true, apart := false }
def UtfFirstSaid : Prop := utfFirstRow.holds Try.pinned (OpenSpec.ofChange utfFirstSpec)

/-- ITS FALSE NEIGHBOUR: 'it returns false'. Refute it at one input. -/
def utfFirstWrong : ChangeSpec := { name := "utfFirst", fn := fun _ => fun
  | [d] => { results := [.lit (.bool false)], args := [d] }
  | _ => none }
def UtfFirstWrongFalsely : Prop := utfFirstRow.holds Try.pinned (OpenSpec.ofChange utfFirstWrong)

/-- 'orangerylaw01.UtfPuts': WHATEVER THE INPUT: true; the input reads as it did. -/
def utfPutsSpec : ChangeSpec := { name := "utfPuts", fn := fun _ => fun
  | [d1, d2, d3, d4] => { results := [.lit (.bool true)], args := [d1, d2, d3, d4] }
  | _ => none }
def utfPutsRow : OpenClaim := { program := "ytikhdnpokhldeaa", sum := "e6ffd8f7c76f7a6569be31bc8c1dae0e6d60d4c563a15892b5259771edfa372c", func := "orangery/orangerylaw01.UtfPuts", spec := "utfPuts", inPlace := ["internal/abi.NoEscape", "internal/bytealg.IndexByteString"], unfollowed := true, recurses := true, apart := false }
def UtfPutsSaid : Prop := utfPutsRow.holds Try.pinned (OpenSpec.ofChange utfPutsSpec)

/-- ITS FALSE NEIGHBOUR: 'it returns false'. Refute it at one input. -/
def utfPutsWrong : ChangeSpec := { name := "utfPuts", fn := fun _ => fun
  | [d1, d2, d3, d4] => { results := [.lit (.bool false)], args := [d1, d2, d3, d4] }
  | _ => none }
def UtfPutsWrongFalsely : Prop := utfPutsRow.holds Try.pinned (OpenSpec.ofChange utfPutsWrong)

/-- 'orangerylaw01.UtfHex': WHATEVER THE INPUT: true; the input reads as it did. -/
def utfHexSpec : ChangeSpec := { name := "utfHex", fn := fun _ => fun
  | [d1, d2, d3] => { results := [.lit (.bool true)], args := [d1, d2, d3] }
  | _ => none }
def utfHexRow : OpenClaim := { program := "ytikhdnpokhldeaa", sum := "e6ffd8f7c76f7a6569be31bc8c1dae0e6d60d4c563a15892b5259771edfa372c", func := "orangery/orangerylaw01.UtfHex", spec := "utfHex", inPlace := ["internal/abi.NoEscape", "internal/bytealg.IndexByteString"], apart := false }
def UtfHexSaid : Prop := utfHexRow.holds Try.pinned (OpenSpec.ofChange utfHexSpec)

/-- ITS FALSE NEIGHBOUR: 'it returns false'. Refute it at one input. -/
def utfHexWrong : ChangeSpec := { name := "utfHex", fn := fun _ => fun
  | [d1, d2, d3] => { results := [.lit (.bool false)], args := [d1, d2, d3] }
  | _ => none }
def UtfHexWrongFalsely : Prop := utfHexRow.holds Try.pinned (OpenSpec.ofChange utfHexWrong)

/-- 'orangerylaw01.UtfReads': WHATEVER THE INPUT: true; the input reads as it did. -/
def utfReadsSpec : ChangeSpec := { name := "utfReads", fn := fun _ => fun
  | [d] => { results := [.lit (.bool true)], args := [d] }
  | _ => none }
def utfReadsRow : OpenClaim := { program := "ytikhdnpokhldeaa", sum := "e6ffd8f7c76f7a6569be31bc8c1dae0e6d60d4c563a15892b5259771edfa372c", func := "orangery/orangerylaw01.UtfReads", spec := "utfReads", inPlace := ["internal/abi.NoEscape", "internal/bytealg.IndexByteString"], unfollowed := true, recurses := true, apart := false }
def UtfReadsSaid : Prop := utfReadsRow.holds Try.pinned (OpenSpec.ofChange utfReadsSpec)

/-- ITS FALSE NEIGHBOUR: 'it returns false'. Refute it at one input. -/
def utfReadsWrong : ChangeSpec := { name := "utfReads", fn := fun _ => fun
  | [d] => { results := [.lit (.bool false)], args := [d] }
  | _ => none }
def UtfReadsWrongFalsely : Prop := utfReadsRow.holds Try.pinned (OpenSpec.ofChange utfReadsWrong)

/-- 'orangerylaw01.UtfQuotes': WHATEVER THE INPUT: true; the input reads as it did. -/
def utfQuotesSpec : ChangeSpec := { name := "utfQuotes", fn := fun _ => fun
  | [d] => { results := [.lit (.bool true)], args := [d] }
  | _ => none }
def utfQuotesRow : OpenClaim := { program := "ytikhdnpokhldeaa", sum := "e6ffd8f7c76f7a6569be31bc8c1dae0e6d60d4c563a15892b5259771edfa372c", func := "orangery/orangerylaw01.UtfQuotes", spec := "utfQuotes", inPlace := ["internal/abi.NoEscape", "internal/bytealg.IndexByteString"], apart := false }
def UtfQuotesSaid : Prop := utfQuotesRow.holds Try.pinned (OpenSpec.ofChange utfQuotesSpec)

/-- ITS FALSE NEIGHBOUR: 'it returns false'. Refute it at one input. -/
def utfQuotesWrong : ChangeSpec := { name := "utfQuotes", fn := fun _ => fun
  | [d] => { results := [.lit (.bool false)], args := [d] }
  | _ => none }
def UtfQuotesWrongFalsely : Prop := utfQuotesRow.holds Try.pinned (OpenSpec.ofChange utfQuotesWrong)

/- THE SECOND FORM. 'bulk': how many values and letters a reading holds, each counted each time it is reached (what is shared counts as often as it is met; a slice's spare places count too). A statement '..UptoSaid' is the law's where the arguments, and the package variables that the reading takes, are together of bulk at most 1048576: NARROWER than '..Said'. Prove '..Said' where nothing that the law and all that it calls make is longer than what came in: it says more and counts as full. Else prove '..UptoSaid'. A law counts once. -/
mutual
def uptoBulk {H : Type} : DataW H → Nat
  | .lit (.string bytes) => bytes.length + 1
  | .lit _ => 1
  | .nil => 1
  | .ptr d => uptoBulk d + 1
  | .slice elems spare => uptoBulkAll elems + uptoBulkAll spare + 1
  | .agg parts => uptoBulkAll parts + 1
  | .iface _ d => uptoBulk d + 1
  | .map entries => uptoBulkEntries entries + 1
  | .held _ => 1
def uptoBulkAll {H : Type} : List (DataW H) → Nat
  | [] => 0
  | d :: r => uptoBulk d + uptoBulkAll r
def uptoBulkEntries {H : Type} : List (Lit × DataW H) → Nat
  | [] => 0
  | x :: r => uptoBulkEntry x + uptoBulkEntries r
def uptoBulkEntry {H : Type} : Lit × DataW H → Nat
  | (.string bytes, d) => bytes.length + uptoBulk d + 1
  | (_, d) => uptoBulk d + 1
 end
def uptoSmall : (H : Type) → List (DataW H) → Bool := fun _ ds => decide (uptoBulkAll ds ≤ 1048576)
def OpenSpec.upto (s : _root_.Go.ChangeSpec) : _root_.Go.OpenSpec := { _root_.Go.OpenSpec.ofChange s with cond := some uptoSmall }

/-- 'orangerylaw01.UtfBack', WHERE WHAT IT READS IS OF BULK AT MOST 1048576: true; the input reads as it did. -/
def utfBackUptoRow : OpenClaim := { program := "ytikhdnpokhldeaa", sum := "e6ffd8f7c76f7a6569be31bc8c1dae0e6d60d4c563a15892b5259771edfa372c", func := "orangery/orangerylaw01.UtfBack", spec := "utfBack", inPlace := ["internal/abi.NoEscape", "internal/bytealg.IndexByteString"], apart := false, narrowed := true }
def UtfBackUptoSaid : Prop := utfBackUptoRow.holds Try.pinned (OpenSpec.upto utfBackSpec)

/-- 'orangerylaw01.UtfJoins', WHERE WHAT IT READS IS OF BULK AT MOST 1048576: true; the input reads as it did. -/
def utfJoinsUptoRow : OpenClaim := { program := "ytikhdnpokhldeaa", sum := "e6ffd8f7c76f7a6569be31bc8c1dae0e6d60d4c563a15892b5259771edfa372c", func := "orangery/orangerylaw01.UtfJoins", spec := "utfJoins", inPlace := ["internal/abi.NoEscape", "internal/bytealg.IndexByteString"], unfollowed := true, recurses := true, apart := false, narrowed := true }
def UtfJoinsUptoSaid : Prop := utfJoinsUptoRow.holds Try.pinned (OpenSpec.upto utfJoinsSpec)

/-- 'orangerylaw01.UtfOrder', WHERE WHAT IT READS IS OF BULK AT MOST 1048576: true; the input reads as it did. -/
def utfOrderUptoRow : OpenClaim := { program := "ytikhdnpokhldeaa", sum := "e6ffd8f7c76f7a6569be31bc8c1dae0e6d60d4c563a15892b5259771edfa372c", func := "orangery/orangerylaw01.UtfOrder", spec := "utfOrder", inPlace := ["internal/abi.NoEscape", "internal/bytealg.IndexByteString"], unfollowed := true, recurses := true, apart := false, narrowed := true }
def UtfOrderUptoSaid : Prop := utfOrderUptoRow.holds Try.pinned (OpenSpec.upto utfOrderSpec)

/-- 'orangerylaw01.UtfFirst', WHERE WHAT IT READS IS OF BULK AT MOST 1048576: true; the input reads as it did. -/
def utfFirstUptoRow : OpenClaim := { program := "ytikhdnpokhldeaa", sum := "e6ffd8f7c76f7a6569be31bc8c1dae0e6d60d4c563a15892b5259771edfa372c", func := "orangery/orangerylaw01.UtfFirst", spec := "utfFirst", inPlace := ["internal/abi.NoEscape", "internal/bytealg.IndexByteString"], unfollowed := true, recurses := true, apart := false, narrowed := true }
def UtfFirstUptoSaid : Prop := utfFirstUptoRow.holds Try.pinned (OpenSpec.upto utfFirstSpec)

/-- 'orangerylaw01.UtfPuts', WHERE WHAT IT READS IS OF BULK AT MOST 1048576: true; the input reads as it did. -/
def utfPutsUptoRow : OpenClaim := { program := "ytikhdnpokhldeaa", sum := "e6ffd8f7c76f7a6569be31bc8c1dae0e6d60d4c563a15892b5259771edfa372c", func := "orangery/orangerylaw01.UtfPuts", spec := "utfPuts", inPlace := ["internal/abi.NoEscape", "internal/bytealg.IndexByteString"], unfollowed := true, recurses := true, apart := false, narrowed := true }
def UtfPutsUptoSaid : Prop := utfPutsUptoRow.holds Try.pinned (OpenSpec.upto utfPutsSpec)

/-- 'orangerylaw01.UtfHex', WHERE WHAT IT READS IS OF BULK AT MOST 1048576: true; the input reads as it did. -/
def utfHexUptoRow : OpenClaim := { program := "ytikhdnpokhldeaa", sum := "e6ffd8f7c76f7a6569be31bc8c1dae0e6d60d4c563a15892b5259771edfa372c", func := "orangery/orangerylaw01.UtfHex", spec := "utfHex", inPlace := ["internal/abi.NoEscape", "internal/bytealg.IndexByteString"], apart := false, narrowed := true }
def UtfHexUptoSaid : Prop := utfHexUptoRow.holds Try.pinned (OpenSpec.upto utfHexSpec)

/-- 'orangerylaw01.UtfReads', WHERE WHAT IT READS IS OF BULK AT MOST 1048576: true; the input reads as it did. -/
def utfReadsUptoRow : OpenClaim := { program := "ytikhdnpokhldeaa", sum := "e6ffd8f7c76f7a6569be31bc8c1dae0e6d60d4c563a15892b5259771edfa372c", func := "orangery/orangerylaw01.UtfReads", spec := "utfReads", inPlace := ["internal/abi.NoEscape", "internal/bytealg.IndexByteString"], unfollowed := true, recurses := true, apart := false, narrowed := true }
def UtfReadsUptoSaid : Prop := utfReadsUptoRow.holds Try.pinned (OpenSpec.upto utfReadsSpec)

/-- 'orangerylaw01.UtfQuotes', WHERE WHAT IT READS IS OF BULK AT MOST 1048576: true; the input reads as it did. -/
def utfQuotesUptoRow : OpenClaim := { program := "ytikhdnpokhldeaa", sum := "e6ffd8f7c76f7a6569be31bc8c1dae0e6d60d4c563a15892b5259771edfa372c", func := "orangery/orangerylaw01.UtfQuotes", spec := "utfQuotes", inPlace := ["internal/abi.NoEscape", "internal/bytealg.IndexByteString"], apart := false, narrowed := true }
def UtfQuotesUptoSaid : Prop := utfQuotesUptoRow.holds Try.pinned (OpenSpec.upto utfQuotesSpec)

end Rows
end Go.Proofs.Ytikhdnpokhldeaa
