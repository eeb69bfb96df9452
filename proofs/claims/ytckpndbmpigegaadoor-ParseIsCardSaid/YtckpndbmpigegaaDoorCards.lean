/-
  DERIVED. GIVEN WITH THE SEED: THE CARDS: each row of YtckpndbmpigegaaDoorRows.lean that lists a variable, with what it lists TIED to the program's text (the seventh form; the later family's looks); each row that meets fmt, with fmt's text TOLD by the authors' own Lean function (tested against real Go, not proved from fmt's source: count such statements apart). THE CARD IS WHAT COUNTS. Prove the row's statement (the work); the ties are given (YtckpndbmpigegaaDoorTie.lean); close each card by the builder's one call (the guide's Derived/Test/ToyasCard.lean, 'card_holds'). Laid BY PROGRAM, IN A SANDBOX (cutbox-door.mjs). By AI agents, Wed Nov 11 2026. No macro, syntax, notation, axiom, sorry.
-/
import Derived.Test.YtckpndbmpigegaaDoorRows
import GoSem.ClaimSeven
namespace Go.Proofs.YtckpndbmpigegaaDoor
namespace Rows

/-- THE TIED CARD OF 'orangerylaw04.ParseIs'. -/
def parseIsCard : Claim7 := { stood := { row := parseIsRow, standIns := [], harness := (true, "cb13ed5d6a0675e9245a331a7f310ed9f321acf902c3ca5655f3ee120ba9b979"), looks := true }, kinds := [], alts := [], laidByText := true, laidKinds := [.data, .pinned], laidTests := true, laidLooks := .later }
def ParseIsCardSaid : Prop := Claim7.holds Tryd.pinned (.plain (OpenSpec.ofChange parseIsSpec)) parseIsCard

/-- THE TIED CARD OF 'orangerylaw04.ParseWhites'. -/
def parseWhitesCard : Claim7 := { stood := { row := parseWhitesRow, standIns := [], harness := (true, "cb13ed5d6a0675e9245a331a7f310ed9f321acf902c3ca5655f3ee120ba9b979"), looks := true }, kinds := [], alts := [], laidByText := true, laidKinds := [.data, .pinned], laidTests := true, laidLooks := .later }
def ParseWhitesCardSaid : Prop := Claim7.holds Tryd.pinned (.plain (OpenSpec.ofChange parseWhitesSpec)) parseWhitesCard

/-- THE TIED CARD OF 'orangerylaw04.ParseCounts'. -/
def parseCountsCard : Claim7 := { stood := { row := parseCountsRow, standIns := [], harness := (true, "cb13ed5d6a0675e9245a331a7f310ed9f321acf902c3ca5655f3ee120ba9b979"), looks := true }, kinds := [], alts := [], laidByText := true, laidKinds := [.data, .pinned], laidTests := true, laidLooks := .later }
def ParseCountsCardSaid : Prop := Claim7.holds Tryd.pinned (.plain (OpenSpec.ofChange parseCountsSpec)) parseCountsCard

/-- THE TIED CARD OF 'orangerylaw04.ParseLists'. -/
def parseListsCard : Claim7 := { stood := { row := parseListsRow, standIns := [], harness := (true, "cb13ed5d6a0675e9245a331a7f310ed9f321acf902c3ca5655f3ee120ba9b979"), looks := true }, kinds := [], alts := [], laidByText := true, laidKinds := [.data, .pinned], laidTests := true, laidLooks := .later }
def ParseListsCardSaid : Prop := Claim7.holds Tryd.pinned (.plain (OpenSpec.ofChange parseListsSpec)) parseListsCard

/-- THE TIED CARD OF 'orangerylaw04.ParseTexts'. -/
def parseTextsCard : Claim7 := { stood := { row := parseTextsRow, standIns := [], harness := (true, "cb13ed5d6a0675e9245a331a7f310ed9f321acf902c3ca5655f3ee120ba9b979"), looks := true }, kinds := [], alts := [], laidByText := true, laidKinds := [.data, .pinned], laidTests := true, laidLooks := .later }
def ParseTextsCardSaid : Prop := Claim7.holds Tryd.pinned (.plain (OpenSpec.ofChange parseTextsSpec)) parseTextsCard

/-- THE TIED CARD OF 'orangerylaw04.ParseDeep'. -/
def parseDeepCard : Claim7 := { stood := { row := parseDeepRow, standIns := [], harness := (true, "cb13ed5d6a0675e9245a331a7f310ed9f321acf902c3ca5655f3ee120ba9b979"), looks := true }, kinds := [], alts := [], laidByText := true, laidKinds := [.data, .pinned], laidTests := true, laidLooks := .later }
def ParseDeepCardSaid : Prop := Claim7.holds Tryd.pinned (.plain (OpenSpec.ofChange parseDeepSpec)) parseDeepCard

/-- THE TIED CARD OF 'orangerylaw04.ParseSane'. -/
def parseSaneCard : Claim7 := { stood := { row := parseSaneRow, standIns := [], harness := (true, "cb13ed5d6a0675e9245a331a7f310ed9f321acf902c3ca5655f3ee120ba9b979"), looks := true }, kinds := [], alts := [], laidByText := true, laidKinds := [.data, .pinned], laidTests := true, laidLooks := .later }
def ParseSaneCardSaid : Prop := Claim7.holds Tryd.pinned (.plain (OpenSpec.ofChange parseSaneSpec)) parseSaneCard

/-- THE SECOND FORM's CARD OF 'orangerylaw04.ParseIs'. -/
def parseIsUptoCard : Claim7 := { stood := { row := parseIsUptoRow, standIns := [], harness := (true, "cb13ed5d6a0675e9245a331a7f310ed9f321acf902c3ca5655f3ee120ba9b979"), looks := true }, kinds := [], alts := [], laidByText := true, laidKinds := [.data, .pinned], laidTests := true, laidLooks := .later }
def ParseIsUptoCardSaid : Prop := Claim7.holds Tryd.pinned (.plain (OpenSpec.upto parseIsSpec)) parseIsUptoCard

/-- THE SECOND FORM's CARD OF 'orangerylaw04.ParseWhites'. -/
def parseWhitesUptoCard : Claim7 := { stood := { row := parseWhitesUptoRow, standIns := [], harness := (true, "cb13ed5d6a0675e9245a331a7f310ed9f321acf902c3ca5655f3ee120ba9b979"), looks := true }, kinds := [], alts := [], laidByText := true, laidKinds := [.data, .pinned], laidTests := true, laidLooks := .later }
def ParseWhitesUptoCardSaid : Prop := Claim7.holds Tryd.pinned (.plain (OpenSpec.upto parseWhitesSpec)) parseWhitesUptoCard

/-- THE SECOND FORM's CARD OF 'orangerylaw04.ParseCounts'. -/
def parseCountsUptoCard : Claim7 := { stood := { row := parseCountsUptoRow, standIns := [], harness := (true, "cb13ed5d6a0675e9245a331a7f310ed9f321acf902c3ca5655f3ee120ba9b979"), looks := true }, kinds := [], alts := [], laidByText := true, laidKinds := [.data, .pinned], laidTests := true, laidLooks := .later }
def ParseCountsUptoCardSaid : Prop := Claim7.holds Tryd.pinned (.plain (OpenSpec.upto parseCountsSpec)) parseCountsUptoCard

/-- THE SECOND FORM's CARD OF 'orangerylaw04.ParseLists'. -/
def parseListsUptoCard : Claim7 := { stood := { row := parseListsUptoRow, standIns := [], harness := (true, "cb13ed5d6a0675e9245a331a7f310ed9f321acf902c3ca5655f3ee120ba9b979"), looks := true }, kinds := [], alts := [], laidByText := true, laidKinds := [.data, .pinned], laidTests := true, laidLooks := .later }
def ParseListsUptoCardSaid : Prop := Claim7.holds Tryd.pinned (.plain (OpenSpec.upto parseListsSpec)) parseListsUptoCard

/-- THE SECOND FORM's CARD OF 'orangerylaw04.ParseTexts'. -/
def parseTextsUptoCard : Claim7 := { stood := { row := parseTextsUptoRow, standIns := [], harness := (true, "cb13ed5d6a0675e9245a331a7f310ed9f321acf902c3ca5655f3ee120ba9b979"), looks := true }, kinds := [], alts := [], laidByText := true, laidKinds := [.data, .pinned], laidTests := true, laidLooks := .later }
def ParseTextsUptoCardSaid : Prop := Claim7.holds Tryd.pinned (.plain (OpenSpec.upto parseTextsSpec)) parseTextsUptoCard

/-- THE SECOND FORM's CARD OF 'orangerylaw04.ParseDeep'. -/
def parseDeepUptoCard : Claim7 := { stood := { row := parseDeepUptoRow, standIns := [], harness := (true, "cb13ed5d6a0675e9245a331a7f310ed9f321acf902c3ca5655f3ee120ba9b979"), looks := true }, kinds := [], alts := [], laidByText := true, laidKinds := [.data, .pinned], laidTests := true, laidLooks := .later }
def ParseDeepUptoCardSaid : Prop := Claim7.holds Tryd.pinned (.plain (OpenSpec.upto parseDeepSpec)) parseDeepUptoCard

/-- THE SECOND FORM's CARD OF 'orangerylaw04.ParseSane'. -/
def parseSaneUptoCard : Claim7 := { stood := { row := parseSaneUptoRow, standIns := [], harness := (true, "cb13ed5d6a0675e9245a331a7f310ed9f321acf902c3ca5655f3ee120ba9b979"), looks := true }, kinds := [], alts := [], laidByText := true, laidKinds := [.data, .pinned], laidTests := true, laidLooks := .later }
def ParseSaneUptoCardSaid : Prop := Claim7.holds Tryd.pinned (.plain (OpenSpec.upto parseSaneSpec)) parseSaneUptoCard
end Rows
end Go.Proofs.YtckpndbmpigegaaDoor
