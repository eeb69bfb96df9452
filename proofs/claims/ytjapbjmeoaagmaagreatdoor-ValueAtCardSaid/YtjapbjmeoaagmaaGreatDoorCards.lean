/-
  DERIVED. GIVEN WITH THE SEED: THE CARDS: each row of YtjapbjmeoaagmaaGreatDoorRows.lean that lists a variable, with what it lists TIED to the program's text (the seventh form; the later family's looks); each row that meets fmt, with fmt's text TOLD by the authors' own Lean function (tested against real Go, not proved from fmt's source: count such statements apart). THE CARD IS WHAT COUNTS. Prove the row's statement (the work); the ties are given (YtjapbjmeoaagmaaGreatDoorTie.lean); close each card by the builder's one call (the guide's Derived/Test/ToyasCard.lean, 'card_holds'). Laid BY PROGRAM, IN A SANDBOX (cutbox-door.mjs). By AI agents, Wed Nov 11 2026. No macro, syntax, notation, axiom, sorry.
-/
import Derived.Test.YtjapbjmeoaagmaaGreatDoorRows
import GoSem.ClaimSeven
namespace Go.Proofs.YtjapbjmeoaagmaaGreatDoor
namespace Rows

/-- THE TIED CARD OF 'orangerylaw03.ValuePuts'. -/
def valuePutsCard : Claim7 := { stood := { row := valuePutsRow, standIns := [], harness := (true, "e60eb52fad78d9a6b5d6c9cbb186bd09c106288ef518d85343669dbb75529d11"), looks := true }, kinds := [], alts := [], laidByText := true, laidKinds := [.data, .data, .data, .data, .pinned], laidTests := true, laidLooks := .later }
def ValuePutsCardSaid : Prop := Claim7.holds Tryz.pinned (.plain (OpenSpec.ofChange valuePutsSpec)) valuePutsCard

/-- THE TIED CARD OF 'orangerylaw03.ValuePairs'. -/
def valuePairsCard : Claim7 := { stood := { row := valuePairsRow, standIns := [], harness := (true, "e60eb52fad78d9a6b5d6c9cbb186bd09c106288ef518d85343669dbb75529d11"), looks := true }, kinds := [], alts := [], laidByText := true, laidKinds := [.data, .data, .data, .data, .pinned], laidTests := true, laidLooks := .later }
def ValuePairsCardSaid : Prop := Claim7.holds Tryz.pinned (.plain (OpenSpec.ofChange valuePairsSpec)) valuePairsCard

/-- THE TIED CARD OF 'orangerylaw03.ValueAt'. -/
def valueAtCard : Claim7 := { stood := { row := valueAtRow, standIns := [], harness := (true, "e60eb52fad78d9a6b5d6c9cbb186bd09c106288ef518d85343669dbb75529d11"), looks := true }, kinds := [], alts := [], laidByText := true, laidKinds := [.data, .data, .data, .data, .pinned], laidTests := true, laidLooks := .later }
def ValueAtCardSaid : Prop := Claim7.holds Tryz.pinned (.plain (OpenSpec.ofChange valueAtSpec)) valueAtCard

/-- THE TIED CARD OF 'orangerylaw03.ValueDrops'. -/
def valueDropsCard : Claim7 := { stood := { row := valueDropsRow, standIns := [], harness := (true, "e60eb52fad78d9a6b5d6c9cbb186bd09c106288ef518d85343669dbb75529d11"), looks := true }, kinds := [], alts := [], laidByText := true, laidKinds := [.data, .data, .data, .data, .pinned], laidTests := true, laidLooks := .later }
def ValueDropsCardSaid : Prop := Claim7.holds Tryz.pinned (.plain (OpenSpec.ofChange valueDropsSpec)) valueDropsCard

/-- THE TIED CARD OF 'orangerylaw03.ValueSorts'. -/
def valueSortsCard : Claim7 := { stood := { row := valueSortsRow, standIns := [], harness := (true, "e60eb52fad78d9a6b5d6c9cbb186bd09c106288ef518d85343669dbb75529d11"), looks := true }, kinds := [], alts := [], laidByText := true, laidKinds := [.data, .data, .data, .data, .pinned], laidTests := true, laidLooks := .later }
def ValueSortsCardSaid : Prop := Claim7.holds Tryz.pinned (.plain (OpenSpec.ofChange valueSortsSpec)) valueSortsCard

/-- THE TIED CARD OF 'orangerylaw05.PrintParts'. -/
def printPartsCard : Claim7 := { stood := { row := printPartsRow, standIns := [], harness := (true, "e60eb52fad78d9a6b5d6c9cbb186bd09c106288ef518d85343669dbb75529d11"), looks := true }, kinds := [], alts := [], laidByText := true, laidKinds := [.data, .data, .data, .data, .pinned], laidTests := true, laidLooks := .later }
def PrintPartsCardSaid : Prop := Claim7.holds Tryz.pinned (.plain (OpenSpec.ofChange printPartsSpec)) printPartsCard

/-- THE TIED CARD OF 'orangerylaw05.PrintBack'. -/
def printBackCard : Claim7 := { stood := { row := printBackRow, standIns := [], harness := (true, "e60eb52fad78d9a6b5d6c9cbb186bd09c106288ef518d85343669dbb75529d11"), looks := true }, kinds := [], alts := [], laidByText := true, laidKinds := [.data, .data, .data, .data, .pinned], laidTests := true, laidLooks := .later }
def PrintBackCardSaid : Prop := Claim7.holds Tryz.pinned (.plain (OpenSpec.ofChange printBackSpec)) printBackCard

/-- THE TIED CARD OF 'orangerylaw05.PrintIs'. -/
def printIsCard : Claim7 := { stood := { row := printIsRow, standIns := [], harness := (true, "e60eb52fad78d9a6b5d6c9cbb186bd09c106288ef518d85343669dbb75529d11"), looks := true }, kinds := [], alts := [], laidByText := true, laidKinds := [.data, .data, .data, .data, .pinned], laidTests := true, laidLooks := .later }
def PrintIsCardSaid : Prop := Claim7.holds Tryz.pinned (.plain (OpenSpec.ofChange printIsSpec)) printIsCard

/-- THE TIED CARD OF 'orangerylaw05.PrintLines'. -/
def printLinesCard : Claim7 := { stood := { row := printLinesRow, standIns := [], harness := (true, "e60eb52fad78d9a6b5d6c9cbb186bd09c106288ef518d85343669dbb75529d11"), looks := true }, kinds := [], alts := [], laidByText := true, laidKinds := [.data, .data, .data, .data, .pinned], laidTests := true, laidLooks := .later }
def PrintLinesCardSaid : Prop := Claim7.holds Tryz.pinned (.plain (OpenSpec.ofChange printLinesSpec)) printLinesCard

/-- THE TIED CARD OF 'orangerylaw05.PrintAgain'. -/
def printAgainCard : Claim7 := { stood := { row := printAgainRow, standIns := [], harness := (true, "e60eb52fad78d9a6b5d6c9cbb186bd09c106288ef518d85343669dbb75529d11"), looks := true }, kinds := [], alts := [], laidByText := true, laidKinds := [.data, .data, .data, .data, .pinned], laidTests := true, laidLooks := .later }
def PrintAgainCardSaid : Prop := Claim7.holds Tryz.pinned (.plain (OpenSpec.ofChange printAgainSpec)) printAgainCard

/-- THE TIED CARD OF 'orangerylaw05.PrintSame'. -/
def printSameCard : Claim7 := { stood := { row := printSameRow, standIns := [], harness := (true, "e60eb52fad78d9a6b5d6c9cbb186bd09c106288ef518d85343669dbb75529d11"), looks := true }, kinds := [], alts := [], laidByText := true, laidKinds := [.data, .data, .data, .data, .pinned], laidTests := true, laidLooks := .later }
def PrintSameCardSaid : Prop := Claim7.holds Tryz.pinned (.plain (OpenSpec.ofChange printSameSpec)) printSameCard

/-- THE SECOND FORM's CARD OF 'orangerylaw03.ValuePuts'. -/
def valuePutsUptoCard : Claim7 := { stood := { row := valuePutsUptoRow, standIns := [], harness := (true, "e60eb52fad78d9a6b5d6c9cbb186bd09c106288ef518d85343669dbb75529d11"), looks := true }, kinds := [], alts := [], laidByText := true, laidKinds := [.data, .data, .data, .data, .pinned], laidTests := true, laidLooks := .later }
def ValuePutsUptoCardSaid : Prop := Claim7.holds Tryz.pinned (.plain (OpenSpec.upto valuePutsSpec)) valuePutsUptoCard

/-- THE SECOND FORM's CARD OF 'orangerylaw03.ValuePairs'. -/
def valuePairsUptoCard : Claim7 := { stood := { row := valuePairsUptoRow, standIns := [], harness := (true, "e60eb52fad78d9a6b5d6c9cbb186bd09c106288ef518d85343669dbb75529d11"), looks := true }, kinds := [], alts := [], laidByText := true, laidKinds := [.data, .data, .data, .data, .pinned], laidTests := true, laidLooks := .later }
def ValuePairsUptoCardSaid : Prop := Claim7.holds Tryz.pinned (.plain (OpenSpec.upto valuePairsSpec)) valuePairsUptoCard

/-- THE SECOND FORM's CARD OF 'orangerylaw03.ValueAt'. -/
def valueAtUptoCard : Claim7 := { stood := { row := valueAtUptoRow, standIns := [], harness := (true, "e60eb52fad78d9a6b5d6c9cbb186bd09c106288ef518d85343669dbb75529d11"), looks := true }, kinds := [], alts := [], laidByText := true, laidKinds := [.data, .data, .data, .data, .pinned], laidTests := true, laidLooks := .later }
def ValueAtUptoCardSaid : Prop := Claim7.holds Tryz.pinned (.plain (OpenSpec.upto valueAtSpec)) valueAtUptoCard

/-- THE SECOND FORM's CARD OF 'orangerylaw03.ValueDrops'. -/
def valueDropsUptoCard : Claim7 := { stood := { row := valueDropsUptoRow, standIns := [], harness := (true, "e60eb52fad78d9a6b5d6c9cbb186bd09c106288ef518d85343669dbb75529d11"), looks := true }, kinds := [], alts := [], laidByText := true, laidKinds := [.data, .data, .data, .data, .pinned], laidTests := true, laidLooks := .later }
def ValueDropsUptoCardSaid : Prop := Claim7.holds Tryz.pinned (.plain (OpenSpec.upto valueDropsSpec)) valueDropsUptoCard

/-- THE SECOND FORM's CARD OF 'orangerylaw03.ValueSorts'. -/
def valueSortsUptoCard : Claim7 := { stood := { row := valueSortsUptoRow, standIns := [], harness := (true, "e60eb52fad78d9a6b5d6c9cbb186bd09c106288ef518d85343669dbb75529d11"), looks := true }, kinds := [], alts := [], laidByText := true, laidKinds := [.data, .data, .data, .data, .pinned], laidTests := true, laidLooks := .later }
def ValueSortsUptoCardSaid : Prop := Claim7.holds Tryz.pinned (.plain (OpenSpec.upto valueSortsSpec)) valueSortsUptoCard

/-- THE SECOND FORM's CARD OF 'orangerylaw05.PrintParts'. -/
def printPartsUptoCard : Claim7 := { stood := { row := printPartsUptoRow, standIns := [], harness := (true, "e60eb52fad78d9a6b5d6c9cbb186bd09c106288ef518d85343669dbb75529d11"), looks := true }, kinds := [], alts := [], laidByText := true, laidKinds := [.data, .data, .data, .data, .pinned], laidTests := true, laidLooks := .later }
def PrintPartsUptoCardSaid : Prop := Claim7.holds Tryz.pinned (.plain (OpenSpec.upto printPartsSpec)) printPartsUptoCard

/-- THE SECOND FORM's CARD OF 'orangerylaw05.PrintBack'. -/
def printBackUptoCard : Claim7 := { stood := { row := printBackUptoRow, standIns := [], harness := (true, "e60eb52fad78d9a6b5d6c9cbb186bd09c106288ef518d85343669dbb75529d11"), looks := true }, kinds := [], alts := [], laidByText := true, laidKinds := [.data, .data, .data, .data, .pinned], laidTests := true, laidLooks := .later }
def PrintBackUptoCardSaid : Prop := Claim7.holds Tryz.pinned (.plain (OpenSpec.upto printBackSpec)) printBackUptoCard

/-- THE SECOND FORM's CARD OF 'orangerylaw05.PrintIs'. -/
def printIsUptoCard : Claim7 := { stood := { row := printIsUptoRow, standIns := [], harness := (true, "e60eb52fad78d9a6b5d6c9cbb186bd09c106288ef518d85343669dbb75529d11"), looks := true }, kinds := [], alts := [], laidByText := true, laidKinds := [.data, .data, .data, .data, .pinned], laidTests := true, laidLooks := .later }
def PrintIsUptoCardSaid : Prop := Claim7.holds Tryz.pinned (.plain (OpenSpec.upto printIsSpec)) printIsUptoCard

/-- THE SECOND FORM's CARD OF 'orangerylaw05.PrintLines'. -/
def printLinesUptoCard : Claim7 := { stood := { row := printLinesUptoRow, standIns := [], harness := (true, "e60eb52fad78d9a6b5d6c9cbb186bd09c106288ef518d85343669dbb75529d11"), looks := true }, kinds := [], alts := [], laidByText := true, laidKinds := [.data, .data, .data, .data, .pinned], laidTests := true, laidLooks := .later }
def PrintLinesUptoCardSaid : Prop := Claim7.holds Tryz.pinned (.plain (OpenSpec.upto printLinesSpec)) printLinesUptoCard

/-- THE SECOND FORM's CARD OF 'orangerylaw05.PrintAgain'. -/
def printAgainUptoCard : Claim7 := { stood := { row := printAgainUptoRow, standIns := [], harness := (true, "e60eb52fad78d9a6b5d6c9cbb186bd09c106288ef518d85343669dbb75529d11"), looks := true }, kinds := [], alts := [], laidByText := true, laidKinds := [.data, .data, .data, .data, .pinned], laidTests := true, laidLooks := .later }
def PrintAgainUptoCardSaid : Prop := Claim7.holds Tryz.pinned (.plain (OpenSpec.upto printAgainSpec)) printAgainUptoCard

/-- THE SECOND FORM's CARD OF 'orangerylaw05.PrintSame'. -/
def printSameUptoCard : Claim7 := { stood := { row := printSameUptoRow, standIns := [], harness := (true, "e60eb52fad78d9a6b5d6c9cbb186bd09c106288ef518d85343669dbb75529d11"), looks := true }, kinds := [], alts := [], laidByText := true, laidKinds := [.data, .data, .data, .data, .pinned], laidTests := true, laidLooks := .later }
def PrintSameUptoCardSaid : Prop := Claim7.holds Tryz.pinned (.plain (OpenSpec.upto printSameSpec)) printSameUptoCard
end Rows
end Go.Proofs.YtjapbjmeoaagmaaGreatDoor
