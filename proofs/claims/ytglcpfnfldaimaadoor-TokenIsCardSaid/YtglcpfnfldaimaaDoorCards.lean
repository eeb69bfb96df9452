/-
  DERIVED. GIVEN WITH THE SEED: THE CARDS: each row of YtglcpfnfldaimaaDoorRows.lean that lists a variable, with what it lists TIED to the program's text (the seventh form; the later family's looks); each row that meets fmt, with fmt's text TOLD by the authors' own Lean function (tested against real Go, not proved from fmt's source: count such statements apart). THE CARD IS WHAT COUNTS. Prove the row's statement (the work); the ties are given (YtglcpfnfldaimaaDoorTie.lean); close each card by the builder's one call (the guide's Derived/Test/ToyasCard.lean, 'card_holds'). Laid BY PROGRAM, IN A SANDBOX (cutbox-door.mjs). By AI agents, Wed Nov 11 2026. No macro, syntax, notation, axiom, sorry.
-/
import Derived.Test.YtglcpfnfldaimaaDoorRows
import GoSem.ClaimSeven
namespace Go.Proofs.YtglcpfnfldaimaaDoor
namespace Rows

/-- THE TIED CARD OF 'orangerylaw15.TokenLies'. -/
def tokenLiesCard : Claim7 := { stood := { row := tokenLiesRow, standIns := [], harness := (true, "3861a6ec5870257151a63a2f8abe954ce0b44e7d87a7e17242e59baf0738fea3"), looks := false }, kinds := [], alts := [], laidByText := true, laidKinds := [.data, .pinned], laidTests := true, laidLooks := .later }
def TokenLiesCardSaid : Prop := Claim7.holds Tryd.pinned (.plain (OpenSpec.ofChange tokenLiesSpec)) tokenLiesCard

/-- THE TIED CARD OF 'orangerylaw15.TokenJoins'. -/
def tokenJoinsCard : Claim7 := { stood := { row := tokenJoinsRow, standIns := [], harness := (true, "3861a6ec5870257151a63a2f8abe954ce0b44e7d87a7e17242e59baf0738fea3"), looks := false }, kinds := [], alts := [], laidByText := true, laidKinds := [.data, .pinned], laidTests := true, laidLooks := .later }
def TokenJoinsCardSaid : Prop := Claim7.holds Tryd.pinned (.plain (OpenSpec.ofChange tokenJoinsSpec)) tokenJoinsCard

/-- THE TIED CARD OF 'orangerylaw15.TokenNumbers'. -/
def tokenNumbersCard : Claim7 := { stood := { row := tokenNumbersRow, standIns := [], harness := (true, "3861a6ec5870257151a63a2f8abe954ce0b44e7d87a7e17242e59baf0738fea3"), looks := false }, kinds := [], alts := [], laidByText := true, laidKinds := [.data, .pinned], laidTests := true, laidLooks := .later }
def TokenNumbersCardSaid : Prop := Claim7.holds Tryd.pinned (.plain (OpenSpec.ofChange tokenNumbersSpec)) tokenNumbersCard

/-- THE TIED CARD OF 'orangerylaw15.TokenIs'. -/
def tokenIsCard : Claim7 := { stood := { row := tokenIsRow, standIns := [], harness := (true, "3861a6ec5870257151a63a2f8abe954ce0b44e7d87a7e17242e59baf0738fea3"), looks := false }, kinds := [], alts := [], laidByText := true, laidKinds := [.data, .pinned], laidTests := true, laidLooks := .later }
def TokenIsCardSaid : Prop := Claim7.holds Tryd.pinned (.plain (OpenSpec.ofChange tokenIsSpec)) tokenIsCard

/-- THE TIED CARD OF 'orangerylaw15.TokenQuotes'. -/
def tokenQuotesCard : Claim7 := { stood := { row := tokenQuotesRow, standIns := [], harness := (true, "3861a6ec5870257151a63a2f8abe954ce0b44e7d87a7e17242e59baf0738fea3"), looks := false }, kinds := [], alts := [], laidByText := true, laidKinds := [.data, .pinned], laidTests := true, laidLooks := .later }
def TokenQuotesCardSaid : Prop := Claim7.holds Tryd.pinned (.plain (OpenSpec.ofChange tokenQuotesSpec)) tokenQuotesCard

/-- THE TIED CARD OF 'orangerylaw15.TokenSigns'. -/
def tokenSignsCard : Claim7 := { stood := { row := tokenSignsRow, standIns := [], harness := (true, "3861a6ec5870257151a63a2f8abe954ce0b44e7d87a7e17242e59baf0738fea3"), looks := false }, kinds := [], alts := [], laidByText := true, laidKinds := [.data, .pinned], laidTests := true, laidLooks := .later }
def TokenSignsCardSaid : Prop := Claim7.holds Tryd.pinned (.plain (OpenSpec.ofChange tokenSignsSpec)) tokenSignsCard

/-- THE SECOND FORM's CARD OF 'orangerylaw15.TokenLies'. -/
def tokenLiesUptoCard : Claim7 := { stood := { row := tokenLiesUptoRow, standIns := [], harness := (true, "3861a6ec5870257151a63a2f8abe954ce0b44e7d87a7e17242e59baf0738fea3"), looks := false }, kinds := [], alts := [], laidByText := true, laidKinds := [.data, .pinned], laidTests := true, laidLooks := .later }
def TokenLiesUptoCardSaid : Prop := Claim7.holds Tryd.pinned (.plain (OpenSpec.upto tokenLiesSpec)) tokenLiesUptoCard

/-- THE SECOND FORM's CARD OF 'orangerylaw15.TokenJoins'. -/
def tokenJoinsUptoCard : Claim7 := { stood := { row := tokenJoinsUptoRow, standIns := [], harness := (true, "3861a6ec5870257151a63a2f8abe954ce0b44e7d87a7e17242e59baf0738fea3"), looks := false }, kinds := [], alts := [], laidByText := true, laidKinds := [.data, .pinned], laidTests := true, laidLooks := .later }
def TokenJoinsUptoCardSaid : Prop := Claim7.holds Tryd.pinned (.plain (OpenSpec.upto tokenJoinsSpec)) tokenJoinsUptoCard

/-- THE SECOND FORM's CARD OF 'orangerylaw15.TokenNumbers'. -/
def tokenNumbersUptoCard : Claim7 := { stood := { row := tokenNumbersUptoRow, standIns := [], harness := (true, "3861a6ec5870257151a63a2f8abe954ce0b44e7d87a7e17242e59baf0738fea3"), looks := false }, kinds := [], alts := [], laidByText := true, laidKinds := [.data, .pinned], laidTests := true, laidLooks := .later }
def TokenNumbersUptoCardSaid : Prop := Claim7.holds Tryd.pinned (.plain (OpenSpec.upto tokenNumbersSpec)) tokenNumbersUptoCard

/-- THE SECOND FORM's CARD OF 'orangerylaw15.TokenIs'. -/
def tokenIsUptoCard : Claim7 := { stood := { row := tokenIsUptoRow, standIns := [], harness := (true, "3861a6ec5870257151a63a2f8abe954ce0b44e7d87a7e17242e59baf0738fea3"), looks := false }, kinds := [], alts := [], laidByText := true, laidKinds := [.data, .pinned], laidTests := true, laidLooks := .later }
def TokenIsUptoCardSaid : Prop := Claim7.holds Tryd.pinned (.plain (OpenSpec.upto tokenIsSpec)) tokenIsUptoCard

/-- THE SECOND FORM's CARD OF 'orangerylaw15.TokenQuotes'. -/
def tokenQuotesUptoCard : Claim7 := { stood := { row := tokenQuotesUptoRow, standIns := [], harness := (true, "3861a6ec5870257151a63a2f8abe954ce0b44e7d87a7e17242e59baf0738fea3"), looks := false }, kinds := [], alts := [], laidByText := true, laidKinds := [.data, .pinned], laidTests := true, laidLooks := .later }
def TokenQuotesUptoCardSaid : Prop := Claim7.holds Tryd.pinned (.plain (OpenSpec.upto tokenQuotesSpec)) tokenQuotesUptoCard

/-- THE SECOND FORM's CARD OF 'orangerylaw15.TokenSigns'. -/
def tokenSignsUptoCard : Claim7 := { stood := { row := tokenSignsUptoRow, standIns := [], harness := (true, "3861a6ec5870257151a63a2f8abe954ce0b44e7d87a7e17242e59baf0738fea3"), looks := false }, kinds := [], alts := [], laidByText := true, laidKinds := [.data, .pinned], laidTests := true, laidLooks := .later }
def TokenSignsUptoCardSaid : Prop := Claim7.holds Tryd.pinned (.plain (OpenSpec.upto tokenSignsSpec)) tokenSignsUptoCard
end Rows
end Go.Proofs.YtglcpfnfldaimaaDoor
