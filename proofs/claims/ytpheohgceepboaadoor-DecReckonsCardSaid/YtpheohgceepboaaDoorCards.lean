/-
  DERIVED. GIVEN WITH THE SEED: THE CARDS: each row of YtpheohgceepboaaDoorRows.lean that lists a variable, with what it lists TIED to the program's text (the seventh form; the later family's looks); each row that meets fmt, with fmt's text TOLD by the authors' own Lean function (tested against real Go, not proved from fmt's source: count such statements apart). THE CARD IS WHAT COUNTS. Prove the row's statement (the work); the ties are given (YtpheohgceepboaaDoorTie.lean); close each card by the builder's one call (the guide's Derived/Test/ToyasCard.lean, 'card_holds'). Laid BY PROGRAM, IN A SANDBOX (cutbox-door.mjs). By AI agents, Wed Nov 11 2026. No macro, syntax, notation, axiom, sorry.
-/
import Derived.Test.YtpheohgceepboaaDoorRows
import GoSem.ClaimSeven
namespace Go.Proofs.YtpheohgceepboaaDoor
namespace Rows

/-- THE TIED CARD OF 'orangerylaw02.DecPoints'. -/
def decPointsCard : Claim7 := { stood := { row := decPointsRow, standIns := [], harness := (true, "20289468b3466ac60a3ea08ae6992d2c072141227a274389b51fd00558b44258"), looks := false }, kinds := [], alts := [], laidByText := true, laidKinds := [.data, .data, .data, .data, .pinned], laidTests := true, laidLooks := .later }
def DecPointsCardSaid : Prop := Claim7.holds Tryd.pinned (.plain (OpenSpec.ofChange decPointsSpec)) decPointsCard

/-- THE TIED CARD OF 'orangerylaw02.DecBack'. -/
def decBackCard : Claim7 := { stood := { row := decBackRow, standIns := [], harness := (true, "20289468b3466ac60a3ea08ae6992d2c072141227a274389b51fd00558b44258"), looks := false }, kinds := [], alts := [], laidByText := true, laidKinds := [.data, .data, .data, .data, .pinned], laidTests := true, laidLooks := .later }
def DecBackCardSaid : Prop := Claim7.holds Tryd.pinned (.plain (OpenSpec.ofChange decBackSpec)) decBackCard

/-- THE TIED CARD OF 'orangerylaw02.DecOrder'. -/
def decOrderCard : Claim7 := { stood := { row := decOrderRow, standIns := [], harness := (true, "20289468b3466ac60a3ea08ae6992d2c072141227a274389b51fd00558b44258"), looks := false }, kinds := [], alts := [], laidByText := true, laidKinds := [.data, .data, .data, .data, .pinned], laidTests := true, laidLooks := .later }
def DecOrderCardSaid : Prop := Claim7.holds Tryd.pinned (.plain (OpenSpec.ofChange decOrderSpec)) decOrderCard

/-- THE TIED CARD OF 'orangerylaw02.DecRing'. -/
def decRingCard : Claim7 := { stood := { row := decRingRow, standIns := [], harness := (true, "20289468b3466ac60a3ea08ae6992d2c072141227a274389b51fd00558b44258"), looks := false }, kinds := [], alts := [], laidByText := true, laidKinds := [.data, .data, .data, .data, .pinned], laidTests := true, laidLooks := .later }
def DecRingCardSaid : Prop := Claim7.holds Tryd.pinned (.plain (OpenSpec.ofChange decRingSpec)) decRingCard

/-- THE TIED CARD OF 'orangerylaw02.DecShifts'. -/
def decShiftsCard : Claim7 := { stood := { row := decShiftsRow, standIns := [], harness := (true, "20289468b3466ac60a3ea08ae6992d2c072141227a274389b51fd00558b44258"), looks := false }, kinds := [], alts := [], laidByText := true, laidKinds := [.data, .data, .data, .data, .pinned], laidTests := true, laidLooks := .later }
def DecShiftsCardSaid : Prop := Claim7.holds Tryd.pinned (.plain (OpenSpec.ofChange decShiftsSpec)) decShiftsCard

/-- THE TIED CARD OF 'orangerylaw02.DecReckons'. -/
def decReckonsCard : Claim7 := { stood := { row := decReckonsRow, standIns := [], harness := (true, "20289468b3466ac60a3ea08ae6992d2c072141227a274389b51fd00558b44258"), looks := false }, kinds := [], alts := [], laidByText := true, laidKinds := [.data, .data, .data, .data, .pinned], laidTests := true, laidLooks := .later }
def DecReckonsCardSaid : Prop := Claim7.holds Tryd.pinned (.plain (OpenSpec.ofChange decReckonsSpec)) decReckonsCard

/-- THE TIED CARD OF 'orangerylaw02.DecWhole'. -/
def decWholeCard : Claim7 := { stood := { row := decWholeRow, standIns := [], harness := (true, "20289468b3466ac60a3ea08ae6992d2c072141227a274389b51fd00558b44258"), looks := false }, kinds := [], alts := [], laidByText := true, laidKinds := [.data, .data, .data, .data, .pinned], laidTests := true, laidLooks := .later }
def DecWholeCardSaid : Prop := Claim7.holds Tryd.pinned (.plain (OpenSpec.ofChange decWholeSpec)) decWholeCard

/-- THE SECOND FORM's CARD OF 'orangerylaw02.DecPoints'. -/
def decPointsUptoCard : Claim7 := { stood := { row := decPointsUptoRow, standIns := [], harness := (true, "20289468b3466ac60a3ea08ae6992d2c072141227a274389b51fd00558b44258"), looks := false }, kinds := [], alts := [], laidByText := true, laidKinds := [.data, .data, .data, .data, .pinned], laidTests := true, laidLooks := .later }
def DecPointsUptoCardSaid : Prop := Claim7.holds Tryd.pinned (.plain (OpenSpec.upto decPointsSpec)) decPointsUptoCard

/-- THE SECOND FORM's CARD OF 'orangerylaw02.DecBack'. -/
def decBackUptoCard : Claim7 := { stood := { row := decBackUptoRow, standIns := [], harness := (true, "20289468b3466ac60a3ea08ae6992d2c072141227a274389b51fd00558b44258"), looks := false }, kinds := [], alts := [], laidByText := true, laidKinds := [.data, .data, .data, .data, .pinned], laidTests := true, laidLooks := .later }
def DecBackUptoCardSaid : Prop := Claim7.holds Tryd.pinned (.plain (OpenSpec.upto decBackSpec)) decBackUptoCard

/-- THE SECOND FORM's CARD OF 'orangerylaw02.DecOrder'. -/
def decOrderUptoCard : Claim7 := { stood := { row := decOrderUptoRow, standIns := [], harness := (true, "20289468b3466ac60a3ea08ae6992d2c072141227a274389b51fd00558b44258"), looks := false }, kinds := [], alts := [], laidByText := true, laidKinds := [.data, .data, .data, .data, .pinned], laidTests := true, laidLooks := .later }
def DecOrderUptoCardSaid : Prop := Claim7.holds Tryd.pinned (.plain (OpenSpec.upto decOrderSpec)) decOrderUptoCard

/-- THE SECOND FORM's CARD OF 'orangerylaw02.DecRing'. -/
def decRingUptoCard : Claim7 := { stood := { row := decRingUptoRow, standIns := [], harness := (true, "20289468b3466ac60a3ea08ae6992d2c072141227a274389b51fd00558b44258"), looks := false }, kinds := [], alts := [], laidByText := true, laidKinds := [.data, .data, .data, .data, .pinned], laidTests := true, laidLooks := .later }
def DecRingUptoCardSaid : Prop := Claim7.holds Tryd.pinned (.plain (OpenSpec.upto decRingSpec)) decRingUptoCard

/-- THE SECOND FORM's CARD OF 'orangerylaw02.DecShifts'. -/
def decShiftsUptoCard : Claim7 := { stood := { row := decShiftsUptoRow, standIns := [], harness := (true, "20289468b3466ac60a3ea08ae6992d2c072141227a274389b51fd00558b44258"), looks := false }, kinds := [], alts := [], laidByText := true, laidKinds := [.data, .data, .data, .data, .pinned], laidTests := true, laidLooks := .later }
def DecShiftsUptoCardSaid : Prop := Claim7.holds Tryd.pinned (.plain (OpenSpec.upto decShiftsSpec)) decShiftsUptoCard

/-- THE SECOND FORM's CARD OF 'orangerylaw02.DecReckons'. -/
def decReckonsUptoCard : Claim7 := { stood := { row := decReckonsUptoRow, standIns := [], harness := (true, "20289468b3466ac60a3ea08ae6992d2c072141227a274389b51fd00558b44258"), looks := false }, kinds := [], alts := [], laidByText := true, laidKinds := [.data, .data, .data, .data, .pinned], laidTests := true, laidLooks := .later }
def DecReckonsUptoCardSaid : Prop := Claim7.holds Tryd.pinned (.plain (OpenSpec.upto decReckonsSpec)) decReckonsUptoCard

/-- THE SECOND FORM's CARD OF 'orangerylaw02.DecWhole'. -/
def decWholeUptoCard : Claim7 := { stood := { row := decWholeUptoRow, standIns := [], harness := (true, "20289468b3466ac60a3ea08ae6992d2c072141227a274389b51fd00558b44258"), looks := false }, kinds := [], alts := [], laidByText := true, laidKinds := [.data, .data, .data, .data, .pinned], laidTests := true, laidLooks := .later }
def DecWholeUptoCardSaid : Prop := Claim7.holds Tryd.pinned (.plain (OpenSpec.upto decWholeSpec)) decWholeUptoCard
end Rows
end Go.Proofs.YtpheohgceepboaaDoor
