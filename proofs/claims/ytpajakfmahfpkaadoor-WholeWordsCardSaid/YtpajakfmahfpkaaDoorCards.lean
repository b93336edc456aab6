/-
  DERIVED. GIVEN WITH THE SEED: THE CARDS: each row of YtpajakfmahfpkaaDoorRows.lean that lists a variable, with what it lists TIED to the program's text (the seventh form; the later family's looks); each row that meets fmt, with fmt's text TOLD by the authors' own Lean function (tested against real Go, not proved from fmt's source: count such statements apart). THE CARD IS WHAT COUNTS. Prove the row's statement (the work); the ties are given (YtpajakfmahfpkaaDoorTie.lean); close each card by the builder's one call (the guide's Derived/Test/ToyasCard.lean, 'card_holds'). Laid BY PROGRAM, IN A SANDBOX (cutbox-door.mjs). By AI agents, Wed Nov 11 2026. No macro, syntax, notation, axiom, sorry.
-/
import Derived.Test.YtpajakfmahfpkaaDoorRows
import GoSem.ClaimSeven
namespace Go.Proofs.YtpajakfmahfpkaaDoor
namespace Rows

/-- THE TIED CARD OF 'bureaulaw12.MoveAll'. -/
def moveAllCard : Claim7 := { stood := { row := moveAllRow, standIns := [], harness := (true, "9cc36356dbcbd080771f035660feaa48744131233757aa995d820fb3f888e1eb"), looks := false }, kinds := [], alts := [], laidByText := true, laidKinds := [.data, .pinned], laidTests := true, laidLooks := .later }
def MoveAllCardSaid : Prop := Claim7.holds Tryd.pinned (.plain (OpenSpec.ofChange moveAllSpec)) moveAllCard

/-- THE TIED CARD OF 'bureaulaw12.MoveWithin'. -/
def moveWithinCard : Claim7 := { stood := { row := moveWithinRow, standIns := [], harness := (true, "9cc36356dbcbd080771f035660feaa48744131233757aa995d820fb3f888e1eb"), looks := false }, kinds := [], alts := [], laidByText := true, laidKinds := [.data, .pinned], laidTests := true, laidLooks := .later }
def MoveWithinCardSaid : Prop := Claim7.holds Tryd.pinned (.plain (OpenSpec.ofChange moveWithinSpec)) moveWithinCard

/-- THE TIED CARD OF 'bureaulaw12.MoveTwice'. -/
def moveTwiceCard : Claim7 := { stood := { row := moveTwiceRow, standIns := [], harness := (true, "9cc36356dbcbd080771f035660feaa48744131233757aa995d820fb3f888e1eb"), looks := false }, kinds := [], alts := [], laidByText := true, laidKinds := [.data, .pinned], laidTests := true, laidLooks := .later }
def MoveTwiceCardSaid : Prop := Claim7.holds Tryd.pinned (.plain (OpenSpec.ofChange moveTwiceSpec)) moveTwiceCard

/-- THE TIED CARD OF 'bureaulaw12.MoveFinds'. -/
def moveFindsCard : Claim7 := { stood := { row := moveFindsRow, standIns := [], harness := (true, "9cc36356dbcbd080771f035660feaa48744131233757aa995d820fb3f888e1eb"), looks := false }, kinds := [], alts := [], laidByText := true, laidKinds := [.data, .pinned], laidTests := true, laidLooks := .later }
def MoveFindsCardSaid : Prop := Claim7.holds Tryd.pinned (.plain (OpenSpec.ofChange moveFindsSpec)) moveFindsCard

/-- THE TIED CARD OF 'bureaulaw12.MoveLines'. -/
def moveLinesCard : Claim7 := { stood := { row := moveLinesRow, standIns := [], harness := (true, "9cc36356dbcbd080771f035660feaa48744131233757aa995d820fb3f888e1eb"), looks := false }, kinds := [], alts := [], laidByText := true, laidKinds := [.data, .pinned], laidTests := true, laidLooks := .later }
def MoveLinesCardSaid : Prop := Claim7.holds Tryd.pinned (.plain (OpenSpec.ofChange moveLinesSpec)) moveLinesCard

/-- THE TIED CARD OF 'bureautop.WholeWords'. -/
def wholeWordsCard : Claim7 := { stood := { row := wholeWordsRow, standIns := [], harness := (true, "9cc36356dbcbd080771f035660feaa48744131233757aa995d820fb3f888e1eb"), looks := false }, kinds := [], alts := [], laidByText := true, laidKinds := [.data, .pinned], laidTests := true, laidLooks := .later }
def WholeWordsCardSaid : Prop := Claim7.holds Tryd.pinned (.plain (OpenSpec.ofChange wholeWordsSpec)) wholeWordsCard

/-- THE TIED CARD OF 'bureaulaw06.LineWhole'. -/
def lineWholeCard : Claim7 := { stood := { row := lineWholeRow, standIns := [], harness := (true, "9cc36356dbcbd080771f035660feaa48744131233757aa995d820fb3f888e1eb"), looks := false }, kinds := [], alts := [], laidByText := true, laidKinds := [.data, .pinned], laidTests := true, laidLooks := .later }
def LineWholeCardSaid : Prop := Claim7.holds Tryd.pinned (.plain (OpenSpec.ofChange lineWholeSpec)) lineWholeCard

/-- THE TIED CARD OF 'bureaulaw06.LinePlaces'. -/
def linePlacesCard : Claim7 := { stood := { row := linePlacesRow, standIns := [], harness := (true, "9cc36356dbcbd080771f035660feaa48744131233757aa995d820fb3f888e1eb"), looks := false }, kinds := [], alts := [], laidByText := true, laidKinds := [.data, .pinned], laidTests := true, laidLooks := .later }
def LinePlacesCardSaid : Prop := Claim7.holds Tryd.pinned (.plain (OpenSpec.ofChange linePlacesSpec)) linePlacesCard

/-- THE SECOND FORM's CARD OF 'bureaulaw12.MoveAll'. -/
def moveAllUptoCard : Claim7 := { stood := { row := moveAllUptoRow, standIns := [], harness := (true, "9cc36356dbcbd080771f035660feaa48744131233757aa995d820fb3f888e1eb"), looks := false }, kinds := [], alts := [], laidByText := true, laidKinds := [.data, .pinned], laidTests := true, laidLooks := .later }
def MoveAllUptoCardSaid : Prop := Claim7.holds Tryd.pinned (.plain (OpenSpec.upto moveAllSpec)) moveAllUptoCard

/-- THE SECOND FORM's CARD OF 'bureaulaw12.MoveWithin'. -/
def moveWithinUptoCard : Claim7 := { stood := { row := moveWithinUptoRow, standIns := [], harness := (true, "9cc36356dbcbd080771f035660feaa48744131233757aa995d820fb3f888e1eb"), looks := false }, kinds := [], alts := [], laidByText := true, laidKinds := [.data, .pinned], laidTests := true, laidLooks := .later }
def MoveWithinUptoCardSaid : Prop := Claim7.holds Tryd.pinned (.plain (OpenSpec.upto moveWithinSpec)) moveWithinUptoCard

/-- THE SECOND FORM's CARD OF 'bureaulaw12.MoveTwice'. -/
def moveTwiceUptoCard : Claim7 := { stood := { row := moveTwiceUptoRow, standIns := [], harness := (true, "9cc36356dbcbd080771f035660feaa48744131233757aa995d820fb3f888e1eb"), looks := false }, kinds := [], alts := [], laidByText := true, laidKinds := [.data, .pinned], laidTests := true, laidLooks := .later }
def MoveTwiceUptoCardSaid : Prop := Claim7.holds Tryd.pinned (.plain (OpenSpec.upto moveTwiceSpec)) moveTwiceUptoCard

/-- THE SECOND FORM's CARD OF 'bureaulaw12.MoveFinds'. -/
def moveFindsUptoCard : Claim7 := { stood := { row := moveFindsUptoRow, standIns := [], harness := (true, "9cc36356dbcbd080771f035660feaa48744131233757aa995d820fb3f888e1eb"), looks := false }, kinds := [], alts := [], laidByText := true, laidKinds := [.data, .pinned], laidTests := true, laidLooks := .later }
def MoveFindsUptoCardSaid : Prop := Claim7.holds Tryd.pinned (.plain (OpenSpec.upto moveFindsSpec)) moveFindsUptoCard

/-- THE SECOND FORM's CARD OF 'bureaulaw12.MoveLines'. -/
def moveLinesUptoCard : Claim7 := { stood := { row := moveLinesUptoRow, standIns := [], harness := (true, "9cc36356dbcbd080771f035660feaa48744131233757aa995d820fb3f888e1eb"), looks := false }, kinds := [], alts := [], laidByText := true, laidKinds := [.data, .pinned], laidTests := true, laidLooks := .later }
def MoveLinesUptoCardSaid : Prop := Claim7.holds Tryd.pinned (.plain (OpenSpec.upto moveLinesSpec)) moveLinesUptoCard

/-- THE SECOND FORM's CARD OF 'bureautop.WholeWords'. -/
def wholeWordsUptoCard : Claim7 := { stood := { row := wholeWordsUptoRow, standIns := [], harness := (true, "9cc36356dbcbd080771f035660feaa48744131233757aa995d820fb3f888e1eb"), looks := false }, kinds := [], alts := [], laidByText := true, laidKinds := [.data, .pinned], laidTests := true, laidLooks := .later }
def WholeWordsUptoCardSaid : Prop := Claim7.holds Tryd.pinned (.plain (OpenSpec.upto wholeWordsSpec)) wholeWordsUptoCard

/-- THE SECOND FORM's CARD OF 'bureaulaw06.LineWhole'. -/
def lineWholeUptoCard : Claim7 := { stood := { row := lineWholeUptoRow, standIns := [], harness := (true, "9cc36356dbcbd080771f035660feaa48744131233757aa995d820fb3f888e1eb"), looks := false }, kinds := [], alts := [], laidByText := true, laidKinds := [.data, .pinned], laidTests := true, laidLooks := .later }
def LineWholeUptoCardSaid : Prop := Claim7.holds Tryd.pinned (.plain (OpenSpec.upto lineWholeSpec)) lineWholeUptoCard

/-- THE SECOND FORM's CARD OF 'bureaulaw06.LinePlaces'. -/
def linePlacesUptoCard : Claim7 := { stood := { row := linePlacesUptoRow, standIns := [], harness := (true, "9cc36356dbcbd080771f035660feaa48744131233757aa995d820fb3f888e1eb"), looks := false }, kinds := [], alts := [], laidByText := true, laidKinds := [.data, .pinned], laidTests := true, laidLooks := .later }
def LinePlacesUptoCardSaid : Prop := Claim7.holds Tryd.pinned (.plain (OpenSpec.upto linePlacesSpec)) linePlacesUptoCard
end Rows
end Go.Proofs.YtpajakfmahfpkaaDoor
