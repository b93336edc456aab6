/-
  DERIVED. GIVEN WITH THE SEED: THE CARDS: each row of YthkhjcpijecokaaDoorRows.lean that lists a variable, with what it lists TIED to the program's text (the seventh form; the later family's looks); each row that meets fmt, with fmt's text TOLD by the authors' own Lean function (tested against real Go, not proved from fmt's source: count such statements apart). THE CARD IS WHAT COUNTS. Prove the row's statement (the work); the ties are given (YthkhjcpijecokaaDoorTie.lean); close each card by the builder's one call (the guide's Derived/Test/ToyasCard.lean, 'card_holds'). Laid BY PROGRAM, IN A SANDBOX (cutbox-door.mjs). By AI agents, Wed Nov 11 2026. No macro, syntax, notation, axiom, sorry.
-/
import Derived.Test.YthkhjcpijecokaaDoorRows
import GoSem.ClaimSeven
namespace Go.Proofs.YthkhjcpijecokaaDoor
namespace Rows

/-- THE TIED CARD OF 'bureaulaw06.LineBounds'. -/
def lineBoundsCard : Claim7 := { stood := { row := lineBoundsRow, standIns := [], harness := (true, "d6e39f9a8c107eeb315ec4025e099e521ae9798d1b8fd828db6a9c4855ee5671"), looks := false }, kinds := [], alts := [], laidByText := true, laidKinds := [.data, .pinned], laidTests := true, laidLooks := .later }
def LineBoundsCardSaid : Prop := Claim7.holds Tryd.pinned (.plain (OpenSpec.ofChange lineBoundsSpec)) lineBoundsCard

/-- THE TIED CARD OF 'bureaulaw06.LineWhole'. -/
def lineWholeCard : Claim7 := { stood := { row := lineWholeRow, standIns := [], harness := (true, "d6e39f9a8c107eeb315ec4025e099e521ae9798d1b8fd828db6a9c4855ee5671"), looks := false }, kinds := [], alts := [], laidByText := true, laidKinds := [.data, .pinned], laidTests := true, laidLooks := .later }
def LineWholeCardSaid : Prop := Claim7.holds Tryd.pinned (.plain (OpenSpec.ofChange lineWholeSpec)) lineWholeCard

/-- THE TIED CARD OF 'bureaulaw06.LineCuts'. -/
def lineCutsCard : Claim7 := { stood := { row := lineCutsRow, standIns := [], harness := (true, "d6e39f9a8c107eeb315ec4025e099e521ae9798d1b8fd828db6a9c4855ee5671"), looks := false }, kinds := [], alts := [], laidByText := true, laidKinds := [.data, .pinned], laidTests := true, laidLooks := .later }
def LineCutsCardSaid : Prop := Claim7.holds Tryd.pinned (.plain (OpenSpec.ofChange lineCutsSpec)) lineCutsCard

/-- THE TIED CARD OF 'bureaulaw06.LineCounts'. -/
def lineCountsCard : Claim7 := { stood := { row := lineCountsRow, standIns := [], harness := (true, "d6e39f9a8c107eeb315ec4025e099e521ae9798d1b8fd828db6a9c4855ee5671"), looks := false }, kinds := [], alts := [], laidByText := true, laidKinds := [.data, .pinned], laidTests := true, laidLooks := .later }
def LineCountsCardSaid : Prop := Claim7.holds Tryd.pinned (.plain (OpenSpec.ofChange lineCountsSpec)) lineCountsCard

/-- THE TIED CARD OF 'bureaulaw06.LinePlaces'. -/
def linePlacesCard : Claim7 := { stood := { row := linePlacesRow, standIns := [], harness := (true, "d6e39f9a8c107eeb315ec4025e099e521ae9798d1b8fd828db6a9c4855ee5671"), looks := false }, kinds := [], alts := [], laidByText := true, laidKinds := [.data, .pinned], laidTests := true, laidLooks := .later }
def LinePlacesCardSaid : Prop := Claim7.holds Tryd.pinned (.plain (OpenSpec.ofChange linePlacesSpec)) linePlacesCard

/-- THE TIED CARD OF 'bureaulaw06.LineBack'. -/
def lineBackCard : Claim7 := { stood := { row := lineBackRow, standIns := [], harness := (true, "d6e39f9a8c107eeb315ec4025e099e521ae9798d1b8fd828db6a9c4855ee5671"), looks := false }, kinds := [], alts := [], laidByText := true, laidKinds := [.data, .pinned], laidTests := true, laidLooks := .later }
def LineBackCardSaid : Prop := Claim7.holds Tryd.pinned (.plain (OpenSpec.ofChange lineBackSpec)) lineBackCard

/-- THE SECOND FORM's CARD OF 'bureaulaw06.LineBounds'. -/
def lineBoundsUptoCard : Claim7 := { stood := { row := lineBoundsUptoRow, standIns := [], harness := (true, "d6e39f9a8c107eeb315ec4025e099e521ae9798d1b8fd828db6a9c4855ee5671"), looks := false }, kinds := [], alts := [], laidByText := true, laidKinds := [.data, .pinned], laidTests := true, laidLooks := .later }
def LineBoundsUptoCardSaid : Prop := Claim7.holds Tryd.pinned (.plain (OpenSpec.upto lineBoundsSpec)) lineBoundsUptoCard

/-- THE SECOND FORM's CARD OF 'bureaulaw06.LineWhole'. -/
def lineWholeUptoCard : Claim7 := { stood := { row := lineWholeUptoRow, standIns := [], harness := (true, "d6e39f9a8c107eeb315ec4025e099e521ae9798d1b8fd828db6a9c4855ee5671"), looks := false }, kinds := [], alts := [], laidByText := true, laidKinds := [.data, .pinned], laidTests := true, laidLooks := .later }
def LineWholeUptoCardSaid : Prop := Claim7.holds Tryd.pinned (.plain (OpenSpec.upto lineWholeSpec)) lineWholeUptoCard

/-- THE SECOND FORM's CARD OF 'bureaulaw06.LineCuts'. -/
def lineCutsUptoCard : Claim7 := { stood := { row := lineCutsUptoRow, standIns := [], harness := (true, "d6e39f9a8c107eeb315ec4025e099e521ae9798d1b8fd828db6a9c4855ee5671"), looks := false }, kinds := [], alts := [], laidByText := true, laidKinds := [.data, .pinned], laidTests := true, laidLooks := .later }
def LineCutsUptoCardSaid : Prop := Claim7.holds Tryd.pinned (.plain (OpenSpec.upto lineCutsSpec)) lineCutsUptoCard

/-- THE SECOND FORM's CARD OF 'bureaulaw06.LineCounts'. -/
def lineCountsUptoCard : Claim7 := { stood := { row := lineCountsUptoRow, standIns := [], harness := (true, "d6e39f9a8c107eeb315ec4025e099e521ae9798d1b8fd828db6a9c4855ee5671"), looks := false }, kinds := [], alts := [], laidByText := true, laidKinds := [.data, .pinned], laidTests := true, laidLooks := .later }
def LineCountsUptoCardSaid : Prop := Claim7.holds Tryd.pinned (.plain (OpenSpec.upto lineCountsSpec)) lineCountsUptoCard

/-- THE SECOND FORM's CARD OF 'bureaulaw06.LinePlaces'. -/
def linePlacesUptoCard : Claim7 := { stood := { row := linePlacesUptoRow, standIns := [], harness := (true, "d6e39f9a8c107eeb315ec4025e099e521ae9798d1b8fd828db6a9c4855ee5671"), looks := false }, kinds := [], alts := [], laidByText := true, laidKinds := [.data, .pinned], laidTests := true, laidLooks := .later }
def LinePlacesUptoCardSaid : Prop := Claim7.holds Tryd.pinned (.plain (OpenSpec.upto linePlacesSpec)) linePlacesUptoCard

/-- THE SECOND FORM's CARD OF 'bureaulaw06.LineBack'. -/
def lineBackUptoCard : Claim7 := { stood := { row := lineBackUptoRow, standIns := [], harness := (true, "d6e39f9a8c107eeb315ec4025e099e521ae9798d1b8fd828db6a9c4855ee5671"), looks := false }, kinds := [], alts := [], laidByText := true, laidKinds := [.data, .pinned], laidTests := true, laidLooks := .later }
def LineBackUptoCardSaid : Prop := Claim7.holds Tryd.pinned (.plain (OpenSpec.upto lineBackSpec)) lineBackUptoCard
end Rows
end Go.Proofs.YthkhjcpijecokaaDoor
