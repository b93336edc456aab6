/-
  DERIVED. GIVEN WITH THE SEED: THE CARDS: each row of YtodlhgpmenhnoaaDoorRows.lean that lists a variable, with what it lists TIED to the program's text (the seventh form; the later family's looks); each row that meets fmt, with fmt's text TOLD by the authors' own Lean function (tested against real Go, not proved from fmt's source: count such statements apart). THE CARD IS WHAT COUNTS. Prove the row's statement (the work); the ties are given (YtodlhgpmenhnoaaDoorTie.lean); close each card by the builder's one call (the guide's Derived/Test/ToyasCard.lean, 'card_holds'). Laid BY PROGRAM, IN A SANDBOX (cutbox-door.mjs). By AI agents, Wed Nov 11 2026. No macro, syntax, notation, axiom, sorry.
-/
import Derived.Test.YtodlhgpmenhnoaaDoorRows
import GoSem.ClaimSeven
namespace Go.Proofs.YtodlhgpmenhnoaaDoor
namespace Rows

/-- THE TIED CARD OF 'bureaulaw02.GlyphEncodes'. -/
def glyphEncodesCard : Claim7 := { stood := { row := glyphEncodesRow, standIns := [], harness := (true, "3bf1f9c69256bfeeb9f63b6fd459fed429de35309e772301a6abd0b4e9331244"), looks := false }, kinds := [], alts := [], laidByText := true, laidKinds := [.data, .pinned], laidTests := true, laidLooks := .later }
def GlyphEncodesCardSaid : Prop := Claim7.holds Tryd.pinned (.plain (OpenSpec.ofChange glyphEncodesSpec)) glyphEncodesCard

/-- THE TIED CARD OF 'bureaulaw02.GlyphMoves'. -/
def glyphMovesCard : Claim7 := { stood := { row := glyphMovesRow, standIns := [], harness := (true, "3bf1f9c69256bfeeb9f63b6fd459fed429de35309e772301a6abd0b4e9331244"), looks := false }, kinds := [], alts := [], laidByText := true, laidKinds := [.data, .pinned], laidTests := true, laidLooks := .later }
def GlyphMovesCardSaid : Prop := Claim7.holds Tryd.pinned (.plain (OpenSpec.ofChange glyphMovesSpec)) glyphMovesCard

/-- THE TIED CARD OF 'bureaulaw02.GlyphSigns'. -/
def glyphSignsCard : Claim7 := { stood := { row := glyphSignsRow, standIns := [], harness := (true, "3bf1f9c69256bfeeb9f63b6fd459fed429de35309e772301a6abd0b4e9331244"), looks := false }, kinds := [], alts := [], laidByText := true, laidKinds := [.data, .pinned], laidTests := true, laidLooks := .later }
def GlyphSignsCardSaid : Prop := Claim7.holds Tryd.pinned (.plain (OpenSpec.ofChange glyphSignsSpec)) glyphSignsCard

/-- THE TIED CARD OF 'bureaulaw02.GlyphJoins'. -/
def glyphJoinsCard : Claim7 := { stood := { row := glyphJoinsRow, standIns := [], harness := (true, "3bf1f9c69256bfeeb9f63b6fd459fed429de35309e772301a6abd0b4e9331244"), looks := false }, kinds := [], alts := [], laidByText := true, laidKinds := [.data, .pinned], laidTests := true, laidLooks := .later }
def GlyphJoinsCardSaid : Prop := Claim7.holds Tryd.pinned (.plain (OpenSpec.ofChange glyphJoinsSpec)) glyphJoinsCard

/-- THE TIED CARD OF 'bureaulaw02.GlyphBack'. -/
def glyphBackCard : Claim7 := { stood := { row := glyphBackRow, standIns := [], harness := (true, "3bf1f9c69256bfeeb9f63b6fd459fed429de35309e772301a6abd0b4e9331244"), looks := false }, kinds := [], alts := [], laidByText := true, laidKinds := [.data, .pinned], laidTests := true, laidLooks := .later }
def GlyphBackCardSaid : Prop := Claim7.holds Tryd.pinned (.plain (OpenSpec.ofChange glyphBackSpec)) glyphBackCard

/-- THE TIED CARD OF 'bureaulaw02.GlyphCovers'. -/
def glyphCoversCard : Claim7 := { stood := { row := glyphCoversRow, standIns := [], harness := (true, "3bf1f9c69256bfeeb9f63b6fd459fed429de35309e772301a6abd0b4e9331244"), looks := false }, kinds := [], alts := [], laidByText := true, laidKinds := [.data, .pinned], laidTests := true, laidLooks := .later }
def GlyphCoversCardSaid : Prop := Claim7.holds Tryd.pinned (.plain (OpenSpec.ofChange glyphCoversSpec)) glyphCoversCard

/-- THE SECOND FORM's CARD OF 'bureaulaw02.GlyphEncodes'. -/
def glyphEncodesUptoCard : Claim7 := { stood := { row := glyphEncodesUptoRow, standIns := [], harness := (true, "3bf1f9c69256bfeeb9f63b6fd459fed429de35309e772301a6abd0b4e9331244"), looks := false }, kinds := [], alts := [], laidByText := true, laidKinds := [.data, .pinned], laidTests := true, laidLooks := .later }
def GlyphEncodesUptoCardSaid : Prop := Claim7.holds Tryd.pinned (.plain (OpenSpec.upto glyphEncodesSpec)) glyphEncodesUptoCard

/-- THE SECOND FORM's CARD OF 'bureaulaw02.GlyphMoves'. -/
def glyphMovesUptoCard : Claim7 := { stood := { row := glyphMovesUptoRow, standIns := [], harness := (true, "3bf1f9c69256bfeeb9f63b6fd459fed429de35309e772301a6abd0b4e9331244"), looks := false }, kinds := [], alts := [], laidByText := true, laidKinds := [.data, .pinned], laidTests := true, laidLooks := .later }
def GlyphMovesUptoCardSaid : Prop := Claim7.holds Tryd.pinned (.plain (OpenSpec.upto glyphMovesSpec)) glyphMovesUptoCard

/-- THE SECOND FORM's CARD OF 'bureaulaw02.GlyphSigns'. -/
def glyphSignsUptoCard : Claim7 := { stood := { row := glyphSignsUptoRow, standIns := [], harness := (true, "3bf1f9c69256bfeeb9f63b6fd459fed429de35309e772301a6abd0b4e9331244"), looks := false }, kinds := [], alts := [], laidByText := true, laidKinds := [.data, .pinned], laidTests := true, laidLooks := .later }
def GlyphSignsUptoCardSaid : Prop := Claim7.holds Tryd.pinned (.plain (OpenSpec.upto glyphSignsSpec)) glyphSignsUptoCard

/-- THE SECOND FORM's CARD OF 'bureaulaw02.GlyphJoins'. -/
def glyphJoinsUptoCard : Claim7 := { stood := { row := glyphJoinsUptoRow, standIns := [], harness := (true, "3bf1f9c69256bfeeb9f63b6fd459fed429de35309e772301a6abd0b4e9331244"), looks := false }, kinds := [], alts := [], laidByText := true, laidKinds := [.data, .pinned], laidTests := true, laidLooks := .later }
def GlyphJoinsUptoCardSaid : Prop := Claim7.holds Tryd.pinned (.plain (OpenSpec.upto glyphJoinsSpec)) glyphJoinsUptoCard

/-- THE SECOND FORM's CARD OF 'bureaulaw02.GlyphBack'. -/
def glyphBackUptoCard : Claim7 := { stood := { row := glyphBackUptoRow, standIns := [], harness := (true, "3bf1f9c69256bfeeb9f63b6fd459fed429de35309e772301a6abd0b4e9331244"), looks := false }, kinds := [], alts := [], laidByText := true, laidKinds := [.data, .pinned], laidTests := true, laidLooks := .later }
def GlyphBackUptoCardSaid : Prop := Claim7.holds Tryd.pinned (.plain (OpenSpec.upto glyphBackSpec)) glyphBackUptoCard

/-- THE SECOND FORM's CARD OF 'bureaulaw02.GlyphCovers'. -/
def glyphCoversUptoCard : Claim7 := { stood := { row := glyphCoversUptoRow, standIns := [], harness := (true, "3bf1f9c69256bfeeb9f63b6fd459fed429de35309e772301a6abd0b4e9331244"), looks := false }, kinds := [], alts := [], laidByText := true, laidKinds := [.data, .pinned], laidTests := true, laidLooks := .later }
def GlyphCoversUptoCardSaid : Prop := Claim7.holds Tryd.pinned (.plain (OpenSpec.upto glyphCoversSpec)) glyphCoversUptoCard
end Rows
end Go.Proofs.YtodlhgpmenhnoaaDoor
