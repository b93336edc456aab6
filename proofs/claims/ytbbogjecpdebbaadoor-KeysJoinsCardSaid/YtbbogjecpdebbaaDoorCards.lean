/-
  DERIVED. GIVEN WITH THE SEED: THE CARDS: each row of YtbbogjecpdebbaaDoorRows.lean that lists a variable, with what it lists TIED to the program's text (the seventh form; the later family's looks); each row that meets fmt, with fmt's text TOLD by the authors' own Lean function (tested against real Go, not proved from fmt's source: count such statements apart). THE CARD IS WHAT COUNTS. Prove the row's statement (the work); the ties are given (YtbbogjecpdebbaaDoorTie.lean); close each card by the builder's one call (the guide's Derived/Test/ToyasCard.lean, 'card_holds'). Laid BY PROGRAM, IN A SANDBOX (cutbox-door.mjs). By AI agents, Wed Nov 11 2026. No macro, syntax, notation, axiom, sorry.
-/
import Derived.Test.YtbbogjecpdebbaaDoorRows
import GoSem.ClaimSeven
namespace Go.Proofs.YtbbogjecpdebbaaDoor
namespace Rows

/-- THE TIED CARD OF 'bureaulaw10.KeysMay'. -/
def keysMayCard : Claim7 := { stood := { row := keysMayRow, standIns := [], harness := (true, "cf03ceb910741e898b37d3b4f2e1e80b9238b73bcb480ed4d77acb035a70df90"), looks := false }, kinds := [], alts := [], laidByText := true, laidKinds := [.data, .pinned], laidTests := true, laidLooks := .later }
def KeysMayCardSaid : Prop := Claim7.holds Tryd.pinned (.plain (OpenSpec.ofChange keysMaySpec)) keysMayCard

/-- THE TIED CARD OF 'bureaulaw10.KeysPrints'. -/
def keysPrintsCard : Claim7 := { stood := { row := keysPrintsRow, standIns := [], harness := (true, "cf03ceb910741e898b37d3b4f2e1e80b9238b73bcb480ed4d77acb035a70df90"), looks := false }, kinds := [], alts := [], laidByText := true, laidKinds := [.data, .pinned], laidTests := true, laidLooks := .later }
def KeysPrintsCardSaid : Prop := Claim7.holds Tryd.pinned (.plain (OpenSpec.ofChange keysPrintsSpec)) keysPrintsCard

/-- THE TIED CARD OF 'bureaulaw10.KeysParses'. -/
def keysParsesCard : Claim7 := { stood := { row := keysParsesRow, standIns := [], harness := (true, "cf03ceb910741e898b37d3b4f2e1e80b9238b73bcb480ed4d77acb035a70df90"), looks := false }, kinds := [], alts := [], laidByText := true, laidKinds := [.data, .pinned], laidTests := true, laidLooks := .later }
def KeysParsesCardSaid : Prop := Claim7.holds Tryd.pinned (.plain (OpenSpec.ofChange keysParsesSpec)) keysParsesCard

/-- THE TIED CARD OF 'bureaulaw10.KeysBack'. -/
def keysBackCard : Claim7 := { stood := { row := keysBackRow, standIns := [], harness := (true, "cf03ceb910741e898b37d3b4f2e1e80b9238b73bcb480ed4d77acb035a70df90"), looks := false }, kinds := [], alts := [], laidByText := true, laidKinds := [.data, .pinned], laidTests := true, laidLooks := .later }
def KeysBackCardSaid : Prop := Claim7.holds Tryd.pinned (.plain (OpenSpec.ofChange keysBackSpec)) keysBackCard

/-- THE TIED CARD OF 'bureaulaw10.KeysJoins'. -/
def keysJoinsCard : Claim7 := { stood := { row := keysJoinsRow, standIns := [], harness := (true, "cf03ceb910741e898b37d3b4f2e1e80b9238b73bcb480ed4d77acb035a70df90"), looks := false }, kinds := [], alts := [], laidByText := true, laidKinds := [.data, .pinned], laidTests := true, laidLooks := .later }
def KeysJoinsCardSaid : Prop := Claim7.holds Tryd.pinned (.plain (OpenSpec.ofChange keysJoinsSpec)) keysJoinsCard

/-- THE SECOND FORM's CARD OF 'bureaulaw10.KeysMay'. -/
def keysMayUptoCard : Claim7 := { stood := { row := keysMayUptoRow, standIns := [], harness := (true, "cf03ceb910741e898b37d3b4f2e1e80b9238b73bcb480ed4d77acb035a70df90"), looks := false }, kinds := [], alts := [], laidByText := true, laidKinds := [.data, .pinned], laidTests := true, laidLooks := .later }
def KeysMayUptoCardSaid : Prop := Claim7.holds Tryd.pinned (.plain (OpenSpec.upto keysMaySpec)) keysMayUptoCard

/-- THE SECOND FORM's CARD OF 'bureaulaw10.KeysPrints'. -/
def keysPrintsUptoCard : Claim7 := { stood := { row := keysPrintsUptoRow, standIns := [], harness := (true, "cf03ceb910741e898b37d3b4f2e1e80b9238b73bcb480ed4d77acb035a70df90"), looks := false }, kinds := [], alts := [], laidByText := true, laidKinds := [.data, .pinned], laidTests := true, laidLooks := .later }
def KeysPrintsUptoCardSaid : Prop := Claim7.holds Tryd.pinned (.plain (OpenSpec.upto keysPrintsSpec)) keysPrintsUptoCard

/-- THE SECOND FORM's CARD OF 'bureaulaw10.KeysParses'. -/
def keysParsesUptoCard : Claim7 := { stood := { row := keysParsesUptoRow, standIns := [], harness := (true, "cf03ceb910741e898b37d3b4f2e1e80b9238b73bcb480ed4d77acb035a70df90"), looks := false }, kinds := [], alts := [], laidByText := true, laidKinds := [.data, .pinned], laidTests := true, laidLooks := .later }
def KeysParsesUptoCardSaid : Prop := Claim7.holds Tryd.pinned (.plain (OpenSpec.upto keysParsesSpec)) keysParsesUptoCard

/-- THE SECOND FORM's CARD OF 'bureaulaw10.KeysBack'. -/
def keysBackUptoCard : Claim7 := { stood := { row := keysBackUptoRow, standIns := [], harness := (true, "cf03ceb910741e898b37d3b4f2e1e80b9238b73bcb480ed4d77acb035a70df90"), looks := false }, kinds := [], alts := [], laidByText := true, laidKinds := [.data, .pinned], laidTests := true, laidLooks := .later }
def KeysBackUptoCardSaid : Prop := Claim7.holds Tryd.pinned (.plain (OpenSpec.upto keysBackSpec)) keysBackUptoCard

/-- THE SECOND FORM's CARD OF 'bureaulaw10.KeysJoins'. -/
def keysJoinsUptoCard : Claim7 := { stood := { row := keysJoinsUptoRow, standIns := [], harness := (true, "cf03ceb910741e898b37d3b4f2e1e80b9238b73bcb480ed4d77acb035a70df90"), looks := false }, kinds := [], alts := [], laidByText := true, laidKinds := [.data, .pinned], laidTests := true, laidLooks := .later }
def KeysJoinsUptoCardSaid : Prop := Claim7.holds Tryd.pinned (.plain (OpenSpec.upto keysJoinsSpec)) keysJoinsUptoCard
end Rows
end Go.Proofs.YtbbogjecpdebbaaDoor
