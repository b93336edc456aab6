/-
  DERIVED. GIVEN WITH THE SEED: THE CARDS: each row of YtcinobfflfkmjaaDoorRows.lean that lists a variable, with what it lists TIED to the program's text (the seventh form; the later family's looks); each row that meets fmt, with fmt's text TOLD by the authors' own Lean function (tested against real Go, not proved from fmt's source: count such statements apart). THE CARD IS WHAT COUNTS. Prove the row's statement (the work); the ties are given (YtcinobfflfkmjaaDoorTie.lean); close each card by the builder's one call (the guide's Derived/Test/ToyasCard.lean, 'card_holds'). Laid BY PROGRAM, IN A SANDBOX (cutbox-door.mjs). By AI agents, Wed Nov 11 2026. No macro, syntax, notation, axiom, sorry.
-/
import Derived.Test.YtcinobfflfkmjaaDoorRows
import GoSem.ClaimSeven
namespace Go.Proofs.YtcinobfflfkmjaaDoor
namespace Rows

/-- THE TIED CARD OF 'bureaulaw13.ObjectFinds'. -/
def objectFindsCard : Claim7 := { stood := { row := objectFindsRow, standIns := [], harness := (true, "eee490df6e7268db56ebaeaf0db2f19fefde3274fef0e3f64ba13baea72078ea"), looks := false }, kinds := [], alts := [], laidByText := true, laidKinds := [.data, .pinned], laidTests := true, laidLooks := .later }
def ObjectFindsCardSaid : Prop := Claim7.holds Tryd.pinned (.plain (OpenSpec.ofChange objectFindsSpec)) objectFindsCard

/-- THE TIED CARD OF 'bureaulaw13.ObjectRows'. -/
def objectRowsCard : Claim7 := { stood := { row := objectRowsRow, standIns := [], harness := (true, "eee490df6e7268db56ebaeaf0db2f19fefde3274fef0e3f64ba13baea72078ea"), looks := false }, kinds := [], alts := [], laidByText := true, laidKinds := [.data, .pinned], laidTests := true, laidLooks := .later }
def ObjectRowsCardSaid : Prop := Claim7.holds Tryd.pinned (.plain (OpenSpec.ofChange objectRowsSpec)) objectRowsCard

/-- THE TIED CARD OF 'bureaulaw13.ObjectBrackets'. -/
def objectBracketsCard : Claim7 := { stood := { row := objectBracketsRow, standIns := [], harness := (true, "eee490df6e7268db56ebaeaf0db2f19fefde3274fef0e3f64ba13baea72078ea"), looks := false }, kinds := [], alts := [], laidByText := true, laidKinds := [.data, .pinned], laidTests := true, laidLooks := .later }
def ObjectBracketsCardSaid : Prop := Claim7.holds Tryd.pinned (.plain (OpenSpec.ofChange objectBracketsSpec)) objectBracketsCard

/-- THE TIED CARD OF 'bureaulaw13.ObjectQuotes'. -/
def objectQuotesCard : Claim7 := { stood := { row := objectQuotesRow, standIns := [], harness := (true, "eee490df6e7268db56ebaeaf0db2f19fefde3274fef0e3f64ba13baea72078ea"), looks := false }, kinds := [], alts := [], laidByText := true, laidKinds := [.data, .pinned], laidTests := true, laidLooks := .later }
def ObjectQuotesCardSaid : Prop := Claim7.holds Tryd.pinned (.plain (OpenSpec.ofChange objectQuotesSpec)) objectQuotesCard

/-- THE SECOND FORM's CARD OF 'bureaulaw13.ObjectFinds'. -/
def objectFindsUptoCard : Claim7 := { stood := { row := objectFindsUptoRow, standIns := [], harness := (true, "eee490df6e7268db56ebaeaf0db2f19fefde3274fef0e3f64ba13baea72078ea"), looks := false }, kinds := [], alts := [], laidByText := true, laidKinds := [.data, .pinned], laidTests := true, laidLooks := .later }
def ObjectFindsUptoCardSaid : Prop := Claim7.holds Tryd.pinned (.plain (OpenSpec.upto objectFindsSpec)) objectFindsUptoCard

/-- THE SECOND FORM's CARD OF 'bureaulaw13.ObjectRows'. -/
def objectRowsUptoCard : Claim7 := { stood := { row := objectRowsUptoRow, standIns := [], harness := (true, "eee490df6e7268db56ebaeaf0db2f19fefde3274fef0e3f64ba13baea72078ea"), looks := false }, kinds := [], alts := [], laidByText := true, laidKinds := [.data, .pinned], laidTests := true, laidLooks := .later }
def ObjectRowsUptoCardSaid : Prop := Claim7.holds Tryd.pinned (.plain (OpenSpec.upto objectRowsSpec)) objectRowsUptoCard

/-- THE SECOND FORM's CARD OF 'bureaulaw13.ObjectBrackets'. -/
def objectBracketsUptoCard : Claim7 := { stood := { row := objectBracketsUptoRow, standIns := [], harness := (true, "eee490df6e7268db56ebaeaf0db2f19fefde3274fef0e3f64ba13baea72078ea"), looks := false }, kinds := [], alts := [], laidByText := true, laidKinds := [.data, .pinned], laidTests := true, laidLooks := .later }
def ObjectBracketsUptoCardSaid : Prop := Claim7.holds Tryd.pinned (.plain (OpenSpec.upto objectBracketsSpec)) objectBracketsUptoCard

/-- THE SECOND FORM's CARD OF 'bureaulaw13.ObjectQuotes'. -/
def objectQuotesUptoCard : Claim7 := { stood := { row := objectQuotesUptoRow, standIns := [], harness := (true, "eee490df6e7268db56ebaeaf0db2f19fefde3274fef0e3f64ba13baea72078ea"), looks := false }, kinds := [], alts := [], laidByText := true, laidKinds := [.data, .pinned], laidTests := true, laidLooks := .later }
def ObjectQuotesUptoCardSaid : Prop := Claim7.holds Tryd.pinned (.plain (OpenSpec.upto objectQuotesSpec)) objectQuotesUptoCard
end Rows
end Go.Proofs.YtcinobfflfkmjaaDoor
