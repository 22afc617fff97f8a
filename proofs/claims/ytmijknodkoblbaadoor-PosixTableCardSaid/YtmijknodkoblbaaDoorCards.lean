/-
  DERIVED. GIVEN WITH THE SEED: THE CARDS: each row of YtmijknodkoblbaaDoorRows.lean that lists a variable, with what it lists TIED to the program's text (the seventh form; the later family's looks); each row that meets fmt, with fmt's text TOLD by the authors' own Lean function (tested against real Go, not proved from fmt's source: count such statements apart). THE CARD IS WHAT COUNTS. Prove the row's statement (the work); the ties are given (YtmijknodkoblbaaDoorTie.lean); close each card by the builder's one call (the guide's Derived/Test/ToyasCard.lean, 'card_holds'). Laid BY PROGRAM, IN A SANDBOX (cutbox-door.mjs). By AI agents, Wed Nov 11 2026. No macro, syntax, notation, axiom, sorry.
-/
import Derived.Test.YtmijknodkoblbaaDoorRows
import GoSem.ClaimSeven
namespace Go.Proofs.YtmijknodkoblbaaDoor
namespace Rows

/-- THE TIED CARD OF 'distafflaw24.PosixProblems'. -/
def posixProblemsCard : Claim7 := { stood := { row := posixProblemsRow, standIns := [], harness := (true, "f1e789bb2c121c9f55657bbfd16e682b911ec9740b2e48e3dd8fad6a067edcc9"), looks := true }, kinds := [], alts := [], laidByText := true, laidKinds := [.handle], laidTests := true, laidLooks := .later }
def PosixProblemsCardSaid : Prop := Claim7.holds Tryd.pinned (.plain (OpenSpec.ofChange posixProblemsSpec)) posixProblemsCard

/-- THE TIED CARD OF 'distafflaw24.PosixNames'. -/
def posixNamesCard : Claim7 := { stood := { row := posixNamesRow, standIns := [], harness := (true, "f1e789bb2c121c9f55657bbfd16e682b911ec9740b2e48e3dd8fad6a067edcc9"), looks := true }, kinds := [], alts := [], laidByText := true, laidKinds := [.handle], laidTests := true, laidLooks := .later }
def PosixNamesCardSaid : Prop := Claim7.holds Tryd.pinned (.plain (OpenSpec.ofChange posixNamesSpec)) posixNamesCard

/-- THE TIED CARD OF 'distafflaw24.PosixTable'. -/
def posixTableCard : Claim7 := { stood := { row := posixTableRow, standIns := [], harness := (true, "f1e789bb2c121c9f55657bbfd16e682b911ec9740b2e48e3dd8fad6a067edcc9"), looks := true }, kinds := [], alts := [], laidByText := true, laidKinds := [.handle], laidTests := true, laidLooks := .later }
def PosixTableCardSaid : Prop := Claim7.holds Tryd.pinned (.plain (OpenSpec.ofChange posixTableSpec)) posixTableCard

/-- THE SECOND FORM's CARD OF 'distafflaw24.PosixProblems'. -/
def posixProblemsUptoCard : Claim7 := { stood := { row := posixProblemsUptoRow, standIns := [], harness := (true, "f1e789bb2c121c9f55657bbfd16e682b911ec9740b2e48e3dd8fad6a067edcc9"), looks := true }, kinds := [], alts := [], laidByText := true, laidKinds := [.handle], laidTests := true, laidLooks := .later }
def PosixProblemsUptoCardSaid : Prop := Claim7.holds Tryd.pinned (.plain (OpenSpec.upto posixProblemsSpec)) posixProblemsUptoCard

/-- THE SECOND FORM's CARD OF 'distafflaw24.PosixNames'. -/
def posixNamesUptoCard : Claim7 := { stood := { row := posixNamesUptoRow, standIns := [], harness := (true, "f1e789bb2c121c9f55657bbfd16e682b911ec9740b2e48e3dd8fad6a067edcc9"), looks := true }, kinds := [], alts := [], laidByText := true, laidKinds := [.handle], laidTests := true, laidLooks := .later }
def PosixNamesUptoCardSaid : Prop := Claim7.holds Tryd.pinned (.plain (OpenSpec.upto posixNamesSpec)) posixNamesUptoCard

/-- THE SECOND FORM's CARD OF 'distafflaw24.PosixTable'. -/
def posixTableUptoCard : Claim7 := { stood := { row := posixTableUptoRow, standIns := [], harness := (true, "f1e789bb2c121c9f55657bbfd16e682b911ec9740b2e48e3dd8fad6a067edcc9"), looks := true }, kinds := [], alts := [], laidByText := true, laidKinds := [.handle], laidTests := true, laidLooks := .later }
def PosixTableUptoCardSaid : Prop := Claim7.holds Tryd.pinned (.plain (OpenSpec.upto posixTableSpec)) posixTableUptoCard
end Rows
end Go.Proofs.YtmijknodkoblbaaDoor
