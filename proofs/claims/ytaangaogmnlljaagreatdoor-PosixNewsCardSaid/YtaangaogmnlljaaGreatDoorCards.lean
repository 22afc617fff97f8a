/-
  DERIVED. GIVEN WITH THE SEED: THE CARDS: each row of YtaangaogmnlljaaGreatDoorRows.lean that lists a variable, with what it lists TIED to the program's text (the seventh form; the later family's looks); each row that meets fmt, with fmt's text TOLD by the authors' own Lean function (tested against real Go, not proved from fmt's source: count such statements apart). THE CARD IS WHAT COUNTS. Prove the row's statement (the work); the ties are given (YtaangaogmnlljaaGreatDoorTie.lean); close each card by the builder's one call (the guide's Derived/Test/ToyasCard.lean, 'card_holds'). Laid BY PROGRAM, IN A SANDBOX (cutbox-door.mjs). By AI agents, Wed Nov 11 2026. No macro, syntax, notation, axiom, sorry.
-/
import Derived.Test.YtaangaogmnlljaaGreatDoorRows
import GoSem.ClaimSeven
namespace Go.Proofs.YtaangaogmnlljaaGreatDoor
namespace Rows

/-- THE TIED CARD OF 'distafflaw24.PosixNews'. -/
def posixNewsCard : Claim7 := { stood := { row := posixNewsRow, standIns := [], harness := (true, "e2bd65b9fd7692fcd6b7c9d31468e984774f88d9f748fc13dba4bc633c7c39d5"), looks := true }, kinds := [], alts := [], laidByText := true, laidKinds := [.data, .handle, .pinned], laidTests := true, laidLooks := .later }
def PosixNewsCardSaid : Prop := Claim7.holds Tryz.pinned (.plain (OpenSpec.ofChange posixNewsSpec)) posixNewsCard

/-- THE TIED CARD OF 'distafflaw24.PosixSteps'. -/
def posixStepsCard : Claim7 := { stood := { row := posixStepsRow, standIns := [], harness := (true, "e2bd65b9fd7692fcd6b7c9d31468e984774f88d9f748fc13dba4bc633c7c39d5"), looks := true }, kinds := [], alts := [], laidByText := true, laidKinds := [.data, .handle, .pinned], laidTests := true, laidLooks := .later }
def PosixStepsCardSaid : Prop := Claim7.holds Tryz.pinned (.plain (OpenSpec.ofChange posixStepsSpec)) posixStepsCard

/-- THE TIED CARD OF 'distafflaw24.PosixRuns'. -/
def posixRunsCard : Claim7 := { stood := { row := posixRunsRow, standIns := [], harness := (true, "e2bd65b9fd7692fcd6b7c9d31468e984774f88d9f748fc13dba4bc633c7c39d5"), looks := true }, kinds := [], alts := [], laidByText := true, laidKinds := [.data, .handle, .pinned], laidTests := true, laidLooks := .later }
def PosixRunsCardSaid : Prop := Claim7.holds Tryz.pinned (.plain (OpenSpec.ofChange posixRunsSpec)) posixRunsCard

/-- THE TIED CARD OF 'distafflaw24.PosixDenied'. -/
def posixDeniedCard : Claim7 := { stood := { row := posixDeniedRow, standIns := [], harness := (true, "e2bd65b9fd7692fcd6b7c9d31468e984774f88d9f748fc13dba4bc633c7c39d5"), looks := true }, kinds := [], alts := [], laidByText := true, laidKinds := [.data, .handle, .pinned], laidTests := true, laidLooks := .later }
def PosixDeniedCardSaid : Prop := Claim7.holds Tryz.pinned (.plain (OpenSpec.ofChange posixDeniedSpec)) posixDeniedCard

/-- THE SECOND FORM's CARD OF 'distafflaw24.PosixNews'. -/
def posixNewsUptoCard : Claim7 := { stood := { row := posixNewsUptoRow, standIns := [], harness := (true, "e2bd65b9fd7692fcd6b7c9d31468e984774f88d9f748fc13dba4bc633c7c39d5"), looks := true }, kinds := [], alts := [], laidByText := true, laidKinds := [.data, .handle, .pinned], laidTests := true, laidLooks := .later }
def PosixNewsUptoCardSaid : Prop := Claim7.holds Tryz.pinned (.plain (OpenSpec.upto posixNewsSpec)) posixNewsUptoCard

/-- THE SECOND FORM's CARD OF 'distafflaw24.PosixSteps'. -/
def posixStepsUptoCard : Claim7 := { stood := { row := posixStepsUptoRow, standIns := [], harness := (true, "e2bd65b9fd7692fcd6b7c9d31468e984774f88d9f748fc13dba4bc633c7c39d5"), looks := true }, kinds := [], alts := [], laidByText := true, laidKinds := [.data, .handle, .pinned], laidTests := true, laidLooks := .later }
def PosixStepsUptoCardSaid : Prop := Claim7.holds Tryz.pinned (.plain (OpenSpec.upto posixStepsSpec)) posixStepsUptoCard

/-- THE SECOND FORM's CARD OF 'distafflaw24.PosixRuns'. -/
def posixRunsUptoCard : Claim7 := { stood := { row := posixRunsUptoRow, standIns := [], harness := (true, "e2bd65b9fd7692fcd6b7c9d31468e984774f88d9f748fc13dba4bc633c7c39d5"), looks := true }, kinds := [], alts := [], laidByText := true, laidKinds := [.data, .handle, .pinned], laidTests := true, laidLooks := .later }
def PosixRunsUptoCardSaid : Prop := Claim7.holds Tryz.pinned (.plain (OpenSpec.upto posixRunsSpec)) posixRunsUptoCard

/-- THE SECOND FORM's CARD OF 'distafflaw24.PosixDenied'. -/
def posixDeniedUptoCard : Claim7 := { stood := { row := posixDeniedUptoRow, standIns := [], harness := (true, "e2bd65b9fd7692fcd6b7c9d31468e984774f88d9f748fc13dba4bc633c7c39d5"), looks := true }, kinds := [], alts := [], laidByText := true, laidKinds := [.data, .handle, .pinned], laidTests := true, laidLooks := .later }
def PosixDeniedUptoCardSaid : Prop := Claim7.holds Tryz.pinned (.plain (OpenSpec.upto posixDeniedSpec)) posixDeniedUptoCard
end Rows
end Go.Proofs.YtaangaogmnlljaaGreatDoor
