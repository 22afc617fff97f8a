/-
  DERIVED. GIVEN WITH THE SEED: THE CARDS: each row of YtlpkafhboomjkaaGreatDoorRows.lean that lists a variable, with what it lists TIED to the program's text (the seventh form; the later family's looks); each row that meets fmt, with fmt's text TOLD by the authors' own Lean function (tested against real Go, not proved from fmt's source: count such statements apart). THE CARD IS WHAT COUNTS. Prove the row's statement (the work); the ties are given (YtlpkafhboomjkaaGreatDoorTie.lean); close each card by the builder's one call (the guide's Derived/Test/ToyasCard.lean, 'card_holds'). Laid BY PROGRAM, IN A SANDBOX (cutbox-door.mjs). By AI agents, Wed Nov 11 2026. No macro, syntax, notation, axiom, sorry.
-/
import Derived.Test.YtlpkafhboomjkaaGreatDoorRows
import GoSem.ClaimSeven
namespace Go.Proofs.YtlpkafhboomjkaaGreatDoor
namespace Rows

/-- THE TIED CARD OF 'distafflaw24.PosixLib'. -/
def posixLibCard : Claim7 := { stood := { row := posixLibRow, standIns := [], harness := (true, "bbd7741667909fa3c72c7ca430167985f7c214b0fef1303c42568f9d43cfd872"), looks := true }, kinds := [], alts := [], laidByText := true, laidKinds := [.data, .handle, .pinned], laidTests := true, laidLooks := .later }
def PosixLibCardSaid : Prop := Claim7.holds Tryz.pinned (.plain (OpenSpec.ofChange posixLibSpec)) posixLibCard

/-- THE TIED CARD OF 'distafflaw24.PosixNews'. -/
def posixNewsCard : Claim7 := { stood := { row := posixNewsRow, standIns := [], harness := (true, "bbd7741667909fa3c72c7ca430167985f7c214b0fef1303c42568f9d43cfd872"), looks := true }, kinds := [], alts := [], laidByText := true, laidKinds := [.data, .handle, .pinned], laidTests := true, laidLooks := .later }
def PosixNewsCardSaid : Prop := Claim7.holds Tryz.pinned (.plain (OpenSpec.ofChange posixNewsSpec)) posixNewsCard

/-- THE SECOND FORM's CARD OF 'distafflaw24.PosixLib'. -/
def posixLibUptoCard : Claim7 := { stood := { row := posixLibUptoRow, standIns := [], harness := (true, "bbd7741667909fa3c72c7ca430167985f7c214b0fef1303c42568f9d43cfd872"), looks := true }, kinds := [], alts := [], laidByText := true, laidKinds := [.data, .handle, .pinned], laidTests := true, laidLooks := .later }
def PosixLibUptoCardSaid : Prop := Claim7.holds Tryz.pinned (.plain (OpenSpec.upto posixLibSpec)) posixLibUptoCard

/-- THE SECOND FORM's CARD OF 'distafflaw24.PosixNews'. -/
def posixNewsUptoCard : Claim7 := { stood := { row := posixNewsUptoRow, standIns := [], harness := (true, "bbd7741667909fa3c72c7ca430167985f7c214b0fef1303c42568f9d43cfd872"), looks := true }, kinds := [], alts := [], laidByText := true, laidKinds := [.data, .handle, .pinned], laidTests := true, laidLooks := .later }
def PosixNewsUptoCardSaid : Prop := Claim7.holds Tryz.pinned (.plain (OpenSpec.upto posixNewsSpec)) posixNewsUptoCard
end Rows
end Go.Proofs.YtlpkafhboomjkaaGreatDoor
