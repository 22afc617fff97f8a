/-
  DERIVED. GIVEN WITH THE SEED: THE CARDS: each row of YtdlpmnmenhojfaaGreatDoorRows.lean that lists a variable, with what it lists TIED to the program's text (the seventh form; the later family's looks); each row that meets fmt, with fmt's text TOLD by the authors' own Lean function (tested against real Go, not proved from fmt's source: count such statements apart). THE CARD IS WHAT COUNTS. Prove the row's statement (the work); the ties are given (YtdlpmnmenhojfaaGreatDoorTie.lean); close each card by the builder's one call (the guide's Derived/Test/ToyasCard.lean, 'card_holds'). Laid BY PROGRAM, IN A SANDBOX (cutbox-door.mjs). By AI agents, Wed Nov 11 2026. No macro, syntax, notation, axiom, sorry.
-/
import Derived.Test.YtdlpmnmenhojfaaGreatDoorRows
import GoSem.ClaimSeven
namespace Go.Proofs.YtdlpmnmenhojfaaGreatDoor
namespace Rows

/-- THE TIED CARD OF 'distafflaw27.FairDead'. -/
def fairDeadCard : Claim7 := { stood := { row := fairDeadRow, standIns := [], harness := (true, "8d22663ca4f493ed2ab96c1ac686812ecee1fffd5e0c16b1d04a7586e4d039c9"), looks := true }, kinds := [], alts := [], laidByText := true, laidKinds := [.data, .handle, .pinned], laidTests := true, laidLooks := .later }
def FairDeadCardSaid : Prop := Claim7.holds Tryz.pinned (.plain (OpenSpec.ofChange fairDeadSpec)) fairDeadCard

/-- THE SECOND FORM's CARD OF 'distafflaw27.FairDead'. -/
def fairDeadUptoCard : Claim7 := { stood := { row := fairDeadUptoRow, standIns := [], harness := (true, "8d22663ca4f493ed2ab96c1ac686812ecee1fffd5e0c16b1d04a7586e4d039c9"), looks := true }, kinds := [], alts := [], laidByText := true, laidKinds := [.data, .handle, .pinned], laidTests := true, laidLooks := .later }
def FairDeadUptoCardSaid : Prop := Claim7.holds Tryz.pinned (.plain (OpenSpec.upto fairDeadSpec)) fairDeadUptoCard
end Rows
end Go.Proofs.YtdlpmnmenhojfaaGreatDoor
