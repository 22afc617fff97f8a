/- What the card of FairDead says of the program. -/
import Derived.Test.YtdlpmnmenhojfaaGreatDoorRows
import Derived.SevenTiedAt
import Derived.JoinedOf
import Derived.ChangeMaps5
import Derived.KernelRfl
namespace Go.Proofs.YtdlpmnmenhojfaaGreatDoor.fairDead
theorem goes : false = Rows.fairDeadRow.goesBy Tryz.pinned.checked.prog := by kernel_rfl
end Go.Proofs.YtdlpmnmenhojfaaGreatDoor.fairDead
