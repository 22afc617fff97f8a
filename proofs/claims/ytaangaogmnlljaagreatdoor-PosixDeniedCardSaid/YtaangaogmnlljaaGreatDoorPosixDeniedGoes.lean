/- What the card of PosixDenied says of the program. -/
import Derived.Test.YtaangaogmnlljaaGreatDoorRows
import Derived.SevenTiedAt
import Derived.JoinedOf
import Derived.ChangeMaps5
import Derived.KernelRfl
namespace Go.Proofs.YtaangaogmnlljaaGreatDoor.posixDenied
theorem goes : false = Rows.posixDeniedRow.goesBy Tryz.pinned.checked.prog := by kernel_rfl
end Go.Proofs.YtaangaogmnlljaaGreatDoor.posixDenied
