/- What the card of PosixNews says of the program. -/
import Derived.Test.YtaangaogmnlljaaGreatDoorRows
import Derived.SevenTiedAt
import Derived.JoinedOf
import Derived.ChangeMaps5
import Derived.KernelRfl
namespace Go.Proofs.YtaangaogmnlljaaGreatDoor.posixNews
theorem goes : false = Rows.posixNewsRow.goesBy Tryz.pinned.checked.prog := by kernel_rfl
end Go.Proofs.YtaangaogmnlljaaGreatDoor.posixNews
