/- What the row of FairDead says of the program, fact by fact. -/
import Derived.Test.YtdlpmnmenhojfaaGreatDoorRows
import Derived.SevenTiedAt
import Derived.JoinedOf
import Derived.ChangeMaps5
import Derived.KernelRfl
namespace Go.Proofs.YtdlpmnmenhojfaaGreatDoor.fairDead
theorem xa : (laidOutB Tryz.pinned.checked.prog) = true := by kernel_rfl
theorem xb : (mapsRowed Tryz.pinned.checked.prog) = true := by kernel_rfl
theorem xc : ((Rows.fairDeadRow.inPlace == Tryz.pinned.checked.prog.inPlace 3)) = true := by kernel_rfl
theorem xd : ((Rows.fairDeadRow.unfollowed == Tryz.pinned.checked.prog.unfollowed 3)) = true := by kernel_rfl
theorem xe : ((Rows.fairDeadRow.recurses == Tryz.pinned.checked.prog.recurses 3)) = true := by kernel_rfl
theorem xf : ((Rows.fairDeadRow.named == Tryz.pinned.checked.prog.varsNamed 3)) = true := by kernel_rfl
theorem xh : ((Rows.fairDeadRow.plainKeys == Tryz.pinned.checked.prog.plainKeys)) = true := by kernel_rfl
theorem xi : (Tryz.pinned.checked.prog.stopsHeard) = true := by kernel_rfl
theorem xj : (Tryz.pinned.checked.prog.mayEnter) = true := by kernel_rfl
theorem named : Tryz.pinned.checked.prog.funcNamed "distaff/distafflaw27.FairDead" = some 3 := by kernel_rfl
theorem closed : joinedFacts Tryz.pinned.checked.prog 3 Tryz.f3 Rows.fairDeadSpec Rows.fairDeadRow = true := by
  unfold joinedFacts
  simp only [Bool.and_eq_true]
  repeat' (refine And.intro ?_ ?_)
  all_goals first | with_reducible exact xa | with_reducible exact xb | with_reducible exact xc | with_reducible exact xd | with_reducible exact xe | with_reducible exact xf | with_reducible exact xh | with_reducible exact xi | with_reducible exact xj | kernel_rfl
end Go.Proofs.YtdlpmnmenhojfaaGreatDoor.fairDead
