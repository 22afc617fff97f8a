/- Part 17 of what the proof stands on: PosCalls. -/
import Derived.Test.YtaangaogmnlljaaGreatDoorP11
set_option linter.unusedVariables false
set_option maxRecDepth 100000
set_option maxHeartbeats 40000000
namespace Go.Proofs.YtaangaogmnlljaaGreatDoor.PosTab
open Go.RowKit
set_option maxRecDepth 100000 in
theorem calls_any (w:World):Calls Tryz.prog 103 #[] w fun e w'=> ∃b,e= .returned (.slice (some ⟨b,0,none⟩) 45 45)∧w.heap.size≤b∧b<w'.heap.size∧RefTab w' b∧Below w.heap.size w w':=by
 go_enter Tryz.func103,Tryz.ntmps103
 go_wp2
 obtain ⟨C,hC⟩: ∃C,C=(tab.flatMap CRow.ref).toArray:=⟨_,rfl⟩
 refine wp_lays 45 C 242 (fun _=>by rw[hC];kernel_rfl) ?_
 exact m72
end Go.Proofs.YtaangaogmnlljaaGreatDoor.PosTab
