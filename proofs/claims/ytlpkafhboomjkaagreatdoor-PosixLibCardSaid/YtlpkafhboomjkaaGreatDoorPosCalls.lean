/- The document's table of calls, made: it is the plain one. -/
import Derived.Test.YtlpkafhboomjkaaGreatDoorPosT
namespace Go.Proofs.YtlpkafhboomjkaaGreatDoor.PosTab
open Go.RowKit

set_option maxRecDepth 100000 in
set_option maxHeartbeats 4000000 in
theorem calls_any (w : World) : Calls Tryz.prog 19 #[] w fun e w' => ∃ b, e = .returned (.slice (some ⟨b, 0, none⟩) 45 45) ∧ w.heap.size ≤ b ∧ b < w'.heap.size ∧ RefTab w' b ∧ Below w.heap.size w w' := by
  go_enter Tryz.func19, Tryz.ntmps19
  go_wp2
  obtain ⟨C, hC⟩ : ∃ C, C = (tab.flatMap CRow.ref).toArray := ⟨_, rfl⟩
  refine wp_lays 45 C 62 (fun _ => by rw [hC]; kernel_rfl) ?_
  have HC := Lib.hid hC
  clear hC
  go_wp2
  go_ret
  refine ⟨_, rfl, by (try simp); try omega, by (try simp); try omega, ⟨(0, 0), ?_⟩, ?_⟩
  · rw [← HC.out]
    exact heap_new _ _ _ (by simp)
  · repeat (first | exact Below.refl _ _ | refine Below.alloc ?_ (by simp; try omega) _)
end Go.Proofs.YtlpkafhboomjkaaGreatDoor.PosTab
