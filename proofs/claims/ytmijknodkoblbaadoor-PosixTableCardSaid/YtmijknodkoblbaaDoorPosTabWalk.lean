/- posix.table and the document's Calls: both tables are the plain one. -/
import Derived.Test.YtmijknodkoblbaaDoorErrSame
import Derived.Test.YtmijknodkoblbaaDoorPosTab
namespace Go.Proofs.YtmijknodkoblbaaDoor.PosTab
open Go.RowKit

/-- Block b holds the program's table, the document's. -/
def ProgTab (w : World) (b : Nat) : Prop := ∃ fr, w.heap[b]? = some (.cells (tab.flatMap CRow.prog).toArray 59 fr)
def RefTab (w : World) (b : Nat) : Prop := ∃ fr, w.heap[b]? = some (.cells (tab.flatMap CRow.ref).toArray 34 fr)

/-- An operation whose run is known in every world: it lays one block, and answers a slice over it. -/
theorem wp_lays {P : Program} {K : Act → World → Prop} {Q : Exit → Act → World → Prop} {o : Oper} {a : Act} {w : World} (n : Nat) (C : Array Value) (T : TypeId)
    (h : ∀ w, (execOp a.eval o).run P w = .ok (.value (.slice (some ⟨w.heap.size, 0, none⟩) n n)) (w.alloc (.cells C T)))
    (hk : K (a.put o.dst (.slice (some ⟨w.heap.size, 0, none⟩) n n)) (w.alloc (.cells C T))) : Oper.wp P o a w K Q := by
  unfold Oper.wp
  rw [h]
  exact hk

theorem heap_new (w : World) (o : Obj) (n : Nat) (h : n = w.heap.size) : (w.alloc o).heap[n]? = some o := by
  subst h
  show (w.heap.push o)[w.heap.size]? = some o
  simp

theorem tab_cells : (tab.flatMap CRow.prog).toArray.size = 315 := by decide +kernel

set_option maxRecDepth 100000 in
set_option maxHeartbeats 4000000 in
theorem table_any (w : World) : Calls Tryd.prog 20 #[] w fun e w' => ∃ b, e = .returned (.slice (some ⟨b, 0, none⟩) 45 45) ∧ w.heap.size ≤ b ∧ b < w'.heap.size ∧ ProgTab w' b ∧ Below w.heap.size w w' := by
  go_enter Tryd.func20, Tryd.ntmps20
  go_wp2
  obtain ⟨C, hC⟩ : ∃ C, C = (tab.flatMap CRow.prog).toArray := ⟨_, rfl⟩
  refine wp_lays 45 C 59 (fun _ => by rw [hC]; kernel_rfl) ?_
  have HC := Lib.hid hC
  clear hC
  go_wp2
  go_ret
  refine ⟨_, rfl, by (try simp); try omega, by (try simp); try omega, ⟨(0, 0), ?_⟩, ?_⟩
  · rw [← HC.out]
    exact heap_new _ _ _ (by simp)
  · repeat (first | exact Below.refl _ _ | refine Below.alloc ?_ (by simp; try omega) _)
end Go.Proofs.YtmijknodkoblbaaDoor.PosTab
