/- The document's Of, Cell and operands, at each instruction. -/
import Derived.Test.YtlpkafhboomjkaaGreatDoorAsmLine
namespace Go.Proofs.YtlpkafhboomjkaaGreatDoor.Asm
open Go.RowKit Go.Maps

/-- A kind of the program's, as the document numbers it. -/
def rkind (k : Int) : Int := if k = 1 then 0 else if k = 2 then 1 else if k = 3 then 2 else if k = 4 then 4 else if k = 5 then 3 else if k = 6 then 5 else if k = 7 then 7 else if k = 8 then 6 else 8
def shapeV (a b c v nb nc p i : Bool) : Value := .agg #[.bool a, .bool b, .bool c, .bool v, .bool nb, .bool nc, .bool p, .bool i]
def OfOut (w : World) (x : Value) (e : Ending) (w' : World) : Prop := e = .returned x ∧ Below w.heap.size w w'
/-- The kinds in a row of one's own. -/
def RopsOut (w : World) (ks : List Int) (e : Ending) (w' : World) : Prop := ∃ v, e = .returned v ∧ w'.ownsRow w.heap.size 3 1 v ks.length (ks.map fun k => .int .i64 k) ∧ Below w.heap.size w w'
theorem infoI : (Tryz.prog.info? 3).map (fun i => (i.zero, i.size, i.bytes)) = some (some (.int .i64 0), 1, 8) := by kernel_rfl
theorem lit_row (w : World) (ks : List Int) (h : ks.length ≤ 100) : (w.alloc (.cells (ks.map fun k => (.int .i64 k : Value)).toArray 3)).ownsRow w.heap.size 3 1 (.slice (some ⟨w.heap.size, 0, none⟩) ks.length ks.length) ks.length (ks.map fun k => .int .i64 k) :=
  ⟨by simp, .inr ⟨_, ks.length, (ks.map fun k => (.int .i64 k : Value)).toArray, rfl, Nat.le_refl _, heap_alloc_new w _, Nat.le_refl _, by unfold maxLen; omega, by simp, by rw [Nat.mul_one]; exact List.take_of_length_le (by simp)⟩⟩

theorem of_1 (w : World) : Calls Tryz.prog 163 #[.int .i64 1] w (OfOut w (shapeV true false false true false false false true)) := by
  go_enter Tryz.func163, Tryz.ntmps163
  go_wp2
  refine bodyPost_ret (v := .agg #[.bool true, .bool false, .bool false, .bool true, .bool false, .bool false, .bool false, .bool true]) (by simp [results, Tryz.results163, go_sem]) rfl ⟨rfl, ?_⟩
  repeat (first | exact Below.refl _ _ | refine Below.setCell ?_ (by simp) _ | refine Below.alloc ?_ (by simp) _)

theorem isCell_1 (w : World) : Calls Tryz.prog 164 #[.int .i64 1] w fun e w' => e = .returned (.bool false) ∧ w = w' := by
  go_enter Tryz.func164, Tryz.ntmps164
  go_wp2
  go_ret
  exact ⟨rfl, rfl⟩

theorem of_2 (w : World) : Calls Tryz.prog 163 #[.int .i64 2] w (OfOut w (shapeV true true false false false false false true)) := by
  go_enter Tryz.func163, Tryz.ntmps163
  go_wp2
  refine bodyPost_ret (v := .agg #[.bool true, .bool true, .bool false, .bool false, .bool false, .bool false, .bool false, .bool true]) (by simp [results, Tryz.results163, go_sem]) rfl ⟨rfl, ?_⟩
  repeat (first | exact Below.refl _ _ | refine Below.setCell ?_ (by simp) _ | refine Below.alloc ?_ (by simp) _)

theorem isCell_2 (w : World) : Calls Tryz.prog 164 #[.int .i64 2] w fun e w' => e = .returned (.bool false) ∧ w = w' := by
  go_enter Tryz.func164, Tryz.ntmps164
  go_wp2
  go_ret
  exact ⟨rfl, rfl⟩

theorem of_3 (w : World) : Calls Tryz.prog 163 #[.int .i64 3] w (OfOut w (shapeV true true true true false true false true)) := by
  go_enter Tryz.func163, Tryz.ntmps163
  go_wp2
  refine bodyPost_ret (v := .agg #[.bool true, .bool true, .bool true, .bool true, .bool false, .bool true, .bool false, .bool true]) (by simp [results, Tryz.results163, go_sem]) rfl ⟨rfl, ?_⟩
  repeat (first | exact Below.refl _ _ | refine Below.setCell ?_ (by simp) _ | refine Below.alloc ?_ (by simp) _)

theorem isCell_3 (w : World) : Calls Tryz.prog 164 #[.int .i64 3] w fun e w' => e = .returned (.bool false) ∧ w = w' := by
  go_enter Tryz.func164, Tryz.ntmps164
  go_wp2
  go_ret
  exact ⟨rfl, rfl⟩

theorem of_4 (w : World) : Calls Tryz.prog 163 #[.int .i64 4] w (OfOut w (shapeV true true true true false true false true)) := by
  go_enter Tryz.func163, Tryz.ntmps163
  go_wp2
  refine bodyPost_ret (v := .agg #[.bool true, .bool true, .bool true, .bool true, .bool false, .bool true, .bool false, .bool true]) (by simp [results, Tryz.results163, go_sem]) rfl ⟨rfl, ?_⟩
  repeat (first | exact Below.refl _ _ | refine Below.setCell ?_ (by simp) _ | refine Below.alloc ?_ (by simp) _)

theorem isCell_4 (w : World) : Calls Tryz.prog 164 #[.int .i64 4] w fun e w' => e = .returned (.bool false) ∧ w = w' := by
  go_enter Tryz.func164, Tryz.ntmps164
  go_wp2
  go_ret
  exact ⟨rfl, rfl⟩

theorem of_5 (w : World) : Calls Tryz.prog 163 #[.int .i64 5] w (OfOut w (shapeV true true true true false true false true)) := by
  go_enter Tryz.func163, Tryz.ntmps163
  go_wp2
  refine bodyPost_ret (v := .agg #[.bool true, .bool true, .bool true, .bool true, .bool false, .bool true, .bool false, .bool true]) (by simp [results, Tryz.results163, go_sem]) rfl ⟨rfl, ?_⟩
  repeat (first | exact Below.refl _ _ | refine Below.setCell ?_ (by simp) _ | refine Below.alloc ?_ (by simp) _)

theorem isCell_5 (w : World) : Calls Tryz.prog 164 #[.int .i64 5] w fun e w' => e = .returned (.bool false) ∧ w = w' := by
  go_enter Tryz.func164, Tryz.ntmps164
  go_wp2
  go_ret
  exact ⟨rfl, rfl⟩

theorem of_6 (w : World) : Calls Tryz.prog 163 #[.int .i64 6] w (OfOut w (shapeV true true true true false true false true)) := by
  go_enter Tryz.func163, Tryz.ntmps163
  go_wp2
  refine bodyPost_ret (v := .agg #[.bool true, .bool true, .bool true, .bool true, .bool false, .bool true, .bool false, .bool true]) (by simp [results, Tryz.results163, go_sem]) rfl ⟨rfl, ?_⟩
  repeat (first | exact Below.refl _ _ | refine Below.setCell ?_ (by simp) _ | refine Below.alloc ?_ (by simp) _)

theorem isCell_6 (w : World) : Calls Tryz.prog 164 #[.int .i64 6] w fun e w' => e = .returned (.bool false) ∧ w = w' := by
  go_enter Tryz.func164, Tryz.ntmps164
  go_wp2
  go_ret
  exact ⟨rfl, rfl⟩

theorem of_7 (w : World) : Calls Tryz.prog 163 #[.int .i64 7] w (OfOut w (shapeV true true true true false true false true)) := by
  go_enter Tryz.func163, Tryz.ntmps163
  go_wp2
  refine bodyPost_ret (v := .agg #[.bool true, .bool true, .bool true, .bool true, .bool false, .bool true, .bool false, .bool true]) (by simp [results, Tryz.results163, go_sem]) rfl ⟨rfl, ?_⟩
  repeat (first | exact Below.refl _ _ | refine Below.setCell ?_ (by simp) _ | refine Below.alloc ?_ (by simp) _)

theorem isCell_7 (w : World) : Calls Tryz.prog 164 #[.int .i64 7] w fun e w' => e = .returned (.bool false) ∧ w = w' := by
  go_enter Tryz.func164, Tryz.ntmps164
  go_wp2
  go_ret
  exact ⟨rfl, rfl⟩

theorem of_8 (w : World) : Calls Tryz.prog 163 #[.int .i64 8] w (OfOut w (shapeV true true true true false true false true)) := by
  go_enter Tryz.func163, Tryz.ntmps163
  go_wp2
  refine bodyPost_ret (v := .agg #[.bool true, .bool true, .bool true, .bool true, .bool false, .bool true, .bool false, .bool true]) (by simp [results, Tryz.results163, go_sem]) rfl ⟨rfl, ?_⟩
  repeat (first | exact Below.refl _ _ | refine Below.setCell ?_ (by simp) _ | refine Below.alloc ?_ (by simp) _)

theorem isCell_8 (w : World) : Calls Tryz.prog 164 #[.int .i64 8] w fun e w' => e = .returned (.bool false) ∧ w = w' := by
  go_enter Tryz.func164, Tryz.ntmps164
  go_wp2
  go_ret
  exact ⟨rfl, rfl⟩

theorem of_9 (w : World) : Calls Tryz.prog 163 #[.int .i64 9] w (OfOut w (shapeV true true true true false true false true)) := by
  go_enter Tryz.func163, Tryz.ntmps163
  go_wp2
  refine bodyPost_ret (v := .agg #[.bool true, .bool true, .bool true, .bool true, .bool false, .bool true, .bool false, .bool true]) (by simp [results, Tryz.results163, go_sem]) rfl ⟨rfl, ?_⟩
  repeat (first | exact Below.refl _ _ | refine Below.setCell ?_ (by simp) _ | refine Below.alloc ?_ (by simp) _)

theorem isCell_9 (w : World) : Calls Tryz.prog 164 #[.int .i64 9] w fun e w' => e = .returned (.bool false) ∧ w = w' := by
  go_enter Tryz.func164, Tryz.ntmps164
  go_wp2
  go_ret
  exact ⟨rfl, rfl⟩

theorem of_10 (w : World) : Calls Tryz.prog 163 #[.int .i64 10] w (OfOut w (shapeV true true true true false true false true)) := by
  go_enter Tryz.func163, Tryz.ntmps163
  go_wp2
  refine bodyPost_ret (v := .agg #[.bool true, .bool true, .bool true, .bool true, .bool false, .bool true, .bool false, .bool true]) (by simp [results, Tryz.results163, go_sem]) rfl ⟨rfl, ?_⟩
  repeat (first | exact Below.refl _ _ | refine Below.setCell ?_ (by simp) _ | refine Below.alloc ?_ (by simp) _)

theorem isCell_10 (w : World) : Calls Tryz.prog 164 #[.int .i64 10] w fun e w' => e = .returned (.bool false) ∧ w = w' := by
  go_enter Tryz.func164, Tryz.ntmps164
  go_wp2
  go_ret
  exact ⟨rfl, rfl⟩

theorem of_11 (w : World) : Calls Tryz.prog 163 #[.int .i64 11] w (OfOut w (shapeV true true true true false true false true)) := by
  go_enter Tryz.func163, Tryz.ntmps163
  go_wp2
  refine bodyPost_ret (v := .agg #[.bool true, .bool true, .bool true, .bool true, .bool false, .bool true, .bool false, .bool true]) (by simp [results, Tryz.results163, go_sem]) rfl ⟨rfl, ?_⟩
  repeat (first | exact Below.refl _ _ | refine Below.setCell ?_ (by simp) _ | refine Below.alloc ?_ (by simp) _)

theorem isCell_11 (w : World) : Calls Tryz.prog 164 #[.int .i64 11] w fun e w' => e = .returned (.bool false) ∧ w = w' := by
  go_enter Tryz.func164, Tryz.ntmps164
  go_wp2
  go_ret
  exact ⟨rfl, rfl⟩

theorem of_12 (w : World) : Calls Tryz.prog 163 #[.int .i64 12] w (OfOut w (shapeV false false false true false false true true)) := by
  go_enter Tryz.func163, Tryz.ntmps163
  go_wp2
  refine bodyPost_ret (v := .agg #[.bool false, .bool false, .bool false, .bool true, .bool false, .bool false, .bool true, .bool true]) (by simp [results, Tryz.results163, go_sem]) rfl ⟨rfl, ?_⟩
  repeat (first | exact Below.refl _ _ | refine Below.setCell ?_ (by simp) _ | refine Below.alloc ?_ (by simp) _)

theorem isCell_12 (w : World) : Calls Tryz.prog 164 #[.int .i64 12] w fun e w' => e = .returned (.bool false) ∧ w = w' := by
  go_enter Tryz.func164, Tryz.ntmps164
  go_wp2
  go_ret
  exact ⟨rfl, rfl⟩

theorem of_13 (w : World) : Calls Tryz.prog 163 #[.int .i64 13] w (OfOut w (shapeV true false false true false false true true)) := by
  go_enter Tryz.func163, Tryz.ntmps163
  go_wp2
  refine bodyPost_ret (v := .agg #[.bool true, .bool false, .bool false, .bool true, .bool false, .bool false, .bool true, .bool true]) (by simp [results, Tryz.results163, go_sem]) rfl ⟨rfl, ?_⟩
  repeat (first | exact Below.refl _ _ | refine Below.setCell ?_ (by simp) _ | refine Below.alloc ?_ (by simp) _)

theorem isCell_13 (w : World) : Calls Tryz.prog 164 #[.int .i64 13] w fun e w' => e = .returned (.bool false) ∧ w = w' := by
  go_enter Tryz.func164, Tryz.ntmps164
  go_wp2
  go_ret
  exact ⟨rfl, rfl⟩

theorem of_14 (w : World) : Calls Tryz.prog 163 #[.int .i64 14] w (OfOut w (shapeV true false false true false false true true)) := by
  go_enter Tryz.func163, Tryz.ntmps163
  go_wp2
  refine bodyPost_ret (v := .agg #[.bool true, .bool false, .bool false, .bool true, .bool false, .bool false, .bool true, .bool true]) (by simp [results, Tryz.results163, go_sem]) rfl ⟨rfl, ?_⟩
  repeat (first | exact Below.refl _ _ | refine Below.setCell ?_ (by simp) _ | refine Below.alloc ?_ (by simp) _)

theorem isCell_14 (w : World) : Calls Tryz.prog 164 #[.int .i64 14] w fun e w' => e = .returned (.bool false) ∧ w = w' := by
  go_enter Tryz.func164, Tryz.ntmps164
  go_wp2
  go_ret
  exact ⟨rfl, rfl⟩

theorem of_15 (w : World) : Calls Tryz.prog 163 #[.int .i64 15] w (OfOut w (shapeV false false false true false false true true)) := by
  go_enter Tryz.func163, Tryz.ntmps163
  go_wp2
  refine bodyPost_ret (v := .agg #[.bool false, .bool false, .bool false, .bool true, .bool false, .bool false, .bool true, .bool true]) (by simp [results, Tryz.results163, go_sem]) rfl ⟨rfl, ?_⟩
  repeat (first | exact Below.refl _ _ | refine Below.setCell ?_ (by simp) _ | refine Below.alloc ?_ (by simp) _)

theorem isCell_15 (w : World) : Calls Tryz.prog 164 #[.int .i64 15] w fun e w' => e = .returned (.bool false) ∧ w = w' := by
  go_enter Tryz.func164, Tryz.ntmps164
  go_wp2
  go_ret
  exact ⟨rfl, rfl⟩

theorem of_16 (w : World) : Calls Tryz.prog 163 #[.int .i64 16] w (OfOut w (shapeV false false false false false false false true)) := by
  go_enter Tryz.func163, Tryz.ntmps163
  go_wp2
  refine bodyPost_ret (v := .agg #[.bool false, .bool false, .bool false, .bool false, .bool false, .bool false, .bool false, .bool true]) (by simp [results, Tryz.results163, go_sem]) rfl ⟨rfl, ?_⟩
  repeat (first | exact Below.refl _ _ | refine Below.setCell ?_ (by simp) _ | refine Below.alloc ?_ (by simp) _)

theorem isCell_16 (w : World) : Calls Tryz.prog 164 #[.int .i64 16] w fun e w' => e = .returned (.bool false) ∧ w = w' := by
  go_enter Tryz.func164, Tryz.ntmps164
  go_wp2
  go_ret
  exact ⟨rfl, rfl⟩

theorem of_17 (w : World) : Calls Tryz.prog 163 #[.int .i64 17] w (OfOut w (shapeV true true false true true false false true)) := by
  go_enter Tryz.func163, Tryz.ntmps163
  go_wp2
  refine bodyPost_ret (v := .agg #[.bool true, .bool true, .bool false, .bool true, .bool true, .bool false, .bool false, .bool true]) (by simp [results, Tryz.results163, go_sem]) rfl ⟨rfl, ?_⟩
  repeat (first | exact Below.refl _ _ | refine Below.setCell ?_ (by simp) _ | refine Below.alloc ?_ (by simp) _)

theorem isCell_17 (w : World) : Calls Tryz.prog 164 #[.int .i64 17] w fun e w' => e = .returned (.bool true) ∧ w = w' := by
  go_enter Tryz.func164, Tryz.ntmps164
  go_wp2
  go_ret
  exact ⟨rfl, rfl⟩

theorem of_18 (w : World) : Calls Tryz.prog 163 #[.int .i64 18] w (OfOut w (shapeV true true false true true false false true)) := by
  go_enter Tryz.func163, Tryz.ntmps163
  go_wp2
  refine bodyPost_ret (v := .agg #[.bool true, .bool true, .bool false, .bool true, .bool true, .bool false, .bool false, .bool true]) (by simp [results, Tryz.results163, go_sem]) rfl ⟨rfl, ?_⟩
  repeat (first | exact Below.refl _ _ | refine Below.setCell ?_ (by simp) _ | refine Below.alloc ?_ (by simp) _)

theorem isCell_18 (w : World) : Calls Tryz.prog 164 #[.int .i64 18] w fun e w' => e = .returned (.bool true) ∧ w = w' := by
  go_enter Tryz.func164, Tryz.ntmps164
  go_wp2
  go_ret
  exact ⟨rfl, rfl⟩

theorem of_19 (w : World) : Calls Tryz.prog 163 #[.int .i64 19] w (OfOut w (shapeV true true false true true false false true)) := by
  go_enter Tryz.func163, Tryz.ntmps163
  go_wp2
  refine bodyPost_ret (v := .agg #[.bool true, .bool true, .bool false, .bool true, .bool true, .bool false, .bool false, .bool true]) (by simp [results, Tryz.results163, go_sem]) rfl ⟨rfl, ?_⟩
  repeat (first | exact Below.refl _ _ | refine Below.setCell ?_ (by simp) _ | refine Below.alloc ?_ (by simp) _)

theorem isCell_19 (w : World) : Calls Tryz.prog 164 #[.int .i64 19] w fun e w' => e = .returned (.bool true) ∧ w = w' := by
  go_enter Tryz.func164, Tryz.ntmps164
  go_wp2
  go_ret
  exact ⟨rfl, rfl⟩

theorem of_20 (w : World) : Calls Tryz.prog 163 #[.int .i64 20] w (OfOut w (shapeV true true false true true false false true)) := by
  go_enter Tryz.func163, Tryz.ntmps163
  go_wp2
  refine bodyPost_ret (v := .agg #[.bool true, .bool true, .bool false, .bool true, .bool true, .bool false, .bool false, .bool true]) (by simp [results, Tryz.results163, go_sem]) rfl ⟨rfl, ?_⟩
  repeat (first | exact Below.refl _ _ | refine Below.setCell ?_ (by simp) _ | refine Below.alloc ?_ (by simp) _)

theorem isCell_20 (w : World) : Calls Tryz.prog 164 #[.int .i64 20] w fun e w' => e = .returned (.bool true) ∧ w = w' := by
  go_enter Tryz.func164, Tryz.ntmps164
  go_wp2
  go_ret
  exact ⟨rfl, rfl⟩

theorem of_21 (w : World) : Calls Tryz.prog 163 #[.int .i64 21] w (OfOut w (shapeV true true true true true false false true)) := by
  go_enter Tryz.func163, Tryz.ntmps163
  go_wp2
  refine bodyPost_ret (v := .agg #[.bool true, .bool true, .bool true, .bool true, .bool true, .bool false, .bool false, .bool true]) (by simp [results, Tryz.results163, go_sem]) rfl ⟨rfl, ?_⟩
  repeat (first | exact Below.refl _ _ | refine Below.setCell ?_ (by simp) _ | refine Below.alloc ?_ (by simp) _)

theorem isCell_21 (w : World) : Calls Tryz.prog 164 #[.int .i64 21] w fun e w' => e = .returned (.bool true) ∧ w = w' := by
  go_enter Tryz.func164, Tryz.ntmps164
  go_wp2
  go_ret
  exact ⟨rfl, rfl⟩

theorem of_22 (w : World) : Calls Tryz.prog 163 #[.int .i64 22] w (OfOut w (shapeV false false false true false false false true)) := by
  go_enter Tryz.func163, Tryz.ntmps163
  go_wp2
  refine bodyPost_ret (v := .agg #[.bool false, .bool false, .bool false, .bool true, .bool false, .bool false, .bool false, .bool true]) (by simp [results, Tryz.results163, go_sem]) rfl ⟨rfl, ?_⟩
  repeat (first | exact Below.refl _ _ | refine Below.setCell ?_ (by simp) _ | refine Below.alloc ?_ (by simp) _)

theorem isCell_22 (w : World) : Calls Tryz.prog 164 #[.int .i64 22] w fun e w' => e = .returned (.bool false) ∧ w = w' := by
  go_enter Tryz.func164, Tryz.ntmps164
  go_wp2
  go_ret
  exact ⟨rfl, rfl⟩

theorem of_23 (w : World) : Calls Tryz.prog 163 #[.int .i64 23] w (OfOut w (shapeV true true false false false false false true)) := by
  go_enter Tryz.func163, Tryz.ntmps163
  go_wp2
  refine bodyPost_ret (v := .agg #[.bool true, .bool true, .bool false, .bool false, .bool false, .bool false, .bool false, .bool true]) (by simp [results, Tryz.results163, go_sem]) rfl ⟨rfl, ?_⟩
  repeat (first | exact Below.refl _ _ | refine Below.setCell ?_ (by simp) _ | refine Below.alloc ?_ (by simp) _)

theorem isCell_23 (w : World) : Calls Tryz.prog 164 #[.int .i64 23] w fun e w' => e = .returned (.bool false) ∧ w = w' := by
  go_enter Tryz.func164, Tryz.ntmps164
  go_wp2
  go_ret
  exact ⟨rfl, rfl⟩

theorem of_24 (w : World) : Calls Tryz.prog 163 #[.int .i64 24] w (OfOut w (shapeV true true true false false false false true)) := by
  go_enter Tryz.func163, Tryz.ntmps163
  go_wp2
  refine bodyPost_ret (v := .agg #[.bool true, .bool true, .bool true, .bool false, .bool false, .bool false, .bool false, .bool true]) (by simp [results, Tryz.results163, go_sem]) rfl ⟨rfl, ?_⟩
  repeat (first | exact Below.refl _ _ | refine Below.setCell ?_ (by simp) _ | refine Below.alloc ?_ (by simp) _)

theorem isCell_24 (w : World) : Calls Tryz.prog 164 #[.int .i64 24] w fun e w' => e = .returned (.bool false) ∧ w = w' := by
  go_enter Tryz.func164, Tryz.ntmps164
  go_wp2
  go_ret
  exact ⟨rfl, rfl⟩

theorem of_25 (w : World) : Calls Tryz.prog 163 #[.int .i64 25] w (OfOut w (shapeV true true true false false false false true)) := by
  go_enter Tryz.func163, Tryz.ntmps163
  go_wp2
  refine bodyPost_ret (v := .agg #[.bool true, .bool true, .bool true, .bool false, .bool false, .bool false, .bool false, .bool true]) (by simp [results, Tryz.results163, go_sem]) rfl ⟨rfl, ?_⟩
  repeat (first | exact Below.refl _ _ | refine Below.setCell ?_ (by simp) _ | refine Below.alloc ?_ (by simp) _)

theorem isCell_25 (w : World) : Calls Tryz.prog 164 #[.int .i64 25] w fun e w' => e = .returned (.bool false) ∧ w = w' := by
  go_enter Tryz.func164, Tryz.ntmps164
  go_wp2
  go_ret
  exact ⟨rfl, rfl⟩

theorem of_26 (w : World) : Calls Tryz.prog 163 #[.int .i64 26] w (OfOut w (shapeV true true true false false false false true)) := by
  go_enter Tryz.func163, Tryz.ntmps163
  go_wp2
  refine bodyPost_ret (v := .agg #[.bool true, .bool true, .bool true, .bool false, .bool false, .bool false, .bool false, .bool true]) (by simp [results, Tryz.results163, go_sem]) rfl ⟨rfl, ?_⟩
  repeat (first | exact Below.refl _ _ | refine Below.setCell ?_ (by simp) _ | refine Below.alloc ?_ (by simp) _)

theorem isCell_26 (w : World) : Calls Tryz.prog 164 #[.int .i64 26] w fun e w' => e = .returned (.bool false) ∧ w = w' := by
  go_enter Tryz.func164, Tryz.ntmps164
  go_wp2
  go_ret
  exact ⟨rfl, rfl⟩

theorem of_27 (w : World) : Calls Tryz.prog 163 #[.int .i64 27] w (OfOut w (shapeV true true true false false false false true)) := by
  go_enter Tryz.func163, Tryz.ntmps163
  go_wp2
  refine bodyPost_ret (v := .agg #[.bool true, .bool true, .bool true, .bool false, .bool false, .bool false, .bool false, .bool true]) (by simp [results, Tryz.results163, go_sem]) rfl ⟨rfl, ?_⟩
  repeat (first | exact Below.refl _ _ | refine Below.setCell ?_ (by simp) _ | refine Below.alloc ?_ (by simp) _)

theorem isCell_27 (w : World) : Calls Tryz.prog 164 #[.int .i64 27] w fun e w' => e = .returned (.bool false) ∧ w = w' := by
  go_enter Tryz.func164, Tryz.ntmps164
  go_wp2
  go_ret
  exact ⟨rfl, rfl⟩

theorem of_28 (w : World) : Calls Tryz.prog 163 #[.int .i64 28] w (OfOut w (shapeV true false false false false false false true)) := by
  go_enter Tryz.func163, Tryz.ntmps163
  go_wp2
  refine bodyPost_ret (v := .agg #[.bool true, .bool false, .bool false, .bool false, .bool false, .bool false, .bool false, .bool true]) (by simp [results, Tryz.results163, go_sem]) rfl ⟨rfl, ?_⟩
  repeat (first | exact Below.refl _ _ | refine Below.setCell ?_ (by simp) _ | refine Below.alloc ?_ (by simp) _)

theorem isCell_28 (w : World) : Calls Tryz.prog 164 #[.int .i64 28] w fun e w' => e = .returned (.bool false) ∧ w = w' := by
  go_enter Tryz.func164, Tryz.ntmps164
  go_wp2
  go_ret
  exact ⟨rfl, rfl⟩

theorem of_29 (w : World) : Calls Tryz.prog 163 #[.int .i64 29] w (OfOut w (shapeV true false false false false false false true)) := by
  go_enter Tryz.func163, Tryz.ntmps163
  go_wp2
  refine bodyPost_ret (v := .agg #[.bool true, .bool false, .bool false, .bool false, .bool false, .bool false, .bool false, .bool true]) (by simp [results, Tryz.results163, go_sem]) rfl ⟨rfl, ?_⟩
  repeat (first | exact Below.refl _ _ | refine Below.setCell ?_ (by simp) _ | refine Below.alloc ?_ (by simp) _)

theorem isCell_29 (w : World) : Calls Tryz.prog 164 #[.int .i64 29] w fun e w' => e = .returned (.bool false) ∧ w = w' := by
  go_enter Tryz.func164, Tryz.ntmps164
  go_wp2
  go_ret
  exact ⟨rfl, rfl⟩

theorem of_30 (w : World) : Calls Tryz.prog 163 #[.int .i64 30] w (OfOut w (shapeV true false false false false false false true)) := by
  go_enter Tryz.func163, Tryz.ntmps163
  go_wp2
  refine bodyPost_ret (v := .agg #[.bool true, .bool false, .bool false, .bool false, .bool false, .bool false, .bool false, .bool true]) (by simp [results, Tryz.results163, go_sem]) rfl ⟨rfl, ?_⟩
  repeat (first | exact Below.refl _ _ | refine Below.setCell ?_ (by simp) _ | refine Below.alloc ?_ (by simp) _)

theorem isCell_30 (w : World) : Calls Tryz.prog 164 #[.int .i64 30] w fun e w' => e = .returned (.bool false) ∧ w = w' := by
  go_enter Tryz.func164, Tryz.ntmps164
  go_wp2
  go_ret
  exact ⟨rfl, rfl⟩

theorem of_31 (w : World) : Calls Tryz.prog 163 #[.int .i64 31] w (OfOut w (shapeV true true false true true false false true)) := by
  go_enter Tryz.func163, Tryz.ntmps163
  go_wp2
  refine bodyPost_ret (v := .agg #[.bool true, .bool true, .bool false, .bool true, .bool true, .bool false, .bool false, .bool true]) (by simp [results, Tryz.results163, go_sem]) rfl ⟨rfl, ?_⟩
  repeat (first | exact Below.refl _ _ | refine Below.setCell ?_ (by simp) _ | refine Below.alloc ?_ (by simp) _)

theorem isCell_31 (w : World) : Calls Tryz.prog 164 #[.int .i64 31] w fun e w' => e = .returned (.bool true) ∧ w = w' := by
  go_enter Tryz.func164, Tryz.ntmps164
  go_wp2
  go_ret
  exact ⟨rfl, rfl⟩

theorem of_32 (w : World) : Calls Tryz.prog 163 #[.int .i64 32] w (OfOut w (shapeV true true true true true false false true)) := by
  go_enter Tryz.func163, Tryz.ntmps163
  go_wp2
  refine bodyPost_ret (v := .agg #[.bool true, .bool true, .bool true, .bool true, .bool true, .bool false, .bool false, .bool true]) (by simp [results, Tryz.results163, go_sem]) rfl ⟨rfl, ?_⟩
  repeat (first | exact Below.refl _ _ | refine Below.setCell ?_ (by simp) _ | refine Below.alloc ?_ (by simp) _)

theorem isCell_32 (w : World) : Calls Tryz.prog 164 #[.int .i64 32] w fun e w' => e = .returned (.bool true) ∧ w = w' := by
  go_enter Tryz.func164, Tryz.ntmps164
  go_wp2
  go_ret
  exact ⟨rfl, rfl⟩

theorem of_33 (w : World) : Calls Tryz.prog 163 #[.int .i64 33] w (OfOut w (shapeV false false false false false false false true)) := by
  go_enter Tryz.func163, Tryz.ntmps163
  go_wp2
  refine bodyPost_ret (v := .agg #[.bool false, .bool false, .bool false, .bool false, .bool false, .bool false, .bool false, .bool true]) (by simp [results, Tryz.results163, go_sem]) rfl ⟨rfl, ?_⟩
  repeat (first | exact Below.refl _ _ | refine Below.setCell ?_ (by simp) _ | refine Below.alloc ?_ (by simp) _)

theorem isCell_33 (w : World) : Calls Tryz.prog 164 #[.int .i64 33] w fun e w' => e = .returned (.bool false) ∧ w = w' := by
  go_enter Tryz.func164, Tryz.ntmps164
  go_wp2
  go_ret
  exact ⟨rfl, rfl⟩

theorem of_34 (w : World) : Calls Tryz.prog 163 #[.int .i64 34] w (OfOut w (shapeV true false false false false false false true)) := by
  go_enter Tryz.func163, Tryz.ntmps163
  go_wp2
  refine bodyPost_ret (v := .agg #[.bool true, .bool false, .bool false, .bool false, .bool false, .bool false, .bool false, .bool true]) (by simp [results, Tryz.results163, go_sem]) rfl ⟨rfl, ?_⟩
  repeat (first | exact Below.refl _ _ | refine Below.setCell ?_ (by simp) _ | refine Below.alloc ?_ (by simp) _)

theorem isCell_34 (w : World) : Calls Tryz.prog 164 #[.int .i64 34] w fun e w' => e = .returned (.bool false) ∧ w = w' := by
  go_enter Tryz.func164, Tryz.ntmps164
  go_wp2
  go_ret
  exact ⟨rfl, rfl⟩

theorem of_35 (w : World) : Calls Tryz.prog 163 #[.int .i64 35] w (OfOut w (shapeV true false false false false false false true)) := by
  go_enter Tryz.func163, Tryz.ntmps163
  go_wp2
  refine bodyPost_ret (v := .agg #[.bool true, .bool false, .bool false, .bool false, .bool false, .bool false, .bool false, .bool true]) (by simp [results, Tryz.results163, go_sem]) rfl ⟨rfl, ?_⟩
  repeat (first | exact Below.refl _ _ | refine Below.setCell ?_ (by simp) _ | refine Below.alloc ?_ (by simp) _)

theorem isCell_35 (w : World) : Calls Tryz.prog 164 #[.int .i64 35] w fun e w' => e = .returned (.bool false) ∧ w = w' := by
  go_enter Tryz.func164, Tryz.ntmps164
  go_wp2
  go_ret
  exact ⟨rfl, rfl⟩

theorem of_36 (w : World) : Calls Tryz.prog 163 #[.int .i64 36] w (OfOut w (shapeV true false false false false false false true)) := by
  go_enter Tryz.func163, Tryz.ntmps163
  go_wp2
  refine bodyPost_ret (v := .agg #[.bool true, .bool false, .bool false, .bool false, .bool false, .bool false, .bool false, .bool true]) (by simp [results, Tryz.results163, go_sem]) rfl ⟨rfl, ?_⟩
  repeat (first | exact Below.refl _ _ | refine Below.setCell ?_ (by simp) _ | refine Below.alloc ?_ (by simp) _)

theorem isCell_36 (w : World) : Calls Tryz.prog 164 #[.int .i64 36] w fun e w' => e = .returned (.bool false) ∧ w = w' := by
  go_enter Tryz.func164, Tryz.ntmps164
  go_wp2
  go_ret
  exact ⟨rfl, rfl⟩

theorem of_37 (w : World) : Calls Tryz.prog 163 #[.int .i64 37] w (OfOut w (shapeV true false false false false false false true)) := by
  go_enter Tryz.func163, Tryz.ntmps163
  go_wp2
  refine bodyPost_ret (v := .agg #[.bool true, .bool false, .bool false, .bool false, .bool false, .bool false, .bool false, .bool true]) (by simp [results, Tryz.results163, go_sem]) rfl ⟨rfl, ?_⟩
  repeat (first | exact Below.refl _ _ | refine Below.setCell ?_ (by simp) _ | refine Below.alloc ?_ (by simp) _)

theorem isCell_37 (w : World) : Calls Tryz.prog 164 #[.int .i64 37] w fun e w' => e = .returned (.bool false) ∧ w = w' := by
  go_enter Tryz.func164, Tryz.ntmps164
  go_wp2
  go_ret
  exact ⟨rfl, rfl⟩

theorem of_38 (w : World) : Calls Tryz.prog 163 #[.int .i64 38] w (OfOut w (shapeV true false false false false false false true)) := by
  go_enter Tryz.func163, Tryz.ntmps163
  go_wp2
  refine bodyPost_ret (v := .agg #[.bool true, .bool false, .bool false, .bool false, .bool false, .bool false, .bool false, .bool true]) (by simp [results, Tryz.results163, go_sem]) rfl ⟨rfl, ?_⟩
  repeat (first | exact Below.refl _ _ | refine Below.setCell ?_ (by simp) _ | refine Below.alloc ?_ (by simp) _)

theorem isCell_38 (w : World) : Calls Tryz.prog 164 #[.int .i64 38] w fun e w' => e = .returned (.bool false) ∧ w = w' := by
  go_enter Tryz.func164, Tryz.ntmps164
  go_wp2
  go_ret
  exact ⟨rfl, rfl⟩

theorem of_39 (w : World) : Calls Tryz.prog 163 #[.int .i64 39] w (OfOut w (shapeV true true false false false false false true)) := by
  go_enter Tryz.func163, Tryz.ntmps163
  go_wp2
  refine bodyPost_ret (v := .agg #[.bool true, .bool true, .bool false, .bool false, .bool false, .bool false, .bool false, .bool true]) (by simp [results, Tryz.results163, go_sem]) rfl ⟨rfl, ?_⟩
  repeat (first | exact Below.refl _ _ | refine Below.setCell ?_ (by simp) _ | refine Below.alloc ?_ (by simp) _)

theorem isCell_39 (w : World) : Calls Tryz.prog 164 #[.int .i64 39] w fun e w' => e = .returned (.bool false) ∧ w = w' := by
  go_enter Tryz.func164, Tryz.ntmps164
  go_wp2
  go_ret
  exact ⟨rfl, rfl⟩

theorem of_40 (w : World) : Calls Tryz.prog 163 #[.int .i64 40] w (OfOut w (shapeV true false false false false false false true)) := by
  go_enter Tryz.func163, Tryz.ntmps163
  go_wp2
  refine bodyPost_ret (v := .agg #[.bool true, .bool false, .bool false, .bool false, .bool false, .bool false, .bool false, .bool true]) (by simp [results, Tryz.results163, go_sem]) rfl ⟨rfl, ?_⟩
  repeat (first | exact Below.refl _ _ | refine Below.setCell ?_ (by simp) _ | refine Below.alloc ?_ (by simp) _)

theorem isCell_40 (w : World) : Calls Tryz.prog 164 #[.int .i64 40] w fun e w' => e = .returned (.bool false) ∧ w = w' := by
  go_enter Tryz.func164, Tryz.ntmps164
  go_wp2
  go_ret
  exact ⟨rfl, rfl⟩

theorem of_41 (w : World) : Calls Tryz.prog 163 #[.int .i64 41] w (OfOut w (shapeV true false false false false false false true)) := by
  go_enter Tryz.func163, Tryz.ntmps163
  go_wp2
  refine bodyPost_ret (v := .agg #[.bool true, .bool false, .bool false, .bool false, .bool false, .bool false, .bool false, .bool true]) (by simp [results, Tryz.results163, go_sem]) rfl ⟨rfl, ?_⟩
  repeat (first | exact Below.refl _ _ | refine Below.setCell ?_ (by simp) _ | refine Below.alloc ?_ (by simp) _)

theorem isCell_41 (w : World) : Calls Tryz.prog 164 #[.int .i64 41] w fun e w' => e = .returned (.bool false) ∧ w = w' := by
  go_enter Tryz.func164, Tryz.ntmps164
  go_wp2
  go_ret
  exact ⟨rfl, rfl⟩

theorem of_42 (w : World) : Calls Tryz.prog 163 #[.int .i64 42] w (OfOut w (shapeV true false false false false false false true)) := by
  go_enter Tryz.func163, Tryz.ntmps163
  go_wp2
  refine bodyPost_ret (v := .agg #[.bool true, .bool false, .bool false, .bool false, .bool false, .bool false, .bool false, .bool true]) (by simp [results, Tryz.results163, go_sem]) rfl ⟨rfl, ?_⟩
  repeat (first | exact Below.refl _ _ | refine Below.setCell ?_ (by simp) _ | refine Below.alloc ?_ (by simp) _)

theorem isCell_42 (w : World) : Calls Tryz.prog 164 #[.int .i64 42] w fun e w' => e = .returned (.bool false) ∧ w = w' := by
  go_enter Tryz.func164, Tryz.ntmps164
  go_wp2
  go_ret
  exact ⟨rfl, rfl⟩

theorem of_43 (w : World) : Calls Tryz.prog 163 #[.int .i64 43] w (OfOut w (shapeV true true false true true false false true)) := by
  go_enter Tryz.func163, Tryz.ntmps163
  go_wp2
  refine bodyPost_ret (v := .agg #[.bool true, .bool true, .bool false, .bool true, .bool true, .bool false, .bool false, .bool true]) (by simp [results, Tryz.results163, go_sem]) rfl ⟨rfl, ?_⟩
  repeat (first | exact Below.refl _ _ | refine Below.setCell ?_ (by simp) _ | refine Below.alloc ?_ (by simp) _)

theorem isCell_43 (w : World) : Calls Tryz.prog 164 #[.int .i64 43] w fun e w' => e = .returned (.bool false) ∧ w = w' := by
  go_enter Tryz.func164, Tryz.ntmps164
  go_wp2
  go_ret
  exact ⟨rfl, rfl⟩

theorem of_44 (w : World) : Calls Tryz.prog 163 #[.int .i64 44] w (OfOut w (shapeV true false false false false false false true)) := by
  go_enter Tryz.func163, Tryz.ntmps163
  go_wp2
  refine bodyPost_ret (v := .agg #[.bool true, .bool false, .bool false, .bool false, .bool false, .bool false, .bool false, .bool true]) (by simp [results, Tryz.results163, go_sem]) rfl ⟨rfl, ?_⟩
  repeat (first | exact Below.refl _ _ | refine Below.setCell ?_ (by simp) _ | refine Below.alloc ?_ (by simp) _)

theorem isCell_44 (w : World) : Calls Tryz.prog 164 #[.int .i64 44] w fun e w' => e = .returned (.bool false) ∧ w = w' := by
  go_enter Tryz.func164, Tryz.ntmps164
  go_wp2
  go_ret
  exact ⟨rfl, rfl⟩

theorem of_45 (w : World) : Calls Tryz.prog 163 #[.int .i64 45] w (OfOut w (shapeV true true false true false false false true)) := by
  go_enter Tryz.func163, Tryz.ntmps163
  go_wp2
  refine bodyPost_ret (v := .agg #[.bool true, .bool true, .bool false, .bool true, .bool false, .bool false, .bool false, .bool true]) (by simp [results, Tryz.results163, go_sem]) rfl ⟨rfl, ?_⟩
  repeat (first | exact Below.refl _ _ | refine Below.setCell ?_ (by simp) _ | refine Below.alloc ?_ (by simp) _)

theorem isCell_45 (w : World) : Calls Tryz.prog 164 #[.int .i64 45] w fun e w' => e = .returned (.bool false) ∧ w = w' := by
  go_enter Tryz.func164, Tryz.ntmps164
  go_wp2
  go_ret
  exact ⟨rfl, rfl⟩

theorem of_46 (w : World) : Calls Tryz.prog 163 #[.int .i64 46] w (OfOut w (shapeV true false false false false false false true)) := by
  go_enter Tryz.func163, Tryz.ntmps163
  go_wp2
  refine bodyPost_ret (v := .agg #[.bool true, .bool false, .bool false, .bool false, .bool false, .bool false, .bool false, .bool true]) (by simp [results, Tryz.results163, go_sem]) rfl ⟨rfl, ?_⟩
  repeat (first | exact Below.refl _ _ | refine Below.setCell ?_ (by simp) _ | refine Below.alloc ?_ (by simp) _)

theorem isCell_46 (w : World) : Calls Tryz.prog 164 #[.int .i64 46] w fun e w' => e = .returned (.bool false) ∧ w = w' := by
  go_enter Tryz.func164, Tryz.ntmps164
  go_wp2
  go_ret
  exact ⟨rfl, rfl⟩

theorem of_47 (w : World) : Calls Tryz.prog 163 #[.int .i64 47] w (OfOut w (shapeV true true false false false false false true)) := by
  go_enter Tryz.func163, Tryz.ntmps163
  go_wp2
  refine bodyPost_ret (v := .agg #[.bool true, .bool true, .bool false, .bool false, .bool false, .bool false, .bool false, .bool true]) (by simp [results, Tryz.results163, go_sem]) rfl ⟨rfl, ?_⟩
  repeat (first | exact Below.refl _ _ | refine Below.setCell ?_ (by simp) _ | refine Below.alloc ?_ (by simp) _)

theorem isCell_47 (w : World) : Calls Tryz.prog 164 #[.int .i64 47] w fun e w' => e = .returned (.bool false) ∧ w = w' := by
  go_enter Tryz.func164, Tryz.ntmps164
  go_wp2
  go_ret
  exact ⟨rfl, rfl⟩

theorem of_48 (w : World) : Calls Tryz.prog 163 #[.int .i64 48] w (OfOut w (shapeV true true true false false false false true)) := by
  go_enter Tryz.func163, Tryz.ntmps163
  go_wp2
  refine bodyPost_ret (v := .agg #[.bool true, .bool true, .bool true, .bool false, .bool false, .bool false, .bool false, .bool true]) (by simp [results, Tryz.results163, go_sem]) rfl ⟨rfl, ?_⟩
  repeat (first | exact Below.refl _ _ | refine Below.setCell ?_ (by simp) _ | refine Below.alloc ?_ (by simp) _)

theorem isCell_48 (w : World) : Calls Tryz.prog 164 #[.int .i64 48] w fun e w' => e = .returned (.bool false) ∧ w = w' := by
  go_enter Tryz.func164, Tryz.ntmps164
  go_wp2
  go_ret
  exact ⟨rfl, rfl⟩

theorem of_49 (w : World) : Calls Tryz.prog 163 #[.int .i64 49] w (OfOut w (shapeV true true false false false false false true)) := by
  go_enter Tryz.func163, Tryz.ntmps163
  go_wp2
  refine bodyPost_ret (v := .agg #[.bool true, .bool true, .bool false, .bool false, .bool false, .bool false, .bool false, .bool true]) (by simp [results, Tryz.results163, go_sem]) rfl ⟨rfl, ?_⟩
  repeat (first | exact Below.refl _ _ | refine Below.setCell ?_ (by simp) _ | refine Below.alloc ?_ (by simp) _)

theorem isCell_49 (w : World) : Calls Tryz.prog 164 #[.int .i64 49] w fun e w' => e = .returned (.bool false) ∧ w = w' := by
  go_enter Tryz.func164, Tryz.ntmps164
  go_wp2
  go_ret
  exact ⟨rfl, rfl⟩

theorem of_50 (w : World) : Calls Tryz.prog 163 #[.int .i64 50] w (OfOut w (shapeV true true false false false false false true)) := by
  go_enter Tryz.func163, Tryz.ntmps163
  go_wp2
  refine bodyPost_ret (v := .agg #[.bool true, .bool true, .bool false, .bool false, .bool false, .bool false, .bool false, .bool true]) (by simp [results, Tryz.results163, go_sem]) rfl ⟨rfl, ?_⟩
  repeat (first | exact Below.refl _ _ | refine Below.setCell ?_ (by simp) _ | refine Below.alloc ?_ (by simp) _)

theorem isCell_50 (w : World) : Calls Tryz.prog 164 #[.int .i64 50] w fun e w' => e = .returned (.bool false) ∧ w = w' := by
  go_enter Tryz.func164, Tryz.ntmps164
  go_wp2
  go_ret
  exact ⟨rfl, rfl⟩

theorem of_51 (w : World) : Calls Tryz.prog 163 #[.int .i64 51] w (OfOut w (shapeV true false false false false false false true)) := by
  go_enter Tryz.func163, Tryz.ntmps163
  go_wp2
  refine bodyPost_ret (v := .agg #[.bool true, .bool false, .bool false, .bool false, .bool false, .bool false, .bool false, .bool true]) (by simp [results, Tryz.results163, go_sem]) rfl ⟨rfl, ?_⟩
  repeat (first | exact Below.refl _ _ | refine Below.setCell ?_ (by simp) _ | refine Below.alloc ?_ (by simp) _)

theorem isCell_51 (w : World) : Calls Tryz.prog 164 #[.int .i64 51] w fun e w' => e = .returned (.bool false) ∧ w = w' := by
  go_enter Tryz.func164, Tryz.ntmps164
  go_wp2
  go_ret
  exact ⟨rfl, rfl⟩

theorem of_52 (w : World) : Calls Tryz.prog 163 #[.int .i64 52] w (OfOut w (shapeV true false false false false false false true)) := by
  go_enter Tryz.func163, Tryz.ntmps163
  go_wp2
  refine bodyPost_ret (v := .agg #[.bool true, .bool false, .bool false, .bool false, .bool false, .bool false, .bool false, .bool true]) (by simp [results, Tryz.results163, go_sem]) rfl ⟨rfl, ?_⟩
  repeat (first | exact Below.refl _ _ | refine Below.setCell ?_ (by simp) _ | refine Below.alloc ?_ (by simp) _)

theorem isCell_52 (w : World) : Calls Tryz.prog 164 #[.int .i64 52] w fun e w' => e = .returned (.bool false) ∧ w = w' := by
  go_enter Tryz.func164, Tryz.ntmps164
  go_wp2
  go_ret
  exact ⟨rfl, rfl⟩

theorem of_53 (w : World) : Calls Tryz.prog 163 #[.int .i64 53] w (OfOut w (shapeV true false false false false false false true)) := by
  go_enter Tryz.func163, Tryz.ntmps163
  go_wp2
  refine bodyPost_ret (v := .agg #[.bool true, .bool false, .bool false, .bool false, .bool false, .bool false, .bool false, .bool true]) (by simp [results, Tryz.results163, go_sem]) rfl ⟨rfl, ?_⟩
  repeat (first | exact Below.refl _ _ | refine Below.setCell ?_ (by simp) _ | refine Below.alloc ?_ (by simp) _)

theorem isCell_53 (w : World) : Calls Tryz.prog 164 #[.int .i64 53] w fun e w' => e = .returned (.bool false) ∧ w = w' := by
  go_enter Tryz.func164, Tryz.ntmps164
  go_wp2
  go_ret
  exact ⟨rfl, rfl⟩

theorem of_54 (w : World) : Calls Tryz.prog 163 #[.int .i64 54] w (OfOut w (shapeV true true false false false false false true)) := by
  go_enter Tryz.func163, Tryz.ntmps163
  go_wp2
  refine bodyPost_ret (v := .agg #[.bool true, .bool true, .bool false, .bool false, .bool false, .bool false, .bool false, .bool true]) (by simp [results, Tryz.results163, go_sem]) rfl ⟨rfl, ?_⟩
  repeat (first | exact Below.refl _ _ | refine Below.setCell ?_ (by simp) _ | refine Below.alloc ?_ (by simp) _)

theorem isCell_54 (w : World) : Calls Tryz.prog 164 #[.int .i64 54] w fun e w' => e = .returned (.bool false) ∧ w = w' := by
  go_enter Tryz.func164, Tryz.ntmps164
  go_wp2
  go_ret
  exact ⟨rfl, rfl⟩

theorem of_55 (w : World) : Calls Tryz.prog 163 #[.int .i64 55] w (OfOut w (shapeV false false false false false false false true)) := by
  go_enter Tryz.func163, Tryz.ntmps163
  go_wp2
  refine bodyPost_ret (v := .agg #[.bool false, .bool false, .bool false, .bool false, .bool false, .bool false, .bool false, .bool true]) (by simp [results, Tryz.results163, go_sem]) rfl ⟨rfl, ?_⟩
  repeat (first | exact Below.refl _ _ | refine Below.setCell ?_ (by simp) _ | refine Below.alloc ?_ (by simp) _)

theorem isCell_55 (w : World) : Calls Tryz.prog 164 #[.int .i64 55] w fun e w' => e = .returned (.bool false) ∧ w = w' := by
  go_enter Tryz.func164, Tryz.ntmps164
  go_wp2
  go_ret
  exact ⟨rfl, rfl⟩

theorem of_56 (w : World) : Calls Tryz.prog 163 #[.int .i64 56] w (OfOut w (shapeV false false false false false false false true)) := by
  go_enter Tryz.func163, Tryz.ntmps163
  go_wp2
  refine bodyPost_ret (v := .agg #[.bool false, .bool false, .bool false, .bool false, .bool false, .bool false, .bool false, .bool true]) (by simp [results, Tryz.results163, go_sem]) rfl ⟨rfl, ?_⟩
  repeat (first | exact Below.refl _ _ | refine Below.setCell ?_ (by simp) _ | refine Below.alloc ?_ (by simp) _)

theorem isCell_56 (w : World) : Calls Tryz.prog 164 #[.int .i64 56] w fun e w' => e = .returned (.bool false) ∧ w = w' := by
  go_enter Tryz.func164, Tryz.ntmps164
  go_wp2
  go_ret
  exact ⟨rfl, rfl⟩

theorem of_57 (w : World) : Calls Tryz.prog 163 #[.int .i64 57] w (OfOut w (shapeV true false false false false false false true)) := by
  go_enter Tryz.func163, Tryz.ntmps163
  go_wp2
  refine bodyPost_ret (v := .agg #[.bool true, .bool false, .bool false, .bool false, .bool false, .bool false, .bool false, .bool true]) (by simp [results, Tryz.results163, go_sem]) rfl ⟨rfl, ?_⟩
  repeat (first | exact Below.refl _ _ | refine Below.setCell ?_ (by simp) _ | refine Below.alloc ?_ (by simp) _)

theorem isCell_57 (w : World) : Calls Tryz.prog 164 #[.int .i64 57] w fun e w' => e = .returned (.bool false) ∧ w = w' := by
  go_enter Tryz.func164, Tryz.ntmps164
  go_wp2
  go_ret
  exact ⟨rfl, rfl⟩

theorem of_58 (w : World) : Calls Tryz.prog 163 #[.int .i64 58] w (OfOut w (shapeV false false false false false false false true)) := by
  go_enter Tryz.func163, Tryz.ntmps163
  go_wp2
  refine bodyPost_ret (v := .agg #[.bool false, .bool false, .bool false, .bool false, .bool false, .bool false, .bool false, .bool true]) (by simp [results, Tryz.results163, go_sem]) rfl ⟨rfl, ?_⟩
  repeat (first | exact Below.refl _ _ | refine Below.setCell ?_ (by simp) _ | refine Below.alloc ?_ (by simp) _)

theorem isCell_58 (w : World) : Calls Tryz.prog 164 #[.int .i64 58] w fun e w' => e = .returned (.bool false) ∧ w = w' := by
  go_enter Tryz.func164, Tryz.ntmps164
  go_wp2
  go_ret
  exact ⟨rfl, rfl⟩

theorem rops_1 (w : World) : Calls Tryz.prog 120 #[.int .i64 1] w (RopsOut w [0, 8]) := by
  go_enter Tryz.func120, Tryz.ntmps120
  go_wp2
  go_ret
  exact ⟨_, rfl, lit_row w [0, 8] (by decide), (Below.refl _ _).alloc (Nat.le_refl _) _⟩

theorem rops_12 (w : World) : Calls Tryz.prog 120 #[.int .i64 12] w (RopsOut w [6]) := by
  go_enter Tryz.func120, Tryz.ntmps120
  go_wp2
  go_ret
  exact ⟨_, rfl, lit_row w [6] (by decide), (Below.refl _ _).alloc (Nat.le_refl _) _⟩

theorem rops_15 (w : World) : Calls Tryz.prog 120 #[.int .i64 15] w (RopsOut w [6]) := by
  go_enter Tryz.func120, Tryz.ntmps120
  go_wp2
  go_ret
  exact ⟨_, rfl, lit_row w [6] (by decide), (Below.refl _ _).alloc (Nat.le_refl _) _⟩

theorem rops_13 (w : World) : Calls Tryz.prog 120 #[.int .i64 13] w (RopsOut w [0, 6]) := by
  go_enter Tryz.func120, Tryz.ntmps120
  go_wp2
  go_ret
  exact ⟨_, rfl, lit_row w [0, 6] (by decide), (Below.refl _ _).alloc (Nat.le_refl _) _⟩

theorem rops_14 (w : World) : Calls Tryz.prog 120 #[.int .i64 14] w (RopsOut w [0, 6]) := by
  go_enter Tryz.func120, Tryz.ntmps120
  go_wp2
  go_ret
  exact ⟨_, rfl, lit_row w [0, 6] (by decide), (Below.refl _ _).alloc (Nat.le_refl _) _⟩

theorem rops_22 (w : World) : Calls Tryz.prog 120 #[.int .i64 22] w (RopsOut w [7]) := by
  go_enter Tryz.func120, Tryz.ntmps120
  go_wp2
  go_ret
  exact ⟨_, rfl, lit_row w [7] (by decide), (Below.refl _ _).alloc (Nat.le_refl _) _⟩

theorem rops_43 (w : World) : Calls Tryz.prog 120 #[.int .i64 43] w (RopsOut w [0, 3]) := by
  go_enter Tryz.func120, Tryz.ntmps120
  go_wp2
  go_ret
  exact ⟨_, rfl, lit_row w [0, 3] (by decide), (Below.refl _ _).alloc (Nat.le_refl _) _⟩

theorem rops_45 (w : World) : Calls Tryz.prog 120 #[.int .i64 45] w (RopsOut w [0, 1, 7]) := by
  go_enter Tryz.func120, Tryz.ntmps120
  go_wp2
  go_ret
  exact ⟨_, rfl, lit_row w [0, 1, 7] (by decide), (Below.refl _ _).alloc (Nat.le_refl _) _⟩

theorem blk_lt2 {w : World} {k : Nat} {o : Obj} (h : w.heap[k]? = some o) : k < w.heap.size := (Array.getElem?_eq_some_iff.1 h).1

set_option maxHeartbeats 1000000 in
theorem rgen_0 (op : Int) (v nb p : Bool) (h1 : (op == 1) = false) (h2 : (op == 12) = false) (h3 : (op == 15) = false) (h4 : (op == 13) = false) (h5 : (op == 14) = false) (h6 : (op == 22) = false) (h7 : (op == 43) = false) (h8 : (op == 45) = false) (w : World) (hOf : Calls Tryz.prog 163 #[.int .i64 op] w (OfOut w (shapeV false false false v nb false p true))) (hCell : ∀ w, Calls Tryz.prog 164 #[.int .i64 op] w fun e w' => e = .returned (.bool false) ∧ w = w') :
    Calls Tryz.prog 120 #[.int .i64 op] w (RopsOut w []) := by
  have HOf := Lib.hid hOf
  have HCell := Lib.hid hCell
  clear hOf hCell
  obtain ⟨ii, hii, hzi, hsi, hbi⟩ := info_parts infoI
  go_enter Tryz.func120, Tryz.ntmps120
  go_wp2_with fail
  refine HOf.out.mono ?_
  rintro e w1 ⟨rfl, hb1⟩
  unfold shapeV
  have hz1 := hb1.size
  have HB1 := Lib.hid hb1
  clear hb1
  obtain ⟨S, hS⟩ : ∃ S, S = w1.heap.size := ⟨_, rfl⟩
  have hS0 : (w1.alloc (.cells #[.bool false, .bool false, .bool false, .bool v, .bool nb, .bool false, .bool p, .bool true] 368)).heap[S]? = some (.cells #[.bool false, .bool false, .bool false, .bool v, .bool nb, .bool false, .bool p, .bool true] 368 (0, 0)) := by rw [hS]; exact heap_alloc_new w1 _
  have hBd : Below w.heap.size w (w1.alloc (.cells #[.bool false, .bool false, .bool false, .bool v, .bool nb, .bool false, .bool p, .bool true] 368)) := HB1.out.alloc hz1 _
  have hR0 : (w1.alloc (.cells #[.bool false, .bool false, .bool false, .bool v, .bool nb, .bool false, .bool p, .bool true] 368)).ownsRow w.heap.size 3 1 (.slice none 0 0) 0 [] := World.ownsRow_nil _ _ _ _
  have HS := Lib.hid hS0
  have HBd := Lib.hid hBd
  have HR := Lib.hid hR0
  go_upto_region 18 with fail
  rw [← hS]
  generalize w1.alloc (.cells #[.bool false, .bool false, .bool false, .bool v, .bool nb, .bool false, .bool p, .bool true] 368) = wa at HS HBd HR ⊢
  clear hS0 hBd hR0 hS HB1 hz1
  have s0_0 : wa.cell? ⟨S, 0, none⟩ = some (.bool false) := by simp [World.cell?, HS.out]
  have s0_1 : wa.cell? ⟨S, 1, none⟩ = some (.bool false) := by simp [World.cell?, HS.out]
  have s0_2 : wa.cell? ⟨S, 2, none⟩ = some (.bool false) := by simp [World.cell?, HS.out]
  have s0_5 : wa.cell? ⟨S, 5, none⟩ = some (.bool false) := by simp [World.cell?, HS.out]
  go_wp2_with (go_at_call 164; refine (HCell.out _).mono ?_; rintro e w' ⟨rfl, rfl⟩)
  go_ret
  exact ⟨_, rfl, HR.out, HBd.out⟩

set_option maxHeartbeats 1000000 in
theorem rgen_A (op : Int) (v nb p : Bool) (h1 : (op == 1) = false) (h2 : (op == 12) = false) (h3 : (op == 15) = false) (h4 : (op == 13) = false) (h5 : (op == 14) = false) (h6 : (op == 22) = false) (h7 : (op == 43) = false) (h8 : (op == 45) = false) (w : World) (hOf : Calls Tryz.prog 163 #[.int .i64 op] w (OfOut w (shapeV true false false v nb false p true))) (hCell : ∀ w, Calls Tryz.prog 164 #[.int .i64 op] w fun e w' => e = .returned (.bool false) ∧ w = w') :
    Calls Tryz.prog 120 #[.int .i64 op] w (RopsOut w [0]) := by
  have HOf := Lib.hid hOf
  have HCell := Lib.hid hCell
  clear hOf hCell
  obtain ⟨ii, hii, hzi, hsi, hbi⟩ := info_parts infoI
  go_enter Tryz.func120, Tryz.ntmps120
  go_wp2_with fail
  refine HOf.out.mono ?_
  rintro e w1 ⟨rfl, hb1⟩
  unfold shapeV
  have hz1 := hb1.size
  have HB1 := Lib.hid hb1
  clear hb1
  obtain ⟨S, hS⟩ : ∃ S, S = w1.heap.size := ⟨_, rfl⟩
  have hS0 : (w1.alloc (.cells #[.bool true, .bool false, .bool false, .bool v, .bool nb, .bool false, .bool p, .bool true] 368)).heap[S]? = some (.cells #[.bool true, .bool false, .bool false, .bool v, .bool nb, .bool false, .bool p, .bool true] 368 (0, 0)) := by rw [hS]; exact heap_alloc_new w1 _
  have hBd : Below w.heap.size w (w1.alloc (.cells #[.bool true, .bool false, .bool false, .bool v, .bool nb, .bool false, .bool p, .bool true] 368)) := HB1.out.alloc hz1 _
  have hR0 : (w1.alloc (.cells #[.bool true, .bool false, .bool false, .bool v, .bool nb, .bool false, .bool p, .bool true] 368)).ownsRow w.heap.size 3 1 (.slice none 0 0) 0 [] := World.ownsRow_nil _ _ _ _
  have HS := Lib.hid hS0
  have HBd := Lib.hid hBd
  have HR := Lib.hid hR0
  go_upto_region 18 with fail
  rw [← hS]
  generalize w1.alloc (.cells #[.bool true, .bool false, .bool false, .bool v, .bool nb, .bool false, .bool p, .bool true] 368) = wa at HS HBd HR ⊢
  clear hS0 hBd hR0 hS HB1 hz1
  have s0_0 : wa.cell? ⟨S, 0, none⟩ = some (.bool true) := by simp [World.cell?, HS.out]
  have s0_1 : wa.cell? ⟨S, 1, none⟩ = some (.bool false) := by simp [World.cell?, HS.out]
  have s0_2 : wa.cell? ⟨S, 2, none⟩ = some (.bool false) := by simp [World.cell?, HS.out]
  have s0_5 : wa.cell? ⟨S, 5, none⟩ = some (.bool false) := by simp [World.cell?, HS.out]
  have hlS0 : S < wa.heap.size := blk_lt2 HS.out
  have hlb0 := HBd.out.size
  have E0 := Lib.hid (HR.out.alloc (.cells #[.int .i64 0] 3))
  have N0 : Hid (∀ (j : Nat) (u : Value), ([.int .i64 0] : List Value)[j]? = some u → (wa.alloc (.cells #[.int .i64 0] 3)).cell? ((⟨wa.heap.size, 0, none⟩ : Addr).add j) = some u) := Lib.hid (fun j u hu => by
    rw [Addr.add_lit, Nat.zero_add]
    exact (World.cell?_alloc_at _ _ _ _ rfl).trans (by simpa using hu))
  have O0 : Hid (∀ u ∈ ([.int .i64 0] : List Value), u.oneCell' = true) := Lib.hid (fun u hu => by
    rw [List.mem_singleton] at hu; subst hu; rfl)
  have M0 := Lib.hid (show 0 + 1 ≤ maxLen by decide)
  have Z0 := Lib.hid (show w.heap.size ≤ (wa.alloc (.cells #[.int .i64 0] 3)).heap.size by simp; omega)
  have F0 : Hid (∀ v' w8, w8.ownsRow w.heap.size 3 1 v' (0 + 1) ([] ++ [.int .i64 0]) → (wa.alloc (.cells #[.int .i64 0] 3)).grownBy w8 ((.slice none 0 0) : Value).ownBlock → Hid (w8.heap[S]? = some (.cells #[.bool true, .bool false, .bool false, .bool v, .bool nb, .bool false, .bool p, .bool true] 368 (0, 0))) ∧ Hid (Below w.heap.size w w8)) := Lib.hid (fun v' w8 hr hg =>
    ⟨Lib.hid ((hg.block S (by simp; omega) (own_ne E0.out (tag_cells ((((Below.refl _ wa).alloc (Nat.le_refl _) (.cells #[.int .i64 0] 3)).block S hlS0).trans HS.out)) (by decide))).trans ((((Below.refl _ wa).alloc (Nat.le_refl _) (.cells #[.int .i64 0] 3)).block S hlS0).trans HS.out)), Lib.hid ((HBd.out.alloc hlb0 _).grown hg Z0.out (fun j e => (E0.out.lt j e).1))⟩)
  clear HS HBd HR
  go_upto_region 20 with (first | (go_at_call 164; refine (HCell.out _).mono ?_; rintro e w' ⟨rfl, rfl⟩) | (at_builtin; refine wpList_append_own_at _ rfl (.tmp 30) (.tmp 31) 86 rfl w.heap.size 3 ii _ 1 8 Tryz.underlying86 hii hzi hsi hbi rfl (by decide) _ _ _ rfl E0.out ⟨wa.heap.size, 0, none⟩ 1 1 [.int .i64 0] rfl rfl N0.out O0.out M0.out (by decide) Z0.out ?_; intro v0 wb0 hown hgrow _ hnew; obtain ⟨A0, c0, rfl⟩ := own_shape hown; have HR := Lib.hid hown; obtain ⟨HS, HBd⟩ := F0.out _ _ hown hgrow; clear hown hgrow hnew))
  have s1_0 : wb0.cell? ⟨S, 0, none⟩ = some (.bool true) := by simp [World.cell?, HS.out]
  have s1_1 : wb0.cell? ⟨S, 1, none⟩ = some (.bool false) := by simp [World.cell?, HS.out]
  have s1_2 : wb0.cell? ⟨S, 2, none⟩ = some (.bool false) := by simp [World.cell?, HS.out]
  have s1_5 : wb0.cell? ⟨S, 5, none⟩ = some (.bool false) := by simp [World.cell?, HS.out]
  go_wp2_with (go_at_call 164; refine (HCell.out _).mono ?_; rintro e w' ⟨rfl, rfl⟩)
  go_ret
  exact ⟨_, rfl, HR.out, HBd.out⟩

set_option maxHeartbeats 1000000 in
theorem rgen_AB (op : Int) (v nb p : Bool) (h1 : (op == 1) = false) (h2 : (op == 12) = false) (h3 : (op == 15) = false) (h4 : (op == 13) = false) (h5 : (op == 14) = false) (h6 : (op == 22) = false) (h7 : (op == 43) = false) (h8 : (op == 45) = false) (w : World) (hOf : Calls Tryz.prog 163 #[.int .i64 op] w (OfOut w (shapeV true true false v nb false p true))) (hCell : ∀ w, Calls Tryz.prog 164 #[.int .i64 op] w fun e w' => e = .returned (.bool false) ∧ w = w') :
    Calls Tryz.prog 120 #[.int .i64 op] w (RopsOut w [0, 1]) := by
  have HOf := Lib.hid hOf
  have HCell := Lib.hid hCell
  clear hOf hCell
  obtain ⟨ii, hii, hzi, hsi, hbi⟩ := info_parts infoI
  go_enter Tryz.func120, Tryz.ntmps120
  go_wp2_with fail
  refine HOf.out.mono ?_
  rintro e w1 ⟨rfl, hb1⟩
  unfold shapeV
  have hz1 := hb1.size
  have HB1 := Lib.hid hb1
  clear hb1
  obtain ⟨S, hS⟩ : ∃ S, S = w1.heap.size := ⟨_, rfl⟩
  have hS0 : (w1.alloc (.cells #[.bool true, .bool true, .bool false, .bool v, .bool nb, .bool false, .bool p, .bool true] 368)).heap[S]? = some (.cells #[.bool true, .bool true, .bool false, .bool v, .bool nb, .bool false, .bool p, .bool true] 368 (0, 0)) := by rw [hS]; exact heap_alloc_new w1 _
  have hBd : Below w.heap.size w (w1.alloc (.cells #[.bool true, .bool true, .bool false, .bool v, .bool nb, .bool false, .bool p, .bool true] 368)) := HB1.out.alloc hz1 _
  have hR0 : (w1.alloc (.cells #[.bool true, .bool true, .bool false, .bool v, .bool nb, .bool false, .bool p, .bool true] 368)).ownsRow w.heap.size 3 1 (.slice none 0 0) 0 [] := World.ownsRow_nil _ _ _ _
  have HS := Lib.hid hS0
  have HBd := Lib.hid hBd
  have HR := Lib.hid hR0
  go_upto_region 18 with fail
  rw [← hS]
  generalize w1.alloc (.cells #[.bool true, .bool true, .bool false, .bool v, .bool nb, .bool false, .bool p, .bool true] 368) = wa at HS HBd HR ⊢
  clear hS0 hBd hR0 hS HB1 hz1
  have s0_0 : wa.cell? ⟨S, 0, none⟩ = some (.bool true) := by simp [World.cell?, HS.out]
  have s0_1 : wa.cell? ⟨S, 1, none⟩ = some (.bool true) := by simp [World.cell?, HS.out]
  have s0_2 : wa.cell? ⟨S, 2, none⟩ = some (.bool false) := by simp [World.cell?, HS.out]
  have s0_5 : wa.cell? ⟨S, 5, none⟩ = some (.bool false) := by simp [World.cell?, HS.out]
  have hlS0 : S < wa.heap.size := blk_lt2 HS.out
  have hlb0 := HBd.out.size
  have E0 := Lib.hid (HR.out.alloc (.cells #[.int .i64 0] 3))
  have N0 : Hid (∀ (j : Nat) (u : Value), ([.int .i64 0] : List Value)[j]? = some u → (wa.alloc (.cells #[.int .i64 0] 3)).cell? ((⟨wa.heap.size, 0, none⟩ : Addr).add j) = some u) := Lib.hid (fun j u hu => by
    rw [Addr.add_lit, Nat.zero_add]
    exact (World.cell?_alloc_at _ _ _ _ rfl).trans (by simpa using hu))
  have O0 : Hid (∀ u ∈ ([.int .i64 0] : List Value), u.oneCell' = true) := Lib.hid (fun u hu => by
    rw [List.mem_singleton] at hu; subst hu; rfl)
  have M0 := Lib.hid (show 0 + 1 ≤ maxLen by decide)
  have Z0 := Lib.hid (show w.heap.size ≤ (wa.alloc (.cells #[.int .i64 0] 3)).heap.size by simp; omega)
  have F0 : Hid (∀ v' w8, w8.ownsRow w.heap.size 3 1 v' (0 + 1) ([] ++ [.int .i64 0]) → (wa.alloc (.cells #[.int .i64 0] 3)).grownBy w8 ((.slice none 0 0) : Value).ownBlock → Hid (w8.heap[S]? = some (.cells #[.bool true, .bool true, .bool false, .bool v, .bool nb, .bool false, .bool p, .bool true] 368 (0, 0))) ∧ Hid (Below w.heap.size w w8)) := Lib.hid (fun v' w8 hr hg =>
    ⟨Lib.hid ((hg.block S (by simp; omega) (own_ne E0.out (tag_cells ((((Below.refl _ wa).alloc (Nat.le_refl _) (.cells #[.int .i64 0] 3)).block S hlS0).trans HS.out)) (by decide))).trans ((((Below.refl _ wa).alloc (Nat.le_refl _) (.cells #[.int .i64 0] 3)).block S hlS0).trans HS.out)), Lib.hid ((HBd.out.alloc hlb0 _).grown hg Z0.out (fun j e => (E0.out.lt j e).1))⟩)
  clear HS HBd HR
  go_upto_region 20 with (first | (go_at_call 164; refine (HCell.out _).mono ?_; rintro e w' ⟨rfl, rfl⟩) | (at_builtin; refine wpList_append_own_at _ rfl (.tmp 30) (.tmp 31) 86 rfl w.heap.size 3 ii _ 1 8 Tryz.underlying86 hii hzi hsi hbi rfl (by decide) _ _ _ rfl E0.out ⟨wa.heap.size, 0, none⟩ 1 1 [.int .i64 0] rfl rfl N0.out O0.out M0.out (by decide) Z0.out ?_; intro v0 wb0 hown hgrow _ hnew; obtain ⟨A0, c0, rfl⟩ := own_shape hown; have HR := Lib.hid hown; obtain ⟨HS, HBd⟩ := F0.out _ _ hown hgrow; clear hown hgrow hnew))
  have s1_0 : wb0.cell? ⟨S, 0, none⟩ = some (.bool true) := by simp [World.cell?, HS.out]
  have s1_1 : wb0.cell? ⟨S, 1, none⟩ = some (.bool true) := by simp [World.cell?, HS.out]
  have s1_2 : wb0.cell? ⟨S, 2, none⟩ = some (.bool false) := by simp [World.cell?, HS.out]
  have s1_5 : wb0.cell? ⟨S, 5, none⟩ = some (.bool false) := by simp [World.cell?, HS.out]
  have hlS1 : S < wb0.heap.size := blk_lt2 HS.out
  have hlb1 := HBd.out.size
  have E1 := Lib.hid (HR.out.alloc (.cells #[.int .i64 1] 3))
  have N1 : Hid (∀ (j : Nat) (u : Value), ([.int .i64 1] : List Value)[j]? = some u → (wb0.alloc (.cells #[.int .i64 1] 3)).cell? ((⟨wb0.heap.size, 0, none⟩ : Addr).add j) = some u) := Lib.hid (fun j u hu => by
    rw [Addr.add_lit, Nat.zero_add]
    exact (World.cell?_alloc_at _ _ _ _ rfl).trans (by simpa using hu))
  have O1 : Hid (∀ u ∈ ([.int .i64 1] : List Value), u.oneCell' = true) := Lib.hid (fun u hu => by
    rw [List.mem_singleton] at hu; subst hu; rfl)
  have M1 := Lib.hid (show 1 + 1 ≤ maxLen by decide)
  have Z1 := Lib.hid (show w.heap.size ≤ (wb0.alloc (.cells #[.int .i64 1] 3)).heap.size by simp; omega)
  have F1 : Hid (∀ v' w8, w8.ownsRow w.heap.size 3 1 v' (1 + 1) ([.int .i64 0] ++ [.int .i64 1]) → (wb0.alloc (.cells #[.int .i64 1] 3)).grownBy w8 ((.slice A0 1 c0) : Value).ownBlock → Hid (w8.heap[S]? = some (.cells #[.bool true, .bool true, .bool false, .bool v, .bool nb, .bool false, .bool p, .bool true] 368 (0, 0))) ∧ Hid (Below w.heap.size w w8)) := Lib.hid (fun v' w8 hr hg =>
    ⟨Lib.hid ((hg.block S (by simp; omega) (own_ne E1.out (tag_cells ((((Below.refl _ wb0).alloc (Nat.le_refl _) (.cells #[.int .i64 1] 3)).block S hlS1).trans HS.out)) (by decide))).trans ((((Below.refl _ wb0).alloc (Nat.le_refl _) (.cells #[.int .i64 1] 3)).block S hlS1).trans HS.out)), Lib.hid ((HBd.out.alloc hlb1 _).grown hg Z1.out (fun j e => (E1.out.lt j e).1))⟩)
  clear HS HBd HR
  go_upto_region 24 with (first | (go_at_call 164; refine (HCell.out _).mono ?_; rintro e w' ⟨rfl, rfl⟩) | (at_builtin; refine wpList_append_own_at _ rfl (.tmp 40) (.tmp 41) 86 rfl w.heap.size 3 ii _ 1 8 Tryz.underlying86 hii hzi hsi hbi rfl (by decide) _ _ _ rfl E1.out ⟨wb0.heap.size, 0, none⟩ 1 1 [.int .i64 1] rfl rfl N1.out O1.out M1.out (by decide) Z1.out ?_; intro v1 wb1 hown hgrow _ hnew; obtain ⟨A1, c1, rfl⟩ := own_shape hown; have HR := Lib.hid hown; obtain ⟨HS, HBd⟩ := F1.out _ _ hown hgrow; clear hown hgrow hnew))
  have s2_0 : wb1.cell? ⟨S, 0, none⟩ = some (.bool true) := by simp [World.cell?, HS.out]
  have s2_1 : wb1.cell? ⟨S, 1, none⟩ = some (.bool true) := by simp [World.cell?, HS.out]
  have s2_2 : wb1.cell? ⟨S, 2, none⟩ = some (.bool false) := by simp [World.cell?, HS.out]
  have s2_5 : wb1.cell? ⟨S, 5, none⟩ = some (.bool false) := by simp [World.cell?, HS.out]
  go_wp2_with (go_at_call 164; refine (HCell.out _).mono ?_; rintro e w' ⟨rfl, rfl⟩)
  go_ret
  exact ⟨_, rfl, HR.out, HBd.out⟩

set_option maxHeartbeats 1000000 in
theorem rgen_ABC (op : Int) (v nb p : Bool) (h1 : (op == 1) = false) (h2 : (op == 12) = false) (h3 : (op == 15) = false) (h4 : (op == 13) = false) (h5 : (op == 14) = false) (h6 : (op == 22) = false) (h7 : (op == 43) = false) (h8 : (op == 45) = false) (w : World) (hOf : Calls Tryz.prog 163 #[.int .i64 op] w (OfOut w (shapeV true true true v nb false p true))) (hCell : ∀ w, Calls Tryz.prog 164 #[.int .i64 op] w fun e w' => e = .returned (.bool false) ∧ w = w') :
    Calls Tryz.prog 120 #[.int .i64 op] w (RopsOut w [0, 1, 2]) := by
  have HOf := Lib.hid hOf
  have HCell := Lib.hid hCell
  clear hOf hCell
  obtain ⟨ii, hii, hzi, hsi, hbi⟩ := info_parts infoI
  go_enter Tryz.func120, Tryz.ntmps120
  go_wp2_with fail
  refine HOf.out.mono ?_
  rintro e w1 ⟨rfl, hb1⟩
  unfold shapeV
  have hz1 := hb1.size
  have HB1 := Lib.hid hb1
  clear hb1
  obtain ⟨S, hS⟩ : ∃ S, S = w1.heap.size := ⟨_, rfl⟩
  have hS0 : (w1.alloc (.cells #[.bool true, .bool true, .bool true, .bool v, .bool nb, .bool false, .bool p, .bool true] 368)).heap[S]? = some (.cells #[.bool true, .bool true, .bool true, .bool v, .bool nb, .bool false, .bool p, .bool true] 368 (0, 0)) := by rw [hS]; exact heap_alloc_new w1 _
  have hBd : Below w.heap.size w (w1.alloc (.cells #[.bool true, .bool true, .bool true, .bool v, .bool nb, .bool false, .bool p, .bool true] 368)) := HB1.out.alloc hz1 _
  have hR0 : (w1.alloc (.cells #[.bool true, .bool true, .bool true, .bool v, .bool nb, .bool false, .bool p, .bool true] 368)).ownsRow w.heap.size 3 1 (.slice none 0 0) 0 [] := World.ownsRow_nil _ _ _ _
  have HS := Lib.hid hS0
  have HBd := Lib.hid hBd
  have HR := Lib.hid hR0
  go_upto_region 18 with fail
  rw [← hS]
  generalize w1.alloc (.cells #[.bool true, .bool true, .bool true, .bool v, .bool nb, .bool false, .bool p, .bool true] 368) = wa at HS HBd HR ⊢
  clear hS0 hBd hR0 hS HB1 hz1
  have s0_0 : wa.cell? ⟨S, 0, none⟩ = some (.bool true) := by simp [World.cell?, HS.out]
  have s0_1 : wa.cell? ⟨S, 1, none⟩ = some (.bool true) := by simp [World.cell?, HS.out]
  have s0_2 : wa.cell? ⟨S, 2, none⟩ = some (.bool true) := by simp [World.cell?, HS.out]
  have s0_5 : wa.cell? ⟨S, 5, none⟩ = some (.bool false) := by simp [World.cell?, HS.out]
  have hlS0 : S < wa.heap.size := blk_lt2 HS.out
  have hlb0 := HBd.out.size
  have E0 := Lib.hid (HR.out.alloc (.cells #[.int .i64 0] 3))
  have N0 : Hid (∀ (j : Nat) (u : Value), ([.int .i64 0] : List Value)[j]? = some u → (wa.alloc (.cells #[.int .i64 0] 3)).cell? ((⟨wa.heap.size, 0, none⟩ : Addr).add j) = some u) := Lib.hid (fun j u hu => by
    rw [Addr.add_lit, Nat.zero_add]
    exact (World.cell?_alloc_at _ _ _ _ rfl).trans (by simpa using hu))
  have O0 : Hid (∀ u ∈ ([.int .i64 0] : List Value), u.oneCell' = true) := Lib.hid (fun u hu => by
    rw [List.mem_singleton] at hu; subst hu; rfl)
  have M0 := Lib.hid (show 0 + 1 ≤ maxLen by decide)
  have Z0 := Lib.hid (show w.heap.size ≤ (wa.alloc (.cells #[.int .i64 0] 3)).heap.size by simp; omega)
  have F0 : Hid (∀ v' w8, w8.ownsRow w.heap.size 3 1 v' (0 + 1) ([] ++ [.int .i64 0]) → (wa.alloc (.cells #[.int .i64 0] 3)).grownBy w8 ((.slice none 0 0) : Value).ownBlock → Hid (w8.heap[S]? = some (.cells #[.bool true, .bool true, .bool true, .bool v, .bool nb, .bool false, .bool p, .bool true] 368 (0, 0))) ∧ Hid (Below w.heap.size w w8)) := Lib.hid (fun v' w8 hr hg =>
    ⟨Lib.hid ((hg.block S (by simp; omega) (own_ne E0.out (tag_cells ((((Below.refl _ wa).alloc (Nat.le_refl _) (.cells #[.int .i64 0] 3)).block S hlS0).trans HS.out)) (by decide))).trans ((((Below.refl _ wa).alloc (Nat.le_refl _) (.cells #[.int .i64 0] 3)).block S hlS0).trans HS.out)), Lib.hid ((HBd.out.alloc hlb0 _).grown hg Z0.out (fun j e => (E0.out.lt j e).1))⟩)
  clear HS HBd HR
  go_upto_region 20 with (first | (go_at_call 164; refine (HCell.out _).mono ?_; rintro e w' ⟨rfl, rfl⟩) | (at_builtin; refine wpList_append_own_at _ rfl (.tmp 30) (.tmp 31) 86 rfl w.heap.size 3 ii _ 1 8 Tryz.underlying86 hii hzi hsi hbi rfl (by decide) _ _ _ rfl E0.out ⟨wa.heap.size, 0, none⟩ 1 1 [.int .i64 0] rfl rfl N0.out O0.out M0.out (by decide) Z0.out ?_; intro v0 wb0 hown hgrow _ hnew; obtain ⟨A0, c0, rfl⟩ := own_shape hown; have HR := Lib.hid hown; obtain ⟨HS, HBd⟩ := F0.out _ _ hown hgrow; clear hown hgrow hnew))
  have s1_0 : wb0.cell? ⟨S, 0, none⟩ = some (.bool true) := by simp [World.cell?, HS.out]
  have s1_1 : wb0.cell? ⟨S, 1, none⟩ = some (.bool true) := by simp [World.cell?, HS.out]
  have s1_2 : wb0.cell? ⟨S, 2, none⟩ = some (.bool true) := by simp [World.cell?, HS.out]
  have s1_5 : wb0.cell? ⟨S, 5, none⟩ = some (.bool false) := by simp [World.cell?, HS.out]
  have hlS1 : S < wb0.heap.size := blk_lt2 HS.out
  have hlb1 := HBd.out.size
  have E1 := Lib.hid (HR.out.alloc (.cells #[.int .i64 1] 3))
  have N1 : Hid (∀ (j : Nat) (u : Value), ([.int .i64 1] : List Value)[j]? = some u → (wb0.alloc (.cells #[.int .i64 1] 3)).cell? ((⟨wb0.heap.size, 0, none⟩ : Addr).add j) = some u) := Lib.hid (fun j u hu => by
    rw [Addr.add_lit, Nat.zero_add]
    exact (World.cell?_alloc_at _ _ _ _ rfl).trans (by simpa using hu))
  have O1 : Hid (∀ u ∈ ([.int .i64 1] : List Value), u.oneCell' = true) := Lib.hid (fun u hu => by
    rw [List.mem_singleton] at hu; subst hu; rfl)
  have M1 := Lib.hid (show 1 + 1 ≤ maxLen by decide)
  have Z1 := Lib.hid (show w.heap.size ≤ (wb0.alloc (.cells #[.int .i64 1] 3)).heap.size by simp; omega)
  have F1 : Hid (∀ v' w8, w8.ownsRow w.heap.size 3 1 v' (1 + 1) ([.int .i64 0] ++ [.int .i64 1]) → (wb0.alloc (.cells #[.int .i64 1] 3)).grownBy w8 ((.slice A0 1 c0) : Value).ownBlock → Hid (w8.heap[S]? = some (.cells #[.bool true, .bool true, .bool true, .bool v, .bool nb, .bool false, .bool p, .bool true] 368 (0, 0))) ∧ Hid (Below w.heap.size w w8)) := Lib.hid (fun v' w8 hr hg =>
    ⟨Lib.hid ((hg.block S (by simp; omega) (own_ne E1.out (tag_cells ((((Below.refl _ wb0).alloc (Nat.le_refl _) (.cells #[.int .i64 1] 3)).block S hlS1).trans HS.out)) (by decide))).trans ((((Below.refl _ wb0).alloc (Nat.le_refl _) (.cells #[.int .i64 1] 3)).block S hlS1).trans HS.out)), Lib.hid ((HBd.out.alloc hlb1 _).grown hg Z1.out (fun j e => (E1.out.lt j e).1))⟩)
  clear HS HBd HR
  go_upto_region 24 with (first | (go_at_call 164; refine (HCell.out _).mono ?_; rintro e w' ⟨rfl, rfl⟩) | (at_builtin; refine wpList_append_own_at _ rfl (.tmp 40) (.tmp 41) 86 rfl w.heap.size 3 ii _ 1 8 Tryz.underlying86 hii hzi hsi hbi rfl (by decide) _ _ _ rfl E1.out ⟨wb0.heap.size, 0, none⟩ 1 1 [.int .i64 1] rfl rfl N1.out O1.out M1.out (by decide) Z1.out ?_; intro v1 wb1 hown hgrow _ hnew; obtain ⟨A1, c1, rfl⟩ := own_shape hown; have HR := Lib.hid hown; obtain ⟨HS, HBd⟩ := F1.out _ _ hown hgrow; clear hown hgrow hnew))
  have s2_0 : wb1.cell? ⟨S, 0, none⟩ = some (.bool true) := by simp [World.cell?, HS.out]
  have s2_1 : wb1.cell? ⟨S, 1, none⟩ = some (.bool true) := by simp [World.cell?, HS.out]
  have s2_2 : wb1.cell? ⟨S, 2, none⟩ = some (.bool true) := by simp [World.cell?, HS.out]
  have s2_5 : wb1.cell? ⟨S, 5, none⟩ = some (.bool false) := by simp [World.cell?, HS.out]
  have hlS2 : S < wb1.heap.size := blk_lt2 HS.out
  have hlb2 := HBd.out.size
  have E2 := Lib.hid (HR.out.alloc (.cells #[.int .i64 2] 3))
  have N2 : Hid (∀ (j : Nat) (u : Value), ([.int .i64 2] : List Value)[j]? = some u → (wb1.alloc (.cells #[.int .i64 2] 3)).cell? ((⟨wb1.heap.size, 0, none⟩ : Addr).add j) = some u) := Lib.hid (fun j u hu => by
    rw [Addr.add_lit, Nat.zero_add]
    exact (World.cell?_alloc_at _ _ _ _ rfl).trans (by simpa using hu))
  have O2 : Hid (∀ u ∈ ([.int .i64 2] : List Value), u.oneCell' = true) := Lib.hid (fun u hu => by
    rw [List.mem_singleton] at hu; subst hu; rfl)
  have M2 := Lib.hid (show 2 + 1 ≤ maxLen by decide)
  have Z2 := Lib.hid (show w.heap.size ≤ (wb1.alloc (.cells #[.int .i64 2] 3)).heap.size by simp; omega)
  have F2 : Hid (∀ v' w8, w8.ownsRow w.heap.size 3 1 v' (2 + 1) ([.int .i64 0, .int .i64 1] ++ [.int .i64 2]) → (wb1.alloc (.cells #[.int .i64 2] 3)).grownBy w8 ((.slice A1 2 c1) : Value).ownBlock → Hid (w8.heap[S]? = some (.cells #[.bool true, .bool true, .bool true, .bool v, .bool nb, .bool false, .bool p, .bool true] 368 (0, 0))) ∧ Hid (Below w.heap.size w w8)) := Lib.hid (fun v' w8 hr hg =>
    ⟨Lib.hid ((hg.block S (by simp; omega) (own_ne E2.out (tag_cells ((((Below.refl _ wb1).alloc (Nat.le_refl _) (.cells #[.int .i64 2] 3)).block S hlS2).trans HS.out)) (by decide))).trans ((((Below.refl _ wb1).alloc (Nat.le_refl _) (.cells #[.int .i64 2] 3)).block S hlS2).trans HS.out)), Lib.hid ((HBd.out.alloc hlb2 _).grown hg Z2.out (fun j e => (E2.out.lt j e).1))⟩)
  clear HS HBd HR
  go_wp2_with (first | (go_at_call 164; refine (HCell.out _).mono ?_; rintro e w' ⟨rfl, rfl⟩) | (at_builtin; refine wpList_append_own_at _ rfl (.tmp 50) (.tmp 51) 86 rfl w.heap.size 3 ii _ 1 8 Tryz.underlying86 hii hzi hsi hbi rfl (by decide) _ _ _ rfl E2.out ⟨wb1.heap.size, 0, none⟩ 1 1 [.int .i64 2] rfl rfl N2.out O2.out M2.out (by decide) Z2.out ?_; intro v2 wb2 hown hgrow _ hnew; obtain ⟨A2, c2, rfl⟩ := own_shape hown; have HR := Lib.hid hown; obtain ⟨HS, HBd⟩ := F2.out _ _ hown hgrow; clear hown hgrow hnew))
  go_ret
  exact ⟨_, rfl, HR.out, HBd.out⟩

set_option maxHeartbeats 1000000 in
theorem rgen_ABCn (op : Int) (v nb p : Bool) (h1 : (op == 1) = false) (h2 : (op == 12) = false) (h3 : (op == 15) = false) (h4 : (op == 13) = false) (h5 : (op == 14) = false) (h6 : (op == 22) = false) (h7 : (op == 43) = false) (h8 : (op == 45) = false) (w : World) (hOf : Calls Tryz.prog 163 #[.int .i64 op] w (OfOut w (shapeV true true true v nb true p true))) (hCell : ∀ w, Calls Tryz.prog 164 #[.int .i64 op] w fun e w' => e = .returned (.bool false) ∧ w = w') :
    Calls Tryz.prog 120 #[.int .i64 op] w (RopsOut w [0, 1, 4]) := by
  have HOf := Lib.hid hOf
  have HCell := Lib.hid hCell
  clear hOf hCell
  obtain ⟨ii, hii, hzi, hsi, hbi⟩ := info_parts infoI
  go_enter Tryz.func120, Tryz.ntmps120
  go_wp2_with fail
  refine HOf.out.mono ?_
  rintro e w1 ⟨rfl, hb1⟩
  unfold shapeV
  have hz1 := hb1.size
  have HB1 := Lib.hid hb1
  clear hb1
  obtain ⟨S, hS⟩ : ∃ S, S = w1.heap.size := ⟨_, rfl⟩
  have hS0 : (w1.alloc (.cells #[.bool true, .bool true, .bool true, .bool v, .bool nb, .bool true, .bool p, .bool true] 368)).heap[S]? = some (.cells #[.bool true, .bool true, .bool true, .bool v, .bool nb, .bool true, .bool p, .bool true] 368 (0, 0)) := by rw [hS]; exact heap_alloc_new w1 _
  have hBd : Below w.heap.size w (w1.alloc (.cells #[.bool true, .bool true, .bool true, .bool v, .bool nb, .bool true, .bool p, .bool true] 368)) := HB1.out.alloc hz1 _
  have hR0 : (w1.alloc (.cells #[.bool true, .bool true, .bool true, .bool v, .bool nb, .bool true, .bool p, .bool true] 368)).ownsRow w.heap.size 3 1 (.slice none 0 0) 0 [] := World.ownsRow_nil _ _ _ _
  have HS := Lib.hid hS0
  have HBd := Lib.hid hBd
  have HR := Lib.hid hR0
  go_upto_region 18 with fail
  rw [← hS]
  generalize w1.alloc (.cells #[.bool true, .bool true, .bool true, .bool v, .bool nb, .bool true, .bool p, .bool true] 368) = wa at HS HBd HR ⊢
  clear hS0 hBd hR0 hS HB1 hz1
  have s0_0 : wa.cell? ⟨S, 0, none⟩ = some (.bool true) := by simp [World.cell?, HS.out]
  have s0_1 : wa.cell? ⟨S, 1, none⟩ = some (.bool true) := by simp [World.cell?, HS.out]
  have s0_2 : wa.cell? ⟨S, 2, none⟩ = some (.bool true) := by simp [World.cell?, HS.out]
  have s0_5 : wa.cell? ⟨S, 5, none⟩ = some (.bool true) := by simp [World.cell?, HS.out]
  have hlS0 : S < wa.heap.size := blk_lt2 HS.out
  have hlb0 := HBd.out.size
  have E0 := Lib.hid (HR.out.alloc (.cells #[.int .i64 0] 3))
  have N0 : Hid (∀ (j : Nat) (u : Value), ([.int .i64 0] : List Value)[j]? = some u → (wa.alloc (.cells #[.int .i64 0] 3)).cell? ((⟨wa.heap.size, 0, none⟩ : Addr).add j) = some u) := Lib.hid (fun j u hu => by
    rw [Addr.add_lit, Nat.zero_add]
    exact (World.cell?_alloc_at _ _ _ _ rfl).trans (by simpa using hu))
  have O0 : Hid (∀ u ∈ ([.int .i64 0] : List Value), u.oneCell' = true) := Lib.hid (fun u hu => by
    rw [List.mem_singleton] at hu; subst hu; rfl)
  have M0 := Lib.hid (show 0 + 1 ≤ maxLen by decide)
  have Z0 := Lib.hid (show w.heap.size ≤ (wa.alloc (.cells #[.int .i64 0] 3)).heap.size by simp; omega)
  have F0 : Hid (∀ v' w8, w8.ownsRow w.heap.size 3 1 v' (0 + 1) ([] ++ [.int .i64 0]) → (wa.alloc (.cells #[.int .i64 0] 3)).grownBy w8 ((.slice none 0 0) : Value).ownBlock → Hid (w8.heap[S]? = some (.cells #[.bool true, .bool true, .bool true, .bool v, .bool nb, .bool true, .bool p, .bool true] 368 (0, 0))) ∧ Hid (Below w.heap.size w w8)) := Lib.hid (fun v' w8 hr hg =>
    ⟨Lib.hid ((hg.block S (by simp; omega) (own_ne E0.out (tag_cells ((((Below.refl _ wa).alloc (Nat.le_refl _) (.cells #[.int .i64 0] 3)).block S hlS0).trans HS.out)) (by decide))).trans ((((Below.refl _ wa).alloc (Nat.le_refl _) (.cells #[.int .i64 0] 3)).block S hlS0).trans HS.out)), Lib.hid ((HBd.out.alloc hlb0 _).grown hg Z0.out (fun j e => (E0.out.lt j e).1))⟩)
  clear HS HBd HR
  go_upto_region 20 with (first | (go_at_call 164; refine (HCell.out _).mono ?_; rintro e w' ⟨rfl, rfl⟩) | (at_builtin; refine wpList_append_own_at _ rfl (.tmp 30) (.tmp 31) 86 rfl w.heap.size 3 ii _ 1 8 Tryz.underlying86 hii hzi hsi hbi rfl (by decide) _ _ _ rfl E0.out ⟨wa.heap.size, 0, none⟩ 1 1 [.int .i64 0] rfl rfl N0.out O0.out M0.out (by decide) Z0.out ?_; intro v0 wb0 hown hgrow _ hnew; obtain ⟨A0, c0, rfl⟩ := own_shape hown; have HR := Lib.hid hown; obtain ⟨HS, HBd⟩ := F0.out _ _ hown hgrow; clear hown hgrow hnew))
  have s1_0 : wb0.cell? ⟨S, 0, none⟩ = some (.bool true) := by simp [World.cell?, HS.out]
  have s1_1 : wb0.cell? ⟨S, 1, none⟩ = some (.bool true) := by simp [World.cell?, HS.out]
  have s1_2 : wb0.cell? ⟨S, 2, none⟩ = some (.bool true) := by simp [World.cell?, HS.out]
  have s1_5 : wb0.cell? ⟨S, 5, none⟩ = some (.bool true) := by simp [World.cell?, HS.out]
  have hlS1 : S < wb0.heap.size := blk_lt2 HS.out
  have hlb1 := HBd.out.size
  have E1 := Lib.hid (HR.out.alloc (.cells #[.int .i64 1] 3))
  have N1 : Hid (∀ (j : Nat) (u : Value), ([.int .i64 1] : List Value)[j]? = some u → (wb0.alloc (.cells #[.int .i64 1] 3)).cell? ((⟨wb0.heap.size, 0, none⟩ : Addr).add j) = some u) := Lib.hid (fun j u hu => by
    rw [Addr.add_lit, Nat.zero_add]
    exact (World.cell?_alloc_at _ _ _ _ rfl).trans (by simpa using hu))
  have O1 : Hid (∀ u ∈ ([.int .i64 1] : List Value), u.oneCell' = true) := Lib.hid (fun u hu => by
    rw [List.mem_singleton] at hu; subst hu; rfl)
  have M1 := Lib.hid (show 1 + 1 ≤ maxLen by decide)
  have Z1 := Lib.hid (show w.heap.size ≤ (wb0.alloc (.cells #[.int .i64 1] 3)).heap.size by simp; omega)
  have F1 : Hid (∀ v' w8, w8.ownsRow w.heap.size 3 1 v' (1 + 1) ([.int .i64 0] ++ [.int .i64 1]) → (wb0.alloc (.cells #[.int .i64 1] 3)).grownBy w8 ((.slice A0 1 c0) : Value).ownBlock → Hid (w8.heap[S]? = some (.cells #[.bool true, .bool true, .bool true, .bool v, .bool nb, .bool true, .bool p, .bool true] 368 (0, 0))) ∧ Hid (Below w.heap.size w w8)) := Lib.hid (fun v' w8 hr hg =>
    ⟨Lib.hid ((hg.block S (by simp; omega) (own_ne E1.out (tag_cells ((((Below.refl _ wb0).alloc (Nat.le_refl _) (.cells #[.int .i64 1] 3)).block S hlS1).trans HS.out)) (by decide))).trans ((((Below.refl _ wb0).alloc (Nat.le_refl _) (.cells #[.int .i64 1] 3)).block S hlS1).trans HS.out)), Lib.hid ((HBd.out.alloc hlb1 _).grown hg Z1.out (fun j e => (E1.out.lt j e).1))⟩)
  clear HS HBd HR
  go_upto_region 24 with (first | (go_at_call 164; refine (HCell.out _).mono ?_; rintro e w' ⟨rfl, rfl⟩) | (at_builtin; refine wpList_append_own_at _ rfl (.tmp 40) (.tmp 41) 86 rfl w.heap.size 3 ii _ 1 8 Tryz.underlying86 hii hzi hsi hbi rfl (by decide) _ _ _ rfl E1.out ⟨wb0.heap.size, 0, none⟩ 1 1 [.int .i64 1] rfl rfl N1.out O1.out M1.out (by decide) Z1.out ?_; intro v1 wb1 hown hgrow _ hnew; obtain ⟨A1, c1, rfl⟩ := own_shape hown; have HR := Lib.hid hown; obtain ⟨HS, HBd⟩ := F1.out _ _ hown hgrow; clear hown hgrow hnew))
  have s2_0 : wb1.cell? ⟨S, 0, none⟩ = some (.bool true) := by simp [World.cell?, HS.out]
  have s2_1 : wb1.cell? ⟨S, 1, none⟩ = some (.bool true) := by simp [World.cell?, HS.out]
  have s2_2 : wb1.cell? ⟨S, 2, none⟩ = some (.bool true) := by simp [World.cell?, HS.out]
  have s2_5 : wb1.cell? ⟨S, 5, none⟩ = some (.bool true) := by simp [World.cell?, HS.out]
  have hlS2 : S < wb1.heap.size := blk_lt2 HS.out
  have hlb2 := HBd.out.size
  have E2 := Lib.hid (HR.out.alloc (.cells #[.int .i64 4] 3))
  have N2 : Hid (∀ (j : Nat) (u : Value), ([.int .i64 4] : List Value)[j]? = some u → (wb1.alloc (.cells #[.int .i64 4] 3)).cell? ((⟨wb1.heap.size, 0, none⟩ : Addr).add j) = some u) := Lib.hid (fun j u hu => by
    rw [Addr.add_lit, Nat.zero_add]
    exact (World.cell?_alloc_at _ _ _ _ rfl).trans (by simpa using hu))
  have O2 : Hid (∀ u ∈ ([.int .i64 4] : List Value), u.oneCell' = true) := Lib.hid (fun u hu => by
    rw [List.mem_singleton] at hu; subst hu; rfl)
  have M2 := Lib.hid (show 2 + 1 ≤ maxLen by decide)
  have Z2 := Lib.hid (show w.heap.size ≤ (wb1.alloc (.cells #[.int .i64 4] 3)).heap.size by simp; omega)
  have F2 : Hid (∀ v' w8, w8.ownsRow w.heap.size 3 1 v' (2 + 1) ([.int .i64 0, .int .i64 1] ++ [.int .i64 4]) → (wb1.alloc (.cells #[.int .i64 4] 3)).grownBy w8 ((.slice A1 2 c1) : Value).ownBlock → Hid (w8.heap[S]? = some (.cells #[.bool true, .bool true, .bool true, .bool v, .bool nb, .bool true, .bool p, .bool true] 368 (0, 0))) ∧ Hid (Below w.heap.size w w8)) := Lib.hid (fun v' w8 hr hg =>
    ⟨Lib.hid ((hg.block S (by simp; omega) (own_ne E2.out (tag_cells ((((Below.refl _ wb1).alloc (Nat.le_refl _) (.cells #[.int .i64 4] 3)).block S hlS2).trans HS.out)) (by decide))).trans ((((Below.refl _ wb1).alloc (Nat.le_refl _) (.cells #[.int .i64 4] 3)).block S hlS2).trans HS.out)), Lib.hid ((HBd.out.alloc hlb2 _).grown hg Z2.out (fun j e => (E2.out.lt j e).1))⟩)
  clear HS HBd HR
  go_wp2_with (first | (go_at_call 164; refine (HCell.out _).mono ?_; rintro e w' ⟨rfl, rfl⟩) | (at_builtin; refine wpList_append_own_at _ rfl (.tmp 45) (.tmp 46) 86 rfl w.heap.size 3 ii _ 1 8 Tryz.underlying86 hii hzi hsi hbi rfl (by decide) _ _ _ rfl E2.out ⟨wb1.heap.size, 0, none⟩ 1 1 [.int .i64 4] rfl rfl N2.out O2.out M2.out (by decide) Z2.out ?_; intro v2 wb2 hown hgrow _ hnew; obtain ⟨A2, c2, rfl⟩ := own_shape hown; have HR := Lib.hid hown; obtain ⟨HS, HBd⟩ := F2.out _ _ hown hgrow; clear hown hgrow hnew))
  go_ret
  exact ⟨_, rfl, HR.out, HBd.out⟩

set_option maxHeartbeats 1000000 in
theorem rgen_Ac (op : Int) (v nb p : Bool) (h1 : (op == 1) = false) (h2 : (op == 12) = false) (h3 : (op == 15) = false) (h4 : (op == 13) = false) (h5 : (op == 14) = false) (h6 : (op == 22) = false) (h7 : (op == 43) = false) (h8 : (op == 45) = false) (w : World) (hOf : Calls Tryz.prog 163 #[.int .i64 op] w (OfOut w (shapeV true true false v nb false p true))) (hCell : ∀ w, Calls Tryz.prog 164 #[.int .i64 op] w fun e w' => e = .returned (.bool true) ∧ w = w') :
    Calls Tryz.prog 120 #[.int .i64 op] w (RopsOut w [0, 5]) := by
  have HOf := Lib.hid hOf
  have HCell := Lib.hid hCell
  clear hOf hCell
  obtain ⟨ii, hii, hzi, hsi, hbi⟩ := info_parts infoI
  go_enter Tryz.func120, Tryz.ntmps120
  go_wp2_with fail
  refine HOf.out.mono ?_
  rintro e w1 ⟨rfl, hb1⟩
  unfold shapeV
  have hz1 := hb1.size
  have HB1 := Lib.hid hb1
  clear hb1
  obtain ⟨S, hS⟩ : ∃ S, S = w1.heap.size := ⟨_, rfl⟩
  have hS0 : (w1.alloc (.cells #[.bool true, .bool true, .bool false, .bool v, .bool nb, .bool false, .bool p, .bool true] 368)).heap[S]? = some (.cells #[.bool true, .bool true, .bool false, .bool v, .bool nb, .bool false, .bool p, .bool true] 368 (0, 0)) := by rw [hS]; exact heap_alloc_new w1 _
  have hBd : Below w.heap.size w (w1.alloc (.cells #[.bool true, .bool true, .bool false, .bool v, .bool nb, .bool false, .bool p, .bool true] 368)) := HB1.out.alloc hz1 _
  have hR0 : (w1.alloc (.cells #[.bool true, .bool true, .bool false, .bool v, .bool nb, .bool false, .bool p, .bool true] 368)).ownsRow w.heap.size 3 1 (.slice none 0 0) 0 [] := World.ownsRow_nil _ _ _ _
  have HS := Lib.hid hS0
  have HBd := Lib.hid hBd
  have HR := Lib.hid hR0
  go_upto_region 18 with fail
  rw [← hS]
  generalize w1.alloc (.cells #[.bool true, .bool true, .bool false, .bool v, .bool nb, .bool false, .bool p, .bool true] 368) = wa at HS HBd HR ⊢
  clear hS0 hBd hR0 hS HB1 hz1
  have s0_0 : wa.cell? ⟨S, 0, none⟩ = some (.bool true) := by simp [World.cell?, HS.out]
  have s0_1 : wa.cell? ⟨S, 1, none⟩ = some (.bool true) := by simp [World.cell?, HS.out]
  have s0_2 : wa.cell? ⟨S, 2, none⟩ = some (.bool false) := by simp [World.cell?, HS.out]
  have s0_5 : wa.cell? ⟨S, 5, none⟩ = some (.bool false) := by simp [World.cell?, HS.out]
  have hlS0 : S < wa.heap.size := blk_lt2 HS.out
  have hlb0 := HBd.out.size
  have E0 := Lib.hid (HR.out.alloc (.cells #[.int .i64 0] 3))
  have N0 : Hid (∀ (j : Nat) (u : Value), ([.int .i64 0] : List Value)[j]? = some u → (wa.alloc (.cells #[.int .i64 0] 3)).cell? ((⟨wa.heap.size, 0, none⟩ : Addr).add j) = some u) := Lib.hid (fun j u hu => by
    rw [Addr.add_lit, Nat.zero_add]
    exact (World.cell?_alloc_at _ _ _ _ rfl).trans (by simpa using hu))
  have O0 : Hid (∀ u ∈ ([.int .i64 0] : List Value), u.oneCell' = true) := Lib.hid (fun u hu => by
    rw [List.mem_singleton] at hu; subst hu; rfl)
  have M0 := Lib.hid (show 0 + 1 ≤ maxLen by decide)
  have Z0 := Lib.hid (show w.heap.size ≤ (wa.alloc (.cells #[.int .i64 0] 3)).heap.size by simp; omega)
  have F0 : Hid (∀ v' w8, w8.ownsRow w.heap.size 3 1 v' (0 + 1) ([] ++ [.int .i64 0]) → (wa.alloc (.cells #[.int .i64 0] 3)).grownBy w8 ((.slice none 0 0) : Value).ownBlock → Hid (w8.heap[S]? = some (.cells #[.bool true, .bool true, .bool false, .bool v, .bool nb, .bool false, .bool p, .bool true] 368 (0, 0))) ∧ Hid (Below w.heap.size w w8)) := Lib.hid (fun v' w8 hr hg =>
    ⟨Lib.hid ((hg.block S (by simp; omega) (own_ne E0.out (tag_cells ((((Below.refl _ wa).alloc (Nat.le_refl _) (.cells #[.int .i64 0] 3)).block S hlS0).trans HS.out)) (by decide))).trans ((((Below.refl _ wa).alloc (Nat.le_refl _) (.cells #[.int .i64 0] 3)).block S hlS0).trans HS.out)), Lib.hid ((HBd.out.alloc hlb0 _).grown hg Z0.out (fun j e => (E0.out.lt j e).1))⟩)
  clear HS HBd HR
  go_upto_region 20 with (first | (go_at_call 164; refine (HCell.out _).mono ?_; rintro e w' ⟨rfl, rfl⟩) | (at_builtin; refine wpList_append_own_at _ rfl (.tmp 30) (.tmp 31) 86 rfl w.heap.size 3 ii _ 1 8 Tryz.underlying86 hii hzi hsi hbi rfl (by decide) _ _ _ rfl E0.out ⟨wa.heap.size, 0, none⟩ 1 1 [.int .i64 0] rfl rfl N0.out O0.out M0.out (by decide) Z0.out ?_; intro v0 wb0 hown hgrow _ hnew; obtain ⟨A0, c0, rfl⟩ := own_shape hown; have HR := Lib.hid hown; obtain ⟨HS, HBd⟩ := F0.out _ _ hown hgrow; clear hown hgrow hnew))
  have s1_0 : wb0.cell? ⟨S, 0, none⟩ = some (.bool true) := by simp [World.cell?, HS.out]
  have s1_1 : wb0.cell? ⟨S, 1, none⟩ = some (.bool true) := by simp [World.cell?, HS.out]
  have s1_2 : wb0.cell? ⟨S, 2, none⟩ = some (.bool false) := by simp [World.cell?, HS.out]
  have s1_5 : wb0.cell? ⟨S, 5, none⟩ = some (.bool false) := by simp [World.cell?, HS.out]
  have hlS1 : S < wb0.heap.size := blk_lt2 HS.out
  have hlb1 := HBd.out.size
  have E1 := Lib.hid (HR.out.alloc (.cells #[.int .i64 5] 3))
  have N1 : Hid (∀ (j : Nat) (u : Value), ([.int .i64 5] : List Value)[j]? = some u → (wb0.alloc (.cells #[.int .i64 5] 3)).cell? ((⟨wb0.heap.size, 0, none⟩ : Addr).add j) = some u) := Lib.hid (fun j u hu => by
    rw [Addr.add_lit, Nat.zero_add]
    exact (World.cell?_alloc_at _ _ _ _ rfl).trans (by simpa using hu))
  have O1 : Hid (∀ u ∈ ([.int .i64 5] : List Value), u.oneCell' = true) := Lib.hid (fun u hu => by
    rw [List.mem_singleton] at hu; subst hu; rfl)
  have M1 := Lib.hid (show 1 + 1 ≤ maxLen by decide)
  have Z1 := Lib.hid (show w.heap.size ≤ (wb0.alloc (.cells #[.int .i64 5] 3)).heap.size by simp; omega)
  have F1 : Hid (∀ v' w8, w8.ownsRow w.heap.size 3 1 v' (1 + 1) ([.int .i64 0] ++ [.int .i64 5]) → (wb0.alloc (.cells #[.int .i64 5] 3)).grownBy w8 ((.slice A0 1 c0) : Value).ownBlock → Hid (w8.heap[S]? = some (.cells #[.bool true, .bool true, .bool false, .bool v, .bool nb, .bool false, .bool p, .bool true] 368 (0, 0))) ∧ Hid (Below w.heap.size w w8)) := Lib.hid (fun v' w8 hr hg =>
    ⟨Lib.hid ((hg.block S (by simp; omega) (own_ne E1.out (tag_cells ((((Below.refl _ wb0).alloc (Nat.le_refl _) (.cells #[.int .i64 5] 3)).block S hlS1).trans HS.out)) (by decide))).trans ((((Below.refl _ wb0).alloc (Nat.le_refl _) (.cells #[.int .i64 5] 3)).block S hlS1).trans HS.out)), Lib.hid ((HBd.out.alloc hlb1 _).grown hg Z1.out (fun j e => (E1.out.lt j e).1))⟩)
  clear HS HBd HR
  go_upto_region 24 with (first | (go_at_call 164; refine (HCell.out _).mono ?_; rintro e w' ⟨rfl, rfl⟩) | (at_builtin; refine wpList_append_own_at _ rfl (.tmp 35) (.tmp 36) 86 rfl w.heap.size 3 ii _ 1 8 Tryz.underlying86 hii hzi hsi hbi rfl (by decide) _ _ _ rfl E1.out ⟨wb0.heap.size, 0, none⟩ 1 1 [.int .i64 5] rfl rfl N1.out O1.out M1.out (by decide) Z1.out ?_; intro v1 wb1 hown hgrow _ hnew; obtain ⟨A1, c1, rfl⟩ := own_shape hown; have HR := Lib.hid hown; obtain ⟨HS, HBd⟩ := F1.out _ _ hown hgrow; clear hown hgrow hnew))
  have s2_0 : wb1.cell? ⟨S, 0, none⟩ = some (.bool true) := by simp [World.cell?, HS.out]
  have s2_1 : wb1.cell? ⟨S, 1, none⟩ = some (.bool true) := by simp [World.cell?, HS.out]
  have s2_2 : wb1.cell? ⟨S, 2, none⟩ = some (.bool false) := by simp [World.cell?, HS.out]
  have s2_5 : wb1.cell? ⟨S, 5, none⟩ = some (.bool false) := by simp [World.cell?, HS.out]
  go_wp2_with (go_at_call 164; refine (HCell.out _).mono ?_; rintro e w' ⟨rfl, rfl⟩)
  go_ret
  exact ⟨_, rfl, HR.out, HBd.out⟩

set_option maxHeartbeats 1000000 in
theorem rgen_AcC (op : Int) (v nb p : Bool) (h1 : (op == 1) = false) (h2 : (op == 12) = false) (h3 : (op == 15) = false) (h4 : (op == 13) = false) (h5 : (op == 14) = false) (h6 : (op == 22) = false) (h7 : (op == 43) = false) (h8 : (op == 45) = false) (w : World) (hOf : Calls Tryz.prog 163 #[.int .i64 op] w (OfOut w (shapeV true true true v nb false p true))) (hCell : ∀ w, Calls Tryz.prog 164 #[.int .i64 op] w fun e w' => e = .returned (.bool true) ∧ w = w') :
    Calls Tryz.prog 120 #[.int .i64 op] w (RopsOut w [0, 5, 2]) := by
  have HOf := Lib.hid hOf
  have HCell := Lib.hid hCell
  clear hOf hCell
  obtain ⟨ii, hii, hzi, hsi, hbi⟩ := info_parts infoI
  go_enter Tryz.func120, Tryz.ntmps120
  go_wp2_with fail
  refine HOf.out.mono ?_
  rintro e w1 ⟨rfl, hb1⟩
  unfold shapeV
  have hz1 := hb1.size
  have HB1 := Lib.hid hb1
  clear hb1
  obtain ⟨S, hS⟩ : ∃ S, S = w1.heap.size := ⟨_, rfl⟩
  have hS0 : (w1.alloc (.cells #[.bool true, .bool true, .bool true, .bool v, .bool nb, .bool false, .bool p, .bool true] 368)).heap[S]? = some (.cells #[.bool true, .bool true, .bool true, .bool v, .bool nb, .bool false, .bool p, .bool true] 368 (0, 0)) := by rw [hS]; exact heap_alloc_new w1 _
  have hBd : Below w.heap.size w (w1.alloc (.cells #[.bool true, .bool true, .bool true, .bool v, .bool nb, .bool false, .bool p, .bool true] 368)) := HB1.out.alloc hz1 _
  have hR0 : (w1.alloc (.cells #[.bool true, .bool true, .bool true, .bool v, .bool nb, .bool false, .bool p, .bool true] 368)).ownsRow w.heap.size 3 1 (.slice none 0 0) 0 [] := World.ownsRow_nil _ _ _ _
  have HS := Lib.hid hS0
  have HBd := Lib.hid hBd
  have HR := Lib.hid hR0
  go_upto_region 18 with fail
  rw [← hS]
  generalize w1.alloc (.cells #[.bool true, .bool true, .bool true, .bool v, .bool nb, .bool false, .bool p, .bool true] 368) = wa at HS HBd HR ⊢
  clear hS0 hBd hR0 hS HB1 hz1
  have s0_0 : wa.cell? ⟨S, 0, none⟩ = some (.bool true) := by simp [World.cell?, HS.out]
  have s0_1 : wa.cell? ⟨S, 1, none⟩ = some (.bool true) := by simp [World.cell?, HS.out]
  have s0_2 : wa.cell? ⟨S, 2, none⟩ = some (.bool true) := by simp [World.cell?, HS.out]
  have s0_5 : wa.cell? ⟨S, 5, none⟩ = some (.bool false) := by simp [World.cell?, HS.out]
  have hlS0 : S < wa.heap.size := blk_lt2 HS.out
  have hlb0 := HBd.out.size
  have E0 := Lib.hid (HR.out.alloc (.cells #[.int .i64 0] 3))
  have N0 : Hid (∀ (j : Nat) (u : Value), ([.int .i64 0] : List Value)[j]? = some u → (wa.alloc (.cells #[.int .i64 0] 3)).cell? ((⟨wa.heap.size, 0, none⟩ : Addr).add j) = some u) := Lib.hid (fun j u hu => by
    rw [Addr.add_lit, Nat.zero_add]
    exact (World.cell?_alloc_at _ _ _ _ rfl).trans (by simpa using hu))
  have O0 : Hid (∀ u ∈ ([.int .i64 0] : List Value), u.oneCell' = true) := Lib.hid (fun u hu => by
    rw [List.mem_singleton] at hu; subst hu; rfl)
  have M0 := Lib.hid (show 0 + 1 ≤ maxLen by decide)
  have Z0 := Lib.hid (show w.heap.size ≤ (wa.alloc (.cells #[.int .i64 0] 3)).heap.size by simp; omega)
  have F0 : Hid (∀ v' w8, w8.ownsRow w.heap.size 3 1 v' (0 + 1) ([] ++ [.int .i64 0]) → (wa.alloc (.cells #[.int .i64 0] 3)).grownBy w8 ((.slice none 0 0) : Value).ownBlock → Hid (w8.heap[S]? = some (.cells #[.bool true, .bool true, .bool true, .bool v, .bool nb, .bool false, .bool p, .bool true] 368 (0, 0))) ∧ Hid (Below w.heap.size w w8)) := Lib.hid (fun v' w8 hr hg =>
    ⟨Lib.hid ((hg.block S (by simp; omega) (own_ne E0.out (tag_cells ((((Below.refl _ wa).alloc (Nat.le_refl _) (.cells #[.int .i64 0] 3)).block S hlS0).trans HS.out)) (by decide))).trans ((((Below.refl _ wa).alloc (Nat.le_refl _) (.cells #[.int .i64 0] 3)).block S hlS0).trans HS.out)), Lib.hid ((HBd.out.alloc hlb0 _).grown hg Z0.out (fun j e => (E0.out.lt j e).1))⟩)
  clear HS HBd HR
  go_upto_region 20 with (first | (go_at_call 164; refine (HCell.out _).mono ?_; rintro e w' ⟨rfl, rfl⟩) | (at_builtin; refine wpList_append_own_at _ rfl (.tmp 30) (.tmp 31) 86 rfl w.heap.size 3 ii _ 1 8 Tryz.underlying86 hii hzi hsi hbi rfl (by decide) _ _ _ rfl E0.out ⟨wa.heap.size, 0, none⟩ 1 1 [.int .i64 0] rfl rfl N0.out O0.out M0.out (by decide) Z0.out ?_; intro v0 wb0 hown hgrow _ hnew; obtain ⟨A0, c0, rfl⟩ := own_shape hown; have HR := Lib.hid hown; obtain ⟨HS, HBd⟩ := F0.out _ _ hown hgrow; clear hown hgrow hnew))
  have s1_0 : wb0.cell? ⟨S, 0, none⟩ = some (.bool true) := by simp [World.cell?, HS.out]
  have s1_1 : wb0.cell? ⟨S, 1, none⟩ = some (.bool true) := by simp [World.cell?, HS.out]
  have s1_2 : wb0.cell? ⟨S, 2, none⟩ = some (.bool true) := by simp [World.cell?, HS.out]
  have s1_5 : wb0.cell? ⟨S, 5, none⟩ = some (.bool false) := by simp [World.cell?, HS.out]
  have hlS1 : S < wb0.heap.size := blk_lt2 HS.out
  have hlb1 := HBd.out.size
  have E1 := Lib.hid (HR.out.alloc (.cells #[.int .i64 5] 3))
  have N1 : Hid (∀ (j : Nat) (u : Value), ([.int .i64 5] : List Value)[j]? = some u → (wb0.alloc (.cells #[.int .i64 5] 3)).cell? ((⟨wb0.heap.size, 0, none⟩ : Addr).add j) = some u) := Lib.hid (fun j u hu => by
    rw [Addr.add_lit, Nat.zero_add]
    exact (World.cell?_alloc_at _ _ _ _ rfl).trans (by simpa using hu))
  have O1 : Hid (∀ u ∈ ([.int .i64 5] : List Value), u.oneCell' = true) := Lib.hid (fun u hu => by
    rw [List.mem_singleton] at hu; subst hu; rfl)
  have M1 := Lib.hid (show 1 + 1 ≤ maxLen by decide)
  have Z1 := Lib.hid (show w.heap.size ≤ (wb0.alloc (.cells #[.int .i64 5] 3)).heap.size by simp; omega)
  have F1 : Hid (∀ v' w8, w8.ownsRow w.heap.size 3 1 v' (1 + 1) ([.int .i64 0] ++ [.int .i64 5]) → (wb0.alloc (.cells #[.int .i64 5] 3)).grownBy w8 ((.slice A0 1 c0) : Value).ownBlock → Hid (w8.heap[S]? = some (.cells #[.bool true, .bool true, .bool true, .bool v, .bool nb, .bool false, .bool p, .bool true] 368 (0, 0))) ∧ Hid (Below w.heap.size w w8)) := Lib.hid (fun v' w8 hr hg =>
    ⟨Lib.hid ((hg.block S (by simp; omega) (own_ne E1.out (tag_cells ((((Below.refl _ wb0).alloc (Nat.le_refl _) (.cells #[.int .i64 5] 3)).block S hlS1).trans HS.out)) (by decide))).trans ((((Below.refl _ wb0).alloc (Nat.le_refl _) (.cells #[.int .i64 5] 3)).block S hlS1).trans HS.out)), Lib.hid ((HBd.out.alloc hlb1 _).grown hg Z1.out (fun j e => (E1.out.lt j e).1))⟩)
  clear HS HBd HR
  go_upto_region 24 with (first | (go_at_call 164; refine (HCell.out _).mono ?_; rintro e w' ⟨rfl, rfl⟩) | (at_builtin; refine wpList_append_own_at _ rfl (.tmp 35) (.tmp 36) 86 rfl w.heap.size 3 ii _ 1 8 Tryz.underlying86 hii hzi hsi hbi rfl (by decide) _ _ _ rfl E1.out ⟨wb0.heap.size, 0, none⟩ 1 1 [.int .i64 5] rfl rfl N1.out O1.out M1.out (by decide) Z1.out ?_; intro v1 wb1 hown hgrow _ hnew; obtain ⟨A1, c1, rfl⟩ := own_shape hown; have HR := Lib.hid hown; obtain ⟨HS, HBd⟩ := F1.out _ _ hown hgrow; clear hown hgrow hnew))
  have s2_0 : wb1.cell? ⟨S, 0, none⟩ = some (.bool true) := by simp [World.cell?, HS.out]
  have s2_1 : wb1.cell? ⟨S, 1, none⟩ = some (.bool true) := by simp [World.cell?, HS.out]
  have s2_2 : wb1.cell? ⟨S, 2, none⟩ = some (.bool true) := by simp [World.cell?, HS.out]
  have s2_5 : wb1.cell? ⟨S, 5, none⟩ = some (.bool false) := by simp [World.cell?, HS.out]
  have hlS2 : S < wb1.heap.size := blk_lt2 HS.out
  have hlb2 := HBd.out.size
  have E2 := Lib.hid (HR.out.alloc (.cells #[.int .i64 2] 3))
  have N2 : Hid (∀ (j : Nat) (u : Value), ([.int .i64 2] : List Value)[j]? = some u → (wb1.alloc (.cells #[.int .i64 2] 3)).cell? ((⟨wb1.heap.size, 0, none⟩ : Addr).add j) = some u) := Lib.hid (fun j u hu => by
    rw [Addr.add_lit, Nat.zero_add]
    exact (World.cell?_alloc_at _ _ _ _ rfl).trans (by simpa using hu))
  have O2 : Hid (∀ u ∈ ([.int .i64 2] : List Value), u.oneCell' = true) := Lib.hid (fun u hu => by
    rw [List.mem_singleton] at hu; subst hu; rfl)
  have M2 := Lib.hid (show 2 + 1 ≤ maxLen by decide)
  have Z2 := Lib.hid (show w.heap.size ≤ (wb1.alloc (.cells #[.int .i64 2] 3)).heap.size by simp; omega)
  have F2 : Hid (∀ v' w8, w8.ownsRow w.heap.size 3 1 v' (2 + 1) ([.int .i64 0, .int .i64 5] ++ [.int .i64 2]) → (wb1.alloc (.cells #[.int .i64 2] 3)).grownBy w8 ((.slice A1 2 c1) : Value).ownBlock → Hid (w8.heap[S]? = some (.cells #[.bool true, .bool true, .bool true, .bool v, .bool nb, .bool false, .bool p, .bool true] 368 (0, 0))) ∧ Hid (Below w.heap.size w w8)) := Lib.hid (fun v' w8 hr hg =>
    ⟨Lib.hid ((hg.block S (by simp; omega) (own_ne E2.out (tag_cells ((((Below.refl _ wb1).alloc (Nat.le_refl _) (.cells #[.int .i64 2] 3)).block S hlS2).trans HS.out)) (by decide))).trans ((((Below.refl _ wb1).alloc (Nat.le_refl _) (.cells #[.int .i64 2] 3)).block S hlS2).trans HS.out)), Lib.hid ((HBd.out.alloc hlb2 _).grown hg Z2.out (fun j e => (E2.out.lt j e).1))⟩)
  clear HS HBd HR
  go_wp2_with (first | (go_at_call 164; refine (HCell.out _).mono ?_; rintro e w' ⟨rfl, rfl⟩) | (at_builtin; refine wpList_append_own_at _ rfl (.tmp 50) (.tmp 51) 86 rfl w.heap.size 3 ii _ 1 8 Tryz.underlying86 hii hzi hsi hbi rfl (by decide) _ _ _ rfl E2.out ⟨wb1.heap.size, 0, none⟩ 1 1 [.int .i64 2] rfl rfl N2.out O2.out M2.out (by decide) Z2.out ?_; intro v2 wb2 hown hgrow _ hnew; obtain ⟨A2, c2, rfl⟩ := own_shape hown; have HR := Lib.hid hown; obtain ⟨HS, HBd⟩ := F2.out _ _ hown hgrow; clear hown hgrow hnew))
  go_ret
  exact ⟨_, rfl, HR.out, HBd.out⟩

theorem rops_any (op : Int) (h1 : 1 ≤ op) (h2 : op ≤ 58) (w : World) : Calls Tryz.prog 120 #[.int .i64 op] w (RopsOut w ((kindsL op).map rkind)) := by
  obtain rfl | rfl | rfl | rfl | rfl | rfl | rfl | rfl | rfl | rfl | rfl | rfl | rfl | rfl | rfl | rfl | rfl | rfl | rfl | rfl | rfl | rfl | rfl | rfl | rfl | rfl | rfl | rfl | rfl | rfl | rfl | rfl | rfl | rfl | rfl | rfl | rfl | rfl | rfl | rfl | rfl | rfl | rfl | rfl | rfl | rfl | rfl | rfl | rfl | rfl | rfl | rfl | rfl | rfl | rfl | rfl | rfl | rfl : op = 1 ∨ op = 2 ∨ op = 3 ∨ op = 4 ∨ op = 5 ∨ op = 6 ∨ op = 7 ∨ op = 8 ∨ op = 9 ∨ op = 10 ∨ op = 11 ∨ op = 12 ∨ op = 13 ∨ op = 14 ∨ op = 15 ∨ op = 16 ∨ op = 17 ∨ op = 18 ∨ op = 19 ∨ op = 20 ∨ op = 21 ∨ op = 22 ∨ op = 23 ∨ op = 24 ∨ op = 25 ∨ op = 26 ∨ op = 27 ∨ op = 28 ∨ op = 29 ∨ op = 30 ∨ op = 31 ∨ op = 32 ∨ op = 33 ∨ op = 34 ∨ op = 35 ∨ op = 36 ∨ op = 37 ∨ op = 38 ∨ op = 39 ∨ op = 40 ∨ op = 41 ∨ op = 42 ∨ op = 43 ∨ op = 44 ∨ op = 45 ∨ op = 46 ∨ op = 47 ∨ op = 48 ∨ op = 49 ∨ op = 50 ∨ op = 51 ∨ op = 52 ∨ op = 53 ∨ op = 54 ∨ op = 55 ∨ op = 56 ∨ op = 57 ∨ op = 58 := by omega

  · exact rops_1 w

  · exact rgen_AB 2 false false false rfl rfl rfl rfl rfl rfl rfl rfl w (of_2 w) isCell_2

  · exact rgen_ABCn 3 true false false rfl rfl rfl rfl rfl rfl rfl rfl w (of_3 w) isCell_3

  · exact rgen_ABCn 4 true false false rfl rfl rfl rfl rfl rfl rfl rfl w (of_4 w) isCell_4

  · exact rgen_ABCn 5 true false false rfl rfl rfl rfl rfl rfl rfl rfl w (of_5 w) isCell_5

  · exact rgen_ABCn 6 true false false rfl rfl rfl rfl rfl rfl rfl rfl w (of_6 w) isCell_6

  · exact rgen_ABCn 7 true false false rfl rfl rfl rfl rfl rfl rfl rfl w (of_7 w) isCell_7

  · exact rgen_ABCn 8 true false false rfl rfl rfl rfl rfl rfl rfl rfl w (of_8 w) isCell_8

  · exact rgen_ABCn 9 true false false rfl rfl rfl rfl rfl rfl rfl rfl w (of_9 w) isCell_9

  · exact rgen_ABCn 10 true false false rfl rfl rfl rfl rfl rfl rfl rfl w (of_10 w) isCell_10

  · exact rgen_ABCn 11 true false false rfl rfl rfl rfl rfl rfl rfl rfl w (of_11 w) isCell_11

  · exact rops_12 w

  · exact rops_13 w

  · exact rops_14 w

  · exact rops_15 w

  · exact rgen_0 16 false false false rfl rfl rfl rfl rfl rfl rfl rfl w (of_16 w) isCell_16

  · exact rgen_Ac 17 true true false rfl rfl rfl rfl rfl rfl rfl rfl w (of_17 w) isCell_17

  · exact rgen_Ac 18 true true false rfl rfl rfl rfl rfl rfl rfl rfl w (of_18 w) isCell_18

  · exact rgen_Ac 19 true true false rfl rfl rfl rfl rfl rfl rfl rfl w (of_19 w) isCell_19

  · exact rgen_Ac 20 true true false rfl rfl rfl rfl rfl rfl rfl rfl w (of_20 w) isCell_20

  · exact rgen_AcC 21 true true false rfl rfl rfl rfl rfl rfl rfl rfl w (of_21 w) isCell_21

  · exact rops_22 w

  · exact rgen_AB 23 false false false rfl rfl rfl rfl rfl rfl rfl rfl w (of_23 w) isCell_23

  · exact rgen_ABC 24 false false false rfl rfl rfl rfl rfl rfl rfl rfl w (of_24 w) isCell_24

  · exact rgen_ABC 25 false false false rfl rfl rfl rfl rfl rfl rfl rfl w (of_25 w) isCell_25

  · exact rgen_ABC 26 false false false rfl rfl rfl rfl rfl rfl rfl rfl w (of_26 w) isCell_26

  · exact rgen_ABC 27 false false false rfl rfl rfl rfl rfl rfl rfl rfl w (of_27 w) isCell_27

  · exact rgen_A 28 false false false rfl rfl rfl rfl rfl rfl rfl rfl w (of_28 w) isCell_28

  · exact rgen_A 29 false false false rfl rfl rfl rfl rfl rfl rfl rfl w (of_29 w) isCell_29

  · exact rgen_A 30 false false false rfl rfl rfl rfl rfl rfl rfl rfl w (of_30 w) isCell_30

  · exact rgen_Ac 31 true true false rfl rfl rfl rfl rfl rfl rfl rfl w (of_31 w) isCell_31

  · exact rgen_AcC 32 true true false rfl rfl rfl rfl rfl rfl rfl rfl w (of_32 w) isCell_32

  · exact rgen_0 33 false false false rfl rfl rfl rfl rfl rfl rfl rfl w (of_33 w) isCell_33

  · exact rgen_A 34 false false false rfl rfl rfl rfl rfl rfl rfl rfl w (of_34 w) isCell_34

  · exact rgen_A 35 false false false rfl rfl rfl rfl rfl rfl rfl rfl w (of_35 w) isCell_35

  · exact rgen_A 36 false false false rfl rfl rfl rfl rfl rfl rfl rfl w (of_36 w) isCell_36

  · exact rgen_A 37 false false false rfl rfl rfl rfl rfl rfl rfl rfl w (of_37 w) isCell_37

  · exact rgen_A 38 false false false rfl rfl rfl rfl rfl rfl rfl rfl w (of_38 w) isCell_38

  · exact rgen_AB 39 false false false rfl rfl rfl rfl rfl rfl rfl rfl w (of_39 w) isCell_39

  · exact rgen_A 40 false false false rfl rfl rfl rfl rfl rfl rfl rfl w (of_40 w) isCell_40

  · exact rgen_A 41 false false false rfl rfl rfl rfl rfl rfl rfl rfl w (of_41 w) isCell_41

  · exact rgen_A 42 false false false rfl rfl rfl rfl rfl rfl rfl rfl w (of_42 w) isCell_42

  · exact rops_43 w

  · exact rgen_A 44 false false false rfl rfl rfl rfl rfl rfl rfl rfl w (of_44 w) isCell_44

  · exact rops_45 w

  · exact rgen_A 46 false false false rfl rfl rfl rfl rfl rfl rfl rfl w (of_46 w) isCell_46

  · exact rgen_AB 47 false false false rfl rfl rfl rfl rfl rfl rfl rfl w (of_47 w) isCell_47

  · exact rgen_ABC 48 false false false rfl rfl rfl rfl rfl rfl rfl rfl w (of_48 w) isCell_48

  · exact rgen_AB 49 false false false rfl rfl rfl rfl rfl rfl rfl rfl w (of_49 w) isCell_49

  · exact rgen_AB 50 false false false rfl rfl rfl rfl rfl rfl rfl rfl w (of_50 w) isCell_50

  · exact rgen_A 51 false false false rfl rfl rfl rfl rfl rfl rfl rfl w (of_51 w) isCell_51

  · exact rgen_A 52 false false false rfl rfl rfl rfl rfl rfl rfl rfl w (of_52 w) isCell_52

  · exact rgen_A 53 false false false rfl rfl rfl rfl rfl rfl rfl rfl w (of_53 w) isCell_53

  · exact rgen_AB 54 false false false rfl rfl rfl rfl rfl rfl rfl rfl w (of_54 w) isCell_54

  · exact rgen_0 55 false false false rfl rfl rfl rfl rfl rfl rfl rfl w (of_55 w) isCell_55

  · exact rgen_0 56 false false false rfl rfl rfl rfl rfl rfl rfl rfl w (of_56 w) isCell_56

  · exact rgen_A 57 false false false rfl rfl rfl rfl rfl rfl rfl rfl w (of_57 w) isCell_57

  · exact rgen_0 58 false false false rfl rfl rfl rfl rfl rfl rfl rfl w (of_58 w) isCell_58

end Go.Proofs.YtlpkafhboomjkaaGreatDoor.Asm
