/- What is left of the things put in, those that are gone left out. -/
import Derived.Test.YtphblfgafljelaaHpBuild
namespace Go.Proofs.Ytphblfgafljelaa.Hp

def left (D : Nat → Int) (n : Nat) (gone : Nat → Bool) : List Thing := (build D n).filter fun x => !gone x.w.toNat
theorem left_none (D : Nat → Int) (n : Nat) : left D n (fun _ => false) = build D n := by
  unfold left; rw [List.filter_eq_self]; intro x _; rfl
theorem left_mem {D : Nat → Int} {n : Nat} {gone : Nat → Bool} {x : Thing} : x ∈ left D n gone ↔ ∃ j, j < n ∧ gone j = false ∧ x = th D j := by
  unfold left
  rw [List.mem_filter, build_mem]
  constructor
  · rintro ⟨⟨j, hj, rfl⟩, h⟩
    exact ⟨j, hj, by simpa [th] using h, rfl⟩
  · rintro ⟨j, hj, h, rfl⟩
    exact ⟨⟨j, hj, rfl⟩, by simpa [th] using h⟩
theorem left_apart (D : Nat → Int) (n : Nat) (gone : Nat → Bool) : Apart (left D n gone) := List.Nodup.sublist (List.filter_sublist.map _) (build_apart D n)
theorem left_length (D : Nat → Int) (n : Nat) (gone : Nat → Bool) : (left D n gone).length ≤ n := by
  have := List.length_filter_le (fun x : Thing => !gone x.w.toNat) (build D n)
  rw [build_length] at this
  exact this
def setG (gone : Nat → Bool) (j : Nat) : Nat → Bool := fun x => if x = j then true else gone x
theorem without_left {D : Nat → Int} {n : Nat} {gone : Nat → Bool} (j : Nat) : without ((j : Int) + 1) (left D n gone) = left D n (setG gone j) := by
  unfold without left
  rw [List.filter_filter]
  refine List.filter_congr fun x hx => ?_
  obtain ⟨i, hi, rfl⟩ := build_mem.1 hx
  by_cases e : i = j
  · subst e; simp [th, setG]
  · have h1 : ((i : Int) + 1 != (j : Int) + 1) = true := by simp; omega
    simp [th, setG, e]
    intro _
    omega
theorem ofH_left {D : Nat → Int} {n : Nat} {gone : Nat → Bool} {j : Nat} (hj : j < n) (hg : gone j = false) : ofH ((j : Int) + 1) (left D n gone) = some (th D j) :=
  ofH_some (left_apart D n gone) (left_mem.2 ⟨j, hj, hg, rfl⟩) rfl
theorem ofH_left_none {D : Nat → Int} {n : Nat} {gone : Nat → Bool} {k : Int} (h : ∀ j, j < n → (k = (j : Int) + 1) → gone j = true) : ofH k (left D n gone) = none := by
  refine ofH_none fun x hx => ?_
  obtain ⟨j, hj, hg, rfl⟩ := left_mem.1 hx
  intro e
  have := h j hj e.symm
  rw [hg] at this
  cases this
theorem left_all {D : Nat → Int} {n : Nat} {gone : Nat → Bool} (h : left D n gone = []) {j : Nat} (hj : j < n) : gone j = true := by
  cases hg : gone j with
  | true => rfl
  | false =>
    have : th D j ∈ left D n gone := left_mem.2 ⟨j, hj, hg, rfl⟩
    rw [h] at this
    cases this
theorem left_cons {D : Nat → Int} {n : Nat} {gone : Nat → Bool} {s : Thing} {S : List Thing} (h : left D n gone = s :: S) : ∃ j, j < n ∧ gone j = false ∧ s = th D j ∧ S = left D n (setG gone j) := by
  obtain ⟨j, hj, hg, rfl⟩ := left_mem.1 (show s ∈ left D n gone by rw [h]; exact List.mem_cons_self)
  refine ⟨j, hj, hg, rfl, ?_⟩
  have ha := left_apart D n gone
  rw [← without_left, h]
  rw [h] at ha
  exact (without_head ha).symm
theorem left_count {D : Nat → Int} {n : Nat} {gone : Nat → Bool} {j : Nat} (hj : j < n) (hg : gone j = false) : (left D n (setG gone j)).length + 1 = (left D n gone).length := by
  rw [← without_left]
  exact without_length (left_apart D n gone) (ofH_left hj hg)
end Go.Proofs.Ytphblfgafljelaa.Hp
