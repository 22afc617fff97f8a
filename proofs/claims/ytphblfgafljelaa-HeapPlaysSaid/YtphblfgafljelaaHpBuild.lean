/- What a law puts in, in plain Lean: the things of some deadlines, sorted; which were seen. -/
import Derived.Test.YtphblfgafljelaaHpList
namespace Go.Proofs.Ytphblfgafljelaa.Hp

def th (D : Nat → Int) (i : Nat) : Thing := ⟨D i, i, (i : Int) + 1⟩
def build (D : Nat → Int) : Nat → List Thing
  | 0 => []
  | i + 1 => ins (th D i) (build D i)
theorem build_mem {D : Nat → Int} {n : Nat} {x : Thing} : x ∈ build D n ↔ ∃ i, i < n ∧ x = th D i := by
  induction n with
  | zero => simp [build]
  | succ n ih =>
    rw [build, (ins_perm _ _).mem_iff, List.mem_cons, ih]
    constructor
    · rintro (rfl | ⟨i, hi, rfl⟩)
      · exact ⟨n, by omega, rfl⟩
      · exact ⟨i, by omega, rfl⟩
    · rintro ⟨i, hi, rfl⟩
      by_cases e : i = n
      · subst e; exact Or.inl rfl
      · exact Or.inr ⟨i, by omega, rfl⟩
theorem build_length (D : Nat → Int) (n : Nat) : (build D n).length = n := by
  induction n with
  | zero => rfl
  | succ n ih => rw [build, ins_length, ih]
theorem build_fresh {D : Nat → Int} {n : Nat} : ∀ x ∈ build D n, x.h ≠ (th D n).h := by
  intro x hx
  obtain ⟨i, hi, rfl⟩ := build_mem.1 hx
  simp [th]; omega
theorem build_sorted (D : Nat → Int) (n : Nat) : Sorted (build D n) := by
  induction n with
  | zero => exact List.Pairwise.nil
  | succ n ih => exact ins_sorted ih build_fresh
theorem build_apart (D : Nat → Int) (n : Nat) : Apart (build D n) := by
  induction n with
  | zero => exact List.nodup_nil
  | succ n ih =>
    have h1 : Apart (build D n ++ [th D n]) := put_apart ih build_fresh
    exact h1.perm ((ins_perm _ _).trans (List.perm_append_comm (l₁ := [th D n]) (l₂ := build D n)))
/-- The i-th of the sorted list is what was put in as j-th. -/
theorem build_at {D : Nat → Int} {n i : Nat} (h : i < n) : ∃ j, j < n ∧ at_ (build D n) i = th D j :=
  build_mem.1 (at_mem (by rw [build_length]; exact h))
theorem build_ne {D : Nat → Int} {n i k j j' : Nat} (hi : i < n) (hk : k < n) (hik : i ≠ k) (h1 : at_ (build D n) i = th D j) (h2 : at_ (build D n) k = th D j') : j ≠ j' := by
  intro e
  refine (build_apart D n).ne (by rw [build_length]; exact hi) (by rw [build_length]; exact hk) hik ?_
  rw [h1, h2, e]
theorem sorted_at {S : List Thing} (h : Sorted S) {i k : Nat} (hik : i < k) (hk : k < S.length) : aheadB (at_ S i) (at_ S k) = true := by
  rw [at_getElem (by omega), at_getElem hk]
  exact (List.pairwise_iff_getElem.1 h) i k (by omega) hk hik
theorem drop_at {S : List Thing} {i : Nat} (h : i < S.length) : S.drop i = at_ S i :: S.drop (i + 1) := by
  rw [at_getElem h]; exact List.drop_eq_getElem_cons h
theorem drop_at' {S : List Thing} {i : Nat} (h : i < S.length) : S.drop i = at_ (S.drop i) 0 :: S.drop (i + 1) := by
  rw [drop_at h]; rfl

/-- Was j among the first i? -/
def seenF (S : List Thing) (i : Nat) (j : Nat) : Bool := (S.take i).any fun x => x.w == (j : Int)
theorem seenF_zero (S : List Thing) (j : Nat) : seenF S 0 j = false := by simp [seenF]
theorem seenF_succ {S : List Thing} {i : Nat} (h : i < S.length) (j : Nat) : seenF S (i + 1) j = (seenF S i j || (at_ S i).w == (j : Int)) := by
  unfold seenF
  rw [List.take_add_one, at_eq h]
  simp
theorem seenF_new {D : Nat → Int} {n i j : Nat} (h : i < n) (hj : at_ (build D n) i = th D j) : seenF (build D n) i j = false := by
  unfold seenF
  rw [List.any_eq_false]
  intro x hx
  obtain ⟨k, hk, e⟩ := List.getElem_of_mem hx
  rw [List.length_take, build_length] at hk
  have hki : k < i := by omega
  have hx2 : x = at_ (build D n) k := by
    rw [← e, List.getElem_take, at_getElem (by rw [build_length]; omega)]
  obtain ⟨j', hj', e'⟩ := build_at (D := D) (n := n) (i := k) (by omega)
  rw [hx2, e']
  have := build_ne (by omega) h (by omega) e' hj
  simp [th]
  omega
/-- What was taken last. -/
def lastW (S : List Thing) : Nat → Int
  | 0 => 0
  | i + 1 => (at_ S i).w
end Go.Proofs.Ytphblfgafljelaa.Hp
