/- Slices of numbers that came in: []uint64, []int. -/
import Derived.Test.YtphblfgafljelaaProg
import Derived.WalkKit
import Derived.ProofKit
import Derived.OpenShut
import Derived.Carry
import Derived.Deep.Fields
import Derived.Deep.Slices
namespace Go.Proofs.Ytphblfgafljelaa
open Go.ChangeShapes Go.WideShapes Go.ChangeAt Go.RowKit Go.Deep

/-- The slice A of n numbers of kind K reads as zs. -/
def Nums (K : IntKind) (w : World) (A : Option Addr) (n : Nat) (zs : Nat → Int) : Prop :=
  ∀ i, i < n → ∃ b off, A = some ⟨b, off, none⟩ ∧ b < w.heap.size ∧ w.cell? ⟨b, off + i, none⟩ = some (.int K (zs i)) ∧ (Lit.int K (zs i)).wf = true
theorem Nums.below {K : IntKind} {w w' : World} {A : Option Addr} {n : Nat} {zs : Nat → Int} (h : Nums K w A n zs) (hb : Below w.heap.size w w') : Nums K w' A n zs := by
  intro i hi
  obtain ⟨b, off, h1, h2, h3, h4⟩ := h i hi
  exact ⟨b, off, h1, Nat.lt_of_lt_of_le h2 hb.size, (hb.cell (p := ⟨b, off + i, none⟩) h2).trans h3, h4⟩

section
variable {P : Program} {H : Type} {enc : TypeId × Value → H} {w : World}
theorem open_nums {T E : TypeId} {K : IntKind} (hT : P.underlying T = some (.slice E)) (hE : P.underlying E = some (.int K)) (hcE : P.cellsOf E = 1) {b0 : Nat} {v : Value} {d : DataW H} {p : List MemPlace}
    (hval : Value.okWide P w .any b0 T v) (h : DataW.Trod enc P w 0 (fun _ => true) true T v d p) :
    ∃ A n c, ∃ zs : Nat → Int, v = .slice A n c ∧ n ≤ 9223372036854775807 ∧ Nums K w A n zs := by
  obtain ⟨a0, len0, cap0, rfl⟩ := okWide_slice hT hval
  obtain ⟨fuel, hf⟩ := h
  rcases open_ints hT hE hcE hf with ⟨hcs, _⟩ | ⟨a, len, cap, zs, hcs, _, hl, hm, hz, hx, hcell, hwz⟩
  · have e : Value.slice a0 len0 cap0 = .slice none 0 0 := by simpa [Value.cells] using hcs
    cases e
    refine ⟨none, 0, 0, fun _ => 0, rfl, ?_, ?_⟩
    · omega
    · intro i hi; exact absurd hi (Nat.not_lt_zero i)
  · obtain ⟨rfl, rfl, rfl⟩ : a0 = some a ∧ len = len0 ∧ cap = cap0 := by
      have e : Value.slice a0 len0 cap0 = .slice (some a) len cap := by simpa [Value.cells] using hcs
      injection e with e1 e2 e3
      exact ⟨e1, e2.symm, e3.symm⟩
    have hzl : len ≤ zs.length := by first | omega | (rw [hz]; split <;> omega) | (simp at hz; omega)
    refine ⟨some a, len, cap, fun i => zs.getD i 0, rfl, by unfold maxLen at hm; omega, fun i hi => ?_⟩
    have hp : 0 < zs.length := by omega
    obtain ⟨b, off, rfl, hc⟩ := ints_at hcell hp
    have hb : b < w.heap.size := by simpa using block_lt_of_cell (hc i (by omega))
    exact ⟨b, off, rfl, hb, hc i (by omega), hwz _ (by
      show zs.getD i 0 ∈ zs
      rw [List.getD_eq_getElem?_getD, List.getElem?_eq_getElem (by omega), Option.getD_some]
      exact List.getElem_mem _)⟩
end
end Go.Proofs.Ytphblfgafljelaa
