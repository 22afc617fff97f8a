/- A slice of uint64 that came in. -/
import Derived.Test.YtloeibaeobkgjaaFairRow
namespace Go.Proofs.Ytloeibaeobkgjaa.Fair
open Go.ChangeShapes Go.WideShapes Go.ChangeAt Go.RowKit Go.Deep
section
variable {H : Type} {enc : TypeId × Value → H} {w : World}
theorem open_u64s {b0 : Nat} {v : Value} {d : DataW H} {p : List MemPlace} (hval : Value.okWide Try.prog w .any b0 31 v) (h : DataW.Trod enc Try.prog w 0 (fun _ => true) true 31 v d p) :
    ∃ A n c, ∃ zs : Nat → Int, v = .slice A n c ∧ n ≤ 9223372036854775807 ∧ ∀ i, i < n → ∃ b off, A = some ⟨b, off, none⟩ ∧ b < w.heap.size ∧ w.cell? ⟨b, off + i, none⟩ = some (.int .u64 (zs i)) ∧ 0 ≤ zs i ∧ zs i ≤ 18446744073709551615 := by
  obtain ⟨a0, len0, cap0, rfl⟩ := okWide_slice Try.underlying31 hval
  obtain ⟨fuel, hf⟩ := h
  rcases open_ints Try.underlying31 Try.underlying26 cells26 hf with ⟨hcs, _⟩ | ⟨a, len, cap, zs, hcs, _, hl, hm, hz, hx, hcell, hwz⟩
  · have e : Value.slice a0 len0 cap0 = .slice none 0 0 := by simpa [Value.cells] using hcs
    cases e
    exact ⟨none, 0, 0, fun _ => 0, rfl, by omega, fun i hi => by omega⟩
  · obtain ⟨rfl, rfl, rfl⟩ : a0 = some a ∧ len = len0 ∧ cap = cap0 := by
      have e : Value.slice a0 len0 cap0 = .slice (some a) len cap := by simpa [Value.cells] using hcs
      injection e with e1 e2 e3
      exact ⟨e1, e2.symm, e3.symm⟩
    have hzl : len ≤ zs.length := by first | omega | (rw [hz]; split <;> omega) | (simp at hz; omega)
    refine ⟨some a, len, cap, fun i => zs.getD i 0, rfl, by unfold maxLen at hm; omega, fun i hi => ?_⟩
    have hp : 0 < zs.length := by omega
    obtain ⟨b, off, rfl, hc⟩ := ints_at hcell hp
    have hb : b < w.heap.size := by simpa using block_lt_of_cell (hc i (by omega))
    have hw : (Lit.int .u64 (zs.getD i 0)).wf = true := hwz _ (by
      rw [List.getD_eq_getElem?_getD, List.getElem?_eq_getElem (by omega), Option.getD_some]
      exact List.getElem_mem _)
    exact ⟨b, off, rfl, hb, hc i (by omega), (bounds_u64 hw).1, (bounds_u64 hw).2⟩
end
end Go.Proofs.Ytloeibaeobkgjaa.Fair
