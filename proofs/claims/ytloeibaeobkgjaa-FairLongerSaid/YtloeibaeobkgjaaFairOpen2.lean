/- A slice that came in: its length is at most its capacity. -/
import Derived.Test.YtloeibaeobkgjaaFairRow
namespace Go.Proofs.Ytloeibaeobkgjaa.Fair
open Go.ChangeShapes Go.WideShapes Go.ChangeAt Go.RowKit Go.Deep
section
variable {H : Type} {enc : TypeId × Value → H} {w : World}
theorem slice_le {t e : TypeId} (ht : Try.prog.underlying t = some (.slice e)) {A : Option Addr} {n c : Nat} {d : DataW H} {p : List MemPlace} (h : DataW.Trod enc Try.prog w 0 (fun _ => true) true t (.slice A n c) d p) : n ≤ c := by
  obtain ⟨fuel, hf⟩ := h
  rcases open_slice (P := Try.prog) ht hf with ⟨hcs, _⟩ | ⟨a, len, cap, m, n', D, Pl, hcs, hb, hl, _⟩
  · have e : Value.slice A n c = .slice none 0 0 := by simpa [Value.cells] using hcs
    injection e with _ e2 e3
    omega
  · have e : Value.slice A n c = .slice (some a) len cap := by simpa [Value.cells] using hcs
    injection e with _ e2 e3
    omega
end
end Go.Proofs.Ytloeibaeobkgjaa.Fair
