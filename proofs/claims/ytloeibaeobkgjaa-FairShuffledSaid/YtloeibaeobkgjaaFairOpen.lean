/- A slice of entries that came in reads as a list of them. -/
import Derived.Test.YtloeibaeobkgjaaFairLaws
import Derived.Deep.Slices
import Derived.Deep.Fields
import Derived.Carry
namespace Go.Proofs.Ytloeibaeobkgjaa.Fair
open Go.ChangeShapes Go.WideShapes Go.ChangeAt Go.RowKit Go.Deep

theorem cells34 : Try.prog.cellsOf 34 = 3 := by kernel_rfl

section
variable {H : Type} {enc : TypeId × Value → H} {w : World}
theorem open_ents {b0 : Nat} {v : Value} {d : DataW H} {p : List MemPlace} (hval : Value.okWide Try.prog w .any b0 22 v) (h : DataW.Trod enc Try.prog w 0 (fun _ => true) true 22 v d p) :
    ∃ A n c l, v = .slice A n c ∧ Ents w w.heap.size A n l ∧ (A = none → n = 0 ∧ c = 0) ∧ n ≤ 9223372036854775807 := by
  obtain ⟨a0, len0, cap0, rfl⟩ := okWide_slice Try.underlying22 hval
  obtain ⟨fuel, hf⟩ := h
  rcases open_slice (P := Try.prog) Try.underlying22 hf with ⟨hcs, _⟩ | ⟨a, len, cap, m, n, D, Pl, hcs, hb, hl, hm, hmm, hx, hi⟩
  · have e : Value.slice a0 len0 cap0 = .slice none 0 0 := by simpa [Value.cells] using hcs
    cases e
    exact ⟨none, 0, 0, [], rfl, ⟨rfl, fun h => by omega⟩, fun _ => ⟨rfl, rfl⟩, by omega⟩
  · obtain ⟨rfl, rfl, rfl⟩ : a0 = some a ∧ len = len0 ∧ cap = cap0 := by
      have e : Value.slice a0 len0 cap0 = .slice (some a) len cap := by simpa [Value.cells] using hcs
      injection e with e1 e2 e3
      exact ⟨e1, e2.symm, e3.symm⟩
    have hlm : len ≤ m := by rw [hmm]; simp; omega
    have hE : ∀ i, i < len → ∃ e : Ent, w.cell? (a.add (i * 3)) = some (.int .i64 e.kind) ∧ w.cell? (a.add (i * 3 + 1)) = some (.int .i64 e.who) ∧ w.cell? (a.add (i * 3 + 2)) = some (.int .u64 e.draw) := by
      intro i hil
      obtain ⟨cs', hc, ht'⟩ := hi i (by omega)
      rw [cells34] at hc
      obtain ⟨ys, n', _, _, hlen, hyl, hfd⟩ := DataW.trod_struct Try.underlying34 ht'
      rw [cells34] at hlen
      obtain ⟨_, hcl, hat⟩ := World.cells?_some hc
      match cs', hlen with
      | [x0, x1, x2], _ =>
        have h0 : DataW.trod enc Try.prog w 0 (fun _ => true) true n' 3 (([x0, x1, x2].drop 0).take (Try.prog.cellsOf 3)) = ys[0]? := hfd 0 _ rfl
        have h1 : DataW.trod enc Try.prog w 0 (fun _ => true) true n' 3 (([x0, x1, x2].drop 1).take (Try.prog.cellsOf 3)) = ys[1]? := hfd 1 _ rfl
        have h2 : DataW.trod enc Try.prog w 0 (fun _ => true) true n' 26 (([x0, x1, x2].drop 2).take (Try.prog.cellsOf 26)) = ys[2]? := hfd 2 _ rfl
        rw [cells3] at h0 h1
        rw [cells26] at h2
        have y0 : ys[0]? = some (ys[0]'(by rw [hyl]; decide)) := List.getElem?_eq_getElem _
        have y1 : ys[1]? = some (ys[1]'(by rw [hyl]; decide)) := List.getElem?_eq_getElem _
        have y2 : ys[2]? = some (ys[2]'(by rw [hyl]; decide)) := List.getElem?_eq_getElem _
        obtain ⟨n0, e0, _, _⟩ := DataW.trod_int Try.underlying3 (h0.trans y0)
        obtain ⟨n1, e1, _, _⟩ := DataW.trod_int Try.underlying3 (h1.trans y1)
        obtain ⟨n2, e2, _, _⟩ := DataW.trod_int Try.underlying26 (h2.trans y2)
        simp at e0 e1 e2
        subst e0 e1 e2
        refine ⟨⟨n0, n1, n2⟩, ?_, ?_, ?_⟩
        · have := hat 0 (by omega); rw [Go.Deep.add_add] at this; exact this
        · have := hat 1 (by omega); rw [Go.Deep.add_add] at this; exact this
        · have := hat 2 (by omega); rw [Go.Deep.add_add] at this; exact this
    let E : Nat → Ent := fun i => if h : i < len then Classical.choose (hE i h) else ⟨0, 0, 0⟩
    refine ⟨some a, len, cap, (List.range len).map E, rfl, ⟨by simp, fun h0 => ?_⟩, (fun h => by cases h), by unfold maxLen at hm; omega⟩
    have hs0 := Classical.choose_spec (hE 0 h0)
    obtain ⟨b, off, spot⟩ := a
    have hspot : spot = none := by simpa [Addr.add] using World.cell?_spot hs0.1
    subst hspot
    have hbl : b < w.heap.size := by simpa [Addr.add] using block_lt_of_cell hs0.1
    refine ⟨b, off, rfl, hbl, fun i e he => ?_⟩
    have hil : i < len := by
      have := (List.getElem?_eq_some_iff.1 he).1
      simpa using this
    have hei : e = E i := by
      rw [List.getElem?_map, List.getElem?_range hil] at he
      simpa using he.symm
    have hEi : E i = Classical.choose (hE i hil) := dif_pos hil
    have hsp := Classical.choose_spec (hE i hil)
    rw [hei, hEi]
    generalize Classical.choose (hE i hil) = y at hsp
    obtain ⟨c0, c1, c2⟩ := hsp
    rw [Go.WideShapes.add_plain] at c0 c1 c2
    exact ⟨c0, c1, c2⟩
end
end Go.Proofs.Ytloeibaeobkgjaa.Fair
