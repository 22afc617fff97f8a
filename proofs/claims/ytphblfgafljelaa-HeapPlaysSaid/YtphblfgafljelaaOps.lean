/- A script that came in reads as a list of entries. -/
import Derived.Test.YtphblfgafljelaaHpPlaysWalk
import Derived.Test.YtphblfgafljelaaNums
namespace Go.Proofs.Ytphblfgafljelaa.Hp
open Go.ChangeShapes Go.WideShapes Go.ChangeAt Go.RowKit Go.Deep

theorem cellsOp : Try.prog.cellsOf 43 = 4 := by kernel_rfl
theorem cellsInt : Try.prog.cellsOf 3 = 1 := by kernel_rfl
theorem cellsU64 : Try.prog.cellsOf 27 = 1 := by kernel_rfl

section
variable {H : Type} {enc : TypeId × Value → H} {w : World}
set_option maxRecDepth 20000 in
theorem open_ops {b0 : Nat} {v : Value} {d : DataW H} {p : List MemPlace} (hval : Value.okWide Try.prog w .any b0 37 v) (h : DataW.Trod enc Try.prog w 0 (fun _ => true) true 37 v d p) :
    ∃ A n c X, v = .slice A n c ∧ n ≤ 9223372036854775807 ∧ Ops w A n X := by
  obtain ⟨a0, len0, cap0, rfl⟩ := okWide_slice Try.underlying37 hval
  obtain ⟨fuel, hf⟩ := h
  rcases open_slice (P := Try.prog) Try.underlying37 hf with ⟨hcs, _⟩ | ⟨a, len, cap, m, n, D, Pl, hcs, hb, hl, hm, hmm, hx, hi⟩
  · have e : Value.slice a0 len0 cap0 = .slice none 0 0 := by simpa [Value.cells] using hcs
    cases e
    exact ⟨none, 0, 0, fun _ => ⟨0, 0, 0, 0⟩, rfl, by omega, fun i hi => absurd hi (Nat.not_lt_zero i)⟩
  · obtain ⟨rfl, rfl, rfl⟩ : a0 = some a ∧ len = len0 ∧ cap = cap0 := by
      have e : Value.slice a0 len0 cap0 = .slice (some a) len cap := by simpa [Value.cells] using hcs
      injection e with e1 e2 e3
      exact ⟨e1, e2.symm, e3.symm⟩
    have hlm : len ≤ m := by rw [hmm]; simp; omega
    have hE : ∀ i, i < len → ∃ e : Opr, w.cell? (a.add (i * 4)) = some (.int .i64 e.act) ∧ w.cell? (a.add (i * 4 + 1)) = some (.int .i64 e.hnd) ∧ w.cell? (a.add (i * 4 + 2)) = some (.int .u64 e.dl) ∧ w.cell? (a.add (i * 4 + 3)) = some (.int .u64 e.wh) ∧
        (-9223372036854775808 ≤ e.act ∧ e.act ≤ 9223372036854775807) ∧ (-9223372036854775808 ≤ e.hnd ∧ e.hnd ≤ 9223372036854775807) ∧ (0 ≤ e.dl ∧ e.dl ≤ 18446744073709551615) ∧ (0 ≤ e.wh ∧ e.wh ≤ 18446744073709551615) := by
      intro i hil
      obtain ⟨cs', hc, ht'⟩ := hi i (by omega)
      rw [cellsOp] at hc
      obtain ⟨ys, n', _, _, hlen, hyl, hfd⟩ := DataW.trod_struct Try.underlying43 ht'
      rw [cellsOp] at hlen
      obtain ⟨_, hcl, hat⟩ := World.cells?_some hc
      match cs', hlen with
      | [x0, x1, x2, x3], _ =>
        have h0 : DataW.trod enc Try.prog w 0 (fun _ => true) true n' 3 (([x0, x1, x2, x3].drop 0).take (Try.prog.cellsOf 3)) = ys[0]? := hfd 0 _ rfl
        have h1 : DataW.trod enc Try.prog w 0 (fun _ => true) true n' 3 (([x0, x1, x2, x3].drop 1).take (Try.prog.cellsOf 3)) = ys[1]? := hfd 1 _ rfl
        have h2 : DataW.trod enc Try.prog w 0 (fun _ => true) true n' 27 (([x0, x1, x2, x3].drop 2).take (Try.prog.cellsOf 27)) = ys[2]? := hfd 2 _ rfl
        have h3 : DataW.trod enc Try.prog w 0 (fun _ => true) true n' 27 (([x0, x1, x2, x3].drop 3).take (Try.prog.cellsOf 27)) = ys[3]? := hfd 3 _ rfl
        rw [cellsInt] at h0 h1
        rw [cellsU64] at h2 h3
        have y0 : ys[0]? = some (ys[0]'(by rw [hyl]; decide)) := List.getElem?_eq_getElem _
        have y1 : ys[1]? = some (ys[1]'(by rw [hyl]; decide)) := List.getElem?_eq_getElem _
        have y2 : ys[2]? = some (ys[2]'(by rw [hyl]; decide)) := List.getElem?_eq_getElem _
        have y3 : ys[3]? = some (ys[3]'(by rw [hyl]; decide)) := List.getElem?_eq_getElem _
        obtain ⟨n0, e0, _, w0⟩ := DataW.trod_int Try.underlying3 (h0.trans y0)
        obtain ⟨n1, e1, _, w1⟩ := DataW.trod_int Try.underlying3 (h1.trans y1)
        obtain ⟨n2, e2, _, w2⟩ := DataW.trod_int Try.underlying27 (h2.trans y2)
        obtain ⟨n3, e3, _, w3⟩ := DataW.trod_int Try.underlying27 (h3.trans y3)
        simp at e0 e1 e2 e3
        subst e0 e1 e2 e3
        refine ⟨⟨n0, n1, n2, n3⟩, ?_, ?_, ?_, ?_, bounds_i64 w0, bounds_i64 w1, bounds_u64 w2, bounds_u64 w3⟩
        · have := hat 0 (by omega); rw [Go.Deep.add_add] at this; exact this
        · have := hat 1 (by omega); rw [Go.Deep.add_add] at this; exact this
        · have := hat 2 (by omega); rw [Go.Deep.add_add] at this; exact this
        · have := hat 3 (by omega); rw [Go.Deep.add_add] at this; exact this
    let E : Nat → Opr := fun i => if h : i < len then Classical.choose (hE i h) else ⟨0, 0, 0, 0⟩
    refine ⟨some a, len, cap, E, rfl, by unfold maxLen at hm; omega, fun i hil => ?_⟩
    have hEi : E i = Classical.choose (hE i hil) := dif_pos hil
    have hsp := Classical.choose_spec (hE i hil)
    rw [hEi]
    generalize Classical.choose (hE i hil) = y at hsp
    obtain ⟨c0, c1, c2, c3, r⟩ := hsp
    obtain ⟨b, off, spot⟩ := a
    have hs0 := (Classical.choose_spec (hE 0 (by omega))).1
    have hspot : spot = none := by simpa [Addr.add] using World.cell?_spot hs0
    subst hspot
    have hbl : b < w.heap.size := by simpa [Addr.add] using block_lt_of_cell hs0
    rw [Go.WideShapes.add_plain] at c0 c1 c2 c3
    exact ⟨b, off, rfl, hbl, c0, by rw [Nat.add_assoc]; exact c1, by rw [Nat.add_assoc]; exact c2, by rw [Nat.add_assoc]; exact c3, r⟩
end
end Go.Proofs.Ytphblfgafljelaa.Hp
