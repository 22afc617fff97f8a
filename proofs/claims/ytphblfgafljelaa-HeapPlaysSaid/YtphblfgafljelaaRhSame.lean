/- distafflaw07.same: what is told is what the document's heap holds. -/
import Derived.Test.YtphblfgafljelaaRhMem
import Derived.Deep.QuietTactic
import Derived.BigQuiet
namespace Go.Proofs.Ytphblfgafljelaa.Hp
open Go.RowKit

theorem plist_length (l : List Thing) : (plist l).length = l.length * 2 := by
  induction l with
  | nil => rfl
  | cons x l ih => simp only [plist, List.flatMap_cons, List.length_append, List.length_cons] at *; simp [pcells, ih]; omega
theorem plist_at {l : List Thing} {i : Nat} (h : i < l.length) : (plist l)[i * 2]? = some (.int .u64 (at_ l i).d) ∧ (plist l)[i * 2 + 1]? = some (.int .u64 (at_ l i).w) := by
  induction l generalizing i with
  | nil => simp at h
  | cons x l ih =>
    cases i with
    | zero => exact ⟨rfl, rfl⟩
    | succ i =>
      have := ih (i := i) (by simpa using h)
      have e : ∀ j, (plist (x :: l))[(i + 1) * 2 + j]? = (plist l)[i * 2 + j]? := by
        intro j
        rw [plist, List.flatMap_cons, List.getElem?_append_right (by simp [pcells]; omega)]
        rw [show (i + 1) * 2 + j - (pcells x).length = i * 2 + j by simp [pcells]; omega]
        rfl
      have e0 := e 0
      rw [Nat.add_zero, Nat.add_zero] at e0
      rw [e0, e 1]
      exact this
theorem below_drewN {B : Nat} {a w : World} (h : Below B a w) (n : Nat) : Below B a (w.drewN n) := ⟨h.os, h.tape, h.output, h.size, h.block⟩

set_option maxRecDepth 100000 in
set_option maxHeartbeats 2000000 in
theorem same_true {w : World} {b : Nat} {u : Value} {B : Nat} {v : Value} {rb : Nat} {l : List Thing} {last : Int} (hu : w.ownsRow b 49 2 u l.length (plist l)) (h : RHeap w B v rb l last) (hl : l.length ≤ 900000) :
    Calls Try.prog 21 #[u, .pointer (some ⟨B, 0, none⟩)] w fun e w' => e = .returned (.bool true) ∧ Below w.heap.size w w' := by
  obtain ⟨n, hn⟩ : ∃ n, n = l.length := ⟨_, rfl⟩
  have hnI : (n : Int) ≤ 900000 := by omega
  have hne : ((n : Int) != (n : Int)) = false := by simp
  obtain ⟨o0, _, _⟩ := h.cell
  have hcells : ∀ i, i < n → ∃ gu cu gv cv, u = .slice (some ⟨gu, 0, none⟩) n cu ∧ v = .slice (some ⟨gv, 0, none⟩) n cv ∧ w.cell? ⟨gu, i * 2, none⟩ = some (.int .u64 (at_ l i).d) ∧ w.cell? ⟨gu, i * 2 + 1, none⟩ = some (.int .u64 (at_ l i).w) ∧ w.cell? ⟨gv, i * 3, none⟩ = some (.int .u64 (at_ l i).d) ∧ w.cell? ⟨gv, i * 3 + 1, none⟩ = some (.int .u64 (at_ l i).w) := by
    intro i hi
    rw [hn] at hi
    obtain ⟨p0, p1⟩ := plist_at hi
    obtain ⟨q0, q1, _⟩ := lcells_at hi
    rcases hu.2 with ⟨_, h0⟩ | ⟨gu, cu, _, eu, _⟩
    · omega
    rcases h.row.2 with ⟨_, h0⟩ | ⟨gv, cv, _, ev, _⟩
    · omega
    have hu' := hu
    have hv' := h.row
    rw [eu] at hu'
    rw [ev] at hv'
    exact ⟨gu, cu, gv, cv, by rw [hn]; exact eu, by rw [hn]; exact ev, (hu'.cellAt _ (by omega)).trans p0, (hu'.cellAt _ (by omega)).trans p1, (hv'.cellAt _ (by omega)).trans q0, (hv'.cellAt _ (by omega)).trans q1⟩
  obtain ⟨A, c, hv⟩ := own_shape h.row
  obtain ⟨A2, c2, hu2⟩ := own_shape hu
  subst hv
  subst hu2
  rw [← hn] at o0 hcells ⊢
  have HC := Lib.hid hcells
  clear h hu hn hl hcells
  go_enter Try.func21, Try.ntmps21
  go_wp2
  go_loopw [5] (fun iv wr => ∃ i : Nat, i ≤ n ∧ iv = .int .i64 i ∧ ∃ q, wr = w.drewN q) (fun iv _ => n - (intOf iv).toNat)
  case atStart => exact ⟨0, by omega, rfl, 0, rfl⟩
  case round =>
    obtain ⟨i, hi, rfl, q, rfl⟩ := hrel
    have hiI : (i : Int) ≤ (n : Int) := by omega
    by_cases hlt : i < n
    · have hltI : (i : Int) < (n : Int) := by omega
      have hi0 : (0 : Int) ≤ (i : Int) := by omega
      obtain ⟨gu, cu, gv, cv, e1, e2, d0, d1, d2, d3⟩ := HC.out i hlt
      cases e1
      cases e2
      generalize (at_ l i).d = x at d0 d2
      generalize (at_ l i).w = y at d1 d3
      have x0 : (x != x) = false := by simp
      have y0 : (y != y) = false := by simp
      go_wp2
      go_quiet (fail)
      go_wp2
      go_roundw
      case rel => exact ⟨i + 1, by omega, by go_num, _, rfl⟩
      case measure => simp [intOf]; omega
    · obtain rfl : i = n := by omega
      go_wp2
      go_ret
      exact ⟨rfl, below_drewN (Below.refl _ _) q⟩
end Go.Proofs.Ytphblfgafljelaa.Hp
