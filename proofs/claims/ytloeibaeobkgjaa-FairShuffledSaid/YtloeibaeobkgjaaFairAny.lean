/- fair.Fair and the document's Fair, at whatever workers, entries and window: what the plain law says. -/
import Derived.Test.YtloeibaeobkgjaaFairRef
namespace Go.Proofs.Ytloeibaeobkgjaa.Fair
open Go.ChangeShapes Go.WideShapes Go.ChangeAt Go.RowKit

theorem fairB_low {m : Nat} {l : List Ent} {window : Int} (h : window < 1) : fairB m l window = false := by
  rw [← Bool.not_eq_true]
  intro hb
  have := ((fairB_iff _ _ _).1 hb).1
  omega

theorem fair_any (w : World) (wk : Int) (A : Option Addr) (n c : Nat) (window : Int) (l : List Ent) (h : Ents w w.heap.size A n l) (hl : n ≤ 100000)
    (hwk : -9223372036854775808 ≤ wk ∧ wk ≤ 9223372036854775807) (hwin : -9223372036854775808 ≤ window ∧ window ≤ 9223372036854775807) :
    Calls Try.prog 10 #[.int .i64 wk, .slice A n c, .int .i64 window] w fun e w' => e = .returned (.bool (fairB wk.toNat l window)) ∧ Below w.heap.size w w' := by
  by_cases h1 : window < 1
  · rw [fairB_low h1]
    go_enter Try.func10, Try.ntmps10
    go_wp2
    go_ret
    exact ⟨rfl, Below.refl _ _⟩
  · obtain ⟨W, rfl⟩ := Int.eq_ofNat_of_zero_le (show 0 ≤ window by omega)
    have hlen := h.1
    have hmx : (if wk < 0 then 0 else wk) = ((wk.toNat : Nat) : Int) := by split <;> omega
    by_cases h2 : n < W
    · rw [fairB_true (by omega) (fair_short _ _ _ (by omega))]
      clear hlen hmx
      go_enter Try.func10, Try.ntmps10
      go_wp2
      go_ret
      exact ⟨rfl, Below.refl _ _⟩
    · by_cases h3 : W ≤ wk.toNat
      · rw [fairB_false (not_fair_many _ _ _ h3 (by omega))]
        have h4 : (W : Int) ≤ wk := by omega
        have h5 : ¬ wk < 0 := by omega
        clear hlen hmx h3
        go_enter Try.func10, Try.ntmps10
        go_wp2
        go_ret
        exact ⟨rfl, Below.refl _ _⟩
      · exact fair_main w wk A n c wk.toNat W l hmx h hl (by omega) (by omega) (by omega)

theorem ref_any (w : World) (wk : Int) (A : Option Addr) (n c : Nat) (window : Int) (l : List Ent) (h : Ents w w.heap.size A n l) (hl : n ≤ 100000)
    (hwk : -9223372036854775808 ≤ wk ∧ wk ≤ 9223372036854775807) (hwin : -9223372036854775808 ≤ window ∧ window ≤ 9223372036854775807) :
    Calls Try.prog 11 #[.int .i64 wk, .slice A n c, .int .i64 window] w fun e w' => e = .returned (.bool (fairB wk.toNat l window)) ∧ Below w.heap.size w w' := by
  by_cases h1 : window < 1
  · rw [fairB_low h1]
    go_enter Try.func11, Try.ntmps11
    go_wp2
    go_ret
    exact ⟨rfl, Below.refl _ _⟩
  · obtain ⟨W, rfl⟩ := Int.eq_ofNat_of_zero_le (show 0 ≤ window by omega)
    have hlen := h.1
    have hmx : (if 0 < wk then wk else 0) = ((wk.toNat : Nat) : Int) := by split <;> omega
    by_cases h2 : (n : Int) < wk
    · by_cases h3 : n < W
      · rw [fairB_true (by omega) (fair_short _ _ _ (by omega))]
        clear hlen hmx
        go_enter Try.func11, Try.ntmps11
        go_wp2
        go_ret
        exact ⟨by simp, Below.refl _ _⟩
      · rw [fairB_false (not_fair_many _ _ _ (by omega) (by omega))]
        clear hlen hmx
        go_enter Try.func11, Try.ntmps11
        go_wp2
        go_ret
        exact ⟨by simp, Below.refl _ _⟩
    · exact ref_main w wk A n c wk.toNat W l hmx h hl (by omega) (by omega) (by omega) (by omega)
end Go.Proofs.Ytloeibaeobkgjaa.Fair
