/- The walk of distafflaw24.PosixProblems: true of every number and code. -/
import Derived.Test.YtmijknodkoblbaaDoorPosAwake
namespace Go.Proofs.YtmijknodkoblbaaDoor.PosTab
open Go.RowKit Errs

set_option maxHeartbeats 1000000 in
theorem problems_law (n c : Int) (w : World) (hd : Door w) (h0 : 0 ≤ c) (h1 : c < 18446744073709551616) :
    Calls Tryd.prog 3 #[.int .i64 n, .int .u64 c] w fun e w' => e = .returned (.bool true) ∧ Below w.heap.size w w' := by
  have HD := Lib.hid hd
  clear hd
  have hp := door_pos HD.out
  obtain ⟨m, hm⟩ : ∃ m, c % 128 = m := ⟨_, rfl⟩
  have m0 : 0 ≤ m := by omega
  have m1 : m < 128 := by omega
  go_enter Tryd.func3, Tryd.ntmps3
  go_wp2
  clear hm
  go_loopw [12] (fun i wr => ∃ k : Nat, k ≤ 2 ∧ i = .int .i64 k ∧ Below (w.heap.size + 1) (w.alloc (.cells #[.int .u64 c, .int .u64 m] 22)) wr) (fun i _ => 2 - (intOf i).toNat)
  case atStart => exact ⟨0, by omega, rfl, Below.refl _ _⟩
  case round =>
    obtain ⟨k, hk, rfl, hb⟩ := hrel
    have hsz := hb.size
    simp at hsz
    have hw : Below w.heap.size w wr := ((Below.refl w.heap.size w).alloc (Nat.le_refl _) _).trans (hb.mono (by simp))
    have hD := HD.out.below hw hp
    have HDr := Lib.hid hD
    by_cases hlt : k < 2
    · obtain ⟨x, hx0, hcell⟩ : ∃ x, 0 ≤ x ∧ wr.cell? ⟨w.heap.size, k, none⟩ = some (.int .u64 x) := by
        have e : ∀ j, wr.cell? ⟨w.heap.size, j, none⟩ = _ := fun j => (hb.cell (p := ⟨w.heap.size, j, none⟩) (by simp)).trans (World.cell?_alloc_at _ _ _ _ rfl)
        rcases (show k = 0 ∨ k = 1 by omega) with rfl | rfl
        · exact ⟨c, h0, e 0⟩
        · exact ⟨m, m0, e 1⟩
      clear hD
      by_cases hx : x = 0
      · subst hx
        go_wp2_with fail
        refine (problem_ok n _).mono ?_
        rintro e w1 ⟨rfl, rfl⟩
        go_wp2_with fail
        refine (refproblem_ok n _).mono ?_
        rintro e w1 ⟨rfl, rfl⟩
        go_wp2_with fail
        refine (same_nil _).mono ?_
        rintro e w1 ⟨rfl, rfl⟩
        go_wp2
        go_roundw
        case rel => exact ⟨k + 1, by omega, by go_num, hb⟩
        case measure => simp [intOf]; omega
      · have HX := Lib.hid hx
        clear hx
        go_wp2_with fail
        refine (problem_err n x _ HX.out).mono ?_
        rintro e w1 ⟨v, rfl, hv, hb1⟩
        have HV := Lib.hid hv
        obtain ⟨vt, vx, rfl⟩ := hv.form
        clear hv
        go_wp2_with fail
        refine (refproblem_err n x _ HX.out).mono ?_
        rintro e w2 ⟨f, rfl, hf, hb2⟩
        have hs1 := hb1.size
        have hs2 := hb2.size
        have D2 : Door w2 := ((HDr.out.below hb1 (by omega)).below hb2 (by omega))
        have HS := Lib.hid (same_true _ f [(posixS, n)] (kindOf x) w2 (HV.out.below hb2) hf D2 (kindOf_range x).1 (kindOf_range x).2 (by simp))
        clear hf D2
        go_wp2_with fail
        refine HS.out.mono ?_
        rintro e w3 ⟨rfl, hb3⟩
        go_wp2
        go_roundw
        case rel => exact ⟨k + 1, by omega, by go_num, hb.trans ((hb1.mono hsz).trans ((hb2.mono (by omega)).trans (hb3.mono (by omega))))⟩
        case measure => simp [intOf]; omega
    · obtain rfl : k = 2 := by omega
      clear hD
      go_wp2_with fail
      refine (awake_true _ HDr.out).mono ?_
      rintro e w1 ⟨rfl, hb1⟩
      go_wp2
      go_ret
      exact ⟨rfl, hw.trans (hb1.mono (by omega))⟩
end Go.Proofs.YtmijknodkoblbaaDoor.PosTab
