/- distafflaw24.awake is true. -/
import Derived.Test.YtmijknodkoblbaaDoorPosNum
import Derived.Test.YtmijknodkoblbaaDoorPosErr
namespace Go.Proofs.YtmijknodkoblbaaDoor.PosTab
open Go.RowKit Errs

theorem lock_row : ofName ⟨#[109, 117, 116, 101, 120, 32, 108, 111, 99, 107]⟩ tab = some ⟨12, ⟨#[109, 117, 116, 101, 120, 32, 108, 111, 99, 107]⟩, ⟨#[99, 109, 108, 111, 99, 107]⟩, 18, 1, 0, 0, 0⟩ := by kernel_rfl

set_option maxHeartbeats 1000000 in
theorem awake_true (w : World) (hd : Door w) : Calls Tryd.prog 9 #[] w fun e w' => e = .returned (.bool true) ∧ Below w.heap.size w w' := by
  have HN := Lib.hid (num_any ⟨#[109, 117, 116, 101, 120, 32, 108, 111, 99, 107]⟩ w)
  rw [lock_row] at HN
  have HD := Lib.hid hd
  clear hd
  go_enter Tryd.func9, Tryd.ntmps9
  go_wp2_with fail
  refine HN.out.mono ?_
  rintro e w1 ⟨rfl, hb1⟩
  simp only [numOf, Option.isSome_some]
  go_wp2_with fail
  refine (problem_err 13 16 _ (by decide)).mono ?_
  rintro e w2 ⟨v, rfl, hv, hb2⟩
  have HV := Lib.hid hv
  obtain ⟨vt, vx, rfl⟩ := hv.form
  clear hv
  go_wp2_with fail
  refine (no_any posixS 13 8 _).mono ?_
  rintro e w3 ⟨f, rfl, hf, hb3⟩
  have hs1 := hb1.size
  have hs2 := hb2.size
  have hs3 := hb3.size
  have hp := door_pos HD.out
  have D3 : Door w3 := ((HD.out.below hb1 hp).below hb2 (by omega)).below hb3 (by omega)
  have HS := Lib.hid (same_true _ f [(posixS, 13)] 8 w3 (HV.out.below hb3) hf D3 (by decide) (by decide) (by decide))
  have hk : kindOf 16 = 8 := rfl
  clear hf D3 hk
  go_wp2_with fail
  refine HS.out.mono ?_
  rintro e w4 ⟨rfl, hb4⟩
  go_wp2_with fail
  refine (problem_ok 13 _).mono ?_
  rintro e w5 ⟨rfl, rfl⟩
  go_wp2
  go_ret
  exact ⟨rfl, ((hb1.trans (hb2.mono hs1)).trans (hb3.mono (by omega))).trans (hb4.mono (by omega))⟩
end Go.Proofs.YtmijknodkoblbaaDoor.PosTab
