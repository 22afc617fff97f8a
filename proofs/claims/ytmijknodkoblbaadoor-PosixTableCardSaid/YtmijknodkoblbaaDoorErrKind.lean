/- distaffkeep.kind: which kind an error of this program is of. -/
import Derived.Test.YtmijknodkoblbaaDoorErrAny
namespace Go.Proofs.YtmijknodkoblbaaDoor.Errs
open Go.RowKit Go.Extern.Stop Go.Stop Go.Extern

set_option maxHeartbeats 1000000 in
theorem kind_any (v : Value) (r : List (ByteArray × Int)) (k : Int) (w : World) (h : IsErr w r k v) (hk1 : 1 ≤ k) (hk2 : k ≤ 10) :
    Calls Tryd.prog 15 #[v] w fun e w' => e = .returned (.int .i64 k) ∧ w = w' := by
  have HI := Lib.hid (fun k' => is_kind v r k k' w h)
  obtain ⟨t, x, rfl⟩ := h.form
  clear h
  go_enter Tryd.func15, Tryd.ntmps15
  go_wp2
  go_loopw [3, 4] (fun f j wr => ∃ i : Nat, 1 ≤ i ∧ i ≤ 11 ∧ j = .int .i64 i ∧ f = .int .i64 (if k < i then k else 0) ∧ w = wr) (fun _ j _ => 11 - (intOf j).toNat)
  case atStart => exact ⟨1, by omega, by omega, rfl, by rw [if_neg (by omega)], rfl⟩
  case round =>
    obtain ⟨i, hi1, hi2, rfl, rfl, rfl⟩ := hrel
    by_cases hlt : (i : Int) ≤ 10
    · by_cases hki : k = i
      · have hb : (k == (i : Int)) = true := by simp [hki]
        have hz : (if k < (i : Int) then k else 0) = 0 := by rw [if_neg (by omega)]
        have hz2 : (if k < ((i + 1 : Nat) : Int) then k else 0) = i := by rw [if_pos (by omega)]; exact hki
        rw [hz]
        have HZ := Lib.hid hz2
        have HKI := Lib.hid hki
        clear hz hz2 hki
        go_wp2_with (go_at_call 21; refine (HI.out _).mono ?_; rintro e w' ⟨rfl, rfl⟩)
        go_roundw
        case rel => exact ⟨i + 1, by omega, by omega, by go_num, by rw [HZ.out], by first | rfl | trivial⟩
        case measure => simp [intOf]; omega
      · have hb : (k == (i : Int)) = false := by simp [hki]
        have hz : (if k < ((i + 1 : Nat) : Int) then k else 0) = (if k < (i : Int) then k else 0) := by
          by_cases h1 : k < (i : Int)
          · rw [if_pos h1, if_pos (by omega)]
          · rw [if_neg h1, if_neg (by omega)]
        have HZ := Lib.hid hz
        clear hz hki
        generalize (if k < (i : Int) then k else 0) = z at HZ ⊢
        go_wp2_with (go_at_call 21; refine (HI.out _).mono ?_; rintro e w' ⟨rfl, rfl⟩)
        go_roundw
        case rel => exact ⟨i + 1, by omega, by omega, by go_num, by rw [HZ.out], by first | rfl | trivial⟩
        case measure => simp [intOf]; omega
    · rw [if_pos (show k < (i : Int) by omega)]
      go_wp2
      go_ret
      exact ⟨rfl, rfl⟩
end Go.Proofs.YtmijknodkoblbaaDoor.Errs
