/- distaffkeep.Within: any number as one from 0 to n - 1. -/
import Derived.Test.YtphblfgafljelaaProg
import Derived.WalkKit
import Derived.Lib.Hide
namespace Go.Proofs.Ytphblfgafljelaa
open Go.RowKit

theorem within_any (v n : Int) (w : World) (hn : 1 ≤ n) (hn2 : n ≤ 1000000) (hv : -9223372036854775808 ≤ v ∧ v ≤ 9223372036854775807) :
    Calls Try.prog 13 #[.int .i64 v, .int .i64 n] w fun e w' => e = .returned (.int .i64 (v % n)) ∧ w = w' := by
  have hr0 : 0 ≤ v % n := Int.emod_nonneg _ (by omega)
  have hr1 : v % n < n := Int.emod_lt_of_pos _ (by omega)
  have hd1 : decide (n < 1) = false := by simp; omega
  have hnz : (n == 0) = false := by simp; omega
  obtain ⟨r, hr⟩ : ∃ r, r = v % n := ⟨_, rfl⟩
  rw [← hr] at hr0 hr1 ⊢
  have HR := Lib.hid hr
  by_cases h0 : 0 ≤ v
  · have e : v % n = r := hr.symm
    have e2 : v.tmod n = r := by rw [Int.tmod_eq_emod_of_nonneg h0]; exact hr.symm
    have hd : decide (r < 0) = false := by simp; omega
    clear hr
    go_enter Try.func13, Try.ntmps13
    go_wp2
    go_ret
    exact ⟨rfl, rfl⟩
  · obtain ⟨q, hq⟩ : ∃ q, q = v.tmod n := ⟨_, rfl⟩
    have hq2 : q = -((-v) % n) := by
      rw [hq, ← Int.neg_neg v, Int.neg_tmod, Int.neg_neg, Int.tmod_eq_emod_of_nonneg (by omega)]
    have hm0 : 0 ≤ (-v) % n := Int.emod_nonneg _ (by omega)
    have hm1 : (-v) % n < n := Int.emod_lt_of_pos _ (by omega)
    have hdv := Int.mul_ediv_add_emod (-v) n
    have hdv2 := Int.mul_ediv_add_emod v n
    have e2 : v.tmod n = q := hq.symm
    by_cases hz : q = 0
    · have hrz : r = 0 := by
        rw [hr]
        have : (-v) % n = 0 := by omega
        have hdvd : n ∣ -v := Int.dvd_of_emod_eq_zero this
        exact Int.emod_eq_zero_of_dvd (Int.dvd_neg.1 hdvd)
      have hd : decide (q < 0) = false := by simp; omega
      have HZ := Lib.hid (show q = r by omega)
      have hb1 : -1000000 ≤ q := by omega
      have hb2 : q ≤ 1000000 := by omega
      clear hr hq hq2 hm0 hm1 hdv hdv2 hz hrz
      go_enter Try.func13, Try.ntmps13
      go_wp2
      go_ret
      exact ⟨by rw [HZ.out]; rfl, rfl⟩
    · have hrq : r = q + n := by
        have h1 : (v - q) % n = 0 := by
          rw [hq, Int.sub_emod, ← hq]
          have : v.tmod n % n = v % n := by
            have := Int.mul_tdiv_add_tmod v n
            have e3 : v % n = (n * v.tdiv n + v.tmod n) % n := by rw [this]
            rw [e3, Int.add_emod, Int.mul_emod_right, Int.zero_add, Int.emod_emod]
          rw [hq, this]; simp
        obtain ⟨c, hc⟩ := Int.dvd_of_emod_eq_zero h1
        rw [hr]
        have e4 : v = (q + n) + n * (c - 1) := by rw [Int.mul_sub]; omega
        rw [e4, Int.add_mul_emod_self_left, Int.emod_eq_of_lt (by omega) (by omega)]
      have hd : decide (q < 0) = true := by simp; omega
      have hqn : q < 0 := by omega
      have HZ := Lib.hid (show q + n = r by omega)
      have hb1 : -1000000 ≤ q := by omega
      clear hr hq hq2 hm0 hm1 hdv hdv2 hz hrq hr0 hr1
      go_enter Try.func13, Try.ntmps13
      go_wp2
      go_ret
      exact ⟨by rw [HZ.out]; rfl, rfl⟩
end Go.Proofs.Ytphblfgafljelaa
