/- The walks of Bound and of the document's Bound. -/
import Derived.Test.YtloeibaeobkgjaaBoundPlain
import Derived.Test.YtloeibaeobkgjaaRows
import Derived.WalkKit
import Derived.WalkLawsBesides
import Derived.WalkSpells
import Derived.Outline
import Derived.Lib.Hide
namespace Go.Proofs.Ytloeibaeobkgjaa.Bd
open Go.RowKit

theorem div_cast (b : Nat) : (4611686018427387904 : Int) / (b : Int) = ((M / b : Nat) : Int) := by rw [Int.natCast_ediv]; rfl
theorem div_lt (b : Nat) : M / b ≤ 4611686018427387904 := Nat.div_le_self M b

set_option maxRecDepth 100000 in
theorem times_prog (a b : Nat) (hb : 1 ≤ b) (_ha : a ≤ 18446744073709551615) (hb2 : b ≤ 18446744073709551615) (w : World) :
    Calls Try.prog 19 #[.int .u64 a, .int .u64 b] w fun e w' => e = .returned (.int .u64 (tm a b)) ∧ w = w' := by
  have hd := div_cast b
  have hdl := div_lt b
  by_cases h : M / b < a
  · rw [tm_big hb h]
    generalize M / b = q at h hd hdl
    go_enter Try.func19, Try.ntmps19
    go_wp2
    go_ret
    exact ⟨rfl, rfl⟩
  · obtain ⟨e1, e2⟩ := tm_small hb h
    rw [e1]
    rw [M_eq] at e2
    have hm : IntKind.u64.wrap ((a : Int) * (b : Int)) = ((a * b : Nat) : Int) := by
      rw [← Int.natCast_mul, IntKind.wrap_u64]; omega
    generalize M / b = q at h hd hdl
    generalize a * b = z at hm e2
    clear e1
    go_enter Try.func19, Try.ntmps19
    go_wp2
    go_ret
    exact ⟨rfl, rfl⟩

set_option maxRecDepth 100000 in
theorem times_ref (a b : Nat) (hb : 1 ≤ b) (_ha : a ≤ 9223372036854775807) (hb2 : b ≤ 9223372036854775807) (w : World) :
    Calls Try.prog 20 #[.int .i64 a, .int .i64 b] w fun e w' => e = .returned (.int .i64 (tm a b)) ∧ w = w' := by
  have hd := div_cast b
  have hdl := div_lt b
  by_cases h : M / b < a
  · rw [tm_big hb h]
    generalize M / b = q at h hd hdl
    go_enter Try.func20, Try.ntmps20
    go_wp2
    go_ret
    exact ⟨rfl, rfl⟩
  · obtain ⟨e1, e2⟩ := tm_small hb h
    rw [e1]
    rw [M_eq] at e2
    have hm : wrap64 ((a : Int) * (b : Int)) = ((a * b : Nat) : Int) := by
      rw [← Int.natCast_mul]; unfold wrap64; omega
    generalize M / b = q at h hd hdl
    generalize a * b = z at hm e2
    clear e1
    go_enter Try.func20, Try.ntmps20
    go_wp2
    go_ret
    exact ⟨congrArg (fun x => Ending.returned (.int .i64 x)) hm, rfl⟩

theorem times_progI (a b : Int) (ha0 : 0 ≤ a) (hb : 1 ≤ b) (ha : a ≤ 18446744073709551615) (hb2 : b ≤ 18446744073709551615) (w : World) :
    Calls Try.prog 19 #[.int .u64 a, .int .u64 b] w fun e w' => e = .returned (.int .u64 (tm a.toNat b.toNat)) ∧ w = w' := by
  obtain ⟨x, rfl⟩ := Int.eq_ofNat_of_zero_le ha0
  obtain ⟨y, rfl⟩ := Int.eq_ofNat_of_zero_le (show 0 ≤ b by omega)
  exact times_prog x y (by omega) (by omega) (by omega) w
theorem times_refI (a b : Int) (ha0 : 0 ≤ a) (hb : 1 ≤ b) (ha : a ≤ 9223372036854775807) (hb2 : b ≤ 9223372036854775807) (w : World) :
    Calls Try.prog 20 #[.int .i64 a, .int .i64 b] w fun e w' => e = .returned (.int .i64 (tm a.toNat b.toNat)) ∧ w = w' := by
  obtain ⟨x, rfl⟩ := Int.eq_ofNat_of_zero_le ha0
  obtain ⟨y, rfl⟩ := Int.eq_ofNat_of_zero_le (show 0 ≤ b by omega)
  exact times_ref x y (by omega) (by omega) (by omega) w

theorem times_progN (a : Nat) (b : Int) (hb : 1 ≤ b) (ha : (a : Int) ≤ 18446744073709551615) (hb2 : b ≤ 18446744073709551615) (w : World) :
    Calls Try.prog 19 #[.int .u64 a, .int .u64 b] w fun e w' => e = .returned (.int .u64 (tm a b.toNat)) ∧ w = w' := by
  obtain ⟨y, rfl⟩ := Int.eq_ofNat_of_zero_le (show 0 ≤ b by omega)
  exact times_prog a y (by omega) (by omega) (by omega) w
theorem times_refN (a : Nat) (b : Int) (hb : 1 ≤ b) (ha : (a : Int) ≤ 9223372036854775807) (hb2 : b ≤ 9223372036854775807) (w : World) :
    Calls Try.prog 20 #[.int .i64 a, .int .i64 b] w fun e w' => e = .returned (.int .i64 (tm a b.toNat)) ∧ w = w' := by
  obtain ⟨y, rfl⟩ := Int.eq_ofNat_of_zero_le (show 0 ≤ b by omega)
  exact times_ref a y (by omega) (by omega) (by omega) w
theorem tm_le' (a b : Nat) : (tm a b : Int) ≤ 4611686018427387904 := by have := tm_le a b; rw [M_eq] at this; omega

def one (x : Int) : Nat := (max x 1).toNat

set_option maxRecDepth 100000 in
theorem bound_prog (wk th win : Int) (hwk : -9223372036854775808 ≤ wk ∧ wk ≤ 9223372036854775807) (hth : -9223372036854775808 ≤ th ∧ th ≤ 9223372036854775807) (hwin : -9223372036854775808 ≤ win ∧ win ≤ 9223372036854775807) (w : World) :
    Calls Try.prog 16 #[.int .i64 wk, .int .i64 th, .int .i64 win] w fun e w' => e = .returned (.int .i64 (bound (one wk) (one th) (one win))) ∧ w = w' := by
  obtain ⟨x, hx, hx1, hx2⟩ : ∃ x : Int, (if wk < 1 then 1 else wk) = x ∧ 1 ≤ x ∧ x ≤ 9223372036854775807 := ⟨_, rfl, by split <;> omega, by split <;> omega⟩
  obtain ⟨y, hy, hy1, hy2⟩ : ∃ x : Int, (if th < 1 then 1 else th) = x ∧ 1 ≤ x ∧ x ≤ 9223372036854775807 := ⟨_, rfl, by split <;> omega, by split <;> omega⟩
  obtain ⟨z, hz, hz1, hz2⟩ : ∃ x : Int, (if win < 1 then 1 else win) = x ∧ 1 ≤ x ∧ x ≤ 9223372036854775807 := ⟨_, rfl, by split <;> omega, by split <;> omega⟩
  have ex : one wk = x.toNat := by unfold one; rw [← hx]; split <;> omega
  have ey : one th = y.toNat := by unfold one; rw [← hy]; split <;> omega
  have ez : one win = z.toNat := by unfold one; rw [← hz]; split <;> omega
  rw [ex, ey, ez]
  obtain ⟨m, hm, hm1, hm2⟩ : ∃ m : Int, (if 1125899906842624 < x then 1125899906842624 else x) = m ∧ 1 ≤ m ∧ m ≤ 1125899906842624 := ⟨_, rfl, by split <;> omega, by split <;> omega⟩
  have hmn : m.toNat = min x.toNat 1125899906842624 := by rw [← hm]; split <;> omega
  have hfin : bound x.toNat y.toNat z.toNat = tm (tm (tm (tm z.toNat x.toNat) (y + 2).toNat) (y + 2).toNat) (300 + 1300 * (m - 1)).toNat := by
    unfold bound bd each
    rw [← hmn, show (y + 2).toNat = y.toNat + 2 by omega, show (300 + 1300 * (m - 1)).toNat = 300 + 1300 * (m.toNat - 1) by omega]
  rw [hfin]
  clear hfin hmn ex ey ez hwk hth hwin
  go_enter Try.func16, Try.ntmps16
  go_wp2_with fail
  refine (times_progI z x (by omega) (by omega) (by omega) (by omega) w).mono ?_
  rintro e w' ⟨rfl, rfl⟩
  have l1 := tm_le' z.toNat x.toNat
  generalize ht1 : tm z.toNat x.toNat = t1 at l1 ⊢
  have H1 := Lib.hid ht1; clear ht1
  go_wp2_with fail
  refine (times_progN t1 (y + 2) (by omega) (by omega) (by omega) w).mono ?_
  rintro e w' ⟨rfl, rfl⟩
  have l2 := tm_le' t1 (y + 2).toNat
  generalize ht2 : tm t1 (y + 2).toNat = t2 at l2 ⊢
  have H2 := Lib.hid ht2; clear ht2
  go_wp2_with fail
  refine (times_progN t2 (y + 2) (by omega) (by omega) (by omega) w).mono ?_
  rintro e w' ⟨rfl, rfl⟩
  have l3 := tm_le' t2 (y + 2).toNat
  generalize ht3 : tm t2 (y + 2).toNat = t3 at l3 ⊢
  have H3 := Lib.hid ht3; clear ht3
  go_wp2_with fail
  refine (times_progN t3 (300 + 1300 * (m - 1)) (by omega) (by omega) (by omega) w).mono ?_
  rintro e w' ⟨rfl, rfl⟩
  have l4 := tm_le' t3 (300 + 1300 * (m - 1)).toNat
  generalize ht4 : tm t3 (300 + 1300 * (m - 1)).toNat = t4 at l4 ⊢
  have H4 := Lib.hid ht4; clear ht4
  go_wp2
  go_ret
  rw [H1.out, H2.out, H3.out, H4.out]
  exact ⟨rfl, rfl⟩

set_option maxRecDepth 100000 in
theorem bound_ref (wk th win : Int) (hwk : -9223372036854775808 ≤ wk ∧ wk ≤ 9223372036854775807) (hth : -9223372036854775808 ≤ th ∧ th ≤ 9223372036854775807) (hwin : -9223372036854775808 ≤ win ∧ win ≤ 9223372036854775807) (w : World) :
    Calls Try.prog 17 #[.int .i64 wk, .int .i64 th, .int .i64 win] w fun e w' => e = .returned (.int .i64 (bound (one wk) (one th) (one win))) ∧ w = w' := by
  obtain ⟨x0, hx, hx1, hx2⟩ : ∃ x : Int, (if 1 < wk then wk else 1) = x ∧ 1 ≤ x ∧ x ≤ 9223372036854775807 := ⟨_, rfl, by split <;> omega, by split <;> omega⟩
  obtain ⟨y0, hy, hy1, hy2⟩ : ∃ x : Int, (if 1 < th then th else 1) = x ∧ 1 ≤ x ∧ x ≤ 9223372036854775807 := ⟨_, rfl, by split <;> omega, by split <;> omega⟩
  obtain ⟨z0, hz, hz1, hz2⟩ : ∃ x : Int, (if 1 < win then win else 1) = x ∧ 1 ≤ x ∧ x ≤ 9223372036854775807 := ⟨_, rfl, by split <;> omega, by split <;> omega⟩
  have ex : one wk = x0.toNat := by unfold one; rw [← hx]; split <;> omega
  have ey : one th = y0.toNat := by unfold one; rw [← hy]; split <;> omega
  have ez : one win = z0.toNat := by unfold one; rw [← hz]; split <;> omega
  rw [ex, ey, ez, bound_same _ _ _ (by omega) (by omega) (by omega)]
  obtain ⟨x, hxx, hxx1, hxx2⟩ : ∃ m : Int, (if 1152921504606846976 < x0 then 1152921504606846976 else x0) = m ∧ 1 ≤ m ∧ m ≤ 1152921504606846976 := ⟨_, rfl, by split <;> omega, by split <;> omega⟩
  obtain ⟨y, hyy, hyy1, hyy2⟩ : ∃ m : Int, (if 1152921504606846976 < y0 then 1152921504606846976 else y0) = m ∧ 1 ≤ m ∧ m ≤ 1152921504606846976 := ⟨_, rfl, by split <;> omega, by split <;> omega⟩
  obtain ⟨z, hzz, hzz1, hzz2⟩ : ∃ m : Int, (if 4611686018427387904 < z0 then 4611686018427387904 else z0) = m ∧ 1 ≤ m ∧ m ≤ 4611686018427387904 := ⟨_, rfl, by split <;> omega, by split <;> omega⟩
  obtain ⟨m, hm, hm1, hm2⟩ : ∃ m : Int, (if 1099511627776 < x then 1099511627776 else x) = m ∧ 1 ≤ m ∧ m ≤ 1099511627776 := ⟨_, rfl, by split <;> omega, by split <;> omega⟩
  have hxn : x.toNat = min x0.toNat 1152921504606846976 := by rw [← hxx]; split <;> omega
  have hyn : y.toNat = min y0.toNat 1152921504606846976 := by rw [← hyy]; split <;> omega
  have hzn : z.toNat = min z0.toNat M := by rw [← hzz, M_eq]; split <;> omega
  have hmn : m.toNat = min x.toNat 1099511627776 := by rw [← hm]; split <;> omega
  have hfin : boundR x0.toNat y0.toNat z0.toNat = tm (tm (tm (tm z.toNat x.toNat) (y + 2).toNat) (y + 2).toNat) (300 + 1300 * (m - 1)).toNat := by
    unfold boundR bd each
    rw [← hxn, ← hyn, ← hzn, ← hmn, show (y + 2).toNat = y.toNat + 2 by omega, show (300 + 1300 * (m - 1)).toNat = 300 + 1300 * (m.toNat - 1) by omega]
  rw [hfin]
  clear hfin hmn hxn hyn hzn ex ey ez hwk hth hwin hx1 hx2 hy1 hy2 hz1 hz2
  go_enter Try.func17, Try.ntmps17
  go_wp2_with fail
  refine (times_refI z x (by omega) (by omega) (by omega) (by omega) w).mono ?_
  rintro e w' ⟨rfl, rfl⟩
  have l1 := tm_le' z.toNat x.toNat
  generalize ht1 : tm z.toNat x.toNat = t1 at l1 ⊢
  have H1 := Lib.hid ht1; clear ht1
  go_wp2_with fail
  refine (times_refN t1 (y + 2) (by omega) (by omega) (by omega) w).mono ?_
  rintro e w' ⟨rfl, rfl⟩
  have l2 := tm_le' t1 (y + 2).toNat
  generalize ht2 : tm t1 (y + 2).toNat = t2 at l2 ⊢
  have H2 := Lib.hid ht2; clear ht2
  go_wp2_with fail
  refine (times_refN t2 (y + 2) (by omega) (by omega) (by omega) w).mono ?_
  rintro e w' ⟨rfl, rfl⟩
  have l3 := tm_le' t2 (y + 2).toNat
  generalize ht3 : tm t2 (y + 2).toNat = t3 at l3 ⊢
  have H3 := Lib.hid ht3; clear ht3
  go_wp2_with fail
  refine (times_refN t3 (300 + 1300 * (m - 1)) (by omega) (by omega) (by omega) w).mono ?_
  rintro e w' ⟨rfl, rfl⟩
  have l4 := tm_le' t3 (300 + 1300 * (m - 1)).toNat
  generalize ht4 : tm t3 (300 + 1300 * (m - 1)).toNat = t4 at l4 ⊢
  have H4 := Lib.hid ht4; clear ht4
  go_wp2
  go_ret
  rw [H1.out, H2.out, H3.out, H4.out]
  exact ⟨rfl, rfl⟩
end Go.Proofs.Ytloeibaeobkgjaa.Bd
