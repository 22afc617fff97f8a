/- The walks of the laws FairBounds and FairGrows. -/
import Derived.Test.YtloeibaeobkgjaaBoundWalk
import Derived.Test.YtloeibaeobkgjaaFairLaws
namespace Go.Proofs.Ytloeibaeobkgjaa.Bd
open Go.RowKit

def I64 (x : Int) : Prop := -9223372036854775808 ≤ x ∧ x ≤ 9223372036854775807

theorem bounds_law (wk th win : Int) (h1 : I64 wk) (h2 : I64 th) (h3 : I64 win) (w : World) :
    Calls Try.prog 7 #[.int .i64 wk, .int .i64 th, .int .i64 win] w fun e w' => e = .returned (.bool true) ∧ Below w.heap.size w w' := by
  have B1 := Lib.hid (bound_prog wk th win h1 h2 h3 w)
  have B2 := Lib.hid (bound_ref wk th win h1 h2 h3 w)
  generalize bound (one wk) (one th) (one win) = b at B1 B2
  clear h1 h2 h3
  go_enter Try.func7, Try.ntmps7
  go_wp2_with fail
  refine B1.out.mono ?_
  rintro e w' ⟨rfl, rfl⟩
  go_wp2_with fail
  refine B2.out.mono ?_
  rintro e w' ⟨rfl, rfl⟩
  go_wp2_with fail
  refine (Fair.awake_any w).mono ?_
  rintro e w1 ⟨rfl, hb⟩
  go_wp2
  go_ret
  exact ⟨rfl, hb⟩

def up (v mo : Int) : Int := if 2305843009213693952 < v ∨ 2305843009213693952 < mo then v else v + mo
theorem up_bound {v mo : Int} (h1 : I64 v) (h2 : 0 ≤ mo) (h3 : mo ≤ 9223372036854775807) : I64 (up v mo) ∧ v ≤ up v mo := by
  unfold up I64 at *
  split <;> omega

theorem up_calls (v mo : Int) (B : Nat) (W : World) (h1 : I64 v) (h2 : 0 ≤ mo) (h3 : mo ≤ 9223372036854775807) (hc : W.cell? ⟨B, 0, none⟩ = some (.int .i64 mo)) :
    Calls Try.prog 18 #[.int .i64 v, .pointer (some ⟨B, 0, none⟩)] W fun e w' => e = .returned (.int .i64 (up v mo)) ∧ W = w' := by
  have hv1 := h1.1
  have hv2 := h1.2
  clear h1
  by_cases a : 2305843009213693952 < v
  · rw [show up v mo = v by unfold up; rw [if_pos (.inl a)]]
    go_enter Try.func18, Try.ntmps18
    go_wp2
    go_ret
    exact ⟨rfl, rfl⟩
  · by_cases b : 2305843009213693952 < mo
    · rw [show up v mo = v by unfold up; rw [if_pos (.inr b)]]
      go_enter Try.func18, Try.ntmps18
      go_wp2
      go_ret
      exact ⟨rfl, rfl⟩
    · rw [show up v mo = v + mo by unfold up; rw [if_neg (by omega)]]
      go_enter Try.func18, Try.ntmps18
      go_wp2
      go_ret
      exact ⟨rfl, rfl⟩

theorem one_mono {a b : Int} (h : a ≤ b) : one a ≤ one b := by unfold one; omega
theorem one_pos (a : Int) : 1 ≤ one a := by unfold one; omega

set_option maxRecDepth 100000 in
set_option maxHeartbeats 1000000 in
theorem grows_law (wk th win more : Int) (h1 : I64 wk) (h2 : I64 th) (h3 : I64 win) (h4 : I64 more) (w : World) :
    Calls Try.prog 8 #[.int .i64 wk, .int .i64 th, .int .i64 win, .int .i64 more] w fun e w' => e = .returned (.bool true) ∧ Below w.heap.size w w' := by
  obtain ⟨mo, hmo, hm0, hm1⟩ : ∃ mo : Int, mo = (if more < 0 then 0 else more) ∧ 0 ≤ mo ∧ mo ≤ 9223372036854775807 := ⟨_, rfl, by split <;> omega, by have := h4.2; split <;> omega⟩
  obtain ⟨u1, u1'⟩ := up_bound h1 hm0 hm1
  obtain ⟨u2, u2'⟩ := up_bound h2 hm0 hm1
  obtain ⟨u3, u3'⟩ := up_bound h3 hm0 hm1
  have B0 : ∀ W, Calls Try.prog 16 #[.int .i64 wk, .int .i64 th, .int .i64 win] W _ := fun W => bound_prog wk th win h1 h2 h3 W
  have B1 : ∀ W, Calls Try.prog 16 #[.int .i64 (up wk mo), .int .i64 th, .int .i64 win] W _ := fun W => bound_prog (up wk mo) th win u1 h2 h3 W
  have B2 : ∀ W, Calls Try.prog 16 #[.int .i64 wk, .int .i64 (up th mo), .int .i64 win] W _ := fun W => bound_prog wk (up th mo) win h1 u2 h3 W
  have B3 : ∀ W, Calls Try.prog 16 #[.int .i64 wk, .int .i64 th, .int .i64 (up win mo)] W _ := fun W => bound_prog wk th (up win mo) h1 h2 u3 W
  have U1 := fun B W => up_calls wk mo B W h1 hm0 hm1
  have U2 := fun B W => up_calls th mo B W h2 hm0 hm1
  have U3 := fun B W => up_calls win mo B W h3 hm0 hm1
  have l1 : bound (one wk) (one th) (one win) ≤ bound (one (up wk mo)) (one th) (one win) := bound_mono (one_mono u1') (Nat.le_refl _) (Nat.le_refl _)
  have l2 : bound (one wk) (one th) (one win) ≤ bound (one wk) (one (up th mo)) (one win) := bound_mono (Nat.le_refl _) (one_mono u2') (Nat.le_refl _)
  have l3 : bound (one wk) (one th) (one win) ≤ bound (one wk) (one th) (one (up win mo)) := bound_mono (Nat.le_refl _) (Nat.le_refl _) (one_mono u3')
  have p0 : 1 ≤ bound (one wk) (one th) (one win) := bound_pos _ _ _ (one_pos _) (one_pos _)
  have q0 : bound (one wk) (one th) (one win) ≤ 4611686018427387904 := bound_le _ _ _
  generalize bound (one wk) (one th) (one win) = b0 at B0 l1 l2 l3 p0 q0
  generalize bound (one (up wk mo)) (one th) (one win) = b1 at B1 l1
  generalize bound (one wk) (one (up th mo)) (one win) = b2 at B2 l2
  generalize bound (one wk) (one th) (one (up win mo)) = b3 at B3 l3
  generalize up wk mo = x1 at B1 U1
  generalize up th mo = x2 at B2 U2
  generalize up win mo = x3 at B3 U3
  clear u1 u1' u2 u2' u3 u3' h1 h2 h3
  have B0 := Lib.hid B0
  have B1 := Lib.hid B1
  have B2 := Lib.hid B2
  have B3 := Lib.hid B3
  have U1 := Lib.hid U1
  have U2 := Lib.hid U2
  have U3 := Lib.hid U3
  by_cases hm : more < 0
  · rw [if_pos hm] at hmo
    subst hmo
    go_enter Try.func8, Try.ntmps8
    go_wp2_with fail
    refine (B0.out _).mono ?_
    rintro e w' ⟨rfl, rfl⟩
    go_wp2_with fail
    refine (U1.out w.heap.size _ (by simp [World.cell?_alloc_at])).mono ?_
    rintro e w' ⟨rfl, rfl⟩
    go_wp2_with fail
    refine (B1.out _).mono ?_
    rintro e w' ⟨rfl, rfl⟩
    go_wp2_with fail
    refine (U2.out w.heap.size _ (by simp [World.cell?_alloc_at])).mono ?_
    rintro e w' ⟨rfl, rfl⟩
    go_wp2_with fail
    refine (B2.out _).mono ?_
    rintro e w' ⟨rfl, rfl⟩
    go_wp2_with fail
    refine (U3.out w.heap.size _ (by simp [World.cell?_alloc_at])).mono ?_
    rintro e w' ⟨rfl, rfl⟩
    go_wp2_with fail
    refine (B3.out _).mono ?_
    rintro e w' ⟨rfl, rfl⟩
    go_wp2_with fail
    refine (Fair.awake_any _).mono ?_
    rintro e w1 ⟨rfl, hb⟩
    go_wp2
    go_ret
    refine ⟨rfl, ?_⟩
    exact ((Below.refl w.heap.size w).alloc (Nat.le_refl _) _).trans (hb.mono (by simp))
  · rw [if_neg hm] at hmo
    subst hmo
    go_enter Try.func8, Try.ntmps8
    go_wp2_with fail
    refine (B0.out _).mono ?_
    rintro e w' ⟨rfl, rfl⟩
    go_wp2_with fail
    refine (U1.out w.heap.size _ (by simp [World.cell?_alloc_at])).mono ?_
    rintro e w' ⟨rfl, rfl⟩
    go_wp2_with fail
    refine (B1.out _).mono ?_
    rintro e w' ⟨rfl, rfl⟩
    go_wp2_with fail
    refine (U2.out w.heap.size _ (by simp [World.cell?_alloc_at])).mono ?_
    rintro e w' ⟨rfl, rfl⟩
    go_wp2_with fail
    refine (B2.out _).mono ?_
    rintro e w' ⟨rfl, rfl⟩
    go_wp2_with fail
    refine (U3.out w.heap.size _ (by simp [World.cell?_alloc_at])).mono ?_
    rintro e w' ⟨rfl, rfl⟩
    go_wp2_with fail
    refine (B3.out _).mono ?_
    rintro e w' ⟨rfl, rfl⟩
    go_wp2_with fail
    refine (Fair.awake_any _).mono ?_
    rintro e w1 ⟨rfl, hb⟩
    go_wp2
    go_ret
    refine ⟨rfl, ?_⟩
    exact ((Below.refl w.heap.size w).alloc (Nat.le_refl _) _).trans (hb.mono (by simp))
end Go.Proofs.Ytloeibaeobkgjaa.Bd
