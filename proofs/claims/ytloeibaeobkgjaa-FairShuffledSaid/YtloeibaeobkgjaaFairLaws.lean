/- Rounds of whatever numbers; the document's example: awake returns true. -/
import Derived.Test.YtloeibaeobkgjaaFairRefRounds
import Derived.Deep.RegionHeld3
namespace Go.Proofs.Ytloeibaeobkgjaa.Fair
open Go.ChangeShapes Go.WideShapes Go.ChangeAt Go.RowKit

def roundsOf (wk n s : Int) : List Ent := if wk < 1 ∨ 64 < wk then [] else roundsL wk.toNat (min n 65536).toNat [] s

theorem rounds_any (w : World) (wk n s : Int) (hwk : -9223372036854775808 ≤ wk ∧ wk ≤ 9223372036854775807) (hn : -9223372036854775808 ≤ n ∧ n ≤ 9223372036854775807) (hs : Lt64 s) :
    Calls Try.prog 13 #[.int .i64 wk, .int .i64 n, .int .u64 s] w fun e w' => ∃ v, e = .returned v ∧ w'.ownsRow w.heap.size 34 3 v (roundsOf wk n s).length (ecells (roundsOf wk n s)) ∧ Below w.heap.size w w' := by
  unfold roundsOf
  by_cases h1 : wk < 1
  · rw [if_pos (.inl h1)]
    go_enter Try.func13, Try.ntmps13
    go_wp2
    go_ret
    exact ⟨_, rfl, World.ownsRow_nil _ _ _ _, Below.refl _ _⟩
  · by_cases h2 : 64 < wk
    · rw [if_pos (.inr h2)]
      go_enter Try.func13, Try.ntmps13
      go_wp2
      go_ret
      exact ⟨_, rfl, World.ownsRow_nil _ _ _ _, Below.refl _ _⟩
    · rw [if_neg (by omega)]
      obtain ⟨m, rfl⟩ := Int.eq_ofNat_of_zero_le (show 0 ≤ wk by omega)
      by_cases h3 : n ≤ 0
      · rw [show (min n 65536).toNat = 0 by omega, roundsL]
        go_enter Try.func13, Try.ntmps13
        go_wp2
        refine wp_loop_rounds 1 ?_
        rw [rounds_succ]
        go_wp2
        go_ret
        exact ⟨_, rfl, World.ownsRow_nil _ _ _ _, Below.refl _ _⟩
      · refine (rounds_main w m n (min n 65536).toNat s (by omega) (by omega) (by split <;> omega) (by omega) hs).mono fun e w' h => ?_
        simpa using h

theorem ref_rounds_any (w : World) (wk n s : Int) (hwk : -9223372036854775808 ≤ wk ∧ wk ≤ 9223372036854775807) (hn : -9223372036854775808 ≤ n ∧ n ≤ 9223372036854775807) (hs : Lt64 s) :
    Calls Try.prog 14 #[.int .i64 wk, .int .i64 n, .int .u64 s] w fun e w' => ∃ v, e = .returned v ∧ w'.ownsRow w.heap.size 34 3 v (roundsOf wk n s).length (ecells (roundsOf wk n s)) ∧ Below w.heap.size w w' := by
  unfold roundsOf
  by_cases h1 : wk < 1
  · rw [if_pos (.inl h1)]
    go_enter Try.func14, Try.ntmps14
    go_wp2
    go_ret
    exact ⟨_, rfl, World.ownsRow_nil _ _ _ _, Below.refl _ _⟩
  · by_cases h2 : 64 < wk
    · rw [if_pos (.inr h2)]
      go_enter Try.func14, Try.ntmps14
      go_wp2
      go_ret
      exact ⟨_, rfl, World.ownsRow_nil _ _ _ _, Below.refl _ _⟩
    · rw [if_neg (by omega)]
      obtain ⟨m, rfl⟩ := Int.eq_ofNat_of_zero_le (show 0 ≤ wk by omega)
      by_cases h3 : n ≤ 0
      · rw [show (min n 65536).toNat = 0 by omega, roundsL]
        go_enter Try.func14, Try.ntmps14
        go_wp2
        refine wp_loop_rounds 1 ?_
        rw [rounds_succ]
        go_wp2
        go_ret
        exact ⟨_, rfl, World.ownsRow_nil _ _ _ _, Below.refl _ _⟩
      · refine (ref_rounds_main w m n (min n 65536).toNat s (by omega) (by omega) (by omega) (by omega) (by omega) hs).mono fun e w' h => ?_
        simpa using h

def exL : List Ent := [⟨1, 0, 2118330556⟩, ⟨2, 0, 0⟩, ⟨1, 0, 3893713506⟩, ⟨2, 0, 0⟩]
theorem ex_rounds : roundsOf 1 2 7 = exL := by decide +kernel
theorem ex_fair : fairB 1 exL 3 = true := by decide +kernel
theorem ex_unfair : fairB 2 exL 3 = false := by decide +kernel

/-- The example's four entries lie in block b. -/
def Ex4 (w : World) (b : Nat) : Prop :=
  w.cell? ⟨b, 0, none⟩ = some (.int .i64 1) ∧ w.cell? ⟨b, 3, none⟩ = some (.int .i64 2) ∧ w.cell? ⟨b, 6, none⟩ = some (.int .i64 1) ∧ w.cell? ⟨b, 9, none⟩ = some (.int .i64 2)

set_option maxRecDepth 100000 in
set_option maxHeartbeats 1000000 in
theorem awake_any (w : World) : Calls Try.prog 9 #[] w fun e w' => e = .returned (.bool true) ∧ Below w.heap.size w w' := by
  have hr := fun W => rounds_any W 1 2 7 (by omega) (by omega) ⟨by omega, by omega⟩
  rw [ex_rounds] at hr
  have HR := Lib.hid hr; clear hr
  go_enter Try.func9, Try.ntmps9
  go_wp2_with fail
  refine (HR.out _).mono ?_
  rintro e w1 ⟨v, rfl, hown, hb⟩
  obtain ⟨g, c, rfl, hgB, hgl⟩ := hown.form (by decide)
  have hE : Ents w1 w1.heap.size (some ⟨g, 0, none⟩) exL.length exL := by
    obtain ⟨A, c', hv, h⟩ := own_ents hown
    injection hv with hv
    subst hv
    exact h
  have hc := fun j u (h : (ecells exL)[j]? = some u) => hown.cells (g := g) rfl j u h
  simp only [Addr.add_lit, Nat.zero_add] at hc
  have c0 := hc 0 _ rfl
  have c3 := hc 3 _ rfl
  have c6 := hc 6 _ rfl
  have c9 := hc 9 _ rfl
  clear hc
  have C : ∀ (W : World) (wk : Int), Below w1.heap.size w1 W → (wk = 1 ∨ wk = 2) →
      Calls Try.prog 10 #[.int .i64 wk, .slice (some ⟨g, 0, none⟩) 4 c, .int .i64 3] W fun e w' => e = .returned (.bool (wk == 1)) ∧ Below w1.heap.size w1 w' := by
    intro W wk hW hwk
    refine (fair_any W wk _ 4 c 3 exL ((hE.below hW).more hW.size) (by omega) (by omega) (by omega)).mono fun e w' ⟨he, hw⟩ => ⟨?_, hW.trans (hw.mono hW.size)⟩
    rcases hwk with rfl | rfl
    · rw [he]; exact congrArg (fun b => Ending.returned (.bool b)) ex_fair
    · rw [he]; exact congrArg (fun b => Ending.returned (.bool b)) ex_unfair
  have HC := Lib.hid C; clear C
  have HE := Lib.hid hE; clear hE
  have HO := Lib.hid hown; clear hown
  have hlen : exL.length = 4 := rfl
  rw [hlen]
  have hb1 := Below.refl w1.heap.size w1
  have HB := Lib.hid hb; clear hb
  go_wp2_with fail
  go_region_held3 (fun w' => Below w1.heap.size w1 w' ∧ w'.cell? ⟨g, 0, none⟩ = some (.int .i64 1) ∧ w'.cell? ⟨g, 3, none⟩ = some (.int .i64 2) ∧ w'.cell? ⟨g, 6, none⟩ = some (.int .i64 1) ∧ w'.cell? ⟨g, 9, none⟩ = some (.int .i64 2)) (first | exact ⟨hb1, c0, c3, c6, c9⟩ | exact ⟨hb1.drew, c0, c3, c6, c9⟩ | go_keep)
    (first | (go_at_call 10; refine (HC.out _ _ ?_ ?_).mono ?_; (first | assumption | exact hb1.drew | exact hb1); (omega); rintro e w2 ⟨rfl, hb2⟩; have k0 := (hb2.cell (p := ⟨g, 0, none⟩) hgl).trans c0; have k3 := (hb2.cell (p := ⟨g, 3, none⟩) hgl).trans c3; have k6 := (hb2.cell (p := ⟨g, 6, none⟩) hgl).trans c6; have k9 := (hb2.cell (p := ⟨g, 9, none⟩) hgl).trans c9))
  go_wp2
  go_ret
  refine ⟨rfl, HB.out.trans (Below.mono (w := w1) ?_ HB.out.size)⟩
  assumption
end Go.Proofs.Ytloeibaeobkgjaa.Fair
