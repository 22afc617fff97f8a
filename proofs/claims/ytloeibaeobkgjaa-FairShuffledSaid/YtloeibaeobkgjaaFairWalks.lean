/- The walks of the laws FairAsks and FairRounds. -/
import Derived.Test.YtloeibaeobkgjaaFairLaws
namespace Go.Proofs.Ytloeibaeobkgjaa.Fair
open Go.ChangeShapes Go.WideShapes Go.ChangeAt Go.RowKit

theorem below_drewN {B : Nat} {a w : World} (h : Below B a w) (n : Nat) : Below B a (w.drewN n) := ⟨h.os, h.tape, h.output, h.size, h.block⟩

set_option maxHeartbeats 1000000 in
theorem rounds_law (wk n s : Int) (hwk : -9223372036854775808 ≤ wk ∧ wk ≤ 9223372036854775807) (hn : -9223372036854775808 ≤ n ∧ n ≤ 9223372036854775807) (hs : Lt64 s) (w : World) :
    Calls Try.prog 4 #[.int .i64 wk, .int .i64 n, .int .u64 s] w fun e w' => e = .returned (.bool true) ∧ Below w.heap.size w w' := by
  obtain ⟨n', hn', hn1, hn2⟩ : ∃ n' : Int, n' = (if n > 300 then 300 else n) ∧ n' ≤ 300 ∧ -9223372036854775808 ≤ n' := ⟨_, rfl, by split <;> omega, by split <;> omega⟩
  -- behind the test
  have hw : ∀ W, W = w → True := fun _ _ => trivial
  clear hw
  obtain ⟨L, hL⟩ : ∃ L, L = roundsOf wk n' s := ⟨_, rfl⟩
  obtain ⟨K, hK⟩ : ∃ K, K = L.length := ⟨_, rfl⟩
  have hKb : K ≤ 20000 := by
    rw [hK, hL]; unfold roundsOf
    split
    · simp
    · rw [rounds_len]
      have h1 : (min n' 65536).toNat ≤ 300 := by omega
      have h2 : wk.toNat + 1 ≤ 65 := by omega
      have := Nat.mul_le_mul h1 h2
      omega
  have P1 : ∀ W, Calls Try.prog 13 #[.int .i64 wk, .int .i64 n', .int .u64 s] W fun e w' => ∃ A c, e = .returned (.slice A K c) ∧ Ents w' w'.heap.size A K L ∧ Below W.heap.size W w' := by
    intro W; rw [hL] at hK ⊢
    refine (rounds_any W wk n' s hwk ⟨hn2, by omega⟩ hs).mono fun e w' ⟨v, he, ho, hb⟩ => ?_
    obtain ⟨A, c, rfl, hE⟩ := own_ents ho
    rw [← hK] at he hE
    exact ⟨A, c, he, hE, hb⟩
  have P2 : ∀ W, Calls Try.prog 14 #[.int .i64 wk, .int .i64 n', .int .u64 s] W fun e w' => ∃ A c, e = .returned (.slice A K c) ∧ Ents w' w'.heap.size A K L ∧ Below W.heap.size W w' := by
    intro W; rw [hL] at hK ⊢
    refine (ref_rounds_any W wk n' s hwk ⟨hn2, by omega⟩ hs).mono fun e w' ⟨v, he, ho, hb⟩ => ?_
    obtain ⟨A, c, rfl, hE⟩ := own_ents ho
    rw [← hK] at he hE
    exact ⟨A, c, he, hE, hb⟩
  have hbad : (wk < 1 ∨ 64 < wk ∨ n' < 1) → K = 0 := by
    intro h
    rw [hK, hL]; unfold roundsOf
    split
    · rfl
    · rw [rounds_len, show (min n' 65536).toNat = 0 by omega, Nat.zero_mul]
  have hgood : 1 ≤ wk → wk ≤ 64 → 1 ≤ n' → wrap64 (n' * (wk + 1)) = (K : Int) ∧ fairB wk.toNat L (2 * wk + 1) = true := by
    intro h1 h2 h3
    have e : roundsOf wk n' s = roundsL wk.toNat n'.toNat [] s := by
      unfold roundsOf
      rw [if_neg (by omega), show min n' 65536 = n' by omega]
    constructor
    · rw [hK, hL, e, rounds_len]
      obtain ⟨x, rfl⟩ := Int.eq_ofNat_of_zero_le (show 0 ≤ wk by omega)
      obtain ⟨y, rfl⟩ := Int.eq_ofNat_of_zero_le (show 0 ≤ n' by omega)
      have h4 : ((y * (x + 1) : Nat) : Int) = (y : Int) * ((x : Int) + 1) := by rw [Int.natCast_mul]; rfl
      have h5 := Nat.mul_le_mul (show y ≤ 300 by omega) (show x + 1 ≤ 65 by omega)
      simp only [Int.toNat_natCast]
      rw [← h4]
      unfold wrap64; omega
    · rw [hL, e]
      have := rounds_fair wk.toNat n'.toNat s
      rwa [show (wk.toNat : Int) = wk by omega] at this
  have HP1 := Lib.hid P1; clear P1
  have HP2 := Lib.hid P2; clear P2
  have HB := Lib.hid hbad; clear hbad
  have HG := Lib.hid hgood; clear hgood
  clear hL hK
  by_cases hgt : 300 < n
  · rw [if_pos hgt] at hn'
    subst hn'
    go_enter Try.func4, Try.ntmps4
    go_wp2_with fail
    refine (HP1.out _).mono ?_
    rintro e w1 ⟨A1, c1, rfl, E1, hb1⟩
    go_wp2_with fail
    refine (HP2.out _).mono ?_
    rintro e w2 ⟨A2, c2, rfl, E2, hb2⟩
    have E1' := (E1.below hb2).more hb2.size
    clear E1
    go_wp2_with fail
    refine (same_any w2 A1 A2 K K c1 c2 L L E1' E2 (by omega)).mono ?_
    rintro e w3 ⟨rfl, q, rfl⟩
    have hLL : decide (L = L) = true := by simp
    rw [hLL]
    clear hLL E2
    have hb3 : Below w.heap.size w (w2.drewN q) := below_drewN (hb1.trans (hb2.mono hb1.size)) q
    clear hb1 hb2
    have E3 : Ents (w2.drewN q) (w2.drewN q).heap.size A1 K L := E1'
    clear E1'
    generalize w2.drewN q = w4 at hb3 E3
    by_cases g1 : wk < 1
    · have hk0 := HB.out (.inl g1)
      subst hk0
      clear HB HG HP1 HP2 hKb E3
      go_wp2_with fail
      refine (awake_any _).mono ?_
      rintro e w5 ⟨rfl, hb5⟩
      go_wp2
      go_ret
      exact ⟨rfl, hb3.trans (hb5.mono hb3.size)⟩
    by_cases g2 : 64 < wk
    · have hk0 := HB.out (.inr (.inl g2))
      subst hk0
      clear HB HG HP1 HP2 hKb E3
      go_wp2_with fail
      refine (awake_any _).mono ?_
      rintro e w5 ⟨rfl, hb5⟩
      go_wp2
      go_ret
      exact ⟨rfl, hb3.trans (hb5.mono hb3.size)⟩
    obtain ⟨hmul, hfair⟩ := HG.out (by omega) (by omega) (by omega)
    have hmul2 : (300 : Int) * (wk + 1) = (K : Int) := by rw [← hmul]; unfold wrap64; omega
    clear hmul
    have HF := Lib.hid hfair; clear hfair HG HB HP1 HP2
    go_wp2_with fail
    refine (fair_any _ wk A1 K c1 _ L E3 (by omega) hwk (by omega)).mono ?_
    rintro e w5 ⟨rfl, hb5⟩
    rw [HF.out]
    clear E3 hmul2
    go_wp2_with fail
    refine (awake_any _).mono ?_
    rintro e w6 ⟨rfl, hb6⟩
    go_wp2
    go_ret
    have hb7 := hb3.trans (hb5.mono hb3.size)
    exact ⟨rfl, hb7.trans (hb6.mono hb7.size)⟩
  · rw [if_neg hgt] at hn'
    subst hn'
    go_enter Try.func4, Try.ntmps4
    go_wp2_with fail
    refine (HP1.out _).mono ?_
    rintro e w1 ⟨A1, c1, rfl, E1, hb1⟩
    go_wp2_with fail
    refine (HP2.out _).mono ?_
    rintro e w2 ⟨A2, c2, rfl, E2, hb2⟩
    have E1' := (E1.below hb2).more hb2.size
    clear E1
    go_wp2_with fail
    refine (same_any w2 A1 A2 K K c1 c2 L L E1' E2 (by omega)).mono ?_
    rintro e w3 ⟨rfl, q, rfl⟩
    have hLL : decide (L = L) = true := by simp
    rw [hLL]
    clear hLL E2
    have hb3 : Below w.heap.size w (w2.drewN q) := below_drewN (hb1.trans (hb2.mono hb1.size)) q
    clear hb1 hb2
    have E3 : Ents (w2.drewN q) (w2.drewN q).heap.size A1 K L := E1'
    clear E1'
    generalize w2.drewN q = w4 at hb3 E3
    by_cases g1 : wk < 1
    · have hk0 := HB.out (.inl g1)
      subst hk0
      clear HB HG HP1 HP2 hKb E3
      go_wp2_with fail
      refine (awake_any _).mono ?_
      rintro e w5 ⟨rfl, hb5⟩
      go_wp2
      go_ret
      exact ⟨rfl, hb3.trans (hb5.mono hb3.size)⟩
    by_cases g2 : 64 < wk
    · have hk0 := HB.out (.inr (.inl g2))
      subst hk0
      clear HB HG HP1 HP2 hKb E3
      go_wp2_with fail
      refine (awake_any _).mono ?_
      rintro e w5 ⟨rfl, hb5⟩
      go_wp2
      go_ret
      exact ⟨rfl, hb3.trans (hb5.mono hb3.size)⟩
    by_cases g3 : n' < 1
    · have hk0 := HB.out (.inr (.inr (by first | exact g3 | omega)))
      subst hk0
      clear HB HG HP1 HP2 hKb E3
      go_wp2_with fail
      refine (awake_any _).mono ?_
      rintro e w5 ⟨rfl, hb5⟩
      go_wp2
      go_ret
      exact ⟨rfl, hb3.trans (hb5.mono hb3.size)⟩
    obtain ⟨hmul, hfair⟩ := HG.out (by omega) (by omega) (by omega)
    have HF := Lib.hid hfair; clear hfair HG HB HP1 HP2
    go_wp2_with fail
    refine (fair_any _ wk A1 K c1 _ L E3 (by omega) hwk (by omega)).mono ?_
    rintro e w5 ⟨rfl, hb5⟩
    rw [HF.out]
    clear E3 hmul
    go_wp2_with fail
    refine (awake_any _).mono ?_
    rintro e w6 ⟨rfl, hb6⟩
    go_wp2
    go_ret
    have hb7 := hb3.trans (hb5.mono hb3.size)
    exact ⟨rfl, hb7.trans (hb6.mono hb7.size)⟩
end Go.Proofs.Ytloeibaeobkgjaa.Fair
