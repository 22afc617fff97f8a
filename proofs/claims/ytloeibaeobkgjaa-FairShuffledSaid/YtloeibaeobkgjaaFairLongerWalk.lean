/- The walk of the law FairLonger. -/
import Derived.Test.YtloeibaeobkgjaaFairWalks
namespace Go.Proofs.Ytloeibaeobkgjaa.Fair
open Go.ChangeShapes Go.WideShapes Go.ChangeAt Go.RowKit

/-- Within, as Lean has it. -/
def inN (v n : Int) : Int := if n < 1 then 0 else v % n
theorem inN_range (v n : Int) (h : 1 ≤ n) : 0 ≤ inN v n ∧ inN v n < n := by
  unfold inN
  rw [if_neg (by omega)]
  exact ⟨Int.emod_nonneg v (by omega), Int.emod_lt_of_pos v (by omega)⟩

theorem within_any (v n : Int) (hv : -9223372036854775808 ≤ v ∧ v ≤ 9223372036854775807) (hn : -9223372036854775808 ≤ n ∧ n ≤ 9223372036854775807) (w : World) :
    Calls Try.prog 15 #[.int .i64 v, .int .i64 n] w fun e w' => e = .returned (.int .i64 (inN v n)) ∧ w = w' := by
  by_cases h : n < 1
  · rw [show inN v n = 0 by unfold inN; rw [if_pos h]]
    go_enter Try.func15, Try.ntmps15
    go_wp2
    go_ret
    exact ⟨rfl, rfl⟩
  · have hr := inN_range v n (by omega)
    have hi : inN v n = v % n := by unfold inN; rw [if_neg h]
    by_cases h0 : 0 ≤ v
    · have hi2 := hi.symm
      clear hi
      generalize inN v n = k at hr hi2
      go_enter Try.func15, Try.ntmps15
      go_wp2
      go_ret
      exact ⟨rfl, rfl⟩
    · obtain ⟨k0, ht, hk0, hk1, hk2⟩ : ∃ k0, wrap64 (v.tmod n) = k0 ∧ k0 ≤ 0 ∧ -n < k0 ∧ inN v n = (if k0 < 0 then k0 + n else k0) := by
        have e1 : v.tmod n = -((-v) % n) := by
          rw [← Int.tmod_eq_emod_of_nonneg (show 0 ≤ -v by omega), Int.neg_tmod, Int.neg_neg]
        have m1 := Int.emod_nonneg (-v) (show n ≠ 0 by omega)
        have m2 := Int.emod_lt_of_pos (-v) (show 0 < n by omega)
        have d1 := Int.emod_add_mul_ediv (-v) n
        have d2 := Int.emod_add_mul_ediv v n
        refine ⟨v.tmod n, by rw [e1]; unfold wrap64; omega, by rw [e1]; omega, by rw [e1]; omega, ?_⟩
        rw [hi, e1]
        have e2 := Int.emod_emod_of_dvd v (Int.dvd_refl n)
        have e3 : (v % n + (-v) % n) % n = 0 := by
          have e4 := (Int.add_emod v (-v) n).symm
          rw [e4, Int.add_right_neg, Int.zero_emod]
        have m3 := Int.emod_nonneg v (show n ≠ 0 by omega)
        have m4 := Int.emod_lt_of_pos v (show 0 < n by omega)
        generalize v % n = p at *
        generalize (-v) % n = q at *
        by_cases hq : q = 0
        · subst hq
          rw [Int.add_zero, Int.emod_eq_of_lt (by omega) (by omega)] at e3
          rw [if_neg (by omega)]; omega
        · rw [if_pos (by omega)]
          by_cases hpq : p + q < n
          · rw [Int.emod_eq_of_lt (by omega) hpq] at e3; omega
          · have e5 : (p + q - n) % n = (p + q) % n := by rw [Int.sub_emod, Int.emod_self, Int.sub_zero, Int.emod_emod_of_dvd _ (Int.dvd_refl n)]
            rw [← e5, Int.emod_eq_of_lt (by omega) (by omega)] at e3; omega
      have hd : v.tmod n = k0 := by
        have e1 : v.tmod n = -((-v) % n) := by
          rw [← Int.tmod_eq_emod_of_nonneg (show 0 ≤ -v by omega), Int.neg_tmod, Int.neg_neg]
        have m1 := Int.emod_nonneg (-v) (show n ≠ 0 by omega)
        have m2 := Int.emod_lt_of_pos (-v) (show 0 < n by omega)
        rw [← ht, e1]; unfold wrap64; omega
      rw [hk2]
      clear hi hr hk2
      by_cases hk : k0 < 0
      · rw [if_pos hk]
        go_enter Try.func15, Try.ntmps15
        go_wp2
        go_ret
        exact ⟨rfl, rfl⟩
      · rw [if_neg hk]
        go_enter Try.func15, Try.ntmps15
        go_wp2
        go_ret
        exact ⟨rfl, rfl⟩

theorem fairP_more {m : Nat} {l : List Ent} {W W' : Nat} (h : fairP m l W) (hW : W ≤ W') : fairP m l W' := by
  intro a ha k hk
  obtain ⟨j, h1, h2, h3⟩ := h a (by omega) k hk
  exact ⟨j, h1, by omega, h3⟩
theorem at_cut (m : Nat) (l : List Ent) (a n j : Nat) (hj : j < n) : at_ m ((l.drop a).take n) j = at_ m l (a + j) := by
  unfold at_
  rw [List.getElem?_take_of_lt hj, List.getElem?_drop]
theorem fairP_cut {m : Nat} {l : List Ent} {W a n : Nat} (h : fairP m l W) (hl : a + n ≤ l.length) : fairP m ((l.drop a).take n) W := by
  intro x hx k hk
  rw [List.length_take, List.length_drop] at hx
  obtain ⟨j, h1, h2, h3⟩ := h (a + x) (by omega) k hk
  refine ⟨j - a, by omega, by omega, ?_⟩
  rw [at_cut _ _ _ _ _ (by omega), show a + (j - a) = j by omega, h3]
theorem fairB_more {m : Nat} {l : List Ent} {x y : Int} (h : fairB m l x = true) (hy : 0 ≤ y) : fairB m l (x + y) = true := by
  rw [fairB_iff] at h ⊢
  exact ⟨by omega, fairP_more h.2 (by omega)⟩
theorem fairB_cut {m : Nat} {l : List Ent} {x : Int} {a n : Nat} (h : fairB m l x = true) (hl : a + n ≤ l.length) : fairB m ((l.drop a).take n) x = true := by
  rw [fairB_iff] at h ⊢
  exact ⟨h.1, fairP_cut h.2 hl⟩

theorem ents_cut {w : World} {B : Nat} {A : Option Addr} {n : Nat} {l : List Ent} (h : Ents w B A n l) (x y : Nat) (hxy : x + y ≤ n) :
    ∀ A', (0 < y → A' = A.map (·.add (x * 3))) → Ents w B A' y ((l.drop x).take y) := by
  intro A' hA'
  refine ⟨by rw [List.length_take, List.length_drop, h.1]; omega, fun hy => ?_⟩
  obtain ⟨b, off, hA, hb, hcell⟩ := h.2 (by omega)
  refine ⟨b, off + x * 3, ?_, hb, fun i e he => ?_⟩
  · rw [hA' hy, hA]; simp [Addr.add_lit]
  · have hi : i < y := by
      rcases Nat.lt_or_ge i y with h1 | h1
      · exact h1
      · rw [List.getElem?_eq_none (by rw [List.length_take]; omega)] at he; cases he
    rw [List.getElem?_take_of_lt hi, List.getElem?_drop] at he
    have := hcell (x + i) e he
    rw [show off + (x + i) * 3 = off + x * 3 + i * 3 by omega] at this
    exact this

def Quiet1 (w : World) (wk : Int) (A : Option Addr) (n c : Nat) (window : Int) (b : Bool) : Prop :=
  ∀ W, Below w.heap.size w W → Calls Try.prog 10 #[.int .i64 wk, .slice A n c, .int .i64 window] W fun e w' => e = .returned (.bool b) ∧ Below w.heap.size w w'
theorem quiet1 {w : World} {wk : Int} {A : Option Addr} {n c : Nat} {window : Int} {l : List Ent} (h : Ents w w.heap.size A n l) (hl : n ≤ 100000)
    (hwk : -9223372036854775808 ≤ wk ∧ wk ≤ 9223372036854775807) (hwin : -9223372036854775808 ≤ window ∧ window ≤ 9223372036854775807) : Quiet1 w wk A n c window (fairB wk.toNat l window) :=
  fun W hW => (fair_any W wk A n c window l ((h.below hW).more hW.size) hl hwk hwin).mono fun _ _ ⟨he, hb⟩ => ⟨he, hW.trans (hb.mono hW.size)⟩

set_option maxRecDepth 100000 in
set_option maxHeartbeats 1000000 in
theorem longer_law (wk : Int) (A : Option Addr) (n c : Nat) (window more from_ to_ : Int) (l : List Ent) (hwk : -9223372036854775808 ≤ wk ∧ wk ≤ 9223372036854775807) (hwin : -9223372036854775808 ≤ window ∧ window ≤ 9223372036854775807)
    (hmore : -9223372036854775808 ≤ more ∧ more ≤ 9223372036854775807) (hfrom : -9223372036854775808 ≤ from_ ∧ from_ ≤ 9223372036854775807) (hto : -9223372036854775808 ≤ to_ ∧ to_ ≤ 9223372036854775807) (w : World)
    (h : Ents w w.heap.size A n l) (hA : A = none → n = 0 ∧ c = 0) (hnc : n ≤ c) :
    Calls Try.prog 5 #[.int .i64 wk, .slice A n c, .int .i64 window, .int .i64 more, .int .i64 from_, .int .i64 to_] w fun e w' => e = .returned (.bool true) ∧ Below w.heap.size w w' := by
  have HH := Lib.hid h; clear h
  have HA := Lib.hid hA; clear hA
  have out : ∀ W, Below w.heap.size w W → Calls Try.prog 9 #[] W fun e w' => e = .returned (.bool true) ∧ Below w.heap.size w w' :=
    fun W hW => (awake_any W).mono fun _ _ ⟨he, hb⟩ => ⟨he, hW.trans (hb.mono hW.size)⟩
  have AW := Lib.hid out; clear out
  have hb0 := Below.refl w.heap.size w
  by_cases g1 : (3000 : Int) < n
  · go_enter Try.func5, Try.ntmps5
    go_wp2_with fail
    refine (AW.out _ hb0).mono ?_
    rintro e w1 ⟨rfl, hb⟩
    go_wp2
    go_ret
    exact ⟨rfl, hb⟩
  by_cases g2 : window < 1
  · go_enter Try.func5, Try.ntmps5
    go_wp2_with fail
    refine (AW.out _ hb0).mono ?_
    rintro e w1 ⟨rfl, hb⟩
    go_wp2
    go_ret
    exact ⟨rfl, hb⟩
  by_cases g3 : 1099511627776 < window
  · go_enter Try.func5, Try.ntmps5
    go_wp2_with fail
    refine (AW.out _ hb0).mono ?_
    rintro e w1 ⟨rfl, hb⟩
    go_wp2
    go_ret
    exact ⟨rfl, hb⟩
  by_cases g4 : more < 0
  · go_enter Try.func5, Try.ntmps5
    go_wp2_with fail
    refine (AW.out _ hb0).mono ?_
    rintro e w1 ⟨rfl, hb⟩
    go_wp2
    go_ret
    exact ⟨rfl, hb⟩
  by_cases g5 : 1099511627776 < more
  · go_enter Try.func5, Try.ntmps5
    go_wp2_with fail
    refine (AW.out _ hb0).mono ?_
    rintro e w1 ⟨rfl, hb⟩
    go_wp2
    go_ret
    exact ⟨rfl, hb⟩
  have Q1 := quiet1 (c := c) HH.out (by omega) hwk hwin
  by_cases hf : fairB wk.toNat l window = true
  · rw [hf] at Q1
    have hr1 := inN_range from_ (n + 1) (by omega)
    obtain ⟨x, hx⟩ := Int.eq_ofNat_of_zero_le hr1.1
    have W1 := within_any from_ (n + 1) hfrom (by omega)
    rw [hx] at hr1 W1
    have hr2 := inN_range to_ (n - x + 1) (by omega)
    obtain ⟨y, hy⟩ := Int.eq_ofNat_of_zero_le hr2.1
    have W2 := within_any to_ (n - x + 1) hto (by omega)
    rw [hy] at hr2 W2
    have hxy : x + y ≤ n := by omega
    have Q2 := quiet1 (c := c) (window := window + more) HH.out (by omega) hwk (by omega)
    rw [fairB_more hf (by omega)] at Q2
    have Q3 : ∀ (A' : Option Addr) (c' : Nat), (0 < y → A' = A.map (·.add (x * 3))) → Quiet1 w wk A' y c' window true := by
      intro A' c' h'
      have := quiet1 (c := c') (window := window) (ents_cut HH.out x y hxy A' h') (by omega) hwk hwin
      rwa [fairB_cut hf (by rw [HH.out.1]; exact hxy)] at this
    have HQ3 := Lib.hid Q3
    have HF := Lib.hid hf
    have HQ1 := Lib.hid Q1
    have HQ2 := Lib.hid Q2
    have HW1 := Lib.hid W1
    have HW2 := Lib.hid W2
    clear hf Q1 Q2 Q3 W1 W2 hx hy hfrom hto
    go_enter Try.func5, Try.ntmps5
    go_wp2_with fail
    refine (HQ1.out _ hb0).mono ?_
    rintro e w1 ⟨rfl, hb1⟩
    go_wp2_with fail
    refine (HW1.out _).mono ?_
    rintro e w' ⟨rfl, rfl⟩
    go_wp2_with fail
    refine (HW2.out _).mono ?_
    rintro e w' ⟨rfl, rfl⟩
    go_wp2_with fail
    refine (HQ2.out _ hb1).mono ?_
    rintro e w2 ⟨rfl, hb2⟩
    by_cases hcx : c = x
    · have hy0 : ¬ 0 < y := by omega
      go_wp2_with fail
      refine (HQ3.out _ _ (fun h => absurd h hy0) _ hb2).mono ?_
      rintro e w3 ⟨rfl, hb3⟩
      go_wp2_with fail
      refine (AW.out _ hb3).mono ?_
      rintro e w4 ⟨rfl, hb4⟩
      go_wp2
      go_ret
      exact ⟨rfl, hb4⟩
    · go_wp2_with fail
      refine (HQ3.out _ _ (fun _ => rfl) _ hb2).mono ?_
      rintro e w3 ⟨rfl, hb3⟩
      go_wp2_with fail
      refine (AW.out _ hb3).mono ?_
      rintro e w4 ⟨rfl, hb4⟩
      go_wp2
      go_ret
      exact ⟨rfl, hb4⟩
  · have hf2 : fairB wk.toNat l window = false := by simpa using hf
    rw [hf2] at Q1
    have HQ1 := Lib.hid Q1
    clear hf hf2 Q1
    go_enter Try.func5, Try.ntmps5
    go_wp2_with fail
    refine (HQ1.out _ hb0).mono ?_
    rintro e w1 ⟨rfl, hb1⟩
    go_wp2_with fail
    refine (AW.out _ hb1).mono ?_
    rintro e w2 ⟨rfl, hb2⟩
    go_wp2
    go_ret
    exact ⟨rfl, hb2⟩
end Go.Proofs.Ytloeibaeobkgjaa.Fair
