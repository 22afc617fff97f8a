/- The walk of distafflaw07.HeapTwo: true of all deadlines. -/
import Derived.Test.YtphblfgafljelaaHpAllLaw
import Derived.Test.YtphblfgafljelaaHpWaitsWalk
namespace Go.Proofs.Ytphblfgafljelaa.Hp
open Go.RowKit

/-- No block of the one is one of the other. -/
def Off (hb mb : Nat) (v : Value) (hb2 mb2 : Nat) (v2 : Value) : Prop := ∀ i, Of hb mb v i → ¬ Of hb2 mb2 v2 i

/-- The first heap holds k things, the second none. -/
def TwoIn (w : World) (hb mb hb2 mb2 k : Nat) (wr : World) : Prop :=
  ∃ v S N, Hp w wr hb mb v S k N ∧ S.length = k ∧ N ≤ 1000 * k ∧ Hp w wr hb2 mb2 (.slice none 0 0) [] 0 0 ∧ Off hb mb v hb2 mb2 (.slice none 0 0)

theorem of_nil {hb mb i : Nat} (h : Of hb mb (.slice none 0 0) i) : i = hb ∨ i = mb := by
  rcases h with h | h | h
  · exact Or.inl h
  · exact Or.inr h
  · cases h

theorem TwoIn.put {w wr w2 : World} {hb mb hb2 mb2 : Nat} {k : Nat} {v v' : Value} {S S' : List Thing} {N N' : Nat} (h : Hp w wr hb mb v S k N) (hS : S.length = k) (hN : N ≤ 1000 * k) (h2 : Hp w wr hb2 mb2 (.slice none 0 0) [] 0 0) (ho : Off hb mb v hb2 mb2 (.slice none 0 0))
    (hk : k ≤ 100) (h' : Hp w w2 hb mb v' S' ((k : Int) + 1) N') (hS' : S'.length = k + 1) (hN' : N' = N + S.length + 3) (hkeep : Keeps (Of hb mb v) wr w2) (hnew : ∀ i, v'.ownBlock = some i → v.ownBlock = some i ∨ wr.heap.size ≤ i) : TwoIn w hb mb hb2 mb2 (k + 1) w2 := by
  refine ⟨v', S', N', by rw [show (((k + 1 : Nat) : Int)) = (k : Int) + 1 from by omega]; exact h', hS', by omega, h2.step hkeep (fun i hi hx => ho i hx hi) h.2.2, ?_⟩
  intro i hi hx
  rcases hi with rfl | rfl | hi
  · exact ho _ (Or.inl rfl) hx
  · exact ho _ (Or.inr (Or.inl rfl)) hx
  · rcases hnew i hi with h3 | h3
    · exact ho _ (Or.inr (Or.inr h3)) hx
    · have := h2.1.of_lt hx
      omega

set_option maxRecDepth 100000 in
set_option maxHeartbeats 8000000 in
theorem two_law (A : Option Addr) (n c : Nat) (D : Nat → Int) (w : World) (hn : n ≤ 9223372036854775807) (hD : Nums .u64 w A n D) :
    Calls Try.prog 7 #[.slice A n c] w fun e w' => e = .returned (.bool true) ∧ Below w.heap.size w w' := by
  have HDs := Lib.hid hD
  clear hD
  have hnI : (n : Int) ≤ 9223372036854775807 := by omega
  by_cases hbig : 100 < n
  · have hd : decide ((100 : Int) < (n : Int)) = true := by simp; omega
    have HBig := Lib.hid hbig
    clear hbig hn
    go_enter Try.func7, Try.ntmps7
    go_wp2_with fail
    refine (new_hp w _ (Below.refl _ _)).mono ?_
    rintro e w1 ⟨hb, mb, rfl, h1, _⟩
    have H1 := Lib.hid h1
    clear h1
    go_wp2_with fail
    refine (new_hp w _ H1.out.2.1).mono ?_
    rintro e w2 ⟨hb2, mb2, rfl, h2, _⟩
    have H2 := Lib.hid h2
    clear h2
    go_wp2_with fail
    refine (awake_true _).mono ?_
    rintro e w3 ⟨rfl, hb3⟩
    go_wp2
    go_ret
    exact ⟨rfl, (H2.out.below hb3).2.1⟩
  · have hd : decide ((100 : Int) < (n : Int)) = false := by simp; omega
    have hn3 : (n : Int) ≤ 100 := by omega
    have HBig := Lib.hid hbig
    clear hbig hn
    go_enter Try.func7, Try.ntmps7
    go_wp2_with fail
    refine (new_hp w _ (Below.refl _ _)).mono ?_
    rintro e w1 ⟨hb, mb, rfl, h1, _⟩
    have H1 := Lib.hid h1
    clear h1
    go_wp2_with fail
    refine (new_hp w _ H1.out.2.1).mono ?_
    rintro e w2 ⟨hb2, mb2, rfl, h2, hbe2, hge2, hge3⟩
    have hstart : TwoIn w hb mb hb2 mb2 0 w2 := by
      refine ⟨.slice none 0 0, [], 0, H1.out.below hbe2, rfl, by omega, h2, fun i hi hx => ?_⟩
      have hlt := H1.out.1.of_lt hi
      rcases of_nil hx with rfl | rfl <;> omega
    have HSt := Lib.hid hstart
    clear h2 hbe2 hge2 hge3 hstart
    go_wp2_with fail
    go_loopw [5] (fun i wr => ∃ k : Nat, k ≤ n ∧ i = .int .i64 k ∧ Hid (TwoIn w hb mb hb2 mb2 k wr)) (fun i _ => n - (intOf i).toNat)
    case atStart => exact ⟨0, by omega, rfl, HSt⟩
    case round =>
      obtain ⟨k, hk, rfl, HP⟩ := hrel
      have hkI : (k : Int) ≤ (n : Int) := by omega
      obtain ⟨v, S, N, hh, hS, hN, hh2, ho⟩ := HP.out
      by_cases hlt : k < n
      · have hltI : (k : Int) < (n : Int) := by omega
        obtain ⟨b, off, rfl, hbl, hc, hwf⟩ := (HDs.out.below hh.2.1) k hlt
        have hbd := bounds_u64 hwf
        have HPut := Lib.hid (put_hp hh (D k) 5 ⟨hbd.1, by omega⟩ (by omega) (by omega) (by omega) (by omega))
        have HNx : Hid (∀ e w2, PutHp w wr hb mb v S k N (D k) 5 e w2 → e = .returned (.int .i64 ((k : Int) + 1)) ∧ Hid (TwoIn w hb mb hb2 mb2 (k + 1) w2)) := Lib.hid (by
          rintro e w2 ⟨he, v', h1, h2, h3⟩
          exact ⟨he, Lib.hid (TwoIn.put hh hS hN hh2 ho (by omega) h1 (by rw [ins_length, hS]) rfl h2 h3)⟩)
        obtain ⟨dk, hdk⟩ : ∃ dk, dk = D k := ⟨_, rfl⟩
        rw [← hdk] at hc hbd HPut HNx
        clear hh hS hN hh2 ho hwf hdk
        go_wp2_with fail
        refine HPut.out.mono ?_
        intro e w2 hput
        obtain ⟨rfl, H2⟩ := HNx.out e w2 hput
        clear hput
        go_wp2
        go_roundw
        case rel => exact ⟨k + 1, by omega, by go_num, H2⟩
        case measure => simp [intOf]; omega
      · obtain rfl : k = n := by omega
        have HF := Lib.hid (first_nil hh2.1)
        have HL2 := Lib.hid (len_hp hh2 (by simp))
        have hP2 := fun (w2 : World) (hb2' : Below wr.heap.size wr w2) => put_hp (hh2.below hb2') 1 2 (by omega) (by omega) (by simp) (by omega) (by omega)
        have hL1 := fun (w2 w3 : World) (hb2' : Below wr.heap.size wr w2) (hk3 : Keeps (Of hb2 mb2 (.slice none 0 0)) w2 w3) =>
          len_hp ((hh.below hb2').step hk3 (fun i hi hx => ho i hi hx) hh2.2.2) (by omega)
        rw [hS] at hL1
        have HP2 := Lib.hid hP2
        have HL1 := Lib.hid hL1
        have HH2 := Lib.hid hh2
        have f4 : decide ((k : Int) < (k : Int)) = false := by simp
        have f5 : decide (k < k) = false := by simp
        have f6 : ((k : Int) == (k : Int)) = true := by simp
        clear hh hS hN hh2 ho hP2 hL1
        go_wp2_with fail
        refine HF.out.mono ?_
        rintro e w3 ⟨rfl, rfl⟩
        go_wp2_with fail
        refine HL2.out.mono ?_
        rintro e w3 ⟨rfl, hb3⟩
        have HP3 := Lib.hid (HP2.out w3 hb3)
        have HL3 := Lib.hid (HL1.out w3)
        have HB3 := Lib.hid hb3
        clear hb3
        go_wp2_with fail
        refine HP3.out.mono ?_
        rintro e w4 ⟨rfl, v4, h4, hk4, hn4⟩
        have HL4 := Lib.hid (HL3.out w4 HB3.out hk4)
        have H4 := Lib.hid h4
        clear h4 hk4 hn4
        go_wp2_with fail
        refine HL4.out.mono ?_
        rintro e w5 ⟨rfl, hb5⟩
        have HA5 := Lib.hid (all_heap ((H4.out.below hb5).1) 9 (by omega) (by simp [ins]))
        have H5 := Lib.hid (H4.out.below hb5)
        clear hb5
        go_wp2_with fail
        refine HA5.out.mono ?_
        rintro e w6 ⟨u, rfl, hrow, hb6⟩
        obtain ⟨A6, c6, rfl⟩ := own_shape hrow
        have H6 := Lib.hid (H5.out.below hb6)
        clear hrow hb6
        go_wp2_with fail
        refine (awake_true _).mono ?_
        rintro e w7 ⟨rfl, hb7⟩
        go_wp2
        go_ret
        exact ⟨rfl, (H6.out.below hb7).2.1⟩
end Go.Proofs.Ytphblfgafljelaa.Hp
