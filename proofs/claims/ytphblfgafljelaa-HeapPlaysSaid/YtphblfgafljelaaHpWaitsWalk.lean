/- The walk of distafflaw07.HeapWaits: true of all deadlines and each time. -/
import Derived.Test.YtphblfgafljelaaHpSortsWalk
import Derived.Test.YtphblfgafljelaaSrtHp
namespace Go.Proofs.Ytphblfgafljelaa.Hp
open Go.RowKit

theorem len_hp {w0 w : World} {hb mb : Nat} {v : Value} {S : List Thing} {last : Int} {N : Nat} (h : Hp w0 w hb mb v S last N) (hS : S.length ≤ 900000) :
    Calls Try.prog 12 #[.pointer (some ⟨hb, 0, none⟩)] w fun e w' => e = .returned (.int .i64 S.length) ∧ Below w.heap.size w w' :=
  len_any h.1 (fun l hl => ⟨_, sort_any l (by rw [hl.length_eq]; omega)⟩) hS

/-- How many have come. -/
def come (now : Int) (T : List Thing) : Nat := T.countP fun x => decide (x.d ≤ now)
theorem come_ins (now : Int) (t : Thing) (S : List Thing) : come now (ins t S) = come now S + if t.d ≤ now then 1 else 0 := by
  unfold come
  rw [(ins_perm t S).countP_eq, List.countP_cons]
  by_cases h : t.d ≤ now <;> simp [h]
theorem come_le (now : Int) (T : List Thing) : come now T ≤ T.length := List.countP_le_length
theorem come_at (now : Int) : ∀ {T : List Thing}, Sorted T → (∀ i, i < come now T → (at_ T i).d ≤ now) ∧ ∀ i, come now T ≤ i → i < T.length → now < (at_ T i).d
  | [], _ => ⟨fun i h => by simp [come] at h, fun i _ h => by simp at h⟩
  | x :: T, hs => by
    obtain ⟨h1, h2⟩ := List.pairwise_cons.1 hs
    obtain ⟨i1, i2⟩ := come_at now h2
    have hx : ∀ y ∈ T, x.d ≤ y.d := fun y hy => by have := h1 y hy; rw [aheadB_iff] at this; omega
    by_cases h : x.d ≤ now
    · have e : come now (x :: T) = come now T + 1 := by simp [come, h]
      refine ⟨fun i hi => ?_, fun i hi hl => ?_⟩
      · cases i with
        | zero => exact h
        | succ i => exact i1 i (by omega)
      · cases i with
        | zero => omega
        | succ i => exact i2 i (by omega) (by simpa using hl)
    · have e0 : come now T = 0 := by
        unfold come
        rw [List.countP_eq_zero]
        intro y hy
        have := hx y hy
        simp; omega
      have e : come now (x :: T) = 0 := by
        have : come now (x :: T) = come now T := by simp [come, h]
        rw [this, e0]
      refine ⟨fun i hi => by omega, fun i _ hl => ?_⟩
      cases i with
      | zero => show now < x.d; omega
      | succ i =>
        have := hx _ (at_mem (v := T) (j := i) (by simpa using hl))
        show now < (at_ T i).d
        omega

set_option maxRecDepth 100000 in
set_option maxHeartbeats 8000000 in
theorem waits_law (A : Option Addr) (n c : Nat) (D : Nat → Int) (now : Int) (w : World) (hn : n ≤ 9223372036854775807) (hD : Nums .u64 w A n D) :
    Calls Try.prog 6 #[.slice A n c, .int .u64 now] w fun e w' => e = .returned (.bool true) ∧ Below w.heap.size w w' := by
  have HDs := Lib.hid hD
  clear hD
  have hnI : (n : Int) ≤ 9223372036854775807 := by omega
  by_cases hbig : 200 < n
  · have hd : decide ((200 : Int) < (n : Int)) = true := by simp; omega
    have HBig := Lib.hid hbig
    clear hbig hn
    go_enter Try.func6, Try.ntmps6
    go_wp2_with fail
    refine (new_hp w _ (Below.refl _ _)).mono ?_
    rintro e w1 ⟨hb, mb, rfl, h1, _⟩
    have H1 := Lib.hid h1
    clear h1
    go_wp2_with fail
    refine (awake_true _).mono ?_
    rintro e w2 ⟨rfl, hb2⟩
    go_wp2
    go_ret
    exact ⟨rfl, (H1.out.below hb2).2.1⟩
  · have hd : decide ((200 : Int) < (n : Int)) = false := by simp; omega
    have hn3 : (n : Int) ≤ 200 := by omega
    have HBig := Lib.hid hbig
    clear hbig hn
    go_enter Try.func6, Try.ntmps6
    go_wp2_with fail
    refine (new_hp w _ (Below.refl _ _)).mono ?_
    rintro e w1 ⟨hb, mb, rfl, h1, _⟩
    have H1 := Lib.hid h1
    clear h1
    go_wp2_with fail
    go_loopw [6, 7] (fun cv i wr => ∃ k q : Nat, k ≤ n ∧ q ≤ k ∧ cv = .int .i64 q ∧ i = .int .i64 k ∧ Hid (q = come now (build D k)) ∧ Hid (PutIn w hb mb D k wr)) (fun _ i _ => n - (intOf i).toNat)
    case atStart => exact ⟨0, 0, by omega, by omega, rfl, rfl, Lib.hid rfl, Lib.hid ⟨_, _, H1.out, by omega⟩⟩
    case round =>
      obtain ⟨k, q, hk, hq, rfl, rfl, HQ, HP⟩ := hrel
      have hkI : (k : Int) ≤ (n : Int) := by omega
      have hqI : (q : Int) ≤ (k : Int) := by omega
      by_cases hlt : k < n
      · have hltI : (k : Int) < (n : Int) := by omega
        obtain ⟨v, N, hh, hN⟩ := HP.out
        obtain ⟨b, off, rfl, hbl, hc, hwf⟩ := (HDs.out.below hh.2.1) k hlt
        have hbd := bounds_u64 hwf
        have HPut := Lib.hid (put_hp hh (D k) k ⟨hbd.1, by omega⟩ (by omega) (by rw [build_length]; omega) (by omega) (by omega))
        have HNb := Lib.hid hN
        have HQ2 : Hid (come now (build D (k + 1)) = q + if D k ≤ now then 1 else 0) := Lib.hid (by rw [HQ.out]; exact come_ins now (th D k) (build D k))
        have HCell : Hid (∀ v' N' S' w2, Hp w w2 hb mb v' S' N' (N + (build D k).length + 3) → w2.cell? ⟨b, off + k, none⟩ = some (.int .u64 (D k))) := Lib.hid (fun v' N' S' w2 h2 => by
          obtain ⟨b', off', e', _, hc', _⟩ := (HDs.out.below h2.2.1) k hlt
          cases e'
          exact hc')
        obtain ⟨dk, hdk⟩ : ∃ dk, dk = D k := ⟨_, rfl⟩
        rw [← hdk] at hc hbd HPut HQ2 HCell
        have HDk := Lib.hid hdk
        clear hh hN hwf hdk
        by_cases hle : dk ≤ now
        · have HQ3 : Hid (q + 1 = come now (build D (k + 1))) := Lib.hid (by rw [HQ2.out, if_pos hle])
          have hdl : decide (dk ≤ now) = true := by simpa using hle
          go_wp2_with fail
          refine HPut.out.mono ?_
          rintro e w2 ⟨rfl, v2, h2, _⟩
          have hc2 := HCell.out _ _ _ _ h2
          have H2 : Hid (PutIn w hb mb D (k + 1) w2) := Lib.hid (by
            rw [HDk.out] at h2
            refine ⟨v2, _, h2, ?_⟩
            have := HNb.out
            rw [build_length]
            omega)
          clear h2
          go_wp2
          go_roundw
          case rel => exact ⟨k + 1, q + 1, by omega, by omega, by go_num, by go_num, HQ3, H2⟩
          case measure => simp [intOf]; omega
        · have HQ3 : Hid (q = come now (build D (k + 1))) := Lib.hid (by rw [HQ2.out, if_neg hle]; rfl)
          have hdl : decide (dk ≤ now) = false := by simpa using hle
          go_wp2_with fail
          refine HPut.out.mono ?_
          rintro e w2 ⟨rfl, v2, h2, _⟩
          have hc2 := HCell.out _ _ _ _ h2
          have H2 : Hid (PutIn w hb mb D (k + 1) w2) := Lib.hid (by
            rw [HDk.out] at h2
            refine ⟨v2, _, h2, ?_⟩
            have := HNb.out
            rw [build_length]
            omega)
          clear h2
          go_wp2
          go_roundw
          case rel => exact ⟨k + 1, q, by omega, by omega, rfl, by go_num, HQ3, H2⟩
          case measure => simp [intOf]; omega
      · obtain rfl : k = n := by omega
        obtain ⟨ws, rfl⟩ : ∃ ws : World, ws = wr := ⟨_, rfl⟩
        obtain ⟨v0, N0, hh, hN0⟩ := HP.out
        obtain ⟨T, hT⟩ : ∃ T, T = build D k := ⟨_, rfl⟩
        rw [← hT] at hh HQ
        have hTl : T.length = k := by rw [hT]; exact build_length D k
        have hcome := come_at now (show Sorted T by rw [hT]; exact build_sorted D k)
        rw [← HQ.out] at hcome
        have HSt : Hid (∃ v N, Hp w ws hb mb v (T.drop 0) k N ∧ N ≤ 1000000 + 10000 * 0) := Lib.hid ⟨v0, N0, by rw [List.drop_zero]; exact hh, by have := HBig.out; omega⟩
        have HT := Lib.hid hT
        have HTl := Lib.hid hTl
        have HC := Lib.hid hcome
        clear hh hN0 hT hTl hcome
        go_wp2_with fail
        go_loopw [8] (fun iv wr => ∃ i : Nat, i ≤ q ∧ iv = .int .i64 i ∧ Hid (∃ v N, Hp w wr hb mb v (T.drop i) k N ∧ N ≤ 1000000 + 10000 * i)) (fun iv _ => q - (intOf iv).toNat)
        case atStart => exact ⟨0, by omega, rfl, HSt⟩
        case round =>
          obtain ⟨i, hi, rfl, HI⟩ := hrel
          have hiI : (i : Int) ≤ (q : Int) := by omega
          obtain ⟨v, N, hh, hN⟩ := HI.out
          by_cases hiq : i < q
          · have hiqI : (i : Int) < (q : Int) := by omega
            rw [drop_at (by rw [HTl.out]; omega)] at hh
            obtain ⟨j, hj, hjt⟩ := build_at (D := D) (n := k) (i := i) (by omega)
            rw [← HT.out] at hjt
            have hle := HC.out.1 i hiq
            rw [hjt] at hh hle
            have HPop := Lib.hid (pop_hp hh now (by have := HTl.out; simp; omega) (by omega) hle)
            rw [show (th D j).w = (j : Int) from rfl] at HPop
            have hle2 : D j ≤ now := hle
            obtain ⟨b, off, rfl, hbl, hc, hwf⟩ := (HDs.out.below hh.2.1) j hj
            have HCell : Hid (∀ w2 v' S' N' N2, Hp w w2 hb mb v' S' N' N2 → w2.cell? ⟨b, off + j, none⟩ = some (.int .u64 (D j))) := Lib.hid (fun w2 v' S' N' N2 h2 => by
              obtain ⟨b', off', e', _, hc', _⟩ := (HDs.out.below h2.2.1) j hj
              cases e'
              exact hc')
            have hjI : (j : Int) < (k : Int) := by omega
            have hj0 : (0 : Int) ≤ (j : Int) := by omega
            have f1 : decide (k ≤ j) = false := by simp; omega
            have f2 : decide ((k : Int) ≤ (j : Int)) = false := by simp; omega
            obtain ⟨dj, hdj⟩ : ∃ dj, dj = D j := ⟨_, rfl⟩
            rw [← hdj] at hle2 hc HCell
            have f3 : decide (now < dj) = false := by simp; omega
            have HNb := Lib.hid hN
            clear hh hN hwf hc hdj hle hjt
            go_wp2_with fail
            refine HPop.out.mono ?_
            rintro e w2 ⟨rfl, v2, h2, _, _⟩
            have hc2 := HCell.out _ _ _ _ _ h2
            have H2 : Hid (∃ v N, Hp w w2 hb mb v (T.drop (i + 1)) k N ∧ N ≤ 1000000 + 10000 * (i + 1)) := Lib.hid ⟨v2, _, h2, by have := HNb.out; have := HTl.out; simp; omega⟩
            clear h2
            go_wp2
            go_roundw
            case rel => exact ⟨i + 1, by omega, by go_num, H2⟩
            case measure => simp [intOf]; omega
          · obtain rfl : i = q := by omega
            obtain ⟨S, hS⟩ : ∃ S, S = T.drop i := ⟨_, rfl⟩
            rw [← hS] at hh
            have hSl : S.length = k - i := by rw [hS, List.length_drop, HTl.out]
            cases S with
            | nil =>
              obtain rfl : i = k := by simp at hSl; omega
              have hz : ((i : Int) - (i : Int)) = 0 := by omega
              have f4 : decide ((i : Int) < (i : Int)) = false := by simp
              have f5 : decide (i < i) = false := by simp
              have HH := Lib.hid hh
              have HL := Lib.hid (len_hp hh (by simp))
              clear hh hN hS hSl
              go_wp2_with fail
              refine (pop_nil HH.out.1 now).mono ?_
              rintro e w2 ⟨rfl, rfl⟩
              go_wp2_with fail
              refine HL.out.mono ?_
              rintro e w2 ⟨rfl, hb2⟩
              have H2 := Lib.hid (HH.out.below hb2)
              clear hb2
              go_wp2_with fail
              refine (first_nil H2.out.1).mono ?_
              rintro e w3 ⟨rfl, rfl⟩
              go_wp2_with fail
              refine (awake_true _).mono ?_
              rintro e w4 ⟨rfl, hb4⟩
              go_wp2
              go_ret
              exact ⟨rfl, (H2.out.below hb4).2.1⟩
            | cons s S =>
              have hik : i < k := by simp at hSl; omega
              have hlater : now < s.d := by
                have h1 := HC.out.2 i (Nat.le_refl _) (by rw [HTl.out]; exact hik)
                rw [drop_at (by rw [HTl.out]; exact hik)] at hS
                cases hS
                exact h1
              have hm : ((k : Int) - (i : Int)) = ((s :: S).length : Int) := by rw [hSl]; omega
              have HL := Lib.hid (len_hp hh (by omega))
              generalize (s :: S).length = m at hm HL hSl
              have hikI : (i : Int) < (k : Int) := by omega
              have f4 : decide ((i : Int) < (k : Int)) = true := by simpa using hikI
              have f5 : decide (i < k) = true := by simpa using hik
              have f6 : decide (now < s.d) = true := by simpa using hlater
              have hne : ((m : Int) != (m : Int)) = false := by simp
              have hSs : S.length ≤ 900000 := by
                have h1 : (s :: S).length = (T.drop i).length := by rw [hS]
                rw [List.length_drop, HTl.out] at h1
                simp at h1
                omega
              have HH := Lib.hid hh
              have HPl := Lib.hid (pop_later hh.1 now hSs hlater)
              have HF := Lib.hid (fun (w2 : World) (h2 : Below wr.heap.size wr w2) => first_cons (hh.below h2).1 hSs)
              clear hh hN hS hSs
              obtain ⟨sd, sw, sh⟩ := s
              dsimp only at f6 HF
              clear hlater
              go_wp2_with fail
              refine HPl.out.mono ?_
              rintro e w2 ⟨rfl, rfl⟩
              go_wp2_with fail
              refine HL.out.mono ?_
              rintro e w2 ⟨rfl, hb2⟩
              have H2 := Lib.hid (HH.out.below hb2)
              have HF2 := Lib.hid (HF.out w2 hb2)
              clear hb2
              go_wp2_with fail
              refine HF2.out.mono ?_
              rintro e w3 ⟨rfl, dn, rfl⟩
              go_wp2_with fail
              refine (awake_true _).mono ?_
              rintro e w4 ⟨rfl, hb4⟩
              go_wp2
              go_ret
              have hbd : Below w2.heap.size w2 (w2.drewN dn) := ⟨rfl, rfl, rfl, Nat.le_refl _, fun _ _ => rfl⟩
              exact ⟨rfl, ((H2.out.below hbd).below hb4).2.1⟩
#print axioms waits_law
end Go.Proofs.Ytphblfgafljelaa.Hp
