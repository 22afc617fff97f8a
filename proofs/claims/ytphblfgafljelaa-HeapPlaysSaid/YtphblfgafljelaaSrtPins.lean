/- sort.partialInsertionSort_func with such a 'less' (printed by gen_pins.py). -/
import Derived.Test.YtphblfgafljelaaSrtIns
namespace Go.Proofs.Ytphblfgafljelaa.Srt
open Go.RowKit Go.Shelf Go.Lib Go.Sort Go.Proofs.Ytphblfgafljelaa.Hp
variable {P : Program} {ρ : Ren} {α : Type} [Inhabited α]

set_option maxHeartbeats 16000000 in
set_option maxRecDepth 100000 in
theorem pins (L : LaysGg.n31 P ρ) {g : Nat} {lb : Array Value} {sf : Nat} {sb : Array Value} {lt : α → α → Bool} {n blk : Nat} {I : Array α → World → Prop} (E : Env P g lb sf sb lt n blk I) (a b : Nat) (d : Array α) (w : World)
    (hI : I d w) (hd : d.size = n) (hab : a < b) (hb : b ≤ n) (hn : n < 4611686018427387904) :
    Calls P (ρ.f 31) #[.agg #[.func (.func g) #[] lb, .func (.func sf) #[] sb], .int .i64 a, .int .i64 b] w fun e w' =>
      e = .returned (.bool (partialInsertionSort lt d a b).2) ∧ I (partialInsertionSort lt d a b).1 w' ∧ Keeps (fun b => b = blk) w w' := by
  have mixed := L.mixed; have t0 := L.t0; have a0 := L.a0; have z0 := L.z0; have v0 := L.v0; have t3 := L.t3; have a3 := L.a3; have z3 := L.z3; have v3 := L.v3; have t4 := L.t4; have a4 := L.a4; have z4 := L.z4; have v4 := L.v4; have t26 := L.t26; have a26 := L.a26; have z26 := L.z26; have v26 := L.v26; have t37 := L.t37; have a37 := L.a37; have z37 := L.z37; have v37 := L.v37; have t44 := L.t44; have a44 := L.a44; have z44 := L.z44; have v44 := L.v44
  have u44 := run_underlying L.t44
  have eg := E.eg
  have S0 := St.start E hI (ρ.t 44)
  have HE := Lib.hid E
  clear E hI
  go_enter L.f31, BodyGg.n31_ntmps ρ
  go_wp2
  go_loopg [7, 8] 5 (fun g1 vi vs wr => ∃ (i s : Nat) (dk : Array α), vi = .int .i64 i ∧ vs = .int .i64 s ∧ s ≤ 5 ∧ 5 - s ≤ g1 ∧ a < i ∧ i ≤ b ∧ dk.size = n ∧ St g lb sf sb blk I w.heap.size dk w wr ∧ Hid (partialIns lt a b (5 - s) i dk = partialIns lt a b 5 (a + 1) d))
  case atStart => exact ⟨a + 1, 0, d, by go_num, rfl, by omega, by omega, by omega, by omega, hd, S0, Lib.hid rfl⟩
  case round =>
    clear S0
    obtain ⟨i, s, dk, rfl, rfl, hs5, hg1, hai, hib, hsk, S, HO⟩ := hrel
    by_cases hs : s < 5
    · have hsz5 : (s : Int) < 5 := by omega
      go_wp2
      go_loopg [7] (b - i) (fun g2 vi wr2 => ∃ (kx : Nat), vi = .int .i64 kx ∧ i ≤ kx ∧ kx ≤ b ∧ b - kx ≤ g2 ∧ St g lb sf sb blk I w.heap.size dk w wr2 ∧ Hid (scanSorted lt dk b kx = scanSorted lt dk b i))
      case atStart => exact ⟨i, rfl, Nat.le_refl _, hib, Nat.le_refl _, S, Lib.hid rfl⟩
      case round =>
        clear S
        obtain ⟨kx, rfl, hik, hkb, hg2, S, HSc⟩ := hrel
        have c0 := S.c0
        have c1 := S.c1
        by_cases hkb' : kx < b
        · have hkz : (kx : Int) < (b : Int) := by omega
          cases hlv : lt dk[kx]! dk[kx - 1]! with
          | false =>
            have hl := S.less HE.out hsk kx (kx - 1) (by omega) (by omega) kx ((kx : Int) - 1) rfl (by omega) false hlv
            go_wp2_with (go_at_fn g; refine hl.mono ?_; rintro e w' ⟨rfl, S2⟩)
            go_roundg (b - (kx + 1))
            case measure => omega
            case rel => first | exact ⟨kx + 1, by go_num, by omega, by omega, Nat.le_refl _, S2, Lib.hid (by rw [← HSc.out, scanSorted_go lt dk b kx hkb' hlv])⟩ | ((repeat apply Exists.intro); exact ⟨⟨kx + 1, by go_num, by omega, by omega, Nat.le_refl _, S2, Lib.hid (by rw [← HSc.out, scanSorted_go lt dk b kx hkb' hlv])⟩, rfl⟩)
          | true =>
            have hl := S.less HE.out hsk kx (kx - 1) (by omega) (by omega) kx ((kx : Int) - 1) rfl (by omega) true hlv
            have HK : Hid (scanSorted lt dk b i = kx) := Lib.hid (by rw [← HSc.out, scanSorted_stop lt dk b kx (Or.inr hlv)])
            have hkne : ((kx : Int) == (b : Int)) = false := beq_eq_false_iff_ne.2 (by omega)
            by_cases h50 : b - a < 50
            · have h50z : (b : Int) - (a : Int) < 50 := by omega
              go_wp2_with (go_at_fn g; refine hl.mono ?_; rintro e w' ⟨rfl, S2⟩)
              have hv : partialInsertionSort lt d a b = (dk, false) := by
                unfold partialInsertionSort
                rw [← HO.out, pi_short lt a b s i dk hs (by rw [HK.out]; omega) h50]
              rw [hv]
              go_ret
              exact ⟨rfl, S2.i, S2.k⟩
            · have h50z : ¬ ((b : Int) - (a : Int) < 50) := by omega
              have hX1 : (swp dk kx (kx - 1)).size = n := by rw [size_swp]; exact hsk
              by_cases hka : kx - a ≥ 2
              · have hkaz : (2 : Int) ≤ (kx : Int) - (a : Int) := by omega
                go_wp2_with (go_at_fn g; refine hl.mono ?_; rintro e w' ⟨rfl, S2'⟩; have c1S2 := S2'.c1; obtain ⟨wS2, hswS2, S2⟩ := S2'.swap HE.out hsk kx (kx - 1) (by omega) (by omega) kx ((kx : Int) - 1) rfl (by omega))
                go_loopg [9] (kx - 1) (fun g3 vj wr3 => ∃ (j : Nat) (dj : Array α), vj = .int .i64 j ∧ j ≤ kx - 1 ∧ j ≤ g3 ∧ dj.size = n ∧ St g lb sf sb blk I w.heap.size dj w wr3 ∧ Hid (shiftDown lt j dj = shiftDown lt (kx - 1) (swp dk kx (kx - 1))))
                case atStart => exact ⟨kx - 1, (swp dk kx (kx - 1)), by congr 1; omega, Nat.le_refl _, Nat.le_refl _, hX1, S2, Lib.hid rfl⟩
                case round =>
                  obtain ⟨j, dj, rfl, hjk, hg3, hsj, Sd, HDn⟩ := hrel
                  have c0d := Sd.c0
                  have c1d := Sd.c1
                  by_cases hj1 : 1 ≤ j
                  · have hj1z : (1 : Int) ≤ (j : Int) := by omega
                    cases hlv2 : lt dj[j]! dj[j - 1]! with
                    | true =>
                      have hl2 := Sd.less HE.out hsj j (j - 1) (by omega) (by omega) j ((j : Int) - 1) rfl (by omega) true hlv2
                      go_wp2_with (go_at_fn g; refine hl2.mono ?_; rintro e w' ⟨rfl, S4'⟩; have c1S4 := S4'.c1; obtain ⟨wS4, hswS4, S4⟩ := S4'.swap HE.out hsj j (j - 1) (by omega) (by omega) j ((j : Int) - 1) rfl (by omega))
                      go_roundg (j - 1)
                      case measure => omega
                      case rel => first | exact ⟨j - 1, swp dj j (j - 1), by congr 1; omega, by omega, Nat.le_refl _, by rw [size_swp]; exact hsj, S4, Lib.hid (by rw [← HDn.out, shiftDown_go lt j dj hj1 hlv2])⟩ | ((repeat apply Exists.intro); exact ⟨⟨j - 1, swp dj j (j - 1), by congr 1; omega, by omega, Nat.le_refl _, by rw [size_swp]; exact hsj, S4, Lib.hid (by rw [← HDn.out, shiftDown_go lt j dj hj1 hlv2])⟩, rfl⟩)
                    | false =>
                      have hl2 := Sd.less HE.out hsj j (j - 1) (by omega) (by omega) j ((j : Int) - 1) rfl (by omega) false hlv2
                      have HD : Hid (fixDown lt a kx (swp dk kx (kx - 1)) = dj) := Lib.hid (by unfold fixDown; rw [if_pos hka, ← HDn.out, shiftDown_stop lt j dj (Or.inr hlv2)])
                      by_cases hbk : b - kx ≥ 2
                      · have hbkz : (2 : Int) ≤ (b : Int) - (kx : Int) := by omega
                        go_wp2_with (go_at_fn g; refine hl2.mono ?_; rintro e w' ⟨rfl, S5⟩)
                        go_loopg [10] (b - (kx + 1)) (fun g4 vj wr4 => ∃ (ju : Nat) (du : Array α), vj = .int .i64 ju ∧ kx + 1 ≤ ju ∧ ju ≤ b ∧ b - ju ≤ g4 ∧ du.size = n ∧ St g lb sf sb blk I w.heap.size du w wr4 ∧ Hid (shiftUp lt b ju du = shiftUp lt b (kx + 1) dj))
                        case atStart => exact ⟨kx + 1, dj, by go_num, Nat.le_refl _, by omega, Nat.le_refl _, hsj, S5, Lib.hid rfl⟩
                        case round =>
                          obtain ⟨ju, du, rfl, hkj, hjb, hg4, hsu, Su, HU⟩ := hrel
                          have c0u := Su.c0
                          have c1u := Su.c1
                          by_cases hjb' : ju < b
                          · have hjz : (ju : Int) < (b : Int) := by omega
                            cases hlv3 : lt du[ju]! du[ju - 1]! with
                            | true =>
                              have hl3 := Su.less HE.out hsu ju (ju - 1) (by omega) (by omega) ju ((ju : Int) - 1) rfl (by omega) true hlv3
                              go_wp2_with (go_at_fn g; refine hl3.mono ?_; rintro e w' ⟨rfl, Sv'⟩; have c1Sv := Sv'.c1; obtain ⟨wSv, hswSv, Sv⟩ := Sv'.swap HE.out hsu ju (ju - 1) (by omega) (by omega) ju ((ju : Int) - 1) rfl (by omega))
                              go_roundg (b - (ju + 1))
                              case measure => omega
                              case rel => first | exact ⟨ju + 1, swp du ju (ju - 1), by go_num, by omega, by omega, Nat.le_refl _, by rw [size_swp]; exact hsu, Sv, Lib.hid (by rw [← HU.out, shiftUp_go lt b ju du hjb' hlv3])⟩ | ((repeat apply Exists.intro); exact ⟨⟨ju + 1, swp du ju (ju - 1), by go_num, by omega, by omega, Nat.le_refl _, by rw [size_swp]; exact hsu, Sv, Lib.hid (by rw [← HU.out, shiftUp_go lt b ju du hjb' hlv3])⟩, rfl⟩)
                            | false =>
                              have hl3 := Su.less HE.out hsu ju (ju - 1) (by omega) (by omega) ju ((ju : Int) - 1) rfl (by omega) false hlv3
                              go_wp2_with (go_at_fn g; refine hl3.mono ?_; rintro e w' ⟨rfl, Sv⟩)
                              go_roundg (5 - (s + 1))
                              case measure => omega
                              case rel => first | exact ⟨kx, s + 1, du, rfl, by go_num, by omega, Nat.le_refl _, by omega, by omega, hsu, Sv, Lib.hid (by rw [← HO.out, pi_go lt a b s i kx dk hs HK.out (by omega) h50, HD.out, show fixUp lt b kx dj = du from by unfold fixUp; rw [if_pos hbk, ← HU.out, shiftUp_stop lt b ju du (Or.inr hlv3)]])⟩ | ((repeat apply Exists.intro); exact ⟨⟨kx, s + 1, du, rfl, by go_num, by omega, Nat.le_refl _, by omega, by omega, hsu, Sv, Lib.hid (by rw [← HO.out, pi_go lt a b s i kx dk hs HK.out (by omega) h50, HD.out, show fixUp lt b kx dj = du from by unfold fixUp; rw [if_pos hbk, ← HU.out, shiftUp_stop lt b ju du (Or.inr hlv3)]])⟩, rfl⟩)
                          · have hjz : ¬ (ju : Int) < (b : Int) := by omega
                            go_wp2
                            go_roundg (5 - (s + 1))
                            case measure => omega
                            case rel => first | exact ⟨kx, s + 1, du, rfl, by go_num, by omega, Nat.le_refl _, by omega, by omega, hsu, Su, Lib.hid (by rw [← HO.out, pi_go lt a b s i kx dk hs HK.out (by omega) h50, HD.out, show fixUp lt b kx dj = du from by unfold fixUp; rw [if_pos hbk, ← HU.out, shiftUp_stop lt b ju du (Or.inl hjb')]])⟩ | ((repeat apply Exists.intro); exact ⟨⟨kx, s + 1, du, rfl, by go_num, by omega, Nat.le_refl _, by omega, by omega, hsu, Su, Lib.hid (by rw [← HO.out, pi_go lt a b s i kx dk hs HK.out (by omega) h50, HD.out, show fixUp lt b kx dj = du from by unfold fixUp; rw [if_pos hbk, ← HU.out, shiftUp_stop lt b ju du (Or.inl hjb')]])⟩, rfl⟩)
                      · have hbkz : ¬ (2 : Int) ≤ (b : Int) - (kx : Int) := by omega
                        go_wp2_with (go_at_fn g; refine hl2.mono ?_; rintro e w' ⟨rfl, S5⟩)
                        go_roundg (5 - (s + 1))
                        case measure => omega
                        case rel => first | exact ⟨kx, s + 1, dj, rfl, by go_num, by omega, Nat.le_refl _, by omega, by omega, hsj, S5, Lib.hid (by rw [← HO.out, pi_go lt a b s i kx dk hs HK.out (by omega) h50, HD.out, show fixUp lt b kx dj = dj from by unfold fixUp; rw [if_neg hbk]])⟩ | ((repeat apply Exists.intro); exact ⟨⟨kx, s + 1, dj, rfl, by go_num, by omega, Nat.le_refl _, by omega, by omega, hsj, S5, Lib.hid (by rw [← HO.out, pi_go lt a b s i kx dk hs HK.out (by omega) h50, HD.out, show fixUp lt b kx dj = dj from by unfold fixUp; rw [if_neg hbk]])⟩, rfl⟩)
                  · have hj1z : ¬ (1 : Int) ≤ (j : Int) := by omega
                    have HD : Hid (fixDown lt a kx (swp dk kx (kx - 1)) = dj) := Lib.hid (by unfold fixDown; rw [if_pos hka, ← HDn.out, shiftDown_stop lt j dj (Or.inl (by omega))])
                    by_cases hbk : b - kx ≥ 2
                    · have hbkz : (2 : Int) ≤ (b : Int) - (kx : Int) := by omega
                      go_wp2
                      go_loopg [10] (b - (kx + 1)) (fun g4 vj wr4 => ∃ (ju : Nat) (du : Array α), vj = .int .i64 ju ∧ kx + 1 ≤ ju ∧ ju ≤ b ∧ b - ju ≤ g4 ∧ du.size = n ∧ St g lb sf sb blk I w.heap.size du w wr4 ∧ Hid (shiftUp lt b ju du = shiftUp lt b (kx + 1) dj))
                      case atStart => exact ⟨kx + 1, dj, by go_num, Nat.le_refl _, by omega, Nat.le_refl _, hsj, Sd, Lib.hid rfl⟩
                      case round =>
                        obtain ⟨ju, du, rfl, hkj, hjb, hg4, hsu, Su, HU⟩ := hrel
                        have c0u := Su.c0
                        have c1u := Su.c1
                        by_cases hjb' : ju < b
                        · have hjz : (ju : Int) < (b : Int) := by omega
                          cases hlv3 : lt du[ju]! du[ju - 1]! with
                          | true =>
                            have hl3 := Su.less HE.out hsu ju (ju - 1) (by omega) (by omega) ju ((ju : Int) - 1) rfl (by omega) true hlv3
                            go_wp2_with (go_at_fn g; refine hl3.mono ?_; rintro e w' ⟨rfl, Sv'⟩; have c1Sv := Sv'.c1; obtain ⟨wSv, hswSv, Sv⟩ := Sv'.swap HE.out hsu ju (ju - 1) (by omega) (by omega) ju ((ju : Int) - 1) rfl (by omega))
                            go_roundg (b - (ju + 1))
                            case measure => omega
                            case rel => first | exact ⟨ju + 1, swp du ju (ju - 1), by go_num, by omega, by omega, Nat.le_refl _, by rw [size_swp]; exact hsu, Sv, Lib.hid (by rw [← HU.out, shiftUp_go lt b ju du hjb' hlv3])⟩ | ((repeat apply Exists.intro); exact ⟨⟨ju + 1, swp du ju (ju - 1), by go_num, by omega, by omega, Nat.le_refl _, by rw [size_swp]; exact hsu, Sv, Lib.hid (by rw [← HU.out, shiftUp_go lt b ju du hjb' hlv3])⟩, rfl⟩)
                          | false =>
                            have hl3 := Su.less HE.out hsu ju (ju - 1) (by omega) (by omega) ju ((ju : Int) - 1) rfl (by omega) false hlv3
                            go_wp2_with (go_at_fn g; refine hl3.mono ?_; rintro e w' ⟨rfl, Sv⟩)
                            go_roundg (5 - (s + 1))
                            case measure => omega
                            case rel => first | exact ⟨kx, s + 1, du, rfl, by go_num, by omega, Nat.le_refl _, by omega, by omega, hsu, Sv, Lib.hid (by rw [← HO.out, pi_go lt a b s i kx dk hs HK.out (by omega) h50, HD.out, show fixUp lt b kx dj = du from by unfold fixUp; rw [if_pos hbk, ← HU.out, shiftUp_stop lt b ju du (Or.inr hlv3)]])⟩ | ((repeat apply Exists.intro); exact ⟨⟨kx, s + 1, du, rfl, by go_num, by omega, Nat.le_refl _, by omega, by omega, hsu, Sv, Lib.hid (by rw [← HO.out, pi_go lt a b s i kx dk hs HK.out (by omega) h50, HD.out, show fixUp lt b kx dj = du from by unfold fixUp; rw [if_pos hbk, ← HU.out, shiftUp_stop lt b ju du (Or.inr hlv3)]])⟩, rfl⟩)
                        · have hjz : ¬ (ju : Int) < (b : Int) := by omega
                          go_wp2
                          go_roundg (5 - (s + 1))
                          case measure => omega
                          case rel => first | exact ⟨kx, s + 1, du, rfl, by go_num, by omega, Nat.le_refl _, by omega, by omega, hsu, Su, Lib.hid (by rw [← HO.out, pi_go lt a b s i kx dk hs HK.out (by omega) h50, HD.out, show fixUp lt b kx dj = du from by unfold fixUp; rw [if_pos hbk, ← HU.out, shiftUp_stop lt b ju du (Or.inl hjb')]])⟩ | ((repeat apply Exists.intro); exact ⟨⟨kx, s + 1, du, rfl, by go_num, by omega, Nat.le_refl _, by omega, by omega, hsu, Su, Lib.hid (by rw [← HO.out, pi_go lt a b s i kx dk hs HK.out (by omega) h50, HD.out, show fixUp lt b kx dj = du from by unfold fixUp; rw [if_pos hbk, ← HU.out, shiftUp_stop lt b ju du (Or.inl hjb')]])⟩, rfl⟩)
                    · have hbkz : ¬ (2 : Int) ≤ (b : Int) - (kx : Int) := by omega
                      go_wp2
                      go_roundg (5 - (s + 1))
                      case measure => omega
                      case rel => first | exact ⟨kx, s + 1, dj, rfl, by go_num, by omega, Nat.le_refl _, by omega, by omega, hsj, Sd, Lib.hid (by rw [← HO.out, pi_go lt a b s i kx dk hs HK.out (by omega) h50, HD.out, show fixUp lt b kx dj = dj from by unfold fixUp; rw [if_neg hbk]])⟩ | ((repeat apply Exists.intro); exact ⟨⟨kx, s + 1, dj, rfl, by go_num, by omega, Nat.le_refl _, by omega, by omega, hsj, Sd, Lib.hid (by rw [← HO.out, pi_go lt a b s i kx dk hs HK.out (by omega) h50, HD.out, show fixUp lt b kx dj = dj from by unfold fixUp; rw [if_neg hbk]])⟩, rfl⟩)
              · have hkaz : ¬ (2 : Int) ≤ (kx : Int) - (a : Int) := by omega
                have HD : Hid (fixDown lt a kx (swp dk kx (kx - 1)) = (swp dk kx (kx - 1))) := Lib.hid (by unfold fixDown; rw [if_neg hka])
                by_cases hbk : b - kx ≥ 2
                · have hbkz : (2 : Int) ≤ (b : Int) - (kx : Int) := by omega
                  go_wp2_with (go_at_fn g; refine hl.mono ?_; rintro e w' ⟨rfl, S2'⟩; have c1S2 := S2'.c1; obtain ⟨wS2, hswS2, S2⟩ := S2'.swap HE.out hsk kx (kx - 1) (by omega) (by omega) kx ((kx : Int) - 1) rfl (by omega))
                  go_loopg [10] (b - (kx + 1)) (fun g4 vj wr4 => ∃ (ju : Nat) (du : Array α), vj = .int .i64 ju ∧ kx + 1 ≤ ju ∧ ju ≤ b ∧ b - ju ≤ g4 ∧ du.size = n ∧ St g lb sf sb blk I w.heap.size du w wr4 ∧ Hid (shiftUp lt b ju du = shiftUp lt b (kx + 1) (swp dk kx (kx - 1))))
                  case atStart => exact ⟨kx + 1, (swp dk kx (kx - 1)), by go_num, Nat.le_refl _, by omega, Nat.le_refl _, hX1, S2, Lib.hid rfl⟩
                  case round =>
                    obtain ⟨ju, du, rfl, hkj, hjb, hg4, hsu, Su, HU⟩ := hrel
                    have c0u := Su.c0
                    have c1u := Su.c1
                    by_cases hjb' : ju < b
                    · have hjz : (ju : Int) < (b : Int) := by omega
                      cases hlv3 : lt du[ju]! du[ju - 1]! with
                      | true =>
                        have hl3 := Su.less HE.out hsu ju (ju - 1) (by omega) (by omega) ju ((ju : Int) - 1) rfl (by omega) true hlv3
                        go_wp2_with (go_at_fn g; refine hl3.mono ?_; rintro e w' ⟨rfl, Sv'⟩; have c1Sv := Sv'.c1; obtain ⟨wSv, hswSv, Sv⟩ := Sv'.swap HE.out hsu ju (ju - 1) (by omega) (by omega) ju ((ju : Int) - 1) rfl (by omega))
                        go_roundg (b - (ju + 1))
                        case measure => omega
                        case rel => first | exact ⟨ju + 1, swp du ju (ju - 1), by go_num, by omega, by omega, Nat.le_refl _, by rw [size_swp]; exact hsu, Sv, Lib.hid (by rw [← HU.out, shiftUp_go lt b ju du hjb' hlv3])⟩ | ((repeat apply Exists.intro); exact ⟨⟨ju + 1, swp du ju (ju - 1), by go_num, by omega, by omega, Nat.le_refl _, by rw [size_swp]; exact hsu, Sv, Lib.hid (by rw [← HU.out, shiftUp_go lt b ju du hjb' hlv3])⟩, rfl⟩)
                      | false =>
                        have hl3 := Su.less HE.out hsu ju (ju - 1) (by omega) (by omega) ju ((ju : Int) - 1) rfl (by omega) false hlv3
                        go_wp2_with (go_at_fn g; refine hl3.mono ?_; rintro e w' ⟨rfl, Sv⟩)
                        go_roundg (5 - (s + 1))
                        case measure => omega
                        case rel => first | exact ⟨kx, s + 1, du, rfl, by go_num, by omega, Nat.le_refl _, by omega, by omega, hsu, Sv, Lib.hid (by rw [← HO.out, pi_go lt a b s i kx dk hs HK.out (by omega) h50, HD.out, show fixUp lt b kx (swp dk kx (kx - 1)) = du from by unfold fixUp; rw [if_pos hbk, ← HU.out, shiftUp_stop lt b ju du (Or.inr hlv3)]])⟩ | ((repeat apply Exists.intro); exact ⟨⟨kx, s + 1, du, rfl, by go_num, by omega, Nat.le_refl _, by omega, by omega, hsu, Sv, Lib.hid (by rw [← HO.out, pi_go lt a b s i kx dk hs HK.out (by omega) h50, HD.out, show fixUp lt b kx (swp dk kx (kx - 1)) = du from by unfold fixUp; rw [if_pos hbk, ← HU.out, shiftUp_stop lt b ju du (Or.inr hlv3)]])⟩, rfl⟩)
                    · have hjz : ¬ (ju : Int) < (b : Int) := by omega
                      go_wp2
                      go_roundg (5 - (s + 1))
                      case measure => omega
                      case rel => first | exact ⟨kx, s + 1, du, rfl, by go_num, by omega, Nat.le_refl _, by omega, by omega, hsu, Su, Lib.hid (by rw [← HO.out, pi_go lt a b s i kx dk hs HK.out (by omega) h50, HD.out, show fixUp lt b kx (swp dk kx (kx - 1)) = du from by unfold fixUp; rw [if_pos hbk, ← HU.out, shiftUp_stop lt b ju du (Or.inl hjb')]])⟩ | ((repeat apply Exists.intro); exact ⟨⟨kx, s + 1, du, rfl, by go_num, by omega, Nat.le_refl _, by omega, by omega, hsu, Su, Lib.hid (by rw [← HO.out, pi_go lt a b s i kx dk hs HK.out (by omega) h50, HD.out, show fixUp lt b kx (swp dk kx (kx - 1)) = du from by unfold fixUp; rw [if_pos hbk, ← HU.out, shiftUp_stop lt b ju du (Or.inl hjb')]])⟩, rfl⟩)
                · exfalso; omega
        · obtain rfl : kx = b := by omega
          have hkz : ¬ (kx : Int) < (kx : Int) := by omega
          go_wp2
          have hv : partialInsertionSort lt d a kx = (dk, true) := by
            unfold partialInsertionSort
            rw [← HO.out, pi_true lt a kx s i dk hs (by rw [← HSc.out, scanSorted_stop lt dk kx kx (Or.inl (by omega))])]
          rw [hv]
          go_ret
          exact ⟨rfl, S.i, S.k⟩
    · obtain rfl : s = 5 := by omega
      go_wp2
      have hv : partialInsertionSort lt d a b = (dk, false) := by
        unfold partialInsertionSort
        rw [← HO.out, pi_end]
      rw [hv]
      go_ret
      exact ⟨rfl, S.i, S.k⟩
#print axioms pins
end Go.Proofs.Ytphblfgafljelaa.Srt
