/- sort.pdqsort_func with a 'less' and a 'swap' that may make memory (printed by gen_pdq.py). -/
import Derived.Test.YtphblfgafljelaaSrtHeap
import Derived.Test.YtphblfgafljelaaSrtPart
import Derived.Test.YtphblfgafljelaaSrtPartEq
import Derived.Test.YtphblfgafljelaaSrtPins
import Derived.Test.YtphblfgafljelaaSrtChoose
import Derived.Test.YtphblfgafljelaaSrtBreak
namespace Go.Proofs.Ytphblfgafljelaa.Srt
open Go.RowKit Go.Shelf Go.Lib Go.Sort Go.Proofs.Ytphblfgafljelaa.Hp
variable {P : Program} {ρ : Ren} {α : Type} [Inhabited α]

set_option maxHeartbeats 12800000 in
set_option maxRecDepth 1000000 in
theorem pdqs (L : LaysGg.n14 P ρ) {g : Nat} {lb : Array Value} {sf : Nat} {sb : Array Value} {lt : α → α → Bool} {n blk N : Nat} {I : Array α → World → Prop} (E : EnvN P g lb sf sb lt n blk N I) (hO : SWO lt) (hn : n < 4611686018427387904) :
    ∀ (M a b limit : Nat) (d : Array α) (w : World), b - a < M → I d w → d.size = n → a ≤ b → b ≤ n → limit < 4611686018427387904 → Go.Sort.Below lt a b d →
    Calls P (ρ.f 14) #[.agg #[.func (.func g) #[] lb, .func (.func sf) #[] sb], .int .i64 a, .int .i64 b, .int .i64 limit] w fun e w' => e = .returned (.tuple #[]) ∧ I (pdq lt d a b limit true true) w' ∧ Keeps (fun b => b = blk) w w' := by
  have mixed := L.mixed; have t0 := L.t0; have a0 := L.a0; have z0 := L.z0; have v0 := L.v0; have t3 := L.t3; have a3 := L.a3; have z3 := L.z3; have v3 := L.v3; have t4 := L.t4; have a4 := L.a4; have z4 := L.z4; have v4 := L.v4; have t5 := L.t5; have a5 := L.a5; have z5 := L.z5; have v5 := L.v5; have t9 := L.t9; have a9 := L.a9; have z9 := L.z9; have v9 := L.v9; have t26 := L.t26; have a26 := L.a26; have z26 := L.z26; have v26 := L.v26; have t37 := L.t37; have a37 := L.a37; have z37 := L.z37; have v37 := L.v37; have t41 := L.t41; have a41 := L.a41; have z41 := L.z41; have v41 := L.v41; have t44 := L.t44; have a44 := L.a44; have z44 := L.z44; have v44 := L.v44; have t49 := L.t49; have a49 := L.a49; have z49 := L.z49; have v49 := L.v49; have t51 := L.t51; have a51 := L.a51; have z51 := L.z51; have v51 := L.v51; have t53 := L.t53; have a53 := L.a53; have z53 := L.z53; have v53 := L.v53; have t54 := L.t54; have a54 := L.a54; have z54 := L.z54; have v54 := L.v54; have t58 := L.t58; have a58 := L.a58; have z58 := L.z58; have v58 := L.v58; have t60 := L.t60; have a60 := L.a60; have z60 := L.z60; have v60 := L.v60; have t64 := L.t64; have a64 := L.a64; have z64 := L.z64; have v64 := L.v64; have t66 := L.t66; have a66 := L.a66; have z66 := L.z66; have v66 := L.v66; have t67 := L.t67; have a67 := L.a67; have z67 := L.z67; have v67 := L.v67
  have u44 := run_underlying L.t44
  have e26 : ∀ args w, (callFunc (ρ.f 26) args).run P w = .ok (.enter (ρ.f 26) args) w := enters_of L.f26 (by kernel_rfl) rfl
  have e27 : ∀ args w, (callFunc (ρ.f 27) args).run P w = .ok (.enter (ρ.f 27) args) w := enters_of L.f27 (by kernel_rfl) rfl
  have e28 : ∀ args w, (callFunc (ρ.f 28) args).run P w = .ok (.enter (ρ.f 28) args) w := enters_of L.f28 (by kernel_rfl) rfl
  have e29 : ∀ args w, (callFunc (ρ.f 29) args).run P w = .ok (.enter (ρ.f 29) args) w := enters_of L.f29 (by kernel_rfl) rfl
  have e30 : ∀ args w, (callFunc (ρ.f 30) args).run P w = .ok (.enter (ρ.f 30) args) w := enters_of L.f30 (by kernel_rfl) rfl
  have e31 : ∀ args w, (callFunc (ρ.f 31) args).run P w = .ok (.enter (ρ.f 31) args) w := enters_of L.f31 (by kernel_rfl) rfl
  have e32 : ∀ args w, (callFunc (ρ.f 32) args).run P w = .ok (.enter (ρ.f 32) args) w := enters_of L.f32 (by kernel_rfl) rfl
  have e33 : ∀ args w, (callFunc (ρ.f 33) args).run P w = .ok (.enter (ρ.f 33) args) w := enters_of L.f33 (by kernel_rfl) rfl
  have e14 : ∀ args w, (callFunc (ρ.f 14) args).run P w = .ok (.enter (ρ.f 14) args) w := enters_of L.f14 (by kernel_rfl) rfl
  have eg := E.eg
  have HE := Lib.hid E
  clear E
  intro M
  induction M with
  | zero => intro _ _ _ _ _ h; exact absurd h (Nat.not_lt_zero _)
  | succ M ih =>
    intro a b limit d w hM hI hd hab hb hlimit hBel0
    have IH := Lib.hid ih
    clear ih
    have S0 := St.start HE.out.toEnv hI (ρ.t 44)
    clear hI
    go_enter L.f14, BodyGg.n14_ntmps ρ
    go_wp2
    go_loopg [1, 2, 3, 8, 9] (b - a) (fun kx s1 s2 s3 s8 s9 wr => ∃ (a' b' lim : Nat) (wb wp : Bool) (dk : Array α), s1 = .int .i64 a' ∧ s2 = .int .i64 b' ∧ s3 = .int .i64 lim ∧ s8 = .bool wb ∧ s9 = .bool wp ∧
      a' ≤ b' ∧ b' ≤ n ∧ b' - a' ≤ kx ∧ kx ≤ b - a ∧ lim ≤ limit ∧ dk.size = n ∧ Go.Sort.Below lt a' b' dk ∧ St g lb sf sb blk I w.heap.size dk w wr ∧ Hid (pdq lt dk a' b' lim wb wp = pdq lt d a b limit true true))
    case atStart => exact ⟨a, b, limit, true, true, d, rfl, rfl, rfl, rfl, rfl, hab, hb, Nat.le_refl _, Nat.le_refl _, Nat.le_refl _, hd, hBel0, S0, Lib.hid rfl⟩
    case round =>
      clear S0
      obtain ⟨a', b', lim, wb, wp, dk, rfl, rfl, rfl, rfl, rfl, hab', hb', hkx, hkN, hlim, hds, hBel, S, A⟩ := hrel
      have x0 := S.c0
      have x1 := S.c1
      by_cases h12 : b' - a' ≤ 12
      · have h12z : (b' : Int) - (a' : Int) ≤ 12 := by omega
        have hc := insertion (P := P) (ρ := ρ) { L with } HE.out.toEnv a' b' dk wr S.i hds hab' hb' hn
        go_wp2_with (go_at_fn (ρ.f 26); refine hc.mono ?_; rintro e w1 ⟨rfl, hI1, hK1⟩)
        (try simp only [Exit.inBlock, Exit.then]); refine bodyPost_ret (results_none rfl _ _ _) rfl ?_
        rw [← A.out, pdq_small h12]
        exact ⟨rfl, hI1, (S.on hI1 hK1).k⟩
      · have h12z : ¬ ((b' : Int) - (a' : Int) ≤ 12) := by omega
        by_cases hl0 : lim = 0
        · subst hl0
          have hc := heaped (P := P) (ρ := ρ) { L with } HE.out.toEnv a' b' dk wr S.i hds hab' hb' hn
          go_wp2_with (go_at_fn (ρ.f 27); refine hc.mono ?_; rintro e w1 ⟨rfl, hI1, hK1⟩)
          (try simp only [Exit.inBlock, Exit.then]); refine bodyPost_ret (results_none rfl _ _ _) rfl ?_
          rw [← A.out, pdq_heap h12 rfl]
          exact ⟨rfl, hI1, (S.on hI1 hK1).k⟩
        · have hl0z : ¬ ((lim : Int) = 0) := by omega
          obtain ⟨s1, B1, hc1, s2, B2, hpv, s3, B3⟩ := rd_facts (lt := lt) (limit := lim) (wb := wb) (wp := wp) hO partialInsertionSort_holds reverseRange_holds (show a' < b' by omega) (show b' ≤ dk.size by omega) hBel
          have z1 : ((rd lt dk a' b' lim wb wp).d1).size = n := s1.trans hds
          have z2 : ((rd lt dk a' b' lim wb wp).d2).size = n := s2.trans hds
          have z3 : ((rd lt dk a' b' lim wb wp).pi.1).size = n := s3.trans hds
          go_upto_if 35 with fail
          go_cut [3] from 19 (fun s3 wc => s3 = .int .i64 (rd lt dk a' b' lim wb wp).lim ∧ St g lb sf sb blk I w.heap.size (rd lt dk a' b' lim wb wp).d1 w wc)
          case first =>
            cases wb
            · have hc := broken (P := P) (ρ := ρ) { L with } HE.out a' b' dk wr S.i hds hab' hb' hn
              go_wp2_with (go_at_fn (ρ.f 28); refine hc.mono ?_; rintro e w1 ⟨rfl, hI1, hK1⟩)
              go_meet
              case rel =>
                refine ⟨?_, S.on hI1 hK1⟩
                show Value.int .i64 ((lim : Int) - 1) = Value.int .i64 ((lim - 1 : Nat) : Int)
                congr 1
                omega
            · go_wp2_with fail
              go_meet
              case rel => exact ⟨rfl, S⟩
          case rest =>
            clear S x0 x1
            obtain ⟨rfl, S1⟩ := hcut
            have y0 := S1.c0
            have y1 := S1.c1
            have hc17 : Calls P (ρ.f 29) #[.agg #[.func (.func g) #[] lb, .func (.func sf) #[] sb], .int .i64 a', .int .i64 b'] wc fun e w' => e = .returned (.tuple #[.int .i64 (rd lt dk a' b' lim wb wp).c.1, .int .i64 (hintCode (rd lt dk a' b' lim wb wp).c.2)]) ∧ I (rd lt dk a' b' lim wb wp).d1 w' ∧ Keeps (fun b => b = blk) wc w' :=
              choose (P := P) (ρ := ρ) { L with } HE.out a' b' (rd lt dk a' b' lim wb wp).d1 wc S1.i z1 (by omega) hb' hn
            go_upto_if 50 with (go_at_fn (ρ.f 29); refine hc17.mono ?_; rintro e w2 ⟨rfl, hI2, hK2⟩)
            have S2 := S1.on hI2 hK2
            clear S1 y0 y1 hI2 hK2 hc17
            have y0 := S2.c0
            have y1 := S2.c1
            go_cut [11, 12] from 19 (fun s11 s12 wc => s11 = .int .i64 (rd lt dk a' b' lim wb wp).pivot ∧ s12 = .int .i64 (hintCode (rd lt dk a' b' lim wb wp).hint) ∧ St g lb sf sb blk I w.heap.size (rd lt dk a' b' lim wb wp).d2 w wc)
            case first =>
              by_cases hh : (rd lt dk a' b' lim wb wp).c.2 = .decreasing
              · have hcode : hintCode (rd lt dk a' b' lim wb wp).c.2 = 2 := by rw [hh]; rfl
                obtain ⟨e2, epv, eht⟩ := rd_dec hh
                have hc18 := reversed (P := P) (ρ := ρ) { L with } HE.out.toEnv a' b' (rd lt dk a' b' lim wb wp).d1 w2 S2.i z1 hab' hb' hn
                go_wp2_with (go_at_fn (ρ.f 30); refine hc18.mono ?_; rintro e w3 ⟨rfl, hI3, hK3⟩)
                go_meet
                case rel =>
                  refine ⟨?_, by rw [eht]; rfl, by rw [e2]; exact S2.on hI3 hK3⟩
                  rw [epv]
                  congr 1
                  omega
              · have hcode : ¬ (hintCode (rd lt dk a' b' lim wb wp).c.2 = 2) := fun h => hh (hintCode_two h)
                obtain ⟨e2, epv, eht⟩ := rd_not hh
                go_wp2_with fail
                go_meet
                case rel => exact ⟨by rw [epv], by rw [eht], by rw [e2]; exact S2⟩
            case rest =>
              clear S2 y0 y1
              obtain ⟨rfl, rfl, S3⟩ := hcut
              have v0 := S3.c0
              have v1 := S3.c1
              go_upto_region 16 with fail
              go_cut [12, 68] from 19 (fun s12 s68 wx => s12 = .int .i64 (hintCode (rd lt dk a' b' lim wb wp).hint) ∧ s68 = .bool (wb && wp && decide ((rd lt dk a' b' lim wb wp).hint = .increasing)) ∧ wx = wc)
              case first =>
                cases wb <;> cases wp <;> cases hh3 : (rd lt dk a' b' lim _ _).hint <;>
                  (have hcode3 := congrArg hintCode hh3
                   simp only [hintCode] at hcode3
                   go_wp2_with fail
                   go_meet
                   exact ⟨by simp [hh3, hintCode], by simp [hh3, hintCode], rfl⟩)
              case rest =>
                obtain ⟨rfl, rfl, rfl⟩ := hcut
                go_upto_if 68 with fail
                go_cut [] from 19 (fun wx => (rd lt dk a' b' lim wb wp).pi.2 = false ∧ St g lb sf sb blk I w.heap.size (rd lt dk a' b' lim wb wp).pi.1 w wx)
                case first =>
                  cases h68 : (wb && wp && decide ((rd lt dk a' b' lim wb wp).hint = .increasing))
                  · have epi := rd_pi_no h68
                    go_wp2_with fail
                    go_meet
                    case rel => exact ⟨by rw [epi], by rw [epi]; exact S3⟩
                  · have epi := rd_pi_yes h68
                    have hc19 := pins (P := P) (ρ := ρ) { L with } HE.out.toEnv a' b' (rd lt dk a' b' lim wb wp).d2 wc S3.i z2 (by omega) hb' hn
                    rw [← epi] at hc19
                    go_wp2_with (go_at_fn (ρ.f 31); refine hc19.mono ?_; rintro e w4 ⟨rfl, hI4, hK4⟩)
                    all_goals first
                      | (have hp2 : (rd lt dk a' b' lim wb wp).pi.2 = false := by rw [epi]; assumption
                         go_meet
                         exact ⟨hp2, S3.on hI4 hK4⟩)
                      | (have hp2 : (rd lt dk a' b' lim wb wp).pi.2 = true := by rw [epi]; assumption
                         (try simp only [Exit.inBlock, Exit.then]); refine bodyPost_ret (results_none rfl _ _ _) rfl ?_
                         rw [← A.out, pdq_done h12 hl0 hp2]
                         exact ⟨rfl, hI4, (S3.on hI4 hK4).k⟩)
                case rest =>
                  clear S3 v0 v1
                  obtain ⟨hp2, S5⟩ := hcut
                  have t0' := S5.c0
                  have t1' := S5.c1
                  go_upto_region 18 with fail
                  go_cut [83] from 19 (fun s83 wx => s83 = .bool (decide (a' > 0) && !lt (rd lt dk a' b' lim wb wp).pi.1[a' - 1]! (rd lt dk a' b' lim wb wp).pi.1[(rd lt dk a' b' lim wb wp).pivot]!) ∧ St g lb sf sb blk I w.heap.size (rd lt dk a' b' lim wb wp).pi.1 w wx)
                  case first =>
                    rcases Nat.eq_zero_or_pos a' with ha0 | ha0
                    · have ha0z : decide ((a' : Int) > 0) = false := decide_eq_false (by omega)
                      go_wp2_with fail
                      go_meet
                      case rel => exact ⟨by simp [ha0], S5⟩
                    · have ha0z : (a' : Int) > 0 := by omega
                      cases hlv : lt (rd lt dk a' b' lim wb wp).pi.1[a' - 1]! (rd lt dk a' b' lim wb wp).pi.1[(rd lt dk a' b' lim wb wp).pivot]!
                      · have hl := S5.less HE.out.toEnv z3 (a' - 1) (rd lt dk a' b' lim wb wp).pivot (by omega) (by omega) ((a' : Int) - 1) (rd lt dk a' b' lim wb wp).pivot (by omega) rfl false hlv
                        go_wp2_with (go_at_fn g; refine hl.mono ?_; rintro e w' ⟨rfl, S6⟩)
                        go_meet
                        exact ⟨by simp [ha0, hlv], S6⟩
                      · have hl := S5.less HE.out.toEnv z3 (a' - 1) (rd lt dk a' b' lim wb wp).pivot (by omega) (by omega) ((a' : Int) - 1) (rd lt dk a' b' lim wb wp).pivot (by omega) rfl true hlv
                        go_wp2_with (go_at_fn g; refine hl.mono ?_; rintro e w' ⟨rfl, S6⟩)
                        go_meet
                        exact ⟨by simp [ha0, hlv], S6⟩
                  case rest =>
                    clear S5 t0' t1'
                    obtain ⟨rfl, S6⟩ := hcut
                    have q0 := S6.c0
                    have q1 := S6.c1
                    cases h87 : (decide (a' > 0) && !lt (rd lt dk a' b' lim wb wp).pi.1[a' - 1]! (rd lt dk a' b' lim wb wp).pi.1[(rd lt dk a' b' lim wb wp).pivot]!)
                    · obtain ⟨mid, ap, d4, hx⟩ : ∃ mid ap d4, partition lt (rd lt dk a' b' lim wb wp).pi.1 a' b' (rd lt dk a' b' lim wb wp).pivot = (mid, ap, d4) := ⟨(partition lt (rd lt dk a' b' lim wb wp).pi.1 a' b' (rd lt dk a' b' lim wb wp).pivot).1, (partition lt (rd lt dk a' b' lim wb wp).pi.1 a' b' (rd lt dk a' b' lim wb wp).pivot).2.1, (partition lt (rd lt dk a' b' lim wb wp).pi.1 a' b' (rd lt dk a' b' lim wb wp).pivot).2.2, rfl⟩
                      obtain ⟨r1, r2, r3, r4, r5, r6, r7⟩ := round_part hO (partition_holds lt) hpv.1 hpv.2 (show b' ≤ (rd lt dk a' b' lim wb wp).pi.1.size by omega) B3 hx
                      have hc22 := parted (P := P) (ρ := ρ) { L with } HE.out.toEnv a' b' (rd lt dk a' b' lim wb wp).pivot (rd lt dk a' b' lim wb wp).pi.1 wc S6.i z3 hpv.1 hpv.2 hb' hn
                      rw [hx] at hc22
                      have X := Lib.hid hx
                      clear hx
                      go_upto_if 109 with (go_at_fn (ρ.f 33); refine hc22.mono ?_; rintro e w7 ⟨rfl, hI7, hK7⟩)
                      have hx := X.out
                      have hs4 : d4.size = n := r3.trans z3
                      have S7 := S6.on hI7 hK7
                      clear S6 q0 q1 hc22 hI7 hK7
                      have q0 := S7.c0
                      have q1 := S7.c1
                      by_cases h4 : mid - a' < b' - mid
                      · have h4z : (mid : Int) - (a' : Int) < (b' : Int) - (mid : Int) := by omega
                        have hih := IH.out a' mid (rd lt dk a' b' lim wb wp).lim d4 w7 (by omega) S7.i hs4 (by omega) (by omega) (Nat.lt_of_le_of_lt (Nat.le_trans rd_lim_le hlim) hlimit) r4
                        obtain ⟨pL, sL⟩ := pdq_sorts lt hO d4 a' mid (rd lt dk a' b' lim wb wp).lim true true (by omega) (by omega) r4
                        go_wp2_with (go_at_fn (ρ.f 14); refine hih.mono ?_; rintro e w8 ⟨rfl, hI8, hK8⟩)
                        go_roundg (b' - (mid + 1))
                        case measure => omega
                        case rel =>
                          refine ⟨mid + 1, b', (rd lt dk a' b' lim wb wp).lim, decide (mid - a' ≥ (b' - a') / 8), ap, pdq lt d4 a' mid (rd lt dk a' b' lim wb wp).lim true true, by simp, rfl, rfl, ?_, rfl, by omega, by omega, Nat.le_refl _, by omega, Nat.le_trans rd_lim_le hlim, by rw [pL.1, hs4], (r6 _ pL sL).1, S7.on hI8 hK8, Lib.hid ?_⟩
                          · exact congrArg Value.bool (eighth (by omega) (by omega))
                          · rw [← A.out, pdq_left h12 hl0 hp2 h87 (by rw [hx]; exact ⟨r1, r2⟩) (by rw [hx]; exact h4), hx]
                      · have h4z : ¬ ((mid : Int) - (a' : Int) < (b' : Int) - (mid : Int)) := by omega
                        have hih := IH.out (mid + 1) b' (rd lt dk a' b' lim wb wp).lim d4 w7 (by omega) S7.i hs4 (by omega) (by omega) (Nat.lt_of_le_of_lt (Nat.le_trans rd_lim_le hlim) hlimit) r5
                        rw [show ((mid + 1 : Nat) : Int) = (mid : Int) + 1 by omega] at hih
                        obtain ⟨pL, sL⟩ := pdq_sorts lt hO d4 (mid + 1) b' (rd lt dk a' b' lim wb wp).lim true true (by omega) (by omega) r5
                        go_wp2_with (go_at_fn (ρ.f 14); refine hih.mono ?_; rintro e w8 ⟨rfl, hI8, hK8⟩)
                        go_roundg (mid - a')
                        case measure => omega
                        case rel =>
                          refine ⟨a', mid, (rd lt dk a' b' lim wb wp).lim, decide (b' - mid ≥ (b' - a') / 8), ap, pdq lt d4 (mid + 1) b' (rd lt dk a' b' lim wb wp).lim true true, rfl, rfl, rfl, ?_, rfl, by omega, by omega, Nat.le_refl _, by omega, Nat.le_trans rd_lim_le hlim, by rw [pL.1, hs4], (r7 _ pL sL).1, S7.on hI8 hK8, Lib.hid ?_⟩
                          · exact congrArg Value.bool (eighth (by omega) (by omega))
                          · rw [← A.out, pdq_right h12 hl0 hp2 h87 (by rw [hx]; exact ⟨r1, r2⟩) (by rw [hx]; exact h4), hx]
                    · have h87' := h87
                      simp only [Bool.and_eq_true, decide_eq_true_eq, Bool.not_eq_true'] at h87'
                      obtain ⟨mid, d4, hx⟩ : ∃ mid d4, partitionEqual lt (rd lt dk a' b' lim wb wp).pi.1 a' b' (rd lt dk a' b' lim wb wp).pivot = (mid, d4) := ⟨(partitionEqual lt (rd lt dk a' b' lim wb wp).pi.1 a' b' (rd lt dk a' b' lim wb wp).pivot).1, (partitionEqual lt (rd lt dk a' b' lim wb wp).pi.1 a' b' (rd lt dk a' b' lim wb wp).pivot).2, rfl⟩
                      obtain ⟨r1, r2, r3, r4, _⟩ := round_eq hO (partitionEqual_holds lt) h87'.1 hpv.1 hpv.2 (show b' ≤ (rd lt dk a' b' lim wb wp).pi.1.size by omega) B3 h87'.2 hx
                      have hc21 := parted_eq (P := P) (ρ := ρ) { L with } HE.out.toEnv a' b' (rd lt dk a' b' lim wb wp).pivot (rd lt dk a' b' lim wb wp).pi.1 wc S6.i z3 hpv.1 hpv.2 hb' hn
                      rw [hx] at hc21
                      have X := Lib.hid hx
                      clear hx
                      go_wp2_with (go_at_fn (ρ.f 32); refine hc21.mono ?_; rintro e w7 ⟨rfl, hI7, hK7⟩)
                      go_roundg (b' - mid)
                      case measure => omega
                      case rel =>
                        have hx := X.out
                        exact ⟨mid, b', (rd lt dk a' b' lim wb wp).lim, wb, wp, d4, rfl, rfl, rfl, rfl, rfl, r2, hb', Nat.le_refl _, by omega, Nat.le_trans rd_lim_le hlim, r3.trans z3, r4, S6.on hI7 hK7, Lib.hid (by rw [← A.out, pdq_eq h12 hl0 hp2 h87 (by rw [hx]; exact ⟨r1, r2⟩), hx])⟩
#print axioms pdqs
end Go.Proofs.Ytphblfgafljelaa.Srt
