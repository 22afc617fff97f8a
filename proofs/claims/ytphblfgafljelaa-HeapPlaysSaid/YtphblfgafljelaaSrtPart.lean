/- sort.partitionEqual_func and sort.partition_func with such a 'less' (printed by gen_part.py). -/
import Derived.Test.YtphblfgafljelaaSrtIns
namespace Go.Proofs.Ytphblfgafljelaa.Srt
open Go.RowKit Go.Shelf Go.Lib Go.Sort Go.Proofs.Ytphblfgafljelaa.Hp
variable {P : Program} {ρ : Ren} {α : Type} [Inhabited α]

set_option maxHeartbeats 8000000 in
set_option maxRecDepth 100000 in
theorem parted (L : LaysGg.n33 P ρ) {g : Nat} {lb : Array Value} {sf : Nat} {sb : Array Value} {lt : α → α → Bool} {n blk : Nat} {I : Array α → World → Prop} (E : Env P g lb sf sb lt n blk I) (a b pivot : Nat) (d : Array α) (w : World)
    (hI : I d w) (hd : d.size = n) (hap : a ≤ pivot) (hpb : pivot < b) (hb : b ≤ n) (hn : n < 4611686018427387904) :
    Calls P (ρ.f 33) #[.agg #[.func (.func g) #[] lb, .func (.func sf) #[] sb], .int .i64 a, .int .i64 b, .int .i64 pivot] w fun e w' =>
      e = .returned (.tuple #[.int .i64 (partition lt d a b pivot).1, .bool (partition lt d a b pivot).2.1]) ∧ I (partition lt d a b pivot).2.2 w' ∧ Keeps (fun b => b = blk) w w' := by
  have mixed := L.mixed; have t0 := L.t0; have a0 := L.a0; have z0 := L.z0; have v0 := L.v0; have t3 := L.t3; have a3 := L.a3; have z3 := L.z3; have v3 := L.v3; have t4 := L.t4; have a4 := L.a4; have z4 := L.z4; have v4 := L.v4; have t26 := L.t26; have a26 := L.a26; have z26 := L.z26; have v26 := L.v26; have t37 := L.t37; have a37 := L.a37; have z37 := L.z37; have v37 := L.v37; have t44 := L.t44; have a44 := L.a44; have z44 := L.z44; have v44 := L.v44
  have u44 := run_underlying L.t44
  have eg := E.eg
  have S0 := St.start E hI (ρ.t 44)
  have HE := Lib.hid E
  obtain ⟨w2, hsw0, S1⟩ := S0.swap E hd a pivot (by omega) (by omega) a pivot rfl rfl
  clear E hI
  have c0 := S0.c0
  have c1 := S0.c1
  clear S0
  go_enter L.f33, BodyGg.n33_ntmps ρ
  obtain ⟨i, hi⟩ : ∃ i : Nat, i = a + 1 := ⟨_, rfl⟩
  obtain ⟨j, hj⟩ : ∃ j : Nat, j = b - 1 := ⟨_, rfl⟩
  obtain ⟨dk, hdk⟩ : ∃ dk : Array α, dk = swp d a pivot := ⟨_, rfl⟩
  have hs : dk.size = n := by rw [hdk]; exact (size_swp _ _ _).trans hd
  rw [← hdk] at S1
  have hai : a < i := by omega
  have hij : i ≤ j + 1 := by omega
  have hjb : j < b := by omega
  have Hi := Lib.hid hi
  have Hj := Lib.hid hj
  have Hdk := Lib.hid hdk
  clear hi hj hdk
  go_wp2
  rw [show ((a : Int) + 1) = (i : Int) by have := Hi.out; omega, show ((b : Int) - 1) = (j : Int) by have := Hj.out; omega]
  go_loopw [10] (fun vi w1 => ∃ (i1 : Nat), vi = .int .i64 i1 ∧ i ≤ i1 ∧ i1 ≤ j + 1 ∧ St g lb sf sb blk I w.heap.size dk w w1 ∧ Hid (scanUp (fun x => lt x dk[a]!) dk j i1 = scanUp (fun x => lt x dk[a]!) dk j i)) (fun vi _ => j + 1 - (intOf vi).toNat)
  case atStart => exact ⟨i, rfl, Nat.le_refl _, hij, S1, Lib.hid rfl⟩
  case round =>
    obtain ⟨i1, rfl, hii1, hij1, U1, hsc1⟩ := hrel
    have c0u1 := U1.c0
    by_cases hle1 : i1 ≤ j
    · cases hlv1 : lt dk[i1]! dk[a]! with
      | true =>
        have hl := U1.less HE.out hs i1 a (by omega) (by omega) i1 a rfl rfl true hlv1
        go_wp2_with (go_at_fn g; refine hl.mono ?_; rintro e w' ⟨rfl, S'⟩)
        go_roundw
        case rel => first | exact ⟨i1 + 1, by go_num, by omega, by omega, S', Lib.hid ((scanUp_go (fun x => lt x dk[a]!) dk j i1 hle1 (by simp [hlv1])).symm.trans hsc1.out)⟩ | ((repeat apply Exists.intro); exact ⟨⟨i1 + 1, by go_num, by omega, by omega, S', Lib.hid ((scanUp_go (fun x => lt x dk[a]!) dk j i1 hle1 (by simp [hlv1])).symm.trans hsc1.out)⟩, by rw [show decide (j1 < i1) = false from decide_eq_false (by omega), show ((i1 + 1 : Nat) : Int) = (i1 : Int) + 1 by omega]⟩)
        case measure => simp [intOf]; omega
      | false =>
        have hl := U1.less HE.out hs i1 a (by omega) (by omega) i1 a rfl rfl false hlv1
        have hi1 : Hid (i1 = scanUp (fun x => lt x dk[a]!) dk j i) := Lib.hid ((scanUp_end (fun x => lt x dk[a]!) dk j i1 (Or.inr (by simp [hlv1]))).symm.trans hsc1.out)
        go_wp2_with (go_at_fn g; refine hl.mono ?_; rintro e w' ⟨rfl, V1⟩)
        go_loopw [11] (fun vj w2 => ∃ (j1 : Nat), vj = .int .i64 j1 ∧ j1 ≤ j ∧ i1 ≤ j1 + 1 ∧ St g lb sf sb blk I w.heap.size dk w w2 ∧ Hid (scanDown (fun x => !lt x dk[a]!) dk i1 j1 = scanDown (fun x => !lt x dk[a]!) dk i1 j)) (fun vj _ => (intOf vj).toNat)
        case atStart => exact ⟨j, rfl, Nat.le_refl _, hij1, V1, Lib.hid rfl⟩
        case round =>
          obtain ⟨j1, rfl, hjj1, hijj1, T1, hsd1⟩ := hrel
          have c0t1 := T1.c0
          have c1t1 := T1.c1
          by_cases hlf1 : i1 ≤ j1
          · cases hlw1 : lt dk[j1]! dk[a]! with
            | false =>
              have hl := T1.less HE.out hs j1 a (by omega) (by omega) j1 a rfl rfl false hlw1
              go_wp2_with (go_at_fn g; refine hl.mono ?_; rintro e w' ⟨rfl, S'⟩)
              go_roundw
              case rel => exact ⟨j1 - 1, by go_num, by omega, by omega, S', Lib.hid ((scanDown_go (fun x => !lt x dk[a]!) dk i1 j1 hlf1 (by omega) (by simp [hlw1])).symm.trans hsd1.out)⟩
              case measure => simp [intOf]; omega
            | true =>
              have hl := T1.less HE.out hs j1 a (by omega) (by omega) j1 a rfl rfl true hlw1
              have hj1 : Hid (j1 = scanDown (fun x => !lt x dk[a]!) dk i1 j) := Lib.hid ((scanDown_end (fun x => !lt x dk[a]!) dk i1 j1 (Or.inr (by simp [hlw1]))).symm.trans hsd1.out)
              have hlt3 := part_scans_lt lt a i j dk (by omega) hi1.out hj1.out hlf1
              have PF := Lib.hid (part_first_go lt d a b pivot Hi.out Hj.out Hdk.out hi1.out hj1.out (by omega))
              go_wp2_with (go_at_fn g; refine hl.mono ?_; rintro e w' ⟨rfl, V⟩; have c1v := V.c1; obtain ⟨w3, hsw3, V3⟩ := V.swap HE.out hs i1 j1 (by omega) (by omega) i1 j1 rfl rfl)
              go_loopw [10, 11] (fun vi vj wr => ∃ (ii jj : Nat) (dj : Array α), vi = .int .i64 ii ∧ vj = .int .i64 jj ∧ a < ii ∧ ii ≤ jj + 1 ∧ jj < b ∧ dj.size = n ∧ St g lb sf sb blk I w.heap.size dj w wr ∧ Hid (partLoop lt a ii jj dj = partLoop lt a (i1 + 1) (j1 - 1) (swp dk i1 j1))) (fun vi vj _ => (intOf vj).toNat + 1 - (intOf vi).toNat)
              case atStart => exact ⟨i1 + 1, j1 - 1, swp dk i1 j1, by go_num, by go_num, by omega, by omega, by omega, (size_swp _ _ _).trans hs, V3, Lib.hid rfl⟩
              case round =>
                clear V3 hsw3 c1v
                obtain ⟨ii, jj, dj, rfl, rfl, haii, hiij, hjjb, hsj, SS, AE⟩ := hrel
                have c0s := SS.c0
                have c1s := SS.c1
                go_wp2
                go_loopw [10] (fun vi w1 => ∃ (i2 : Nat), vi = .int .i64 i2 ∧ ii ≤ i2 ∧ i2 ≤ jj + 1 ∧ St g lb sf sb blk I w.heap.size dj w w1 ∧ Hid (scanUp (fun x => lt x dj[a]!) dj jj i2 = scanUp (fun x => lt x dj[a]!) dj jj ii)) (fun vi _ => jj + 1 - (intOf vi).toNat)
                case atStart => exact ⟨ii, rfl, Nat.le_refl _, hiij, SS, Lib.hid rfl⟩
                case round =>
                  obtain ⟨i2, rfl, hii2, hij2, U2, hsc2⟩ := hrel
                  have c0u2 := U2.c0
                  by_cases hle2 : i2 ≤ jj
                  · cases hlv2 : lt dj[i2]! dj[a]! with
                    | true =>
                      have hl := U2.less HE.out hsj i2 a (by omega) (by omega) i2 a rfl rfl true hlv2
                      go_wp2_with (go_at_fn g; refine hl.mono ?_; rintro e w' ⟨rfl, S'⟩)
                      go_roundw
                      case rel => first | exact ⟨i2 + 1, by go_num, by omega, by omega, S', Lib.hid ((scanUp_go (fun x => lt x dj[a]!) dj jj i2 hle2 (by simp [hlv2])).symm.trans hsc2.out)⟩ | ((repeat apply Exists.intro); exact ⟨⟨i2 + 1, by go_num, by omega, by omega, S', Lib.hid ((scanUp_go (fun x => lt x dj[a]!) dj jj i2 hle2 (by simp [hlv2])).symm.trans hsc2.out)⟩, by rw [show decide (j1 < i1) = false from decide_eq_false (by omega), show ((i2 + 1 : Nat) : Int) = (i2 : Int) + 1 by omega]⟩)
                      case measure => simp [intOf]; omega
                    | false =>
                      have hl := U2.less HE.out hsj i2 a (by omega) (by omega) i2 a rfl rfl false hlv2
                      have hi2 : Hid (i2 = scanUp (fun x => lt x dj[a]!) dj jj ii) := Lib.hid ((scanUp_end (fun x => lt x dj[a]!) dj jj i2 (Or.inr (by simp [hlv2]))).symm.trans hsc2.out)
                      go_wp2_with (go_at_fn g; refine hl.mono ?_; rintro e w' ⟨rfl, V2⟩)
                      go_loopw [11] (fun vj w2 => ∃ (j2 : Nat), vj = .int .i64 j2 ∧ j2 ≤ jj ∧ i2 ≤ j2 + 1 ∧ St g lb sf sb blk I w.heap.size dj w w2 ∧ Hid (scanDown (fun x => !lt x dj[a]!) dj i2 j2 = scanDown (fun x => !lt x dj[a]!) dj i2 jj)) (fun vj _ => (intOf vj).toNat)
                      case atStart => exact ⟨jj, rfl, Nat.le_refl _, hij2, V2, Lib.hid rfl⟩
                      case round =>
                        obtain ⟨j2, rfl, hjj2, hijj2, T2, hsd2⟩ := hrel
                        have c0t2 := T2.c0
                        have c1t2 := T2.c1
                        by_cases hlf2 : i2 ≤ j2
                        · cases hlw2 : lt dj[j2]! dj[a]! with
                          | false =>
                            have hl := T2.less HE.out hsj j2 a (by omega) (by omega) j2 a rfl rfl false hlw2
                            go_wp2_with (go_at_fn g; refine hl.mono ?_; rintro e w' ⟨rfl, S'⟩)
                            go_roundw
                            case rel => exact ⟨j2 - 1, by go_num, by omega, by omega, S', Lib.hid ((scanDown_go (fun x => !lt x dj[a]!) dj i2 j2 hlf2 (by omega) (by simp [hlw2])).symm.trans hsd2.out)⟩
                            case measure => simp [intOf]; omega
                          | true =>
                            have hl := T2.less HE.out hsj j2 a (by omega) (by omega) j2 a rfl rfl true hlw2
                            have hj2 : Hid (j2 = scanDown (fun x => !lt x dj[a]!) dj i2 jj) := Lib.hid ((scanDown_end (fun x => !lt x dj[a]!) dj i2 j2 (Or.inr (by simp [hlw2]))).symm.trans hsd2.out)
                            have hlt3 := part_scans_lt lt a ii jj dj (by omega) hi2.out hj2.out hlf2
                            go_wp2_with (go_at_fn g; refine hl.mono ?_; rintro e w' ⟨rfl, V⟩; have c1v := V.c1; obtain ⟨w3, hsw3, V3⟩ := V.swap HE.out hsj i2 j2 (by omega) (by omega) i2 j2 rfl rfl)
                            go_roundw
                            case rel => first | exact ⟨i2 + 1, j2 - 1, swp dj i2 j2, by go_num, by go_num, by omega, by omega, by omega, (size_swp _ _ _).trans hsj, V3, Lib.hid (by rw [← AE.out]; exact (part_go lt a ii jj dj hi2.out hj2.out (by omega)).symm)⟩ | ((repeat apply Exists.intro); exact ⟨⟨i2 + 1, j2 - 1, swp dj i2 j2, by go_num, by go_num, by omega, by omega, by omega, (size_swp _ _ _).trans hsj, V3, Lib.hid (by rw [← AE.out]; exact (part_go lt a ii jj dj hi2.out hj2.out (by omega)).symm)⟩, by rw [show decide (j1 < i1) = false from decide_eq_false (by omega), show ((i2 + 1 : Nat) : Int) = (i2 : Int) + 1 by omega, show ((j2 - 1 : Nat) : Int) = (j2 : Int) - 1 by omega]⟩)
                            case measure => simp [intOf]; omega
                        · have hj2 : Hid (j2 = scanDown (fun x => !lt x dj[a]!) dj i2 jj) := Lib.hid ((scanDown_end (fun x => !lt x dj[a]!) dj i2 j2 (Or.inl hlf2)).symm.trans hsd2.out)
                          obtain ⟨w3, hsw3, V3⟩ := T2.swap HE.out hsj j2 a (by omega) (by omega) j2 a rfl rfl
                          go_wp2
                          go_ret2
                          have e := part_break lt a ii jj dj hi2.out hj2.out (by omega)
                          rw [PF.out, ← AE.out, e]
                          exact ⟨rfl, V3.i, V3.k⟩
                  · have hi2 : Hid (i2 = scanUp (fun x => lt x dj[a]!) dj jj ii) := Lib.hid ((scanUp_end (fun x => lt x dj[a]!) dj jj i2 (Or.inl hle2)).symm.trans hsc2.out)
                    go_wp2
                    go_loopw [11] (fun vj w2 => ∃ (j2 : Nat), vj = .int .i64 j2 ∧ j2 ≤ jj ∧ i2 ≤ j2 + 1 ∧ St g lb sf sb blk I w.heap.size dj w w2 ∧ Hid (scanDown (fun x => !lt x dj[a]!) dj i2 j2 = scanDown (fun x => !lt x dj[a]!) dj i2 jj)) (fun vj _ => (intOf vj).toNat)
                    case atStart => exact ⟨jj, rfl, Nat.le_refl _, hij2, U2, Lib.hid rfl⟩
                    case round =>
                      obtain ⟨j2, rfl, hjj2, hijj2, T2, hsd2⟩ := hrel
                      have c0t2 := T2.c0
                      have c1t2 := T2.c1
                      by_cases hlf2 : i2 ≤ j2
                      · exfalso; omega
                      · have hj2 : Hid (j2 = scanDown (fun x => !lt x dj[a]!) dj i2 jj) := Lib.hid ((scanDown_end (fun x => !lt x dj[a]!) dj i2 j2 (Or.inl hlf2)).symm.trans hsd2.out)
                        obtain ⟨w3, hsw3, V3⟩ := T2.swap HE.out hsj j2 a (by omega) (by omega) j2 a rfl rfl
                        go_wp2
                        go_ret2
                        have e := part_break lt a ii jj dj hi2.out hj2.out (by omega)
                        rw [PF.out, ← AE.out, e]
                        exact ⟨rfl, V3.i, V3.k⟩
          · have hj1 : Hid (j1 = scanDown (fun x => !lt x dk[a]!) dk i1 j) := Lib.hid ((scanDown_end (fun x => !lt x dk[a]!) dk i1 j1 (Or.inl hlf1)).symm.trans hsd1.out)
            obtain ⟨w3, hsw3, V3⟩ := T1.swap HE.out hs j1 a (by omega) (by omega) j1 a rfl rfl
            go_wp2
            go_ret2
            have e := part_first_break lt d a b pivot Hi.out Hj.out Hdk.out hi1.out hj1.out (by omega)
            rw [e]
            exact ⟨rfl, V3.i, V3.k⟩
    · have hi1 : Hid (i1 = scanUp (fun x => lt x dk[a]!) dk j i) := Lib.hid ((scanUp_end (fun x => lt x dk[a]!) dk j i1 (Or.inl hle1)).symm.trans hsc1.out)
      go_wp2
      go_loopw [11] (fun vj w2 => ∃ (j1 : Nat), vj = .int .i64 j1 ∧ j1 ≤ j ∧ i1 ≤ j1 + 1 ∧ St g lb sf sb blk I w.heap.size dk w w2 ∧ Hid (scanDown (fun x => !lt x dk[a]!) dk i1 j1 = scanDown (fun x => !lt x dk[a]!) dk i1 j)) (fun vj _ => (intOf vj).toNat)
      case atStart => exact ⟨j, rfl, Nat.le_refl _, hij1, U1, Lib.hid rfl⟩
      case round =>
        obtain ⟨j1, rfl, hjj1, hijj1, T1, hsd1⟩ := hrel
        have c0t1 := T1.c0
        have c1t1 := T1.c1
        by_cases hlf1 : i1 ≤ j1
        · exfalso; omega
        · have hj1 : Hid (j1 = scanDown (fun x => !lt x dk[a]!) dk i1 j) := Lib.hid ((scanDown_end (fun x => !lt x dk[a]!) dk i1 j1 (Or.inl hlf1)).symm.trans hsd1.out)
          obtain ⟨w3, hsw3, V3⟩ := T1.swap HE.out hs j1 a (by omega) (by omega) j1 a rfl rfl
          go_wp2
          go_ret2
          have e := part_first_break lt d a b pivot Hi.out Hj.out Hdk.out hi1.out hj1.out (by omega)
          rw [e]
          exact ⟨rfl, V3.i, V3.k⟩
#print axioms parted
end Go.Proofs.Ytphblfgafljelaa.Srt
