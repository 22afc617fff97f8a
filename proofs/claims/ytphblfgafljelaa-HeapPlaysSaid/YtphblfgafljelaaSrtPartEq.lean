/- sort.partitionEqual_func and sort.partition_func with such a 'less' (printed by gen_part.py). -/
import Derived.Test.YtphblfgafljelaaSrtIns
namespace Go.Proofs.Ytphblfgafljelaa.Srt
open Go.RowKit Go.Shelf Go.Lib Go.Sort Go.Proofs.Ytphblfgafljelaa.Hp
variable {P : Program} {ρ : Ren} {α : Type} [Inhabited α]

set_option maxHeartbeats 8000000 in
set_option maxRecDepth 100000 in
theorem parted_eq (L : LaysGg.n32 P ρ) {g : Nat} {lb : Array Value} {sf : Nat} {sb : Array Value} {lt : α → α → Bool} {n blk : Nat} {I : Array α → World → Prop} (E : Env P g lb sf sb lt n blk I) (a b pivot : Nat) (d : Array α) (w : World)
    (hI : I d w) (hd : d.size = n) (hap : a ≤ pivot) (hpb : pivot < b) (hb : b ≤ n) (hn : n < 4611686018427387904) :
    Calls P (ρ.f 32) #[.agg #[.func (.func g) #[] lb, .func (.func sf) #[] sb], .int .i64 a, .int .i64 b, .int .i64 pivot] w fun e w' =>
      e = .returned (.int .i64 (partitionEqual lt d a b pivot).1) ∧ I (partitionEqual lt d a b pivot).2 w' ∧ Keeps (fun b => b = blk) w w' := by
  have mixed := L.mixed; have t0 := L.t0; have a0 := L.a0; have z0 := L.z0; have v0 := L.v0; have t3 := L.t3; have a3 := L.a3; have z3 := L.z3; have v3 := L.v3; have t4 := L.t4; have a4 := L.a4; have z4 := L.z4; have v4 := L.v4; have t26 := L.t26; have a26 := L.a26; have z26 := L.z26; have v26 := L.v26; have t37 := L.t37; have a37 := L.a37; have z37 := L.z37; have v37 := L.v37; have t44 := L.t44; have a44 := L.a44; have z44 := L.z44; have v44 := L.v44
  have u44 := run_underlying L.t44
  have eg := E.eg
  have S0 := St.start E hI (ρ.t 44)
  have HE := Lib.hid E
  obtain ⟨w2, hsw0, S1⟩ := S0.swap E hd a pivot (by omega) (by omega) a pivot rfl rfl
  clear E hI
  have c0 := S0.c0
  have c1 := S0.c1
  clear S0
  go_enter L.f32, BodyGg.n32_ntmps ρ
  go_wp2
  go_loopw [9, 10] (fun vi vj wr => ∃ (i j : Nat) (dk : Array α), vi = .int .i64 i ∧ vj = .int .i64 j ∧ a < i ∧ i ≤ j + 1 ∧ j < b ∧ dk.size = n ∧ St g lb sf sb blk I w.heap.size dk w wr ∧ Hid (partEqLoop lt a i j dk = partEqLoop lt a (a + 1) (b - 1) (swp d a pivot))) (fun vi vj _ => (intOf vj).toNat + 1 - (intOf vi).toNat)
  case atStart => exact ⟨a + 1, b - 1, swp d a pivot, by go_num, by go_num, by omega, by omega, by omega, (size_swp _ _ _).trans hd, S1, Lib.hid rfl⟩
  case round =>
    clear S1 hsw0 c0 c1
    obtain ⟨i, j, dk, rfl, rfl, hai, hij, hjb, hs, S, AE⟩ := hrel
    have c0 := S.c0
    have c1 := S.c1
    go_wp2
    go_loopw [9] (fun vi w1 => ∃ (i1 : Nat), vi = .int .i64 i1 ∧ i ≤ i1 ∧ i1 ≤ j + 1 ∧ St g lb sf sb blk I w.heap.size dk w w1 ∧ Hid (scanUp (fun x => !lt dk[a]! x) dk j i1 = scanUp (fun x => !lt dk[a]! x) dk j i)) (fun vi _ => j + 1 - (intOf vi).toNat)
    case atStart => exact ⟨i, rfl, Nat.le_refl _, hij, S, Lib.hid rfl⟩
    case round =>
      obtain ⟨i1, rfl, hii1, hij1, U1, hsc1⟩ := hrel
      have c0u1 := U1.c0
      by_cases hle1 : i1 ≤ j
      · cases hlv1 : lt dk[a]! dk[i1]! with
        | false =>
          have hl := U1.less HE.out hs a i1 (by omega) (by omega) a i1 rfl rfl false hlv1
          go_wp2_with (go_at_fn g; refine hl.mono ?_; rintro e w' ⟨rfl, S'⟩)
          go_roundw
          case rel => first | exact ⟨i1 + 1, by go_num, by omega, by omega, S', Lib.hid ((scanUp_go (fun x => !lt dk[a]! x) dk j i1 hle1 (by simp [hlv1])).symm.trans hsc1.out)⟩ | ((repeat apply Exists.intro); exact ⟨⟨i1 + 1, by go_num, by omega, by omega, S', Lib.hid ((scanUp_go (fun x => !lt dk[a]! x) dk j i1 hle1 (by simp [hlv1])).symm.trans hsc1.out)⟩, by rw [show decide (j1 < i1) = false from decide_eq_false (by omega), show ((i1 + 1 : Nat) : Int) = (i1 : Int) + 1 by omega]⟩)
          case measure => simp [intOf]; omega
        | true =>
          have hl := U1.less HE.out hs a i1 (by omega) (by omega) a i1 rfl rfl true hlv1
          have hi1 : Hid (i1 = scanUp (fun x => !lt dk[a]! x) dk j i) := Lib.hid ((scanUp_end (fun x => !lt dk[a]! x) dk j i1 (Or.inr (by simp [hlv1]))).symm.trans hsc1.out)
          go_wp2_with (go_at_fn g; refine hl.mono ?_; rintro e w' ⟨rfl, V1⟩)
          go_loopw [10] (fun vj w2 => ∃ (j1 : Nat), vj = .int .i64 j1 ∧ j1 ≤ j ∧ i1 ≤ j1 + 1 ∧ St g lb sf sb blk I w.heap.size dk w w2 ∧ Hid (scanDown (fun x => lt dk[a]! x) dk i1 j1 = scanDown (fun x => lt dk[a]! x) dk i1 j)) (fun vj _ => (intOf vj).toNat)
          case atStart => exact ⟨j, rfl, Nat.le_refl _, hij1, V1, Lib.hid rfl⟩
          case round =>
            obtain ⟨j1, rfl, hjj1, hijj1, T1, hsd1⟩ := hrel
            have c0t1 := T1.c0
            have c1t1 := T1.c1
            by_cases hlf1 : i1 ≤ j1
            · cases hlw1 : lt dk[a]! dk[j1]! with
              | true =>
                have hl := T1.less HE.out hs a j1 (by omega) (by omega) a j1 rfl rfl true hlw1
                go_wp2_with (go_at_fn g; refine hl.mono ?_; rintro e w' ⟨rfl, S'⟩)
                go_roundw
                case rel => exact ⟨j1 - 1, by go_num, by omega, by omega, S', Lib.hid ((scanDown_go (fun x => lt dk[a]! x) dk i1 j1 hlf1 (by omega) (by simp [hlw1])).symm.trans hsd1.out)⟩
                case measure => simp [intOf]; omega
              | false =>
                have hl := T1.less HE.out hs a j1 (by omega) (by omega) a j1 rfl rfl false hlw1
                have hj1 : Hid (j1 = scanDown (fun x => lt dk[a]! x) dk i1 j) := Lib.hid ((scanDown_end (fun x => lt dk[a]! x) dk i1 j1 (Or.inr (by simp [hlw1]))).symm.trans hsd1.out)
                have hlt3 := scans_lt lt a i j dk (by omega) hi1.out hj1.out hlf1
                go_wp2_with (go_at_fn g; refine hl.mono ?_; rintro e w' ⟨rfl, V⟩; have c1v := V.c1; obtain ⟨w3, hsw3, V3⟩ := V.swap HE.out hs i1 j1 (by omega) (by omega) i1 j1 rfl rfl)
                go_roundw
                case rel => exact ⟨i1 + 1, j1 - 1, swp dk i1 j1, by go_num, by go_num, by omega, by omega, by omega, (size_swp _ _ _).trans hs, V3, Lib.hid (by rw [← AE.out]; exact (partEq_go lt a i j dk hi1.out hj1.out (by omega)).symm)⟩
                case measure => simp [intOf]; omega
            · have hj1 : Hid (j1 = scanDown (fun x => lt dk[a]! x) dk i1 j) := Lib.hid ((scanDown_end (fun x => lt dk[a]! x) dk i1 j1 (Or.inl hlf1)).symm.trans hsd1.out)
              go_wp2
              go_ret
              have e := partEq_break lt a i j dk hi1.out hj1.out (by omega)
              refine ⟨?_, ?_, T1.k⟩
              · unfold partitionEqual; rw [← AE.out, e]; rfl
              · unfold partitionEqual; rw [← AE.out, e]; exact T1.i
      · have hi1 : Hid (i1 = scanUp (fun x => !lt dk[a]! x) dk j i) := Lib.hid ((scanUp_end (fun x => !lt dk[a]! x) dk j i1 (Or.inl hle1)).symm.trans hsc1.out)
        go_wp2
        go_loopw [10] (fun vj w2 => ∃ (j1 : Nat), vj = .int .i64 j1 ∧ j1 ≤ j ∧ i1 ≤ j1 + 1 ∧ St g lb sf sb blk I w.heap.size dk w w2 ∧ Hid (scanDown (fun x => lt dk[a]! x) dk i1 j1 = scanDown (fun x => lt dk[a]! x) dk i1 j)) (fun vj _ => (intOf vj).toNat)
        case atStart => exact ⟨j, rfl, Nat.le_refl _, hij1, U1, Lib.hid rfl⟩
        case round =>
          obtain ⟨j1, rfl, hjj1, hijj1, T1, hsd1⟩ := hrel
          have c0t1 := T1.c0
          have c1t1 := T1.c1
          by_cases hlf1 : i1 ≤ j1
          · exfalso; omega
          · have hj1 : Hid (j1 = scanDown (fun x => lt dk[a]! x) dk i1 j) := Lib.hid ((scanDown_end (fun x => lt dk[a]! x) dk i1 j1 (Or.inl hlf1)).symm.trans hsd1.out)
            go_wp2
            go_ret
            have e := partEq_break lt a i j dk hi1.out hj1.out (by omega)
            refine ⟨?_, ?_, T1.k⟩
            · unfold partitionEqual; rw [← AE.out, e]; rfl
            · unfold partitionEqual; rw [← AE.out, e]; exact T1.i
#print axioms parted_eq
end Go.Proofs.Ytphblfgafljelaa.Srt
