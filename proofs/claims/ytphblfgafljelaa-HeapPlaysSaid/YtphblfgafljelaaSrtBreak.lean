/- sort.breakPatterns_func with a 'less' and a 'swap' that may make memory (printed by gen_break.py). -/
import Derived.Test.YtphblfgafljelaaSrtPivot
namespace Go.Proofs.Ytphblfgafljelaa.Srt
set_option linter.unusedSectionVars false
open Go.RowKit Go.Shelf Go.Lib Go.Sort Go.Proofs.Ytphblfgafljelaa.Hp
variable {P : Program} {ρ : Ren} {α : Type} [Inhabited α]

/-- A step that touches only what lies behind w0. -/
theorem St.aside {g : Nat} {lb : Array Value} {sf : Nat} {sb : Array Value} {lt : α → α → Bool} {n blk N : Nat} {I : Array α → World → Prop} (E : EnvN P g lb sf sb lt n blk N I) {B : Nat} {d : Array α} {w0 W W' : World} {X : Nat → Prop} (S : St g lb sf sb blk I B d w0 W) (hk : Keeps X W W') (hN : ∀ i, X i → N ≤ i) (h0 : ∀ i, X i → w0.heap.size ≤ i) (hB : ¬ X B) : St g lb sf sb blk I B d w0 W' :=
  ⟨E.keep X _ _ _ S.i hk hN, S.k.trans hk fun i h => Or.inr (h0 i h), S.ne, S.hB, Nat.lt_of_lt_of_le S.lt hk.size, (hk.cell (p := ⟨B, 0, none⟩) S.lt hB).trans S.c0, (hk.cell (p := ⟨B, 1, none⟩) S.lt hB).trans S.c1⟩

set_option maxHeartbeats 4000000 in
set_option maxRecDepth 100000 in
theorem broken_go (L' : LaysGg.n28 P ρ) {g : Nat} {lb : Array Value} {sf : Nat} {sb : Array Value} {lt : α → α → Bool} {n blk N : Nat} {I : Array α → World → Prop} (E : EnvN P g lb sf sb lt n blk N I) (a L : Nat) (d : Array α) (w : World)
    (hI : I d w) (hd : d.size = n) (hb : a + L ≤ n) (hn : n < 4611686018427387904) (h8 : 8 ≤ L) :
    Calls P (ρ.f 28) #[.agg #[.func (.func g) #[] lb, .func (.func sf) #[] sb], .int .i64 a, .int .i64 ((a + L : Nat) : Int)] w fun e w' => e = .returned (.tuple #[]) ∧ I (breakPatterns d a (a + L)) w' ∧ Keeps (fun b => b = blk) w w' := by
  have mixed := L'.mixed; have t0 := L'.t0; have a0 := L'.a0; have z0 := L'.z0; have v0 := L'.v0; have t3 := L'.t3; have a3 := L'.a3; have z3 := L'.z3; have v3 := L'.v3; have t4 := L'.t4; have a4 := L'.a4; have z4 := L'.z4; have v4 := L'.v4; have t5 := L'.t5; have a5 := L'.a5; have z5 := L'.z5; have v5 := L'.v5; have t9 := L'.t9; have a9 := L'.a9; have z9 := L'.z9; have v9 := L'.v9; have t26 := L'.t26; have a26 := L'.a26; have z26 := L'.z26; have v26 := L'.v26; have t37 := L'.t37; have a37 := L'.a37; have z37 := L'.z37; have v37 := L'.v37; have t41 := L'.t41; have a41 := L'.a41; have z41 := L'.z41; have v41 := L'.v41; have t44 := L'.t44; have a44 := L'.a44; have z44 := L'.z44; have v44 := L'.v44; have t49 := L'.t49; have a49 := L'.a49; have z49 := L'.z49; have v49 := L'.v49; have t51 := L'.t51; have a51 := L'.a51; have z51 := L'.z51; have v51 := L'.v51; have t60 := L'.t60; have a60 := L'.a60; have z60 := L'.z60; have v60 := L'.v60; have t66 := L'.t66; have a66 := L'.a66; have z66 := L'.z66; have v66 := L'.v66
  have u44 := run_underlying L'.t44
  have e35 : ∀ args w, (callFunc (ρ.f 35) args).run P w = .ok (.enter (ρ.f 35) args) w := enters_of L'.f35 (by kernel_rfl) rfl
  have e36 : ∀ args w, (callFunc (ρ.f 36) args).run P w = .ok (.enter (ρ.f 36) args) w := enters_of L'.f36 (by kernel_rfl) rfl
  rw [breakPatterns_eq d a L h8]
  obtain ⟨M, hM⟩ : ∃ M : Nat, M = 1 <<< bitsLen L := ⟨_, rfl⟩
  have hM1 : 1 ≤ M := by rw [hM, Nat.one_shiftLeft]; exact Nat.two_pow_pos _
  have hM2 : M ≤ 2 * L := by rw [hM, Nat.one_shiftLeft]; exact two_pow_bitsLen_le (by omega)
  have hNP : ∀ w, Calls P (ρ.f 35) #[.int .i64 (L : Int)] w fun e w' => e = .returned (.int .u64 (M : Int)) ∧ w' = w := by rw [hM]; exact fun w => Any.nextPowerOfTwo { L' with } L (by omega) w
  rw [← hM]
  clear hM
  have hLz : ((a : Int) + (L : Int) - (a : Int)) = (L : Int) := by omega
  have h8z : (8 : Int) ≤ (L : Int) := by omega
  have hNw := E.le d w hI
  have hblkw := E.lt d w hI
  have hneR : ¬ (w.heap.size + 1 = blk) := by omega
  have S0 := (St.start E.toEnv hI (ρ.t 44)).below E.toEnv ((Below.refl _ _).alloc (Nat.le_refl _) (.cells #[.int .u64 (L : Int)] (ρ.t 60)))
  have HE := Lib.hid E
  clear E hI
  go_enter L'.f28, BodyGg.n28_ntmps ρ
  go_wp2_with (first | (go_at_fn (ρ.f 35); refine (hNP _).mono ?_; rintro e w' ⟨rfl, rfl⟩))
  go_loopg [9] 3 (fun g1 vi wr => ∃ (t : Nat) (r : UInt64) (dk : Array α), vi = .int .i64 ((a : Int) + (L : Int) / 4 * 2 - 1 + (t : Int)) ∧ t ≤ 3 ∧ 3 - t ≤ g1 ∧ dk.size = n ∧ St g lb sf sb blk I w.heap.size dk w wr ∧
      wr.cell? ⟨w.heap.size + 1, 0, none⟩ = some (.int .u64 (r.toNat : Int)) ∧ wr.frozen? ⟨w.heap.size + 1, 0, none⟩ = false ∧ w.heap.size + 1 < wr.heap.size ∧
      Hid (bpRest a L M (a + L / 4 * 2 - 1) (3 - t) t (r, dk) = bpRest a L M (a + L / 4 * 2 - 1) 3 0 (UInt64.ofNat L, d)))
  case atStart =>
    refine ⟨0, UInt64.ofNat L, d, by simp, by omega, by omega, hd, ?_, ?_, by simp, by simp, Lib.hid rfl⟩
    · skip
      exact S0
    · rw [show (UInt64.ofNat L).toNat = L from by simp; omega]
      simp
  case round =>
    clear S0
    obtain ⟨t, r, dk, rfl, ht, hg1, hds, S, cR, fR, hlR, HR⟩ := hrel
    have c1 := S.c1
    by_cases ht3 : t < 3
    · have hle : (a : Int) + (L : Int) / 4 * 2 - 1 + (t : Int) ≤ (a : Int) + (L : Int) / 4 * 2 + 1 := by omega
      obtain ⟨R, hRr⟩ : ∃ R : Nat, R = r.toNat := ⟨_, rfl⟩
      have lR : R < 18446744073709551616 := by rw [hRr]; exact r.toNat_lt
      obtain ⟨R', hR'⟩ : ∃ R' : Nat, R' = xorNextN R := ⟨_, rfl⟩
      have lR' : R' < 18446744073709551616 := by rw [hR']; exact xorNextN_lt R lR
      obtain ⟨O, hO⟩ : ∃ O : Nat, O = R' &&& (M - 1) := ⟨_, rfl⟩
      have lO : O ≤ M - 1 := by rw [hO]; exact Nat.and_le_right
      have eAnd : bits .and .u64 (R' : Int) ((M : Int) - 1) = (O : Int) := by
        rw [show ((M : Int) - 1) = ((M - 1 : Nat) : Int) by omega, bits_and_u64_nat _ _ lR' (by omega), hO]
      rw [← hRr] at cR
      have hNext : Calls P (ρ.f 36) #[.pointer (some ⟨w.heap.size + 1, 0, none⟩)] wr fun e w' => e = .returned (.int .u64 (R' : Int)) ∧ w' = (wr.setCell ⟨w.heap.size + 1, 0, none⟩ (.int .u64 (R' : Int))).drewN 3 := by
        rw [hR']; exact Any.xorshift_Next { L' with } _ _ R lR wr cR fR
      have HN : Hid (R' = (xorNext r).toNat ∧ O = (xorNext r).toNat &&& (M - 1)) := by
        have e : R' = (xorNext r).toNat := by rw [hR', hRr, xorNext_toNat]
        exact ⟨e, by rw [hO, e]⟩
      clear hRr hR' hO
      have S2 : St g lb sf sb blk I w.heap.size dk w ((wr.setCell ⟨w.heap.size + 1, 0, none⟩ (.int .u64 (R' : Int))).drewN 3) :=
        S.aside HE.out (X := fun i => i = w.heap.size + 1) (((Keeps.refl (fun i => i = w.heap.size + 1) wr).setCell (p := ⟨w.heap.size + 1, 0, none⟩) rfl _).drewN 3) (by intro i h; omega) (by intro i h; omega) (by omega)
      have cR2 : ((wr.setCell ⟨w.heap.size + 1, 0, none⟩ (.int .u64 (R' : Int))).drewN 3).cell? ⟨w.heap.size + 1, 0, none⟩ = some (.int .u64 (R' : Int)) := by
        rw [World.cell?_drewN]; exact World.cell?_setCell_same _ _ _ cR
      have fR2 : ((wr.setCell ⟨w.heap.size + 1, 0, none⟩ (.int .u64 (R' : Int))).drewN 3).frozen? ⟨w.heap.size + 1, 0, none⟩ = false := by
        rw [World.frozen?_drewN]; simpa using fR
      have hl2 : w.heap.size + 1 < ((wr.setCell ⟨w.heap.size + 1, 0, none⟩ (.int .u64 (R' : Int))).drewN 3).heap.size := by
        show w.heap.size + 1 < (wr.setCell ⟨w.heap.size + 1, 0, none⟩ (.int .u64 (R' : Int))).heap.size; simpa using hlR
      generalize (wr.setCell ⟨w.heap.size + 1, 0, none⟩ (.int .u64 (R' : Int))).drewN 3 = w2 at hNext S2 cR2 fR2 hl2
      have c12 := S2.c1
      clear cR fR
      by_cases hLO : L ≤ O
      · have hLOz : (L : Int) ≤ (O : Int) := by omega
        obtain ⟨w3, hsw, hI3, hK3⟩ := HE.out.swap w2 dk S2.i hds (a + L / 4 * 2 - 1 + t) (a + (O - L)) (by omega) (by omega)
        rw [show ((a + L / 4 * 2 - 1 + t : Nat) : Int) = (a : Int) + (L : Int) / 4 * 2 - 1 + (t : Int) by omega, show ((a + (O - L) : Nat) : Int) = (a : Int) + ((O : Int) - (L : Int)) by omega] at hsw
        have S3 := S2.on hI3 hK3
        have cR3 := (hK3.cell (p := ⟨w.heap.size + 1, 0, none⟩) hl2 hneR).trans cR2
        have fR3 := (hK3.frozen (p := ⟨w.heap.size + 1, 0, none⟩) hl2 hneR).trans fR2
        go_wp2_with (go_at_fn (ρ.f 36); refine hNext.mono ?_; rintro e w' ⟨rfl, rfl⟩)
        go_roundg (3 - (t + 1))
        case measure => omega
        case rel => exact ⟨t + 1, xorNext r, swp dk (a + L / 4 * 2 - 1 + t) (a + (O - L)), by congr 1; push_cast; omega, by omega, Nat.le_refl _, by rw [size_swp]; exact hds, S3, by rw [← HN.out.1]; exact cR3, fR3, Nat.lt_of_lt_of_le hl2 hK3.size,
          Lib.hid (by rw [← HR.out, bp_step a L M _ t r dk (O - L) ht3 (by rw [← HN.out.2, if_pos (by omega)])])⟩
      · have hLOz : ¬ (L : Int) ≤ (O : Int) := by omega
        obtain ⟨w3, hsw, hI3, hK3⟩ := HE.out.swap w2 dk S2.i hds (a + L / 4 * 2 - 1 + t) (a + O) (by omega) (by omega)
        rw [show ((a + L / 4 * 2 - 1 + t : Nat) : Int) = (a : Int) + (L : Int) / 4 * 2 - 1 + (t : Int) by omega, show ((a + O : Nat) : Int) = (a : Int) + (O : Int) by omega] at hsw
        have S3 := S2.on hI3 hK3
        have cR3 := (hK3.cell (p := ⟨w.heap.size + 1, 0, none⟩) hl2 hneR).trans cR2
        have fR3 := (hK3.frozen (p := ⟨w.heap.size + 1, 0, none⟩) hl2 hneR).trans fR2
        go_wp2_with (go_at_fn (ρ.f 36); refine hNext.mono ?_; rintro e w' ⟨rfl, rfl⟩)
        go_roundg (3 - (t + 1))
        case measure => omega
        case rel => exact ⟨t + 1, xorNext r, swp dk (a + L / 4 * 2 - 1 + t) (a + O), by congr 1; push_cast; omega, by omega, Nat.le_refl _, by rw [size_swp]; exact hds, S3, by rw [← HN.out.1]; exact cR3, fR3, Nat.lt_of_lt_of_le hl2 hK3.size,
          Lib.hid (by rw [← HR.out, bp_step a L M _ t r dk O ht3 (by rw [← HN.out.2, if_neg (by omega)])])⟩
    · obtain rfl : t = 3 := by omega
      have hle : ¬ ((a : Int) + (L : Int) / 4 * 2 - 1 + ((3 : Nat) : Int) ≤ (a : Int) + (L : Int) / 4 * 2 + 1) := by omega
      go_wp2
      go_end0
      refine ⟨rfl, ?_, S.k⟩
      rw [← HR.out]
      exact S.i

set_option maxHeartbeats 4000000 in
set_option maxRecDepth 100000 in
theorem broken (L' : LaysGg.n28 P ρ) {g : Nat} {lb : Array Value} {sf : Nat} {sb : Array Value} {lt : α → α → Bool} {n blk N : Nat} {I : Array α → World → Prop} (E : EnvN P g lb sf sb lt n blk N I) (a b : Nat) (d : Array α) (w : World)
    (hI : I d w) (hd : d.size = n) (hab : a ≤ b) (hb : b ≤ n) (hn : n < 4611686018427387904) :
    Calls P (ρ.f 28) #[.agg #[.func (.func g) #[] lb, .func (.func sf) #[] sb], .int .i64 a, .int .i64 b] w fun e w' => e = .returned (.tuple #[]) ∧ I (breakPatterns d a b) w' ∧ Keeps (fun b => b = blk) w w' := by
  obtain ⟨L, rfl⟩ : ∃ L, b = a + L := ⟨b - a, by omega⟩
  by_cases h8 : 8 ≤ L
  · exact broken_go L' E a L d w hI hd hb hn h8
  · have hv : breakPatterns d a (a + L) = d := by unfold breakPatterns; simp only [Nat.add_sub_cancel_left]; rw [if_neg h8]
    rw [hv]
    have mixed := L'.mixed; have t0 := L'.t0; have a0 := L'.a0; have z0 := L'.z0; have v0 := L'.v0; have t3 := L'.t3; have a3 := L'.a3; have z3 := L'.z3; have v3 := L'.v3; have t4 := L'.t4; have a4 := L'.a4; have z4 := L'.z4; have v4 := L'.v4; have t5 := L'.t5; have a5 := L'.a5; have z5 := L'.z5; have v5 := L'.v5; have t9 := L'.t9; have a9 := L'.a9; have z9 := L'.z9; have v9 := L'.v9; have t26 := L'.t26; have a26 := L'.a26; have z26 := L'.z26; have v26 := L'.v26; have t37 := L'.t37; have a37 := L'.a37; have z37 := L'.z37; have v37 := L'.v37; have t41 := L'.t41; have a41 := L'.a41; have z41 := L'.z41; have v41 := L'.v41; have t44 := L'.t44; have a44 := L'.a44; have z44 := L'.z44; have v44 := L'.v44; have t49 := L'.t49; have a49 := L'.a49; have z49 := L'.z49; have v49 := L'.v49; have t51 := L'.t51; have a51 := L'.a51; have z51 := L'.z51; have v51 := L'.v51; have t60 := L'.t60; have a60 := L'.a60; have z60 := L'.z60; have v60 := L'.v60; have t66 := L'.t66; have a66 := L'.a66; have z66 := L'.z66; have v66 := L'.v66
    have u44 := run_underlying L'.t44
    have hLz : ((a : Int) + (L : Int) - (a : Int)) = (L : Int) := by omega
    have h8z : ¬ (8 : Int) ≤ (L : Int) := by omega
    have S0 := St.start E.toEnv hI (ρ.t 44)
    clear E hI
    go_enter L'.f28, BodyGg.n28_ntmps ρ
    go_wp2
    go_end0
    exact ⟨rfl, S0.i, S0.k⟩
#print axioms broken
end Go.Proofs.Ytphblfgafljelaa.Srt
