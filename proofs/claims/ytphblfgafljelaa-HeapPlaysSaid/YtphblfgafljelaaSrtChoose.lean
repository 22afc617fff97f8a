/- sort.choosePivot_func with a 'less' that may make memory (printed by gen_choose.py). -/
import Derived.Test.YtphblfgafljelaaSrtPivot
namespace Go.Proofs.Ytphblfgafljelaa.Srt
open Go.RowKit Go.Shelf Go.Lib Go.Sort Go.Proofs.Ytphblfgafljelaa.Hp
variable {P : Program} {ρ : Ren} {α : Type} [Inhabited α]

set_option maxHeartbeats 4000000 in
set_option maxRecDepth 100000 in
theorem choose (L : LaysGg.n29 P ρ) {g : Nat} {lb : Array Value} {sf : Nat} {sb : Array Value} {lt : α → α → Bool} {n blk N : Nat} {I : Array α → World → Prop} (E : EnvN P g lb sf sb lt n blk N I) (a b : Nat) (d : Array α) (w : World)
    (hI : I d w) (hd : d.size = n) (hab : a < b) (hb : b ≤ n) (hn : n < 4611686018427387904) :
    Calls P (ρ.f 29) #[.agg #[.func (.func g) #[] lb, .func (.func sf) #[] sb], .int .i64 a, .int .i64 b] w fun e w' =>
      e = .returned (.tuple #[.int .i64 (choosePivot lt d a b).1, .int .i64 (hintCode (choosePivot lt d a b).2)]) ∧ I d w' ∧ Keeps (fun b => b = blk) w w' := by
  have mixed := L.mixed; have t0 := L.t0; have a0 := L.a0; have z0 := L.z0; have v0 := L.v0; have t3 := L.t3; have a3 := L.a3; have z3 := L.z3; have v3 := L.v3; have t4 := L.t4; have a4 := L.a4; have z4 := L.z4; have v4 := L.v4; have t26 := L.t26; have a26 := L.a26; have z26 := L.z26; have v26 := L.v26; have t37 := L.t37; have a37 := L.a37; have z37 := L.z37; have v37 := L.v37; have t44 := L.t44; have a44 := L.a44; have z44 := L.z44; have v44 := L.v44; have t53 := L.t53; have a53 := L.a53; have z53 := L.z53; have v53 := L.v53; have t64 := L.t64; have a64 := L.a64; have z64 := L.z64; have v64 := L.v64; have t67 := L.t67; have a67 := L.a67; have z67 := L.z67; have v67 := L.v67
  have u44 := run_underlying L.t44
  have e37 : ∀ args w, (callFunc (ρ.f 37) args).run P w = .ok (.enter (ρ.f 37) args) w := enters_of L.f37 (by kernel_rfl) rfl
  have e38 : ∀ args w, (callFunc (ρ.f 38) args).run P w = .ok (.enter (ρ.f 38) args) w := enters_of L.f38 (by kernel_rfl) rfl
  have hNw := E.le d w hI
  have hbw := E.lt d w hI
  have hcbN : N ≤ w.heap.size + 1 := by omega
  -- the world behind the box and the counter
  have hB2 : Below w.heap.size w ((w.alloc (.cells #[.func (.func g) #[] lb, .func (.func sf) #[] sb] (ρ.t 44))).alloc (.cells #[.int .i64 0] (ρ.t 3))) := ((Below.refl _ w).alloc (Nat.le_refl _) _).alloc (by simp) _
  have C0 : Ct blk I (w.heap.size + 1) d 0 ((w.alloc (.cells #[.func (.func g) #[] lb, .func (.func sf) #[] sb] (ρ.t 44))).alloc (.cells #[.int .i64 0] (ρ.t 3))) _ :=
    ⟨E.grow _ _ _ hI hB2, Keeps.refl _ _, World.cell?_alloc_at _ _ _ _ (by simp), World.frozen?_alloc_at _ _ _ _ (by simp), by simp⟩
  have B0 : Bx g lb sf sb w.heap.size ((w.alloc (.cells #[.func (.func g) #[] lb, .func (.func sf) #[] sb] (ρ.t 44))).alloc (.cells #[.int .i64 0] (ρ.t 3))) :=
    (Bx.start (g := g) (lb := lb) (sf := sf) (sb := sb) w (ρ.t 44)).keeps (Keeps.ofBelow (X := fun _ => False) ((Below.refl _ _).alloc (Nat.le_refl _) _)) (fun h => h)
  have HB : Hid (∀ W W', Bx g lb sf sb w.heap.size W → Keeps (fun b => b = blk ∨ b = w.heap.size + 1) W W' → Bx g lb sf sb w.heap.size W') := Lib.hid fun W W' hB hK => hB.keeps hK (by rintro (h | h) <;> omega)
  have KK : Hid (∀ W', Keeps (fun b => b = blk ∨ b = w.heap.size + 1) ((w.alloc (.cells #[.func (.func g) #[] lb, .func (.func sf) #[] sb] (ρ.t 44))).alloc (.cells #[.int .i64 0] (ρ.t 3))) W' → Keeps (fun b => b = blk) w W') := Lib.hid fun W' hK =>
    (Keeps.ofBelow (X := fun b => b = blk) hB2).trans hK (by rintro i (h | h) <;> omega)
  have MA := Lib.hid (fun (w' : World) (s x : Nat) (h : Ct blk I (w.heap.size + 1) d s w' w') (h1 : 1 ≤ x) (h2 : x + 1 < n) (hs : s + 3 < 4611686018427387904) => adj (P := P) (ρ := ρ) { L with } E x (w.heap.size + 1) s d w' h hcbN hd h1 h2 hn hs)
  have MD := Lib.hid (fun (w' : World) (s x y z : Nat) (h : Ct blk I (w.heap.size + 1) d s w' w') (h1 : x < n) (h2 : y < n) (h3 : z < n) (hs : s + 3 < 4611686018427387904) => med (P := P) (ρ := ρ) { L with } E x y z (w.heap.size + 1) s d w' h hcbN hd h1 h2 h3 hs)
  clear E hI hB2
  generalize hW : ((w.alloc (.cells #[.func (.func g) #[] lb, .func (.func sf) #[] sb] (ρ.t 44))).alloc (.cells #[.int .i64 0] (ρ.t 3))) = W0 at C0 B0 KK
  have c00 := B0.c0
  have c10 := B0.c1
  have cs0 := C0.c
  rw [choosePivot_eq]
  obtain ⟨i, hi⟩ : ∃ i : Nat, i = a + (b - a) / 4 * 1 := ⟨_, rfl⟩
  obtain ⟨j, hj⟩ : ∃ j : Nat, j = a + (b - a) / 4 * 2 := ⟨_, rfl⟩
  obtain ⟨k, hk⟩ : ∃ k : Nat, k = a + (b - a) / 4 * 3 := ⟨_, rfl⟩
  have eI : ((a : Int) + ((b : Int) - (a : Int)) / 4) = (i : Int) := by omega
  have eJ : ((a : Int) + ((b : Int) - (a : Int)) / 4 * 2) = (j : Int) := by omega
  have eK : ((a : Int) + ((b : Int) - (a : Int)) / 4 * 3) = (k : Int) := by omega
  by_cases h8 : b - a ≥ 8
  · by_cases h50 : b - a ≥ 50
    · obtain ⟨i1, s1, h1⟩ : ∃ i1 s1, medianAdjacent lt d i 0 = (i1, s1) := ⟨_, _, rfl⟩
      obtain ⟨j1, s2, h2⟩ : ∃ j1 s2, medianAdjacent lt d j s1 = (j1, s2) := ⟨_, _, rfl⟩
      obtain ⟨k1, s3, h3⟩ : ∃ k1 s3, medianAdjacent lt d k s2 = (k1, s3) := ⟨_, _, rfl⟩
      obtain ⟨p, s, h4⟩ : ∃ p s, median lt d i1 j1 k1 s3 = (p, s) := ⟨_, _, rfl⟩
      have hraw : rawPivot lt d a b = (p, s) := by simp only [rawPivot, if_pos h8, if_pos h50, ← hi, ← hj, ← hk, h1, h2, h3, h4]
      have m1 := medianAdjacent_mem lt d i 0; rw [h1] at m1
      have m2 := medianAdjacent_mem lt d j s1; rw [h2] at m2
      have m3 := medianAdjacent_mem lt d k s2; rw [h3] at m3
      have n1 := medianAdjacent_count lt d i 0; rw [h1] at n1
      have n2 := medianAdjacent_count lt d j s1; rw [h2] at n2
      have n3 := medianAdjacent_count lt d k s2; rw [h3] at n3
      simp only [] at m1 m2 m3 n1 n2 n3
      have li1 : i1 < n := by omega
      have lj1 : j1 < n := by omega
      have lk1 : k1 < n := by omega
      have lj : 1 ≤ j ∧ j + 1 < n := by omega
      have lk : 1 ≤ k ∧ k + 1 < n := by omega
      have k1' := MA.out _ 0 i C0.self (by omega) (by omega) (by omega)
      rw [h1] at k1'
      simp only [] at k1'
      have Q2 := Lib.hid h2
      have Q3 := Lib.hid h3
      have Q4 := Lib.hid h4
      rw [hraw]
      obtain ⟨Hc, hHc⟩ : ∃ Hc : Int, Hc = hintCode (hintOf s) := ⟨_, rfl⟩
      have hh0 : s = 0 → Hc = 1 := fun h => by rw [hHc, h]; rfl
      have hh12 : s = 12 → Hc = 2 := fun h => by rw [hHc, h]; rfl
      have hhx : s ≠ 0 → s ≠ 12 → Hc = 0 := fun h1 h2 => by rw [hHc]; unfold hintOf; rw [if_neg h1, if_neg h2]; rfl
      show Calls P (ρ.f 29) _ w fun e w' => e = .returned (.tuple #[.int .i64 (p : Int), .int .i64 (hintCode (hintOf s))]) ∧ I d w' ∧ Keeps (fun b => b = blk) w w'
      rw [← hHc]
      clear hHc hraw
      clear h1 h2 h3 h4 hi hj hk m1 m2 m3
      go_enter L.f29, BodyGg.n29_ntmps ρ
      go_wp2_with (first
        | (go_at_fn (ρ.f 37); refine k1'.mono ?_; rintro e w1 ⟨rfl, C1⟩; clear k1'; have B1 := HB.out _ _ B0 C1.k; have c01 := B1.c0; have c11 := B1.c1; have k2' := MA.out w1 s1 j C1.self lj.1 lj.2 (by omega); rw [Q2.out] at k2'; simp only [] at k2')
        | (go_at_fn (ρ.f 37); refine k2'.mono ?_; rintro e w2 ⟨rfl, C2⟩; clear k2'; have B2 := HB.out _ _ B1 C2.k; have c02 := B2.c0; have c12 := B2.c1; have k3' := MA.out w2 s2 k C2.self lk.1 lk.2 (by omega); rw [Q3.out] at k3'; simp only [] at k3')
        | (go_at_fn (ρ.f 37); refine k3'.mono ?_; rintro e w3 ⟨rfl, C3⟩; clear k3'; have B3 := HB.out _ _ B2 C3.k; have c03 := B3.c0; have c13 := B3.c1; have k4' := MD.out w3 s3 i1 j1 k1 C3.self li1 lj1 lk1 (by omega); rw [Q4.out] at k4'; simp only [] at k4')
        | (go_at_fn (ρ.f 38); refine k4'.mono ?_; rintro e w4 ⟨rfl, C4'⟩; have C4 := (((C0.trans C1).trans C2).trans C3).trans C4'; have cs4 := C4.c))
      all_goals
        go_ret2
        refine ⟨?_, C4.i, KK.out _ C4.k⟩
        first
          | (have e0 : (s : Int) = 0 := of_beq_int (by assumption)
             rw [hh0 (by omega)]; rfl)
          | (have e1 : (s : Int) = 12 := of_beq_int (by assumption)
             rw [hh12 (by omega)]; rfl)
          | (have e0 : (s : Int) ≠ 0 := of_bne_int (by assumption)
             have e1 : (s : Int) ≠ 12 := of_bne_int (by assumption)
             rw [hhx (by omega) (by omega)]; rfl)
          | (rw [hh0 (by omega)]; rfl)
    · obtain ⟨p, s, h4⟩ : ∃ p s, median lt d i j k 0 = (p, s) := ⟨_, _, rfl⟩
      have hraw : rawPivot lt d a b = (p, s) := by simp only [rawPivot, if_pos h8, if_neg h50, ← hi, ← hj, ← hk, h4]
      have k4' := MD.out _ 0 i j k C0.self (by omega) (by omega) (by omega) (by omega)
      rw [h4] at k4'
      simp only [] at k4'
      rw [hraw]
      obtain ⟨Hc, hHc⟩ : ∃ Hc : Int, Hc = hintCode (hintOf s) := ⟨_, rfl⟩
      have hh0 : s = 0 → Hc = 1 := fun h => by rw [hHc, h]; rfl
      have hh12 : s = 12 → Hc = 2 := fun h => by rw [hHc, h]; rfl
      have hhx : s ≠ 0 → s ≠ 12 → Hc = 0 := fun h1 h2 => by rw [hHc]; unfold hintOf; rw [if_neg h1, if_neg h2]; rfl
      show Calls P (ρ.f 29) _ w fun e w' => e = .returned (.tuple #[.int .i64 (p : Int), .int .i64 (hintCode (hintOf s))]) ∧ I d w' ∧ Keeps (fun b => b = blk) w w'
      rw [← hHc]
      clear hHc hraw
      clear h4 hi hj hk
      go_enter L.f29, BodyGg.n29_ntmps ρ
      go_wp2_with (go_at_fn (ρ.f 38); refine k4'.mono ?_; rintro e w4 ⟨rfl, C4⟩; have cs4 := C4.c)
      all_goals
        go_ret2
        refine ⟨?_, C4.i, KK.out _ C4.k⟩
        first
          | (have e0 : (s : Int) = 0 := of_beq_int (by assumption)
             rw [hh0 (by omega)]; rfl)
          | (have e1 : (s : Int) = 12 := of_beq_int (by assumption)
             rw [hh12 (by omega)]; rfl)
          | (have e0 : (s : Int) ≠ 0 := of_bne_int (by assumption)
             have e1 : (s : Int) ≠ 12 := of_bne_int (by assumption)
             rw [hhx (by omega) (by omega)]; rfl)
          | (rw [hh0 (by omega)]; rfl)
  · obtain ⟨p, hp⟩ : ∃ p : Nat, p = j := ⟨_, rfl⟩
    obtain ⟨s, hs⟩ : ∃ s : Nat, s = 0 := ⟨_, rfl⟩
    have hraw : rawPivot lt d a b = (p, s) := by simp only [rawPivot, if_neg h8, ← hj, hp, hs]
    have C0' : Ct blk I (w.heap.size + 1) d s W0 W0 := by rw [hs]; exact C0
    have cs0' := C0'.c
    rw [hraw]
    obtain ⟨Hc, hHc⟩ : ∃ Hc : Int, Hc = hintCode (hintOf s) := ⟨_, rfl⟩
    have hh0 : s = 0 → Hc = 1 := fun h => by rw [hHc, h]; rfl
    have hh12 : s = 12 → Hc = 2 := fun h => by rw [hHc, h]; rfl
    have hhx : s ≠ 0 → s ≠ 12 → Hc = 0 := fun h1 h2 => by rw [hHc]; unfold hintOf; rw [if_neg h1, if_neg h2]; rfl
    show Calls P (ρ.f 29) _ w fun e w' => e = .returned (.tuple #[.int .i64 (p : Int), .int .i64 (hintCode (hintOf s))]) ∧ I d w' ∧ Keeps (fun b => b = blk) w w'
    rw [← hHc]
    clear hHc hraw
    subst hp
    clear hi hj hk cs0
    go_enter L.f29, BodyGg.n29_ntmps ρ
    go_wp2
    all_goals
      go_ret2
      refine ⟨?_, C0'.i, KK.out _ C0'.k⟩
      first
        | (have e0 : (s : Int) = 0 := of_beq_int (by assumption)
           rw [hh0 (by omega)]; rfl)
        | (have e1 : (s : Int) = 12 := of_beq_int (by assumption)
           rw [hh12 (by omega)]; rfl)
        | (have e0 : (s : Int) ≠ 0 := of_bne_int (by assumption)
           have e1 : (s : Int) ≠ 12 := of_bne_int (by assumption)
           rw [hhx (by omega) (by omega)]; rfl)
        | (rw [hh0 (by omega)]; rfl)
#print axioms choose
end Go.Proofs.Ytphblfgafljelaa.Srt
