/- sort.insertionSort_func with such a 'less'. -/
import Derived.Test.YtphblfgafljelaaSrtKit
namespace Go.Proofs.Ytphblfgafljelaa.Srt
open Go.RowKit Go.Shelf Go.Lib Go.Sort Go.Proofs.Ytphblfgafljelaa.Hp
variable {P : Program} {ρ : Ren} {α : Type} [Inhabited α]

set_option maxHeartbeats 4000000 in
set_option maxRecDepth 100000 in
theorem insertion (L : LaysGg.n26 P ρ) {g : Nat} {lb : Array Value} {sf : Nat} {sb : Array Value} {lt : α → α → Bool} {n blk : Nat} {I : Array α → World → Prop} (E : Env P g lb sf sb lt n blk I) (a b : Nat) (d : Array α) (w : World)
    (hI : I d w) (hd : d.size = n) (hab : a ≤ b) (hb : b ≤ n) (hn : n < 4611686018427387904) :
    Calls P (ρ.f 26) #[.agg #[.func (.func g) #[] lb, .func (.func sf) #[] sb], .int .i64 a, .int .i64 b] w fun e w' =>
      e = .returned (.tuple #[]) ∧ I (insertionSort lt d a b) w' ∧ Keeps (fun b => b = blk) w w' := by
  have mixed := L.mixed; have t0 := L.t0; have a0 := L.a0; have z0 := L.z0; have v0 := L.v0; have t3 := L.t3; have a3 := L.a3; have z3 := L.z3; have v3 := L.v3; have t4 := L.t4; have a4 := L.a4; have z4 := L.z4; have v4 := L.v4; have t26 := L.t26; have a26 := L.a26; have z26 := L.z26; have v26 := L.v26; have t37 := L.t37; have a37 := L.a37; have z37 := L.z37; have v37 := L.v37; have t44 := L.t44; have a44 := L.a44; have z44 := L.z44; have v44 := L.v44
  have u44 := run_underlying L.t44
  have eg := E.eg
  have S0 := St.start E hI (ρ.t 44)
  have HE := Lib.hid E
  clear E hI
  go_enter L.f26, BodyGg.n26_ntmps ρ
  go_wp2
  go_loopw [6] (fun vi wr => ∃ (i : Nat) (dk : Array α), vi = .int .i64 i ∧ a < i ∧ i ≤ b + 1 ∧ dk.size = n ∧ St g lb sf sb blk I w.heap.size dk w wr ∧ Hid (insOuter lt a b i dk = insOuter lt a b (a + 1) d)) (fun vi _ => b + 1 - (intOf vi).toNat)
  case atStart => exact ⟨a + 1, d, by go_num, by omega, by omega, hd, S0, Lib.hid rfl⟩
  case round =>
    clear S0
    obtain ⟨i, dk, rfl, hai, hib, hsk, S, HO⟩ := hrel
    go_wp2
    · have hlt : i < b := by assumption
      go_loopw [7] (fun vj wr2 => ∃ (j : Nat) (dj : Array α), vj = .int .i64 j ∧ a ≤ j ∧ j ≤ i ∧ dj.size = n ∧ St g lb sf sb blk I w.heap.size dj w wr2 ∧ Hid (insInner lt a j dj = insInner lt a i dk)) (fun vj _ => (intOf vj).toNat)
      case atStart => exact ⟨i, dk, rfl, by omega, Nat.le_refl _, hsk, S, Lib.hid rfl⟩
      case round =>
        clear S
        obtain ⟨j, dj, rfl, haj, hji, hsj, S, HI⟩ := hrel
        have c0 := S.c0
        have c1 := S.c1
        have OUT : ∀ W2, (j ≤ a ∨ lt dj[j]! dj[j - 1]! = false) → St g lb sf sb blk I w.heap.size dj w W2 → ∃ i' dk', Value.int .i64 ((i : Int) + 1) = .int .i64 (i' : Nat) ∧ a < i' ∧ i' ≤ b + 1 ∧ dk'.size = n ∧ St g lb sf sb blk I w.heap.size dk' w W2 ∧ Hid (insOuter lt a b i' dk' = insOuter lt a b (a + 1) d) := fun W2 hs S2 =>
          ⟨i + 1, dj, by go_num, by omega, by omega, hsj, S2, Lib.hid (by rw [← HO.out, insOuter_go _ _ _ _ _ hlt, ← HI.out, insInner_stop _ _ _ _ hs])⟩
        by_cases hja : a < j
        · cases hlv : lt dj[j]! dj[j - 1]! with
          | true =>
            have hl := S.less HE.out hsj j (j - 1) (by omega) (by omega) j ((j : Int) - 1) rfl (by omega) true hlv
            go_wp2_with (go_at_fn g; refine hl.mono ?_; rintro e w' ⟨rfl, S'⟩; have c1' := S'.c1; obtain ⟨w2, hsw, S2⟩ := S'.swap HE.out hsj j (j - 1) (by omega) (by omega) j ((j : Int) - 1) rfl (by omega))
            go_roundw
            case rel =>
              (repeat apply Exists.intro)
              exact ⟨⟨j - 1, swp dj j (j - 1), by congr 1 <;> omega, by omega, by omega, by rw [size_swp]; exact hsj, S2, Lib.hid (by rw [← HI.out, insInner_go lt a j dj hja hlv])⟩, by rw [decide_eq_true hlt, show ((j - 1 : Nat) : Int) = (j : Int) - 1 by omega]⟩
            case measure => simp [intOf]; omega
          | false =>
            have hl := S.less HE.out hsj j (j - 1) (by omega) (by omega) j ((j : Int) - 1) rfl (by omega) false hlv
            go_wp2_with (go_at_fn g; refine hl.mono ?_; rintro e w' ⟨rfl, S'⟩)
            go_roundw
            case rel => exact OUT _ (Or.inr hlv) S'
            case measure => simp [intOf]; omega
        · go_wp2
          go_roundw
          case rel => exact OUT _ (Or.inl (by omega)) S
          case measure => simp [intOf]; omega
    · have hge : ¬ i < b := by assumption
      go_end0
      refine ⟨rfl, ?_, S.k⟩
      have : dk = insertionSort lt d a b := by unfold insertionSort; rw [← HO.out, insOuter_stop _ _ _ _ _ hge]
      rw [← this]; exact S.i
#print axioms insertion
end Go.Proofs.Ytphblfgafljelaa.Srt
