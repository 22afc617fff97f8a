/- sort.siftDown_func, sort.heapSort_func, sort.reverseRange_func with such a 'less'. -/
import Derived.Test.YtphblfgafljelaaSrtIns
namespace Go.Proofs.Ytphblfgafljelaa.Srt
open Go.RowKit Go.Shelf Go.Lib Go.Sort Go.Proofs.Ytphblfgafljelaa.Hp
variable {P : Program} {ρ : Ren} {α : Type} [Inhabited α]

set_option maxHeartbeats 4000000 in
set_option maxRecDepth 100000 in
theorem sift (L : LaysGg.n34 P ρ) {g : Nat} {lb : Array Value} {sf : Nat} {sb : Array Value} {lt : α → α → Bool} {n blk : Nat} {I : Array α → World → Prop} (E : Env P g lb sf sb lt n blk I) (lo hi first : Nat) (d : Array α) (w : World)
    (hI : I d w) (hd : d.size = n) (hlo : lo ≤ hi) (hb : first + hi ≤ n) (hn : n < 4611686018427387904) :
    Calls P (ρ.f 34) #[.agg #[.func (.func g) #[] lb, .func (.func sf) #[] sb], .int .i64 lo, .int .i64 hi, .int .i64 first] w fun e w' =>
      e = .returned (.tuple #[]) ∧ I (siftDown lt hi first lo d) w' ∧ Keeps (fun b => b = blk) w w' := by
  have mixed := L.mixed; have t0 := L.t0; have a0 := L.a0; have z0 := L.z0; have v0 := L.v0; have t3 := L.t3; have a3 := L.a3; have z3 := L.z3; have v3 := L.v3; have t4 := L.t4; have a4 := L.a4; have z4 := L.z4; have v4 := L.v4; have t26 := L.t26; have a26 := L.a26; have z26 := L.z26; have v26 := L.v26; have t37 := L.t37; have a37 := L.a37; have z37 := L.z37; have v37 := L.v37; have t44 := L.t44; have a44 := L.a44; have z44 := L.z44; have v44 := L.v44
  have u44 := run_underlying L.t44
  have eg := E.eg
  have S0 := St.start E hI (ρ.t 44)
  have HE := Lib.hid E
  clear E hI
  go_enter L.f34, BodyGg.n34_ntmps ρ
  go_wp2
  go_loopg [8] (hi - lo) (fun kx s8 wr => ∃ (root : Nat) (dk : Array α), s8 = .int .i64 root ∧ root ≤ hi ∧ hi - root ≤ kx ∧ dk.size = n ∧ St g lb sf sb blk I w.heap.size dk w wr ∧ Hid (siftDown lt hi first root dk = siftDown lt hi first lo d))
  case atStart => exact ⟨lo, d, rfl, hlo, Nat.le_refl _, hd, S0, Lib.hid rfl⟩
  case round =>
    clear S0
    obtain ⟨root, dk, rfl, hr, hkx, hds, S, HQ⟩ := hrel
    have c0 := S.c0
    have c1 := S.c1
    by_cases h0 : hi ≤ 2 * root + 1
    · have h0z : (hi : Int) ≤ 2 * (root : Int) + 1 := by omega
      go_wp2
      go_end0
      refine ⟨rfl, ?_, S.k⟩
      rw [← HQ.out, sd_end lt dk h0]; exact S.i
    · have h0z : ¬ ((hi : Int) ≤ 2 * (root : Int) + 1) := by omega
      by_cases h1 : 2 * root + 2 < hi
      · have h1z : 2 * (root : Int) + 1 + 1 < (hi : Int) := by omega
        cases hL : lt dk[first + (2 * root + 1)]! dk[first + (2 * root + 2)]! with
        | true =>
          have hl1 := S.less HE.out hds (first + (2 * root + 1)) (first + (2 * root + 2)) (by omega) (by omega) ((first : Int) + (2 * (root : Int) + 1)) ((first : Int) + (2 * (root : Int) + 1) + 1) (by omega) (by omega) true hL
          cases hG : lt dk[first + root]! dk[first + (2 * root + 2)]! with
          | true =>
            go_wp2_with (first
              | (go_at_fn g; refine hl1.mono ?_; rintro e w' ⟨rfl, S'⟩; clear hl1; have c0' := S'.c0; have hl2 := S'.less HE.out hds (first + root) (first + (2 * root + 2)) (by omega) (by omega) ((first : Int) + (root : Int)) ((first : Int) + (2 * (root : Int) + 1 + 1)) (by omega) (by omega) true hG)
              | (go_at_fn g; refine hl2.mono ?_; rintro e w'' ⟨rfl, S''⟩; have c1' := S''.c1; obtain ⟨w2, hsw, S2⟩ := S''.swap HE.out hds (first + root) (first + (2 * root + 2)) (by omega) (by omega) ((first : Int) + (root : Int)) ((first : Int) + (2 * (root : Int) + 1 + 1)) (by omega) (by omega)))
            go_roundg (hi - (2 * root + 2))
            case measure => omega
            case rel => exact ⟨2 * root + 2, swp dk (first + root) (first + (2 * root + 2)), by go_num, by omega, Nat.le_refl _, by rw [size_swp]; exact hds, S2, Lib.hid (by rw [← HQ.out, sd_right_go lt dk h1 hL hG])⟩
          | false =>
            go_wp2_with (first
              | (go_at_fn g; refine hl1.mono ?_; rintro e w' ⟨rfl, S'⟩; clear hl1; have c0' := S'.c0; have hl2 := S'.less HE.out hds (first + root) (first + (2 * root + 2)) (by omega) (by omega) ((first : Int) + (root : Int)) ((first : Int) + (2 * (root : Int) + 1 + 1)) (by omega) (by omega) false hG)
              | (go_at_fn g; refine hl2.mono ?_; rintro e w'' ⟨rfl, S''⟩))
            (try simp only [Exit.inBlock, Exit.then]); refine bodyPost_ret (results_none rfl _ _ _) rfl ?_
            refine ⟨rfl, ?_, S''.k⟩
            rw [← HQ.out, sd_right_stop lt dk h1 hL hG]; exact S''.i
        | false =>
          have hl1 := S.less HE.out hds (first + (2 * root + 1)) (first + (2 * root + 2)) (by omega) (by omega) ((first : Int) + (2 * (root : Int) + 1)) ((first : Int) + (2 * (root : Int) + 1) + 1) (by omega) (by omega) false hL
          cases hG : lt dk[first + root]! dk[first + (2 * root + 1)]! with
          | true =>
            go_wp2_with (first
              | (go_at_fn g; refine hl1.mono ?_; rintro e w' ⟨rfl, S'⟩; clear hl1; have c0' := S'.c0; have hl2 := S'.less HE.out hds (first + root) (first + (2 * root + 1)) (by omega) (by omega) ((first : Int) + (root : Int)) ((first : Int) + (2 * (root : Int) + 1)) (by omega) (by omega) true hG)
              | (go_at_fn g; refine hl2.mono ?_; rintro e w'' ⟨rfl, S''⟩; have c1' := S''.c1; obtain ⟨w2, hsw, S2⟩ := S''.swap HE.out hds (first + root) (first + (2 * root + 1)) (by omega) (by omega) ((first : Int) + (root : Int)) ((first : Int) + (2 * (root : Int) + 1)) (by omega) (by omega)))
            go_roundg (hi - (2 * root + 1))
            case measure => omega
            case rel => exact ⟨2 * root + 1, swp dk (first + root) (first + (2 * root + 1)), by go_num, by omega, Nat.le_refl _, by rw [size_swp]; exact hds, S2, Lib.hid (by rw [← HQ.out, sd_left_go lt dk (by omega) (fun _ => hL) hG])⟩
          | false =>
            go_wp2_with (first
              | (go_at_fn g; refine hl1.mono ?_; rintro e w' ⟨rfl, S'⟩; clear hl1; have c0' := S'.c0; have hl2 := S'.less HE.out hds (first + root) (first + (2 * root + 1)) (by omega) (by omega) ((first : Int) + (root : Int)) ((first : Int) + (2 * (root : Int) + 1)) (by omega) (by omega) false hG)
              | (go_at_fn g; refine hl2.mono ?_; rintro e w'' ⟨rfl, S''⟩))
            (try simp only [Exit.inBlock, Exit.then]); refine bodyPost_ret (results_none rfl _ _ _) rfl ?_
            refine ⟨rfl, ?_, S''.k⟩
            rw [← HQ.out, sd_left_stop lt dk (by omega) (fun _ => hL) hG]; exact S''.i
      · have h1z : ¬ (2 * (root : Int) + 1 + 1 < (hi : Int)) := by omega
        cases hG : lt dk[first + root]! dk[first + (2 * root + 1)]! with
        | true =>
          have hl2 := S.less HE.out hds (first + root) (first + (2 * root + 1)) (by omega) (by omega) ((first : Int) + (root : Int)) ((first : Int) + (2 * (root : Int) + 1)) (by omega) (by omega) true hG
          go_wp2_with (go_at_fn g; refine hl2.mono ?_; rintro e w'' ⟨rfl, S''⟩; have c1' := S''.c1; obtain ⟨w2, hsw, S2⟩ := S''.swap HE.out hds (first + root) (first + (2 * root + 1)) (by omega) (by omega) ((first : Int) + (root : Int)) ((first : Int) + (2 * (root : Int) + 1)) (by omega) (by omega))
          go_roundg (hi - (2 * root + 1))
          case measure => omega
          case rel => exact ⟨2 * root + 1, swp dk (first + root) (first + (2 * root + 1)), by go_num, by omega, Nat.le_refl _, by rw [size_swp]; exact hds, S2, Lib.hid (by rw [← HQ.out, sd_left_go lt dk (by omega) (fun h => absurd h h1) hG])⟩
        | false =>
          have hl2 := S.less HE.out hds (first + root) (first + (2 * root + 1)) (by omega) (by omega) ((first : Int) + (root : Int)) ((first : Int) + (2 * (root : Int) + 1)) (by omega) (by omega) false hG
          go_wp2_with (go_at_fn g; refine hl2.mono ?_; rintro e w'' ⟨rfl, S''⟩)
          (try simp only [Exit.inBlock, Exit.then]); refine bodyPost_ret (results_none rfl _ _ _) rfl ?_
          refine ⟨rfl, ?_, S''.k⟩
          rw [← HQ.out, sd_left_stop lt dk (by omega) (fun h => absurd h h1) hG]; exact S''.i

set_option maxHeartbeats 4000000 in
set_option maxRecDepth 100000 in
theorem heaped (L : LaysGg.n27 P ρ) {g : Nat} {lb : Array Value} {sf : Nat} {sb : Array Value} {lt : α → α → Bool} {n blk : Nat} {I : Array α → World → Prop} (E : Env P g lb sf sb lt n blk I) (a b : Nat) (d : Array α) (w : World)
    (hI : I d w) (hd : d.size = n) (hab : a ≤ b) (hb : b ≤ n) (hn : n < 4611686018427387904) :
    Calls P (ρ.f 27) #[.agg #[.func (.func g) #[] lb, .func (.func sf) #[] sb], .int .i64 a, .int .i64 b] w fun e w' =>
      e = .returned (.tuple #[]) ∧ I (heapSort lt d a b) w' ∧ Keeps (fun b => b = blk) w w' := by
  have mixed := L.mixed; have t0 := L.t0; have a0 := L.a0; have z0 := L.z0; have v0 := L.v0; have t3 := L.t3; have a3 := L.a3; have z3 := L.z3; have v3 := L.v3; have t4 := L.t4; have a4 := L.a4; have z4 := L.z4; have v4 := L.v4; have t26 := L.t26; have a26 := L.a26; have z26 := L.z26; have v26 := L.v26; have t37 := L.t37; have a37 := L.a37; have z37 := L.z37; have v37 := L.v37; have t44 := L.t44; have a44 := L.a44; have z44 := L.z44; have v44 := L.v44
  have u44 := run_underlying L.t44
  have e34 : ∀ args w, (callFunc (ρ.f 34) args).run P w = .ok (.enter (ρ.f 34) args) w := enters_of L.f34 (by kernel_rfl) rfl
  have ecast : ((b - a : Nat) : Int) = (b : Int) - (a : Int) := by omega
  have S0 := St.start E hI (ρ.t 44)
  have HE := Lib.hid E
  have HS : Hid (∀ lo hi first (d : Array α) (w : World), I d w → d.size = n → lo ≤ hi → first + hi ≤ n → Calls P (ρ.f 34) #[.agg #[.func (.func g) #[] lb, .func (.func sf) #[] sb], .int .i64 lo, .int .i64 hi, .int .i64 first] w fun e w' =>
      e = .returned (.tuple #[]) ∧ I (siftDown lt hi first lo d) w' ∧ Keeps (fun b => b = blk) w w') := Lib.hid fun lo hi first d w h1 h2 h3 h4 => sift (P := P) (ρ := ρ) { L with } E lo hi first d w h1 h2 h3 h4 hn
  clear E hI
  go_enter L.f27, BodyGg.n27_ntmps ρ
  go_wp2
  go_loopg [9] ((b - a - 1) / 2 + 1) (fun kx s9 wr => s9 = .int .i64 ((kx : Int) - 1) ∧ kx ≤ (b - a - 1) / 2 + 1 ∧ ∃ (dk : Array α), dk.size = n ∧ St g lb sf sb blk I w.heap.size dk w wr ∧ Hid (heapBuild lt (b - a) a kx dk = heapBuild lt (b - a) a ((b - a - 1) / 2 + 1) d))
  case atStart => exact ⟨by rw [half_start hab], Nat.le_refl _, d, hd, S0, Lib.hid rfl⟩
  case round =>
    clear S0
    obtain ⟨rfl, hkk, dk, hds, S, HQ⟩ := hrel
    have c0 := S.c0
    have c1 := S.c1
    cases gk with
    | zero =>
      have hB : Hid (dk = heapBuild lt (b - a) a ((b - a - 1) / 2 + 1) d) := HQ
      clear HQ hkk
      go_wp2
      go_loopg [10] (b - a) (fun kx s10 wr2 => s10 = .int .i64 ((kx : Int) - 1) ∧ kx ≤ b - a ∧ ∃ (dj : Array α), dj.size = n ∧ St g lb sf sb blk I w.heap.size dj w wr2 ∧ Hid (heapPop lt a kx dj = heapPop lt a (b - a) dk))
      case atStart => exact ⟨by rw [ecast], Nat.le_refl _, dk, hds, S, Lib.hid rfl⟩
      case round =>
        clear S c0 c1
        obtain ⟨rfl, hkk, dj, hdj, S, HQ2⟩ := hrel
        have c0 := S.c0
        have c1 := S.c1
        cases gk with
        | zero =>
          go_wp2
          go_end0
          have e : dj = heapSort lt d a b := by rw [heapSort, ← hB.out, ← HQ2.out]; rfl
          rw [← e]
          exact ⟨rfl, S.i, S.k⟩
        | succ kx =>
          obtain ⟨w2, hsw, S2⟩ := S.swap HE.out hdj a (a + kx) (by omega) (by omega) a ((a : Int) + (kx : Int)) rfl (by omega)
          have c0' := S2.c0
          have c1' := S2.c1
          have hd2 : (swp dj a (a + kx)).size = n := by rw [size_swp]; exact hdj
          have hcall := HS.out 0 kx a (swp dj a (a + kx)) w2 S2.i hd2 (Nat.zero_le _) (by omega)
          go_wp2_with (go_at_fn (ρ.f 34); refine hcall.mono ?_; rintro e w1 ⟨rfl, hI1, hK1⟩)
          go_roundg kx
          case measure => omega
          case rel =>
            have hss : (siftDown lt kx a 0 (swp dj a (a + kx))).size = (swp dj a (a + kx)).size := size_siftDown lt _ _ _ _ _ (Nat.le_refl _)
            exact ⟨by simp, by omega, siftDown lt kx a 0 (swp dj a (a + kx)), by rw [hss, hd2], S2.on hI1 hK1, HQ2⟩
    | succ kx =>
      have hcall := HS.out kx (b - a) a dk wr S.i hds (by omega) (by omega)
      rw [ecast] at hcall
      go_wp2_with (go_at_fn (ρ.f 34); refine hcall.mono ?_; rintro e w1 ⟨rfl, hI1, hK1⟩)
      go_roundg kx
      case measure => omega
      case rel =>
        have hss : (siftDown lt (b - a) a kx dk).size = dk.size := size_siftDown lt _ _ _ _ _ (Nat.le_refl _)
        exact ⟨by simp, by omega, siftDown lt (b - a) a kx dk, by rw [hss, hds], S.on hI1 hK1, HQ⟩

set_option maxHeartbeats 4000000 in
set_option maxRecDepth 100000 in
theorem reversed (L : LaysGg.n30 P ρ) {g : Nat} {lb : Array Value} {sf : Nat} {sb : Array Value} {lt : α → α → Bool} {n blk : Nat} {I : Array α → World → Prop} (E : Env P g lb sf sb lt n blk I) (a b : Nat) (d : Array α) (w : World)
    (hI : I d w) (hd : d.size = n) (hab : a ≤ b) (hb : b ≤ n) (hn : n < 4611686018427387904) :
    Calls P (ρ.f 30) #[.agg #[.func (.func g) #[] lb, .func (.func sf) #[] sb], .int .i64 a, .int .i64 b] w fun e w' =>
      e = .returned (.tuple #[]) ∧ I (reverseRange d a b) w' ∧ Keeps (fun b => b = blk) w w' := by
  have mixed := L.mixed; have t0 := L.t0; have a0 := L.a0; have z0 := L.z0; have v0 := L.v0; have t3 := L.t3; have a3 := L.a3; have z3 := L.z3; have v3 := L.v3; have t4 := L.t4; have a4 := L.a4; have z4 := L.z4; have v4 := L.v4; have t26 := L.t26; have a26 := L.a26; have z26 := L.z26; have v26 := L.v26; have t37 := L.t37; have a37 := L.a37; have z37 := L.z37; have v37 := L.v37; have t44 := L.t44; have a44 := L.a44; have z44 := L.z44; have v44 := L.v44
  have u44 := run_underlying L.t44
  have S0 := St.start E hI (ρ.t 44)
  have HE := Lib.hid E
  clear E hI
  go_enter L.f30, BodyGg.n30_ntmps ρ
  go_wp2
  go_loopg [6, 7] (b - a) (fun kx s6 s7 wr => ∃ (i jn : Nat) (jz : Int) (dk : Array α), s6 = .int .i64 i ∧ s7 = .int .i64 jz ∧ ((i : Int) < jz → jz = jn ∧ jn < n) ∧ (¬ (i : Int) < jz → ¬ i < jn) ∧ jn - i ≤ kx ∧ dk.size = n ∧ St g lb sf sb blk I w.heap.size dk w wr ∧ Hid (reverseLoop i jn dk = reverseLoop a (b - 1) d))
  case atStart => exact ⟨a, b - 1, (b : Int) - 1, d, rfl, rfl, fun h => ⟨by omega, by omega⟩, fun h => by omega, by omega, hd, S0, Lib.hid rfl⟩
  case round =>
    clear S0
    obtain ⟨i, jn, jz, dk, rfl, rfl, h1, h2, hkx, hds, S, HQ⟩ := hrel
    have c1 := S.c1
    by_cases hlt : (i : Int) < jz
    · obtain ⟨rfl, hjn⟩ := h1 hlt
      have hij : i < jn := by omega
      obtain ⟨w2, hsw, S2⟩ := S.swap HE.out hds i jn (by omega) (by omega) i jn rfl rfl
      clear h1 h2
      go_wp2
      go_roundg (jn - 1 - (i + 1))
      case measure => omega
      case rel =>
        have heq := HQ.out
        rw [reverseLoop, if_pos hij] at heq
        exact ⟨i + 1, jn - 1, (jn : Int) - 1, swp dk i jn, by simp, rfl, fun h => ⟨by omega, by omega⟩, fun h => by omega, Nat.le_refl _, by rw [size_swp]; exact hds, S2, Lib.hid heq⟩
    · have hnot := h2 hlt
      clear h1 h2
      go_wp2
      go_end0
      refine ⟨rfl, ?_, S.k⟩
      have heq := HQ.out
      rw [reverseLoop, if_neg hnot] at heq
      rw [reverseRange, ← heq]; exact S.i
#print axioms sift
#print axioms heaped
#print axioms reversed
end Go.Proofs.Ytphblfgafljelaa.Srt
