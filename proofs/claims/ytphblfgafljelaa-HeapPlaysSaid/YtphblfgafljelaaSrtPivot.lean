/- sort.order2_func, median_func, medianAdjacent_func, choosePivot_func with a 'less' that may make memory (printed by gen_piv.py). -/
import Derived.Test.YtphblfgafljelaaSrtKit
namespace Go.Proofs.Ytphblfgafljelaa.Srt
set_option linter.unusedSectionVars false
open Go.RowKit Go.Shelf Go.Lib Go.Sort Go.Proofs.Ytphblfgafljelaa.Hp
variable {P : Program} {ρ : Ren} {α : Type} [Inhabited α]

/-- .. and what lies at N or behind it is nothing to the row. -/
structure EnvN (P : Program) (g : Nat) (lb : Array Value) (sf : Nat) (sb : Array Value) (lt : α → α → Bool) (n blk N : Nat) (I : Array α → World → Prop) : Prop extends Env P g lb sf sb lt n blk I where
  keep : ∀ X d W W', I d W → Keeps X W W' → (∀ i, X i → N ≤ i) → I d W'
  ltN : blk < N
  le : ∀ d W, I d W → N ≤ W.heap.size

/-- The row, and a counter at block cb. -/
structure Ct (blk : Nat) (I : Array α → World → Prop) (cb : Nat) (d : Array α) (s : Nat) (w0 W : World) : Prop where
  i : I d W
  k : Keeps (fun b => b = blk ∨ b = cb) w0 W
  c : W.cell? ⟨cb, 0, none⟩ = some (.int .i64 (s : Int))
  f : W.frozen? ⟨cb, 0, none⟩ = false
  lt : cb < W.heap.size

theorem Ct.self {blk cb s : Nat} {I : Array α → World → Prop} {d : Array α} {w0 W : World} (h : Ct blk I cb d s w0 W) : Ct blk I cb d s W W := ⟨h.i, Keeps.refl _ _, h.c, h.f, h.lt⟩
theorem Ct.trans {blk cb s s' : Nat} {I : Array α → World → Prop} {d : Array α} {w0 W W' : World} (h : Ct blk I cb d s w0 W) (h' : Ct blk I cb d s' W W') : Ct blk I cb d s' w0 W' := ⟨h'.i, h.k.trans h'.k fun _ x => Or.inl x, h'.c, h'.f, h'.lt⟩
/-- A new block, of a caller's. -/
theorem Ct.alloc {g : Nat} {lb : Array Value} {sf : Nat} {sb : Array Value} {lt : α → α → Bool} {n blk N : Nat} {I : Array α → World → Prop} (E : EnvN P g lb sf sb lt n blk N I) {cb s : Nat} {d : Array α} {w0 W : World} (h : Ct blk I cb d s w0 W) (o : Obj) : Ct blk I cb d s w0 (W.alloc o) :=
  have hb : Below W.heap.size W (W.alloc o) := (Below.refl _ W).alloc (Nat.le_refl _) _
  ⟨E.grow _ _ _ h.i hb, h.k.alloc _, (hb.cell (p := ⟨cb, 0, none⟩) h.lt).trans h.c, (hb.frozen (p := ⟨cb, 0, none⟩) h.lt).trans h.f, Nat.lt_of_lt_of_le h.lt hb.size⟩
theorem Ct.kept {g : Nat} {lb : Array Value} {sf : Nat} {sb : Array Value} {lt : α → α → Bool} {n blk N : Nat} {I : Array α → World → Prop} (E : EnvN P g lb sf sb lt n blk N I) {cb s : Nat} {d : Array α} {w0 W W' : World} (h : Ct blk I cb d s w0 W) (hN : N ≤ cb) (hi : I d W') (hk : Keeps (fun b => b = blk) W W') : Ct blk I cb d s w0 W' :=
  have hne : cb ≠ blk := Nat.ne_of_gt (Nat.lt_of_lt_of_le E.ltN hN)
  ⟨hi, h.k.trans hk fun _ x => Or.inl (Or.inl x), (hk.cell (p := ⟨cb, 0, none⟩) h.lt hne).trans h.c, (hk.frozen (p := ⟨cb, 0, none⟩) h.lt hne).trans h.f, Nat.lt_of_lt_of_le h.lt hk.size⟩
theorem Ct.up {g : Nat} {lb : Array Value} {sf : Nat} {sb : Array Value} {lt : α → α → Bool} {n blk N : Nat} {I : Array α → World → Prop} (E : EnvN P g lb sf sb lt n blk N I) {cb s : Nat} {d : Array α} {w0 W : World} (h : Ct blk I cb d s w0 W) (hN : N ≤ cb) : Ct blk I cb d (s + 1) w0 (W.setCell ⟨cb, 0, none⟩ (.int .i64 ((s : Int) + 1))) :=
  ⟨E.keep (fun b => b = cb) d W _ h.i ((Keeps.refl (fun b => b = cb) W).setCell (p := ⟨cb, 0, none⟩) rfl _) (fun i hi => by subst hi; exact hN), h.k.setCell (p := ⟨cb, 0, none⟩) (Or.inr rfl) _,
    by rw [World.cell?_setCell_same _ _ _ h.c]; simp, by simpa using h.f, by simpa using h.lt⟩

/-- The box of 'data'. -/
structure Bx (g : Nat) (lb : Array Value) (sf : Nat) (sb : Array Value) (B : Nat) (W : World) : Prop where
  lt : B < W.heap.size
  c0 : W.cell? ⟨B, 0, none⟩ = some (.func (.func g) #[] lb)
  c1 : W.cell? ⟨B, 1, none⟩ = some (.func (.func sf) #[] sb)
theorem Bx.keeps {g : Nat} {lb : Array Value} {sf : Nat} {sb : Array Value} {B : Nat} {X : Nat → Prop} {W W' : World} (h : Bx g lb sf sb B W) (k : Keeps X W W') (hx : ¬ X B) : Bx g lb sf sb B W' :=
  ⟨Nat.lt_of_lt_of_le h.lt k.size, (k.cell (p := ⟨B, 0, none⟩) h.lt hx).trans h.c0, (k.cell (p := ⟨B, 1, none⟩) h.lt hx).trans h.c1⟩
theorem Bx.start {g : Nat} {lb : Array Value} {sf : Nat} {sb : Array Value} (W : World) (t : TypeId) : Bx g lb sf sb W.heap.size (W.alloc (.cells #[.func (.func g) #[] lb, .func (.func sf) #[] sb] t)) := ⟨by simp, by simp, by simp⟩

set_option maxHeartbeats 2000000 in
set_option maxRecDepth 100000 in
theorem ord (L : LaysGg.n39 P ρ) {g : Nat} {lb : Array Value} {sf : Nat} {sb : Array Value} {lt : α → α → Bool} {n blk N : Nat} {I : Array α → World → Prop} (E : EnvN P g lb sf sb lt n blk N I) (a b cb s : Nat) (d : Array α) (w : World)
    (h : Ct blk I cb d s w w) (hN : N ≤ cb) (hd : d.size = n) (ha : a < n) (hb : b < n) (hs : s < 4611686018427387904) :
    Calls P (ρ.f 39) #[.agg #[.func (.func g) #[] lb, .func (.func sf) #[] sb], .int .i64 a, .int .i64 b, .pointer (some ⟨cb, 0, none⟩)] w fun e w' =>
      e = .returned (.tuple #[.int .i64 (order2 lt d a b s).1, .int .i64 (order2 lt d a b s).2.1]) ∧ Ct blk I cb d (order2 lt d a b s).2.2 w w' := by
  have mixed := L.mixed; have t0 := L.t0; have a0 := L.a0; have z0 := L.z0; have v0 := L.v0; have t3 := L.t3; have a3 := L.a3; have z3 := L.z3; have v3 := L.v3; have t4 := L.t4; have a4 := L.a4; have z4 := L.z4; have v4 := L.v4; have t26 := L.t26; have a26 := L.a26; have z26 := L.z26; have v26 := L.v26; have t37 := L.t37; have a37 := L.a37; have z37 := L.z37; have v37 := L.v37; have t44 := L.t44; have a44 := L.a44; have z44 := L.z44; have v44 := L.v44; have t64 := L.t64; have a64 := L.a64; have z64 := L.z64; have v64 := L.v64
  have u44 := run_underlying L.t44
  have eg := E.eg
  have S0 := St.start E.toEnv h.i (ρ.t 44)
  have HE := Lib.hid E
  have c0 := S0.c0
  have HC := Lib.hid h
  clear E h
  go_enter L.f39, BodyGg.n39_ntmps ρ
  cases hlv : lt d[b]! d[a]! with
  | true =>
    have hl := S0.less HE.out.toEnv hd b a hb ha b a rfl rfl true hlv
    have e2 : order2 lt d a b s = (b, a, s + 1) := by simp [order2, hlv]
    go_wp2_with (go_at_fn g; refine hl.mono ?_; rintro e w' ⟨rfl, S'⟩; have C := HC.out.kept HE.out hN S'.i S'.k; have cc := C.c; have cf := C.f)
    go_ret2
    rw [e2]
    exact ⟨rfl, C.up HE.out hN⟩
  | false =>
    have hl := S0.less HE.out.toEnv hd b a hb ha b a rfl rfl false hlv
    have e2 : order2 lt d a b s = (a, b, s) := by simp [order2, hlv]
    go_wp2_with (go_at_fn g; refine hl.mono ?_; rintro e w' ⟨rfl, S'⟩; have C := HC.out.kept HE.out hN S'.i S'.k)
    go_ret2
    rw [e2]
    exact ⟨rfl, C⟩

set_option maxHeartbeats 2000000 in
set_option maxRecDepth 100000 in
theorem med (L : LaysGg.n38 P ρ) {g : Nat} {lb : Array Value} {sf : Nat} {sb : Array Value} {lt : α → α → Bool} {n blk N : Nat} {I : Array α → World → Prop} (E : EnvN P g lb sf sb lt n blk N I) (a b c cb s : Nat) (d : Array α) (w : World)
    (h : Ct blk I cb d s w w) (hN : N ≤ cb) (hd : d.size = n) (ha : a < n) (hb : b < n) (hc : c < n) (hs : s + 3 < 4611686018427387904) :
    Calls P (ρ.f 38) #[.agg #[.func (.func g) #[] lb, .func (.func sf) #[] sb], .int .i64 a, .int .i64 b, .int .i64 c, .pointer (some ⟨cb, 0, none⟩)] w fun e w' =>
      e = .returned (.int .i64 (median lt d a b c s).1) ∧ Ct blk I cb d (median lt d a b c s).2 w w' := by
  have mixed := L.mixed; have t0 := L.t0; have a0 := L.a0; have z0 := L.z0; have v0 := L.v0; have t3 := L.t3; have a3 := L.a3; have z3 := L.z3; have v3 := L.v3; have t4 := L.t4; have a4 := L.a4; have z4 := L.z4; have v4 := L.v4; have t26 := L.t26; have a26 := L.a26; have z26 := L.z26; have v26 := L.v26; have t37 := L.t37; have a37 := L.a37; have z37 := L.z37; have v37 := L.v37; have t44 := L.t44; have a44 := L.a44; have z44 := L.z44; have v44 := L.v44; have t64 := L.t64; have a64 := L.a64; have z64 := L.z64; have v64 := L.v64; have t67 := L.t67; have a67 := L.a67; have z67 := L.z67; have v67 := L.v67
  have u44 := run_underlying L.t44
  have e39 : ∀ args w, (callFunc (ρ.f 39) args).run P w = .ok (.enter (ρ.f 39) args) w := enters_of L.f39 (by kernel_rfl) rfl
  obtain ⟨a1, b1, s1, q1⟩ : ∃ x y z, order2 lt d a b s = (x, y, z) := ⟨_, _, _, rfl⟩
  obtain ⟨b2, c2, s2, q2⟩ : ∃ x y z, order2 lt d b1 c s1 = (x, y, z) := ⟨_, _, _, rfl⟩
  obtain ⟨a3, b3, s3, q3⟩ : ∃ x y z, order2 lt d a1 b2 s2 = (x, y, z) := ⟨_, _, _, rfl⟩
  have l1 := order2_lt' lt d s ha hb; rw [q1] at l1
  have m1 := order2_swaps' lt d a b s; rw [q1] at m1
  have l2 := order2_lt' lt d s1 l1.2 hc; rw [q2] at l2
  have m2 := order2_swaps' lt d b1 c s1; rw [q2] at m2
  simp only [] at l1 m1 l2 m2
  have hm : median lt d a b c s = (b3, s3) := by unfold median; simp only [q1, q2, q3]
  rw [hm]
  have hne : w.heap.size ≠ cb := Nat.ne_of_gt h.lt
  have hneb : w.heap.size ≠ blk := Nat.ne_of_gt (E.lt d w h.i)
  have C0 := h.alloc E (.cells #[.func (.func g) #[] lb, .func (.func sf) #[] sb] (ρ.t 44))
  have B0 : Bx g lb sf sb w.heap.size _ := Bx.start w (ρ.t 44)
  have HO := Lib.hid (fun (w : World) (s a b : Nat) (h : Ct blk I cb d s w w) (ha : a < n) (hb : b < n) (hs : s < 4611686018427387904) => ord (P := P) (ρ := ρ) { L with } E a b cb s d w h hN hd ha hb hs)
  have HB : Hid (∀ W W', Bx g lb sf sb w.heap.size W → Keeps (fun b => b = blk ∨ b = cb) W W' → Bx g lb sf sb w.heap.size W') := Lib.hid fun W W' hB hK => hB.keeps hK (by rintro (h | h) <;> omega)
  have k1 := HO.out _ s a b C0.self ha hb (by omega)
  rw [q1] at k1
  simp only [] at k1
  have c0 := B0.c0
  have c1 := B0.c1
  clear E h hm
  have Q2 := Lib.hid q2
  have Q3 := Lib.hid q3
  clear q1 q2 q3
  go_enter L.f38, BodyGg.n38_ntmps ρ
  go_wp2_with (first
    | (go_at_fn (ρ.f 39); refine k1.mono ?_; rintro e w1 ⟨rfl, C1⟩; clear k1; have B1 := HB.out _ _ B0 C1.k; have c01 := B1.c0; have c11 := B1.c1; have k2 := HO.out w1 s1 b1 c C1.self l1.2 hc (by omega); rw [Q2.out] at k2; simp only [] at k2)
    | (go_at_fn (ρ.f 39); refine k2.mono ?_; rintro e w2 ⟨rfl, C2⟩; clear k2; have B2 := HB.out _ _ B1 C2.k; have c02 := B2.c0; have c12 := B2.c1; have k3 := HO.out w2 s2 a1 b2 C2.self l1.1 l2.1 (by omega); rw [Q3.out] at k3; simp only [] at k3)
    | (go_at_fn (ρ.f 39); refine k3.mono ?_; rintro e w3 ⟨rfl, C3⟩; clear k3))
  go_ret
  have C := ((C0.trans C1).trans C2).trans C3
  exact ⟨rfl, C⟩

set_option maxHeartbeats 2000000 in
set_option maxRecDepth 100000 in
theorem adj (L : LaysGg.n37 P ρ) {g : Nat} {lb : Array Value} {sf : Nat} {sb : Array Value} {lt : α → α → Bool} {n blk N : Nat} {I : Array α → World → Prop} (E : EnvN P g lb sf sb lt n blk N I) (a cb s : Nat) (d : Array α) (w : World)
    (h : Ct blk I cb d s w w) (hN : N ≤ cb) (hd : d.size = n) (ha1 : 1 ≤ a) (ha2 : a + 1 < n) (hn : n < 4611686018427387904) (hs : s + 3 < 4611686018427387904) :
    Calls P (ρ.f 37) #[.agg #[.func (.func g) #[] lb, .func (.func sf) #[] sb], .int .i64 a, .pointer (some ⟨cb, 0, none⟩)] w fun e w' =>
      e = .returned (.int .i64 (medianAdjacent lt d a s).1) ∧ Ct blk I cb d (medianAdjacent lt d a s).2 w w' := by
  have mixed := L.mixed; have t0 := L.t0; have a0 := L.a0; have z0 := L.z0; have v0 := L.v0; have t3 := L.t3; have a3 := L.a3; have z3 := L.z3; have v3 := L.v3; have t4 := L.t4; have a4 := L.a4; have z4 := L.z4; have v4 := L.v4; have t26 := L.t26; have a26 := L.a26; have z26 := L.z26; have v26 := L.v26; have t37 := L.t37; have a37 := L.a37; have z37 := L.z37; have v37 := L.v37; have t44 := L.t44; have a44 := L.a44; have z44 := L.z44; have v44 := L.v44; have t64 := L.t64; have a64 := L.a64; have z64 := L.z64; have v64 := L.v64; have t67 := L.t67; have a67 := L.a67; have z67 := L.z67; have v67 := L.v67
  have u44 := run_underlying L.t44
  have e38 : ∀ args w, (callFunc (ρ.f 38) args).run P w = .ok (.enter (ρ.f 38) args) w := enters_of L.f38 (by kernel_rfl) rfl
  have C0 := h.alloc E (.cells #[.func (.func g) #[] lb, .func (.func sf) #[] sb] (ρ.t 44))
  have hm := med (P := P) (ρ := ρ) { L with } E (a - 1) a (a + 1) cb s d _ C0.self hN hd (by omega) (by omega) ha2 hs
  rw [show ((a - 1 : Nat) : Int) = (a : Int) - 1 by omega, show ((a + 1 : Nat) : Int) = (a : Int) + 1 by omega] at hm
  clear E h
  go_enter L.f37, BodyGg.n37_ntmps ρ
  go_wp2_with (go_at_fn (ρ.f 38); refine hm.mono ?_; rintro e w1 ⟨rfl, C1⟩)
  go_ret
  have C := C0.trans C1
  exact ⟨rfl, C⟩

#print axioms adj
end Go.Proofs.Ytphblfgafljelaa.Srt
