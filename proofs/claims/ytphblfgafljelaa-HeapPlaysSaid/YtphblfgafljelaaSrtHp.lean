/- sort.Slice on a copy of a heap's things: whatever their number. -/
import Derived.Test.YtphblfgafljelaaSrtPdq
import Derived.Test.YtphblfgafljelaaHpTiny
import Derived.Test.YtphblfgafljelaaHpLay
import Derived.Deep.RegionHeld3
namespace Go.Proofs.Ytphblfgafljelaa.Hp
open Go.RowKit Go.Shelf Go.Lib Go.Sort Go.Proofs.Ytphblfgafljelaa.Srt

/-- In W the row holds d, and the variable that less reads the slice. -/
structure RowI (blk cap Bs n N : Nat) (d : Array Thing) (W : World) : Prop where
  h : HoldsK tcells 3 W blk 0 d
  t : ∃ cur, W.heap[blk]? = some (.cells cur 58 (0, 0)) ∧ cur.size = cap * 3
  s : W.cell? ⟨Bs, 0, none⟩ = some (.slice (some ⟨blk, 0, none⟩) n cap)
  sz : d.size = n
  z : N ≤ W.heap.size

theorem tcells_length (t : Thing) : (tcells t).length = 3 := rfl

theorem RowI.keep {blk cap Bs n N : Nat} {d : Array Thing} {W W' : World} {X : Nat → Prop} (h : RowI blk cap Bs n N d W) (hb : blk < N) (hs : Bs < N) (k : Keeps X W W') (hX : ∀ i, X i → N ≤ i) : RowI blk cap Bs n N d W' := by
  have hz := h.z
  have e : W'.heap[blk]? = W.heap[blk]? := k.block blk (by omega) (fun x => by have := hX _ x; omega)
  refine ⟨fun j hj => ?_, by rw [e]; exact h.t, (k.cell (p := ⟨Bs, 0, none⟩) (by show Bs < _; omega) (fun x => by have h2 : N ≤ Bs := hX _ x; omega)).trans h.s, h.sz, Nat.le_trans hz k.size⟩
  obtain ⟨h1, h2⟩ := h.h j hj
  exact ⟨(World.cell?_of_block (a := ⟨blk, 0 + j, none⟩) e).trans h1, (World.frozen?_of_block (a := ⟨blk, 0 + j, none⟩) e).trans h2⟩

theorem RowI.look {blk cap Bs n N : Nat} {d : Array Thing} {W : World} (h : RowI blk cap Bs n N d W) {i : Nat} (hi : i < n) :
    W.cell? ⟨blk, i * 3, none⟩ = some (.int .u64 (d[i]!).d) ∧ W.cell? ⟨blk, i * 3 + 1, none⟩ = some (.int .u64 (d[i]!).w) ∧ W.cell? ⟨blk, i * 3 + 2, none⟩ = some (.int .i64 (d[i]!).h) := by
  have h0 := (h.h.cell (i := i) (c := 0) (by rw [h.sz]; exact hi) (by omega)).1
  have h1 := (h.h.cell (i := i) (c := 1) (by rw [h.sz]; exact hi) (by omega)).1
  have h2 := (h.h.cell (i := i) (c := 2) (by rw [h.sz]; exact hi) (by omega)).1
  simp only [Nat.zero_add, Nat.add_zero] at h0 h1 h2
  exact ⟨h0, h1, h2⟩

set_option maxRecDepth 100000 in
set_option maxHeartbeats 4000000 in
theorem less_any {blk cap Bs n N : Nat} {d : Array Thing} {w : World} (h : RowI blk cap Bs n N d w) (hb : blk < N) (hs : Bs < N) (i j : Nat) (hi : i < n) (hj : j < n) :
    Calls Try.prog 30 #[.int .i64 i, .int .i64 j, .pointer (some ⟨Bs, 0, none⟩)] w fun e w' => e = .returned (.bool (aheadB d[i]! d[j]!)) ∧ Below w.heap.size w w' := by
  obtain ⟨x0, x1, x2⟩ := h.look hi
  obtain ⟨y0, y1, y2⟩ := h.look hj
  have o0 := h.s
  have hz := h.z
  have hbr : blk < w.heap.size := by omega
  have hsr : Bs < w.heap.size := by omega
  clear h
  generalize d[i]! = x at x0 x1 x2
  generalize d[j]! = y at y0 y1 y2
  obtain ⟨xd, xw, xh⟩ := x
  obtain ⟨yd, yw, yh⟩ := y
  dsimp only at x0 x1 x2 y0 y1 y2
  have HA := Lib.hid (fun W => ahead_any ⟨xd, xw, xh⟩ ⟨yd, yw, yh⟩ W)
  unfold tval at HA
  dsimp only at HA
  have l1 : (i : Int) < (n : Int) := by omega
  have l2 : (j : Int) < (n : Int) := by omega
  have l3 : (0 : Int) ≤ (i : Int) := by omega
  have l4 : (0 : Int) ≤ (j : Int) := by omega
  obtain ⟨bv, hbv⟩ : ∃ bv, aheadB ⟨xd, xw, xh⟩ ⟨yd, yw, yh⟩ = bv := ⟨_, rfl⟩
  rw [hbv] at HA ⊢
  have HB0 := Lib.hid hbr
  have HS0 := Lib.hid hsr
  go_enter Try.func30, Try.ntmps30
  go_wp2_with fail
  go_region_held3 (fun w' => w'.cell? ⟨Bs, 0, none⟩ = some (.slice (some ⟨blk, 0, none⟩) n cap) ∧ w'.cell? ⟨blk, i * 3, none⟩ = some (.int .u64 xd) ∧ w'.cell? ⟨blk, i * 3 + 1, none⟩ = some (.int .u64 xw) ∧ w'.cell? ⟨blk, i * 3 + 2, none⟩ = some (.int .i64 xh) ∧ w'.cell? ⟨blk, j * 3, none⟩ = some (.int .u64 yd) ∧ w'.cell? ⟨blk, j * 3 + 1, none⟩ = some (.int .u64 yw) ∧ w'.cell? ⟨blk, j * 3 + 2, none⟩ = some (.int .i64 yh)) (first | exact ⟨m0, m1, m2, m3, m4, m5, m6⟩ | go_keep)
    (first | (go_at_call 27; refine (HA.out _).mono ?_; rintro e W ⟨rfl, hb2⟩; have m0 := (hb2.cell (p := ⟨Bs, 0, none⟩) hsr).trans o0; have m1 := (hb2.cell (p := ⟨blk, i * 3, none⟩) hbr).trans x0; have m2 := (hb2.cell (p := ⟨blk, i * 3 + 1, none⟩) hbr).trans x1; have m3 := (hb2.cell (p := ⟨blk, i * 3 + 2, none⟩) hbr).trans x2; have m4 := (hb2.cell (p := ⟨blk, j * 3, none⟩) hbr).trans y0; have m5 := (hb2.cell (p := ⟨blk, j * 3 + 1, none⟩) hbr).trans y1; have m6 := (hb2.cell (p := ⟨blk, j * 3 + 2, none⟩) hbr).trans y2))
  have hb3 : Below w.heap.size w W := ((Below.refl _ w).drew).trans hb2
  go_wp2
  go_ret
  exact ⟨rfl, hb3⟩

/-! ### Between the row that a slice owns and the row that the sort reckons with -/
theorem toArray_at {l : List Thing} {i : Nat} (h : i < l.length) : l.toArray[i]! = at_ l i := by
  rw [at_getElem h]; simp [h]
theorem lcells_flat (l : List Thing) {j : Nat} (hj : j < l.length * 3) : (lcells l)[j]? = some ((flatK tcells 3 l.toArray)[j]!) := by
  have hi : j / 3 < l.length := by omega
  rw [get_flatK _ _ _ _ (by simpa using hj), toArray_at hi]
  obtain ⟨c0, c1, c2⟩ := lcells_at hi
  have hc : j % 3 = 0 ∨ j % 3 = 1 ∨ j % 3 = 2 := by omega
  rcases hc with hc | hc | hc
  · rw [hc]; rw [show j / 3 * 3 = j by omega] at c0; rw [c0]; rfl
  · rw [hc]; rw [show j / 3 * 3 + 1 = j by omega] at c1; rw [c1]; rfl
  · rw [hc]; rw [show j / 3 * 3 + 2 = j by omega] at c2; rw [c2]; rfl

theorem rowI_of_own {W : World} {rb blk cap Bs : Nat} {l : List Thing} (h : W.ownsRow rb 58 3 (.slice (some ⟨blk, 0, none⟩) l.length cap) l.length (lcells l)) (hs : W.cell? ⟨Bs, 0, none⟩ = some (.slice (some ⟨blk, 0, none⟩) l.length cap)) :
    RowI blk cap Bs l.length W.heap.size l.toArray W ∧ rb ≤ blk ∧ l.length ≤ cap ∧ cap ≤ maxLen := by
  rcases h.2 with ⟨h0, _⟩ | ⟨g, cap', cur, e, hg, hh, hn, hc, hz, ht⟩
  · cases h0
  · cases e
    refine ⟨⟨fun j hj => ?_, ⟨cur, hh, hz⟩, hs, by simp, Nat.le_refl _⟩, hg, hn, hc⟩
    have hj3 : j < l.length * 3 := by simpa using hj
    have h1 := lcells_flat l hj3
    rw [← ht, List.getElem?_take_of_lt hj3, Array.getElem?_toList] at h1
    refine ⟨?_, by simp [World.frozen?, hh]⟩
    simp only [World.cell?, hh, Nat.zero_add]
    simp [h1]

theorem own_of_rowI {W : World} {rb blk cap Bs n N : Nat} {d : Array Thing} (h : RowI blk cap Bs n N d W) (hrb : rb ≤ blk) (hn : n ≤ cap) (hc : cap ≤ maxLen) :
    W.ownsRow rb 58 3 (.slice (some ⟨blk, 0, none⟩) n cap) n (lcells d.toList) := by
  obtain ⟨cur, hh, hz⟩ := h.t
  have hl : d.toList.length = n := by simpa using h.sz
  refine ⟨by rw [lcells_length, hl], Or.inr ⟨blk, cap, cur, rfl, hrb, hh, hn, hc, hz, ?_⟩⟩
  apply List.ext_getElem?
  intro j
  by_cases hj : j < n * 3
  · rw [List.getElem?_take_of_lt hj, Array.getElem?_toList, lcells_flat _ (by rw [hl]; exact hj)]
    have h1 := (h.h j (by rw [size_flatK, h.sz]; exact hj)).1
    simp only [World.cell?, hh, Nat.zero_add] at h1
    simpa using h1
  · rw [List.getElem?_take_eq_none (by omega), List.getElem?_eq_none (by rw [lcells_length, hl]; omega)]

theorem RowI.swapped {blk cap Bs n N : Nat} {d d' : Array Thing} {W : World} (h : RowI blk cap Bs n N d W) (hd : d'.size = d.size) (hne : Bs ≠ blk) : RowI blk cap Bs n N d' (putRowK tcells 3 W blk 0 d') := by
  refine ⟨holdsK_putRowK tcells 3 W blk 0 d d' h.h hd, ?_, (cell?_putRowK_other tcells 3 W blk 0 d' ⟨Bs, 0, none⟩ hne).trans h.s, hd.trans h.sz, by rw [size_putRowK]; exact h.z⟩
  obtain ⟨cur, hh, hz⟩ := h.t
  exact ⟨putCells id 0 (flatK tcells 3 d') cur, by simp [putRowK, putRow, mapBlock, Array.getElem?_modify, hh, onCells], by simp [putCells, hz]⟩
theorem keeps_putRowK (W : World) (blk : Nat) (d : Array Thing) : Keeps (fun b => b = blk) W (putRowK tcells 3 W blk 0 d) :=
  ⟨rfl, rfl, rfl, Nat.le_of_eq (size_putRowK tcells 3 W blk 0 d).symm, fun k hk hx => by simp [putRowK, putRow, mapBlock, Array.getElem?_modify, Ne.symm hx]⟩

theorem env_heap {blk cap Bs n N : Nat} (hb : blk < N) (hs : Bs < N) (hne : Bs ≠ blk) :
    EnvN Try.prog 30 #[.pointer (some ⟨Bs, 0, none⟩)] 44 #[.slice (some ⟨blk, 0, none⟩) n cap, typeHandle Try.prog 58] aheadB n blk N (RowI blk cap Bs n N) := by
  obtain ⟨ie, hie, _, hz, _⟩ := info_parts info58
  have hsw := swapSwapsK_of_literal (P := Try.prog) false 44 (fun args W => run_callFunc_extern Try.func44 (by kernel_rfl) (by kernel_rfl) (by kernel_rfl) (e := Extern.ReflectliteSwapper.swap false) (by kernel_rfl) args W)
    58 ie hie tcells 3 tcells_length hz (fun _ => by kernel_rfl) (fun x v hv => by simp [tcells] at hv; rcases hv with rfl | rfl | rfl <;> rfl) blk 0 n cap
  exact {
    eg := enters_of Try.func30 (by kernel_rfl) rfl
    less := fun W d h _ i j hi hj => (less_any h hb hs i j hi hj).mono fun e w' ⟨he, hbw⟩ => ⟨he, h.keep hb hs (Keeps.ofBelow (X := fun _ => False) hbw) (fun _ h => h.elim), Keeps.ofBelow hbw⟩
    swap := fun W d h hd i j hi hj => by
      have h1 := hsw W d h.h hd i j hi hj
      have e := swap_worldFK tcells 3 tcells_length W blk 0 d 0 i j (by omega) (by omega)
      rw [putRowK_self tcells 3 W blk 0 d h.h] at e
      have e' : (W.setCells blk (0 + i * 3) (tcells d[j]!)).setCells blk (0 + j * 3) (tcells d[i]!) = putRowK tcells 3 W blk 0 (swp d i j) := e
      rw [e'] at h1
      exact ⟨_, h1, h.swapped (size_swp _ _ _) hne, keeps_putRowK _ _ _⟩
    grow := fun d W W' h hbw => h.keep hb hs (Keeps.ofBelow (X := fun _ => False) hbw) (fun _ h => h.elim)
    lt := fun d W h => Nat.lt_of_lt_of_le hb h.z
    keep := fun X d W W' h k hX => h.keep hb hs k hX
    ltN := hb
    le := fun d W h => h.z }

theorem ahead_swo : SWO aheadB :=
  ⟨fun x => ahead_irr x, fun x y z h1 h2 => ahead_trans h1 h2, fun x y z h1 h2 => by rw [aheadB_false] at *; omega⟩

/-- What sort.Slice makes of l. -/
def SortedOf (l d : List Thing) : Prop := d.Perm l ∧ d.Pairwise fun a b => aheadB b a = false

theorem sort_any (l : List Thing) (hl : l.length ≤ 1000000000) : SortFor (SortedOf l) l := by
  by_cases h2 : l.length ≤ 1
  · intro W rb blk cap Bs hrow hbs hne
    refine (sort_tiny l h2 W rb blk cap Bs hrow hbs hne).mono ?_
    rintro e w' ⟨he, d, h1, rfl, h3, h4⟩
    refine ⟨he, _, h1, ⟨List.Perm.refl _, ?_⟩, h3, h4⟩
    match d, h2 with
    | [], _ => exact List.Pairwise.nil
    | [x], _ => exact List.pairwise_singleton _ _
  · intro W rb blk cap Bs hrow hbs hne
    obtain ⟨hI, hrb, hcap, hmax⟩ := rowI_of_own hrow hbs
    have hblk : blk < W.heap.size := (hrow.lt blk rfl).2
    have hBs : Bs < W.heap.size := by
      rcases Nat.lt_or_ge Bs W.heap.size with h | h
      · exact h
      · simp [World.cell?, Array.getElem?_eq_none h] at hbs
    obtain ⟨i, hi, hd⟩ := Option.map_eq_some_iff.1 sliceDesc
    obtain ⟨ie, hie, _, _, hby⟩ := info_parts info58
    have hK : Lib.swapperK l.length ie 25 = 9 := by
      have c : (l.length == 0) = false := beq_eq_false_iff_ne.2 (by omega)
      have d : (l.length == 1) = false := beq_eq_false_iff_ne.2 (by omega)
      unfold Lib.swapperK
      simp only [c, d, hby, Bool.false_eq_true, if_false]
      cases ie.hasPointers <;> rfl
    have hB : sliceBound Try.prog 58 ie 25 (some ⟨blk, 0, none⟩) l.length cap = #[.slice (some ⟨blk, 0, none⟩) l.length cap, typeHandle Try.prog 58] := by
      unfold sliceBound; rw [hK]; rfl
    have E := env_heap (n := l.length) (cap := cap) hblk hBs hne
    have hbelow : Below W.heap.size W (sliceWorld Try.prog SortLays.gg6_ren 54 (some ⟨blk, 0, none⟩) l.length cap W) := ((Below.refl _ W).alloc (Nat.le_refl _) _).alloc (by simp) _
    have hI2 := E.grow _ _ _ hI hbelow
    have hlim : Lib.bitLen l.length < 4611686018427387904 := Nat.lt_of_le_of_lt (Lib.bitLen_le l.length 62 (by omega) (by omega)) (by omega)
    have hp := Srt.pdqs (ρ := SortLays.gg6_ren) { SortLays.gg6 with } E ahead_swo (by omega) (l.length + 1) 0 l.length (Lib.bitLen l.length) l.toArray _ (by omega) hI2 (by simp) (Nat.zero_le _) (Nat.le_refl _) hlim (Or.inl rfl)
    have hS := Any.sort_Slice_of_pdq SortLays.gg6 54 58 i ie hi hd (by kernel_rfl) hie 25 (fun _ => by kernel_rfl) (some ⟨blk, 0, none⟩) l.length cap (by omega) 44 (by rw [hK]; kernel_rfl) (.func 30) #[] #[.pointer (some ⟨Bs, 0, none⟩)] W _ (by rw [hB]; exact hp)
    refine hS.mono ?_
    rintro e w' ⟨rfl, hI3, hK3⟩
    obtain ⟨p1, p2⟩ := pdq_sorts aheadB ahead_swo l.toArray 0 l.length (Lib.bitLen l.length) true true (Nat.zero_le _) (by simp) (Or.inl rfl)
    generalize pdq aheadB l.toArray 0 l.length (Lib.bitLen l.length) true true = D at hI3 p1 p2
    have hDs : D.size = l.length := by rw [p1.1]; simp
    refine ⟨rfl, D.toList, by simpa using hDs, ⟨?_, ?_⟩, own_of_rowI hI3 hrb hcap hmax, (Keeps.ofBelow (X := fun b => b = blk) hbelow).trans hK3 fun _ h => Or.inl h⟩
    · have t0 := p1.2.2
      have t1 : D.extract 0 l.length = D := by rw [← hDs]; simp
      have t2 : l.toArray.extract 0 l.length = l.toArray := by simp
      rw [t1, t2] at t0
      exact t0
    · rw [List.pairwise_iff_getElem]
      intro x y hx hy hxy
      have := p2 x y (Nat.zero_le _) hxy (by simpa [hDs] using hy)
      simpa [show x < D.size by simpa using hx, show y < D.size by simpa using hy] using this
#print axioms sort_any
end Go.Proofs.Ytphblfgafljelaa.Hp
