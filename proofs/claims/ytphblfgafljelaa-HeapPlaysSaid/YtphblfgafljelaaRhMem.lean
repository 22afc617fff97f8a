/- The document's heap in memory: an object of two cells and a row of things; what an append of a part of a row does. -/
import Derived.Test.YtphblfgafljelaaHpAllLaw
namespace Go.Proofs.Ytphblfgafljelaa.Hp
open Go.RowKit

theorem infoRef : (Try.prog.info? 66).map (fun i => (i.zero, i.size, i.bytes)) = some (some (.agg #[.int .u64 0, .int .u64 0, .int .i64 0]), 3, 24) := by kernel_rfl

structure RHeap (w : World) (B : Nat) (v : Value) (rb : Nat) (l : List Thing) (last : Int) : Prop where
  obj : w.heap[B]? = some (.cells #[v, .int .i64 last] 41 (0, 0))
  row : w.ownsRow rb 66 3 v l.length (lcells l)

section
variable {w w' : World} {B : Nat} {v : Value} {rb : Nat} {l : List Thing} {last : Int}
theorem RHeap.lt (h : RHeap w B v rb l last) : B < w.heap.size := (Array.getElem?_eq_some_iff.1 h.obj).1
theorem RHeap.cell (h : RHeap w B v rb l last) : w.cell? ⟨B, 0, none⟩ = some v ∧ w.cell? ⟨B, 1, none⟩ = some (.int .i64 last) ∧ ∀ o, w.frozen? ⟨B, o, none⟩ = false := by
  have := h.obj
  exact ⟨by simp [World.cell?, this], by simp [World.cell?, this], fun o => by simp [World.frozen?, this]⟩
theorem RHeap.of_blocks (h : RHeap w B v rb l last) (e : ∀ k, k = B ∨ v.ownBlock = some k → w'.heap[k]? = w.heap[k]?) : RHeap w' B v rb l last :=
  ⟨(e B (Or.inl rfl)).trans h.obj, ownsRow_of_block h.row fun k hk => e k (Or.inr hk)⟩
theorem RHeap.of_lt (h : RHeap w B v rb l last) {k : Nat} (hk : k = B ∨ v.ownBlock = some k) : k < w.heap.size := by
  rcases hk with rfl | hk
  · exact h.lt
  · exact (h.row.lt k hk).2
theorem RHeap.below (h : RHeap w B v rb l last) (k : Below w.heap.size w w') : RHeap w' B v rb l last := h.of_blocks fun i hi => k.block i (h.of_lt hi)
theorem RHeap.keeps {X : Nat → Prop} (h : RHeap w B v rb l last) (k : Keeps X w w') (hx : ∀ i, i = B ∨ v.ownBlock = some i → ¬ X i) : RHeap w' B v rb l last :=
  h.of_blocks fun i hi => k.block i (h.of_lt hi) (hx i hi)
end
theorem ref_set0 {w : World} {B : Nat} {a b u : Value} {t : TypeId} (h : w.heap[B]? = some (.cells #[a, b] t (0, 0))) : (w.setCell ⟨B, 0, none⟩ u).heap[B]? = some (.cells #[u, b] t (0, 0)) := by
  simp [Sort.setCell_eq, Sort.mapBlock, Array.getElem?_modify, h, Sort.onCells]
theorem ref_set1 {w : World} {B : Nat} {a b u : Value} {t : TypeId} (h : w.heap[B]? = some (.cells #[a, b] t (0, 0))) : (w.setCell ⟨B, 1, none⟩ u).heap[B]? = some (.cells #[a, u] t (0, 0)) := by
  simp [Sort.setCell_eq, Sort.mapBlock, Array.getElem?_modify, h, Sort.onCells]
theorem RHeap.ne {w : World} {B : Nat} {v : Value} {rb : Nat} {l : List Thing} {last : Int} (h : RHeap w B v rb l last) : ∀ g, v.ownBlock = some g → g ≠ B := by
  intro g hg e
  subst e
  obtain ⟨c, hc⟩ := row_block h.row hg
  have := h.obj
  rw [hc] at this
  injection this with this
  injection this with _ h3 _
  exact absurd h3 (by decide)
theorem RHeap.bump {w : World} {B : Nat} {v : Value} {rb : Nat} {l : List Thing} {last : Int} (h : RHeap w B v rb l last) (x : Int) : RHeap (w.setCell ⟨B, 1, none⟩ (.int .i64 x)) B v rb l x :=
  ⟨ref_set1 h.obj, ownsRow_of_block h.row fun k hk => Below.heap_setCell _ _ _ _ (h.ne k hk)⟩
/-- A new row is laid into the object. -/
theorem RHeap.turn {w : World} {B : Nat} {v : Value} {rb : Nat} {l : List Thing} {last : Int} (h : RHeap w B v rb l last) {v' : Value} {l' : List Thing} (hr : w.ownsRow rb 66 3 v' l'.length (lcells l')) : RHeap (w.setCell ⟨B, 0, none⟩ v') B v' rb l' last := by
  have hne : ∀ g, v'.ownBlock = some g → g ≠ B := by
    intro g hg e
    subst e
    obtain ⟨c, hc⟩ := row_block hr hg
    have := h.obj
    rw [hc] at this
    injection this with this
    injection this with _ h3 _
    exact absurd h3 (by decide)
  exact ⟨ref_set0 h.obj, ownsRow_of_block hr fun k hk => Below.heap_setCell _ _ _ _ (hne k hk)⟩

/-- By their types no block of the one is one of the other. -/
theorem RHeap.apart {w : World} {B : Nat} {v : Value} {rb : Nat} {l : List Thing} {last : Int} (h : RHeap w B v rb l last) {hb mb : Nat} {u : Value} {rb2 : Nat} {l2 : List Thing} {f : Int → Option Nat} {last2 : Int} {N : Nat} (h2 : Raw w hb mb u rb2 l2 f last2 N) :
    ∀ i, i = B ∨ v.ownBlock = some i → ¬ Of hb mb u i := by
  intro i hi ho
  have h1 : ∃ c, w.heap[i]? = some (.cells c 41 (0, 0)) ∨ w.heap[i]? = some (.cells c 66 (0, 0)) := by
    rcases hi with rfl | hi
    · exact ⟨_, Or.inl h.obj⟩
    · obtain ⟨c, hc⟩ := row_block h.row hi
      exact ⟨c, Or.inr hc⟩
  obtain ⟨c, hc⟩ := h1
  rcases ho with rfl | rfl | ho
  · have := h2.obj
    unfold HObj at this
    rw [this] at hc
    rcases hc with hc | hc <;> (injection hc with hc; injection hc with _ h3 _; exact absurd h3 (by decide))
  · obtain ⟨es, c', hm⟩ := h2.map.isMap
    rw [hm] at hc
    rcases hc with hc | hc <;> cases hc
  · obtain ⟨c', hc'⟩ := row_block h2.row ho
    rw [hc'] at hc
    rcases hc with hc | hc <;> (injection hc with hc; injection hc with _ h3 _; exact absurd h3 (by decide))

/-- The cells of a part of a row. -/
theorem part_cells {W : World} {rb : Nat} {e : TypeId} {g c : Nat} {l : List Thing} (h : W.ownsRow rb e 3 (.slice (some ⟨g, 0, none⟩) l.length c) l.length (lcells l)) (a m : Nat) :
    ∀ j u, (lcells ((l.drop a).take m))[j]? = some u → W.cell? ((⟨g, a * 3, none⟩ : Addr).add j) = some u := by
  intro j u hu
  rw [Addr.add_lit]
  have h1 : (lcells l)[a * 3 + j]? = some u := by
    rw [← lcells_take, List.getElem?_take] at hu
    split at hu
    · have e : lcells (l.drop a) = (lcells l).drop (a * 3) := by
        have h2 := List.take_append_drop a l
        have h3 : lcells l = lcells (l.take a) ++ lcells (l.drop a) := by rw [lcells, lcells, lcells, ← List.flatMap_append, h2]
        by_cases ha : a ≤ l.length
        · rw [h3, List.drop_left' (by rw [lcells_length, List.length_take]; omega)]
        · rw [List.drop_eq_nil_of_le (by omega), List.drop_eq_nil_of_le (by rw [lcells_length]; omega)]; rfl
      rwa [e, List.getElem?_drop] at hu
    · cases hu
  have := h.cells rfl (a * 3 + j) u h1
  rwa [Addr.add_lit, Nat.zero_add] at this

/-- An append of things to a row of one's own. -/
theorem app_part {W : World} (rb : Nat) (u : Value) (p : List Thing) (hu : W.ownsRow rb 66 3 u p.length (lcells p)) (A : Option Addr) (m c : Nat) (news : List Thing) (hm : news.length = m)
    (hA : (A = none ∧ m = 0 ∧ c = 0) ∨ ∃ a, A = some a ∧ ∀ j x, (lcells news)[j]? = some x → W.cell? (a.add j) = some x) (hlen : p.length + m ≤ 1000000) (hrb : rb ≤ W.heap.size) :
    ∃ A' c' W', (Builtin.append_ #[39, 39] 39 #[u, .slice A m c]).run Try.prog W = .ok (.slice A' (p.length + m) c') W' ∧ W'.ownsRow rb 66 3 (.slice A' (p ++ news).length c') (p ++ news).length (lcells (p ++ news)) ∧ W.grownBy W' u.ownBlock := by
  obtain ⟨i, hi, hz, hs, hb⟩ := info_parts infoRef
  have el : (p ++ news).length = p.length + m := by rw [List.length_append, hm]
  have ec : lcells (p ++ news) = lcells p ++ lcells news := by simp [lcells]
  rcases hA with ⟨rfl, rfl, rfl⟩ | ⟨a, rfl, ha⟩
  · obtain rfl : news = [] := List.length_eq_zero_iff.1 hm
    obtain ⟨A', c', rfl⟩ := own_shape hu
    refine ⟨A', c', W, run_append_owned_none (P := Try.prog) (w := W) rb 39 39 66 i 3 Try.underlying39 hi _ _ _ hu, ?_, ⟨rfl, rfl, rfl, Nat.le_refl _, fun _ _ _ => rfl⟩⟩
    rw [List.append_nil]; exact hu
  · obtain ⟨v', w', hrun, h2, h3, h4⟩ := run_append_own (P := Try.prog) W rb 39 39 66 i _ 3 24 Try.underlying39 hi hz hs hb rfl (by decide) u p.length (lcells p) hu a m c (lcells news) (by rw [lcells_length, hm]) ha (lcells_one news) (by unfold maxLen; omega) (by omega) hrb
    obtain ⟨A', c', rfl⟩ := own_shape h2
    exact ⟨A', c', w', hrun, by rw [el, ec]; exact h2, h3⟩
end Go.Proofs.Ytphblfgafljelaa.Hp
