/- distafflaw07.all: what a heap tells, at most so much. -/
import Derived.Test.YtphblfgafljelaaHpAllFn
namespace Go.Proofs.Ytphblfgafljelaa.Hp
open Go.RowKit

theorem row_base {w : World} {b b' : Nat} {e : TypeId} {size n : Nat} {v : Value} {xs : List Value} (h : w.ownsRow b e size v n xs) (hb : b' ≤ b) : w.ownsRow b' e size v n xs := by
  obtain ⟨h1, h2 | ⟨g, cap, cur, rfl, hg, r⟩⟩ := h
  · exact ⟨h1, Or.inl h2⟩
  · exact ⟨h1, Or.inr ⟨g, cap, cur, rfl, Nat.le_trans hb hg, r⟩⟩

theorem eql_fn (w : World) (f : Fn) (a b : Array Value) : (binOp .eql 61 (.func f a b) .nilFunc).run Try.prog w = .ok (.bool false) w := by kernel_rfl

set_option maxRecDepth 100000 in
set_option maxHeartbeats 4000000 in
theorem all_law {hb rb : Nat} {most : Int} {v : Value} {l : List Thing} {w : World} (hmost : 1 ≤ most ∧ most ≤ 1000000) (hl : l.length ≤ 900000)
    (hobj : w.cell? ⟨hb, 0, none⟩ = some v) (hrow : w.ownsRow rb 58 3 v l.length (lcells l)) :
    Calls Try.prog 20 #[.pointer (some ⟨hb, 0, none⟩), .int .i64 most] w fun e w' =>
      ∃ d u, e = .returned u ∧ SortedOf l d ∧ d.length = l.length ∧ w'.ownsRow w.heap.size 49 2 u (d.take (min most.toNat l.length)).length (plist (d.take (min most.toNat l.length))) ∧ Below w.heap.size w w' := by
  have hhl : hb < w.heap.size := by
    rcases Nat.lt_or_ge hb w.heap.size with h | h
    · exact h
    · simp [World.cell?, Array.getElem?_eq_none h] at hobj
  have hm1 : decide (most < 1) = false := by simp; omega
  have e28 := enters_of Try.func28 (by kernel_rfl) rfl
  have hB : Below w.heap.size w (((w.alloc (.cells #[.int .i64 most] 3)).alloc (.cells #[.pointer (some ⟨hb, 0, none⟩)] 23)).alloc (.cells #[.slice none 0 0] 46)) := (((Below.refl _ w).alloc (Nat.le_refl _) _).alloc (by simp) _).alloc (by simp; omega) _
  have HRow := Lib.hid hrow
  have HObj := Lib.hid hobj
  have HB := Lib.hid hB
  clear hrow hobj hB
  have hql := fun (W : World) (B : Array Value) => eql_fn W (.func 28) #[] B
  go_enter Try.func20, Try.ntmps20
  go_wp2_with (go_at_call 23; refine (callsIn_wide.1 (all_in Fence.wide rfl 4 _ _)).mono ?_; rintro e w' ⟨rfl, rfl⟩)
  have hT0 : Told (((w.alloc (.cells #[.int .i64 most] 3)).alloc (.cells #[.pointer (some ⟨hb, 0, none⟩)] 23)).alloc (.cells #[.slice none 0 0] 46)).heap.size (w.heap.size + 1 + 1) w.heap.size most [] (((w.alloc (.cells #[.int .i64 most] 3)).alloc (.cells #[.pointer (some ⟨hb, 0, none⟩)] 23)).alloc (.cells #[.slice none 0 0] 46)) := by
    refine ⟨⟨.slice none 0 0, World.cell?_alloc_at _ _ _ _ (by simp), World.ownsRow_nil _ _ _ _⟩, World.frozen?_alloc_at _ _ _ _ (by simp), ⟨#[.slice none 0 0], (0, 0), ?_⟩, ?_⟩
    · have := heap_alloc_new ((w.alloc (.cells #[.int .i64 most] 3)).alloc (.cells #[.pointer (some ⟨hb, 0, none⟩)] 23)) (.cells #[.slice none 0 0] 46)
      simpa using this
    · rw [World.cell?_alloc_lt _ _ ⟨w.heap.size, 0, none⟩ (by show w.heap.size < _; simp; omega), World.cell?_alloc_lt _ _ ⟨w.heap.size, 0, none⟩ (by simp)]
      exact World.cell?_alloc_at _ _ _ _ rfl
  have hBh : (((w.alloc (.cells #[.int .i64 most] 3)).alloc (.cells #[.pointer (some ⟨hb, 0, none⟩)] 23)).alloc (.cells #[.slice none 0 0] 46)).cell? ⟨w.heap.size + 1, 0, none⟩ = some (.pointer (some ⟨hb, 0, none⟩)) := by
    rw [World.cell?_alloc_lt _ _ ⟨w.heap.size + 1, 0, none⟩ (by simp)]
    exact World.cell?_alloc_at _ _ _ _ (by simp)
  have HC := all1_told (Bh := w.heap.size + 1) (hb := hb) (rb := rb) (v := v) (l := l) hT0 (by simp) (by simp; omega) (by omega) hmost.1 hl hBh ((HB.out.cell (p := ⟨hb, 0, none⟩) hhl).trans HObj.out) (ownsRow_of_block HRow.out fun k hk => HB.out.block k (HRow.out.lt k hk).2)
  refine HC.mono ?_
  rintro e w2 ⟨rfl, d, hd, hdl, hT2, hk2⟩
  obtain ⟨u, o2, hrow2⟩ := hT2.row
  have HD := Lib.hid hd
  have HDl := Lib.hid hdl
  have HR2 := Lib.hid hrow2
  have HK := Lib.hid hk2
  clear HC hT0 hBh hd hdl hrow2 hk2 hT2
  go_wp2
  go_ret
  exact ⟨d, u, rfl, HD.out, HDl.out, row_base HR2.out (by simp; omega), Keeps.below HB.out HK.out HB.out.size (fun i hi => by rcases hi with rfl | hi <;> simp at * <;> omega)⟩

theorem sorted_eq : ∀ {a b : List Thing}, Sorted a → Sorted b → a.Perm b → a = b
  | [], b, _, _, h => (List.nil_perm.1 h).symm
  | a, [], _, _, h => List.perm_nil.1 h
  | x :: a, y :: b, ha, hb, h => by
    obtain ⟨h1, h2⟩ := List.pairwise_cons.1 ha
    obtain ⟨h3, h4⟩ := List.pairwise_cons.1 hb
    have e : x = y := by
      rcases List.mem_cons.1 (h.mem_iff.1 List.mem_cons_self) with e | hx
      · exact e
      · rcases List.mem_cons.1 (h.mem_iff.2 List.mem_cons_self) with e | hy
        · exact e.symm
        · exact absurd (h1 y hy) (by rw [ahead_asymm (h3 x hx)]; simp)
    subst e
    rw [sorted_eq h2 h4 (List.perm_cons x |>.1 h)]

theorem sorted_strict {d : List Thing} (h : d.Pairwise fun a b => aheadB b a = false) (ha : Apart d) : Sorted d := by
  have h2 : d.Pairwise fun a b => a.h ≠ b.h := List.pairwise_map.1 ha
  refine (h.and h2).imp fun {a b} hab => ?_
  rcases ahead_or hab.2 with h3 | h3
  · exact h3
  · rw [hab.1] at h3; cases h3

/-- What a heap tells: its things in their order. -/
theorem all_heap {w : World} {hb mb : Nat} {v : Value} {rb : Nat} {S : List Thing} {last : Int} {N : Nat} (h : HeapIs w hb mb v rb S last N) (most : Int) (hmost : 1 ≤ most ∧ most ≤ 1000000) (hS : S.length ≤ 900000) :
    Calls Try.prog 20 #[.pointer (some ⟨hb, 0, none⟩), .int .i64 most] w fun e w' =>
      ∃ u, e = .returned u ∧ w'.ownsRow w.heap.size 49 2 u (S.take most.toNat).length (plist (S.take most.toNat)) ∧ Below w.heap.size w w' := by
  have hap := h.apart
  obtain ⟨l, f, hraw, hperm, hsort, _⟩ := h
  refine (all_law hmost (by rw [hperm.length_eq]; exact hS) hraw.obj.cell.1 hraw.row).mono ?_
  rintro e w' ⟨d, u, rfl, hd, hdl, hrow, hb⟩
  have hp : d.Perm S := hd.1.trans hperm
  obtain rfl : d = S := sorted_eq (sorted_strict hd.2 (hap.perm hp)) hsort hp
  refine ⟨u, rfl, ?_, hb⟩
  rw [← hdl] at hrow
  rwa [show d.take (min most.toNat d.length) = d.take most.toNat by rw [List.take_eq_take_iff]; omega] at hrow
end Go.Proofs.Ytphblfgafljelaa.Hp
