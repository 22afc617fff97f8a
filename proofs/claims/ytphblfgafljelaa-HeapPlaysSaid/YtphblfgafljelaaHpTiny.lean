/- sort.Slice on at most one thing. -/
import Derived.Test.YtphblfgafljelaaHpAll
import Derived.Test.YtphblfgafljelaaSortLays
import Derived.Shelf.GgSortFunc.Tiny
namespace Go.Proofs.Ytphblfgafljelaa.Hp
open Go.RowKit Go.Shelf Go.Sort

theorem sliceDesc : (Try.prog.info? 54).map (·.desc) = some (.slice 58) := by kernel_rfl
theorem sort_tiny (l : List Thing) (hl : l.length ≤ 1) : SortFor (fun d => d = l) l := by
  intro W rb blk cap Bs hrow hbs hne
  obtain ⟨i, hi, hd⟩ := Option.map_eq_some_iff.1 sliceDesc
  obtain ⟨ie, hie, _⟩ := info_parts info58
  have hK : Lib.swapperK l.length ie 25 = l.length + 1 := by
    rcases Nat.eq_zero_or_pos l.length with h | h
    · rw [h]; simp [Lib.swapperK]
    · rw [show l.length = 1 by omega]; simp [Lib.swapperK]
  have hS := Any.sort_Slice_tiny SortLays.gg6 54 58 i ie hi hd (by kernel_rfl) hie 25 (fun _ => by kernel_rfl) (some ⟨blk, 0, none⟩) l.length cap hl (36 + l.length) (by
    rw [hK]
    rcases Nat.eq_zero_or_pos l.length with h | h
    · rw [h]; kernel_rfl
    · rw [show l.length = 1 by omega]; kernel_rfl) (.func 30) #[] #[.pointer (some ⟨Bs, 0, none⟩)] W
  refine hS.mono ?_
  rintro e w' ⟨rfl, os, rfl⟩
  have hblk : ∀ k, k < W.heap.size → (grow W os).heap[k]? = W.heap[k]? := fun k hk => by
    show (W.heap ++ os)[k]? = _
    rw [Array.getElem?_append_left hk]
  have hk : Keeps (fun k => k = blk) W (grow W os) := ⟨rfl, rfl, rfl, by show W.heap.size ≤ (W.heap ++ os).size; simp, fun k hk _ => hblk k hk⟩
  exact ⟨rfl, l, rfl, rfl, ownsRow_of_block hrow (fun k hk => hblk k (hrow.lt k hk).2), hk⟩
end Go.Proofs.Ytphblfgafljelaa.Hp
