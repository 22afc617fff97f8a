/- distafflaw07.all$1: what is told is kept, till there is enough. -/
import Derived.Test.YtphblfgafljelaaHpSortsWalk
import Derived.Test.YtphblfgafljelaaSrtHp
namespace Go.Proofs.Ytphblfgafljelaa.Hp
open Go.RowKit

def pcells (t : Thing) : List Value := [.int .u64 t.d, .int .u64 t.w]
def plist (l : List Thing) : List Value := l.flatMap pcells
theorem plist_snoc (l : List Thing) (t : Thing) : plist (l ++ [t]) = plist l ++ pcells t := by simp [plist]
theorem infoPair : (Try.prog.info? 49).map (fun i => (i.zero, i.size, i.bytes)) = some (some (.agg #[.int .u64 0, .int .u64 0]), 2, 16) := by kernel_rfl

/-- The rows of things stay. -/
def KeepT (W W' : World) : Prop := W.heap.size ≤ W'.heap.size ∧ ∀ (k : Nat) (A : Array Value) (r : Nat × Nat), W.heap[k]? = some (.cells A 58 r) → W'.heap[k]? = W.heap[k]?
theorem KeepT.trans {a b c : World} (h : KeepT a b) (k : KeepT b c) : KeepT a c := ⟨Nat.le_trans h.1 k.1, fun x A r e => by
  have h1 := h.2 x A r e
  exact (k.2 x A r (h1.trans e)).trans h1⟩

/-- pre is told: it lies in the variable at BL; most at BM. -/
structure Told (N BL BM : Nat) (most : Int) (pre : List Thing) (W : World) : Prop where
  row : ∃ v, W.cell? ⟨BL, 0, none⟩ = some v ∧ W.ownsRow N 49 2 v pre.length (plist pre)
  fr : W.frozen? ⟨BL, 0, none⟩ = false
  ty : ∃ c r, W.heap[BL]? = some (.cells c 46 r)
  most : W.cell? ⟨BM, 0, none⟩ = some (.int .i64 most)

set_option maxRecDepth 100000 in
set_option maxHeartbeats 4000000 in
theorem told_any {N BL BM : Nat} {most : Int} {pre : List Thing} {w : World} (h : Told N BL BM most pre w) (hBL : BL < N) (hBM : BM < N) (hne : BM ≠ BL) (hN : N ≤ w.heap.size) (x : Thing) (hp : pre.length ≤ 900000) :
    Calls Try.prog 26 #[.int .u64 x.d, .int .u64 x.w, .pointer (some ⟨BL, 0, none⟩), .pointer (some ⟨BM, 0, none⟩)] w fun e w' =>
      e = .returned (.bool (decide ((pre.length : Int) + 1 < most))) ∧ Told N BL BM most (pre ++ [x]) w' ∧ KeepT w w' ∧ Keeps (fun b => BL = b ∨ N ≤ b) w w' := by
  obtain ⟨⟨v, o0, hrow⟩, of, ⟨ct, rt, hty⟩, om⟩ := h
  obtain ⟨i49, hi49, hz49, hs49, hb49⟩ := info_parts infoPair
  obtain ⟨xd, xw, xh⟩ := x
  dsimp only
  obtain ⟨A, c, hv⟩ := own_shape hrow
  subst hv
  obtain ⟨m, hm⟩ : ∃ m, m = pre.length := ⟨_, rfl⟩
  rw [← hm] at hrow hp o0 ⊢
  have hmI : (m : Int) ≤ 900000 := by omega
  have hBLw : BL < w.heap.size := by omega
  have hBMw : BM < w.heap.size := by omega
  have HRow := Lib.hid hrow
  have HTy := Lib.hid hty
  have HM := Lib.hid hm
  have HP := Lib.hid hp
  clear hrow hty hm hp
  go_enter Try.func26, Try.ntmps26
  go_wp2_with (at_builtin; go_loud (refine wpList_append_own _ rfl _ _ 46 rfl N 49 i49 _ 2 16 Try.underlying46 hi49 hz49 hs49 hb49 rfl (by decide) _ _ _ rfl (HRow.out.alloc _) ⟨w.heap.size, 0, none⟩ 1 1 [.int .u64 xd, .int .u64 xw] rfl rfl ?c1 ?c2 ?c3 ?c4 ?c5 ?_))
  case c1 =>
    intro j u hu
    match j, hu with
    | 0, hu => simp at hu; subst hu; exact World.cell?_alloc_at _ _ _ _ rfl
    | 1, hu => simp at hu; subst hu; exact World.cell?_alloc_at _ _ _ _ rfl
    | j + 2, hu => simp at hu
  case c2 => simp [Value.oneCell']
  case c3 => have := HP.out; unfold maxLen; omega
  case c4 => have := HP.out; omega
  case c5 => simp; omega
  intro v' w1 hrow' hgrow hnew
  obtain ⟨A', c', rfl⟩ := own_shape hrow'
  have hnb : ∀ k, k < N → (Value.slice A m c).ownBlock = some k → False := fun k hk e => by
    rcases HRow.out.2 with ⟨e1, _⟩ | ⟨g, cap, cur, e1, hg, _⟩
    · cases e1; cases e
    · cases e1; cases e; exact Nat.lt_irrefl _ (Nat.lt_of_lt_of_le hk hg)
  have hsz1 : w.heap.size < w1.heap.size := by have := hgrow.size; simp at this; omega
  have b1 : w1.heap[BL]? = w.heap[BL]? := (hgrow.block BL (by simp; omega) (fun e => hnb BL hBL e.symm)).trans (Below.heap_alloc _ _ _ hBLw)
  have b2 : w1.heap[BM]? = w.heap[BM]? := (hgrow.block BM (by simp; omega) (fun e => hnb BM hBM e.symm)).trans (Below.heap_alloc _ _ _ hBMw)
  have t0 : w1.cell? ⟨BL, 0, none⟩ = some (.slice A m c) := (World.cell?_of_block (a := ⟨BL, 0, none⟩) b1).trans o0
  have t1 : w1.frozen? ⟨BL, 0, none⟩ = false := (World.frozen?_of_block (a := ⟨BL, 0, none⟩) b1).trans of
  have t2 : w1.cell? ⟨BM, 0, none⟩ = some (.int .i64 most) := (World.cell?_of_block (a := ⟨BM, 0, none⟩) b2).trans om
  have t3 : (w1.setCell ⟨BL, 0, none⟩ (.slice A' ((m : Int) + 1).toNat c')).cell? ⟨BM, 0, none⟩ = some (.int .i64 most) := by
    rw [World.cell?_setCell_other _ _ _ _ (by intro e; cases e; omega)]; exact t2
  clear o0 of om
  have HRow' := Lib.hid hrow'
  have HG := Lib.hid hgrow
  have HB1 := Lib.hid b1
  clear hrow' hgrow b1 b2
  go_wp2
  go_ret
  have hk0 : Keeps (fun b => BL = b ∨ N ≤ b) w w1 := ((Keeps.refl (fun b => BL = b ∨ N ≤ b) w).alloc _).grown HG.out (fun k e => Or.inr (Nat.le_of_not_lt fun hk => hnb k hk e))
  have hst := (Keeps.refl (fun b => BL = b) w1).setCell (p := ⟨BL, 0, none⟩) rfl (.slice A' (m + 1) c')
  refine ⟨rfl, ⟨⟨_, World.cell?_setCell_same _ _ _ t0, ?_⟩, by simpa using t1, ?_, ?_⟩, ⟨?_, fun k B r hk => ?_⟩, hk0.setCell (p := ⟨BL, 0, none⟩) (Or.inl rfl) _⟩
  · rw [List.length_append, plist_snoc, ← HM.out]
    refine ownsRow_of_block HRow'.out fun k hk => hst.block k (HRow'.out.lt k hk).2 ?_
    intro e
    have := (HRow'.out.lt k hk).1
    omega
  · exact ⟨_, _, by simp [Sort.setCell_eq, Sort.mapBlock, Array.getElem?_modify, HB1.out, HTy.out, Sort.onCells]; exact ⟨rfl, rfl⟩⟩
  · rw [World.cell?_setCell_other _ _ _ _ (by intro e; cases e; omega)]; exact t2
  · have := hst.size; omega
  · have hkl : k < w.heap.size := (Array.getElem?_eq_some_iff.1 hk).1
    have h1 : BL ≠ k := fun e => by subst e; rw [HTy.out] at hk; cases hk
    have h2 : w1.heap[k]? = w.heap[k]? := (HG.out.block k (by simp; omega) (fun e => by
      rcases HRow.out.2 with ⟨e1, _⟩ | ⟨g, cap, cur, e1, _, hh, _⟩
      · cases e1; cases e
      · cases e1; cases e; rw [hh] at hk; cases hk)).trans (Below.heap_alloc _ _ _ hkl)
    exact (hst.block k (by omega) h1).trans h2
end Go.Proofs.Ytphblfgafljelaa.Hp
