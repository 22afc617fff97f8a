/- heap.All's iterator, called with all$1. -/
import Derived.Test.YtphblfgafljelaaHpTold
namespace Go.Proofs.Ytphblfgafljelaa.Hp
open Go.RowKit

theorem wpList_append_run {P : Program} {w : World} {ops : Array Oper} {rest : List Oper} {o : Oper} {a : Act} {Q : Exit → Act → World → Prop}
    (hg : o.guard = none) (s x : Operand) (t : TypeId) (hop : o.op = Op.call { callee := Callee.builtin Builtin.append, args := #[s, x], argTypes := #[t, t] }) {v u v' : Value} {w' : World} (hs : a.eval s = v) (hx : a.eval x = u)
    (hrun : (Builtin.append_ #[t, t] o.type #[v, u]).run P w = .ok v' w') (h : wpList P ops Q rest (a.put o.dst v') w') : wpList P ops Q (o :: rest) a w := by
  refine wpList_plain hg fun K hK => ?_
  unfold Oper.wp execOp
  simp only [hop, resolve, invoke, builtin, Sem.run_bind, Sem.run_pure, Result.andThen_ok, List.map_toArray, List.map_cons, List.map_nil, hs, hx, hrun]
  exact hK _ _ h

theorem Told.below {N BL BM : Nat} {most : Int} {pre : List Thing} {W W' : World} (h : Told N BL BM most pre W) (k : Below W.heap.size W W') : Told N BL BM most pre W' := by
  obtain ⟨⟨v, o, r⟩, f, ⟨c, rr, t⟩, m⟩ := h
  have h1 : BL < W.heap.size := (Array.getElem?_eq_some_iff.1 t).1
  have h2 : BM < W.heap.size := by
    rcases Nat.lt_or_ge BM W.heap.size with h | h
    · exact h
    · simp [World.cell?, Array.getElem?_eq_none h] at m
  exact ⟨⟨v, (k.cell (p := ⟨BL, 0, none⟩) h1).trans o, ownsRow_of_block r (fun g hg => k.block g (r.lt g hg).2)⟩, (k.frozen (p := ⟨BL, 0, none⟩) h1).trans f, ⟨c, rr, (k.block BL h1).trans t⟩, (k.cell (p := ⟨BM, 0, none⟩) h2).trans m⟩

set_option maxRecDepth 100000 in
set_option maxHeartbeats 4000000 in
theorem all1_told {BL BM Bh hb rb : Nat} {most : Int} {v : Value} {l : List Thing} {W : World} (hT : Told W.heap.size BL BM most [] W) (hBL : BL < W.heap.size) (hBM : BM < W.heap.size) (hne : BM ≠ BL) (hmost : 1 ≤ most) (hl : l.length ≤ 900000)
    (hBh : W.cell? ⟨Bh, 0, none⟩ = some (.pointer (some ⟨hb, 0, none⟩))) (hobj : W.cell? ⟨hb, 0, none⟩ = some v) (hrow : W.ownsRow rb 58 3 v l.length (lcells l)) :
    Calls Try.prog 28 #[.func (.func 26) #[] #[.pointer (some ⟨BL, 0, none⟩), .pointer (some ⟨BM, 0, none⟩)], .pointer (some ⟨Bh, 0, none⟩)] W fun e W' =>
      e = .returned (.tuple #[]) ∧ ∃ d, SortedOf l d ∧ d.length = l.length ∧ Told W.heap.size BL BM most (d.take (min most.toNat l.length)) W' ∧ Keeps (fun b => BL = b ∨ W.heap.size ≤ b) W W' := by
  obtain ⟨A, c, hv⟩ := own_shape hrow
  obtain ⟨blk, cap, w1, hrun, hrow1, hbel, hblk, hblk1⟩ := copy_run W v rb l hrow hl
  obtain ⟨m, hm⟩ : ∃ m, m = l.length := ⟨_, rfl⟩
  have hsrt := sort_any l (by omega) (w1.alloc (.cells #[.slice (some ⟨blk, 0, none⟩) l.length cap] 54)) W.heap.size blk cap w1.heap.size (hrow1.alloc _) (World.cell?_alloc_at _ _ _ _ rfl) (by omega)
  have hBl : Bh < W.heap.size := by
    rcases Nat.lt_or_ge Bh W.heap.size with h | h
    · exact h
    · simp [World.cell?, Array.getElem?_eq_none h] at hBh
  have hhl : hb < W.heap.size := by
    rcases Nat.lt_or_ge hb W.heap.size with h | h
    · exact h
    · simp [World.cell?, Array.getElem?_eq_none h] at hobj
  rw [← hm] at hrun hsrt hl ⊢
  subst hv
  have HSrt := Lib.hid hsrt
  have HRun := Lib.hid hrun
  have HM := Lib.hid hm
  have HR1 := Lib.hid hrow1
  have HBel := Lib.hid hbel
  have HT := Lib.hid hT
  have e26 : ∀ args w, (callFunc 26 args).run Try.prog w = .ok (.enter 26 args) w := enters_of Try.func26 (by kernel_rfl) rfl
  have hmI : (m : Int) ≤ 900000 := by omega
  clear hsrt hrun hm hrow1 hbel hT hrow hl
  go_enter Try.func28, Try.ntmps28
  go_wp2_with (first | (at_builtin; refine wpList_append_run rfl (.tmp 6) (.tmp 10) 54 rfl rfl rfl HRun.out ?_) | (go_at_call 29; fail))
  refine HSrt.out.mono ?_
  rintro e w2 ⟨rfl, d, hd, hRd, hrow2, hk2⟩
  have hbelow : Below W.heap.size W w2 := Keeps.below (HBel.out.alloc HBel.out.size _) hk2 (by have := HBel.out.size; simp; try omega) (fun i hi => by subst hi; exact hblk)
  have HT2 := Lib.hid (HT.out.below hbelow)
  have HK2 : Hid (Keeps (fun b => BL = b ∨ W.heap.size ≤ b) W w2) := Lib.hid (Keeps.ofBelow hbelow)
  have hbox : w2.cell? ⟨w1.heap.size, 0, none⟩ = some (.slice (some ⟨blk, 0, none⟩) m cap) := (hk2.cell (p := ⟨w1.heap.size, 0, none⟩) (by simp) (by show w1.heap.size ≠ blk; omega)).trans (World.cell?_alloc_at _ _ _ _ rfl)
  have hdm : d.length = m := hd
  have hblk2 : blk < w2.heap.size := (hrow2.lt blk rfl).2
  have hrow3 : w2.ownsRow W.heap.size 58 3 (.slice (some ⟨blk, 0, none⟩) d.length cap) d.length (lcells d) := by rw [hd]; exact hrow2
  obtain ⟨cur, hcur⟩ := row_block hrow3 rfl
  have HR3 := Lib.hid hrow3
  have HCur := Lib.hid hcur
  have HD := Lib.hid hdm
  have HRd := Lib.hid hRd
  have HZ := Lib.hid hbelow.size
  clear hrow2 hrow3 hk2 hbelow hdm hd hRd hcur hobj hBh
  go_wp2
  go_loopw [18] (fun i wr => ∃ k : Nat, k ≤ m ∧ (k : Int) < most ∧ i = .int .i64 k ∧ Hid (Told W.heap.size BL BM most (d.take k) wr) ∧ Hid (wr.heap[blk]? = w2.heap[blk]?) ∧ blk < wr.heap.size ∧ W.heap.size ≤ wr.heap.size ∧ Hid (Keeps (fun b => BL = b ∨ W.heap.size ≤ b) W wr)) (fun i _ => m - (intOf i).toNat)
  case atStart => exact ⟨0, by omega, by omega, rfl, Lib.hid (by rw [List.take_zero]; exact HT2.out), Lib.hid rfl, hblk2, HZ.out, HK2⟩
  case round =>
    clear hbox
    obtain ⟨k, hk, hkm, rfl, HTk, HBk, hbl, hz, HKk⟩ := hrel
    by_cases hlt : k < m
    · obtain ⟨c0, c1, c2⟩ := lcells_at (l := d) (i := k) (by rw [HD.out]; exact hlt)
      have d0 : wr.cell? ⟨blk, k * 3, none⟩ = _ := (World.cell?_of_block (w := w2) (a := ⟨blk, k * 3, none⟩) HBk.out).trans ((HR3.out.cellAt _ (by rw [HD.out]; omega)).trans c0)
      have d1 : wr.cell? ⟨blk, k * 3 + 1, none⟩ = _ := (World.cell?_of_block (w := w2) (a := ⟨blk, k * 3 + 1, none⟩) HBk.out).trans ((HR3.out.cellAt _ (by rw [HD.out]; omega)).trans c1)
      have d2 : wr.cell? ⟨blk, k * 3 + 2, none⟩ = _ := (World.cell?_of_block (w := w2) (a := ⟨blk, k * 3 + 2, none⟩) HBk.out).trans ((HR3.out.cellAt _ (by rw [HD.out]; omega)).trans c2)
      obtain ⟨x, hx⟩ : ∃ x, x = at_ d k := ⟨_, rfl⟩
      rw [← hx] at d0 d1 d2
      have hsnoc : d.take (k + 1) = d.take k ++ [x] := by
        rw [List.take_add_one, at_eq (by rw [HD.out]; exact hlt), ← hx]; rfl
      have HSn := Lib.hid hsnoc
      have htl : (d.take k).length = k := by rw [List.length_take, HD.out]; omega
      obtain ⟨xd, xw, xh⟩ := x
      dsimp only at d0 d1 d2
      have hT4 := HTk.out.below ((Below.refl _ wr).alloc (Nat.le_refl _) (.cells #[.int .u64 xd, .int .u64 xw, .int .i64 xh] 58))
      have HC := told_any hT4 hBL hBM hne (by simp; omega) ⟨xd, xw, xh⟩ (by rw [htl]; omega)
      rw [htl, ← hsnoc] at HC
      dsimp only at HC
      have HCall := Lib.hid HC
      clear c0 c1 c2 hx hsnoc hT4 HC htl
      have h1 : (wr.alloc (.cells #[.int .u64 xd, .int .u64 xw, .int .i64 xh] 58)).heap[blk]? = some (.cells cur 58 (0, 0)) := (Below.heap_alloc _ _ _ hbl).trans (HBk.out.trans HCur.out)
      have H1 := Lib.hid h1
      clear h1
      by_cases hmo : (k : Int) + 1 < most
      · rw [decide_eq_true hmo] at HCall
        go_wp2_with (go_at_fn 26; refine HCall.out.mono ?_; rintro e w4 ⟨rfl, hT5, hk5, hk6⟩)
        have hb4 : w4.heap[blk]? = w2.heap[blk]? := (hk5.2 blk _ _ H1.out).trans (H1.out.trans HCur.out.symm)
        have hs4 : wr.heap.size < w4.heap.size := by have := hk5.1; simp at this; omega
        have hk7 : Keeps (fun b => BL = b ∨ W.heap.size ≤ b) W w4 := (HKk.out.alloc _).trans hk6 fun _ h => Or.inl h
        go_roundw
        case rel => exact ⟨k + 1, by omega, by omega, by go_num, Lib.hid hT5, Lib.hid hb4, by omega, by omega, Lib.hid hk7⟩
        case measure => simp [intOf]; omega
      · rw [decide_eq_false hmo] at HCall
        go_wp2_with (go_at_fn 26; refine HCall.out.mono ?_; rintro e w4 ⟨rfl, hT5, hk5, hk6⟩)
        have hk7 : Keeps (fun b => BL = b ∨ W.heap.size ≤ b) W w4 := (HKk.out.alloc _).trans hk6 fun _ h => Or.inl h
        (try simp only [Exit.inBlock, Exit.then]); refine bodyPost_ret (results_none rfl _ _ _) rfl ?_
        exact ⟨rfl, d, HRd.out, HD.out, by rw [show min most.toNat m = k + 1 by omega]; exact hT5, hk7⟩
    · obtain rfl : k = m := by omega
      go_wp2
      go_end0
      exact ⟨rfl, d, HRd.out, HD.out, by rw [show min most.toNat k = k by omega]; exact HTk.out, HKk.out⟩
end Go.Proofs.Ytphblfgafljelaa.Hp
