/- heap.All's iterator and heap.Len, given what sort.Slice does to a copy of the things. -/
import Derived.RangeFuncNested
import Derived.RangeFuncBound
import Derived.RangeFuncCalls
import Derived.RangeFuncLeaves
import Derived.RangeFuncFrom
import Derived.Shelf.Abstract
import Derived.Shelf.RegionOpen
import Derived.WalkKit
import Derived.OwnWalkIn
import Derived.TacticsInMore
import Derived.LoopNIn
import Derived.LoopIn
import Derived.Laws.AppendOwnNone
import Derived.Test.YtphblfgafljelaaHpPop
namespace Go.Proofs.Ytphblfgafljelaa.Hp
open Go.RowKit Go.Maps
attribute [local go_sem] Oper.semAt_some

/-- What sort.Slice does to a copy of l: R says what it holds behind it. -/
def SortFor (R : List Thing → Prop) (l : List Thing) : Prop :=
  ∀ (W : World) (rb blk cap Bs : Nat), W.ownsRow rb 58 3 (.slice (some ⟨blk, 0, none⟩) l.length cap) l.length (lcells l) → W.cell? ⟨Bs, 0, none⟩ = some (.slice (some ⟨blk, 0, none⟩) l.length cap) → Bs ≠ blk →
    Calls Try.prog 29 #[.iface 54 (.slice (some ⟨blk, 0, none⟩) l.length cap), .func (.func 30) #[] #[.pointer (some ⟨Bs, 0, none⟩)]] W fun e w' =>
      e = .returned (.tuple #[]) ∧ ∃ d, d.length = l.length ∧ R d ∧ w'.ownsRow rb 58 3 (.slice (some ⟨blk, 0, none⟩) l.length cap) l.length (lcells d) ∧ Keeps (fun k => k = blk) W w'

theorem copy_run (W : World) (v : Value) (rb : Nat) (l : List Thing) (h : W.ownsRow rb 58 3 v l.length (lcells l)) (hl : l.length ≤ 900000) :
    ∃ blk cap w1, (Builtin.append_ #[54, 54] 54 #[.slice (some ⟨W.heap.size, 0, none⟩) 0 0, v]).run Try.prog (W.alloc (.cells #[] 58)) = .ok (.slice (some ⟨blk, 0, none⟩) l.length cap) w1 ∧
      w1.ownsRow W.heap.size 58 3 (.slice (some ⟨blk, 0, none⟩) l.length cap) l.length (lcells l) ∧ Below W.heap.size W w1 ∧ W.heap.size ≤ blk ∧ blk < w1.heap.size := by
  obtain ⟨i58, hi58, hz58, hs58, hb58⟩ := info_parts info58
  have hE : (W.alloc (.cells #[] 58)).ownsRow W.heap.size 58 3 (.slice (some ⟨W.heap.size, 0, none⟩) 0 0) 0 [] := own_empty W W.heap.size 58 3 (Nat.le_refl _)
  rcases h.2 with ⟨rfl, h0⟩ | ⟨g, cap, cur, rfl, hg, hh, hn, hc, hs, ht⟩
  · have hl0 : l = [] := List.length_eq_zero_iff.1 h0
    subst hl0
    have hrun := run_append_owned_none (P := Try.prog) (w := W.alloc (.cells #[] 58)) W.heap.size 54 54 58 i58 3 Try.underlying54 hi58 _ 0 [] hE
    exact ⟨_, _, _, hrun, hE, (Below.refl _ W).alloc (Nat.le_refl _) _, Nat.le_refl _, by simp⟩
  · have hgl := (h.lt g rfl).2
    obtain ⟨v', w', hrun, h2, h3, h4⟩ := run_append_own (P := Try.prog) (W.alloc (.cells #[] 58)) W.heap.size 54 54 58 i58 _ 3 24 Try.underlying54 hi58 hz58 hs58 hb58 rfl (by decide) _ 0 [] hE ⟨g, 0, none⟩ l.length cap (lcells l) (lcells_length l)
      (fun j u hu => by
        rw [World.cell?_alloc_lt _ _ _ (by rw [Addr.add_lit]; exact hgl)]
        exact h.cells rfl j u hu) (lcells_one l) (by unfold maxLen; omega) (by omega) (by simp)
    rw [Nat.zero_add, List.nil_append] at h2
    have hb : Below W.heap.size W w' := ((Below.refl _ W).alloc (Nat.le_refl _) _).grown h3 (by simp) (fun k e => by cases e; exact Nat.le_refl _)
    rcases h2.2 with ⟨e1, _⟩ | ⟨g', cap', cur', rfl, hg', hh', _⟩
    · exact absurd (h4.1 e1).1 (by simp)
    · exact ⟨g', cap', w', hrun, h2, hb, hg', (h2.lt g' rfl).2⟩

/-- An append whose run is known, inside a fence. -/
theorem wpListIn_append_run {F : Fence} {n : Nat} {P : Program} {w : World} {ops : Array Oper} {rest : List Oper} {o : Oper} {a : Act} {Q : Exit → Act → World → Prop}
    (hg : o.guard = none) (s x : Operand) (t : TypeId) (hop : o.op = Op.call { callee := Callee.builtin Builtin.append, args := #[s, x], argTypes := #[t, t] }) {v u v' : Value} {w' : World} (hs : a.eval s = v) (hx : a.eval x = u)
    (hrun : (Builtin.append_ #[t, t] o.type #[v, u]).run P w = .ok v' w') (hK : wpListIn F n P ops Q rest (a.put o.dst v') w') : wpListIn F n P ops Q (o :: rest) a w := by
  refine wpListIn_plain hg fun K hK' => ?_
  unfold Oper.wpIn
  refine ⟨?_, ?_⟩
  · simp [Oper.about, hop, resolve, Target.leads, Sem.run_pure]
  · rw [Oper.semAt_plain F _ _ (by rw [hop]; intro c hc'; cases hc')]
    simp [execOp, hop, resolve, invoke, builtin, hs, hx, hrun, Result.andThen]
    exact hK' _ _ hK

/-- What a round keeps: the cells of blocks from n on. -/
def CellsKeep (n : Nat) (W W' : World) : Prop := W.heap.size ≤ W'.heap.size ∧ ∀ k c t fr, n ≤ k → W.heap[k]? = some (.cells c t fr) → W'.heap[k]? = some (.cells c t fr)
theorem CellsKeep.t {n : Nat} {A B C : World} (h : CellsKeep n A B) (k : CellsKeep n B C) : CellsKeep n A C :=
  ⟨Nat.le_trans h.1 k.1, fun i c t fr hi hc => k.2 i c t fr hi (h.2 i c t fr hi hc)⟩
theorem CellsKeep.b {n m : Nat} (W : World) (l : Nat) (o o' : Obj) (_ : m ≤ l) (h : W.heap[l]? = some o) (ho : o.isCells = false) (_ : o.isWalk = false) : CellsKeep n W (W.putObj l o') := by
  refine ⟨by simp, fun k c t fr _ hc => ?_⟩
  by_cases e : k = l
  · subst e
    rw [h] at hc
    cases hc
    cases ho
  · rw [World.putObj_heap_other e]; exact hc

def encT (t : Thing) : Array Value := #[.int .u64 t.d, .int .u64 t.w]

set_option maxRecDepth 100000 in
set_option maxHeartbeats 4000000 in
theorem all1_in (F : Fence) (hF : F = Fence.wide) (n : Nat) (hn : 1 ≤ n) (l0 Bh hb : Nat) (v : Value) (rb : Nat) (l : List Thing) (R : List Thing → Prop) (hS : SortFor R l) (hl : l.length ≤ 900000) (n0 : Nat) (J Jx : List Thing → World → Prop)
    (W : World) (hJ : AbidesFrom W.heap.size J) (hn0 : n0 ≤ W.heap.size)
    (hY : ∀ pre x W1, J pre W1 → pre.length < l.length → YieldAt F (n - 1) Try.prog l0 (encT x) W1 fun e W' =>
      (e = .returned (.bool true) ∧ J (pre ++ [x]) W' ∧ CellsKeep n0 W1 W') ∨ (e = .returned (.bool false) ∧ Jx (pre ++ [x]) W'))
    (hBh : W.cell? ⟨Bh, 0, none⟩ = some (.pointer (some ⟨hb, 0, none⟩))) (hobj : W.cell? ⟨hb, 0, none⟩ = some v) (hrow : W.ownsRow rb 58 3 v l.length (lcells l)) (h0 : J [] W) :
    CallsIn F n Try.prog 28 #[.func (.yield l0) #[] #[], .pointer (some ⟨Bh, 0, none⟩)] W fun e W' => (∃ v, e = .returned v) ∧
      ((∃ xs, (R xs ∧ xs.length = l.length) ∧ J xs W') ∨ (∃ pre, (∃ xs, R xs ∧ pre <+: xs) ∧ Jx pre W')) := by
  subst hF
  obtain ⟨A, c, hv⟩ := own_shape hrow
  obtain ⟨blk, cap, w1, hrun, hrow1, hbel, hblk, hblk1⟩ := copy_run W v rb l hrow hl
  obtain ⟨m, hm⟩ : ∃ m, m = l.length := ⟨_, rfl⟩
  have hsrt := hS (w1.alloc (.cells #[.slice (some ⟨blk, 0, none⟩) l.length cap] 54)) W.heap.size blk cap w1.heap.size (hrow1.alloc _) (World.cell?_alloc_at _ _ _ _ rfl) (by omega)
  have hBl : Bh < W.heap.size := by
    rcases Nat.lt_or_ge Bh W.heap.size with h | h
    · exact h
    · simp [World.cell?, Array.getElem?_eq_none h] at hBh
  have hhl : hb < W.heap.size := by
    rcases Nat.lt_or_ge hb W.heap.size with h | h
    · exact h
    · simp [World.cell?, Array.getElem?_eq_none h] at hobj
  rw [← hm] at hrun hsrt hl hY
  subst hv
  have HSrt := Lib.hid hsrt
  have HRun := Lib.hid hrun
  have HY := Lib.hid hY
  have HJ := Lib.hid hJ
  have HM := Lib.hid hm
  have HR1 := Lib.hid hrow1
  have HBel := Lib.hid hbel
  have HL := Lib.hid hl
  have hmI : (m : Int) ≤ 900000 := by omega
  clear hsrt hrun hY hJ hm hrow1 hbel hS hrow hl
  refine callsIn_of_wp Try.func28 rfl trivial ?_ rfl
  simp only [Try.ntmps28, List.size_toArray, List.length_cons, List.length_nil, Nat.reduceAdd, Nat.reduceSub, Array.replicate_succ, Array.replicate_zero, List.push_toArray, List.append_toArray, List.nil_append, List.cons_append]
  gi_wp2_with (first | (gi_at_builtin; refine wpListIn_append_run rfl (.tmp 6) (.tmp 10) 54 rfl rfl rfl HRun.out ?_) | (gi_at_call 29; fail))
  refine ⟨trivial, ?_⟩
  refine (callsIn_wide.2 HSrt.out).mono ?_
  rintro e w2 ⟨rfl, d, hd, hRd, hrow2, hk2⟩
  have hbelow : Below W.heap.size W w2 := Keeps.below (HBel.out.alloc HBel.out.size _) hk2 (by have := HBel.out.size; simp; try omega) (fun i hi => by subst hi; exact hblk)
  have hJ2 : J [] w2 := HJ.out [] W w2 none h0 ⟨hbelow.os, hbelow.tape, hbelow.output, hbelow.size, fun k hk _ => hbelow.block k hk⟩ (fun r e => by cases e)
  have hbox : w2.cell? ⟨w1.heap.size, 0, none⟩ = some (.slice (some ⟨blk, 0, none⟩) m cap) := (hk2.cell (p := ⟨w1.heap.size, 0, none⟩) (by simp) (by show w1.heap.size ≠ blk; omega)).trans (World.cell?_alloc_at _ _ _ _ rfl)
  have hdm : d.length = m := hd
  have hblk2 : blk < w2.heap.size := (hrow2.lt blk rfl).2
  have hrow3 : w2.ownsRow W.heap.size 58 3 (.slice (some ⟨blk, 0, none⟩) d.length cap) d.length (lcells d) := by rw [hd]; exact hrow2
  obtain ⟨cur, hcur⟩ := row_block hrow3 rfl
  have HR3 := Lib.hid hrow3
  have HCur := Lib.hid hcur
  have HJ2 := Lib.hid hJ2
  have HD := Lib.hid hdm
  have HRd := Lib.hid hRd
  clear hrow2 hrow3 hk2 hbelow hJ2 hdm hd hRd hcur h0 hobj hBh
  gi_wp2
  gi_loopw [18] (fun i wr => ∃ k : Nat, k ≤ m ∧ i = .int .i64 k ∧ Hid (J (d.take k) wr) ∧ Hid (wr.heap[blk]? = w2.heap[blk]?) ∧ blk < wr.heap.size) (fun i _ => m - (intOf i).toNat)
  case atStart => exact ⟨0, by omega, rfl, Lib.hid (by rw [List.take_zero]; exact HJ2.out), Lib.hid rfl, hblk2⟩
  case round =>
    clear hbox
    obtain ⟨k, hk, rfl, HJk, HBk, hbl⟩ := hrel
    by_cases hlt : k < m
    · obtain ⟨c0, c1, c2⟩ := lcells_at (l := d) (i := k) (by rw [HD.out]; exact hlt)
      have d0 : wr.cell? ⟨blk, k * 3, none⟩ = _ := (World.cell?_of_block (w := w2) (a := ⟨blk, k * 3, none⟩) HBk.out).trans ((HR3.out.cellAt _ (by rw [HD.out]; omega)).trans c0)
      have d1 : wr.cell? ⟨blk, k * 3 + 1, none⟩ = _ := (World.cell?_of_block (w := w2) (a := ⟨blk, k * 3 + 1, none⟩) HBk.out).trans ((HR3.out.cellAt _ (by rw [HD.out]; omega)).trans c1)
      have d2 : wr.cell? ⟨blk, k * 3 + 2, none⟩ = _ := (World.cell?_of_block (w := w2) (a := ⟨blk, k * 3 + 2, none⟩) HBk.out).trans ((HR3.out.cellAt _ (by rw [HD.out]; omega)).trans c2)
      obtain ⟨x, hx⟩ : ∃ x, x = at_ d k := ⟨_, rfl⟩
      rw [← hx] at d0 d1 d2
      have hsnoc : d.take (k + 1) = d.take k ++ [x] := by
        rw [List.take_add_one, at_eq (by rw [HD.out]; exact hlt), ← hx]; rfl
      have HSn := Lib.hid hsnoc
      obtain ⟨xd, xw, xh⟩ := x
      dsimp only at d0 d1 d2
      have hJ' : J (d.take k) (wr.alloc (.cells #[.int .u64 xd, .int .u64 xw, .int .i64 xh] 58)) := HJ.out _ wr _ none HJk.out (World.grownBy_alloc wr _ none) (fun r e => by cases e)
      obtain ⟨fn, tmps, assign, body, hy, hR⟩ := HY.out (d.take k) ⟨xd, xw, xh⟩ _ hJ' (by rw [List.length_take, HD.out]; omega)
      unfold encT at hy
      dsimp only at hy
      have HR := Lib.hid hR
      clear c0 c1 c2 hx hsnoc hJ' hR
      gi_wp2_with fail
      refine HR.out.mono ?_
      rintro e w4 (⟨rfl, hJ3, hk3⟩ | ⟨rfl, hJx3⟩)
      · have hb4 : w4.heap[blk]? = w2.heap[blk]? := by
          have h1 : (wr.alloc (.cells #[.int .u64 xd, .int .u64 xw, .int .i64 xh] 58)).heap[blk]? = some (.cells cur 58 (0, 0)) := (Below.heap_alloc _ _ _ hbl).trans (HBk.out.trans HCur.out)
          rw [hk3.2 blk _ _ _ (by omega) h1, HCur.out]
        have hs4 : blk < w4.heap.size := by have := hk3.1; simp at this; omega
        have HJ3 := Lib.hid hJ3
        have HB4 := Lib.hid hb4
        clear hJ3 hk3 hb4
        gi_wp2
        go_roundw
        case rel => exact ⟨k + 1, by omega, by go_num, Lib.hid (by rw [HSn.out]; exact HJ3.out), HB4, hs4⟩
        case measure => simp [intOf]; omega
      · gi_wp2
        refine bodyPost_ret (results_none rfl _ _ _) rfl ?_
        refine ⟨⟨_, rfl⟩, .inr ⟨_, ⟨d, HRd.out, ?_⟩, hJx3⟩⟩
        rw [← HSn.out]
        exact List.take_prefix _ _
    · obtain rfl : k = m := by omega
      gi_wp2
      go_end0
      refine ⟨⟨_, rfl⟩, .inl ⟨d, ⟨HRd.out, HD.out.trans HM.out⟩, ?_⟩⟩
      have := HJk.out
      rwa [List.take_of_length_le (by rw [HD.out]; exact Nat.le_refl _)] at this

theorem all_in (F : Fence) (hF : F = Fence.wide) (n : Nat) (a : Addr) (w : World) :
    CallsIn F n Try.prog 23 #[.pointer (some a)] w fun e w' => e = .returned (.func (.func 28) #[] #[.pointer (some ⟨w.heap.size, 0, none⟩)]) ∧ w.alloc (.cells #[.pointer (some a)] 23) = w' := by
  subst hF
  refine callsIn_of_wp Try.func23 rfl trivial ?_ rfl
  simp only [Try.ntmps23, List.size_toArray, List.length_cons, List.length_nil, Nat.reduceAdd, Nat.reduceSub, Array.replicate_succ, Array.replicate_zero, List.push_toArray, List.append_toArray, List.nil_append, List.cons_append]
  gi_wp2
  go_ret
  exact ⟨rfl, rfl⟩

theorem all_stops (n : Nat) (hn : 1 ≤ n) (Bh hb mb : Nat) (v : Value) (rb : Nat) (l : List Thing) (f : Int → Option Nat) (last : Int) (N : Nat) (R : List Thing → Prop) (hS : SortFor R l) (hl : l.length ≤ 900000) (n0 : Nat) (w : World) (hn0 : n0 ≤ w.heap.size)
    (hBh : w.cell? ⟨Bh, 0, none⟩ = some (.pointer (some ⟨hb, 0, none⟩))) (hBl : Bh < w.heap.size) (hR : Raw w hb mb v rb l f last N) :
    SeqStopsK Fence.wide n Try.prog 28 #[.pointer (some ⟨Bh, 0, none⟩)] encT (CellsKeep n0) (fun xs => R xs ∧ xs.length = l.length) (fun pre => ∃ xs, R xs ∧ pre <+: xs) l.length w := fun l0 J Jx W hW hJ _ hY h0 => by
  have hR' := hR.below hW
  exact all1_in Fence.wide rfl n hn l0 Bh hb v rb l R hS hl n0 J Jx W hJ (Nat.le_trans hn0 hW.size) hY ((hW.cell (p := ⟨Bh, 0, none⟩) hBl).trans hBh) hR'.obj.cell.1 hR'.row h0

set_option maxRecDepth 100000 in
set_option maxHeartbeats 4000000 in
theorem len_in (n : Nat) (hn : 4 ≤ n) {w : World} {hb mb : Nat} {v : Value} {rb : Nat} {l : List Thing} {f : Int → Option Nat} {last : Int} {N : Nat} (hR : Raw w hb mb v rb l f last N) (R : List Thing → Prop) (hS : SortFor R l) (hl : l.length ≤ 900000) :
    CallsIn Fence.wide n Try.prog 12 #[.pointer (some ⟨hb, 0, none⟩)] w fun e w' => e = .returned (.int .i64 l.length) ∧ Below w.heap.size w w' := by
  have h1 : 1 ≤ n := by omega
  have hlt := hR.obj.lt
  refine callsIn_of_wp_marks Try.func12 rfl trivial ?_ rfl
  simp only [Try.ntmps12, List.size_toArray, List.length_cons, List.length_nil, Nat.reduceAdd, Nat.reduceSub, Array.replicate_succ, Array.replicate_zero, List.push_toArray, List.append_toArray, List.nil_append, List.cons_append]
  gi_wp2_with fail
  refine ⟨trivial, ?_⟩
  refine (all_in Fence.wide rfl (n - 1) _ _).mono ?_
  rintro e w' ⟨rfl, rfl⟩
  gi_wp2
  have hB0 : Below w.heap.size w ((w.alloc (.cells #[.int .i64 0] 3)).alloc (.cells #[.pointer (some ⟨hb, 0, none⟩)] 23)) := ((Below.refl _ w).alloc (Nat.le_refl _) _).alloc (by simp) _
  have hc0 : ((w.alloc (.cells #[.int .i64 0] 3)).alloc (.cells #[.pointer (some ⟨hb, 0, none⟩)] 23)).cell? ⟨w.heap.size, 0, none⟩ = some (.int .i64 0) := by
    rw [World.cell?_alloc_lt _ _ ⟨w.heap.size, 0, none⟩ (by simp)]; exact World.cell?_alloc_at _ _ _ _ rfl
  have hf0 : ((w.alloc (.cells #[.int .i64 0] 3)).alloc (.cells #[.pointer (some ⟨hb, 0, none⟩)] 23)).frozen? ⟨w.heap.size, 0, none⟩ = false := by
    rw [World.frozen?_alloc_old _ _ ⟨w.heap.size, 0, none⟩ (by simp)]; exact World.frozen?_alloc_at _ _ _ _ rfl
  have hc1 : ((w.alloc (.cells #[.int .i64 0] 3)).alloc (.cells #[.pointer (some ⟨hb, 0, none⟩)] 23)).cell? ⟨w.heap.size + 1, 0, none⟩ = some (.pointer (some ⟨hb, 0, none⟩)) := World.cell?_alloc_at _ _ _ _ (by simp)
  have hR2 := hR.below hB0
  refine wpIn_rangeFunc_ownF rfl h1 (gf := 28) (lb := #[.pointer (some ⟨w.heap.size + 1, 0, none⟩)]) rfl trivial (enters_of Try.func28 (by kernel_rfl) rfl)
    (all_stops (n - 1) (by omega) (w.heap.size + 1) hb mb v rb l f last N R hS hl (w.heap.size + 2) _ (by simp) hc1 (by simp) hR2) (fun h k => CellsKeep.t h k) (fun W l o o' hl h ho hw => CellsKeep.b W l o o' hl h ho hw) (Below.refl _ _) (fun _ => rfl)
    (fun pre W => (W.cell? ⟨w.heap.size, 0, none⟩ = some (.int .i64 pre.length) ∧ W.frozen? ⟨w.heap.size, 0, none⟩ = false) ∧ Below w.heap.size w W)
    (fun _ _ _ => False)
    (OwnFrom.and (Own.from (fun s A B row hs hg hr => ⟨cell_kept hs.1 hg hr, (frozen_kept hs.1 hg hr).trans hs.2⟩) _) (ownFrom_below (Nat.le_refl _) (by simp; omega)))
    (fun _ _ _ _ _ hs _ _ => hs)
    ⟨⟨hc0, hf0⟩, hB0⟩
    (fun x => { tmps := #[.pointer (some ⟨hb, 0, none⟩), undef, .int .i64 0, .pointer (some ⟨w.heap.size, 0, none⟩), .pointer (some ⟨hb, 0, none⟩), .func (.func 28) #[] #[.pointer (some ⟨w.heap.size + 1, 0, none⟩)], .int .u64 x.d, .int .u64 x.w, undef, undef, undef], defers := [] }) ?assign ?body ?done ?stop
  case assign =>
    intro l x W K hK
    have e : (#[6, 7] : Array Nat).zip (encT x) = #[(6, .int .u64 x.d), (7, .int .u64 x.w)] := by kernel_rfl
    rw [e]
    gi_wp2
    exact hK
  case body =>
    rintro l1 pre x W ⟨⟨hc, hf⟩, hB⟩ hpre
    have hpI : (pre.length : Int) < 900000 := by omega
    have hp0 : (0 : Int) ≤ (pre.length : Int) := by omega
    generalize hq : pre.length = q at hc hpI hp0
    have HQ := Lib.hid hq
    have HB := Lib.hid hB
    clear hq hpre hB hc0 hf0 hc1 hB0 hR2 hR hl
    gi_wp2
    refine ⟨KeepsOthers.setCell _ _ _, ⟨by simp [World.setCell], fun k c t fr hk hcc => (Below.heap_setCell _ _ _ _ (by show k ≠ w.heap.size; omega)).trans hcc⟩, ⟨?_, by rw [World.frozen?_setCell]; exact hf⟩, HB.out.setCell (p := ⟨w.heap.size, 0, none⟩) (Nat.le_refl _) _⟩
    rw [List.length_append, HQ.out]
    exact World.cell?_setCell_same' _ _ _ (by rw [hc]; rfl)
  case done =>
    rintro D ys W hD ⟨_, hlen⟩ ⟨⟨hc, hf⟩, hB⟩ hK
    rw [hlen] at hc
    gi_wp2
    refine ⟨by simp, .inl ⟨_, _, rfl, run_takeDeferred hK, ?_⟩⟩
    exact ⟨_, results_tmp rfl _ _ _, rfl, hB.trans (belowK_b (w := w) (Nat.le_refl _) W D _ _ (by simp at hD; omega) hK rfl rfl)⟩
  case stop =>
    rintro D c pre W _ _ h _
    exact h.elim

/-- Len, given what sort.Slice does to a copy. -/
theorem len_any {w : World} {hb mb : Nat} {v : Value} {rb : Nat} {S : List Thing} {last : Int} {N : Nat} (h : HeapIs w hb mb v rb S last N) (hS : ∀ l : List Thing, l.Perm S → ∃ R, SortFor R l) (hl : S.length ≤ 900000) :
    Calls Try.prog 12 #[.pointer (some ⟨hb, 0, none⟩)] w fun e w' => e = .returned (.int .i64 S.length) ∧ Below w.heap.size w w' := by
  obtain ⟨l, f, hraw, hperm, _⟩ := h
  obtain ⟨R, hR⟩ := hS l hperm
  have := callsIn_wide.1 (len_in 4 (by omega) hraw R hR (by rw [hperm.length_eq]; exact hl))
  rwa [hperm.length_eq] at this
end Go.Proofs.Ytphblfgafljelaa.Hp
