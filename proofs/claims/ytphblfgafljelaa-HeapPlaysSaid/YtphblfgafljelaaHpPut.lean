/- heap.New, Put, First: the heap beside its sorted list. -/
import Derived.Test.YtphblfgafljelaaHpDown
import Derived.Test.YtphblfgafljelaaStepAppend
namespace Go.Proofs.Ytphblfgafljelaa.Hp
open Go.RowKit Go.Maps

/-- A thing's bounds. -/
def Fine (last : Int) (t : Thing) : Prop := (1 ≤ t.h ∧ t.h ≤ last) ∧ (0 ≤ t.d ∧ t.d < 18446744073709551616) ∧ (0 ≤ t.w ∧ t.w < 18446744073709551616)

/-- A heap in memory that holds the things of the sorted list S. -/
def HeapIs (w : World) (hb mb : Nat) (v : Value) (rb : Nat) (S : List Thing) (last : Int) (N : Nat) : Prop :=
  ∃ (l : List Thing) (f : Int → Option Nat), Raw w hb mb v rb l f last N ∧ l.Perm S ∧ Sorted S ∧ Heap l ∧ PlacesAll f l ∧ Apart l ∧ (∀ t ∈ S, Fine last t) ∧ 0 ≤ last ∧ last ≤ 1000000

theorem HeapIs.of_blocks {w w' : World} {hb mb : Nat} {v : Value} {rb : Nat} {S : List Thing} {last : Int} {N : Nat} (h : HeapIs w hb mb v rb S last N) (e : ∀ k, Of hb mb v k → w'.heap[k]? = w.heap[k]?) : HeapIs w' hb mb v rb S last N := by
  obtain ⟨l, f, h1, r⟩ := h
  exact ⟨l, f, h1.of_blocks e, r⟩
theorem HeapIs.of_lt {w : World} {hb mb : Nat} {v : Value} {rb : Nat} {S : List Thing} {last : Int} {N : Nat} (h : HeapIs w hb mb v rb S last N) {k : Nat} (hk : Of hb mb v k) : k < w.heap.size := by
  obtain ⟨l, f, h1, r⟩ := h
  exact h1.of_lt hk
theorem HeapIs.keeps {w w' : World} {X : Nat → Prop} {hb mb : Nat} {v : Value} {rb : Nat} {S : List Thing} {last : Int} {N : Nat} (h : HeapIs w hb mb v rb S last N) (k : Keeps X w w') (hx : ∀ i, Of hb mb v i → ¬ X i) : HeapIs w' hb mb v rb S last N :=
  h.of_blocks fun i hi => k.block i (h.of_lt hi) (hx i hi)
theorem HeapIs.below {w w' : World} {hb mb : Nat} {v : Value} {rb : Nat} {S : List Thing} {last : Int} {N : Nat} (h : HeapIs w hb mb v rb S last N) (k : Below w.heap.size w w') : HeapIs w' hb mb v rb S last N :=
  h.of_blocks fun i hi => k.block i (h.of_lt hi)

theorem HObj.set0 {w : World} {hb mb : Nat} {v : Value} {last : Int} (h : HObj w hb mb v last) (v' : Value) : HObj (w.setCell ⟨hb, 0, none⟩ v') hb mb v' last := by
  have hl := h.lt
  unfold HObj at *
  have := heap_setCell_same w hb 0 _ _ v' h
  simpa using this
theorem HObj.set2 {w : World} {hb mb : Nat} {v : Value} {last : Int} (h : HObj w hb mb v last) (x : Int) : HObj (w.setCell ⟨hb, 2, none⟩ (.int .i64 x)) hb mb v x := by
  unfold HObj at *
  have := heap_setCell_same w hb 2 _ _ (.int .i64 x) h
  simpa using this
theorem Raw.bump {w : World} {hb mb : Nat} {v : Value} {rb : Nat} {l : List Thing} {f : Int → Option Nat} {last : Int} {N : Nat} (h : Raw w hb mb v rb l f last N) (x : Int) : Raw (w.setCell ⟨hb, 2, none⟩ (.int .i64 x)) hb mb v rb l f x N :=
  ⟨h.obj.set2 x, ownsRow_of_block h.row fun k hk => Below.heap_setCell _ _ _ _ (fun e => h.vh (by rw [hk, e])), h.map.of_block (Below.heap_setCell _ _ _ _ (fun e => h.hm e.symm))⟩
/-- Behind an append: the row is another, the map lies as it lay. -/
theorem Raw.grew {w w1 : World} {hb mb : Nat} {v v' : Value} {rb : Nat} {l l' : List Thing} {f : Int → Option Nat} {last : Int} {N : Nat} (h : Raw w hb mb v rb l f last N) (hg : w.grownBy w1 v.ownBlock) (hr : w1.ownsRow rb 58 3 v' l'.length (lcells l')) :
    Raw (w1.setCell ⟨hb, 0, none⟩ v') hb mb v' rb l' f last N := by
  have ho : HObj w1 hb mb v last := (hg.block hb h.obj.lt (fun e => h.vh e.symm)).trans h.obj
  have hm : HMap w1 mb f N := h.map.of_block (hg.block mb h.map.lt (fun e => h.vm e.symm))
  have hvh : ∀ k, v'.ownBlock = some k → k ≠ hb := by
    rintro k hk rfl
    obtain ⟨cur, hc⟩ := row_block hr hk
    unfold HObj at ho
    rw [hc] at ho
    injection ho with ho
    injection ho with _ h2 _
    exact absurd h2 (by decide)
  exact ⟨ho.set0 v', ownsRow_of_block hr fun k hk => Below.heap_setCell _ _ _ _ (hvh k hk), hm.of_block (Below.heap_setCell _ _ _ _ (fun e => h.hm e.symm))⟩

theorem info58 : (Try.prog.info? 58).map (fun i => (i.zero, i.size, i.bytes)) = some (some (.agg #[.int .u64 0, .int .u64 0, .int .i64 0]), 3, 24) := by kernel_rfl

theorem new_any (w : World) : Calls Try.prog 8 #[] w fun e w' => ∃ hb mb, e = .returned (.pointer (some ⟨hb, 0, none⟩)) ∧ w.heap.size ≤ hb ∧ w.heap.size ≤ mb ∧ HeapIs w' hb mb (.slice none 0 0) 0 [] 0 0 ∧ Below w.heap.size w w' := by
  have hmm := @run_makeMap Try.prog
  go_enter Try.func8, Try.ntmps8
  go_wp2
  go_ret
  have hmap : HMap (w.alloc (.map #[] 0)) w.heap.size (fun _ => none) 0 :=
    ⟨_, 0, World.ownsMap_made w Try.prog 3 (plainElem Try.prog 3), Nat.le_refl _, fun k _ => ⟨rfl, fun j hj => by cases hj⟩⟩
  have hB : Below w.heap.size w ((w.alloc (.map #[] 0)).alloc (.cells #[.slice none 0 0, .map (some w.heap.size), .int .i64 0] 56)) := ((Below.refl _ w).alloc (Nat.le_refl _) _).alloc (by simp) _
  refine ⟨w.heap.size + 1, w.heap.size, rfl, by omega, Nat.le_refl _, ⟨[], fun _ => none, ⟨?_, World.ownsRow_nil _ _ _ _, hmap.of_block (Below.heap_alloc _ _ _ (by simp))⟩, List.Perm.refl _, List.Pairwise.nil, heap_nil, ⟨(fun j hj => absurd hj (by simp)), fun _ _ => rfl⟩, List.nodup_nil, (fun _ ht => absurd ht (by simp)), by decide, by decide⟩, hB⟩
  unfold HObj
  have := heap_alloc_new (w.alloc (.map #[] 0)) (.cells #[.slice none 0 0, .map (some w.heap.size), .int .i64 0] 56)
  simpa using this

def PutOut (w : World) (hb mb : Nat) (rb : Nat) (S : List Thing) (last : Int) (N : Nat) (v : Value) (d q : Int) (e : Ending) (w' : World) : Prop :=
  e = .returned (.int .i64 (last + 1)) ∧ ∃ v', HeapIs w' hb mb v' rb (ins ⟨d, q, last + 1⟩ S) (last + 1) (N + S.length + 3) ∧ Keeps (Of hb mb v) w w' ∧ ∀ k, v'.ownBlock = some k → v.ownBlock = some k ∨ w.heap.size ≤ k

set_option maxRecDepth 100000 in
set_option maxHeartbeats 4000000 in
theorem put_any {w : World} {hb mb : Nat} {v : Value} {rb : Nat} {S : List Thing} {last : Int} {N : Nat} (h : HeapIs w hb mb v rb S last N) (hrb : rb ≤ w.heap.size) (d q : Int) (hd : 0 ≤ d ∧ d < 18446744073709551616) (hq : 0 ≤ q ∧ q < 18446744073709551616)
    (hS : S.length ≤ 900000) (hN : N ≤ 800000000) (hlast : last < 900000) :
    Calls Try.prog 10 #[.pointer (some ⟨hb, 0, none⟩), .int .u64 d, .int .u64 q] w (PutOut w hb mb rb S last N v d q) := by
  obtain ⟨l, f, hraw, hperm, hsort, hheap, hpl, hap, hfine, hl0, hl1⟩ := h
  have hrow := hraw.row
  obtain ⟨n, hn⟩ : ∃ n, n = l.length := ⟨_, rfl⟩
  rw [← hn] at hrow
  obtain ⟨o0, o1, o2, of⟩ := hraw.obj.cell
  obtain ⟨A, c, rfl⟩ := own_shape hrow
  obtain ⟨i58, hi58, hz58, hs58, hb58⟩ := info_parts info58
  have hlt := hraw.obj.lt
  have hnS : n = S.length := by rw [hn]; exact hperm.length_eq
  have HR := Lib.hid hraw
  have HRow := Lib.hid hrow
  have HPm := Lib.hid hperm; have HSo := Lib.hid hsort; have HHe := Lib.hid hheap; have HPl := Lib.hid hpl; have HAp := Lib.hid hap; have HFi := Lib.hid hfine
  have HNn := Lib.hid hn; have HNS := Lib.hid hnS; have HN := Lib.hid hN; have HS := Lib.hid hS; have HRb := Lib.hid hrb; have HD := Lib.hid hd; have HQ := Lib.hid hq
  have hnI : (n : Int) ≤ 900000 := by omega
  clear hraw hrow hperm hsort hheap hpl hap hfine hn hnS hN hS hrb hd hq
  go_enter Try.func10, Try.ntmps10
  go_wp2_with fail
  have W1 := HR.out.bump (last + 1)
  have K1 : Keeps (Of hb mb (.slice A n c)) w (w.setCell ⟨hb, 2, none⟩ (.int .i64 (last + 1))) := (Keeps.refl _ w).setCell (Or.inl rfl) _
  have R1 : (w.setCell ⟨hb, 2, none⟩ (.int .i64 (last + 1))).ownsRow rb 58 3 (.slice A n c) n (lcells l) := by
    have := W1.row
    rwa [← HNn.out] at this
  have hsz : w.heap.size = (w.setCell ⟨hb, 2, none⟩ (.int .i64 (last + 1))).heap.size := by simp [World.setCell]
  generalize w.setCell ⟨hb, 2, none⟩ (.int .i64 (last + 1)) = w1 at W1 K1 R1 hsz ⊢
  have HW1 := Lib.hid W1
  have HK1 := Lib.hid K1
  have HR1 := Lib.hid R1
  have HSz := Lib.hid hsz
  clear o0 o1 o2 of hlt hsz
  obtain ⟨o0, o1, o2, of⟩ := W1.obj.cell
  have hlt := W1.obj.lt
  clear W1 K1 R1
  have E0 := Lib.hid ((HR1.out.alloc (.cells #[.int .u64 d, .int .u64 q, .int .i64 (last + 1)] 58)).drew)
  have N1 : Hid (∀ j u, ([.int .u64 d, .int .u64 q, .int .i64 (last + 1)] : List Value)[j]? = some u → ((w1.alloc (.cells #[.int .u64 d, .int .u64 q, .int .i64 (last + 1)] 58)).drew).cell? ((⟨w1.heap.size, 0, none⟩ : Addr).add j) = some u) := Lib.hid (by
    intro j u hu
    rw [Addr.add_lit, Nat.zero_add]
    exact (World.cell?_alloc_at _ _ _ _ rfl).trans (by simpa using hu))
  have O1 : Hid (∀ u ∈ ([.int .u64 d, .int .u64 q, .int .i64 (last + 1)] : List Value), u.oneCell' = true) := Lib.hid (by
    intro u hu
    simp at hu
    rcases hu with rfl | rfl | rfl <;> rfl)
  have M1 := Lib.hid (show n + 1 ≤ maxLen by have := HNS.out; have := HS.out; unfold maxLen; omega)
  have M2 := Lib.hid (show (n + 1) * 24 ≤ 140737488355328 by have := HNS.out; have := HS.out; omega)
  have M3 := Lib.hid (show rb ≤ ((w1.alloc (.cells #[.int .u64 d, .int .u64 q, .int .i64 (last + 1)] 58)).drew).heap.size by have := HRb.out; have := HSz.out; show rb ≤ (w1.alloc _).heap.size; simp; omega)
  have HV := Lib.hid HW1.out.vh
  go_region_law (first | (refine step_append_own _ rfl (.tmp 18) (.tmp 26) 54 rfl rb 58 i58 _ 3 24 Try.underlying54 hi58 hz58 hs58 hb58 rfl (by decide) (.slice A n c) n (lcells l) (by simp [Act.eval]) E0.out ⟨w1.heap.size, 0, none⟩ 1 1 [.int .u64 d, .int .u64 q, .int .i64 (last + 1)] (by simp [Act.eval]) rfl N1.out O1.out M1.out M2.out M3.out ?_; intro v' w2 hown' hgrow hnew; obtain ⟨A', c', rfl⟩ := own_shape hown'; have t0 := (World.cell?_of_block (a := ⟨hb, 0, none⟩) (hgrow.block hb (by simp; omega) (fun e => HV.out e.symm))).trans ((World.cell?_alloc_lt _ _ ⟨hb, 0, none⟩ hlt).trans o0); have t1 := (World.frozen?_of_block (a := ⟨hb, 0, none⟩) (hgrow.block hb (by simp; omega) (fun e => HV.out e.symm))).trans ((World.frozen?_alloc_old _ _ ⟨hb, 0, none⟩ (Nat.ne_of_lt hlt)).trans (of 0))))
  all_goals
    have el : (l ++ [(⟨d, q, last + 1⟩ : Thing)]).length = n + 1 := by rw [List.length_append, ← HNn.out]; rfl
    have hr2 : w2.ownsRow rb 58 3 (.slice A' (n + 1) c') (l ++ [(⟨d, q, last + 1⟩ : Thing)]).length (lcells (l ++ [(⟨d, q, last + 1⟩ : Thing)])) := by
      rw [el, lcells_snoc]; exact hown'
    have hR0 : Raw ((w1.alloc (.cells #[.int .u64 d, .int .u64 q, .int .i64 (last + 1)] 58)).drew) hb mb (.slice A n c) rb l f (last + 1) N := (HW1.out.below ((Below.refl _ _).alloc (Nat.le_refl _) _)).of_blocks fun _ _ => rfl
    have hR2 := hR0.grew hgrow hr2
    have hfresh : ∀ x ∈ l, x.h ≠ (⟨d, q, last + 1⟩ : Thing).h := by
      intro x hx e
      have := (HFi.out x (HPm.out.mem_iff.1 hx)).1.2
      rw [e] at this
      dsimp only at this
      omega
    have hsm : Small (l ++ [(⟨d, q, last + 1⟩ : Thing)]) := by
      intro x hx
      rcases List.mem_append.1 hx with hx | hx
      · have := (HFi.out x (HPm.out.mem_iff.1 hx)).1
        omega
      · rw [List.mem_singleton] at hx
        subst hx
        dsimp only
        omega
    have HUp := Lib.hid (up_any hR2 n (by rw [el]; omega) (by rw [el]; have := HNS.out; have := HS.out; omega) (by have := HN.out; omega) (put_apart HAp.out hfresh) hsm (by have := (put_up ⟨d, q, last + 1⟩ HHe.out).1; rwa [← HNn.out] at this) (by have := put_places ⟨d, q, last + 1⟩ HPl.out; rwa [← HNn.out] at this))
    have K2 : Hid (Keeps (Of hb mb (.slice A n c)) w (w2.setCell ⟨hb, 0, none⟩ (.slice A' (n + 1) c'))) := Lib.hid (((HK1.out.alloc _).drew.grown hgrow (fun k e => Or.inr (Or.inr e))).setCell (Or.inl rfl) _)
    have HNew : Hid (∀ k, (Value.slice A' (n + 1) c').ownBlock = some k → (Value.slice A n c).ownBlock = some k ∨ w.heap.size ≤ k) := Lib.hid (by
      intro k hk
      rcases hnew with e | e
      · exact Or.inl (e ▸ hk)
      · right
        rw [e] at hk
        have := HSz.out
        have h2 : w1.heap.size + 1 = k ∨ w1.heap.size ≤ k := by right; simp at hk; omega
        omega)
    obtain ⟨p0, _, _, _⟩ := hR2.obj.cell
    have HR2 := Lib.hid hR2
    clear hR0 hr2 hR2 hfresh hsm el hnew hown' hgrow t0 t1
    go_wp2_with fail
    refine HUp.out.mono ?_
    rintro e w3 ⟨rfl, l', f', p, g1, g2, g3, g4, g5, g6, g7, g8⟩
    have o5 := g1.obj.cell.2.2.1
    have G1 := Lib.hid g1; have G2 := Lib.hid g2; have G3 := Lib.hid g3; have G7 := Lib.hid g7; have G8 := Lib.hid g8
    clear g1 g2 g3 g4 g5 g6 g7 g8 p0
    go_wp2
    go_ret
    have hnl := HNn.out
    have hns := HNS.out
    have hpm : l'.Perm (ins ⟨d, q, last + 1⟩ S) := G2.out.trans (((List.perm_append_comm (l₁ := l) (l₂ := [(⟨d, q, last + 1⟩ : Thing)])).trans (HPm.out.cons _)).trans (ins_perm _ _).symm)
    have hfresh : ∀ x ∈ l, x.h ≠ (⟨d, q, last + 1⟩ : Thing).h := by
      intro x hx e
      have := (HFi.out x (HPm.out.mem_iff.1 hx)).1.2
      rw [e] at this
      dsimp only at this
      omega
    have hfin : ∀ t ∈ ins ⟨d, q, last + 1⟩ S, Fine (last + 1) t := by
      intro t ht
      rcases List.mem_cons.1 ((ins_perm _ _).mem_iff.1 ht) with rfl | ht
      · exact ⟨⟨by dsimp only; omega, Int.le_refl _⟩, HD.out, HQ.out⟩
      · have := HFi.out t ht
        exact ⟨⟨this.1.1, by have := this.1.2; omega⟩, this.2⟩
    refine ⟨rfl, _, ⟨l', f', G1.out.mono (by omega), hpm, ins_sorted HSo.out (fun x hx => hfresh x (HPm.out.mem_iff.2 hx)), ?_, G3.out, (put_apart HAp.out hfresh).perm G2.out, hfin, by omega, by omega⟩, ?_, HNew.out⟩
    · refine G7.out ?_
      have := (put_up ⟨d, q, last + 1⟩ HHe.out).2
      rwa [← HNn.out] at this
    · refine K2.out.trans G8.out fun i hi => ?_
      rcases hi with rfl | rfl | hi
      · exact Or.inl (Or.inl rfl)
      · exact Or.inl (Or.inr (Or.inl rfl))
      · exact (HNew.out i hi).elim (fun h => Or.inl (Or.inr (Or.inr h))) Or.inr
end Go.Proofs.Ytphblfgafljelaa.Hp
