/- A heap in memory: its three cells, its row of things, its map of places; what a step keeps. -/
import Derived.Test.YtphblfgafljelaaProg
import Derived.Test.YtphblfgafljelaaHpList
import Derived.WalkKit
import Derived.WalkLawsBesides
import Derived.WalkSpells
import Derived.Maps.Own
import Derived.Maps.OwnOps
import Derived.Maps.OwnSet
import Derived.Maps.Views
import Derived.Lib.Hide
import Derived.Outline
import Derived.OneCell
namespace Go.Proofs.Ytphblfgafljelaa.Hp
open Go.RowKit Go.Maps

/-- What is not of X, and was there, lies as it lay. -/
structure Keeps (X : Nat → Prop) (w w' : World) : Prop where
  os : w'.os = w.os
  tape : w'.tape = w.tape
  output : w'.output = w.output
  size : w.heap.size ≤ w'.heap.size
  block : ∀ k, k < w.heap.size → ¬ X k → w'.heap[k]? = w.heap[k]?

theorem Keeps.refl (X : Nat → Prop) (w : World) : Keeps X w w := ⟨rfl, rfl, rfl, Nat.le_refl _, fun _ _ _ => rfl⟩
theorem Keeps.trans {X Y : Nat → Prop} {a b c : World} (h : Keeps X a b) (k : Keeps Y b c) (hXY : ∀ i, Y i → X i ∨ a.heap.size ≤ i) : Keeps X a c :=
  ⟨k.os.trans h.os, k.tape.trans h.tape, k.output.trans h.output, Nat.le_trans h.size k.size, fun i hi hx => (k.block i (Nat.lt_of_lt_of_le hi h.size) (fun hy => (hXY i hy).elim hx (by omega))).trans (h.block i hi hx)⟩
theorem Keeps.ofBelow {X : Nat → Prop} {w w' : World} (h : Below w.heap.size w w') : Keeps X w w' := ⟨h.os, h.tape, h.output, h.size, fun k hk _ => h.block k hk⟩
theorem Keeps.below {X : Nat → Prop} {B : Nat} {a w w' : World} (hb : Below B a w) (h : Keeps X w w') (hB : B ≤ w.heap.size) (hX : ∀ i, X i → B ≤ i) : Below B a w' :=
  hb.trans ⟨h.os, h.tape, h.output, h.size, fun k hk => h.block k (by omega) (fun hx => by have := hX k hx; omega)⟩
theorem Keeps.mono {X Y : Nat → Prop} {w w' : World} (h : Keeps X w w') (hXY : ∀ i, X i → Y i) : Keeps Y w w' := ⟨h.os, h.tape, h.output, h.size, fun k hk hy => h.block k hk (fun hx => hy (hXY k hx))⟩
theorem Keeps.alloc {X : Nat → Prop} {a w : World} (h : Keeps X a w) (o : Obj) : Keeps X a (w.alloc o) :=
  h.trans (Keeps.ofBelow (X := X) ((Below.refl _ w).alloc (Nat.le_refl _) o)) fun _ hx => Or.inl hx
theorem Keeps.drew {X : Nat → Prop} {a w : World} (h : Keeps X a w) : Keeps X a w.drew := ⟨h.os, h.tape, h.output, h.size, h.block⟩
theorem Keeps.drewN {X : Nat → Prop} {a w : World} (h : Keeps X a w) (q : Nat) : Keeps X a (w.drewN q) := ⟨h.os, h.tape, h.output, h.size, h.block⟩
theorem Keeps.setCell {X : Nat → Prop} {a w : World} (h : Keeps X a w) {p : Addr} (hp : X p.block) (u : Value) : Keeps X a (w.setCell p u) :=
  h.trans (Y := X) ⟨rfl, rfl, rfl, by simp [World.setCell], fun k _ hk => Below.heap_setCell _ _ _ _ (fun e => hk (e ▸ hp))⟩ fun _ hx => Or.inl hx
theorem Keeps.grown {X : Nat → Prop} {a w w' : World} {row : Option Nat} (h : Keeps X a w) (hg : w.grownBy w' row) (hr : ∀ k, row = some k → X k) : Keeps X a w' :=
  h.trans (Y := X) ⟨hg.os, hg.tape, hg.output, hg.size, fun k hk hx => hg.block k hk (fun e => hx (hr k e.symm))⟩ fun _ hx => Or.inl hx
theorem Keeps.cell {X : Nat → Prop} {w w' : World} (h : Keeps X w w') {p : Addr} (hl : p.block < w.heap.size) (hx : ¬ X p.block) : w'.cell? p = w.cell? p := World.cell?_of_block (h.block _ hl hx)
theorem Keeps.frozen {X : Nat → Prop} {w w' : World} (h : Keeps X w w') {p : Addr} (hl : p.block < w.heap.size) (hx : ¬ X p.block) : w'.frozen? p = w.frozen? p := World.frozen?_of_block (h.block _ hl hx)

def tcells (t : Thing) : List Value := [.int .u64 t.d, .int .u64 t.w, .int .i64 t.h]
def tval (t : Thing) : Value := .agg #[.int .u64 t.d, .int .u64 t.w, .int .i64 t.h]
def lcells (l : List Thing) : List Value := l.flatMap tcells
theorem lcells_length (l : List Thing) : (lcells l).length = l.length * 3 := by
  induction l with
  | nil => rfl
  | cons x l ih => simp only [lcells, List.flatMap_cons, List.length_append, List.length_cons] at *; simp [tcells, ih]; omega
theorem lcells_snoc (l : List Thing) (t : Thing) : lcells (l ++ [t]) = lcells l ++ tcells t := by simp [lcells]
theorem lcells_at {l : List Thing} {i : Nat} (h : i < l.length) : (lcells l)[i * 3]? = some (.int .u64 (at_ l i).d) ∧ (lcells l)[i * 3 + 1]? = some (.int .u64 (at_ l i).w) ∧ (lcells l)[i * 3 + 2]? = some (.int .i64 (at_ l i).h) := by
  induction l generalizing i with
  | nil => simp at h
  | cons x l ih =>
    cases i with
    | zero => exact ⟨rfl, rfl, rfl⟩
    | succ i =>
      have := ih (i := i) (by simpa using h)
      have e : ∀ j, (lcells (x :: l))[(i + 1) * 3 + j]? = (lcells l)[i * 3 + j]? := by
        intro j
        rw [lcells, List.flatMap_cons, List.getElem?_append_right (by simp [tcells]; omega)]
        rw [show (i + 1) * 3 + j - (tcells x).length = i * 3 + j by simp [tcells]; omega]
        rfl
      have e0 := e 0
      rw [Nat.add_zero, Nat.add_zero] at e0
      rw [e0, e 1, e 2]
      exact this
theorem lcells_set {l : List Thing} {i : Nat} (h : i < l.length) (t : Thing) : (((lcells l).set (i * 3) (.int .u64 t.d)).set (i * 3 + 1) (.int .u64 t.w)).set (i * 3 + 2) (.int .i64 t.h) = lcells (l.set i t) := by
  induction l generalizing i with
  | nil => simp at h
  | cons x l ih =>
    cases i with
    | zero => rfl
    | succ i =>
      have := ih (i := i) (by simpa using h)
      rw [List.set_cons_succ, lcells, lcells, List.flatMap_cons, List.flatMap_cons]
      have e : ∀ (A : List Value) (j : Nat) (u : Value), (tcells x ++ A).set ((i + 1) * 3 + j) u = tcells x ++ A.set (i * 3 + j) u := by
        intro A j u
        rw [List.set_append_right _ _ (by simp [tcells]; omega)]
        rw [show (i + 1) * 3 + j - (tcells x).length = i * 3 + j by simp [tcells]; omega]
      have e0 := fun A u => e A 0 u
      simp only [Nat.add_zero] at e0
      rw [e0, e, e]
      exact congrArg (tcells x ++ ·) this
theorem lcells_one (l : List Thing) : ∀ u ∈ lcells l, u.oneCell' = true := by
  intro u hu
  obtain ⟨t, _, h⟩ := List.mem_flatMap.1 hu
  simp [tcells] at h
  rcases h with rfl | rfl | rfl <;> rfl
theorem lcells_take (l : List Thing) (n : Nat) : (lcells l).take (n * 3) = lcells (l.take n) := by
  induction l generalizing n with
  | nil => simp [lcells]
  | cons x l ih =>
    cases n with
    | zero => simp [lcells]
    | succ n =>
      have := ih n
      rw [List.take_succ_cons, lcells, lcells, List.flatMap_cons, List.flatMap_cons, List.take_append, List.take_of_length_le (by simp [tcells]; omega)]
      rw [show (n + 1) * 3 - (tcells x).length = n * 3 by simp [tcells]; omega]
      exact congrArg (tcells x ++ ·) this

/-- The three cells of a heap. -/
def HObj (w : World) (hb mb : Nat) (v : Value) (last : Int) : Prop := w.heap[hb]? = some (.cells #[v, .map (some mb), .int .i64 last] 56 (0, 0))
theorem HObj.cell {w : World} {hb mb : Nat} {v : Value} {last : Int} (h : HObj w hb mb v last) : w.cell? ⟨hb, 0, none⟩ = some v ∧ w.cell? ⟨hb, 1, none⟩ = some (.map (some mb)) ∧ w.cell? ⟨hb, 2, none⟩ = some (.int .i64 last) ∧ ∀ o, w.frozen? ⟨hb, o, none⟩ = false := by
  unfold HObj at h
  refine ⟨by simp [World.cell?, h], by simp [World.cell?, h], by simp [World.cell?, h], fun o => by simp [World.frozen?, h]⟩
theorem HObj.lt {w : World} {hb mb : Nat} {v : Value} {last : Int} (h : HObj w hb mb v last) : hb < w.heap.size := by
  rcases Nat.lt_or_ge hb w.heap.size with h' | h'
  · exact h'
  · unfold HObj at h; rw [Array.getElem?_eq_none h'] at h; cases h

/-- Block mb is a map that reads as f. -/
def HMap (w : World) (mb : Nat) (f : Int → Option Nat) (N : Nat) : Prop :=
  ∃ (D : DataW Unit) (n : Nat), w.ownsMap Try.prog 3 (plainElem Try.prog 3) mb n D ∧ n ≤ N ∧ ∀ k : Int, (Lit.int .i64 k).wf = true → Maps.has D (.int .i64 k) = (f k).isSome ∧ ∀ j, f k = some j → D.atKey (.int .i64 k) (.lit (.int .i64 0)) = .lit (.int .i64 j)
theorem ownsMap_of_block {H : Type} {P : Program} {k : TypeId} {R : Value → Option (DataW H × List MemPlace)} {b n : Nat} {D : DataW H} {w w' : World} (h : w.ownsMap P k R b n D) (e : w'.heap[b]? = w.heap[b]?) : w'.ownsMap P k R b n D := by
  obtain ⟨es, c, h1, h2, h3, h4⟩ := h
  exact ⟨es, c, e.trans h1, h2, h3, h4⟩
theorem HMap.lt {w : World} {mb : Nat} {f : Int → Option Nat} {N : Nat} (h : HMap w mb f N) : mb < w.heap.size := by obtain ⟨_, _, h, _⟩ := h; exact h.lt
theorem HMap.of_block {w w' : World} {mb : Nat} {f : Int → Option Nat} {N : Nat} (h : HMap w mb f N) (e : w'.heap[mb]? = w.heap[mb]?) : HMap w' mb f N := by
  obtain ⟨D, n, h1, h2, h3⟩ := h
  exact ⟨D, n, ownsMap_of_block h1 e, h2, h3⟩
theorem HMap.isMap {w : World} {mb : Nat} {f : Int → Option Nat} {N : Nat} (h : HMap w mb f N) : ∃ es c, w.heap[mb]? = some (.map es c) := by
  obtain ⟨_, _, ⟨es, c, h, _⟩, _⟩ := h
  exact ⟨es, c, h⟩
theorem ownsRow_of_block {base : Nat} {e : TypeId} {size : Nat} {v : Value} {n : Nat} {xs : List Value} {w w' : World} (h : w.ownsRow base e size v n xs) (hb : ∀ k, v.ownBlock = some k → w'.heap[k]? = w.heap[k]?) : w'.ownsRow base e size v n xs := by
  obtain ⟨h1, h2 | ⟨g, cap, cur, rfl, hg, hh, r⟩⟩ := h
  · exact ⟨h1, Or.inl h2⟩
  · exact ⟨h1, Or.inr ⟨g, cap, cur, rfl, hg, (hb g rfl).trans hh, r⟩⟩

/-- A heap in memory: of whatever order. -/
structure Raw (w : World) (hb mb : Nat) (v : Value) (rb : Nat) (l : List Thing) (f : Int → Option Nat) (last : Int) (N : Nat) : Prop where
  obj : HObj w hb mb v last
  row : w.ownsRow rb 58 3 v l.length (lcells l)
  map : HMap w mb f N
/-- The blocks of a heap. -/
def Of (hb mb : Nat) (v : Value) (k : Nat) : Prop := k = hb ∨ k = mb ∨ v.ownBlock = some k

section
variable {w : World} {hb mb : Nat} {v : Value} {rb : Nat} {l : List Thing} {f : Int → Option Nat} {last : Int} {N : Nat}
theorem Raw.hm (h : Raw w hb mb v rb l f last N) : hb ≠ mb := by
  intro e
  obtain ⟨es, c, hm⟩ := h.map.isMap
  have := h.obj
  unfold HObj at this
  rw [e, hm] at this
  cases this
theorem row_block {e : TypeId} {size n : Nat} {xs : List Value} {g : Nat} (h : w.ownsRow rb e size v n xs) (hv : v.ownBlock = some g) : ∃ cur, w.heap[g]? = some (.cells cur e (0, 0)) := by
  obtain ⟨_, ⟨rfl, _⟩ | ⟨g', cap, cur, rfl, _, hh, _⟩⟩ := h
  · cases hv
  · cases hv; exact ⟨cur, hh⟩
theorem Raw.vh (h : Raw w hb mb v rb l f last N) : v.ownBlock ≠ some hb := by
  intro e
  obtain ⟨cur, hc⟩ := row_block h.row e
  have := h.obj
  unfold HObj at this
  rw [hc] at this
  injection this with this
  injection this with _ h2 _
  exact absurd h2 (by decide)
theorem Raw.vm (h : Raw w hb mb v rb l f last N) : v.ownBlock ≠ some mb := by
  intro e
  obtain ⟨cur, hc⟩ := row_block h.row e
  obtain ⟨es, c, hm⟩ := h.map.isMap
  rw [hc] at hm
  cases hm
theorem Raw.of_lt (h : Raw w hb mb v rb l f last N) {k : Nat} (hk : Of hb mb v k) : k < w.heap.size := by
  rcases hk with rfl | rfl | hk
  · exact h.obj.lt
  · exact h.map.lt
  · exact (h.row.lt k hk).2
/-- A heap of which no block has turned. -/
theorem Raw.of_blocks {w' : World} (h : Raw w hb mb v rb l f last N) (e : ∀ k, Of hb mb v k → w'.heap[k]? = w.heap[k]?) : Raw w' hb mb v rb l f last N :=
  ⟨(e hb (Or.inl rfl)).trans h.obj, ownsRow_of_block h.row fun k hk => e k (Or.inr (Or.inr hk)), h.map.of_block (e mb (Or.inr (Or.inl rfl)))⟩
theorem Raw.keeps {X : Nat → Prop} {w' : World} (h : Raw w hb mb v rb l f last N) (k : Keeps X w w') (hx : ∀ i, Of hb mb v i → ¬ X i) : Raw w' hb mb v rb l f last N :=
  h.of_blocks fun i hi => k.block i (h.of_lt hi) (hx i hi)
theorem Raw.below {w' : World} (h : Raw w hb mb v rb l f last N) (k : Below w.heap.size w w') : Raw w' hb mb v rb l f last N :=
  h.of_blocks fun i hi => k.block i (h.of_lt hi)
theorem Raw.mono {N' : Nat} (h : Raw w hb mb v rb l f last N) (hN : N ≤ N') : Raw w hb mb v rb l f last N' := by
  obtain ⟨h1, h2, D, n, h3, h4, h5⟩ := h
  exact ⟨h1, h2, D, n, h3, by omega, h5⟩
theorem Raw.slice (h : Raw w hb mb v rb l f last N) (h0 : 0 < l.length) : ∃ g cap, v = .slice (some ⟨g, 0, none⟩) l.length cap ∧ l.length ≤ cap := by
  obtain ⟨_, ⟨_, h2⟩ | ⟨g, cap, cur, hv, _, _, hn, _⟩⟩ := h.row
  · omega
  · exact ⟨g, cap, hv, hn⟩
theorem Raw.slice' (h : Raw w hb mb v rb l f last N) : ∃ A cap, v = .slice A l.length cap := by
  obtain ⟨_, ⟨h1, h2⟩ | ⟨g, cap, cur, hv, _, _, hn, _⟩⟩ := h.row
  · exact ⟨none, 0, by rw [h1, h2]⟩
  · exact ⟨_, cap, hv⟩
end

theorem keyed : Keyed Try.prog 3 := int_keyed Try.underlying3
theorem zeroI (w : World) : (zeroValue 3).run Try.prog w = .ok (.int .i64 0) w := by kernel_rfl
theorem lit_ne {a b : Int} (h : a ≠ b) : (Lit.int .i64 a) ≠ Lit.int .i64 b := fun e => h (by injection e)

theorem HMap.store {w : World} {mb : Nat} {f : Int → Option Nat} {N : Nat} (h : HMap w mb f N) (hN : N < maxLen) {k : Int} (hk : (Lit.int .i64 k).wf = true) {i : Nat} (hi : (Lit.int .i64 (i : Int)).wf = true) :
    ∃ w', (Instr.mapUpdate 53 (.map (some mb)) (.int .i64 k) (.int .i64 i)).run Try.prog w = .ok () w' ∧ HMap w' mb (upd f k i) (N + 1) ∧ w.mapTurned w' mb := by
  obtain ⟨D, n, h1, h2, h3⟩ := h
  obtain ⟨w', hrun, ho, ht⟩ := h1.store keyed Try.underlying53 (Nat.lt_of_le_of_lt h2 hN) (keyOf_int_mk Try.underlying3 hk) (plainElem_int Try.underlying3 hi)
  refine ⟨w', hrun, ⟨_, n + 1, ho, by omega, fun k' hk' => ?_⟩, ht⟩
  by_cases e : k' = k
  · subst e
    refine ⟨by rw [has_put_same (k := Lit.int .i64 k') h1.isMap trivial]; simp [upd], fun j hj => ?_⟩
    rw [atKey_put_same (k := Lit.int .i64 k') h1.isMap trivial]
    simp [upd] at hj
    subst hj
    rfl
  · have := h3 k' hk'
    rw [has_put_other (lit_ne e), atKey_put_other (lit_ne e)]
    simp only [upd, if_neg e]
    exact this

theorem HMap.drop {w : World} {mb : Nat} {f : Int → Option Nat} {N : Nat} (h : HMap w mb f N) {k : Int} (hk : (Lit.int .i64 k).wf = true) (ty : TypeId) :
    ∃ w', (Builtin.delete_ #[53, 3] ty #[.map (some mb), .int .i64 k]).run Try.prog w = .ok (.tuple #[]) w' ∧ HMap w' mb (del f k) N ∧ w.mapTurned w' mb := by
  obtain ⟨D, n, h1, h2, h3⟩ := h
  obtain ⟨w', hrun, ho, ht⟩ := h1.drop keyed Try.underlying53 (keyOf_int_mk Try.underlying3 hk) ty
  refine ⟨w', hrun, ⟨_, n, ho, h2, fun k' hk' => ?_⟩, ht⟩
  by_cases e : k' = k
  · subst e
    exact ⟨by rw [has_del_same]; simp [del], fun j hj => by simp [del] at hj⟩
  · have := h3 k' hk'
    rw [has_del_other (lit_ne e), atKey_del_other (lit_ne e)]
    simp only [del, if_neg e]
    exact this

section
variable {w : World} {hb mb : Nat} {rb : Nat} {l : List Thing} {f : Int → Option Nat} {last : Int} {N : Nat} {g cap : Nat}
/-- A thing stored at a place. -/
theorem Raw.stored (h : Raw w hb mb (.slice (some ⟨g, 0, none⟩) l.length cap) rb l f last N) {i : Nat} (hi : i < l.length) (t : Thing) :
    Raw (((w.setCell ⟨g, i * 3, none⟩ (.int .u64 t.d)).setCell ⟨g, i * 3 + 1, none⟩ (.int .u64 t.w)).setCell ⟨g, i * 3 + 2, none⟩ (.int .i64 t.h)) hb mb (.slice (some ⟨g, 0, none⟩) l.length cap) rb (l.set i t) f last N := by
  have h1 := (h.row.stored (i * 3) (.int .u64 t.d)).1
  have h2 := (h1.stored (i * 3 + 1) (.int .u64 t.w)).1
  have h3 := (h2.stored (i * 3 + 2) (.int .i64 t.h)).1
  rw [lcells_set hi] at h3
  have hgh : hb ≠ g := fun e => h.vh (by rw [e]; rfl)
  have hgm : mb ≠ g := fun e => h.vm (by rw [e]; rfl)
  have e : ∀ k, k ≠ g → (((w.setCell ⟨g, i * 3, none⟩ (.int .u64 t.d)).setCell ⟨g, i * 3 + 1, none⟩ (.int .u64 t.w)).setCell ⟨g, i * 3 + 2, none⟩ (.int .i64 t.h)).heap[k]? = w.heap[k]? := by
    intro k hk
    rw [Below.heap_setCell _ _ _ _ hk, Below.heap_setCell _ _ _ _ hk, Below.heap_setCell _ _ _ _ hk]
  exact ⟨(e hb hgh).trans h.obj, by rw [List.length_set]; exact h3, h.map.of_block (e mb hgm)⟩
end
end Go.Proofs.Ytphblfgafljelaa.Hp
