/- heap.ahead and heap.lay. -/
import Derived.Test.YtphblfgafljelaaHpMem
import Derived.StillTailTactics
import Derived.Deep.QuietTactic
import Derived.BigQuiet
namespace Go.Proofs.Ytphblfgafljelaa.Hp
open Go.RowKit Go.Maps

theorem ahead_any (a b : Thing) (w : World) : Calls Try.prog 27 #[tval a, tval b] w fun e w' => e = .returned (.bool (aheadB a b)) ∧ Below w.heap.size w w' := by
  obtain ⟨ad, aw, ah⟩ := a
  obtain ⟨bd, bw, bh⟩ := b
  have hB : ∀ w' : World, w' = (w.alloc (.cells #[.int .u64 ad, .int .u64 aw, .int .i64 ah] 58)).alloc (.cells #[.int .u64 bd, .int .u64 bw, .int .i64 bh] 58) → Below w.heap.size w w' := by
    rintro w' rfl
    exact ((Below.refl _ w).alloc (Nat.le_refl _) _).alloc (by simp) _
  have HB := Lib.hid hB
  clear hB
  unfold tval
  by_cases h1 : ad < bd
  · have hr : aheadB ⟨ad, aw, ah⟩ ⟨bd, bw, bh⟩ = true := by rw [aheadB_iff]; exact Or.inl h1
    rw [hr]
    clear hr
    have hd : decide (ad < bd) = true := by simpa using h1
    go_enter Try.func27, Try.ntmps27
    go_wp2
    go_ret
    exact ⟨rfl, HB.out _ rfl⟩
  · have hd : decide (ad < bd) = false := by simpa using h1
    by_cases h2 : ad = bd
    · subst h2
      have he : (ad == ad) = true := by simp
      obtain ⟨r, hr⟩ : ∃ r, aheadB ⟨ad, aw, ah⟩ ⟨ad, bw, bh⟩ = r := ⟨_, rfl⟩
      have hr2 : decide (ah < bh) = r := by rw [← hr]; simp [aheadB]
      rw [hr]
      clear hr h1
      go_enter Try.func27, Try.ntmps27
      go_wp2
      go_ret
      exact ⟨rfl, HB.out _ rfl⟩
    · have hr : aheadB ⟨ad, aw, ah⟩ ⟨bd, bw, bh⟩ = false := by rw [aheadB_false]; exact Or.inl (by show bd < ad; omega)
      rw [hr]
      have he : (ad == bd) = false := by simp [h2]
      clear hr h1 h2
      go_enter Try.func27, Try.ntmps27
      go_wp2
      go_ret
      exact ⟨rfl, HB.out _ rfl⟩

theorem wf_i64 {k : Int} (h : -9223372036854775808 ≤ k ∧ k ≤ 9223372036854775807) : (Lit.int .i64 k).wf = true := WalkArith.wf_i64 (by omega)

set_option maxHeartbeats 2000000 in
set_option maxRecDepth 100000 in
theorem lay_any {w : World} {hb mb : Nat} {v : Value} {rb : Nat} {l : List Thing} {f : Int → Option Nat} {last : Int} {N : Nat} (h : Raw w hb mb v rb l f last N) (i : Nat) (t : Thing) (hi : i < l.length) (hl : l.length ≤ 1000000) (hN : N ≤ 1000000000)
    (ht : 0 ≤ t.h ∧ t.h ≤ 1000000000) :
    Calls Try.prog 24 #[.pointer (some ⟨hb, 0, none⟩), .int .i64 i, tval t] w fun e w' => e = .returned (.tuple #[]) ∧ Raw w' hb mb v rb (l.set i t) (upd f t.h i) last (N + 1) ∧ Keeps (Of hb mb v) w w' := by
  obtain ⟨td, tw, th⟩ := t
  obtain ⟨g, cap, hv, hcap⟩ := h.slice (by omega)
  subst hv
  have HR := Lib.hid h
  obtain ⟨o0, o1, o2, of⟩ := h.obj.cell
  have hlt := h.obj.lt
  have hgl := (h.row.lt g rfl).2
  have hfr := h.row.frozenAt
  obtain ⟨c0, c1, c2⟩ := lcells_at hi
  have d0 : w.cell? ⟨g, i * 3, none⟩ = _ := (h.row.cellAt _ (by omega)).trans c0
  have d1 : w.cell? ⟨g, i * 3 + 1, none⟩ = _ := (h.row.cellAt _ (by omega)).trans c1
  have d2 : w.cell? ⟨g, i * 3 + 2, none⟩ = _ := (h.row.cellAt _ (by omega)).trans c2
  have hgh : g ≠ hb := fun e => h.vh (by rw [← e]; rfl)
  have hgm : g ≠ mb := fun e => h.vm (by rw [← e]; rfl)
  have HL := Lib.hid hl
  have HN := Lib.hid hN
  have hlI : (l.length : Int) ≤ 1000000 := by omega
  have hiI : (i : Int) < (l.length : Int) := by omega
  clear h c0 c1 c2 hl hN
  unfold tval
  dsimp only at ht ⊢
  go_enter Try.func24, Try.ntmps24
  go_wp2_with fail
  go_region
  have W1 : Raw ((((w.setCell ⟨g, i * 3, none⟩ (.int .u64 td)).setCell ⟨g, i * 3 + 1, none⟩ (.int .u64 tw)).setCell ⟨g, i * 3 + 2, none⟩ (.int .i64 th)).alloc (.cells #[.int .u64 td, .int .u64 tw, .int .i64 th] 58)) hb mb (.slice (some ⟨g, 0, none⟩) l.length cap) rb (l.set i ⟨td, tw, th⟩) f last N :=
    (HR.out.stored hi ⟨td, tw, th⟩).below ((Below.refl _ _).alloc (Nat.le_refl _) _)
  have K1 : Keeps (Of hb mb (.slice (some ⟨g, 0, none⟩) l.length cap)) w ((((w.setCell ⟨g, i * 3, none⟩ (.int .u64 td)).setCell ⟨g, i * 3 + 1, none⟩ (.int .u64 tw)).setCell ⟨g, i * 3 + 2, none⟩ (.int .i64 th)).alloc (.cells #[.int .u64 td, .int .u64 tw, .int .i64 th] 58)) :=
    ((((Keeps.refl _ w).setCell (p := ⟨g, i * 3, none⟩) (Or.inr (Or.inr rfl)) _).setCell (p := ⟨g, i * 3 + 1, none⟩) (Or.inr (Or.inr rfl)) _).setCell (p := ⟨g, i * 3 + 2, none⟩) (Or.inr (Or.inr rfl)) _).alloc _
  have b2 : ((((w.setCell ⟨g, i * 3, none⟩ (.int .u64 td)).setCell ⟨g, i * 3 + 1, none⟩ (.int .u64 tw)).setCell ⟨g, i * 3 + 2, none⟩ (.int .i64 th)).alloc (.cells #[.int .u64 td, .int .u64 tw, .int .i64 th] 58)).cell? ⟨w.heap.size, 2, none⟩ = some (.int .i64 th) := World.cell?_alloc_at _ _ _ _ (by simp)
  generalize ((((w.setCell ⟨g, i * 3, none⟩ (.int .u64 td)).setCell ⟨g, i * 3 + 1, none⟩ (.int .u64 tw)).setCell ⟨g, i * 3 + 2, none⟩ (.int .i64 th)).alloc (.cells #[.int .u64 td, .int .u64 tw, .int .i64 th] 58)) = w1 at W1 K1 b2 ⊢
  clear o0 o1 o2 of hlt hgl hfr d0 d1 d2
  obtain ⟨o0, o1, o2, of⟩ := W1.obj.cell
  have hM : HMap w1.drew.drew mb f N := W1.map.of_block rfl
  obtain ⟨w2, hrun, hM2, hturn⟩ := hM.store (by have := HN.out; unfold maxLen; omega) (wf_i64 (k := th) (by omega)) (wf_i64 (k := (i : Int)) (by omega))
  have HM2 := Lib.hid hM2
  have HT := Lib.hid hturn
  have H1 := Lib.hid W1
  clear hM hM2 hturn W1 ht
  go_wp2_with fail
  go_region
  go_end0
  have hg := HT.out.grown
  refine ⟨rfl, ⟨?_, ?_, HM2.out⟩, (K1.drew.drew).grown hg (fun k e => by cases e; exact Or.inr (Or.inl rfl))⟩
  · exact (hg.block hb H1.out.obj.lt (fun e => H1.out.hm (by injection e))).trans H1.out.obj
  · exact World.ownsRow.kept (w := w1.drew.drew) H1.out.row hg (Or.inr (fun e => H1.out.vm (by rw [e])))
end Go.Proofs.Ytphblfgafljelaa.Hp
