/- The document's heap: First, Pop. -/
import Derived.Test.YtphblfgafljelaaRhPut
namespace Go.Proofs.Ytphblfgafljelaa.Hp
open Go.RowKit

theorem rfirst_nil {w : World} {B : Nat} {v : Value} {rb : Nat} {last : Int} (h : RHeap w B v rb [] last) :
    Calls Try.prog 17 #[.pointer (some ⟨B, 0, none⟩)] w fun e w' => e = .returned (.tuple #[.int .u64 0, .int .u64 0, .bool false]) ∧ w = w' := by
  obtain ⟨A, c, hv⟩ := own_shape h.row
  have o0 := h.cell.1
  rw [hv] at o0
  clear h hv
  go_enter Try.func17, Try.ntmps17
  go_wp2
  go_ret3
  exact ⟨rfl, rfl⟩

theorem RHeap.head {w : World} {B : Nat} {v : Value} {rb : Nat} {s : Thing} {S : List Thing} {last : Int} (h : RHeap w B v rb (s :: S) last) :
    ∃ g c, v = .slice (some ⟨g, 0, none⟩) (S.length + 1) c ∧ S.length + 1 ≤ c ∧ w.cell? ⟨B, 0, none⟩ = some (.slice (some ⟨g, 0, none⟩) (S.length + 1) c) ∧ w.cell? ⟨g, 0, none⟩ = some (.int .u64 s.d) ∧ w.cell? ⟨g, 1, none⟩ = some (.int .u64 s.w) := by
  rcases h.shape with ⟨_, h2⟩ | ⟨g, c, rfl, hc, _⟩
  · cases h2
  · obtain ⟨c0, c1, _⟩ := lcells_at (l := s :: S) (i := 0) (by simp)
    exact ⟨g, c, rfl, hc, h.cell.1, (h.row.cellAt 0 (by simp)).trans c0, (h.row.cellAt 1 (by simp; omega)).trans c1⟩

theorem rfirst_cons {w : World} {B : Nat} {v : Value} {rb : Nat} {s : Thing} {S : List Thing} {last : Int} (h : RHeap w B v rb (s :: S) last) (hS : S.length ≤ 900000) :
    Calls Try.prog 17 #[.pointer (some ⟨B, 0, none⟩)] w (FirstOut w s.d s.w) := by
  obtain ⟨g, c, _, _, o0, d0, d1⟩ := h.head
  obtain ⟨sd, sw, sh⟩ := s
  dsimp only at d0 d1 ⊢
  obtain ⟨n, hn⟩ : ∃ n, n = S.length := ⟨_, rfl⟩
  rw [← hn] at o0 hS
  have hnI : (n : Int) ≤ 900000 := by omega
  have hb1 : ((n : Int) + 1 == 0) = false := by simp; omega
  clear h hn hS
  go_enter Try.func17, Try.ntmps17
  go_wp2_with fail
  try go_quiet (fail)
  go_wp2
  go_ret3
  first | exact ⟨rfl, nq, rfl⟩ | exact ⟨rfl, 0, rfl⟩

theorem rpop_nil {w : World} {B : Nat} {v : Value} {rb : Nat} {last : Int} (h : RHeap w B v rb [] last) (now : Int) :
    Calls Try.prog 18 #[.pointer (some ⟨B, 0, none⟩), .int .u64 now] w fun e w' => e = .returned (.tuple #[.int .u64 0, .bool false]) ∧ w = w' := by
  obtain ⟨A, c, hv⟩ := own_shape h.row
  have o0 := h.cell.1
  rw [hv] at o0
  clear h hv
  go_enter Try.func18, Try.ntmps18
  go_wp2
  go_ret2
  exact ⟨rfl, rfl⟩

theorem rpop_later {w : World} {B : Nat} {v : Value} {rb : Nat} {s : Thing} {S : List Thing} {last : Int} (h : RHeap w B v rb (s :: S) last) (now : Int) (hS : S.length ≤ 900000) (hl : now < s.d) :
    Calls Try.prog 18 #[.pointer (some ⟨B, 0, none⟩), .int .u64 now] w fun e w' => e = .returned (.tuple #[.int .u64 0, .bool false]) ∧ w = w' := by
  obtain ⟨g, c, _, _, o0, d0, d1⟩ := h.head
  obtain ⟨sd, sw, sh⟩ := s
  dsimp only at d0 d1 hl ⊢
  obtain ⟨n, hn⟩ : ∃ n, n = S.length := ⟨_, rfl⟩
  rw [← hn] at o0 hS
  have hnI : (n : Int) ≤ 900000 := by omega
  have hb1 : ((n : Int) + 1 == 0) = false := by simp; omega
  have hd : decide (now < sd) = true := by simpa using hl
  clear h hn hS
  go_enter Try.func18, Try.ntmps18
  go_wp2
  go_ret2
  exact ⟨rfl, rfl⟩

def RPopOut (w : World) (B rb : Nat) (S : List Thing) (last q : Int) (e : Ending) (w' : World) : Prop :=
  e = .returned (.tuple #[.int .u64 q, .bool true]) ∧ ∃ v', RHeap w' B v' rb S last ∧ Keeps (fun k => k = B) w w'

set_option maxRecDepth 100000 in
set_option maxHeartbeats 2000000 in
theorem rpop_now {w : World} {B : Nat} {v : Value} {rb : Nat} {s : Thing} {S : List Thing} {last : Int} (h : RHeap w B v rb (s :: S) last) (hrb : rb ≤ w.heap.size) (now : Int) (hS : S.length ≤ 900000) (hl : s.d ≤ now) :
    Calls Try.prog 18 #[.pointer (some ⟨B, 0, none⟩), .int .u64 now] w (RPopOut w B rb S last s.w) := by
  obtain ⟨g, c, rfl, hc, o0, d0, d1⟩ := h.head
  have hrow := h.row
  have hobj := h.obj
  have hlt := h.lt
  have of := h.cell.2.2
  obtain ⟨A1, c1, w2, hrun, hrow1, hg1⟩ := app_part (W := w.alloc (.cells #[] 66)) w.heap.size (.slice (some ⟨w.heap.size, 0, none⟩) 0 0) [] (own_empty w w.heap.size 66 3 (Nat.le_refl _)) (if c = 1 then some ⟨g, 0, none⟩ else some ⟨g, 3, none⟩) S.length (c - 1) S rfl
    (by
      have hg0 : g < w.heap.size := (hrow.lt g rfl).2
      have hcells := part_cells (l := s :: S) hrow 1 S.length
      simp only [List.drop_one, List.tail_cons, List.take_length, Nat.one_mul] at hcells
      split
      · have : S = [] := List.length_eq_zero_iff.1 (by omega)
        subst this
        exact .inr ⟨_, rfl, fun j x hx => by simp [lcells] at hx⟩
      · refine .inr ⟨_, rfl, fun j x hx => ?_⟩
        have := hcells j x hx
        rw [Addr.add_lit] at this ⊢
        rw [World.cell?_alloc_lt _ _ _ (by exact hg0)]
        exact this) (by simp; omega) (by simp)
  simp only [List.length_nil, Nat.zero_add, List.nil_append] at hrun hrow1
  have hwb : Below w.heap.size w (w.alloc (.cells #[] 66)) := (Below.refl _ _).alloc (Nat.le_refl _) _
  have hb2 : Below w.heap.size w w2 := hwb.grown hg1 (by simp) (fun k e => by cases e; exact Nat.le_refl _)
  have hB2 : RHeap w2 B (.slice (some ⟨g, 0, none⟩) (S.length + 1) c) rb (s :: S) last := h.below hb2
  have hK2 : Keeps (fun i => i = B) w w2 := Keeps.ofBelow hb2
  have htn := hB2.turn (row_base hrow1 hrb)
  have hst := hK2.trans ((Keeps.refl (fun i => i = B) w2).setCell (p := ⟨B, 0, none⟩) rfl (.slice A1 S.length c1)) (fun i hi => Or.inl hi)
  obtain ⟨p0, p1, pf⟩ := hB2.cell
  have HRun := Lib.hid hrun
  have HTn := Lib.hid htn
  have HSt := Lib.hid hst
  clear hrun htn hst hK2 hB2 hb2 hwb hg1 hrow1 h hrow hobj
  obtain ⟨sd, sw, sh⟩ := s
  dsimp only at d0 d1 hl ⊢
  generalize S.length = n at *
  have hnI : (n : Int) ≤ 900000 := by omega
  have hb1 : ((n : Int) + 1 == 0) = false := by simp; omega
  have hd : decide (now < sd) = false := by simp; omega
  go_enter Try.func18, Try.ntmps18
  go_wp2_with (at_builtin; refine wpList_append_run rfl (.tmp 32) (.tmp 37) 39 rfl rfl rfl HRun.out ?_; clear HRun)
  all_goals
    go_ret2
    exact ⟨rfl, _, HTn.out, HSt.out⟩
end Go.Proofs.Ytphblfgafljelaa.Hp
