/- heap.First, Pop. -/
import Derived.Test.YtphblfgafljelaaHpDrop
namespace Go.Proofs.Ytphblfgafljelaa.Hp
open Go.RowKit Go.Maps

theorem HeapIs.nil_row {w : World} {hb mb : Nat} {v : Value} {rb : Nat} {last : Int} {N : Nat} (h : HeapIs w hb mb v rb [] last N) : ∃ A c, v = .slice A 0 c ∧ w.cell? ⟨hb, 0, none⟩ = some (.slice A 0 c) := by
  obtain ⟨l, f, hraw, hperm, _⟩ := h
  obtain rfl : l = [] := by have := hperm.length_eq; exact List.length_eq_zero_iff.1 this
  obtain ⟨A, c, hv⟩ := hraw.slice'
  have h1 := hraw.obj.cell.1
  rw [hv] at h1
  exact ⟨A, c, hv, h1⟩
theorem HeapIs.cons_row {w : World} {hb mb : Nat} {v : Value} {rb : Nat} {s : Thing} {S : List Thing} {last : Int} {N : Nat} (h : HeapIs w hb mb v rb (s :: S) last N) :
    ∃ g c, v = .slice (some ⟨g, 0, none⟩) (S.length + 1) c ∧ g < w.heap.size ∧ w.cell? ⟨hb, 0, none⟩ = some (.slice (some ⟨g, 0, none⟩) (S.length + 1) c) ∧ w.cell? ⟨g, 0, none⟩ = some (.int .u64 s.d) ∧ w.cell? ⟨g, 1, none⟩ = some (.int .u64 s.w) ∧ w.cell? ⟨g, 2, none⟩ = some (.int .i64 s.h) := by
  obtain ⟨l, f, hraw, hperm, hsort, hheap, hpl, hap, _⟩ := h
  have hl : l.length = S.length + 1 := by rw [hperm.length_eq]; rfl
  have hf := first_eq hheap hperm hsort
  obtain ⟨g, c, hv, hc⟩ := hraw.slice (by omega)
  subst hv
  obtain ⟨o0, d0, d1, d2⟩ := hraw.look rfl (i := 0) (by omega)
  rw [hf] at d0 d1 d2
  rw [hl] at o0
  exact ⟨g, c, by rw [hl], (hraw.row.lt g rfl).2, o0, d0, d1, d2⟩
theorem HeapIs.apart {w : World} {hb mb : Nat} {v : Value} {rb : Nat} {S : List Thing} {last : Int} {N : Nat} (h : HeapIs w hb mb v rb S last N) : Apart S := by
  obtain ⟨l, f, hraw, hperm, hsort, hheap, hpl, hap, _⟩ := h
  exact hap.perm hperm.symm
theorem HeapIs.fine {w : World} {hb mb : Nat} {v : Value} {rb : Nat} {S : List Thing} {last : Int} {N : Nat} (h : HeapIs w hb mb v rb S last N) : (∀ t ∈ S, Fine last t) ∧ 0 ≤ last ∧ last ≤ 1000000 := by
  obtain ⟨l, f, hraw, hperm, hsort, hheap, hpl, hap, hfi, h0, h1⟩ := h
  exact ⟨hfi, h0, h1⟩
theorem HeapIs.sorted {w : World} {hb mb : Nat} {v : Value} {rb : Nat} {S : List Thing} {last : Int} {N : Nat} (h : HeapIs w hb mb v rb S last N) : Sorted S := by
  obtain ⟨l, f, hraw, hperm, hsort, _⟩ := h
  exact hsort

theorem first_nil {w : World} {hb mb : Nat} {v : Value} {rb : Nat} {last : Int} {N : Nat} (h : HeapIs w hb mb v rb [] last N) :
    Calls Try.prog 16 #[.pointer (some ⟨hb, 0, none⟩)] w fun e w' => e = .returned (.tuple #[.int .u64 0, .int .u64 0, .bool false]) ∧ w = w' := by
  obtain ⟨A, c, _, o0⟩ := h.nil_row
  clear h
  go_enter Try.func16, Try.ntmps16
  go_wp2
  go_ret3
  exact ⟨rfl, rfl⟩

def FirstOut (w : World) (d q : Int) (e : Ending) (w' : World) : Prop := e = .returned (.tuple #[.int .u64 d, .int .u64 q, .bool true]) ∧ ∃ n, w' = w.drewN n
theorem first_cons {w : World} {hb mb : Nat} {v : Value} {rb : Nat} {s : Thing} {S : List Thing} {last : Int} {N : Nat} (h : HeapIs w hb mb v rb (s :: S) last N) (hS : S.length ≤ 900000) :
    Calls Try.prog 16 #[.pointer (some ⟨hb, 0, none⟩)] w (FirstOut w s.d s.w) := by
  obtain ⟨g, c, _, hg, o0, d0, d1, d2⟩ := h.cons_row
  obtain ⟨sd, sw, sh⟩ := s
  dsimp only at d0 d1 d2 ⊢
  obtain ⟨n, hn⟩ : ∃ n, n = S.length := ⟨_, rfl⟩
  rw [← hn] at o0 hS
  have hnI : (n : Int) ≤ 900000 := by omega
  have hb1 : ((n : Int) + 1 == 0) = false := by simp; omega
  clear h hn hS
  go_enter Try.func16, Try.ntmps16
  go_wp2_with fail
  try go_quiet (fail)
  go_wp2
  go_ret3
  first | exact ⟨rfl, nq, rfl⟩ | exact ⟨rfl, 0, rfl⟩

theorem pop_nil {w : World} {hb mb : Nat} {v : Value} {rb : Nat} {last : Int} {N : Nat} (h : HeapIs w hb mb v rb [] last N) (now : Int) :
    Calls Try.prog 11 #[.pointer (some ⟨hb, 0, none⟩), .int .u64 now] w fun e w' => e = .returned (.tuple #[.int .u64 0, .bool false]) ∧ w = w' := by
  obtain ⟨A, c, _, o0⟩ := h.nil_row
  clear h
  go_enter Try.func11, Try.ntmps11
  go_wp2
  go_ret2
  exact ⟨rfl, rfl⟩

theorem pop_later {w : World} {hb mb : Nat} {v : Value} {rb : Nat} {s : Thing} {S : List Thing} {last : Int} {N : Nat} (h : HeapIs w hb mb v rb (s :: S) last N) (now : Int) (hS : S.length ≤ 900000) (hl : now < s.d) :
    Calls Try.prog 11 #[.pointer (some ⟨hb, 0, none⟩), .int .u64 now] w fun e w' => e = .returned (.tuple #[.int .u64 0, .bool false]) ∧ w = w' := by
  obtain ⟨g, c, _, hg, o0, d0, d1, d2⟩ := h.cons_row
  obtain ⟨sd, sw, sh⟩ := s
  dsimp only at d0 d1 d2 hl ⊢
  obtain ⟨n, hn⟩ : ∃ n, n = S.length := ⟨_, rfl⟩
  rw [← hn] at o0 hS
  have hnI : (n : Int) ≤ 900000 := by omega
  have hb1 : ((n : Int) + 1 == 0) = false := by simp; omega
  have hd : decide (now < sd) = true := by simpa using hl
  clear h hn hS
  go_enter Try.func11, Try.ntmps11
  go_wp2
  go_ret2
  exact ⟨rfl, rfl⟩

def PopOut (w : World) (hb mb : Nat) (v : Value) (rb : Nat) (S : List Thing) (last : Int) (N : Nat) (q : Int) (e : Ending) (w' : World) : Prop :=
  e = .returned (.tuple #[.int .u64 q, .bool true]) ∧ ∃ v', HeapIs w' hb mb v' rb S last (N + 3 * S.length + 7) ∧ v'.ownBlock = v.ownBlock ∧ Keeps (Of hb mb v) w w'

set_option maxRecDepth 100000 in
theorem pop_now {w : World} {hb mb : Nat} {v : Value} {rb : Nat} {s : Thing} {S : List Thing} {last : Int} {N : Nat} (h : HeapIs w hb mb v rb (s :: S) last N) (now : Int) (hS : S.length ≤ 800000) (hN : N ≤ 800000000) (hl : s.d ≤ now) :
    Calls Try.prog 11 #[.pointer (some ⟨hb, 0, none⟩), .int .u64 now] w (PopOut w hb mb v rb S last N s.w) := by
  obtain ⟨g, c, _, hg, o0, d0, d1, d2⟩ := h.cons_row
  have hfi := (h.fine.1 s List.mem_cons_self).1
  have hfl := h.fine.2
  have HD := Lib.hid (drop_some h s.h (by omega) (ofH_some h.apart List.mem_cons_self rfl) (by simp; omega) hN)
  have HW := Lib.hid (without_head h.apart)
  obtain ⟨sd, sw, sh⟩ := s
  dsimp only at d0 d1 d2 hl HD HW hfi ⊢
  obtain ⟨n, hn⟩ : ∃ n, n = S.length := ⟨_, rfl⟩
  have HN := Lib.hid hn
  rw [← hn] at o0 hS
  have hnI : (n : Int) ≤ 800000 := by omega
  have hb1 : ((n : Int) + 1 == 0) = false := by simp; omega
  have hd : decide (now < sd) = false := by simp; omega
  clear h hn hS hN hfl
  go_enter Try.func11, Try.ntmps11
  go_wp2_with fail
  refine HD.out.mono ?_
  rintro e w2 ⟨rfl, v', hH, hv', hk⟩
  go_wp2
  go_ret2
  rw [HW.out] at hH
  obtain ⟨l, f, h1, h2⟩ := hH
  exact ⟨rfl, v', ⟨l, f, h1.mono (by simp; omega), h2⟩, hv', hk⟩
end Go.Proofs.Ytphblfgafljelaa.Hp
