/- Words and small contracts for the laws on fair scripts: entries, a slice that reads as entries, same, Within. -/
import Derived.Test.YtloeibaeobkgjaaRows
import Derived.Test.YtloeibaeobkgjaaFairPlain
import Derived.WalkKit
import Derived.WalkLawsBesides
import Derived.WalkSpells
import Derived.Laws.StructEq
import Derived.Outline
import Derived.Deep.QuietTactic
import Derived.BigQuiet
import Derived.Deep.Draws
import Derived.ProofKit
import Derived.OpenShut
import Derived.Lib.Hide
namespace Go.Proofs.Ytloeibaeobkgjaa.Fair
open Go.ChangeShapes Go.WideShapes Go.ChangeAt Go.RowKit

/-- The slice A of n entries reads as l, below block B. -/
def Ents (w : World) (B : Nat) (A : Option Addr) (n : Nat) (l : List Ent) : Prop :=
  l.length = n ∧ (0 < n → ∃ b off, A = some ⟨b, off, none⟩ ∧ b < B ∧ ∀ i e, l[i]? = some e →
    w.cell? ⟨b, off + i * 3, none⟩ = some (.int .i64 e.kind) ∧ w.cell? ⟨b, off + i * 3 + 1, none⟩ = some (.int .i64 e.who) ∧ w.cell? ⟨b, off + i * 3 + 2, none⟩ = some (.int .u64 e.draw))

theorem Ents.at_ {w : World} {B : Nat} {A : Option Addr} {n : Nat} {l : List Ent} (h : Ents w B A n l) {k : Nat} (hk : k < n) :
    ∃ b off e, A = some ⟨b, off, none⟩ ∧ b < B ∧ l[k]? = some e ∧ w.cell? ⟨b, off + k * 3, none⟩ = some (.int .i64 e.kind) ∧ w.cell? ⟨b, off + k * 3 + 1, none⟩ = some (.int .i64 e.who) ∧ w.cell? ⟨b, off + k * 3 + 2, none⟩ = some (.int .u64 e.draw) := by
  obtain ⟨hl, h⟩ := h
  obtain ⟨b, off, hA, hb, hc⟩ := h (by omega)
  have hkl : k < l.length := by omega
  exact ⟨b, off, l[k], hA, hb, List.getElem?_eq_getElem hkl, hc k _ (List.getElem?_eq_getElem hkl)⟩

theorem Ents.below {w w' : World} {B : Nat} {A : Option Addr} {n : Nat} {l : List Ent} (h : Ents w B A n l) (hb : Below B w w') : Ents w' B A n l := by
  refine ⟨h.1, fun h0 => ?_⟩
  obtain ⟨b, off, hA, hbB, hc⟩ := h.2 h0
  refine ⟨b, off, hA, hbB, fun i e he => ?_⟩
  obtain ⟨c0, c1, c2⟩ := hc i e he
  exact ⟨(hb.cell (p := ⟨b, _, none⟩) hbB).trans c0, (hb.cell (p := ⟨b, _, none⟩) hbB).trans c1, (hb.cell (p := ⟨b, _, none⟩) hbB).trans c2⟩

theorem Ents.more {w : World} {B B' : Nat} {A : Option Addr} {n : Nat} {l : List Ent} (h : Ents w B A n l) (hB : B ≤ B') : Ents w B' A n l := by
  refine ⟨h.1, fun h0 => ?_⟩
  obtain ⟨b, off, hA, hbB, hc⟩ := h.2 h0
  exact ⟨b, off, hA, by omega, hc⟩

theorem Ents.drewN {w : World} {B : Nat} {A : Option Addr} {n : Nat} {l : List Ent} (h : Ents w B A n l) (q : Nat) : Ents (w.drewN q) B A n l := h

theorem stood : Try.prog.stoodInHeld 34 = false := by kernel_rfl
theorem cells3 : Try.prog.cellsOf 3 = 1 := by kernel_rfl
theorem cells26 : Try.prog.cellsOf 26 = 1 := by kernel_rfl

/-- Two entries held against each other. -/
theorem neq_ent (a b c a' b' c' : Int) (w : World) : (binOp .neq 34 (.agg #[.int .i64 a, .int .i64 b, .int .u64 c]) (.agg #[.int .i64 a', .int .i64 b', .int .u64 c'])).run Try.prog w = .ok (.bool (!(a == a' && b == b' && c == c'))) w := by
  have h := stood
  have h1 := cells3
  have h2 := cells26
  rw [run_neq_struct]
  go_simp
  cases ha : (a == a') <;> cases hb : (b == b') <;> cases hc : (c == c') <;> simp_all

def sameE (e e' : Ent) : Bool := e.kind == e'.kind && e.who == e'.who && e.draw == e'.draw
theorem sameE_iff (e e' : Ent) : sameE e e' = true ↔ e = e' := by
  cases e; cases e'; simp [sameE, and_assoc]

theorem take_snoc_eq {α : Type} {l l' : List α} {k : Nat} {e : α} (ht : l.take k = l'.take k) (he : l[k]? = some e) (he' : l'[k]? = some e) : l.take (k + 1) = l'.take (k + 1) := by
  rw [List.take_add_one, List.take_add_one, ht, he, he']

/-- same: two slices of entries of one length. -/
theorem same_len (w : World) (A A' : Option Addr) (n c c' : Nat) (l l' : List Ent) (h : Ents w w.heap.size A n l) (h' : Ents w w.heap.size A' n l') (hl : n ≤ 100000) :
    Calls Try.prog 12 #[.slice A n c, .slice A' n c'] w fun e w' => e = .returned (.bool (decide (l = l'))) ∧ ∃ q, w' = w.drewN q := by
  have hb : ((n : Int) != (n : Int)) = false := by simp
  go_enter Try.func12, Try.ntmps12
  go_wp2
  go_loopw [5] (fun i wr => ∃ k : Nat, k ≤ n ∧ i = .int .i64 k ∧ l.take k = l'.take k ∧ ∃ q, wr = w.drewN q) (fun i _ => n - (intOf i).toNat)
  case atStart => exact ⟨0, by omega, rfl, by simp, 0, rfl⟩
  case round =>
    obtain ⟨k, hk, rfl, ht, q, rfl⟩ := hrel
    by_cases hlt : k < n
    · obtain ⟨b, off, e, rfl, hb, he, c0, c1, c2⟩ := h.at_ hlt
      obtain ⟨b', off', e', rfl, hb', he', c0', c1', c2'⟩ := h'.at_ hlt
      have HH := Lib.hid h; clear h
      have HH' := Lib.hid h'; clear h'
      have HT := Lib.hid ht; clear ht
      have HE := Lib.hid he; clear he
      have HE' := Lib.hid he'; clear he'
      have hne := neq_ent e.kind e.who e.draw e'.kind e'.who e'.draw
      by_cases hs : sameE e e' = true
      · obtain rfl := (sameE_iff e e').1 hs
        have hs2 : (e.kind == e.kind && e.who == e.who && e.draw == e.draw) = true := hs
        rw [hs2] at hne
        clear hs hs2
        go_wp2
        go_quiet (fail)
        go_wp2
        go_roundw
        case rel => exact ⟨k + 1, by omega, by go_num, take_snoc_eq HT.out HE.out HE'.out, _, rfl⟩
        case measure => simp [intOf]; omega
      · have hs2 : (e.kind == e'.kind && e.who == e'.who && e.draw == e'.draw) = false := by simpa [sameE] using hs
        rw [hs2] at hne
        go_wp2
        go_quiet (fail)
        go_wp2
        go_ret
        refine ⟨?_, _, World.drewN_drewN _ _ _⟩
        rw [decide_eq_false]
        · rfl
        rintro rfl
        have := HE.out.symm.trans HE'.out
        simp only [Option.some.injEq] at this
        exact hs ((sameE_iff e e').2 this)
    · obtain rfl : k = n := by omega
      have HT := Lib.hid ht; clear ht
      go_wp2
      go_ret
      refine ⟨?_, _, rfl⟩
      have := HT.out
      rw [List.take_of_length_le (by rw [h.1]; omega), List.take_of_length_le (by rw [h'.1]; omega)] at this
      rw [decide_eq_true this]
      rfl

/-- same: two slices of entries of different lengths. -/
theorem same_ne (w : World) (A A' : Option Addr) (n n' c c' : Nat) (hn : n ≠ n') :
    Calls Try.prog 12 #[.slice A n c, .slice A' n' c'] w fun e w' => e = .returned (.bool false) ∧ w = w' := by
  have hb : ((n : Int) != (n' : Int)) = true := by simp; omega
  go_enter Try.func12, Try.ntmps12
  go_wp2
  go_ret
  exact ⟨rfl, rfl⟩

/-- same, of any two. -/
theorem same_any (w : World) (A A' : Option Addr) (n n' c c' : Nat) (l l' : List Ent) (h : Ents w w.heap.size A n l) (h' : Ents w w.heap.size A' n' l') (hl : n ≤ 100000) :
    Calls Try.prog 12 #[.slice A n c, .slice A' n' c'] w fun e w' => e = .returned (.bool (decide (l = l'))) ∧ ∃ q, w' = w.drewN q := by
  by_cases hn : n = n'
  · subst hn; exact same_len w A A' n c c' l l' h h' hl
  · refine (same_ne w A A' n n' c c' hn).mono fun e w' ⟨he, hw⟩ => ⟨?_, 0, hw.symm⟩
    rw [he, decide_eq_false]
    rintro rfl
    exact hn (h.1.symm.trans h'.1)
end Go.Proofs.Ytloeibaeobkgjaa.Fair
