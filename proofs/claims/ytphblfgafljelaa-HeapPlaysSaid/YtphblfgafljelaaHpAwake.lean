/- A heap that a law makes; distafflaw07.awake is true. -/
import Derived.Test.YtphblfgafljelaaHpTiny
namespace Go.Proofs.Ytphblfgafljelaa.Hp
open Go.RowKit

/-- A heap made behind w0. -/
def Hp (w0 w : World) (hb mb : Nat) (v : Value) (S : List Thing) (last : Int) (N : Nat) : Prop :=
  HeapIs w hb mb v 0 S last N ∧ Below w0.heap.size w0 w ∧ ∀ k, Of hb mb v k → w0.heap.size ≤ k

theorem Hp.below {w0 w w' : World} {hb mb : Nat} {v : Value} {S : List Thing} {last : Int} {N : Nat} (h : Hp w0 w hb mb v S last N) (k : Below w.heap.size w w') : Hp w0 w' hb mb v S last N :=
  ⟨h.1.below k, h.2.1.trans (k.mono h.2.1.size), h.2.2⟩
/-- A step that keeps the heap's blocks, and what lay before. -/
theorem Hp.step {w0 w w' : World} {X : Nat → Prop} {hb mb : Nat} {v : Value} {S : List Thing} {last : Int} {N : Nat} (h : Hp w0 w hb mb v S last N) (k : Keeps X w w') (hx : ∀ i, Of hb mb v i → ¬ X i) (hX : ∀ i, X i → w0.heap.size ≤ i) : Hp w0 w' hb mb v S last N :=
  ⟨h.1.keeps k hx, Keeps.below h.2.1 k h.2.1.size hX, h.2.2⟩
theorem Hp.le {w0 w : World} {hb mb : Nat} {v : Value} {S : List Thing} {last : Int} {N : Nat} (h : Hp w0 w hb mb v S last N) : w0.heap.size ≤ w.heap.size := h.2.1.size

def NewHp (w0 w : World) (e : Ending) (w' : World) : Prop := ∃ hb mb, e = .returned (.pointer (some ⟨hb, 0, none⟩)) ∧ Hp w0 w' hb mb (.slice none 0 0) [] 0 0 ∧ Below w.heap.size w w' ∧ w.heap.size ≤ hb ∧ w.heap.size ≤ mb
theorem new_hp (w0 w : World) (h0 : Below w0.heap.size w0 w) : Calls Try.prog 8 #[] w (NewHp w0 w) :=
  (new_any w).mono fun _ _ ⟨hb, mb, he, h1, h2, h3, h4⟩ => ⟨hb, mb, he, ⟨h3, h0.trans (h4.mono h0.size), fun k hk => by
    rcases hk with rfl | rfl | hk
    · exact Nat.le_trans h0.size h1
    · exact Nat.le_trans h0.size h2
    · cases hk⟩, h4, h1, h2⟩

def PutHp (w0 w : World) (hb mb : Nat) (v : Value) (S : List Thing) (last : Int) (N : Nat) (d q : Int) (e : Ending) (w' : World) : Prop :=
  e = .returned (.int .i64 (last + 1)) ∧ ∃ v', Hp w0 w' hb mb v' (ins ⟨d, q, last + 1⟩ S) (last + 1) (N + S.length + 3) ∧ Keeps (Of hb mb v) w w' ∧ ∀ k, v'.ownBlock = some k → v.ownBlock = some k ∨ w.heap.size ≤ k
theorem put_hp {w0 w : World} {hb mb : Nat} {v : Value} {S : List Thing} {last : Int} {N : Nat} (h : Hp w0 w hb mb v S last N) (d q : Int) (hd : 0 ≤ d ∧ d < 18446744073709551616) (hq : 0 ≤ q ∧ q < 18446744073709551616) (hS : S.length ≤ 900000) (hN : N ≤ 800000000) (hl : last < 900000) :
    Calls Try.prog 10 #[.pointer (some ⟨hb, 0, none⟩), .int .u64 d, .int .u64 q] w (PutHp w0 w hb mb v S last N d q) :=
  (put_any h.1 (Nat.zero_le _) d q hd hq hS hN hl).mono fun _ _ ⟨he, v', h1, h2, h3⟩ => ⟨he, v', ⟨h1, Keeps.below h.2.1 h2 h.2.1.size h.2.2, fun k hk => by
    rcases hk with rfl | rfl | hk
    · exact h.2.2 _ (Or.inl rfl)
    · exact h.2.2 _ (Or.inr (Or.inl rfl))
    · rcases h3 k hk with h4 | h4
      · exact h.2.2 _ (Or.inr (Or.inr h4))
      · exact Nat.le_trans h.2.1.size h4⟩, h2, h3⟩

theorem of_same {hb mb : Nat} {v v' : Value} (h : v'.ownBlock = v.ownBlock) (k : Nat) : Of hb mb v' k ↔ Of hb mb v k := by unfold Of; rw [h]

def PopHp (w0 w : World) (hb mb : Nat) (v : Value) (S : List Thing) (last : Int) (N : Nat) (q : Int) (e : Ending) (w' : World) : Prop :=
  e = .returned (.tuple #[.int .u64 q, .bool true]) ∧ ∃ v', Hp w0 w' hb mb v' S last (N + 3 * S.length + 7) ∧ v'.ownBlock = v.ownBlock ∧ Keeps (Of hb mb v) w w'
theorem pop_hp {w0 w : World} {hb mb : Nat} {v : Value} {s : Thing} {S : List Thing} {last : Int} {N : Nat} (h : Hp w0 w hb mb v (s :: S) last N) (now : Int) (hS : S.length ≤ 800000) (hN : N ≤ 800000000) (hl : s.d ≤ now) :
    Calls Try.prog 11 #[.pointer (some ⟨hb, 0, none⟩), .int .u64 now] w (PopHp w0 w hb mb v S last N s.w) :=
  (pop_now h.1 now hS hN hl).mono fun _ _ ⟨he, v', h1, h2, h3⟩ => ⟨he, v', ⟨h1, Keeps.below h.2.1 h3 h.2.1.size h.2.2, fun k hk => h.2.2 k ((of_same h2 k).1 hk)⟩, h2, h3⟩

def DropHp (w0 w : World) (hb mb : Nat) (v : Value) (S : List Thing) (last : Int) (N : Nat) (k q : Int) (e : Ending) (w' : World) : Prop :=
  e = .returned (.tuple #[.int .u64 q, .bool true]) ∧ ∃ v', Hp w0 w' hb mb v' (without k S) last (N + 3 * S.length + 4) ∧ v'.ownBlock = v.ownBlock ∧ Keeps (Of hb mb v) w w'
theorem drop_hp {w0 w : World} {hb mb : Nat} {v : Value} {S : List Thing} {last : Int} {N : Nat} (h : Hp w0 w hb mb v S last N) (k : Int) (hk : -9223372036854775808 ≤ k ∧ k ≤ 9223372036854775807) {t : Thing} (hyes : ofH k S = some t) (hS : S.length ≤ 900000) (hN : N ≤ 800000000) :
    Calls Try.prog 14 #[.pointer (some ⟨hb, 0, none⟩), .int .i64 k] w (DropHp w0 w hb mb v S last N k t.w) :=
  (drop_some h.1 k hk hyes hS hN).mono fun _ _ ⟨he, v', h1, h2, h3⟩ => ⟨he, v', ⟨h1, Keeps.below h.2.1 h3 h.2.1.size h.2.2, fun k hk => h.2.2 k ((of_same h2 k).1 hk)⟩, h2, h3⟩

theorem len_tiny {w0 w : World} {hb mb : Nat} {v : Value} {S : List Thing} {last : Int} {N : Nat} (h : Hp w0 w hb mb v S last N) (hS : S.length ≤ 1) :
    Calls Try.prog 12 #[.pointer (some ⟨hb, 0, none⟩)] w fun e w' => e = .returned (.int .i64 S.length) ∧ Below w.heap.size w w' :=
  len_any h.1 (fun l hl => ⟨_, sort_tiny l (by rw [hl.length_eq]; exact hS)⟩) (by omega)

set_option maxHeartbeats 2000000 in
theorem awake_true (w : World) : Calls Try.prog 9 #[] w fun e w' => e = .returned (.bool true) ∧ Below w.heap.size w w' := by
  go_enter Try.func9, Try.ntmps9
  go_wp2_with fail
  refine (new_hp w _ (Below.refl _ _)).mono ?_
  rintro e w1 ⟨hb, mb, rfl, h1, _⟩
  have H1 := Lib.hid h1
  clear h1
  go_wp2_with fail
  refine (put_hp H1.out 5 70 (by decide) (by decide) (by decide) (by decide) (by decide)).mono ?_
  rintro e w2 ⟨rfl, v2, h2, _⟩
  have H2 : Hid (Hp w w2 hb mb v2 [⟨5, 70, 1⟩] 1 _) := Lib.hid h2
  clear h2
  simp only [Int.zero_add]
  go_wp2_with fail
  refine (put_hp H2.out 3 71 (by decide) (by decide) (by decide) (by decide) (by decide)).mono ?_
  rintro e w3 ⟨rfl, v3, h3, _⟩
  have H3 : Hid (Hp w w3 hb mb v3 [⟨3, 71, 2⟩, ⟨5, 70, 1⟩] 2 _) := Lib.hid h3
  clear h3
  simp only [Int.reduceAdd]
  go_wp2_with fail
  refine (put_hp H3.out 3 72 (by decide) (by decide) (by decide) (by decide) (by decide)).mono ?_
  rintro e w4 ⟨rfl, v4, h4, _⟩
  have H4 : Hid (Hp w w4 hb mb v4 [⟨3, 71, 2⟩, ⟨3, 72, 3⟩, ⟨5, 70, 1⟩] 3 _) := Lib.hid h4
  clear h4
  simp only [Int.reduceAdd]
  go_wp2_with fail
  refine (pop_hp H4.out 3 (by decide) (by decide) (by decide)).mono ?_
  rintro e w5 ⟨rfl, v5, h5, _⟩
  have H5 := Lib.hid h5
  clear h5
  go_wp2_with fail
  refine (pop_hp H5.out 3 (by decide) (by decide) (by decide)).mono ?_
  rintro e w6 ⟨rfl, v6, h6, _⟩
  have H6 := Lib.hid h6
  clear h6
  go_wp2_with fail
  refine (pop_later H6.out.1 4 (by decide) (by decide)).mono ?_
  rintro e w7 ⟨rfl, rfl⟩
  go_wp2_with fail
  refine (len_tiny H6.out (by decide)).mono ?_
  rintro e w8 ⟨rfl, hb8⟩
  go_wp2
  go_ret
  exact ⟨rfl, (H6.out.below hb8).2.1⟩
end Go.Proofs.Ytphblfgafljelaa.Hp
