/- The walk of distafflaw07.HeapPlays: true of all scripts. -/
import Derived.Test.YtphblfgafljelaaRhPop
import Derived.Test.YtphblfgafljelaaRhDrop
import Derived.Test.YtphblfgafljelaaRhSame
import Derived.Test.YtphblfgafljelaaHpWaitsWalk
import Derived.Test.YtphblfgafljelaaWithin
import Derived.Outline
import Derived.Deep.DeepCutAuto
import Derived.Deep.CutBlock
import Derived.Deep.RegionHeld3
namespace Go.Proofs.Ytphblfgafljelaa.Hp
open Go.RowKit

/-- An entry of a script. -/
structure Opr where
  act : Int
  hnd : Int
  dl : Int
  wh : Int

/-- A script that came in. -/
def Ops (w : World) (A : Option Addr) (n : Nat) (X : Nat → Opr) : Prop :=
  ∀ i, i < n → ∃ b off, A = some ⟨b, off, none⟩ ∧ b < w.heap.size ∧ w.cell? ⟨b, off + i * 4, none⟩ = some (.int .i64 (X i).act) ∧ w.cell? ⟨b, off + i * 4 + 1, none⟩ = some (.int .i64 (X i).hnd) ∧ w.cell? ⟨b, off + i * 4 + 2, none⟩ = some (.int .u64 (X i).dl) ∧ w.cell? ⟨b, off + i * 4 + 3, none⟩ = some (.int .u64 (X i).wh) ∧
    (-9223372036854775808 ≤ (X i).act ∧ (X i).act ≤ 9223372036854775807) ∧ (-9223372036854775808 ≤ (X i).hnd ∧ (X i).hnd ≤ 9223372036854775807) ∧ (0 ≤ (X i).dl ∧ (X i).dl ≤ 18446744073709551615) ∧ (0 ≤ (X i).wh ∧ (X i).wh ≤ 18446744073709551615)
theorem Ops.below {w w' : World} {A : Option Addr} {n : Nat} {X : Nat → Opr} (h : Ops w A n X) (hb : Below w.heap.size w w') : Ops w' A n X := by
  intro i hi
  obtain ⟨b, off, h1, h2, c0, c1, c2, c3, r⟩ := h i hi
  exact ⟨b, off, h1, Nat.lt_of_lt_of_le h2 hb.size, (hb.cell (p := ⟨b, _, none⟩) h2).trans c0, (hb.cell (p := ⟨b, _, none⟩) h2).trans c1, (hb.cell (p := ⟨b, _, none⟩) h2).trans c2, (hb.cell (p := ⟨b, _, none⟩) h2).trans c3, r⟩

/-- The heap and the document's hold the same things. -/
def PairAt (w0 : World) (hb mb B k : Nat) (v : Value) (S : List Thing) (last : Int) (N : Nat) (vr : Value) (w : World) : Prop :=
  Hp w0 w hb mb v S last N ∧ RHeap w B vr w0.heap.size S last ∧ w0.heap.size ≤ B ∧ last ≤ k ∧ S.length ≤ k ∧ N ≤ 1000 * k
def Pair (w0 : World) (hb mb B k : Nat) (w : World) : Prop := ∃ v S last N vr, PairAt w0 hb mb B k v S last N vr w

section
variable {w0 w w' w2 w3 : World} {hb mb B k : Nat} {v v2 : Value} {S S2 : List Thing} {last last2 : Int} {N N2 : Nat} {vr vr2 : Value}
theorem PairAt.below (h : PairAt w0 hb mb B k v S last N vr w) (hb' : Below w.heap.size w w') : PairAt w0 hb mb B k v S last N vr w' := ⟨h.1.below hb', h.2.1.below hb', h.2.2⟩
theorem PairAt.apart (h : PairAt w0 hb mb B k v S last N vr w) : ∀ i, i = B ∨ vr.ownBlock = some i → ¬ Of hb mb v i := by
  obtain ⟨l, f, hraw, _⟩ := h.1.1
  exact h.2.1.apart hraw
/-- Behind a step of the heap the document's lies as it lay. -/
theorem PairAt.ref (h : PairAt w0 hb mb B k v S last N vr w) (hk : Keeps (Of hb mb v) w w2) : RHeap w2 B vr w0.heap.size S last := h.2.1.keeps hk h.apart
/-- Behind a step of both. -/
theorem PairAt.both (h : PairAt w0 hb mb B k v S last N vr w) (hH : Hp w0 w2 hb mb v2 S2 last2 N2) (hR : RHeap w3 B vr2 w0.heap.size S2 last2) (hk : Keeps (Of hb mb v) w w2) (hk3 : Keeps (fun i => i = B) w2 w3) (hl : last2 ≤ (k : Int) + 1) (hS : S2.length ≤ k + 1) (hN : N2 ≤ 1000 * (k + 1)) : Pair w0 hb mb B (k + 1) w3 := by
  have hR2 := h.ref hk
  obtain ⟨l, f, hraw, _⟩ := hH.1
  have hap := hR2.apart hraw
  exact ⟨v2, S2, last2, N2, vr2, hH.step hk3 (fun i hi hx => hap i (Or.inl hx) hi) (fun i hx => by rw [hx]; exact h.2.2.1), hR, h.2.2.1, by omega, hS, by omega⟩
theorem PairAt.next (h : PairAt w0 hb mb B k v S last N vr w) : Pair w0 hb mb B (k + 1) w := ⟨v, S, last, N, vr, h.1, h.2.1, h.2.2.1, by have := h.2.2.2.1; omega, by have := h.2.2.2.2.1; omega, by have := h.2.2.2.2.2; omega⟩
theorem PairAt.fresh (h : PairAt w0 hb mb B k v S last N vr w) {i : Nat} (hi : w.heap.size ≤ i) : ¬ Of hb mb v i := fun ho => absurd (h.1.1.of_lt ho) (by omega)
end

set_option maxRecDepth 100000 in
set_option maxHeartbeats 8000000 in
theorem plays_law (A : Option Addr) (n c : Nat) (X : Nat → Opr) (most : Int) (w : World) (hn : n ≤ 9223372036854775807) (hX : Ops w A n X) (hm : -9223372036854775808 ≤ most ∧ most ≤ 9223372036854775807) :
    Calls Try.prog 5 #[.slice A n c, .int .i64 most] w fun e w' => e = .returned (.bool true) ∧ Below w.heap.size w w' := by
  have HXs := Lib.hid hX
  have HM := Lib.hid hm
  have hnI : (n : Int) ≤ 9223372036854775807 := by omega
  clear hX hm hn
  go_enter Try.func5, Try.ntmps5
  go_wp2_with fail
  refine (new_hp w _ (Below.refl _ _)).mono ?_
  rintro e w1 ⟨hb, mb, rfl, h1, _⟩
  obtain ⟨B, hB⟩ : ∃ B, B = w1.heap.size := ⟨_, rfl⟩
  have hstart : PairAt w hb mb B 0 (.slice none 0 0) [] 0 0 (.slice none 0 0) (w1.alloc (.cells #[.slice none 0 0, .int .i64 0] 41)) := by
    have hb1 : Below w1.heap.size w1 (w1.alloc (.cells #[.slice none 0 0, .int .i64 0] 41)) := (Below.refl _ _).alloc (Nat.le_refl _) _
    refine ⟨h1.below hb1, ⟨?_, World.ownsRow_nil _ _ _ _⟩, by rw [hB]; exact h1.le, by omega, by simp, by omega⟩
    have := heap_alloc_new w1 (.cells #[.slice none 0 0, .int .i64 0] 41)
    rw [hB]
    simpa using this
  have HSt : Hid (Pair w hb mb B 0 (w1.alloc (.cells #[.slice none 0 0, .int .i64 0] 41))) := Lib.hid ⟨_, _, _, _, _, hstart⟩
  clear h1 hstart
  go_wp2_with fail
  rw [← hB]
  clear hB
  go_loopw [7] (fun iv wr => ∃ k : Nat, k ≤ n ∧ k ≤ 100 ∧ iv = .int .i64 k ∧ Hid (Pair w hb mb B k wr)) (fun iv _ => 100 - (intOf iv).toNat)
  case atStart => exact ⟨0, by omega, by omega, rfl, HSt⟩
  case round =>
    obtain ⟨k, hk, hk100, rfl, HP⟩ := hrel
    have hkI : (k : Int) ≤ (n : Int) := by omega
    have hk100I : (k : Int) ≤ 100 := by omega
    by_cases hgo : k < n ∧ k < 100
    · obtain ⟨hgo1, hgo2⟩ := hgo
      have hgo1I : (k : Int) < (n : Int) := by omega
      have hgo2I : (k : Int) < 100 := by omega
      have t1 : decide (k < n) = true := by simpa using hgo1
      have t2 : decide ((k : Int) < 100) = true := by simpa using hgo2I
      obtain ⟨v, S, last, N, vr, hP⟩ := HP.out
      obtain ⟨b, off, rfl, hbl, c0, c1, c2, c3, ha, hh, hd, hw⟩ := (HXs.out.below hP.1.2.1) k hgo1
      generalize X k = x at c0 c1 c2 c3 ha hh hd hw
      obtain ⟨xa, xh, xd, xw⟩ := x
      dsimp only at c0 c1 c2 c3 ha hh hd hw
      obtain ⟨r, hr⟩ : ∃ r : Nat, xa % 5 = (r : Int) := by
        have := Int.emod_nonneg xa (show (5 : Int) ≠ 0 by omega)
        exact ⟨(xa % 5).toNat, by omega⟩
      have hr5 : r < 5 := by
        have := Int.emod_lt_of_pos xa (show (0 : Int) < 5 by omega)
        omega
      have hbel : Below wr.heap.size wr (wr.alloc (.cells #[.int .i64 xa, .int .i64 xh, .int .u64 xd, .int .u64 xw] 43)) := (Below.refl _ _).alloc (Nat.le_refl _) _
      have hW := within_any xa 5 (wr.alloc (.cells #[.int .i64 xa, .int .i64 xh, .int .u64 xd, .int .u64 xw] 43)) (by omega) (by omega) ha
      rw [hr] at hW
      have HW := Lib.hid hW
      have hP1 := hP.below hbel
      have HP1 := Lib.hid hP1
      have hfr := hP.fresh (i := wr.heap.size) (Nat.le_refl _)
      have HFr := Lib.hid hfr
      have HBl := Lib.hid hP.2.1.lt
      have HA : Hid (∀ w2, Keeps (Of hb mb v) (wr.alloc (.cells #[.int .i64 xa, .int .i64 xh, .int .u64 xd, .int .u64 xw] 43)) w2 → w2.cell? ⟨wr.heap.size, 1, none⟩ = some (.int .i64 xh) ∧ w2.cell? ⟨wr.heap.size, 2, none⟩ = some (.int .u64 xd) ∧ w2.cell? ⟨wr.heap.size, 3, none⟩ = some (.int .u64 xw)) := Lib.hid (fun w2 hk2 => by
        refine ⟨(hk2.cell (p := ⟨wr.heap.size, 1, none⟩) (by simp) hfr).trans (World.cell?_alloc_at _ _ _ _ rfl), (hk2.cell (p := ⟨wr.heap.size, 2, none⟩) (by simp) hfr).trans (World.cell?_alloc_at _ _ _ _ rfl), (hk2.cell (p := ⟨wr.heap.size, 3, none⟩) (by simp) hfr).trans (World.cell?_alloc_at _ _ _ _ rfl)⟩)
      clear hW hP hP1 hfr hr ha hbel
      go_upto_block 2 with (go_at_call 13; refine HW.out.mono ?_; rintro e w2 ⟨rfl, rfl⟩)
      go_cut [9, 10, 11, 12, 13, 14, 15, 16, 17, 18, 19, 20, 21, 22] (fun _ _ _ _ _ _ _ _ _ _ _ _ _ _ wx => Hid (Pair w hb mb B (k + 1) wx))
      case first =>
        obtain rfl | rfl | rfl | rfl | rfl : r = 2 ∨ r = 3 ∨ r = 4 ∨ r = 0 ∨ r = 1 := by omega
        · rw [show ((2 : Nat) : Int) = 2 from rfl]
          cases ho : ofH xh S with
          | none =>
            have HD := Lib.hid (drop_none HP1.out.1.1 xh hh ho)
            have HR := Lib.hid (rdrop_none HP1.out.2.1 xh ho (by have := HP1.out.2.2.2.2.1; omega))
            have HN := Lib.hid HP1.out.next
            clear ho
            go_wp2_with fail
            refine HD.out.mono ?_
            rintro e w2 ⟨rfl, rfl⟩
            go_wp2_with fail
            refine HR.out.mono ?_
            rintro e w2 ⟨rfl, rfl⟩
            go_wp2_with fail
            go_meet
            exact HN
          | some t =>
            have hSk := HP1.out.2.2.2.2.1
            have hNk := HP1.out.2.2.2.2.2
            have hlk := HP1.out.2.2.2.1
            have hwl := without_length HP1.out.1.1.apart ho
            have HD := Lib.hid (drop_hp HP1.out.1 xh hh ho (by omega) (by omega))
            have HR := Lib.hid (fun (w2 : World) (hr2 : RHeap w2 B vr w.heap.size S last) (hz : w.heap.size ≤ w2.heap.size) => rdrop_some hr2 hz xh HP1.out.1.1.apart ho (by omega))
            have HN : Hid (N + 3 * S.length + 4 ≤ 1000 * (k + 1) ∧ (without xh S).length ≤ k + 1 ∧ last ≤ (k : Int) + 1) := Lib.hid ⟨by omega, by omega, by omega⟩
            generalize t.w = tw at HD HR
            have HLe := Lib.hid HP1.out.1.le
            have hqq : (tw != tw) = false := by simp
            clear ho hSk hNk hlk hwl
            go_wp2_with fail
            refine HD.out.mono ?_
            rintro e w2 ⟨rfl, v2, h2, _, hk2⟩
            obtain ⟨y1, _, _⟩ := HA.out w2 hk2
            have HR2 := Lib.hid (HR.out w2 (HP1.out.ref hk2) (Nat.le_trans HLe.out hk2.size))
            have H2 := Lib.hid h2
            have HK2 := Lib.hid hk2
            clear h2 hk2
            go_wp2_with fail
            refine HR2.out.mono ?_
            rintro e w3 ⟨rfl, vr3, hr3, hk3⟩
            have HFin : Hid (Pair w hb mb B (k + 1) w3) := Lib.hid (HP1.out.both H2.out hr3 HK2.out hk3 HN.out.2.2 HN.out.2.1 HN.out.1)
            clear hr3 hk3
            go_wp2_with fail
            go_meet
            exact HFin
        · rw [show ((3 : Nat) : Int) = 3 from rfl]
          have hSk := HP1.out.2.2.2.2.1
          have HNx : Hid (∀ q, Pair w hb mb B (k + 1) ((wr.alloc (.cells #[.int .i64 xa, .int .i64 xh, .int .u64 xd, .int .u64 xw] 43)).drewN q)) := Lib.hid (fun q => (HP1.out.below (below_drewN (Below.refl _ _) q)).next)
          have HN0 := Lib.hid HP1.out.next
          cases S with
          | nil =>
            have HD := Lib.hid (first_nil HP1.out.1.1)
            have HR := Lib.hid (rfirst_nil HP1.out.2.1)
            go_wp2_with fail
            refine HD.out.mono ?_
            rintro e w2 ⟨rfl, rfl⟩
            go_wp2_with fail
            refine HR.out.mono ?_
            rintro e w2 ⟨rfl, rfl⟩
            go_wp2_with fail
            go_meet
            exact HN0
          | cons s S =>
            have HD := Lib.hid (first_cons HP1.out.1.1 (by simp at hSk; omega))
            have HR := Lib.hid (fun q => rfirst_cons (HP1.out.below (below_drewN (Below.refl _ _) q)).2.1 (by simp at hSk; omega))
            obtain ⟨sd, sw, sh⟩ := s
            dsimp only at HD HR
            have h0 : (sd != sd) = false := by simp
            have h1' : (sw != sw) = false := by simp
            clear hSk
            go_wp2_with fail
            refine HD.out.mono ?_
            rintro e w2 ⟨rfl, dn, rfl⟩
            go_wp2_with fail
            refine (HR.out dn).mono ?_
            rintro e w2 ⟨rfl, dn2, rfl⟩
            go_wp2_with fail
            go_meet
            first | exact HNx.out (dn + dn2) | (have := HNx.out (dn + dn2); rw [← World.drewN_drewN] at this; exact Lib.hid this) | exact Lib.hid (HNx.out (dn + dn2))
        · rw [show ((4 : Nat) : Int) = 4 from rfl]
          have hSk := HP1.out.2.2.2.2.1
          have hNk := HP1.out.2.2.2.2.2
          have hlk := HP1.out.2.2.2.1
          have HN0 := Lib.hid HP1.out.next
          have HLe := Lib.hid HP1.out.1.le
          cases S with
          | nil =>
            have HD := Lib.hid (pop_nil HP1.out.1.1 xd)
            have HR := Lib.hid (rpop_nil HP1.out.2.1 xd)
            clear hSk hNk hlk
            go_wp2_with fail
            refine HD.out.mono ?_
            rintro e w2 ⟨rfl, rfl⟩
            go_wp2_with fail
            refine HR.out.mono ?_
            rintro e w2 ⟨rfl, rfl⟩
            go_wp2_with fail
            go_meet
            exact HN0
          | cons s S =>
            have hl1 : (s :: S).length = S.length + 1 := rfl
            by_cases hle : s.d ≤ xd
            · have HD := Lib.hid (pop_hp HP1.out.1 xd (by omega) (by omega) hle)
              have HR := Lib.hid (fun (w2 : World) (hr2 : RHeap w2 B vr w.heap.size (s :: S) last) (hz : w.heap.size ≤ w2.heap.size) => rpop_now hr2 hz xd (by omega) hle)
              have HN : Hid (N + 3 * S.length + 7 ≤ 1000 * (k + 1) ∧ S.length ≤ k + 1 ∧ last ≤ (k : Int) + 1) := Lib.hid ⟨by omega, by omega, by omega⟩
              generalize s.w = tw at HD HR
              have hqq : (tw != tw) = false := by simp
              clear hSk hNk hlk hl1 hle
              go_wp2_with fail
              refine HD.out.mono ?_
              rintro e w2 ⟨rfl, v2, h2, _, hk2⟩
              obtain ⟨_, y1, _⟩ := HA.out w2 hk2
              have HR2 := Lib.hid (HR.out w2 (HP1.out.ref hk2) (Nat.le_trans HLe.out hk2.size))
              have H2 := Lib.hid h2
              have HK2 := Lib.hid hk2
              clear h2 hk2
              go_wp2_with fail
              refine HR2.out.mono ?_
              rintro e w3 ⟨rfl, vr3, hr3, hk3⟩
              have HFin : Hid (Pair w hb mb B (k + 1) w3) := Lib.hid (HP1.out.both H2.out hr3 HK2.out hk3 HN.out.2.2 HN.out.2.1 HN.out.1)
              clear hr3 hk3
              go_wp2_with fail
              go_meet
              exact HFin
            · have HD := Lib.hid (pop_later HP1.out.1.1 xd (by omega) (by omega))
              have HR := Lib.hid (rpop_later HP1.out.2.1 xd (by omega) (by omega))
              clear hSk hNk hlk hl1 hle
              go_wp2_with fail
              refine HD.out.mono ?_
              rintro e w2 ⟨rfl, rfl⟩
              go_wp2_with fail
              refine HR.out.mono ?_
              rintro e w2 ⟨rfl, rfl⟩
              go_wp2_with fail
              go_meet
              exact HN0
        · rw [show ((0 : Nat) : Int) = 0 from rfl]
          have hSk := HP1.out.2.2.2.2.1
          have hNk := HP1.out.2.2.2.2.2
          have hlk := HP1.out.2.2.2.1
          have hfi := HP1.out.1.1.fine
          have hlast := hfi.2.1
          have HLe := Lib.hid HP1.out.1.le
          have hbd : Below (wr.alloc (.cells #[.int .i64 xa, .int .i64 xh, .int .u64 xd, .int .u64 xw] 43)).heap.size (wr.alloc (.cells #[.int .i64 xa, .int .i64 xh, .int .u64 xd, .int .u64 xw] 43)) (wr.alloc (.cells #[.int .i64 xa, .int .i64 xh, .int .u64 xd, .int .u64 xw] 43)).drew := below_drewN (Below.refl _ _) 1
          have HPd := Lib.hid (HP1.out.below hbd)
          have HD := Lib.hid (put_hp HPd.out.1 xd xw (by omega) (by omega) (by omega) (by omega) (by omega))
          have HR := Lib.hid (fun (w2 : World) (hr2 : RHeap w2 B vr w.heap.size S last) (hz : w.heap.size ≤ w2.heap.size) => rput_any hr2 hz xd xw (by omega) (by omega))
          have HN : Hid (N + S.length + 3 ≤ 1000 * (k + 1) ∧ (ins ⟨xd, xw, last + 1⟩ S).length ≤ k + 1 ∧ last + 1 ≤ (k : Int) + 1) := Lib.hid ⟨by omega, by rw [ins_length]; omega, by omega⟩
          have HIns : Hid (ins ⟨xd, xw, last + 1⟩ S = S.take (cnt xd S) ++ ⟨xd, xw, last + 1⟩ :: S.drop (cnt xd S)) := Lib.hid (ins_cnt ⟨xd, xw, last + 1⟩ S (fun x hx => by have := (hfi.1 x hx).1.2; show x.h < last + 1; omega))
          have hqq : (last + 1 != last + 1) = false := by simp
          have z2 : (wr.alloc (.cells #[.int .i64 xa, .int .i64 xh, .int .u64 xd, .int .u64 xw] 43)).cell? ⟨wr.heap.size, 2, none⟩ = some (.int .u64 xd) := World.cell?_alloc_at _ _ _ _ rfl
          have z3 : (wr.alloc (.cells #[.int .i64 xa, .int .i64 xh, .int .u64 xd, .int .u64 xw] 43)).cell? ⟨wr.heap.size, 3, none⟩ = some (.int .u64 xw) := World.cell?_alloc_at _ _ _ _ rfl
          clear hSk hNk hlk hfi hbd hlast
          go_wp2_with fail
          go_region_held3 (fun w' => w'.cell? ⟨wr.heap.size, 2, none⟩ = some (.int .u64 xd) ∧ w'.cell? ⟨wr.heap.size, 3, none⟩ = some (.int .u64 xw)) (first | exact ⟨y2, y3⟩ | exact ⟨z2, z3⟩ | go_keep)
            (first | (go_at_call 10; refine HD.out.mono ?_; rintro e w2 ⟨rfl, v2, h2, hk2, _⟩; have yy := HA.out w2 ((Keeps.refl _ _).drew.trans hk2 (fun _ h => Or.inl h)); have y2 := yy.2.1; have y3 := yy.2.2; have H2 := Lib.hid h2; have HK2 := Lib.hid hk2; have HR2 := Lib.hid (HR.out w2 (HPd.out.ref hk2) (Nat.le_trans HLe.out hk2.size)); clear h2 hk2 yy) | (go_at_call 19; refine HR2.out.mono ?_; rintro e w3 ⟨rfl, vr3, hr3, hk3⟩; have hz2 : wr.heap.size + 1 ≤ w2.heap.size := (by simpa using HK2.out.size); have y2 := (hk3.cell (p := ⟨wr.heap.size, 2, none⟩) hz2 (Nat.ne_of_gt HBl.out)).trans y2; have y3 := (hk3.cell (p := ⟨wr.heap.size, 3, none⟩) hz2 (Nat.ne_of_gt HBl.out)).trans y3))
          have hr3' : RHeap w3 B vr3 w.heap.size (ins ⟨xd, xw, last + 1⟩ S) (last + 1) := by rw [HIns.out]; exact hr3
          have HFin : Hid (Pair w hb mb B (k + 1) w3) := Lib.hid (HPd.out.both H2.out hr3' HK2.out hk3 HN.out.2.2 HN.out.2.1 HN.out.1)
          clear hr3 hr3' hk3
          go_wp2_with fail
          go_meet
          exact HFin
        · rw [show ((1 : Nat) : Int) = 1 from rfl]
          have hSk := HP1.out.2.2.2.2.1
          have hNk := HP1.out.2.2.2.2.2
          have hlk := HP1.out.2.2.2.1
          have hfi := HP1.out.1.1.fine
          have hlast := hfi.2.1
          have HLe := Lib.hid HP1.out.1.le
          have hbd : Below (wr.alloc (.cells #[.int .i64 xa, .int .i64 xh, .int .u64 xd, .int .u64 xw] 43)).heap.size (wr.alloc (.cells #[.int .i64 xa, .int .i64 xh, .int .u64 xd, .int .u64 xw] 43)) (wr.alloc (.cells #[.int .i64 xa, .int .i64 xh, .int .u64 xd, .int .u64 xw] 43)).drew := below_drewN (Below.refl _ _) 1
          have HPd := Lib.hid (HP1.out.below hbd)
          have HD := Lib.hid (put_hp HPd.out.1 xd xw (by omega) (by omega) (by omega) (by omega) (by omega))
          have HR := Lib.hid (fun (w2 : World) (hr2 : RHeap w2 B vr w.heap.size S last) (hz : w.heap.size ≤ w2.heap.size) => rput_any hr2 hz xd xw (by omega) (by omega))
          have HN : Hid (N + S.length + 3 ≤ 1000 * (k + 1) ∧ (ins ⟨xd, xw, last + 1⟩ S).length ≤ k + 1 ∧ last + 1 ≤ (k : Int) + 1) := Lib.hid ⟨by omega, by rw [ins_length]; omega, by omega⟩
          have HIns : Hid (ins ⟨xd, xw, last + 1⟩ S = S.take (cnt xd S) ++ ⟨xd, xw, last + 1⟩ :: S.drop (cnt xd S)) := Lib.hid (ins_cnt ⟨xd, xw, last + 1⟩ S (fun x hx => by have := (hfi.1 x hx).1.2; show x.h < last + 1; omega))
          have hqq : (last + 1 != last + 1) = false := by simp
          have z2 : (wr.alloc (.cells #[.int .i64 xa, .int .i64 xh, .int .u64 xd, .int .u64 xw] 43)).cell? ⟨wr.heap.size, 2, none⟩ = some (.int .u64 xd) := World.cell?_alloc_at _ _ _ _ rfl
          have z3 : (wr.alloc (.cells #[.int .i64 xa, .int .i64 xh, .int .u64 xd, .int .u64 xw] 43)).cell? ⟨wr.heap.size, 3, none⟩ = some (.int .u64 xw) := World.cell?_alloc_at _ _ _ _ rfl
          clear hSk hNk hlk hfi hbd hlast
          go_wp2_with fail
          go_region_held3 (fun w' => w'.cell? ⟨wr.heap.size, 2, none⟩ = some (.int .u64 xd) ∧ w'.cell? ⟨wr.heap.size, 3, none⟩ = some (.int .u64 xw)) (first | exact ⟨y2, y3⟩ | exact ⟨z2, z3⟩ | go_keep)
            (first | (go_at_call 10; refine HD.out.mono ?_; rintro e w2 ⟨rfl, v2, h2, hk2, _⟩; have yy := HA.out w2 ((Keeps.refl _ _).drew.trans hk2 (fun _ h => Or.inl h)); have y2 := yy.2.1; have y3 := yy.2.2; have H2 := Lib.hid h2; have HK2 := Lib.hid hk2; have HR2 := Lib.hid (HR.out w2 (HPd.out.ref hk2) (Nat.le_trans HLe.out hk2.size)); clear h2 hk2 yy) | (go_at_call 19; refine HR2.out.mono ?_; rintro e w3 ⟨rfl, vr3, hr3, hk3⟩; have hz2 : wr.heap.size + 1 ≤ w2.heap.size := (by simpa using HK2.out.size); have y2 := (hk3.cell (p := ⟨wr.heap.size, 2, none⟩) hz2 (Nat.ne_of_gt HBl.out)).trans y2; have y3 := (hk3.cell (p := ⟨wr.heap.size, 3, none⟩) hz2 (Nat.ne_of_gt HBl.out)).trans y3))
          have hr3' : RHeap w3 B vr3 w.heap.size (ins ⟨xd, xw, last + 1⟩ S) (last + 1) := by rw [HIns.out]; exact hr3
          have HFin : Hid (Pair w hb mb B (k + 1) w3) := Lib.hid (HPd.out.both H2.out hr3' HK2.out hk3 HN.out.2.2 HN.out.2.1 HN.out.1)
          clear hr3 hr3' hk3
          go_wp2_with fail
          go_meet
          exact HFin
      case rest =>
        obtain ⟨v, S, last, N, vr, hP⟩ := hcut.out
        have hP2 := hP.below (below_drewN (Below.refl _ _) 1)
        have HL := Lib.hid (len_hp hP2.1 (by have := hP2.2.2.2.2.1; omega))
        have HB2 := Lib.hid hP2
        obtain ⟨m, hm⟩ : ∃ m, m = S.length := ⟨_, rfl⟩
        obtain ⟨AR, cR, hvr⟩ := own_shape hP2.2.1.row
        have o0 : wc.drew.cell? ⟨B, 0, none⟩ = some vr := hP2.2.1.cell.1
        rw [hvr, ← hm] at o0
        rw [← hm] at HL
        have hmm : ((m : Int) != (m : Int)) = false := by simp
        have HKeep : Hid (∀ w2, Below wc.drew.heap.size wc.drew w2 → w2.cell? ⟨B, 0, none⟩ = some (.slice AR m cR)) := Lib.hid (fun w2 h2 => (h2.cell (p := ⟨B, 0, none⟩) hP2.2.1.lt).trans o0)
        clear hP hP2 hm hvr
        go_wp2_with fail
        go_region_held3 (fun w' => w'.cell? ⟨B, 0, none⟩ = some (.slice AR m cR)) (first | exact z0 | exact o0 | go_keep)
          ((go_at_call 12; refine HL.out.mono ?_; rintro e w2 ⟨rfl, hb2⟩; have z0 := HKeep.out w2 hb2))
        have HFin : Hid (Pair w hb mb B (k + 1) w2) := Lib.hid ⟨v, S, last, N, vr, HB2.out.1.below hb2, HB2.out.2.1.below hb2, HB2.out.2.2⟩
        clear hb2
        go_wp2
        go_roundw
        case rel => exact ⟨k + 1, by omega, by omega, by go_num, HFin⟩
        case measure => simp [intOf]; omega
    · have hex : decide (k < n) = false ∨ (decide (k < n) = true ∧ decide ((k : Int) < 100) = false) := by
        by_cases h1 : k < n
        · right; exact ⟨by simpa using h1, by simp; omega⟩
        · left; simpa using h1
      obtain ⟨v, S, last, N, vr, hP⟩ := HP.out
      have hS : S.length ≤ 100 := by have := hP.2.2.2.2.1; omega
      obtain ⟨m, hmS⟩ : ∃ m, m = S.length := ⟨_, rfl⟩
      obtain ⟨r, hr⟩ : ∃ r : Nat, most % 30 = (r : Int) := by
        have := Int.emod_nonneg most (show (30 : Int) ≠ 0 by omega)
        exact ⟨(most % 30).toNat, by omega⟩
      have hr30 : (r : Int) < 30 := by
        have := Int.emod_lt_of_pos most (show (0 : Int) < 30 by omega)
        omega
      have hA1 := all_heap hP.1.1 1000 (by omega) (by omega)
      rw [show S.take (1000 : Int).toNat = S from List.take_of_length_le (by show S.length ≤ 1000; omega), ← hmS] at hA1
      have HA1 := Lib.hid hA1
      have HA2 := Lib.hid (fun (w2 : World) (h2 : Below wr.heap.size wr w2) => all_heap (hP.below h2).1.1 (1 + (r : Int)) (by omega) (by omega))
      have HWi := Lib.hid (fun (w2 : World) => by have := within_any most 30 w2 (by omega) (by omega) HM.out; rw [hr] at this; exact this)
      have HPP := Lib.hid hP
      have hmI : (m : Int) ≤ 100 := by omega
      have HMS := Lib.hid hmS
      clear hP hS hA1 hr hmS hgo
      rcases hex with t1 | ⟨t1, t2⟩
      all_goals
        go_wp2_with fail
        refine HA1.out.mono ?_
        rintro e w2 ⟨u1, rfl, hrow1, hb1⟩
        have HA3 := Lib.hid (HA2.out w2 hb1)
        have HB1 := Lib.hid hb1
        obtain ⟨A1, c1', rfl⟩ := own_shape hrow1
        have HR1 := Lib.hid hrow1
        clear hb1 hrow1
        go_wp2_with fail
        refine (HWi.out _).mono ?_
        rintro e w3 ⟨rfl, rfl⟩
        go_wp2_with fail
        refine HA3.out.mono ?_
        rintro e w3 ⟨u2, rfl, hrow2, hb2⟩
        obtain ⟨A2, c2', rfl⟩ := own_shape hrow2
        have hTl : (S.take (1 + (r : Int)).toNat).length = min (1 + r) m := by rw [List.length_take, HMS.out]; omega
        have HR2 := Lib.hid hrow2
        have HB2 := Lib.hid hb2
        clear hb2 hrow2
        generalize hp : (S.take (1 + (r : Int)).toNat).length = p at HR2 hTl
        have HPl := Lib.hid hp
        have hpI : (p : Int) ≤ (m : Int) := by omega
        have HTl := Lib.hid hTl
        clear hp hTl
        have hmin : ((p : Int) != min (1 + (r : Int)) (m : Int)) = false := by
          have := HTl.out
          rw [bne_eq_false_iff_eq]
          omega
        have hcells : ∀ j, j < p → ∃ g1 g2, A1 = some ⟨g1, 0, none⟩ ∧ A2 = some ⟨g2, 0, none⟩ ∧ w3.cell? ⟨g1, j * 2, none⟩ = some (.int .u64 (at_ S j).d) ∧ w3.cell? ⟨g1, j * 2 + 1, none⟩ = some (.int .u64 (at_ S j).w) ∧ w3.cell? ⟨g2, j * 2, none⟩ = some (.int .u64 (at_ S j).d) ∧ w3.cell? ⟨g2, j * 2 + 1, none⟩ = some (.int .u64 (at_ S j).w) := by
          intro j hj
          have hjm : j < S.length := by rw [← HMS.out]; omega
          have hjp : j < (S.take (1 + (r : Int)).toNat).length := by rw [HPl.out]; exact hj
          obtain ⟨p0, p1⟩ := plist_at hjm
          obtain ⟨q0, q1⟩ := plist_at hjp
          have eat : at_ (S.take (1 + (r : Int)).toNat) j = at_ S j := by
            rw [at_getElem hjp, at_getElem hjm, List.getElem_take]
          rw [eat] at q0 q1
          have h1 := HR1.out
          have h2 := HR2.out
          rcases h1.2 with ⟨_, h0⟩ | ⟨g1, _, _, e1, _⟩
          · omega
          rcases h2.2 with ⟨_, h0⟩ | ⟨g2, _, _, e2, _⟩
          · omega
          cases e1
          cases e2
          have hb1 := (h1.lt g1 rfl).2
          exact ⟨g1, g2, rfl, rfl, (HB2.out.cell (p := ⟨g1, _, none⟩) hb1).trans ((h1.cellAt _ (by omega)).trans p0), (HB2.out.cell (p := ⟨g1, _, none⟩) hb1).trans ((h1.cellAt _ (by omega)).trans p1), (h2.cellAt _ (by omega)).trans q0, (h2.cellAt _ (by omega)).trans q1⟩
        have HC := Lib.hid hcells
        have hp0 : (p : Int) ≤ 100 := by omega
        have hpm : p ≤ m := by omega
        clear hcells
        go_wp2_with fail
        go_loopw [26] (fun iv wz => ∃ j : Nat, j ≤ p ∧ iv = .int .i64 j ∧ ∃ q, wz = w3.drewN q) (fun iv _ => p - (intOf iv).toNat)
        case atStart => exact ⟨0, by omega, rfl, 0, rfl⟩
        case round =>
          obtain ⟨j, hj, rfl, q, rfl⟩ := hrel
          have hjI : (j : Int) ≤ (p : Int) := by omega
          by_cases hlt : j < p
          · have hltI : (j : Int) < (p : Int) := by omega
            have hltM : (j : Int) < (m : Int) := by omega
            have hj0 : (0 : Int) ≤ (j : Int) := by omega
            obtain ⟨g1, g2, rfl, rfl, d0, d1, d2, d3⟩ := HC.out j hlt
            generalize (at_ S j).d = x at d0 d2
            generalize (at_ S j).w = y at d1 d3
            go_wp2
            go_quiet (fail)
            go_wp2
            go_roundw
            case rel => exact ⟨j + 1, by omega, by go_num, _, rfl⟩
            case measure => simp [intOf]; omega
          · obtain rfl : j = p := by omega
            have hbq : Below wr.heap.size wr (w3.drewN q) := below_drewN (HB1.out.trans (HB2.out.mono HB1.out.size)) q
            have hPq := HPP.out.below hbq
            have hrowq : (w3.drewN q).ownsRow wr.heap.size 49 2 (.slice A1 m c1') S.length (plist S) := by
              rw [← HMS.out]
              exact ownsRow_of_block HR1.out fun k hk => (below_drewN HB2.out q).block k (HR1.out.lt k hk).2
            have HSm := Lib.hid (same_true hrowq hPq.2.1 (by have := HMS.out; omega))
            have HPq := Lib.hid hPq.1
            clear hrowq hPq hbq
            go_wp2_with fail
            refine HSm.out.mono ?_
            rintro e w4 ⟨rfl, hb4⟩
            go_wp2_with fail
            refine (awake_true _).mono ?_
            rintro e w5 ⟨rfl, hb5⟩
            go_wp2
            go_ret
            exact ⟨rfl, ((HPq.out.below hb4).below hb5).2.1⟩
end Go.Proofs.Ytphblfgafljelaa.Hp
