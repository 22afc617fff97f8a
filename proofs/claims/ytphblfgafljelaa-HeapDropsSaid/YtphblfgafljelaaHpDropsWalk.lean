/- The walk of distafflaw07.HeapDrops: true of all deadlines and drops. -/
import Derived.Test.YtphblfgafljelaaHpSortsWalk
import Derived.Test.YtphblfgafljelaaHpGone
import Derived.Test.YtphblfgafljelaaWithin
import Derived.Deep.LoopGhost
namespace Go.Proofs.Ytphblfgafljelaa.Hp
open Go.RowKit

/-- Some are gone, and marked. -/
def GoneIn (w0 : World) (hb mb : Nat) (v0 : Value) (sb n : Nat) (D : Nat → Int) (gone : Nat → Bool) (M : Nat) (w : World) : Prop :=
  (∃ v N, Hp w0 w hb mb v (left D n gone) n N ∧ N ≤ M ∧ v.ownBlock = v0.ownBlock) ∧ w.rowIs sb 4 n (fun j => .bool (gone j))

theorem GoneIn.mark {w0 w w' : World} {hb mb : Nat} {v0 v v' : Value} {sb n : Nat} {D : Nat → Int} {gone : Nat → Bool} {M N : Nat} {S : List Thing} (hrow : w.rowIs sb 4 n (fun j => .bool (gone j))) (hsb : ¬ Of hb mb v0 sb) (hv : v.ownBlock = v0.ownBlock)
    (h2 : Hp w0 w' hb mb v' S n N) (hS : ∀ j, S = left D n (setG gone j) → N ≤ M) (hv2 : v'.ownBlock = v.ownBlock) (hk : Keeps (Of hb mb v) w w') (hsl : w0.heap.size ≤ sb) (j : Nat) (hj : S = left D n (setG gone j)) :
    w'.rowIs sb 4 n (fun j => .bool (gone j)) ∧ GoneIn w0 hb mb v0 sb n D (setG gone j) M (w'.setCell ⟨sb, j, none⟩ (.bool true)) := by
  have hlt : sb < w.heap.size := by obtain ⟨c, hc, _⟩ := hrow; exact (Array.getElem?_eq_some_iff.1 hc).1
  have hr : w'.rowIs sb 4 n (fun j => .bool (gone j)) := rowIs_of_block hrow (hk.block _ hlt (fun ho => hsb ((of_same hv _).1 ho)))
  refine ⟨hr, ⟨v', N, ?_, hS j hj, hv2.trans hv⟩, ?_⟩
  · rw [← hj]
    refine Hp.step h2 ((Keeps.refl (fun x => x = sb) w').setCell (p := ⟨sb, j, none⟩) rfl (.bool true)) (fun x hx e => hsb ?_) (fun x hx => by rw [hx]; exact hsl)
    rw [← e]
    exact (of_same (hv2.trans hv) x).1 hx
  · refine (hr.set j (.bool true)).congr fun x hx => ?_
    unfold setG
    by_cases e : x = j
    · rw [if_pos e, if_pos e]
    · rw [if_neg e, if_neg e]

set_option maxRecDepth 100000 in
set_option maxHeartbeats 8000000 in
theorem drops_law (A : Option Addr) (n c : Nat) (D : Nat → Int) (A' : Option Addr) (m c' : Nat) (E : Nat → Int) (w : World) (hn : n ≤ 9223372036854775807) (hm : m ≤ 9223372036854775807) (hD : Nums .u64 w A n D) (hE : Nums .i64 w A' m E) :
    Calls Try.prog 4 #[.slice A n c, .slice A' m c'] w fun e w' => e = .returned (.bool true) ∧ Below w.heap.size w w' := by
  have HDs := Lib.hid hD
  have HEs := Lib.hid hE
  clear hD hE
  have hnI : (n : Int) ≤ 9223372036854775807 := by omega
  have hmI : (m : Int) ≤ 9223372036854775807 := by omega
  by_cases hbig : 100 < n
  · have hd : decide ((100 : Int) < (n : Int)) = true := by simp; omega
    clear hbig hn hm
    go_enter Try.func4, Try.ntmps4
    go_wp2_with fail
    refine (new_hp w _ (Below.refl _ _)).mono ?_
    rintro e w1 ⟨hb, mb, rfl, h1, _⟩
    have H1 := Lib.hid h1
    clear h1
    go_wp2_with fail
    refine (awake_true _).mono ?_
    rintro e w2 ⟨rfl, hb2⟩
    go_wp2
    go_ret
    exact ⟨rfl, (H1.out.below hb2).2.1⟩
  · have hd : decide ((100 : Int) < (n : Int)) = false := by simp; omega
    have hn3 : (n : Int) ≤ 100 := by omega
    have HBig := Lib.hid hbig
    have hmk := run_make_row' (P := Try.prog) 28 4 (.bool false) 1 Try.underlying28 infoBool rfl .i64 .i64 n (by omega) (by omega)
    have HMk := Lib.hid hmk
    clear hbig hn hm hmk
    go_enter Try.func4, Try.ntmps4
    go_wp2_with fail
    refine (new_hp w _ (Below.refl _ _)).mono ?_
    rintro e w1 ⟨hb, mb, rfl, h1, _⟩
    have H1 := Lib.hid h1
    clear h1
    go_wp2_with fail
    go_loopw [6] (fun i wr => ∃ k : Nat, k ≤ n ∧ i = .int .i64 k ∧ Hid (PutIn w hb mb D k wr)) (fun i _ => n - (intOf i).toNat)
    case atStart => exact ⟨0, by omega, rfl, Lib.hid ⟨_, _, H1.out, by omega⟩⟩
    case round =>
      obtain ⟨k, hk, rfl, HP⟩ := hrel
      have hkI : (k : Int) ≤ (n : Int) := by omega
      by_cases hlt : k < n
      · have hltI : (k : Int) < (n : Int) := by omega
        obtain ⟨v, N, hh, hN⟩ := HP.out
        obtain ⟨b, off, rfl, hbl, hc, hwf⟩ := (HDs.out.below hh.2.1) k hlt
        have hbd := bounds_u64 hwf
        have HPut := Lib.hid (put_hp hh (D k) k ⟨hbd.1, by omega⟩ (by omega) (by rw [build_length]; omega) (by omega) (by omega))
        have HNb := Lib.hid hN
        obtain ⟨dk, hdk⟩ : ∃ dk, dk = D k := ⟨_, rfl⟩
        rw [← hdk] at hc hbd HPut
        have HDk := Lib.hid hdk
        clear hh hN hwf hdk
        go_wp2_with fail
        refine HPut.out.mono ?_
        rintro e w2 ⟨rfl, v2, h2, _⟩
        have H2 : Hid (PutIn w hb mb D (k + 1) w2) := Lib.hid (by
          rw [HDk.out] at h2
          refine ⟨v2, _, h2, ?_⟩
          have := HNb.out
          rw [build_length]
          omega)
        clear h2
        go_wp2
        go_roundw
        case rel => exact ⟨k + 1, by omega, by go_num, H2⟩
        case measure => simp [intOf]; omega
      · obtain rfl : k = n := by omega
        obtain ⟨ws, rfl⟩ : ∃ ws : World, ws = wr := ⟨_, rfl⟩
        obtain ⟨v0, N0, hh, hN0⟩ := HP.out
        have hsb : ¬ Of hb mb v0 ws.heap.size := fun ho => absurd (hh.1.of_lt ho) (by omega)
        have hle0 := hh.le
        have hrow0 := World.rowIs_made ws (.bool false) k 4
        have hstart : GoneIn w hb mb v0 ws.heap.size k D (fun _ => false) 1000000 (ws.alloc (.cells (madeCells #[.bool false] k) 4)) :=
          ⟨⟨v0, N0, by rw [left_none]; exact hh.below ((Below.refl _ ws).alloc (Nat.le_refl _) _), by have := HBig.out; omega, rfl⟩, hrow0⟩
        have HSt := Lib.hid hstart
        have HSb := Lib.hid hsb
        have HLe := Lib.hid hle0
        have hmk := HMk.out ws
        clear hh hN0 hstart hsb hle0 hrow0
        go_wp2_with fail
        clear hmk
        go_loopw [8] (fun iv wr => ∃ (i : Nat) (gone : Nat → Bool), i ≤ m ∧ i ≤ 100 ∧ iv = .int .i64 i ∧ Hid (GoneIn w hb mb v0 ws.heap.size k D gone (1000000 + 10000 * i) wr)) (fun iv _ => 100 - (intOf iv).toNat)
        case atStart => exact ⟨0, _, by omega, by omega, rfl, HSt⟩
        case round =>
          obtain ⟨i, gone, him, hi100, rfl, HG⟩ := hrel
          have himI : (i : Int) ≤ (m : Int) := by omega
          have hi100I : (i : Int) ≤ 100 := by omega
          by_cases hgo : i < m ∧ i < 100
          · obtain ⟨hgo1, hgo2⟩ := hgo
            have hgo1I : (i : Int) < (m : Int) := by omega
            have hgo2I : (i : Int) < 100 := by omega
            have e1 : decide (i < m) = true := by simpa using hgo1
            have e2 : decide ((i : Int) < 100) = true := by simpa using hgo2I
            obtain ⟨⟨v, N, hh, hN, hv⟩, hrow⟩ := HG.out
            obtain ⟨b, off, rfl, hbl, hcE, hwE⟩ := (HEs.out.below hh.2.1) i hgo1
            have hEb := bounds_i64 hwE
            obtain ⟨r, hr⟩ : ∃ r : Nat, E i % ((k : Int) + 2) = (r : Int) := by
              have := Int.emod_nonneg (E i) (show (k : Int) + 2 ≠ 0 by omega)
              exact ⟨(E i % ((k : Int) + 2)).toNat, by omega⟩
            have hr2 : r < k + 2 := by
              have := Int.emod_lt_of_pos (E i) (show 0 < (k : Int) + 2 by omega)
              omega
            have hWi := within_any (E i) ((k : Int) + 2) wr (by omega) (by omega) hEb
            rw [hr] at hWi
            obtain ⟨ei, hei⟩ : ∃ ei, ei = E i := ⟨_, rfl⟩
            rw [← hei] at hcE hEb hWi
            have HW := Lib.hid hWi
            have HH := Lib.hid hh
            have HNb := Lib.hid hN
            have HV := Lib.hid hv
            have HRow := Lib.hid hrow
            clear hWi hh hN hv hrow hwE hei hr
            rcases Nat.eq_zero_or_pos r with hr0 | hr0
            · subst hr0
              rw [show ((0 : Nat) : Int) = 0 from rfl] at HW
              have HD := Lib.hid (drop_none HH.out.1 0 (by omega) (ofH_left_none fun j _ e => by omega))
              go_wp2_with fail
              refine HW.out.mono ?_
              rintro e w2 ⟨rfl, rfl⟩
              go_wp2_with fail
              refine HD.out.mono ?_
              rintro e w2 ⟨rfl, rfl⟩
              go_wp2
              go_roundw
              case rel => exact ⟨i + 1, gone, by omega, by omega, by go_num, Lib.hid ⟨⟨v, N, HH.out, by have := HNb.out; omega, HV.out⟩, HRow.out⟩⟩
              case measure => simp [intOf]; omega
            · obtain ⟨j, rfl⟩ : ∃ j, r = j + 1 := ⟨r - 1, by omega⟩
              rw [show ((j + 1 : Nat) : Int) = (j : Int) + 1 from by omega] at HW
              have hj0 : (0 : Int) ≤ (j : Int) := by omega
              have hjk : (j : Int) ≤ (k : Int) := by omega
              by_cases hjl : j < k
              · have hjlI : (j : Int) < (k : Int) := by omega
                have f1 : decide (j < k) = true := by simpa using hjl
                have hcell : wr.cell? ⟨ws.heap.size, j, none⟩ = some (.bool (gone j)) := HRow.out.cell hjl
                have hzs : ws.heap.size < wr.heap.size := by obtain ⟨c, hc, _⟩ := HRow.out; exact (Array.getElem?_eq_some_iff.1 hc).1
                cases hg : gone j with
                | true =>
                  rw [hg] at hcell
                  have HD := Lib.hid (drop_none HH.out.1 ((j : Int) + 1) (by omega) (ofH_left_none fun j' _ e => by rw [show j' = j by omega]; exact hg))
                  have HGj := Lib.hid hg
                  clear hg
                  go_wp2_with fail
                  refine HW.out.mono ?_
                  rintro e w2 ⟨rfl, rfl⟩
                  go_wp2_with fail
                  refine HD.out.mono ?_
                  rintro e w2 ⟨rfl, rfl⟩
                  go_wp2
                  go_roundw
                  case rel => exact ⟨i + 1, gone, by omega, by omega, by go_num, Lib.hid ⟨⟨v, N, HH.out, by have := HNb.out; omega, HV.out⟩, HRow.out⟩⟩
                  case measure => simp [intOf]; omega
                | false =>
                  have HD := Lib.hid (drop_hp HH.out ((j : Int) + 1) (by omega) (ofH_left hjl hg) (by have := left_length D k gone; omega) (by have := HNb.out; omega))
                  rw [show (th D j).w = (j : Int) from rfl] at HD
                  have HGj := Lib.hid hg
                  clear hg hcell
                  go_wp2_with fail
                  refine HW.out.mono ?_
                  rintro e w2 ⟨rfl, rfl⟩
                  go_wp2_with fail
                  refine HD.out.mono ?_
                  rintro e w2 ⟨rfl, v2, h2, hv2, hk2⟩
                  have hMk := GoneIn.mark (M := 1000000 + 10000 * (i + 1)) HRow.out HSb.out HV.out h2 (fun _ _ => by have := HNb.out; have := left_length D k gone; omega) hv2 hk2 HLe.out j (without_left j)
                  obtain ⟨hrow2, hmk2⟩ := hMk
                  have hcell : w2.cell? ⟨ws.heap.size, j, none⟩ = some (.bool false) := by
                    have := hrow2.cell hjl
                    rwa [HGj.out] at this
                  have hfro := hrow2.frozen j
                  have HMk2 := Lib.hid hmk2
                  clear h2 hv2 hk2 hrow2 hmk2
                  go_wp2
                  go_roundw
                  case rel => exact ⟨i + 1, setG gone j, by omega, by omega, by go_num, HMk2⟩
                  case measure => simp [intOf]; omega
              · obtain rfl : j = k := by omega
                have f1 : decide (j < j) = false := by simp
                have HD := Lib.hid (drop_none HH.out.1 ((j : Int) + 1) (by omega) (ofH_left_none fun j' hj' e => by omega))
                go_wp2_with fail
                refine HW.out.mono ?_
                rintro e w2 ⟨rfl, rfl⟩
                go_wp2_with fail
                refine HD.out.mono ?_
                rintro e w2 ⟨rfl, rfl⟩
                go_wp2
                go_roundw
                case rel => exact ⟨i + 1, gone, by omega, by omega, by go_num, Lib.hid ⟨⟨v, N, HH.out, by have := HNb.out; omega, HV.out⟩, HRow.out⟩⟩
                case measure => simp [intOf]; omega
          · have hex : decide (i < m) = false ∨ (decide (i < m) = true ∧ decide ((i : Int) < 100) = false) := by
              by_cases h1 : i < m
              · right; exact ⟨by simpa using h1, by simp; omega⟩
              · left; simpa using h1
            have HG2 : Hid (GoneIn w hb mb v0 ws.heap.size k D gone 2000000 wr) := Lib.hid (by
              obtain ⟨⟨v, N, hh, hN, hv⟩, hrow⟩ := HG.out
              exact ⟨⟨v, N, hh, by omega, hv⟩, hrow⟩)
            have hsz0 : w.heap.size ≤ wr.heap.size := by
              obtain ⟨⟨v, N, hh, hN, hv⟩, hrow⟩ := HG.out
              exact hh.le
            clear hgo
            rcases hex with e1 | ⟨e1, e2⟩
            all_goals
              go_wp2_with fail
              go_loopg [13] (left D k gone).length (fun g cv wq => ∃ (gone : Nat → Bool) (cnt : Nat), g = (left D k gone).length ∧ cv = .int .i64 cnt ∧ cnt + (left D k gone).length ≤ k ∧ Hid (GoneIn w hb mb v0 ws.heap.size k D gone (2000000 + 10000 * cnt) wq))
              case atStart => exact ⟨gone, 0, rfl, rfl, by have := left_length D k gone; omega, HG2⟩
              case round =>
                obtain ⟨gone3, cnt, rfl, rfl, hcnt, HG3⟩ := hrel
                obtain ⟨⟨v, N, hh, hN, hv⟩, hrow⟩ := HG3.out
                obtain ⟨L, hL⟩ : ∃ L, L = left D k gone3 := ⟨_, rfl⟩
                rw [← hL] at hh hcnt
                have HL := Lib.hid hL
                clear hL
                cases L with
                | nil =>
                  have HH := Lib.hid hh
                  have HRow := Lib.hid hrow
                  clear hh hN hv hrow
                  go_wp2_with fail
                  refine (pop_nil HH.out.1 18446744073709551615).mono ?_
                  rintro e w2 ⟨rfl, rfl⟩
                  go_wp2_with fail
                  go_loopw [16] (fun iv wz => ∃ x : Nat, x ≤ k ∧ iv = .int .i64 x ∧ wz = wr) (fun iv _ => k - (intOf iv).toNat)
                  case atStart => exact ⟨0, by omega, rfl, rfl⟩
                  case round =>
                    obtain ⟨x, hx, rfl, rfl⟩ := hrel
                    by_cases hxl : x < k
                    · have hc := HRow.out.cell hxl
                      rw [left_all HL.out.symm hxl] at hc
                      have hxI : (x : Int) < (k : Int) := by omega
                      go_wp2
                      go_roundw
                      case rel => exact ⟨x + 1, by omega, by go_num, by first | rfl | trivial⟩
                      case measure => simp [intOf]; omega
                    · obtain rfl : x = k := by omega
                      go_wp2_with fail
                      refine (awake_true _).mono ?_
                      rintro e w4 ⟨rfl, hb4⟩
                      go_wp2
                      go_ret
                      exact ⟨rfl, (HH.out.below hb4).2.1⟩
                | cons s S =>
                  obtain ⟨j, hj, hg, rfl, rfl⟩ := left_cons HL.out.symm
                  have hlc := left_count (D := D) hj hg
                  have hll := left_length D k gone3
                  have HPop := Lib.hid (pop_hp hh 18446744073709551615 (by have := left_length D k (setG gone3 j); omega) (by omega) (by
                    have hwf := (hh.1.fine.1 _ List.mem_cons_self).2.1
                    show D j ≤ _
                    have : (th D j).d = D j := rfl
                    omega))
                  rw [show (th D j).w = (j : Int) from rfl] at HPop
                  have hjI : (j : Int) < (k : Int) := by omega
                  have hj0 : (0 : Int) ≤ (j : Int) := by omega
                  have f1 : decide (k ≤ j) = false := by simp; omega
                  have f2 : decide ((k : Int) ≤ (j : Int)) = false := by simp; omega
                  have hcI : (cnt : Int) + 1 ≤ (k : Int) := by have := HL.out; have h2 : (th D j :: left D k (setG gone3 j)).length = (left D k gone3).length := by rw [HL.out]
                                                               simp at h2 hcnt; omega
                  have f3 : decide ((k : Int) < (cnt : Int) + 1) = false := by simp; omega
                  have HRow := Lib.hid hrow
                  have HV := Lib.hid hv
                  have HNb := Lib.hid hN
                  have HGj := Lib.hid hg
                  clear hh hN hv hrow hg
                  go_wp2_with fail
                  refine HPop.out.mono ?_
                  rintro e w2 ⟨rfl, v2, h2, hv2, hk2⟩
                  have hMk := GoneIn.mark (M := 2000000 + 10000 * (cnt + 1)) HRow.out HSb.out HV.out h2 (fun _ _ => by have := HNb.out; have := left_length D k (setG gone3 j); omega) hv2 hk2 HLe.out j rfl
                  obtain ⟨hrow2, hmk2⟩ := hMk
                  have hcell : w2.cell? ⟨ws.heap.size, j, none⟩ = some (.bool false) := by
                    have := hrow2.cell hj
                    rwa [HGj.out] at this
                  have hfro := hrow2.frozen j
                  have HMk2 := Lib.hid hmk2
                  clear h2 hv2 hk2 hrow2 hmk2
                  go_wp2
                  go_roundg (left D k (setG gone3 j)).length
                  case measure => omega
                  case rel => exact ⟨setG gone3 j, cnt + 1, rfl, by go_num, by simp at hcnt; omega, HMk2⟩
end Go.Proofs.Ytphblfgafljelaa.Hp
