/- The walk of fair.Fair: it answers what the plain law says. -/
import Derived.Test.YtloeibaeobkgjaaFairBase
import Derived.Deep.OwnRows
namespace Go.Proofs.Ytloeibaeobkgjaa.Fair
open Go.ChangeShapes Go.WideShapes Go.ChangeAt Go.RowKit

theorem info3 : (Try.prog.info? 3).map (fun i => (i.zero, i.size, i.bytes)) = some (some (.int .i64 0), 1, 8) := by kernel_rfl

def GapsOk (m : Nat) (l : List Ent) (W i : Nat) : Prop := ∀ j, j < i → ∀ k, k ≤ m → at_ m l j = some k → (j : Int) - lp m l k j ≤ W

theorem gaps_step {m : Nat} {l : List Ent} {W i u : Nat} (h : GapsOk m l W i) (ha : at_ m l i = some u) (hg : (i : Int) - lp m l u i ≤ W) : GapsOk m l W (i + 1) := by
  intro j hj k hk he
  by_cases e : j = i
  · subst e
    rw [ha] at he
    injection he with he
    subst he
    exact hg
  · exact h j (by omega) k hk he
theorem gaps_skip {m : Nat} {l : List Ent} {W i : Nat} (h : GapsOk m l W i) (ha : at_ m l i = none) : GapsOk m l W (i + 1) := by
  intro j hj k hk he
  by_cases e : j = i
  · subst e
    rw [ha] at he
    cases he
  · exact h j (by omega) k hk he

def Row (m : Nat) (l : List Ent) (B i : Nat) (w : World) : Prop := w.rowIs B 3 (m + 1) (fun k => .int .i64 (lp m l k i))

theorem fairB_false {m : Nat} {l : List Ent} {W : Nat} (h : ¬ fairP m l W) : fairB m l W = false := by
  rw [← Bool.not_eq_true]
  intro hb
  exact h ((fairB_iff _ _ _).1 hb).2
theorem fairB_true {m : Nat} {l : List Ent} {W : Nat} (h0 : 1 ≤ W) (h : fairP m l W) : fairB m l W = true :=
  (fairB_iff _ _ _).2 ⟨by omega, h⟩

set_option maxRecDepth 100000 in
set_option maxHeartbeats 1000000 in
theorem fair_main (w : World) (wk : Int) (A : Option Addr) (n c : Nat) (m W : Nat) (l : List Ent) (hmx : (if wk < 0 then 0 else wk) = (m : Int)) (h : Ents w w.heap.size A n l) (hl : n ≤ 100000) (hW : 1 ≤ W) (hWn : W ≤ n) (hm : m < W) :
    Calls Try.prog 10 #[.int .i64 wk, .slice A n c, .int .i64 W] w fun e w' => e = .returned (.bool (fairB m l W)) ∧ Below w.heap.size w w' := by
  have hmk := run_make_row' (P := Try.prog) 32 3 (.int .i64 0) 8 Try.underlying32 info3 rfl .i64 .i64 (m + 1) (by omega) (by omega)
  have e1 : ((m + 1 : Nat) : Int) = (m : Int) + 1 := by omega
  rw [e1] at hmk
  clear e1
  go_enter Try.func10, Try.ntmps10
  go_wp2
  clear hmk hmx
  have hrow0 := World.rowIs_made w (.int .i64 0) (m + 1) 3
  go_loopw [31] (fun i wr => ∃ k : Nat, k ≤ m + 1 ∧ i = .int .i64 k ∧ wr.rowIs w.heap.size 3 (m + 1) (fun j => if j < k then .int .i64 (-1) else .int .i64 0) ∧ Below w.heap.size w wr) (fun i _ => m + 1 - (intOf i).toNat)
  case atStart => exact ⟨0, by omega, rfl, hrow0, (Below.refl _ _).alloc (Nat.le_refl _) _⟩
  case round =>
    clear hrow0
    obtain ⟨k, hk, rfl, hrow, hb⟩ := hrel
    by_cases hlt : k < m + 1
    · have hc := hrow.cell hlt
      have hf := hrow.frozen k
      simp only [Nat.lt_irrefl, if_false] at hc
      have HR := Lib.hid hrow; clear hrow
      go_wp2
      go_roundw
      case rel =>
        refine ⟨k + 1, by omega, by go_num, (HR.out.set k (.int .i64 (-1))).congr ?_, hb.setCell (Nat.le_refl _) _⟩
        intro j hj
        by_cases e : j = k
        · subst e; simp
        · rw [if_neg e]
          by_cases e2 : j < k
          · rw [if_pos e2, if_pos (by omega)]
          · rw [if_neg e2, if_neg (by omega)]
      case measure => simp [intOf]; omega
    · obtain rfl : k = m + 1 := by omega
      have hrow1 : Row m l w.heap.size 0 wr := hrow.congr fun j hj => by rw [if_pos hj]; rfl
      clear hrow
      go_wp2
      go_loopw [40] (fun i wr => ∃ k : Nat, k ≤ n ∧ i = .int .i64 k ∧ Row m l w.heap.size k wr ∧ Below w.heap.size w wr ∧ GapsOk m l W k) (fun i _ => n - (intOf i).toNat)
      case atStart => exact ⟨0, by omega, rfl, hrow1, hb, fun j hj => by omega⟩
      case round =>
        clear hrow1 hb
        obtain ⟨i, hi, rfl, hrow, hb, hg⟩ := hrel
        have hBs : w.heap.size < wr.heap.size := hrow.lt
        by_cases hlt : i < n
        · obtain ⟨b, off, e, rfl, hbB, he, c0, c1, c2⟩ := (h.below hb).at_ hlt
          obtain ⟨kd, wh, dr⟩ := e
          dsimp only at c0 c1 c2
          have hat := at_some (n := m) he
          have hL : i < l.length := by rw [h.1]; exact hlt
          have HH := Lib.hid h; clear h
          have HE := Lib.hid he; clear he
          have HR := Lib.hid hrow; clear hrow
          have HG := Lib.hid hg; clear hg
          by_cases hk1 : kd = 1 ∧ 0 ≤ wh ∧ wh < m
          · obtain ⟨rfl, hw0, hwm⟩ := hk1
            obtain ⟨u, rfl⟩ := Int.eq_ofNat_of_zero_le hw0
            have hum : u < m := by omega
            rw [key_worker m u dr hum] at hat
            have hcu := HR.out.cell (i := u) (by omega)
            have hfu := HR.out.frozen u
            have hr := lp_range m l u i
            generalize hlast : lp m l u i = last at hcu hr
            have HL := Lib.hid hlast; clear hlast
            have HA := Lib.hid hat; clear hat
            by_cases hgap : (W : Int) < i - last
            · go_wp2
              go_ret
              rw [fairB_false (not_fair_of_gap m l W u i (by omega) (by omega) (by rw [HL.out]; exact hgap))]
              exact ⟨rfl, hb.alloc (by omega) _⟩
            · go_wp2
              go_roundw
              case rel =>
                refine ⟨i + 1, by omega, by go_num, ((HR.out.set u _).alloc _).congr ?_, (hb.setCell (p := ⟨w.heap.size, u, none⟩) (Nat.le_refl _) _).alloc (by simp; omega) _, gaps_step HG.out HA.out (by rw [HL.out]; omega)⟩
                intro j hj
                rw [lp_step HA.out]
                by_cases e : j = u
                · rw [if_pos e, if_pos e]
                · rw [if_neg e, if_neg e]
              case measure => simp [intOf]; omega
          · by_cases hk2 : kd = 2
            · subst hk2
              rw [key_tick m wh dr] at hat
              have hcu := HR.out.cell (i := m) (by omega)
              have hfu := HR.out.frozen m
              have hr := lp_range m l m i
              generalize hlast : lp m l m i = last at hcu hr
              have HL := Lib.hid hlast; clear hlast
              have HA := Lib.hid hat; clear hat
              clear hk1
              by_cases hgap : (W : Int) < i - last
              · go_wp2
                go_ret
                rw [fairB_false (not_fair_of_gap m l W m i (by omega) (by omega) (by rw [HL.out]; exact hgap))]
                exact ⟨rfl, hb.alloc (by omega) _⟩
              · go_wp2
                go_roundw
                case rel =>
                  refine ⟨i + 1, by omega, by go_num, ((HR.out.set m _).alloc _).congr ?_, (hb.setCell (p := ⟨w.heap.size, m, none⟩) (Nat.le_refl _) _).alloc (by simp; omega) _, gaps_step HG.out HA.out (by rw [HL.out]; omega)⟩
                  intro j hj
                  rw [lp_step HA.out]
                  by_cases e : j = m
                  · rw [if_pos e, if_pos e]
                  · rw [if_neg e, if_neg e]
                case measure => simp [intOf]; omega
            · rw [key_none m kd wh dr hk1 hk2] at hat
              have HA := Lib.hid hat; clear hat
              have hk2b : (kd != 2) = true := by simp [hk2]
              have HK2 := Lib.hid hk2; clear hk2
              by_cases hq1 : kd = 1
              · subst hq1
                by_cases hq2 : 0 ≤ wh
                · have hq3 : ¬ wh < m := fun h => hk1 ⟨rfl, hq2, h⟩
                  clear hk1
                  go_wp2
                  go_roundw
                  case rel => exact ⟨i + 1, by omega, by go_num, (HR.out.alloc _).congr (fun j hj => by rw [lp_skip HA.out]), hb.alloc (by omega) _, gaps_skip HG.out HA.out⟩
                  case measure => simp [intOf]; omega
                · clear hk1
                  go_wp2
                  go_roundw
                  case rel => exact ⟨i + 1, by omega, by go_num, (HR.out.alloc _).congr (fun j hj => by rw [lp_skip HA.out]), hb.alloc (by omega) _, gaps_skip HG.out HA.out⟩
                  case measure => simp [intOf]; omega
              · have hq1b : (kd == 1) = false := by simp [hq1]
                clear hk1
                go_wp2
                go_roundw
                case rel => exact ⟨i + 1, by omega, by go_num, (HR.out.alloc _).congr (fun j hj => by rw [lp_skip HA.out]), hb.alloc (by omega) _, gaps_skip HG.out HA.out⟩
                case measure => simp [intOf]; omega
        · obtain rfl : i = n := by omega
          have HG := Lib.hid hg; clear hg
          have HH := Lib.hid h; clear h
          go_wp2
          go_loopw [80] (fun x wr' => ∃ k : Nat, k ≤ m + 1 ∧ x = .int .i64 k ∧ wr' = wr ∧ ∀ j, j < k → (i : Int) - lp m l j i ≤ W) (fun x _ => m + 1 - (intOf x).toNat)
          case atStart => exact ⟨0, by omega, rfl, rfl, fun j hj => by omega⟩
          case round =>
            obtain ⟨k, hk, rfl, rfl, hall⟩ := hrel
            have HAll := Lib.hid hall; clear hall
            by_cases hlt2 : k < m + 1
            · have hcu := World.rowIs.cell hrow (i := k) hlt2
              have HR := Lib.hid hrow; clear hrow
              have hr := lp_range m l k i
              generalize hlast : lp m l k i = last at hcu hr
              have HL := Lib.hid hlast; clear hlast
              by_cases hgap : (W : Int) < i - last
              · go_wp2
                go_ret
                rw [fairB_false (not_fair_of_gap m l W k i (by omega) (by rw [HH.out.1]; omega) (by rw [HL.out]; exact hgap))]
                exact ⟨rfl, hb⟩
              · go_wp2
                go_roundw
                case rel =>
                  refine ⟨k + 1, by omega, by go_num, by first | rfl | trivial, fun j hj => ?_⟩
                  by_cases e : j = k
                  · subst e; rw [HL.out]; omega
                  · exact HAll.out j (by omega)
                case measure => simp [intOf]; omega
            · obtain rfl : k = m + 1 := by omega
              clear hrow
              go_wp2
              go_ret
              rw [fairB_true hW (fair_of_gaps m l W (by rw [HH.out.1]; exact HG.out) (fun j hj => by rw [HH.out.1]; exact HAll.out j (by omega)))]
              exact ⟨rfl, hb⟩
end Go.Proofs.Ytloeibaeobkgjaa.Fair
