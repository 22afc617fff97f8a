/- The walk of the document's Fair: it answers what the plain law says. -/
import Derived.Test.YtloeibaeobkgjaaFairProg
namespace Go.Proofs.Ytloeibaeobkgjaa.Fair
open Go.ChangeShapes Go.WideShapes Go.ChangeAt Go.RowKit

def Row0 (m : Nat) (l : List Ent) (B i : Nat) (w : World) : Prop := w.rowIs B 3 m (fun k => .int .i64 (lp m l k i))
def WinOk (m : Nat) (l : List Ent) (W i : Nat) : Prop := ∀ j, j < i → W ≤ j + 1 → ∀ k, k ≤ m → ((j + 1 : Nat) : Int) - W ≤ lp m l k (j + 1)
theorem win_skip {m : Nat} {l : List Ent} {W i : Nat} (h : WinOk m l W i) (hi : i + 1 < W) : WinOk m l W (i + 1) := by
  intro j hj hW k hk
  by_cases e : j = i
  · omega
  · exact h j (by omega) hW k hk
theorem win_step {m : Nat} {l : List Ent} {W i : Nat} (h : WinOk m l W i) (ht : (i : Int) + 1 - W ≤ lp m l m (i + 1)) (hk : ∀ k, k < m → (i : Int) + 1 - W ≤ lp m l k (i + 1)) : WinOk m l W (i + 1) := by
  intro j hj hW k hkm
  by_cases e : j = i
  · subst e
    by_cases e2 : k = m
    · subst e2; omega
    · have := hk k (by omega); omega
  · exact h j (by omega) hW k hkm
theorem not_fair_win {m : Nat} {l : List Ent} {W i k : Nat} (hi : i < l.length) (hk : k ≤ m) (h : lp m l k (i + 1) < (i : Int) + 1 - W) : ¬ fairP m l W :=
  not_fair_of_gap m l W k (i + 1) hk (by omega) (by omega)

set_option maxRecDepth 100000 in
set_option maxHeartbeats 2000000 in
theorem ref_main (w : World) (wk : Int) (A : Option Addr) (n c : Nat) (m W : Nat) (l : List Ent) (hmx : (if 0 < wk then wk else 0) = (m : Int)) (h : Ents w w.heap.size A n l) (hl : n ≤ 100000) (hW : 1 ≤ W) (hW2 : W ≤ 9223372036854775807) (hm : m ≤ n) (hwk : wk ≤ n) :
    Calls Try.prog 11 #[.int .i64 wk, .slice A n c, .int .i64 W] w fun e w' => e = .returned (.bool (fairB m l W)) ∧ Below w.heap.size w w' := by
  have hmk := run_make_row' (P := Try.prog) 32 3 (.int .i64 0) 8 Try.underlying32 info3 rfl .i64 .i64 m (by omega) (by omega)
  go_enter Try.func11, Try.ntmps11
  go_wp2
  clear hmk hmx hwk
  have hrow0 := World.rowIs_made w (.int .i64 0) m 3
  go_loopw [9] (fun i wr => ∃ k : Nat, k ≤ m ∧ i = .int .i64 k ∧ wr.rowIs w.heap.size 3 m (fun j => if j < k then .int .i64 (-1) else .int .i64 0) ∧ Below w.heap.size w wr) (fun i _ => m - (intOf i).toNat)
  case atStart => exact ⟨0, by omega, rfl, hrow0, (Below.refl _ _).alloc (Nat.le_refl _) _⟩
  case round =>
    clear hrow0
    obtain ⟨k, hk, rfl, hrow, hb⟩ := hrel
    by_cases hlt : k < m
    · have hc := hrow.cell hlt
      have hf := hrow.frozen k
      simp only [Nat.lt_irrefl, if_false] at hc
      have HR := Lib.hid hrow; clear hrow
      go_wp2
      go_roundw
      case rel =>
        refine ⟨k + 1, by omega, by go_num, (HR.out.set k (.int .i64 (-1))).congr ?_, hb.setCell (Nat.le_refl _) _⟩
        intro j hj
        by_cases e : j = k
        · subst e; simp
        · rw [if_neg e]
          by_cases e2 : j < k
          · rw [if_pos e2, if_pos (by omega)]
          · rw [if_neg e2, if_neg (by omega)]
      case measure => simp [intOf]; omega
    · obtain rfl : k = m := by omega
      have hrow1 : Row0 k l w.heap.size 0 wr := hrow.congr fun j hj => by rw [if_pos hj]; rfl
      clear hrow
      go_wp2
      go_loopw [8, 10] (fun t i wr => ∃ q : Nat, q ≤ n ∧ i = .int .i64 q ∧ t = .int .i64 (lp k l k q) ∧ Row0 k l w.heap.size q wr ∧ Below w.heap.size w wr ∧ WinOk k l W q) (fun _ i _ => n - (intOf i).toNat)
      case atStart => exact ⟨0, by omega, rfl, rfl, hrow1, hb, fun j hj => by omega⟩
      case round =>
        clear hrow1 hb
        obtain ⟨i, hi, rfl, rfl, hrow, hb, hg⟩ := hrel
        have hBs : w.heap.size < wr.heap.size := World.rowIs.lt hrow
        by_cases hlt : i < n
        · obtain ⟨b, off, e, rfl, hbB, he, c0, c1, c2⟩ := (h.below hb).at_ hlt
          obtain ⟨kd, wh, dr⟩ := e
          dsimp only at c0 c1 c2
          have hat := at_some (n := k) he
          have hL : i < l.length := by rw [h.1]; exact hlt
          have HH := Lib.hid h; clear h
          have HE := Lib.hid he; clear he
          have HR := Lib.hid hrow; clear hrow
          have HG := Lib.hid hg; clear hg
          have hr := lp_range k l k i
          have hr1 := lp_range k l k (i + 1)
          by_cases hk1 : kd = 1 ∧ 0 ≤ wh ∧ wh < k
          · obtain ⟨rfl, hw0, hwm⟩ := hk1
            obtain ⟨u, rfl⟩ := Int.eq_ofNat_of_zero_le hw0
            have hum : u < k := by omega
            rw [key_worker k u dr hum] at hat
            have hcu0 := World.rowIs.cell HR.out (i := u) hum
            have hfu := World.rowIs.frozen HR.out u
            generalize lp k l u i = lastu at hcu0
            have HRn : Hid (Row0 k l w.heap.size (i + 1) (wr.setCell ⟨w.heap.size, u, none⟩ (.int .i64 i))) := (World.rowIs.set HR.out u _).congr (by
              intro j hj
              rw [lp_step hat]
              by_cases e : j = u
              · rw [if_pos e, if_pos e]
              · rw [if_neg e, if_neg e])
            have hbn : Below w.heap.size w (wr.setCell ⟨w.heap.size, u, none⟩ (.int .i64 i)) := hb.setCell (Nat.le_refl _) _
            have htn : lp k l k (i + 1) = lp k l k i := by rw [lp_step hat, if_neg (by omega)]
            rw [htn] at hr1
            generalize htick : lp k l k i = tick at hr hr1 ⊢
            have HTn := Lib.hid (htn.trans htick); clear htn htick
            clear hat
            by_cases hlt1 : i + 1 < W
            · go_wp2
              go_roundw
              case rel => exact ⟨i + 1, by omega, by go_num, by rw [HTn.out], HRn.out, hbn, win_skip HG.out hlt1⟩
              case measure => simp [intOf]; omega
            · by_cases htk : tick < (i : Int) + 1 - W
              · go_wp2
                go_ret
                rw [fairB_false (not_fair_win (k := k) hL (Nat.le_refl _) (by rw [HTn.out]; exact htk))]
                exact ⟨rfl, hbn⟩
              · go_wp2
                go_loopw [12] (fun x wr' => ∃ q : Nat, q ≤ k ∧ x = .int .i64 q ∧ wr' = (wr.setCell ⟨w.heap.size, u, none⟩ (.int .i64 i)) ∧ ∀ j, j < q → (i : Int) + 1 - W ≤ lp k l j (i + 1)) (fun x _ => k - (intOf x).toNat)
                case atStart => exact ⟨0, by omega, rfl, rfl, fun j hj => by omega⟩
                case round =>
                  obtain ⟨q, hq, rfl, rfl, hall⟩ := hrel
                  have HAll := Lib.hid hall; clear hall
                  by_cases hlt2 : q < k
                  · have hcu := World.rowIs.cell HRn.out (i := q) hlt2
                    have hr2 := lp_range k l q (i + 1)
                    generalize hlast : lp k l q (i + 1) = last at hcu hr2
                    have HL := Lib.hid hlast; clear hlast
                    by_cases hgap : last < (i : Int) + 1 - W
                    · go_wp2
                      go_ret
                      rw [fairB_false (not_fair_win (k := q) hL (by omega) (by rw [HL.out]; exact hgap))]
                      exact ⟨rfl, hbn⟩
                    · go_wp2
                      go_roundw
                      case rel =>
                        refine ⟨q + 1, by omega, by go_num, by first | rfl | trivial, fun j hj => ?_⟩
                        by_cases e : j = q
                        · subst e; rw [HL.out]; omega
                        · exact HAll.out j (by omega)
                      case measure => simp [intOf]; omega
                  · obtain rfl : q = k := by omega
                    go_wp2
                    go_roundw
                    case rel => exact ⟨i + 1, by omega, by go_num, by rw [HTn.out], HRn.out, hbn, win_step HG.out (by rw [HTn.out]; omega) HAll.out⟩
                    case measure => simp [intOf]; omega
          · by_cases hk2 : kd = 2
            · subst hk2
              rw [key_tick k wh dr] at hat
              have HRn : Hid (Row0 k l w.heap.size (i + 1) wr) := World.rowIs.congr HR.out (by
                intro j hj
                rw [lp_step hat, if_neg (by omega)])
              have hbn := hb
              have htn : lp k l k (i + 1) = i := by rw [lp_step hat, if_pos rfl]
              generalize lp k l k i = tick0 at hr ⊢
              obtain ⟨tick, htick⟩ : ∃ tick : Int, tick = i := ⟨_, rfl⟩
              have HTn := Lib.hid htn; clear htn
              clear hat hk1 hr1 hr htick tick
              by_cases hlt1 : i + 1 < W
              · go_wp2
                go_roundw
                case rel => exact ⟨i + 1, by omega, by go_num, by rw [HTn.out], HRn.out, hbn, win_skip HG.out hlt1⟩
                case measure => simp [intOf]; omega
              · by_cases htk : (i : Int) < (i : Int) + 1 - W
                · omega
                · go_wp2
                  go_loopw [12] (fun x wr' => ∃ q : Nat, q ≤ k ∧ x = .int .i64 q ∧ wr' = wr ∧ ∀ j, j < q → (i : Int) + 1 - W ≤ lp k l j (i + 1)) (fun x _ => k - (intOf x).toNat)
                  case atStart => exact ⟨0, by omega, rfl, rfl, fun j hj => by omega⟩
                  case round =>
                    obtain ⟨q, hq, rfl, rfl, hall⟩ := hrel
                    have HAll := Lib.hid hall; clear hall
                    by_cases hlt2 : q < k
                    · have hcu := World.rowIs.cell HRn.out (i := q) hlt2
                      have hr2 := lp_range k l q (i + 1)
                      generalize hlast : lp k l q (i + 1) = last at hcu hr2
                      have HL := Lib.hid hlast; clear hlast
                      by_cases hgap : last < (i : Int) + 1 - W
                      · go_wp2
                        go_ret
                        rw [fairB_false (not_fair_win (k := q) hL (by omega) (by rw [HL.out]; exact hgap))]
                        exact ⟨rfl, hbn⟩
                      · go_wp2
                        go_roundw
                        case rel =>
                          refine ⟨q + 1, by omega, by go_num, by first | rfl | trivial, fun j hj => ?_⟩
                          by_cases e : j = q
                          · subst e; rw [HL.out]; omega
                          · exact HAll.out j (by omega)
                        case measure => simp [intOf]; omega
                    · obtain rfl : q = k := by omega
                      go_wp2
                      go_roundw
                      case rel => exact ⟨i + 1, by omega, by go_num, by rw [HTn.out], HRn.out, hbn, win_step HG.out (by rw [HTn.out]; omega) HAll.out⟩
                      case measure => simp [intOf]; omega
            · rw [key_none k kd wh dr hk1 hk2] at hat
              have HRn : Hid (Row0 k l w.heap.size (i + 1) wr) := World.rowIs.congr HR.out (fun j hj => by rw [lp_skip hat])
              have hbn := hb
              have htn : lp k l k (i + 1) = lp k l k i := lp_skip hat k
              rw [htn] at hr1
              generalize htick : lp k l k i = tick at hr hr1 ⊢
              have HTn := Lib.hid (htn.trans htick); clear htn htick
              have hk2b : (kd == 2) = false := by simp [hk2]
              clear hat hk2
              by_cases hq1 : kd = 1
              · subst hq1
                by_cases hq2 : 0 ≤ wh
                · have hq3 : ¬ wh < k := fun h => hk1 ⟨rfl, hq2, h⟩
                  clear hk1
                  by_cases hlt1 : i + 1 < W
                  · go_wp2
                    go_roundw
                    case rel => exact ⟨i + 1, by omega, by go_num, by rw [HTn.out], HRn.out, hbn, win_skip HG.out hlt1⟩
                    case measure => simp [intOf]; omega
                  · by_cases htk : tick < (i : Int) + 1 - W
                    · go_wp2
                      go_ret
                      rw [fairB_false (not_fair_win (k := k) hL (Nat.le_refl _) (by rw [HTn.out]; exact htk))]
                      exact ⟨rfl, hbn⟩
                    · go_wp2
                      go_loopw [12] (fun x wr' => ∃ q : Nat, q ≤ k ∧ x = .int .i64 q ∧ wr' = wr ∧ ∀ j, j < q → (i : Int) + 1 - W ≤ lp k l j (i + 1)) (fun x _ => k - (intOf x).toNat)
                      case atStart => exact ⟨0, by omega, rfl, rfl, fun j hj => by omega⟩
                      case round =>
                        obtain ⟨q, hq, rfl, rfl, hall⟩ := hrel
                        have HAll := Lib.hid hall; clear hall
                        by_cases hlt2 : q < k
                        · have hcu := World.rowIs.cell HRn.out (i := q) hlt2
                          have hr2 := lp_range k l q (i + 1)
                          generalize hlast : lp k l q (i + 1) = last at hcu hr2
                          have HL := Lib.hid hlast; clear hlast
                          by_cases hgap : last < (i : Int) + 1 - W
                          · go_wp2
                            go_ret
                            rw [fairB_false (not_fair_win (k := q) hL (by omega) (by rw [HL.out]; exact hgap))]
                            exact ⟨rfl, hbn⟩
                          · go_wp2
                            go_roundw
                            case rel =>
                              refine ⟨q + 1, by omega, by go_num, by first | rfl | trivial, fun j hj => ?_⟩
                              by_cases e : j = q
                              · subst e; rw [HL.out]; omega
                              · exact HAll.out j (by omega)
                            case measure => simp [intOf]; omega
                        · obtain rfl : q = k := by omega
                          go_wp2
                          go_roundw
                          case rel => exact ⟨i + 1, by omega, by go_num, by rw [HTn.out], HRn.out, hbn, win_step HG.out (by rw [HTn.out]; omega) HAll.out⟩
                          case measure => simp [intOf]; omega
                · clear hk1
                  by_cases hlt1 : i + 1 < W
                  · go_wp2
                    go_roundw
                    case rel => exact ⟨i + 1, by omega, by go_num, by rw [HTn.out], HRn.out, hbn, win_skip HG.out hlt1⟩
                    case measure => simp [intOf]; omega
                  · by_cases htk : tick < (i : Int) + 1 - W
                    · go_wp2
                      go_ret
                      rw [fairB_false (not_fair_win (k := k) hL (Nat.le_refl _) (by rw [HTn.out]; exact htk))]
                      exact ⟨rfl, hbn⟩
                    · go_wp2
                      go_loopw [12] (fun x wr' => ∃ q : Nat, q ≤ k ∧ x = .int .i64 q ∧ wr' = wr ∧ ∀ j, j < q → (i : Int) + 1 - W ≤ lp k l j (i + 1)) (fun x _ => k - (intOf x).toNat)
                      case atStart => exact ⟨0, by omega, rfl, rfl, fun j hj => by omega⟩
                      case round =>
                        obtain ⟨q, hq, rfl, rfl, hall⟩ := hrel
                        have HAll := Lib.hid hall; clear hall
                        by_cases hlt2 : q < k
                        · have hcu := World.rowIs.cell HRn.out (i := q) hlt2
                          have hr2 := lp_range k l q (i + 1)
                          generalize hlast : lp k l q (i + 1) = last at hcu hr2
                          have HL := Lib.hid hlast; clear hlast
                          by_cases hgap : last < (i : Int) + 1 - W
                          · go_wp2
                            go_ret
                            rw [fairB_false (not_fair_win (k := q) hL (by omega) (by rw [HL.out]; exact hgap))]
                            exact ⟨rfl, hbn⟩
                          · go_wp2
                            go_roundw
                            case rel =>
                              refine ⟨q + 1, by omega, by go_num, by first | rfl | trivial, fun j hj => ?_⟩
                              by_cases e : j = q
                              · subst e; rw [HL.out]; omega
                              · exact HAll.out j (by omega)
                            case measure => simp [intOf]; omega
                        · obtain rfl : q = k := by omega
                          go_wp2
                          go_roundw
                          case rel => exact ⟨i + 1, by omega, by go_num, by rw [HTn.out], HRn.out, hbn, win_step HG.out (by rw [HTn.out]; omega) HAll.out⟩
                          case measure => simp [intOf]; omega
              · have hq1b : (kd == 1) = false := by simp [hq1]
                clear hk1 hq1
                by_cases hlt1 : i + 1 < W
                · go_wp2
                  go_roundw
                  case rel => exact ⟨i + 1, by omega, by go_num, by rw [HTn.out], HRn.out, hbn, win_skip HG.out hlt1⟩
                  case measure => simp [intOf]; omega
                · by_cases htk : tick < (i : Int) + 1 - W
                  · go_wp2
                    go_ret
                    rw [fairB_false (not_fair_win (k := k) hL (Nat.le_refl _) (by rw [HTn.out]; exact htk))]
                    exact ⟨rfl, hbn⟩
                  · go_wp2
                    go_loopw [12] (fun x wr' => ∃ q : Nat, q ≤ k ∧ x = .int .i64 q ∧ wr' = wr ∧ ∀ j, j < q → (i : Int) + 1 - W ≤ lp k l j (i + 1)) (fun x _ => k - (intOf x).toNat)
                    case atStart => exact ⟨0, by omega, rfl, rfl, fun j hj => by omega⟩
                    case round =>
                      obtain ⟨q, hq, rfl, rfl, hall⟩ := hrel
                      have HAll := Lib.hid hall; clear hall
                      by_cases hlt2 : q < k
                      · have hcu := World.rowIs.cell HRn.out (i := q) hlt2
                        have hr2 := lp_range k l q (i + 1)
                        generalize hlast : lp k l q (i + 1) = last at hcu hr2
                        have HL := Lib.hid hlast; clear hlast
                        by_cases hgap : last < (i : Int) + 1 - W
                        · go_wp2
                          go_ret
                          rw [fairB_false (not_fair_win (k := q) hL (by omega) (by rw [HL.out]; exact hgap))]
                          exact ⟨rfl, hbn⟩
                        · go_wp2
                          go_roundw
                          case rel =>
                            refine ⟨q + 1, by omega, by go_num, by first | rfl | trivial, fun j hj => ?_⟩
                            by_cases e : j = q
                            · subst e; rw [HL.out]; omega
                            · exact HAll.out j (by omega)
                          case measure => simp [intOf]; omega
                      · obtain rfl : q = k := by omega
                        go_wp2
                        go_roundw
                        case rel => exact ⟨i + 1, by omega, by go_num, by rw [HTn.out], HRn.out, hbn, win_step HG.out (by rw [HTn.out]; omega) HAll.out⟩
                        case measure => simp [intOf]; omega
        · obtain rfl : i = n := by omega
          have HG := Lib.hid hg; clear hg
          have HH := Lib.hid h; clear h
          clear hrow
          generalize lp k l k i = tick
          go_wp2
          go_ret
          rw [fairB_true hW (fair_of_windows k l W (by rw [HH.out.1]; exact HG.out) hW)]
          exact ⟨rfl, hb⟩
end Go.Proofs.Ytloeibaeobkgjaa.Fair
