/- The walk of distafflaw24.PosixNames: true of every number and name. -/
import Derived.Test.YtmijknodkoblbaaDoorPosAwake
import Derived.ChangeKeysEq
import Derived.Laws.StructEq
import Derived.Deep.RegionHeld3
namespace Go.Proofs.YtmijknodkoblbaaDoor.PosTab
open Go.RowKit Errs

theorem cellsInt : Tryd.prog.cellsOf 3 = 1 := by kernel_rfl
theorem infoInt : ∃ i, Tryd.prog.info? 3 = some i := by
  cases h : Tryd.prog.info? 3 with
  | none => exact absurd h (by have : (Tryd.prog.info? 3).isSome = true := by kernel_rfl
                               intro e; rw [e] at this; cases this)
  | some i => exact ⟨i, rfl⟩
theorem eqInt (d : Nat) (a b : Int) (w : World) : (Op.equalIn (d + 1) 3 (.int .i64 a) (.int .i64 b)).run Tryd.prog w = .ok (a == b) w := by
  simp [Op.equalIn, run_underlying Tryd.underlying3]
theorem neq_arr4 (a b c d : Int) (w : World) : (binOp .neq 32 (.agg #[.int .i64 a, .int .i64 b, .int .i64 c, .int .i64 d]) (.agg #[.int .i64 a, .int .i64 b, .int .i64 c, .int .i64 d])).run Tryd.prog w = .ok (.bool false) w := by
  obtain ⟨i, hi⟩ := infoInt
  rw [run_neq_struct, run_equalIn_array w 9999 _ _ Tryd.underlying32 hi]
  have e := eqInt 9998
  have h1 := cellsInt
  simp [List.range_succ, Op.eqItems, part, h1, e, go_sem]

theorem ref_form (o : Option CRow) : ∃ (c0 : Int) (s1 s2 : ByteArray) (l k0 k1 k2 k3 : Int), refV o = .agg #[.int .i64 c0, .string s1, .string s2, .int .i64 l, .int .i64 k0, .int .i64 k1, .int .i64 k2, .int .i64 k3] ∧ kindsOf o = .agg #[.int .i64 k0, .int .i64 k1, .int .i64 k2, .int .i64 k3] ∧ nameOf o = s1 := by
  cases o with
  | none => exact ⟨_, _, _, _, _, _, _, _, rfl, rfl, rfl⟩
  | some r => exact ⟨_, _, _, _, _, _, _, _, rfl, rfl, rfl⟩

set_option maxHeartbeats 2000000 in
theorem names_law (n : Int) (s : ByteArray) (w : World) (hd : Door w) :
    Calls Tryd.prog 4 #[.int .i64 n, .string s] w fun e w' => e = .returned (.bool true) ∧ Below w.heap.size w w' := by
  have HD := Lib.hid hd
  clear hd
  have hp := door_pos HD.out
  obtain ⟨c0, s1, s2, l, k0, k1, k2, k3, e1, e2, e3⟩ := ref_form (ofNum n tab)
  have HF := Lib.hid (fun W => find_any n W)
  have HK := Lib.hid (fun W => kinds_any n W)
  have HN := Lib.hid (fun W => name_any n W)
  rw [e1] at HF
  rw [e2] at HK
  rw [e3] at HN
  generalize (ofNum n tab).isSome = is at HF HK
  clear e1 e2 e3
  have hna := neq_arr4 k0 k1 k2 k3
  have hnb : (is != is) = false := by simp
  have hnb2 : (is == is) = true := by simp
  have hns : (s1.toList == s1.toList) = true := by simp
  go_enter Tryd.func4, Tryd.ntmps4
  go_wp2_with fail
  refine (HF.out _).mono ?_
  rintro e w1 ⟨rfl, hb1⟩
  go_wp2_with fail
  refine (HK.out _).mono ?_
  rintro e w2 ⟨rfl, hb2⟩
  have hs1 := hb1.size
  have hs2 := hb2.size
  simp at hs2
  have q1 : w2.cell? ⟨w1.heap.size, 1, none⟩ = some (.string s1) := (hb2.cell (p := ⟨w1.heap.size, 1, none⟩) (by simp)).trans (World.cell?_alloc_at _ _ _ _ rfl)
  have q4 : w2.cell? ⟨w1.heap.size, 4, none⟩ = some (.int .i64 k0) := (hb2.cell (p := ⟨w1.heap.size, 4, none⟩) (by simp)).trans (World.cell?_alloc_at _ _ _ _ rfl)
  have q5 : w2.cell? ⟨w1.heap.size, 5, none⟩ = some (.int .i64 k1) := (hb2.cell (p := ⟨w1.heap.size, 5, none⟩) (by simp)).trans (World.cell?_alloc_at _ _ _ _ rfl)
  have q6 : w2.cell? ⟨w1.heap.size, 6, none⟩ = some (.int .i64 k2) := (hb2.cell (p := ⟨w1.heap.size, 6, none⟩) (by simp)).trans (World.cell?_alloc_at _ _ _ _ rfl)
  have q7 : w2.cell? ⟨w1.heap.size, 7, none⟩ = some (.int .i64 k3) := (hb2.cell (p := ⟨w1.heap.size, 7, none⟩) (by simp)).trans (World.cell?_alloc_at _ _ _ _ rfl)
  have hl12 : w1.heap.size < w2.heap.size := by omega
  go_wp2_with fail
  go_region_held3 (fun w' => w'.cell? ⟨w1.heap.size, 1, none⟩ = some (.string s1) ∧ w'.cell? ⟨w1.heap.size, 4, none⟩ = some (.int .i64 k0) ∧ w'.cell? ⟨w1.heap.size, 5, none⟩ = some (.int .i64 k1) ∧ w'.cell? ⟨w1.heap.size, 6, none⟩ = some (.int .i64 k2) ∧ w'.cell? ⟨w1.heap.size, 7, none⟩ = some (.int .i64 k3) ∧ w'.cell? ⟨w2.heap.size, 0, none⟩ = some (.int .i64 k0) ∧ w'.cell? ⟨w2.heap.size, 1, none⟩ = some (.int .i64 k1) ∧ w'.cell? ⟨w2.heap.size, 2, none⟩ = some (.int .i64 k2) ∧ w'.cell? ⟨w2.heap.size, 3, none⟩ = some (.int .i64 k3)) (first | exact ⟨r1, r4, r5, r6, r7, t0, t1, t2, t3⟩ | go_keep)
    (first | (go_at_call 12; refine (HN.out _).mono ?_; rintro e w3 ⟨rfl, hb3⟩; have r1 := (hb3.cell (p := ⟨w1.heap.size, 1, none⟩) (by simp; omega)).trans ((World.cell?_alloc_lt _ _ ⟨w1.heap.size, 1, none⟩ hl12).trans q1); have r4 := (hb3.cell (p := ⟨w1.heap.size, 4, none⟩) (by simp; omega)).trans ((World.cell?_alloc_lt _ _ ⟨w1.heap.size, 4, none⟩ hl12).trans q4); have r5 := (hb3.cell (p := ⟨w1.heap.size, 5, none⟩) (by simp; omega)).trans ((World.cell?_alloc_lt _ _ ⟨w1.heap.size, 5, none⟩ hl12).trans q5); have r6 := (hb3.cell (p := ⟨w1.heap.size, 6, none⟩) (by simp; omega)).trans ((World.cell?_alloc_lt _ _ ⟨w1.heap.size, 6, none⟩ hl12).trans q6); have r7 := (hb3.cell (p := ⟨w1.heap.size, 7, none⟩) (by simp; omega)).trans ((World.cell?_alloc_lt _ _ ⟨w1.heap.size, 7, none⟩ hl12).trans q7); have t0 := (hb3.cell (p := ⟨w2.heap.size, 0, none⟩) (by simp)).trans (World.cell?_alloc_at _ _ _ 0 rfl); have t1 := (hb3.cell (p := ⟨w2.heap.size, 1, none⟩) (by simp)).trans (World.cell?_alloc_at _ _ _ 1 rfl); have t2 := (hb3.cell (p := ⟨w2.heap.size, 2, none⟩) (by simp)).trans (World.cell?_alloc_at _ _ _ 2 rfl); have t3 := (hb3.cell (p := ⟨w2.heap.size, 3, none⟩) (by simp)).trans (World.cell?_alloc_at _ _ _ 3 rfl)))
  have hb3' : Below w2.heap.size w2 w3 := (((Below.refl w2.heap.size w2).alloc (Nat.le_refl _) _).drew).trans (hb3.mono (by simp))
  have hbw : Below w.heap.size w w3 := (hb1.trans ((((Below.refl w1.heap.size w1).alloc (Nat.le_refl _) _).trans (hb2.mono (by simp))).mono hs1)).trans (hb3'.mono (by omega))
  have HBW := Lib.hid hbw
  have hs3 := hbw.size
  clear hb1 hb2 hb3 hb3' hbw q1 q4 q5 q6 q7 r1 r4 r5 r6 r7 t0 t1 t2 t3 hna hnb hns HF HK HN
  go_wp2_with fail
  refine (calls_any _).mono ?_
  rintro e w4 ⟨b, rfl, hb1, hb2, hT, hb4⟩
  have HT := Lib.hid hT
  have HB4 := Lib.hid hb4
  clear hT hb4
  have HNM := Lib.hid (fun W => num_any s W)
  rw [← lastName_all] at HNM
  go_wp2_with fail
  go_loopw [9, 10, 12] (fun nv tv i wr => ∃ k : Nat, k ≤ 45 ∧ i = .int .i64 k ∧ nv = .int .i64 (numOf (lastName s k)) ∧ tv = .bool (lastName s k).isSome ∧ w4 = wr) (fun _ _ i _ => 45 - (intOf i).toNat)
  case atStart => exact ⟨0, by omega, rfl, by rw [lastName_zero]; rfl, by rw [lastName_zero]; rfl, rfl⟩
  case round =>
    obtain ⟨k, hk, rfl, rfl, rfl, rfl⟩ := hrel
    by_cases hlt : k < 45
    · obtain ⟨r, hr⟩ := row_at hlt
      have c0 : w4.cell? ⟨b, k * 8, none⟩ = some (.int .i64 r.num) := HT.out.cell hr (j := 0) rfl
      have c1 : w4.cell? ⟨b, k * 8 + 1, none⟩ = some (.string r.name) := HT.out.cell hr (j := 1) rfl
      by_cases he : (r.name.toList == s.toList) = true
      · have e := lastName_hit hr he
        have E1 := Lib.hid (congrArg numOf e)
        have E2 := Lib.hid (congrArg Option.isSome e)
        clear e hr
        generalize numOf (lastName s k) = z
        generalize (lastName s k).isSome = z2
        go_wp2
        go_roundw
        case rel => exact ⟨k + 1, by omega, by go_num, by rw [E1.out]; rfl, by rw [E2.out]; rfl, by first | rfl | trivial⟩
        case measure => simp [intOf]; omega
      · have he' : (r.name.toList == s.toList) = false := by simpa using he
        have e := lastName_miss hr he'
        have E1 := Lib.hid (congrArg numOf e)
        have E2 := Lib.hid (congrArg Option.isSome e)
        clear e hr he
        generalize numOf (lastName s k) = z at E1
        generalize (lastName s k).isSome = z2 at E2
        go_wp2
        go_roundw
        case rel => exact ⟨k + 1, by omega, by go_num, by rw [E1.out], by rw [E2.out], by first | rfl | trivial⟩
        case measure => simp [intOf]; omega
    · obtain rfl : k = 45 := by omega
      generalize numOf (lastName s 45) = z at HNM
      generalize (lastName s 45).isSome = z2 at HNM
      have hz : (z == z) = true := by simp
      have hz2 : (z2 == z2) = true := by simp
      go_wp2_with fail
      refine (HNM.out _).mono ?_
      rintro e w5 ⟨rfl, hb5⟩
      have hs4 := HB4.out.size
      have hs5 := hb5.size
      have D5 := Lib.hid (((HD.out.below HBW.out hp).below HB4.out (by omega)).below hb5 (by omega))
      go_wp2_with fail
      refine (awake_true _ D5.out).mono ?_
      rintro e w6 ⟨rfl, hb6⟩
      go_wp2
      go_ret
      exact ⟨rfl, HBW.out.trans ((HB4.out.mono (by omega)).trans ((hb5.mono (by omega)).trans (hb6.mono (by omega))))⟩
end Go.Proofs.YtmijknodkoblbaaDoor.PosTab
