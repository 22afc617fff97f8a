/- The walk of distafflaw24.PosixTable: true. -/
import Derived.Test.YtmijknodkoblbaaDoorPosNamesWalk
namespace Go.Proofs.YtmijknodkoblbaaDoor.PosTab
open Go.RowKit Errs

def below (k : Int) (l : List CRow) : Nat := (l.filter fun r => decide (r.num < k)).length
theorem below_none {k : Int} {l : List CRow} (h : ofNum k l = none) : below (k + 1) l = below k l := by
  induction l with
  | nil => rfl
  | cons y l ih =>
    rw [ofNum] at h
    by_cases e : y.num = k
    · rw [if_pos e] at h; cases h
    · rw [if_neg e] at h
      have := ih h
      unfold below at this ⊢
      rw [List.filter_cons, List.filter_cons]
      by_cases h2 : y.num < k
      · rw [if_pos (by simp; omega), if_pos (by simp; omega)]; simp [this]
      · rw [if_neg (by simp; omega), if_neg (by simp; omega)]; exact this
theorem below_some {k : Int} {l : List CRow} {r : CRow} (hn : (l.map (·.num)).Nodup) (h : ofNum k l = some r) : below (k + 1) l = below k l + 1 := by
  induction l with
  | nil => cases h
  | cons y l ih =>
    rw [List.map_cons, List.nodup_cons] at hn
    rw [ofNum] at h
    by_cases e : y.num = k
    · have hl : ofNum k l = none := by
        refine ofNum_none fun j x _ hx e2 => hn.1 ?_
        rw [e, ← e2]
        exact List.mem_map.2 ⟨x, List.mem_of_getElem? hx, rfl⟩
      have := below_none hl
      unfold below at this ⊢
      rw [List.filter_cons, List.filter_cons, if_pos (by simp; omega), if_neg (by simp; omega)]
      simp [this]
    · rw [if_neg e] at h
      have := ih hn.2 h
      unfold below at this ⊢
      rw [List.filter_cons, List.filter_cons]
      by_cases h2 : y.num < k
      · rw [if_pos (by simp; omega), if_pos (by simp; omega)]; simp [this]
      · rw [if_neg (by simp; omega), if_neg (by simp; omega)]; exact this
theorem below_lo : below (-5) tab = 0 := by decide +kernel
theorem below_hi : below 1100 tab = 45 := by decide +kernel
theorem below_le (k : Int) : below k tab ≤ 45 := by
  have := List.length_filter_le (fun r : CRow => decide (r.num < k)) tab
  rw [tab_len] at this
  exact this
theorem names_full : ∀ r ∈ tab, r.name.toList.isEmpty = false := by decide +kernel
theorem ofNum_mem {n : Int} {l : List CRow} {r : CRow} (h : ofNum n l = some r) : r ∈ l := by
  induction l with
  | nil => cases h
  | cons y l ih =>
    rw [ofNum] at h
    by_cases e : y.num = n
    · rw [if_pos e] at h; cases h; exact List.mem_cons_self
    · rw [if_neg e] at h; exact List.mem_cons_of_mem _ (ih h)

set_option maxHeartbeats 2000000 in
theorem table_law (w : World) (hd : Door w) : Calls Tryd.prog 5 #[] w fun e w' => e = .returned (.bool true) ∧ Below w.heap.size w w' := by
  have HD := Lib.hid hd
  clear hd
  have hp := door_pos HD.out
  go_enter Tryd.func5, Tryd.ntmps5
  go_wp2_with fail
  refine (calls_any _).mono ?_
  rintro e w1 ⟨b, rfl, hb1, hb2, hT, hbw⟩
  have HT := Lib.hid hT
  have HB := Lib.hid hbw
  have hs1 := hbw.size
  clear hT hbw
  go_wp2_with fail
  go_loopw [2] (fun i wr => ∃ k : Nat, k ≤ 45 ∧ i = .int .i64 k ∧ Hid (Below w1.heap.size w1 wr)) (fun i _ => 45 - (intOf i).toNat)
  case atStart => exact ⟨0, by omega, rfl, Lib.hid (Below.refl _ _)⟩
  case round =>
    obtain ⟨k, hk, rfl, HBr⟩ := hrel
    have hsr := HBr.out.size
    by_cases hlt : k < 45
    · obtain ⟨r, hr⟩ := row_at hlt
      have hP := HT.out.below HBr.out hb2
      have c0 : wr.cell? ⟨b, k * 8, none⟩ = some (.int .i64 r.num) := hP.cell hr (j := 0) rfl
      have c1 : wr.cell? ⟨b, k * 8 + 1, none⟩ = some (.string r.name) := hP.cell hr (j := 1) rfl
      have HDr := Lib.hid ((HD.out.below HB.out hp).below HBr.out (by omega))
      have HL := Lib.hid (names_law r.num r.name)
      clear hr hP
      have hk0 : (0 : Int) ≤ (k : Int) := by omega
      have hk1 : (k : Int) < 45 := by omega
      go_wp2_with fail
      go_region_held3 (fun w' => w'.cell? ⟨b, k * 8, none⟩ = some (.int .i64 r.num) ∧ w'.cell? ⟨b, k * 8 + 1, none⟩ = some (.string r.name)) (first | exact ⟨q0, q1⟩ | go_keep)
        (first | (go_at_call 4; refine (HL.out wr.drew HDr.out).mono ?_; rintro e w2 ⟨rfl, hb3⟩; have q0 := (hb3.cell (p := ⟨b, k * 8, none⟩) (by simp; omega)).trans c0; have q1 := (hb3.cell (p := ⟨b, k * 8 + 1, none⟩) (by simp; omega)).trans c1))
      go_wp2
      go_roundw
      case rel => exact ⟨k + 1, by omega, by go_num, Lib.hid (HBr.out.trans (Below.trans (by exact ((Below.refl _ wr).drew)) (hb3.mono hsr)))⟩
      case measure => simp [intOf]; omega
    · obtain rfl : k = 45 := by omega
      have hb0 := below_lo
      go_wp2_with fail
      go_loopw [3, 4] (fun nv i wr' => ∃ (k : Int), -5 ≤ k ∧ k ≤ 1100 ∧ i = .int .i64 k ∧ nv = .int .i64 (below k tab) ∧ Hid (Below wr.heap.size wr wr')) (fun _ i _ => (1100 - intOf i).toNat)
      case atStart => exact ⟨-5, by omega, by omega, rfl, by rw [hb0]; rfl, Lib.hid (Below.refl _ _)⟩
      case round =>
        clear hb0
        obtain ⟨k, hk0, hk1, rfl, rfl, HBk⟩ := hrel
        rename_i wk
        have hsk := HBk.out.size
        have hle := below_le k
        by_cases hlt : k < 1100
        · have HNa := Lib.hid (name_any k)
          cases ho : ofNum k tab with
          | none =>
            have E := Lib.hid (below_none ho)
            rw [ho] at HNa
            clear ho
            go_wp2_with fail
            refine (HNa.out _).mono ?_
            rintro e w2 ⟨rfl, hb3⟩
            simp only [nameOf]
            go_wp2
            go_roundw
            case rel => exact ⟨k + 1, by omega, by omega, rfl, by rw [E.out], Lib.hid (HBk.out.trans (hb3.mono hsk))⟩
            case measure => simp [intOf]; omega
          | some r =>
            have E := Lib.hid (below_some nums_apart ho)
            have hne := names_full r (ofNum_mem ho)
            have hne2 : (!r.name.toList.isEmpty) = true := by rw [hne]; rfl
            rw [ho] at HNa
            clear ho
            go_wp2_with fail
            refine (HNa.out _).mono ?_
            rintro e w2 ⟨rfl, hb3⟩
            simp only [nameOf]
            go_wp2
            go_roundw
            case rel => exact ⟨k + 1, by omega, by omega, rfl, by rw [E.out]; go_num, Lib.hid (HBk.out.trans (hb3.mono hsk))⟩
            case measure => simp [intOf]; omega
        · obtain rfl : k = 1100 := by omega
          rw [below_hi]
          have HDk := Lib.hid (((HD.out.below HB.out hp).below HBr.out (by omega)).below HBk.out (by omega))
          go_wp2_with fail
          refine (awake_true _ HDk.out).mono ?_
          rintro e w6 ⟨rfl, hb6⟩
          go_wp2
          go_ret
          exact ⟨rfl, HB.out.trans ((HBr.out.mono hs1).trans ((HBk.out.mono (by omega)).trans (hb6.mono (by omega))))⟩
end Go.Proofs.YtmijknodkoblbaaDoor.PosTab
