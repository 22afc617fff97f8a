/- posix.Num and the document's Find. -/
import Derived.Test.YtmijknodkoblbaaDoorPosFind
namespace Go.Proofs.YtmijknodkoblbaaDoor.PosTab
open Go.RowKit

def numOf : Option CRow → Int
  | some r => r.num
  | none => 0

set_option maxHeartbeats 2000000 in
theorem num_any (s : ByteArray) (w : World) : Calls Tryd.prog 14 #[.string s] w fun e w' => e = .returned (.tuple #[.int .i64 (numOf (ofName s tab)), .bool (ofName s tab).isSome]) ∧ Below w.heap.size w w' := by
  obtain ⟨o, ho⟩ : ∃ o, o = ofName s tab := ⟨_, rfl⟩
  rw [← ho]
  have HO := Lib.hid ho
  clear ho
  go_enter Tryd.func14, Tryd.ntmps14
  go_wp2_with fail
  refine (table_any _).mono ?_
  rintro e w2 ⟨b, rfl, hb1, hb2, hT, hbw⟩
  have HT := Lib.hid hT
  clear hT
  go_wp2
  go_loopw [8] (fun i wr => ∃ k : Nat, k ≤ 45 ∧ i = .int .i64 k ∧ Below w2.heap.size w2 wr ∧ Hid (∀ j x, j < k → tab[j]? = some x → (x.name.toList == s.toList) = false)) (fun i _ => 45 - (intOf i).toNat)
  case atStart => exact ⟨0, by omega, rfl, Below.refl _ _, Lib.hid (fun j x hj => by omega)⟩
  case round =>
    obtain ⟨k, hk, rfl, hb, HN⟩ := hrel
    have hsz := hb.size
    have hwsz := hbw.size
    have hlb : b < wr.heap.size := by omega
    by_cases hlt : k < 45
    · obtain ⟨r, hr⟩ := row_at hlt
      have hP := HT.out.below hb hb2
      have c0 : wr.cell? ⟨b, k * 7, none⟩ = some (.int .i64 r.num) := hP.cell hr (j := 0) rfl
      have c1 : wr.cell? ⟨b, k * 7 + 1, none⟩ = some (.string r.name) := hP.cell hr (j := 1) rfl
      have c2 : wr.cell? ⟨b, k * 7 + 2, none⟩ = some (.string r.routine) := hP.cell hr (j := 2) rfl
      have c3 : wr.cell? ⟨b, k * 7 + 3, none⟩ = some (.int .i64 r.k0) := hP.cell hr (j := 3) rfl
      have c4 : wr.cell? ⟨b, k * 7 + 4, none⟩ = some (.int .i64 r.k1) := hP.cell hr (j := 4) rfl
      have c5 : wr.cell? ⟨b, k * 7 + 5, none⟩ = some (.int .i64 r.k2) := hP.cell hr (j := 5) rfl
      have c6 : wr.cell? ⟨b, k * 7 + 6, none⟩ = some (.int .i64 r.k3) := hP.cell hr (j := 6) rfl
      have HRr := Lib.hid hr
      clear hP hr
      by_cases he : (r.name.toList == s.toList) = true
      · have hof := ofName_take HN.out HRr.out he
        rw [← HO.out] at hof
        have HF := Lib.hid hof
        clear hof
        go_wp2
        go_ret2
        rw [HF.out]
        exact ⟨rfl, (hbw.trans (hb.mono (by omega))).alloc (by omega) _⟩
      · have he' : (r.name.toList == s.toList) = false := by simpa using he
        clear he
        have HE := Lib.hid he'
        go_wp2
        go_roundw
        case rel =>
          refine ⟨k + 1, by omega, by go_num, hb.alloc (by omega) _, Lib.hid fun j x hj hx => ?_⟩
          by_cases e : j = k
          · subst e
            rw [HRr.out] at hx
            cases hx
            exact HE.out
          · exact HN.out j x (by omega) hx
        case measure => simp [intOf]; omega
    · obtain rfl : k = 45 := by omega
      have hof : o = none := by rw [HO.out]; exact ofName_none (by rw [tab_len]; exact HN.out)
      subst hof
      go_wp2
      go_ret2
      exact ⟨rfl, hbw.trans (hb.mono (by omega))⟩

/-- A block of eight cells. -/
def Box8 (w : World) (b : Nat) (v0 v1 v2 v3 v4 v5 v6 v7 : Value) : Prop := w.cell? ⟨b, 0, none⟩ = some v0 ∧ w.cell? ⟨b, 1, none⟩ = some v1 ∧ w.cell? ⟨b, 2, none⟩ = some v2 ∧ w.cell? ⟨b, 3, none⟩ = some v3 ∧ w.cell? ⟨b, 4, none⟩ = some v4 ∧ w.cell? ⟨b, 5, none⟩ = some v5 ∧ w.cell? ⟨b, 6, none⟩ = some v6 ∧ w.cell? ⟨b, 7, none⟩ = some v7 ∧ ∀ o, w.frozen? ⟨b, o, none⟩ = false
theorem Box8.new (w : World) (n : Nat) (h : n = w.heap.size) (t : TypeId) (v0 v1 v2 v3 v4 v5 v6 v7 : Value) : Box8 (w.alloc (.cells #[v0, v1, v2, v3, v4, v5, v6, v7] t)) n v0 v1 v2 v3 v4 v5 v6 v7 :=
  ⟨World.cell?_alloc_at _ _ _ _ h, World.cell?_alloc_at _ _ _ _ h, World.cell?_alloc_at _ _ _ _ h, World.cell?_alloc_at _ _ _ _ h, World.cell?_alloc_at _ _ _ _ h, World.cell?_alloc_at _ _ _ _ h, World.cell?_alloc_at _ _ _ _ h, World.cell?_alloc_at _ _ _ _ h, fun _ => World.frozen?_alloc_at _ _ _ _ h⟩
theorem Box8.below {w w' : World} {b B : Nat} {v0 v1 v2 v3 v4 v5 v6 v7 : Value} (h : Box8 w b v0 v1 v2 v3 v4 v5 v6 v7) (hb : Below B w w') (hB : b < B) : Box8 w' b v0 v1 v2 v3 v4 v5 v6 v7 := by
  obtain ⟨h0, h1, h2, h3, h4, h5, h6, h7, h8⟩ := h
  exact ⟨(hb.cell (p := ⟨b, 0, none⟩) hB).trans h0, (hb.cell (p := ⟨b, 1, none⟩) hB).trans h1, (hb.cell (p := ⟨b, 2, none⟩) hB).trans h2, (hb.cell (p := ⟨b, 3, none⟩) hB).trans h3, (hb.cell (p := ⟨b, 4, none⟩) hB).trans h4, (hb.cell (p := ⟨b, 5, none⟩) hB).trans h5, (hb.cell (p := ⟨b, 6, none⟩) hB).trans h6, (hb.cell (p := ⟨b, 7, none⟩) hB).trans h7, fun o => (hb.frozen (p := ⟨b, o, none⟩) hB).trans (h8 o)⟩

def refV : Option CRow → Value
  | some r => .agg #[.int .i64 r.num, .string r.name, .string r.routine, .int .i64 r.layer, .int .i64 r.k0, .int .i64 r.k1, .int .i64 r.k2, .int .i64 r.k3]
  | none => .agg #[.int .i64 0, .string ⟨#[]⟩, .string ⟨#[]⟩, .int .i64 0, .int .i64 0, .int .i64 0, .int .i64 0, .int .i64 0]

set_option maxHeartbeats 2000000 in
theorem find_any (n : Int) (w : World) : Calls Tryd.prog 10 #[.int .i64 n] w fun e w' => e = .returned (.tuple #[refV (ofNum n tab), .bool (ofNum n tab).isSome]) ∧ Below w.heap.size w w' := by
  obtain ⟨o, ho⟩ : ∃ o, o = ofNum n tab := ⟨_, rfl⟩
  rw [← ho]
  have HO := Lib.hid ho
  clear ho
  go_enter Tryd.func10, Tryd.ntmps10
  go_wp2_with fail
  refine (calls_any _).mono ?_
  rintro e w2 ⟨b, rfl, hb1, hb2, hT, hbl⟩
  have HT := Lib.hid hT
  have HR := Lib.hid (Box8.below (Box8.new w _ rfl 34 (.int .i64 0) (.string ⟨#[]⟩) (.string ⟨#[]⟩) (.int .i64 0) (.int .i64 0) (.int .i64 0) (.int .i64 0) (.int .i64 0)) hbl (by simp))
  have hbw : Below w.heap.size w w2 := ((Below.refl w.heap.size w).alloc (Nat.le_refl _) _).trans (hbl.mono (by simp))
  simp at hb1
  clear hT hbl
  go_wp2
  go_loopw [5] (fun i wr => ∃ k : Nat, k ≤ 45 ∧ i = .int .i64 k ∧ w2 = wr ∧ Hid (∀ j x, j < k → tab[j]? = some x → x.num ≠ n)) (fun i _ => 45 - (intOf i).toNat)
  case atStart => exact ⟨0, by omega, rfl, rfl, Lib.hid (fun j x hj => by omega)⟩
  case round =>
    obtain ⟨k, hk, rfl, rfl, HN⟩ := hrel
    have hlR : w.heap.size < w2.heap.size := by omega
    by_cases hlt : k < 45
    · obtain ⟨r, hr⟩ := row_at hlt
      have hP := HT.out
      have c0 : w2.cell? ⟨b, k * 8, none⟩ = some (.int .i64 r.num) := hP.cell hr (j := 0) rfl
      have c1 : w2.cell? ⟨b, k * 8 + 1, none⟩ = some (.string r.name) := hP.cell hr (j := 1) rfl
      have c2 : w2.cell? ⟨b, k * 8 + 2, none⟩ = some (.string r.routine) := hP.cell hr (j := 2) rfl
      have c3 : w2.cell? ⟨b, k * 8 + 3, none⟩ = some (.int .i64 r.layer) := hP.cell hr (j := 3) rfl
      have c4 : w2.cell? ⟨b, k * 8 + 4, none⟩ = some (.int .i64 r.k0) := hP.cell hr (j := 4) rfl
      have c5 : w2.cell? ⟨b, k * 8 + 5, none⟩ = some (.int .i64 r.k1) := hP.cell hr (j := 5) rfl
      have c6 : w2.cell? ⟨b, k * 8 + 6, none⟩ = some (.int .i64 r.k2) := hP.cell hr (j := 6) rfl
      have c7 : w2.cell? ⟨b, k * 8 + 7, none⟩ = some (.int .i64 r.k3) := hP.cell hr (j := 7) rfl
      have HRr := Lib.hid hr
      clear hP hr
      by_cases he : (r.num == n) = true
      · have hn : r.num = n := by simpa using he
        have hof := ofNum_take HN.out HRr.out hn
        rw [← HO.out] at hof
        obtain ⟨g0, g1, g2, g3, g4, g5, g6, g7, g8⟩ := HR.out
        have HF := Lib.hid hof
        clear hof hn
        go_wp2
        refine bodyPost_ret (v := .tuple #[.agg #[.int .i64 r.num, .string r.name, .string r.routine, .int .i64 r.layer, .int .i64 r.k0, .int .i64 r.k1, .int .i64 r.k2, .int .i64 r.k3], .bool true]) (by simp [results, Tryd.results10, go_sem, g0, g1, g2, g3, g4, g5, g6, g7]) rfl ?_
        rw [HF.out]
        refine ⟨rfl, ?_⟩
        iterate 8 (refine Below.setCell ?_ (by exact Nat.le_refl _) _)
        exact hbw
      · have he' : (r.num == n) = false := by simpa using he
        have hn : r.num ≠ n := by simpa using he'
        clear he
        go_wp2
        go_roundw
        case rel =>
          refine ⟨k + 1, by omega, by go_num, by first | rfl | trivial, Lib.hid fun j x hj hx => ?_⟩
          by_cases e : j = k
          · subst e
            rw [HRr.out] at hx
            cases hx
            exact hn
          · exact HN.out j x (by omega) hx
        case measure => simp [intOf]; omega
    · obtain rfl : k = 45 := by omega
      have hof : o = none := by rw [HO.out]; exact ofNum_none (by rw [tab_len]; exact HN.out)
      subst hof
      obtain ⟨g0, g1, g2, g3, g4, g5, g6, g7, g8⟩ := HR.out
      go_wp2
      refine bodyPost_ret (v := .tuple #[.agg #[.int .i64 0, .string ⟨#[]⟩, .string ⟨#[]⟩, .int .i64 0, .int .i64 0, .int .i64 0, .int .i64 0, .int .i64 0], .bool false]) (by simp [results, Tryd.results10, go_sem, g0, g1, g2, g3, g4, g5, g6, g7]) rfl ?_
      refine ⟨rfl, ?_⟩
      iterate 8 (refine Below.setCell ?_ (by exact Nat.le_refl _) _)
      exact hbw
end Go.Proofs.YtmijknodkoblbaaDoor.PosTab
