/- posix.of, Num, Name, Kinds and the document's Find: searches in the plain table. -/
import Derived.Test.YtmijknodkoblbaaDoorPosCalls
namespace Go.Proofs.YtmijknodkoblbaaDoor.PosTab
open Go.RowKit

theorem ProgTab.cell {w : World} {b : Nat} (h : ProgTab w b) {k : Nat} {r : CRow} (hr : tab[k]? = some r) {j : Nat} {v : Value} (hj : r.prog[j]? = some v) : w.cell? ⟨b, k * 7 + j, none⟩ = some v := by
  obtain ⟨fr, h⟩ := h
  have hj7 : j < 7 := by have := (List.getElem?_eq_some_iff.1 hj).1; simpa [CRow.prog] using this
  have e := flat_at CRow.prog 7 (fun _ => rfl) tab k j r hr hj7
  simp only [World.cell?, h]
  simpa [e] using hj
theorem RefTab.cell {w : World} {b : Nat} (h : RefTab w b) {k : Nat} {r : CRow} (hr : tab[k]? = some r) {j : Nat} {v : Value} (hj : r.ref[j]? = some v) : w.cell? ⟨b, k * 8 + j, none⟩ = some v := by
  obtain ⟨fr, h⟩ := h
  have hj7 : j < 8 := by have := (List.getElem?_eq_some_iff.1 hj).1; simpa [CRow.ref] using this
  have e := flat_at CRow.ref 8 (fun _ => rfl) tab k j r hr hj7
  simp only [World.cell?, h]
  simpa [e] using hj
theorem ProgTab.below {w w' : World} {b B : Nat} (h : ProgTab w b) (hb : Below B w w') (hB : b < B) : ProgTab w' b := by
  obtain ⟨fr, h⟩ := h
  exact ⟨fr, (hb.block b hB).trans h⟩
theorem RefTab.below {w w' : World} {b B : Nat} (h : RefTab w b) (hb : Below B w w') (hB : b < B) : RefTab w' b := by
  obtain ⟨fr, h⟩ := h
  exact ⟨fr, (hb.block b hB).trans h⟩

def progV : Option CRow → Value
  | some r => .agg #[.int .i64 r.num, .string r.name, .string r.routine, .int .i64 r.k0, .int .i64 r.k1, .int .i64 r.k2, .int .i64 r.k3]
  | none => .agg #[.int .i64 0, .string ⟨#[]⟩, .string ⟨#[]⟩, .int .i64 0, .int .i64 0, .int .i64 0, .int .i64 0]

theorem row_at {k : Nat} (h : k < 45) : ∃ r, tab[k]? = some r := ⟨_, List.getElem?_eq_getElem (by rw [tab_len]; exact h)⟩

/-- A block of seven cells. -/
def Box7 (w : World) (b : Nat) (v0 v1 v2 v3 v4 v5 v6 : Value) : Prop := w.cell? ⟨b, 0, none⟩ = some v0 ∧ w.cell? ⟨b, 1, none⟩ = some v1 ∧ w.cell? ⟨b, 2, none⟩ = some v2 ∧ w.cell? ⟨b, 3, none⟩ = some v3 ∧ w.cell? ⟨b, 4, none⟩ = some v4 ∧ w.cell? ⟨b, 5, none⟩ = some v5 ∧ w.cell? ⟨b, 6, none⟩ = some v6 ∧ ∀ o, w.frozen? ⟨b, o, none⟩ = false
theorem Box7.new (w : World) (n : Nat) (h : n = w.heap.size) (t : TypeId) (v0 v1 v2 v3 v4 v5 v6 : Value) : Box7 (w.alloc (.cells #[v0, v1, v2, v3, v4, v5, v6] t)) n v0 v1 v2 v3 v4 v5 v6 :=
  ⟨World.cell?_alloc_at _ _ _ _ h, World.cell?_alloc_at _ _ _ _ h, World.cell?_alloc_at _ _ _ _ h, World.cell?_alloc_at _ _ _ _ h, World.cell?_alloc_at _ _ _ _ h, World.cell?_alloc_at _ _ _ _ h, World.cell?_alloc_at _ _ _ _ h, fun _ => World.frozen?_alloc_at _ _ _ _ h⟩
theorem Box7.below {w w' : World} {b B : Nat} {v0 v1 v2 v3 v4 v5 v6 : Value} (h : Box7 w b v0 v1 v2 v3 v4 v5 v6) (hb : Below B w w') (hB : b < B) : Box7 w' b v0 v1 v2 v3 v4 v5 v6 := by
  obtain ⟨h0, h1, h2, h3, h4, h5, h6, h7⟩ := h
  exact ⟨(hb.cell (p := ⟨b, 0, none⟩) hB).trans h0, (hb.cell (p := ⟨b, 1, none⟩) hB).trans h1, (hb.cell (p := ⟨b, 2, none⟩) hB).trans h2, (hb.cell (p := ⟨b, 3, none⟩) hB).trans h3, (hb.cell (p := ⟨b, 4, none⟩) hB).trans h4, (hb.cell (p := ⟨b, 5, none⟩) hB).trans h5, (hb.cell (p := ⟨b, 6, none⟩) hB).trans h6, fun o => (hb.frozen (p := ⟨b, o, none⟩) hB).trans (h7 o)⟩

set_option maxHeartbeats 2000000 in
theorem of_any (n : Int) (w : World) : Calls Tryd.prog 19 #[.int .i64 n] w fun e w' => e = .returned (.tuple #[progV (ofNum n tab), .bool (ofNum n tab).isSome]) ∧ Below w.heap.size w w' := by
  obtain ⟨o, ho⟩ : ∃ o, o = ofNum n tab := ⟨_, rfl⟩
  rw [← ho]
  have HO := Lib.hid ho
  clear ho
  go_enter Tryd.func19, Tryd.ntmps19
  go_wp2_with fail
  refine (table_any _).mono ?_
  rintro e w2 ⟨b, rfl, hb1, hb2, hT, hbl⟩
  have HT := Lib.hid hT
  have HR := Lib.hid (Box7.below (Box7.new w _ rfl 59 (.int .i64 0) (.string ⟨#[]⟩) (.string ⟨#[]⟩) (.int .i64 0) (.int .i64 0) (.int .i64 0) (.int .i64 0)) hbl (by simp))
  have hbw : Below w.heap.size w w2 := ((Below.refl w.heap.size w).alloc (Nat.le_refl _) _).trans (hbl.mono (by simp))
  simp at hb1
  clear hT hbl
  go_wp2
  go_loopw [8] (fun i wr => ∃ k : Nat, k ≤ 45 ∧ i = .int .i64 k ∧ Below w2.heap.size w2 wr ∧ Hid (∀ j x, j < k → tab[j]? = some x → x.num ≠ n)) (fun i _ => 45 - (intOf i).toNat)
  case atStart => exact ⟨0, by omega, rfl, Below.refl _ _, Lib.hid (fun j x hj => by omega)⟩
  case round =>
    obtain ⟨k, hk, rfl, hb, HN⟩ := hrel
    have hsz := hb.size
    have hlR : w.heap.size < wr.heap.size := by omega
    have hlb : b < wr.heap.size := by omega
    by_cases hlt : k < 45
    · obtain ⟨r, hr⟩ := row_at hlt
      have hP := HT.out.below hb hb2
      have c0 : wr.cell? ⟨b, k * 7, none⟩ = some (.int .i64 r.num) := hP.cell hr (j := 0) rfl
      have c1 : wr.cell? ⟨b, k * 7 + 1, none⟩ = some (.string r.name) := hP.cell hr (j := 1) rfl
      have c2 : wr.cell? ⟨b, k * 7 + 2, none⟩ = some (.string r.routine) := hP.cell hr (j := 2) rfl
      have c3 : wr.cell? ⟨b, k * 7 + 3, none⟩ = some (.int .i64 r.k0) := hP.cell hr (j := 3) rfl
      have c4 : wr.cell? ⟨b, k * 7 + 4, none⟩ = some (.int .i64 r.k1) := hP.cell hr (j := 4) rfl
      have c5 : wr.cell? ⟨b, k * 7 + 5, none⟩ = some (.int .i64 r.k2) := hP.cell hr (j := 5) rfl
      have c6 : wr.cell? ⟨b, k * 7 + 6, none⟩ = some (.int .i64 r.k3) := hP.cell hr (j := 6) rfl
      have HRr := Lib.hid hr
      clear hP hr
      by_cases he : (r.num == n) = true
      · have hn : r.num = n := by simpa using he
        have hof := ofNum_take HN.out HRr.out hn
        rw [← HO.out] at hof
        obtain ⟨g0, g1, g2, g3, g4, g5, g6, g7⟩ := HR.out.below hb (by omega)
        have HF := Lib.hid hof
        clear hof hn
        go_wp2
        refine bodyPost_ret (v := .tuple #[.agg #[.int .i64 r.num, .string r.name, .string r.routine, .int .i64 r.k0, .int .i64 r.k1, .int .i64 r.k2, .int .i64 r.k3], .bool true]) (by simp [results, Tryd.results19, go_sem, g0, g1, g2, g3, g4, g5, g6, hlR]) rfl ?_
        rw [HF.out]
        refine ⟨rfl, ?_⟩
        have hB0 := hbw.trans (hb.mono (by omega))
        refine Below.alloc ?_ (by simp; omega) _
        iterate 7 (refine Below.setCell ?_ (by exact Nat.le_refl _) _)
        exact hB0
      · have he' : (r.num == n) = false := by simpa using he
        have hn : r.num ≠ n := by simpa using he'
        clear he
        go_wp2
        go_roundw
        case rel =>
          refine ⟨k + 1, by omega, by go_num, hb.alloc (by omega) _, Lib.hid fun j x hj hx => ?_⟩
          by_cases e : j = k
          · subst e
            rw [HRr.out] at hx
            cases hx
            exact hn
          · exact HN.out j x (by omega) hx
        case measure => simp [intOf]; omega
    · obtain rfl : k = 45 := by omega
      have hof : o = none := by rw [HO.out]; exact ofNum_none (by rw [tab_len]; exact HN.out)
      subst hof
      obtain ⟨g0, g1, g2, g3, g4, g5, g6, g7⟩ := HR.out.below hb (by omega)
      go_wp2
      refine bodyPost_ret (v := .tuple #[.agg #[.int .i64 0, .string ⟨#[]⟩, .string ⟨#[]⟩, .int .i64 0, .int .i64 0, .int .i64 0, .int .i64 0], .bool false]) (by simp [results, Tryd.results19, go_sem, g0, g1, g2, g3, g4, g5, g6]) rfl ?_
      refine ⟨rfl, ?_⟩
      have hB0 := hbw.trans (hb.mono (by omega))
      iterate 7 (refine Below.setCell ?_ (by exact Nat.le_refl _) _)
      exact hB0

theorem progV_form (o : Option CRow) : ∃ c0 c1 c2 k0 k1 k2 k3, progV o = .agg #[.int .i64 c0, .string c1, .string c2, .int .i64 k0, .int .i64 k1, .int .i64 k2, .int .i64 k3] := by
  cases o with
  | none => exact ⟨_, _, _, _, _, _, _, rfl⟩
  | some r => exact ⟨_, _, _, _, _, _, _, rfl⟩

def nameOf : Option CRow → ByteArray
  | some r => r.name
  | none => ⟨#[]⟩
def kindsOf : Option CRow → Value
  | some r => .agg #[.int .i64 r.k0, .int .i64 r.k1, .int .i64 r.k2, .int .i64 r.k3]
  | none => .agg #[.int .i64 0, .int .i64 0, .int .i64 0, .int .i64 0]

set_option maxHeartbeats 2000000 in
theorem name_any (n : Int) (w : World) : Calls Tryd.prog 12 #[.int .i64 n] w fun e w' => e = .returned (.string (nameOf (ofNum n tab))) ∧ Below w.heap.size w w' := by
  have H := Lib.hid (of_any n w)
  generalize ofNum n tab = o at H
  cases o with
  | none =>
    go_enter Tryd.func12, Tryd.ntmps12
    go_wp2_with (go_at_call 19; refine H.out.mono ?_; rintro e w' ⟨rfl, hb⟩; unfold progV)
    go_ret
    exact ⟨rfl, (‹Below w.heap.size w _›).alloc (‹Below w.heap.size w _›).size _⟩
  | some r =>
    go_enter Tryd.func12, Tryd.ntmps12
    go_wp2_with (go_at_call 19; refine H.out.mono ?_; rintro e w' ⟨rfl, hb⟩; unfold progV)
    go_ret
    exact ⟨rfl, (‹Below w.heap.size w _›).alloc (‹Below w.heap.size w _›).size _⟩

set_option maxHeartbeats 2000000 in
theorem kinds_any (n : Int) (w : World) : Calls Tryd.prog 11 #[.int .i64 n] w fun e w' => e = .returned (.tuple #[kindsOf (ofNum n tab), .bool (ofNum n tab).isSome]) ∧ Below w.heap.size w w' := by
  have H := Lib.hid (fun W => of_any n W)
  generalize ofNum n tab = o at H
  obtain ⟨kv, hkv⟩ : ∃ kv, kv = kindsOf o := ⟨_, rfl⟩
  obtain ⟨is, his⟩ : ∃ is, is = o.isSome := ⟨_, rfl⟩
  obtain ⟨c0, c1, c2, k0, k1, k2, k3, hp⟩ := progV_form o
  have hk : kindsOf o = .agg #[.int .i64 k0, .int .i64 k1, .int .i64 k2, .int .i64 k3] := by
    cases o <;> cases hp <;> rfl
  rw [hk, ← his]
  rw [hp, ← his] at H
  clear hkv kv hp hk his
  go_enter Tryd.func11, Tryd.ntmps11
  go_wp2_with fail
  refine (H.out _).mono ?_
  rintro e w2 ⟨rfl, hb⟩
  have hb0 : Below w.heap.size w w2 := ((Below.refl w.heap.size w).alloc (Nat.le_refl _) _).trans (hb.mono (by simp))
  have hlR : w.heap.size < w2.heap.size := by have := hb.size; simp at this; omega
  have g0 : w2.cell? ⟨w.heap.size, 0, none⟩ = some (.int .i64 0) := (hb.cell (p := ⟨w.heap.size, 0, none⟩) (by simp)).trans (World.cell?_alloc_at _ _ _ _ rfl)
  have g1 : w2.cell? ⟨w.heap.size, 1, none⟩ = some (.int .i64 0) := (hb.cell (p := ⟨w.heap.size, 1, none⟩) (by simp)).trans (World.cell?_alloc_at _ _ _ _ rfl)
  have g2 : w2.cell? ⟨w.heap.size, 2, none⟩ = some (.int .i64 0) := (hb.cell (p := ⟨w.heap.size, 2, none⟩) (by simp)).trans (World.cell?_alloc_at _ _ _ _ rfl)
  have g3 : w2.cell? ⟨w.heap.size, 3, none⟩ = some (.int .i64 0) := (hb.cell (p := ⟨w.heap.size, 3, none⟩) (by simp)).trans (World.cell?_alloc_at _ _ _ _ rfl)
  have g4 : ∀ o, w2.frozen? ⟨w.heap.size, o, none⟩ = false := fun o => (hb.frozen (p := ⟨w.heap.size, o, none⟩) (by simp)).trans (World.frozen?_alloc_at _ _ _ _ rfl)
  clear hb
  go_wp2
  refine bodyPost_ret (v := .tuple #[.agg #[.int .i64 k0, .int .i64 k1, .int .i64 k2, .int .i64 k3], .bool is]) (by simp [results, Tryd.results11, go_sem, g0, g1, g2, g3, hlR]) rfl ?_
  refine ⟨rfl, ?_⟩
  refine Below.alloc ?_ (by simp; omega) _
  iterate 4 (refine Below.setCell ?_ (by exact Nat.le_refl _) _)
  exact hb0
end Go.Proofs.YtmijknodkoblbaaDoor.PosTab
