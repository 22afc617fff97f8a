/- posix.Problem and the document's: each code's error; and errors made of one place. · posix.Num and the document's Find. · distafflaw24.awake is true. -/
import Derived.Test.YtlpkafhboomjkaaGreatDoorErrs
import Derived.Test.YtlpkafhboomjkaaGreatDoorPosCalls
namespace Go.Proofs.YtlpkafhboomjkaaGreatDoor.Errs
open Go.RowKit Go.Extern.Stop Go.Stop Go.Extern

/-- An error comes out, the layers and places r, the kind k; what lay before lies as before. -/
def ErrOut (w : World) (r : List (ByteArray × Int)) (k : Int) (e : Ending) (w' : World) : Prop := ∃ v, e = .returned v ∧ IsErr w' r k v ∧ Below w.heap.size w w'
def FailOut (w : World) (r : List (ByteArray × Int)) (k : Int) (e : Ending) (w' : World) : Prop := ∃ v, e = .returned v ∧ IsFail w' r k v ∧ Below w.heap.size w w'

def posixS : ByteArray := ⟨#[112, 111, 115, 105, 120]⟩

theorem posfail_any (n k : Int) (w : World) : Calls Tryz.prog 22 #[.int .i64 n, .iface 79 (.int .i64 k)] w (ErrOut w [(posixS, n)] k) := by
  go_enter Tryz.func22, Tryz.ntmps22
  go_wp2
  go_ret
  refine ⟨_, rfl, ⟨w.heap.size, _, rfl, by simp, ?_, ?_, ?_, rfl⟩, (Below.refl _ _).alloc (Nat.le_refl _) _⟩
  all_goals simp [posixS]

theorem no_any (s : ByteArray) (n k : Int) (w : World) : Calls Tryz.prog 27 #[.string s, .int .i64 n, .int .i64 k] w (FailOut w [(s, n)] k) := by
  go_enter Tryz.func27, Tryz.ntmps27
  go_wp2
  go_ret
  refine ⟨_, rfl, ⟨w.heap.size + 1 + 1, some ⟨w.heap.size, 0, none⟩, some ⟨w.heap.size + 1, 0, none⟩, 1, 1, rfl, by simp, ?_, ?_, ?_, ?_⟩, ?_⟩
  · exact World.cell?_alloc_at _ _ _ _ (by simp)
  · exact World.cell?_alloc_at _ _ _ _ (by simp)
  · exact World.cell?_alloc_at _ _ _ _ (by simp)
  · intro i s' n' hi
    match i, hi with
    | 0, hi =>
      simp at hi
      obtain ⟨rfl, rfl⟩ := hi
      exact ⟨w.heap.size, 0, w.heap.size + 1, 0, rfl, rfl, (by simp; try omega), (by simp; try omega), by rw [World.cell?_alloc_lt _ _ _ (by simp; try omega), World.cell?_alloc_lt _ _ _ (by simp)]; exact World.cell?_alloc_at _ _ _ _ rfl, by rw [World.cell?_alloc_lt _ _ _ (by simp)]; exact World.cell?_alloc_at _ _ _ _ (by simp)⟩
    | i + 1, hi => simp at hi
  · repeat (first | exact Below.refl _ _ | refine Below.alloc ?_ (by simp; try omega) _)

def kindOf (c : Int) : Int := if c = 1 ∨ c = 11 ∨ c = 16 ∨ c = 35 ∨ c = 110 then 8 else if c = 3 ∨ c = 38 then 7 else if c = 12 then 3 else 1

theorem kindOf_range (c : Int) : 1 ≤ kindOf c ∧ kindOf c ≤ 10 := by
  unfold kindOf; split
  · omega
  · split
    · omega
    · split <;> omega

theorem problem_ok (n : Int) (w : World) : Calls Tryz.prog 26 #[.int .i64 n, .int .u64 0] w fun e w' => e = .returned .nilIface ∧ w = w' := by
  go_enter Tryz.func26, Tryz.ntmps26
  go_wp2
  go_ret
  exact ⟨rfl, rfl⟩

set_option maxHeartbeats 1000000 in
theorem problem_err (n c : Int) (w : World) (hc : c ≠ 0) : Calls Tryz.prog 26 #[.int .i64 n, .int .u64 c] w (ErrOut w [(posixS, n)] (kindOf c)) := by
  have HF := Lib.hid (fun k => posfail_any n k w)
  by_cases h1 : c = 1 ∨ c = 11 ∨ c = 16 ∨ c = 35 ∨ c = 110 ∨ c = 3 ∨ c = 38 ∨ c = 12
  · rcases h1 with rfl | rfl | rfl | rfl | rfl | rfl | rfl | rfl
    all_goals
      go_enter Tryz.func26, Tryz.ntmps26
      go_wp2_with (go_at_call 22; refine (HF.out _).mono ?_; rintro e w' ⟨v, rfl, hq1, hq2⟩)
      go_ret
      exact ⟨v, rfl, hq1, hq2⟩
  · have hk : kindOf c = 1 := by
      unfold kindOf
      rw [if_neg (by omega), if_neg (by omega), if_neg (by omega)]
    rw [hk]
    have b0 : (c == 0) = false := by simp [hc]
    have b1 : (c == 1) = false := by simp; omega
    have b2 : (c == 11) = false := by simp; omega
    have b3 : (c == 16) = false := by simp; omega
    have b4 : (c == 35) = false := by simp; omega
    have b5 : (c == 110) = false := by simp; omega
    have b6 : (c == 3) = false := by simp; omega
    have b7 : (c == 38) = false := by simp; omega
    have b8 : (c == 12) = false := by simp; omega
    clear hk h1 hc
    go_enter Tryz.func26, Tryz.ntmps26
    go_wp2_with (go_at_call 22; refine (HF.out _).mono ?_; rintro e w' ⟨v, rfl, hq1, hq2⟩)
    go_ret
    exact ⟨v, rfl, hq1, hq2⟩
end Go.Proofs.YtlpkafhboomjkaaGreatDoor.Errs
namespace Go.Proofs.YtlpkafhboomjkaaGreatDoor.PosTab
open Go.RowKit

theorem ProgTab.cell {w : World} {b : Nat} (h : ProgTab w b) {k : Nat} {r : CRow} (hr : tab[k]? = some r) {j : Nat} {v : Value} (hj : r.prog[j]? = some v) : w.cell? ⟨b, k * 7 + j, none⟩ = some v := by
  obtain ⟨fr, h⟩ := h
  have hj7 : j < 7 := by have := (List.getElem?_eq_some_iff.1 hj).1; simpa [CRow.prog] using this
  have e := flat_at CRow.prog 7 (fun _ => rfl) tab k j r hr hj7
  simp only [World.cell?, h]
  simpa [e] using hj
theorem RefTab.cell {w : World} {b : Nat} (h : RefTab w b) {k : Nat} {r : CRow} (hr : tab[k]? = some r) {j : Nat} {v : Value} (hj : r.ref[j]? = some v) : w.cell? ⟨b, k * 8 + j, none⟩ = some v := by
  obtain ⟨fr, h⟩ := h
  have hj7 : j < 8 := by have := (List.getElem?_eq_some_iff.1 hj).1; simpa [CRow.ref] using this
  have e := flat_at CRow.ref 8 (fun _ => rfl) tab k j r hr hj7
  simp only [World.cell?, h]
  simpa [e] using hj
theorem ProgTab.below {w w' : World} {b B : Nat} (h : ProgTab w b) (hb : Below B w w') (hB : b < B) : ProgTab w' b := by
  obtain ⟨fr, h⟩ := h
  exact ⟨fr, (hb.block b hB).trans h⟩
theorem RefTab.below {w w' : World} {b B : Nat} (h : RefTab w b) (hb : Below B w w') (hB : b < B) : RefTab w' b := by
  obtain ⟨fr, h⟩ := h
  exact ⟨fr, (hb.block b hB).trans h⟩

def progV : Option CRow → Value
  | some r => .agg #[.int .i64 r.num, .string r.name, .string r.routine, .int .i64 r.k0, .int .i64 r.k1, .int .i64 r.k2, .int .i64 r.k3]
  | none => .agg #[.int .i64 0, .string ⟨#[]⟩, .string ⟨#[]⟩, .int .i64 0, .int .i64 0, .int .i64 0, .int .i64 0]

theorem row_at {k : Nat} (h : k < 45) : ∃ r, tab[k]? = some r := ⟨_, List.getElem?_eq_getElem (by rw [tab_len]; exact h)⟩

/-- A block of seven cells. -/
def Box7 (w : World) (b : Nat) (v0 v1 v2 v3 v4 v5 v6 : Value) : Prop := w.cell? ⟨b, 0, none⟩ = some v0 ∧ w.cell? ⟨b, 1, none⟩ = some v1 ∧ w.cell? ⟨b, 2, none⟩ = some v2 ∧ w.cell? ⟨b, 3, none⟩ = some v3 ∧ w.cell? ⟨b, 4, none⟩ = some v4 ∧ w.cell? ⟨b, 5, none⟩ = some v5 ∧ w.cell? ⟨b, 6, none⟩ = some v6 ∧ ∀ o, w.frozen? ⟨b, o, none⟩ = false
theorem Box7.new (w : World) (n : Nat) (h : n = w.heap.size) (t : TypeId) (v0 v1 v2 v3 v4 v5 v6 : Value) : Box7 (w.alloc (.cells #[v0, v1, v2, v3, v4, v5, v6] t)) n v0 v1 v2 v3 v4 v5 v6 :=
  ⟨World.cell?_alloc_at _ _ _ _ h, World.cell?_alloc_at _ _ _ _ h, World.cell?_alloc_at _ _ _ _ h, World.cell?_alloc_at _ _ _ _ h, World.cell?_alloc_at _ _ _ _ h, World.cell?_alloc_at _ _ _ _ h, World.cell?_alloc_at _ _ _ _ h, fun _ => World.frozen?_alloc_at _ _ _ _ h⟩
theorem Box7.below {w w' : World} {b B : Nat} {v0 v1 v2 v3 v4 v5 v6 : Value} (h : Box7 w b v0 v1 v2 v3 v4 v5 v6) (hb : Below B w w') (hB : b < B) : Box7 w' b v0 v1 v2 v3 v4 v5 v6 := by
  obtain ⟨h0, h1, h2, h3, h4, h5, h6, h7⟩ := h
  exact ⟨(hb.cell (p := ⟨b, 0, none⟩) hB).trans h0, (hb.cell (p := ⟨b, 1, none⟩) hB).trans h1, (hb.cell (p := ⟨b, 2, none⟩) hB).trans h2, (hb.cell (p := ⟨b, 3, none⟩) hB).trans h3, (hb.cell (p := ⟨b, 4, none⟩) hB).trans h4, (hb.cell (p := ⟨b, 5, none⟩) hB).trans h5, (hb.cell (p := ⟨b, 6, none⟩) hB).trans h6, fun o => (hb.frozen (p := ⟨b, o, none⟩) hB).trans (h7 o)⟩


def numOf : Option CRow → Int
  | some r => r.num
  | none => 0

set_option maxHeartbeats 2000000 in
theorem num_any (s : ByteArray) (w : World) : Calls Tryz.prog 25 #[.string s] w fun e w' => e = .returned (.tuple #[.int .i64 (numOf (ofName s tab)), .bool (ofName s tab).isSome]) ∧ Below w.heap.size w w' := by
  obtain ⟨o, ho⟩ : ∃ o, o = ofName s tab := ⟨_, rfl⟩
  rw [← ho]
  have HO := Lib.hid ho
  clear ho
  go_enter Tryz.func25, Tryz.ntmps25
  go_wp2_with fail
  refine (table_any _).mono ?_
  rintro e w2 ⟨b, rfl, hb1, hb2, hT, hbw⟩
  have HT := Lib.hid hT
  clear hT
  go_wp2
  go_loopw [8] (fun i wr => ∃ k : Nat, k ≤ 45 ∧ i = .int .i64 k ∧ Below w2.heap.size w2 wr ∧ Hid (∀ j x, j < k → tab[j]? = some x → (x.name.toList == s.toList) = false)) (fun i _ => 45 - (intOf i).toNat)
  case atStart => exact ⟨0, by omega, rfl, Below.refl _ _, Lib.hid (fun j x hj => by omega)⟩
  case round =>
    obtain ⟨k, hk, rfl, hb, HN⟩ := hrel
    have hsz := hb.size
    have hwsz := hbw.size
    have hlb : b < wr.heap.size := by omega
    by_cases hlt : k < 45
    · obtain ⟨r, hr⟩ := row_at hlt
      have hP := HT.out.below hb hb2
      have c0 : wr.cell? ⟨b, k * 7, none⟩ = some (.int .i64 r.num) := hP.cell hr (j := 0) rfl
      have c1 : wr.cell? ⟨b, k * 7 + 1, none⟩ = some (.string r.name) := hP.cell hr (j := 1) rfl
      have c2 : wr.cell? ⟨b, k * 7 + 2, none⟩ = some (.string r.routine) := hP.cell hr (j := 2) rfl
      have c3 : wr.cell? ⟨b, k * 7 + 3, none⟩ = some (.int .i64 r.k0) := hP.cell hr (j := 3) rfl
      have c4 : wr.cell? ⟨b, k * 7 + 4, none⟩ = some (.int .i64 r.k1) := hP.cell hr (j := 4) rfl
      have c5 : wr.cell? ⟨b, k * 7 + 5, none⟩ = some (.int .i64 r.k2) := hP.cell hr (j := 5) rfl
      have c6 : wr.cell? ⟨b, k * 7 + 6, none⟩ = some (.int .i64 r.k3) := hP.cell hr (j := 6) rfl
      have HRr := Lib.hid hr
      clear hP hr
      by_cases he : (r.name.toList == s.toList) = true
      · have hof := ofName_take HN.out HRr.out he
        rw [← HO.out] at hof
        have HF := Lib.hid hof
        clear hof
        go_wp2
        go_ret2
        rw [HF.out]
        exact ⟨rfl, (hbw.trans (hb.mono (by omega))).alloc (by omega) _⟩
      · have he' : (r.name.toList == s.toList) = false := by simpa using he
        clear he
        have HE := Lib.hid he'
        go_wp2
        go_roundw
        case rel =>
          refine ⟨k + 1, by omega, by go_num, hb.alloc (by omega) _, Lib.hid fun j x hj hx => ?_⟩
          by_cases e : j = k
          · subst e
            rw [HRr.out] at hx
            cases hx
            exact HE.out
          · exact HN.out j x (by omega) hx
        case measure => simp [intOf]; omega
    · obtain rfl : k = 45 := by omega
      have hof : o = none := by rw [HO.out]; exact ofName_none (by rw [tab_len]; exact HN.out)
      subst hof
      go_wp2
      go_ret2
      exact ⟨rfl, hbw.trans (hb.mono (by omega))⟩

/-- A block of eight cells. -/
def Box8 (w : World) (b : Nat) (v0 v1 v2 v3 v4 v5 v6 v7 : Value) : Prop := w.cell? ⟨b, 0, none⟩ = some v0 ∧ w.cell? ⟨b, 1, none⟩ = some v1 ∧ w.cell? ⟨b, 2, none⟩ = some v2 ∧ w.cell? ⟨b, 3, none⟩ = some v3 ∧ w.cell? ⟨b, 4, none⟩ = some v4 ∧ w.cell? ⟨b, 5, none⟩ = some v5 ∧ w.cell? ⟨b, 6, none⟩ = some v6 ∧ w.cell? ⟨b, 7, none⟩ = some v7 ∧ ∀ o, w.frozen? ⟨b, o, none⟩ = false
theorem Box8.new (w : World) (n : Nat) (h : n = w.heap.size) (t : TypeId) (v0 v1 v2 v3 v4 v5 v6 v7 : Value) : Box8 (w.alloc (.cells #[v0, v1, v2, v3, v4, v5, v6, v7] t)) n v0 v1 v2 v3 v4 v5 v6 v7 :=
  ⟨World.cell?_alloc_at _ _ _ _ h, World.cell?_alloc_at _ _ _ _ h, World.cell?_alloc_at _ _ _ _ h, World.cell?_alloc_at _ _ _ _ h, World.cell?_alloc_at _ _ _ _ h, World.cell?_alloc_at _ _ _ _ h, World.cell?_alloc_at _ _ _ _ h, World.cell?_alloc_at _ _ _ _ h, fun _ => World.frozen?_alloc_at _ _ _ _ h⟩
theorem Box8.below {w w' : World} {b B : Nat} {v0 v1 v2 v3 v4 v5 v6 v7 : Value} (h : Box8 w b v0 v1 v2 v3 v4 v5 v6 v7) (hb : Below B w w') (hB : b < B) : Box8 w' b v0 v1 v2 v3 v4 v5 v6 v7 := by
  obtain ⟨h0, h1, h2, h3, h4, h5, h6, h7, h8⟩ := h
  exact ⟨(hb.cell (p := ⟨b, 0, none⟩) hB).trans h0, (hb.cell (p := ⟨b, 1, none⟩) hB).trans h1, (hb.cell (p := ⟨b, 2, none⟩) hB).trans h2, (hb.cell (p := ⟨b, 3, none⟩) hB).trans h3, (hb.cell (p := ⟨b, 4, none⟩) hB).trans h4, (hb.cell (p := ⟨b, 5, none⟩) hB).trans h5, (hb.cell (p := ⟨b, 6, none⟩) hB).trans h6, (hb.cell (p := ⟨b, 7, none⟩) hB).trans h7, fun o => (hb.frozen (p := ⟨b, o, none⟩) hB).trans (h8 o)⟩

def refV : Option CRow → Value
  | some r => .agg #[.int .i64 r.num, .string r.name, .string r.routine, .int .i64 r.layer, .int .i64 r.k0, .int .i64 r.k1, .int .i64 r.k2, .int .i64 r.k3]
  | none => .agg #[.int .i64 0, .string ⟨#[]⟩, .string ⟨#[]⟩, .int .i64 0, .int .i64 0, .int .i64 0, .int .i64 0, .int .i64 0]
end Go.Proofs.YtlpkafhboomjkaaGreatDoor.PosTab
namespace Go.Proofs.YtlpkafhboomjkaaGreatDoor.PosTab
open Go.RowKit Errs

theorem lock_row : ofName ⟨#[109, 117, 116, 101, 120, 32, 108, 111, 99, 107]⟩ tab = some ⟨12, ⟨#[109, 117, 116, 101, 120, 32, 108, 111, 99, 107]⟩, ⟨#[99, 109, 108, 111, 99, 107]⟩, 18, 1, 0, 0, 0⟩ := by kernel_rfl

set_option maxHeartbeats 1000000 in
theorem awake_true (w : World) (hd : Door w) : Calls Tryz.prog 9 #[] w fun e w' => e = .returned (.bool true) ∧ Below w.heap.size w w' := by
  have HN := Lib.hid (num_any ⟨#[109, 117, 116, 101, 120, 32, 108, 111, 99, 107]⟩ w)
  rw [lock_row] at HN
  have HD := Lib.hid hd
  clear hd
  go_enter Tryz.func9, Tryz.ntmps9
  go_wp2_with fail
  refine HN.out.mono ?_
  rintro e w1 ⟨rfl, hb1⟩
  simp only [numOf, Option.isSome_some]
  go_wp2_with fail
  refine (problem_err 13 16 _ (by decide)).mono ?_
  rintro e w2 ⟨v, rfl, hv, hb2⟩
  have HV := Lib.hid hv
  obtain ⟨vt, vx, rfl⟩ := hv.form
  clear hv
  go_wp2_with fail
  refine (no_any posixS 13 8 _).mono ?_
  rintro e w3 ⟨f, rfl, hf, hb3⟩
  have hs1 := hb1.size
  have hs2 := hb2.size
  have hs3 := hb3.size
  have hp := door_pos HD.out
  have D3 : Door w3 := ((HD.out.below hb1 hp).below hb2 (by omega)).below hb3 (by omega)
  have HS := Lib.hid (same_true _ f [(posixS, 13)] 8 w3 (HV.out.below hb3) hf D3 (by decide) (by decide) (by decide))
  have hk : kindOf 16 = 8 := rfl
  clear hf D3 hk
  go_wp2_with fail
  refine HS.out.mono ?_
  rintro e w4 ⟨rfl, hb4⟩
  go_wp2_with fail
  refine (problem_ok 13 _).mono ?_
  rintro e w5 ⟨rfl, rfl⟩
  go_wp2
  go_ret
  exact ⟨rfl, ((hb1.trans (hb2.mono hs1)).trans (hb3.mono (by omega))).trans (hb4.mono (by omega))⟩
end Go.Proofs.YtlpkafhboomjkaaGreatDoor.PosTab
