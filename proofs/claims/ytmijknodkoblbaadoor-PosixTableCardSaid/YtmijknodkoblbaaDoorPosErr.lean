/- posix.Problem and the document's: each code's error; and errors made of one place. -/
import Derived.Test.YtmijknodkoblbaaDoorErrSame
namespace Go.Proofs.YtmijknodkoblbaaDoor.Errs
open Go.RowKit Go.Extern.Stop Go.Stop Go.Extern

/-- An error comes out, the layers and places r, the kind k; what lay before lies as before. -/
def ErrOut (w : World) (r : List (ByteArray × Int)) (k : Int) (e : Ending) (w' : World) : Prop := ∃ v, e = .returned v ∧ IsErr w' r k v ∧ Below w.heap.size w w'
def FailOut (w : World) (r : List (ByteArray × Int)) (k : Int) (e : Ending) (w' : World) : Prop := ∃ v, e = .returned v ∧ IsFail w' r k v ∧ Below w.heap.size w w'

def posixS : ByteArray := ⟨#[112, 111, 115, 105, 120]⟩

theorem posfail_any (n k : Int) (w : World) : Calls Tryd.prog 17 #[.int .i64 n, .iface 45 (.int .i64 k)] w (ErrOut w [(posixS, n)] k) := by
  go_enter Tryd.func17, Tryd.ntmps17
  go_wp2
  go_ret
  refine ⟨_, rfl, ⟨w.heap.size, _, rfl, by simp, ?_, ?_, ?_, rfl⟩, (Below.refl _ _).alloc (Nat.le_refl _) _⟩
  all_goals simp [posixS]

theorem no_any (s : ByteArray) (n k : Int) (w : World) : Calls Tryd.prog 18 #[.string s, .int .i64 n, .int .i64 k] w (FailOut w [(s, n)] k) := by
  go_enter Tryd.func18, Tryd.ntmps18
  go_wp2
  go_ret
  refine ⟨_, rfl, ⟨w.heap.size + 1 + 1, some ⟨w.heap.size, 0, none⟩, some ⟨w.heap.size + 1, 0, none⟩, 1, 1, rfl, by simp, ?_, ?_, ?_, ?_⟩, ?_⟩
  · exact World.cell?_alloc_at _ _ _ _ (by simp)
  · exact World.cell?_alloc_at _ _ _ _ (by simp)
  · exact World.cell?_alloc_at _ _ _ _ (by simp)
  · intro i s' n' hi
    match i, hi with
    | 0, hi =>
      simp at hi
      obtain ⟨rfl, rfl⟩ := hi
      exact ⟨w.heap.size, 0, w.heap.size + 1, 0, rfl, rfl, (by simp; try omega), (by simp; try omega), by rw [World.cell?_alloc_lt _ _ _ (by simp; try omega), World.cell?_alloc_lt _ _ _ (by simp)]; exact World.cell?_alloc_at _ _ _ _ rfl, by rw [World.cell?_alloc_lt _ _ _ (by simp)]; exact World.cell?_alloc_at _ _ _ _ (by simp)⟩
    | i + 1, hi => simp at hi
  · repeat (first | exact Below.refl _ _ | refine Below.alloc ?_ (by simp; try omega) _)

def kindOf (c : Int) : Int := if c = 1 ∨ c = 11 ∨ c = 16 ∨ c = 35 ∨ c = 110 then 8 else if c = 3 ∨ c = 38 then 7 else if c = 12 then 3 else 1

theorem kindOf_range (c : Int) : 1 ≤ kindOf c ∧ kindOf c ≤ 10 := by
  unfold kindOf; split
  · omega
  · split
    · omega
    · split <;> omega

theorem problem_ok (n : Int) (w : World) : Calls Tryd.prog 7 #[.int .i64 n, .int .u64 0] w fun e w' => e = .returned .nilIface ∧ w = w' := by
  go_enter Tryd.func7, Tryd.ntmps7
  go_wp2
  go_ret
  exact ⟨rfl, rfl⟩

set_option maxHeartbeats 1000000 in
theorem problem_err (n c : Int) (w : World) (hc : c ≠ 0) : Calls Tryd.prog 7 #[.int .i64 n, .int .u64 c] w (ErrOut w [(posixS, n)] (kindOf c)) := by
  have HF := Lib.hid (fun k => posfail_any n k w)
  by_cases h1 : c = 1 ∨ c = 11 ∨ c = 16 ∨ c = 35 ∨ c = 110 ∨ c = 3 ∨ c = 38 ∨ c = 12
  · rcases h1 with rfl | rfl | rfl | rfl | rfl | rfl | rfl | rfl
    all_goals
      go_enter Tryd.func7, Tryd.ntmps7
      go_wp2_with (go_at_call 17; refine (HF.out _).mono ?_; rintro e w' ⟨v, rfl, hq1, hq2⟩)
      go_ret
      exact ⟨v, rfl, hq1, hq2⟩
  · have hk : kindOf c = 1 := by
      unfold kindOf
      rw [if_neg (by omega), if_neg (by omega), if_neg (by omega)]
    rw [hk]
    have b0 : (c == 0) = false := by simp [hc]
    have b1 : (c == 1) = false := by simp; omega
    have b2 : (c == 11) = false := by simp; omega
    have b3 : (c == 16) = false := by simp; omega
    have b4 : (c == 35) = false := by simp; omega
    have b5 : (c == 110) = false := by simp; omega
    have b6 : (c == 3) = false := by simp; omega
    have b7 : (c == 38) = false := by simp; omega
    have b8 : (c == 12) = false := by simp; omega
    clear hk h1 hc
    go_enter Tryd.func7, Tryd.ntmps7
    go_wp2_with (go_at_call 17; refine (HF.out _).mono ?_; rintro e w' ⟨v, rfl, hq1, hq2⟩)
    go_ret
    exact ⟨v, rfl, hq1, hq2⟩

theorem refproblem_ok (n : Int) (w : World) : Calls Tryd.prog 8 #[.int .i64 n, .int .u64 0] w fun e w' => e = .returned (.pointer none) ∧ w = w' := by
  go_enter Tryd.func8, Tryd.ntmps8
  go_wp2
  go_ret
  exact ⟨rfl, rfl⟩

set_option maxHeartbeats 1000000 in
theorem refproblem_err (n c : Int) (w : World) (hc : c ≠ 0) : Calls Tryd.prog 8 #[.int .i64 n, .int .u64 c] w (FailOut w [(posixS, n)] (kindOf c)) := by
  have HF := Lib.hid (fun k => no_any posixS n k w)
  by_cases h1 : c = 1 ∨ c = 11 ∨ c = 16 ∨ c = 35 ∨ c = 110 ∨ c = 3 ∨ c = 38 ∨ c = 12
  · rcases h1 with rfl | rfl | rfl | rfl | rfl | rfl | rfl | rfl
    all_goals
      go_enter Tryd.func8, Tryd.ntmps8
      go_wp2_with (go_at_call 18; refine (HF.out _).mono ?_; rintro e w' ⟨v, rfl, hq1, hq2⟩)
      go_ret
      exact ⟨v, rfl, hq1, hq2⟩
  · have hk : kindOf c = 1 := by
      unfold kindOf
      rw [if_neg (by omega), if_neg (by omega), if_neg (by omega)]
    rw [hk]
    have b0 : (c == 0) = false := by simp [hc]
    have b1 : (c == 1) = false := by simp; omega
    have b2 : (c == 11) = false := by simp; omega
    have b3 : (c == 16) = false := by simp; omega
    have b4 : (c == 35) = false := by simp; omega
    have b5 : (c == 110) = false := by simp; omega
    have b6 : (c == 3) = false := by simp; omega
    have b7 : (c == 38) = false := by simp; omega
    have b8 : (c == 12) = false := by simp; omega
    clear hk h1 hc
    go_enter Tryd.func8, Tryd.ntmps8
    go_wp2_with (go_at_call 18; refine (HF.out _).mono ?_; rintro e w' ⟨v, rfl, hq1, hq2⟩)
    go_ret
    exact ⟨v, rfl, hq1, hq2⟩
end Go.Proofs.YtmijknodkoblbaaDoor.Errs
