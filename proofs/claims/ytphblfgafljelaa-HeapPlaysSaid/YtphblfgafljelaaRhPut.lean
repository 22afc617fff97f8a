/- The document's heap: Put. -/
import Derived.Test.YtphblfgafljelaaRhMem
namespace Go.Proofs.Ytphblfgafljelaa.Hp
open Go.RowKit

/-- How many things at the front are not behind a deadline. -/
def cnt (d : Int) (l : List Thing) : Nat := (l.takeWhile fun x => decide (x.d ≤ d)).length
theorem cnt_le (d : Int) (l : List Thing) : cnt d l ≤ l.length := (List.takeWhile_sublist _).length_le
theorem cnt_yes {d : Int} : ∀ {l : List Thing} {k : Nat}, k < cnt d l → (at_ l k).d ≤ d
  | [], k, h => by simp [cnt] at h
  | x :: l, k, h => by
    unfold cnt at h
    rw [List.takeWhile_cons] at h
    split at h
    · rename_i hx
      cases k with
      | zero => exact of_decide_eq_true hx
      | succ k => exact cnt_yes (l := l) (k := k) (by simpa [cnt] using h)
    · simp at h
theorem cnt_no {d : Int} : ∀ {l : List Thing}, cnt d l < l.length → ¬ (at_ l (cnt d l)).d ≤ d
  | [], h => by simp at h
  | x :: l, h => by
    by_cases hx : x.d ≤ d
    · have e : cnt d (x :: l) = cnt d l + 1 := by simp [cnt, hx]
      rw [e] at h ⊢
      exact cnt_no (l := l) (by simpa using h)
    · have e : cnt d (x :: l) = 0 := by simp [cnt, hx]
      rw [e]; exact hx
theorem ins_cnt (t : Thing) : ∀ (l : List Thing), (∀ x ∈ l, x.h < t.h) → ins t l = l.take (cnt t.d l) ++ t :: l.drop (cnt t.d l)
  | [], _ => rfl
  | x :: l, h => by
    have hx := h x List.mem_cons_self
    have ih := ins_cnt t l (fun y hy => h y (List.mem_cons_of_mem _ hy))
    by_cases hd : x.d ≤ t.d
    · have e : cnt t.d (x :: l) = cnt t.d l + 1 := by simp [cnt, hd]
      have ha : aheadB x t = true := by rw [aheadB_iff]; omega
      rw [e, List.take_succ_cons, List.drop_succ_cons, ins, if_pos ha, ih]; rfl
    · have e : cnt t.d (x :: l) = 0 := by simp [cnt, hd]
      have ha : ¬ aheadB x t = true := by rw [aheadB_iff]; omega
      rw [e, ins, if_neg ha]; rfl

def RPutOut (w : World) (B rb : Nat) (l : List Thing) (last d q : Int) (e : Ending) (w' : World) : Prop :=
  e = .returned (.int .i64 (last + 1)) ∧ ∃ v', RHeap w' B v' rb (l.take (cnt d l) ++ ⟨d, q, last + 1⟩ :: l.drop (cnt d l)) (last + 1) ∧ Keeps (fun k => k = B) w w'

theorem keeps_new {X : Nat → Prop} {w w' : World} (h : Keeps (fun k => X k ∨ w.heap.size ≤ k) w w') : Keeps X w w' :=
  ⟨h.os, h.tape, h.output, h.size, fun k hk hx => h.block k hk (fun h2 => h2.elim hx (by omega))⟩

/-- The row of the document's heap, by what it is: nil, or in a block. -/
theorem RHeap.shape {w : World} {B : Nat} {v : Value} {rb : Nat} {l : List Thing} {last : Int} (h : RHeap w B v rb l last) :
    (v = .slice none 0 0 ∧ l = []) ∨ ∃ g c, v = .slice (some ⟨g, 0, none⟩) l.length c ∧ l.length ≤ c ∧ g < w.heap.size := by
  rcases h.row.2 with ⟨h1, h2⟩ | ⟨g, cap, cur, hv, _, _, hn, _⟩
  · exact Or.inl ⟨h1, List.length_eq_zero_iff.1 h2⟩
  · exact Or.inr ⟨g, cap, hv, hn, (h.row.lt g (by rw [hv]; rfl)).2⟩

set_option maxRecDepth 100000 in
set_option maxHeartbeats 4000000 in
theorem rput_some {w : World} {B g cap : Nat} {rb : Nat} {l : List Thing} {last : Int} (h : RHeap w B (.slice (some ⟨g, 0, none⟩) l.length cap) rb l last) (hcap : l.length ≤ cap) (hrb : rb ≤ w.heap.size) (d q : Int) (hl : l.length ≤ 900000) (hlast : 0 ≤ last ∧ last < 900000) :
    Calls Try.prog 19 #[.pointer (some ⟨B, 0, none⟩), .int .u64 d, .int .u64 q] w (RPutOut w B rb l last d q) := by
  obtain ⟨o0, o1, of⟩ := h.cell
  have hlt := h.lt
  obtain ⟨n, hn⟩ : ∃ n, n = l.length := ⟨_, rfl⟩
  obtain ⟨m, hm⟩ : ∃ m, m = cnt d l := ⟨_, rfl⟩
  have hmn : m ≤ n := by rw [hm, hn]; exact cnt_le d l
  have hmnI : (m : Int) ≤ (n : Int) := by omega
  have hnI : (n : Int) ≤ 900000 := by omega
  have hnc : n ≤ cap := by omega
  have hW1 := h.bump (last + 1)
  have hK1 : Keeps (fun k => k = B) w (w.setCell ⟨B, 1, none⟩ (.int .i64 (last + 1))) := (Keeps.refl (fun k => k = B) w).setCell (p := ⟨B, 1, none⟩) rfl _
  have HYes : Hid (∀ k, k < m → (at_ l k).d ≤ d) := Lib.hid (fun k hk => cnt_yes (by omega))
  have HNo : Hid (m < n → ¬ (at_ l m).d ≤ d) := Lib.hid (fun hk => by rw [hm]; exact cnt_no (by omega))
  have HW1 := Lib.hid hW1
  have HK1 := Lib.hid hK1
  have HN := Lib.hid hn
  have HM := Lib.hid hm
  rw [← hn] at o0
  clear h hW1 hK1 hn hm hl hcap
  go_enter Try.func19, Try.ntmps19
  go_wp2_with fail
  have W1 := HW1.out
  have hsz : w.heap.size = (w.setCell ⟨B, 1, none⟩ (.int .i64 (last + 1))).heap.size := by simp [World.setCell]
  have K1 := HK1.out
  clear o0 o1 of hlt
  generalize w.setCell ⟨B, 1, none⟩ (.int .i64 (last + 1)) = w1 at W1 K1 hsz HW1 HK1 ⊢
  have HSz := Lib.hid hsz
  obtain ⟨o0, o1, of⟩ := W1.cell
  have hlt := W1.lt
  rw [← HN.out] at o0
  clear W1 K1 hsz
  go_loop [7] (fun kv => ∃ k : Nat, k ≤ m ∧ kv = .int .i64 k) (fun kv => m - (intOf kv).toNat)
  case atStart => exact ⟨0, by omega, rfl⟩
  case round =>
    obtain ⟨k, hk, rfl⟩ := hrel
    have hkI : (k : Int) ≤ (m : Int) := by omega
    by_cases hkm : k < m
    · obtain ⟨c0, _, _⟩ := lcells_at (l := l) (i := k) (by rw [← HN.out]; omega)
      have d0 : w1.cell? ⟨g, k * 3, none⟩ = _ := ((HW1.out.row.cellAt _ (by rw [← HN.out]; omega)).trans c0)
      have hyes := HYes.out k hkm
      generalize (at_ l k).d = x at d0 hyes
      have t1 : decide (k < n) = true := by simp; omega
      have t2 : decide (x ≤ d) = true := by simpa using hyes
      have hkn : (k : Int) < (n : Int) := by omega
      clear c0 hyes
      go_wp2
      go_round
      case rel => exact ⟨k + 1, by omega, by go_num⟩
      case measure => simp [intOf]; omega
    · obtain rfl : k = m := by omega
      have hR1 := HW1.out.row
      obtain ⟨A1, c1, w2, hrun1, hrow1, hg1⟩ := app_part (W := w1) w.heap.size (.slice none 0 0) [] (World.ownsRow_nil _ _ _ _) (some ⟨g, 0, none⟩) k cap (l.take k) (by rw [List.length_take, ← HN.out]; omega) (.inr ⟨_, rfl, fun j x hx => by have := part_cells hR1 0 k j x (by simpa using hx); simpa using this⟩) (by simp; omega) (by rw [HSz.out]; exact Nat.le_refl _)
      simp only [List.length_nil, Nat.zero_add, List.nil_append] at hrun1 hrow1
      have hB2 : RHeap w2 B (.slice (some ⟨g, 0, none⟩) l.length cap) rb l (last + 1) := HW1.out.of_blocks fun i hi => hg1.block i (HW1.out.of_lt hi) (fun e => by cases e)
      have hsz2 : w.heap.size ≤ w2.heap.size := by rw [HSz.out]; exact hg1.size
      have hK2 : Keeps (fun i => i = B ∨ w.heap.size ≤ i) w w2 := (HK1.out.mono (fun i hi => Or.inl hi)).grown hg1 (fun i e => by cases e)
      have etk : (l.take k).length = k := by rw [List.length_take, ← HN.out]; omega
      obtain ⟨A2, c2, w3, hrun2, hrow2, hg2⟩ := app_part (W := w2.alloc (.cells #[.int .u64 d, .int .u64 q, .int .i64 (last + 1)] 66)) w.heap.size (.slice A1 (l.take k).length c1) (l.take k) (hrow1.alloc _) (some ⟨w2.heap.size, 0, none⟩) 1 1 [⟨d, q, last + 1⟩] rfl
        (.inr ⟨_, rfl, fun j x hx => by rw [Addr.add_lit, Nat.zero_add]; exact (World.cell?_alloc_at _ _ _ _ rfl).trans (by simpa [lcells, tcells] using hx)⟩) (by rw [etk]; omega) (by simp; omega)
      have hw2 : Below w2.heap.size w2 (w2.alloc (.cells #[.int .u64 d, .int .u64 q, .int .i64 (last + 1)] 66)) := (Below.refl _ _).alloc (Nat.le_refl _) _
      have hnew : ∀ A n c (p : List Thing) (W : World), W.ownsRow w.heap.size 66 3 (.slice A n c) p.length (lcells p) → ∀ i, (Value.slice A n c).ownBlock = some i → w.heap.size ≤ i := fun _ _ _ _ _ h i hi => (h.lt i hi).1
      have hold : ∀ i, i = B ∨ (Value.slice (some ⟨g, 0, none⟩) l.length cap).ownBlock = some i → i < w.heap.size := fun i hi => by rw [HSz.out]; exact HW1.out.of_lt hi
      have hB3 : RHeap w3 B (.slice (some ⟨g, 0, none⟩) l.length cap) rb l (last + 1) := (hB2.below hw2).of_blocks fun i hi => hg2.block i ((hB2.below hw2).of_lt hi) (fun e => by have := hnew _ _ _ _ _ hrow1 i (by rw [etk] at *; exact e.symm); have := hold i hi; omega)
      have hK3 : Keeps (fun i => i = B ∨ w.heap.size ≤ i) w w3 := (hK2.alloc _).grown hg2 (fun i e => Or.inr (hnew _ _ _ _ _ hrow1 i e))
      have el2 : (l.take k ++ [(⟨d, q, last + 1⟩ : Thing)]).length = k + 1 := by rw [List.length_append, etk]; rfl
      have hsz3 : w.heap.size ≤ w3.heap.size := by have := hg2.size; simp at this; omega
      have hdl : (l.drop k).length = n - k := by rw [List.length_drop, ← HN.out]
      have hR3 := hB3.row
      obtain ⟨A3, c3, w4, hrun3, hrow3, hg3⟩ := app_part (W := w3) w.heap.size (.slice A2 (l.take k ++ [(⟨d, q, last + 1⟩ : Thing)]).length c2) (l.take k ++ [⟨d, q, last + 1⟩]) hrow2 (if cap = k then some ⟨g, 0, none⟩ else some ⟨g, k * 3, none⟩) (n - k) (cap - k) (l.drop k) hdl
        (by
          split
          · have e0 : l.drop k = [] := List.length_eq_zero_iff.1 (by rw [hdl]; omega)
            exact .inr ⟨_, rfl, fun j x hx => by rw [e0] at hx; simp [lcells] at hx⟩
          · exact .inr ⟨_, rfl, fun j x hx => part_cells hR3 k (n - k) j x (by rw [List.take_of_length_le (by rw [hdl]; exact Nat.le_refl _)]; exact hx)⟩) (by rw [el2]; omega) hsz3
      have hB4 : RHeap w4 B (.slice (some ⟨g, 0, none⟩) l.length cap) rb l (last + 1) := hB3.of_blocks fun i hi => hg3.block i (hB3.of_lt hi) (fun e => by have := hnew _ _ _ _ _ hrow2 i e.symm; have := hold i hi; omega)
      have hK4 : Keeps (fun i => i = B ∨ w.heap.size ≤ i) w w4 := hK3.grown hg3 (fun i e => Or.inr (hnew _ _ _ _ _ hrow2 i e))
      rw [el2] at hrun3 
      simp only [etk] at hrun2 hrun1
      obtain ⟨p0, p1, pf⟩ := hB2.cell
      obtain ⟨q0, q1, qf⟩ := hB3.cell
      obtain ⟨r0, r1, rf⟩ := hB4.cell
      rw [← HN.out] at p0 q0 r0
      have efin : l.take k ++ [(⟨d, q, last + 1⟩ : Thing)] ++ l.drop k = l.take (cnt d l) ++ ⟨d, q, last + 1⟩ :: l.drop (cnt d l) := by rw [← HM.out]; simp
      rw [efin] at hrow3
      have htn := hB4.turn (row_base hrow3 hrb)
      have hst := (keeps_new hK4).trans ((Keeps.refl (fun i => i = B) w4).setCell (p := ⟨B, 0, none⟩) rfl (.slice A3 (l.take (cnt d l) ++ (⟨d, q, last + 1⟩ : Thing) :: l.drop (cnt d l)).length c3)) (fun i hi => Or.inl hi)
      have e3 : k + 1 + (n - k) = (l.take (cnt d l) ++ (⟨d, q, last + 1⟩ : Thing) :: l.drop (cnt d l)).length := by rw [← efin, List.length_append, el2, hdl]
      rw [e3] at hrun3
      have H1 := Lib.hid hrun1; have H2 := Lib.hid hrun2; have H3 := Lib.hid hrun3
      have HTn := Lib.hid htn; have HSt := Lib.hid hst
      have hBl : B < w4.heap.size := hB4.lt
      generalize (l.take (cnt d l) ++ (⟨d, q, last + 1⟩ : Thing) :: l.drop (cnt d l)).length = z at H3 HTn HSt
      clear hrun1 hrun2 hrun3 hrow1 hrow2 hrow3 hg1 hg2 hg3 htn hst hB2 hB3 hB4 hK2 hK3 hK4 hR1 hR3 hw2 hnew hold efin e3 el2 hdl etk hsz2 hsz3 hrb
      have hex : decide (k < n) = false ∨ (decide (k < n) = true ∧ k < n) := by
        by_cases h1 : k < n
        · right; exact ⟨by simpa using h1, h1⟩
        · left; simpa using h1
      clear hkm
      rcases hex with t1 | ⟨t1, hkn⟩
      · go_wp2_with (first | (at_builtin; refine wpList_append_run rfl (.tmp 37) (.tmp 43) 39 rfl rfl rfl H1.out ?_) | (at_builtin; refine wpList_append_run rfl (.tmp 45) (.tmp 53) 39 rfl rfl rfl H2.out ?_) | (at_builtin; refine wpList_append_run rfl (.tmp 56) (.tmp 62) 39 rfl rfl rfl H3.out ?_; clear HN HW1 HK1 HSz o0 o1 of hlt HYes HM H1 H2 H3 p0 p1 pf q0 q1 qf))
        all_goals
          go_ret
          exact ⟨rfl, _, HTn.out, HSt.out⟩
      · have hno := HNo.out hkn
        obtain ⟨c0, _, _⟩ := lcells_at (l := l) (i := k) (by rw [← HN.out]; omega)
        have d0 : w1.cell? ⟨g, k * 3, none⟩ = _ := ((HW1.out.row.cellAt _ (by rw [← HN.out]; omega)).trans c0)
        generalize (at_ l k).d = x at d0 hno
        have t2 : decide (x ≤ d) = false := by simpa using hno
        have hknI : (k : Int) < (n : Int) := by omega
        have h3 := H3.out
        rw [if_neg (show ¬ cap = k by omega)] at h3
        have H4 := Lib.hid h3
        clear c0 hno HNo h3 H3
        go_wp2_with (first | (at_builtin; refine wpList_append_run rfl (.tmp 37) (.tmp 43) 39 rfl rfl rfl H1.out ?_) | (at_builtin; refine wpList_append_run rfl (.tmp 45) (.tmp 53) 39 rfl rfl rfl H2.out ?_) | (at_builtin; refine wpList_append_run rfl (.tmp 56) (.tmp 62) 39 rfl rfl rfl H4.out ?_; clear HN HW1 HK1 HSz o0 o1 of hlt HYes HM H1 H2 H4 p0 p1 pf q0 q1 qf))
        all_goals
          go_ret
          exact ⟨rfl, _, HTn.out, HSt.out⟩

set_option maxRecDepth 100000 in
set_option maxHeartbeats 2000000 in
theorem rput_nil {w : World} {B : Nat} {rb : Nat} {last : Int} (h : RHeap w B (.slice none 0 0) rb [] last) (hrb : rb ≤ w.heap.size) (d q : Int) (hlast : 0 ≤ last ∧ last < 900000) :
    Calls Try.prog 19 #[.pointer (some ⟨B, 0, none⟩), .int .u64 d, .int .u64 q] w (RPutOut w B rb [] last d q) := by
  obtain ⟨o0, o1, of⟩ := h.cell
  have hlt := h.lt
  have HW1 := Lib.hid (h.bump (last + 1))
  have HK1 : Hid (Keeps (fun k => k = B) w (w.setCell ⟨B, 1, none⟩ (.int .i64 (last + 1)))) := Lib.hid ((Keeps.refl (fun k => k = B) w).setCell (p := ⟨B, 1, none⟩) rfl _)
  clear h
  go_enter Try.func19, Try.ntmps19
  go_wp2_with fail
  have W1 := HW1.out
  have hsz : w.heap.size = (w.setCell ⟨B, 1, none⟩ (.int .i64 (last + 1))).heap.size := by simp [World.setCell]
  have K1 := HK1.out
  clear o0 o1 of hlt
  generalize w.setCell ⟨B, 1, none⟩ (.int .i64 (last + 1)) = w1 at W1 K1 hsz HW1 HK1 ⊢
  have HSz := Lib.hid hsz
  obtain ⟨o0, o1, of⟩ := W1.cell
  have hlt := W1.lt
  clear W1 K1 hsz
  go_loop [7] (fun kv => kv = .int .i64 0) (fun _ => 0)
  case atStart => rfl
  case round =>
    subst hrel
    obtain ⟨A2, c2, w3, hrun2, hrow2, hg2⟩ := app_part (W := w1.alloc (.cells #[.int .u64 d, .int .u64 q, .int .i64 (last + 1)] 66)) w.heap.size (.slice none 0 0) [] (World.ownsRow_nil _ _ _ _) (some ⟨w1.heap.size, 0, none⟩) 1 1 [⟨d, q, last + 1⟩] rfl
        (.inr ⟨_, rfl, fun j x hx => by rw [Addr.add_lit, Nat.zero_add]; exact (World.cell?_alloc_at _ _ _ _ rfl).trans (by simpa [lcells, tcells] using hx)⟩) (by simp) (by have := HSz.out; simp; omega)
    have hw2 : Below w1.heap.size w1 (w1.alloc (.cells #[.int .u64 d, .int .u64 q, .int .i64 (last + 1)] 66)) := (Below.refl _ _).alloc (Nat.le_refl _) _
    have hB3 : RHeap w3 B (.slice none 0 0) rb [] (last + 1) := (HW1.out.below hw2).of_blocks fun i hi => hg2.block i ((HW1.out.below hw2).of_lt hi) (fun e => by cases e)
    have hK3 : Keeps (fun i => i = B) w w3 := (HK1.out.alloc _).grown hg2 (fun i e => by cases e)
    simp only [List.length_nil, List.nil_append, Nat.zero_add, List.length_singleton] at hrun2 hrow2
    have hrow2' : w3.ownsRow w.heap.size 66 3 (.slice A2 1 c2) ([(⟨d, q, last + 1⟩ : Thing)]).length (lcells [⟨d, q, last + 1⟩]) := hrow2
    have htn := hB3.turn (row_base hrow2' hrb)
    have hst := hK3.trans ((Keeps.refl (fun i => i = B) w3).setCell (p := ⟨B, 0, none⟩) rfl (.slice A2 1 c2)) (fun i hi => Or.inl hi)
    obtain ⟨i0, hi0, hz0, hs0, hb0⟩ := info_parts infoRef
    have hrun3 := run_append_owned_none (P := Try.prog) (w := w3) w.heap.size 39 39 66 i0 3 Try.underlying39 hi0 _ _ _ hrow2
    obtain ⟨q0, q1, qf⟩ := hB3.cell
    have hrun1 := run_append_owned_none (P := Try.prog) (w := w1) w.heap.size 39 39 66 i0 3 Try.underlying39 hi0 (.slice none 0 0) 0 [] (World.ownsRow_nil _ _ _ _)
    have H1 := Lib.hid hrun1
    have H2 := Lib.hid hrun2
    have H3 := Lib.hid hrun3
    have HTn := Lib.hid htn
    have HSt := Lib.hid hst
    have hBl : B < w3.heap.size := hB3.lt
    clear hrun1 hrun2 hrun3 htn hst hrow2 hrow2' hB3 hK3 hw2 hg2 hi0 hz0 hs0 hb0
    go_wp2_with (first | (at_builtin; refine wpList_append_run rfl (.tmp 37) (.tmp 43) 39 rfl rfl rfl H1.out ?_) | (at_builtin; refine wpList_append_run rfl (.tmp 45) (.tmp 53) 39 rfl rfl rfl H2.out ?_) | (at_builtin; refine wpList_append_run rfl (.tmp 56) (.tmp 62) 39 rfl rfl rfl H3.out ?_; clear H1 H2 H3 o0 o1 of hlt HW1 HK1 HSz))
    go_ret
    exact ⟨rfl, _, HTn.out, HSt.out⟩

theorem rput_any {w : World} {B : Nat} {v : Value} {rb : Nat} {l : List Thing} {last : Int} (h : RHeap w B v rb l last) (hrb : rb ≤ w.heap.size) (d q : Int) (hl : l.length ≤ 900000) (hlast : 0 ≤ last ∧ last < 900000) :
    Calls Try.prog 19 #[.pointer (some ⟨B, 0, none⟩), .int .u64 d, .int .u64 q] w (RPutOut w B rb l last d q) := by
  rcases h.shape with ⟨rfl, rfl⟩ | ⟨g, c, rfl, hc, _⟩
  · exact rput_nil h hrb d q hlast
  · exact rput_some h hc hrb d q hl hlast
end Go.Proofs.Ytphblfgafljelaa.Hp
