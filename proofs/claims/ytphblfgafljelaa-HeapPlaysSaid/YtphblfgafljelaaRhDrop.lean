/- The document's heap: Drop. -/
import Derived.Test.YtphblfgafljelaaRhPut
namespace Go.Proofs.Ytphblfgafljelaa.Hp
open Go.RowKit

theorem ofH_place {k : Int} : ∀ {S : List Thing} {t : Thing}, Apart S → ofH k S = some t → ∃ i, i < S.length ∧ at_ S i = t ∧ t.h = k ∧ (∀ j, j < i → (at_ S j).h ≠ k) ∧ without k S = S.take i ++ S.drop (i + 1)
  | [], t, _, h => by simp [ofH] at h
  | x :: S, t, ha, h => by
    by_cases hx : x.h = k
    · have : t = x := by
        unfold ofH at h
        rw [List.find?_cons_of_pos (by simpa using hx)] at h
        exact (Option.some.inj h).symm
      subst this
      refine ⟨0, by simp, rfl, hx, fun j hj => by omega, ?_⟩
      rw [← hx, without_head ha]; rfl
    · have h' : ofH k S = some t := by
        unfold ofH at h ⊢
        rwa [List.find?_cons_of_neg (by simpa using hx)] at h
      have ha' : Apart S := by
        unfold Apart at ha ⊢
        rw [List.map_cons] at ha
        exact (List.nodup_cons.1 ha).2
      obtain ⟨i, h1, h2, h3, h4, h5⟩ := ofH_place ha' h'
      refine ⟨i + 1, by simpa using h1, h2, h3, fun j hj => ?_, ?_⟩
      · cases j with
        | zero => exact hx
        | succ j => exact h4 j (by omega)
      · have : without k (x :: S) = x :: without k S := by
          unfold without
          rw [List.filter_cons_of_pos (by simpa using hx)]
        rw [this, h5]; rfl
theorem ofH_absent {k : Int} {S : List Thing} (h : ofH k S = none) : ∀ i, i < S.length → (at_ S i).h ≠ k := by
  intro i hi e
  unfold ofH at h
  rw [List.find?_eq_none] at h
  exact h (at_ S i) (at_mem hi) (by simpa using e)

set_option maxRecDepth 100000 in
set_option maxHeartbeats 2000000 in
theorem rdrop_none {w : World} {B : Nat} {v : Value} {rb : Nat} {l : List Thing} {last : Int} (h : RHeap w B v rb l last) (k : Int) (hk : ofH k l = none) (hl : l.length ≤ 900000) :
    Calls Try.prog 15 #[.pointer (some ⟨B, 0, none⟩), .int .i64 k] w fun e w' => e = .returned (.tuple #[.int .u64 0, .bool false]) ∧ w = w' := by
  obtain ⟨n, hn⟩ : ∃ n, n = l.length := ⟨_, rfl⟩
  have hnI : (n : Int) ≤ 900000 := by omega
  have HNo : Hid (∀ i, i < n → ((at_ l i).h == k) = false) := Lib.hid (fun i hi => by simpa using ofH_absent hk i (by omega))
  rcases h.shape with ⟨hv, h2⟩ | ⟨g, c, hv, hc, _⟩
  · have o0 := h.cell.1
    rw [hv] at o0
    clear h hv hk hl hn HNo hnI
    go_enter Try.func15, Try.ntmps15
    go_wp2
    go_loop [6] (fun iv => iv = .int .i64 0) (fun _ => 0)
    case atStart => rfl
    case round =>
      subst hrel
      go_wp2
      go_ret2
      exact ⟨rfl, rfl⟩
  · have o0 := h.cell.1
    rw [hv, ← hn] at o0
    have hrow := h.row
    rw [hv] at hrow
    have HRow := Lib.hid hrow
    have HN := Lib.hid hn
    clear h hv hk hl hc hn hrow
    go_enter Try.func15, Try.ntmps15
    go_wp2
    go_loop [6] (fun iv => ∃ i : Nat, i ≤ n ∧ iv = .int .i64 i) (fun iv => n - (intOf iv).toNat)
    case atStart => exact ⟨0, by omega, rfl⟩
    case round =>
      obtain ⟨i, hi, rfl⟩ := hrel
      have hiI : (i : Int) ≤ (n : Int) := by omega
      by_cases hlt : i < n
      · have hltI : (i : Int) < (n : Int) := by omega
        obtain ⟨_, _, c2⟩ := lcells_at (l := l) (i := i) (by rw [← HN.out]; exact hlt)
        have d2 : w.cell? ⟨g, i * 3 + 2, none⟩ = _ := (HRow.out.cellAt _ (by rw [← HN.out]; omega)).trans c2
        have t2 := HNo.out i hlt
        generalize (at_ l i).h = x at d2 t2
        clear c2
        go_wp2
        go_round
        case rel => exact ⟨i + 1, by omega, by go_num⟩
        case measure => simp [intOf]; omega
      · obtain rfl : i = n := by omega
        go_wp2
        go_ret2
        exact ⟨rfl, rfl⟩

def RDropOut (w : World) (B rb : Nat) (l : List Thing) (k last q : Int) (e : Ending) (w' : World) : Prop :=
  e = .returned (.tuple #[.int .u64 q, .bool true]) ∧ ∃ v', RHeap w' B v' rb (without k l) last ∧ Keeps (fun k => k = B) w w'

set_option maxRecDepth 100000 in
set_option maxHeartbeats 4000000 in
theorem rdrop_some {w : World} {B : Nat} {v : Value} {rb : Nat} {l : List Thing} {last : Int} (h : RHeap w B v rb l last) (hrb : rb ≤ w.heap.size) (k : Int) {t : Thing} (ha : Apart l) (hyes : ofH k l = some t) (hl : l.length ≤ 900000) :
    Calls Try.prog 15 #[.pointer (some ⟨B, 0, none⟩), .int .i64 k] w (RDropOut w B rb l k last t.w) := by
  obtain ⟨p, hpl, hpt, hth, hbefore, hwo⟩ := ofH_place ha hyes
  rcases h.shape with ⟨_, h2⟩ | ⟨g, cap, rfl, hcap, hgl⟩
  · rw [h2] at hpl; simp at hpl
  obtain ⟨n, hn⟩ : ∃ n, n = l.length := ⟨_, rfl⟩
  have hnI : (n : Int) ≤ 900000 := by omega
  have hpn : p < n := by omega
  have hpnI : (p : Int) < (n : Int) := by omega
  have hnc : n ≤ cap := by omega
  obtain ⟨o0, o1, of⟩ := h.cell
  rw [← hn] at o0
  have hlt := h.lt
  have hR1 := h.row
  obtain ⟨c0, c1', c2'⟩ := lcells_at (l := l) (i := p) hpl
  have e1 : w.cell? ⟨g, p * 3 + 1, none⟩ = _ := (hR1.cellAt _ (by omega)).trans c1'
  have e2 : w.cell? ⟨g, p * 3 + 2, none⟩ = _ := (hR1.cellAt _ (by omega)).trans c2'
  rw [hpt] at e1 e2
  rw [hth] at e2
  obtain ⟨A1, c1, w2, hrun1, hrow1, hg1⟩ := app_part (W := w) w.heap.size (.slice none 0 0) [] (World.ownsRow_nil _ _ _ _) (some ⟨g, 0, none⟩) p cap (l.take p) (by rw [List.length_take]; omega) (.inr ⟨_, rfl, fun j x hx => by have := part_cells hR1 0 p j x (by simpa using hx); simpa using this⟩) (by simp; omega) (Nat.le_refl _)
  simp only [List.length_nil, Nat.zero_add, List.nil_append] at hrun1 hrow1
  have hB2 : RHeap w2 B (.slice (some ⟨g, 0, none⟩) l.length cap) rb l last := h.of_blocks fun i hi => hg1.block i (h.of_lt hi) (fun e => by cases e)
  have hsz2 : w.heap.size ≤ w2.heap.size := hg1.size
  have hK2 : Keeps (fun i => i = B ∨ w.heap.size ≤ i) w w2 := (Keeps.refl _ w).grown hg1 (fun i e => by cases e)
  have etk : (l.take p).length = p := by rw [List.length_take]; omega
  have hnew : ∀ A n c (q : List Thing) (W : World), W.ownsRow w.heap.size 66 3 (.slice A n c) q.length (lcells q) → ∀ i, (Value.slice A n c).ownBlock = some i → w.heap.size ≤ i := fun _ _ _ _ _ h i hi => (h.lt i hi).1
  have hold : ∀ i, i = B ∨ (Value.slice (some ⟨g, 0, none⟩) l.length cap).ownBlock = some i → i < w.heap.size := fun i hi => h.of_lt hi
  have hdl : (l.drop (p + 1)).length = n - (p + 1) := by rw [List.length_drop, ← hn]
  have hR2 := hB2.row
  obtain ⟨A3, c3, w4, hrun3, hrow3, hg3⟩ := app_part (W := w2) w.heap.size (.slice A1 (l.take p).length c1) (l.take p) hrow1 (if cap = p + 1 then some ⟨g, 0, none⟩ else some ⟨g, (p + 1) * 3, none⟩) (n - (p + 1)) (cap - (p + 1)) (l.drop (p + 1)) hdl
    (by
      split
      · have e0 : l.drop (p + 1) = [] := List.length_eq_zero_iff.1 (by rw [hdl]; omega)
        exact .inr ⟨_, rfl, fun j x hx => by rw [e0] at hx; simp [lcells] at hx⟩
      · exact .inr ⟨_, rfl, fun j x hx => part_cells hR2 (p + 1) (n - (p + 1)) j x (by rw [List.take_of_length_le (by rw [hdl]; exact Nat.le_refl _)]; exact hx)⟩) (by rw [etk]; omega) hsz2
  have hB4 : RHeap w4 B (.slice (some ⟨g, 0, none⟩) l.length cap) rb l last := hB2.of_blocks fun i hi => hg3.block i (hB2.of_lt hi) (fun e => by have := hnew _ _ _ _ _ hrow1 i e.symm; have := hold i hi; omega)
  have hK4 : Keeps (fun i => i = B ∨ w.heap.size ≤ i) w w4 := hK2.grown hg3 (fun i e => Or.inr (hnew _ _ _ _ _ hrow1 i e))
  obtain ⟨p0, p1, pf⟩ := hB2.cell
  obtain ⟨r0, r1, rf⟩ := hB4.cell
  rw [← hn] at p0 r0
  rw [← hwo] at hrow3
  have e3 : (l.take p).length + (n - (p + 1)) = (without k l).length := by rw [hwo, List.length_append, hdl]
  rw [e3] at hrun3
  simp only [etk] at hrun1 hrun3
  have htn := hB4.turn (row_base hrow3 hrb)
  have hst := (keeps_new hK4).trans ((Keeps.refl (fun i => i = B) w4).setCell (p := ⟨B, 0, none⟩) rfl (.slice A3 (without k l).length c3)) (fun i hi => Or.inl hi)
  have hBl : B < w4.heap.size := hB4.lt
  have H1 := Lib.hid hrun1; have H3 := Lib.hid hrun3
  have HTn := Lib.hid htn; have HSt := Lib.hid hst
  have HRow := Lib.hid hR1
  have HN := Lib.hid hn
  have HBef : Hid (∀ j, j < p → ((at_ l j).h == k) = false) := Lib.hid (fun j hj => by simpa using hbefore j hj)
  have hkk : (k == k) = true := by simp
  generalize (without k l).length = z at H3 HTn HSt
  generalize t.w = q at e1 ⊢
  clear hrun1 hrun3 htn hst hK2 hK4 hB2 hB4 hR1 hR2 hrow1 hrow3 hg1 hg3 hnew hold hdl etk hsz2 e3 hwo hbefore hpt hth hpl c0 c1' c2' hyes ha hrb hl hn h hcap
  go_enter Try.func15, Try.ntmps15
  go_wp2
  go_loop [6] (fun iv => ∃ i : Nat, i ≤ p ∧ iv = .int .i64 i) (fun iv => p - (intOf iv).toNat)
  case atStart => exact ⟨0, by omega, rfl⟩
  case round =>
    obtain ⟨i, hi, rfl⟩ := hrel
    have hiI : (i : Int) ≤ (p : Int) := by omega
    have hin : (i : Int) < (n : Int) := by omega
    have hinN : i < n := by omega
    by_cases hip : i < p
    · obtain ⟨_, _, c2⟩ := lcells_at (l := l) (i := i) (by rw [← HN.out]; exact hinN)
      have d2 : w.cell? ⟨g, i * 3 + 2, none⟩ = _ := (HRow.out.cellAt _ (by rw [← HN.out]; omega)).trans c2
      have t2 := HBef.out i hip
      generalize (at_ l i).h = x at d2 t2
      clear c2 H1 H3 HTn HSt e1 e2 p0 p1 pf r0 r1 rf
      go_wp2
      go_round
      case rel => exact ⟨i + 1, by omega, by go_num⟩
      case measure => simp [intOf]; omega
    · obtain rfl : i = p := by omega
      go_wp2_with (first | (at_builtin; refine wpList_append_run rfl (.tmp 36) (.tmp 42) 39 rfl rfl rfl H1.out ?_) | (at_builtin; refine wpList_append_run rfl (.tmp 45) (.tmp 52) 39 rfl rfl rfl H3.out ?_; clear HN o0 o1 of hlt H1 H3 p0 p1 pf e1 e2))
      all_goals
        go_ret2
        exact ⟨rfl, _, HTn.out, HSt.out⟩
end Go.Proofs.Ytphblfgafljelaa.Hp
