/- A heap beside its sorted list, in plain Lean: putting in, dropping, the first. -/
import Derived.Test.YtphblfgafljelaaHpPlain
namespace Go.Proofs.Ytphblfgafljelaa.Hp

def Sorted (S : List Thing) : Prop := S.Pairwise fun a b => aheadB a b = true
def ins (t : Thing) : List Thing → List Thing
  | [] => [t]
  | x :: xs => if aheadB x t = true then x :: ins t xs else t :: x :: xs
theorem ins_perm (t : Thing) : ∀ S, (ins t S).Perm (t :: S)
  | [] => List.Perm.refl _
  | x :: xs => by
    unfold ins
    split
    · exact ((ins_perm t xs).cons x).trans (List.Perm.swap _ _ _)
    · exact List.Perm.refl _
theorem ins_length (t : Thing) (S : List Thing) : (ins t S).length = S.length + 1 := by rw [(ins_perm t S).length_eq]; rfl
theorem ahead_trans {a b c : Thing} (h1 : aheadB a b = true) (h2 : aheadB b c = true) : aheadB a c = true := by rw [aheadB_iff] at *; omega
theorem ahead_or {a b : Thing} (h : a.h ≠ b.h) : aheadB a b = true ∨ aheadB b a = true := by rw [aheadB_iff, aheadB_iff]; omega
theorem ahead_irr (a : Thing) : aheadB a a = false := by rw [aheadB_false]; omega
theorem ahead_asymm {a b : Thing} (h : aheadB a b = true) : aheadB b a = false := by rw [aheadB_iff] at h; rw [aheadB_false]; omega
theorem ins_sorted {t : Thing} : ∀ {S : List Thing}, Sorted S → (∀ x ∈ S, x.h ≠ t.h) → Sorted (ins t S)
  | [], _, _ => List.pairwise_singleton _ _
  | x :: xs, hs, hf => by
    unfold Sorted at hs
    rw [List.pairwise_cons] at hs
    unfold ins
    split
    · rename_i hxt
      refine List.pairwise_cons.2 ⟨fun y hy => ?_, ins_sorted hs.2 fun y hy => hf y (List.mem_cons_of_mem _ hy)⟩
      rcases List.mem_cons.1 ((ins_perm t xs).mem_iff.1 hy) with rfl | hy
      · exact hxt
      · exact hs.1 y hy
    · rename_i hxt
      have htx : aheadB t x = true := (ahead_or (hf x List.mem_cons_self)).resolve_left hxt
      refine List.pairwise_cons.2 ⟨fun y hy => ?_, List.pairwise_cons.2 hs⟩
      rcases List.mem_cons.1 hy with rfl | hy
      · exact htx
      · exact ahead_trans htx (hs.1 y hy)

theorem mem_at {v : List Thing} {t : Thing} (h : t ∈ v) : ∃ j, j < v.length ∧ at_ v j = t := by
  obtain ⟨j, hj, e⟩ := List.getElem_of_mem h
  exact ⟨j, hj, by rw [at_getElem hj]; exact e⟩
theorem at_mem {v : List Thing} {j : Nat} (h : j < v.length) : at_ v j ∈ v := by rw [at_getElem h]; exact List.getElem_mem h
theorem Apart.eq_of_h {v : List Thing} (h : Apart v) {a b : Thing} (ha : a ∈ v) (hb : b ∈ v) (e : a.h = b.h) : a = b := by
  obtain ⟨i, hi, rfl⟩ := mem_at ha
  obtain ⟨j, hj, rfl⟩ := mem_at hb
  by_cases hij : i = j
  · rw [hij]
  · exact absurd e (h.ne hi hj hij)

/-- The first of a heap is the first of its sorted list. -/
theorem first_eq {v : List Thing} {s : Thing} {S : List Thing} (hh : Heap v) (hp : v.Perm (s :: S)) (hs : Sorted (s :: S)) : at_ v 0 = s := by
  have hl : 0 < v.length := by rw [hp.length_eq]; simp
  have hm : at_ v 0 ∈ s :: S := hp.mem_iff.1 (at_mem hl)
  obtain ⟨j, hj, e⟩ := mem_at (hp.mem_iff.2 (List.mem_cons_self (a := s)))
  have h1 := heap_first hh j hj
  rw [e] at h1
  rcases List.mem_cons.1 hm with h | h
  · exact h
  · have := (List.pairwise_cons.1 hs).1 _ h
    unfold le at h1
    rw [this] at h1
    cases h1

/-! ## putting in -/
theorem put_up {v : List Thing} (t : Thing) (h : Heap v) : AlmostUp (v ++ [t]) v.length ∧ KidsOk (v ++ [t]) v.length := by
  have e : ∀ j, j < v.length → at_ (v ++ [t]) j = at_ v j := by
    intro j hj; refine at_get ?_; rw [List.getElem?_append_left hj]; exact at_eq hj
  refine ⟨⟨fun j hj0 hj hne _ => ?_, fun c hc0 hc hpar _ => ?_⟩, fun c hc0 hc hpar => ?_⟩
  · rw [List.length_append] at hj
    simp at hj
    have := par_lt hj0
    rw [e j (by omega), e _ (by omega)]
    exact h j hj0 (by omega)
  · rw [List.length_append] at hc
    simp at hc
    have := par_lt hc0
    omega
  · rw [List.length_append] at hc
    simp at hc
    have := par_lt hc0
    omega
theorem at_snoc (v : List Thing) (t : Thing) : at_ (v ++ [t]) v.length = t := at_get (by rw [List.getElem?_append_right (Nat.le_refl _)]; simp)
theorem put_places {f : Int → Option Nat} {v : List Thing} (t : Thing) (h : PlacesAll f v) : Places f (v ++ [t]) v.length := by
  refine ⟨fun j hj hne => ?_, fun k hk => ?_⟩
  · rw [List.length_append] at hj
    simp at hj
    rw [show at_ (v ++ [t]) j = at_ v j from at_get (by rw [List.getElem?_append_left (by omega)]; exact at_eq (by omega))]
    exact h.1 j (by omega)
  · refine h.2 k fun j hj => ?_
    have := hk j (by rw [List.length_append]; omega)
    rwa [show at_ (v ++ [t]) j = at_ v j from at_get (by rw [List.getElem?_append_left hj]; exact at_eq hj)] at this
theorem put_apart {v : List Thing} {t : Thing} (h : Apart v) (hf : ∀ x ∈ v, x.h ≠ t.h) : Apart (v ++ [t]) := by
  have : Apart (t :: v) := by
    unfold Apart
    rw [List.map_cons, List.nodup_cons]
    refine ⟨fun hm => ?_, h⟩
    obtain ⟨x, hx, e⟩ := List.mem_map.1 hm
    exact hf x hx e
  exact this.perm (List.perm_append_comm (l₁ := v) (l₂ := [t]))

/-! ## dropping -/
/-- The list without its last one, the last one in i's place. -/
def cutAt (v : List Thing) (i : Nat) : List Thing := (v.take (v.length - 1)).set i (at_ v (v.length - 1))
theorem cutAt_length (v : List Thing) (i : Nat) : (cutAt v i).length = v.length - 1 := by simp [cutAt]
theorem cutAt_perm {v : List Thing} {i : Nat} (hi : i < v.length - 1) : (cutAt v i ++ [at_ v i]).Perm v := by
  have hn : v.length - 1 < v.length := by omega
  refine List.Perm.trans (List.Perm.of_eq ?_) (swap_perm (v := v) (i := i) (p := v.length - 1) (by omega) hn)
  unfold cutAt swap
  refine List.ext_getElem? fun j => ?_
  by_cases hj : j < v.length - 1
  · rw [List.getElem?_append_left (by simp; omega), List.getElem?_set_ne (by omega : v.length - 1 ≠ j)]
    by_cases e : i = j
    · subst e
      rw [List.getElem?_set_self (by simp; omega), List.getElem?_set_self (by omega)]
    · rw [List.getElem?_set_ne e, List.getElem?_set_ne e, List.getElem?_take_of_lt hj]
  · by_cases e : j = v.length - 1
    · subst e
      rw [List.getElem?_set_self (by simp; omega), List.getElem?_append_right (by simp)]
      simp
    · rw [List.getElem?_eq_none (by simp; omega), List.getElem?_eq_none (by simp; omega)]
theorem take_last {v : List Thing} (h : 0 < v.length) : v.take (v.length - 1) ++ [at_ v (v.length - 1)] = v := by
  refine List.ext_getElem? fun j => ?_
  by_cases hj : j < v.length - 1
  · rw [List.getElem?_append_left (by simp; omega), List.getElem?_take_of_lt hj]
  · by_cases e : j = v.length - 1
    · subst e
      rw [List.getElem?_append_right (by simp), at_eq (v := v) (by omega)]
      simp
    · rw [List.getElem?_eq_none (by simp; omega), List.getElem?_eq_none (by omega)]
theorem at_cut {v : List Thing} {i j : Nat} (hj : j < v.length - 1) (h : j ≠ i) : at_ (cutAt v i) j = at_ v j := by
  unfold cutAt
  rw [at_set_other h]
  exact at_get (by rw [List.getElem?_take_of_lt hj]; exact at_eq (by omega))
theorem at_cut_i {v : List Thing} {i : Nat} (hi : i < v.length - 1) : at_ (cutAt v i) i = at_ v (v.length - 1) := by
  unfold cutAt
  exact at_set_same (by simp; omega) _
theorem at_take {v : List Thing} {n j : Nat} (hj : j < n) (hn : n ≤ v.length) : at_ (v.take n) j = at_ v j :=
  at_get (by rw [List.getElem?_take_of_lt hj]; exact at_eq (by omega))
theorem cut_up {v : List Thing} {i : Nat} (h : Heap v) (hi : i < v.length - 1) : AlmostUp (cutAt v i) i := by
  refine ⟨fun j hj0 hj hne hpar => ?_, fun c hc0 hc hpar h0 => ?_⟩
  · rw [cutAt_length] at hj
    have := par_lt hj0
    rw [at_cut hj hne, at_cut (by omega) hpar]
    exact h j hj0 (by omega)
  · rw [cutAt_length] at hc
    have := par_lt hc0
    have := par_lt h0
    rw [at_cut hc (by omega), at_cut (by omega) (by omega)]
    have g := h c hc0 (by omega)
    rw [hpar] at g
    exact le_trans (h i h0 (by omega)) g
theorem take_heap {v : List Thing} (h : Heap v) (n : Nat) : Heap (v.take n) := by
  intro j hj0 hj
  rw [List.length_take] at hj
  have := par_lt hj0
  have e : ∀ k, k < n → k < v.length → at_ (v.take n) k = at_ v k := fun k h1 h2 => at_get (by rw [List.getElem?_take_of_lt h1]; exact at_eq h2)
  rw [e j (by omega) (by omega), e _ (by omega) (by omega)]
  exact h j hj0 (by omega)
theorem cut_places {f : Int → Option Nat} {v : List Thing} {i : Nat} (ha : Apart v) (hi : i < v.length - 1) (h : PlacesAll f v) :
    PlacesAll (upd (del f (at_ v i).h) (at_ v (v.length - 1)).h i) (cutAt v i) := by
  have hn : v.length - 1 < v.length := by omega
  refine ⟨fun j hj => ?_, fun k hk => ?_⟩
  · rw [cutAt_length] at hj
    by_cases e : j = i
    · subst e
      rw [at_cut_i hj]; simp [upd]
    · rw [at_cut hj e]
      unfold upd del
      rw [if_neg (ha.ne (by omega) hn (by omega)), if_neg (ha.ne (by omega) (by omega) e)]
      exact h.1 j (by omega)
  · unfold upd del
    have h1 : k ≠ (at_ v (v.length - 1)).h := by
      have := hk i (by rw [cutAt_length]; exact hi)
      rw [at_cut_i hi] at this
      exact fun e => this e.symm
    rw [if_neg h1]
    by_cases e : k = (at_ v i).h
    · rw [if_pos e]
    · rw [if_neg e]
      refine h.2 k fun j hj => ?_
      by_cases e1 : j = i
      · subst e1; exact fun x => e x.symm
      · by_cases e2 : j = v.length - 1
        · subst e2; exact fun x => h1 x.symm
        · have := hk j (by rw [cutAt_length]; omega)
          rwa [at_cut (by omega) e1] at this
theorem last_places {f : Int → Option Nat} {v : List Thing} (ha : Apart v) (h0 : 0 < v.length) (h : PlacesAll f v) : PlacesAll (del f (at_ v (v.length - 1)).h) (v.take (v.length - 1)) := by
  have e : ∀ k, k < v.length - 1 → at_ (v.take (v.length - 1)) k = at_ v k := fun k h1 => at_get (by rw [List.getElem?_take_of_lt h1]; exact at_eq (by omega))
  refine ⟨fun j hj => ?_, fun k hk => ?_⟩
  · rw [List.length_take] at hj
    rw [e j (by omega)]
    unfold del
    rw [if_neg (ha.ne (by omega) (by omega) (by omega))]
    exact h.1 j (by omega)
  · unfold del
    split
    · rfl
    · rename_i hne
      refine h.2 k fun j hj => ?_
      by_cases e2 : j = v.length - 1
      · subst e2; exact fun x => hne x.symm
      · have := hk j (by rw [List.length_take]; omega)
        rwa [e j (by omega)] at this

/-- What is left of a sorted list without a handle. -/
def without (k : Int) (S : List Thing) : List Thing := S.filter fun x => x.h != k
theorem without_sorted {k : Int} {S : List Thing} (h : Sorted S) : Sorted (without k S) := h.sublist List.filter_sublist
theorem drop_perm {v S v' : List Thing} {t : Thing} (ha : Apart v) (hp : v.Perm S) (hv : (v' ++ [t]).Perm v) : v'.Perm (without t.h S) := by
  have h1 : (without t.h (v' ++ [t])).Perm (without t.h S) := (hv.trans hp).filter _
  have ha2 : Apart (v' ++ [t]) := ha.perm hv
  have h2 : without t.h (v' ++ [t]) = v' := by
    unfold without
    rw [List.filter_append]
    have e1 : List.filter (fun x => x.h != t.h) [t] = [] := by simp
    rw [e1, List.append_nil, List.filter_eq_self]
    intro x hx
    have hn := (List.pairwise_append.1 (show (v' ++ [t]).Pairwise (fun a b => a.h ≠ b.h) from List.pairwise_map.1 ha2)).2.2 x hx t (by simp)
    simpa using hn
  rwa [h2] at h1
theorem without_head {s : Thing} {S : List Thing} (ha : Apart (s :: S)) : without s.h (s :: S) = S := by
  unfold without
  rw [List.filter_cons, if_neg (by simp), List.filter_eq_self]
  intro x hx
  have := (List.pairwise_cons.1 (show (s :: S).Pairwise (fun a b => a.h ≠ b.h) from List.pairwise_map.1 ha)).1 x hx
  simpa using this.symm
theorem without_none {k : Int} {S : List Thing} (h : ∀ x ∈ S, x.h ≠ k) : without k S = S := by
  unfold without
  rw [List.filter_eq_self]
  intro x hx
  simpa using h x hx
/-- The thing of a handle. -/
def ofH (k : Int) (S : List Thing) : Option Thing := S.find? fun x => x.h == k
theorem ofH_some {k : Int} {S : List Thing} {t : Thing} (ha : Apart S) (hm : t ∈ S) (e : t.h = k) : ofH k S = some t := by
  unfold ofH
  cases h : S.find? (fun x => x.h == k) with
  | none => exact absurd (List.find?_eq_none.1 h t hm) (by simp [e])
  | some y =>
    have hy := List.find?_some h
    have hy' : y.h = k := by simpa using hy
    rw [ha.eq_of_h (List.mem_of_find?_eq_some h) hm (by rw [hy', e])]
theorem ofH_none {k : Int} {S : List Thing} (h : ∀ x ∈ S, x.h ≠ k) : ofH k S = none := by
  unfold ofH
  rw [List.find?_eq_none]
  intro x hx
  simpa using h x hx
theorem ofH_mem {k : Int} {S : List Thing} {t : Thing} (h : ofH k S = some t) : t ∈ S ∧ t.h = k :=
  ⟨List.mem_of_find?_eq_some h, by have := List.find?_some h; simpa using this⟩
theorem without_length {k : Int} {S : List Thing} {t : Thing} (ha : Apart S) (h : ofH k S = some t) : (without k S).length + 1 = S.length := by
  obtain ⟨hm, e⟩ := ofH_mem h
  obtain ⟨a, b, rfl⟩ := List.append_of_mem hm
  have hp : (a ++ t :: b).Perm (t :: (a ++ b)) := List.perm_middle
  have h1 : (without k (a ++ t :: b)).Perm (without k (t :: (a ++ b))) := hp.filter _
  have ha2 : Apart (t :: (a ++ b)) := ha.perm hp.symm
  rw [h1.length_eq, ← e, without_head ha2, hp.length_eq]
  simp
end Go.Proofs.Ytphblfgafljelaa.Hp
