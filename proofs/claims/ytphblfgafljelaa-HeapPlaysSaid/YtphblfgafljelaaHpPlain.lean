/- A binary heap in plain Lean: what moving up and down does; the earliest is first; a sorted list beside it. -/
import GoSem.Claim
namespace Go.Proofs.Ytphblfgafljelaa.Hp

structure Thing where
  d : Int
  w : Int
  h : Int
deriving DecidableEq, Inhabited

/-- a comes ahead of b. -/
def aheadB (a b : Thing) : Bool := decide (a.d < b.d) || (a.d == b.d && decide (a.h < b.h))
theorem aheadB_iff (a b : Thing) : aheadB a b = true ↔ a.d < b.d ∨ (a.d = b.d ∧ a.h < b.h) := by simp [aheadB]
theorem aheadB_false (a b : Thing) : aheadB a b = false ↔ b.d < a.d ∨ (a.d = b.d ∧ b.h ≤ a.h) := by
  rw [← Bool.not_eq_true, aheadB_iff]; omega

def le (a b : Thing) : Prop := aheadB b a = false
theorem le_iff (a b : Thing) : le a b ↔ a.d < b.d ∨ (a.d = b.d ∧ a.h ≤ b.h) := by unfold le; rw [aheadB_false]; omega
theorem le_refl (a : Thing) : le a a := by rw [le_iff]; omega
theorem le_trans {a b c : Thing} (h1 : le a b) (h2 : le b c) : le a c := by rw [le_iff] at *; omega
theorem le_of_lt {a b : Thing} (h : aheadB a b = true) : le a b := by rw [le_iff]; rw [aheadB_iff] at h; omega

def at_ (v : List Thing) (j : Nat) : Thing := v.getD j default
theorem at_eq {v : List Thing} {j : Nat} (h : j < v.length) : v[j]? = some (at_ v j) := by
  unfold at_; rw [List.getD_eq_getElem?_getD, List.getElem?_eq_getElem h]; rfl
theorem at_get {v : List Thing} {j : Nat} {t : Thing} (h : v[j]? = some t) : at_ v j = t := by
  unfold at_; rw [List.getD_eq_getElem?_getD, h]; rfl
theorem at_getElem {v : List Thing} {j : Nat} (h : j < v.length) : at_ v j = v[j] := at_get (List.getElem?_eq_getElem h)
theorem at_set_same {v : List Thing} {i : Nat} (h : i < v.length) (t : Thing) : at_ (v.set i t) i = t := at_get (by rw [List.getElem?_set_self h])
theorem at_set_other {v : List Thing} {i j : Nat} (h : j ≠ i) (t : Thing) : at_ (v.set i t) j = at_ v j := by
  unfold at_; rw [List.getD_eq_getElem?_getD, List.getD_eq_getElem?_getD, List.getElem?_set_ne (Ne.symm h)]

def par (j : Nat) : Nat := (j - 1) / 2
theorem par_lt {j : Nat} (h : 0 < j) : par j < j := by unfold par; omega

def Heap (v : List Thing) : Prop := ∀ j, 0 < j → j < v.length → le (at_ v (par j)) (at_ v j)
/-- A heap but at i, against its parent and its children. -/
def AlmostUp (v : List Thing) (i : Nat) : Prop :=
  (∀ j, 0 < j → j < v.length → j ≠ i → par j ≠ i → le (at_ v (par j)) (at_ v j)) ∧ ∀ c, 0 < c → c < v.length → par c = i → 0 < i → le (at_ v (par i)) (at_ v c)
def KidsOk (v : List Thing) (i : Nat) : Prop := ∀ c, 0 < c → c < v.length → par c = i → le (at_ v i) (at_ v c)
/-- A heap but between p and its children. -/
def AlmostDown (v : List Thing) (p : Nat) : Prop :=
  (∀ j, 0 < j → j < v.length → par j ≠ p → le (at_ v (par j)) (at_ v j)) ∧ ∀ c, 0 < c → c < v.length → par c = p → 0 < p → le (at_ v (par p)) (at_ v c)

def swap (v : List Thing) (i p : Nat) : List Thing := (v.set i (at_ v p)).set p (at_ v i)
theorem swap_length (v : List Thing) (i p : Nat) : (swap v i p).length = v.length := by simp [swap]
theorem swap_perm {v : List Thing} {i p : Nat} (hi : i < v.length) (hp : p < v.length) : (swap v i p).Perm v := by
  unfold swap; rw [at_getElem hi, at_getElem hp]; exact List.set_set_perm hi hp
theorem swap_p {v : List Thing} {i p : Nat} (hp : p < v.length) : at_ (swap v i p) p = at_ v i := at_set_same (by simpa using hp) _
theorem swap_i {v : List Thing} {i p : Nat} (hi : i < v.length) (h : i ≠ p) : at_ (swap v i p) i = at_ v p := by
  unfold swap; rw [at_set_other h, at_set_same hi]
theorem swap_other {v : List Thing} {i p j : Nat} (h1 : j ≠ i) (h2 : j ≠ p) : at_ (swap v i p) j = at_ v j := by
  unfold swap; rw [at_set_other h2, at_set_other h1]

theorem up_step {v : List Thing} {i : Nat} (hi : i < v.length) (h0 : 0 < i) (h : AlmostUp v i) (hlt : aheadB (at_ v i) (at_ v (par i)) = true) :
    AlmostUp (swap v i (par i)) (par i) ∧ KidsOk (swap v i (par i)) (par i) := by
  have hp := par_lt h0
  have hpl : par i < v.length := by omega
  obtain ⟨h1, h2⟩ := h
  refine ⟨⟨fun j hj0 hj hne hpar => ?_, fun c hc0 hc hpar hp0 => ?_⟩, fun c hc0 hc hpar => ?_⟩
  · rw [swap_length] at hj
    have hji : j ≠ i := fun e => hpar (by rw [e])
    rw [swap_other hji hne]
    by_cases e : par j = i
    · rw [e, swap_i hi (by omega)]
      exact h2 j hj0 hj e h0
    · rw [swap_other e hpar]
      exact h1 j hj0 hj hji e
  · rw [swap_length] at hc
    have hpp := par_lt hp0
    rw [swap_other (j := par (par i)) (by omega) (by omega)]
    have g := h1 (par i) hp0 hpl (by omega) (by omega)
    by_cases e : c = i
    · rw [e, swap_i hi (by omega)]; exact g
    · have hcl := par_lt hc0
      rw [swap_other e (by omega)]
      refine le_trans g ?_
      have := h1 c hc0 hc e (by omega)
      rw [hpar] at this
      exact this
  · rw [swap_length] at hc
    rw [swap_p hpl]
    by_cases e : c = i
    · rw [e, swap_i hi (by omega)]; exact le_of_lt hlt
    · have hcl := par_lt hc0
      rw [swap_other e (by omega)]
      have := h1 c hc0 hc e (by omega)
      rw [hpar] at this
      exact le_trans (le_of_lt hlt) this

theorem up_end {v : List Thing} {i : Nat} (h : AlmostUp v i) (he : 0 < i → aheadB (at_ v i) (at_ v (par i)) = false) : AlmostDown v i := by
  refine ⟨fun j hj0 hj hpar => ?_, h.2⟩
  by_cases e : j = i
  · subst e; exact he hj0
  · exact h.1 j hj0 hj e hpar
theorem heap_of_kids {v : List Thing} {i : Nat} (h : AlmostDown v i) (hk : KidsOk v i) : Heap v := by
  intro j hj0 hj
  by_cases e : par j = i
  · rw [e]; exact hk j hj0 hj e
  · exact h.1 j hj0 hj e

theorem down_step {v : List Thing} {p k : Nat} (hk : k < v.length) (hpk : par k = p) (hk0 : 0 < k) (h : AlmostDown v p) (hlt : aheadB (at_ v k) (at_ v p) = true)
    (hmin : ∀ c, 0 < c → c < v.length → par c = p → le (at_ v k) (at_ v c)) : AlmostDown (swap v p k) k := by
  have hp := par_lt hk0
  have hpl : p < v.length := by omega
  obtain ⟨h1, h2⟩ := h
  refine ⟨fun j hj0 hj hpar => ?_, fun c hc0 hc hpar _ => ?_⟩
  · rw [swap_length] at hj
    have hjl := par_lt hj0
    by_cases e : j = k
    · subst e
      rw [swap_p hk, hpk, swap_i hpl (by omega)]
      exact le_of_lt hlt
    · by_cases e2 : j = p
      · subst e2
        rw [swap_i hpl (by omega), swap_other (j := par j) (by omega) hpar]
        exact h2 k hk0 hk hpk hj0
      · rw [swap_other e2 e]
        by_cases e3 : par j = p
        · rw [e3, swap_i hpl (by omega)]
          exact hmin j hj0 hj e3
        · rw [swap_other e3 hpar]
          exact h1 j hj0 hj e3
  · rw [swap_length] at hc
    have hcl := par_lt hc0
    rw [hpk, swap_i hpl (by omega), swap_other (j := c) (by omega) (by omega)]
    have := h1 c hc0 hc (by omega)
    rw [hpar] at this
    exact this

theorem down_none {v : List Thing} {p : Nat} (h : AlmostDown v p) (hn : v.length ≤ 2 * p + 1) : Heap v :=
  heap_of_kids h fun c hc0 hc hpar => by unfold par at hpar; omega
theorem down_stop {v : List Thing} {p k : Nat} (h : AlmostDown v p) (hs : aheadB (at_ v k) (at_ v p) = false) (hmin : ∀ c, 0 < c → c < v.length → par c = p → le (at_ v k) (at_ v c)) : Heap v :=
  heap_of_kids h fun c hc0 hc hpar => le_trans hs (hmin c hc0 hc hpar)

/-- The smaller of two children. -/
theorem min_kid {v : List Thing} {p k : Nat} (h : (k = 2 * p + 1 ∧ (2 * p + 2 < v.length → aheadB (at_ v (2 * p + 2)) (at_ v (2 * p + 1)) = false)) ∨ (k = 2 * p + 2 ∧ aheadB (at_ v (2 * p + 2)) (at_ v (2 * p + 1)) = true)) :
    ∀ c, 0 < c → c < v.length → par c = p → le (at_ v k) (at_ v c) := by
  intro c hc0 hc hpar
  have hcc : c = 2 * p + 1 ∨ c = 2 * p + 2 := by unfold par at hpar; omega
  rcases h with ⟨rfl, h⟩ | ⟨rfl, h⟩
  · rcases hcc with rfl | rfl
    · exact le_refl _
    · exact h hc
  · rcases hcc with rfl | rfl
    · exact le_of_lt h
    · exact le_refl _

theorem heap_first {v : List Thing} (h : Heap v) : ∀ j, j < v.length → le (at_ v 0) (at_ v j) := by
  intro j
  induction j using Nat.strongRecOn with
  | ind j ih =>
    intro hj
    rcases Nat.eq_zero_or_pos j with rfl | h0
    · exact le_refl _
    · have hp := par_lt h0
      exact le_trans (ih _ hp (by omega)) (h j h0 hj)
theorem heap_nil : Heap [] := fun j _ h => by simp at h

/-! ## handles and places -/
def Apart (v : List Thing) : Prop := (v.map (·.h)).Nodup
theorem Apart.perm {v v' : List Thing} (h : Apart v) (hp : v'.Perm v) : Apart v' := (hp.map Thing.h).nodup_iff.2 h
theorem Apart.ne {v : List Thing} (h : Apart v) {i j : Nat} (hi : i < v.length) (hj : j < v.length) (hij : i ≠ j) : (at_ v i).h ≠ (at_ v j).h := by
  rw [at_getElem hi, at_getElem hj]
  have key : ∀ a b (ha : a < v.length) (hb : b < v.length), a < b → v[a].h ≠ v[b].h := by
    intro a b ha hb hab
    have := (List.pairwise_iff_getElem.1 h) a b (by simpa using ha) (by simpa using hb) hab
    simpa using this
  rcases Nat.lt_or_gt_of_ne hij with hlt | hlt
  · exact key i j hi hj hlt
  · exact fun e => key j i hj hi hlt e.symm

/-- The map of places: each handle of v but the one at i has its place; others have none. -/
def Places (f : Int → Option Nat) (v : List Thing) (i : Nat) : Prop :=
  (∀ j, j < v.length → j ≠ i → f (at_ v j).h = some j) ∧ ∀ k, (∀ j, j < v.length → (at_ v j).h ≠ k) → f k = none
def PlacesAll (f : Int → Option Nat) (v : List Thing) : Prop := (∀ j, j < v.length → f (at_ v j).h = some j) ∧ ∀ k, (∀ j, j < v.length → (at_ v j).h ≠ k) → f k = none
def upd (f : Int → Option Nat) (k : Int) (i : Nat) : Int → Option Nat := fun x => if x = k then some i else f x
def del (f : Int → Option Nat) (k : Int) : Int → Option Nat := fun x => if x = k then none else f x
theorem PlacesAll.hole {f : Int → Option Nat} {v : List Thing} (h : PlacesAll f v) (i : Nat) : Places f v i := ⟨fun j hj _ => h.1 j hj, h.2⟩

theorem places_swap {f : Int → Option Nat} {v : List Thing} {i p : Nat} (ha : Apart v) (hi : i < v.length) (hp : p < v.length) (hip : i ≠ p) (h : Places f v i) : Places (upd f (at_ v p).h i) (swap v i p) p := by
  refine ⟨fun j hj hne => ?_, fun k hk => ?_⟩
  · rw [swap_length] at hj
    by_cases e : j = i
    · subst e
      rw [swap_i hi hip]; simp [upd]
    · rw [swap_other e hne]
      unfold upd
      rw [if_neg (ha.ne hj hp hne)]
      exact h.1 j hj e
  · have hk' : ∀ j, j < v.length → (at_ v j).h ≠ k := by
      intro j hj
      by_cases e1 : j = i
      · subst e1
        have := hk p (by rw [swap_length]; exact hp)
        rwa [swap_p hp] at this
      · by_cases e2 : j = p
        · subst e2
          have := hk i (by rw [swap_length]; exact hi)
          rwa [swap_i hi hip] at this
        · have := hk j (by rw [swap_length]; exact hj)
          rwa [swap_other e1 e2] at this
    unfold upd
    rw [if_neg (fun e => hk' p hp e.symm)]
    exact h.2 k hk'
theorem places_fill {f : Int → Option Nat} {v : List Thing} {i : Nat} (ha : Apart v) (hi : i < v.length) (h : Places f v i) : PlacesAll (upd f (at_ v i).h i) v := by
  refine ⟨fun j hj => ?_, fun k hk => ?_⟩
  · unfold upd
    by_cases e : j = i
    · subst e; rw [if_pos rfl]
    · rw [if_neg (ha.ne hj hi e)]; exact h.1 j hj e
  · unfold upd
    rw [if_neg (fun e => hk i hi e.symm)]
    exact h.2 k hk
end Go.Proofs.Ytphblfgafljelaa.Hp
