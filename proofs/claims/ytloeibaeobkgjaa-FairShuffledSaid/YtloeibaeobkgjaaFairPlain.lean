/- The plain law of fair scripts: what is fair with a window, said by places; no program in sight. -/
namespace Go.Proofs.Ytloeibaeobkgjaa.Fair

structure Ent where
  kind : Int
  who : Int
  draw : Int

instance : DecidableEq Ent := fun a b => decidable_of_iff (a.kind = b.kind ∧ a.who = b.who ∧ a.draw = b.draw) (by cases a; cases b; simp)

/-- Who is picked by an entry: a worker, or n: the Tick. -/
def key (n : Nat) (x : Ent) : Option Nat :=
  if x.kind = 1 ∧ 0 ≤ x.who ∧ x.who < n then some x.who.toNat else if x.kind = 2 then some n else none

def at_ (n : Nat) (l : List Ent) (i : Nat) : Option Nat := (l[i]?).bind (key n)

/-- Where k was last, ahead of i. -/
def lp (n : Nat) (l : List Ent) (k : Nat) : Nat → Int
  | 0 => -1
  | i + 1 => if at_ n l i = some k then (i : Int) else lp n l k i

def fairP (n : Nat) (l : List Ent) (W : Nat) : Prop :=
  ∀ a, a + W ≤ l.length → ∀ k, k ≤ n → ∃ j, a ≤ j ∧ j < a + W ∧ at_ n l j = some k

def fairB (n : Nat) (l : List Ent) (window : Int) : Bool :=
  decide (1 ≤ window) && (List.range (l.length + 1 - window.toNat)).all fun a => (List.range (n + 1)).all fun k => (List.range window.toNat).any fun d => at_ n l (a + d) == some k

theorem fairB_iff (n : Nat) (l : List Ent) (window : Int) : fairB n l window = true ↔ 1 ≤ window ∧ fairP n l window.toNat := by
  unfold fairB fairP
  simp only [Bool.and_eq_true, decide_eq_true_eq, List.all_eq_true, List.any_eq_true, List.mem_range, beq_iff_eq]
  refine and_congr_right fun _ => ⟨fun h a ha k hk => ?_, fun h a ha k hk => ?_⟩
  · obtain ⟨d, hd, he⟩ := h a (by omega) k (by omega)
    exact ⟨a + d, by omega, by omega, he⟩
  · obtain ⟨j, h1, h2, he⟩ := h a (by omega) k (by omega)
    exact ⟨j - a, by omega, by rwa [show a + (j - a) = j by omega]⟩

theorem lp_succ (n : Nat) (l : List Ent) (k i : Nat) : lp n l k (i + 1) = if at_ n l i = some k then (i : Int) else lp n l k i := rfl

theorem lp_range (n : Nat) (l : List Ent) (k i : Nat) : -1 ≤ lp n l k i ∧ lp n l k i < i := by
  induction i with
  | zero => simp [lp]
  | succ i ih =>
    unfold lp
    split
    · omega
    · omega

theorem lp_none (n : Nat) (l : List Ent) (k i m : Nat) (h : lp n l k i < m) (hm : m < i) : at_ n l m ≠ some k := by
  induction i with
  | zero => omega
  | succ i ih =>
    unfold lp at h
    split at h
    · omega
    · by_cases e : m = i
      · subst e; assumption
      · exact ih h (by omega)

theorem lp_some (n : Nat) (l : List Ent) (k i : Nat) (h : 0 ≤ lp n l k i) : at_ n l (lp n l k i).toNat = some k := by
  induction i with
  | zero => simp [lp] at h
  | succ i ih =>
    unfold lp at h ⊢
    split
    · simpa
    · rw [if_neg ‹_›] at h; exact ih h

theorem lp_same (n : Nat) (l : List Ent) (k i d : Nat) (h : ∀ j, i ≤ j → j < i + d → at_ n l j ≠ some k) : lp n l k (i + d) = lp n l k i := by
  induction d with
  | zero => rfl
  | succ d ih =>
    rw [show i + (d + 1) = (i + d) + 1 from rfl, lp_succ, if_neg (h _ (by omega) (by omega))]
    exact ih fun j h1 h2 => h j h1 (by omega)

/-- A gap that is too long ahead of some place. -/
theorem not_fair_of_gap (n : Nat) (l : List Ent) (W k i : Nat) (hk : k ≤ n) (hi : i ≤ l.length) (h : (W : Int) < i - lp n l k i) : ¬ fairP n l W := by
  intro hf
  have hr := lp_range n l k i
  obtain ⟨j, h1, h2, he⟩ := hf (i - W) (by omega) k hk
  exact lp_none n l k i j (by omega) (by omega) he

theorem fair_of_gaps (n : Nat) (l : List Ent) (W : Nat) (h1 : ∀ i, i < l.length → ∀ k, k ≤ n → at_ n l i = some k → (i : Int) - lp n l k i ≤ W)
    (h2 : ∀ k, k ≤ n → (l.length : Int) - lp n l k l.length ≤ W) : fairP n l W := by
  intro a ha k hk
  refine Classical.byContradiction fun hno => ?_
  have hno' : ∀ j, a ≤ j → j < a + W → at_ n l j ≠ some k := fun j ha hb he => hno ⟨j, ha, hb, he⟩
  have e0 := lp_same n l k a W hno'
  have r0 := lp_range n l k a
  have hd : ∀ d, a + W + d ≤ l.length → lp n l k (a + W + d) = lp n l k a := by
    intro d
    induction d with
    | zero => intro _; exact e0
    | succ d ih =>
      intro hd
      have e := ih (by omega)
      rw [show a + W + (d + 1) = (a + W + d) + 1 from rfl, lp_succ]
      split
      · rename_i hx
        have := h1 (a + W + d) (by omega) k hk hx
        omega
      · exact e
  have := hd (l.length - (a + W)) (by omega)
  rw [show a + W + (l.length - (a + W)) = l.length by omega] at this
  have := h2 k hk
  omega

theorem fair_of_windows (n : Nat) (l : List Ent) (W : Nat) (h : ∀ i, i < l.length → W ≤ i + 1 → ∀ k, k ≤ n → ((i + 1 : Nat) : Int) - W ≤ lp n l k (i + 1)) (hW : 1 ≤ W) : fairP n l W := by
  intro a ha k hk
  have := h (a + W - 1) (by omega) (by omega) k hk
  rw [show a + W - 1 + 1 = a + W by omega] at this
  have r := lp_range n l k (a + W)
  refine ⟨(lp n l k (a + W)).toNat, by omega, by omega, lp_some n l k _ (by omega)⟩

theorem fair_short (n : Nat) (l : List Ent) (W : Nat) (h : l.length < W) : fairP n l W := by
  intro a ha; omega

/-- Pigeons. -/
theorem holes : ∀ (W : Nat) (K : Nat → Option Nat) (n : Nat), (∀ k, k < n → ∃ j, j < W ∧ K j = some k) → n ≤ W := by
  intro W
  induction W with
  | zero =>
    intro K n h
    rcases Nat.eq_zero_or_pos n with h0 | h0
    · omega
    · obtain ⟨j, hj, _⟩ := h 0 h0
      omega
  | succ W ih =>
    intro K n h
    rcases Nat.eq_zero_or_pos n with h0 | h0
    · omega
    have := ih (fun j => if K j = some (n - 1) then K W else K j) (n - 1) (by
      intro k hk
      obtain ⟨j, hj, he⟩ := h k (by omega)
      have hne : K j ≠ some (n - 1) := by
        rw [he]; intro e; injection e with e; omega
      by_cases hjW : j = W
      · subst hjW
        obtain ⟨j', hj', he'⟩ := h (n - 1) (by omega)
        have : j' ≠ j := by
          rintro rfl; exact hne he'
        exact ⟨j', by omega, by rw [if_pos he']; exact he⟩
      · exact ⟨j, by omega, by rw [if_neg hne]; exact he⟩)
    omega

theorem not_fair_many (n : Nat) (l : List Ent) (W : Nat) (hn : W ≤ n) (hl : W ≤ l.length) : ¬ fairP n l W := by
  intro hf
  have := holes W (at_ n l) (n + 1) (fun k hk => by
    obtain ⟨j, _, h2, he⟩ := hf 0 (by omega) k (by omega)
    exact ⟨j, by omega, he⟩)
  omega

theorem key_worker (n : Nat) (u : Nat) (d : Int) (h : u < n) : key n ⟨1, u, d⟩ = some u := by
  unfold key
  rw [if_pos ⟨rfl, by simp, by simpa using h⟩]
  simp
theorem key_tick (n : Nat) (v d : Int) : key n ⟨2, v, d⟩ = some n := by
  unfold key
  rw [if_neg (by simp), if_pos rfl]
theorem key_none (n : Nat) (kd v d : Int) (h : ¬ (kd = 1 ∧ 0 ≤ v ∧ v < n)) (h2 : kd ≠ 2) : key n ⟨kd, v, d⟩ = none := by
  unfold key
  rw [if_neg h, if_neg h2]

theorem at_some {n : Nat} {l : List Ent} {i : Nat} {e : Ent} (h : l[i]? = some e) : at_ n l i = key n e := by
  unfold at_; rw [h]; rfl

theorem lp_step {n : Nat} {l : List Ent} {i u : Nat} (h : at_ n l i = some u) (k : Nat) : lp n l k (i + 1) = if k = u then (i : Int) else lp n l k i := by
  show (if at_ n l i = some k then (i : Int) else lp n l k i) = _
  rw [h]
  by_cases e : k = u
  · subst e; simp
  · rw [if_neg (by simpa using fun h => e h.symm), if_neg e]
theorem lp_skip {n : Nat} {l : List Ent} {i : Nat} (h : at_ n l i = none) (k : Nat) : lp n l k (i + 1) = lp n l k i := by
  show (if at_ n l i = some k then (i : Int) else lp n l k i) = _
  rw [h]; simp
end Go.Proofs.Ytloeibaeobkgjaa.Fair
