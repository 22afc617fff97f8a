/- The plain law of rounds: in each all are picked once; such entries are fair. -/
import Derived.Test.YtloeibaeobkgjaaFairPlain
import Derived.IntWalk
namespace Go.Proofs.Ytloeibaeobkgjaa.Fair

/-- The next number of the sequence. -/
def lcg (s : Int) : Int := IntKind.u64.wrap (IntKind.u64.wrap (s * 6364136223846793005) + 1442695040888963407)
/-- What it draws. -/
def high (s : Int) : Int := lcg s / 4294967296
/-- Which of f is taken. -/
def pickI (f : Nat) (s : Int) : Nat := (high s % (f : Int)).toNat
def ent (m x : Nat) (d : Int) : Ent := if x < m then ⟨1, x, d⟩ else ⟨2, 0, 0⟩

def goR (m : Nat) : Nat → List Ent → List Nat → Int → List Ent × Int
  | 0, l, _, s => (l, s)
  | f + 1, l, left, s => goR m f (l ++ [ent m (left.getD (pickI (f + 1) s) 0) (high s)]) (left.eraseIdx (pickI (f + 1) s)) (lcg s)

def roundsL (m : Nat) : Nat → List Ent → Int → List Ent
  | 0, l, _ => l
  | r + 1, l, s => roundsL m r (goR m (m + 1) l (List.range (m + 1)) s).1 (goR m (m + 1) l (List.range (m + 1)) s).2

theorem pickI_lt (f : Nat) (s : Int) : pickI (f + 1) s < f + 1 := by
  unfold pickI
  have h1 := Int.emod_nonneg (high s) (show ((f + 1 : Nat) : Int) ≠ 0 by omega)
  have h2 := Int.emod_lt_of_pos (high s) (show (0 : Int) < ((f + 1 : Nat) : Int) by omega)
  omega

theorem mem_erase_or {left : List Nat} {i x : Nat} (hi : i < left.length) (hx : x ∈ left) : x = left.getD i 0 ∨ x ∈ left.eraseIdx i := by
  have e : left = left.take i ++ left[i] :: left.drop (i + 1) := by
    rw [← List.drop_eq_getElem_cons hi, List.take_append_drop]
  rw [List.eraseIdx_eq_take_drop_succ]
  rw [e] at hx
  rw [List.getD_eq_getElem?_getD, List.getElem?_eq_getElem hi, Option.getD_some]
  simp only [List.mem_append, List.mem_cons] at hx ⊢
  rcases hx with h | h | h
  · exact .inr (.inl h)
  · exact .inl h
  · exact .inr (.inr h)

theorem key_ent (m x : Nat) (d : Int) (h : x ≤ m) : key m (ent m x d) = some x := by
  unfold ent
  split
  · exact key_worker m x d ‹_›
  · rw [key_tick]; congr 1; omega

/-- One round. -/
theorem goR_spec (m : Nat) : ∀ (f : Nat) (l : List Ent) (left : List Nat) (s : Int), left.length = f → (∀ x ∈ left, x ≤ m) →
    ∃ blk, (goR m f l left s).1 = l ++ blk ∧ blk.length = f ∧ ∀ x ∈ left, ∃ (j : Nat) (e : Ent), blk[j]? = some e ∧ key m e = some x := by
  intro f
  induction f with
  | zero =>
    intro l left s hl _
    refine ⟨[], by simp [goR], rfl, fun x hx => ?_⟩
    rw [List.length_eq_zero_iff.1 hl] at hx
    cases hx
  | succ f ih =>
    intro l left s hl hm
    have hi := pickI_lt f s
    generalize hp : pickI (f + 1) s = i at hi
    obtain ⟨blk, h1, h2, h3⟩ := ih (l ++ [ent m (left.getD i 0) (high s)]) (left.eraseIdx i) (lcg s) (by rw [List.length_eraseIdx_of_lt (by omega)]; omega) (fun x hx => hm x (List.mem_of_mem_eraseIdx hx))
    refine ⟨ent m (left.getD i 0) (high s) :: blk, ?_, by simp [h2], fun x hx => ?_⟩
    · unfold goR
      rw [hp, h1]
      simp
    · rcases mem_erase_or (i := i) (by omega) hx with e | e
      · exact ⟨0, _, rfl, by rw [← e]; exact key_ent m x _ (hm x hx)⟩
      · obtain ⟨j, y, hy, hk⟩ := h3 x e
        exact ⟨j + 1, y, by simpa using hy, hk⟩

/-- Blocks in each of which all are. -/
def Blocks (m R : Nat) (L : List Ent) : Prop :=
  L.length = R * (m + 1) ∧ ∀ b, b < R → ∀ k, k ≤ m → ∃ j, b * (m + 1) ≤ j ∧ j < b * (m + 1) + (m + 1) ∧ at_ m L j = some k

theorem at_append_left {m : Nat} {L L' : List Ent} {j : Nat} (h : j < L.length) : at_ m (L ++ L') j = at_ m L j := by
  unfold at_; rw [List.getElem?_append_left h]
theorem at_append_right {m : Nat} {L L' : List Ent} {j : Nat} : at_ m (L ++ L') (L.length + j) = at_ m L' j := by
  unfold at_; rw [List.getElem?_append_right (by omega)]; congr 2; omega

theorem Blocks.snoc {m R : Nat} {L blk : List Ent} (h : Blocks m R L) (hb : blk.length = m + 1) (hk : ∀ k, k ≤ m → ∃ (j : Nat) (e : Ent), blk[j]? = some e ∧ key m e = some k) : Blocks m (R + 1) (L ++ blk) := by
  refine ⟨by rw [List.length_append, h.1, hb, Nat.add_mul, Nat.one_mul], fun b hbR k hkm => ?_⟩
  by_cases e : b = R
  · subst e
    obtain ⟨j, e, hj, he⟩ := hk k hkm
    have hjl := (List.getElem?_eq_some_iff.1 hj).1
    refine ⟨L.length + j, by rw [h.1]; omega, by rw [h.1]; omega, ?_⟩
    rw [at_append_right, at_some hj, he]
  · obtain ⟨j, h1, h2, h3⟩ := h.2 b (by omega) k hkm
    refine ⟨j, h1, h2, ?_⟩
    rw [at_append_left, h3]
    have := Nat.mul_le_mul_right (m + 1) (show b + 1 ≤ R by omega)
    rw [Nat.add_mul, Nat.one_mul] at this
    rw [h.1]; omega

theorem Blocks.nil (m : Nat) : Blocks m 0 [] := ⟨by simp, fun b hb => by omega⟩

theorem rounds_blocks (m : Nat) : ∀ (r R : Nat) (l : List Ent) (s : Int), Blocks m R l → Blocks m (R + r) (roundsL m r l s) := by
  intro r
  induction r with
  | zero => intro R l s h; exact h
  | succ r ih =>
    intro R l s h
    unfold roundsL
    rw [show R + (r + 1) = (R + 1) + r by omega]
    refine ih _ _ _ ?_
    obtain ⟨blk, h1, h2, h3⟩ := goR_spec m (m + 1) l (List.range (m + 1)) s (by simp) (fun x hx => by have := List.mem_range.1 hx; omega)
    rw [h1]
    exact h.snoc h2 fun k hk => h3 k (List.mem_range.2 (by omega))

theorem blocks_fair {m R : Nat} {L : List Ent} (h : Blocks m R L) : fairP m L (2 * m + 1) := by
  intro a ha k hk
  rw [h.1] at ha
  -- the first block that begins at or behind a
  have hd := Nat.div_add_mod (a + m) (m + 1)
  have hm := Nat.mod_lt (a + m) (show 0 < m + 1 by omega)
  generalize hb : (a + m) / (m + 1) = b at hd
  rw [Nat.mul_comm] at hd
  have hbR : b < R := by
    rcases Nat.lt_or_ge b R with hlt | hge
    · exact hlt
    · have := Nat.mul_le_mul_right (m + 1) hge
      omega
  obtain ⟨j, h1, h2, h3⟩ := h.2 b hbR k hk
  exact ⟨j, by omega, by omega, h3⟩

theorem rounds_len (m r : Nat) (s : Int) : (roundsL m r [] s).length = r * (m + 1) := by
  have := (rounds_blocks m r 0 [] s (Blocks.nil m)).1
  simpa using this
theorem rounds_fair (m r : Nat) (s : Int) : fairB m (roundsL m r [] s) (2 * m + 1) = true := by
  rw [fairB_iff]
  refine ⟨by omega, ?_⟩
  rw [show (2 * (m : Int) + 1).toNat = 2 * m + 1 by omega]
  exact blocks_fair (rounds_blocks m r 0 [] s (Blocks.nil m))
end Go.Proofs.Ytloeibaeobkgjaa.Fair
