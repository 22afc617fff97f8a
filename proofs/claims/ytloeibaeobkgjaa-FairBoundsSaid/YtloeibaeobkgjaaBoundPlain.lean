/- The plain law of the bound: a product, cut off at 2^62. -/
import Derived.IntWalk
namespace Go.Proofs.Ytloeibaeobkgjaa.Bd

def M : Nat := 4611686018427387904
theorem M_eq : M = 4611686018427387904 := rfl
def tm (a b : Nat) : Nat := min (a * b) M

theorem tm_big {a b : Nat} (hb : 1 ≤ b) (h : M / b < a) : tm a b = M := by
  unfold tm
  have : M < a * b := (Nat.div_lt_iff_lt_mul (by omega)).1 h
  omega
theorem tm_small {a b : Nat} (hb : 1 ≤ b) (h : ¬ M / b < a) : tm a b = a * b ∧ a * b ≤ M := by
  have : a * b ≤ M := (Nat.le_div_iff_mul_le (by omega)).1 (by omega)
  unfold tm
  omega
theorem tm_le (a b : Nat) : tm a b ≤ M := by unfold tm; omega
theorem tm_pos {a b : Nat} (ha : 1 ≤ a) (hb : 1 ≤ b) : 1 ≤ tm a b := by
  have := Nat.mul_le_mul ha hb
  unfold tm
  rw [M_eq]; omega
theorem tm_tm (a b c : Nat) (hc : 1 ≤ c) : tm (tm a b) c = min (a * b * c) M := by
  unfold tm
  rcases Nat.le_total (a * b) M with h | h
  · rw [Nat.min_eq_left h]
  · rw [Nat.min_eq_right h]
    have h1 := Nat.mul_le_mul_right c h
    have h2 := Nat.mul_le_mul_left M hc
    omega

/-- The bound out of four numbers from 1 on. -/
def bd (b w t e : Nat) : Nat := tm (tm (tm (tm b w) (t + 2)) (t + 2)) e
theorem bd_eq {b w t e : Nat} (he : 1 ≤ e) : bd b w t e = min (b * w * (t + 2) * (t + 2) * e) M := by
  unfold bd
  have h1 : tm (tm b w) (t + 2) = min (b * w * (t + 2)) M := tm_tm b w (t + 2) (by omega)
  have h2 : tm (tm (tm b w) (t + 2)) (t + 2) = min (b * w * (t + 2) * (t + 2)) M := by
    rw [h1]; exact tm_tm (b * w) (t + 2) (t + 2) (by omega)
  rw [h2]
  exact tm_tm (b * w * (t + 2)) (t + 2) e he

def each (w : Nat) : Nat := 300 + 1300 * (w - 1)
theorem each_pos (w : Nat) : 1 ≤ each w := by unfold each; omega

def bound (w t b : Nat) : Nat := bd b w t (each (min w 1125899906842624))
def boundR (w t b : Nat) : Nat := bd (min b M) (min w 1152921504606846976) (min t 1152921504606846976) (each (min (min w 1152921504606846976) 1099511627776))

theorem bd_top {b w t e : Nat} (h : M ≤ b * w * (t + 2) * (t + 2) * e) (he : 1 ≤ e) : bd b w t e = M := by rw [bd_eq he]; omega

theorem mul5 {b w x y e b' w' x' y' e' : Nat} (h1 : b' ≤ b) (h2 : w' ≤ w) (h3 : x' ≤ x) (h4 : y' ≤ y) (h5 : e' ≤ e) : b' * w' * x' * y' * e' ≤ b * w * x * y * e :=
  Nat.mul_le_mul (Nat.mul_le_mul (Nat.mul_le_mul (Nat.mul_le_mul h1 h2) h3) h4) h5

theorem bound_same (w t b : Nat) (hw : 1 ≤ w) (ht : 1 ≤ t) (hb : 1 ≤ b) : bound w t b = boundR w t b := by
  unfold bound boundR
  by_cases h1 : M ≤ b
  · rw [bd_top (by have := mul5 h1 hw (show 1 ≤ t + 2 by omega) (show 1 ≤ t + 2 by omega) (each_pos (min w 1125899906842624)); omega) (each_pos _),
      bd_top (by have := mul5 (Nat.le_refl M) (show 1 ≤ min w 1152921504606846976 by omega) (show 1 ≤ min t 1152921504606846976 + 2 by omega) (show 1 ≤ min t 1152921504606846976 + 2 by omega) (each_pos (min (min w 1152921504606846976) 1099511627776)); rw [Nat.min_eq_right h1]; omega) (each_pos _)]
  · by_cases h2 : 1152921504606846976 ≤ t
    · rw [bd_top (by have := mul5 hb hw (show 1152921504606846976 ≤ t + 2 by omega) (show 1152921504606846976 ≤ t + 2 by omega) (each_pos (min w 1125899906842624)); rw [M_eq]; omega) (each_pos _),
        bd_top (by have := mul5 (show 1 ≤ min b M by rw [M_eq]; omega) (show 1 ≤ min w 1152921504606846976 by omega) (show 1152921504606846976 ≤ min t 1152921504606846976 + 2 by omega) (show 1152921504606846976 ≤ min t 1152921504606846976 + 2 by omega) (each_pos (min (min w 1152921504606846976) 1099511627776)); rw [M_eq] at this ⊢; omega) (each_pos _)]
    · by_cases h3 : 1099511627776 ≤ w
      · rw [bd_top (by have := mul5 hb h3 (show 3 ≤ t + 2 by omega) (show 3 ≤ t + 2 by omega) (show 1300 * 1000000 ≤ each (min w 1125899906842624) by unfold each; omega); rw [M_eq]; omega) (each_pos _),
          bd_top (by have := mul5 (show 1 ≤ min b M by rw [M_eq]; omega) (show 1099511627776 ≤ min w 1152921504606846976 by omega) (show 3 ≤ min t 1152921504606846976 + 2 by omega) (show 3 ≤ min t 1152921504606846976 + 2 by omega) (show 1300 * 1000000 ≤ each (min (min w 1152921504606846976) 1099511627776) by unfold each; omega); rw [M_eq] at this ⊢; omega) (each_pos _)]
      · rw [Nat.min_eq_left (show b ≤ M by omega), show min w 1152921504606846976 = w by omega, show min t 1152921504606846976 = t by omega, show min w 1125899906842624 = w by omega, show min w 1099511627776 = w by omega]

theorem bound_pos (w t b : Nat) (hw : 1 ≤ w) (hb : 1 ≤ b) : 1 ≤ bound w t b := by
  unfold bound
  rw [bd_eq (each_pos _)]
  have := mul5 hb hw (show 1 ≤ t + 2 by omega) (show 1 ≤ t + 2 by omega) (each_pos (min w 1125899906842624))
  rw [M_eq]; omega
theorem bound_le (w t b : Nat) : bound w t b ≤ M := tm_le _ _
theorem bound_mono {w t b w' t' b' : Nat} (h1 : w ≤ w') (h2 : t ≤ t') (h3 : b ≤ b') : bound w t b ≤ bound w' t' b' := by
  unfold bound
  rw [bd_eq (each_pos _), bd_eq (each_pos _)]
  have := mul5 h3 h1 (show t + 2 ≤ t' + 2 by omega) (show t + 2 ≤ t' + 2 by omega) (show each (min w 1125899906842624) ≤ each (min w' 1125899906842624) by unfold each; omega)
  omega
end Go.Proofs.Ytloeibaeobkgjaa.Bd
