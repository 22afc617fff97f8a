/- Words on rows that a call owns: two of them apart; one place deleted; entries read off a row. -/
import Derived.Test.YtloeibaeobkgjaaFairBase
import Derived.Deep.RegionLaw
import Derived.Deep.AppendLies
import Derived.Deep.Upon
namespace Go.Proofs.Ytloeibaeobkgjaa.Fair
open Go.ChangeShapes Go.WideShapes Go.ChangeAt Go.RowKit

theorem own_apart {w : World} {base base' : Nat} {e e' : TypeId} {size size' : Nat} {v v' : Value} {n n' : Nat} {xs xs' : List Value}
    (h : w.ownsRow base e size v n xs) (h' : w.ownsRow base' e' size' v' n' xs') (hne : e ≠ e') : v.ownBlock = none ∨ v.ownBlock ≠ v'.ownBlock := by
  rcases h.2 with ⟨rfl, _⟩ | ⟨g, cap, cur, rfl, _, hg, _⟩
  · exact .inl rfl
  · right
    rcases h'.2 with ⟨rfl, _⟩ | ⟨g', cap', cur', rfl, _, hg', _⟩
    · simp [Value.ownBlock]
    · intro he
      have hgg : g = g' := by simpa [Value.ownBlock] using he
      subst hgg
      rw [hg] at hg'
      injection hg' with hg'
      injection hg' with _ ht
      exact hne ht

/-- Behind an append's law: what else is owned, and all that lies below. -/
theorem own_after {w wr w1 : World} {B : Nat} {e e' : TypeId} {size size' : Nat} {v v' : Value} {n n' : Nat} {xs xs' : List Value} {o : Obj}
    (h : wr.ownsRow B e size v n xs) (h' : wr.ownsRow B e' size' v' n' xs') (hne : e' ≠ e) (hb : Below B w wr) (hB : B ≤ wr.heap.size) (hg : (wr.alloc o).grownBy w1 v.ownBlock) :
    w1.ownsRow B e' size' v' n' xs' ∧ Below B w w1 := by
  refine ⟨(h'.alloc o).kept hg (own_apart h' h hne), (hb.alloc hB o).grown hg (by simp; omega) fun k hk => (h.lt k hk).1⟩

theorem block_setCells {g : Nat} {t : TypeId} : ∀ (vs : List Value) (o : Nat) (w : World) (cs : Array Value), w.heap[g]? = some (.cells cs t (0, 0)) →
    ∃ cs', (w.setCells g o vs).heap[g]? = some (.cells cs' t (0, 0)) ∧ cs'.size = cs.size ∧ ∀ i, cs'[i]? = if o ≤ i ∧ i < o + vs.length ∧ i < cs.size then vs[i - o]? else cs[i]? := by
  intro vs
  induction vs with
  | nil =>
    intro o w cs h
    exact ⟨cs, h, rfl, fun i => by rw [if_neg (by simp; omega)]⟩
  | cons v r ih =>
    intro o w cs h
    have h1 : (w.setCell ⟨g, o, none⟩ v).heap[g]? = some (.cells (cs.setIfInBounds o v) t (0, 0)) := by
      simp [World.setCell, Array.getElem?_modify, h]
    obtain ⟨cs', h2, h3, h4⟩ := ih (o + 1) _ _ h1
    refine ⟨cs', h2, by rw [h3]; simp, fun i => ?_⟩
    rw [h4 i]
    simp only [Array.size_setIfInBounds, List.length_cons, Array.getElem?_setIfInBounds]
    by_cases e : i = o
    · subst e
      by_cases hs : i < cs.size
      · rw [if_neg (by omega), if_pos rfl, if_pos hs, if_pos (by omega)]; simp
      · rw [if_neg (by omega), if_pos rfl, if_neg hs, if_neg (by omega)]
        rw [Array.getElem?_eq_none (by omega)]
    · rw [if_neg (show ¬ o = i from fun h => e h.symm)]
      by_cases hc : o + 1 ≤ i ∧ i < o + 1 + r.length ∧ i < cs.size
      · rw [if_pos hc, if_pos (by omega), show i - o = (i - (o + 1)) + 1 by omega, List.getElem?_cons_succ]
      · rw [if_neg hc, if_neg (by omega)]

theorem below_setCells {B : Nat} {a w : World} (h : Below B a w) {g : Nat} (hg : B ≤ g) : ∀ (vs : List Value) (o : Nat), Below B a (w.setCells g o vs) := by
  intro vs
  induction vs generalizing w with
  | nil => intro o; exact h
  | cons v r ih => intro o; exact ih (h.setCell (p := ⟨g, o, none⟩) hg v) (o + 1)

theorem grown_setCells {w : World} {g : Nat} : ∀ (vs : List Value) (o : Nat), w.grownBy (w.setCells g o vs) (some g) := by
  intro vs o
  refine ⟨World.os_setCells w g o vs, ?_, World.output_setCells w g o vs, ?_, ?_⟩
  · have h : ∀ (vs : List Value) (o : Nat) (w : World), (w.setCells g o vs).tape = w.tape := by
      intro vs
      induction vs with
      | nil => intro o w; rfl
      | cons v r ih => intro o w; exact ih (o + 1) _
    exact h vs o w
  · have h : ∀ (vs : List Value) (o : Nat) (w : World), w.heap.size ≤ (w.setCells g o vs).heap.size := by
      intro vs
      induction vs with
      | nil => intro o w; exact Nat.le_refl _
      | cons v r ih => intro o w; exact Nat.le_trans (by simp [World.setCell]) (ih (o + 1) _)
    exact h vs o w
  · intro i hi hne
    exact World.heap_setCells_other w g o vs hi (fun e => hne (by rw [e]))

/-- ONE PLACE DELETED: what lies behind it moved one to the left. -/
theorem own_delete {w : World} {base : Nat} {e : TypeId} {g n cap i : Nat} {xs : List Value} (h : w.ownsRow base e 1 (.slice (some ⟨g, 0, none⟩) n cap) n xs) (hi : i < n) :
    (w.setCells g i (xs.drop (i + 1))).ownsRow base e 1 (.slice (some ⟨g, 0, none⟩) (n - 1) cap) (n - 1) (xs.eraseIdx i) := by
  have hl : xs.length = n := by have := h.1; omega
  refine ⟨by rw [List.length_eraseIdx_of_lt (by omega)]; omega, .inr ?_⟩
  rcases h.2 with ⟨h0, _⟩ | ⟨g', cap', cur, hv, hb, hg, hn, hcap, hsz, ht⟩
  · cases h0
  · injection hv with hv1 hv2 hv3
    injection hv1 with hv1
    injection hv1 with hv1
    subst hv1 hv3
    obtain ⟨cs', h2, h3, h4⟩ := block_setCells (xs.drop (i + 1)) i w cur hg
    refine ⟨g, cap, cs', rfl, hb, h2, by omega, hcap, by rw [h3]; exact hsz, ?_⟩
    have hx : ∀ j, j < n → cur[j]? = xs[j]? := by
      intro j hj
      rw [← ht, List.getElem?_take_of_lt (by omega)]
      simp
    apply List.ext_getElem?
    intro j
    rw [List.getElem?_eraseIdx]
    by_cases hj : j < n - 1
    · rw [List.getElem?_take_of_lt (by omega), Array.getElem?_toList, h4 j]
      by_cases hij : j < i
      · rw [if_neg (by omega), if_pos hij, hx j (by omega)]
      · rw [if_pos (by rw [List.length_drop]; omega), if_neg hij, List.getElem?_drop]
        congr 1; omega
    · rw [List.getElem?_eq_none (by rw [List.length_take]; omega)]
      by_cases hij : j < i
      · omega
      · rw [if_neg hij, List.getElem?_eq_none (by omega)]

def lenV : Value → Nat
  | .slice _ n _ => n
  | _ => 0
def ecells (l : List Ent) : List Value := l.flatMap fun e => [.int .i64 e.kind, .int .i64 e.who, .int .u64 e.draw]
def icells (l : List Nat) : List Value := l.map fun (x : Nat) => Value.int .i64 x

theorem ecells_snoc (l : List Ent) (e : Ent) : ecells (l ++ [e]) = ecells l ++ [.int .i64 e.kind, .int .i64 e.who, .int .u64 e.draw] := by simp [ecells]
theorem icells_snoc (l : List Nat) (x : Nat) : icells (l ++ [x]) = icells l ++ [.int .i64 x] := by simp [icells]
theorem ecells_get (l : List Ent) : ∀ (i : Nat) (e : Ent), l[i]? = some e → (ecells l)[i * 3]? = some (.int .i64 e.kind) ∧ (ecells l)[i * 3 + 1]? = some (.int .i64 e.who) ∧ (ecells l)[i * 3 + 2]? = some (.int .u64 e.draw) := by
  induction l with
  | nil => intro i e h; simp at h
  | cons x r ih =>
    intro i e h
    cases i with
    | zero => simp at h; subst h; simp [ecells]
    | succ i =>
      have := ih i e (by simpa using h)
      simp only [ecells, List.flatMap_cons] at this ⊢
      rw [show (i + 1) * 3 = (i * 3) + 3 by omega]
      exact this

/-- A row of entries that the call owns reads as them. -/
theorem own_ents {w : World} {base : Nat} {v : Value} {l : List Ent} (h : w.ownsRow base 34 3 v l.length (ecells l)) :
    ∃ A c, v = .slice A l.length c ∧ Ents w w.heap.size A l.length l := by
  rcases h.2 with ⟨rfl, h0⟩ | ⟨g, cap, cur, rfl, hb, hg, hn, hcap, hsz, ht⟩
  · exact ⟨none, 0, by rw [h0], rfl, fun h => by omega⟩
  · refine ⟨_, _, rfl, rfl, fun _ => ⟨g, 0, rfl, lt_of_block hg, fun i e he => ?_⟩⟩
    obtain ⟨h1, h2, h3⟩ := ecells_get l i e he
    have hc := fun j u (hj : (ecells l)[j]? = some u) => h.cells (g := g) rfl j u hj
    simp only [Addr.add_lit] at hc
    exact ⟨hc _ _ h1, by simpa [Nat.add_assoc] using hc _ _ h2, by simpa [Nat.add_assoc] using hc _ _ h3⟩
end Go.Proofs.Ytloeibaeobkgjaa.Fair
