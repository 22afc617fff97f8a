/- sort.Slice's closure with a 'less' and a 'swap' that may make memory: what is asked of them, and what a walk carries. -/
import Derived.Test.YtphblfgafljelaaHpMem
import Derived.Shelf.SlSortFuncK.PdqK
namespace Go.Proofs.Ytphblfgafljelaa.Srt
set_option linter.unusedSectionVars false
open Go.RowKit Go.Shelf Go.Lib Go.Sort Go.Proofs.Ytphblfgafljelaa.Hp
variable {P : Program} {α : Type} [Inhabited α]

/-- I d W: in W the row holds d. -/
structure Env (P : Program) (g : Nat) (lb : Array Value) (sf : Nat) (sb : Array Value) (lt : α → α → Bool) (n blk : Nat) (I : Array α → World → Prop) : Prop where
  eg : ∀ args w, (callFunc g args).run P w = .ok (.enter g args) w
  less : ∀ W d, I d W → d.size = n → ∀ i j : Nat, i < n → j < n → Calls P g (#[.int .i64 i, .int .i64 j] ++ lb) W fun e w' => e = .returned (.bool (lt d[i]! d[j]!)) ∧ I d w' ∧ Keeps (fun b => b = blk) W w'
  swap : ∀ W d, I d W → d.size = n → ∀ i j : Nat, i < n → j < n → ∃ W', (callFunc sf (#[.int .i64 i, .int .i64 j] ++ sb)).run P W = .ok (.value (.tuple #[])) W' ∧ I (swp d i j) W' ∧ Keeps (fun b => b = blk) W W'
  grow : ∀ d W W', I d W → Below W.heap.size W W' → I d W'
  lt : ∀ d W, I d W → blk < W.heap.size

/-- What a walk carries: the row, the box of 'data' at block B. -/
structure St (g : Nat) (lb : Array Value) (sf : Nat) (sb : Array Value) (blk : Nat) (I : Array α → World → Prop) (B : Nat) (d : Array α) (w0 W : World) : Prop where
  i : I d W
  k : Keeps (fun b => b = blk) w0 W
  ne : B ≠ blk
  hB : w0.heap.size ≤ B
  lt : B < W.heap.size
  c0 : W.cell? ⟨B, 0, none⟩ = some (.func (.func g) #[] lb)
  c1 : W.cell? ⟨B, 1, none⟩ = some (.func (.func sf) #[] sb)

variable {g : Nat} {lb : Array Value} {sf : Nat} {sb : Array Value} {lt : α → α → Bool} {n blk B : Nat} {I : Array α → World → Prop} {d d' : Array α} {w0 W W' : World}

theorem St.start (E : Env P g lb sf sb lt n blk I) (h : I d W) (t : TypeId) : St g lb sf sb blk I W.heap.size d W (W.alloc (.cells #[.func (.func g) #[] lb, .func (.func sf) #[] sb] t)) :=
  ⟨E.grow _ _ _ h ((Below.refl _ W).alloc (Nat.le_refl _) _), (Keeps.refl _ W).alloc _, Nat.ne_of_gt (E.lt d W h), Nat.le_refl _, by simp, by simp, by simp⟩

/-- A step that keeps all but the row. -/
theorem St.on (S : St g lb sf sb blk I B d w0 W) (hi : I d' W') (hk : Keeps (fun b => b = blk) W W') : St g lb sf sb blk I B d' w0 W' :=
  ⟨hi, S.k.trans hk fun _ h => Or.inl h, S.ne, S.hB, Nat.lt_of_lt_of_le S.lt hk.size, (hk.cell (p := ⟨B, 0, none⟩) S.lt S.ne).trans S.c0, (hk.cell (p := ⟨B, 1, none⟩) S.lt S.ne).trans S.c1⟩

theorem St.below (E : Env P g lb sf sb lt n blk I) (S : St g lb sf sb blk I B d w0 W) (h : Below W.heap.size W W') : St g lb sf sb blk I B d w0 W' := S.on (E.grow _ _ _ S.i h) (Keeps.ofBelow h)

theorem St.less (S : St g lb sf sb blk I B d w0 W) (E : Env P g lb sf sb lt n blk I) (hd : d.size = n) (i j : Nat) (hi : i < n) (hj : j < n) (zi zj : Int) (ei : zi = i) (ej : zj = j) (b : Bool) (hb : lt d[i]! d[j]! = b) :
    Calls P g (#[.int .i64 zi, .int .i64 zj] ++ lb) W fun e w' => e = .returned (.bool b) ∧ St g lb sf sb blk I B d w0 w' := by
  subst ei ej hb
  exact (E.less W d S.i hd i j hi hj).mono fun e w' ⟨he, h1, h2⟩ => ⟨he, S.on h1 h2⟩

theorem St.swap (S : St g lb sf sb blk I B d w0 W) (E : Env P g lb sf sb lt n blk I) (hd : d.size = n) (i j : Nat) (hi : i < n) (hj : j < n) (zi zj : Int) (ei : zi = i) (ej : zj = j) :
    ∃ W', (callFunc sf (#[.int .i64 zi, .int .i64 zj] ++ sb)).run P W = .ok (.value (.tuple #[])) W' ∧ St g lb sf sb blk I B (swp d i j) w0 W' := by
  subst ei ej
  obtain ⟨W', h1, h2, h3⟩ := E.swap W d S.i hd i j hi hj
  exact ⟨W', h1, S.on h2 h3⟩

end Go.Proofs.Ytphblfgafljelaa.Srt
