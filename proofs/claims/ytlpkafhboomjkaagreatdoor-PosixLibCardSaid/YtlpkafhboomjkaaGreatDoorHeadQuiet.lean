/- A region that draws its order, whose first operations are taken one by one, and whose rest only reads: one walk of the rest in the order of the text serves every order. -/
import Derived.BigQuiet
import Derived.Deep.QuietTactic
import Derived.RegionTactic
namespace Go.Proofs.YtlpkafhboomjkaaGreatDoor
open Go

theorem wpAny_quiet_rest {P : Program} {ops : Array Oper} {Q : Exit → Act → World → Prop} {a : Act} {w : World} (hs : Region.noSelect ops = true) (l : List Oper) (k : Nat) (listed : Array Bool) (hl : ∀ j, l[j]? = ops[k + j]?)
    (hB : Region.lexFrom .any ops l.length k listed = true)
    (h : wpQuiet P ops (fun w' => ∃ n, w' = w.drewN n) (fun a' => ∀ w', (∃ n, w' = w.drewN n) → Q .normal a' w') l a) : wpAny P .any ops Q l.length listed a w :=
  wpAny_of_quiet (C := fun w' => ∃ n, w' = w.drewN n) (Q := fun a' => ∀ w', (∃ n, w' = w.drewN n) → Q .normal a' w') (fun _ w' hw' h => h w' hw') _ _ _ _ ⟨0, rfl⟩ (wpAnyQ_lex (md := .any) hs l k listed a hl hB h)

/-- THE REGION: two operations that may come in either order, then a third (a call), then the rest, which only reads. -/
theorem wp_region_two_call {P : Program} {id : Nat} {ops : Array Oper} {Q : Exit → Act → World → Prop} {a : Act} {w : World} {o0 o1 o2 : Oper} {l : List Oper} (hm : P.follows .mixedOrders = true)
    (hops : ops = (o0 :: o1 :: o2 :: l).toArray) (hs : Region.noSelect ops = true)
    (hr0 : Region.ready .any ops (Array.replicate ops.size false) = [0, 1])
    (hr1 : Region.ready .any ops ((Array.replicate ops.size false).setIfInBounds 0 true) = [1])
    (hr2 : Region.ready .any ops ((Array.replicate ops.size false).setIfInBounds 1 true) = [0])
    (hr3 : Region.ready .any ops (((Array.replicate ops.size false).setIfInBounds 0 true).setIfInBounds 1 true) = [2])
    (hB : Region.lexFrom .any ops l.length 3 ((((Array.replicate ops.size false).setIfInBounds 0 true).setIfInBounds 1 true).setIfInBounds 2 true) = true)
    (g0 : o0.guard = none) (g1 : o1.guard = none) (g2 : o2.guard = none) (v0 v1 : Value)
    (h0 : ∀ (w' : World), (execOp a.eval o0).run P w' = .ok (.value v0) w') (h0' : ∀ (w' : World), (execOp (a.put o1.dst v1).eval o0).run P w' = .ok (.value v0) w')
    (h1 : ∀ (w' : World), (execOp a.eval o1).run P w' = .ok (.value v1) w') (h1' : ∀ (w' : World), (execOp (a.put o0.dst v0).eval o1).run P w' = .ok (.value v1) w')
    (hcomm : (a.put o1.dst v1).put o0.dst v0 = (a.put o0.dst v0).put o1.dst v1)
    (h2 : ∀ K : Act → World → Prop, (∀ a' w', wpQuiet P ops (fun x => ∃ n, x = w'.drewN n) (fun a'' => ∀ x, (∃ n, x = w'.drewN n) → Q .normal a'' x) l a' → K a' w') → Oper.wp P o2 ((a.put o0.dst v0).put o1.dst v1) w.drew K Q) :
    (Code.region id ops true).wp P Q a w := by
  have e0 : ops[0]? = some o0 := by rw [hops]; rfl
  have e1 : ops[1]? = some o1 := by rw [hops]; rfl
  have e2 : ops[2]? = some o2 := by rw [hops]; rfl
  have hl : ∀ j, l[j]? = ops[3 + j]? := by
    intro j; rw [hops]; simp [Nat.add_comm 3 j]
  have hsz : ops.size = l.length + 1 + 1 + 1 := by rw [hops]; simp
  have two : wpAny P .any ops Q (l.length + 1) (((Array.replicate ops.size false).setIfInBounds 0 true).setIfInBounds 1 true) ((a.put o0.dst v0).put o1.dst v1) w.drew := by
    refine wpAny_ready hr3 (by simp) (AllReady.cons e2 ?_ AllReady.nil)
    intro K' hK'
    rw [if_pos (by simp [Region.wanted, g2])]
    exact h2 K' fun a' w' hq => hK' a' w' (wpAny_quiet_rest hs l 3 _ hl hB hq)
  refine wp_region_any hm ?_
  rw [show wpAny P .any ops Q ops.size = wpAny P .any ops Q (l.length + 1 + 1 + 1) by rw [hsz]]
  refine wpAny_ready hr0 (by simp) (AllReady.cons e0 ?_ (AllReady.cons e1 ?_ AllReady.nil))
  · intro K' hK'
    rw [if_pos (by simp [Region.wanted, g0])]
    unfold Oper.wp
    rw [h0]
    refine hK' _ _ (wpAny_ready hr1 (by simp) (AllReady.cons e1 ?_ AllReady.nil))
    intro K'' hK''
    rw [if_pos (by simp [Region.wanted, g1])]
    unfold Oper.wp
    rw [h1']
    exact hK'' _ _ two
  · intro K' hK'
    rw [if_pos (by simp [Region.wanted, g1])]
    unfold Oper.wp
    rw [h1]
    refine hK' _ _ (wpAny_ready hr2 (by simp) (AllReady.cons e0 ?_ AllReady.nil))
    intro K'' hK''
    rw [if_pos (by simp [Region.wanted, g0])]
    unfold Oper.wp
    rw [h0']
    refine hK'' _ _ ?_
    rw [hcomm, Array.setIfInBounds_comm _ _ (by omega)]
    exact two
end Go.Proofs.YtlpkafhboomjkaaGreatDoor
