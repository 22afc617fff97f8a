/- The law distafflaw27.FairDead returns true of every input, and its arguments read as before. No condition but errors.errorType as the program's text lays it (tied). -/
import Derived.Test.YtdlpmnmenhojfaaGreatDoorR42
import Derived.Test.YtdlpmnmenhojfaaGreatDoorR03
import Derived.Test.YtdlpmnmenhojfaaGreatDoorFairDeadFacts
import Derived.Test.YtdlpmnmenhojfaaGreatDoorFairDeadGoes
import Derived.Test.YtdlpmnmenhojfaaGreatDoorR03
import Derived.Test.YtdlpmnmenhojfaaGreatDoorR26
import Derived.Test.YtdlpmnmenhojfaaGreatDoorCards
import Derived.Test.YtdlpmnmenhojfaaGreatDoorTie
import Derived.SevenTiedAt
import Derived.JoinedOf
import Derived.WalkKit
import Derived.ProofKit
import Derived.OpenShut
import Derived.ShutString
import Derived.ChangeMaps5
namespace Go.Proofs.YtdlpmnmenhojfaaGreatDoor.fairDead
open Go.ChangeShapes Go.WideShapes Go.ChangeAt Go.RowKit
set_option linter.unusedVariables false

theorem own : ownKnob Tryz.prog.godebug = none := by kernel_rfl

set_option maxRecDepth 100000 in
theorem lifted (os : Os) (started : os.Started) (H : Type) (enc : TypeId × Value → H) :
    ReturnsInHanded {} Tryz.checked os 3 .any (fun w args => (Rows.fairDeadSpec.pre enc Tryz.prog Tryz.f3 [] false w args ∧ laidMetH Tryz.prog Errs.laidL w) ∧ sizedMet enc Tryz.prog Tryz.f3 (OpenSpec.ofChange Rows.fairDeadSpec) false w args) (Rows.fairDeadSpec.post enc Tryz.prog Tryz.f3 false true false false) := by
  refine Errs.returnsInHanded_and_shaped (C := Tryz.checked) (X := fun w _ => laidMetH Tryz.prog Errs.laidL w) (fun _ _ _ hh h => h.of_heap hh) own started (by kernel_rfl) Tryz.func3
    (ChangeSpec.witness_at (enc := enc) (C := Tryz.checked) (os := os) (X := fun w _ => laidMetH Tryz.prog Errs.laidL w) false (Errs.laidWorld os) #[(.int .u64 0), (.slice none 0 0)] 8 rfl (by kernel_rfl) (by kernel_rfl) (by kernel_rfl) (by kernel_rfl) (by kernel_rfl) (Errs.laidWorld_met os _)) ?_
  intro W base args ds gs before hval0 hW hcnd hsz0 hL hsh _
  have hg := Errs.door_of_laid hL
  have hM := Errs.maxDoor_of hsh
  have hMl := Errs.maxDoor_lt hM
  clear hsh
  have hval : ∀ (j : Nat) t v, Tryz.f3.params[j]? = some t → args[j]? = some v → Value.okWide Tryz.prog W .any base t v := hval0
  have hW' := hW
  obtain ⟨p, q, hA0, hV, rfl, hfz, hnd⟩ := hW
  have hA : DataW.TrodAll enc Tryz.prog W 0 (fun _ => true) true Tryz.f3.params.toList args.toList ds p := hA0
  rw [Tryz.params3] at hA hval
  obtain ⟨v0, vs0, d0, ds0, p0, q0, hargs, rfl, rfl, h0, r0⟩ := trodAll_cons hA
  obtain ⟨v1, vs1, d1, ds1, p1, q1, rfl, rfl, rfl, h1, r1⟩ := trodAll_cons r0
  obtain ⟨rfl, rfl, rfl⟩ := trodAll_nil r1
  obtain rfl : args = #[v0, v1] := by cases args; simp_all
  obtain ⟨rfl, rfl⟩ := trodVars_none hV
  obtain ⟨a0, rfl, rfl, hp0, w0⟩ := open_int Tryz.underlying22 (hval 0 22 v0 rfl rfl) h0
  have b0 := bounds_u64 w0
  obtain ⟨A1, n1, c1, zs1, rfl, hn1, hz1⟩ := open_nums Tryz.underlying23 Tryz.underlying22 (by kernel_rfl) (hval 1 23 v1 rfl rfl) h1
  clear hA0 hval0
  simp only [List.append_nil] at hW'
  refine (Kn.fairdead_law a0 A1 n1 c1 zs1 ⟨b0.1, by omega⟩ hn1 W hz1 hg hM hMl).mono fun e W' ⟨he, hb⟩ => ?_
  subst he
  have hlt : ∀ x : MemPlace, x ∈ p0 ++ (p1) → x.block < W.heap.size := fun x hx => hW'.lt x hx
  exact ⟨_, rfl, post_of_below (pa := p0 ++ (p1 ++ [])) (pv := []) hW' (fun _ _ _ => (trodAll_cons_mk (shut_bool Tryz.underlying4 _) trodAll_mk0)) (fun sp hsp => (trodAll_cons_mk (stays (t := 22) (by kernel_rfl) (of_decide_eq_true (by kernel_rfl)) h0 hb (fun x hx => hlt x (by simp [hx])) (fun x hx => hsp x (by simp [hx]))) (trodAll_cons_mk (stays (t := 23) (by kernel_rfl) (of_decide_eq_true (by kernel_rfl)) h1 hb (fun x hx => hlt x (by simp [hx])) (fun x hx => hsp x (by simp [hx]))) trodAll_mk0))) (fun _ _ => rfl) (by simp) hb (ok_one (by kernel_rfl) rfl (okWide_bool_mk Tryz.underlying4 _))⟩

theorem over : Rows.fairDeadRow.holds Tryz.pinned (OpenSpec.ofChange Rows.fairDeadSpec) :=
  OpenClaim.holds_of_wide 3 Tryz.f3 rfl rfl rfl rfl rfl rfl rfl ⟨rfl, rfl, rfl, rfl, rfl⟩ rfl rfl rfl rfl rfl named Tryz.func3 closed
    (of_decide_eq_true (by kernel_rfl)) (by unfold Func.isWrapper; first | (rw [if_pos (by decide +kernel)]; kernel_rfl) | (rw [if_neg (by decide +kernel)]; exact ⟨rfl, rfl⟩))
    (fun os started H enc _ => lifted os started H enc)

/-- The statement: the tied card. -/
theorem proved : Rows.FairDeadCardSaid :=
  Claim7.holds_tied_plain_at .later [] [.data, .handle, .pinned] true (true, "8d22663ca4f493ed2ab96c1ac686812ecee1fffd5e0c16b1d04a7586e4d039c9") true
    over (fun _ h => by cases h) (by kernel_rfl) (fun _ h => by cases h) fairDead_row_tie rfl ⟨rfl, rfl⟩ (by kernel_rfl) rfl
    (fun f fn hf hfn => by
      obtain rfl : f = 3 := Option.some.inj (named.symm.trans hf) |>.symm
      obtain rfl : fn = Tryz.f3 := (Option.some.inj (Tryz.func3.symm.trans hfn)).symm
      exact ⟨by kernel_rfl, fun j t ht => by
        rw [Tryz.params3] at ht
        have h3 : t = 22 ∨ t = 23 := by
          match j, ht with
          | 0, ht => exact Or.inl (by simpa using ht.symm)
          | 1, ht => exact Or.inr ((by simpa using ht.symm))
          | j + 2, ht => simp at ht
        rcases h3 with rfl | rfl
        · exact (show Tryz.prog.wantsStandIn 22 = false by kernel_rfl)
        · exact (show Tryz.prog.wantsStandIn 23 = false by kernel_rfl)⟩)
    goes
#print axioms proved
end Go.Proofs.YtdlpmnmenhojfaaGreatDoor.fairDead
