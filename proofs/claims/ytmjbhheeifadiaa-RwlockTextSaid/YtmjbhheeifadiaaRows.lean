/-
  No cell of these rows narrows 'for every input' (looked for: loops, veiled, ifaces, maps, wideKeys, modest, calm, conditions, laid).
  DERIVED. THE GIVEN ROWS OF THIS SEAT. 4 by the template 'for every input the law returns true; each argument reads behind the call as it read before'; 0 by the template 'total and deterministic' (their statements: YtmjbhheeifadiaaTotals.lean).
  GIVEN WITH THE SEED: the statements are not yours to turn. If you find one false, say at which input.
  Laid BY PROGRAM, IN A SANDBOX (cutbox-rows.mjs): the forced cells as the released guide's own fill.sh prints them over the translation 5e1917f187c04c92… (all of the seat's roots in one cut). By AI agents, Wed Nov 11 2026. No macro, syntax, notation, axiom, sorry.
-/
import Derived.Test.YtmjbhheeifadiaaChecked
import GoSem.Claim
import GoSem.ClaimJoined
import GoSem.ClaimMapViews
import Derived.JoinedTies
import Derived.KernelRfl
namespace Go.Proofs.Ytmjbhheeifadiaa
/- THE CELL 'sum', in the pinned program and in every row, IS THE sha256 OF THE DUMP (.gsa) THAT YtmjbhheeifadiaaProg.lean LOADS. Nothing in Lean hashes anything: it is a label: what it is worth is what the hold of that sum in a sandbox is worth. -/
noncomputable def Try.pinned : Pinned := { name := "ytmjbhheeifadiaa", sum := "5e1917f187c04c9281c24164c86bf161e6919086d919084267ac4ce6141fba08", checked := Try.checked }
namespace Rows
def none {H : Type} : Left H := { results := [], args := [] }

/-- 'distafflaw20.OnceText': WHATEVER THE INPUT: true; the input reads as it did. -/
def onceTextSpec : ChangeSpec := { name := "onceText", fn := fun _ => fun
  | [] => { results := [.lit (.bool true)], args := [] }
  | _ => none }
def onceTextRow : OpenClaim := { program := "ytmjbhheeifadiaa", sum := "5e1917f187c04c9281c24164c86bf161e6919086d919084267ac4ce6141fba08", func := "distaff/distafflaw20.OnceText", spec := "onceText", apart := false }
def OnceTextSaid : Prop := onceTextRow.holds Try.pinned (OpenSpec.ofChange onceTextSpec)

/-- ITS FALSE NEIGHBOUR: 'it returns false'. Refute it at one input. -/
def onceTextWrong : ChangeSpec := { name := "onceText", fn := fun _ => fun
  | [] => { results := [.lit (.bool false)], args := [] }
  | _ => none }
def OnceTextWrongFalsely : Prop := onceTextRow.holds Try.pinned (OpenSpec.ofChange onceTextWrong)

/-- 'distafflaw21.BarrierText': WHATEVER THE INPUT: true; the input reads as it did. -/
def barrierTextSpec : ChangeSpec := { name := "barrierText", fn := fun _ => fun
  | [] => { results := [.lit (.bool true)], args := [] }
  | _ => none }
def barrierTextRow : OpenClaim := { program := "ytmjbhheeifadiaa", sum := "5e1917f187c04c9281c24164c86bf161e6919086d919084267ac4ce6141fba08", func := "distaff/distafflaw21.BarrierText", spec := "barrierText", apart := false }
def BarrierTextSaid : Prop := barrierTextRow.holds Try.pinned (OpenSpec.ofChange barrierTextSpec)

/-- ITS FALSE NEIGHBOUR: 'it returns false'. Refute it at one input. -/
def barrierTextWrong : ChangeSpec := { name := "barrierText", fn := fun _ => fun
  | [] => { results := [.lit (.bool false)], args := [] }
  | _ => none }
def BarrierTextWrongFalsely : Prop := barrierTextRow.holds Try.pinned (OpenSpec.ofChange barrierTextWrong)

/-- 'distafflaw22.RwlockText': WHATEVER THE INPUT: true; the input reads as it did. -/
def rwlockTextSpec : ChangeSpec := { name := "rwlockText", fn := fun _ => fun
  | [] => { results := [.lit (.bool true)], args := [] }
  | _ => none }
def rwlockTextRow : OpenClaim := { program := "ytmjbhheeifadiaa", sum := "5e1917f187c04c9281c24164c86bf161e6919086d919084267ac4ce6141fba08", func := "distaff/distafflaw22.RwlockText", spec := "rwlockText", apart := false }
def RwlockTextSaid : Prop := rwlockTextRow.holds Try.pinned (OpenSpec.ofChange rwlockTextSpec)

/-- ITS FALSE NEIGHBOUR: 'it returns false'. Refute it at one input. -/
def rwlockTextWrong : ChangeSpec := { name := "rwlockText", fn := fun _ => fun
  | [] => { results := [.lit (.bool false)], args := [] }
  | _ => none }
def RwlockTextWrongFalsely : Prop := rwlockTextRow.holds Try.pinned (OpenSpec.ofChange rwlockTextWrong)

/-- 'distafflaw23.CondText': WHATEVER THE INPUT: true; the input reads as it did. -/
def condTextSpec : ChangeSpec := { name := "condText", fn := fun _ => fun
  | [] => { results := [.lit (.bool true)], args := [] }
  | _ => none }
def condTextRow : OpenClaim := { program := "ytmjbhheeifadiaa", sum := "5e1917f187c04c9281c24164c86bf161e6919086d919084267ac4ce6141fba08", func := "distaff/distafflaw23.CondText", spec := "condText", apart := false }
def CondTextSaid : Prop := condTextRow.holds Try.pinned (OpenSpec.ofChange condTextSpec)

/-- ITS FALSE NEIGHBOUR: 'it returns false'. Refute it at one input. -/
def condTextWrong : ChangeSpec := { name := "condText", fn := fun _ => fun
  | [] => { results := [.lit (.bool false)], args := [] }
  | _ => none }
def CondTextWrongFalsely : Prop := condTextRow.holds Try.pinned (OpenSpec.ofChange condTextWrong)

/- THE SECOND FORM. 'bulk': how many values and letters a reading holds, each counted each time it is reached (what is shared counts as often as it is met; a slice's spare places count too). A statement '..UptoSaid' is the law's where the arguments, and the package variables that the reading takes, are together of bulk at most 1048576: NARROWER than '..Said'. Prove '..Said' where nothing that the law and all that it calls make is longer than what came in: it says more and counts as full. Else prove '..UptoSaid'. A law counts once. -/
mutual
def uptoBulk {H : Type} : DataW H → Nat
  | .lit (.string bytes) => bytes.length + 1
  | .lit _ => 1
  | .nil => 1
  | .ptr d => uptoBulk d + 1
  | .slice elems spare => uptoBulkAll elems + uptoBulkAll spare + 1
  | .agg parts => uptoBulkAll parts + 1
  | .iface _ d => uptoBulk d + 1
  | .map entries => uptoBulkEntries entries + 1
  | .held _ => 1
def uptoBulkAll {H : Type} : List (DataW H) → Nat
  | [] => 0
  | d :: r => uptoBulk d + uptoBulkAll r
def uptoBulkEntries {H : Type} : List (Lit × DataW H) → Nat
  | [] => 0
  | x :: r => uptoBulkEntry x + uptoBulkEntries r
def uptoBulkEntry {H : Type} : Lit × DataW H → Nat
  | (.string bytes, d) => bytes.length + uptoBulk d + 1
  | (_, d) => uptoBulk d + 1
 end
def uptoSmall : (H : Type) → List (DataW H) → Bool := fun _ ds => decide (uptoBulkAll ds ≤ 1048576)
def OpenSpec.upto (s : _root_.Go.ChangeSpec) : _root_.Go.OpenSpec := { _root_.Go.OpenSpec.ofChange s with cond := some uptoSmall }

/-- 'distafflaw20.OnceText', WHERE WHAT IT READS IS OF BULK AT MOST 1048576: true; the input reads as it did. -/
def onceTextUptoRow : OpenClaim := { program := "ytmjbhheeifadiaa", sum := "5e1917f187c04c9281c24164c86bf161e6919086d919084267ac4ce6141fba08", func := "distaff/distafflaw20.OnceText", spec := "onceText", apart := false, narrowed := true }
def OnceTextUptoSaid : Prop := onceTextUptoRow.holds Try.pinned (OpenSpec.upto onceTextSpec)

/-- 'distafflaw21.BarrierText', WHERE WHAT IT READS IS OF BULK AT MOST 1048576: true; the input reads as it did. -/
def barrierTextUptoRow : OpenClaim := { program := "ytmjbhheeifadiaa", sum := "5e1917f187c04c9281c24164c86bf161e6919086d919084267ac4ce6141fba08", func := "distaff/distafflaw21.BarrierText", spec := "barrierText", apart := false, narrowed := true }
def BarrierTextUptoSaid : Prop := barrierTextUptoRow.holds Try.pinned (OpenSpec.upto barrierTextSpec)

/-- 'distafflaw22.RwlockText', WHERE WHAT IT READS IS OF BULK AT MOST 1048576: true; the input reads as it did. -/
def rwlockTextUptoRow : OpenClaim := { program := "ytmjbhheeifadiaa", sum := "5e1917f187c04c9281c24164c86bf161e6919086d919084267ac4ce6141fba08", func := "distaff/distafflaw22.RwlockText", spec := "rwlockText", apart := false, narrowed := true }
def RwlockTextUptoSaid : Prop := rwlockTextUptoRow.holds Try.pinned (OpenSpec.upto rwlockTextSpec)

/-- 'distafflaw23.CondText', WHERE WHAT IT READS IS OF BULK AT MOST 1048576: true; the input reads as it did. -/
def condTextUptoRow : OpenClaim := { program := "ytmjbhheeifadiaa", sum := "5e1917f187c04c9281c24164c86bf161e6919086d919084267ac4ce6141fba08", func := "distaff/distafflaw23.CondText", spec := "condText", apart := false, narrowed := true }
def CondTextUptoSaid : Prop := condTextUptoRow.holds Try.pinned (OpenSpec.upto condTextSpec)

end Rows
end Go.Proofs.Ytmjbhheeifadiaa
