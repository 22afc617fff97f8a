/-
  No cell of these rows narrows 'for every input' (looked for: loops, veiled, ifaces, maps, wideKeys, modest, calm, conditions, laid).
  DERIVED. THE GIVEN ROWS OF THIS SEAT. 6 by the template 'for every input the law returns true; each argument reads behind the call as it read before'; 0 by the template 'total and deterministic' (their statements: YtloeibaeobkgjaaTotals.lean).
  GIVEN WITH THE SEED: the statements are not yours to turn. If you find one false, say at which input.
  Laid BY PROGRAM, IN A SANDBOX (cutbox-rows.mjs): the forced cells as the released guide's own fill.sh prints them over the translation 1ce44728410a8511… (all of the seat's roots in one cut). By AI agents, Wed Nov 11 2026. No macro, syntax, notation, axiom, sorry.
-/
import Derived.Test.YtloeibaeobkgjaaChecked
import GoSem.Claim
import GoSem.ClaimJoined
import GoSem.ClaimMapViews
import Derived.JoinedTies
import Derived.KernelRfl
namespace Go.Proofs.Ytloeibaeobkgjaa
/- THE CELL 'sum', in the pinned program and in every row, IS THE sha256 OF THE DUMP (.gsa) THAT YtloeibaeobkgjaaProg.lean LOADS. Nothing in Lean hashes anything: it is a label: what it is worth is what the hold of that sum in a sandbox is worth. -/
noncomputable def Try.pinned : Pinned := { name := "ytloeibaeobkgjaa", sum := "1ce44728410a85110c5885da5cdce36a38368259cd3f20661929ae78eee3704d", checked := Try.checked }
namespace Rows
def none {H : Type} : Left H := { results := [], args := [] }

/-- 'distafflaw27.FairAsks': WHATEVER THE INPUT: true; the input reads as it did. -/
def fairAsksSpec : ChangeSpec := { name := "fairAsks", fn := fun _ => fun
  | [d1, d2, d3] => { results := [.lit (.bool true)], args := [d1, d2, d3] }
  | _ => none }
def fairAsksRow : OpenClaim := { program := "ytloeibaeobkgjaa", sum := "1ce44728410a85110c5885da5cdce36a38368259cd3f20661929ae78eee3704d", func := "distaff/distafflaw27.FairAsks", spec := "fairAsks", apart := false }
def FairAsksSaid : Prop := fairAsksRow.holds Try.pinned (OpenSpec.ofChange fairAsksSpec)

/-- ITS FALSE NEIGHBOUR: 'it returns false'. Refute it at one input. -/
def fairAsksWrong : ChangeSpec := { name := "fairAsks", fn := fun _ => fun
  | [d1, d2, d3] => { results := [.lit (.bool false)], args := [d1, d2, d3] }
  | _ => none }
def FairAsksWrongFalsely : Prop := fairAsksRow.holds Try.pinned (OpenSpec.ofChange fairAsksWrong)

/-- 'distafflaw27.FairRounds': WHATEVER THE INPUT: true; the input reads as it did. -/
def fairRoundsSpec : ChangeSpec := { name := "fairRounds", fn := fun _ => fun
  | [d1, d2, d3] => { results := [.lit (.bool true)], args := [d1, d2, d3] }
  | _ => none }
def fairRoundsRow : OpenClaim := { program := "ytloeibaeobkgjaa", sum := "1ce44728410a85110c5885da5cdce36a38368259cd3f20661929ae78eee3704d", func := "distaff/distafflaw27.FairRounds", spec := "fairRounds", apart := false }
def FairRoundsSaid : Prop := fairRoundsRow.holds Try.pinned (OpenSpec.ofChange fairRoundsSpec)

/-- ITS FALSE NEIGHBOUR: 'it returns false'. Refute it at one input. -/
def fairRoundsWrong : ChangeSpec := { name := "fairRounds", fn := fun _ => fun
  | [d1, d2, d3] => { results := [.lit (.bool false)], args := [d1, d2, d3] }
  | _ => none }
def FairRoundsWrongFalsely : Prop := fairRoundsRow.holds Try.pinned (OpenSpec.ofChange fairRoundsWrong)

/-- 'distafflaw27.FairLonger': WHATEVER THE INPUT: true; the input reads as it did. -/
def fairLongerSpec : ChangeSpec := { name := "fairLonger", fn := fun _ => fun
  | [d1, d2, d3, d4, d5, d6] => { results := [.lit (.bool true)], args := [d1, d2, d3, d4, d5, d6] }
  | _ => none }
def fairLongerRow : OpenClaim := { program := "ytloeibaeobkgjaa", sum := "1ce44728410a85110c5885da5cdce36a38368259cd3f20661929ae78eee3704d", func := "distaff/distafflaw27.FairLonger", spec := "fairLonger", apart := false }
def FairLongerSaid : Prop := fairLongerRow.holds Try.pinned (OpenSpec.ofChange fairLongerSpec)

/-- ITS FALSE NEIGHBOUR: 'it returns false'. Refute it at one input. -/
def fairLongerWrong : ChangeSpec := { name := "fairLonger", fn := fun _ => fun
  | [d1, d2, d3, d4, d5, d6] => { results := [.lit (.bool false)], args := [d1, d2, d3, d4, d5, d6] }
  | _ => none }
def FairLongerWrongFalsely : Prop := fairLongerRow.holds Try.pinned (OpenSpec.ofChange fairLongerWrong)

/-- 'distafflaw27.FairShuffled': WHATEVER THE INPUT: true; the input reads as it did. -/
def fairShuffledSpec : ChangeSpec := { name := "fairShuffled", fn := fun _ => fun
  | [d1, d2] => { results := [.lit (.bool true)], args := [d1, d2] }
  | _ => none }
def fairShuffledRow : OpenClaim := { program := "ytloeibaeobkgjaa", sum := "1ce44728410a85110c5885da5cdce36a38368259cd3f20661929ae78eee3704d", func := "distaff/distafflaw27.FairShuffled", spec := "fairShuffled", apart := false }
def FairShuffledSaid : Prop := fairShuffledRow.holds Try.pinned (OpenSpec.ofChange fairShuffledSpec)

/-- ITS FALSE NEIGHBOUR: 'it returns false'. Refute it at one input. -/
def fairShuffledWrong : ChangeSpec := { name := "fairShuffled", fn := fun _ => fun
  | [d1, d2] => { results := [.lit (.bool false)], args := [d1, d2] }
  | _ => none }
def FairShuffledWrongFalsely : Prop := fairShuffledRow.holds Try.pinned (OpenSpec.ofChange fairShuffledWrong)

/-- 'distafflaw27.FairBounds': WHATEVER THE INPUT: true; the input reads as it did. -/
def fairBoundsSpec : ChangeSpec := { name := "fairBounds", fn := fun _ => fun
  | [d1, d2, d3] => { results := [.lit (.bool true)], args := [d1, d2, d3] }
  | _ => none }
def fairBoundsRow : OpenClaim := { program := "ytloeibaeobkgjaa", sum := "1ce44728410a85110c5885da5cdce36a38368259cd3f20661929ae78eee3704d", func := "distaff/distafflaw27.FairBounds", spec := "fairBounds", apart := false }
def FairBoundsSaid : Prop := fairBoundsRow.holds Try.pinned (OpenSpec.ofChange fairBoundsSpec)

/-- ITS FALSE NEIGHBOUR: 'it returns false'. Refute it at one input. -/
def fairBoundsWrong : ChangeSpec := { name := "fairBounds", fn := fun _ => fun
  | [d1, d2, d3] => { results := [.lit (.bool false)], args := [d1, d2, d3] }
  | _ => none }
def FairBoundsWrongFalsely : Prop := fairBoundsRow.holds Try.pinned (OpenSpec.ofChange fairBoundsWrong)

/-- 'distafflaw27.FairGrows': WHATEVER THE INPUT: true; the input reads as it did. -/
def fairGrowsSpec : ChangeSpec := { name := "fairGrows", fn := fun _ => fun
  | [d1, d2, d3, d4] => { results := [.lit (.bool true)], args := [d1, d2, d3, d4] }
  | _ => none }
def fairGrowsRow : OpenClaim := { program := "ytloeibaeobkgjaa", sum := "1ce44728410a85110c5885da5cdce36a38368259cd3f20661929ae78eee3704d", func := "distaff/distafflaw27.FairGrows", spec := "fairGrows", unfollowed := true, recurses := true, apart := false }
def FairGrowsSaid : Prop := fairGrowsRow.holds Try.pinned (OpenSpec.ofChange fairGrowsSpec)

/-- ITS FALSE NEIGHBOUR: 'it returns false'. Refute it at one input. -/
def fairGrowsWrong : ChangeSpec := { name := "fairGrows", fn := fun _ => fun
  | [d1, d2, d3, d4] => { results := [.lit (.bool false)], args := [d1, d2, d3, d4] }
  | _ => none }
def FairGrowsWrongFalsely : Prop := fairGrowsRow.holds Try.pinned (OpenSpec.ofChange fairGrowsWrong)

/- THE SECOND FORM. 'bulk': how many values and letters a reading holds, each counted each time it is reached (what is shared counts as often as it is met; a slice's spare places count too). A statement '..UptoSaid' is the law's where the arguments, and the package variables that the reading takes, are together of bulk at most 1048576: NARROWER than '..Said'. Prove '..Said' where nothing that the law and all that it calls make is longer than what came in: it says more and counts as full. Else prove '..UptoSaid'. A law counts once. -/
mutual
def uptoBulk {H : Type} : DataW H → Nat
  | .lit (.string bytes) => bytes.length + 1
  | .lit _ => 1
  | .nil => 1
  | .ptr d => uptoBulk d + 1
  | .slice elems spare => uptoBulkAll elems + uptoBulkAll spare + 1
  | .agg parts => uptoBulkAll parts + 1
  | .iface _ d => uptoBulk d + 1
  | .map entries => uptoBulkEntries entries + 1
  | .held _ => 1
def uptoBulkAll {H : Type} : List (DataW H) → Nat
  | [] => 0
  | d :: r => uptoBulk d + uptoBulkAll r
def uptoBulkEntries {H : Type} : List (Lit × DataW H) → Nat
  | [] => 0
  | x :: r => uptoBulkEntry x + uptoBulkEntries r
def uptoBulkEntry {H : Type} : Lit × DataW H → Nat
  | (.string bytes, d) => bytes.length + uptoBulk d + 1
  | (_, d) => uptoBulk d + 1
 end
def uptoSmall : (H : Type) → List (DataW H) → Bool := fun _ ds => decide (uptoBulkAll ds ≤ 1048576)
def OpenSpec.upto (s : _root_.Go.ChangeSpec) : _root_.Go.OpenSpec := { _root_.Go.OpenSpec.ofChange s with cond := some uptoSmall }

/-- 'distafflaw27.FairAsks', WHERE WHAT IT READS IS OF BULK AT MOST 1048576: true; the input reads as it did. -/
def fairAsksUptoRow : OpenClaim := { program := "ytloeibaeobkgjaa", sum := "1ce44728410a85110c5885da5cdce36a38368259cd3f20661929ae78eee3704d", func := "distaff/distafflaw27.FairAsks", spec := "fairAsks", apart := false, narrowed := true }
def FairAsksUptoSaid : Prop := fairAsksUptoRow.holds Try.pinned (OpenSpec.upto fairAsksSpec)

/-- 'distafflaw27.FairRounds', WHERE WHAT IT READS IS OF BULK AT MOST 1048576: true; the input reads as it did. -/
def fairRoundsUptoRow : OpenClaim := { program := "ytloeibaeobkgjaa", sum := "1ce44728410a85110c5885da5cdce36a38368259cd3f20661929ae78eee3704d", func := "distaff/distafflaw27.FairRounds", spec := "fairRounds", apart := false, narrowed := true }
def FairRoundsUptoSaid : Prop := fairRoundsUptoRow.holds Try.pinned (OpenSpec.upto fairRoundsSpec)

/-- 'distafflaw27.FairLonger', WHERE WHAT IT READS IS OF BULK AT MOST 1048576: true; the input reads as it did. -/
def fairLongerUptoRow : OpenClaim := { program := "ytloeibaeobkgjaa", sum := "1ce44728410a85110c5885da5cdce36a38368259cd3f20661929ae78eee3704d", func := "distaff/distafflaw27.FairLonger", spec := "fairLonger", apart := false, narrowed := true }
def FairLongerUptoSaid : Prop := fairLongerUptoRow.holds Try.pinned (OpenSpec.upto fairLongerSpec)

/-- 'distafflaw27.FairShuffled', WHERE WHAT IT READS IS OF BULK AT MOST 1048576: true; the input reads as it did. -/
def fairShuffledUptoRow : OpenClaim := { program := "ytloeibaeobkgjaa", sum := "1ce44728410a85110c5885da5cdce36a38368259cd3f20661929ae78eee3704d", func := "distaff/distafflaw27.FairShuffled", spec := "fairShuffled", apart := false, narrowed := true }
def FairShuffledUptoSaid : Prop := fairShuffledUptoRow.holds Try.pinned (OpenSpec.upto fairShuffledSpec)

/-- 'distafflaw27.FairBounds', WHERE WHAT IT READS IS OF BULK AT MOST 1048576: true; the input reads as it did. -/
def fairBoundsUptoRow : OpenClaim := { program := "ytloeibaeobkgjaa", sum := "1ce44728410a85110c5885da5cdce36a38368259cd3f20661929ae78eee3704d", func := "distaff/distafflaw27.FairBounds", spec := "fairBounds", apart := false, narrowed := true }
def FairBoundsUptoSaid : Prop := fairBoundsUptoRow.holds Try.pinned (OpenSpec.upto fairBoundsSpec)

/-- 'distafflaw27.FairGrows', WHERE WHAT IT READS IS OF BULK AT MOST 1048576: true; the input reads as it did. -/
def fairGrowsUptoRow : OpenClaim := { program := "ytloeibaeobkgjaa", sum := "1ce44728410a85110c5885da5cdce36a38368259cd3f20661929ae78eee3704d", func := "distaff/distafflaw27.FairGrows", spec := "fairGrows", unfollowed := true, recurses := true, apart := false, narrowed := true }
def FairGrowsUptoSaid : Prop := fairGrowsUptoRow.holds Try.pinned (OpenSpec.upto fairGrowsSpec)

end Rows
end Go.Proofs.Ytloeibaeobkgjaa
