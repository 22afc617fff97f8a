/-
  NARROWER THAN 'FOR EVERY INPUT', by the rows' own cells (each row's printed sentence says how): PosixProblems: laid · PosixNames: laid · PosixTable: laid.
  DERIVED. THE GIVEN ROWS OF THIS SEAT. 3 by the template 'for every input the law returns true; each argument reads behind the call as it read before'; 0 by the template 'total and deterministic' (their statements: YtmijknodkoblbaaDoorTotals.lean).
  GIVEN WITH THE SEED: the statements are not yours to turn. If you find one false, say at which input.
  Laid BY PROGRAM, IN A SANDBOX (cutbox-rows.mjs): the forced cells as the released guide's own fill.sh prints them over the translation 82899d6e6ca831dc… (all of the seat's roots in one cut). By AI agents, Wed Nov 11 2026. No macro, syntax, notation, axiom, sorry.
-/
import Derived.Test.YtmijknodkoblbaaDoorChecked
import GoSem.Claim
import GoSem.ClaimJoined
import GoSem.ClaimMapViews
import Derived.JoinedTies
import Derived.KernelRfl
namespace Go.Proofs.YtmijknodkoblbaaDoor
/- THE CELL 'sum', in the pinned program and in every row, IS THE sha256 OF THE DUMP (.gsa) THAT YtmijknodkoblbaaDoorProg.lean LOADS. Nothing in Lean hashes anything: it is a label: what it is worth is what the hold of that sum in a sandbox is worth. -/
noncomputable def Tryd.pinned : Pinned := { name := "ytmijknodkoblbaadoor", sum := "82899d6e6ca831dc3c57eed568e634818eefdc519d3423f7d611e3800c4da812", checked := Tryd.checked }
namespace Rows
def none {H : Type} : Left H := { results := [], args := [] }

/- WHAT THE LISTED PACKAGE-LEVEL VARIABLES READ AS WHEN THE CALL BEGINS. Each datum BY PROGRAM (the guide's laid-datum.mjs) off the statement by which the dump's own 'gosem.cut.vars' lays the variable. In a bare row this is a premise. The card (YtmijknodkoblbaaDoorCards.lean) ties it to the program's text. -/
def laid_errors_errorType {H : Type} : DataW H := .iface "internal/reflectlite.rtype" (.agg [.ptr (.lit (.string [101, 114, 114, 111, 114]))])

/-- 'distafflaw24.PosixProblems': WHATEVER THE INPUT: true; the input reads as it did. -/
def posixProblemsSpec : ChangeSpec := { name := "posixProblems", fn := fun _ => fun
  | [d1, d2] => { results := [.lit (.bool true)], args := [d1, d2] }
  | _ => none }
def posixProblemsRow : OpenClaim := { program := "ytmijknodkoblbaadoor", sum := "82899d6e6ca831dc3c57eed568e634818eefdc519d3423f7d611e3800c4da812", func := "distaff/distafflaw24.PosixProblems", spec := "posixProblems", inPlace := ["internal/reflectlite.TypeOf", "internal/reflectlite.ValueOf", "(internal/reflectlite.Value).Type", "(internal/reflectlite.Value).IsNil", "(internal/reflectlite.Value).Elem", "(internal/reflectlite.Value).Set"], unfollowed := true, recurses := true, named := ["errors.errorType"], apart := false, laid := [("errors.errorType", laid_errors_errorType)] }
def PosixProblemsSaid : Prop := posixProblemsRow.holds Tryd.pinned (OpenSpec.ofChange posixProblemsSpec)

/-- ITS FALSE NEIGHBOUR: 'it returns false'. Refute it at one input. -/
def posixProblemsWrong : ChangeSpec := { name := "posixProblems", fn := fun _ => fun
  | [d1, d2] => { results := [.lit (.bool false)], args := [d1, d2] }
  | _ => none }
def PosixProblemsWrongFalsely : Prop := posixProblemsRow.holds Tryd.pinned (OpenSpec.ofChange posixProblemsWrong)

/-- 'distafflaw24.PosixNames': WHATEVER THE INPUT: true; the input reads as it did. -/
def posixNamesSpec : ChangeSpec := { name := "posixNames", fn := fun _ => fun
  | [d1, d2] => { results := [.lit (.bool true)], args := [d1, d2] }
  | _ => none }
def posixNamesRow : OpenClaim := { program := "ytmijknodkoblbaadoor", sum := "82899d6e6ca831dc3c57eed568e634818eefdc519d3423f7d611e3800c4da812", func := "distaff/distafflaw24.PosixNames", spec := "posixNames", inPlace := ["internal/reflectlite.TypeOf", "internal/reflectlite.ValueOf", "(internal/reflectlite.Value).Type", "(internal/reflectlite.Value).IsNil", "(internal/reflectlite.Value).Elem", "(internal/reflectlite.Value).Set"], unfollowed := true, recurses := true, named := ["errors.errorType"], apart := false, laid := [("errors.errorType", laid_errors_errorType)] }
def PosixNamesSaid : Prop := posixNamesRow.holds Tryd.pinned (OpenSpec.ofChange posixNamesSpec)

/-- ITS FALSE NEIGHBOUR: 'it returns false'. Refute it at one input. -/
def posixNamesWrong : ChangeSpec := { name := "posixNames", fn := fun _ => fun
  | [d1, d2] => { results := [.lit (.bool false)], args := [d1, d2] }
  | _ => none }
def PosixNamesWrongFalsely : Prop := posixNamesRow.holds Tryd.pinned (OpenSpec.ofChange posixNamesWrong)

/-- 'distafflaw24.PosixTable': WHATEVER THE INPUT: true; the input reads as it did. -/
def posixTableSpec : ChangeSpec := { name := "posixTable", fn := fun _ => fun
  | [] => { results := [.lit (.bool true)], args := [] }
  | _ => none }
def posixTableRow : OpenClaim := { program := "ytmijknodkoblbaadoor", sum := "82899d6e6ca831dc3c57eed568e634818eefdc519d3423f7d611e3800c4da812", func := "distaff/distafflaw24.PosixTable", spec := "posixTable", inPlace := ["internal/reflectlite.TypeOf", "internal/reflectlite.ValueOf", "(internal/reflectlite.Value).Type", "(internal/reflectlite.Value).IsNil", "(internal/reflectlite.Value).Elem", "(internal/reflectlite.Value).Set"], unfollowed := true, recurses := true, named := ["errors.errorType"], apart := false, laid := [("errors.errorType", laid_errors_errorType)] }
def PosixTableSaid : Prop := posixTableRow.holds Tryd.pinned (OpenSpec.ofChange posixTableSpec)

/-- ITS FALSE NEIGHBOUR: 'it returns false'. Refute it at one input. -/
def posixTableWrong : ChangeSpec := { name := "posixTable", fn := fun _ => fun
  | [] => { results := [.lit (.bool false)], args := [] }
  | _ => none }
def PosixTableWrongFalsely : Prop := posixTableRow.holds Tryd.pinned (OpenSpec.ofChange posixTableWrong)

/- THE SECOND FORM. 'bulk': how many values and letters a reading holds, each counted each time it is reached (what is shared counts as often as it is met; a slice's spare places count too). A statement '..UptoSaid' is the law's where the arguments, and the package variables that the reading takes, are together of bulk at most 1048576: NARROWER than '..Said'. Prove '..Said' where nothing that the law and all that it calls make is longer than what came in: it says more and counts as full. Else prove '..UptoSaid'. A law counts once. -/
mutual
def uptoBulk {H : Type} : DataW H → Nat
  | .lit (.string bytes) => bytes.length + 1
  | .lit _ => 1
  | .nil => 1
  | .ptr d => uptoBulk d + 1
  | .slice elems spare => uptoBulkAll elems + uptoBulkAll spare + 1
  | .agg parts => uptoBulkAll parts + 1
  | .iface _ d => uptoBulk d + 1
  | .map entries => uptoBulkEntries entries + 1
  | .held _ => 1
def uptoBulkAll {H : Type} : List (DataW H) → Nat
  | [] => 0
  | d :: r => uptoBulk d + uptoBulkAll r
def uptoBulkEntries {H : Type} : List (Lit × DataW H) → Nat
  | [] => 0
  | x :: r => uptoBulkEntry x + uptoBulkEntries r
def uptoBulkEntry {H : Type} : Lit × DataW H → Nat
  | (.string bytes, d) => bytes.length + uptoBulk d + 1
  | (_, d) => uptoBulk d + 1
 end
def uptoSmall : (H : Type) → List (DataW H) → Bool := fun _ ds => decide (uptoBulkAll ds ≤ 1048576)
def OpenSpec.upto (s : _root_.Go.ChangeSpec) : _root_.Go.OpenSpec := { _root_.Go.OpenSpec.ofChange s with cond := some uptoSmall }

/-- 'distafflaw24.PosixProblems', WHERE WHAT IT READS IS OF BULK AT MOST 1048576: true; the input reads as it did. -/
def posixProblemsUptoRow : OpenClaim := { program := "ytmijknodkoblbaadoor", sum := "82899d6e6ca831dc3c57eed568e634818eefdc519d3423f7d611e3800c4da812", func := "distaff/distafflaw24.PosixProblems", spec := "posixProblems", inPlace := ["internal/reflectlite.TypeOf", "internal/reflectlite.ValueOf", "(internal/reflectlite.Value).Type", "(internal/reflectlite.Value).IsNil", "(internal/reflectlite.Value).Elem", "(internal/reflectlite.Value).Set"], unfollowed := true, recurses := true, named := ["errors.errorType"], apart := false, laid := [("errors.errorType", laid_errors_errorType)], narrowed := true }
def PosixProblemsUptoSaid : Prop := posixProblemsUptoRow.holds Tryd.pinned (OpenSpec.upto posixProblemsSpec)

/-- 'distafflaw24.PosixNames', WHERE WHAT IT READS IS OF BULK AT MOST 1048576: true; the input reads as it did. -/
def posixNamesUptoRow : OpenClaim := { program := "ytmijknodkoblbaadoor", sum := "82899d6e6ca831dc3c57eed568e634818eefdc519d3423f7d611e3800c4da812", func := "distaff/distafflaw24.PosixNames", spec := "posixNames", inPlace := ["internal/reflectlite.TypeOf", "internal/reflectlite.ValueOf", "(internal/reflectlite.Value).Type", "(internal/reflectlite.Value).IsNil", "(internal/reflectlite.Value).Elem", "(internal/reflectlite.Value).Set"], unfollowed := true, recurses := true, named := ["errors.errorType"], apart := false, laid := [("errors.errorType", laid_errors_errorType)], narrowed := true }
def PosixNamesUptoSaid : Prop := posixNamesUptoRow.holds Tryd.pinned (OpenSpec.upto posixNamesSpec)

/-- 'distafflaw24.PosixTable', WHERE WHAT IT READS IS OF BULK AT MOST 1048576: true; the input reads as it did. -/
def posixTableUptoRow : OpenClaim := { program := "ytmijknodkoblbaadoor", sum := "82899d6e6ca831dc3c57eed568e634818eefdc519d3423f7d611e3800c4da812", func := "distaff/distafflaw24.PosixTable", spec := "posixTable", inPlace := ["internal/reflectlite.TypeOf", "internal/reflectlite.ValueOf", "(internal/reflectlite.Value).Type", "(internal/reflectlite.Value).IsNil", "(internal/reflectlite.Value).Elem", "(internal/reflectlite.Value).Set"], unfollowed := true, recurses := true, named := ["errors.errorType"], apart := false, laid := [("errors.errorType", laid_errors_errorType)], narrowed := true }
def PosixTableUptoSaid : Prop := posixTableUptoRow.holds Tryd.pinned (OpenSpec.upto posixTableSpec)

end Rows
end Go.Proofs.YtmijknodkoblbaaDoor
