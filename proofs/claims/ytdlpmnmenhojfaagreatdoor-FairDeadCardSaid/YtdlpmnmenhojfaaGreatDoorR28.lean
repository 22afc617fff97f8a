/- Part 28 of what the proof stands on: KnLibG. -/
import Derived.Test.YtdlpmnmenhojfaaGreatDoorR16
import Derived.Test.YtdlpmnmenhojfaaGreatDoorR26
set_option linter.unusedVariables false
set_option maxRecDepth 100000
variable {zP:Prop}
namespace Go.Proofs.YtdlpmnmenhojfaaGreatDoor
open Go.IntKind renaming i64->Z,u64->J
open Go.Value renaming int->E,pointer->Y,slice->Sl
open Option renaming none->O,some->V
open Go.Obj renaming cells->Ce
open Go.Ending renaming returned->Rt
namespace Kn
open Asm Hp PosTab
def ZE (labels:List (Str×Nat)):List kI:=tab.map fun r=>⟨r.num,(BI labels r:Int),r.k0,r.k1,r.k2,r.k3⟩
def zej (p:List zx×List (Str×Nat)):Bool:=
 decide (0<p.1.length)&&decide (p.1.length≤2048)&&decide (p.2.length≤3000)&&decide (ZQ p.2<p.1.length)&&p.1.all (fun x=>vI x p.1.length true&&decide (0≤x.v)&&decide (x.v<18446744073709551616))&&tab.all (fun r=>decide (BI p.2 r<p.1.length))
set_option maxRecDepth 1000000 in
theorem zpB:(match Vt (ZM Zy) with|some p=>zej p|none=>false)=true:=jE
end Kn
end Go.Proofs.YtdlpmnmenhojfaaGreatDoor
