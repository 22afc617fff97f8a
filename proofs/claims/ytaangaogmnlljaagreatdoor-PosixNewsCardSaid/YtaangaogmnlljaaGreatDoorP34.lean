/- Part 34 of what the proof stands on: KnLibG. -/
import Derived.Test.YtaangaogmnlljaaGreatDoorP13
import Derived.Test.YtaangaogmnlljaaGreatDoorP29
set_option linter.unusedVariables false
set_option maxRecDepth 100000
namespace Go.Proofs.YtaangaogmnlljaaGreatDoor.Kn
open Asm Hp PosTab
def libCalls (labels:List (Str×Nat)):List RowL:=tab.map fun r=>⟨r.num,(atOf labels r:Int),r.k0,r.k1,r.k2,r.k3⟩
def goodLib (p:List InsL×List (Str×Nat)):Bool:=
 decide (0<p.1.length)&&decide (p.1.length≤2048)&&decide (p.2.length≤3000)&&decide (loopOf p.2<p.1.length)&&p.1.all (fun x=>mayK x p.1.length true&&decide (0≤x.v)&&decide (x.v<18446744073709551616))&&tab.all (fun r=>decide (atOf p.2 r<p.1.length))
set_option maxRecDepth 1000000 in
theorem lib_good:(match parseL (linesL textL) with|some p=>goodLib p|none=>false)=true:=by decide+kernel
end Go.Proofs.YtaangaogmnlljaaGreatDoor.Kn
