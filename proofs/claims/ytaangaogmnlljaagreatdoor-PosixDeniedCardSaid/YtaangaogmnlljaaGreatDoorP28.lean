/- Part 28 of what the proof stands on: KnLibG. -/
import Derived.Test.YtaangaogmnlljaaGreatDoorP02
import Derived.Test.YtaangaogmnlljaaGreatDoorP06
import Derived.Test.YtaangaogmnlljaaGreatDoorP16
import Derived.Test.YtaangaogmnlljaaGreatDoorP25
set_option linter.unusedVariables false
namespace Go.Proofs.YtaangaogmnlljaaGreatDoor.Kn
open Asm Hp PosTab
def libCalls (labels:List (Str×Nat)):List RowL:=tab.map fun r=>⟨r.num,(atOf labels r:Int),r.k0,r.k1,r.k2,r.k3⟩
def goodLib (p:List InsL×List (Str×Nat)):Bool:=
 decide (0<p.1.length)&&decide (p.1.length≤2048)&&decide (p.2.length≤3000)&&decide (loopOf p.2<p.1.length)&&p.1.all (fun x=>mayK x p.1.length true&&decide (0≤x.v)&&decide (x.v<18446744073709551616))&&tab.all (fun r=>decide (atOf p.2 r<p.1.length))
def denCheck (p:List InsL×List (Str×Nat)):Bool:=
 match okA (GD p.1 (loopOf p.2) (libCalls p.2)) 300 (newK (GD p.1 (loopOf p.2) (libCalls p.2)) 100 0) 0 0 with
 |some (k,A)=>decide (10<k)&& (usedA A.alc==1)&& (A.objs.all fun r=>r.handle==0)
 |none=>false
set_option maxRecDepth 1000000 in
theorem lib_good:(match parseL (linesL textL) with|some p=>goodLib p|none=>false)=true:=by decide+kernel
set_option maxRecDepth 1000000 in
theorem den_check:(match parseL (linesL textL) with|some p=>denCheck p|none=>false)=true:=by decide+kernel
end Go.Proofs.YtaangaogmnlljaaGreatDoor.Kn
