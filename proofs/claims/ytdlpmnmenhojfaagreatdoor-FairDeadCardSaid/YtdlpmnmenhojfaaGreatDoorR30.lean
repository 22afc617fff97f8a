/- Part 30 of what the proof stands on: KnLibOk. -/
import Derived.Test.YtdlpmnmenhojfaaGreatDoorR28
set_option linter.unusedVariables false
set_option maxRecDepth 100000
variable {zP:Prop}
namespace Go.Proofs.YtdlpmnmenhojfaaGreatDoor
open Go.IntKind renaming i64->Z,u64->J
open Go.Value renaming int->E,pointer->Y,slice->Sl
open Option renaming none->O,some->V
open Go.Obj renaming cells->Ce
open Go.Ending renaming returned->Rt
namespace Kn
open Go.RowKit Asm PosTab
theorem ztb {code:List zx} {labels:List (Str×Nat)} (hp:Vt (ZM Zy)=V (code,labels)):zej (code,labels)=true:=by
 have:=zpB;rw[hp] at this;exact this
structure zaR (code:List zx) (labels:List (Str×Nat)):Prop where
 len:0<code.length∧code.length≤2048
 few:labels.length≤3000
 loop:ZQ labels<code.length
 may: ∀x∈code,vI x code.length true=true
 v: ∀x∈code,Zm x.v
 pos: ∀r∈tab,BI labels r<code.length
theorem zaR.of {code:List zx} {labels:List (Str×Nat)} (hp:Vt (ZM Zy)=V (code,labels)):zaR code labels:=by
 have h:=ztb hp;unfold zej at h;simp only[Bool.and_eq_true,decide_eq_true_eq,List.all_eq_true] at h;obtain ⟨⟨⟨⟨⟨h1,h2⟩,h3⟩,h4⟩,h5⟩,h6⟩:=h;exact ⟨⟨h1,h2⟩,h3,h4,fun x hx=>(h5 x hx).1.1,fun x hx=>⟨(h5 x hx).1.2,(h5 x hx).2⟩,h6⟩
theorem zhF (labels:List (Str×Nat)):ku (ZE labels)=Ji labels tab:=by
 unfold ku ZE Ji;rw[List.flatMap_map];rfl
theorem JY (labels:List (Str×Nat)):(ZE labels).length=45:=by
 unfold ZE;rw[List.length_map];exact jQ
theorem zpX:(tab.map (·.num)).Nodup:=jE
theorem zmj:(tab.all fun r=>decide (1≤r.num∧r.num≤999∧(0≤r.k0∧r.k0≤7)∧(0≤r.k1∧r.k1≤7)∧(0≤r.k2∧r.k2≤7)∧(0≤r.k3∧r.k3≤7)))=true:=jE
theorem ztQ {code:List zx} {labels:List (Str×Nat)} (h:zaR code labels) {prog:List zx} (hp0:0<prog.length) (hp1:prog.length≤2048) (hpm: ∀x∈prog,vI x prog.length false=true∧Zm x.v) {wide narrow:Int} (hw:0≤wide∧0≤narrow∧wide+narrow≤256) {k:Nat} (hk:1≤k∧k≤64):
  zdG { lib:=code,loop:=ZQ labels,calls:=ZE labels,code:=prog,wide:=wide,narrow:=narrow,workers:=k}:=by
 refine ⟨h.len,⟨by show (0:Int)≤(ZQ labels:Int);omega,by have:=h.loop;show (ZQ labels:Int)<(code.length:Int);omega⟩,h.may,⟨hp0,hp1⟩,fun x hx=>(hpm x hx).1,h.v,fun x hx=>(hpm x hx).2,hw,hk,?_,?_,?_⟩
 ·show (ZE labels).length≤999;rw[JY];decide
 ·show ((ZE labels).map (·.num)).Nodup;have e:(ZE labels).map (·.num)=tab.map (·.num):=by
   unfold ZE;rw[List.map_map];rfl
  rw[e];exact zpX
 ·intro r hr;obtain ⟨t,ht,rfl⟩:=List.mem_map.1 hr;have h1:=of_decide_eq_true (List.all_eq_true.1 zmj t ht);have h2:=h.pos t ht;exact ⟨h1.1,h1.2.1,by show (0:Int)≤(BI labels t:Int);omega,by show (BI labels t:Int)<(code.length:Int);omega,h1.2.2.1,h1.2.2.2.1,h1.2.2.2.2.1,h1.2.2.2.2.2⟩
end Kn
end Go.Proofs.YtdlpmnmenhojfaaGreatDoor
