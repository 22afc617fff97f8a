/- Part 6 of what the proof stands on: AsmTx. -/
import Derived.Test.YtdlpmnmenhojfaaGreatDoorProg
import Derived.Test.YtdlpmnmenhojfaaGreatDoorR01
set_option linter.unusedVariables false
set_option maxRecDepth 100000
variable {zP:Prop}
namespace Go.Proofs.YtdlpmnmenhojfaaGreatDoor
open Go.IntKind renaming i64->Z,u64->J
open Go.Value renaming int->E,pointer->Y,slice->Sl
open Option renaming none->O,some->V
open Go.Obj renaming cells->Ce
open Go.Ending renaming returned->Rt
open Go.Proofs.Tryz renaming prog->Tp
namespace Asm
open Go.RowKit
def zxc (o:Oper):Option ByteArray:=match o.op with| .assign (.const (.string b))=>some b|_=>none
def textIn:Code→ByteArray
 | .seq _ (.seq (.region _ ops _) _)=>((ops.toList.head?).bind zxc).getD ⟨#[]⟩
 |_=>⟨#[]⟩
def textOf (f:Func):ByteArray:=match f.body with|some c=>textIn c|none=>⟨#[]⟩
noncomputable def layers:List Func:= [Tryz.f78,Tryz.f79,Tryz.f80,Tryz.f81,Tryz.f82,Tryz.f83,Tryz.f84,Tryz.f85,Tryz.f86,Tryz.f87]
noncomputable def Zy:Str:=layers.flatMap fun f=>(textOf f).data.toList
def ZV:Str→Str→List Str
 |w,[]=> [w]
 |w,c::s=>if c=10 then w::ZV [] s else ZV (w++ [c]) s
def ZM (s:Str):List Str:=ZV [] s
theorem zoR:Zy.length=10376:=jE
set_option maxRecDepth 1000000 in
theorem zhm:Lib.split Zy [10]=ZM Zy:=jE
set_option maxRecDepth 1000000 in
theorem zfF:((ZM Zy).all fun l=>l.all (fun c=>c !=59)&&decide (l.length≤1000))=true:=jE
set_option maxRecDepth 1000000 in
theorem zlf:(ZM Zy).length≤3000:=jE
theorem zd1 (s:Str): ∀cur:Str,(∀w∈vo cur s,0<w.length∧w.length≤cur.length+s.length)∧(vo cur s).length≤s.length+1:=by
 induction s with
 |nil=>
  intro cur
  unfold vo
  by_cases h:cur= []
  ·simp[h]
  ·have:0<cur.length:=List.length_pos_iff.2 h
   simp[h]
   exact this
 |cons c s ih=>
  intro cur
  unfold vo
  by_cases hc:c=32
  ·rw[if_pos hc]
   obtain ⟨h1,h2⟩:=ih []
   by_cases h:cur= []
   ·rw[if_pos h]
    refine ⟨fun w hw=>?_,by simp;omega⟩
    obtain ⟨a,b⟩:=h1 w hw
    simp at b
    exact ⟨a,by simp;omega⟩
   ·rw[if_neg h]
    have:0<cur.length:=List.length_pos_iff.2 h
    refine ⟨fun w hw=>?_,by simp;omega⟩
    rcases List.mem_cons.1 hw with rfl|hw
    ·exact ⟨this,by simp⟩
    ·obtain ⟨a,b⟩:=h1 w hw
     simp at b
     exact ⟨a,by simp;omega⟩
  ·rw[if_neg hc]
   obtain ⟨h1,h2⟩:=ih (cur++ [c])
   refine ⟨fun w hw=>?_,by simp;omega⟩
   obtain ⟨a,b⟩:=h1 w hw
   simp at b
   exact ⟨a,by simp;omega⟩
theorem zcu (s:Str):(∀w∈ZN s,0<w.length∧w.length≤s.length)∧(ZN s).length≤s.length+1:=by
 have:=zd1 s [];simpa[ZN] using this
theorem gV (s:Str): ∀(l:List Str) (n:Int),Gq s l n=0∨(n≤Gq s l n∧Gq s l n<n+l.length)
 |[],n=>Or.inl rfl
 |x::l,n=>by
  unfold Gq
  split
  ·right;simp;omega
  ·rcases gV s l (n+1) with h|h
   ·exact Or.inl h
   ·right;simp;omega
theorem Bn (s:Str) (h:KH s≠0):1≤KH s∧KH s≤58:=by
 rcases gV s zN 1 with h2|h2
 ·exact absurd h2 h
 ·have e:zN.length=58:=rfl;unfold KH;omega
theorem zr9 (l:List (Str×Nat)) (t:Str):l.any (fun p=>p.1==t)=(l.findIdx? fun p=>p.1==t).isSome:=by
 rw[Bool.eq_iff_iff,List.findIdx?_isSome]
theorem len_ite {p:Prop} [Decidable p] {a b:List Int} (ha:a.length≤3) (hb:b.length≤3):(if p then a else b).length≤3:=by
 split<;>assumption
theorem zc3 (op:Int):(Zk op).length≤3:=by
 unfold Zk;repeat (refine len_ite Y2 ?_)
 decide
theorem zbc {ks:List Int}: ∀{x y:zx} {ws lr:List Str},ZA x ks ws=V (y,lr)→lr.length≤ks.length:=by
 induction ks with
 |nil=>
  intro x y ws lr h
  simp[ZA] at h
  simp[h.2]
 |cons k ks ih=>
  intro x y ws lr h
  cases ws with
  |nil=>exact absurd h (by simp[ZA])
  |cons s ss=>
   simp only[ZA] at h
   split at h
   ·cases h
   ·rename_i y1 o _
    obtain ⟨⟨y2,l2⟩,h2,e⟩:=Option.map_eq_some_iff.1 h
    injection e with e1 e2
    have:=ih h2
    subst e2
    have:o.toList.length≤1:=by cases o<;>simp
    simp;omega
theorem zgf {st st':St} {i:Nat} {s:Str} (h:zK st i s=some st'):st'.code.length≤st.code.length+1∧st'.labels.length≤st.labels.length+1∧st'.lines.length≤st.lines.length+1∧st'.wants.length≤st.wants.length+3:=by
 unfold zK at h;split at h
 ·cases h
 ·cases h;simp
 ·split at h
  ·cases h
  ·cases h;simp
 ·rename_i x l hl;cases h;have:l.length≤3:=by
   unfold jZ at hl;split at hl
   ·cases hl
   ·split at hl
    ·split at hl<;>cases hl
    ·split at hl
     ·cases hl
     ·dsimp only at hl;split at hl
      ·cases hl
      ·rename_i y lr ho;have h1:=Nat.le_trans (zbc ho) (zc3 _);split at hl
       ·cases hl;omega
       ·split at hl
        ·obtain ⟨z,_,e⟩:=Option.map_eq_some_iff.1 hl;cases e;omega
        ·cases hl
  simp;omega
set_option maxRecDepth 1000000 in
theorem zjt (w:World):Calls Tp 78 #[] w fun e w'=>e=Rt (.string (textOf Tryz.f78))∧w=w':=by
 obtain ⟨B,hB⟩: ∃B,B=textOf Tryz.f78:=⟨_,rfl⟩;rw[←hB];have HB:=Y0 hB;clear hB;go_enter Tryz.func78,Tryz.ntmps78;go_wp2;go_ret;refine ⟨?_,rfl⟩;rw[HB.out];kernel_rfl
set_option maxRecDepth 1000000 in
theorem zmq (w:World):Calls Tp 79 #[] w fun e w'=>e=Rt (.string (textOf Tryz.f79))∧w=w':=by
 obtain ⟨B,hB⟩: ∃B,B=textOf Tryz.f79:=⟨_,rfl⟩;rw[←hB];have HB:=Y0 hB;clear hB;go_enter Tryz.func79,Tryz.ntmps79;go_wp2;go_ret;refine ⟨?_,rfl⟩;rw[HB.out];kernel_rfl
set_option maxRecDepth 1000000 in
theorem zjs (w:World):Calls Tp 80 #[] w fun e w'=>e=Rt (.string (textOf Tryz.f80))∧w=w':=by
 obtain ⟨B,hB⟩: ∃B,B=textOf Tryz.f80:=⟨_,rfl⟩;rw[←hB];have HB:=Y0 hB;clear hB;go_enter Tryz.func80,Tryz.ntmps80;go_wp2;go_ret;refine ⟨?_,rfl⟩;rw[HB.out];kernel_rfl
set_option maxRecDepth 1000000 in
theorem zlL (w:World):Calls Tp 81 #[] w fun e w'=>e=Rt (.string (textOf Tryz.f81))∧w=w':=by
 obtain ⟨B,hB⟩: ∃B,B=textOf Tryz.f81:=⟨_,rfl⟩;rw[←hB];have HB:=Y0 hB;clear hB;go_enter Tryz.func81,Tryz.ntmps81;go_wp2;go_ret;refine ⟨?_,rfl⟩;rw[HB.out];kernel_rfl
set_option maxRecDepth 1000000 in
theorem zh3 (w:World):Calls Tp 82 #[] w fun e w'=>e=Rt (.string (textOf Tryz.f82))∧w=w':=by
 obtain ⟨B,hB⟩: ∃B,B=textOf Tryz.f82:=⟨_,rfl⟩;rw[←hB];have HB:=Y0 hB;clear hB;go_enter Tryz.func82,Tryz.ntmps82;go_wp2;go_ret;refine ⟨?_,rfl⟩;rw[HB.out];kernel_rfl
set_option maxRecDepth 1000000 in
theorem zl6 (w:World):Calls Tp 83 #[] w fun e w'=>e=Rt (.string (textOf Tryz.f83))∧w=w':=by
 obtain ⟨B,hB⟩: ∃B,B=textOf Tryz.f83:=⟨_,rfl⟩;rw[←hB];have HB:=Y0 hB;clear hB;go_enter Tryz.func83,Tryz.ntmps83;go_wp2;go_ret;refine ⟨?_,rfl⟩;rw[HB.out];kernel_rfl
set_option maxRecDepth 1000000 in
theorem zmh (w:World):Calls Tp 84 #[] w fun e w'=>e=Rt (.string (textOf Tryz.f84))∧w=w':=by
 obtain ⟨B,hB⟩: ∃B,B=textOf Tryz.f84:=⟨_,rfl⟩;rw[←hB];have HB:=Y0 hB;clear hB;go_enter Tryz.func84,Tryz.ntmps84;go_wp2;go_ret;refine ⟨?_,rfl⟩;rw[HB.out];kernel_rfl
set_option maxRecDepth 1000000 in
theorem zd3 (w:World):Calls Tp 85 #[] w fun e w'=>e=Rt (.string (textOf Tryz.f85))∧w=w':=by
 obtain ⟨B,hB⟩: ∃B,B=textOf Tryz.f85:=⟨_,rfl⟩;rw[←hB];have HB:=Y0 hB;clear hB;go_enter Tryz.func85,Tryz.ntmps85;go_wp2;go_ret;refine ⟨?_,rfl⟩;rw[HB.out];kernel_rfl
set_option maxRecDepth 1000000 in
theorem zgN (w:World):Calls Tp 86 #[] w fun e w'=>e=Rt (.string (textOf Tryz.f86))∧w=w':=by
 obtain ⟨B,hB⟩: ∃B,B=textOf Tryz.f86:=⟨_,rfl⟩;rw[←hB];have HB:=Y0 hB;clear hB;go_enter Tryz.func86,Tryz.ntmps86;go_wp2;go_ret;refine ⟨?_,rfl⟩;rw[HB.out];kernel_rfl
set_option maxRecDepth 1000000 in
theorem zlm (w:World):Calls Tp 87 #[] w fun e w'=>e=Rt (.string (textOf Tryz.f87))∧w=w':=by
 obtain ⟨B,hB⟩: ∃B,B=textOf Tryz.f87:=⟨_,rfl⟩;rw[←hB];have HB:=Y0 hB;clear hB;go_enter Tryz.func87,Tryz.ntmps87;go_wp2;go_ret;refine ⟨?_,rfl⟩;rw[HB.out];kernel_rfl
theorem zmJ (a:ByteArray) (l:Str) (h:a.data.toList=l):a=⟨l.toArray⟩:=by
 cases a with
 |mk d=>simp at h;rw[←h]
theorem ziZ:(textOf Tryz.f78).size≤2000:=jE
theorem zl8:(textOf Tryz.f79).size≤2000:=jE
theorem zhG:(textOf Tryz.f80).size≤2000:=jE
theorem zlP:(textOf Tryz.f81).size≤2000:=jE
theorem zjq:(textOf Tryz.f82).size≤2000:=jE
theorem zl9:(textOf Tryz.f83).size≤2000:=jE
theorem zmr:(textOf Tryz.f84).size≤2000:=jE
theorem zei:(textOf Tryz.f85).size≤2000:=jE
theorem zhh:(textOf Tryz.f86).size≤2000:=jE
theorem zmZ:(textOf Tryz.f87).size≤2000:=jE
theorem zku:textOf Tryz.f78++textOf Tryz.f79++textOf Tryz.f80++textOf Tryz.f81++textOf Tryz.f82++textOf Tryz.f83++textOf Tryz.f84++textOf Tryz.f85++textOf Tryz.f86++textOf Tryz.f87=(⟨Zy.toArray⟩:ByteArray):=by
 apply zmJ;simp only[ByteArray.data_append,Array.toList_append];unfold Zy layers;simp only[List.flatMap_cons,List.flatMap_nil,List.append_nil,List.append_assoc]
theorem zoM (w:World):Calls Tp 35 #[] w fun e w'=>e=Rt (.string ⟨Zy.toArray⟩)∧w=w':=by
 have HT:=Y0 zku;generalize Zy=L at HT ⊢;go_enter Tryz.func35,Tryz.ntmps35;go_wp2_with fail;refine (zjt _).mono ?_;rintro e w' ⟨rfl,rfl⟩;have z0:=ziZ;generalize textOf Tryz.f78=T0 at HT z0 ⊢;go_wp2_with fail;refine (zmq _).mono ?_;rintro e w' ⟨rfl,rfl⟩;have z1:=zl8;generalize textOf Tryz.f79=T1 at HT z1 ⊢;go_wp2_with fail;refine (zjs _).mono ?_;rintro e w' ⟨rfl,rfl⟩;have z2:=zhG;generalize textOf Tryz.f80=T2 at HT z2 ⊢;go_wp2_with fail;refine (zlL _).mono ?_;rintro e w' ⟨rfl,rfl⟩;have z3:=zlP;generalize textOf Tryz.f81=T3 at HT z3 ⊢;go_wp2_with fail;refine (zh3 _).mono ?_;rintro e w' ⟨rfl,rfl⟩;have z4:=zjq;generalize textOf Tryz.f82=T4 at HT z4 ⊢;go_wp2_with fail
 refine (zl6 _).mono ?_;rintro e w' ⟨rfl,rfl⟩;have z5:=zl9;generalize textOf Tryz.f83=T5 at HT z5 ⊢;go_wp2_with fail;refine (zmh _).mono ?_;rintro e w' ⟨rfl,rfl⟩;have z6:=zmr;generalize textOf Tryz.f84=T6 at HT z6 ⊢;go_wp2_with fail;refine (zd3 _).mono ?_;rintro e w' ⟨rfl,rfl⟩;have z7:=zei;generalize textOf Tryz.f85=T7 at HT z7 ⊢;go_wp2_with fail;refine (zgN _).mono ?_;rintro e w' ⟨rfl,rfl⟩;have z8:=zhh;generalize textOf Tryz.f86=T8 at HT z8 ⊢;go_wp2_with fail;refine (zlm _).mono ?_;rintro e w' ⟨rfl,rfl⟩;have z9:=zmZ;generalize textOf Tryz.f87=T9 at HT z9 ⊢;go_wp2;go_ret;exact ⟨by rw[←HT.out];rfl,rfl⟩
end Asm
namespace Asm
set_option maxRecDepth 1000000 in
theorem zml:((Vt (ZM Zy)).map fun p=>decide (0<p.1.length)&& (decide (p.2.length≤3000)&&decide (p.1.length≤3000)))=some true:=jE
theorem ztR: ∃code labels,Vt (ZM Zy)=V (code,labels)∧0<code.length∧code.length≤3000∧labels.length≤3000:=by
 obtain ⟨p,hp,e⟩:=Option.map_eq_some_iff.1 zml;simp only[Bool.and_eq_true,decide_eq_true_eq] at e;exact ⟨p.1,p.2,hp,e.1,e.2.2,e.2.1⟩
open Go.RowKit
end Asm
end Go.Proofs.YtdlpmnmenhojfaaGreatDoor
