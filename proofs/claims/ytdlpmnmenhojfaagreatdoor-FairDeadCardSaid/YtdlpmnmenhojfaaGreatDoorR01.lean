/- Part 1 of what the proof stands on: AsmPlain, HpPlain, HpList, KnPlain, KnAlcPlain, KnFlat, StepAppend, KnCopy, KnWord, KnDo, HpMem, HpLay. -/
import Derived.Test.YtdlpmnmenhojfaaGreatDoorR00
import Derived.Test.YtdlpmnmenhojfaaGreatDoorProg
set_option linter.unusedVariables false
set_option maxHeartbeats 40000000
set_option maxRecDepth 100000
variable {zP:Prop}
namespace Go.Proofs.YtdlpmnmenhojfaaGreatDoor
open Go.IntKind renaming i64->Z,u64->J
open Go.Value renaming int->E,pointer->Y,slice->Sl
open Option renaming none->O,some->V
open Go.Obj renaming cells->Ce
open Go.Ending renaming returned->Rt
open Go.Proofs.Tryz renaming prog->Tp
namespace Asm
abbrev Str:=List UInt8
structure zx where
 op:Int:=0
 a:Int:=0
 b:Int:=0
 c:Int:=0
 v:Int:=0
 m:Int:=0
 w:Int:=0
 deriving DecidableEq
def isDigit (c:UInt8):Bool:=decide (48≤c.toNat)&&decide (c.toNat≤57)
def zcT (c:UInt8):Bool:=decide (97≤c.toNat)&&decide (c.toNat≤122)
def vZ (s:Str):Nat:=s.foldl (fun v c=>v*10+(c.toNat - 48)) 0
def kQ (s:Str):Option Int:=if s≠ []∧s.all isDigit=true∧s.length≤20∧vZ s<18446744073709551616 then some (vZ s) else none
def Zr (s:Str):Option Int:=if (s.length=2∨s.length=3)∧s[0]?=some 114∧ ¬(s.length=3∧s[1]?=some 48)∧(s.drop 1).all isDigit=true∧vZ (s.drop 1)<32 then some (vZ (s.drop 1)) else none
def isName (c:UInt8):Bool:=zcT c||isDigit c
def ZC (s:Str):Bool:=decide (1≤s.length∧s.length≤16)&& (s.head?.any zcT)&&s.all isName&& (Zr s).isNone
def vo:Str→Str→List Str
 |w,[]=>if w= [] then [] else [w]
 |w,c::s=>if c=32 then (if w= [] then vo [] s else w::vo [] s) else vo (w++ [c]) s
def ZN (s:Str):List Str:=vo [] s
def zN:List Str:= [[115,101,116],[109,111,118],[97,100,100],[115,117,98],[97,110,100],[111,114],[120,111,114],[115,104,108],[115,104,114],[101,113],[108,116],[106,109,112],[106,122],[106,110,122],[106,115,114],[114,101,116],[108,100],[115,116],[115,119,112],[102,97,100],[99,97,115],[99,97,108,108],[104,115,104],[113,112,116],[113,116,107],[113,109,118],[113,104,115],[115,108,112],[104,110,100],[112,105,107],[108,97,121],[116,97,107],[105,110,106],[105,106,116],[114,117,110],[112,114,107],[115,108,102],[119,114,107],[119,107,100],[119,107,110],[110,111,119],[100,114,119],[103,101,116],[102,114,101],[111,98,106],[100,101,108],[99,107,112],[116,110,119],[116,115,116],[116,104,109],[116,106,110],[116,100,116],[116,101,120],[116,114,112],[101,110,100],[121,108,100],[99,98,107],[102,105,110]]
def Gq (s:Str):List Str→Int→Int
 |[],_=>0
 |x::l,n=>if x=s then n else Gq s l (n+1)
def KH (s:Str):Int:=Gq s zN 1
def Zk (op:Int):List Int:=
 if op=1 then [1,9] else if op=13∨op=14 then [1,8] else if op=12∨op=15 then [8] else if op=22 then [7] else if op=43 then [1,5] else if op=45 then [1,2,7]
 else if op=21∨op=32 then [1,6,3] else if (17≤op∧op≤20)∨op=31 then [1,6]
 else if 3≤op∧op≤11 then [1,2,4]
 else if (24≤op∧op≤27)∨op=48 then [1,2,3]
 else if op=2∨op=23∨op=49∨op=50∨op=47∨op=39∨op=54 then [1,2]
 else if op=28∨op=29∨op=30∨op=34∨op=35∨op=36∨op=37∨op=38∨op=40∨op=41∨op=42∨op=44∨op=46∨op=51∨op=52∨op=53∨op=57 then [1]
 else []
def Vs:Str→Option (Str×Str)
 |[]=>none
 |c::s=>if c=43 then some ([],s) else (Vs s).map fun p=>(c::p.1,p.2)
def jg (s:Str):Option Str:=if 2≤s.length∧s.head?=some 91∧s.getLast?=some 93 then some ((s.drop 1).dropLast) else none
def cellL (x:zx) (s:Str):Option zx:=
 match jg s with
 |none=>none
 |some t=>
  match Zr t with
  |some r=>some { x with b:=r}
  |none=>
   match Vs t with
   |some (p,q)=>match Zr p,kQ q with
    |some r,some v=>some { x with b:=r,v:=v}
    |_,_=>none
   |none=>(kQ t).map fun v=>{ x with b:= -1,v:=v}
def KZ (x:zx) (k:Int) (s:Str):Option (zx×Option Str):=
 if k=1 then (Zr s).map fun r=>({ x with a:=r},none)
 else if k=2 then (Zr s).map fun r=>({ x with b:=r},none)
 else if k=3 then (Zr s).map fun r=>({ x with c:=r},none)
 else if k=4 then match Zr s with
  |some r=>some ({ x with c:=r},none)
  |none=>(kQ s).map fun v=>({ x with c:= -1,v:=v},none)
 else if k=5 then match Zr s with
  |some r=>some ({ x with b:=r},none)
  |none=>(kQ s).map fun v=>({ x with b:= -1,v:=v},none)
 else if k=7 then (kQ s).map fun v=>({ x with v:=v},none)
 else if k=6 then (cellL x s).map fun y=>(y,none)
 else if ZC s then some (x,some s)
 else if k=8 then none
 else (kQ s).map fun v=>({ x with v:=v},none)
def endsWith (s:Str) (t:Str):Bool:=t.isSuffixOf s
def Gb (x:zx) (s:Str):Option zx:=
 match s with
 |[]=>none
 |_::t=>
  let p:Str×Int:=if endsWith t [61,48] then (t.take (t.length - 2),1) else if endsWith t [62,48] then (t.take (t.length - 2),2) else (t,x.w)
  match kQ p.1 with
  |none=>none
  |some v=>if v<1∨99<v then none else some { x with w:=p.2,m:=v}
def ZA (x:zx):List Int→List Str→Option (zx×List Str)
 |[],_=>some (x,[])
 |_::_,[]=>none
 |k::ks,s::ss=>match KZ x k s with
  |none=>none
  |some (y,o)=>(ZA y ks ss).map fun p=>(p.1,o.toList++p.2)
inductive zxo where
 |skip
 |label (s:Str)
 |ins (x:zx) (wants:List Str)
def jZ (s:Str):Option zxo:=
 match ZN s with
 |[]=>some .skip
 |w::ws=>
  if ws= []∧w.getLast?=some 58 then (if ZC w.dropLast then some (.label w.dropLast) else none)
  else if KH w=0 then none
  else
   let ks:=Zk (KH w)
   match ZA { op:=KH w} ks ws with
   |none=>none
   |some (x,l)=>
    if ws.length=ks.length then some (.ins x l)
    else if ws.length=ks.length+1∧((ws.getLast?).bind List.head?)=some 33 then (Gb x (ws.getLast?.getD [])).map fun y=> .ins y l
    else none
structure St where
 code:List zx:= []
 labels:List (Str×Nat):= []
 lines:List Nat:= []
 wants:List (Nat×Nat×Str):= []
def zK (st:St) (i:Nat) (s:Str):Option St:=
 match jZ s with
 |none=>none
 |some .skip=>some st
 |some (.label t)=>if st.labels.any (fun p=>p.1==t) then none else some { st with labels:=st.labels++ [(t,st.code.length)],lines:=st.lines++ [i]}
 |some (.ins x l)=>some { st with code:=st.code++ [x],wants:=st.wants++l.map (fun t=>(st.code.length,i,t))}
def Ka (st:St) (i:Nat):List Str→Option St
 |[]=>some st
 |s::l=>(zK st i s).bind fun st'=>Ka st' (i+1) l
def kN (labels:List (Str×Nat)) (t:Str):Option Nat:=(labels.find? fun p=>p.1==t).map (·.2)
def GR (labels:List (Str×Nat)) (code:List zx):List (Nat×Nat×Str)→Option (List zx)
 |[]=>some code
 |(at_,_,t)::l=>match kN labels t with
  |none=>none
  |some p=>GR labels (code.modify at_ fun x=>{ x with v:=p}) l
def Vt (lines:List Str):Option (List zx×List (Str×Nat)):=
 match Ka {} 0 lines with
 |none=>none
 |some st=>match GR st.labels st.code st.wants with
  |none=>none
  |some code=>if code.length≤2048∧st.labels.all (fun p=>p.2 !=code.length) then some (code,st.labels) else none
end Asm
namespace Hp
structure zC where
 d:Int
 w:Int
 h:Int
 deriving DecidableEq,Inhabited
def ZU (a b:zC):Bool:=decide (a.d<b.d) ||(a.d==b.d&&decide (a.h<b.h))
theorem je (a b:zC):ZU a b=true↔a.d<b.d∨(a.d=b.d∧a.h<b.h):=by simp[ZU]
theorem Jq (a b:zC):ZU a b=false↔b.d<a.d∨(a.d=b.d∧b.h≤a.h):=by
 rw[←Bool.not_eq_true,je];omega
def le (a b:zC):Prop:=ZU b a=false
theorem le_iff (a b:zC):le a b↔a.d<b.d∨(a.d=b.d∧a.h≤b.h):=by unfold le;rw[Jq];omega
theorem le_refl (a:zC):le a a:=by rw[le_iff];omega
theorem le_trans {a b c:zC} (h1:le a b) (h2:le b c):le a c:=by rw[le_iff] at*;omega
theorem le_of_lt {a b:zC} (h:ZU a b=true):le a b:=by rw[le_iff];rw[je] at h;omega
def at_ (v:List zC) (j:Nat):zC:=v.getD j default
theorem at_eq {v:List zC} {j:Nat} (h:j<v.length):v[j]?=V (at_ v j):=by
 unfold at_;rw[List.getD_eq_getElem?_getD,List.getElem?_eq_getElem h];rfl
theorem zbf {v:List zC} {j:Nat} {t:zC} (h:v[j]?=some t):at_ v j=t:=by
 unfold at_;rw[List.getD_eq_getElem?_getD,h];rfl
theorem kK {v:List zC} {j:Nat} (h:j<v.length):at_ v j=v[j]:=zbf (List.getElem?_eq_getElem h)
theorem vG {v:List zC} {i:Nat} (h:i<v.length) (t:zC):at_ (v.set i t) i=t:=zbf (by rw[List.getElem?_set_self h])
theorem Zi {v:List zC} {i j:Nat} (h:j≠i) (t:zC):at_ (v.set i t) j=at_ v j:=by
 unfold at_;rw[List.getD_eq_getElem?_getD,List.getD_eq_getElem?_getD,List.getElem?_set_ne (Ne.symm h)]
def par (j:Nat):Nat:=(j - 1)/2
theorem VT {j:Nat} (h:0<j):par j<j:=by unfold par;omega
def Heap (v:List zC):Prop:= ∀j,0<j→j<v.length→le (at_ v (par j)) (at_ v j)
def Ku (v:List zC) (i:Nat):Prop:=
 (∀j,0<j→j<v.length→j≠i→par j≠i→le (at_ v (par j)) (at_ v j))∧ ∀c,0<c→c<v.length→par c=i→0<i→le (at_ v (par i)) (at_ v c)
def BX (v:List zC) (i:Nat):Prop:= ∀c,0<c→c<v.length→par c=i→le (at_ v i) (at_ v c)
def vJ (v:List zC) (p:Nat):Prop:=
 (∀j,0<j→j<v.length→par j≠p→le (at_ v (par j)) (at_ v j))∧ ∀c,0<c→c<v.length→par c=p→0<p→le (at_ v (par p)) (at_ v c)
def swap (v:List zC) (i p:Nat):List zC:=(v.set i (at_ v p)).set p (at_ v i)
theorem vW (v:List zC) (i p:Nat):(swap v i p).length=v.length:=by simp[swap]
theorem swap_perm {v:List zC} {i p:Nat} (hi:i<v.length) (hp:p<v.length):(swap v i p).Perm v:=by
 unfold swap;rw[kK hi,kK hp];exact List.set_set_perm hi hp
theorem zh5 {v:List zC} {i p:Nat} (hp:p<v.length):at_ (swap v i p) p=at_ v i:=vG (by simpa using hp) _
theorem GX {v:List zC} {i p:Nat} (hi:i<v.length) (h:i≠p):at_ (swap v i p) i=at_ v p:=by
 unfold swap;rw[Zi h,vG hi]
theorem vL {v:List zC} {i p j:Nat} (h1:j≠i) (h2:j≠p):at_ (swap v i p) j=at_ v j:=by
 unfold swap;rw[Zi h2,Zi h1]
theorem zr2 {v:List zC} {i:Nat} (hi:i<v.length) (h0:0<i) (h:Ku v i) (hlt:ZU (at_ v i) (at_ v (par i))=true):
  Ku (swap v i (par i)) (par i)∧BX (swap v i (par i)) (par i):=by
 have hp:=VT h0;have hpl:par i<v.length:=Y1;obtain ⟨h1,h2⟩:=h;refine ⟨⟨fun j hj0 hj hne hpar=>?_,fun c hc0 hc hpar hp0=>?_⟩,fun c hc0 hc hpar=>?_⟩
 ·rw[vW] at hj;have hji:j≠i:=fun e=>hpar Y93;rw[vL hji hne];by_cases e:par j=i
  ·rw[e,GX hi Y1];exact h2 j hj0 hj e h0
  ·rw[vL e hpar];exact h1 j hj0 hj hji e
 ·rw[vW] at hc;have hpp:=VT hp0;rw[vL (j:=par (par i)) Y1 Y1];have g:=h1 (par i) hp0 hpl Y1 Y1;by_cases e:c=i
  ·rw[e,GX hi Y1];exact g
  ·have hcl:=VT hc0;rw[vL e Y1];refine le_trans g ?_;have:=h1 c hc0 hc e Y1;rw[hpar] at this;exact this
 ·rw[vW] at hc;rw[zh5 hpl];by_cases e:c=i
  ·rw[e,GX hi Y1];exact le_of_lt hlt
  ·have hcl:=VT hc0;rw[vL e Y1];have:=h1 c hc0 hc e Y1;rw[hpar] at this;exact le_trans (le_of_lt hlt) this
theorem zug {v:List zC} {i:Nat} (h:Ku v i) (he:0<i→ZU (at_ v i) (at_ v (par i))=false):vJ v i:=by
 refine ⟨fun j hj0 hj hpar=>?_,h.2⟩;by_cases e:j=i
 ·subst e;exact he hj0
 ·exact h.1 j hj0 hj e hpar
theorem GV {v:List zC} {i:Nat} (h:vJ v i) (hk:BX v i):Heap v:=by
 intro j hj0 hj;by_cases e:par j=i
 ·rw[e];exact hk j hj0 hj e
 ·exact h.1 j hj0 hj e
theorem zmO {v:List zC} {p k:Nat} (hk:k<v.length) (hpk:par k=p) (hk0:0<k) (h:vJ v p) (hlt:ZU (at_ v k) (at_ v p)=true)
  (hmin: ∀c,0<c→c<v.length→par c=p→le (at_ v k) (at_ v c)):vJ (swap v p k) k:=by
 have hp:=VT hk0;have hpl:p<v.length:=Y1;obtain ⟨h1,h2⟩:=h;refine ⟨fun j hj0 hj hpar=>?_,fun c hc0 hc hpar _=>?_⟩
 ·rw[vW] at hj;have hjl:=VT hj0;by_cases e:j=k
  ·subst e;rw[zh5 hk,hpk,GX hpl Y1];exact le_of_lt hlt
  ·by_cases e2:j=p
   ·subst e2;rw[GX hpl Y1,vL (j:=par j) Y1 hpar];exact h2 k hk0 hk hpk hj0
   ·rw[vL e2 e];by_cases e3:par j=p
    ·rw[e3,GX hpl Y1];exact hmin j hj0 hj e3
    ·rw[vL e3 hpar];exact h1 j hj0 hj e3
 ·rw[vW] at hc;have hcl:=VT hc0;rw[hpk,GX hpl Y1,vL (j:=c) Y1 Y1];have:=h1 c hc0 hc Y1;rw[hpar] at this;exact this
theorem zmL {v:List zC} {p:Nat} (h:vJ v p) (hn:v.length≤2*p+1):Heap v:=
 GV h fun c hc0 hc hpar=>by unfold par at hpar;omega
theorem JE {v:List zC} {p k:Nat} (h:vJ v p) (hs:ZU (at_ v k) (at_ v p)=false) (hmin: ∀c,0<c→c<v.length→par c=p→le (at_ v k) (at_ v c)):Heap v:=
 GV h fun c hc0 hc hpar=>le_trans hs (hmin c hc0 hc hpar)
theorem zeC {v:List zC} {p k:Nat} (h:(k=2*p+1∧(2*p+2<v.length→ZU (at_ v (2*p+2)) (at_ v (2*p+1))=false))∨(k=2*p+2∧ZU (at_ v (2*p+2)) (at_ v (2*p+1))=true)):
  ∀c,0<c→c<v.length→par c=p→le (at_ v k) (at_ v c):=by
 intro c hc0 hc hpar;have hcc:c=2*p+1∨c=2*p+2:=by unfold par at hpar;omega
 rcases h with ⟨rfl,h⟩ |⟨rfl,h⟩
 ·rcases hcc with rfl|rfl
  ·exact le_refl _
  ·exact h hc
 ·rcases hcc with rfl|rfl
  ·exact le_of_lt h
  ·exact le_refl _
theorem zie {v:List zC} (h:Heap v): ∀j,j<v.length→le (at_ v 0) (at_ v j):=by
 intro j
 induction j using Nat.strongRecOn with
 |ind j ih=>
  intro hj
  rcases Nat.eq_zero_or_pos j with rfl|h0
  ·exact le_refl _
  ·have hp:=VT h0
   exact le_trans (ih _ hp Y1) (h j h0 hj)
theorem zou:Heap []:=fun j _ h=>by simp at h
def Apart (v:List zC):Prop:=(v.map (·.h)).Nodup
theorem Apart.perm {v v':List zC} (h:Apart v) (hp:v'.Perm v):Apart v':=(hp.map zC.h).nodup_iff.2 h
theorem Apart.ne {v:List zC} (h:Apart v) {i j:Nat} (hi:i<v.length) (hj:j<v.length) (hij:i≠j):(at_ v i).h≠(at_ v j).h:=by
 rw[kK hi,kK hj];have key: ∀a b (ha:a<v.length) (hb:b<v.length),a<b→v[a].h≠v[b].h:=by
  intro a b ha hb hab;have:=(List.pairwise_iff_getElem.1 h) a b (by simpa using ha) (by simpa using hb) hab;simpa using this
 rcases Nat.lt_or_gt_of_ne hij with hlt|hlt
 ·exact key i j hi hj hlt
 ·exact fun e=>key j i hj hi hlt e.symm
def Places (f:Int→Option Nat) (v:List zC) (i:Nat):Prop:=
 (∀j,j<v.length→j≠i→f (at_ v j).h=some j)∧ ∀k,(∀j,j<v.length→(at_ v j).h≠k)→f k=none
def Vq (f:Int→Option Nat) (v:List zC):Prop:=(∀j,j<v.length→f (at_ v j).h=some j)∧ ∀k,(∀j,j<v.length→(at_ v j).h≠k)→f k=none
def upd (f:Int→Option Nat) (k:Int) (i:Nat):Int→Option Nat:=fun x=>if x=k then some i else f x
def del (f:Int→Option Nat) (k:Int):Int→Option Nat:=fun x=>if x=k then none else f x
theorem Vq.hole {f:Int→Option Nat} {v:List zC} (h:Vq f v) (i:Nat):Places f v i:=⟨fun j hj _=>h.1 j hj,h.2⟩
theorem zat {f:Int→Option Nat} {v:List zC} {i p:Nat} (ha:Apart v) (hi:i<v.length) (hp:p<v.length) (hip:i≠p) (h:Places f v i):Places (upd f (at_ v p).h i) (swap v i p) p:=by
 refine ⟨fun j hj hne=>?_,fun k hk=>?_⟩
 ·rw[vW] at hj;by_cases e:j=i
  ·subst e;rw[GX hi hip];simp[upd]
  ·rw[vL e hne];unfold upd;rw[if_neg (ha.ne hj hp hne)];exact h.1 j hj e
 ·have hk': ∀j,j<v.length→(at_ v j).h≠k:=by
   intro j hj;by_cases e1:j=i
   ·subst e1;have:=hk p (by rw[vW];exact hp);rwa[zh5 hp] at this
   ·by_cases e2:j=p
    ·subst e2;have:=hk i (by rw[vW];exact hi);rwa[GX hi hip] at this
    ·have:=hk j (by rw[vW];exact hj);rwa[vL e1 e2] at this
  unfold upd;rw[if_neg (fun e=>hk' p hp e.symm)];exact h.2 k hk'
theorem zaf {f:Int→Option Nat} {v:List zC} {i:Nat} (ha:Apart v) (hi:i<v.length) (h:Places f v i):Vq (upd f (at_ v i).h i) v:=by
 refine ⟨fun j hj=>?_,fun k hk=>?_⟩
 ·unfold upd;by_cases e:j=i
  ·subst e;rw[if_pos rfl]
  ·rw[if_neg (ha.ne hj hi e)];exact h.1 j hj e
 ·unfold upd;rw[if_neg (fun e=>hk i hi e.symm)];exact h.2 k hk
def Sorted (S:List zC):Prop:=S.Pairwise fun a b=>ZU a b=true
def ins (t:zC):List zC→List zC
 |[]=> [t]
 |x::xs=>if ZU x t=true then x::ins t xs else t::x::xs
theorem zed {v:List zC} {t:zC} (h:t∈v): ∃j,j<v.length∧at_ v j=t:=by
 obtain ⟨j,hj,e⟩:=List.getElem_of_mem h;exact ⟨j,hj,by rw[kK hj];exact e⟩
theorem at_mem {v:List zC} {j:Nat} (h:j<v.length):at_ v j∈v:=by rw[kK h];exact List.getElem_mem h
theorem Apart.zrB {v:List zC} (h:Apart v) {a b:zC} (ha:a∈v) (hb:b∈v) (e:a.h=b.h):a=b:=by
 obtain ⟨i,hi,rfl⟩:=zed ha;obtain ⟨j,hj,rfl⟩:=zed hb;by_cases hij:i=j
 ·rw[hij]
 ·exact absurd e (h.ne hi hj hij)
theorem znu {v:List zC} {s:zC} {S:List zC} (hh:Heap v) (hp:v.Perm (s::S)) (hs:Sorted (s::S)):at_ v 0=s:=by
 have hl:0<v.length:=by rw[hp.length_eq];simp
 have hm:at_ v 0∈s::S:=hp.mem_iff.1 (at_mem hl);obtain ⟨j,hj,e⟩:=zed (hp.mem_iff.2 (List.mem_cons_self (a:=s)));have h1:=zie hh j hj;rw[e] at h1;rcases List.mem_cons.1 hm with h|h
 ·exact h
 ·have:=(List.pairwise_cons.1 hs).1 _ h;unfold le at h1;rw[this] at h1;cases h1
def cutAt (v:List zC) (i:Nat):List zC:=(v.take (v.length - 1)).set i (at_ v (v.length - 1))
theorem VJ (v:List zC) (i:Nat):(cutAt v i).length=v.length - 1:=by simp[cutAt]
theorem ziB {v:List zC} {i:Nat} (hi:i<v.length - 1):(cutAt v i++ [at_ v i]).Perm v:=by
 have hn:v.length - 1<v.length:=Y1;refine List.Perm.trans (List.Perm.of_eq ?_) (swap_perm (v:=v) (i:=i) (p:=v.length - 1) Y1 hn);unfold cutAt swap;refine List.ext_getElem? fun j=>?_;by_cases hj:j<v.length - 1
 ·rw[List.getElem?_append_left Y8,List.getElem?_set_ne (by omega:v.length - 1≠j)];by_cases e:i=j
  ·subst e;rw[List.getElem?_set_self Y8,List.getElem?_set_self Y1]
  ·rw[List.getElem?_set_ne e,List.getElem?_set_ne e,List.getElem?_take_of_lt hj]
 ·by_cases e:j=v.length - 1
  ·subst e;rw[List.getElem?_set_self Y8,List.getElem?_append_right Y7];simp
  ·rw[List.getElem?_eq_none Y8,List.getElem?_eq_none Y8]
theorem zmW {v:List zC} (h:0<v.length):v.take (v.length - 1)++ [at_ v (v.length - 1)]=v:=by
 refine List.ext_getElem? fun j=>?_;by_cases hj:j<v.length - 1
 ·rw[List.getElem?_append_left Y8,List.getElem?_take_of_lt hj]
 ·by_cases e:j=v.length - 1
  ·subst e;rw[List.getElem?_append_right Y7,at_eq (v:=v) Y1];simp
  ·rw[List.getElem?_eq_none Y8,List.getElem?_eq_none Y1]
theorem Jv {v:List zC} {i j:Nat} (hj:j<v.length - 1) (h:j≠i):at_ (cutAt v i) j=at_ v j:=by
 unfold cutAt;rw[Zi h];exact zbf (by rw[List.getElem?_take_of_lt hj];exact at_eq Y1)
theorem zbM {v:List zC} {i:Nat} (hi:i<v.length - 1):at_ (cutAt v i) i=at_ v (v.length - 1):=by
 unfold cutAt;exact vG Y8 _
theorem zvl {v:List zC} {i:Nat} (h:Heap v) (hi:i<v.length - 1):Ku (cutAt v i) i:=by
 refine ⟨fun j hj0 hj hne hpar=>?_,fun c hc0 hc hpar h0=>?_⟩
 ·rw[VJ] at hj;have:=VT hj0;rw[Jv hj hne,Jv Y1 hpar];exact h j hj0 Y1
 ·rw[VJ] at hc;have:=VT hc0;have:=VT h0;rw[Jv hc Y1,Jv Y1 Y1];have g:=h c hc0 Y1;rw[hpar] at g;exact le_trans (h i h0 Y1) g
theorem zmT {v:List zC} (h:Heap v) (n:Nat):Heap (v.take n):=by
 intro j hj0 hj;rw[List.length_take] at hj;have:=VT hj0;have e: ∀k,k<n→k<v.length→at_ (v.take n) k=at_ v k:=fun k h1 h2=>zbf (by rw[List.getElem?_take_of_lt h1];exact at_eq h2);rw[e j Y1 Y1,e _ Y1 Y1];exact h j hj0 Y1
theorem ziU {f:Int→Option Nat} {v:List zC} {i:Nat} (ha:Apart v) (hi:i<v.length - 1) (h:Vq f v):
  Vq (upd (del f (at_ v i).h) (at_ v (v.length - 1)).h i) (cutAt v i):=by
 have hn:v.length - 1<v.length:=Y1;refine ⟨fun j hj=>?_,fun k hk=>?_⟩
 ·rw[VJ] at hj;by_cases e:j=i
  ·subst e;rw[zbM hj];simp[upd]
  ·rw[Jv hj e];unfold upd del;rw[if_neg (ha.ne Y1 hn Y1),if_neg (ha.ne Y1 Y1 e)];exact h.1 j Y1
 ·unfold upd del;have h1:k≠(at_ v (v.length - 1)).h:=by
   have:=hk i (by rw[VJ];exact hi);rw[zbM hi] at this;exact fun e=>this e.symm
  rw[if_neg h1];by_cases e:k=(at_ v i).h
  ·rw[if_pos e]
  ·rw[if_neg e];refine h.2 k fun j hj=>?_;by_cases e1:j=i
   ·subst e1;exact fun x=>e x.symm
   ·by_cases e2:j=v.length - 1
    ·subst e2;exact fun x=>h1 x.symm
    ·have:=hk j (by rw[VJ];omega);rwa[Jv Y1 e1] at this
theorem zgC {f:Int→Option Nat} {v:List zC} (ha:Apart v) (h0:0<v.length) (h:Vq f v):Vq (del f (at_ v (v.length - 1)).h) (v.take (v.length - 1)):=by
 have e: ∀k,k<v.length - 1→at_ (v.take (v.length - 1)) k=at_ v k:=fun k h1=>zbf (by rw[List.getElem?_take_of_lt h1];exact at_eq Y1);refine ⟨fun j hj=>?_,fun k hk=>?_⟩
 ·rw[List.length_take] at hj;rw[e j Y1];unfold del;rw[if_neg (ha.ne Y1 Y1 Y1)];exact h.1 j Y1
 ·unfold del;split
  ·rfl
  ·rename_i hne;refine h.2 k fun j hj=>?_;by_cases e2:j=v.length - 1
   ·subst e2;exact fun x=>hne x.symm
   ·have:=hk j (by rw[List.length_take];omega);rwa[e j Y1] at this
def without (k:Int) (S:List zC):List zC:=S.filter fun x=>x.h !=k
theorem bX {k:Int} {S:List zC} (h:Sorted S):Sorted (without k S):=h.sublist List.filter_sublist
theorem zcp {v S v':List zC} {t:zC} (ha:Apart v) (hp:v.Perm S) (hv:(v'++ [t]).Perm v):v'.Perm (without t.h S):=by
 have h1:(without t.h (v'++ [t])).Perm (without t.h S):=(hv.trans hp).filter _;have ha2:Apart (v'++ [t]):=ha.perm hv;have h2:without t.h (v'++ [t])=v':=by
  unfold without;rw[List.filter_append];have e1:List.filter (fun x=>x.h !=t.h) [t]= []:=Y7;rw[e1,List.append_nil,List.filter_eq_self];intro x hx;have hn:=(List.pairwise_append.1 (show (v'++ [t]).Pairwise (fun a b=>a.h≠b.h) from List.pairwise_map.1 ha2)).2.2 x hx t Y7;simpa using hn
 rwa[h2] at h1
theorem zd2 {s:zC} {S:List zC} (ha:Apart (s::S)):without s.h (s::S)=S:=by
 unfold without;rw[List.filter_cons,if_neg Y7,List.filter_eq_self];intro x hx;have:=(List.pairwise_cons.1 (show (s::S).Pairwise (fun a b=>a.h≠b.h) from List.pairwise_map.1 ha)).1 x hx;simpa using this.symm
def ofH (k:Int) (S:List zC):Option zC:=S.find? fun x=>x.h==k
theorem zoV {k:Int} {S:List zC} {t:zC} (ha:Apart S) (hm:t∈S) (e:t.h=k):ofH k S=some t:=by
 unfold ofH
 cases h:S.find? (fun x=>x.h==k) with
 |none=>exact absurd (List.find?_eq_none.1 h t hm) (by simp[e])
 |some y=>
  have hy:=List.find?_some h
  have hy':y.h=k:=by simpa using hy
  rw[ha.zrB (List.mem_of_find?_eq_some h) hm (by rw[hy',e])]
theorem zq6 {k:Int} {S:List zC} {t:zC} (h:ofH k S=some t):t∈S∧t.h=k:=
 ⟨List.mem_of_find?_eq_some h,by have:=List.find?_some h;simpa using this⟩
end Hp
namespace Kn
open Asm Hp
theorem ZH {x k:Int} (h:x=k) (j:Int):(x==j)=decide (k=j):=by rw[h];rfl
def forever:Int:=18446744073709551615
structure Mem where
 ws:List Int
 hs:List Int
def KY (w v:Int):Int:=if w=64 then v else if w=32 then v%4294967296 else 0
def zeG (w a b:Int):Int:=KY w ((KY w a+KY w b)%18446744073709551616)
def Mem.width (m:Mem) (at':Int):Int:=m.ws.getD at'.toNat 0
def Mem.held (m:Mem) (at':Int):Int:=m.hs.getD at'.toNat 0
def Mem.lay (m:Mem) (at' v:Int):Mem:={ m with hs:=m.hs.set at'.toNat v}
def Mem.acc (m:Mem) (kind:Int) (at' old v:Int):Option (Int×Mem):=
 if m.width at'=0 then none
 else
  let w:=m.width at'
  let was:=m.held at'
  some (was,if kind=0 then m else if kind=3 then m.lay at' (zeG w was v) else if kind=4 then (if was=KY w old then m.lay at' (KY w v) else m) else m.lay at' (KY w v))
def Mem.free? (m:Mem) (a n:Nat):Bool:=decide (a+n≤m.ws.length)&& ((m.ws.drop a).take n).all (· ==0)
def Mem.zix (m:Mem) (a n:Nat):Bool:=decide (a+n≤m.ws.length)&& ((m.ws.drop a).take n).all (·!=0)
def KP (l:List Int) (a n:Nat) (v:Int):List Int:=l.take a++List.replicate n v++l.drop (a+n)
def Mem.map (m:Mem) (a n:Nat) (w:Int):Mem:=⟨KP m.ws a n w,KP m.hs a n 0⟩
structure GI where
 pos:Nat
 n:Nat
 w:Int
structure Alc where
 lo:Nat
 hi:Nat
 l:List GI
def zec (n hi:Nat):Nat→List GI→Option (Nat×Nat)
 |at',[]=>if (hi:Int) - at'<n then none else some (at',0)
 |at',b::l=>if (b.pos:Int) - at'<n then (zec n hi (b.pos+b.n) l).map fun p=>(p.1,p.2+1) else some (at',0)
def kL (a:Alc) (m:Mem) (n:Nat) (w:Int):Option (Nat×Alc×Mem):=
 if n<1∨4096<n then none
 else match zec n a.hi a.lo a.l with
  |none=>none
  |some (at',k)=>if m.free? at' n then some (at',{ a with l:=a.l.take k++⟨at',n,w⟩::a.l.drop k},m.map at' n w) else none
def Jc (at':Nat):List GI→Option (Nat×GI)
 |[]=>none
 |b::l=>if b.pos=at' then some (0,b) else (Jc at' l).map fun p=>(p.1+1,p.2)
def zdW (a:Alc) (m:Mem) (at':Nat):Alc×Mem:=
 match Jc at' a.l with
 |none=>(a,m)
 |some (i,b)=>({ a with l:=a.l.eraseIdx i},if m.zix at' b.n then m.map at' b.n 0 else m)
structure bJ where
 now:Int
 S:List zC
 last:Int
def bJ.find (c:bJ) (id:Int):Option zC:=c.S.find? fun t=>t.w==id
def bJ.arm (c:bJ) (id d:Int):bJ:=if id=0 then c else if (c.find id).isSome then c else if d=forever then c else { c with S:=ins ⟨d,id,c.last+1⟩ c.S,last:=c.last+1}
def bJ.zqy (c:bJ) (id:Int):bJ:={ c with S:=c.S.filter fun t=>t.w !=id}
def bJ.due (c:bJ):List Int:=(c.S.takeWhile fun t=>decide (t.d≤c.now+1)).map (·.w)
def bJ.tick (c:bJ):bJ:={ c with now:=c.now+1,S:=c.S.dropWhile fun t=>decide (t.d≤c.now+1)}
structure Slp where
 id:Int
 addr:Int
 mask:Int
def zto (a:Int):Int:=(a*11400714819323198485%18446744073709551616)/4294967296
def vT (a:Int):Int:=zto a%8
def meets (a b:Int):Bool:=bits .and J a b !=0
def zoi (l:List Slp) (addr mask:Int):Option Slp:=l.find? fun s=>s.addr==addr&&meets s.mask mask
def zn3 (l:List Slp) (addr:Int):Option Slp:=l.find? fun s=>s.addr==addr
def zey (l:List Slp) (id:Int):Option Slp:=l.find? fun s=>s.id==id
def zkl (l:List Slp) (id:Int):List Slp:=l.filter fun s=>s.id !=id
def zzw (l:List Slp) (id addr mask:Int):List Slp:=if id=0 then l else if (zey l id).isSome then l else l++ [⟨id,addr,mask⟩]
def zv5 (l:List Slp) (from' to':Int):List Slp:=match zn3 l from' with|none=>l|some s=>zkl l s.id++ [{ s with addr:=to'}]
structure Thr where
 id:Int:=0
 state:Int:=0
 home:Int:=0
 value:Int:=0
 joiner:Int:=0
 loose:Bool:=false
 stepping:Bool:=false
structure Zt where
 times:Int:=0
 reaped:Bool:=false
 t:Thr:={}
def ofT (l:List Zt) (id:Int):Option (Nat×Zt):=
 if id=0 then none else match l[(id%64).toNat]? with
  |some r=>if r.t.id=id then some ((id%64).toNat,r) else none
  |none=>none
def KF (l:List Zt) (id:Int):Option Thr:=(ofT l id).map (·.2.t)
def stateT (l:List Zt) (id:Int):Int:=((KF l id).map (·.state)).getD 0
def beT (l:List Zt) (id s:Int):List Zt:=match ofT l id with
 |some (p,r)=>if r.t.state=4 then l else l.set p { r with t:={ r.t with state:=s}}
 |none=>l
def zxW (l:List Zt) (id who:Int):List Zt:=match ofT l id with
 |some (p,r)=>if who=0∨r.t.joiner≠0∨r.t.loose=true then l else l.set p { r with t:={ r.t with joiner:=who}}
 |none=>l
def zvo (l:List Zt) (id:Int):List Zt×Option Int:=match ofT l id with
 |some (p,r)=>if r.t.joiner≠0∨r.t.loose=true then (l,none) else if r.t.state=4∧r.t.stepping=false then (l.set p { times:=r.times},some r.t.home) else (l.set p { r with t:={ r.t with loose:=true}},none)
 |none=>(l,none)
def zuK (l:List Zt) (id v:Int):List Zt:=match ofT l id with
 |some (p,r)=>if r.t.state=4 then l else l.set p { r with t:={ r.t with state:=4,value:=v,stepping:=true}}
 |none=>l
def zuk (l:List Zt) (id:Int):List Zt×Option Int:=match ofT l id with
 |some (p,r)=>if r.t.stepping=false then (l,none) else if r.t.loose=true∨r.reaped=true then (l.set p { times:=r.times},some r.t.home) else (l.set p { r with t:={ r.t with stepping:=false}},none)
 |none=>(l,none)
def zwt (l:List Zt) (id:Int):List Zt×Int×Option Int:=match ofT l id with
 |some (p,r)=>if r.t.state≠4∨r.t.loose=true∨r.reaped=true then (l,0,none) else if r.t.stepping=true then (l.set p { r with reaped:=true},r.t.value,none) else (l.set p { times:=r.times},r.t.value,some r.t.home)
 |none=>(l,0,none)
def statusT (l:List Zt) (id:Int):Int:=match ofT l id with
 |some (_,r)=>if r.reaped=true then 0 else if r.t.loose=true then 2 else if r.t.joiner≠0 then 4 else if r.t.state=4 then 3 else 1
 |none=>0
def Jp:List Zt→Option Nat
 |[]=>none
 |r::l=>if r.t.id=0 then some 0 else (Jp l).map (· +1)
def gF (l:List Zt) (home:Int):Option (Int×List Zt):=match Jp l with
 |none=>none
 |some p=>let r:=l.getD p {}
  let id:=((p:Int)+64* (r.times+1))%18446744073709551616
  some (id,l.set p ⟨r.times+1,false,{ id:=id,state:=1,home:=home}⟩)
structure Vd where
 times:Int:=0
 handle:Int:=0
 kind:Int:=0
 addr:Int:=0
def ofO (l:List Vd) (h:Int):Option (Nat×Vd):=
 if h=0 then none else match l[((h - 1)%64).toNat]? with
  |some r=>if r.handle=h then some (((h - 1)%64).toNat,r) else none
  |none=>none
def Vf (l:List Vd) (h kind:Int):Option Int:=match ofO l h with
 |some (_,r)=>if r.kind=kind then some r.addr else none
 |none=>none
def zcm:List Vd→Option Nat
 |[]=>none
 |r::l=>if r.handle=0 then some 0 else (zcm l).map (· +1)
def kg (l:List Vd) (kind addr:Int):Int×List Vd:=
 if kind<1∨6<kind then (0,l) else match zcm l with
  |none=>(0,l)
  |some p=>let r:=l.getD p {}
   let h:=((p:Int)+1+64*r.times)%18446744073709551616
   (h,l.set p ⟨r.times+1,h,kind,addr⟩)
def zyp (l:List Vd) (h:Int):List Vd:=match ofO l h with
 |some (p,r)=>l.set p { times:=r.times}
 |none=>l
structure Frame where
 pc:Int:=0
 r:List Int:=List.replicate 32 0
 back:List Int:= []
structure Fr where
 f:Frame:={}
 lib:Bool:=false
 num:Int:=0
structure Run where
 id:Int
 l:List Fr
 woken:Int:=0
structure Wkr where
 slot:Int:=0
 hand:Int:=0
 parked:Bool:=false
 left:Int:=0
 f:Frame:={}
structure kI where
 num:Int
 pos:Int
 k0:Int
 k1:Int
 k2:Int
 k3:Int
structure Ev where
 kind:Int:=0
 pos:Int:=0
 w:Int:=0
 t:Int:=0
 num:Int:=0
 a0:Int:=0
 a1:Int:=0
 a2:Int:=0
 a3:Int:=0
 v:Int:=0
 code:Int:=0
structure Entry where
 kind:Int
 w:Int
 draw:Int
structure Fixed where
 lib:List zx
 loop:Int
 calls:List kI
 code:List zx
 wide:Int
 narrow:Int
 workers:Nat
structure zD where
 mem:Mem
 alc:Alc
 clk:bJ
 slps:List Slp
 ring:List Int
 tab:List Zt
 objs:List Vd
 runs:List Run
 wkrs:List Wkr
 entries:Int:=0
 pos:Int:=0
 w:Int:=0
 draw:Int:=0
 out:List Ev:= []
end Kn
namespace Kn
def zB:GI:=⟨0,0,0⟩
def KI (l:List GI) (i:Nat):GI:=l.getD i zB
def gD (lo:Nat) (l:List GI) (i:Nat):Nat:=if i=0 then lo else (KI l (i - 1)).pos+(KI l (i - 1)).n
def zV (hi:Nat) (l:List GI) (i:Nat):Nat:=if i<l.length then (KI l i).pos else hi
theorem zbm (b:GI) (l:List GI) (i:Nat):KI (b::l) (i+1)=KI l i:=by simp[KI]
theorem Km (lo:Nat) (b:GI) (l:List GI) (i:Nat):gD lo (b::l) (i+1)=gD (b.pos+b.n) l i:=by
 unfold gD
 rw[if_neg Y1,Nat.add_sub_cancel]
 cases i with
 |zero=>rfl
 |succ i=>rw[if_neg Y1,Nat.add_sub_cancel,zbm]
theorem Kv (hi:Nat) (b:GI) (l:List GI) (i:Nat):zV hi (b::l) (i+1)=zV hi l i:=by
 unfold zV;by_cases h:i<l.length
 ·rw[if_pos h,if_pos Y8,zbm]
 ·rw[if_neg h,if_neg Y8]
theorem zva (n hi:Nat) (l:List GI) (lo k:Nat) (hk:k≤l.length) (hb: ∀j,j<k→(zV hi l j:Int) - gD lo l j<n) (h: ¬(zV hi l k:Int) - gD lo l k<n):
  zec n hi lo l=V (gD lo l k,k):=by
 induction l generalizing lo k with
 |nil=>
  obtain rfl:k=0:=Y49
  have h1:zV hi [] 0=hi:=rfl
  have h2:gD lo [] 0=lo:=rfl
  rw[h1,h2] at h
  unfold zec
  rw[if_neg h,h2]
 |cons b l ih=>
  unfold zec
  cases k with
  |zero=>
   have h1:zV hi (b::l) 0=b.pos:=rfl
   have h2:gD lo (b::l) 0=lo:=rfl
   rw[h1,h2] at h
   rw[if_neg h,h2]
  |succ k=>
   have h0:=hb 0 Y1
   have h1:zV hi (b::l) 0=b.pos:=rfl
   have h2:gD lo (b::l) 0=lo:=rfl
   rw[h1,h2] at h0
   rw[if_pos h0,ih (b.pos+b.n) k Y49 (fun j hj=>by have:=hb (j+1) Y1;rwa[Kv,Km] at this) (by rwa[Kv,Km] at h),Km]
   rfl
theorem ztN (n hi:Nat) (l:List GI) (lo:Nat) (hb: ∀j,j≤l.length→(zV hi l j:Int) - gD lo l j<n):zec n hi lo l=none:=by
 induction l generalizing lo with
 |nil=>
  have h:=hb 0 Y7
  have h1:zV hi [] 0=hi:=rfl
  have h2:gD lo [] 0=lo:=rfl
  rw[h1,h2] at h
  unfold zec
  rw[if_pos h]
 |cons b l ih=>
  have h0:=hb 0 Y7
  have h1:zV hi (b::l) 0=b.pos:=rfl
  have h2:gD lo (b::l) 0=lo:=rfl
  rw[h1,h2] at h0
  unfold zec
  rw[if_pos h0,ih (b.pos+b.n) (fun j hj=>by have:=hb (j+1) Y50;rwa[Kv,Km] at this)]
  rfl
theorem zeM (p:Nat) (l:List GI) (hb: ∀j,j<l.length→(KI l j).pos≠p):Jc p l=none:=by
 induction l with
 |nil=>rfl
 |cons b l ih=>
  unfold Jc
  rw[if_neg (show¬b.pos=p from hb 0 Y7),ih fun j hj=>by have:=hb (j+1) Y50;rwa[zbm] at this]
  rfl
def okB (hi:Nat):Nat→List GI→Prop
 |lo,[]=>lo≤hi
 |lo,b::l=>lo≤b.pos∧1≤b.n∧b.n≤4096∧(b.w=32∨b.w=64)∧okB hi (b.pos+b.n) l
theorem zaK {hi:Nat}: ∀{l:List GI} {lo:Nat},okB hi lo l→lo+l.length≤hi
 |[],_,h=>h
 |b::l,lo,⟨h1,h2,_,_,h3⟩=>by have:=zaK h3;simp;omega
theorem zhS {hi:Nat}: ∀{l:List GI} {lo:Nat},okB hi lo l→ ∀b∈l,lo≤b.pos∧b.pos+b.n≤hi∧1≤b.n∧b.n≤4096∧(b.w=32∨b.w=64)
 |[],_,_,_,hb=>absurd hb Y7
 |c::l,lo,⟨h1,h2,h3,h4,h5⟩,b,hb=>by
  rcases List.mem_cons.1 hb with rfl|hb
  ·have:=zaK h5;exact ⟨h1,by omega,h2,h3,h4⟩
  ·have:=zhS h5 b hb;exact ⟨by omega,this.2⟩
theorem zjX {hi:Nat}: ∀{l:List GI} {lo:Nat},okB hi lo l→ ∀i,i≤l.length→lo≤gD lo l i∧gD lo l i≤zV hi l i∧zV hi l i≤hi
 |[],lo,h,i,hi'=>by
  obtain rfl:i=0:=Y98
  exact ⟨Nat.le_refl _,h,Nat.le_refl _⟩
 |b::l,lo,⟨h1,h2,h3,h4,h5⟩,i,hi'=>by
  cases i with
  |zero=>have:=zaK h5;exact ⟨Nat.le_refl _,h1,show b.pos≤hi by omega⟩
  |succ i=>
   have:=zjX h5 i Y98
   rw[Km,Kv]
   omega
theorem zkb {hi n:Nat} {wd:Int} (hn:1≤n) (hn2:n≤4096) (hw:wd=32∨wd=64): ∀{l:List GI} {lo:Nat},okB hi lo l→ ∀k,k≤l.length→ ¬(zV hi l k:Int) - gD lo l k<n→okB hi lo (l.take k++⟨gD lo l k,n,wd⟩::l.drop k)
 |[],lo,h,k,hk,hg=>by
  obtain rfl:k=0:=Y49
  have h1:zV hi [] 0=hi:=rfl
  have h2:gD lo [] 0=lo:=rfl
  rw[h1,h2] at hg
  exact ⟨Nat.le_refl _,hn,hn2,hw,show lo+n≤hi by omega⟩
 |b::l,lo,⟨h1,h2,h3,h4,h5⟩,k,hk,hg=>by
  cases k with
  |zero=>
   have e1:zV hi (b::l) 0=b.pos:=rfl
   have e2:gD lo (b::l) 0=lo:=rfl
   rw[e1,e2] at hg
   exact ⟨Nat.le_refl _,hn,hn2,hw,show lo+n≤b.pos by omega,h2,h3,h4,h5⟩
  |succ k=>
   rw[Kv,Km] at hg
   rw[Km]
   exact ⟨h1,h2,h3,h4,zkb hn hn2 hw h5 k Y49 hg⟩
theorem zs5 {hi lo lo':Nat} (h:lo'≤lo): ∀{l:List GI},okB hi lo l→okB hi lo' l
 |[],h1=>Nat.le_trans h h1
 |_::_,⟨h1,h2⟩=>⟨Nat.le_trans h h1,h2⟩
theorem zkq {hi:Nat}: ∀{l:List GI} {lo:Nat},okB hi lo l→ ∀i,okB hi lo (l.eraseIdx i)
 |[],_,h,_=>h
 |b::l,lo,⟨h1,h2,h3,h4,h5⟩,i=>by
  cases i with
  |zero=>exact zs5 Y1 h5
  |succ i=>exact ⟨h1,h2,h3,h4,zkq h5 i⟩
theorem zke {l:List GI} {i:Nat} (h:i<l.length):KI l i∈l:=by
 unfold KI;rw[List.getD_eq_getElem?_getD,List.getElem?_eq_getElem h];exact List.getElem_mem h
section
variable {α β:Type} {k:Nat} {f:α→List β}
theorem BA (hf: ∀x,(f x).length=k) (l:List α):(l.flatMap f).length=l.length*k:=by
 induction l with
 |nil=>simp
 |cons x l ih=>rw[List.flatMap_cons,List.length_append,ih,hf,List.length_cons,Nat.succ_mul];omega
theorem gu (hf: ∀x,(f x).length=k) (l:List α) (i:Nat) (h:i<l.length) (j:Nat) (hj:j<k):(l.flatMap f)[i*k+j]?=(f l[i])[j]?:=by
 induction l generalizing i with
 |nil=>simp at h
 |cons x l ih=>
  rw[List.flatMap_cons]
  cases i with
  |zero=>rw[Nat.zero_mul,Nat.zero_add,List.getElem?_append_left Y89];rfl
  |succ i=>
   rw[List.getElem?_append_right Y43,hf,show (i+1)*k+j - k=i*k+j by rw[Nat.succ_mul];omega]
   exact ih i Y17
theorem zfz (hf: ∀x,(f x).length=k) (l:List α) (n:Nat):(l.flatMap f).take (n*k)=(l.take n).flatMap f:=by
 induction l generalizing n with
 |nil=>simp
 |cons x l ih=>
  cases n with
  |zero=>simp
  |succ n=>
   rw[List.flatMap_cons,List.take_succ_cons,List.flatMap_cons,List.take_append,List.take_of_length_le Y43,hf,show (n+1)*k - k=n*k by rw[Nat.succ_mul];omega,ih]
theorem zfZ (hf: ∀x,(f x).length=k) (l:List α) (n:Nat):(l.flatMap f).drop (n*k)=(l.drop n).flatMap f:=by
 induction l generalizing n with
 |nil=>simp
 |cons x l ih=>
  cases n with
  |zero=>simp
  |succ n=>
   rw[List.flatMap_cons,List.drop_succ_cons,List.drop_append,List.drop_eq_nil_of_le Y43,hf,show (n+1)*k - k=n*k by rw[Nat.succ_mul];omega,ih]
   rfl
theorem jN (hf: ∀x,(f x).length=k) (l:List α) (i:Nat) (h:i<l.length) (j:Nat) (hj:j<k) (v:β) (y:α) (hy:(f l[i]).set j v=f y):(l.flatMap f).set (i*k+j) v=(l.set i y).flatMap f:=by
 induction l generalizing i with
 |nil=>simp at h
 |cons x l ih=>
  rw[List.flatMap_cons]
  cases i with
  |zero=>
   rw[Nat.zero_mul,Nat.zero_add,List.set_append_left _ _ Y89,List.set_cons_zero,List.flatMap_cons]
   exact congrArg (· ++l.flatMap f) hy
  |succ i=>
   rw[List.set_append_right _ _ Y43,hf,show (i+1)*k+j - k=i*k+j by rw[Nat.succ_mul];omega,List.set_cons_succ,List.flatMap_cons,ih i Y17 hy]
theorem zaN (l:List α) (i:Nat) (h:i<l.length):l.flatMap f=(l.take i).flatMap f++f l[i]++(l.drop (i+1)).flatMap f:=by
 conv=>lhs;rw[←List.take_append_drop i l,List.flatMap_append,List.drop_eq_getElem_cons h,List.flatMap_cons]
 rw[List.append_assoc]
theorem zek (l:List α) (i:Nat) (h:i<l.length) (y:α):(l.take i).flatMap f++f y++(l.drop (i+1)).flatMap f=(l.set i y).flatMap f:=by
 rw[zaN (f:=f) (l.set i y) i Y17,List.getElem_set_self,List.take_set_of_le (Nat.le_refl _),List.drop_set_of_lt Y1]
theorem set_mid (A y B:List β) (j:Nat) (hj:j<y.length) (v:β):(A++y++B).set (A.length+j) v=A++y.set j v++B:=by
 rw[List.append_assoc,List.set_append_right _ _ Y1,show A.length+j - A.length=j by omega,List.set_append_left _ _ hj,List.append_assoc]
end
end Kn
section
open Go.RowKit
theorem Zw {P:Program} (w:World) {ops:Array Oper} {o:Oper} {a:Act} {K:Act→World→Prop} {Q:Exit→Act→World→Prop} {au:Prop} (hgd:o.guard=none) (s x:Operand) (t:TypeId)
  (ho:o.op= .call { callee:= .builtin .append,args:=#[s,x],argTypes:=#[t,t]})
  (base:Nat) (e:TypeId) (i:TypeInfo) (z:Value) (size bytes:Nat) (ht:P.underlying t=V (.slice e)) (hi:P.info? e=some i) (hz:i.zero=some z)
  (hsize:i.size=size) (hby:i.bytes=bytes) (hzs:z.cells.size=size) (hsz:0<size)
  (v:Value) (n:Nat) (xs:List Value) (hs:a.eval s=v) (hown:w.ownsRow base e size v n xs)
  (ad:Addr) (m c:Nat) (news:List Value) (hx:a.eval x=Sl (some ad) m c) (hl:news.length=m*size) (hnews: ∀j u,news[j]?=some u→w.cell? (ad.add j)=some u) (h1: ∀u∈news,u.oneCell'=true)
  (h63:n+m≤maxLen) (hbytes:(n+m)*bytes≤140737488355328) (hbase:base≤w.heap.size)
  (h: ∀v' w',w'.ownsRow base e size v' (n+m) (xs++news)→w.grownBy w' v.ownBlock→(v'.ownBlock=v.ownBlock∨v'.ownBlock=some w.heap.size)→K (a.put o.dst v') w'):
  if Region.wanted o (yielded ops a.tmps)=true then Oper.wp P o a w K Q else au:=by
 have hw:Region.wanted o (yielded ops a.tmps)=true:=by simp[Region.wanted,hgd]
 rw[if_pos hw];obtain ⟨v',w',hrun,h2,h3,_,h4⟩:=run_append_own_at (P:=P) w base t o.type e i z size bytes ht hi hz hsize hby hzs hsz v n xs hown ad m c news hl hnews h1 h63 hbytes hbase;unfold Oper.wp execOp;simp only[ho,resolve,invoke,builtin,Sem.run_bind,Sem.run_pure,Result.andThen_ok,List.map_toArray,List.map_cons,List.map_nil,hs,hx,hrun];exact h v' w' h2 h3 h4
theorem znk (w:World) (base:Nat) (e:TypeId) (size:Nat) (h:base≤w.heap.size):(w.alloc (Ce #[] e)).ownsRow base e size (Sl (V ⟨w.heap.size,0,O⟩) 0 0) 0 []:=
 ⟨by simp, .inr ⟨_,0,#[],rfl,h,heap_alloc_new w _,Nat.le_refl _,by simp[maxLen],by simp,by simp⟩⟩
theorem zn {w:World} {base:Nat} {e:TypeId} {size n:Nat} {v:Value} {xs:List Value} (h:w.ownsRow base e size v n xs): ∃A c,v= .slice A n c:=by
 exact zvi
theorem BH {w:World} {base base':Nat} {e e':TypeId} {size size':Nat} {v v':Value} {n n':Nat} {xs xs':List Value}
  (h:w.ownsRow base e size v n xs) (h':w.ownsRow base' e' size' v' n' xs') (hne:e≠e'):v.ownBlock=none∨v.ownBlock≠v'.ownBlock:=by
 exact J72
end
namespace Kn
open Go.RowKit
theorem BK {P:Program} (w:World) (dT sT ty elem:TypeId) (k g o dLen dCap:Nat) (a:Addr) (sLen sCap:Nat) (cur:Array Value) (t:TypeId) (cs:List Value)
  (hu:P.underlying dT=V (.slice elem)) (hs:(P.info? elem).map (·.size)=some k)
  (hg:w.heap[g]?=V (.cells cur t (0,0))) (hn:cs.length=Nat.min sLen dLen*k)
  (hsrc: ∀j v,cs[j]?=some v→w.cell? (a.add j)=some v) (hfit:o+cs.length≤cur.size) (h1: ∀v∈cs,v.oneCell'=true):
  (Builtin.copy_ #[dT,sT] ty #[Sl (V ⟨g,o,O⟩) dLen dCap,Sl (some a) sLen sCap]).run P w=
   .ok (goInt (Nat.min sLen dLen)) (w.setRow g (cur.toList.take o++cs++cur.toList.drop (o+cs.length)).toArray):=by
 have hl:=run_loadCells_list (P:=P) w a cs hsrc
 have hst:=run_storeCells_at P g o t cs 0 cur w hg (by simpa using hfit) h1
 cases hq:P.info? elem with
 |none=>simp[hq] at hs
 |some i=>
  have hi:i.size=k:=by simpa[hq] using hs
  simp[Builtin.copy_,run_underlying hu,Builtin.lenOf,Builtin.firstCells,sizeOf,typeInfo,hq,hi,←hn,hl,hst]
theorem zbX {P:Program} (w:World) (dT sT ty elem:TypeId) (k:Nat) (d a:Option Addr) (dLen dCap sLen sCap:Nat) (hu:P.underlying dT=V (.slice elem)) (hs:(P.info? elem).map (·.size)=some k) (hn:Nat.min sLen dLen=0):
  (Builtin.copy_ #[dT,sT] ty #[.slice d dLen dCap, .slice a sLen sCap]).run P w= .ok (goInt 0) w:=by
 cases hq:P.info? elem with
 |none=>simp[hq] at hs
 |some i=>
  have hl: ∀(x:Addr),(loadCells x 0).run P w= .ok #[] w:=fun x=>by simpa using run_loadCells_list (P:=P) w x [] Y7
  cases d<;>cases a<;>simp[Builtin.copy_,run_underlying hu,Builtin.lenOf,Builtin.firstCells,sizeOf,typeInfo,hq,hn,storeCells,hl]
theorem zbJ {P:Program} (w:World) {ops:Array Oper} {rest:List Oper} {o:Oper} {a:Act} {Q:Exit→Act→World→Prop} (hgd:o.guard=none) (d s:Operand) (t t':TypeId)
  (ho:o.op= .call { callee:= .builtin .copy,args:=#[d,s],argTypes:=#[t,t']}) (v u:Value) (hd:a.eval d=v) (hs:a.eval s=u) {v':Value} {w':World}
  (hr:(Builtin.copy_ #[t,t'] o.type #[v,u]).run P w= .ok v' w') (h:wpList P ops Q rest (a.put o.dst v') w'):wpList P ops Q (o::rest) a w:=by
 refine wpList_plain hgd fun K hK=>?_;unfold Oper.wp execOp;simp only[ho,resolve,invoke,builtin,Sem.run_bind,Sem.run_pure,Result.andThen_ok,List.map_toArray,List.map_cons,List.map_nil,hd,hs,hr];exact hK _ _ h
theorem zob {w:World} {base:Nat} {e:TypeId} {size n g cap:Nat} {xs:List Value} (h:w.ownsRow base e size (Sl (V ⟨g,0,O⟩) n cap) n xs) (off:Nat) (cs:List Value) (hfit:off+cs.length≤n*size):
  ∃cur:Array Value,w.heap[g]?=V (.cells cur e (0,0))∧off+cs.length≤cur.size∧(w.setRow g (cur.toList.take off++cs++cur.toList.drop (off+cs.length)).toArray).ownsRow base e size (Sl (V ⟨g,0,O⟩) n cap) n (xs.take off++cs++xs.drop (off+cs.length)):=by
 rcases h.2 with ⟨h1,_⟩ |⟨g',cap',cur,hv,hg,hh,hn,hm,hs,ht⟩
 ·cases h1
 ·injection hv with h1 h2 h3
  injection h1 with h1
  injection h1 with h1 _ _
  subst h1 h3;have hsz:n*size≤cur.size:=by rw[hs];exact Nat.mul_le_mul_right _ hn
  refine ⟨cur,hh,by omega,?_, .inr ⟨g,cap,_,rfl,hg,setRow_heap w g cur _ e _ hh,hn,hm,?_,?_⟩⟩
  ·have:=h.1;simp only[List.length_append,List.length_take,List.length_drop,this];omega
  ·simp only[List.size_toArray,List.length_append,List.length_take,List.length_drop,Array.length_toList,←hs];omega
  ·rw[←ht];simp only[List.take_append,List.length_append,List.length_take,Array.length_toList,List.take_take,List.drop_take];congr 1
   ·congr 1
    ·first|rw[Nat.min_eq_right Y1,Nat.min_eq_left Y1] |rw[Nat.min_eq_left Y1,Nat.min_eq_right Y1] |rw[Nat.min_comm]
    ·rw[List.take_of_length_le Y1]
   ·rw[Nat.min_eq_left (by omega:off≤cur.size)]
theorem jk {w:World} {base:Nat} {e:TypeId} {size n g cap:Nat} {xs:List Value} (h:w.ownsRow base e size (Sl (V ⟨g,0,O⟩) n cap) n xs) (m:Nat) (hm:m≤n):w.ownsRow base e size (Sl (V ⟨g,0,O⟩) m cap) m (xs.take (m*size)):=by
 rcases h.2 with ⟨h1,_⟩ |⟨g',cap',cur,hv,hg,hh,hn,hmx,hs,ht⟩
 ·cases h1
 ·injection hv with h1 h2 h3
  injection h1 with h1
  injection h1 with h1 _ _
  subst h1 h3;have h2:m*size≤n*size:=Nat.mul_le_mul_right _ hm;refine ⟨by rw[List.length_take,h.1];omega, .inr ⟨g,cap,cur,rfl,hg,hh,by omega,hmx,hs,?_⟩⟩;rw[←ht,List.take_take,Nat.min_eq_left h2]
theorem bn (w:World) (g:Nat) (cs:Array Value):(w.setRow g cs).heap.size=w.heap.size:=by simp[World.setRow]
theorem kE (w:World) (g k:Nat) (cs:Array Value) (h:k≠g):(w.setRow g cs).heap[k]?=w.heap[k]?:=setRow_other w g k cs h
theorem wraps_u64 (n:Int) (h₀:0≤n) (h₁:n<2^64):IntKind.u64.wrap n=n:=Y22
theorem zsO (v:Int) (hv:0≤v∧v<18446744073709551616):bits .and J v 4294967295=v%4294967296:=by
 have e0:(2:Int)^64=18446744073709551616:=Y2;have h:=bits_mask J 64 Y2 wraps_u64 32 Y2 v hv.1 (by rw[e0];exact hv.2);have e:((2:Int)^32 - 1)=4294967295:=Y2;have e2:((2:Int)^32)=4294967296:=Y2;rw[e,e2] at h;exact h
theorem Gd (wd v:Int) (w:World) (hv:0≤v∧v<18446744073709551616):Calls Tp 213 #[E Z wd,E J v] w fun e w'=>e=Rt (E J (KY wd v))∧w=w':=by
 have hlow:=zsO v hv;clear hv;by_cases h1:wd=32
 ·subst h1;exact zul
 ·by_cases h2:wd=64
  ·subst h2;exact zul
  ·have e1:(wd==32)=false:=by simp[h1]
   have e2:(wd==64)=false:=by simp[h2]
   have e3:KY wd v=0:=by unfold KY;rw[if_neg h2,if_neg h1]
   rw[e3];exact zul
theorem GK {wd v:Int} (hv:0≤v∧v<18446744073709551616):0≤KY wd v∧KY wd v<18446744073709551616:=by
 unfold KY;split
 ·exact hv
 ·split<;>omega
theorem zer (wd a b:Int) (w:World) (ha:0≤a∧a<18446744073709551616) (hb:0≤b∧b<18446744073709551616):Calls Tp 212 #[E Z wd,E J a,E J b] w fun e w'=>e=Rt (E J (zeG wd a b))∧w=w':=by
 have h1:=Y0 (fun W=>Gd wd a W ha);have h2:=Y0 (fun W=>Gd wd b W hb);have h3:=Y0 (fun x W hx=>Gd wd x W hx);have r1:=GK (wd:=wd) ha;have r2:=GK (wd:=wd) hb;unfold zeG;generalize KY wd a=ca at*;generalize KY wd b=cb at*;have hw:IntKind.u64.wrap (ca+cb)=(ca+cb)%18446744073709551616:=by rw[IntKind.wrap_u64]
 have hr:0≤(ca+cb)%18446744073709551616∧(ca+cb)%18446744073709551616<18446744073709551616:=Y1;generalize (ca+cb)%18446744073709551616=m at*;have HR:=Y0 hr;clear hr ha hb r1 r2;go_enter Tryz.func212,Tryz.ntmps212;exact J92
theorem zhT {wd a b:Int}:0≤zeG wd a b∧zeG wd a b<18446744073709551616:=GK Y1
theorem zpk (a:Int):wrap64 ((IntKind.u64.wrap (a*11400714819323198485)/4294967296).tmod 8)=vT a:=by
 rw[IntKind.wrap_u64];unfold vT zto;rw[Int.tmod_eq_emod_of_nonneg Y1];unfold wrap64;omega
theorem zhQ (a:Int) (w:World):Calls Tp 270 #[E J a,E Z 8] w fun e w'=>e=Rt (E Z (vT a))∧w=w':=by
 go_enter Tryz.func270,Tryz.ntmps270;go_wp2_with fail;rw[zpk];go_ret;exact ⟨rfl,rfl⟩
end Kn
namespace Kn
open Asm Hp
def word (x:Int):Int:=x%18446744073709551616
def Fixed.cells (F:Fixed):Int:=F.wide+F.narrow
def Fixed.base (F:Fixed):Int:=17+8* (F.workers:Int)
def rg (f:Frame) (i:Int):Int:=f.r.getD i.toNat 0
def vC (f:Frame) (i v:Int):Frame:={ f with r:=f.r.set i.toNat v}
def bZ (f:Frame) (x:zx):Int:=if x.c= -1 then x.v else rg f x.c
def vk (f:Frame) (x:zx):Int:=if x.b= -1 then x.v else word (rg f x.b+x.v)
def zwI (a b:Int):Int:=word (a*2^b.toNat)
def ztE (a b:Int):Int:=a/2^b.toNat
def za3 (b:Bool):Int:=if b=true then 1 else 0
def reckon (op b c:Int):Int:=
 if op=3 then word (b+c) else if op=4 then word (b - c) else if op=5 then bits .and J b c else if op=6 then bits .or J b c
 else if op=7 then bits .xor J b c else if op=8 then zwI b (c%64) else if op=9 then ztE b (c%64) else if op=10 then za3 (b==c) else za3 (decide (b<c))
def JR (op:Int):Bool:=(decide (3≤op)&&decide (op≤11)) ||op==21||op==32||op==24||op==25||op==26||op==27||op==48
def hasB (op:Int):Bool:=JR op||op==2||op==23||op==49||op==50||op==47||op==39||op==54||op==17||op==18||op==19||op==20||op==31||op==43||op==45
def Gm (op:Int):Bool:=hasB op||op==1||op==13||op==14||op==28||op==29||op==30||op==34||op==35||op==36||op==37||op==38||op==40||op==41||op==42||op==44||op==46||op==51||op==52||op==53||op==57
def Gj (op:Int):Bool:=(decide (3≤op)&&decide (op≤11)) ||op==21||op==32||op==17||op==18||op==19||op==20||op==31||op==43||op==45||op==1||op==13||op==14||op==12||op==15||op==22
def Kw (n:Int) (used less:Bool):Bool:=if used then (decide (0≤n)&&decide (n<32)) ||(less&&n== -1) else n==0
def kJ (op:Int):Bool:=op==17||op==18||op==19||op==20||op==21||op==31||op==32||op==43
def gy (op:Int):Bool:=decide (3≤op)&&decide (op≤11)
def Gv (x:zx) (used:Bool) (n:Int):Bool:=
 if x.op=12∨x.op=13∨x.op=14∨x.op=15 then decide (x.v<n)
 else if x.op=22 then decide (x.v<1000)
 else if 3≤x.op∧x.op≤11 then x.c== -1||x.v==0
 else if x.op=43 then x.b== -1||x.v==0
 else used||x.v==0
def vI (x:zx) (n:Int) (library:Bool):Bool:=
 decide (1≤x.op)&&decide (x.op≤58)&&!(library&&x.op==22)&& (library||(decide (x.op≤22)&&x.m==0))
 &&Kw x.a (Gm x.op) false&&Kw x.b (hasB x.op) (kJ x.op)&&Kw x.c (JR x.op) (gy x.op)&&Gv x (Gj x.op) n
 &&decide (0≤x.m)&&decide (x.m≤99)&&decide (0≤x.w)&&decide (x.w≤2)&& (x.w==0||(decide (0<x.m)&&Gm x.op))
structure Stepped where
 how:Int
 f:Frame
 mem:Mem
def ZT (op:Int):Int:=if op=18∨op=31 then 1 else if op=19 then 2 else if op=20 then 3 else if op=21∨op=32 then 4 else 0
def VG (f:Frame) (x:zx):Int×Frame:=
 if x.op=16 then (match f.back.getLast? with|none=>(2,f) |some p=>(0,{ f with pc:=p,back:=f.back.dropLast}))
 else if x.op=15 then (if 8≤f.back.length then (3,f) else (0,{ f with pc:=x.v,back:=f.back++ [f.pc+1]}))
 else if x.op=12 then (0,{ f with pc:=x.v})
 else (0,{ f with pc:=if (rg f x.a==0)==(x.op==13) then x.v else f.pc+1})
def bare (x:zx):zx:={ x with m:=0,w:=0}
def Zc (l:List zx) (pc:Int):Option zx:=if pc<0 then none else l[pc.toNat]?
def zbK (l:List zx) (pc:Int):Option zx:=(Zc l pc).filter fun x=>vI (bare x) l.length (x.op !=22)
def zK (f:Frame) (l:List zx) (m:Mem):Stepped:=match zbK l f.pc with
 |none=>⟨3,f,m⟩
 |some x=>
  if x.op=12∨x.op=13∨x.op=14∨x.op=15∨x.op=16 then ⟨(VG f x).1,(VG f x).2,m⟩
  else if 17≤x.op∧x.op≤21 then
   (match m.acc (ZT x.op) (vk f x) (rg f x.a) (if x.op=21 then rg f x.c else rg f x.a) with
    |none=>⟨3,f,m⟩
    |some (was,m')=>⟨0,{ (if x.op=18 then f else vC f x.a was) with pc:=f.pc+1},m'⟩)
  else if x.op=1 then ⟨0,{ vC f x.a x.v with pc:=f.pc+1},m⟩
  else if x.op=2 then ⟨0,{ vC f x.a (rg f x.b) with pc:=f.pc+1},m⟩
  else if 3≤x.op∧x.op≤11 then ⟨0,{ vC f x.a (reckon x.op (rg f x.b) (bZ f x)) with pc:=f.pc+1},m⟩
  else ⟨1,f,m⟩
def zZ (r:Run):Fr:=r.l.getLastD {}
def zW (r:Run) (f:Fr):Run:={ r with l:=r.l.dropLast++ [f]}
def zR (l:List Run) (id:Int):Option Run:=l.find? fun r=>r.id==id
def Zb (l:List Run) (r:Run):List Run:=l.map fun s=>if s.id==r.id then r else s
def zl (M:zD) (i:Nat):Wkr:=M.wkrs.getD i {}
def setW (M:zD) (i:Nat) (k:Wkr):zD:={ M with wkrs:=M.wkrs.set i k}
def zA (M:zD) (i:Nat) (t:Option Int):Frame:=match t with
 |none=>(zl M i).f
 |some id=>match zR M.runs id with
  |some r=>(zZ r).f
  |none=>{}
def Zu (M:zD) (i:Nat) (t:Option Int) (f:Frame):zD:=match t with
 |none=>setW M i { zl M i with f:=f}
 |some id=>match zR M.runs id with
  |some r=>{ M with runs:=Zb M.runs (zW r { zZ r with f:=f})}
  |none=>M
def zG (M:zD) (i:Nat) (t:Option Int) (a v:Int):zD:=Zu M i t (vC (zA M i t) a v)
def VQ (M:zD) (i:Nat) (t:Option Int):zD:=Zu M i t { zA M i t with pc:=(zA M i t).pc+1}
def tell (M:zD) (e:Ev):zD:={ M with out:=M.out++ [{ e with pos:=M.pos,w:=M.w}]}
def zzI (m:Mem) (kind a old v:Int):Mem:=match m.acc kind a old v with
 |some p=>p.2
 |none=>m
def zam (m:Mem) (a:Int):Int:=if m.width a=0 then 0 else m.held a
def Ga (l:List Int) (id:Int):List Int:=if 64≤l.length then l else l++ [id]
def inject (M:zD) (id:Int):zD:={ M with tab:=beT M.tab id 1,ring:=Ga M.ring id,mem:=zzI M.mem 3 0 0 1}
def again (F:Fixed) (M:zD) (i:Nat):zD:=setW M i { zl M i with f:={ (zl M i).f with pc:=F.loop,back:= []}}
def leave (F:Fixed) (M:zD) (i:Nat):zD:=setW M i { zl M i with slot:=0,f:={ (zl M i).f with pc:=F.loop,back:= []}}
def zaL (M:zD) (h:Option Int):zD:=match h with
 |none=>M
 |some at'=>let p:=zdW M.alc M.mem at'.toNat;{ M with alc:=p.1,mem:=p.2}
def take (M:zD) (i:Nat) (id:Int):zD:=
 if (zl M i).hand≠0∨stateT M.tab id≠1∨(M.wkrs.any fun k=>k.hand==id)=true∨(M.ring.any fun r=>r==id)=true then M
 else setW M i { zl M i with hand:=id}
def give (M:zD) (i:Nat) (id:Int):zD:=
 if (zl M i).hand≠0 then inject M id else setW { M with tab:=beT M.tab id 1} i { zl M i with hand:=id}
def Kj (M:zD) (place r0:Int):Int×zD:=match kL M.alc M.mem 1 64 with
 |none=>(0,M)
 |some (home,alc,mem)=>match gF M.tab home with
  |none=>let p:=zdW alc mem home;(0,{ M with alc:=p.1,mem:=p.2})
  |some (id,tab)=>(id,{ M with alc:=alc,mem:=mem,tab:=tab,runs:=M.runs++ [⟨id,[⟨{ pc:=place,r:=(List.replicate 32 0).set 0 r0},false,0⟩],0⟩]})
def za2 (F:Fixed) (b:Int):Int:=17+3* (b% (F.workers:Int))
def returned (M:zD) (id num code v:Int):zD:=match zR M.runs id with
 |none=>M
 |some r=>tell { M with runs:=Zb M.runs (zW r { zZ r with f:=vC (vC (zZ r).f 0 code) 1 v})} { kind:=2,t:=id,num:=num,code:=code,v:=v}
def GU (M:zD) (id:Int):zD:=match zR M.runs id with
 |none=>M
 |some r=>{ M with runs:=Zb M.runs { r with l:=r.l.dropLast}}
def answer (M:zD) (id code v:Int):zD:=match zR M.runs id with
 |none=>M
 |some r=>returned (GU M id) id (zZ r).num code v
def zyE (F:Fixed) (M:zD) (i:Nat) (id:Int):zD:=
 let zuR:=zuK M.tab id 0
 let v:=((KF zuR id).map (·.value)).getD 0
 let p:=zuk zuR id
 let M1:zD:=zaL { M with tab:=p.1,slps:=zkl M.slps id,clk:=M.clk.zqy id} p.2
 let M2:=tell M1 { kind:=7,t:=id,v:=v}
 leave F { M2 with runs:=M2.runs.filter fun r=>r.id !=id} i
def bW (F:Fixed) (M:zD) (i:Nat) (id:Int) (x:zx):Int×zD:=
 let f:=zA M i (some id)
 if x.op=24 then
  (if (zey M.slps id).isSome=true∨id=0 then (0,M) else (0,{ M with slps:=zzw M.slps id (rg f x.b) (rg f x.c),clk:=M.clk.arm id (rg f x.a)}))
 else if x.op=28 then
  (if (zey M.slps id).isSome=true then (1,leave F { M with tab:=beT M.tab id 3} i) else (0,zG M i (some id) x.a (((zR M.runs id).map (·.woken)).getD 0)))
 else if x.op=51 then (0,{ M with tab:=zxW M.tab (rg f x.a) id})
 else if x.op=53 then (0,{ M with tab:=zuK M.tab id (rg f x.a)})
 else if x.op=55 then (1,zyE F M i id)
 else if x.op=56 then (0,leave F (inject M id) i)
 else if x.op=58 then (1,answer M id (rg f 0) (rg f 1))
 else (0,M)
def zi4 (M:zD) (id p:Int):zD:=match zR M.runs id with
 |none=>M
 |some r=>if r.l.length<8 then { M with runs:=Zb M.runs { r with l:=r.l++ [⟨{ pc:=p},false,0⟩]}} else M
def told (F:Fixed) (M:zD) (i:Nat) (t:Option Int) (x:zx):Int:=
 let f:=zA M i t
 if x.op=23 then 1+2*vT (rg f x.b)
 else if x.op=41 then M.clk.now
 else if x.op=37 then t.getD 0
 else if x.op=40 then F.workers
 else if x.op=42 then M.draw
 else if x.op=29 then (zl M i).hand
 else if x.op=38 then za2 F M.w
 else if x.op=39 then za2 F (rg f x.b)
 else za3 (decide (rg f x.b<F.code.length))
def special (F:Fixed) (M:zD) (i:Nat) (t:Option Int) (x:zx):Int×zD:=
 let f:=zA M i t
 let a:=rg f x.a
 let b:=rg f x.b
 let c:=rg f x.c
 if x.op=24∨x.op=28∨x.op=51∨x.op=53∨x.op=55∨x.op=56∨x.op=58 then (match t with|none=>(0,M) |some id=>bW F M i id x)
 else if x.op=57 then (0,M)
 else if x.op=31 then (match M.mem.acc 1 (vk f x) 0 a with|none=>(2,M) |some (_,m')=>(0,setW { M with mem:=m'} i { zl M i with hand:=0}))
 else if x.op=32 then (match M.mem.acc 4 (vk f x) a c with
  |none=>(2,M)
  |some (was,m')=>
   let M1:=zG { M with mem:=m'} i t x.a was
   (0,if was=KY (M.mem.width (vk f x)) a then take M1 i (rg (zA M1 i t) 16) else M1))
 else if x.op=36 then (if zam M.mem 0=a then (1,setW M i { zl M i with parked:=true}) else (0,setW M i { zl M i with parked:=false}))
 else if x.op=30 then (0,take M i a)
 else if x.op=33 then (0,if (zl M i).hand≠0 then (let M1:=inject M (zl M i).hand;setW M1 i { zl M1 i with hand:=0}) else M)
 else if x.op=34 then (0,if (zl M i).hand=0 then zG (setW { M with ring:=M.ring.drop 1} i { zl M i with hand:=M.ring.headD 0}) i t x.a (M.ring.headD 0) else zG M i t x.a 0)
 else if x.op=35 then (0,if (zl M i).hand≠0∧a=(zl M i).hand∧(zl M i).slot=0 then setW { M with tab:=beT M.tab (zl M i).hand 2} i { zl M i with slot:=(zl M i).hand,hand:=0,left:=24} else M)
 else if x.op=43 then (0,let n:=if 0≤x.b then b else x.v
  if n≤4096 then (match kL M.alc M.mem n.toNat 64 with|none=>zG M i t x.a 0|some (at',alc,mem)=>zG { M with alc:=alc,mem:=mem} i t x.a at') else zG M i t x.a 0)
 else if x.op=44 then (0,if a<65536 then zaL M (some a) else M)
 else if x.op=45 then (0,if x.v≤6 then (let p:=kg M.objs x.v b;zG { M with objs:=p.2} i t x.a p.1) else zG M i t x.a 0)
 else if x.op=46 then (0,{ M with objs:=zyp M.objs a})
 else if x.op=48 then (0,if b<F.code.length then (let p:=Kj M b c;if p.1=0 then zG p.2 i t x.a 0 else zG (give p.2 i p.1) i t x.a p.1) else zG M i t x.a 0)
 else if x.op=49 then (0,zG M i t x.a (statusT M.tab b))
 else if x.op=50 then (0,zG M i t x.a (((KF M.tab b).map (·.home)).getD 0))
 else if x.op=52 then (0,let p:=zvo M.tab a;zaL { M with tab:=p.1} p.2)
 else if x.op=54 then (0,let p:=zwt M.tab b;zG (zaL { M with tab:=p.1} p.2.2) i t x.a p.2.1)
 else if x.op=25 then (0,match zoi M.slps b c with
  |none=>zG M i t x.a 0
  |some s=>
   let M1:zD:={ M with slps:=zkl M.slps s.id,clk:=M.clk.zqy s.id,runs:=M.runs.map fun r=>if r.id==s.id then { r with woken:=0} else r}
   zG (if stateT M.tab s.id=3 then give M1 i s.id else M1) i t x.a s.id)
 else if x.op=26 then (0,match zn3 M.slps b with
  |none=>zG M i t x.a 0
  |some s=>zG { M with slps:=zv5 M.slps b c} i t x.a s.id)
 else if x.op=27 then (0,zG M i t x.a (za3 (zoi M.slps b c).isSome))
 else if x.op=22 then (2,M)
 else (0,zG M i t x.a (told F M i t x))
def Vn (M:zD) (id:Int) (f:Frame) (x:zx):zD:=
 let c:=if Gm x.op=true then rg f x.a else 0
 if x.m=0 then M
 else if x.w=0∨(x.w=1∧c=0)∨(x.w=2∧c≠0) then tell M { kind:=5,t:=id,num:=x.m,v:=rg f 0,code:=c} else M
def library (F:Fixed) (M:zD) (i:Nat) (t:Option Int):Int×zD:=
 let f:=zA M i t
 let s:=zK f F.lib M.mem
 let x:=(Zc F.lib f.pc).getD ⟨0,0,0,0,0,0,0⟩
 if s.how=0 then (0,Vn (Zu { M with mem:=s.mem} i t s.f) (t.getD 0) s.f x)
 else if s.how=1 then
  (if x.op=57 then
   (match t with
    |none=>(0,Vn (VQ M i t) 0 (zA (VQ M i t) i t) x)
    |some id=>(0,Vn (if rg f x.a<F.code.length then zi4 (VQ M i t) id (rg f x.a) else VQ M i t) id { f with pc:=f.pc+1} x))
  else
   let p:=special F M i t x
   if p.1=0 then (let M1:=VQ p.2 i t;(0,Vn M1 (t.getD 0) (zA M1 i t) x))
   else if p.1=1 then (1,p.2) else (3,p.2))
 else (s.how,M)
def rowOf (l:List kI) (num:Int):Option kI:=l.find? fun r=>r.num==num
def kindOk (F:Fixed) (M:zD) (k a:Int):Bool:=if k=0 then true else if k=7 then decide (a<F.cells) else (Vf M.objs a k).isSome
def Zg (F:Fixed) (M:zD) (k a:Int):Int:=if k=0 then a else if k=7 then F.base+a else (Vf M.objs a k).getD 0
def refused (F:Fixed) (M:zD) (r:Run) (num a0 a1 a2 a3:Int):Int:=match rowOf F.calls num with
 |none=>38
 |some w=>
  if 7≤r.l.length∧num≠2 then 11
  else if (kindOk F M w.k0 a0&&kindOk F M w.k1 a1&&kindOk F M w.k2 a2&&kindOk F M w.k3 a3)=true then 0 else 22
def bD (F:Fixed) (M:zD) (id num:Int):zD:=match zR M.runs id with
 |none=>M
 |some r=>
  let f:=(zZ r).f
  let a0:=rg f 0;let a1:=rg f 1;let a2:=rg f 2;let a3:=rg f 3
  let M1:=tell M { kind:=1,t:=id,num:=num,a0:=a0,a1:=a1,a2:=a2,a3:=a3}
  let c:=refused F M r num a0 a1 a2 a3
  if c≠0 then returned M1 id num c 0
  else match rowOf F.calls num with
   |none=>M1
   |some w=>
    let g:Frame:={ pc:=w.pos,r:= [Zg F M w.k0 a0,Zg F M w.k1 a1,Zg F M w.k2 a2,Zg F M w.k3 a3]++List.replicate 26 0++ [a0,num]}
    { M1 with runs:=Zb M1.runs { r with l:=r.l++ [⟨g,true,num⟩]}}
def ztl (F:Fixed) (M:zD) (i:Nat) (id v:Int):zD:=
 let M1:=VQ (zG M i (some id) 0 v) i (some id)
 if (rowOf F.calls 2).isSome=true then bD F M1 id 2 else zyE F { M1 with tab:=zuK M1.tab id v} i id
def zba (F:Fixed) (M:zD) (i:Nat) (id op v:Int):zD:=ztl F (tell M { kind:=4,t:=id,num:=op,v:=v}) i id 18446744073709551615
def VN (F:Fixed) (M:zD) (i:Nat) (id:Int):zD:=
 let f:=zA M i (some id)
 match Zc F.code f.pc with
 |none=>zba F M i id 0 0
 |some x=>
  if 17≤x.op∧x.op≤21 then
   (let at':=vk f x
   if F.cells≤at' then zba F M i id x.op at'
   else match M.mem.acc (ZT x.op) (F.base+at') (rg f x.a) (if x.op=21 then rg f x.c else rg f x.a) with
    |none=>zba F M i id x.op at'
    |some (was,m')=>tell (VQ (if x.op=18 then { M with mem:=m'} else zG { M with mem:=m'} i (some id) x.a was) i (some id)) { kind:=3,t:=id,num:=x.op,v:=at',a0:=was,a1:=zam m' (F.base+at')})
  else if x.op=22 then bD F (VQ M i (some id)) id x.v
  else if x.op=16∧f.back= [] then
   (match zR M.runs id with
    |none=>M
    |some r=>if r.l.length=1 then ztl F M i id (rg f 0) else GU M id)
  else
   (let s:=zK f F.code M.mem
   if s.how=3 then zba F M i id x.op 0 else Zu M i (some id) s.f)
def kY (F:Fixed) (M:zD) (i:Nat):zD:=
 let k:=zl M i
 if k.slot=0 then
  (let p:=library F (setW M i { k with parked:=false}) i none
  if p.1=2∨p.1=3 then again F p.2 i else p.2)
 else match zR M.runs k.slot with
  |none=>M
  |some r=>
   if (zZ r).lib=false∧k.left=0 then leave F (inject M r.id) i
   else
    let M1:=setW M i { k with left:=if 1≤k.left then k.left - 1 else 0}
    if (zZ r).lib=false then VN F M1 i r.id
    else (let p:=library F M1 i (some r.id)
     if p.1=2∨p.1=3 then answer p.2 r.id 22 0 else p.2)
def zzO (M:zD) (id:Int):zD:=
 let M1:zD:={ M with slps:=zkl M.slps id,runs:=M.runs.map fun r=>if r.id==id then { r with woken:=110} else r}
 if stateT M1.tab id=3 then inject M1 id else M1
def zb2 (M:zD):zD:=
 let l:=M.clk.due
 let M1:=tell { M with clk:=M.clk.tick} { kind:=6,v:=M.clk.now+1}
 l.foldl zzO M1
def kX (F:Fixed) (M:zD) (x:Entry):zD:=
 let M0:zD:={ M with out:= [],pos:=M.entries,entries:=M.entries+1,w:= -1,draw:=x.draw}
 if x.kind=2 then zb2 M0
 else if x.kind=1∧0≤x.w∧x.w<F.workers then kY F { M0 with w:=x.w} x.w.toNat
 else M0
end Kn
namespace Hp
open Go.RowKit Go.Maps
structure Keeps (X:Nat→Prop) (w w':World):Prop where
 os:w'.os=w.os
 tape:w'.tape=w.tape
 output:w'.output=w.output
 size:w.heap.size≤w'.heap.size
 block: ∀k,k<w.heap.size→ ¬X k→w'.heap[k]?=w.heap[k]?
theorem Keeps.refl (X:Nat→Prop) (w:World):Keeps X w w:=⟨rfl,rfl,rfl,Nat.le_refl _,fun _ _ _=>rfl⟩
theorem Keeps.trans {X ay:Nat→Prop} {a b c:World} (h:Keeps X a b) (k:Keeps ay b c) (hXY: ∀i,ay i→X i∨a.heap.size≤i):Keeps X a c:=
 ⟨k.os.trans h.os,k.tape.trans h.tape,k.output.trans h.output,Nat.le_trans h.size k.size,fun i hi hx=>(k.block i (Nat.lt_of_lt_of_le hi h.size) (fun hy=>(hXY i hy).elim hx Y1)).trans (h.block i hi hx)⟩
theorem Keeps.zO {X:Nat→Prop} {w w':World} (h:Below w.heap.size w w'):Keeps X w w':=⟨h.os,h.tape,h.output,h.size,fun k hk _=>h.block k hk⟩
theorem Keeps.below {X:Nat→Prop} {B:Nat} {a w w':World} (hb:Below B a w) (h:Keeps X w w') (hB:B≤w.heap.size) (hX: ∀i,X i→B≤i):Below B a w':=
 hb.trans ⟨h.os,h.tape,h.output,h.size,fun k hk=>h.block k Y1 (fun hx=>by have:=hX k hx;omega)⟩
theorem Keeps.mono {X ay:Nat→Prop} {w w':World} (h:Keeps X w w') (hXY: ∀i,X i→ay i):Keeps ay w w':=⟨h.os,h.tape,h.output,h.size,fun k hk hy=>h.block k hk (fun hx=>hy (hXY k hx))⟩
theorem Keeps.alloc {X:Nat→Prop} {a w:World} (h:Keeps X a w) (o:Obj):Keeps X a (w.alloc o):=
 h.trans (Keeps.zO (X:=X) ((Below.refl _ w).alloc (Nat.le_refl _) o)) fun _ hx=>Or.inl hx
theorem Keeps.drew {X:Nat→Prop} {a w:World} (h:Keeps X a w):Keeps X a w.drew:=⟨h.os,h.tape,h.output,h.size,h.block⟩
theorem Keeps.drewN {X:Nat→Prop} {a w:World} (h:Keeps X a w) (q:Nat):Keeps X a (w.drewN q):=⟨h.os,h.tape,h.output,h.size,h.block⟩
theorem Keeps.setCell {X:Nat→Prop} {a w:World} (h:Keeps X a w) {p:Addr} (hp:X p.block) (u:Value):Keeps X a (w.setCell p u):=
 h.trans (ay:=X) ⟨rfl,rfl,rfl,by simp[World.setCell],fun k _ hk=>Below.heap_setCell _ _ _ _ (fun e=>hk (e▸hp))⟩ fun _ hx=>Or.inl hx
theorem Keeps.grown {X:Nat→Prop} {a w w':World} {row:Option Nat} (h:Keeps X a w) (hg:w.grownBy w' row) (hr: ∀k,row=some k→X k):Keeps X a w':=
 h.trans (ay:=X) ⟨hg.os,hg.tape,hg.output,hg.size,fun k hk hx=>hg.block k hk (fun e=>hx (hr k e.symm))⟩ fun _ hx=>Or.inl hx
theorem Keeps.cell {X:Nat→Prop} {w w':World} (h:Keeps X w w') {p:Addr} (hl:p.block<w.heap.size) (hx: ¬X p.block):w'.cell? p=w.cell? p:=World.cell?_of_block (h.block _ hl hx)
def ZR (t:zC):List Value:= [E J t.d,E J t.w,E Z t.h]
def bP (t:zC):Value:= .agg #[E J t.d,E J t.w,E Z t.h]
def Vi (l:List zC):List Value:=l.flatMap ZR
theorem zca (l:List zC):(Vi l).length=l.length*3:=by
 induction l with
 |nil=>rfl
 |cons x l ih=>simp only[Vi,List.flatMap_cons,List.length_append,List.length_cons] at*;simp[ZR,ih];omega
theorem zcz {l:List zC} {i:Nat} (h:i<l.length):(Vi l)[i*3]?=V (E J (at_ l i).d)∧(Vi l)[i*3+1]?=V (E J (at_ l i).w)∧(Vi l)[i*3+2]?=V (E Z (at_ l i).h):=by
 induction l generalizing i with
 |nil=>simp at h
 |cons x l ih=>
  cases i with
  |zero=>exact ⟨rfl,rfl,rfl⟩
  |succ i=>
   have:=ih (i:=i) Y17
   have e: ∀j,(Vi (x::l))[(i+1)*3+j]?=(Vi l)[i*3+j]?:=by
    intro j
    rw[Vi,List.flatMap_cons,List.getElem?_append_right (by simp[ZR];omega)]
    rw[show (i+1)*3+j - (ZR x).length=i*3+j by simp[ZR];omega]
    rfl
   have e0:=e 0
   rw[Nat.add_zero,Nat.add_zero] at e0
   rw[e0,e 1,e 2]
   exact this
theorem ziY {l:List zC} {i:Nat} (h:i<l.length) (t:zC):(((Vi l).set (i*3) (E J t.d)).set (i*3+1) (E J t.w)).set (i*3+2) (E Z t.h)=Vi (l.set i t):=by
 induction l generalizing i with
 |nil=>simp at h
 |cons x l ih=>
  cases i with
  |zero=>rfl
  |succ i=>
   have:=ih (i:=i) Y17
   rw[List.set_cons_succ,Vi,Vi,List.flatMap_cons,List.flatMap_cons]
   have e: ∀(A:List Value) (j:Nat) (u:Value),(ZR x++A).set ((i+1)*3+j) u=ZR x++A.set (i*3+j) u:=by
    intro A j u
    rw[List.set_append_right _ _ (by simp[ZR];omega)]
    rw[show (i+1)*3+j - (ZR x).length=i*3+j by simp[ZR];omega]
   have e0:=fun A u=>e A 0 u
   simp only[Nat.add_zero] at e0
   rw[e0,e,e]
   exact congrArg (ZR x++ ·) this
theorem zhf (l:List zC) (n:Nat):(Vi l).take (n*3)=Vi (l.take n):=by
 induction l generalizing n with
 |nil=>simp[Vi]
 |cons x l ih=>
  cases n with
  |zero=>simp[Vi]
  |succ n=>
   have:=ih n
   rw[List.take_succ_cons,Vi,Vi,List.flatMap_cons,List.flatMap_cons,List.take_append,List.take_of_length_le (by simp[ZR];omega)]
   rw[show (n+1)*3 - (ZR x).length=n*3 by simp[ZR];omega]
   exact congrArg (ZR x++ ·) this
def bL (w:World) (hb mb:Nat) (v:Value) (last:Int):Prop:=w.heap[hb]?=V (.cells #[v, .map (some mb),E Z last] 295 (0,0))
theorem bL.cell {w:World} {hb mb:Nat} {v:Value} {last:Int} (h:bL w hb mb v last):w.cell? ⟨hb,0,O⟩=some v∧w.cell? ⟨hb,1,O⟩=V (.map (some mb))∧w.cell? ⟨hb,2,O⟩=V (E Z last)∧ ∀o,w.frozen? ⟨hb,o,O⟩=false:=by
 unfold bL at h;refine ⟨by simp[World.cell?,h],by simp[World.cell?,h],by simp[World.cell?,h],fun o=>by simp[World.frozen?,h]⟩
theorem bL.lt {w:World} {hb mb:Nat} {v:Value} {last:Int} (h:bL w hb mb v last):hb<w.heap.size:=by
 rcases Nat.lt_or_ge hb w.heap.size with h'|h'
 ·exact h'
 ·unfold bL at h;rw[Array.getElem?_eq_none h'] at h;cases h
def gQ (w:World) (mb:Nat) (f:Int→Option Nat) (N:Nat):Prop:=
 ∃(D:DataW Unit) (n:Nat),w.ownsMap Tp 3 (plainElem Tp 3) mb n D∧n≤N∧ ∀k:Int,(Lit.int Z k).wf=true→Maps.has D (.int Z k)=(f k).isSome∧ ∀j,f k=some j→D.atKey (.int Z k) (.lit (.int Z 0))= .lit (.int Z j)
theorem Ko {H:Type} {P:Program} {k:TypeId} {R:Value→Option (DataW H×List MemPlace)} {b n:Nat} {D:DataW H} {w w':World} (h:w.ownsMap P k R b n D) (e:w'.heap[b]?=w.heap[b]?):w'.ownsMap P k R b n D:=by
 obtain ⟨es,c,h1,h2,h3,h4⟩:=h;exact ⟨es,c,e.trans h1,h2,h3,h4⟩
theorem gQ.lt {w:World} {mb:Nat} {f:Int→Option Nat} {N:Nat} (h:gQ w mb f N):mb<w.heap.size:=by obtain ⟨_,_,h,_⟩:=h;exact h.lt
theorem gQ.of_block {w w':World} {mb:Nat} {f:Int→Option Nat} {N:Nat} (h:gQ w mb f N) (e:w'.heap[mb]?=w.heap[mb]?):gQ w' mb f N:=by
 obtain ⟨D,n,h1,h2,h3⟩:=h;exact ⟨D,n,Ko h1 e,h2,h3⟩
theorem gQ.isMap {w:World} {mb:Nat} {f:Int→Option Nat} {N:Nat} (h:gQ w mb f N): ∃es c,w.heap[mb]?=V (.map es c):=by
 obtain ⟨_,_,⟨es,c,h,_⟩,_⟩:=h;exact ⟨es,c,h⟩
theorem za {base:Nat} {e:TypeId} {size:Nat} {v:Value} {n:Nat} {xs:List Value} {w w':World} (h:w.ownsRow base e size v n xs) (hb: ∀k,v.ownBlock=some k→w'.heap[k]?=w.heap[k]?):w'.ownsRow base e size v n xs:=by
 exact zw8
structure Raw (w:World) (hb mb:Nat) (v:Value) (rb:Nat) (l:List zC) (f:Int→Option Nat) (last:Int) (N:Nat):Prop where
 obj:bL w hb mb v last
 row:w.ownsRow rb 366 3 v l.length (Vi l)
 map:gQ w mb f N
def Of (hb mb:Nat) (v:Value) (k:Nat):Prop:=k=hb∨k=mb∨v.ownBlock=some k
section
variable {w:World} {hb mb:Nat} {v:Value} {rb:Nat} {l:List zC} {f:Int→Option Nat} {last:Int} {N:Nat}
theorem Raw.hm (h:Raw w hb mb v rb l f last N):hb≠mb:=by
 intro e;obtain ⟨es,c,hm⟩:=h.map.isMap;have:=h.obj;unfold bL at this;rw[e,hm] at this;cases this
theorem Zz {e:TypeId} {size n:Nat} {xs:List Value} {g:Nat} (h:w.ownsRow rb e size v n xs) (hv:v.ownBlock=some g): ∃cur,w.heap[g]?=V (.cells cur e (0,0)):=by
 obtain ⟨_,⟨rfl,_⟩ |⟨g',cap,cur,rfl,_,hh,_⟩⟩:=h
 ·cases hv
 ·cases hv;exact ⟨cur,hh⟩
theorem Raw.vh (h:Raw w hb mb v rb l f last N):v.ownBlock≠some hb:=by
 intro e;obtain ⟨cur,hc⟩:=Zz h.row e;have:=h.obj;unfold bL at this;rw[hc] at this;injection this with this
 injection this with _ h2 _
 exact absurd h2 Y2
theorem Raw.vm (h:Raw w hb mb v rb l f last N):v.ownBlock≠some mb:=by
 intro e;obtain ⟨cur,hc⟩:=Zz h.row e;obtain ⟨es,c,hm⟩:=h.map.isMap;rw[hc] at hm;cases hm
theorem Raw.of_lt (h:Raw w hb mb v rb l f last N) {k:Nat} (hk:Of hb mb v k):k<w.heap.size:=by
 rcases hk with rfl|rfl|hk
 ·exact h.obj.lt
 ·exact h.map.lt
 ·exact (h.row.lt k hk).2
theorem Raw.zk {w':World} (h:Raw w hb mb v rb l f last N) (e: ∀k,Of hb mb v k→w'.heap[k]?=w.heap[k]?):Raw w' hb mb v rb l f last N:=
 ⟨(e hb (Or.inl rfl)).trans h.obj,za h.row fun k hk=>e k (Or.inr (Or.inr hk)),h.map.of_block (e mb (Or.inr (Or.inl rfl)))⟩
theorem Raw.below {w':World} (h:Raw w hb mb v rb l f last N) (k:Below w.heap.size w w'):Raw w' hb mb v rb l f last N:=
 h.zk fun i hi=>k.block i (h.of_lt hi)
theorem Raw.mono {N':Nat} (h:Raw w hb mb v rb l f last N) (hN:N≤N'):Raw w hb mb v rb l f last N':=by
 obtain ⟨h1,h2,D,n,h3,h4,h5⟩:=h;exact ⟨h1,h2,D,n,h3,by omega,h5⟩
theorem Raw.slice (h:Raw w hb mb v rb l f last N) (h0:0<l.length): ∃g cap,v=Sl (V ⟨g,0,O⟩) l.length cap∧l.length≤cap:=by
 obtain ⟨_,⟨_,h2⟩ |⟨g,cap,cur,hv,_,_,hn,_⟩⟩:=h.row
 ·omega
 ·exact ⟨g,cap,hv,hn⟩
theorem Raw.slice' (h:Raw w hb mb v rb l f last N): ∃A cap,v= .slice A l.length cap:=by
 obtain ⟨_,⟨h1,h2⟩ |⟨g,cap,cur,hv,_,_,hn,_⟩⟩:=h.row
 ·exact ⟨none,0,by rw[h1,h2]⟩
 ·exact ⟨_,cap,hv⟩
end
theorem keyed:Keyed Tp 3:=int_keyed Tryz.underlying3
theorem zjN (w:World):(zeroValue 3).run Tp w= .ok (E Z 0) w:=Y4
theorem zd5 {a b:Int} (h:a≠b):(Lit.int Z a)≠Lit.int Z b:=fun e=>h Y18
theorem gQ.store {w:World} {mb:Nat} {f:Int→Option Nat} {N:Nat} (h:gQ w mb f N) (hN:N<maxLen) {k:Int} (hk:(Lit.int Z k).wf=true) {i:Nat} (hi:(Lit.int Z (i:Int)).wf=true):
  ∃w',(Instr.mapUpdate 292 (.map (some mb)) (E Z k) (E Z i)).run Tp w= .ok () w'∧gQ w' mb (upd f k i) (N+1)∧w.mapTurned w' mb:=by
 obtain ⟨D,n,h1,h2,h3⟩:=h;obtain ⟨w',hrun,ho,ht⟩:=h1.store keyed Tryz.underlying292 (Nat.lt_of_le_of_lt h2 hN) (keyOf_int_mk Tryz.underlying3 hk) (plainElem_int Tryz.underlying3 hi);refine ⟨w',hrun,⟨_,n+1,ho,by omega,fun k' hk'=>?_⟩,ht⟩;by_cases e:k'=k
 ·subst e;refine ⟨by rw[has_put_same (k:=Lit.int Z k') h1.isMap trivial];simp[upd],fun j hj=>?_⟩;rw[atKey_put_same (k:=Lit.int Z k') h1.isMap trivial];simp[upd] at hj;subst hj;rfl
 ·have:=h3 k' hk';rw[has_put_other (zd5 e),atKey_put_other (zd5 e)];simp only[upd,if_neg e];exact this
theorem gQ.drop {w:World} {mb:Nat} {f:Int→Option Nat} {N:Nat} (h:gQ w mb f N) {k:Int} (hk:(Lit.int Z k).wf=true) (ty:TypeId):
  ∃w',(Builtin.delete_ #[292,3] ty #[.map (some mb),E Z k]).run Tp w= .ok (.tuple #[]) w'∧gQ w' mb (del f k) N∧w.mapTurned w' mb:=by
 obtain ⟨D,n,h1,h2,h3⟩:=h;obtain ⟨w',hrun,ho,ht⟩:=h1.drop keyed Tryz.underlying292 (keyOf_int_mk Tryz.underlying3 hk) ty;refine ⟨w',hrun,⟨_,n,ho,h2,fun k' hk'=>?_⟩,ht⟩;by_cases e:k'=k
 ·subst e;exact ⟨by rw[has_del_same];simp[del],fun j hj=>by simp[del] at hj⟩
 ·have:=h3 k' hk';rw[has_del_other (zd5 e),atKey_del_other (zd5 e)];simp only[del,if_neg e];exact this
section
variable {w:World} {hb mb:Nat} {rb:Nat} {l:List zC} {f:Int→Option Nat} {last:Int} {N:Nat} {g cap:Nat}
theorem Raw.stored (h:Raw w hb mb (Sl (V ⟨g,0,O⟩) l.length cap) rb l f last N) {i:Nat} (hi:i<l.length) (t:zC):
  Raw (((w.setCell ⟨g,i*3,O⟩ (E J t.d)).setCell ⟨g,i*3+1,O⟩ (E J t.w)).setCell ⟨g,i*3+2,O⟩ (E Z t.h)) hb mb (Sl (V ⟨g,0,O⟩) l.length cap) rb (l.set i t) f last N:=by
 have h1:=(h.row.stored (i*3) (E J t.d)).1;have h2:=(h1.stored (i*3+1) (E J t.w)).1;have h3:=(h2.stored (i*3+2) (E Z t.h)).1;rw[ziY hi] at h3;have hgh:hb≠g:=fun e=>h.vh Y65;have hgm:mb≠g:=fun e=>h.vm Y65;have e: ∀k,k≠g→(((w.setCell ⟨g,i*3,O⟩ (E J t.d)).setCell ⟨g,i*3+1,O⟩ (E J t.w)).setCell ⟨g,i*3+2,O⟩ (E Z t.h)).heap[k]?=w.heap[k]?:=by
  intro k hk;rw[Below.heap_setCell _ _ _ _ hk,Below.heap_setCell _ _ _ _ hk,Below.heap_setCell _ _ _ _ hk]
 exact ⟨(e hb hgh).trans h.obj,by rw[List.length_set];exact h3,h.map.of_block (e mb hgm)⟩
end
theorem Gz (a b:zC) (w:World):Calls Tp 303 #[bP a,bP b] w fun e w'=>e=Rt (.bool (ZU a b))∧Below w.heap.size w w':=by
 obtain ⟨ad,aw,ah⟩:=a;obtain ⟨bd,bw,bh⟩:=b;have hB: ∀w':World,w'=(w.alloc (Ce #[E J ad,E J aw,E Z ah] 366)).alloc (Ce #[E J bd,E J bw,E Z bh] 366)→Below w.heap.size w w':=by
  rintro w' rfl;exact ((Below.refl _ w).alloc (Nat.le_refl _) _).alloc Y7 _
 have HB:=Y0 hB;clear hB;unfold bP;by_cases h1:ad<bd
 ·have hr:ZU ⟨ad,aw,ah⟩ ⟨bd,bw,bh⟩=true:=by rw[je];exact Or.inl h1
  rw[hr];clear hr;have hd:decide (ad<bd)=true:=by simpa using h1
  exact zuP
 ·have hd:decide (ad<bd)=false:=by simpa using h1
  by_cases h2:ad=bd
  ·subst h2;have he:(ad==ad)=true:=Y7;obtain ⟨r,hr⟩: ∃r,ZU ⟨ad,aw,ah⟩ ⟨ad,bw,bh⟩=r:=⟨_,rfl⟩;have hr2:decide (ah<bh)=r:=by rw[←hr];simp[ZU]
   rw[hr];clear hr h1;exact zuP
  ·have hr:ZU ⟨ad,aw,ah⟩ ⟨bd,bw,bh⟩=false:=by rw[Jq];exact Or.inl (by show bd<ad;omega)
   rw[hr];have he:(ad==bd)=false:=by simp[h2]
   clear hr h1 h2;exact zuP
theorem wf_i64 {k:Int} (h: -9223372036854775808≤k∧k≤9223372036854775807):(Lit.int Z k).wf=true:=WalkArith.wf_i64 Y1
theorem Kt {w:World} {hb mb:Nat} {v:Value} {rb:Nat} {l:List zC} {f:Int→Option Nat} {last:Int} {N:Nat} (h:Raw w hb mb v rb l f last N) (i:Nat) (t:zC) (hi:i<l.length) (hl:l.length≤1000000) (hN:N≤1000000000)
  (ht:0≤t.h∧t.h≤1000000000):
  Calls Tp 267 #[Y (V ⟨hb,0,O⟩),E Z i,bP t] w fun e w'=>e=Rt (.tuple #[])∧Raw w' hb mb v rb (l.set i t) (upd f t.h i) last (N+1)∧Keeps (Of hb mb v) w w':=by
 obtain ⟨td,tw,th⟩:=t;obtain ⟨g,cap,hv,hcap⟩:=h.slice Y1;subst hv;have HR:=Y0 h;obtain ⟨o0,o1,o2,of⟩:=h.obj.cell;have hlt:=h.obj.lt;have hgl:=(h.row.lt g rfl).2;have hfr:=h.row.frozenAt;obtain ⟨c0,c1,c2⟩:=zcz hi;have d0:w.cell? ⟨g,i*3,O⟩=_:=(h.row.cellAt _ Y1).trans c0;have d1:w.cell? ⟨g,i*3+1,O⟩=_:=(h.row.cellAt _ Y1).trans c1;have d2:w.cell? ⟨g,i*3+2,O⟩=_:=(h.row.cellAt _ Y1).trans c2;have hgh:g≠hb:=fun e=>h.vh (by rw[←e];rfl);have hgm:g≠mb:=fun e=>h.vm (by rw[←e];rfl);have HL:=Y0 hl;have HN:=Y0 hN;have yC:(l.length:Int)≤1000000:=Y1;have dH:(i:Int)<(l.length:Int):=Y1;clear h c0 c1 c2 hl hN;unfold bP;dsimp only at ht ⊢;go_enter Tryz.func267,Tryz.ntmps267;go_wp2_with fail;go_region
 have W1:Raw ((((w.setCell ⟨g,i*3,O⟩ (E J td)).setCell ⟨g,i*3+1,O⟩ (E J tw)).setCell ⟨g,i*3+2,O⟩ (E Z th)).alloc (Ce #[E J td,E J tw,E Z th] 366)) hb mb (Sl (V ⟨g,0,O⟩) l.length cap) rb (l.set i ⟨td,tw,th⟩) f last N:=
  (HR.out.stored hi ⟨td,tw,th⟩).below ((Below.refl _ _).alloc (Nat.le_refl _) _)
 have K1:Keeps (Of hb mb (Sl (V ⟨g,0,O⟩) l.length cap)) w ((((w.setCell ⟨g,i*3,O⟩ (E J td)).setCell ⟨g,i*3+1,O⟩ (E J tw)).setCell ⟨g,i*3+2,O⟩ (E Z th)).alloc (Ce #[E J td,E J tw,E Z th] 366)):=
  ((((Keeps.refl _ w).setCell (p:=⟨g,i*3,O⟩) (Or.inr (Or.inr rfl)) _).setCell (p:=⟨g,i*3+1,O⟩) (Or.inr (Or.inr rfl)) _).setCell (p:=⟨g,i*3+2,O⟩) (Or.inr (Or.inr rfl)) _).alloc _
 have b2:((((w.setCell ⟨g,i*3,O⟩ (E J td)).setCell ⟨g,i*3+1,O⟩ (E J tw)).setCell ⟨g,i*3+2,O⟩ (E Z th)).alloc (Ce #[E J td,E J tw,E Z th] 366)).cell? ⟨w.heap.size,2,O⟩=V (E Z th):=World.cell?_alloc_at _ _ _ _ Y7;generalize ((((w.setCell ⟨g,i*3,O⟩ (E J td)).setCell ⟨g,i*3+1,O⟩ (E J tw)).setCell ⟨g,i*3+2,O⟩ (E Z th)).alloc (Ce #[E J td,E J tw,E Z th] 366))=w1 at W1 K1 b2 ⊢;clear o0 o1 o2 of hlt hgl hfr d0 d1 d2;obtain ⟨o0,o1,o2,of⟩:=W1.obj.cell;have hM:gQ w1.drew.drew mb f N:=W1.map.of_block rfl;obtain ⟨w2,hrun,hM2,hturn⟩:=hM.store (by have:=HN.out;unfold maxLen;omega) (wf_i64 (k:=th) Y1) (wf_i64 (k:=(i:Int)) Y1);have Cn:=Y0 hM2;have HT:=Y0 hturn;have H1:=Y0 W1;clear hM hM2 hturn W1 ht;go_wp2_with fail;go_region;go_end0;have hg:=HT.out.grown
 refine ⟨rfl,⟨?_,?_,Cn.out⟩,(K1.drew.drew).grown hg (fun k e=>by cases e;exact Or.inr (Or.inl rfl))⟩
 ·exact (hg.block hb H1.out.obj.lt (fun e=>H1.out.hm Y18)).trans H1.out.obj
 ·exact World.ownsRow.kept (w:=w1.drew.drew) H1.out.row hg (Or.inr (fun e=>H1.out.vm Y93))
end Hp
end Go.Proofs.YtdlpmnmenhojfaaGreatDoor
