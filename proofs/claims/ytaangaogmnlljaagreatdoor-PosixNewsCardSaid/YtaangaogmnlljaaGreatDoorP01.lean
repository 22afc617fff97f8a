/- Part 1 of what the proof stands on: AsmPlain, HpPlain, HpList, KnPlain, KnDo, HpMem, HpLay, HpUp, HpDown, StepAppend, HpPut, HpDrop, HpPop, KnWqPlain, KnAlcPlain, KnFlat, KnCopy, KnWord, KnApp, KnInv, KnInvB. -/
import Derived.Test.YtaangaogmnlljaaGreatDoorP00
import Derived.Test.YtaangaogmnlljaaGreatDoorProg
set_option linter.unusedVariables false
set_option maxHeartbeats 40000000
namespace Go.Proofs.YtaangaogmnlljaaGreatDoor.Asm
abbrev Str:=List UInt8
structure InsL where
 op:Int:=0
 a:Int:=0
 b:Int:=0
 c:Int:=0
 v:Int:=0
 m:Int:=0
 w:Int:=0
 deriving DecidableEq
def isDigit (c:UInt8):Bool:=decide (48≤c.toNat)&&decide (c.toNat≤57)
def isLow (c:UInt8):Bool:=decide (97≤c.toNat)&&decide (c.toNat≤122)
def valL (s:Str):Nat:=s.foldl (fun v c=>v*10+(c.toNat - 48)) 0
def numL (s:Str):Option Int:=if s≠ []∧s.all isDigit=true∧s.length≤20∧valL s<18446744073709551616 then some (valL s) else none
def regL (s:Str):Option Int:=if (s.length=2∨s.length=3)∧s[0]?=some 114∧ ¬(s.length=3∧s[1]?=some 48)∧(s.drop 1).all isDigit=true∧valL (s.drop 1)<32 then some (valL (s.drop 1)) else none
def isName (c:UInt8):Bool:=isLow c||isDigit c
def namedL (s:Str):Bool:=decide (1≤s.length∧s.length≤16)&& (s.head?.any isLow)&&s.all isName&& (regL s).isNone
def wordsAux:Str→Str→List Str
 |w,[]=>if w= [] then [] else [w]
 |w,c::s=>if c=32 then (if w= [] then wordsAux [] s else w::wordsAux [] s) else wordsAux (w++ [c]) s
def wordsL (s:Str):List Str:=wordsAux [] s
def opNames:List Str:= [[115,101,116],[109,111,118],[97,100,100],[115,117,98],[97,110,100],[111,114],[120,111,114],[115,104,108],[115,104,114],[101,113],[108,116],[106,109,112],[106,122],[106,110,122],[106,115,114],[114,101,116],[108,100],[115,116],[115,119,112],[102,97,100],[99,97,115],[99,97,108,108],[104,115,104],[113,112,116],[113,116,107],[113,109,118],[113,104,115],[115,108,112],[104,110,100],[112,105,107],[108,97,121],[116,97,107],[105,110,106],[105,106,116],[114,117,110],[112,114,107],[115,108,102],[119,114,107],[119,107,100],[119,107,110],[110,111,119],[100,114,119],[103,101,116],[102,114,101],[111,98,106],[100,101,108],[99,107,112],[116,110,119],[116,115,116],[116,104,109],[116,106,110],[116,100,116],[116,101,120],[116,114,112],[101,110,100],[121,108,100],[99,98,107],[102,105,110]]
def opAux (s:Str):List Str→Int→Int
 |[],_=>0
 |x::l,n=>if x=s then n else opAux s l (n+1)
def opL (s:Str):Int:=opAux s opNames 1
def kindsL (op:Int):List Int:=
 if op=1 then [1,9] else if op=13∨op=14 then [1,8] else if op=12∨op=15 then [8] else if op=22 then [7] else if op=43 then [1,5] else if op=45 then [1,2,7]
 else if op=21∨op=32 then [1,6,3] else if (17≤op∧op≤20)∨op=31 then [1,6]
 else if 3≤op∧op≤11 then [1,2,4]
 else if (24≤op∧op≤27)∨op=48 then [1,2,3]
 else if op=2∨op=23∨op=49∨op=50∨op=47∨op=39∨op=54 then [1,2]
 else if op=28∨op=29∨op=30∨op=34∨op=35∨op=36∨op=37∨op=38∨op=40∨op=41∨op=42∨op=44∨op=46∨op=51∨op=52∨op=53∨op=57 then [1]
 else []
def splitPlus:Str→Option (Str×Str)
 |[]=>none
 |c::s=>if c=43 then some ([],s) else (splitPlus s).map fun p=>(c::p.1,p.2)
def innerL (s:Str):Option Str:=if 2≤s.length∧s.head?=some 91∧s.getLast?=some 93 then some ((s.drop 1).dropLast) else none
def cellL (x:InsL) (s:Str):Option InsL:=
 match innerL s with
 |none=>none
 |some t=>
  match regL t with
  |some r=>some { x with b:=r}
  |none=>
   match splitPlus t with
   |some (p,q)=>match regL p,numL q with
    |some r,some v=>some { x with b:=r,v:=v}
    |_,_=>none
   |none=>(numL t).map fun v=>{ x with b:= -1,v:=v}
def operandL (x:InsL) (k:Int) (s:Str):Option (InsL×Option Str):=
 if k=1 then (regL s).map fun r=>({ x with a:=r},none)
 else if k=2 then (regL s).map fun r=>({ x with b:=r},none)
 else if k=3 then (regL s).map fun r=>({ x with c:=r},none)
 else if k=4 then match regL s with
  |some r=>some ({ x with c:=r},none)
  |none=>(numL s).map fun v=>({ x with c:= -1,v:=v},none)
 else if k=5 then match regL s with
  |some r=>some ({ x with b:=r},none)
  |none=>(numL s).map fun v=>({ x with b:= -1,v:=v},none)
 else if k=7 then (numL s).map fun v=>({ x with v:=v},none)
 else if k=6 then (cellL x s).map fun y=>(y,none)
 else if namedL s then some (x,some s)
 else if k=8 then none
 else (numL s).map fun v=>({ x with v:=v},none)
def endsWith (s:Str) (t:Str):Bool:=t.isSuffixOf s
def markL (x:InsL) (s:Str):Option InsL:=
 match s with
 |[]=>none
 |_::t=>
  let p:Str×Int:=if endsWith t [61,48] then (t.take (t.length - 2),1) else if endsWith t [62,48] then (t.take (t.length - 2),2) else (t,x.w)
  match numL p.1 with
  |none=>none
  |some v=>if v<1∨99<v then none else some { x with w:=p.2,m:=v}
def operandsL (x:InsL):List Int→List Str→Option (InsL×List Str)
 |[],_=>some (x,[])
 |_::_,[]=>none
 |k::ks,s::ss=>match operandL x k s with
  |none=>none
  |some (y,o)=>(operandsL y ks ss).map fun p=>(p.1,o.toList++p.2)
inductive LineR where
 |skip
 |label (s:Str)
 |ins (x:InsL) (wants:List Str)
def lineL (s:Str):Option LineR:=
 match wordsL s with
 |[]=>some .skip
 |w::ws=>
  if ws= []∧w.getLast?=some 58 then (if namedL w.dropLast then some (.label w.dropLast) else none)
  else if opL w=0 then none
  else
   let ks:=kindsL (opL w)
   match operandsL { op:=opL w} ks ws with
   |none=>none
   |some (x,l)=>
    if ws.length=ks.length then some (.ins x l)
    else if ws.length=ks.length+1∧((ws.getLast?).bind List.head?)=some 33 then (markL x (ws.getLast?.getD [])).map fun y=> .ins y l
    else none
structure St where
 code:List InsL:= []
 labels:List (Str×Nat):= []
 lines:List Nat:= []
 wants:List (Nat×Nat×Str):= []
def stepL (st:St) (i:Nat) (s:Str):Option St:=
 match lineL s with
 |none=>none
 |some .skip=>some st
 |some (.label t)=>if st.labels.any (fun p=>p.1==t) then none else some { st with labels:=st.labels++ [(t,st.code.length)],lines:=st.lines++ [i]}
 |some (.ins x l)=>some { st with code:=st.code++ [x],wants:=st.wants++l.map (fun t=>(st.code.length,i,t))}
def stepsL (st:St) (i:Nat):List Str→Option St
 |[]=>some st
 |s::l=>(stepL st i s).bind fun st'=>stepsL st' (i+1) l
def findL (labels:List (Str×Nat)) (t:Str):Option Nat:=(labels.find? fun p=>p.1==t).map (·.2)
def patchL (labels:List (Str×Nat)) (code:List InsL):List (Nat×Nat×Str)→Option (List InsL)
 |[]=>some code
 |(at_,_,t)::l=>match findL labels t with
  |none=>none
  |some p=>patchL labels (code.modify at_ fun x=>{ x with v:=p}) l
def parseL (lines:List Str):Option (List InsL×List (Str×Nat)):=
 match stepsL {} 0 lines with
 |none=>none
 |some st=>match patchL st.labels st.code st.wants with
  |none=>none
  |some code=>if code.length≤2048∧st.labels.all (fun p=>p.2 !=code.length) then some (code,st.labels) else none
end Go.Proofs.YtaangaogmnlljaaGreatDoor.Asm
namespace Go.Proofs.YtaangaogmnlljaaGreatDoor.Hp
structure Thing where
 d:Int
 w:Int
 h:Int
 deriving DecidableEq,Inhabited
def aheadB (a b:Thing):Bool:=decide (a.d<b.d) ||(a.d==b.d&&decide (a.h<b.h))
theorem aheadB_iff (a b:Thing):aheadB a b=true↔a.d<b.d∨(a.d=b.d∧a.h<b.h):=by simp[aheadB]
theorem aheadB_false (a b:Thing):aheadB a b=false↔b.d<a.d∨(a.d=b.d∧b.h≤a.h):=by
 rw[←Bool.not_eq_true,aheadB_iff];omega
def le (a b:Thing):Prop:=aheadB b a=false
theorem le_iff (a b:Thing):le a b↔a.d<b.d∨(a.d=b.d∧a.h≤b.h):=by unfold le;rw[aheadB_false];omega
theorem le_refl (a:Thing):le a a:=by rw[le_iff];omega
theorem le_trans {a b c:Thing} (h1:le a b) (h2:le b c):le a c:=by rw[le_iff] at*;omega
theorem le_of_lt {a b:Thing} (h:aheadB a b=true):le a b:=by rw[le_iff];rw[aheadB_iff] at h;omega
def at_ (v:List Thing) (j:Nat):Thing:=v.getD j default
theorem at_get {v:List Thing} {j:Nat} {t:Thing} (h:v[j]?=some t):at_ v j=t:=by
 unfold at_;rw[List.getD_eq_getElem?_getD,h];rfl
theorem at_getElem {v:List Thing} {j:Nat} (h:j<v.length):at_ v j=v[j]:=at_get (List.getElem?_eq_getElem h)
theorem at_set_same {v:List Thing} {i:Nat} (h:i<v.length) (t:Thing):at_ (v.set i t) i=t:=at_get (by rw[List.getElem?_set_self h])
theorem at_set_other {v:List Thing} {i j:Nat} (h:j≠i) (t:Thing):at_ (v.set i t) j=at_ v j:=by
 unfold at_;rw[List.getD_eq_getElem?_getD,List.getD_eq_getElem?_getD,List.getElem?_set_ne (Ne.symm h)]
def par (j:Nat):Nat:=(j - 1)/2
theorem par_lt {j:Nat} (h:0<j):par j<j:=by unfold par;omega
def Heap (v:List Thing):Prop:= ∀j,0<j→j<v.length→le (at_ v (par j)) (at_ v j)
def AlmostUp (v:List Thing) (i:Nat):Prop:=
 (∀j,0<j→j<v.length→j≠i→par j≠i→le (at_ v (par j)) (at_ v j))∧ ∀c,0<c→c<v.length→par c=i→0<i→le (at_ v (par i)) (at_ v c)
def KidsOk (v:List Thing) (i:Nat):Prop:= ∀c,0<c→c<v.length→par c=i→le (at_ v i) (at_ v c)
def AlmostDown (v:List Thing) (p:Nat):Prop:=
 (∀j,0<j→j<v.length→par j≠p→le (at_ v (par j)) (at_ v j))∧ ∀c,0<c→c<v.length→par c=p→0<p→le (at_ v (par p)) (at_ v c)
def swap (v:List Thing) (i p:Nat):List Thing:=(v.set i (at_ v p)).set p (at_ v i)
theorem swap_length (v:List Thing) (i p:Nat):(swap v i p).length=v.length:=by simp[swap]
theorem swap_perm {v:List Thing} {i p:Nat} (hi:i<v.length) (hp:p<v.length):(swap v i p).Perm v:=by
 unfold swap;rw[at_getElem hi,at_getElem hp];exact List.set_set_perm hi hp
theorem swap_p {v:List Thing} {i p:Nat} (hp:p<v.length):at_ (swap v i p) p=at_ v i:=at_set_same (by simpa using hp) _
theorem swap_i {v:List Thing} {i p:Nat} (hi:i<v.length) (h:i≠p):at_ (swap v i p) i=at_ v p:=by
 unfold swap;rw[at_set_other h,at_set_same hi]
theorem swap_other {v:List Thing} {i p j:Nat} (h1:j≠i) (h2:j≠p):at_ (swap v i p) j=at_ v j:=by
 unfold swap;rw[at_set_other h2,at_set_other h1]
theorem up_step {v:List Thing} {i:Nat} (hi:i<v.length) (h0:0<i) (h:AlmostUp v i) (hlt:aheadB (at_ v i) (at_ v (par i))=true):
  AlmostUp (swap v i (par i)) (par i)∧KidsOk (swap v i (par i)) (par i):=by
 have hp:=par_lt h0
 have hpl:par i<v.length:=by omega
 obtain ⟨h1,h2⟩:=h
 refine ⟨⟨fun j hj0 hj hne hpar=>?_,fun c hc0 hc hpar hp0=>?_⟩,fun c hc0 hc hpar=>?_⟩
 ·rw[swap_length] at hj
  have hji:j≠i:=fun e=>hpar (by rw[e])
  rw[swap_other hji hne]
  by_cases e:par j=i
  ·rw[e,swap_i hi (by omega)]
   exact h2 j hj0 hj e h0
  ·rw[swap_other e hpar]
   exact h1 j hj0 hj hji e
 ·rw[swap_length] at hc
  have hpp:=par_lt hp0
  rw[swap_other (j:=par (par i)) (by omega) (by omega)]
  have g:=h1 (par i) hp0 hpl (by omega) (by omega)
  by_cases e:c=i
  ·rw[e,swap_i hi (by omega)];exact g
  ·have hcl:=par_lt hc0
   rw[swap_other e (by omega)]
   refine le_trans g ?_
   have:=h1 c hc0 hc e (by omega)
   rw[hpar] at this
   exact this
 ·rw[swap_length] at hc
  rw[swap_p hpl]
  by_cases e:c=i
  ·rw[e,swap_i hi (by omega)];exact le_of_lt hlt
  ·have hcl:=par_lt hc0
   rw[swap_other e (by omega)]
   have:=h1 c hc0 hc e (by omega)
   rw[hpar] at this
   exact le_trans (le_of_lt hlt) this
theorem up_end {v:List Thing} {i:Nat} (h:AlmostUp v i) (he:0<i→aheadB (at_ v i) (at_ v (par i))=false):AlmostDown v i:=by
 refine ⟨fun j hj0 hj hpar=>?_,h.2⟩
 by_cases e:j=i
 ·subst e;exact he hj0
 ·exact h.1 j hj0 hj e hpar
theorem heap_of_kids {v:List Thing} {i:Nat} (h:AlmostDown v i) (hk:KidsOk v i):Heap v:=by
 intro j hj0 hj
 by_cases e:par j=i
 ·rw[e];exact hk j hj0 hj e
 ·exact h.1 j hj0 hj e
theorem down_step {v:List Thing} {p k:Nat} (hk:k<v.length) (hpk:par k=p) (hk0:0<k) (h:AlmostDown v p) (hlt:aheadB (at_ v k) (at_ v p)=true)
  (hmin: ∀c,0<c→c<v.length→par c=p→le (at_ v k) (at_ v c)):AlmostDown (swap v p k) k:=by
 have hp:=par_lt hk0
 have hpl:p<v.length:=by omega
 obtain ⟨h1,h2⟩:=h
 refine ⟨fun j hj0 hj hpar=>?_,fun c hc0 hc hpar _=>?_⟩
 ·rw[swap_length] at hj
  have hjl:=par_lt hj0
  by_cases e:j=k
  ·subst e
   rw[swap_p hk,hpk,swap_i hpl (by omega)]
   exact le_of_lt hlt
  ·by_cases e2:j=p
   ·subst e2
    rw[swap_i hpl (by omega),swap_other (j:=par j) (by omega) hpar]
    exact h2 k hk0 hk hpk hj0
   ·rw[swap_other e2 e]
    by_cases e3:par j=p
    ·rw[e3,swap_i hpl (by omega)]
     exact hmin j hj0 hj e3
    ·rw[swap_other e3 hpar]
     exact h1 j hj0 hj e3
 ·rw[swap_length] at hc
  have hcl:=par_lt hc0
  rw[hpk,swap_i hpl (by omega),swap_other (j:=c) (by omega) (by omega)]
  have:=h1 c hc0 hc (by omega)
  rw[hpar] at this
  exact this
theorem heap_nil:Heap []:=fun j _ h=>by simp at h
def Apart (v:List Thing):Prop:=(v.map (·.h)).Nodup
theorem Apart.perm {v v':List Thing} (h:Apart v) (hp:v'.Perm v):Apart v':=(hp.map Thing.h).nodup_iff.2 h
theorem Apart.ne {v:List Thing} (h:Apart v) {i j:Nat} (hi:i<v.length) (hj:j<v.length) (hij:i≠j):(at_ v i).h≠(at_ v j).h:=by
 rw[at_getElem hi,at_getElem hj]
 have key: ∀a b (ha:a<v.length) (hb:b<v.length),a<b→v[a].h≠v[b].h:=by
  intro a b ha hb hab
  have:=(List.pairwise_iff_getElem.1 h) a b (by simpa using ha) (by simpa using hb) hab
  simpa using this
 rcases Nat.lt_or_gt_of_ne hij with hlt|hlt
 ·exact key i j hi hj hlt
 ·exact fun e=>key j i hj hi hlt e.symm
def Places (f:Int→Option Nat) (v:List Thing) (i:Nat):Prop:=
 (∀j,j<v.length→j≠i→f (at_ v j).h=some j)∧ ∀k,(∀j,j<v.length→(at_ v j).h≠k)→f k=none
def PlacesAll (f:Int→Option Nat) (v:List Thing):Prop:=(∀j,j<v.length→f (at_ v j).h=some j)∧ ∀k,(∀j,j<v.length→(at_ v j).h≠k)→f k=none
def upd (f:Int→Option Nat) (k:Int) (i:Nat):Int→Option Nat:=fun x=>if x=k then some i else f x
def del (f:Int→Option Nat) (k:Int):Int→Option Nat:=fun x=>if x=k then none else f x
theorem places_swap {f:Int→Option Nat} {v:List Thing} {i p:Nat} (ha:Apart v) (hi:i<v.length) (hp:p<v.length) (hip:i≠p) (h:Places f v i):Places (upd f (at_ v p).h i) (swap v i p) p:=by
 refine ⟨fun j hj hne=>?_,fun k hk=>?_⟩
 ·rw[swap_length] at hj
  by_cases e:j=i
  ·subst e
   rw[swap_i hi hip];simp[upd]
  ·rw[swap_other e hne]
   unfold upd
   rw[if_neg (ha.ne hj hp hne)]
   exact h.1 j hj e
 ·have hk': ∀j,j<v.length→(at_ v j).h≠k:=by
   intro j hj
   by_cases e1:j=i
   ·subst e1
    have:=hk p (by rw[swap_length];exact hp)
    rwa[swap_p hp] at this
   ·by_cases e2:j=p
    ·subst e2
     have:=hk i (by rw[swap_length];exact hi)
     rwa[swap_i hi hip] at this
    ·have:=hk j (by rw[swap_length];exact hj)
     rwa[swap_other e1 e2] at this
  unfold upd
  rw[if_neg (fun e=>hk' p hp e.symm)]
  exact h.2 k hk'
theorem places_fill {f:Int→Option Nat} {v:List Thing} {i:Nat} (ha:Apart v) (hi:i<v.length) (h:Places f v i):PlacesAll (upd f (at_ v i).h i) v:=by
 refine ⟨fun j hj=>?_,fun k hk=>?_⟩
 ·unfold upd
  by_cases e:j=i
  ·subst e;rw[if_pos rfl]
  ·rw[if_neg (ha.ne hj hi e)];exact h.1 j hj e
 ·unfold upd
  rw[if_neg (fun e=>hk i hi e.symm)]
  exact h.2 k hk
end Go.Proofs.YtaangaogmnlljaaGreatDoor.Hp
namespace Go.Proofs.YtaangaogmnlljaaGreatDoor.Hp
def Sorted (S:List Thing):Prop:=S.Pairwise fun a b=>aheadB a b=true
def ins (t:Thing):List Thing→List Thing
 |[]=> [t]
 |x::xs=>if aheadB x t=true then x::ins t xs else t::x::xs
def without (k:Int) (S:List Thing):List Thing:=S.filter fun x=>x.h !=k
end Go.Proofs.YtaangaogmnlljaaGreatDoor.Hp
namespace Go.Proofs.YtaangaogmnlljaaGreatDoor.Kn
open Asm Hp
def forever:Int:=18446744073709551615
structure Mem where
 ws:List Int
 hs:List Int
def cutW (w v:Int):Int:=if w=64 then v else if w=32 then v%4294967296 else 0
def sumW (w a b:Int):Int:=cutW w ((cutW w a+cutW w b)%18446744073709551616)
def Mem.width (m:Mem) (at':Int):Int:=m.ws.getD at'.toNat 0
def Mem.held (m:Mem) (at':Int):Int:=m.hs.getD at'.toNat 0
def Mem.lay (m:Mem) (at' v:Int):Mem:={ m with hs:=m.hs.set at'.toNat v}
def Mem.acc (m:Mem) (kind:Int) (at' old v:Int):Option (Int×Mem):=
 if m.width at'=0 then none
 else
  let w:=m.width at'
  let was:=m.held at'
  some (was,if kind=0 then m else if kind=3 then m.lay at' (sumW w was v) else if kind=4 then (if was=cutW w old then m.lay at' (cutW w v) else m) else m.lay at' (cutW w v))
def Mem.free? (m:Mem) (a n:Nat):Bool:=decide (a+n≤m.ws.length)&& ((m.ws.drop a).take n).all (· ==0)
def Mem.all? (m:Mem) (a n:Nat):Bool:=decide (a+n≤m.ws.length)&& ((m.ws.drop a).take n).all (·!=0)
def fillL (l:List Int) (a n:Nat) (v:Int):List Int:=l.take a++List.replicate n v++l.drop (a+n)
def Mem.map (m:Mem) (a n:Nat) (w:Int):Mem:=⟨fillL m.ws a n w,fillL m.hs a n 0⟩
structure Blk where
 pos:Nat
 n:Nat
 w:Int
structure Alc where
 lo:Nat
 hi:Nat
 l:List Blk
def gapL (n hi:Nat):Nat→List Blk→Option (Nat×Nat)
 |at',[]=>if (hi:Int) - at'<n then none else some (at',0)
 |at',b::l=>if (b.pos:Int) - at'<n then (gapL n hi (b.pos+b.n) l).map fun p=>(p.1,p.2+1) else some (at',0)
def getA (a:Alc) (m:Mem) (n:Nat) (w:Int):Option (Nat×Alc×Mem):=
 if n<1∨4096<n then none
 else match gapL n a.hi a.lo a.l with
  |none=>none
  |some (at',k)=>if m.free? at' n then some (at',{ a with l:=a.l.take k++⟨at',n,w⟩::a.l.drop k},m.map at' n w) else none
def findB (at':Nat):List Blk→Option (Nat×Blk)
 |[]=>none
 |b::l=>if b.pos=at' then some (0,b) else (findB at' l).map fun p=>(p.1+1,p.2)
def putA (a:Alc) (m:Mem) (at':Nat):Alc×Mem:=
 match findB at' a.l with
 |none=>(a,m)
 |some (i,b)=>({ a with l:=a.l.eraseIdx i},if m.all? at' b.n then m.map at' b.n 0 else m)
def usedA (a:Alc):Nat:=(a.l.map (·.n)).sum
structure Clk where
 now:Int
 S:List Thing
 last:Int
def Clk.find (c:Clk) (id:Int):Option Thing:=c.S.find? fun t=>t.w==id
def Clk.arm (c:Clk) (id d:Int):Clk:=if id=0 then c else if (c.find id).isSome then c else if d=forever then c else { c with S:=ins ⟨d,id,c.last+1⟩ c.S,last:=c.last+1}
def Clk.disarm (c:Clk) (id:Int):Clk:={ c with S:=c.S.filter fun t=>t.w !=id}
structure Slp where
 id:Int
 addr:Int
 mask:Int
def hashW (a:Int):Int:=(a*11400714819323198485%18446744073709551616)/4294967296
def bucketOf (a:Int):Int:=hashW a%8
def meets (a b:Int):Bool:=bits .and .u64 a b !=0
def firstS (l:List Slp) (addr mask:Int):Option Slp:=l.find? fun s=>s.addr==addr&&meets s.mask mask
def firstA (l:List Slp) (addr:Int):Option Slp:=l.find? fun s=>s.addr==addr
def whereS (l:List Slp) (id:Int):Option Slp:=l.find? fun s=>s.id==id
def dropS (l:List Slp) (id:Int):List Slp:=l.filter fun s=>s.id !=id
def putS (l:List Slp) (id addr mask:Int):List Slp:=if id=0 then l else if (whereS l id).isSome then l else l++ [⟨id,addr,mask⟩]
def moveS (l:List Slp) (from' to':Int):List Slp:=match firstA l from' with|none=>l|some s=>dropS l s.id++ [{ s with addr:=to'}]
structure Thr where
 id:Int:=0
 state:Int:=0
 home:Int:=0
 value:Int:=0
 joiner:Int:=0
 loose:Bool:=false
 stepping:Bool:=false
structure TRow where
 times:Int:=0
 reaped:Bool:=false
 t:Thr:={}
def ofT (l:List TRow) (id:Int):Option (Nat×TRow):=
 if id=0 then none else match l[(id%64).toNat]? with
  |some r=>if r.t.id=id then some ((id%64).toNat,r) else none
  |none=>none
def lookT (l:List TRow) (id:Int):Option Thr:=(ofT l id).map (·.2.t)
def stateT (l:List TRow) (id:Int):Int:=((lookT l id).map (·.state)).getD 0
def beT (l:List TRow) (id s:Int):List TRow:=match ofT l id with
 |some (p,r)=>if r.t.state=4 then l else l.set p { r with t:={ r.t with state:=s}}
 |none=>l
def joinT (l:List TRow) (id who:Int):List TRow:=match ofT l id with
 |some (p,r)=>if who=0∨r.t.joiner≠0∨r.t.loose=true then l else l.set p { r with t:={ r.t with joiner:=who}}
 |none=>l
def looseT (l:List TRow) (id:Int):List TRow×Option Int:=match ofT l id with
 |some (p,r)=>if r.t.joiner≠0∨r.t.loose=true then (l,none) else if r.t.state=4∧r.t.stepping=false then (l.set p { times:=r.times},some r.t.home) else (l.set p { r with t:={ r.t with loose:=true}},none)
 |none=>(l,none)
def endT (l:List TRow) (id v:Int):List TRow:=match ofT l id with
 |some (p,r)=>if r.t.state=4 then l else l.set p { r with t:={ r.t with state:=4,value:=v,stepping:=true}}
 |none=>l
def leaveT (l:List TRow) (id:Int):List TRow×Option Int:=match ofT l id with
 |some (p,r)=>if r.t.stepping=false then (l,none) else if r.t.loose=true∨r.reaped=true then (l.set p { times:=r.times},some r.t.home) else (l.set p { r with t:={ r.t with stepping:=false}},none)
 |none=>(l,none)
def reapT (l:List TRow) (id:Int):List TRow×Int×Option Int:=match ofT l id with
 |some (p,r)=>if r.t.state≠4∨r.t.loose=true∨r.reaped=true then (l,0,none) else if r.t.stepping=true then (l.set p { r with reaped:=true},r.t.value,none) else (l.set p { times:=r.times},r.t.value,some r.t.home)
 |none=>(l,0,none)
def statusT (l:List TRow) (id:Int):Int:=match ofT l id with
 |some (_,r)=>if r.reaped=true then 0 else if r.t.loose=true then 2 else if r.t.joiner≠0 then 4 else if r.t.state=4 then 3 else 1
 |none=>0
def freeT:List TRow→Option Nat
 |[]=>none
 |r::l=>if r.t.id=0 then some 0 else (freeT l).map (· +1)
def bornT (l:List TRow) (home:Int):Option (Int×List TRow):=match freeT l with
 |none=>none
 |some p=>let r:=l.getD p {}
  let id:=((p:Int)+64* (r.times+1))%18446744073709551616
  some (id,l.set p ⟨r.times+1,false,{ id:=id,state:=1,home:=home}⟩)
def allT (l:List TRow):List Thr:=(l.filter fun r=>r.t.id !=0).map (·.t)
structure ORow where
 times:Int:=0
 handle:Int:=0
 kind:Int:=0
 addr:Int:=0
def ofO (l:List ORow) (h:Int):Option (Nat×ORow):=
 if h=0 then none else match l[((h - 1)%64).toNat]? with
  |some r=>if r.handle=h then some (((h - 1)%64).toNat,r) else none
  |none=>none
def freeO:List ORow→Option Nat
 |[]=>none
 |r::l=>if r.handle=0 then some 0 else (freeO l).map (· +1)
def makeO (l:List ORow) (kind addr:Int):Int×List ORow:=
 if kind<1∨6<kind then (0,l) else match freeO l with
  |none=>(0,l)
  |some p=>let r:=l.getD p {}
   let h:=((p:Int)+1+64*r.times)%18446744073709551616
   (h,l.set p ⟨r.times+1,h,kind,addr⟩)
def goneO (l:List ORow) (h:Int):List ORow:=match ofO l h with
 |some (p,r)=>l.set p { times:=r.times}
 |none=>l
structure Frame where
 pc:Int:=0
 r:List Int:=List.replicate 32 0
 back:List Int:= []
structure Fr where
 f:Frame:={}
 lib:Bool:=false
 num:Int:=0
structure Run where
 id:Int
 l:List Fr
 woken:Int:=0
structure Wkr where
 slot:Int:=0
 hand:Int:=0
 parked:Bool:=false
 left:Int:=0
 f:Frame:={}
structure RowL where
 num:Int
 pos:Int
 k0:Int
 k1:Int
 k2:Int
 k3:Int
structure Ev where
 kind:Int:=0
 pos:Int:=0
 w:Int:=0
 t:Int:=0
 num:Int:=0
 a0:Int:=0
 a1:Int:=0
 a2:Int:=0
 a3:Int:=0
 v:Int:=0
 code:Int:=0
structure Fixed where
 lib:List InsL
 loop:Int
 calls:List RowL
 code:List InsL
 wide:Int
 narrow:Int
 workers:Nat
structure Mach where
 mem:Mem
 alc:Alc
 clk:Clk
 slps:List Slp
 ring:List Int
 tab:List TRow
 objs:List ORow
 runs:List Run
 wkrs:List Wkr
 entries:Int:=0
 pos:Int:=0
 w:Int:=0
 draw:Int:=0
 out:List Ev:= []
end Go.Proofs.YtaangaogmnlljaaGreatDoor.Kn
namespace Go.Proofs.YtaangaogmnlljaaGreatDoor.Kn
open Asm Hp
def word (x:Int):Int:=x%18446744073709551616
def Fixed.cells (F:Fixed):Int:=F.wide+F.narrow
def Fixed.base (F:Fixed):Int:=17+8* (F.workers:Int)
def rg (f:Frame) (i:Int):Int:=f.r.getD i.toNat 0
def setR (f:Frame) (i v:Int):Frame:={ f with r:=f.r.set i.toNat v}
def valC (f:Frame) (x:InsL):Int:=if x.c= -1 then x.v else rg f x.c
def addrB (f:Frame) (x:InsL):Int:=if x.b= -1 then x.v else word (rg f x.b+x.v)
def shl64 (a b:Int):Int:=word (a*2^b.toNat)
def shr64 (a b:Int):Int:=a/2^b.toNat
def yesI (b:Bool):Int:=if b=true then 1 else 0
def reckon (op b c:Int):Int:=
 if op=3 then word (b+c) else if op=4 then word (b - c) else if op=5 then bits .and .u64 b c else if op=6 then bits .or .u64 b c
 else if op=7 then bits .xor .u64 b c else if op=8 then shl64 b (c%64) else if op=9 then shr64 b (c%64) else if op=10 then yesI (b==c) else yesI (decide (b<c))
def hasC (op:Int):Bool:=(decide (3≤op)&&decide (op≤11)) ||op==21||op==32||op==24||op==25||op==26||op==27||op==48
def hasB (op:Int):Bool:=hasC op||op==2||op==23||op==49||op==50||op==47||op==39||op==54||op==17||op==18||op==19||op==20||op==31||op==43||op==45
def hasA (op:Int):Bool:=hasB op||op==1||op==13||op==14||op==28||op==29||op==30||op==34||op==35||op==36||op==37||op==38||op==40||op==41||op==42||op==44||op==46||op==51||op==52||op==53||op==57
def hasV (op:Int):Bool:=(decide (3≤op)&&decide (op≤11)) ||op==21||op==32||op==17||op==18||op==19||op==20||op==31||op==43||op==45||op==1||op==13||op==14||op==12||op==15||op==22
def regOk (n:Int) (used less:Bool):Bool:=if used then (decide (0≤n)&&decide (n<32)) ||(less&&n== -1) else n==0
def lessBK (op:Int):Bool:=op==17||op==18||op==19||op==20||op==21||op==31||op==32||op==43
def lessCK (op:Int):Bool:=decide (3≤op)&&decide (op≤11)
def numOk (x:InsL) (used:Bool) (n:Int):Bool:=
 if x.op=12∨x.op=13∨x.op=14∨x.op=15 then decide (x.v<n)
 else if x.op=22 then decide (x.v<1000)
 else if 3≤x.op∧x.op≤11 then x.c== -1||x.v==0
 else if x.op=43 then x.b== -1||x.v==0
 else used||x.v==0
def mayK (x:InsL) (n:Int) (library:Bool):Bool:=
 decide (1≤x.op)&&decide (x.op≤58)&&!(library&&x.op==22)&& (library||(decide (x.op≤22)&&x.m==0))
 &&regOk x.a (hasA x.op) false&&regOk x.b (hasB x.op) (lessBK x.op)&&regOk x.c (hasC x.op) (lessCK x.op)&&numOk x (hasV x.op) n
 &&decide (0≤x.m)&&decide (x.m≤99)&&decide (0≤x.w)&&decide (x.w≤2)&& (x.w==0||(decide (0<x.m)&&hasA x.op))
structure Stepped where
 how:Int
 f:Frame
 mem:Mem
def accKind (op:Int):Int:=if op=18∨op=31 then 1 else if op=19 then 2 else if op=20 then 3 else if op=21∨op=32 then 4 else 0
def jumpK (f:Frame) (x:InsL):Int×Frame:=
 if x.op=16 then (match f.back.getLast? with|none=>(2,f) |some p=>(0,{ f with pc:=p,back:=f.back.dropLast}))
 else if x.op=15 then (if 8≤f.back.length then (3,f) else (0,{ f with pc:=x.v,back:=f.back++ [f.pc+1]}))
 else if x.op=12 then (0,{ f with pc:=x.v})
 else (0,{ f with pc:=if (rg f x.a==0)==(x.op==13) then x.v else f.pc+1})
def bare (x:InsL):InsL:={ x with m:=0,w:=0}
def insAt (l:List InsL) (pc:Int):Option InsL:=if pc<0 then none else l[pc.toNat]?
def runs? (l:List InsL) (pc:Int):Option InsL:=(insAt l pc).filter fun x=>mayK (bare x) l.length (x.op !=22)
def stepL (f:Frame) (l:List InsL) (m:Mem):Stepped:=match runs? l f.pc with
 |none=>⟨3,f,m⟩
 |some x=>
  if x.op=12∨x.op=13∨x.op=14∨x.op=15∨x.op=16 then ⟨(jumpK f x).1,(jumpK f x).2,m⟩
  else if 17≤x.op∧x.op≤21 then
   (match m.acc (accKind x.op) (addrB f x) (rg f x.a) (if x.op=21 then rg f x.c else rg f x.a) with
    |none=>⟨3,f,m⟩
    |some (was,m')=>⟨0,{ (if x.op=18 then f else setR f x.a was) with pc:=f.pc+1},m'⟩)
  else if x.op=1 then ⟨0,{ setR f x.a x.v with pc:=f.pc+1},m⟩
  else if x.op=2 then ⟨0,{ setR f x.a (rg f x.b) with pc:=f.pc+1},m⟩
  else if 3≤x.op∧x.op≤11 then ⟨0,{ setR f x.a (reckon x.op (rg f x.b) (valC f x)) with pc:=f.pc+1},m⟩
  else ⟨1,f,m⟩
def topF (r:Run):Fr:=r.l.getLastD {}
def withTop (r:Run) (f:Fr):Run:={ r with l:=r.l.dropLast++ [f]}
def runOf (l:List Run) (id:Int):Option Run:=l.find? fun r=>r.id==id
def setRun (l:List Run) (r:Run):List Run:=l.map fun s=>if s.id==r.id then r else s
def wkrOf (M:Mach) (i:Nat):Wkr:=M.wkrs.getD i {}
def setW (M:Mach) (i:Nat) (k:Wkr):Mach:={ M with wkrs:=M.wkrs.set i k}
def getF (M:Mach) (i:Nat) (t:Option Int):Frame:=match t with
 |none=>(wkrOf M i).f
 |some id=>match runOf M.runs id with
  |some r=>(topF r).f
  |none=>{}
def setF (M:Mach) (i:Nat) (t:Option Int) (f:Frame):Mach:=match t with
 |none=>setW M i { wkrOf M i with f:=f}
 |some id=>match runOf M.runs id with
  |some r=>{ M with runs:=setRun M.runs (withTop r { topF r with f:=f})}
  |none=>M
def putReg (M:Mach) (i:Nat) (t:Option Int) (a v:Int):Mach:=setF M i t (setR (getF M i t) a v)
def bumpF (M:Mach) (i:Nat) (t:Option Int):Mach:=setF M i t { getF M i t with pc:=(getF M i t).pc+1}
def tell (M:Mach) (e:Ev):Mach:={ M with out:=M.out++ [{ e with pos:=M.pos,w:=M.w}]}
def accM (m:Mem) (kind a old v:Int):Mem:=match m.acc kind a old v with
 |some p=>p.2
 |none=>m
def peekM (m:Mem) (a:Int):Int:=if m.width a=0 then 0 else m.held a
def putRing (l:List Int) (id:Int):List Int:=if 64≤l.length then l else l++ [id]
def inject (M:Mach) (id:Int):Mach:={ M with tab:=beT M.tab id 1,ring:=putRing M.ring id,mem:=accM M.mem 3 0 0 1}
def again (F:Fixed) (M:Mach) (i:Nat):Mach:=setW M i { wkrOf M i with f:={ (wkrOf M i).f with pc:=F.loop,back:= []}}
def leave (F:Fixed) (M:Mach) (i:Nat):Mach:=setW M i { wkrOf M i with slot:=0,f:={ (wkrOf M i).f with pc:=F.loop,back:= []}}
def putHome (M:Mach) (h:Option Int):Mach:=match h with
 |none=>M
 |some at'=>let p:=putA M.alc M.mem at'.toNat;{ M with alc:=p.1,mem:=p.2}
def take (M:Mach) (i:Nat) (id:Int):Mach:=
 if (wkrOf M i).hand≠0∨stateT M.tab id≠1∨(M.wkrs.any fun k=>k.hand==id)=true∨(M.ring.any fun r=>r==id)=true then M
 else setW M i { wkrOf M i with hand:=id}
def give (M:Mach) (i:Nat) (id:Int):Mach:=
 if (wkrOf M i).hand≠0 then inject M id else setW { M with tab:=beT M.tab id 1} i { wkrOf M i with hand:=id}
def bornK (M:Mach) (place r0:Int):Int×Mach:=match getA M.alc M.mem 1 64 with
 |none=>(0,M)
 |some (home,alc,mem)=>match bornT M.tab home with
  |none=>let p:=putA alc mem home;(0,{ M with alc:=p.1,mem:=p.2})
  |some (id,tab)=>(id,{ M with alc:=alc,mem:=mem,tab:=tab,runs:=M.runs++ [⟨id,[⟨{ pc:=place,r:=(List.replicate 32 0).set 0 r0},false,0⟩],0⟩]})
def deckK (F:Fixed) (b:Int):Int:=17+3* (b% (F.workers:Int))
def returned (M:Mach) (id num code v:Int):Mach:=match runOf M.runs id with
 |none=>M
 |some r=>tell { M with runs:=setRun M.runs (withTop r { topF r with f:=setR (setR (topF r).f 0 code) 1 v})} { kind:=2,t:=id,num:=num,code:=code,v:=v}
def popF (M:Mach) (id:Int):Mach:=match runOf M.runs id with
 |none=>M
 |some r=>{ M with runs:=setRun M.runs { r with l:=r.l.dropLast}}
def answer (M:Mach) (id code v:Int):Mach:=match runOf M.runs id with
 |none=>M
 |some r=>returned (popF M id) id (topF r).num code v
def endK (F:Fixed) (M:Mach) (i:Nat) (id:Int):Mach:=
 let tab1:=endT M.tab id 0
 let v:=((lookT tab1 id).map (·.value)).getD 0
 let p:=leaveT tab1 id
 let M1:Mach:=putHome { M with tab:=p.1,slps:=dropS M.slps id,clk:=M.clk.disarm id} p.2
 let M2:=tell M1 { kind:=7,t:=id,v:=v}
 leave F { M2 with runs:=M2.runs.filter fun r=>r.id !=id} i
def threadly (F:Fixed) (M:Mach) (i:Nat) (id:Int) (x:InsL):Int×Mach:=
 let f:=getF M i (some id)
 if x.op=24 then
  (if (whereS M.slps id).isSome=true∨id=0 then (0,M) else (0,{ M with slps:=putS M.slps id (rg f x.b) (rg f x.c),clk:=M.clk.arm id (rg f x.a)}))
 else if x.op=28 then
  (if (whereS M.slps id).isSome=true then (1,leave F { M with tab:=beT M.tab id 3} i) else (0,putReg M i (some id) x.a (((runOf M.runs id).map (·.woken)).getD 0)))
 else if x.op=51 then (0,{ M with tab:=joinT M.tab (rg f x.a) id})
 else if x.op=53 then (0,{ M with tab:=endT M.tab id (rg f x.a)})
 else if x.op=55 then (1,endK F M i id)
 else if x.op=56 then (0,leave F (inject M id) i)
 else if x.op=58 then (1,answer M id (rg f 0) (rg f 1))
 else (0,M)
def pushClient (M:Mach) (id p:Int):Mach:=match runOf M.runs id with
 |none=>M
 |some r=>if r.l.length<8 then { M with runs:=setRun M.runs { r with l:=r.l++ [⟨{ pc:=p},false,0⟩]}} else M
def told (F:Fixed) (M:Mach) (i:Nat) (t:Option Int) (x:InsL):Int:=
 let f:=getF M i t
 if x.op=23 then 1+2*bucketOf (rg f x.b)
 else if x.op=41 then M.clk.now
 else if x.op=37 then t.getD 0
 else if x.op=40 then F.workers
 else if x.op=42 then M.draw
 else if x.op=29 then (wkrOf M i).hand
 else if x.op=38 then deckK F M.w
 else if x.op=39 then deckK F (rg f x.b)
 else yesI (decide (rg f x.b<F.code.length))
def special (F:Fixed) (M:Mach) (i:Nat) (t:Option Int) (x:InsL):Int×Mach:=
 let f:=getF M i t
 let a:=rg f x.a
 let b:=rg f x.b
 let c:=rg f x.c
 if x.op=24∨x.op=28∨x.op=51∨x.op=53∨x.op=55∨x.op=56∨x.op=58 then (match t with|none=>(0,M) |some id=>threadly F M i id x)
 else if x.op=57 then (0,M)
 else if x.op=31 then (match M.mem.acc 1 (addrB f x) 0 a with|none=>(2,M) |some (_,m')=>(0,setW { M with mem:=m'} i { wkrOf M i with hand:=0}))
 else if x.op=32 then (match M.mem.acc 4 (addrB f x) a c with
  |none=>(2,M)
  |some (was,m')=>
   let M1:=putReg { M with mem:=m'} i t x.a was
   (0,if was=cutW (M.mem.width (addrB f x)) a then take M1 i (rg (getF M1 i t) 16) else M1))
 else if x.op=36 then (if peekM M.mem 0=a then (1,setW M i { wkrOf M i with parked:=true}) else (0,setW M i { wkrOf M i with parked:=false}))
 else if x.op=30 then (0,take M i a)
 else if x.op=33 then (0,if (wkrOf M i).hand≠0 then (let M1:=inject M (wkrOf M i).hand;setW M1 i { wkrOf M1 i with hand:=0}) else M)
 else if x.op=34 then (0,if (wkrOf M i).hand=0 then putReg (setW { M with ring:=M.ring.drop 1} i { wkrOf M i with hand:=M.ring.headD 0}) i t x.a (M.ring.headD 0) else putReg M i t x.a 0)
 else if x.op=35 then (0,if (wkrOf M i).hand≠0∧a=(wkrOf M i).hand∧(wkrOf M i).slot=0 then setW { M with tab:=beT M.tab (wkrOf M i).hand 2} i { wkrOf M i with slot:=(wkrOf M i).hand,hand:=0,left:=24} else M)
 else if x.op=43 then (0,let n:=if 0≤x.b then b else x.v
  if n≤4096 then (match getA M.alc M.mem n.toNat 64 with|none=>putReg M i t x.a 0|some (at',alc,mem)=>putReg { M with alc:=alc,mem:=mem} i t x.a at') else putReg M i t x.a 0)
 else if x.op=44 then (0,if a<65536 then putHome M (some a) else M)
 else if x.op=45 then (0,if x.v≤6 then (let p:=makeO M.objs x.v b;putReg { M with objs:=p.2} i t x.a p.1) else putReg M i t x.a 0)
 else if x.op=46 then (0,{ M with objs:=goneO M.objs a})
 else if x.op=48 then (0,if b<F.code.length then (let p:=bornK M b c;if p.1=0 then putReg p.2 i t x.a 0 else putReg (give p.2 i p.1) i t x.a p.1) else putReg M i t x.a 0)
 else if x.op=49 then (0,putReg M i t x.a (statusT M.tab b))
 else if x.op=50 then (0,putReg M i t x.a (((lookT M.tab b).map (·.home)).getD 0))
 else if x.op=52 then (0,let p:=looseT M.tab a;putHome { M with tab:=p.1} p.2)
 else if x.op=54 then (0,let p:=reapT M.tab b;putReg (putHome { M with tab:=p.1} p.2.2) i t x.a p.2.1)
 else if x.op=25 then (0,match firstS M.slps b c with
  |none=>putReg M i t x.a 0
  |some s=>
   let M1:Mach:={ M with slps:=dropS M.slps s.id,clk:=M.clk.disarm s.id,runs:=M.runs.map fun r=>if r.id==s.id then { r with woken:=0} else r}
   putReg (if stateT M.tab s.id=3 then give M1 i s.id else M1) i t x.a s.id)
 else if x.op=26 then (0,match firstA M.slps b with
  |none=>putReg M i t x.a 0
  |some s=>putReg { M with slps:=moveS M.slps b c} i t x.a s.id)
 else if x.op=27 then (0,putReg M i t x.a (yesI (firstS M.slps b c).isSome))
 else if x.op=22 then (2,M)
 else (0,putReg M i t x.a (told F M i t x))
def markK (M:Mach) (id:Int) (f:Frame) (x:InsL):Mach:=
 let c:=if hasA x.op=true then rg f x.a else 0
 if x.m=0 then M
 else if x.w=0∨(x.w=1∧c=0)∨(x.w=2∧c≠0) then tell M { kind:=5,t:=id,num:=x.m,v:=rg f 0,code:=c} else M
def library (F:Fixed) (M:Mach) (i:Nat) (t:Option Int):Int×Mach:=
 let f:=getF M i t
 let s:=stepL f F.lib M.mem
 let x:=(insAt F.lib f.pc).getD ⟨0,0,0,0,0,0,0⟩
 if s.how=0 then (0,markK (setF { M with mem:=s.mem} i t s.f) (t.getD 0) s.f x)
 else if s.how=1 then
  (if x.op=57 then
   (match t with
    |none=>(0,markK (bumpF M i t) 0 (getF (bumpF M i t) i t) x)
    |some id=>(0,markK (if rg f x.a<F.code.length then pushClient (bumpF M i t) id (rg f x.a) else bumpF M i t) id { f with pc:=f.pc+1} x))
  else
   let p:=special F M i t x
   if p.1=0 then (let M1:=bumpF p.2 i t;(0,markK M1 (t.getD 0) (getF M1 i t) x))
   else if p.1=1 then (1,p.2) else (3,p.2))
 else (s.how,M)
end Go.Proofs.YtaangaogmnlljaaGreatDoor.Kn
namespace Go.Proofs.YtaangaogmnlljaaGreatDoor.Hp
open Go.RowKit Go.Maps
structure Keeps (X:Nat→Prop) (w w':World):Prop where
 os:w'.os=w.os
 tape:w'.tape=w.tape
 output:w'.output=w.output
 size:w.heap.size≤w'.heap.size
 block: ∀k,k<w.heap.size→ ¬X k→w'.heap[k]?=w.heap[k]?
theorem Keeps.refl (X:Nat→Prop) (w:World):Keeps X w w:=⟨rfl,rfl,rfl,Nat.le_refl _,fun _ _ _=>rfl⟩
theorem Keeps.trans {X Y:Nat→Prop} {a b c:World} (h:Keeps X a b) (k:Keeps Y b c) (hXY: ∀i,Y i→X i∨a.heap.size≤i):Keeps X a c:=
 ⟨k.os.trans h.os,k.tape.trans h.tape,k.output.trans h.output,Nat.le_trans h.size k.size,fun i hi hx=>(k.block i (Nat.lt_of_lt_of_le hi h.size) (fun hy=>(hXY i hy).elim hx (by omega))).trans (h.block i hi hx)⟩
theorem Keeps.ofBelow {X:Nat→Prop} {w w':World} (h:Below w.heap.size w w'):Keeps X w w':=⟨h.os,h.tape,h.output,h.size,fun k hk _=>h.block k hk⟩
theorem Keeps.below {X:Nat→Prop} {B:Nat} {a w w':World} (hb:Below B a w) (h:Keeps X w w') (hB:B≤w.heap.size) (hX: ∀i,X i→B≤i):Below B a w':=
 hb.trans ⟨h.os,h.tape,h.output,h.size,fun k hk=>h.block k (by omega) (fun hx=>by have:=hX k hx;omega)⟩
theorem Keeps.mono {X Y:Nat→Prop} {w w':World} (h:Keeps X w w') (hXY: ∀i,X i→Y i):Keeps Y w w':=⟨h.os,h.tape,h.output,h.size,fun k hk hy=>h.block k hk (fun hx=>hy (hXY k hx))⟩
theorem Keeps.alloc {X:Nat→Prop} {a w:World} (h:Keeps X a w) (o:Obj):Keeps X a (w.alloc o):=
 h.trans (Keeps.ofBelow (X:=X) ((Below.refl _ w).alloc (Nat.le_refl _) o)) fun _ hx=>Or.inl hx
theorem Keeps.drew {X:Nat→Prop} {a w:World} (h:Keeps X a w):Keeps X a w.drew:=⟨h.os,h.tape,h.output,h.size,h.block⟩
theorem Keeps.drewN {X:Nat→Prop} {a w:World} (h:Keeps X a w) (q:Nat):Keeps X a (w.drewN q):=⟨h.os,h.tape,h.output,h.size,h.block⟩
theorem Keeps.setCell {X:Nat→Prop} {a w:World} (h:Keeps X a w) {p:Addr} (hp:X p.block) (u:Value):Keeps X a (w.setCell p u):=
 h.trans (Y:=X) ⟨rfl,rfl,rfl,by simp[World.setCell],fun k _ hk=>Below.heap_setCell _ _ _ _ (fun e=>hk (e▸hp))⟩ fun _ hx=>Or.inl hx
theorem Keeps.grown {X:Nat→Prop} {a w w':World} {row:Option Nat} (h:Keeps X a w) (hg:w.grownBy w' row) (hr: ∀k,row=some k→X k):Keeps X a w':=
 h.trans (Y:=X) ⟨hg.os,hg.tape,hg.output,hg.size,fun k hk hx=>hg.block k hk (fun e=>hx (hr k e.symm))⟩ fun _ hx=>Or.inl hx
theorem Keeps.cell {X:Nat→Prop} {w w':World} (h:Keeps X w w') {p:Addr} (hl:p.block<w.heap.size) (hx: ¬X p.block):w'.cell? p=w.cell? p:=World.cell?_of_block (h.block _ hl hx)
theorem Keeps.frozen {X:Nat→Prop} {w w':World} (h:Keeps X w w') {p:Addr} (hl:p.block<w.heap.size) (hx: ¬X p.block):w'.frozen? p=w.frozen? p:=World.frozen?_of_block (h.block _ hl hx)
def tcells (t:Thing):List Value:= [.int .u64 t.d, .int .u64 t.w, .int .i64 t.h]
def tval (t:Thing):Value:= .agg #[.int .u64 t.d, .int .u64 t.w, .int .i64 t.h]
def lcells (l:List Thing):List Value:=l.flatMap tcells
theorem lcells_at {l:List Thing} {i:Nat} (h:i<l.length):(lcells l)[i*3]?=some (.int .u64 (at_ l i).d)∧(lcells l)[i*3+1]?=some (.int .u64 (at_ l i).w)∧(lcells l)[i*3+2]?=some (.int .i64 (at_ l i).h):=by
 induction l generalizing i with
 |nil=>simp at h
 |cons x l ih=>
  cases i with
  |zero=>exact ⟨rfl,rfl,rfl⟩
  |succ i=>
   have:=ih (i:=i) (by simpa using h)
   have e: ∀j,(lcells (x::l))[(i+1)*3+j]?=(lcells l)[i*3+j]?:=by
    intro j
    rw[lcells,List.flatMap_cons,List.getElem?_append_right (by simp[tcells];omega)]
    rw[show (i+1)*3+j - (tcells x).length=i*3+j by simp[tcells];omega]
    rfl
   have e0:=e 0
   rw[Nat.add_zero,Nat.add_zero] at e0
   rw[e0,e 1,e 2]
   exact this
theorem lcells_set {l:List Thing} {i:Nat} (h:i<l.length) (t:Thing):(((lcells l).set (i*3) (.int .u64 t.d)).set (i*3+1) (.int .u64 t.w)).set (i*3+2) (.int .i64 t.h)=lcells (l.set i t):=by
 induction l generalizing i with
 |nil=>simp at h
 |cons x l ih=>
  cases i with
  |zero=>rfl
  |succ i=>
   have:=ih (i:=i) (by simpa using h)
   rw[List.set_cons_succ,lcells,lcells,List.flatMap_cons,List.flatMap_cons]
   have e: ∀(A:List Value) (j:Nat) (u:Value),(tcells x++A).set ((i+1)*3+j) u=tcells x++A.set (i*3+j) u:=by
    intro A j u
    rw[List.set_append_right _ _ (by simp[tcells];omega)]
    rw[show (i+1)*3+j - (tcells x).length=i*3+j by simp[tcells];omega]
   have e0:=fun A u=>e A 0 u
   simp only[Nat.add_zero] at e0
   rw[e0,e,e]
   exact congrArg (tcells x++ ·) this
def HObj (w:World) (hb mb:Nat) (v:Value) (last:Int):Prop:=w.heap[hb]?=some (.cells #[v, .map (some mb), .int .i64 last] 439 (0,0))
theorem HObj.cell {w:World} {hb mb:Nat} {v:Value} {last:Int} (h:HObj w hb mb v last):w.cell? ⟨hb,0,none⟩=some v∧w.cell? ⟨hb,1,none⟩=some (.map (some mb))∧w.cell? ⟨hb,2,none⟩=some (.int .i64 last)∧ ∀o,w.frozen? ⟨hb,o,none⟩=false:=by
 unfold HObj at h
 refine ⟨by simp[World.cell?,h],by simp[World.cell?,h],by simp[World.cell?,h],fun o=>by simp[World.frozen?,h]⟩
theorem HObj.lt {w:World} {hb mb:Nat} {v:Value} {last:Int} (h:HObj w hb mb v last):hb<w.heap.size:=by
 rcases Nat.lt_or_ge hb w.heap.size with h'|h'
 ·exact h'
 ·unfold HObj at h;rw[Array.getElem?_eq_none h'] at h;cases h
def HMap (w:World) (mb:Nat) (f:Int→Option Nat) (N:Nat):Prop:=
 ∃(D:DataW Unit) (n:Nat),w.ownsMap Tryz.prog 3 (plainElem Tryz.prog 3) mb n D∧n≤N∧ ∀k:Int,(Lit.int .i64 k).wf=true→Maps.has D (.int .i64 k)=(f k).isSome∧ ∀j,f k=some j→D.atKey (.int .i64 k) (.lit (.int .i64 0))= .lit (.int .i64 j)
theorem ownsMap_of_block {H:Type} {P:Program} {k:TypeId} {R:Value→Option (DataW H×List MemPlace)} {b n:Nat} {D:DataW H} {w w':World} (h:w.ownsMap P k R b n D) (e:w'.heap[b]?=w.heap[b]?):w'.ownsMap P k R b n D:=by
 obtain ⟨es,c,h1,h2,h3,h4⟩:=h
 exact ⟨es,c,e.trans h1,h2,h3,h4⟩
theorem HMap.lt {w:World} {mb:Nat} {f:Int→Option Nat} {N:Nat} (h:HMap w mb f N):mb<w.heap.size:=by obtain ⟨_,_,h,_⟩:=h;exact h.lt
theorem HMap.of_block {w w':World} {mb:Nat} {f:Int→Option Nat} {N:Nat} (h:HMap w mb f N) (e:w'.heap[mb]?=w.heap[mb]?):HMap w' mb f N:=by
 obtain ⟨D,n,h1,h2,h3⟩:=h
 exact ⟨D,n,ownsMap_of_block h1 e,h2,h3⟩
theorem HMap.isMap {w:World} {mb:Nat} {f:Int→Option Nat} {N:Nat} (h:HMap w mb f N): ∃es c,w.heap[mb]?=some (.map es c):=by
 obtain ⟨_,_,⟨es,c,h,_⟩,_⟩:=h
 exact ⟨es,c,h⟩
theorem ownsRow_of_block {base:Nat} {e:TypeId} {size:Nat} {v:Value} {n:Nat} {xs:List Value} {w w':World} (h:w.ownsRow base e size v n xs) (hb: ∀k,v.ownBlock=some k→w'.heap[k]?=w.heap[k]?):w'.ownsRow base e size v n xs:=by
 exact m112
structure Raw (w:World) (hb mb:Nat) (v:Value) (rb:Nat) (l:List Thing) (f:Int→Option Nat) (last:Int) (N:Nat):Prop where
 obj:HObj w hb mb v last
 row:w.ownsRow rb 453 3 v l.length (lcells l)
 map:HMap w mb f N
def Of (hb mb:Nat) (v:Value) (k:Nat):Prop:=k=hb∨k=mb∨v.ownBlock=some k
section
variable {w:World} {hb mb:Nat} {v:Value} {rb:Nat} {l:List Thing} {f:Int→Option Nat} {last:Int} {N:Nat}
theorem Raw.hm (h:Raw w hb mb v rb l f last N):hb≠mb:=by
 intro e
 obtain ⟨es,c,hm⟩:=h.map.isMap
 have:=h.obj
 unfold HObj at this
 rw[e,hm] at this
 cases this
theorem row_block {e:TypeId} {size n:Nat} {xs:List Value} {g:Nat} (h:w.ownsRow rb e size v n xs) (hv:v.ownBlock=some g): ∃cur,w.heap[g]?=some (.cells cur e (0,0)):=by
 obtain ⟨_,⟨rfl,_⟩ |⟨g',cap,cur,rfl,_,hh,_⟩⟩:=h
 ·cases hv
 ·cases hv;exact ⟨cur,hh⟩
theorem Raw.vh (h:Raw w hb mb v rb l f last N):v.ownBlock≠some hb:=by
 intro e
 obtain ⟨cur,hc⟩:=row_block h.row e
 have:=h.obj
 unfold HObj at this
 rw[hc] at this
 injection this with this
 injection this with _ h2 _
 exact absurd h2 (by decide)
theorem Raw.vm (h:Raw w hb mb v rb l f last N):v.ownBlock≠some mb:=by
 intro e
 obtain ⟨cur,hc⟩:=row_block h.row e
 obtain ⟨es,c,hm⟩:=h.map.isMap
 rw[hc] at hm
 cases hm
theorem Raw.of_lt (h:Raw w hb mb v rb l f last N) {k:Nat} (hk:Of hb mb v k):k<w.heap.size:=by
 rcases hk with rfl|rfl|hk
 ·exact h.obj.lt
 ·exact h.map.lt
 ·exact (h.row.lt k hk).2
theorem Raw.of_blocks {w':World} (h:Raw w hb mb v rb l f last N) (e: ∀k,Of hb mb v k→w'.heap[k]?=w.heap[k]?):Raw w' hb mb v rb l f last N:=
 ⟨(e hb (Or.inl rfl)).trans h.obj,ownsRow_of_block h.row fun k hk=>e k (Or.inr (Or.inr hk)),h.map.of_block (e mb (Or.inr (Or.inl rfl)))⟩
theorem Raw.keeps {X:Nat→Prop} {w':World} (h:Raw w hb mb v rb l f last N) (k:Keeps X w w') (hx: ∀i,Of hb mb v i→ ¬X i):Raw w' hb mb v rb l f last N:=
 h.of_blocks fun i hi=>k.block i (h.of_lt hi) (hx i hi)
theorem Raw.below {w':World} (h:Raw w hb mb v rb l f last N) (k:Below w.heap.size w w'):Raw w' hb mb v rb l f last N:=
 h.of_blocks fun i hi=>k.block i (h.of_lt hi)
theorem Raw.mono {N':Nat} (h:Raw w hb mb v rb l f last N) (hN:N≤N'):Raw w hb mb v rb l f last N':=by
 obtain ⟨h1,h2,D,n,h3,h4,h5⟩:=h
 exact ⟨h1,h2,D,n,h3,by omega,h5⟩
theorem Raw.slice (h:Raw w hb mb v rb l f last N) (h0:0<l.length): ∃g cap,v= .slice (some ⟨g,0,none⟩) l.length cap∧l.length≤cap:=by
 obtain ⟨_,⟨_,h2⟩ |⟨g,cap,cur,hv,_,_,hn,_⟩⟩:=h.row
 ·omega
 ·exact ⟨g,cap,hv,hn⟩
end
theorem keyed:Keyed Tryz.prog 3:=int_keyed Tryz.underlying3
theorem zeroI (w:World):(zeroValue 3).run Tryz.prog w= .ok (.int .i64 0) w:=by kernel_rfl
theorem lit_ne {a b:Int} (h:a≠b):(Lit.int .i64 a)≠Lit.int .i64 b:=fun e=>h (by injection e)
theorem HMap.store {w:World} {mb:Nat} {f:Int→Option Nat} {N:Nat} (h:HMap w mb f N) (hN:N<maxLen) {k:Int} (hk:(Lit.int .i64 k).wf=true) {i:Nat} (hi:(Lit.int .i64 (i:Int)).wf=true):
  ∃w',(Instr.mapUpdate 436 (.map (some mb)) (.int .i64 k) (.int .i64 i)).run Tryz.prog w= .ok () w'∧HMap w' mb (upd f k i) (N+1)∧w.mapTurned w' mb:=by
 obtain ⟨D,n,h1,h2,h3⟩:=h
 obtain ⟨w',hrun,ho,ht⟩:=h1.store keyed Tryz.underlying436 (Nat.lt_of_le_of_lt h2 hN) (keyOf_int_mk Tryz.underlying3 hk) (plainElem_int Tryz.underlying3 hi)
 refine ⟨w',hrun,⟨_,n+1,ho,by omega,fun k' hk'=>?_⟩,ht⟩
 by_cases e:k'=k
 ·subst e
  refine ⟨by rw[has_put_same (k:=Lit.int .i64 k') h1.isMap trivial];simp[upd],fun j hj=>?_⟩
  rw[atKey_put_same (k:=Lit.int .i64 k') h1.isMap trivial]
  simp[upd] at hj
  subst hj
  rfl
 ·have:=h3 k' hk'
  rw[has_put_other (lit_ne e),atKey_put_other (lit_ne e)]
  simp only[upd,if_neg e]
  exact this
theorem HMap.drop {w:World} {mb:Nat} {f:Int→Option Nat} {N:Nat} (h:HMap w mb f N) {k:Int} (hk:(Lit.int .i64 k).wf=true) (ty:TypeId):
  ∃w',(Builtin.delete_ #[436,3] ty #[.map (some mb), .int .i64 k]).run Tryz.prog w= .ok (.tuple #[]) w'∧HMap w' mb (del f k) N∧w.mapTurned w' mb:=by
 obtain ⟨D,n,h1,h2,h3⟩:=h
 obtain ⟨w',hrun,ho,ht⟩:=h1.drop keyed Tryz.underlying436 (keyOf_int_mk Tryz.underlying3 hk) ty
 refine ⟨w',hrun,⟨_,n,ho,h2,fun k' hk'=>?_⟩,ht⟩
 by_cases e:k'=k
 ·subst e
  exact ⟨by rw[has_del_same];simp[del],fun j hj=>by simp[del] at hj⟩
 ·have:=h3 k' hk'
  rw[has_del_other (lit_ne e),atKey_del_other (lit_ne e)]
  simp only[del,if_neg e]
  exact this
section
variable {w:World} {hb mb:Nat} {rb:Nat} {l:List Thing} {f:Int→Option Nat} {last:Int} {N:Nat} {g cap:Nat}
theorem Raw.stored (h:Raw w hb mb (.slice (some ⟨g,0,none⟩) l.length cap) rb l f last N) {i:Nat} (hi:i<l.length) (t:Thing):
  Raw (((w.setCell ⟨g,i*3,none⟩ (.int .u64 t.d)).setCell ⟨g,i*3+1,none⟩ (.int .u64 t.w)).setCell ⟨g,i*3+2,none⟩ (.int .i64 t.h)) hb mb (.slice (some ⟨g,0,none⟩) l.length cap) rb (l.set i t) f last N:=by
 have h1:=(h.row.stored (i*3) (.int .u64 t.d)).1
 have h2:=(h1.stored (i*3+1) (.int .u64 t.w)).1
 have h3:=(h2.stored (i*3+2) (.int .i64 t.h)).1
 rw[lcells_set hi] at h3
 have hgh:hb≠g:=fun e=>h.vh (by rw[e];rfl)
 have hgm:mb≠g:=fun e=>h.vm (by rw[e];rfl)
 have e: ∀k,k≠g→(((w.setCell ⟨g,i*3,none⟩ (.int .u64 t.d)).setCell ⟨g,i*3+1,none⟩ (.int .u64 t.w)).setCell ⟨g,i*3+2,none⟩ (.int .i64 t.h)).heap[k]?=w.heap[k]?:=by
  intro k hk
  rw[Below.heap_setCell _ _ _ _ hk,Below.heap_setCell _ _ _ _ hk,Below.heap_setCell _ _ _ _ hk]
 exact ⟨(e hb hgh).trans h.obj,by rw[List.length_set];exact h3,h.map.of_block (e mb hgm)⟩
end
end Go.Proofs.YtaangaogmnlljaaGreatDoor.Hp
namespace Go.Proofs.YtaangaogmnlljaaGreatDoor.Hp
open Go.RowKit Go.Maps
theorem wf_i64 {k:Int} (h: -9223372036854775808≤k∧k≤9223372036854775807):(Lit.int .i64 k).wf=true:=WalkArith.wf_i64 (by omega)
set_option maxRecDepth 100000 in
theorem lay_any {w:World} {hb mb:Nat} {v:Value} {rb:Nat} {l:List Thing} {f:Int→Option Nat} {last:Int} {N:Nat} (h:Raw w hb mb v rb l f last N) (i:Nat) (t:Thing) (hi:i<l.length) (hl:l.length≤1000000) (hN:N≤1000000000)
  (ht:0≤t.h∧t.h≤1000000000):
  Calls Tryz.prog 286 #[.pointer (some ⟨hb,0,none⟩), .int .i64 i,tval t] w fun e w'=>e= .returned (.tuple #[])∧Raw w' hb mb v rb (l.set i t) (upd f t.h i) last (N+1)∧Keeps (Of hb mb v) w w':=by
 obtain ⟨td,tw,th⟩:=t
 obtain ⟨g,cap,hv,hcap⟩:=h.slice (by omega)
 subst hv
 have HR:=Lib.hid h
 obtain ⟨o0,o1,o2,of⟩:=h.obj.cell
 have hlt:=h.obj.lt
 have hgl:=(h.row.lt g rfl).2
 have hfr:=h.row.frozenAt
 obtain ⟨c0,c1,c2⟩:=lcells_at hi
 have d0:w.cell? ⟨g,i*3,none⟩=_:=(h.row.cellAt _ (by omega)).trans c0
 have d1:w.cell? ⟨g,i*3+1,none⟩=_:=(h.row.cellAt _ (by omega)).trans c1
 have d2:w.cell? ⟨g,i*3+2,none⟩=_:=(h.row.cellAt _ (by omega)).trans c2
 have hgh:g≠hb:=fun e=>h.vh (by rw[←e];rfl)
 have hgm:g≠mb:=fun e=>h.vm (by rw[←e];rfl)
 have HL:=Lib.hid hl
 have HN:=Lib.hid hN
 have hlI:(l.length:Int)≤1000000:=by omega
 have hiI:(i:Int)<(l.length:Int):=by omega
 clear h c0 c1 c2 hl hN
 unfold tval
 dsimp only at ht ⊢
 go_enter Tryz.func286,Tryz.ntmps286
 go_wp2_with fail
 go_region
 have W1:Raw ((((w.setCell ⟨g,i*3,none⟩ (.int .u64 td)).setCell ⟨g,i*3+1,none⟩ (.int .u64 tw)).setCell ⟨g,i*3+2,none⟩ (.int .i64 th)).alloc (.cells #[.int .u64 td, .int .u64 tw, .int .i64 th] 453)) hb mb (.slice (some ⟨g,0,none⟩) l.length cap) rb (l.set i ⟨td,tw,th⟩) f last N:=
  (HR.out.stored hi ⟨td,tw,th⟩).below ((Below.refl _ _).alloc (Nat.le_refl _) _)
 have K1:Keeps (Of hb mb (.slice (some ⟨g,0,none⟩) l.length cap)) w ((((w.setCell ⟨g,i*3,none⟩ (.int .u64 td)).setCell ⟨g,i*3+1,none⟩ (.int .u64 tw)).setCell ⟨g,i*3+2,none⟩ (.int .i64 th)).alloc (.cells #[.int .u64 td, .int .u64 tw, .int .i64 th] 453)):=
  ((((Keeps.refl _ w).setCell (p:=⟨g,i*3,none⟩) (Or.inr (Or.inr rfl)) _).setCell (p:=⟨g,i*3+1,none⟩) (Or.inr (Or.inr rfl)) _).setCell (p:=⟨g,i*3+2,none⟩) (Or.inr (Or.inr rfl)) _).alloc _
 have b2:((((w.setCell ⟨g,i*3,none⟩ (.int .u64 td)).setCell ⟨g,i*3+1,none⟩ (.int .u64 tw)).setCell ⟨g,i*3+2,none⟩ (.int .i64 th)).alloc (.cells #[.int .u64 td, .int .u64 tw, .int .i64 th] 453)).cell? ⟨w.heap.size,2,none⟩=some (.int .i64 th):=World.cell?_alloc_at _ _ _ _ (by simp)
 generalize ((((w.setCell ⟨g,i*3,none⟩ (.int .u64 td)).setCell ⟨g,i*3+1,none⟩ (.int .u64 tw)).setCell ⟨g,i*3+2,none⟩ (.int .i64 th)).alloc (.cells #[.int .u64 td, .int .u64 tw, .int .i64 th] 453))=w1 at W1 K1 b2 ⊢
 clear o0 o1 o2 of hlt hgl hfr d0 d1 d2
 obtain ⟨o0,o1,o2,of⟩:=W1.obj.cell
 have hM:HMap w1.drew.drew mb f N:=W1.map.of_block rfl
 obtain ⟨w2,hrun,hM2,hturn⟩:=hM.store (by have:=HN.out;unfold maxLen;omega) (wf_i64 (k:=th) (by omega)) (wf_i64 (k:=(i:Int)) (by omega))
 have HM2:=Lib.hid hM2
 have HT:=Lib.hid hturn
 have H1:=Lib.hid W1
 clear hM hM2 hturn W1 ht
 go_wp2_with fail
 go_region
 go_end0
 have hg:=HT.out.grown
 refine ⟨rfl,⟨?_,?_,HM2.out⟩,(K1.drew.drew).grown hg (fun k e=>by cases e;exact Or.inr (Or.inl rfl))⟩
 ·exact (hg.block hb H1.out.obj.lt (fun e=>H1.out.hm (by injection e))).trans H1.out.obj
 ·exact World.ownsRow.kept (w:=w1.drew.drew) H1.out.row hg (Or.inr (fun e=>H1.out.vm (by rw[e])))
end Go.Proofs.YtaangaogmnlljaaGreatDoor.Hp
namespace Go.Proofs.YtaangaogmnlljaaGreatDoor.Hp
open Go.RowKit Go.Maps
theorem Raw.look {w:World} {hb mb rb:Nat} {l:List Thing} {f:Int→Option Nat} {last:Int} {N g n cap:Nat} (h:Raw w hb mb (.slice (some ⟨g,0,none⟩) n cap) rb l f last N) (hn:n=l.length) {i:Nat} (hi:i<l.length):
  w.cell? ⟨hb,0,none⟩=some (.slice (some ⟨g,0,none⟩) n cap)∧w.cell? ⟨g,i*3,none⟩=some (.int .u64 (at_ l i).d)∧w.cell? ⟨g,i*3+1,none⟩=some (.int .u64 (at_ l i).w)∧w.cell? ⟨g,i*3+2,none⟩=some (.int .i64 (at_ l i).h):=by
 subst hn
 obtain ⟨c0,c1,c2⟩:=lcells_at hi
 exact ⟨h.obj.cell.1,(h.row.cellAt _ (by omega)).trans c0,(h.row.cellAt _ (by omega)).trans c1,(h.row.cellAt _ (by omega)).trans c2⟩
def UpInv (w1:World) (hb mb:Nat) (v:Value) (rb:Nat) (l:List Thing) (last:Int) (N i0:Nat) (t:Thing) (k:Nat) (wr:World):Prop:=
 ∃(lr:List Thing) (f:Int→Option Nat) (N':Nat),lr.length=l.length∧N'+k≤N+i0∧Raw wr hb mb v rb lr f last N'∧AlmostUp (lr.set k t) k∧(KidsOk l i0→KidsOk (lr.set k t) k)∧(lr.set k t).Perm l∧Places f (lr.set k t) k∧Keeps (Of hb mb v) w1 wr
def UpOut (w:World) (hb mb:Nat) (v:Value) (rb:Nat) (l:List Thing) (last:Int) (N i0:Nat) (e:Ending) (w':World):Prop:=
 e= .returned (.tuple #[])∧ ∃(l':List Thing) (f:Int→Option Nat) (p:Nat),Raw w' hb mb v rb l' f last (N+i0+1)∧l'.Perm l∧PlacesAll f l'∧p<l'.length∧at_ l' p=at_ l i0∧AlmostDown l' p∧(KidsOk l i0→Heap l')∧Keeps (Of hb mb v) w w'
def Small (l:List Thing):Prop:= ∀t∈l,0≤t.h∧t.h≤1000000000
theorem Small.perm {l l':List Thing} (h:Small l) (hp:l'.Perm l):Small l':=fun t ht=>h t (hp.mem_iff.1 ht)
theorem set_at {l:List Thing} {k:Nat} (h:k<l.length):l.set k (at_ l k)=l:=by
 rw[at_getElem h];exact List.set_getElem_self h
theorem UpInv.step {w1 wr w2:World} {hb mb:Nat} {v:Value} {rb:Nat} {l:List Thing} {last:Int} {N i0 k:Nat} {t:Thing} {lr:List Thing} {f:Int→Option Nat} {N':Nat}
  (ha:Apart l) (hk:k<l.length) (h0:0<k) (hl:lr.length=l.length) (hN:N'+k≤N+i0) (hup:AlmostUp (lr.set k t) k) (hp:(lr.set k t).Perm l) (hpl:Places f (lr.set k t) k) (hkw:Keeps (Of hb mb v) w1 wr)
  (hlt:aheadB t (at_ lr (par k))=true) (hR:Raw w2 hb mb v rb (lr.set k (at_ lr (par k))) (upd f (at_ lr (par k)).h k) last (N'+1)) (hk2:Keeps (Of hb mb v) wr w2):
  UpInv w1 hb mb v rb l last N i0 t (par k) w2:=by
 have hpk:=par_lt h0
 have e1:at_ (lr.set k t) k=t:=at_set_same (by omega) t
 have e2:at_ (lr.set k t) (par k)=at_ lr (par k):=at_set_other (by omega) t
 have es:swap (lr.set k t) k (par k)=(lr.set k (at_ lr (par k))).set (par k) t:=by
  unfold swap
  rw[e1,e2,List.set_set]
 have st:=up_step (v:=lr.set k t) (i:=k) (by rw[List.length_set];omega) h0 hup (by rw[e1,e2];exact hlt)
 have pl:=places_swap (ha.perm hp) (i:=k) (p:=par k) (by rw[List.length_set];omega) (by rw[List.length_set];omega) (by omega) hpl
 rw[e2] at pl
 refine ⟨lr.set k (at_ lr (par k)),_,N'+1,by rw[List.length_set];exact hl,by omega,hR,by rw[←es];exact st.1,fun _=>by rw[←es];exact st.2,?_,by rw[←es];exact pl,hkw.trans hk2 fun _ hx=>Or.inl hx⟩
 rw[←es]
 exact (swap_perm (by rw[List.length_set];omega) (by rw[List.length_set];omega)).trans hp
theorem UpInv.done {w w1 wr w2:World} {hb mb:Nat} {v:Value} {rb:Nat} {l:List Thing} {last:Int} {N i0 k:Nat} {t:Thing} {lr:List Thing} {f:Int→Option Nat} {N':Nat} (ht:t=at_ l i0)
  (ha:Apart l) (hk:k<l.length) (hl:lr.length=l.length) (hN:N'+k≤N+i0) (hup:AlmostUp (lr.set k t) k) (hkids:KidsOk l i0→KidsOk (lr.set k t) k) (hp:(lr.set k t).Perm l) (hpl:Places f (lr.set k t) k) (hw1:Keeps (Of hb mb v) w w1) (hkw:Keeps (Of hb mb v) w1 wr)
  (he:0<k→aheadB t (at_ lr (par k))=false) (hR:Raw w2 hb mb v rb (lr.set k t) (upd f t.h k) last (N'+1)) (hk2:Keeps (Of hb mb v) wr w2):
  UpOut w hb mb v rb l last N i0 (.returned (.tuple #[])) w2:=by
 have e1:at_ (lr.set k t) k=t:=at_set_same (by omega) t
 have hd:AlmostDown (lr.set k t) k:=up_end hup fun h0=>by
  have:=par_lt h0
  rw[e1,at_set_other (by omega)]
  exact he h0
 have pf:=places_fill (ha.perm hp) (i:=k) (by rw[List.length_set];omega) hpl
 rw[e1] at pf
 refine ⟨rfl,_,_,k,hR.mono (by omega),hp,pf,by rw[List.length_set];omega,by rw[e1,ht],hd,fun hq=>heap_of_kids hd (hkids hq),(hw1.trans hkw fun _ hx=>Or.inl hx).trans hk2 fun _ hx=>Or.inl hx⟩
end Go.Proofs.YtaangaogmnlljaaGreatDoor.Hp
namespace Go.Proofs.YtaangaogmnlljaaGreatDoor.Hp
open Go.RowKit Go.Maps
def DownInv (w1:World) (hb mb:Nat) (v:Value) (rb:Nat) (l:List Thing) (last:Int) (N:Nat) (t:Thing) (k:Nat) (wr:World):Prop:=
 ∃(lr:List Thing) (f:Int→Option Nat) (N':Nat),lr.length=l.length∧N'≤N+k∧Raw wr hb mb v rb lr f last N'∧AlmostDown (lr.set k t) k∧(lr.set k t).Perm l∧Places f (lr.set k t) k∧Keeps (Of hb mb v) w1 wr
def DownOut (w:World) (hb mb:Nat) (v:Value) (rb:Nat) (l:List Thing) (last:Int) (N:Nat) (e:Ending) (w':World):Prop:=
 e= .returned (.tuple #[])∧ ∃(l':List Thing) (f:Int→Option Nat),Raw w' hb mb v rb l' f last (N+l.length+1)∧l'.Perm l∧PlacesAll f l'∧Heap l'∧Keeps (Of hb mb v) w w'
theorem DownInv.step {w1 wr w2:World} {hb mb:Nat} {v:Value} {rb:Nat} {l:List Thing} {last:Int} {N k c:Nat} {t:Thing} {lr:List Thing} {f:Int→Option Nat} {N':Nat}
  (ha:Apart l) (hc:c<l.length) (h0:0<c) (hpc:par c=k) (hl:lr.length=l.length) (hN:N'≤N+k) (hdn:AlmostDown (lr.set k t) k) (hp:(lr.set k t).Perm l) (hpl:Places f (lr.set k t) k) (hkw:Keeps (Of hb mb v) w1 wr)
  (hlt:aheadB (at_ lr c) t=true) (hmin: ∀j,0<j→j<(lr.set k t).length→par j=k→le (at_ (lr.set k t) c) (at_ (lr.set k t) j))
  (hR:Raw w2 hb mb v rb (lr.set k (at_ lr c)) (upd f (at_ lr c).h k) last (N'+1)) (hk2:Keeps (Of hb mb v) wr w2):
  DownInv w1 hb mb v rb l last N t c w2:=by
 have hpk:=par_lt h0
 have e1:at_ (lr.set k t) k=t:=at_set_same (by omega) t
 have e2:at_ (lr.set k t) c=at_ lr c:=at_set_other (by omega) t
 have es:swap (lr.set k t) k c=(lr.set k (at_ lr c)).set c t:=by
  unfold swap
  rw[e1,e2,List.set_set]
 have st:=down_step (v:=lr.set k t) (p:=k) (k:=c) (by rw[List.length_set];omega) hpc h0 hdn (by rw[e1,e2];exact hlt) hmin
 have pl:=places_swap (ha.perm hp) (i:=k) (p:=c) (by rw[List.length_set];omega) (by rw[List.length_set];omega) (by omega) hpl
 rw[e2] at pl
 refine ⟨lr.set k (at_ lr c),_,N'+1,by rw[List.length_set];exact hl,by omega,hR,by rw[←es];exact st,?_,by rw[←es];exact pl,hkw.trans hk2 fun _ hx=>Or.inl hx⟩
 rw[←es]
 exact (swap_perm (by rw[List.length_set];omega) (by rw[List.length_set];omega)).trans hp
theorem DownInv.done {w w1 wr w2:World} {hb mb:Nat} {v:Value} {rb:Nat} {l:List Thing} {last:Int} {N k:Nat} {t:Thing} {lr:List Thing} {f:Int→Option Nat} {N':Nat}
  (ha:Apart l) (hk:k<l.length) (hl:lr.length=l.length) (hN:N'≤N+k) (hp:(lr.set k t).Perm l) (hpl:Places f (lr.set k t) k) (hw1:Keeps (Of hb mb v) w w1) (hkw:Keeps (Of hb mb v) w1 wr)
  (hh:Heap (lr.set k t)) (hR:Raw w2 hb mb v rb (lr.set k t) (upd f t.h k) last (N'+1)) (hk2:Keeps (Of hb mb v) wr w2):
  DownOut w hb mb v rb l last N (.returned (.tuple #[])) w2:=by
 have e1:at_ (lr.set k t) k=t:=at_set_same (by omega) t
 have pf:=places_fill (ha.perm hp) (i:=k) (by rw[List.length_set];omega) hpl
 rw[e1] at pf
 exact ⟨rfl,_,_,hR.mono (by omega),hp,pf,hh,(hw1.trans hkw fun _ hx=>Or.inl hx).trans hk2 fun _ hx=>Or.inl hx⟩
end Go.Proofs.YtaangaogmnlljaaGreatDoor.Hp
namespace Go.Proofs.YtaangaogmnlljaaGreatDoor
open Go.RowKit
theorem step_append_own {P:Program} (w:World) {ops:Array Oper} {o:Oper} {a:Act} {K:Act→World→Prop} {Q:Exit→Act→World→Prop} {E:Prop} (hgd:o.guard=none) (s x:Operand) (t:TypeId)
  (ho:o.op= .call { callee:= .builtin .append,args:=#[s,x],argTypes:=#[t,t]})
  (base:Nat) (e:TypeId) (i:TypeInfo) (z:Value) (size bytes:Nat) (ht:P.underlying t=some (.slice e)) (hi:P.info? e=some i) (hz:i.zero=some z)
  (hsize:i.size=size) (hby:i.bytes=bytes) (hzs:z.cells.size=size) (hsz:0<size)
  (v:Value) (n:Nat) (xs:List Value) (hs:a.eval s=v) (hown:w.ownsRow base e size v n xs)
  (ad:Addr) (m c:Nat) (news:List Value) (hx:a.eval x= .slice (some ad) m c) (hl:news.length=m*size) (hnews: ∀j u,news[j]?=some u→w.cell? (ad.add j)=some u) (h1: ∀u∈news,u.oneCell'=true)
  (h63:n+m≤maxLen) (hbytes:(n+m)*bytes≤140737488355328) (hbase:base≤w.heap.size)
  (h: ∀v' w',w'.ownsRow base e size v' (n+m) (xs++news)→w.grownBy w' v.ownBlock→(v'.ownBlock=v.ownBlock∨v'.ownBlock=some w.heap.size)→K (a.put o.dst v') w'):
  if Region.wanted o (yielded ops a.tmps)=true then Oper.wp P o a w K Q else E:=by
 have hw:Region.wanted o (yielded ops a.tmps)=true:=by simp[Region.wanted,hgd]
 rw[if_pos hw]
 obtain ⟨v',w',hrun,h2,h3,_,h4⟩:=run_append_own_at (P:=P) w base t o.type e i z size bytes ht hi hz hsize hby hzs hsz v n xs hown ad m c news hl hnews h1 h63 hbytes hbase
 unfold Oper.wp execOp
 simp only[ho,resolve,invoke,builtin,Sem.run_bind,Sem.run_pure,Result.andThen_ok,List.map_toArray,List.map_cons,List.map_nil,hs,hx,hrun]
 exact h v' w' h2 h3 h4
theorem own_empty (w:World) (base:Nat) (e:TypeId) (size:Nat) (h:base≤w.heap.size):(w.alloc (.cells #[] e)).ownsRow base e size (.slice (some ⟨w.heap.size,0,none⟩) 0 0) 0 []:=
 ⟨by simp, .inr ⟨_,0,#[],rfl,h,heap_alloc_new w _,Nat.le_refl _,by simp[maxLen],by simp,by simp⟩⟩
theorem own_shape {w:World} {base:Nat} {e:TypeId} {size n:Nat} {v:Value} {xs:List Value} (h:w.ownsRow base e size v n xs): ∃A c,v= .slice A n c:=by
 rcases h.2 with ⟨rfl,rfl⟩ |⟨g,cap,cur,rfl,_⟩
 ·exact ⟨_,_,rfl⟩
 ·exact ⟨_,_,rfl⟩
theorem own_apart {w:World} {base base':Nat} {e e':TypeId} {size size':Nat} {v v':Value} {n n':Nat} {xs xs':List Value}
  (h:w.ownsRow base e size v n xs) (h':w.ownsRow base' e' size' v' n' xs') (hne:e≠e'):v.ownBlock=none∨v.ownBlock≠v'.ownBlock:=by
 rcases h.2 with ⟨rfl,_⟩ |⟨g,cap,cur,rfl,_,hg,_⟩
 ·exact .inl rfl
 ·right
  rcases h'.2 with ⟨rfl,_⟩ |⟨g',cap',cur',rfl,_,hg',_⟩
  ·simp[Value.ownBlock]
  ·intro he
   have hgg:g=g':=by simpa[Value.ownBlock] using he
   subst hgg
   rw[hg] at hg'
   injection hg' with hg'
   injection hg' with _ ht
   exact hne ht
end Go.Proofs.YtaangaogmnlljaaGreatDoor
namespace Go.Proofs.YtaangaogmnlljaaGreatDoor.Hp
open Go.RowKit Go.Maps
def Fine (last:Int) (t:Thing):Prop:=(1≤t.h∧t.h≤last)∧(0≤t.d∧t.d<18446744073709551616)∧(0≤t.w∧t.w<18446744073709551616)
def HeapIs (w:World) (hb mb:Nat) (v:Value) (rb:Nat) (S:List Thing) (last:Int) (N:Nat):Prop:=
 ∃(l:List Thing) (f:Int→Option Nat),Raw w hb mb v rb l f last N∧l.Perm S∧Sorted S∧Heap l∧PlacesAll f l∧Apart l∧(∀t∈S,Fine last t)∧0≤last∧last≤1000000
theorem HeapIs.of_blocks {w w':World} {hb mb:Nat} {v:Value} {rb:Nat} {S:List Thing} {last:Int} {N:Nat} (h:HeapIs w hb mb v rb S last N) (e: ∀k,Of hb mb v k→w'.heap[k]?=w.heap[k]?):HeapIs w' hb mb v rb S last N:=by
 obtain ⟨l,f,h1,r⟩:=h
 exact ⟨l,f,h1.of_blocks e,r⟩
theorem HeapIs.of_lt {w:World} {hb mb:Nat} {v:Value} {rb:Nat} {S:List Thing} {last:Int} {N:Nat} (h:HeapIs w hb mb v rb S last N) {k:Nat} (hk:Of hb mb v k):k<w.heap.size:=by
 obtain ⟨l,f,h1,r⟩:=h
 exact h1.of_lt hk
theorem HeapIs.keeps {w w':World} {X:Nat→Prop} {hb mb:Nat} {v:Value} {rb:Nat} {S:List Thing} {last:Int} {N:Nat} (h:HeapIs w hb mb v rb S last N) (k:Keeps X w w') (hx: ∀i,Of hb mb v i→ ¬X i):HeapIs w' hb mb v rb S last N:=
 h.of_blocks fun i hi=>k.block i (h.of_lt hi) (hx i hi)
theorem HeapIs.below {w w':World} {hb mb:Nat} {v:Value} {rb:Nat} {S:List Thing} {last:Int} {N:Nat} (h:HeapIs w hb mb v rb S last N) (k:Below w.heap.size w w'):HeapIs w' hb mb v rb S last N:=
 h.of_blocks fun i hi=>k.block i (h.of_lt hi)
theorem new_any (w:World):Calls Tryz.prog 161 #[] w fun e w'=> ∃hb mb,e= .returned (.pointer (some ⟨hb,0,none⟩))∧w.heap.size≤hb∧w.heap.size≤mb∧HeapIs w' hb mb (.slice none 0 0) 0 [] 0 0∧Below w.heap.size w w':=by
 have hmm:=@run_makeMap Tryz.prog
 go_enter Tryz.func161,Tryz.ntmps161
 go_wp2
 go_ret
 have hmap:HMap (w.alloc (.map #[] 0)) w.heap.size (fun _=>none) 0:=
  ⟨_,0,World.ownsMap_made w Tryz.prog 3 (plainElem Tryz.prog 3),Nat.le_refl _,fun k _=>⟨rfl,fun j hj=>by cases hj⟩⟩
 have hB:Below w.heap.size w ((w.alloc (.map #[] 0)).alloc (.cells #[.slice none 0 0, .map (some w.heap.size), .int .i64 0] 439)):=((Below.refl _ w).alloc (Nat.le_refl _) _).alloc (by simp) _
 refine ⟨w.heap.size+1,w.heap.size,rfl,by omega,Nat.le_refl _,⟨[],fun _=>none,⟨?_,World.ownsRow_nil _ _ _ _,hmap.of_block (Below.heap_alloc _ _ _ (by simp))⟩,List.Perm.refl _,List.Pairwise.nil,heap_nil,⟨(fun j hj=>absurd hj (by simp)),fun _ _=>rfl⟩,List.nodup_nil,(fun _ ht=>absurd ht (by simp)),by decide,by decide⟩,hB⟩
 unfold HObj
 have:=heap_alloc_new (w.alloc (.map #[] 0)) (.cells #[.slice none 0 0, .map (some w.heap.size), .int .i64 0] 439)
 simpa using this
end Go.Proofs.YtaangaogmnlljaaGreatDoor.Hp
namespace Go.Proofs.YtaangaogmnlljaaGreatDoor.Hp
open Go.RowKit Go.Maps
theorem HMap.look {w:World} {mb:Nat} {f:Int→Option Nat} {N:Nat} (h:HMap w mb f N) {k:Int} (hk:(Lit.int .i64 k).wf=true):
  ∃c:Int,(Instr.lookup 436 (.map (some mb)) (.int .i64 k) true).run Tryz.prog w= .ok (.tuple #[.int .i64 c, .bool (f k).isSome]) w∧ ∀j,f k=some j→c=j:=by
 obtain ⟨D,n,h1,h2,h3⟩:=h
 obtain ⟨v,ps,hrun,hv⟩:=h1.look_ok keyed Tryz.underlying436 (zeroI w) (plainElem_int Tryz.underlying3 (by decide)) (keyOf_int_mk Tryz.underlying3 hk)
 obtain ⟨c,rfl,hc,hwc⟩:=plainElem_int_inv Tryz.underlying3 hv
 obtain ⟨e1,e2⟩:=h3 k hk
 rw[e1] at hrun
 refine ⟨c,hrun,fun j hj=>?_⟩
 have:=congrArg Prod.fst hc
 rw[show (D.atKey (Lit.int .i64 k) (DataW.lit (Lit.int .i64 0)))=_ from e2 j hj] at this
 simp at this
 exact this.symm
theorem Raw.turned {w w':World} {hb mb:Nat} {v:Value} {rb:Nat} {l:List Thing} {f f':Int→Option Nat} {last:Int} {N N':Nat} (h:Raw w hb mb v rb l f last N) (hm:HMap w' mb f' N') (ht:w.mapTurned w' mb):Raw w' hb mb v rb l f' last N':=by
 have hg:=ht.grown
 exact ⟨(hg.block hb h.obj.lt (fun e=>h.hm (by injection e))).trans h.obj,h.row.kept hg (Or.inr (fun e=>h.vm (by rw[e]))),hm⟩
end Go.Proofs.YtaangaogmnlljaaGreatDoor.Hp
namespace Go.Proofs.YtaangaogmnlljaaGreatDoor.Hp
open Go.RowKit Go.Maps
theorem HeapIs.apart {w:World} {hb mb:Nat} {v:Value} {rb:Nat} {S:List Thing} {last:Int} {N:Nat} (h:HeapIs w hb mb v rb S last N):Apart S:=by
 obtain ⟨l,f,hraw,hperm,hsort,hheap,hpl,hap,_⟩:=h
 exact hap.perm hperm.symm
theorem HeapIs.sorted {w:World} {hb mb:Nat} {v:Value} {rb:Nat} {S:List Thing} {last:Int} {N:Nat} (h:HeapIs w hb mb v rb S last N):Sorted S:=by
 obtain ⟨l,f,hraw,hperm,hsort,_⟩:=h
 exact hsort
end Go.Proofs.YtaangaogmnlljaaGreatDoor.Hp
namespace Go.Proofs.YtaangaogmnlljaaGreatDoor.Kn
def prevOf (id:Int):List Slp→Option Slp
 |a::b::L=>if b.id=id then some a else prevOf id (b::L)
 |_=>none
def nextOf (id:Int):List Slp→Option Slp
 |a::L=>if a.id=id then L.head? else nextOf id L
 |[]=>none
def bkt (l:List Slp) (b:Int):List Slp:=l.filter fun s=>bucketOf s.addr==b
def ids (l:List Slp):List Int:=l.map (·.id)
theorem prevOf_mem {id:Int} {p:Slp}: ∀{L:List Slp},prevOf id L=some p→p∈L
 |[],h=>by simp[prevOf] at h
 |[_],h=>by simp[prevOf] at h
 |a::b::L,h=>by
  unfold prevOf at h
  split at h
  ·injection h with h;subst h;simp
  ·exact List.mem_cons_of_mem _ (prevOf_mem h)
theorem nextOf_mem {id:Int} {p:Slp}: ∀{L:List Slp},nextOf id L=some p→p∈L
 |[],h=>by simp[nextOf] at h
 |a::L,h=>by
  unfold nextOf at h
  split at h
  ·exact List.mem_cons_of_mem _ (List.mem_of_mem_head? (by simpa using h))
  ·exact List.mem_cons_of_mem _ (nextOf_mem h)
end Go.Proofs.YtaangaogmnlljaaGreatDoor.Kn
namespace Go.Proofs.YtaangaogmnlljaaGreatDoor.Kn
def zB:Blk:=⟨0,0,0⟩
def bAt (l:List Blk) (i:Nat):Blk:=l.getD i zB
def endL (lo:Nat) (l:List Blk) (i:Nat):Nat:=if i=0 then lo else (bAt l (i - 1)).pos+(bAt l (i - 1)).n
def startL (hi:Nat) (l:List Blk) (i:Nat):Nat:=if i<l.length then (bAt l i).pos else hi
theorem bAt_cons (b:Blk) (l:List Blk) (i:Nat):bAt (b::l) (i+1)=bAt l i:=by simp[bAt]
theorem endL_cons (lo:Nat) (b:Blk) (l:List Blk) (i:Nat):endL lo (b::l) (i+1)=endL (b.pos+b.n) l i:=by
 unfold endL
 rw[if_neg (by omega),Nat.add_sub_cancel]
 cases i with
 |zero=>rfl
 |succ i=>rw[if_neg (by omega),Nat.add_sub_cancel,bAt_cons]
theorem startL_cons (hi:Nat) (b:Blk) (l:List Blk) (i:Nat):startL hi (b::l) (i+1)=startL hi l i:=by
 unfold startL
 by_cases h:i<l.length
 ·rw[if_pos h,if_pos (by simp;omega),bAt_cons]
 ·rw[if_neg h,if_neg (by simp;omega)]
theorem gap_of (n hi:Nat) (l:List Blk) (lo k:Nat) (hk:k≤l.length) (hb: ∀j,j<k→(startL hi l j:Int) - endL lo l j<n) (h: ¬(startL hi l k:Int) - endL lo l k<n):
  gapL n hi lo l=some (endL lo l k,k):=by
 induction l generalizing lo k with
 |nil=>
  obtain rfl:k=0:=by simpa using hk
  have h1:startL hi [] 0=hi:=rfl
  have h2:endL lo [] 0=lo:=rfl
  rw[h1,h2] at h
  unfold gapL
  rw[if_neg h,h2]
 |cons b l ih=>
  unfold gapL
  cases k with
  |zero=>
   have h1:startL hi (b::l) 0=b.pos:=rfl
   have h2:endL lo (b::l) 0=lo:=rfl
   rw[h1,h2] at h
   rw[if_neg h,h2]
  |succ k=>
   have h0:=hb 0 (by omega)
   have h1:startL hi (b::l) 0=b.pos:=rfl
   have h2:endL lo (b::l) 0=lo:=rfl
   rw[h1,h2] at h0
   rw[if_pos h0,ih (b.pos+b.n) k (by simpa using hk) (fun j hj=>by have:=hb (j+1) (by omega);rwa[startL_cons,endL_cons] at this) (by rwa[startL_cons,endL_cons] at h),endL_cons]
   rfl
theorem gap_no (n hi:Nat) (l:List Blk) (lo:Nat) (hb: ∀j,j≤l.length→(startL hi l j:Int) - endL lo l j<n):gapL n hi lo l=none:=by
 induction l generalizing lo with
 |nil=>
  have h:=hb 0 (by simp)
  have h1:startL hi [] 0=hi:=rfl
  have h2:endL lo [] 0=lo:=rfl
  rw[h1,h2] at h
  unfold gapL
  rw[if_pos h]
 |cons b l ih=>
  have h0:=hb 0 (by simp)
  have h1:startL hi (b::l) 0=b.pos:=rfl
  have h2:endL lo (b::l) 0=lo:=rfl
  rw[h1,h2] at h0
  unfold gapL
  rw[if_pos h0,ih (b.pos+b.n) (fun j hj=>by have:=hb (j+1) (by simpa using hj);rwa[startL_cons,endL_cons] at this)]
  rfl
theorem find_no (p:Nat) (l:List Blk) (hb: ∀j,j<l.length→(bAt l j).pos≠p):findB p l=none:=by
 induction l with
 |nil=>rfl
 |cons b l ih=>
  unfold findB
  rw[if_neg (show¬b.pos=p from hb 0 (by simp)),ih fun j hj=>by have:=hb (j+1) (by simpa using hj);rwa[bAt_cons] at this]
  rfl
def okB (hi:Nat):Nat→List Blk→Prop
 |lo,[]=>lo≤hi
 |lo,b::l=>lo≤b.pos∧1≤b.n∧b.n≤4096∧(b.w=32∨b.w=64)∧okB hi (b.pos+b.n) l
theorem okB_len {hi:Nat}: ∀{l:List Blk} {lo:Nat},okB hi lo l→lo+l.length≤hi
 |[],_,h=>h
 |b::l,lo,⟨h1,h2,_,_,h3⟩=>by have:=okB_len h3;simp;omega
theorem okB_in {hi:Nat}: ∀{l:List Blk} {lo:Nat},okB hi lo l→ ∀b∈l,lo≤b.pos∧b.pos+b.n≤hi∧1≤b.n∧b.n≤4096∧(b.w=32∨b.w=64)
 |[],_,_,_,hb=>absurd hb (by simp)
 |c::l,lo,⟨h1,h2,h3,h4,h5⟩,b,hb=>by
  rcases List.mem_cons.1 hb with rfl|hb
  ·have:=okB_len h5;exact ⟨h1,by omega,h2,h3,h4⟩
  ·have:=okB_in h5 b hb;exact ⟨by omega,this.2⟩
theorem okB_gap {hi:Nat}: ∀{l:List Blk} {lo:Nat},okB hi lo l→ ∀i,i≤l.length→lo≤endL lo l i∧endL lo l i≤startL hi l i∧startL hi l i≤hi
 |[],lo,h,i,hi'=>by
  obtain rfl:i=0:=by simpa using hi'
  exact ⟨Nat.le_refl _,h,Nat.le_refl _⟩
 |b::l,lo,⟨h1,h2,h3,h4,h5⟩,i,hi'=>by
  cases i with
  |zero=>have:=okB_len h5;exact ⟨Nat.le_refl _,h1,show b.pos≤hi by omega⟩
  |succ i=>
   have:=okB_gap h5 i (by simpa using hi')
   rw[endL_cons,startL_cons]
   omega
theorem okB_ins {hi n:Nat} {wd:Int} (hn:1≤n) (hn2:n≤4096) (hw:wd=32∨wd=64): ∀{l:List Blk} {lo:Nat},okB hi lo l→ ∀k,k≤l.length→ ¬(startL hi l k:Int) - endL lo l k<n→okB hi lo (l.take k++⟨endL lo l k,n,wd⟩::l.drop k)
 |[],lo,h,k,hk,hg=>by
  obtain rfl:k=0:=by simpa using hk
  have h1:startL hi [] 0=hi:=rfl
  have h2:endL lo [] 0=lo:=rfl
  rw[h1,h2] at hg
  exact ⟨Nat.le_refl _,hn,hn2,hw,show lo+n≤hi by omega⟩
 |b::l,lo,⟨h1,h2,h3,h4,h5⟩,k,hk,hg=>by
  cases k with
  |zero=>
   have e1:startL hi (b::l) 0=b.pos:=rfl
   have e2:endL lo (b::l) 0=lo:=rfl
   rw[e1,e2] at hg
   exact ⟨Nat.le_refl _,hn,hn2,hw,show lo+n≤b.pos by omega,h2,h3,h4,h5⟩
  |succ k=>
   rw[startL_cons,endL_cons] at hg
   rw[endL_cons]
   exact ⟨h1,h2,h3,h4,okB_ins hn hn2 hw h5 k (by simpa using hk) hg⟩
theorem okB_low {hi lo lo':Nat} (h:lo'≤lo): ∀{l:List Blk},okB hi lo l→okB hi lo' l
 |[],h1=>Nat.le_trans h h1
 |_::_,⟨h1,h2⟩=>⟨Nat.le_trans h h1,h2⟩
theorem okB_del {hi:Nat}: ∀{l:List Blk} {lo:Nat},okB hi lo l→ ∀i,okB hi lo (l.eraseIdx i)
 |[],_,h,_=>h
 |b::l,lo,⟨h1,h2,h3,h4,h5⟩,i=>by
  cases i with
  |zero=>exact okB_low (by omega) h5
  |succ i=>exact ⟨h1,h2,h3,h4,okB_del h5 i⟩
theorem bAt_mem {l:List Blk} {i:Nat} (h:i<l.length):bAt l i∈l:=by
 unfold bAt;rw[List.getD_eq_getElem?_getD,List.getElem?_eq_getElem h];exact List.getElem_mem h
end Go.Proofs.YtaangaogmnlljaaGreatDoor.Kn
namespace Go.Proofs.YtaangaogmnlljaaGreatDoor.Kn
section
variable {α β:Type} {k:Nat} {f:α→List β}
theorem flL_len (hf: ∀x,(f x).length=k) (l:List α):(l.flatMap f).length=l.length*k:=by
 induction l with
 |nil=>simp
 |cons x l ih=>rw[List.flatMap_cons,List.length_append,ih,hf,List.length_cons,Nat.succ_mul];omega
theorem flL_at (hf: ∀x,(f x).length=k) (l:List α) (i:Nat) (h:i<l.length) (j:Nat) (hj:j<k):(l.flatMap f)[i*k+j]?=(f l[i])[j]?:=by
 induction l generalizing i with
 |nil=>simp at h
 |cons x l ih=>
  rw[List.flatMap_cons]
  cases i with
  |zero=>rw[Nat.zero_mul,Nat.zero_add,List.getElem?_append_left (by rw[hf];exact hj)];rfl
  |succ i=>
   rw[List.getElem?_append_right (by rw[hf,Nat.succ_mul];omega),hf,show (i+1)*k+j - k=i*k+j by rw[Nat.succ_mul];omega]
   exact ih i (by simpa using h)
theorem flL_take (hf: ∀x,(f x).length=k) (l:List α) (n:Nat):(l.flatMap f).take (n*k)=(l.take n).flatMap f:=by
 induction l generalizing n with
 |nil=>simp
 |cons x l ih=>
  cases n with
  |zero=>simp
  |succ n=>
   rw[List.flatMap_cons,List.take_succ_cons,List.flatMap_cons,List.take_append,List.take_of_length_le (by rw[hf,Nat.succ_mul];omega),hf,show (n+1)*k - k=n*k by rw[Nat.succ_mul];omega,ih]
theorem flL_drop (hf: ∀x,(f x).length=k) (l:List α) (n:Nat):(l.flatMap f).drop (n*k)=(l.drop n).flatMap f:=by
 induction l generalizing n with
 |nil=>simp
 |cons x l ih=>
  cases n with
  |zero=>simp
  |succ n=>
   rw[List.flatMap_cons,List.drop_succ_cons,List.drop_append,List.drop_eq_nil_of_le (by rw[hf,Nat.succ_mul];omega),hf,show (n+1)*k - k=n*k by rw[Nat.succ_mul];omega,ih]
   rfl
theorem flL_set (hf: ∀x,(f x).length=k) (l:List α) (i:Nat) (h:i<l.length) (j:Nat) (hj:j<k) (v:β) (y:α) (hy:(f l[i]).set j v=f y):(l.flatMap f).set (i*k+j) v=(l.set i y).flatMap f:=by
 induction l generalizing i with
 |nil=>simp at h
 |cons x l ih=>
  rw[List.flatMap_cons]
  cases i with
  |zero=>
   rw[Nat.zero_mul,Nat.zero_add,List.set_append_left _ _ (by rw[hf];exact hj),List.set_cons_zero,List.flatMap_cons]
   exact congrArg (· ++l.flatMap f) hy
  |succ i=>
   rw[List.set_append_right _ _ (by rw[hf,Nat.succ_mul];omega),hf,show (i+1)*k+j - k=i*k+j by rw[Nat.succ_mul];omega,List.set_cons_succ,List.flatMap_cons,ih i (by simpa using h) hy]
theorem flL_mid (l:List α) (i:Nat) (h:i<l.length):l.flatMap f=(l.take i).flatMap f++f l[i]++(l.drop (i+1)).flatMap f:=by
 conv=>lhs;rw[←List.take_append_drop i l,List.flatMap_append,List.drop_eq_getElem_cons h,List.flatMap_cons]
 rw[List.append_assoc]
theorem flL_put (l:List α) (i:Nat) (h:i<l.length) (y:α):(l.take i).flatMap f++f y++(l.drop (i+1)).flatMap f=(l.set i y).flatMap f:=by
 rw[flL_mid (f:=f) (l.set i y) i (by simpa using h),List.getElem_set_self,List.take_set_of_le (Nat.le_refl _),List.drop_set_of_lt (by omega)]
theorem set_mid (A y B:List β) (j:Nat) (hj:j<y.length) (v:β):(A++y++B).set (A.length+j) v=A++y.set j v++B:=by
 rw[List.append_assoc,List.set_append_right _ _ (by omega),show A.length+j - A.length=j by omega,List.set_append_left _ _ hj,List.append_assoc]
end
end Go.Proofs.YtaangaogmnlljaaGreatDoor.Kn
namespace Go.Proofs.YtaangaogmnlljaaGreatDoor.Kn
open Go.RowKit
theorem run_copy_rowK {P:Program} (w:World) (dT sT ty elem:TypeId) (k g o dLen dCap:Nat) (a:Addr) (sLen sCap:Nat) (cur:Array Value) (t:TypeId) (cs:List Value)
  (hu:P.underlying dT=some (.slice elem)) (hs:(P.info? elem).map (·.size)=some k)
  (hg:w.heap[g]?=some (.cells cur t (0,0))) (hn:cs.length=Nat.min sLen dLen*k)
  (hsrc: ∀j v,cs[j]?=some v→w.cell? (a.add j)=some v) (hfit:o+cs.length≤cur.size) (h1: ∀v∈cs,v.oneCell'=true):
  (Builtin.copy_ #[dT,sT] ty #[.slice (some ⟨g,o,none⟩) dLen dCap, .slice (some a) sLen sCap]).run P w=
   .ok (goInt (Nat.min sLen dLen)) (w.setRow g (cur.toList.take o++cs++cur.toList.drop (o+cs.length)).toArray):=by
 have hl:=run_loadCells_list (P:=P) w a cs hsrc
 have hst:=run_storeCells_at P g o t cs 0 cur w hg (by simpa using hfit) h1
 cases hq:P.info? elem with
 |none=>simp[hq] at hs
 |some i=>
  have hi:i.size=k:=by simpa[hq] using hs
  simp[Builtin.copy_,run_underlying hu,Builtin.lenOf,Builtin.firstCells,sizeOf,typeInfo,hq,hi,←hn,hl,hst]
theorem run_copy_noneK {P:Program} (w:World) (dT sT ty elem:TypeId) (k:Nat) (d a:Option Addr) (dLen dCap sLen sCap:Nat) (hu:P.underlying dT=some (.slice elem)) (hs:(P.info? elem).map (·.size)=some k) (hn:Nat.min sLen dLen=0):
  (Builtin.copy_ #[dT,sT] ty #[.slice d dLen dCap, .slice a sLen sCap]).run P w= .ok (goInt 0) w:=by
 cases hq:P.info? elem with
 |none=>simp[hq] at hs
 |some i=>
  have hl: ∀(x:Addr),(loadCells x 0).run P w= .ok #[] w:=fun x=>by simpa using run_loadCells_list (P:=P) w x [] (by simp)
  cases d<;>cases a<;>simp[Builtin.copy_,run_underlying hu,Builtin.lenOf,Builtin.firstCells,sizeOf,typeInfo,hq,hn,storeCells,hl]
theorem wpList_copy_eq {P:Program} (w:World) {ops:Array Oper} {rest:List Oper} {o:Oper} {a:Act} {Q:Exit→Act→World→Prop} (hgd:o.guard=none) (d s:Operand) (t t':TypeId)
  (ho:o.op= .call { callee:= .builtin .copy,args:=#[d,s],argTypes:=#[t,t']}) (v u:Value) (hd:a.eval d=v) (hs:a.eval s=u) {v':Value} {w':World}
  (hr:(Builtin.copy_ #[t,t'] o.type #[v,u]).run P w= .ok v' w') (h:wpList P ops Q rest (a.put o.dst v') w'):wpList P ops Q (o::rest) a w:=by
 refine wpList_plain hgd fun K hK=>?_
 unfold Oper.wp execOp
 simp only[ho,resolve,invoke,builtin,Sem.run_bind,Sem.run_pure,Result.andThen_ok,List.map_toArray,List.map_cons,List.map_nil,hd,hs,hr]
 exact hK _ _ h
theorem own_over {w:World} {base:Nat} {e:TypeId} {size n g cap:Nat} {xs:List Value} (h:w.ownsRow base e size (.slice (some ⟨g,0,none⟩) n cap) n xs) (off:Nat) (cs:List Value) (hfit:off+cs.length≤n*size):
  ∃cur:Array Value,w.heap[g]?=some (.cells cur e (0,0))∧off+cs.length≤cur.size∧(w.setRow g (cur.toList.take off++cs++cur.toList.drop (off+cs.length)).toArray).ownsRow base e size (.slice (some ⟨g,0,none⟩) n cap) n (xs.take off++cs++xs.drop (off+cs.length)):=by
 rcases h.2 with ⟨h1,_⟩ |⟨g',cap',cur,hv,hg,hh,hn,hm,hs,ht⟩
 ·cases h1
 ·injection hv with h1 h2 h3
  injection h1 with h1
  injection h1 with h1 _ _
  subst h1 h3
  have hsz:n*size≤cur.size:=by rw[hs];exact Nat.mul_le_mul_right _ hn
  refine ⟨cur,hh,by omega,?_, .inr ⟨g,cap,_,rfl,hg,setRow_heap w g cur _ e _ hh,hn,hm,?_,?_⟩⟩
  ·have:=h.1
   simp only[List.length_append,List.length_take,List.length_drop,this]
   omega
  ·simp only[List.size_toArray,List.length_append,List.length_take,List.length_drop,Array.length_toList,←hs]
   omega
  ·rw[←ht]
   simp only[List.take_append,List.length_append,List.length_take,Array.length_toList,List.take_take,List.drop_take]
   congr 1
   ·congr 1
    ·first|rw[Nat.min_eq_right (by omega),Nat.min_eq_left (by omega)] |rw[Nat.min_eq_left (by omega),Nat.min_eq_right (by omega)] |rw[Nat.min_comm]
    ·rw[List.take_of_length_le (by omega)]
   ·rw[Nat.min_eq_left (by omega:off≤cur.size)]
theorem own_prefix {w:World} {base:Nat} {e:TypeId} {size n g cap:Nat} {xs:List Value} (h:w.ownsRow base e size (.slice (some ⟨g,0,none⟩) n cap) n xs) (m:Nat) (hm:m≤n):w.ownsRow base e size (.slice (some ⟨g,0,none⟩) m cap) m (xs.take (m*size)):=by
 rcases h.2 with ⟨h1,_⟩ |⟨g',cap',cur,hv,hg,hh,hn,hmx,hs,ht⟩
 ·cases h1
 ·injection hv with h1 h2 h3
  injection h1 with h1
  injection h1 with h1 _ _
  subst h1 h3
  have h2:m*size≤n*size:=Nat.mul_le_mul_right _ hm
  refine ⟨by rw[List.length_take,h.1];omega, .inr ⟨g,cap,cur,rfl,hg,hh,by omega,hmx,hs,?_⟩⟩
  rw[←ht,List.take_take,Nat.min_eq_left h2]
theorem grown_setRow (w:World) (g:Nat) (cs:Array Value):(w.setRow g cs).heap.size=w.heap.size:=by simp[World.setRow]
theorem setRow_other' (w:World) (g k:Nat) (cs:Array Value) (h:k≠g):(w.setRow g cs).heap[k]?=w.heap[k]?:=setRow_other w g k cs h
end Go.Proofs.YtaangaogmnlljaaGreatDoor.Kn
namespace Go.Proofs.YtaangaogmnlljaaGreatDoor.Kn
open Go.RowKit
theorem wraps_u64 (n:Int) (h₀:0≤n) (h₁:n<2^64):IntKind.u64.wrap n=n:=by rw[IntKind.wrap_u64];omega
theorem and_low (v:Int) (hv:0≤v∧v<18446744073709551616):bits .and .u64 v 4294967295=v%4294967296:=by
 have e0:(2:Int)^64=18446744073709551616:=by decide
 have h:=bits_mask .u64 64 (by decide) wraps_u64 32 (by decide) v hv.1 (by rw[e0];exact hv.2)
 have e:((2:Int)^32 - 1)=4294967295:=by decide
 have e2:((2:Int)^32)=4294967296:=by decide
 rw[e,e2] at h
 exact h
theorem cut_any (wd v:Int) (w:World) (hv:0≤v∧v<18446744073709551616):Calls Tryz.prog 270 #[.int .i64 wd, .int .u64 v] w fun e w'=>e= .returned (.int .u64 (cutW wd v))∧w=w':=by
 have hlow:=and_low v hv
 clear hv
 by_cases h1:wd=32
 ·subst h1
  exact m86
 ·by_cases h2:wd=64
  ·subst h2
   exact m86
  ·have e1:(wd==32)=false:=by simp[h1]
   have e2:(wd==64)=false:=by simp[h2]
   have e3:cutW wd v=0:=by unfold cutW;rw[if_neg h2,if_neg h1]
   rw[e3]
   exact m86
theorem cutW_range {wd v:Int} (hv:0≤v∧v<18446744073709551616):0≤cutW wd v∧cutW wd v<18446744073709551616:=by
 unfold cutW;split
 ·exact hv
 ·split<;>omega
set_option maxRecDepth 100000 in
theorem sum_any (wd a b:Int) (w:World) (ha:0≤a∧a<18446744073709551616) (hb:0≤b∧b<18446744073709551616):Calls Tryz.prog 259 #[.int .i64 wd, .int .u64 a, .int .u64 b] w fun e w'=>e= .returned (.int .u64 (sumW wd a b))∧w=w':=by
 have h1:=Lib.hid (fun W=>cut_any wd a W ha)
 have h2:=Lib.hid (fun W=>cut_any wd b W hb)
 have h3:=Lib.hid (fun x W hx=>cut_any wd x W hx)
 have r1:=cutW_range (wd:=wd) ha
 have r2:=cutW_range (wd:=wd) hb
 unfold sumW
 generalize cutW wd a=ca at*
 generalize cutW wd b=cb at*
 have hw:IntKind.u64.wrap (ca+cb)=(ca+cb)%18446744073709551616:=by rw[IntKind.wrap_u64]
 have hr:0≤(ca+cb)%18446744073709551616∧(ca+cb)%18446744073709551616<18446744073709551616:=by omega
 generalize (ca+cb)%18446744073709551616=m at*
 have HR:=Lib.hid hr
 clear hr ha hb r1 r2
 go_enter Tryz.func259,Tryz.ntmps259
 go_wp2_with fail
 refine (h1.out _).mono ?_
 rintro e w1 ⟨rfl,rfl⟩
 go_wp2_with fail
 refine (h2.out _).mono ?_
 rintro e w1 ⟨rfl,rfl⟩
 go_wp2_with fail
 refine (h3.out m _ HR.out).mono ?_
 rintro e w1 ⟨rfl,rfl⟩
 go_wp2_with fail
 go_ret
 exact ⟨rfl,rfl⟩
theorem sumW_range {wd a b:Int}:0≤sumW wd a b∧sumW wd a b<18446744073709551616:=cutW_range (by omega)
end Go.Proofs.YtaangaogmnlljaaGreatDoor.Kn
namespace Go.Proofs.YtaangaogmnlljaaGreatDoor
open Go.RowKit
theorem row_at {w:World} {base:Nat} {e:TypeId} {size n:Nat} {v:Value} {xs:List Value} (h:w.ownsRow base e size v n xs):(v= .slice none 0 0∧n=0∧xs= [])∨ ∃g c,v= .slice (some ⟨g,0,none⟩) n c∧ ∀j u,xs[j]?=some u→w.cell? ((⟨g,0,none⟩:Addr).add j)=some u:=by
 have h0:=h
 rcases h with ⟨hl,⟨rfl,rfl⟩ |⟨g,cap,cur,rfl,_⟩⟩
 ·exact Or.inl ⟨rfl,rfl,by simpa using hl⟩
 ·exact Or.inr ⟨g,cap,rfl,fun j u hu=>h0.cells rfl j u hu⟩
theorem app_row {P:Program} {w:World} (base:Nat) (t ty e:TypeId) (i:TypeInfo) (z:Value) (size bytes:Nat) (ht:P.underlying t=some (.slice e)) (hi:P.info? e=some i) (hz:i.zero=some z)
  (hsize:i.size=size) (hby:i.bytes=bytes) (hzs:z.cells.size=size) (hsz:0<size)
  {v:Value} {n:Nat} {xs:List Value} (hown:w.ownsRow base e size v n xs) {b2:Nat} {v2:Value} {m:Nat} {ys:List Value} (h2:w.ownsRow b2 e size v2 m ys) (h1: ∀u∈ys,u.oneCell'=true)
  (h63:n+m≤maxLen) (hbytes:(n+m)*bytes≤140737488355328) (hbase:base≤w.heap.size):
  ∃v' w',(Builtin.append_ #[t,t] ty #[v,v2]).run P w= .ok v' w'∧w'.ownsRow base e size v' (n+m) (xs++ys)∧w.grownBy w' v.ownBlock∧(v'.ownBlock=v.ownBlock∨v'.ownBlock=some w.heap.size):=by
 rcases row_at h2 with ⟨rfl,rfl,rfl⟩ |⟨g,c,rfl,hc⟩
 ·refine ⟨v,w,run_append_owned_none (P:=P) (w:=w) base t ty e i size ht hi v n xs hown,?_,⟨rfl,rfl,rfl,Nat.le_refl _,fun _ _ _=>rfl⟩,Or.inl rfl⟩
  rw[List.append_nil];exact hown
 ·obtain ⟨v',w',hrun,q2,q3,_,q4⟩:=run_append_own_at (P:=P) w base t ty e i z size bytes ht hi hz hsize hby hzs hsz v n xs hown ⟨g,0,none⟩ m c ys h2.1 hc h1 h63 hbytes hbase
  exact ⟨v',w',hrun,q2,q3,q4⟩
end Go.Proofs.YtaangaogmnlljaaGreatDoor
namespace Go.Proofs.YtaangaogmnlljaaGreatDoor.Kn
open Asm Hp
def view (l:List TRow) (id:Int):Option (Int×Bool):=(lookT l id).map fun t=>(t.state,t.stepping)
def aliveV (o:Option (Int×Bool)):Prop:= ∃p,o=some p∧(p.1=4→p.2=true)
theorem view_of {l:List TRow} {id:Int} {p:Nat} {r:TRow} (h:ofT l id=some (p,r)):view l id=some (r.t.state,r.t.stepping):=by
 unfold view lookT;rw[h];rfl
theorem view_none {l:List TRow} {id:Int} (h:ofT l id=none):view l id=none:=by
 unfold view lookT;rw[h];rfl
end Go.Proofs.YtaangaogmnlljaaGreatDoor.Kn
namespace Go.Proofs.YtaangaogmnlljaaGreatDoor.Kn
open Asm Hp
def handsOf (M:Mach):List Int:=M.wkrs.map (·.hand)
def slotsOf (M:Mach):List Int:=M.wkrs.map (·.slot)
def Based (r:Run):Prop:=(∃f l,r.l=f::l∧f.lib=false)∧r.l.length≤9∧(r.l.length=9→(topF r).lib=true)
structure InvA (ring hands slots:List Int) (v:Int→Option (Int×Bool)):Prop where
 once: ∀id,id≠0→ring.count id+hands.count id+slots.count id≤1
 away: ∀id,id≠0→id∈ring∨id∈hands→ ∃p,v id=some p∧(p.1=1∨p.1=4∧p.2=true)
 on: ∀id,id≠0→id∈slots→ ∃p,v id=some p∧(p.1=2∨p.1=4∧p.2=true)
structure Inv (M:Mach):Prop where
 nod:(M.runs.map (·.id)).Nodup
 has: ∀id,(runOf M.runs id).isSome=true↔aliveV (view M.tab id)
 base: ∀r∈M.runs,Based r
 pl:InvA M.ring (handsOf M) (slotsOf M) (view M.tab)
 slp: ∀s∈M.slps,aliveV (view M.tab s.id)
 clk: ∀t∈M.clk.S,aliveV (view M.tab t.w)
structure Same (M M':Mach):Prop where
 ring:M'.ring=M.ring
 hands:handsOf M'=handsOf M
 slots:slotsOf M'=slotsOf M
 tab:M'.tab=M.tab
 slps:M'.slps=M.slps
 clk:M'.clk=M.clk
 ids:M'.runs.map (·.id)=M.runs.map (·.id)
 base:(∀r∈M.runs,Based r)→ ∀r∈M'.runs,Based r
theorem Same.refl (M:Mach):Same M M:=⟨rfl,rfl,rfl,rfl,rfl,rfl,rfl,id⟩
theorem Same.trans {a b c:Mach} (h:Same a b) (k:Same b c):Same a c:=
 ⟨k.ring.trans h.ring,k.hands.trans h.hands,k.slots.trans h.slots,k.tab.trans h.tab,k.slps.trans h.slps,k.clk.trans h.clk,k.ids.trans h.ids,fun hb=>k.base (h.base hb)⟩
theorem runOf_mem {l:List Run} {id:Int} {r:Run} (h:runOf l id=some r):r∈l∧r.id=id:=⟨List.mem_of_find?_eq_some h,by simpa using List.find?_some h⟩
theorem runOf_iff (l:List Run) (id:Int):(runOf l id).isSome=true↔id∈l.map (·.id):=by
 unfold runOf
 rw[List.find?_isSome]
 constructor
 ·rintro ⟨r,hr,he⟩
  rw[←eq_of_beq he]
  exact List.mem_map_of_mem hr
 ·intro h
  obtain ⟨r,hr,he⟩:=List.mem_map.1 h
  exact ⟨r,hr,by simp[he]⟩
theorem runOf_in {l:List Run} (hn:(l.map (·.id)).Nodup) {r:Run} (hr:r∈l):runOf l r.id=some r:=by
 induction l with
 |nil=>cases hr
 |cons a l ih=>
  rw[List.map_cons,List.nodup_cons] at hn
  unfold runOf
  rw[List.find?_cons]
  rcases List.mem_cons.1 hr with e|e
  ·subst e;simp
  ·have:(a.id==r.id)=false:=by
    simp
    intro e2
    exact hn.1 (by rw[e2];exact List.mem_map_of_mem (f:=(·.id)) e)
   rw[this]
   exact ih hn.2 e
theorem setRun_ids (l:List Run) (r:Run):(setRun l r).map (·.id)=l.map (·.id):=by
 unfold setRun
 rw[List.map_map]
 apply List.map_congr_left
 intro s _
 simp only[Function.comp]
 split
 ·rename_i h;exact (eq_of_beq h).symm
 ·rfl
theorem runOf_setRun {l:List Run} (hn:(l.map (·.id)).Nodup) {r0 r:Run} (h0:runOf l r.id=some r0) (x:Int):runOf (setRun l r) x=if x=r.id then some r else runOf l x:=by
 induction l with
 |nil=>cases h0
 |cons a l ih=>
  rw[List.map_cons,List.nodup_cons] at hn
  unfold runOf setRun at*
  rw[List.map_cons,List.find?_cons,List.find?_cons]
  rw[List.find?_cons] at h0
  by_cases ha:a.id=r.id
  ·have e1:(a.id==r.id)=true:=by simp[ha]
   rw[if_pos e1]
   by_cases hx:x=r.id
   ·subst hx;simp
   ·have e2:(r.id==x)=false:=by simp;exact fun e=>hx e.symm
    have e3:(a.id==x)=false:=by rw[ha];exact e2
    rw[e2,e3,if_neg hx]
    have e4:(l.map fun s=>if s.id==r.id then r else s)=l:=by
     conv=>rhs;rw[←List.map_id l]
     apply List.map_congr_left
     intro s hs
     have:(s.id==r.id)=false:=by
      simp
      intro e
      exact hn.1 (by rw[ha,←e];exact List.mem_map_of_mem (f:=(·.id)) hs)
     rw[this]
     rfl
    rw[e4]
  ·have e1:(a.id==r.id)=false:=by simp[ha]
   rw[e1] at h0
   rw[if_neg (by rw[e1];exact Bool.false_ne_true)]
   by_cases hx:a.id=x
   ·have e2:(a.id==x)=true:=by simp[hx]
    rw[e2,if_neg (by rw[←hx];exact ha)]
   ·have e2:(a.id==x)=false:=by simp[hx]
    rw[e2]
    exact ih hn.2 h0
theorem Inv.same {M M':Mach} (h:Inv M) (k:Same M M'):Inv M':=by
 refine ⟨by rw[k.ids];exact h.nod,fun id=>?_,k.base h.base,by rw[k.ring,k.hands,k.slots,k.tab];exact h.pl,by rw[k.slps,k.tab];exact h.slp,by rw[k.clk,k.tab];exact h.clk⟩
 rw[runOf_iff,k.ids,←runOf_iff,k.tab]
 exact h.has id
def TopC (M:Mach) (id:Int):Prop:= ∀r,runOf M.runs id=some r→(topF r).lib=false
theorem TopC.setF {M:Mach} {id:Int} (hn:(M.runs.map (·.id)).Nodup) (h:TopC M id) (i:Nat) (t:Option Int) (f:Frame):TopC (setF M i t f) id:=by
 intro r hr
 cases t with
 |none=>exact h r hr
 |some k=>
  unfold Kn.setF at hr
  simp only at hr
  cases e:runOf M.runs k with
  |none=>rw[e] at hr;exact h r hr
  |some r0=>
   rw[e] at hr
   simp only at hr
   have hid:=(runOf_mem e).2
   rw[runOf_setRun hn (r0:=r0) (by show runOf M.runs r0.id=some r0;rw[hid];exact e)] at hr
   split at hr
   ·rename_i hx
    have hx2:id=k:=hx.trans hid
    rw[←Option.some.inj hr]
    have:topF (withTop r0 { topF r0 with f:=f})={ topF r0 with f:=f}:=by
     unfold topF withTop;simp
    rw[this]
    exact h r0 (by rw[hx2];exact e)
   ·exact h r hr
end Go.Proofs.YtaangaogmnlljaaGreatDoor.Kn
