/- Part 7 of what the proof stands on: KnMem, KnGMap, FdMap, FdMd, FdMa, FdMb, FdMc, FdMe, KnTab, KnWq, KnRing, KnWqL, KnWqP, KnWqO, KnClk. -/
import Derived.Test.YtdlpmnmenhojfaaGreatDoorR02
import Derived.Test.YtdlpmnmenhojfaaGreatDoorR04
set_option linter.unusedVariables false
set_option maxHeartbeats 40000000
set_option maxRecDepth 100000
variable {zP:Prop}
namespace Go.Proofs.YtdlpmnmenhojfaaGreatDoor
open Go.IntKind renaming i64->Z,u64->J
open Go.Value renaming int->E,pointer->Y,slice->Sl
open Option renaming none->O,some->V
open Go.Obj renaming cells->Ce
open Go.Ending renaming returned->Rt
open Go.Proofs.Tryz renaming prog->Tp
namespace Kn
open Go.RowKit Asm
def Som (v:Value):Prop:= ∃t x,v= .iface t x
structure bM (m:Mem):Prop where
 len:m.ws.length=m.hs.length
 one:1≤m.hs.length
 most:m.hs.length≤65536
 w: ∀x∈m.ws,x=0∨x=32∨x=64
 h: ∀x∈m.hs,0≤x∧x<18446744073709551616
def zaz (l:List Int):Array Value:=(l.map fun x=>Value.int J x).toArray
def u8A (l:List Int):Array Value:=(l.map fun x=>Value.int .u8 x).toArray
structure Zn (w:World) (X gc gw:Nat) (m:Mem):Prop where
 ok:bM m
 obj: ∃th ct,w.heap[X]?=V (.cells #[Sl (V ⟨gc,0,O⟩) m.hs.length m.hs.length,Sl (V ⟨gw,0,O⟩) m.ws.length m.ws.length,E Z th,E Z ct] 298 (0,0))
 hs:w.heap[gc]?=V (.cells (zaz m.hs) 22 (0,0))
 ws:w.heap[gw]?=V (.cells (u8A m.ws) 5 (0,0))
theorem zfO (m:Mem) (h:bM m) (a:Int):m.width a=0∨m.width a=32∨m.width a=64:=by
 unfold Mem.width;rw[List.getD_eq_getElem?_getD];by_cases hl:a.toNat<m.ws.length
 ·rw[List.getElem?_eq_getElem hl];exact h.w _ (List.getElem_mem hl)
 ·rw[List.getElem?_eq_none Y1];exact Or.inl rfl
theorem za6 (m:Mem) (h:bM m) (a:Int):0≤m.held a∧m.held a<18446744073709551616:=by
 unfold Mem.held;rw[List.getD_eq_getElem?_getD];by_cases hl:a.toNat<m.hs.length
 ·rw[List.getElem?_eq_getElem hl];exact h.h _ (List.getElem_mem hl)
 ·rw[List.getElem?_eq_none Y1];exact ⟨by decide,by decide⟩
theorem zpR (m:Mem) (h:bM m) {a:Int} (h0:m.width a≠0):a.toNat<m.hs.length:=by
 unfold Mem.width at h0;rw[List.getD_eq_getElem?_getD] at h0;by_cases hl:a.toNat<m.ws.length
 ·rw[←h.len];exact hl
 ·rw[List.getElem?_eq_none Y1] at h0;exact absurd rfl h0
theorem zvu {m:Mem} (h:bM m) (a v:Int) (hv:0≤v∧v<18446744073709551616):bM (m.lay a v):=
 ⟨by simp[Mem.lay,h.len],by simp[Mem.lay,h.one],by simp[Mem.lay,h.most],h.w,fun x hx=>by
  rcases List.mem_or_eq_of_mem_set hx with h1|h1
  ·exact h.h x h1
  ·rw[h1];exact hv⟩
theorem Bw {l:List Int} {i:Nat} (h:i<l.length):(zaz l)[i]?=V (E J (l.getD i 0)):=by
 simp[zaz,h]
theorem zbs {l:List Int} {i:Nat} (h:i<l.length):(u8A l)[i]?=V (.int .u8 (l.getD i 0)):=by
 simp[u8A,h]
theorem zbq (l:List Int) (i:Nat) (v:Int):(zaz l).setIfInBounds i (E J v)=zaz (l.set i v):=by
 apply Array.ext';simp[zaz,List.map_set]
theorem ze {w:World} {g:Nat} {C:Array Value} {t:TypeId} (h:w.heap[g]?=V (.cells C t (0,0))) (i:Nat):w.cell? ⟨g,i,O⟩=C[i]?:=by
 simp[World.cell?,h]
theorem zF {w:World} {g:Nat} {C:Array Value} {t:TypeId} (h:w.heap[g]?=V (.cells C t (0,0))) (i:Nat):w.frozen? ⟨g,i,O⟩=false:=by
 simp[World.frozen?,h]
theorem zo {w:World} {g:Nat} {o:Obj} (h:w.heap[g]?=some o):g<w.heap.size:=(Array.getElem?_eq_some_iff.1 h).1
theorem zm {w:World} {p:Addr} {u:Value} {k:Nat} (h:k≠p.block):(w.setCell p u).heap[k]?=w.heap[k]?:=Below.heap_setCell _ _ _ _ h
theorem Zp {w:World} {g k:Nat} {C D:Array Value} {t u:TypeId} {f f':Nat×Nat} (h:w.heap[g]?=V (.cells C t f)) (h2:w.heap[k]?=V (.cells D u f')) (hn:t≠u):g≠k:=by
 intro e;rw[e,h2] at h;injection h with h
 injection h with _ h
 exact hn h.symm
theorem Zn.zk {w w':World} {X gc gw:Nat} {m:Mem} (h:Zn w X gc gw m) (e: ∀b,b=X∨b=gc∨b=gw→w'.heap[b]?=w.heap[b]?):Zn w' X gc gw m:=
 ⟨h.ok,by obtain ⟨t,c,ho⟩:=h.obj;exact ⟨t,c,(e X (Or.inl rfl)).trans ho⟩,(e gc (Or.inr (Or.inl rfl))).trans h.hs,(e gw (Or.inr (Or.inr rfl))).trans h.ws⟩
theorem Zn.lt {w:World} {X gc gw:Nat} {m:Mem} (h:Zn w X gc gw m):X<w.heap.size∧gc<w.heap.size∧gw<w.heap.size:=by
 obtain ⟨t,c,ho⟩:=h.obj;exact ⟨zo ho,zo h.hs,zo h.ws⟩
theorem Zn.ne {w:World} {X gc gw:Nat} {m:Mem} (h:Zn w X gc gw m):X≠gc∧X≠gw∧gc≠gw:=by
 obtain ⟨t,c,ho⟩:=h.obj;exact ⟨Zp ho h.hs Y2,Zp ho h.ws Y2,Zp h.hs h.ws Y2⟩
theorem zab (n k:Int) (w:World):Calls Tp 144 #[E Z n, .iface 48 (E Z k)] w fun e w'=>(∃v,e= .returned v∧Som v)∧Below w.heap.size w w':=by
 go_enter Tryz.func144,Tryz.ntmps144;exact J75
theorem zdr {w:World} {X gc gw:Nat} {m:Mem} (h:Zn w X gc gw m) (a:Int) (ha:0≤a∧a<18446744073709551616):
  Calls Tp 211 #[Y (V ⟨X,0,O⟩),E J a] w fun e w'=>e=Rt (E Z (m.width a))∧w=w':=by
 obtain ⟨k,rfl⟩:=Int.eq_ofNat_of_zero_le ha.1;obtain ⟨t,c,ho⟩:=h.obj;obtain ⟨n,hn⟩: ∃n,n=m.hs.length:=⟨_,rfl⟩;have hws:=h.ws;have hlen:=h.ok.len;have aR:=h.ok.most;have c0:w.cell? ⟨X,0,O⟩=V (Sl (V ⟨gc,0,O⟩) n n):=by rw[ze ho,hn];rfl
 have c1:w.cell? ⟨X,1,O⟩=V (Sl (V ⟨gw,0,O⟩) n n):=by rw[ze ho,hn,←hlen];rfl
 have hw:m.width (k:Int)=m.ws.getD k 0:=rfl;have hr:=zfO m h.ok k;rw[hw] at hr ⊢;by_cases hk:k<n
 ·have dL:(k:Int)<(n:Int):=Y1;have dV:(n:Int)≤65536:=Y1;have c2:w.cell? ⟨gw,k,O⟩=V (.int .u8 (m.ws.getD k 0)):=by rw[ze hws];exact zbs Y1
  generalize m.ws.getD k 0=x at*;have hxr:0≤x∧x≤64:=Y1;clear ho hws hlen aR hw hr h hn ha;exact zwK
 ·have dL:(n:Int)≤(k:Int):=Y1;have dV:(n:Int)≤65536:=Y1;have hx:m.ws.getD k 0=0:=by rw[List.getD_eq_getElem?_getD,List.getElem?_eq_none Y1];rfl
  rw[hx];clear ho hws hlen aR hw hr h hn hx;exact zwK
open Go.RowKit Go.Maps Asm
def VU (k:Int):Prop:=0≤k∧k<18446744073709551616
theorem wf_u64 {k:Int} (h:VU k):(Lit.int J k).wf=true:=by
 unfold VU at h;have h1:IntKind.u64.min=0:=Y2;have h2:IntKind.u64.max=18446744073709551615:=Y2;simp[Lit.wf];omega
structure Reads (γ:Type) where
 val:γ→Value
 dat:γ→DataW Unit
 R:Value→Option (DataW Unit×List MemPlace)
 zv:Value
 zd:DataW Unit
 hR: ∀c,R (val c)=V (dat c,[])
 hI: ∀v c ps,R v=V (dat c,ps)→v=val c
 hZ:R zv=V (zd,[])
 hZI: ∀v ps,R v=V (zd,ps)→v=zv
def zd0 {γ:Type} (f:Int→Option γ) (k:Int) (c:γ):Int→Option γ:=fun x=>if x=k then some c else f x
def zm1 {γ:Type} (f:Int→Option γ) (k:Int):Int→Option γ:=fun x=>if x=k then none else f x
section
variable {γ:Type} {S:Reads γ}
def Zl (S:Reads γ) (w:World) (mb:Nat) (f:Int→Option γ) (N:Nat):Prop:=
 ∃(D:DataW Unit) (n:Nat),w.ownsMap Tp 22 S.R mb n D∧n≤N∧ ∀k:Int,VU k→Maps.has D (.int J k)=(f k).isSome∧ ∀c,f k=some c→D.atKey (.int J k) S.zd=S.dat c
theorem Jt:Keyed Tp 22:=int_keyed Tryz.underlying22
theorem zaJ {a b:Int} (h:a≠b):(Lit.int J a)≠Lit.int J b:=fun e=>h Y18
theorem Zl.lt {w:World} {mb:Nat} {f:Int→Option γ} {N:Nat} (h:Zl S w mb f N):mb<w.heap.size:=by obtain ⟨_,_,h,_⟩:=h;exact h.lt
theorem Zl.isMap {w:World} {mb:Nat} {f:Int→Option γ} {N:Nat} (h:Zl S w mb f N): ∃es c,w.heap[mb]?=V (.map es c):=by
 obtain ⟨_,_,⟨es,c,h,_⟩,_⟩:=h;exact ⟨es,c,h⟩
theorem Zl.of_block {w w':World} {mb:Nat} {f:Int→Option γ} {N:Nat} (h:Zl S w mb f N) (e:w'.heap[mb]?=w.heap[mb]?):Zl S w' mb f N:=by
 obtain ⟨D,n,⟨es,c,h1,h2,h3,h4⟩,h5,h6⟩:=h;exact ⟨D,n,⟨es,c,e.trans h1,h2,h3,h4⟩,h5,h6⟩
theorem Zl.mono {w:World} {mb:Nat} {f:Int→Option γ} {N N':Nat} (h:Zl S w mb f N) (hN:N≤N'):Zl S w mb f N':=by
 obtain ⟨D,n,h1,h2,h3⟩:=h;exact ⟨D,n,h1,by omega,h3⟩
theorem Zl.same {w:World} {mb:Nat} {f g:Int→Option γ} {N:Nat} (h:Zl S w mb f N) (e: ∀k,VU k→g k=f k):Zl S w mb g N:=by
 obtain ⟨D,n,h1,h2,h3⟩:=h;exact ⟨D,n,h1,h2,fun k hk=>by rw[e k hk];exact h3 k hk⟩
theorem Zl.made (w:World):Zl S (w.alloc (.map #[] 0)) w.heap.size (fun _=>none) 0:=
 ⟨.map [],0,World.ownsMap_made w _ _ _,Nat.le_refl _,fun k _=>⟨rfl,fun c hc=>by cases hc⟩⟩
theorem Zl.look {w:World} {mb:Nat} {f:Int→Option γ} {N:Nat} (h:Zl S w mb f N) {t e:TypeId} (ht:Tryz.prog.underlying t=V (.map 22 e)) (hz:(zeroValue e).run Tp w= .ok S.zv w) {k:Int} (hk:VU k):
  (Instr.lookup t (.map (some mb)) (E J k) false).run Tp w= .ok (match f k with|some c=>S.val c|none=>S.zv) w:=by
 obtain ⟨D,n,h1,h2,h3⟩:=h
 obtain ⟨v,ps,hrun,hv⟩:=h1.lookup Jt ht hz S.hZ (keyOf_int_mk Tryz.underlying22 (wf_u64 hk))
 obtain ⟨e1,e2⟩:=h3 k hk
 rw[hrun]
 cases hf:f k with
 |some c=>rw[e2 c hf] at hv;rw[S.hI _ _ _ hv]
 |none=>
  rw[hf] at e1
  rw[atKey_of_not_has e1] at hv
  rw[S.hZI _ _ hv]
theorem Zl.store {w:World} {mb:Nat} {f:Int→Option γ} {N:Nat} (h:Zl S w mb f N) (hN:N<maxLen) {t e:TypeId} (ht:Tryz.prog.underlying t=V (.map 22 e)) {k:Int} (hk:VU k) (c:γ):
  ∃w',(Instr.mapUpdate t (.map (some mb)) (E J k) (S.val c)).run Tp w= .ok () w'∧Zl S w' mb (zd0 f k c) (N+1)∧w.mapTurned w' mb:=by
 obtain ⟨D,n,h1,h2,h3⟩:=h;obtain ⟨w',hrun,ho,hturn⟩:=h1.store Jt ht (Nat.lt_of_le_of_lt h2 hN) (keyOf_int_mk Tryz.underlying22 (wf_u64 hk)) (S.hR c);refine ⟨w',hrun,⟨_,n+1,ho,by omega,fun k' hk'=>?_⟩,hturn⟩;by_cases e:k'=k
 ·subst e;refine ⟨by rw[has_put_same (k:=Lit.int J k') h1.isMap trivial];simp[zd0],fun j hj=>?_⟩;rw[atKey_put_same (k:=Lit.int J k') h1.isMap trivial];simp[zd0] at hj;subst hj;rfl
 ·have:=h3 k' hk';rw[has_put_other (zaJ e),atKey_put_other (zaJ e)];simp only[zd0,if_neg e];exact this
theorem Zl.drop {w:World} {mb:Nat} {f:Int→Option γ} {N:Nat} (h:Zl S w mb f N) {t e:TypeId} (ht:Tryz.prog.underlying t=V (.map 22 e)) {k:Int} (hk:VU k) (ty:TypeId):
  ∃w',(Builtin.delete_ #[t,22] ty #[.map (some mb),E J k]).run Tp w= .ok (.tuple #[]) w'∧Zl S w' mb (zm1 f k) N∧w.mapTurned w' mb:=by
 obtain ⟨D,n,h1,h2,h3⟩:=h;obtain ⟨w',hrun,ho,hturn⟩:=h1.drop Jt ht (keyOf_int_mk Tryz.underlying22 (wf_u64 hk)) ty;refine ⟨w',hrun,⟨_,n,ho,h2,fun k' hk'=>?_⟩,hturn⟩;by_cases e:k'=k
 ·subst e;exact ⟨by rw[has_del_same];simp[zm1],fun j hj=>by simp[zm1] at hj⟩
 ·have:=h3 k' hk';rw[has_del_other (zaJ e),atKey_del_other (zaJ e)];simp only[zm1,if_neg e];exact this
end
def zux:Value→Option (DataW Unit×List MemPlace)
 | Y none=>some (.lit (.int Z (-1)),[])
 | Y (V ⟨b,0,O⟩)=>some (.lit (.int Z b),[])
 |_=>none
theorem zbS {v:Value} {d:DataW Unit} {ps:List MemPlace} (h:zux v=V (d,ps)):(v=Y none∧d= .lit (.int Z (-1)))∨ ∃b:Nat,v=Y (V ⟨b,0,O⟩)∧d= .lit (.int Z b):=by
 unfold zux at h;split at h
 ·injection h with h;injection h with h _;exact Or.inl ⟨rfl,h.symm⟩
 ·injection h with h;injection h with h _;exact Or.inr ⟨_,rfl,h.symm⟩
 ·cases h
def ptrs:Reads Nat where
 val b:=Y (V ⟨b,0,O⟩)
 dat b:= .lit (.int Z b)
 R:=zux
 zv:=Y none
 zd:= .lit (.int Z (-1))
 hR _:=rfl
 hI v c ps h:=by
  rcases zbS h with ⟨_,h1⟩ |⟨b,rfl,h1⟩
  ·have:(c:Int)= -1:=by simp at h1
   omega
  ·have:(c:Int)=(b:Int):=by simpa using h1
   have:b=c:=Y1
   rw[this]
 hZ:=rfl
 hZI v ps h:=by
  rcases zbS h with ⟨rfl,_⟩ |⟨b,_,h1⟩
  ·rfl
  ·have:(-1:Int)=(b:Int):=by simp at h1
   omega
open Go.RowKit Go.Maps Asm
open Go.WideElems (rd_key rg_of)
def ztV:Value→Option (DataW Unit×List MemPlace)
 | E Z c=>some (.lit (.int Z c),[])
 |_=>none
theorem zjB {v:Value} {c:Int} {ps:List MemPlace} (h:ztV v=V (.lit (.int Z c),ps)):v=E Z c:=by
 unfold ztV at h;split at h
 ·injection h with h
  injection h with h _
  injection h with h
  injection h with _ h
  rw[h]
 ·cases h
def ints:Reads Int where
 val c:=E Z c
 dat c:= .lit (.int Z c)
 R:=ztV
 zv:=E Z 0
 zd:= .lit (.int Z 0)
 hR _:=rfl
 hI _ _ _ h:=zjB h
 hZ:=rfl
 hZI _ _ h:=zjB h
def oneG {γ:Type} (a:Int) (c:γ):Int→Option γ:=fun k=>if k=a then some c else none
theorem zo3 {k:Int} (h:(Lit.int J k).wf=true):VU k:=by
 have h1:IntKind.u64.min=0:=Y2;have h2:IntKind.u64.max=18446744073709551615:=Y2;simp[Lit.wf] at h;unfold VU;omega
section
variable {γ:Type} {S:Reads γ} {w w':World} {mb r:Nat} {a:Int} {c:γ} {b:Bool}
def Rng (S:Reads γ) (w:World) (mb r:Nat) (a:Int) (c:γ) (b:Bool):Prop:=
 ∃(D:DataW Unit) (n:Nat) (left:Lit→Bool) (cnt:Nat),w.ranges Tp 22 S.R mb r n D left cnt∧(∀k:Int,VU k→left (.int J k)=(b&&decide (k=a)))∧(∀kl,left kl=true→ ∃k,kl= .int J k∧VU k)∧D.atKey (.int J a) S.zd=S.dat c
theorem zp5 {D:DataW Unit} {n cnt:Nat} {left:Lit→Bool} (h:w.ranges Tp 22 S.R mb r n D left cnt) {kl:Lit} (hk:left kl=true): ∃k,kl= .int J k∧VU k:=by
 obtain ⟨es,clock,since,seen,c0,hb,F,hs,hD,hr,hold,hc,hl1,hl2,-⟩:=h;obtain ⟨x,hx,rfl⟩:=hl2 kl hk;obtain ⟨y,hy⟩:=F.reads x hx;obtain ⟨q,-,q2,q3⟩:=keyOf_int_inv Tryz.underlying22 (rd_key hy);exact ⟨q,by rw[rg_of hy];exact q2,zo3 q3⟩
theorem Zl.range {N:Nat} (h:Zl S w mb (oneG a c) N) (ha:VU a) {t e:TypeId} (ht:Tryz.prog.underlying t=V (.map 22 e)):
  ∃w',(Instr.range t (.map (some mb))).run Tp w= .ok (Y (V ⟨w.heap.size,0,O⟩)) w'∧Rng S w' mb w.heap.size a c true∧w.grownBy w' none∧w'.heap.size=w.heap.size+1:=by
 obtain ⟨D,n,h1,-,h3⟩:=h;obtain ⟨w',hrun,hr,hg,hs⟩:=h1.range Jt ht;refine ⟨w',hrun,⟨D,n,_,_,hr,fun k hk=>?_,fun kl hk=>zp5 hr hk,(h3 a ha).2 c (by unfold oneG;rw[if_pos rfl])⟩,hg,hs⟩;rw[(h3 k hk).1];unfold oneG;by_cases e:k=a
 ·rw[if_pos e];simp[e]
 ·rw[if_neg e];simp[e]
theorem Rng.next (h:Rng S w mb r a c true) (ha:VU a) (ty:TypeId):
  ∃w',(Instr.next (Y (V ⟨r,0,O⟩)) false ty).run Tp w= .ok (.tuple #[.bool true,E J a,S.val c]) w'∧Rng S w' mb r a c false∧w.grownBy w' (some r)∧w'.heap.size=w.heap.size∧
   (Instr.entry (Y (V ⟨r,0,O⟩))).run Tp w'= .ok (.tuple #[E J a,S.val c]) w':=by
 obtain ⟨D,n,left,cnt,h1,h2,h3,h4⟩:=h;rcases h1.next Jt ty with ⟨-,h0,-⟩ |⟨key,v,kl,y,w',cnt',hkey,hlk,hv,hat,hrun,hrg,-,hgr,hsz,hen⟩
 ·have:=h2 a ha;rw[h0] at this;simp at this
 ·obtain ⟨x,rfl,rfl,hwf⟩:=keyOf_int_inv Tryz.underlying22 hkey;have hx:=h2 x (zo3 hwf);rw[hlk] at hx;have e:x=a:=by simpa using hx.symm
  subst e;have hy:y=(S.dat c,y.2):=Prod.ext ((hat S.zd).symm.trans h4) rfl;rw[hy] at hv;have ev:=S.hI _ _ _ hv;subst ev;refine ⟨w',hrun,⟨D,n,_,cnt',hrg,fun k hk=>?_,fun kl hk=>h3 kl (by simp at hk;exact hk.1),h4⟩,hgr,hsz,hen⟩;rw[Bool.false_and];by_cases e:k=x
  ·rw[e,WideAt.sameKey_self (a:=Lit.int J x) trivial];simp
  ·rw[h2 k hk];simp[e]
theorem Rng.done (h:Rng S w mb r a c false) (ty:TypeId):(Instr.next (Y (V ⟨r,0,O⟩)) false ty).run Tp w= .ok (.tuple #[.bool false]) w:=by
 obtain ⟨D,n,left,cnt,h1,h2,h3,h4⟩:=h;rcases h1.next Jt ty with ⟨-,-,hrun⟩ |⟨key,v,kl,y,w',cnt',hkey,hlk,-⟩
 ·exact hrun
 ·obtain ⟨k,rfl,hk⟩:=h3 kl hlk;rw[h2 k hk] at hlk;simp at hlk
theorem Rng.zk (h:Rng S w mb r a c b) (e1:w'.heap[mb]?=w.heap[mb]?) (e2:w'.heap[r]?=w.heap[r]?):Rng S w' mb r a c b:=by
 obtain ⟨D,n,left,cnt,⟨es,clock,since,seen,c0,hb,F,hs,hD,hr,rest⟩,h2⟩:=h;exact ⟨D,n,left,cnt,⟨es,clock,since,seen,c0,e1.trans hb,F,hs,hD,e2.trans hr,rest⟩,h2⟩
theorem Rng.lt (h:Rng S w mb r a c b):r<w.heap.size:=by
 obtain ⟨D,n,left,cnt,h1,h2⟩:=h;exact h1.lt
end
end Kn
namespace Kn
open Go.RowKit Go.Maps Asm
structure MB where
 M:Nat
 tm:Nat
 om:Nat
 hm:Nat
 cm:Nat
 T:Nat
 C:Nat
 L:Nat
 c:Nat
 aA:Nat
def MB.l (B:MB):List Nat:= [B.M,B.tm,B.om,B.hm,B.T,B.C,B.L,B.aA]
def zAr (B:MB) (t:Int) (u:Bool):Array Value:=#[E J 5,E J 3,E J 4,E J t, .map (some B.cm), .map (some B.tm), .map (some B.om), .map (some B.hm), .bool u]
def Bo (lv:Value):Array Value:=#[E J 64, .bool true, .bool false, .bool false, .bool false,E J 0,E J 0,lv]
def vX (num a0 a1 bg k0 ph v:Int) (lost:Bool):Array Value:=#[E Z num,E J a0,E J a1,E J 0,E J 0,E J bg,E Z k0,E Z 0,E Z 0,E Z 0,E Z ph, .bool false,E J 0,E J v,E J 0, .bool lost,E J a0,E J 0, .bool false, .bool false, .bool false,E Z 0]
def zuF (bg ph v:Int):Array Value:=vX 10 0 0 bg 0 ph v true
def zdd:Array Value:=#[E Z 1,E J 0,E J 0,E Z 0,E J 0,E Z 0,E J 0, .map none,E Z 0]
def zbj (B:MB) (s:Nat):Value:=if s=0 then Sl none 0 0 else if s=3 then Sl (V ⟨B.L,0,O⟩) 0 B.c else Sl (V ⟨B.L,0,O⟩) 1 B.c
def zjH (B:MB) (s:Nat):Int→Option Nat:=if s<2 then fun _=>none else oneG 1 B.aA
def zzu (s:Nat):Int→Option Int:=if s<2 then fun _=>none else oneG 1 1
structure ZG (w:World) (B:MB) (s:Nat) (t:Int):Prop where
 obj:w.heap[B.M]?=V (.cells (zAr B t false) 149 (0,0))
 thr:Zl ptrs w B.tm (oneG 64 B.T) 1
 objs:Zl ptrs w B.om (zjH B s) (s+1)
 had:Zl ints w B.hm (zzu s) (s+1)
 T:w.heap[B.T]?=V (.cells (Bo (zbj B s)) 153 (0,0))
 C:s=1∨s=2→w.cell? ⟨B.L,0,O⟩=V (Y (V ⟨B.C,0,O⟩))∧ ∃bg,w.heap[B.C]?=V (.cells (zuF bg (if s=1 then 0 else 5) (if s=1 then 0 else 1)) 159 (0,0))
 aA:2≤s→w.heap[B.aA]?=V (.cells zdd 165 (0,0))
 ne:B.tm≠B.om∧B.tm≠B.hm∧B.om≠B.hm
 lt: ∀b∈B.l,b<w.heap.size
 time:0≤t∧t<1000000
 cap:s=1∨s=2→1≤B.c
theorem ZI {w:World} {C:Nat} {num a0 a1 bg k0 ph v:Int} {lost:Bool} (h:w.heap[C]?=V (.cells (vX num a0 a1 bg k0 ph v lost) 159 (0,0))):
  w.cell? ⟨C,0,O⟩=V (E Z num)∧w.cell? ⟨C,1,O⟩=V (E J a0)∧w.cell? ⟨C,2,O⟩=V (E J a1)∧w.cell? ⟨C,3,O⟩=V (E J 0)∧w.cell? ⟨C,4,O⟩=V (E J 0)∧
  w.cell? ⟨C,5,O⟩=V (E J bg)∧w.cell? ⟨C,6,O⟩=V (E Z k0)∧w.cell? ⟨C,7,O⟩=V (E Z 0)∧w.cell? ⟨C,8,O⟩=V (E Z 0)∧w.cell? ⟨C,9,O⟩=V (E Z 0)∧
  w.cell? ⟨C,10,O⟩=V (E Z ph)∧w.cell? ⟨C,11,O⟩=V (.bool false)∧w.cell? ⟨C,12,O⟩=V (E J 0)∧w.cell? ⟨C,13,O⟩=V (E J v)∧w.cell? ⟨C,14,O⟩=V (E J 0)∧w.cell? ⟨C,15,O⟩=V (.bool lost)∧ ∀o,w.frozen? ⟨C,o,O⟩=false:=
 ⟨ze h 0,ze h 1,ze h 2,ze h 3,ze h 4,ze h 5,ze h 6,ze h 7,ze h 8,ze h 9,ze h 10,ze h 11,ze h 12,ze h 13,ze h 14,ze h 15,fun o=>zF h o⟩
theorem zbH {w:World} {aA:Nat} (h:w.heap[aA]?=V (.cells zdd 165 (0,0))):
  w.cell? ⟨aA,0,O⟩=V (E Z 1)∧w.cell? ⟨aA,1,O⟩=V (E J 0)∧w.cell? ⟨aA,2,O⟩=V (E J 0):=⟨ze h 0,ze h 1,ze h 2⟩
theorem zty (w:World):(zeroValue 3).run Tp w= .ok (E Z 0) w:=Y4
theorem zqE (w:World):(zeroValue 150).run Tp w= .ok (Y none) w:=Y4
theorem zpu (w:World):(zeroValue 161).run Tp w= .ok (Y none) w:=Y4
section
variable {w w':World} {B:MB} {s:Nat} {t:Int}
theorem ZG.cells (h:ZG w B s t):w.cell? ⟨B.M,0,O⟩=V (E J 5)∧w.cell? ⟨B.M,1,O⟩=V (E J 3)∧w.cell? ⟨B.M,2,O⟩=V (E J 4)∧w.cell? ⟨B.M,3,O⟩=V (E J t)∧
  w.cell? ⟨B.M,5,O⟩=V (.map (some B.tm))∧w.cell? ⟨B.M,6,O⟩=V (.map (some B.om))∧w.cell? ⟨B.M,7,O⟩=V (.map (some B.hm))∧w.cell? ⟨B.M,8,O⟩=V (.bool false)∧ ∀o,w.frozen? ⟨B.M,o,O⟩=false:=
 ⟨ze h.obj 0,ze h.obj 1,ze h.obj 2,ze h.obj 3,ze h.obj 5,ze h.obj 6,ze h.obj 7,ze h.obj 8,fun o=>zF h.obj o⟩
theorem ZG.ZR (h:ZG w B s t):w.cell? ⟨B.T,0,O⟩=V (E J 64)∧w.cell? ⟨B.T,1,O⟩=V (.bool true)∧w.cell? ⟨B.T,2,O⟩=V (.bool false)∧w.cell? ⟨B.T,7,O⟩=V (zbj B s)∧ ∀o,w.frozen? ⟨B.T,o,O⟩=false:=
 ⟨ze h.T 0,ze h.T 1,ze h.T 2,ze h.T 7,fun o=>zF h.T o⟩
theorem ZG.KF (h:ZG w B s t):(Instr.lookup 146 (.map (some B.tm)) (E J 64) false).run Tp w= .ok (Y (V ⟨B.T,0,O⟩)) w:=h.thr.look Tryz.underlying146 (zqE w) (k:=64) Y14
theorem ZG.zcr (h:ZG w B s t) {k:Int} (hk:VU k) (hn:k≠64):(Instr.lookup 146 (.map (some B.tm)) (E J k) false).run Tp w= .ok (Y none) w:=by
 have:=h.thr.look Tryz.underlying146 (zqE w) hk;rw[show oneG (64:Int) B.T k=none from if_neg hn] at this;exact this
theorem ZG.zk (h:ZG w B s t) (hs:w.heap.size≤w'.heap.size) (e: ∀b∈B.l,w'.heap[b]?=w.heap[b]?):ZG w' B s t:=by
 have m: ∀{b},b∈B.l→w'.heap[b]?=w.heap[b]?:=fun hb=>e _ hb;refine ⟨(m Y13).trans h.obj,h.thr.of_block (m Y13),h.objs.of_block (m Y13),h.had.of_block (m Y13),(m Y13).trans h.T,fun q=>?_,fun q=>(m Y13).trans (h.aA q),h.ne,fun b hb=>Nat.lt_of_lt_of_le (h.lt b hb) hs,h.time,h.cap⟩;obtain ⟨h1,bg,h2⟩:=h.C q;exact ⟨(World.cell?_of_block (a:=⟨B.L,0,O⟩) (m Y13)).trans h1,bg,(m Y13).trans h2⟩
theorem ZG.below (h:ZG w B s t) (hb:Below w.heap.size w w'):ZG w' B s t:=h.zk hb.size fun b q=>hb.block b (h.lt b q)
theorem ZG.keeps {X:Nat→Prop} (h:ZG w B s t) (k:Keeps X w w') (hX: ∀b∈B.l,¬X b):ZG w' B s t:=h.zk k.size fun b q=>k.block b (h.lt b q) (hX b q)
def vg (w:World) (B:MB) (s:Nat) (t:Int) (w':World):Prop:=
 ∃B',ZG w' B' s t∧B'.M=B.M∧Keeps (fun b=>b∈B.l) w w'∧ ∀b∈B'.l,b∈B.l∨w.heap.size≤b
end
theorem zrp (w:World):Calls Tp 52 #[Y none] w fun e w'=>e=Rt (Y none)∧w'=w:=by
 exact zxK
theorem zf2 {w:World} {T c:Nat} {A:Option Addr} (h:w.cell? ⟨T,7,O⟩=V (.slice A 0 c)):Calls Tp 52 #[Y (V ⟨T,0,O⟩)] w fun e w'=>e=Rt (Y none)∧w'=w:=by
 exact zxK
theorem zbC {w:World} {T L C c:Nat} (h:w.cell? ⟨T,7,O⟩=V (Sl (V ⟨L,0,O⟩) 1 c)) (h2:w.cell? ⟨L,0,O⟩=V (Y (V ⟨C,0,O⟩))):Calls Tp 52 #[Y (V ⟨T,0,O⟩)] w fun e w'=>e=Rt (Y (V ⟨C,0,O⟩))∧ ∃m,w'=w.drewN m:=by
 go_enter Tryz.func52,Tryz.ntmps52;go_wp2_with fail;go_region;go_wp2_with fail;go_ret;exact ⟨rfl,1,rfl⟩
theorem zri {w:World} {M C:Nat} (h:w.cell? ⟨C,0,O⟩=V (E Z 10)):Calls Tp 53 #[Y (V ⟨M,0,O⟩),Y (V ⟨C,0,O⟩)] w fun e w'=>e=Rt (.bool false)∧w'=w:=by
 go_enter Tryz.func53,Tryz.ntmps53;go_wp2_with fail;go_ret;exact ⟨rfl,rfl⟩
theorem zdE {w:World} {M C i:Nat} (hi:i<4) (h:w.cell? ⟨C,6+i,O⟩=V (E Z 0)):Calls Tp 54 #[Y (V ⟨M,0,O⟩),Y (V ⟨C,0,O⟩),E Z (i:Int)] w fun e w'=>e=Rt (Y none)∧w'=w:=by
 have dH:(0:Int)≤(i:Int)∧(i:Int)<4:=Y1;go_enter Tryz.func54,Tryz.ntmps54;go_wp2_with fail;go_ret;exact ⟨rfl,rfl⟩
theorem zbz {w:World} {M C om aA:Nat} (h:w.cell? ⟨C,6,O⟩=V (E Z 1)) (ha:w.cell? ⟨C,1,O⟩=V (E J 1)) (hm:w.cell? ⟨M,6,O⟩=V (.map (some om))) (hl:(Instr.lookup 147 (.map (some om)) (E J 1) false).run Tp w.drew= .ok (Y (V ⟨aA,0,O⟩)) w.drew) (ho:w.cell? ⟨aA,0,O⟩=V (E Z 1)):
  Calls Tp 54 #[Y (V ⟨M,0,O⟩),Y (V ⟨C,0,O⟩),E Z 0] w fun e w'=>e=Rt (Y (V ⟨aA,0,O⟩))∧ ∃m,w'=w.drewN m:=by
 go_enter Tryz.func54,Tryz.ntmps54;go_wp2_with fail;go_region;go_wp2_with fail;go_ret;exact ⟨rfl,1,rfl⟩
section
variable {w:World} {B:MB} {s:Nat} {t:Int}
theorem zjf (B:MB) {s:Nat} (hs:s=0∨s=3): ∃A c,zbj B s= .slice A 0 c:=by
 rcases hs with rfl|rfl
 ·exact ⟨_,_,rfl⟩
 ·exact ⟨_,_,rfl⟩
theorem ziG (B:MB) {s:Nat} (hs:s=1∨s=2):zbj B s=Sl (V ⟨B.L,0,O⟩) 1 B.c:=by
 rcases hs with rfl|rfl<;>rfl
theorem zj9 (h:ZG w B s t) (hs:s≤3):Calls Tp 23 #[Y (V ⟨B.M,0,O⟩),E J 64] w fun e w'=>e=Rt (.bool true)∧ ∃m,w'=w.drewN m:=by
 obtain ⟨-,-,-,-,m5,-,-,-,-⟩:=h.cells;obtain ⟨-,t1,-,t7,-⟩:=h.ZR;have hlk:=h.KF;have La:(s=0∨s=3)∨(s=1∨s=2):=Y1;rcases La with La|h12
 ·obtain ⟨A,c,e⟩:=zjf B La;rw[e] at t7;have HT:=Y0 (zf2 t7);clear h;go_enter Tryz.func23,Tryz.ntmps23;go_wp2_with fail;refine HT.out.mono ?_;rintro e w1 ⟨rfl,rfl⟩;go_wp2_with fail;go_ret;exact ⟨rfl,0,rfl⟩
 ·rw[ziG B h12] at t7;obtain ⟨l0,bg,hC⟩:=h.C h12;obtain ⟨c0,-,-,-,-,-,c6,-,-,-,c10,-,-,-,c14,-,-⟩:=ZI hC;have HT:=Y0 (zbC t7 l0);have HL:=Y0 (fun m=>zri (w:=w.drewN m) (M:=B.M) c0);have HO:=Y0 (fun m=>zdE (w:=w.drewN m) (M:=B.M) (i:=0) Y2 c6);clear h hC;rcases h12 with rfl|rfl
  ·go_enter Tryz.func23,Tryz.ntmps23;go_wp2_with fail;refine HT.out.mono ?_;rintro e w1 ⟨rfl,m1,rfl⟩;go_wp2_with fail;refine (HL.out _).mono ?_;rintro e w2 ⟨rfl,rfl⟩;go_wp2_with fail;refine (HO.out m1).mono ?_;rintro e w3 ⟨rfl,rfl⟩;go_wp2_with fail;go_ret;exact ⟨rfl,_,rfl⟩
  ·go_enter Tryz.func23,Tryz.ntmps23;go_wp2_with fail;refine HT.out.mono ?_;rintro e w1 ⟨rfl,m1,rfl⟩;go_wp2_with fail;go_ret;exact ⟨rfl,_,rfl⟩
end
theorem zsa (a:Addr) (w:World):(binOp .eql 150 (Y (some a)) (Y (some a))).run Tp w= .ok (.bool true) w:=by
 have hi:(Tryz.prog.info? 153).isSome=true:=Y4;obtain ⟨j,hj⟩:=Option.isSome_iff_exists.1 hi;exact run_eql_ptr_same w a Tryz.underlying150 hj
section
variable {w:World} {B:MB} {s:Nat} {t:Int}
theorem zfy {T c:Nat} {A:Option Addr} (h1:w.cell? ⟨T,1,O⟩=V (.bool true)) (h2:w.cell? ⟨T,2,O⟩=V (.bool false)) (h7:w.cell? ⟨T,7,O⟩=V (.slice A 0 c)):Calls Tp 120 #[Y (V ⟨T,0,O⟩)] w fun e w'=>e=Rt (.bool true)∧w'=w:=by
 have HT:=Y0 (zf2 h7);clear h7;go_enter Tryz.func120,Tryz.ntmps120;go_wp2_with fail;refine HT.out.mono ?_;exact J96
theorem zcn {M tm:Nat} {id:Int} (hm:w.cell? ⟨M,5,O⟩=V (.map (some tm))) (hl:(Instr.lookup 146 (.map (some tm)) (E J id) false).run Tp w= .ok (Y none) w):
  Calls Tp 122 #[Y (V ⟨M,0,O⟩),E J id] w fun e w'=>e=Rt (E J 0)∧w'=w:=by
 go_enter Tryz.func122,Tryz.ntmps122;go_wp2_with fail;go_ret;exact ⟨rfl,rfl⟩
theorem zoZ {C M T:Nat} {v:Int} (h0:w.cell? ⟨C,0,O⟩=V (E Z 10)) (hv:w.cell? ⟨C,13,O⟩=V (E J v)):
  Calls Tp 189 #[Y (V ⟨M,0,O⟩),Y (V ⟨T,0,O⟩),Y (V ⟨C,0,O⟩),E J v] w fun e w'=>e=Rt (.bool true)∧w'=w:=by
 go_enter Tryz.func189,Tryz.ntmps189;go_wp2_with fail;go_ret;exact ⟨by simp,rfl⟩
theorem zrR {C M T:Nat} (h0:w.cell? ⟨C,0,O⟩=V (E Z 10)) (hp:w.cell? ⟨C,10,O⟩=V (E Z 5)):
  Calls Tp 188 #[Y (V ⟨M,0,O⟩),Y (V ⟨T,0,O⟩),Y (V ⟨C,0,O⟩)] w fun e w'=>e=Rt (.bool true)∧w'=w:=by
 go_enter Tryz.func188,Tryz.ntmps188;go_wp2_with fail;go_ret;exact ⟨rfl,rfl⟩
theorem ziw {C M T:Nat} {v:Int} (h0:w.cell? ⟨C,0,O⟩=V (E Z 10)) (hp:w.cell? ⟨C,10,O⟩=V (E Z 5)) (hv:w.cell? ⟨C,13,O⟩=V (E J v)) (ho:w.cell? ⟨C,14,O⟩=V (E J 0)):
  Calls Tp 124 #[Y (V ⟨M,0,O⟩),Y (V ⟨T,0,O⟩),Y (V ⟨C,0,O⟩),E J 0,E J v] w fun e w'=>e=Rt (.bool true)∧w'=w:=by
 have HF:=Y0 (zrR (M:=M) (T:=T) h0 hp);have HV:=Y0 (zoZ (M:=M) (T:=T) h0 hv);go_enter Tryz.func124,Tryz.ntmps124;go_wp2_with fail;refine HF.out.mono ?_;rintro e w1 ⟨rfl,rfl⟩;go_wp2_with fail;refine HV.out.mono ?_;rintro e w2 ⟨rfl,rfl⟩;go_wp2_with fail;go_ret;exact ⟨rfl,rfl⟩
theorem zxq {C M:Nat} (h6:w.cell? ⟨C,6,O⟩=V (E Z 0)) (h7:w.cell? ⟨C,7,O⟩=V (E Z 0)) (h8:w.cell? ⟨C,8,O⟩=V (E Z 0)) (h9:w.cell? ⟨C,9,O⟩=V (E Z 0)):
  Calls Tp 185 #[Y (V ⟨M,0,O⟩),Y (V ⟨C,0,O⟩)] w fun e w'=>e=Rt (.bool false)∧w'=w:=by
 have x0: ∀(W:World),(Instr.index 121 (.agg #[E Z 0,E Z 0,E Z 0,E Z 0]) (E Z (0:Int))).run Tp W= .ok (E Z 0) W:=fun W=>by kernel_rfl
 have x1: ∀(W:World),(Instr.index 121 (.agg #[E Z 0,E Z 0,E Z 0,E Z 0]) (E Z (1:Int))).run Tp W= .ok (E Z 0) W:=fun W=>by kernel_rfl
 have x2: ∀(W:World),(Instr.index 121 (.agg #[E Z 0,E Z 0,E Z 0,E Z 0]) (E Z (2:Int))).run Tp W= .ok (E Z 0) W:=fun W=>by kernel_rfl
 have x3: ∀(W:World),(Instr.index 121 (.agg #[E Z 0,E Z 0,E Z 0,E Z 0]) (E Z (3:Int))).run Tp W= .ok (E Z 0) W:=fun W=>by kernel_rfl
 go_enter Tryz.func185,Tryz.ntmps185;go_wp2_with fail;refine wp_loop_rounds 5 ?_;rw[rounds_succ];go_wp2_with fail;rw[rounds_succ];go_wp2_with fail;rw[rounds_succ];go_wp2_with fail;rw[rounds_succ];go_wp2_with fail;rw[rounds_succ];go_wp2_with fail;go_ret;exact ⟨rfl,rfl⟩
theorem zyl {C M om aA:Nat} (h6:w.cell? ⟨C,6,O⟩=V (E Z 1)) (h7:w.cell? ⟨C,7,O⟩=V (E Z 0)) (h8:w.cell? ⟨C,8,O⟩=V (E Z 0)) (h9:w.cell? ⟨C,9,O⟩=V (E Z 0))
  (ha:w.cell? ⟨C,1,O⟩=V (E J 1)) (hm:w.cell? ⟨M,6,O⟩=V (.map (some om))) (hl:(Instr.lookup 147 (.map (some om)) (E J 1) false).run Tp w.drew= .ok (Y (V ⟨aA,0,O⟩)) w.drew) (ho:w.cell? ⟨aA,0,O⟩=V (E Z 1)):
  Calls Tp 185 #[Y (V ⟨M,0,O⟩),Y (V ⟨C,0,O⟩)] w fun e w'=>e=Rt (.bool false)∧ ∃m,w'=w.drewN m:=by
 have HO:=Y0 (zbz h6 ha hm hl ho);clear hl ho hm ha;have x0: ∀(W:World),(Instr.index 121 (.agg #[E Z 1,E Z 0,E Z 0,E Z 0]) (E Z (0:Int))).run Tp W= .ok (E Z 1) W:=fun W=>by kernel_rfl
 have x1: ∀(W:World),(Instr.index 121 (.agg #[E Z 1,E Z 0,E Z 0,E Z 0]) (E Z (1:Int))).run Tp W= .ok (E Z 0) W:=fun W=>by kernel_rfl
 have x2: ∀(W:World),(Instr.index 121 (.agg #[E Z 1,E Z 0,E Z 0,E Z 0]) (E Z (2:Int))).run Tp W= .ok (E Z 0) W:=fun W=>by kernel_rfl
 have x3: ∀(W:World),(Instr.index 121 (.agg #[E Z 1,E Z 0,E Z 0,E Z 0]) (E Z (3:Int))).run Tp W= .ok (E Z 0) W:=fun W=>by kernel_rfl
 go_enter Tryz.func185,Tryz.ntmps185;go_wp2_with fail;refine wp_loop_rounds 5 ?_;rw[rounds_succ];go_wp2_with fail;refine HO.out.mono ?_;rintro e w1 ⟨rfl,m1,rfl⟩;go_wp2_with fail;rw[rounds_succ];go_wp2_with fail;rw[rounds_succ];go_wp2_with fail;rw[rounds_succ];go_wp2_with fail;rw[rounds_succ];go_wp2_with fail;go_ret;exact ⟨rfl,_,rfl⟩
theorem znJ {C:Nat} (h:ZG w B 0 t) (h0:w.cell? ⟨C,0,O⟩=V (E Z 10)) (h6:w.cell? ⟨C,6,O⟩=V (E Z 0)):
  Calls Tp 123 #[Y (V ⟨B.M,0,O⟩),Y (V ⟨B.T,0,O⟩),Y (V ⟨C,0,O⟩)] w fun e w'=>e=Rt (.bool false)∧Below w.heap.size w w':=by
 have HO:=Y0 (zdE (M:=B.M) (i:=0) Y2 h6);obtain ⟨-,-,-,-,m5,-,-,-,-⟩:=h.cells;have H:=Y0 h;clear h;go_enter Tryz.func123,Tryz.ntmps123;go_wp2_with fail;refine HO.out.mono ?_;rintro e w1 ⟨rfl,rfl⟩;have hth:Zl ptrs w1 B.tm (oneG 64 B.T) 1:=H.out.thr;obtain ⟨w2,r2,R2,g2,s2⟩:=hth.range Y14 Tryz.underlying146;obtain ⟨w3,r3,R3,g3,s3,e3⟩:=R2.next Y14 0;have r4:=R3.done 0;have hb:Below w1.heap.size w1 w3:=by
  have b2:Below w1.heap.size w1 w2:=⟨g2.os,g2.tape,g2.output,g2.size,fun k hk=>g2.block k hk Y7⟩;exact ⟨g3.os.trans b2.os,g3.tape.trans b2.tape,g3.output.trans b2.output,Nat.le_trans b2.size g3.size,fun k hk=>(g3.block k (Nat.lt_of_lt_of_le hk b2.size) (fun e=>by injection e with e;omega)).trans (b2.block k hk)⟩
 have HB:=Y0 hb;have hq:=zsa ⟨B.T,0,O⟩ w3;replace r2:(Instr.range 146 (.map (some B.tm))).run Tp w1= .ok (Y (V ⟨w1.heap.size,0,O⟩)) w2:=r2;replace r3:(Instr.next (Y (V ⟨w1.heap.size,0,O⟩)) false 0).run Tp w2= .ok (.tuple #[.bool true,E J 64,Y (V ⟨B.T,0,O⟩)]) w3:=r3;replace r4:(Instr.next (Y (V ⟨w1.heap.size,0,O⟩)) false 0).run Tp w3= .ok (.tuple #[.bool false]) w3:=r4;replace e3:(Instr.entry (Y (V ⟨w1.heap.size,0,O⟩))).run Tp w3= .ok (.tuple #[E J 64,Y (V ⟨B.T,0,O⟩)]) w3:=e3;clear hth R2 R3 g2 g3 s2 s3 hb H HO;go_wp2_with fail;refine wp_loop_rounds 2 ?_;rw[rounds_succ];go_wp2_with fail;rw[rounds_succ];go_wp2_with fail;go_ret;exact ⟨rfl,HB.out⟩
theorem zn5 {C M T aA om:Nat} (h0:w.cell? ⟨C,0,O⟩=V (E Z 15)) (h6:w.cell? ⟨C,6,O⟩=V (E Z 1)) (ha:w.cell? ⟨C,1,O⟩=V (E J 1)) (hm:w.cell? ⟨M,6,O⟩=V (.map (some om)))
  (hl:(Instr.lookup 147 (.map (some om)) (E J 1) false).run Tp w.drew= .ok (Y (V ⟨aA,0,O⟩)) w.drew) (ho:w.cell? ⟨aA,0,O⟩=V (E Z 1)) (ho1:w.cell? ⟨aA,1,O⟩=V (E J 0)) (ho2:w.cell? ⟨aA,2,O⟩=V (E J 0))
  (ht:w.cell? ⟨T,0,O⟩=V (E J 64)):
  Calls Tp 123 #[Y (V ⟨M,0,O⟩),Y (V ⟨T,0,O⟩),Y (V ⟨C,0,O⟩)] w fun e w'=>e=Rt (.bool true)∧ ∃m,w'=w.drewN m:=by
 have HO:=Y0 (zbz h6 ha hm hl ho);clear hl ho hm ha;go_enter Tryz.func123,Tryz.ntmps123;go_wp2_with fail;refine HO.out.mono ?_;rintro e w1 ⟨rfl,m1,rfl⟩;go_wp2_with fail;go_region;go_wp2_with fail;go_ret;exact ⟨rfl,m1+1,rfl⟩
end
section
variable {w:World} {B:MB} {s:Nat} {t:Int}
theorem zk5 (w:World):Calls Tp 247 #[E Z 10] w fun e w'=>e=Rt (E Z 1)∧w'=w:=by
 go_enter Tryz.func247,Tryz.ntmps247;go_wp2_with fail;go_ret;exact ⟨rfl,rfl⟩
theorem zr8 {C:Nat} (h0:w.cell? ⟨C,0,O⟩=V (E Z 10)) (h1:w.cell? ⟨C,1,O⟩=V (E J 0)):Calls Tp 248 #[Y (V ⟨C,0,O⟩)] w fun e w'=>e=Rt (.bool true)∧w'=w:=by
 go_enter Tryz.func248,Tryz.ntmps248;go_wp2_with fail;go_ret;exact ⟨rfl,rfl⟩
theorem zaT {γ:Type} (k:Int) (c:γ): ∀x,VU x→oneG k c x=zd0 (fun _=>none) k c x:=fun _ _=>rfl
theorem zsz (h:ZG w B 1 t):Calls Tp 254 #[Y (V ⟨B.M,0,O⟩),Y (V ⟨B.C,0,O⟩),E J 1] w fun e w'=>e=Rt (.bool true)∧vg w B 2 t w':=by
 obtain ⟨-,-,-,-,m5,m6,m7,-,-⟩:=h.cells;obtain ⟨l0,bg,hC⟩:=h.C (Or.inl rfl);rw[if_pos rfl,if_pos rfl] at hC;obtain ⟨c0,c1,-,-,-,-,-,-,-,-,c10,-,-,c13,-,-,cf⟩:=ZI hC;have hlt:=h.lt;have hM:B.M<w.heap.size:=hlt _ Y13;have xC:B.C<w.heap.size:=hlt _ Y13;have hk1:VU (1:Int):=Y14;have l1:(Instr.lookup 65 (.map (some B.hm)) (E J 1) false).run Tp w= .ok (E Z 0) w:=h.had.look Tryz.underlying65 (zty w) hk1;obtain ⟨w1,u1,g1,t1⟩:=h.had.store Y2 Tryz.underlying65 hk1 (1:Int);have u1:(Instr.mapUpdate 65 (.map (some B.hm)) (E J 1) (E Z 1)).run Tp w= .ok () w1:=u1;have e1: ∀b,b<w.heap.size→b≠B.hm→w1.heap[b]?=w.heap[b]?:=fun b hb hn=>t1.grown.block b hb fun e=>hn Y18;have s1:w.heap.size≤w1.heap.size:=t1.grown.size;obtain ⟨es,cc,Ed⟩:=h.had.isMap
 have nM:B.M≠B.hm:=fun e=>by have:=h.obj;rw[e,Ed] at this;cases this
 have nC:B.C≠B.hm:=fun e=>by rw[e,Ed] at hC;cases hC
 have nT:B.T≠B.hm:=fun e=>by have:=h.T;rw[e,Ed] at this;cases this
 have hL:B.L≠B.hm:=fun e=>by simp[World.cell?,e,Ed] at l0
 have hM1:=(e1 _ hM nM).trans h.obj;have pE:=(e1 _ xC nC).trans hC;have m6':w1.cell? ⟨B.M,6,O⟩=V (.map (some B.om)):=ze hM1 6;have c1':w1.cell? ⟨B.C,1,O⟩=V (E J 0):=ze pE 1;have Si:=zo hM1;have Li:=zo pE;have g2:Zl ptrs (w1.alloc (.cells zdd 165)) B.om (zjH B 1) 2:=(h.objs.of_block (e1 _ h.objs.lt h.ne.2.2)).of_block (heap_alloc_old _ _ (Nat.lt_of_lt_of_le h.objs.lt s1));obtain ⟨w3,u3,g3,t3⟩:=g2.store Y2 Tryz.underlying147 hk1 w1.heap.size;have u3:(Instr.mapUpdate 147 (.map (some B.om)) (E J 1) (Y (V ⟨w1.heap.size,0,O⟩))).run Tp (w1.alloc (.cells zdd 165))= .ok () w3:=u3;have s3:w1.heap.size+1≤w3.heap.size:=by have:=t3.grown.size;simpa using this
 have e3: ∀b,b<w1.heap.size→b≠B.om→w3.heap[b]?=w1.heap[b]?:=fun b hb hn=>(t3.grown.block b Y8 fun e=>hn Y18).trans (heap_alloc_old _ _ hb);obtain ⟨es2,I5,hmo⟩:=h.objs.isMap;have Ud:B.M≠B.om:=fun e=>by have:=h.obj;rw[e,hmo] at this;cases this
 have Pw:B.C≠B.om:=fun e=>by rw[e,hmo] at hC;cases hC
 have Uf:B.T≠B.om:=fun e=>by have:=h.T;rw[e,hmo] at this;cases this
 have hL2:B.L≠B.om:=fun e=>by simp[World.cell?,e,hmo] at l0
 have oz:=(e3 _ Li Pw).trans pE;have d10:w3.cell? ⟨B.C,10,O⟩=V (E Z 0):=ze oz 10;have d13:w3.cell? ⟨B.C,13,O⟩=V (E J 0):=ze oz 13;have df: ∀o,w3.frozen? ⟨B.C,o,O⟩=false:=fun o=>zF oz o;have f10:=df 10;have f13:=df 13;have HK:=Y0 (zk5 w);have HZ:Hid (vg w B 2 t ((w3.setCell ⟨B.C,10,O⟩ (E Z 5)).setCell ⟨B.C,13,O⟩ (E J 1))):=Y0 (by
  have all: ∀b,b<w.heap.size→b≠B.hm→b≠B.om→w3.heap[b]?=w.heap[b]?:=fun b hb n1 n2=>(e3 b (Nat.lt_of_lt_of_le hb s1) n2).trans (e1 b hb n1)
  have oC: ∀b,b≠B.C→((w3.setCell ⟨B.C,10,O⟩ (E Z 5)).setCell ⟨B.C,13,O⟩ (E J 1)).heap[b]?=w3.heap[b]?:=fun b hb=>(zm hb).trans (zm hb)
  have zz:((w3.setCell ⟨B.C,10,O⟩ (E Z 5)).setCell ⟨B.C,13,O⟩ (E J 1)).heap.size=w3.heap.size:=Y7
  have ob:w3.heap[w1.heap.size]?=V (.cells zdd 165 (0,0)):=(t3.grown.block _ Y7 fun e=>by injection e with e;have:=h.objs.lt;omega).trans (heap_alloc_new _ _)
  have Ub:B.tm≠B.C:=fun e=>by obtain ⟨x,y,hh⟩:=h.thr.isMap;rw[e,hC] at hh;cases hh
  have Ug:B.T≠B.C:=Zp h.T hC Y2
  have Ue:B.M≠B.C:=Zp h.obj hC Y2
  have Fw:B.L<w.heap.size:=hlt _ Y13
  have Uc:B.L≠B.C:=fun e=>by rw[e,c0] at l0;cases l0
  refine ⟨{ B with aA:=w1.heap.size},⟨?_,?_,?_,?_,?_,fun _=>⟨?_,bg,?_⟩,fun _=>?_,h.ne,fun b hb=>?_,h.time,fun _=>h.cap (Or.inl rfl)⟩,rfl,⟨?_,?_,?_,?_,fun b hb hn=>?_⟩,fun b hb=>?_⟩
  ·exact (oC _ Ue).trans ((all _ hM nM Ud).trans h.obj)
  ·exact h.thr.of_block ((oC _ Ub).trans (all _ h.thr.lt h.ne.2.1 h.ne.1))
  ·have g4:Zl ptrs w3 B.om (oneG 1 w1.heap.size) 3:=g3.same (zaT 1 w1.heap.size)
   exact g4.of_block (oC _ (fun e=>Pw e.symm))
  ·have g4:Zl ints w1 B.hm (oneG 1 1) 3:=g1.same (zaT 1 1)
   exact g4.of_block ((oC _ (fun e=>nC e.symm)).trans (e3 _ (Nat.lt_of_lt_of_le h.had.lt s1) fun e=>h.ne.2.2 e.symm))
  ·exact (oC _ Ug).trans ((all _ (hlt _ Y13) nT Uf).trans h.T)
  ·exact (World.cell?_of_block (a:=⟨B.L,0,O⟩) ((oC _ Uc).trans (all _ Fw hL hL2))).trans l0
  ·exact (zy (zy oz _) _).trans rfl
  ·exact (oC _ (show w1.heap.size≠B.C by omega)).trans ob
  ·rw[zz]
   have:b∈B.l∨b=w1.heap.size:=by
    simp[MB.l] at hb ⊢
    omega
   rcases this with q|q
   ·have:=hlt b q;omega
   ·omega
  ·exact (t3.grown.os.trans t1.grown.os:w3.os=w.os)
  ·exact (t3.grown.tape.trans t1.grown.tape:w3.tape=w.tape)
  ·exact (t3.grown.output.trans t1.grown.output:w3.output=w.output)
  ·rw[zz];omega
  ·refine (oC b fun e=>hn (by simp[MB.l,e])).trans (all b hb (fun e=>hn (by simp[MB.l,e])) fun e=>hn (by simp[MB.l,e]))
  ·have:b∈B.l∨b=w1.heap.size:=by
    simp[MB.l] at hb ⊢
    omega
   rcases this with q|q
   ·exact Or.inl q
   ·exact Or.inr Y1)
 unfold zdd at u3;clear h hC pE oz hM1 g1 t1 g2 g3 t3 Ed hmo hlt e1 e3 df hM xC;go_enter Tryz.func254,Tryz.ntmps254;go_wp2_with fail;refine HK.out.mono ?_;rintro e w9 ⟨rfl,rfl⟩;go_wp2_with fail;go_ret;exact ⟨rfl,HZ.out⟩
end
section
variable {w W:World} {B:MB} {s:Nat} {t:Int}
theorem ZG.heq (h:ZG w B s t) (e:W.heap=w.heap):ZG W B s t:=h.zk (by rw[e];exact Nat.le_refl _) fun b _=>by rw[e]
theorem vg.of {w':World} (h:vg W B s t w') (e:W.heap=w.heap) (e1:W.os=w.os) (e2:W.tape=w.tape) (e3:W.output=w.output):vg w B s t w':=by
 obtain ⟨B',a,b,c,d⟩:=h;exact ⟨B',a,b,⟨c.os.trans e1,c.tape.trans e2,c.output.trans e3,by rw[←e];exact c.size,fun k hk hn=>(c.block k (by rw[e];exact hk) hn).trans Y93⟩,fun k hk=>by rw[←e];exact d k hk⟩
theorem vg.below {w':World} (hb:Below w.heap.size w W) (h:vg W B s t w'):vg w B s t w':=by
 obtain ⟨B',a,b,c,d⟩:=h;exact ⟨B',a,b,⟨c.os.trans hb.os,c.tape.trans hb.tape,c.output.trans hb.output,Nat.le_trans hb.size c.size,fun k hk hn=>(c.block k (Nat.lt_of_lt_of_le hk hb.size) hn).trans (hb.block k hk)⟩,fun k hk=>(d k hk).imp_right fun q=>Nat.le_trans hb.size q⟩
theorem zh8 (h:ZG w B 1 t):Calls Tp 196 #[Y (V ⟨B.M,0,O⟩),Y (V ⟨B.T,0,O⟩),Y (V ⟨B.C,0,O⟩),E Z 5,E J 1] w fun e w'=>e=Rt (.bool true)∧vg w B 2 t w':=by
 obtain ⟨m0,-,-,-,m5,m6,m7,-,-⟩:=h.cells;obtain ⟨l0,bg,hC⟩:=h.C (Or.inl rfl);rw[if_pos rfl,if_pos rfl] at hC;obtain ⟨c0,c1,-,-,-,-,-,-,-,-,c10,-,-,c13,-,-,cf⟩:=ZI hC;have k0:=h.zcr (k:=0) Y14 Y2;have qP:=(h.heq (W:=w.drew) rfl).zcr (k:=0) Y14 Y2;have HF:Hid (∀W,W.heap=w.heap→Calls Tp 248 #[Y (V ⟨B.C,0,O⟩)] W fun e w'=>e=Rt (.bool true)∧w'=W):=Y0 fun W e=>zr8 ((World.cell?_of_block (a:=⟨B.C,0,O⟩) Y93).trans c0) ((World.cell?_of_block (a:=⟨B.C,1,O⟩) Y93).trans c1);have HM:Hid (∀W,W.heap=w.heap→Calls Tp 254 #[Y (V ⟨B.M,0,O⟩),Y (V ⟨B.C,0,O⟩),E J 1] W fun e w'=>e=Rt (.bool true)∧vg W B 2 t w'):=Y0 fun W e=>zsz (h.heq e);clear h hC;go_enter Tryz.func196,Tryz.ntmps196;go_wp2_with fail
 go_region;go_wp2_with fail;go_region;go_wp2_with fail;refine (HF.out w.drew.drew rfl).mono ?_;rintro e w1 ⟨rfl,hw1⟩;subst hw1;go_wp2_with fail;refine (HM.out w.drew.drew rfl).mono ?_;rintro e w2 ⟨rfl,h2⟩;have H2:=Y0 (h2.of (w:=w) rfl rfl rfl rfl);clear h2 HM HF;go_wp2_with fail;go_ret;exact ⟨rfl,H2.out⟩
theorem ziL (h:ZG w B 1 t):Calls Tp 126 #[Y (V ⟨B.M,0,O⟩),Y (V ⟨B.T,0,O⟩),Y (V ⟨B.C,0,O⟩),E Z 5,E J 1] w fun e w'=>e=Rt (.bool true)∧vg w B 2 t w':=by
 obtain ⟨l0,bg,hC⟩:=h.C (Or.inl rfl);rw[if_pos rfl,if_pos rfl] at hC;obtain ⟨c0,c1,-,-,-,-,-,-,-,-,c10,-,-,c13,c14,-,cf⟩:=ZI hC;have HL:=Y0 (zh8 h);clear h hC;go_enter Tryz.func126,Tryz.ntmps126;go_wp2_with fail;refine HL.out.mono ?_;rintro e w2 ⟨rfl,h2⟩;have H2:=Y0 h2;clear h2 HL;go_wp2_with fail;go_ret;exact ⟨rfl,H2.out⟩
end
end Kn
namespace Kn
open Go.RowKit Asm
def gL (r:Zt):List Value:= [E J r.times, .bool (r.t.id !=0), .bool r.reaped,E J r.t.id,E Z r.t.state,E J r.t.home,E J r.t.value,E J r.t.joiner, .bool r.t.loose, .bool r.t.stepping]
def zqM (l:List Zt):List Value:=l.flatMap gL
def tAt (l:List Zt) (p:Nat):Zt:=l.getD p {}
def Zm (x:Int):Prop:=0≤x∧x<18446744073709551616
structure Jz (r:Zt) (p N:Nat):Prop where
 times:0≤r.times∧r.times≤N
 id:r.t.id≠0→r.t.id=p+64*r.times∧1≤r.times
 free:r.t.id=0→r.t={}∧r.reaped=false
 state:0≤r.t.state∧r.t.state≤4
 home:Zm r.t.home
 value:Zm r.t.value
 joiner:Zm r.t.joiner
structure bF (l:List Zt) (N:Nat):Prop where
 len:l.length=64
 most:N≤1000000000
 row: ∀p,p<64→Jz (tAt l p) p N
theorem Jd {l:List Zt} {p:Nat} (h:p<l.length):tAt l p=l[p]:=by
 unfold tAt;rw[List.getD_eq_getElem?_getD,List.getElem?_eq_getElem h];rfl
theorem zrX {l:List Zt} {p q:Nat} (h:p<l.length) (r:Zt):tAt (l.set p r) q=if q=p then r else tAt l q:=by
 unfold tAt;exact zvZ
theorem bF.set {l:List Zt} {N p:Nat} (h:bF l N) (hp:p<64) {r:Zt} (hr:Jz r p N):bF (l.set p r) N:=
 ⟨by rw[List.length_set];exact h.len,h.most,fun q hq=>by
  rw[zrX (by rw[h.len];exact hp)]
  split
  ·rename_i e;subst e;exact hr
  ·exact h.row q hq⟩
theorem zgL {l:List Zt} {N:Nat} (h:bF l N) {id:Int} {p:Nat} {r:Zt} (e:ofT l id=V (p,r)):id≠0∧id%64=(p:Int)∧p<64∧r=tAt l p∧r.t.id=id:=by
 unfold ofT at e;by_cases h0:id=0
 ·rw[if_pos h0] at e;cases e
 ·rw[if_neg h0] at e;have hlt:(id%64).toNat<l.length:=by rw[h.len];omega
  rw[List.getElem?_eq_getElem hlt] at e;simp only at e;split at e
  ·rename_i he;injection e with e
   injection e with e1 e2
   subst e1;refine ⟨h0,by omega,by omega,?_,by rw[←e2];exact he⟩;rw[Jd hlt,e2]
  ·cases e
theorem zoq {l:List Zt} {N:Nat} (h:bF l N) {id:Int} (hid:0≤id) (e:ofT l id=none): ∃p:Nat,id%64=(p:Int)∧p<64∧((tAt l p).t.id=0∨(tAt l p).t.id≠id):=by
 refine ⟨(id%64).toNat,by omega,by omega,?_⟩;by_cases h0:id=0
 ·by_cases hz:(tAt l (id%64).toNat).t.id=0
  ·exact Or.inl hz
  ·exact Or.inr (by rw[h0] at hz ⊢;exact hz)
 ·have hlt:(id%64).toNat<l.length:=by rw[h.len];omega
  unfold ofT at e;rw[if_neg h0,List.getElem?_eq_getElem hlt] at e;simp only at e;split at e
  ·cases e
  ·rename_i he;exact Or.inr (by rw[Jd hlt];exact he)
structure Vh (w:World) (T gt:Nat) (l:List Zt) (N:Nat):Prop where
 ok:bF l N
 obj:w.heap[T]?=V (.cells #[Sl (V ⟨gt,0,O⟩) 64 64] 222 (0,0))
 row:w.heap[gt]?=V (.cells (zqM l).toArray 311 (0,0))
section
variable {w w':World} {T gt:Nat} {l:List Zt} {N:Nat}
theorem Vh.zk (h:Vh w T gt l N) (e: ∀b,b=T∨b=gt→w'.heap[b]?=w.heap[b]?):Vh w' T gt l N:=
 ⟨h.ok,(e T (Or.inl rfl)).trans h.obj,(e gt (Or.inr rfl)).trans h.row⟩
theorem Vh.lt (h:Vh w T gt l N):T<w.heap.size∧gt<w.heap.size:=⟨zo h.obj,zo h.row⟩
theorem Vh.ne (h:Vh w T gt l N):T≠gt:=Zp h.obj h.row Y2
theorem Vh.at0 (h:Vh w T gt l N):w.cell? ⟨T,0,O⟩=V (Sl (V ⟨gt,0,O⟩) 64 64):=by rw[ze h.obj];rfl
theorem Vh.cell (h:Vh w T gt l N) {p:Nat} (hp:p<64) (j:Nat) (hj:j<10):w.cell? ⟨gt,p*10+j,O⟩=(gL (tAt l p))[j]?:=by
 have hlt:p<l.length:=Y81;rw[ze h.row,Jd hlt];have:=gu (k:=10) (f:=gL) (fun _=>rfl) l p hlt j hj;simpa[zqM] using this
theorem Vh.frozen (h:Vh w T gt l N) (o:Nat):w.frozen? ⟨gt,o,O⟩=false:=zF h.row o
theorem Vh.stored (h:Vh w T gt l N) {p:Nat} (hp:p<64) (j:Nat) (hj:j<10) (v:Value) (r:Zt) (hr:(gL (tAt l p)).set j v=gL r) (hok:Jz r p N):
  Vh (w.setCell ⟨gt,p*10+j,O⟩ v) T gt (l.set p r) N:=by
 have hlt:p<l.length:=Y81;refine ⟨h.ok.set hp hok,(zm h.ne).trans h.obj,?_⟩;rw[zy h.row];have:=jN (k:=10) (f:=gL) (fun _=>rfl) l p hlt j hj v r (by rw[←Jd hlt];exact hr);unfold zqM;rw[←this];simp
end
def zp1 (w:World) (T gt:Nat) (l:List Zt) (N:Nat) (e:Ending) (w':World):Prop:=(∃v,e= .returned v)∧Vh w' T gt l N∧Keeps (fun b=>b=gt) w w'
theorem zaq (k:Int) (w:World):Calls Tp 93 #[.iface 48 (E Z k)] w fun e w'=>(∃v,e= .returned v∧Som v)∧Below w.heap.size w w':=by
 go_enter Tryz.func93,Tryz.ntmps93;exact J75
theorem zta {w:World} {T gt:Nat} {l:List Zt} {N:Nat} (h:Vh w T gt l N) (id:Int) (hid:Zm id) {p:Nat} {r:Zt} (hof:ofT l id=V (p,r)):
  Calls Tp 221 #[Y (V ⟨T,0,O⟩),E J id] w fun e w'=>e=Rt (Y (V ⟨gt,p*10,O⟩))∧ ∃q,w'=w.drewN q:=by
 obtain ⟨h0,hp,aQ,rfl,sH⟩:=zgL h.ok hof;have c0:=h.at0;have x1:w.cell? ⟨gt,p*10+1,O⟩=V (.bool true):=by
  have:=h.cell aQ 1 Y1;rw[this];simp[gL,sH,h0]
 have x3:w.cell? ⟨gt,p*10+3,O⟩=V (E J id):=by
  have:=h.cell aQ 3 Y1;rw[this];simp[gL,sH]
 have oG:(p:Int)<64:=Y1;have hi0:=hid.1;clear h hof sH hid aQ h0;exact J83
theorem zss {w:World} {T gt:Nat} {l:List Zt} {N:Nat} (h:Vh w T gt l N) (id:Int) (hid:Zm id) (hof:ofT l id=none):
  Calls Tp 221 #[Y (V ⟨T,0,O⟩),E J id] w fun e w'=>e=Rt (Y none)∧ ∃q,w'=w.drewN q:=by
 obtain ⟨p,hp,aQ,hno⟩:=zoq h.ok hid.1 hof;have c0:=h.at0;have oG:(p:Int)<64:=Y1;have hi0:=hid.1;have y1:=h.cell aQ 1 Y1;have y3:=h.cell aQ 3 Y1;generalize tAt l p=r at*;by_cases hz:r.t.id=0
 ·have x1:w.cell? ⟨gt,p*10+1,O⟩=V (.bool false):=by rw[y1];simp[gL,hz]
  clear h hof hid aQ y1 y3 hno hz;exact J83
 ·have hne:r.t.id≠id:=hno.resolve_left hz;have x1:w.cell? ⟨gt,p*10+1,O⟩=V (.bool true):=by rw[y1];simp[gL,hz]
  have x3:w.cell? ⟨gt,p*10+3,O⟩=V (E J r.t.id):=by rw[y3];simp[gL]
  have hb:(r.t.id !=id)=true:=bne_iff_ne.2 hne;generalize r.t.id=i at*;clear h hof hid aQ y1 y3 hno hz hne;exact J83
theorem Vh.cells {w:World} {T gt:Nat} {l:List Zt} {N:Nat} (h:Vh w T gt l N) {id:Int} {p:Nat} {ti:Int} {re:Bool} {i st ho va jo:Int} {lo sp:Bool} (hof:ofT l id=V (p,⟨ti,re,⟨i,st,ho,va,jo,lo,sp⟩⟩)):
  i=id∧id≠0∧p<64∧tAt l p=⟨ti,re,⟨i,st,ho,va,jo,lo,sp⟩⟩∧Jz ⟨ti,re,⟨i,st,ho,va,jo,lo,sp⟩⟩ p N∧w.cell? ⟨gt,p*10,O⟩=V (E J ti)∧w.cell? ⟨gt,p*10+1,O⟩=V (.bool true)∧w.cell? ⟨gt,p*10+2,O⟩=V (.bool re)∧w.cell? ⟨gt,p*10+3,O⟩=V (E J i)∧w.cell? ⟨gt,p*10+4,O⟩=V (E Z st)
   ∧w.cell? ⟨gt,p*10+5,O⟩=V (E J ho)∧w.cell? ⟨gt,p*10+6,O⟩=V (E J va)∧w.cell? ⟨gt,p*10+7,O⟩=V (E J jo)∧w.cell? ⟨gt,p*10+8,O⟩=V (.bool lo)∧w.cell? ⟨gt,p*10+9,O⟩=V (.bool sp):=by
 obtain ⟨h0,hp,aQ,hr,hi⟩:=zgL h.ok hof;have hc:=fun j hj=>h.cell aQ j hj;have hk:=h.ok.row p aQ;rw[←hr] at hc hk;simp only at hi;refine ⟨hi,h0,aQ,hr.symm,hk,hc 0 Y1,?_,hc 2 Y1,hc 3 Y1,hc 4 Y1,hc 5 Y1,hc 6 Y1,hc 7 Y1,hc 8 Y1,hc 9 Y1⟩;rw[hc 1 Y1];simp[gL,hi,h0]
theorem zk7 (s:Int) (hs:s=1∨s=2∨s=3) (w:World):Calls Tp 222 #[E Z s] w fun e w'=>e=Rt (.bool true)∧w=w':=by
 rcases hs with rfl|rfl|rfl
 all_goals
  go_enter Tryz.func222,Tryz.ntmps222
  go_wp2
  go_ret
  exact ⟨rfl,rfl⟩
theorem Vh.below {w w':World} {T gt:Nat} {l:List Zt} {N:Nat} (h:Vh w T gt l N) (hb:Below w.heap.size w w'):Vh w' T gt l N:=
 h.zk fun b hb'=>hb.block b (by obtain ⟨l1,l2⟩:=h.lt;rcases hb' with rfl|rfl<;>assumption)
theorem zoT (w:World) (q:Nat):Below w.heap.size w (w.drewN q):=⟨rfl,rfl,rfl,Nat.le_refl _,fun _ _=>rfl⟩
theorem Br {X:Nat→Prop} (w:World) (q:Nat):Keeps X w (w.drewN q):=(Keeps.refl X w).drewN q
theorem zcG {w w':World} {T gt:Nat} {l:List Zt} {N q:Nat} (h:Vh w T gt l N) (hb:Below (w.drewN q).heap.size (w.drewN q) w') {e:Ending} (he: ∃v,e= .returned v):zp1 w T gt l N e w':=
 ⟨he,h.below ⟨hb.os,hb.tape,hb.output,hb.size,hb.block⟩,Keeps.zO ⟨hb.os,hb.tape,hb.output,hb.size,hb.block⟩⟩
theorem zve {w:World} {T gt:Nat} {l:List Zt} {N:Nat} (h:Vh w T gt l N) (id s:Int) (hid:Zm id) (hs:s=1∨s=2∨s=3):
  Calls Tp 173 #[Y (V ⟨T,0,O⟩),E J id,E Z s] w (zp1 w T gt (beT l id s) N):=by
 have HF:=Y0 (fun k W=>zaq k W)
 have uX:=Y0 (fun W=>zk7 s hs W)
 have H:=Y0 h
 cases hof:ofT l id with
 |none=>
  have HO:=Y0 (zss h id hid hof)
  have e0:beT l id s=l:=by unfold beT;rw[hof]
  rw[e0]
  clear hof h e0 hs hid
  go_enter Tryz.func173,Tryz.ntmps173
  go_wp2_with fail
  refine HO.out.mono ?_
  rintro e w1 ⟨rfl,q,rfl⟩
  go_wp2_with fail
  refine (HF.out _ _).mono ?_
  rintro e w2 ⟨⟨ev,rfl,hev⟩,hb⟩
  go_wp2
  go_ret
  exact zcG H.out hb ⟨_,rfl⟩
 |some pr=>
  obtain ⟨p,ti,re,i,st,ho,va,jo,lo,sp⟩:=pr
  obtain ⟨rfl,h0,hp,hr,hk,x0,x1,x2,x3,x4,x5,x6,x7,x8,x9⟩:=h.cells hof
  have HO:=Y0 (zta h i hid hof)
  by_cases h4:st=4
  ·subst h4
   have e0:beT l i s=l:=by unfold beT;rw[hof];rfl
   rw[e0]
   clear hof h e0 hs hid hk hr
   go_enter Tryz.func173,Tryz.ntmps173
   go_wp2_with fail
   refine HO.out.mono ?_
   rintro e w1 ⟨rfl,q,rfl⟩
   go_wp2_with fail
   refine (uX.out _).mono ?_
   rintro e w1 ⟨rfl,rfl⟩
   go_wp2_with fail
   refine (HF.out _ _).mono ?_
   rintro e w2 ⟨⟨ev,rfl,hev⟩,hb⟩
   go_wp2
   go_ret
   exact zcG H.out hb ⟨_,rfl⟩
  ·have e0:beT l i s=l.set p ⟨ti,re,⟨i,s,ho,va,jo,lo,sp⟩⟩:=by unfold beT;rw[hof];exact if_neg h4
   rw[e0]
   have xA:(st==4)=false:=by simp[h4]
   have HS:=Y0 (h.stored hp 4 Y1 (E Z s) ⟨ti,re,⟨i,s,ho,va,jo,lo,sp⟩⟩ (by rw[hr];rfl) ⟨hk.times,hk.id,fun e=>absurd e h0,by show 0≤s∧s≤4;omega,hk.home,hk.value,hk.joiner⟩)
   have hfr:=h.frozen (p*10+4)
   clear hof h e0 hs hid hk hr h4
   go_enter Tryz.func173,Tryz.ntmps173
   go_wp2_with fail
   refine HO.out.mono ?_
   rintro e w1 ⟨rfl,q,rfl⟩
   go_wp2_with fail
   refine (uX.out _).mono ?_
   rintro e w1 ⟨rfl,rfl⟩
   go_wp2
   go_ret
   exact ⟨⟨_,rfl⟩,HS.out.zk fun _ _=>rfl,(Br (X:=fun b=>b=gt) w q).setCell (p:=⟨gt,p*10+4,O⟩) rfl _⟩
open Go.RowKit Go.Maps Asm
def pv (B:Int→Nat) (o:Option Slp):Value:=match o with
 |some s=> Y (V ⟨B s.id,0,O⟩)
 |none=> Y none
def zxY (B:Int→Nat) (L:List Slp) (s:Slp):Array Value:=#[E J s.id,E J s.addr,E J s.mask,pv B (zp0 s.id L),pv B (zp8 s.id L)]
def zAa (B:Int→Nat) (l:List Slp) (b:Nat):List Value:= [pv B (bkt l b).head?,pv B (bkt l b).getLast?]
def wqC (B:Int→Nat) (l:List Slp):List Value:=(List.range 8).flatMap (zAa B l)
structure WqR (w:World) (Q gl mb:Nat) (B:Int→Nat) (l:List Slp):Prop where
 nod:(ids l).Nodup
 rng: ∀s∈l,s.id≠0∧VU s.id∧VU s.addr∧VU s.mask
 obj:w.heap[Q]?=V (.cells #[Sl (V ⟨gl,0,O⟩) 8 8, .map (some mb)] 219 (0,0))
 row:w.heap[gl]?=V (.cells (wqC B l).toArray 370 (0,0))
 node: ∀s∈l,w.heap[B s.id]?=V (.cells (zxY B (bkt l (vT s.addr)) s) 372 (0,0))
section
variable {w w':World} {Q gl mb:Nat} {B:Int→Nat} {l:List Slp}
def OfW (Q gl:Nat) (B:Int→Nat) (l:List Slp) (b:Nat):Prop:=b=Q∨b=gl∨ ∃s∈l,b=B s.id
theorem WqR.zk (h:WqR w Q gl mb B l) (e: ∀b,OfW Q gl B l b→w'.heap[b]?=w.heap[b]?):WqR w' Q gl mb B l:=
 ⟨h.nod,h.rng,(e Q (Or.inl rfl)).trans h.obj,(e gl (Or.inr (Or.inl rfl))).trans h.row,fun s hs=>(e _ (Or.inr (Or.inr ⟨s,hs,rfl⟩))).trans (h.node s hs)⟩
theorem WqR.lt (h:WqR w Q gl mb B l) {b:Nat} (hb:OfW Q gl B l b):b<w.heap.size:=by
 rcases hb with rfl|rfl|⟨s,hs,rfl⟩
 ·exact zo h.obj
 ·exact zo h.row
 ·exact zo (h.node s hs)
end
end Kn
namespace Kn
open Go.RowKit Asm
structure gM (w:World) (R gr fr:Nat) (C l:List Int):Prop where
 len:C.length=64
 from':fr<64
 most:l.length≤64
 obj:w.heap[R]?=V (.cells #[Sl (V ⟨gr,0,O⟩) 64 64,E Z fr,E Z l.length] 214 (0,0))
 row:w.heap[gr]?=V (.cells (zaz C) 22 (0,0))
 hold: ∀i,i<l.length→C.getD ((fr+i)%64) 0=l.getD i 0
 u: ∀x∈l,Zm x
def gJ (w:World) (R gr:Nat) (l:List Int):Prop:= ∃fr C,gM w R gr fr C l
section
variable {w w':World} {R gr fr:Nat} {C l:List Int}
theorem gM.zk (h:gM w R gr fr C l) (e: ∀b,b=R∨b=gr→w'.heap[b]?=w.heap[b]?):gM w' R gr fr C l:=
 ⟨h.len,h.from',h.most,(e R (Or.inl rfl)).trans h.obj,(e gr (Or.inr rfl)).trans h.row,h.hold,h.u⟩
theorem gJ.zk (h:gJ w R gr l) (e: ∀b,b=R∨b=gr→w'.heap[b]?=w.heap[b]?):gJ w' R gr l:=by
 obtain ⟨fr,C,h⟩:=h;exact ⟨fr,C,h.zk e⟩
theorem gM.ne (h:gM w R gr fr C l):R≠gr:=Zp h.obj h.row Y2
theorem gJ.lt (h:gJ w R gr l):R<w.heap.size∧gr<w.heap.size:=by obtain ⟨fr,C,h⟩:=h;exact ⟨zo h.obj,zo h.row⟩
end
theorem zjD {w:World} {R gr fr:Nat} {C l:List Int} (h:gM w R gr fr C l) (i:Nat) (hi:i≤64):
  Calls Tp 104 #[Y (V ⟨R,0,O⟩),E Z i] w fun e w'=>e=Rt (Y (V ⟨gr,(fr+i)%64,O⟩))∧ ∃q,w'=w.drewN q:=by
 have c0:w.cell? ⟨R,0,O⟩=V (Sl (V ⟨gr,0,O⟩) 64 64):=by rw[ze h.obj];rfl
 have c1:w.cell? ⟨R,1,O⟩=V (E Z fr):=by rw[ze h.obj];rfl
 have hf:=h.from';have LW:(fr:Int)<64:=Y1;have dH:(i:Int)≤64:=Y1;have hs:IntKind.i64.wrap ((fr:Int)+(i:Int))=(fr:Int)+(i:Int):=IntWalk.i64_in _ Y1;have hm:((fr:Int)+(i:Int))%64=(((fr+i)%64:Nat):Int):=Y1;have hm2:((fr:Int)+(i:Int)).tmod 64=(((fr+i)%64:Nat):Int):=by rw[Int.tmod_eq_emod_of_nonneg Y1];exact hm
 have hml:(((fr+i)%64:Nat):Int)<64:=Y1;generalize (fr+i)%64=k at*;clear h hi hf;go_enter Tryz.func104,Tryz.ntmps104;go_wp2_with fail;go_quiet (fail);go_wp2;go_ret;exact ⟨rfl,_,rfl⟩
theorem gM.cells {w:World} {R gr fr:Nat} {C l:List Int} (h:gM w R gr fr C l):w.cell? ⟨R,0,O⟩=V (Sl (V ⟨gr,0,O⟩) 64 64)∧w.cell? ⟨R,1,O⟩=V (E Z fr)∧w.cell? ⟨R,2,O⟩=V (E Z l.length)∧ ∀o,w.frozen? ⟨R,o,O⟩=false:=
 ⟨by rw[ze h.obj];rfl,by rw[ze h.obj];rfl,by rw[ze h.obj];rfl,fun o=>zF h.obj o⟩
theorem zkZ (C:List Int) (k j:Nat) (v:Int) (hk:k<C.length):(C.set k v).getD j 0=if j=k then v else C.getD j 0:=by
 rw[List.getD_eq_getElem?_getD,List.getD_eq_getElem?_getD,List.getElem?_set];by_cases e:k=j
 ·subst e;rw[if_pos rfl,if_pos rfl,if_pos hk];rfl
 ·rw[if_neg e,if_neg (Ne.symm e)]
theorem gM.zAl {w:World} {R gr fr:Nat} {C l:List Int} (h:gM w R gr fr C l) (v:Int) (hv:Zm v) (hl:l.length<64):
  gM ((w.setCell ⟨gr,(fr+l.length)%64,O⟩ (E J v)).setCell ⟨R,2,O⟩ (E Z ((l.length:Int)+1))) R gr fr (C.set ((fr+l.length)%64) v) (l++ [v]):=by
 have hn:=h.ne;refine ⟨by rw[List.length_set];exact h.len,h.from',by simp;omega,?_,?_,?_,?_⟩
 ·have h1:(w.setCell ⟨gr,(fr+l.length)%64,O⟩ (E J v)).heap[R]?=V (.cells #[Sl (V ⟨gr,0,O⟩) 64 64,E Z fr,E Z l.length] 214 (0,0)):=(zm hn).trans h.obj;rw[zy h1];simp
 ·rw[zm (Ne.symm hn)];have:=zy (k:=(fr+l.length)%64) (w:=w) h.row (E J v);rw[this,zbq]
 ·intro i hi;rw[zkZ _ _ _ _ (by rw[h.len];omega)];rw[List.length_append] at hi;simp only[List.length_cons,List.length_nil] at hi;have hf:=h.from';by_cases e:i=l.length
  ·subst e;rw[if_pos rfl];simp
  ·rw[if_neg Y1,h.hold i Y1];rw[List.getD_eq_getElem?_getD,List.getD_eq_getElem?_getD,List.getElem?_append_left Y1]
 ·intro x hx;rcases List.mem_append.1 hx with hx|hx
  ·exact h.u x hx
  ·simp at hx;subst hx;exact hv
theorem gM.zx4 {w:World} {R gr fr:Nat} {C:List Int} {x:Int} {l:List Int} (h:gM w R gr fr C (x::l)):
  gM ((w.setCell ⟨R,1,O⟩ (E Z (((fr+1)%64:Nat):Int))).setCell ⟨R,2,O⟩ (E Z (l.length:Int))) R gr ((fr+1)%64) C l:=by
 have hn:=h.ne;have hf:=h.from';refine ⟨h.len,by omega,by have:=h.most;simp at this;omega,?_,?_,?_,fun y hy=>h.u y (List.mem_cons_of_mem _ hy)⟩
 ·have h1:=zy (k:=1) (w:=w) h.obj (E Z (((fr+1)%64:Nat):Int));rw[zy h1];simp
 ·exact (zm (Ne.symm hn)).trans ((zm (Ne.symm hn)).trans h.row)
 ·intro i hi;have:=h.hold (i+1) Y59;rw[show ((fr+1)%64+i)%64=(fr+(i+1))%64 by omega,this];rfl
def zk3 (R gr b:Nat):Prop:=b=R∨b=gr
theorem zoc {w:World} {R gr:Nat} {l:List Int} (h:gJ w R gr l) (v:Int) (hv:Zm v):
  Calls Tp 49 #[Y (V ⟨R,0,O⟩),E J v] w fun e w'=>(∃ev,e= .returned ev)∧gJ w' R gr (Ga l v)∧Keeps (zk3 R gr) w w':=by
 obtain ⟨fr,C,h⟩:=h;obtain ⟨c0,c1,c2,f⟩:=h.cells;have hm:=h.most;obtain ⟨n,hn⟩: ∃n,n=l.length:=⟨_,rfl⟩;have dV:(n:Int)≤64:=Y1;rw[←hn] at c2;by_cases hl:n=64
 ·subst hl;have e0:Ga l v=l:=by unfold Ga;rw[if_pos Y1]
  rw[e0];have H:=Y0 h;clear h hm e0 hn;go_enter Tryz.func49,Tryz.ntmps49;go_wp2_with fail;go_quiet (fail);go_wp2;go_ret;refine ⟨⟨_,rfl⟩,?_⟩;have hb0: ∀o,Below w.heap.size w ((w.drewN nq).alloc o):=fun o=>(zoT w nq).trans ((Below.refl _ (w.drewN nq)).alloc (Nat.le_refl _) o);exact ⟨⟨fr,C,H.out.zk fun b hb'=>(hb0 _).block b (by rcases hb' with rfl|rfl;exact zo H.out.obj;exact zo H.out.row)⟩,Keeps.zO (hb0 _)⟩
 ·have hl2:n<64:=Y1;have e0:Ga l v=l++ [v]:=by unfold Ga;rw[if_neg Y1]
  rw[e0];have yC:((n:Int)==64)=false:=Y8;have S9:(n:Int)<64:=Y1;have HA:=Y0 (fun q=>zjD (h.zk (w':=w.drewN q) fun _ _=>rfl) n Y1);have HP:=Y0 (fun q=>(h.zk (w':=w.drewN q) fun _ _=>rfl).zAl v hv Y1);rw[←hn] at HP;have hk:(fr+n)%64<64:=Y1;have gk: ∃u,w.cell? ⟨gr,(fr+n)%64,O⟩=some u:=⟨_,by rw[ze h.row];exact Bw (by rw[h.len];exact hk)⟩;obtain ⟨u,gk⟩:=gk;have gf:=zF h.row ((fr+n)%64);have hne:=h.ne;generalize (fr+n)%64=k at*;clear h hm e0 hn hl;go_enter Tryz.func49,Tryz.ntmps49;go_wp2_with fail;go_quiet (fail);go_wp2_with fail;refine (HA.out _).mono ?_;rintro e w1 ⟨rfl,q,rfl⟩;rw[World.drewN_drewN];go_wp2;go_ret;exact ⟨⟨_,rfl⟩,⟨fr,_,HP.out _⟩,((Br (X:=zk3 R gr) w _).setCell (p:=⟨gr,k,O⟩) (Or.inr rfl) _).setCell (p:=⟨R,2,O⟩) (Or.inl rfl) _⟩
theorem zmY {w:World} {R gr:Nat} {l:List Int} (h:gJ w R gr l):
  Calls Tp 278 #[Y (V ⟨R,0,O⟩)] w fun e w'=>e=Rt (.tuple #[E J (l.headD 0), .bool (!l.isEmpty)])∧gJ w' R gr (l.drop 1)∧Keeps (zk3 R gr) w w':=by
 obtain ⟨fr,C,h⟩:=h
 obtain ⟨c0,c1,c2,f⟩:=h.cells
 cases l with
 |nil=>
  have H:=Y0 h
  clear h
  go_enter Tryz.func278,Tryz.ntmps278
  go_wp2
  go_ret2
  exact ⟨rfl,⟨fr,C,H.out⟩,Keeps.refl _ _⟩
 |cons x l=>
  have hm:=h.most
  obtain ⟨n,hn⟩: ∃n,n=l.length:=⟨_,rfl⟩
  rw[List.length_cons,←hn] at c2
  rw[List.length_cons,←hn] at hm
  have dV:(n:Int)<64:=Y1
  have hf:=h.from'
  have LW:(fr:Int)<64:=Y1
  have HA:=Y0 (zjD h 0 Y1)
  rw[Nat.add_zero,Nat.mod_eq_of_lt hf] at HA
  have HT:=Y0 (fun q=>(h.zk (w':=(w.drewN q).drew) fun _ _=>rfl).zx4)
  rw[←hn] at HT
  have gk:w.cell? ⟨gr,fr,O⟩=V (E J x):=by
   have:=h.hold 0 Y7
   rw[Nat.add_zero,Nat.mod_eq_of_lt hf] at this
   rw[ze h.row,Bw (by rw[h.len];exact hf),this]
   rfl
  have hs:IntKind.i64.wrap ((fr:Int)+1)=(fr:Int)+1:=IntWalk.i64_in _ Y1
  have hm1:((fr:Int)+1)%64=(((fr+1)%64:Nat):Int):=Y1
  have hm2:((fr:Int)+1).tmod 64=(((fr+1)%64:Nat):Int):=by rw[Int.tmod_eq_emod_of_nonneg Y1];exact hm1
  have hne:=h.ne
  generalize (fr+1)%64=k at*
  have EX:=Y0 hm1
  clear h hm hn hf hm1
  go_enter Tryz.func278,Tryz.ntmps278
  go_wp2_with fail
  refine HA.out.mono ?_
  rintro e w1 ⟨rfl,q,rfl⟩
  go_wp2_with fail
  have d0:(w.drewN q).cell? ⟨R,0,O⟩=V (Sl (V ⟨gr,0,O⟩) 64 64):=c0
  have d1:(w.drewN q).cell? ⟨R,1,O⟩=V (E Z fr):=c1
  have d2:(w.drewN q).cell? ⟨R,2,O⟩=V (E Z ((n+1:Nat):Int)):=c2
  have df: ∀o,(w.drewN q).frozen? ⟨R,o,O⟩=false:=f
  have HK:Hid (Keeps (zk3 R gr) w (w.drewN q)):=Y0 (Br w q)
  have fq:=Y0 (HT.out q)
  generalize w.drewN q=w1 at fq HK d0 d1 d2 df ⊢
  clear c0 c1 c2 f HT
  go_still_tail 14,Y4
  change wpList _ _ _ _ _ w1.drew
  have dP:Hid (Keeps (zk3 R gr) w w1.drew):=Y0 HK.out.drew
  have e1:w1.drew.cell? ⟨R,1,O⟩=V (E Z fr):=d1
  have e2:w1.drew.cell? ⟨R,2,O⟩=V (E Z ((n+1:Nat):Int)):=d2
  have ef: ∀o,w1.drew.frozen? ⟨R,o,O⟩=false:=df
  generalize w1.drew=w2 at fq dP e1 e2 ef ⊢
  go_wp2_with fail
  go_ret2
  exact ⟨rfl,⟨_,C,fq.out⟩,(dP.out.setCell (p:=⟨R,1,O⟩) (Or.inl rfl) _).setCell (p:=⟨R,2,O⟩) (Or.inl rfl) _⟩
open Go.RowKit Go.Maps Asm
theorem zbN {P:Program} {f:FuncId} {args:Array Value} {w:World} {n:Nat} {v:Value}
  (h:Calls P f args (w.drewN n) fun e w'=>e= .returned v∧w.drewN n=w'):Calls P f args (w.drewN n) fun e w''=>e= .returned v∧ ∃m,w''=w.drewN m:=
 h.mono fun _ _ ⟨he,hm⟩=>⟨he,n,hm.symm⟩
theorem zef {α:Type} {p:α→Bool} {L:List α} {k:Nat} {s:α} (h:L[k]?=some s) (hp:p s=true) (hb: ∀j,j<k→ ∀x,L[j]?=some x→p x=false):L.find? p=some s:=by
 induction L generalizing k with
 |nil=>simp at h
 |cons a L ih=>
  cases k with
  |zero=>simp at h;subst h;rw[List.find?_cons,hp]
  |succ k=>
   rw[List.find?_cons,hb 0 Y1 a rfl]
   exact ih Y17 fun j hj x hx=>hb (j+1) Y1 x (by simpa using hx)
def zpS (B:Int→Nat) (l:List Slp):Int→Option Nat:=fun id=>(zey l id).map fun s=>B s.id
structure WqP (w:World) (Q gl mb:Nat) (B:Int→Nat) (l:List Slp) (N:Nat):Prop where
 r:WqR w Q gl mb B l
 map:Zl ptrs w mb (zpS B l) N
 most:N≤1000000000
def OfQ (Q gl mb:Nat) (B:Int→Nat) (l:List Slp) (b:Nat):Prop:=OfW Q gl B l b∨b=mb
section
variable {w w':World} {Q gl mb:Nat} {B:Int→Nat} {l:List Slp} {N:Nat}
theorem WqP.zk (h:WqP w Q gl mb B l N) (e: ∀b,OfQ Q gl mb B l b→w'.heap[b]?=w.heap[b]?):WqP w' Q gl mb B l N:=
 ⟨h.r.zk fun b hb=>e b (Or.inl hb),h.map.of_block (e mb (Or.inr rfl)),h.most⟩
theorem WqP.lt (h:WqP w Q gl mb B l N) {b:Nat} (hb:OfQ Q gl mb B l b):b<w.heap.size:=by
 rcases hb with hb|rfl
 ·exact h.r.lt hb
 ·exact h.map.lt
end
open Go.RowKit Go.Maps Asm Hp
def ztP:List Value→Option (DataW Unit×List MemPlace)
 |[E Z h,E J d]=>some (.agg [.lit (.int Z h), .lit (.int J d)],[])
 |_=>none
def zuN:Value→Option (DataW Unit×List MemPlace)
 | .agg cs=>ztP cs.toList
 |_=>none
theorem zib {l:List Value} {d:DataW Unit} {ps:List MemPlace} (h:ztP l=V (d,ps)): ∃a b:Int,l= [E Z a,E J b]∧d= .agg [.lit (.int Z a), .lit (.int J b)]:=by
 unfold ztP at h;split at h
 ·injection h with h;injection h with h _;exact ⟨_,_,rfl,h.symm⟩
 ·cases h
theorem zaW {v:Value} {d:DataW Unit} {ps:List MemPlace} (h:zuN v=V (d,ps)): ∃a b:Int,v= .agg #[E Z a,E J b]∧d= .agg [.lit (.int Z a), .lit (.int J b)]:=by
 unfold zuN at h;split at h
 ·rename_i cs;obtain ⟨a,b,e,hd⟩:=zib h;obtain ⟨l⟩:=cs;exact ⟨a,b,by rw[show l=_ from e],hd⟩
 ·cases h
def arms:Reads (Int×Int) where
 val c:= .agg #[E Z c.1,E J c.2]
 dat c:= .agg [.lit (.int Z c.1), .lit (.int J c.2)]
 R:=zuN
 zv:= .agg #[E Z 0,E J 0]
 zd:= .agg [.lit (.int Z 0), .lit (.int J 0)]
 hR _:=rfl
 hI v c ps h:=by
  obtain ⟨a,b,rfl,h1⟩:=zaW h
  have:c.1=a∧c.2=b:=by simpa using h1
  rw[this.1,this.2]
 hZ:=rfl
 hZI v ps h:=by
  obtain ⟨a,b,rfl,h1⟩:=zaW h
  have:(0:Int)=a∧(0:Int)=b:=by simpa using h1
  rw[←this.1,←this.2]
def byF (S:List zC):Int→Option (Int×Int):=fun id=>(S.find? fun t=>t.w==id).map fun t=>(t.h,t.d)
structure KE (w:World) (C hb hm:Nat) (v:Value) (ab:Nat) (c:bJ) (N K:Nat):Prop where
 obj:w.heap[C]?=V (.cells #[E J c.now,Y (V ⟨hb,0,O⟩), .map (some ab)] 212 (0,0))
 heap:vS w hb hm v 0 c.S c.last N
 by':Zl arms w ab (byF c.S) K
 apart:ab≠hm
 nod:(c.S.map (·.w)).Nodup
 rng: ∀t∈c.S,t.w≠0∧t.d<18446744073709551615
 now:0≤c.now∧c.now≤1000000000
 few:c.S.length≤1000
def OfC (C hb hm:Nat) (v:Value) (ab:Nat) (b:Nat):Prop:=b=C∨b=ab∨Of hb hm v b
section
variable {w w':World} {C hb hm:Nat} {v:Value} {ab:Nat} {c:bJ} {N K:Nat}
theorem KE.zk (h:KE w C hb hm v ab c N K) (e: ∀b,OfC C hb hm v ab b→w'.heap[b]?=w.heap[b]?):KE w' C hb hm v ab c N K:=
 ⟨(e C (Or.inl rfl)).trans h.obj,h.heap.zk fun k hk=>e k (Or.inr (Or.inr hk)),h.by'.of_block (e ab (Or.inr (Or.inl rfl))),h.apart,h.nod,h.rng,h.now,h.few⟩
theorem KE.lt (h:KE w C hb hm v ab c N K) {b:Nat} (hb':OfC C hb hm v ab b):b<w.heap.size:=by
 rcases hb' with rfl|rfl|hk
 ·exact zo h.obj
 ·exact h.by'.lt
 ·exact h.heap.of_lt hk
theorem KE.out (h:KE w C hb hm v ab c N K): ¬Of hb hm v C∧ ¬Of hb hm v ab∧C≠ab:=by
 obtain ⟨l,f,hraw,_⟩:=h.heap;obtain ⟨es,cc,hme⟩:=h.by'.isMap;obtain ⟨es2,I5,rY⟩:=hraw.map.isMap;have ho:=hraw.obj;unfold bL at ho;refine ⟨?_,?_,?_⟩
 ·rintro (e|e|e)
  ·exact Zp h.obj ho Y2 e
  ·rw[←e,h.obj] at rY;cases rY
  ·obtain ⟨cur,hc⟩:=Hp.Zz hraw.row e;exact Zp h.obj hc Y2 rfl
 ·rintro (e|e|e)
  ·rw[e,ho] at hme;cases hme
  ·exact h.apart e
  ·obtain ⟨cur,hc⟩:=Hp.Zz hraw.row e;rw[hc] at hme;cases hme
 ·intro e;rw[←e,h.obj] at hme;cases hme
theorem KE.cells (h:KE w C hb hm v ab c N K):w.cell? ⟨C,0,O⟩=V (E J c.now)∧w.cell? ⟨C,1,O⟩=V (Y (V ⟨hb,0,O⟩))∧w.cell? ⟨C,2,O⟩=V (.map (some ab))∧ ∀o,w.frozen? ⟨C,o,O⟩=false:=
 ⟨by rw[ze h.obj];rfl,by rw[ze h.obj];rfl,by rw[ze h.obj];rfl,fun o=>zF h.obj o⟩
end
theorem zpY {hb hm:Nat} {v v':Value} {n k:Nat} (hv: ∀k,v'.ownBlock=some k→v.ownBlock=some k∨n≤k) (h:Of hb hm v' k):Of hb hm v k∨n≤k:=by
 rcases h with h|h|h
 ·exact Or.inl (Or.inl h)
 ·exact Or.inl (Or.inr (Or.inl h))
 ·rcases hv k h with h|h
  ·exact Or.inl (Or.inr (Or.inr h))
  ·exact Or.inr h
def ztW (w:World) (C hb hm:Nat) (v:Value) (ab:Nat) (c:bJ) (N K:Nat) (w':World):Prop:=
 ∃v',KE w' C hb hm v' ab c N K∧Asm.Keeps (OfC C hb hm v ab) w w'∧ ∀b,v'.ownBlock=some b→v.ownBlock=some b∨w.heap.size≤b
end Kn
end Go.Proofs.YtdlpmnmenhojfaaGreatDoor
