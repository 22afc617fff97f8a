/- Part 34 of what the proof stands on: KnStepL, KnRet, FdRn, KnMark, KnPop, KnFin, KnKo2, KnPush, KnIdle, KnDoL, KnRunL, KnDoG, FdRu. -/
import Derived.Test.YtdlpmnmenhojfaaGreatDoorR16
import Derived.Test.YtdlpmnmenhojfaaGreatDoorR31
set_option linter.unusedVariables false
set_option maxHeartbeats 40000000
set_option maxRecDepth 100000
variable {zP:Prop}
namespace Go.Proofs.YtdlpmnmenhojfaaGreatDoor
open Go.IntKind renaming i64->Z,u64->J
open Go.Value renaming int->E,pointer->Y,slice->Sl
open Option renaming none->O,some->V
open Go.Obj renaming cells->Ce
open Go.Ending renaming returned->Rt
open Go.Proofs.Tryz renaming prog->Tp
namespace Kn
open Go.RowKit Asm
theorem zjn {f:Frame} {m:Mem} (hm:bM m) (hr: ∀y∈f.r,Zm y) {x:zx} {v:Int} {m':Mem} (h:Gl f m x=V (v,m')):Zm v:=by
 unfold Gl at h
 cases e:m.acc (ZT x.op) (vk f x) (rg f x.a) (if x.op=21 then rg f x.c else rg f x.a) with
 |none=>rw[e] at h;cases h
 |some p=>
  rw[e] at h
  injection h with h
  injection h with h1 h2
  unfold Mem.acc at e
  split at e
  ·cases e
  ·injection e with e
   rw[←h1,←e]
   simp only
   split
   ·exact Vm hr _
   ·exact za6 m hm _
section
variable {F:Fixed} {w:World} {own:Own} {G:KG} {M:zD} {n:Nat}
theorem Vv.zbU {own:Own} {tg:Tag} {v:Value} {l:List zx} (h:Vv w own tg 111 7 v l.length (Ze l)) (hl:0<l.length): ∃g c,v=Sl (V ⟨g,0,O⟩) l.length c∧vK w g l∧own g=tg∧g<w.heap.size:=by
 have h0:=h.1;obtain ⟨h1,⟨h2,h3⟩ |⟨g,cap,cur,rfl,hg,r⟩⟩:=h0
 ·omega
 ·refine ⟨g,cap,rfl,fun k hk j u hu=>?_,h.2 g rfl,h.lt rfl⟩;have hj:j<7:=by
   have:=(Array.getElem?_eq_some_iff.1 hu).1;simpa[zS] using this
  have e1:(Ze l)[k*7+j]?=some u:=by
   rw[show Ze l=l.flatMap fun x=>(zS x).toList from rfl,gu (k:=7) (fun _=>rfl) l k hk j hj];simpa using hu
  have:=h.1.cells rfl _ _ e1;rwa[Addr.add_lit,Nat.zero_add] at this
theorem zcd {l:List zx} {m:Mem} {f:Frame} {x:zx} {lib:Bool} (hmay: ∀x∈l,vI x l.length lib=true) (hx:Zc l f.pc=some x) (ho:17≤x.op∧x.op≤21) (hl:f.r.length=32) (ha:0≤x.a∧x.a<32) {v:Int} {m':Mem} (h:Gl f m x=V (v,m')):zK f l m=⟨0,{ f with r:=f.r.set x.a.toNat v,pc:=f.pc+1},m'⟩:=by
 rw[Bu ((Kg hmay f.pc).trans hx),if_neg Y1,if_pos ho]
 unfold Gl at h
 cases e:m.acc (ZT x.op) (vk f x) (rg f x.a) (if x.op=21 then rg f x.c else rg f x.a) with
 |none=>rw[e] at h;cases h
 |some p=>
  obtain ⟨was,m2⟩:=p
  rw[e] at h
  injection h with h
  injection h with h1 h2
  subst h2
  simp only
  rw[←h1]
  by_cases h18:x.op=18
  ·rw[if_pos h18,if_pos h18]
   have:f.r.set x.a.toNat (rg f x.a)=f.r:=zjA (by
    unfold rg
    rw[List.getD_eq_getElem?_getD,List.getElem?_eq_getElem Y1]
    rfl)
   rw[this]
  ·rw[if_neg h18,if_neg h18]
   rfl
theorem zch {l:List zx} {m:Mem} {f:Frame} {x:zx} {lib:Bool} (hmay: ∀x∈l,vI x l.length lib=true) (hx:Zc l f.pc=some x) (ho:17≤x.op∧x.op≤21) (h:Gl f m x=none):zK f l m=⟨3,f,m⟩:=by
 rw[Bu ((Kg hmay f.pc).trans hx),if_neg Y1,if_pos ho]
 unfold Gl at h
 cases e:m.acc (ZT x.op) (vk f x) (rg f x.a) (if x.op=21 then rg f x.c else rg f x.a) with
 |none=>rfl
 |some p=>rw[e] at h;cases h
theorem zkK {l:List zx} {m:Mem} {f:Frame} {x:zx} (hx:zbK l f.pc=some x) (ho: ¬(17≤x.op∧x.op≤21)):(zK f l m).mem=m:=by
 rw[Bu hx];repeat' split
 all_goals first
  |rfl
  |omega
theorem zkD (h:zi F w own G M n) {i:Nat} (hi:i<F.workers) {t:Option Int} {b o:Nat} (fa:VZ G M i t b o) (hn:n≤100000):
  Calls Tp 180 #[Y (V ⟨b,o,O⟩),G.lv, .iface 79 (Y (V ⟨G.X,0,O⟩))] w fun e w'=>(∃ev,e=Rt (.tuple #[E Z (zK (zA M i t) F.lib M.mem).how,ev]))∧KO F w own G (Zu { M with mem:=(zK (zA M i t) F.lib M.mem).mem} i t (zK (zA M i t) F.lib M.mem).f) (n+1) w':=by
 obtain ⟨ty,P,S,tb,tk,bv,hf⟩:=h.frame hi fa;obtain ⟨g,c,hlv,hc,hgo,hg⟩:=h.fix.lib.zbU h.fok.lib.1;have hl:=h.fok.lib.2;have hmay:=h.fok.libs;have hv:=h.fok.libv;have hM:=h.mem;rw[hlv];have hpc:=hf.fr.ok.pc;by_cases hp:(F.lib.length:Int)≤(zA M i t).pc
 ·have e1:zK (zA M i t) F.lib M.mem=⟨3,zA M i t,M.mem⟩:=zln ((Kg hmay _).trans (JF (Or.inr hp)));rw[e1];exact (zk9 hf.fr hl hp).mono fun e w' ⟨p,q⟩=>⟨⟨_,p⟩,hf.out hM (Nat.le_succ n) ((Zd.refl hf.fr (Nat.le_succ n)).below q)⟩
 ·obtain ⟨hx,hxm⟩:=zoQ (l:=F.lib) hpc.1 Y1;generalize F.lib.getD (zA M i t).pc.toNat {}=x at hx hxm;have hmx:=hmay x hxm;have hO:=(vH hmx).1;have hr:zbK F.lib (zA M i t).pc=some x:=(Kg hmay _).trans hx;by_cases ho:17≤x.op∧x.op≤21
  ·obtain ⟨gc,gw,hm,hmo⟩:=hM;obtain ⟨ha,hb,-,-,hcc⟩:=Kz hmx;have LG:=hm.lt;have yg: ∀d,d=G.X∨d=gc→d≠b:=fun d hd e=>by
    have e1:own b= .mem:=by rw[←e];exact hmo d (hd.elim Or.inl fun e=>Or.inr (Or.inl e))
    rw[hf.fr.mine] at e1;exact hf.ntb.1 e1
   have HA:=zlG (bv:=bv) (c:=c) hf.fr hc hg hl hmay hv hn (mt:=79) (mv:=Y (V ⟨G.X,0,O⟩)) hx ho (au:=fun w'=>Gl (zA M i t) M.mem x=none∧Below w.heap.size w w') (R:=fun v w'=> ∃m',Gl (zA M i t) M.mem x=V (v,m')∧Zn w' G.X gc gw m'∧Keeps (fun b=>b=G.X∨b=gc) w w') fun k W bx hk hk2 hW hbx hb1 hb2=>by
    have hfw:=hf.fr.below hW;have hA:=zfJ hfw (hm.below' hW) x ho ha hb (fun e=>hcc Y65) ⟨fun e=>yg _ (Or.inl rfl) e.symm,fun e=>yg _ (Or.inr rfl) e.symm⟩ (hv x hxm);refine hA.mono fun e w' hq=>?_;have hst: ∀d,d≠G.X→d≠gc→d<W.heap.size→w'.heap[d]?=W.heap[d]?:=fun d d1 d2 d3=>by
     cases hr:Gl (zA M i t) M.mem x with
     |none=>rw[hr] at hq;exact hq.2.block d d3
     |some p=>rw[hr] at hq;exact hq.2.2.block d d3 fun e=>e.elim d1 d2
    have LQ:w'.heap[bx]?=W.heap[bx]?:=hst bx Y1 Y1 hb2;have hbb:w'.heap[b]?=W.heap[b]?:=hst b (fun e=>yg _ (Or.inl rfl) e.symm) (fun e=>yg _ (Or.inr rfl) e.symm) hfw.lens.lt;obtain ⟨f1,-,f3,f4⟩:=hfw.cells;refine ⟨?_,(World.cell?_of_block (a:=⟨b,o,O⟩) hbb).trans f1,(World.frozen?_of_block (a:=⟨b,o,O⟩) hbb).trans (f4 _),(World.frozen?_of_block (a:=⟨b,o+1+k,O⟩) hbb).trans (f4 _),⟨_,(World.cell?_of_block (a:=⟨b,o+1+k,O⟩) hbb).trans (f3 k hk2)⟩,?_⟩
    ·rw[World.cell?_of_block (a:=⟨bx,1,O⟩) LQ,hbx.2.1,hk]
    ·cases hr:Gl (zA M i t) M.mem x with
     |none=>
      rw[hr] at hq;obtain ⟨⟨v,ev,rfl,te,xe,rfl⟩,q2⟩:=hq;exact Or.inl ⟨v,te,xe,rfl,rfl,hW.trans (q2.mono hW.size)⟩
     |some p=>
      obtain ⟨v,m'⟩:=p;rw[hr] at hq;obtain ⟨rfl,q2,q3⟩:=hq;exact Or.inr ⟨v,rfl,m',rfl,q2,(Keeps.zO hW).trans q3 fun _ e=>Or.inl e⟩
   refine HA.mono fun e w' hq=>?_;rcases hq with ⟨ev,w2,rfl,⟨hN,hB⟩,hB2⟩ |⟨v,w2,q,rfl,⟨m',hS,hm2,hk2⟩,rfl⟩
   ·rw[zch hmay hx ho hN];exact ⟨⟨_,rfl⟩,hf.out ⟨gc,gw,hm,hmo⟩ (Nat.le_succ n) ((Zd.refl hf.fr (Nat.le_succ n)).below (VK hB hB2))⟩
   ·rw[zcd hmay hx ho hf.fr.ok.len ha hS];refine ⟨⟨_,rfl⟩,?_⟩;have hk:Touch (fun t=>t= .mem) w w2 own (ext own w.heap.size .mem):=touch_of hk2 fun d hd=>hmo d (hd.elim Or.inl fun e=>Or.inr (Or.inl e));have hf2:=hf.fr.move hk (fun e=>hf.ntb.1 e) fun e=>hf.ntb.2.1 e;have hkk:x.a.toNat<32:=Y1;have hO2:=((((Zd.refl hf2 (Nat.le_succ n)).drewN q).reg hf.ne hkk (zjn hm.ok hf.fr.ok.r hS)).pc hf.ne (p:=(zA M i t).pc+1) Y1);obtain ⟨dw,IZ,r1,r2⟩:=hO2;have hT:Touch (fun t=>t=tb∨t=tk∨t= .mem) w _ own dw:=(hk.mono fun _ e=>Or.inr (Or.inr e)).trans (r2.mono fun _ e=>e.elim Or.inl fun e=>Or.inr (Or.inl e));have lG:zaD w2 (ext own w.heap.size .mem) G.X m':=⟨gc,gw,hm2,fun d hd=>Zo (Or.inl (hmo d hd))⟩;refine ⟨dw,hf.back _ dw (n+1) _ IZ m' (Nat.le_succ n) hT r1 (lG.move r2 fun e=>e.elim (fun e=>hf.ntb.1 e.symm) fun e=>hf.ntb.2.1 e.symm),hT.mono ?_⟩;intro t2 ht e0
    subst e0;rcases ht with e|e|e
    ·have q:=hf.ntb.2.2.1;rw[←e] at q;rcases q with q|q<;>exact q
    ·have q:=hf.ntb.2.2.2;rw[←e] at q;rcases q with q|q<;>exact q
    ·cases e
  ·have hsm:=zkK (m:=M.mem) hr ho;rw[hsm];have fin: ∀(e:Ending) (w':World),e=Rt (.tuple #[E Z (zK (zA M i t) F.lib M.mem).how, .nilIface])∧Zd w own b o ty P S tb tk (n+1) (zK (zA M i t) F.lib M.mem).f w'→(∃ev,e=Rt (.tuple #[E Z (zK (zA M i t) F.lib M.mem).how,ev]))∧KO F w own G (Zu { M with mem:=M.mem} i t (zK (zA M i t) F.lib M.mem).f) (n+1) w':=fun e w' ⟨a,c⟩=>⟨⟨_,a⟩,hf.out hM (Nat.le_succ n) c⟩
   exact J78
end
section
variable {F:Fixed} {w:World} {own:Own} {G:KG} {M:zD} {n:Nat}
theorem zi.zeL (h:zi F w own G M n) {id:Int} {r:Run} (hr:zR M.runs id=some r) (hne:r.l≠ []): ∃g c l,w.cell? ⟨G.tb id,1,O⟩=V (Sl (V ⟨g,0,O⟩) (l+1) c)∧r.l.length=l+1∧w.cell? ⟨g,l,O⟩=V (Y (V ⟨G.fb id l,0,O⟩))∧own g= .row id∧g<w.heap.size∧l+1≤c:=by
 obtain ⟨-,⟨lv,hc,hrow⟩,-,-,-⟩:=h.ZB hr;obtain ⟨hm,rfl⟩:=Za hr;have hl:0<r.l.length:=List.length_pos_iff.2 hne;obtain ⟨l,hll⟩: ∃l,r.l.length=l+1:=⟨r.l.length - 1,by omega⟩;obtain ⟨h1,⟨h2,h3⟩ |⟨g,cap,cur,rfl,hg,q⟩⟩:=hrow.1
 ·omega
 ·refine ⟨g,cap,l,by rw[hc,hll],hll,?_,hrow.2 g rfl,hrow.lt rfl,?_⟩
  ·have e1:(Vo G.fb r)[l]?=V (Y (V ⟨G.fb r.id l,0,O⟩)):=by
    unfold Vo;rw[List.getElem?_map,List.getElem?_range Y1];rfl
   have:=hrow.1.cells rfl _ _ e1;rwa[Addr.add_lit,Nat.zero_add] at this
  ·have:=q.2.1;omega
theorem JO (hn:(M.runs.map (·.id)).Nodup) {i:Nat} (hi:i<M.wkrs.length) {t:Option Int} {b o:Nat} (fa:VZ G M i t b o) (f:Frame):zA (Zu M i t f) i t=f:=by
 cases t with
 |none=>
  show (zl (setW M i { zl M i with f:=f}) i).f=_
  rw[Va hi]
 |some id=>
  obtain ⟨r,hr,-,-,-⟩:=fa
  have hid:=(Za hr).2
  have e1:Zu M i (some id) f={ M with runs:=Zb M.runs (zW r { zZ r with f:=f})}:=by unfold Zu;simp only[hr]
  rw[e1]
  unfold zA
  simp only
  rw[vV hn (r0:=r) Y15,if_pos Y30]
  simp[zW,zZ]
theorem jV (h:zi F w own G M n) {id:Int} {r:Run} (hr:zR M.runs id=some r) (hne:r.l≠ []) (num code v:Int) (hc:Zm code) (hv:Zm v) (hf:M.out.length<1000000):
  Calls Tp 232 #[Y (V ⟨G.K,0,O⟩),Y (V ⟨G.tb id,0,O⟩),E Z num,E J code,E J v] w fun rr w'=>rr= .returned (.tuple #[])∧KO F w own G (returned M id num code v) n w':=by
 obtain ⟨g,c,l,CS,hll,cg,-,hgl,hlc⟩:=h.zeL hr hne;have yC:(0:Int)≤(l:Int)∧(l:Int)<(l:Int)+1:=Y1;have hlen:r.l.length≤100:=(h.runs.each r (Za hr).1).few;have hl2:(l:Int)≤99:=Y1;have hw:IntKind.i64.wrap ((l:Int)+1 - 1)=(l:Int):=gT;have fa:VZ G M 0 (some id) (G.fb id l) 0:=⟨r,hr,hne,by rw[hll];rfl,rfl⟩;have h0:0<F.workers:=h.fok.workers.1;obtain ⟨f0,-,f1,lQ⟩:=h.reg h0 fa 0 Y2;obtain ⟨f2,-,f3,-⟩:=h.reg h0 fa 1 Y2;obtain ⟨Rc,-,-,⟨-,hui⟩,-⟩:=h.ZB hr;have hl0:0<M.wkrs.length:=h.bV h0;have e2:zA (Zu M 0 (some id) (vC (zZ r).f 0 code)) 0 (some id)=vC (zZ r).f 0 code:=JO h.runs.nod hl0 fa _;have hgf:zA M 0 (some id)=(zZ r).f:=by unfold zA;simp only[hr]
 have e3:zG (zG M 0 (some id) 0 code) 0 (some id) 1 v={ M with runs:=Zb M.runs (zW r { zZ r with f:=vC (vC (zZ r).f 0 code) 1 v})}:=by
  unfold zG;rw[hgf,e2,zck h.runs.nod fa];unfold Zu;simp only[hr]
 have dZ:Hid (∀q,KO F w own G { M with runs:=Zb M.runs (zW r { zZ r with f:=vC (vC (zZ r).f 0 code) 1 v})} n (((w.drewN q).setCell ⟨G.fb id l,1,O⟩ (E J code)).setCell ⟨G.fb id l,2,O⟩ (E J v))):=Y0 fun q=>by
  rw[←e3];obtain ⟨o1,k1,t1⟩:=(h.drewN q).KT h0 fa (k:=0) Y2 hc;obtain ⟨o2,k2,t2⟩:=k1.KT h0 (t:=some id) (b:=G.fb id l) (o:=0) (VZ.Zu fa h.runs.nod _) (k:=1) Y2 hv;exact ⟨o2,k2,(ZW w own q).trans (t1.trans t2)⟩
 have qB:Hid (returned M id num code v=tell { M with runs:=Zb M.runs (zW r { zZ r with f:=vC (vC (zZ r).f 0 code) 1 v})} ⟨2,0,0,id,num,0,0,0,0,v,code⟩):=Y0 (by
  unfold returned
  simp only[hr])
 have hr2:zR (Zb M.runs (zW r { zZ r with f:=vC (vC (zZ r).f 0 code) 1 v})) id=V (zW r { zZ r with f:=vC (vC (zZ r).f 0 code) 1 v}):=by
  have hid:=(Za hr).2;rw[vV h.runs.nod (r0:=r) Y15,if_pos Y30]
 have QL:Hid (∀W own',zi F W own' G { M with runs:=Zb M.runs (zW r { zZ r with f:=vC (vC (zZ r).f 0 code) 1 v})} n→W.cell? ⟨G.tb id,0,O⟩=V (E J id)):=Y0 fun W own' h'=>(h'.ZB hr2).1;have fH:=Y0 hf;have H:=Y0 h;have iD:=Y0 fa;clear fa hr hne hll hlen e2 e3 hgf hr2 hf hc hv;generalize Zb M.runs (zW r { zZ r with f:=vC (vC (zZ r).f 0 code) 1 v})=rs at*;go_enter Tryz.func232,Tryz.ntmps232;go_wp2_with fail;go_quiet (fail);go_wp2_with fail;go_region_with (fail);have HQ:=dZ.out (nq+1);generalize (((w.drewN (nq+1)).setCell ⟨G.fb id l,1,O⟩ (E J code)).setCell ⟨G.fb id l,2,O⟩ (E J v))=w1 at HQ ⊢;obtain ⟨aC,h1,t1⟩:=HQ;have HT:=Y0 t1;have c0:=QL.out w1 aC h1;have ng:=Y0 (KA h1 ⟨2,0,0,id,num,0,0,0,0,v,code⟩ fH.out);clear h1 t1;go_wp2_with fail
 refine ng.out.mono ?_;rintro e w2 ⟨rfl,hk⟩;have HK:=Y0 hk;clear hk;go_wp2_with fail;go_end0;rw[qB.out];exact ⟨rfl,KO.trans HT.out HK.out⟩
end
open Go.RowKit Go.Maps Asm
section
variable {F:Fixed} {w:World} {own:Own} {G:KG} {M:zD} {n:Nat}
theorem zgr (l:List Int) (x:Int):kU (l++ [x])=kU l++ [E Z x]:=by unfold kU;simp
theorem zgT (h:zi F w own G M n) (hn:n≤60000) (id:Int) (hid:Zm id):
  Calls Tp 58 #[Y (V ⟨G.K,0,O⟩),E J id] w fun e w'=> ∃v l,e= .returned v∧w'.ownsRow w.heap.size 3 1 v l.length (kU l)∧Below w.heap.size w w'∧l.length≤100:=by
 have TS:w.cell? ⟨G.K,1014,O⟩=V (.map (some G.th)):=h.Vb fun _ _ hc=>hc.th
 have hlk:=h.look id hid
 cases hr:zR M.runs id with
 |none=>
  rw[hr] at hlk
  clear h
  go_enter Tryz.func58,Tryz.ntmps58
  go_wp2_with fail
  go_ret
  exact ⟨_,[],rfl,World.ownsRow_nil _ _ _ _,Below.refl _ _,by decide⟩
 |some r=>
  rw[hr] at hlk
  obtain ⟨hm,MG⟩:=Za hr
  subst MG
  have hR:=h.runs.each _ hm
  obtain ⟨lv,hto,hrow⟩:=hR.obj
  have dA:=hR.few
  obtain ⟨Al,cl,rfl⟩:=Asm.zn hrow.1
  have CS:w.cell? ⟨G.tb r.id,1,O⟩=V (.slice Al r.l.length cl):=ze hto 1
  obtain ⟨L,hL⟩: ∃L,L=r.l.length:=⟨_,rfl⟩
  rw[←hL] at CS
  have HX:Hid (∀i,i<L→ ∃gs fb pc lb,Al=some ⟨gs,0,O⟩∧gs<w.heap.size∧fb<w.heap.size∧w.cell? ⟨gs,i,O⟩=V (Y (V ⟨fb,0,O⟩))∧w.cell? ⟨fb,0,O⟩=V (E Z pc)∧w.cell? ⟨fb,34,O⟩=V (.bool lb)∧0≤pc∧pc≤64000):=Y0 fun i hi=>by
   have hil:i<r.l.length:=Y1
   have hP:=hR.frs i r.l[i] (List.getElem?_eq_getElem hil)
   obtain ⟨bv,hfo,-⟩:=hP.obj
   have hlen:r.l[i].f.r.length=32:=hP.ok.len
   have hpc:=hP.ok.pc
   rcases Go.Proofs.YtdlpmnmenhojfaaGreatDoor.gG hrow.1 with ⟨q,-⟩ |⟨gs,c',q,hq⟩
   ·injection q with _ q2 _
    omega
   ·injection q with q1 _ _
    refine ⟨gs,G.fb r.id i,r.l[i].f.pc,r.l[i].lib,q1,(hrow.1.lt gs (by rw[q1];rfl)).2,zo hfo,?_,ze hfo 0,?_,hpc.1,by have:=hpc.2;omega⟩
    ·have e1:(Vo G.fb r)[i]?=V (Y (V ⟨G.fb r.id i,0,O⟩)):=by
      unfold Vo
      rw[List.getElem?_map,List.getElem?_range hil]
      rfl
     have:=hq i _ e1
     rwa[Addr.add_lit,Nat.zero_add] at this
    ·refine (ze hfo 34).trans ?_
     rw[List.getElem?_toArray,List.getElem?_append_right (by simp[BU,hlen])]
     simp[BU,hlen]
  have rM:(0:Int)≤(L:Int)∧(L:Int)≤100:=Y1
  clear h hR hto hrow hm hr dA hL
  generalize G.tb r.id=tb at*
  go_enter Tryz.func58,Tryz.ntmps58
  go_wp2_with fail
  go_loopg [22,6] L (fun g iv lv wr=> ∃(i:Nat),i≤L∧g=L - i∧iv=E Z (i:Int)∧Hid (∃l:List Int,l.length=i∧wr.ownsRow w.heap.size 3 1 lv i (kU l)∧Below w.heap.size w wr))
  case atStart=>exact ⟨0,by omega,rfl,rfl,Y0 ⟨[],rfl,World.ownsRow_nil _ _ _ _,Below.refl _ _⟩⟩
  case round=>
   obtain ⟨i,hi,hg,rfl,HR⟩:=hrel
   have Hg:=Y0 hg
   have dH:(0:Int)≤(i:Int)∧(i:Int)≤100:=Y1
   obtain ⟨l,hl,hown,hb⟩:=HR.out
   by_cases hlt:i<L
   ·obtain ⟨A4,c4,rfl⟩:=Asm.zn hown
    have aH:(i:Int)<(L:Int):=Y1
    have fu:=Y0 hlt
    obtain ⟨gs,fb,pc,lb,rfl,hgs,lQ,x0,x1,x2,hpc⟩:=HX.out i hlt
    have y0:=(hb.cell (p:=⟨gs,i,O⟩) hgs).trans x0
    have y1:=(hb.cell (p:=⟨fb,0,O⟩) lQ).trans x1
    have y2:=(hb.cell (p:=⟨fb,34,O⟩) lQ).trans x2
    obtain ⟨val,hval⟩: ∃val:Int,val=if lb=true then -1 - pc else pc:=⟨_,rfl⟩
    have hz1:=heap_alloc_new wr (.cells #[E Z val] 3)
    have hb1:Below w.heap.size w (wr.alloc (Ce #[E Z val] 3)):=hb.alloc hb.size _
    have hown1:(wr.alloc (Ce #[E Z val] 3)).ownsRow w.heap.size 3 1 (.slice A4 i c4) i (kU l):=Asm.za hown fun b e=>heap_alloc_old _ _ (hown.lt b e).2
    obtain ⟨v',w3,hrun,hown3,hg3,-⟩:=zvy (w:=wr.alloc (Ce #[E Z val] 3)) w.heap.size 76 76 3 1 8 Tryz.underlying76 Y4 Y2 Y2 hown1 (zbw (base:=0) hz1 (Nat.zero_le _)) (fun u hu=>by simp at hu;subst hu;rfl) Y1 (by have:=hb.size;simp;omega)
    have hb3:Below w.heap.size w w3:=⟨hg3.os.trans hb1.os,hg3.tape.trans hb1.tape,hg3.output.trans hb1.output,Nat.le_trans hb1.size hg3.size,fun b hbb=>(hg3.block b (Nat.lt_of_lt_of_le hbb hb1.size) fun e=>by have:=(hown.lt b e.symm).1;omega).trans (hb1.block b hbb)⟩
    obtain ⟨A3,c3,rfl⟩:=Asm.zn hown3
    have HZ:Hid (∃l:List Int,l.length=i+1∧w3.ownsRow w.heap.size 3 1 (.slice A3 (i+1) c3) (i+1) (kU l)∧Below w.heap.size w w3):=Y0 ⟨l++ [val],by simp[hl],by rw[zgr];exact hown3,hb3⟩
    have eU:=Y0 hrun
    clear hz1 hb1 hown1 hrun hown3 hg3 hb3 hown hb HX
    cases lb with
    |true=>
     rw[if_pos rfl] at hval
     subst hval
     have hwr:IntKind.i64.wrap (-1 - pc)= -1 - pc:=gT
     go_wp2_with (at_builtin;refine Go.Lib.wpList_append_run _ rfl (.tmp 30) (.tmp 37) 76 76 rfl _ _ rfl rfl _ _ eU.out ?_)
     go_roundg (L - (i+1))
     case measure=>have:=Hg.out;have:=fu.out;omega
     case rel=>have:=fu.out;exact ⟨i+1,by omega,rfl,by go_num,HZ⟩
    |false=>
     rw[if_neg Y2] at hval
     subst hval
     go_wp2_with (at_builtin;refine Go.Lib.wpList_append_run _ rfl (.tmp 39) (.tmp 45) 76 76 rfl _ _ rfl rfl _ _ eU.out ?_)
     go_roundg (L - (i+1))
     case measure=>have:=Hg.out;have:=fu.out;omega
     case rel=>have:=fu.out;exact ⟨i+1,by omega,rfl,by go_num,HZ⟩
   ·obtain rfl:i=L:=Y1
    obtain ⟨A4,c4,rfl⟩:=Asm.zn hown
    have HZ:=Y0 (And.intro hl (And.intro hown hb))
    clear hown hb hg hl HX
    go_wp2_with fail
    go_ret
    obtain ⟨h1,h2,h3⟩:=HZ.out
    exact ⟨_,l,rfl,by rw[h1];exact h2,h3,by omega⟩
end
end Kn
namespace Kn
open Go.RowKit Asm
theorem znK {x:Int} (ho:1≤x∧x≤58) (w:World):Calls Tp 231 #[E Z x] w fun e w'=>e=Rt (.bool (Gm x))∧w=w':=by
 have HF:=Y0 (zae ho w);generalize Gm x=a1 at*;generalize hasB x=a2 at*;generalize JR x=a3 at*;generalize Gj x=a4 at*;go_enter Tryz.func231,Tryz.ntmps231;go_wp2_with fail;refine HF.out.mono ?_;exact J96
section
variable {F:Fixed} {w:World} {own:Own} {G:KG} {M:zD} {n:Nat}
theorem znb (h:zi F w own G M n) (id:Int) (b o:Nat) (x:zx) (hm:x.m=0):
  Calls Tp 177 #[Y (V ⟨G.K,0,O⟩),E J id,Y (V ⟨b,o,O⟩), .agg (zS x)] w fun rr w'=>rr= .returned (.tuple #[])∧KO F w own G M n w':=by
 obtain ⟨xo,xa,xb,xc,xv,xm,xw⟩:=x;simp only at hm;subst hm;unfold zS;have H:=Y0 h;clear h;go_enter Tryz.func177,Tryz.ntmps177;go_wp2_with fail;refine bodyPost_ret (results_none rfl _ _ _) rfl ?_;exact ⟨rfl,KO.below H.out ((Below.refl _ _).alloc (Nat.le_refl _) _)⟩
theorem zl2 (h:zi F w own G M n) {i:Nat} (hi:i<F.workers) {t:Option Int} {b o:Nat} (fa:VZ G M i t b o) (id:Int) (x:zx) (hm:x.m≠0) (ho:1≤x.op∧x.op≤58) (ha:0≤x.a∧x.a<32) (hw:0≤x.w∧x.w≤2) (hf:M.out.length<1000000):
  Calls Tp 177 #[Y (V ⟨G.K,0,O⟩),E J id,Y (V ⟨b,o,O⟩), .agg (zS x)] w fun rr w'=>rr= .returned (.tuple #[])∧KO F w own G (Vn M id (zA M i t) x) n w':=by
 obtain ⟨k,hk⟩:=Int.eq_ofNat_of_zero_le ha.1
 have hk2:k<32:=Y1
 have dL:(0:Int)≤(k:Int)∧(k:Int)<32:=Y1
 obtain ⟨ra,-,-,hbl⟩:=h.reg hi fa k hk2
 obtain ⟨r0,-,-,-⟩:=h.reg hi fa 0 Y2
 have Ob:=Y0 (fun W=>znK ho W)
 obtain ⟨xo,xa,xb,xc,xv,xm,xw⟩:=x
 simp only at hk hm hw ho Ob
 subst hk
 unfold zS
 have hm2:(xm==0)=false:=beq_eq_false_iff_ne.2 hm
 have hb:Below w.heap.size w (w.alloc (Ce #[E Z xo,E Z k,E Z xb,E Z xc,E J xv,E Z xm,E Z xw] 111)):=(Below.refl _ _).alloc (Nat.le_refl _) _
 have hz:=heap_alloc_new w (.cells #[E Z xo,E Z k,E Z xb,E Z xc,E J xv,E Z xm,E Z xw] 111)
 have H:=Y0 h
 have iD:=Y0 fa
 have HI:=Y0 hi
 have h1:=h.below hb
 have HT:=Y0 (zU (ts:=fun t=>t≠ .other) (t:= .other) (own:=own) hb)
 have BO:Hid (ext own w.heap.size .other w.heap.size= .other):=Y0 (Zo (Or.inr (Nat.le_refl _)))
 have BZ:=Y0 hz
 generalize hw1:w.alloc (Ce #[E Z xo,E Z k,E Z xb,E Z xc,E J xv,E Z xm,E Z xw] 111)=w1 at*
 generalize hbx:w.heap.size=bx at*
 generalize ext own bx .other=aC at*
 have Pn:xw=0∨xw=1∨xw=2:=Y1
 have lY:Hid (∀c,(if Gm xo=true then rg (zA M i t) k else 0)=c→Vn M id (zA M i t) ⟨xo,k,xb,xc,xv,xm,xw⟩=if xw=0∨(xw=1∧c=0)∨(xw=2∧c≠0) then tell M ⟨5,0,0,id,xm,0,0,0,0,rg (zA M i t) 0,c⟩ else M):=Y0 fun c hc=>by
  unfold Vn
  simp only[hc,if_neg hm]
 have fH:=Y0 hf
 clear ra r0 h hb hz fa hi hm ha hf hw ho
 obtain ⟨ra,-,-,-⟩:=h1.reg HI.out iD.out k hk2
 obtain ⟨r0,-,-,-⟩:=h1.reg HI.out iD.out 0 Y2
 have z0:=ze BZ.out 0
 have z1:=ze BZ.out 1
 have z5:=ze BZ.out 5
 have z6:=ze BZ.out 6
 have rT:=zo BZ.out
 generalize hva:rg (zA M i t) (k:Int)=va at*
 have QO:=Y0 hva
 clear hva
 have hc0:rg (zA M i t) ((0:Nat):Int)=rg (zA M i t) 0:=rfl
 rw[hc0] at r0
 clear hc0
 generalize hv0:rg (zA M i t) 0=v0 at*
 have HV0:=Y0 hv0
 clear hv0
 have H1:=Y0 h1
 clear h1
 go_enter Tryz.func177,Tryz.ntmps177
 go_wp2_with fail
 try rw[hw1]
 have FQ:=Y0 hbx
 clear hw1 hbx
 go_region_held3 (fun W=>W.cell? ⟨bx,5,O⟩=V (E Z xm)∧W.cell? ⟨b,o+1+0,O⟩=V (E J v0)) (first|with_reducible exact ⟨z5,r0⟩ |exact ⟨z5,r0⟩ |go_keep) (fail)
 have hb2:Below w1.heap.size w1 (w1.alloc (Ce #[E Z 5,E Z 0,E Z 0,E J id,E Z xm,E J 0,E J 0,E J 0,E J 0,E J v0,E J 0] 74)).drew:=((Below.refl _ _).alloc (Nat.le_refl _) _).drew
 have hz2:(w1.alloc (Ce #[E Z 5,E Z 0,E Z 0,E J id,E Z xm,E J 0,E J 0,E J 0,E J 0,E J v0,E J 0] 74)).drew.heap[w1.heap.size]?=V (Ce #[E Z 5,E Z 0,E Z 0,E J id,E Z xm,E J 0,E J 0,E J 0,E J 0,E J v0,E J 0] 74 (0,0)):=heap_alloc_new w1 _
 have h2:=H1.out.below hb2
 have HT:=Y0 (HT.out.trans (zU (ts:=fun t=>t≠ .other) (t:= .other) (own:=aC) hb2))
 have EO:Hid (ext aC w1.heap.size .other w1.heap.size= .other):=Y0 (Zo (Or.inr (Nat.le_refl _)))
 replace BZ:=Y0 ((hb2.block _ (zo BZ.out)).trans BZ.out)
 have hne:w1.heap.size≠bx:=Y1
 generalize (w1.alloc (Ce #[E Z 5,E Z 0,E Z 0,E J id,E Z xm,E J 0,E J 0,E J 0,E J 0,E J v0,E J 0] 74)).drew=w2 at*
 generalize w1.heap.size=be at*
 generalize ext aC be .other=vQ at*
 clear r0 ra z0 z1 z5 z6 hb2
 obtain ⟨ra,-,-,-⟩:=h2.reg HI.out iD.out k hk2
 rw[show rg (zA M i t) (k:Int)=va from QO.out] at ra
 have z0:=ze BZ.out 0
 have z1:=ze BZ.out 1
 have z6:=ze BZ.out 6
 have e0:=ze hz2 0
 have e10:=ze hz2 10
 have ef:=zF hz2 10
 have EZ:=Y0 hz2
 have H2:=Y0 h2
 clear h2 hz2
 go_wp2_with fail
 refine (Ob.out _).mono ?_
 rintro e w3 ⟨rfl,rfl⟩
 cases hA:Gm xo with
 |false=>
  have fG:=lY.out 0 (by rw[hA];rfl)
  have g0:=ze EZ.out 0
  have g1:=ze EZ.out 1
  have g2:=ze EZ.out 2
  have g3:=ze EZ.out 3
  have g4:=ze EZ.out 4
  have g5:=ze EZ.out 5
  have g6:=ze EZ.out 6
  have g7:=ze EZ.out 7
  have g8:=ze EZ.out 8
  have g9:=ze EZ.out 9
  have g10:=ze EZ.out 10
  clear e0 e10
  rcases Pn with rfl|rfl|rfl
  ·have HM:Hid (Vn M id (zA M i t) ⟨xo,k,xb,xc,xv,xm,0⟩=tell M ⟨5,0,0,id,xm,0,0,0,0,v0,0⟩):=Y0 (fG.trans (if_pos (Or.inl rfl)))
   go_wp2_with fail
   refine (KA (H2.out) ⟨5,0,0,id,xm,0,0,0,0,v0,0⟩ fH.out).mono ?_
   rintro e w9 ⟨rfl,hk⟩
   have qX:=Y0 hk
   clear hk
   go_wp2_with fail
   go_end0
   try rw[HM.out]
   exact ⟨rfl,KO.trans HT.out qX.out⟩
  ·have HM:Hid (Vn M id (zA M i t) ⟨xo,k,xb,xc,xv,xm,1⟩=tell M ⟨5,0,0,id,xm,0,0,0,0,v0,0⟩):=Y0 (fG.trans (if_pos (Or.inr (Or.inl ⟨rfl,rfl⟩))))
   go_wp2_with fail
   refine (KA (H2.out) ⟨5,0,0,id,xm,0,0,0,0,v0,0⟩ fH.out).mono ?_
   rintro e w9 ⟨rfl,hk⟩
   have qX:=Y0 hk
   clear hk
   go_wp2_with fail
   go_end0
   try rw[HM.out]
   exact ⟨rfl,KO.trans HT.out qX.out⟩
  ·have HM:Hid (Vn M id (zA M i t) ⟨xo,k,xb,xc,xv,xm,2⟩=M):=Y0 (fG.trans (if_neg Y2))
   go_wp2_with fail
   go_end0
   try rw[HM.out]
   exact ⟨rfl,vQ,H2.out,HT.out⟩
 |true=>
  have fG:=lY.out va (by simp[hA])
  have oI:Hid ((w2.setCell ⟨be,10,O⟩ (E J va)).drew.heap[be]?=V (.cells #[E Z 5,E Z 0,E Z 0,E J id,E Z xm,E J 0,E J 0,E J 0,E J 0,E J v0,E J va] 74 (0,0))):=Y0 (by show (w2.setCell ⟨be,10,O⟩ (E J va)).heap[be]?=_;rw[zy EZ.out];rfl)
  have H4:=Y0 (H2.out.move (w':=(w2.setCell ⟨be,10,O⟩ (E J va)).drew) ⟨((Keeps.refl _ w2).setCell (p:=⟨be,10,O⟩) EO.out _).drew,fun _ _=>rfl⟩)
  have z64:(w2.setCell ⟨be,10,O⟩ (E J va)).drew.cell? ⟨bx,6,O⟩=V (E Z xw):=(World.cell?_of_block (a:=⟨bx,6,O⟩) (zm (p:=⟨be,10,O⟩) (Ne.symm hne))).trans z6
  have mZ:Hid (Touch (fun t=>t≠ .other) w (w2.setCell ⟨be,10,O⟩ (E J va)).drew own vQ):=Y0 (by
   have hk:Keeps (fun c=>c=be) w2 (w2.setCell ⟨be,10,O⟩ (E J va)).drew:=(Keeps.setCell (X:=fun c=>c=be) (Keeps.refl _ w2) (p:=⟨be,10,O⟩) rfl _).drew
   exact ⟨HT.out.keeps.trans hk fun c hc=>Or.inr (by have:=FQ.out;omega),HT.out.own⟩)
  go_wp2_with fail
  go_still_tail 8,Y4
  change wpList _ _ _ _ _ w2.drew
  go_upto_region 5 with fail
  generalize (w2.setCell ⟨be,10,O⟩ (E J va)).drew=w4 at*
  clear e0 e10 ef z0 z1 z6 ra
  have g0:=ze oI.out 0
  have g1:=ze oI.out 1
  have g2:=ze oI.out 2
  have g3:=ze oI.out 3
  have g4:=ze oI.out 4
  have g5:=ze oI.out 5
  have g6:=ze oI.out 6
  have g7:=ze oI.out 7
  have g8:=ze oI.out 8
  have g9:=ze oI.out 9
  have g10:=ze oI.out 10
  rcases Pn with rfl|rfl|rfl
  ·have HM:Hid (Vn M id (zA M i t) ⟨xo,k,xb,xc,xv,xm,0⟩=tell M ⟨5,0,0,id,xm,0,0,0,0,v0,va⟩):=Y0 (fG.trans (if_pos (Or.inl rfl)))
   go_wp2_with fail
   refine (KA H4.out ⟨5,0,0,id,xm,0,0,0,0,v0,va⟩ fH.out).mono ?_
   rintro e w9 ⟨rfl,hk⟩
   have qX:=Y0 hk
   clear hk
   go_wp2_with fail
   go_end0
   try rw[HM.out]
   exact ⟨rfl,KO.trans mZ.out qX.out⟩
  ·by_cases hc:va=0
   ·subst hc
    have HM:Hid (Vn M id (zA M i t) ⟨xo,k,xb,xc,xv,xm,1⟩=tell M ⟨5,0,0,id,xm,0,0,0,0,v0,0⟩):=Y0 (fG.trans (if_pos (Or.inr (Or.inl ⟨rfl,rfl⟩))))
    go_wp2_with fail
    refine (KA H4.out ⟨5,0,0,id,xm,0,0,0,0,v0,0⟩ fH.out).mono ?_
    rintro e w9 ⟨rfl,hk⟩
    have qX:=Y0 hk
    clear hk
    go_wp2_with fail
    go_end0
    try rw[HM.out]
    exact ⟨rfl,KO.trans mZ.out qX.out⟩
   ·have hc2:(va==0)=false:=beq_eq_false_iff_ne.2 hc
    have HM:Hid (Vn M id (zA M i t) ⟨xo,k,xb,xc,xv,xm,1⟩=M):=Y0 (fG.trans (if_neg (by intro e;rcases e with e|e|e;exact absurd e Y2;exact hc e.2;exact absurd e.1 Y2)))
    go_wp2_with fail
    go_end0
    try rw[HM.out]
    exact ⟨rfl,vQ,H4.out,mZ.out⟩
  ·by_cases hc:va=0
   ·subst hc
    have HM:Hid (Vn M id (zA M i t) ⟨xo,k,xb,xc,xv,xm,2⟩=M):=Y0 (fG.trans (if_neg (by intro e;rcases e with e|e|e;exact absurd e Y2;exact absurd e.1 Y2;exact e.2 rfl)))
    go_wp2_with fail
    go_end0
    try rw[HM.out]
    exact ⟨rfl,vQ,H4.out,mZ.out⟩
   ·have hc2:(va==0)=false:=beq_eq_false_iff_ne.2 hc
    have HM:Hid (Vn M id (zA M i t) ⟨xo,k,xb,xc,xv,xm,2⟩=tell M ⟨5,0,0,id,xm,0,0,0,0,v0,va⟩):=Y0 (fG.trans (if_pos (Or.inr (Or.inr ⟨rfl,hc⟩))))
    go_wp2_with fail
    refine (KA H4.out ⟨5,0,0,id,xm,0,0,0,0,v0,va⟩ fH.out).mono ?_
    rintro e w9 ⟨rfl,hk⟩
    have qX:=Y0 hk
    clear hk
    go_wp2_with fail
    go_end0
    try rw[HM.out]
    exact ⟨rfl,KO.trans mZ.out qX.out⟩
end
section
variable {F:Fixed} {w:World} {own:Own} {G:KG} {M:zD} {n:Nat}
theorem zl0 {fb:Int→Nat→Nat} {r:Run} {l:Nat} (hl:r.l.length=l+1):Vo fb { r with l:=r.l.dropLast}=(Vo fb r).take (l*1):=by
 unfold Vo;rw[List.length_dropLast,hl,Nat.mul_one,Nat.add_sub_cancel,←List.map_take,List.take_range];congr 2;omega
theorem zi.pop (h:zi F w own G M n) {id:Int} {r:Run} (hr:zR M.runs id=some r) {g c l:Nat} (hc:w.cell? ⟨G.tb id,1,O⟩=V (Sl (V ⟨g,0,O⟩) (l+1) c)) (hl:r.l.length=l+1):KO F w own G (GU M id) n (w.setCell ⟨G.tb id,1,O⟩ (Sl (V ⟨g,0,O⟩) l c)):=by
 have e0:GU M id={ M with runs:=Zb M.runs { r with l:=r.l.dropLast}}:=by unfold GU;simp only[hr]
 rw[e0];obtain ⟨hm,rfl⟩:=Za hr;have hP:=h.runs.each r hm;obtain ⟨lv,ho,hrow⟩:=hP.obj;have hlv:lv=Sl (V ⟨g,0,O⟩) (l+1) c:=by
  rw[ze ho] at hc;exact Option.some.inj hc
 have hk:Touch (fun t=>t= .thr r.id) w (w.setCell ⟨G.tb r.id,1,O⟩ (Sl (V ⟨g,0,O⟩) l c)) own own:=⟨(Keeps.refl _ w).setCell (p:=⟨G.tb r.id,1,O⟩) hP.mine _,fun _ _=>rfl⟩;refine ⟨own,?_,hk.mono fun t e=>by rw[e];nofun⟩;have hpr:kG (w.setCell ⟨G.tb r.id,1,O⟩ (Sl (V ⟨g,0,O⟩) l c)) own G.th G.tb G.fb (Kn.Zb M.runs { r with l:=r.l.dropLast}) n:=by
  refine h.runs.Zb (r':={ r with l:=r.l.dropLast}) hr rfl (Nat.le_refl n) hk nofun (fun x hx=>⟨fun e=>by injection e with e;exact hx e,nofun,fun _=>⟨nofun,nofun⟩⟩) ⟨hP.mine,hP.id,hP.woken,?_,⟨Sl (V ⟨g,0,O⟩) l c,?_,?_⟩,fun i fr hi=>?_⟩
  ·have:=hP.few;simp;omega
  ·rw[zy ho];rfl
  ·have hr2:=hrow.move hk nofun
   rw[hlv,hl] at hr2;have q:=jk hr2.1 l Y1;have hll:r.l.dropLast.length=l:=by simp[hl]
   refine ⟨?_,hr2.2⟩;show World.ownsRow _ 0 _ 1 _ r.l.dropLast.length (Vo G.fb { r with l:=r.l.dropLast});rw[hll,zl0 hl];exact q
  ·have hi2:r.l[i]?=some fr:=by
    simp only at hi;rw[List.dropLast_eq_take,List.getElem?_take] at hi;split at hi
    ·exact hi
    ·cases hi
   exact (hP.frs i fr hi2).move hk nofun nofun
 exact h.zeJ (tb:=G.tb) (fb:=G.fb) (hk.mono fun t e=>by rw[e];trivial) (Nat.le_refl n) hpr
theorem zjd (h:zi F w own G M n) {id:Int} {r:Run} (hr:zR M.runs id=some r) (h2:2≤r.l.length) (code v:Int) (hc:Zm code) (hv:Zm v) (hf:M.out.length<1000000):
  Calls Tp 179 #[Y (V ⟨G.K,0,O⟩),Y (V ⟨G.tb id,0,O⟩),E J code,E J v] w fun rr w'=>rr= .returned (.tuple #[])∧KO F w own G (answer M id code v) n w':=by
 have hne:r.l≠ []:=fun e=>by rw[e] at h2;simp at h2
 obtain ⟨g,c,l,CS,hll,cg,-,hgl,hlc⟩:=h.zeL hr hne;have hlen:r.l.length≤100:=(h.runs.each r (Za hr).1).few;have hl2:(l:Int)≤99:=Y1;have yC:(0:Int)≤(l:Int)∧(l:Int)<(l:Int)+1:=Y1;have hcI:(l:Int)+1≤(c:Int):=Y1;have hw:IntKind.i64.wrap ((l:Int)+1 - 1)=(l:Int):=gT;obtain ⟨-,-,-,-,fz⟩:=h.ZB hr;have f1:=fz 1;have Dp:=h.pop hr CS hll;have e1:answer M id code v=returned (GU M id) id (zZ r).num code v:=by unfold answer;simp only[hr]
 have c35:w.cell? ⟨G.fb id l,35,O⟩=V (E Z (zZ r).num):=by
  exact J91
 have hr2:zR (GU M id).runs id=some { r with l:=r.l.dropLast}:=by
  have e0:GU M id={ M with runs:=Zb M.runs { r with l:=r.l.dropLast}}:=by unfold GU;simp only[hr]
  rw[e0];have hid:=(Za hr).2;show zR (Zb M.runs { r with l:=r.l.dropLast}) id=_;rw[vV h.runs.nod (r0:=r) Y15,if_pos Y30]
 have hout:(GU M id).out=M.out:=by unfold GU;simp only[hr]
 have Ik:Hid (∀W own',zi F W own' G (GU M id) n→Calls Tp 232 #[Y (V ⟨G.K,0,O⟩),Y (V ⟨G.tb id,0,O⟩),E Z (zZ r).num,E J code,E J v] W fun rr w'=>rr= .returned (.tuple #[])∧KO F W own' G (returned (GU M id) id (zZ r).num code v) n w'):=Y0 fun W own' h'=>jV h' hr2 (fun e=>by
  have:r.l.dropLast.length=0:=by
   have e':r.l.dropLast= []:=e
   rw[e'];rfl
  simp at this
  omega) _ _ _ hc hv (by rw[hout];exact hf)
 rw[e1];have Ig:=Y0 Dp;clear h hr h2 hne hll hlen hgl hlc fz Dp e1 hr2 hout hc hv hf;generalize (zZ r).num=num at*;go_enter Tryz.func179,Tryz.ntmps179;go_wp2_with fail;obtain ⟨aC,h1,t1⟩:=Ig.out;refine (Ik.out _ aC h1).mono ?_;rintro e w2 ⟨rfl,hk⟩;have HK:=Y0 (KO.trans t1 hk);clear hk t1 h1;go_wp2_with fail;go_end0;exact ⟨rfl,HK.out⟩
end
section
variable {F:Fixed} {w:World} {own:Own} {G:KG} {M:zD} {n:Nat}
theorem zgV (h:zi F w own G M n) {i:Nat} (hi:i<F.workers) {t:Option Int} {id:Int} {r:Run} (ht:t=some id) (hr:zR M.runs id=some r) {b o:Nat} (fa:VZ G M i t b o) (x:zx) (ho:x.op=58) (h2:2≤r.l.length) (hf:M.out.length<1000000):
  Calls Tp 223 #[Y (V ⟨G.K,0,O⟩),Y (V ⟨G.gW,i*38,O⟩),Y (V ⟨G.tb id,0,O⟩),Y (V ⟨b,o,O⟩), .agg (zS x)] w fun rr w'=>rr= .returned (E Z 1)∧KO F w own G (answer M id (rg (zA M i t) 0) (rg (zA M i t) 1)) (n) w':=by
 obtain ⟨xo,xa,xb,xc,xv,xm,xw⟩:=x;simp only at ho ⊢;have e24:=ZH ho 24;have e28:=ZH ho 28;have e51:=ZH ho 51;have e53:=ZH ho 53;have e55:=ZH ho 55;have e56:=ZH ho 56;have e57:=ZH ho 57;have e58:=ZH ho 58;simp only[Int.reduceEq,decide_true,decide_false] at e24 e28 e51 e53 e55 e56 e57 e58;clear ho;unfold zS;have qM:Below w.heap.size w (w.alloc (Ce #[E Z xo,E Z xa,E Z xb,E Z xc,E J xv,E Z xm,E Z xw] 111)):=(Below.refl _ _).alloc (Nat.le_refl _) _;have hz:=heap_alloc_new w (.cells #[E Z xo,E Z xa,E Z xb,E Z xc,E J xv,E Z xm,E Z xw] 111);have H:=Y0 h;have HI:=Y0 hi;have iD:=Y0 fa;have rA:=Y0 hr;have HTt:=Y0 ht;have Oa:=Y0 (h.ZB hr).2.2.2.1.2;have HNi:=Y0 (h.ZB hr).2.2.2.1.1;have h1:=h.below qM
 have HT:=Y0 (zU (ts:=fun t=>t≠ .other) (t:= .other) (own:=own) qM);have BO:Hid (ext own w.heap.size .other w.heap.size= .other):=Y0 (Zo (Or.inr (Nat.le_refl _)));have BZ:=Y0 hz;generalize hw1:w.alloc (Ce #[E Z xo,E Z xa,E Z xb,E Z xc,E J xv,E Z xm,E Z xw] 111)=w1 at*;generalize hbx:w.heap.size=bx at*;generalize ext own bx .other=aC at*;clear h hi fa qM hz hr ht;obtain ⟨k7,k8,k9,kr,kq,kt,ko,kh⟩:=h1.Vz;obtain ⟨ct,-,ctw,-,-⟩:=h1.ZB (r:=r) rA.out;have z0:=ze BZ.out 0;have z1:=ze BZ.out 1;have z2:=ze BZ.out 2;have z3:=ze BZ.out 3;have z4:=ze BZ.out 4;have z5:=ze BZ.out 5;have z6:=ze BZ.out 6;have H1:=Y0 h1;clear h1;have HF:=Y0 hf;have HL:=Y0 h2;clear hf h2;obtain ⟨r0,u0,-,-⟩:=H1.out.reg HI.out iD.out 0 Y2;obtain ⟨r1,u1,-,-⟩:=H1.out.reg HI.out iD.out 1 Y2
 rw[show rg (zA M i t) ((0:Nat):Int)=rg (zA M i t) 0 from rfl] at r0 u0;rw[show rg (zA M i t) ((1:Nat):Int)=rg (zA M i t) 1 from rfl] at r1 u1;have QM:=Y0 u0;have QN:=Y0 u1;clear u0 u1;generalize rg (zA M i t) 0=v0 at*;generalize rg (zA M i t) 1=v1 at*;have r0':w1.cell? ⟨b,o+1,O⟩=V (E J v0):=r0;have r1':w1.cell? ⟨b,o+2,O⟩=V (E J v1):=r1;go_enter Tryz.func223,Tryz.ntmps223;go_wp2_with fail;try rw[hw1]
 clear hw1 hbx;go_still_tail 12,Y4;change wpList _ _ _ _ _ w1.drew;go_wp2_with fail;refine (zjd H1.out.drew rA.out HL.out v0 v1 QM.out QN.out HF.out).mono ?_;rintro e w2 ⟨rfl,hk⟩;have HK:=Y0 hk;clear hk;go_wp2_with fail;go_ret;exact ⟨rfl,KO.trans HT.out HK.out.drew⟩
end
def JX (G:KG) (tb:Int→Nat) (fb:Int→Nat→Nat) (l:List Run):Prop:= ∀r∈l,tb r.id=G.tb r.id∧ ∀i,i<r.l.length→fb r.id i=G.fb r.id i
def Gp (F:Fixed) (w:World) (own:Own) (G:KG) (l:List Run) (M:zD) (n:Nat) (w':World):Prop:= ∃tb fb,JX G tb fb l∧KO F w own { G with tb:=tb,fb:=fb} M n w'
section
variable {F:Fixed} {w:World} {own:Own} {G:KG} {M:zD} {n:Nat}
theorem KO.two {w':World} {l:List Run} (h:KO F w own G M n w'):Gp F w own G l M n w':=⟨G.tb,G.fb,fun _ _=>⟨rfl,fun _ _=>rfl⟩,h⟩
theorem VZ.grow {tb:Int→Nat} {fb:Int→Nat→Nat} {i:Nat} {t:Option Int} {b o:Nat} (fa:VZ G M i t b o) (hg:JX G tb fb M.runs):VZ { G with tb:=tb,fb:=fb} M i t b o:=by
 cases t with
 |none=>exact fa
 |some id=>
  obtain ⟨r,h1,h2,h3,h4⟩:=fa
  obtain ⟨hm,hid⟩:=Za h1
  have hl:0<r.l.length:=List.length_pos_iff.2 h2
  refine ⟨r,h1,h2,?_,h4⟩
  rw[h3]
  have:=(hg r hm).2 (r.l.length - 1) Y1
  rw[hid] at this
  exact this.symm
end
section
variable {F:Fixed} {w:World} {own:Own} {G:KG} {M:zD} {n:Nat}
theorem zeW {fb lD:Int→Nat→Nat} {r:Run} (h: ∀i,i<r.l.length→lD r.id i=fb r.id i):Vo lD r=Vo fb r:=by
 unfold Vo;apply List.map_congr_left;intro i hi;rw[h i (List.mem_range.1 hi)]
theorem Jh.grow {tb tb':Int→Nat} {fb lD:Int→Nat→Nat} {r:Run} (h:Jh w own tb fb r n) (h1:tb' r.id=tb r.id) (h2: ∀i,i<r.l.length→lD r.id i=fb r.id i):Jh w own tb' lD r n:=by
 obtain ⟨lv,ho,hr⟩:=h.obj;refine ⟨by rw[h1];exact h.mine,h.id,h.woken,h.few,⟨lv,by rw[h1];exact ho,by rw[zeW h2];exact hr⟩,fun i fr hi=>?_⟩;rw[h2 i (List.getElem?_eq_some_iff.1 hi).1];exact h.frs i fr hi
theorem kG.grow {th:Nat} {tb tb':Int→Nat} {fb lD:Int→Nat→Nat} {l:List Run} (h:kG w own th tb fb l n) (hg: ∀r∈l,tb' r.id=tb r.id∧ ∀i,i<r.l.length→lD r.id i=fb r.id i):kG w own th tb' lD l n:=by
 obtain ⟨N,hm,hN⟩:=h.map
 refine ⟨h.nod,h.mine,⟨N,hm.same fun id _=>?_,hN⟩,fun r hr=>(h.each r hr).grow (hg r hr).1 (hg r hr).2⟩
 cases e:zR l id with
 |none=>rfl
 |some r=>
  obtain ⟨hm,hid⟩:=Za e
  have:=(hg r hm).1
  rw[hid] at this
  simp[this]
def vQ (own:Own) (n nb:Nat) (t1 t2:Tag):Own:=fun b=>if b<n then own b else if b=nb then t1 else t2
theorem znS {n nb b:Nat} {t1 t2:Tag} (h:b<n):vQ own n nb t1 t2 b=own b:=if_pos h
theorem zoO {n nb:Nat} {t1 t2:Tag} (h:n≤nb):vQ own n nb t1 t2 nb=t1:=by
 unfold vQ;rw[if_neg Y1,if_pos rfl]
theorem zmX {n nb b:Nat} {t1 t2:Tag} (h:n≤b) (hne:b≠nb):vQ own n nb t1 t2 b=t2:=by
 unfold vQ;rw[if_neg Y1,if_neg hne]
theorem zi.push (h:zi F w own G M n) {id:Int} {r:Run} (hr:zR M.runs id=some r) (hl:r.l.length<100) {fr:Fr} {n':Nat} (hn:n≤n') (hok:zb7 n' fr.f) (hbk:fr.f.back= []) (hnum:0≤fr.num∧fr.num<1000) {lv:Value} (hlv:w.cell? ⟨G.tb id,1,O⟩=some lv) {w4:World} {v:Value} {nb:Nat} (hk:Keeps (fun b=>lv.ownBlock=some b) w w4) (hnb:w.heap.size≤nb) (eO:w4.heap[nb]?=V (.cells (BU fr.f (Sl none 0 0)++ [Value.bool fr.lib,Value.int Z fr.num]).toArray 240 (0,0))) (hr4:w4.ownsRow 0 238 1 v (r.l.length+1) (Vo G.fb r++ [Y (V ⟨nb,0,O⟩)])) (hv: ∀b,v.ownBlock=some b→lv.ownBlock=some b∨w.heap.size≤b):
  Gp F w own G M.runs { M with runs:=Zb M.runs { r with l:=r.l++ [fr]}} n' (w4.setCell ⟨G.tb id,1,O⟩ v):=by
 obtain ⟨hm,hid⟩:=Za hr;subst hid;have hP:=h.runs.each r hm;obtain ⟨Pt,ho,hrow⟩:=hP.obj;have Mi:Pt=lv:=by rw[ze ho] at hlv;exact Option.some.inj hlv
 subst Mi;have htl:G.tb r.id<w.heap.size:=zo ho;have MN: ∀b,v.ownBlock=some b→b≠nb:=fun b hb e=>by
  obtain ⟨cur,hc⟩:=Asm.Zz hr4 hb;rw[e,eO] at hc;injection hc with hc
  injection hc with _ hc
  exact absurd hc Y2
 obtain ⟨fb,lQ⟩: ∃fb:Int→Nat→Nat,fb=fun x i=>if x=r.id∧i=r.l.length then nb else G.fb x i:=⟨_,rfl⟩
 have lM: ∀x i,(x≠r.id∨i≠r.l.length)→fb x i=G.fb x i:=fun x i hx=>by
  rw[lQ];exact if_neg fun e=>hx.elim (fun k=>k e.1) fun k=>k e.2
 have o9:fb r.id r.l.length=nb:=by rw[lQ];exact if_pos ⟨rfl,rfl⟩
 have hga: ∀x∈M.runs,G.tb x.id=G.tb x.id∧ ∀i,i<x.l.length→fb x.id i=G.fb x.id i:=fun x hx=>⟨rfl,fun i hi=>lM _ _ (by
  by_cases e:x.id=r.id
  ·have:x=r:=by
    have h1:=jI h.runs.nod hx
    rw[e,hr] at h1
    exact (Option.some.inj h1).symm
   subst this
   exact Or.inr Y1
  ·exact Or.inl e)⟩
 obtain ⟨own',hown⟩: ∃own':Own,own'=vQ own w.heap.size nb (.fr r.id r.l.length) (.row r.id):=⟨_,rfl⟩;have hold: ∀b,b<w.heap.size→own' b=own b:=fun b hb=>by rw[hown];exact znS hb
 have hT:Touch (fun t=>t= .row r.id) w w4 own own':=⟨hk.mono fun b hb=>hrow.2 b hb,hold⟩;have Lv:Touch (fun t=>t= .thr r.id) w4 (w4.setCell ⟨G.tb r.id,1,O⟩ v) own' own':=⟨(Keeps.refl _ _).setCell (p:=⟨G.tb r.id,1,O⟩) ((hold _ htl).trans hP.mine) _,fun _ _=>rfl⟩;have xH:Touch (fun t=>t= .row r.id∨t= .thr r.id) w (w4.setCell ⟨G.tb r.id,1,O⟩ v) own own':=(hT.mono fun _ e=>Or.inl e).trans (Lv.mono fun _ e=>Or.inr e);have pY:w4.heap[G.tb r.id]?=V (.cells #[E J r.id,Pt,E J r.woken] 244 (0,0)):=(hT.at (t:= .thr r.id) nofun hP.mine htl).1.trans ho;have Ml:nb≠G.tb r.id:=Y1;have hpr:kG (w4.setCell ⟨G.tb r.id,1,O⟩ v) own' G.th G.tb fb (Kn.Zb M.runs { r with l:=r.l++ [fr]}) n':=by
  refine (h.runs.grow hga).Zb (r':={ r with l:=r.l++ [fr]}) hr rfl hn xH (fun e=>Y83) (fun x hx=>⟨fun e=>(by rcases e with e|e<;>cases e;exact hx rfl),fun e=>(by rcases e with e|e<;>cases e;exact hx rfl),fun _=>⟨fun e=>Y83,fun e=>Y83⟩⟩) ⟨(hold _ htl).trans hP.mine,hP.id,hP.woken,by simp;omega,⟨v,?_,?_,?_⟩,fun i fx hi=>?_⟩
  ·rw[zy pY];rfl
  ·have e1:Vo fb { r with l:=r.l++ [fr]}=Vo G.fb r++ [Y (V ⟨nb,0,O⟩)]:=by
    unfold Vo;simp only[List.length_append,List.length_singleton,List.range_succ,List.map_append,List.map_cons,List.map_nil];rw[o9];congr 1;apply List.map_congr_left;intro i hi;rw[lM _ _ (Or.inr (by have:=List.mem_range.1 hi;omega))]
   show World.ownsRow _ 0 _ 1 v (r.l++ [fr]).length _;rw[e1,List.length_append,List.length_singleton];refine Asm.za hr4 fun c hc=>zm fun e2=>?_;rcases hv c hc with h1|h1
   ·have:=hrow.2 c h1;have e3:c=G.tb r.id:=e2;rw[e3,hP.mine] at this;cases this
   ·have e3:c=G.tb r.id:=e2;omega
  ·intro c hc;rcases hv c hc with h1|h1
   ·exact (hold c (hrow.lt h1)).trans (hrow.2 c h1)
   ·rw[hown];exact zmX h1 (MN c hc)
  ·simp only at hi;by_cases hlt:i<r.l.length
   ·rw[List.getElem?_append_left hlt] at hi;rw[lM _ _ (Or.inr Y1)];exact ((hP.frs i fx hi).move xH (fun e=>by rcases e with e|e<;>cases e) (fun e=>by rcases e with e|e<;>cases e)).more hn
   ·have hi2:i=r.l.length:=by
     have:=(List.getElem?_eq_some_iff.1 hi).1;simp at this;omega
    subst hi2;rw[List.getElem?_append_right (Nat.le_refl _),Nat.sub_self] at hi;have hfx:fr=fx:=Option.some.inj hi;subst hfx;rw[o9];refine ⟨by rw[hown];exact zoO hnb,hok,hnum,Sl none 0 0,(zm Ml).trans eO,?_⟩;rw[hbk];exact ⟨World.ownsRow_nil _ _ _ _,fun c hc=>by cases hc⟩
 exact ⟨G.tb,fb,fun x hx=>hga x hx,own',h.zeJ (tb:=G.tb) (fb:=fb) (xH.mono fun t e=>by rcases e with e|e<;>(rw[e];trivial)) hn hpr,xH.mono fun t e=>by rcases e with e|e<;>(rw[e];nofun)⟩
theorem zi.spawn (h:zi F w own G M n) {id:Int} (hid:id≠0∧Zm id) (hno:zR M.runs id=none) {fr:Fr} (hok:zb7 (n+1) fr.f) (hbk:fr.f.back= []) (hnum:0≤fr.num∧fr.num<1000) (hn:n≤1000000) {w4:World} {lv:Value} {nb nt:Nat} (hk:Below w.heap.size w w4) (hnb:w.heap.size≤nb) (hnt:w.heap.size≤nt) (eO:w4.heap[nb]?=V (.cells (BU fr.f (Sl none 0 0)++ [Value.bool fr.lib,Value.int Z fr.num]).toArray 240 (0,0)))
  (hot:w4.heap[nt]?=V (.cells #[E J id,lv,E J 0] 244 (0,0))) (hr4:w4.ownsRow 0 238 1 lv 1 [Y (V ⟨nb,0,O⟩)]) (hv: ∀b,lv.ownBlock=some b→w.heap.size≤b):
  ∃w5,(Instr.mapUpdate 86 (.map (some G.th)) (E J id) (Y (V ⟨nt,0,O⟩))).run Tp w4= .ok () w5∧Gp F w own G M.runs { M with runs:=M.runs++ [⟨id,[fr],0⟩]} (n+1) w5∧ ∀b,own b≠ .map→b<w.heap.size→w5.heap[b]?=w4.heap[b]?:=by
 have MN: ∀b,lv.ownBlock=some b→b≠nb∧b≠nt:=fun b hb=>by
  obtain ⟨cur,hc⟩:=Asm.Zz hr4 hb;refine ⟨fun e=>?_,fun e=>?_⟩
  ·rw[e,eO] at hc;injection hc with hc
   injection hc with _ hc
   exact absurd hc Y2
  ·rw[e,hot] at hc;injection hc with hc
   injection hc with _ hc
   exact absurd hc Y2
 have hnn:nb≠nt:=fun e=>by
  rw[e,hot] at eO;injection eO with eO
  injection eO with _ eO
  exact absurd eO Y2
 obtain ⟨N,hm,hN⟩:=h.runs.map;have Tf:=hm.of_block (hk.block G.th hm.lt);obtain ⟨w5,hrun,hM,hturn⟩:=Tf.store (S:=ptrs) Y24 Tryz.underlying86 hid.2 nt;have hg:=hturn.grown;obtain ⟨fb,lQ⟩: ∃fb:Int→Nat→Nat,fb=fun x i=>if x=id∧i=0 then nb else G.fb x i:=⟨_,rfl⟩
 obtain ⟨tb,htb⟩: ∃tb:Int→Nat,tb=fun x=>if x=id then nt else G.tb x:=⟨_,rfl⟩
 have hne: ∀x∈M.runs,x.id≠id:=fun x hx e=>by
  have h1:=jI h.runs.nod hx;rw[e,hno] at h1;cases h1
 have hga: ∀x∈M.runs,tb x.id=G.tb x.id∧ ∀i,i<x.l.length→fb x.id i=G.fb x.id i:=fun x hx=>⟨by rw[htb];exact if_neg (hne x hx),fun i _=>by rw[lQ];exact if_neg fun e=>hne x hx e.1⟩
 obtain ⟨own',hown⟩: ∃own':Own,own'=fun b=>if b<w.heap.size then own b else if b=nb then .fr id 0 else if b=nt then .thr id else .row id:=⟨_,rfl⟩
 have hold: ∀b,b<w.heap.size→own' b=own b:=fun b hb=>by rw[hown];exact if_pos hb
 have hT:Touch (fun _=>False) w w4 own own':=⟨Keeps.zO hk,hold⟩;have hth:own' G.th= .map:=(hold _ hm.lt).trans h.runs.mine;have k5:Touch (fun t=>t= .map) w4 w5 own' own':=⟨(Keeps.refl _ w4).grown hg fun k hk=>by injection hk with hk;rw[←hk];exact hth,fun _ _=>rfl⟩;have kT:Touch (fun t=>t= .map) w w5 own own':=(hT.mono fun _ e=>e.elim).trans k5;have Px:own' nb= .fr id 0:=by rw[hown];show (if nb<w.heap.size then own nb else if nb=nb then _ else _)=_;rw[if_neg Y1,if_pos rfl]
 have Py:own' nt= .thr id:=by rw[hown];show (if nt<w.heap.size then own nt else if nt=nb then _ else if nt=nt then _ else _)=_;rw[if_neg Y1,if_neg (Ne.symm hnn),if_pos rfl]
 have Ui: ∀b,lv.ownBlock=some b→own' b= .row id:=fun b hb=>by
  have h1:=hv b hb;have h2:=MN b hb;rw[hown];simp only;rw[if_neg Y1,if_neg h2.1,if_neg h2.2]
 have Mq:w5.heap[nb]?=V (.cells (BU fr.f (Sl none 0 0)++ [Value.bool fr.lib,Value.int Z fr.num]).toArray 240 (0,0)):=(k5.at (t:= .fr id 0) nofun Px (zo eO)).1.trans eO;have Mt:w5.heap[nt]?=V (.cells #[E J id,lv,E J 0] 244 (0,0)):=(k5.at (t:= .thr id) nofun Py (zo hot)).1.trans hot;have oH:Vv w5 own' (.row id) 238 1 lv 1 [Y (V ⟨nb,0,O⟩)]:=Vv.move (own:=own') ⟨hr4,Ui⟩ k5 nofun
 have Ej:=(h.runs.grow hga);have hpr:kG w5 own' G.th tb fb (M.runs++ [⟨id,[fr],0⟩]) (n+1):=by
  refine ⟨?_,hth,⟨N+1,hM.same fun x hx=>?_,by omega⟩,fun r hr=>?_⟩
  ·rw[List.map_append,List.nodup_append];refine ⟨h.runs.nod,by simp,fun a ha b hb=>?_⟩;simp at hb;subst hb;obtain ⟨y,hy,rfl⟩:=List.mem_map.1 ha;exact hne y hy
  ·unfold zd0;by_cases e:x=id
   ·subst e;rw[if_pos rfl];have:zR (M.runs++ [⟨x,[fr],0⟩]) x=some ⟨x,[fr],0⟩:=by
     unfold zR at hno ⊢;rw[List.find?_append,hno];simp
    rw[this,htb];simp
   ·rw[if_neg e];have:zR (M.runs++ [⟨id,[fr],0⟩]) x=zR M.runs x:=by
     unfold zR;rw[List.find?_append];have e2:(id==x)=false:=by simp;exact fun e3=>e e3.symm
     simp[e2]
    rw[this,htb];simp[e]
  ·rcases List.mem_append.1 hr with hr|hr
   ·exact ((Ej.each r hr).move kT nofun nofun (fun _=>nofun) (fun _=>nofun)).more (Nat.le_succ n)
   ·simp at hr;subst hr;have e1:tb id=nt:=by rw[htb];exact if_pos rfl
    have e2:fb id 0=nb:=by rw[lQ];exact if_pos ⟨rfl,rfl⟩
    refine ⟨by rw[e1];exact Py,hid,VH,by simp,⟨lv,by rw[e1];exact Mt,?_⟩,fun i fx hi=>?_⟩
    ·have e3:Vo fb ⟨id,[fr],0⟩= [Y (V ⟨nb,0,O⟩)]:=by
      unfold Vo;simp[List.range_succ,e2]
     rw[e3];exact oH
    ·have hi2:i=0:=by
      have:=(List.getElem?_eq_some_iff.1 hi).1;simp at this;exact this
     subst hi2;have hfx:fr=fx:=Option.some.inj hi;subst hfx;rw[e2];refine ⟨Px,hok,hnum,Sl none 0 0,Mq,?_⟩;rw[hbk];exact ⟨World.ownsRow_nil _ _ _ _,fun c hc=>by cases hc⟩
 refine ⟨w5,hrun,⟨tb,fb,hga,own',h.zeJ (tb:=tb) (fb:=fb) (kT.mono fun t e=>by rw[e];trivial) (Nat.le_succ n) hpr,kT.mono fun t e=>by rw[e];nofun⟩,fun b hb hl=>(k5.at (t:=own b) hb (hold b hl) (Nat.lt_of_lt_of_le hl hk.size)).1⟩
end
def jR (own own':Own):Prop:= ∀b,own b≠ .ev→own' b=own b
theorem jR.at {own own':Own} (h:jR own own') {t:Tag} {b:Nat} (hb:own b=t) (ht:t≠ .ev):own' b=t:=(h b (by rw[hb];exact ht)).trans hb
section
variable {F:Fixed} {w:World} {own own':Own} {G:KG} {M:zD} {n:Nat}
theorem Vv.re {t:Tag} {e:TypeId} {size k:Nat} {v:Value} {xs:List Value} (h:Vv w own t e size v k xs) (r:jR own own') (ht:t≠ .ev):Vv w own' t e size v k xs:=⟨h.1,fun b hb=>r.at (h.2 b hb) ht⟩
theorem FrP.re {id:Int} {i b:Nat} {fr:Fr} (h:FrP w own id i b fr n) (r:jR own own'):FrP w own' id i b fr n:=by
 obtain ⟨bv,ho,hr⟩:=h.obj;exact ⟨r.at h.mine nofun,h.ok,h.num,bv,ho,hr.re r nofun⟩
theorem Jh.re {tb:Int→Nat} {fb:Int→Nat→Nat} {x:Run} (h:Jh w own tb fb x n) (r:jR own own'):Jh w own' tb fb x n:=by
 obtain ⟨lv,ho,hr⟩:=h.obj;exact ⟨r.at h.mine nofun,h.id,h.woken,h.few,⟨lv,ho,hr.re r nofun⟩,fun i fr hi=>(h.frs i fr hi).re r⟩
theorem kG.re {th:Nat} {tb:Int→Nat} {fb:Int→Nat→Nat} {l:List Run} (h:kG w own th tb fb l n) (r:jR own own'):kG w own' th tb fb l n:=
 ⟨h.nod,r.at h.mine nofun,h.map,fun x hx=>(h.each x hx).re r⟩
theorem PWk.re {gW:Nat} {l:List Wkr} (h:PWk w own gW l n) (r:jR own own'):PWk w own' gW l n:=by
 obtain ⟨h0,L,h1,h2,h3⟩:=h;exact ⟨r.at h0 nofun,L,h1,h2,fun i p hp=>⟨(h3 i p hp).1,(h3 i p hp).2.re r nofun⟩⟩
theorem zi.re (h:zi F w own G M n) (r:jR own own') {C:Array Value} (ho:w.heap[G.K]?=V (.cells C 89 (0,0))) (hc:C[1020]?=V (Sl none 0 0)):zi F w own' G M n:=by
 refine ⟨h.fok,h.num,⟨r.at h.k.mine nofun,?_⟩,⟨h.fix.lib.re r nofun,h.fix.calls.re r nofun,h.fix.code.re r nofun⟩,?_,?_,?_,?_,?_,?_,?_,h.runs.re r,h.wk.re r⟩
 ·obtain ⟨C',ov,ho',hC,hr⟩:=h.k.obj;have e:C'=C:=by
   rw[ho] at ho';injection ho' with ho'
   injection ho' with ho' _
   exact ho'.symm
  subst e;have e2:ov=Sl none 0 0:=by
   have:=hC.out;rw[hc] at this;exact (Option.some.inj this).symm
  subst e2;exact ⟨C',_,ho',hC,hr.1,fun b hb=>by cases hb⟩
 ·obtain ⟨gc,gw,hP,hO⟩:=h.mem;exact ⟨gc,gw,hP,fun b hb=>r.at (hO b hb) nofun⟩
 ·obtain ⟨v,hP,hO⟩:=h.alc;exact ⟨v,hP,fun b hb=>r.at (hO b hb) nofun⟩
 ·obtain ⟨hb,hm,v,ab,N,K,hP,hO,h2⟩:=h.clk;exact ⟨hb,hm,v,ab,N,K,hP,fun b hb=>r.at (hO b hb) nofun,h2⟩
 ·obtain ⟨gr,hP,hO⟩:=h.ring;exact ⟨gr,hP,fun b hb=>r.at (hO b hb) nofun⟩
 ·obtain ⟨gl,mb,B,N,hP,hO,h2⟩:=h.wq;exact ⟨gl,mb,B,N,hP,fun b hb=>r.at (hO b hb) nofun,h2⟩
 ·obtain ⟨gt,N,hP,hO,h2⟩:=h.tab;exact ⟨gt,N,hP,fun b hb=>r.at (hO b hb) nofun,h2⟩
 ·obtain ⟨go,N,hP,hO,h2⟩:=h.obj;exact ⟨go,N,hP,fun b hb=>r.at (hO b hb) nofun,h2⟩
structure Aside (w w':World) (own own':Own):Prop where
 keeps:Keeps (fun b=>own b≠ .other) w w'
 own: ∀b,b<w.heap.size→own b= .other→own' b= .other
end
section
variable {F:Fixed} {w:World} {own:Own} {G:KG} {M:zD} {n:Nat}
theorem zi.zrO (h:zi F w own G M n) {j:Nat} {v:Value} {en ps wk dr:Int} {n':Nat} (hn:n≤n') (hN:znE { M with entries:=en,pos:=ps,w:=wk,draw:=dr} F n') (hj:j≠1020) (hC: ∀C ov,zcQ C F G M ov→zcQ (C.setIfInBounds j v) F G { M with entries:=en,pos:=ps,w:=wk,draw:=dr} ov):
  zi F (w.setCell ⟨G.K,j,O⟩ v) own G { M with entries:=en,pos:=ps,w:=wk,draw:=dr} n'∧Touch (fun t=>t≠ .other) w (w.setCell ⟨G.K,j,O⟩ v) own own:=by
 obtain ⟨C,ov,ho,hc,hr⟩:=h.k.obj;have hT:Touch (fun t=>t= .mach) w (w.setCell ⟨G.K,j,O⟩ v) own own:=⟨(Keeps.refl _ _).setCell (p:=⟨G.K,j,O⟩) h.k.mine _,fun _ _=>rfl⟩;refine ⟨?_,hT.mono fun t e=>by rw[e];nofun⟩;exact h.zut (ot:=M.out) hn (hT.mono fun t e=>Or.inl e) ⟨h.k.mine,_,ov,zy ho _,hC C ov hc,hr.move hT nofun⟩ hN
theorem zi.zsv (h:zi F w own G M n) (v:Int) (hv:0≤v∧v≤n):zi F (w.setCell ⟨G.K,1017,O⟩ (E Z v)) own G { M with pos:=v} n∧Touch (fun t=>t≠ .other) w (w.setCell ⟨G.K,1017,O⟩ (E Z v)) own own:=
 h.zrO (en:=M.entries) (ps:=v) (wk:=M.w) (dr:=M.draw) (Nat.le_refl n) ⟨h.num.entries,hv,h.num.w,h.num.draw,h.num.wk,h.num.out⟩ Y2 fun C ov hc=>
  ⟨by simp[hc.size],zq hc.lib Y2,zq hc.loop Y2,zq hc.calls Y2,zq hc.code Y2,zq hc.wide Y2,zq hc.narrow Y2,fun i hi=>zq (hc.rows i hi) Y1,zq hc.mem Y2,zq hc.alc Y2,zq hc.clk Y2,zq hc.ring Y2,zq hc.wq Y2,zq hc.tab Y2,zq hc.obj Y2,zq hc.th Y2,zq hc.wk Y2,zq hc.entries Y2,Gx Y46,zq hc.w Y2,zq hc.draw Y2,zq hc.out Y2⟩
theorem zi.ztB (h:zi F w own G M n) (v:Int) (hv: -1≤v∧v<64):zi F (w.setCell ⟨G.K,1018,O⟩ (E Z v)) own G { M with w:=v} n∧Touch (fun t=>t≠ .other) w (w.setCell ⟨G.K,1018,O⟩ (E Z v)) own own:=
 h.zrO (en:=M.entries) (ps:=M.pos) (wk:=v) (dr:=M.draw) (Nat.le_refl n) ⟨h.num.entries,h.num.pos,hv,h.num.draw,h.num.wk,h.num.out⟩ Y2 fun C ov hc=>
  ⟨by simp[hc.size],zq hc.lib Y2,zq hc.loop Y2,zq hc.calls Y2,zq hc.code Y2,zq hc.wide Y2,zq hc.narrow Y2,fun i hi=>zq (hc.rows i hi) Y1,zq hc.mem Y2,zq hc.alc Y2,zq hc.clk Y2,zq hc.ring Y2,zq hc.wq Y2,zq hc.tab Y2,zq hc.obj Y2,zq hc.th Y2,zq hc.wk Y2,zq hc.entries Y2,zq hc.pos Y2,Gx Y46,zq hc.draw Y2,zq hc.out Y2⟩
theorem zi.zog (h:zi F w own G M n) (v:Int) (hv:Zm v):zi F (w.setCell ⟨G.K,1019,O⟩ (E J v)) own G { M with draw:=v} n∧Touch (fun t=>t≠ .other) w (w.setCell ⟨G.K,1019,O⟩ (E J v)) own own:=
 h.zrO (en:=M.entries) (ps:=M.pos) (wk:=M.w) (dr:=v) (Nat.le_refl n) ⟨h.num.entries,h.num.pos,h.num.w,hv,h.num.wk,h.num.out⟩ Y2 fun C ov hc=>
  ⟨by simp[hc.size],zq hc.lib Y2,zq hc.loop Y2,zq hc.calls Y2,zq hc.code Y2,zq hc.wide Y2,zq hc.narrow Y2,fun i hi=>zq (hc.rows i hi) Y1,zq hc.mem Y2,zq hc.alc Y2,zq hc.clk Y2,zq hc.ring Y2,zq hc.wq Y2,zq hc.tab Y2,zq hc.obj Y2,zq hc.th Y2,zq hc.wk Y2,zq hc.entries Y2,zq hc.pos Y2,zq hc.w Y2,Gx Y46,zq hc.out Y2⟩
theorem zi.zhk (h:zi F w own G M n):zi F (w.setCell ⟨G.K,1016,O⟩ (E Z (M.entries+1))) own G { M with entries:=M.entries+1} (n+1)∧Touch (fun t=>t≠ .other) w (w.setCell ⟨G.K,1016,O⟩ (E Z (M.entries+1))) own own:=
 h.zrO (en:=M.entries+1) (ps:=M.pos) (wk:=M.w) (dr:=M.draw) (Nat.le_succ n) ⟨⟨by have:=h.num.entries;show 0≤M.entries+1;omega,by have:=h.num.entries;show M.entries+1≤_;omega⟩,⟨h.num.pos.1,by have:=h.num.pos;show M.pos≤_;omega⟩,h.num.w,h.num.draw,h.num.wk,h.num.out⟩ Y2 fun C ov hc=>
  ⟨by simp[hc.size],zq hc.lib Y2,zq hc.loop Y2,zq hc.calls Y2,zq hc.code Y2,zq hc.wide Y2,zq hc.narrow Y2,fun i hi=>zq (hc.rows i hi) Y1,zq hc.mem Y2,zq hc.alc Y2,zq hc.clk Y2,zq hc.ring Y2,zq hc.wq Y2,zq hc.tab Y2,zq hc.obj Y2,zq hc.th Y2,zq hc.wk Y2,Gx Y46,zq hc.pos Y2,zq hc.w Y2,zq hc.draw Y2,zq hc.out Y2⟩
def gP (own:Own):Own:=fun b=>match own b with
 | .ev=> .other
 |t=>t
theorem zdh (own:Own):jR own (gP own):=fun b h=>by
 unfold gP
 split
 ·rename_i e;exact absurd e h
 ·rfl
theorem zlj {own:Own} {b:Nat} (h:own b= .ev):gP own b= .other:=by
 unfold gP;rw[h]
theorem zi.done (h:zi F w own G M n): ∃ov,w.cell? ⟨G.K,1020,O⟩=some ov∧w.frozen? ⟨G.K,1020,O⟩=false∧(∀b,ov.ownBlock=some b→own b= .ev∧b<w.heap.size)∧(∃a c,ov= .slice a M.out.length c)∧zi F (w.setCell ⟨G.K,1020,O⟩ (Sl none 0 0)) (gP own) G { M with out:= []} n∧Vv (w.setCell ⟨G.K,1020,O⟩ (Sl none 0 0)) (gP own) .other 74 11 ov M.out.length (evC M.out)∧Touch (fun t=>t≠ .other) w (w.setCell ⟨G.K,1020,O⟩ (Sl none 0 0)) own own:=by
 obtain ⟨C,ov,ho,hc,hr⟩:=h.k.obj;have hT:Touch (fun t=>t= .mach) w (w.setCell ⟨G.K,1020,O⟩ (Sl none 0 0)) own own:=⟨(Keeps.refl _ _).setCell (p:=⟨G.K,1020,O⟩) h.k.mine _,fun _ _=>rfl⟩;have hr2:=hr.move hT nofun
 have ho2:(w.setCell ⟨G.K,1020,O⟩ (Sl none 0 0)).heap[G.K]?=V (.cells (C.setIfInBounds 1020 (Sl none 0 0)) 89 (0,0)):=zy ho _;have hh:(C.setIfInBounds 1020 (Sl none 0 0))[1020]?=V (Sl none 0 0):=Gx Y46;refine ⟨ov,(ze ho _).trans hc.out,zF ho _,fun b hb=>⟨hr.2 b hb,hr.lt hb⟩,Asm.zn hr.1,?_,⟨hr2.1,fun b hb=>zlj (hr2.2 b hb)⟩,hT.mono fun t e=>by rw[e];nofun⟩;have h1:zi F (w.setCell ⟨G.K,1020,O⟩ (Sl none 0 0)) own G { M with out:= []} n:=by
  refine h.zut (en:=M.entries) (ps:=M.pos) (wk:=M.w) (dr:=M.draw) (ot:= []) (Nat.le_refl n) (hT.mono fun t e=>Or.inl e) ⟨h.k.mine,_,Sl none 0 0,ho2,?_,⟨World.ownsRow_nil _ _ _ _,fun b hb=>by cases hb⟩⟩ ⟨h.num.entries,h.num.pos,h.num.w,h.num.draw,h.num.wk,by simp⟩;exact ⟨by simp[hc.size],zq hc.lib Y2,zq hc.loop Y2,zq hc.calls Y2,zq hc.code Y2,zq hc.wide Y2,zq hc.narrow Y2,fun i hi=>zq (hc.rows i hi) Y1,zq hc.mem Y2,zq hc.alc Y2,zq hc.clk Y2,zq hc.ring Y2,zq hc.wq Y2,zq hc.tab Y2,zq hc.obj Y2,zq hc.th Y2,zq hc.wk Y2,zq hc.entries Y2,zq hc.pos Y2,zq hc.w Y2,zq hc.draw Y2,hh⟩
 exact h1.re (zdh own) ho2 hh
end
def doN (F:Fixed) (M:zD) (x:Entry):zD:={ kX F M x with out:= []}
section
variable {F:Fixed} {w:World} {own:Own} {G:KG} {M:zD} {n:Nat}
def DoP (F:Fixed) (w:World) (own:Own) (G:KG) (M:zD) (n:Nat) (x:Entry) (e:Ending) (w':World):Prop:=
 ∃ov tb fb own',e= .returned ov∧zi F w' own' { G with tb:=tb,fb:=fb} (doN F M x) (n+8)∧Aside w w' own own'∧Vv w' own' .other 74 11 ov (kX F M x).out.length (evC (kX F M x).out)
theorem zuJ {x:Entry} {w9:World} {aM:Own} {tb:Int→Nat} {fb:Int→Nat→Nat} {n9:Nat} (hn9:n9≤n+8) (t9:Touch (fun t=>t≠ .other) w w9 own aM) {ov:Value} {w10:World}
  (h10:zi F w10 (gP aM) { G with tb:=tb,fb:=fb} { kX F M x with out:= []} n9) (nH:Vv w10 (gP aM) .other 74 11 ov (kX F M x).out.length (evC (kX F M x).out)) (t10:Touch (fun t=>t≠ .other) w9 w10 aM aM):DoP F w own G M n x (.returned ov) w10:=by
 refine ⟨ov,tb,fb,gP aM,rfl,h10.more hn9,⟨(t9.trans t10).keeps,fun b hb e=>?_⟩,nH⟩;have h1:aM b= .other:=(t9.own b hb).trans e;exact (zdh aM b (by rw[h1];nofun)).trans h1
def zvg (F:Fixed) (w:World) (own:Own) (G:KG) (M:zD) (n:Nat) (x:Entry) (e:Ending) (w':World):Prop:=
 ∃ov tb fb own',e= .returned ov∧zi F w' own' { G with tb:=tb,fb:=fb} (doN F M x) (n+8)∧Aside w w' own own'∧Vv w' own' .other 74 11 ov (kX F M x).out.length (evC (kX F M x).out)∧ ∀b,ov.ownBlock=some b→b<w.heap.size→own b≠ .other
theorem zsL {x:Entry} {w9:World} {aM:Own} {tb:Int→Nat} {fb:Int→Nat→Nat} {n9:Nat} (hn9:n9≤n+8) {ov:Value} (eO: ∀b,ov.ownBlock=some b→aM b= .ev) (t9:Touch (fun t=>t≠ .other) w w9 own aM) {w10:World}
  (h10:zi F w10 (gP aM) { G with tb:=tb,fb:=fb} { kX F M x with out:= []} n9) (nH:Vv w10 (gP aM) .other 74 11 ov (kX F M x).out.length (evC (kX F M x).out)) (t10:Touch (fun t=>t≠ .other) w9 w10 aM aM):zvg F w own G M n x (.returned ov) w10:=by
 obtain ⟨ov',tb',lD,own',a,b,c,d⟩:=zuJ hn9 t9 h10 nH t10;injection a with a
 subst a;exact ⟨ov,tb',lD,own',rfl,b,c,d,fun k hk hl e=>by
  have h1:=eO k hk
  rw[t9.own k hl,e] at h1
  cases h1⟩
def Ke (x:Entry):Array Value:=#[E Z x.kind,E Z x.w,E J x.draw]
def doS (M:zD) (x:Entry):zD:={ M with pos:=M.entries,w:= -1,draw:=x.draw,entries:=M.entries+1}
theorem ziQ {M:zD} (h:M.out= []) (x:Entry):({ M with out:= [],pos:=M.entries,entries:=M.entries+1,w:= -1,draw:=x.draw}:zD)=doS M x:=by
 unfold doS;rw[h]
theorem zi.starts (h:zi F w own G M n) (x:Entry) (hd:Zm x.draw) (W:World) (hW:zi F W own G M n):zi F (((W.setCell ⟨G.K,1017,O⟩ (E Z M.entries)).setCell ⟨G.K,1018,O⟩ (E Z (-1))).setCell ⟨G.K,1019,O⟩ (E J x.draw)) own G { M with pos:=M.entries,w:= -1,draw:=x.draw} n∧Touch (fun t=>t≠ .other) W (((W.setCell ⟨G.K,1017,O⟩ (E Z M.entries)).setCell ⟨G.K,1018,O⟩ (E Z (-1))).setCell ⟨G.K,1019,O⟩ (E J x.draw)) own own:=by
 obtain ⟨a1,t1⟩:=hW.zsv M.entries hW.num.entries;obtain ⟨a2,t2⟩:=a1.ztB (-1) ⟨by decide,by decide⟩;obtain ⟨a3,t3⟩:=a2.zog x.draw hd;exact ⟨a3,t1.trans (t2.trans t3)⟩
theorem zod (F:Fixed) {M:zD} (hM:M.out= []) (x:Entry) (h:x.kind=2):kX F M x=zb2 (doS M x):=by
 unfold kX;simp only;rw[if_pos h,ziQ hM]
theorem zpt (F:Fixed) {M:zD} (hM:M.out= []) (x:Entry) (h:x.kind=1) (hw:0≤x.w∧x.w<F.workers):kX F M x=kY F { doS M x with w:=x.w} x.w.toNat:=by
 unfold kX;simp only;rw[if_neg Y1,if_pos ⟨h,hw⟩];have:=ziQ hM x;rw[←this]
theorem zqf (F:Fixed) {M:zD} (hM:M.out= []) (x:Entry) (h2:x.kind≠2) (h: ¬(x.kind=1∧0≤x.w∧x.w<F.workers)):kX F M x=doS M x:=by
 unfold kX;simp only;rw[if_neg h2,if_neg h,ziQ hM]
theorem zsr (h:zi F w own G M n) (hM:M.out= []) (x:Entry) (hd:Zm x.draw) (hn:n≤50000)
  (HT0:x.kind=2→ ∀W own',zi F W own' G (doS M x) (n+1)→Calls Tp 59 #[Y (V ⟨G.K,0,O⟩)] W fun e w'=>e=Rt (.tuple #[])∧KO F W own' G (zb2 (doS M x)) (n+8) w')
  (HP0: ∀k:Nat,x.kind=1→x.w=k→k<F.workers→ ∀W own',zi F W own' G { doS M x with w:=(k:Int)} (n+1)→Calls Tp 60 #[Y (V ⟨G.K,0,O⟩),Y (V ⟨G.gW,k*38,O⟩)] W fun e w'=>e=Rt (.tuple #[])∧Gp F W own' G [] (kY F { doS M x with w:=(k:Int)} k) (n+8) w'):
  Calls Tp 25 #[Y (V ⟨G.K,0,O⟩), .agg (Ke x)] w (zvg F w own G M n x):=by
 have Iu:=Y0 HT0;have Ie:=Y0 HP0;have hB:Below w.heap.size w (w.alloc (Ce (Ke x) 39)):=VX (Below.refl _ _) _;have hz:=heap_alloc_new w (.cells (Ke x) 39);have h1:=h.below hB;have HT:=Y0 (zU (ts:=fun t=>t≠ .other) (t:= .other) (own:=own) hB);have BO:Hid (ext own w.heap.size .other w.heap.size= .other):=Y0 (Zo (Or.inr (Nat.le_refl _)));have BZ:=Y0 hz;have HD:=Y0 hd;have HN:=Y0 hn;have HM:=Y0 hM;have EK:=Y0 (fun q=>zod F hM x q);have FZ:=Y0 (fun q p=>zpt F hM x q p);have mP:=Y0 (fun q p=>zqf F hM x q p);have dX:=Y0 (fun W hW=>h1.starts x hd W hW);obtain ⟨C,ov,ho,hC,-⟩:=h1.k.obj;have k16:(w.alloc (Ce (Ke x) 39)).cell? ⟨G.K,1016,O⟩=V (E Z M.entries):=(ze ho _).trans hC.entries
 have k17:(w.alloc (Ce (Ke x) 39)).cell? ⟨G.K,1017,O⟩=V (E Z M.pos):=(ze ho _).trans hC.pos;have k18:(w.alloc (Ce (Ke x) 39)).cell? ⟨G.K,1018,O⟩=V (E Z M.w):=(ze ho _).trans hC.w;have k19:(w.alloc (Ce (Ke x) 39)).cell? ⟨G.K,1019,O⟩=V (E J M.draw):=(ze ho _).trans hC.draw;have FI: ∀i,(w.alloc (Ce (Ke x) 39)).frozen? ⟨G.K,i,O⟩=false:=fun i=>zF ho i;have f17:=FI 1017;have f18:=FI 1018;have f19:=FI 1019;have iq:=h1.klt;have H1:=Y0 h1;have hen:=h.num.entries;have hwr:IntKind.i64.wrap (M.entries+1)=M.entries+1:=gT;generalize hw1:w.alloc (Ce (Ke x) 39)=w1 at*;generalize hbx:w.heap.size=bx at*;generalize ext own bx .other=aC at*;obtain ⟨xk,xw,xd⟩:=x;unfold Ke at*;simp only at*;have z0:=ze BZ.out 0;have z1:=ze BZ.out 1
 have z2:=ze BZ.out 2;clear h hM hB hz h1 hd hn ho hC FI hen HT0 HP0;go_enter Tryz.func25,Tryz.ntmps25;go_upto_region 1 with fail;try rw[hw1]
 clear hw1 hbx;go_cut [20] (fun _ wx=>Hid (zi F wx aC G { M with pos:=M.entries,w:= -1,draw:=xd} n∧Touch (fun t=>t≠ .other) w1 wx aC aC));case first=>
  go_region_with (fail);all_goals
   go_wp2_with fail
   go_meet
   have hst:=dX.out w1 H1.out
   exact Y0 ⟨hst.1.drew,hst.2.trans (Zv _ _)⟩
 case rest=>
  obtain ⟨h2,t2⟩:=hcut.out;have x:=t2.other BO.out (zo BZ.out);have EB:=Y0 (x.1.trans BZ.out);have EA:=Y0 x.2.1;obtain ⟨h3,t3⟩:=h2.zhk;have dG:=Y0 ((HT.out.trans t2).trans t3);have H3:Hid (zi F (wc.setCell ⟨G.K,1016,O⟩ (E Z (M.entries+1))) aC G (doS M ⟨xk,xw,xd⟩) (n+1)):=Y0 h3;obtain ⟨C,ov,ho,hC,-⟩:=h2.k.obj;have k16:wc.cell? ⟨G.K,1016,O⟩=V (E Z M.entries):=(ze ho _).trans hC.entries;have f16:wc.frozen? ⟨G.K,1016,O⟩=false:=zF ho _;have qR:Hid ((wc.setCell ⟨G.K,1016,O⟩ (E Z (M.entries+1))).heap[bx]?=V (.cells #[E Z xk,E Z xw,E J xd] 39 (0,0))):=Y0 ((t3.other EA.out (zo EB.out)).1.trans EB.out);have hne:bx≠G.K:=fun e=>by
   have h1:=h2.k.mine;rw[←e,EA.out] at h1;cases h1
  have hne2:G.K≠bx:=fun e=>hne e.symm;have y0:wc.cell? ⟨bx,0,O⟩=V (E Z xk):=ze EB.out 0;have PI:=EA;clear h2 t2 h3 t3 ho hC x hcut k17 k18 k19 f17 f18 f19 z0 z1 z2 EB EA BZ BO HT H1 dX iq;have EN:=Y0 hwr;by_cases h2:xk=2
  ·subst h2;have tF:=EK.out rfl;have iC:=Y0 tF;go_wp2_with fail;generalize hw4:World.setCell wc _ _=w4 at*;have xg:=Y0 (Iu.out (by first|rfl|trivial) _ aC H3.out);refine xg.out.mono ?_;rintro e w5 ⟨rfl,aV,h5,t5⟩;have HK:Hid (∃tb fb aM,zi F w5 aM { G with tb:=tb,fb:=fb} (kX F M ⟨2,xw,xd⟩) (n+8)∧Touch (fun t=>t≠ .other) w w5 own aM):=Y0 ⟨G.tb,G.fb,aV,by rw[iC.out];exact h5.more Y1,dG.out.trans t5⟩;clear h5 t5 xg tF hw4 k16 f16 y0;exact J30
  ·have h2b:(xk==2)=false:=beq_eq_false_iff_ne.2 h2;by_cases h1:xk=1
   ·subst h1;by_cases hw0:0≤xw
    ·obtain ⟨k,hk⟩:=Int.eq_ofNat_of_zero_le hw0;subst hk;have kw:=H3.out.zj7;obtain ⟨L,hL⟩: ∃L,L=F.workers:=⟨_,rfl⟩;have hwk:=H3.out.fok.workers;rw[←hL] at kw hwk;have rM:(1:Int)≤(L:Int)∧(L:Int)≤64:=Y1;by_cases hlt:k<L
     ·have aH:(k:Int)<(L:Int):=Y1;have dL:(0:Int)≤(k:Int)∧(k:Int)≤64:=Y1;have iC:=Y0 (FZ.out rfl ⟨by omega,by rw[←hL];exact aH⟩);have IJ:Hid (k<F.workers):=Y0 (by rw[←hL];exact hlt);have y1:=ze qR.out 1;have y0':=ze qR.out 0;obtain ⟨C4,Pz,pY,oD,-⟩:=H3.out.k.obj;have k18:=(ze pY 1018).trans oD.w;have f18:(wc.setCell ⟨G.K,1016,O⟩ (E Z (M.entries+1))).frozen? ⟨G.K,1018,O⟩=false:=zF pY _;clear hwk hlt hL pY oD;go_wp2_with fail;generalize hw4:World.setCell wc _ _=w4 at*;clear hw4 k16 f16 y0;go_quiet (fail);go_wp2_with fail;generalize Az:World.setCell _ _ _=w5;have h45:zi F w5 aC G { doS M ⟨1,(k:Int),xd⟩ with w:=(k:Int)} (n+1)∧Touch (fun t=>t≠ .other) w w5 own aC∧w5.heap[bx]?=V (.cells #[E Z 1,E Z (k:Int),E J xd] 39 (0,0)):=by
       rw[←Az];obtain ⟨h4,t4⟩:=(H3.out.drewN nq).ztB (k:Int) ⟨by omega,by omega⟩;exact ⟨h4,(dG.out.trans (ZW _ aC nq)).trans t4,(t4.other PI.out (zo qR.out)).1.trans qR.out⟩
      obtain ⟨h5,t5,b5⟩:=h45;have z1:=ze b5 1;have FJ:=h5.zj7;have e36:L≤L:=Nat.le_refl _;have yQ:=Y0 (Ie.out k (by first|rfl|trivial) (by first|rfl|trivial) IJ.out _ aC h5.drew);have CG:=Y0 (t5.trans (Zv w5 aC));have Qh:=IJ;obtain ⟨L2,hL2⟩: ∃L2,L2=F.workers:=⟨_,rfl⟩;rw[←hL2] at FJ;have Ph:(k:Int)<(L2:Int):=by have:=IJ.out;omega
      clear h5 t5 b5 Az hL2 y1 y0' k18 f18 kw;go_wp2_with fail;go_still_tail 8,Y4;change wpList _ _ _ _ _ w5.drew;have z1:w5.drew.cell? ⟨bx,1,O⟩=V (E Z (k:Int)):=z1;have FJ:w5.drew.cell? ⟨G.K,1015,O⟩=V (Sl (V ⟨G.gW,0,O⟩) L2 L2):=FJ;generalize w5.drew=w6 at*;go_wp2_with fail;refine yQ.out.mono ?_;rintro e w7 ⟨rfl,Ut,Rk,-,nN,h7,t7⟩;have HK:Hid (∃tb fb aM,zi F w7 aM { G with tb:=tb,fb:=fb} (kX F M ⟨1,(k:Int),xd⟩) (n+8)∧Touch (fun t=>t≠ .other) w w7 own aM):=Y0 ⟨Ut,Rk,nN,by rw[iC.out];exact h7.more Y1,CG.out.trans t7⟩;clear h7 t7 yQ z1 FJ;exact J30
     ·have aH: ¬((k:Int)<(L:Int)):=Y1;have iC:=Y0 (mP.out Y2 (fun q=>by have:=q.2.2;omega));clear hwk hL;obtain ⟨C4,Pz,pY,oD,-⟩:=H3.out.k.obj;have y1:=ze qR.out 1;have y0':=ze qR.out 0;clear pY oD;go_wp2_with fail;generalize hw4:World.setCell wc _ _=w4 at*;clear hw4 k16 f16 y0;go_quiet (fail);have HK:Hid (∃tb fb aM,zi F (w4.drewN nq) aM { G with tb:=tb,fb:=fb} (kX F M ⟨1,(k:Int),xd⟩) (n+8)∧Touch (fun t=>t≠ .other) w (w4.drewN nq) own aM):=Y0 ⟨G.tb,G.fb,aC,by rw[iC.out];exact (H3.out.drewN nq).more Y1,dG.out.trans (ZW w4 aC nq)⟩;exact J30
    ·have aH:xw<0:=Y1;have hge:decide (0≤xw)=false:=decide_eq_false hw0;have LY:decide (xw≥0)=false:=decide_eq_false hw0;have iC:=Y0 (mP.out Y2 (fun q=>by have:=q.2.1;omega));obtain ⟨C4,Pz,pY,oD,-⟩:=H3.out.k.obj;have y1:=ze qR.out 1;have y0':=ze qR.out 0;clear pY oD;go_wp2_with fail;generalize hw4:World.setCell wc _ _=w4 at*;clear hw4 k16 f16 y0;go_quiet (fail);have HK:Hid (∃tb fb aM,zi F (w4.drewN nq) aM { G with tb:=tb,fb:=fb} (kX F M ⟨1,xw,xd⟩) (n+8)∧Touch (fun t=>t≠ .other) w (w4.drewN nq) own aM):=Y0 ⟨G.tb,G.fb,aC,by rw[iC.out];exact (H3.out.drewN nq).more Y1,dG.out.trans (ZW w4 aC nq)⟩;exact J30
   ·have h1b:(xk==1)=false:=beq_eq_false_iff_ne.2 h1;have iC:=Y0 (mP.out h2 (fun q=>h1 q.1));have y0':=ze qR.out 0;have HK:Hid (∃tb fb aM,zi F (wc.setCell ⟨G.K,1016,O⟩ (E Z (M.entries+1))) aM { G with tb:=tb,fb:=fb} (kX F M ⟨xk,xw,xd⟩) (n+8)∧Touch (fun t=>t≠ .other) w (wc.setCell ⟨G.K,1016,O⟩ (E Z (M.entries+1))) own aM):=Y0 ⟨G.tb,G.fb,aC,by rw[iC.out];exact H3.out.more Y1,dG.out⟩;exact J30
end
open Go.RowKit Go.Maps Asm
def WkS (W wx:World) (P:Nat) (C:Array Value):Prop:=Below W.heap.size W wx∧wx.heap[P]?=V (.cells C 168 (0,0))∧W.heap.size≤P
theorem zzA {W w2:World} {C:Array Value} (hb:Below W.drew.heap.size W.drew w2):WkS W (w2.alloc (.cells C 168)) w2.heap.size C:=by
 have b:Below W.heap.size W w2:=⟨hb.os,hb.tape,hb.output,hb.size,hb.block⟩;exact ⟨b.alloc b.size _,heap_alloc_new w2 _,b.size⟩
theorem zzZ {W w2:World} {a b c d e z0 z1 z2 z3 z4:Value} (hb:Below (W.alloc (Ce #[z0,z1,z2,z3,z4] 168)).drew.heap.size (W.alloc (Ce #[z0,z1,z2,z3,z4] 168)).drew w2):
  WkS W (((((w2.setCell ⟨W.heap.size,0,O⟩ a).setCell ⟨W.heap.size,1,O⟩ b).setCell ⟨W.heap.size,2,O⟩ c).setCell ⟨W.heap.size,3,O⟩ d).setCell ⟨W.heap.size,4,O⟩ e) W.heap.size #[a,b,c,d,e]:=by
 have hz:W.heap.size<(W.alloc (Ce #[z0,z1,z2,z3,z4] 168)).heap.size:=Y7;have b1:Below W.heap.size W (W.alloc (Ce #[z0,z1,z2,z3,z4] 168)).drew:=Ki ((Below.refl _ _).alloc (Nat.le_refl _) _) 1;have b2:Below W.heap.size W w2:=b1.trans (hb.mono b1.size);have h0:w2.heap[W.heap.size]?=V (Ce #[z0,z1,z2,z3,z4] 168 (0,0)):=(hb.block _ hz).trans (heap_alloc_new W _);clear hb b1 hz;have k:=(((((Keeps.zO (X:=fun k=>k=W.heap.size) b2).setCell (p:=⟨W.heap.size,0,O⟩) rfl a).setCell (p:=⟨W.heap.size,1,O⟩) rfl b).setCell (p:=⟨W.heap.size,2,O⟩) rfl c).setCell (p:=⟨W.heap.size,3,O⟩) rfl d).setCell (p:=⟨W.heap.size,4,O⟩) rfl e;refine ⟨⟨k.os,k.tape,k.output,k.size,fun q hq=>k.block q hq Y1⟩,?_,Nat.le_refl _⟩;exact (zy (zy (zy (zy (zy h0 _) _) _) _) _).trans rfl
section
variable {F:Fixed} {w:World} {own:Own} {G:KG} {M:zD} {n:Nat}
theorem zgM (w:World) (Wb:Nat) (a d:Int):Calls Tp 24 #[Y (V ⟨Wb,0,O⟩), .agg #[E Z 2,E Z a,E J d]] w fun e w'=> ∃r:Int,e=Rt (E J r)∧VU r∧Below w.heap.size w w':=by
 go_enter Tryz.func24,Tryz.ntmps24;go_wp2_with fail;go_ret;exact ⟨0,rfl,⟨by decide,by decide⟩,(Below.refl _ _).alloc (Nat.le_refl _) _⟩
theorem zf6 (h:zi F w own G M n) (hn:n≤60000) (hF:F.workers=1) {Wb:Nat} (hW:w.cell? ⟨Wb,0,O⟩=V (Y (V ⟨G.K,0,O⟩))) (d:Int):
  Calls Tp 24 #[Y (V ⟨Wb,0,O⟩), .agg #[E Z 1,E Z 0,E J d]] w fun e w'=> ∃r:Int,e=Rt (E J r)∧VU r∧Below w.heap.size w w':=by
 have cZ:Wb<w.heap.size:=by
  rcases Nat.lt_or_ge Wb w.heap.size with q|q
  ·exact q
  ·simp[World.cell?,Array.getElem?_eq_none q] at hW
 have uQ:Zm (zl M 0).slot:=by
  obtain ⟨P,S,bv,h1,h2,h3,h4⟩:=h.wk.at (h.bV (i:=0) Y1);exact h3.slot
 have hb:Below w.heap.size w (w.alloc (Ce #[E Z 1,E Z 0,E J d] 39)):=(Below.refl _ _).alloc (Nat.le_refl _) _;have hz:=heap_alloc_new w (.cells #[E Z 1,E Z 0,E J d] 39);go_enter Tryz.func24,Tryz.ntmps24;go_upto_region 1 with fail;generalize w.alloc _=W at*;have h1:=h.below hb;have x0:=(hb.cell (p:=⟨Wb,0,O⟩) cZ).trans hW;have v0:W.cell? ⟨w.heap.size,0,O⟩=V (E Z 1):=ze hz 0;have v1:W.cell? ⟨w.heap.size,1,O⟩=V (E Z 0):=ze hz 1;have qH:Hid (∀aB,Below W.heap.size W aB→Calls Tp 57 #[Y (V ⟨G.K,0,O⟩),E Z ((0:Nat):Int)] aB fun e w'=>e=Rt (.tuple #[wk5 (zl M 0), .bool true])∧Below aB.heap.size aB w'):=Y0 fun aB hV=>zfr (h1.below hV) (i:=0) Y1;have H1:=Y0 h1
 have HB:=Y0 hb;have uo:=Y0 (Nat.lt_of_lt_of_le cZ hb.size);have HX:=Y0 x0;have HV:=Y0 (zo hz);clear h h1 hb hz hW cZ;have mV:Hid (∀aB id,Zm id→Below W.heap.size W aB→Calls Tp 58 #[Y (V ⟨G.K,0,O⟩),E J id] aB fun e w'=> ∃v l,e= .returned v∧w'.ownsRow aB.heap.size 3 1 v l.length (kU l)∧Below aB.heap.size aB w'∧l.length≤100):=Y0 fun aB id hid hV=>zgT (H1.out.below hV) hn id hid;have hc0:((0:Nat):Int)=0:=rfl;rw[hc0] at qH;generalize zl M 0=k at*;obtain ⟨sl,hd,pk,lf,kf⟩:=k;obtain ⟨pc,rg,bk⟩:=kf;unfold wk5 at qH;dsimp only at*
 have HY:Hid (∀w2,Below (W.alloc (Ce #[E J 0,E J 0, .bool false,E Z 0,E Z 0] 168)).drew.heap.size (W.alloc (Ce #[E J 0,E J 0, .bool false,E Z 0,E Z 0] 168)).drew w2→w2.heap[W.heap.size]?=V (Ce #[E J 0,E J 0, .bool false,E Z 0,E Z 0] 168 (0,0))):=Y0 fun w2 hb=>(hb.block _ (by show W.heap.size<(W.alloc _).heap.size;simp)).trans (heap_alloc_new W _);go_upto_region 3 with fail;go_cut [3,5,6] (fun a3 a5 a6 wx=>a3=Y (V ⟨w.heap.size,0,O⟩)∧a6= .bool true∧ ∃P,a5=Y (V ⟨P,0,O⟩)∧Hid (WkS W wx P #[E J sl,E J hd, .bool pk,E Z pc,E Z lf]));case first=>
  have hv:=HV.out;have hwl:=uo.out;go_region_with (go_at_call 57;refine (qH.out _ Y9).mono ?_;rintro e w2 ⟨rfl,hb2⟩;try (have hP:=HY.out _ hb2;have y0:w2.cell? ⟨W.heap.size,0,O⟩=V (E J 0):=ze hP 0;have y1:w2.cell? ⟨W.heap.size,1,O⟩=V (E J 0):=ze hP 1;have y2:w2.cell? ⟨W.heap.size,2,O⟩=V (.bool false):=ze hP 2;have y3:w2.cell? ⟨W.heap.size,3,O⟩=V (E Z 0):=ze hP 3;have y4:w2.cell? ⟨W.heap.size,4,O⟩=V (E Z 0):=ze hP 4;have z0:=zF hP 0;have z1:=zF hP 1;have z2:=zF hP 2;have z3:=zF hP 3;have z4:=zF hP 4));all_goals
   go_wp2_with fail
   go_meet
   first
   |(refine ⟨rfl,rfl,_,rfl,Y0 ?_⟩;with_reducible exact zzA hb2)
   |(refine ⟨rfl,rfl,_,rfl,Y0 ?_⟩;with_reducible exact zzZ hb2)
 case rest=>
  obtain ⟨rfl,rfl,P,rfl,HS⟩:=hcut;generalize wc=w3 at*;obtain ⟨bS,hP,Sm⟩:=HS.out;have y0:w3.cell? ⟨P,0,O⟩=V (E J sl):=ze hP 0;have y4:w3.cell? ⟨P,4,O⟩=V (E Z lf):=ze hP 4;have q0:=(bS.cell (p:=⟨Wb,0,O⟩) uo.out).trans HX.out;have aY:Hid (Below w.heap.size w w3):=Y0 (HB.out.trans (bS.mono HB.out.size));have dh:=Y0 (mV.out w3.drew sl uQ (Ki bS 1));have qL:=zo hP;have Iq:=Y0 uQ;clear mV HY qH H1 HV x0 v0 v1 bS hP Sm HS hc0;by_cases hs0:sl=0
  ·subst hs0;go_wp2_with fail;go_ret;exact ⟨0,rfl,⟨by decide,by decide⟩,aY.out⟩
  ·have TI:(sl==0)=false:=beq_eq_false_iff_ne.2 hs0;go_upto_region 6 with fail;go_region_with (go_at_call 58;refine dh.out.mono ?_;rintro e w5 ⟨v,l,rfl,hrow,hb5,O9⟩;obtain ⟨A5,c5,rfl⟩:=Asm.zn hrow);all_goals
    have y0':w5.cell? ⟨P,0,O⟩=V (E J sl):=(hb5.cell (p:=⟨P,0,O⟩) qL).trans y0
    have MS:w5.cell? ⟨P,4,O⟩=V (E Z lf):=(hb5.cell (p:=⟨P,4,O⟩) qL).trans y4
    have ED:Hid (Below w.heap.size w w5):=Y0 ((Ki aY.out 1).trans (hb5.mono aY.out.size))
    by_cases hl0:lf=0
    ·subst hl0
     rcases List.eq_nil_or_concat l with rfl|⟨l',z,rfl⟩
     ·have hlen:(([]:List Int).length:Int)=0:=rfl
      clear hb5 hrow dh
      go_wp2_with fail
      go_ret
      exact ⟨sl,rfl,Iq.out,ED.out⟩
     ·rw[List.concat_eq_append] at*
      obtain ⟨m,hm⟩: ∃m,m=l'.length:=⟨_,rfl⟩
      have hlen:(l'++ [z]).length=m+1:=by simp[hm]
      rw[hlen] at hrow
      rw[hlen]
      have rX:(0:Int)≤(m:Int)∧(m:Int)≤100:=Y1
      obtain ⟨g5,rfl,cz⟩: ∃g5,A5=some ⟨g5,0,O⟩∧w5.cell? ⟨g5,m,O⟩=V (E Z z):=by
       rcases Go.Proofs.YtdlpmnmenhojfaaGreatDoor.gG hrow with ⟨q,-⟩ |⟨gs,c',q,hq⟩
       ·injection q with _ q2 _
        omega
       ·injection q with q1 _ _
        refine ⟨gs,q1,?_⟩
        have:=hq m (E Z z) (by rw[zgr,List.getElem?_append_right (by simp[kU,hm])];simp[kU,hm])
        rwa[Addr.add_lit,Nat.zero_add] at this
      clear hb5 hrow dh hlen hm
      by_cases hz:0≤z
      ·go_wp2_with fail
       go_ret
       exact ⟨0,rfl,⟨by decide,by decide⟩,ED.out⟩
      ·go_wp2_with fail
       go_ret
       exact ⟨sl,rfl,Iq.out,ED.out⟩
    ·have SY:(lf==0)=false:=beq_eq_false_iff_ne.2 hl0
     clear hb5 hrow dh
     go_wp2_with fail
     go_ret
     exact ⟨sl,rfl,Iq.out,ED.out⟩
end
end Kn
end Go.Proofs.YtdlpmnmenhojfaaGreatDoor
