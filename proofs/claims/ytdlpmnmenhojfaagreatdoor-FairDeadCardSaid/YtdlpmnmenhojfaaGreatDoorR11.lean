/- Part 11 of what the proof stands on: KnPutA. -/
import Derived.Test.YtdlpmnmenhojfaaGreatDoorR08
set_option linter.unusedVariables false
set_option maxHeartbeats 40000000
set_option maxRecDepth 100000
variable {zP:Prop}
namespace Go.Proofs.YtdlpmnmenhojfaaGreatDoor
open Go.IntKind renaming i64->Z,u64->J
open Go.Value renaming int->E,pointer->Y,slice->Sl
open Option renaming none->O,some->V
open Go.Obj renaming cells->Ce
open Go.Ending renaming returned->Rt
open Go.Proofs.Tryz renaming prog->Tp
namespace Kn
open Go.RowKit Asm
theorem zgi {at':Nat}: ∀{l:List GI} {i:Nat},i<l.length→(∀j,j<i→(KI l j).pos≠at')→(KI l i).pos=at'→Jc at' l=V (i,KI l i)
 |[],i,h,_,_=>absurd h Y7
 |b::l,0,_,_,h=>by
  unfold Jc
  have h':b.pos=at':=h
  rw[if_pos h']
  rfl
 |b::l,i+1,h,hn,he=>by
  unfold Jc
  have h0:b.pos≠at':=hn 0 Y1
  rw[if_neg h0,zgi (l:=l) (i:=i) Y17 (fun j hj=>hn (j+1) Y1) he]
  rfl
theorem zbl {at':Nat}: ∀{l:List GI},(∀j,j<l.length→(KI l j).pos≠at')→Jc at' l=none
 |[],_=>rfl
 |b::l,hn=>by
  unfold Jc
  have h0:b.pos≠at':=hn 0 Y7
  rw[if_neg h0,zbl (l:=l) fun j hj=>hn (j+1) Y50]
  rfl
def ztd (w:World) (A X gc gw:Nat) (v:Value) (r:Alc×Mem) (e:Ending) (w':World):Prop:=
 ∃ev v',e= .returned ev∧VR w' A X v' r.1∧Zn w' X gc gw r.2∧Keeps (fun b=>b=X∨b=gc∨b=gw∨OfA A v b) w w'∧ ∀b,v'.ownBlock=some b→v.ownBlock=some b∨w.heap.size≤b
theorem zoW {w:World} {A X gc gw:Nat} {v:Value} {a:Alc} {m:Mem} (h:VR w A X v a) (hm:Zn w X gc gw m) (n:Nat) (hn:n≤100000):
  Calls Tp 103 #[Y (V ⟨A,0,O⟩),E Z n] w (ztd w A X gc gw v (zdW a m n)):=by
 have HF:=Y0 (fun n t x W=>BQ n t x W);obtain ⟨L,hL⟩: ∃L,L=a.l.length:=⟨_,rfl⟩;obtain ⟨Av,cv,rfl⟩:=zn h.row;have rM:(L:Int)≤65536:=by have:=h.len;omega
 have H:=Y0 h;have HM:=Y0 hm;have HL:=Y0 hL;rw[←hL] at H;have c3:w.cell? ⟨A,3,O⟩=V (.slice Av L cv):=by rw[ze h.obj,hL];rfl
 have EJ:=Y0 c3;have rJ:=h.lt;have dV:(n:Int)≤100000:=Y1;have hnn:=hn;clear h hm hL hn;go_enter Tryz.func103,Tryz.ntmps103;go_wp2_with fail;go_loopg [13] (L+1) (fun g iv wr=> ∃i:Nat,i≤L∧g=L+1 - i∧iv=E Z (i:Int)∧Hid (Below w.heap.size w wr)∧Hid (∀j,j<i→(KI a.l j).pos≠n));case atStart=>exact ⟨0,by omega,by omega,rfl,Y0 (Below.refl _ _),Y0 fun j hj=>absurd hj Y1⟩
 case round=>
  obtain ⟨i,hi,hg,rfl,HB,HN⟩:=hrel;have Hg:=Y0 hg;clear hg;by_cases hlt:i<L
  ·obtain ⟨g,cp,hv,_,hgl,hcap,p1,_⟩:=Vw H.out.row Y40;injection hv with hv1 hv2 hv3
   subst hv1 hv3;have aH:(i:Int)<(L:Int):=Y1;obtain ⟨b0,b1,b2⟩:=zd9 (l:=a.l) (i:=i) Y92;have x0:wr.cell? ⟨g,i*3,O⟩=V (E Z (KI a.l i).pos):=(HB.out.cell (p:=⟨g,_,O⟩) hgl).trans ((p1 _ Y40).trans b0);have x1:wr.cell? ⟨g,i*3+1,O⟩=V (E Z (KI a.l i).n):=(HB.out.cell (p:=⟨g,_,O⟩) hgl).trans ((p1 _ Y40).trans b1);have x2:wr.cell? ⟨g,i*3+2,O⟩=V (E Z (KI a.l i).w):=(HB.out.cell (p:=⟨g,_,O⟩) hgl).trans ((p1 _ Y40).trans b2);clear b0 b1 b2 p1 hv2;by_cases he:(KI a.l i).pos=n
   ·have Q8:=HB.out.cell (p:=⟨A,3,O⟩) rJ|>.trans EJ.out;go_wp2_with fail;have hB1:Below w.heap.size w (wr.alloc (Ce #[E Z n,E Z (KI a.l i).n,E Z (KI a.l i).w] 306)):=HB.out.alloc HB.out.size _;have y0:(wr.alloc (Ce #[E Z n,E Z (KI a.l i).n,E Z (KI a.l i).w] 306)).drew.cell? ⟨wr.heap.size,0,O⟩=V (E Z n):=World.cell?_alloc_at _ _ _ _ rfl;have y1:(wr.alloc (Ce #[E Z n,E Z (KI a.l i).n,E Z (KI a.l i).w] 306)).drew.cell? ⟨wr.heap.size,1,O⟩=V (E Z (KI a.l i).n):=World.cell?_alloc_at _ _ _ _ rfl;obtain ⟨Bl,hBl⟩: ∃Bl,Bl=wr.heap.size:=⟨_,rfl⟩;have hBlt:Bl<(wr.alloc (Ce #[E Z n,E Z (KI a.l i).n,E Z (KI a.l i).w] 306)).heap.size:=by rw[hBl];simp
    have wD:Hid (w.heap.size≤Bl):=Y0 (by rw[hBl];exact HB.out.size);rw[←hBl] at y0 y1 ⊢;clear x0 x1 x2 hBl;generalize wr.alloc (Ce #[E Z n,E Z (KI a.l i).n,E Z (KI a.l i).w] 306)=W1 at hB1 y0 y1 hBlt ⊢;have hBd:Below w.heap.size w W1.drew:=⟨hB1.os,hB1.tape,hB1.output,hB1.size,hB1.block⟩;have fT:=Y0 hBd;have c3':W1.drew.cell? ⟨A,3,O⟩=V (Sl (V ⟨g,0,O⟩) L cv):=(hBd.cell (p:=⟨A,3,O⟩) rJ).trans EJ.out;have hr1:W1.drew.ownsRow 0 306 3 (Sl (V ⟨g,0,O⟩) L cv) L (ZP a.l):=Asm.za (by have:=H.out.row;rwa[←HL.out] at this) fun k hk=>hBd.block k (H.out.of_lt (Or.inr hk));have hlen:(ZP (a.l.drop (i+1))).length=(L - (i+1))*3:=by rw[Gs,List.length_drop,HL.out]
    obtain ⟨i3,hi3,hz3,sJ,xY⟩:=info_parts zj0;have E4:=Y0 (jk hr1 i Y1);obtain ⟨xa,hsl,OQ⟩: ∃xa:Addr,(∀W,(Instr.slice 301 (Sl (V ⟨g,0,O⟩) L cv) (some (E Z ((i:Int)+1))) none none).run Tp W= .ok (Sl (some xa) (L - (i+1)) (cv - (i+1))) W)∧ ∀j u,(ZP (a.l.drop (i+1)))[j]?=some u→W1.drew.cell? (xa.add j)=some u:=by
     have hsz: ∀W,(sizeOf 306).run Tp W= .ok 3 W:=fun W=>by kernel_rfl
     have hel:Tryz.prog.elem 301=306:=Y4;refine ⟨if cv=i+1 then ⟨g,0,O⟩ else ⟨g,(i+1)*3,O⟩,fun W=>?_,?_⟩
     ·have hr:=run_slice_l (P:=Tp) (w:=W) 301 (V ⟨g,0,O⟩) L cv Tryz.underlying301 Z ((i:Int)+1) Y1 Y1;rw[hr,hel,hsz];have et:((i:Int)+1).toNat=i+1:=Y1;rw[et];rw[Result.andThen_ok];unfold sliced;by_cases e:cv=i+1
      ·rw[if_pos e,if_pos e]
      ·rw[if_neg e,if_neg e];show Result.ok (Value.slice (some ((⟨g,0,O⟩:Addr).add ((i+1)*3))) _ _) W=_;rw[Addr.add_lit,Nat.zero_add]
     ·intro j u hu;have hj:j<(L - (i+1))*3:=by
       have:=(List.getElem?_eq_some_iff.1 hu).1;rwa[hlen] at this
      rw[if_neg (by have:=HL.out;omega),Addr.add_lit];obtain ⟨g',c',hv,_,_,_,p1,_⟩:=Vw hr1 Y1;injection hv with hv1 hv2 hv3
      injection hv1 with hv1
      injection hv1 with hv1
      rw[hv1,p1 _ Y1,←hu];have e5:ZP (a.l.drop (i+1))=(ZP a.l).drop ((i+1)*3):=(zfZ (k:=3) (f:=jJ) (fun _=>rfl) _ _).symm;rw[e5,List.getElem?_drop]
    have N4:=Y0 OQ;clear OQ;have O4:Hid (∀u∈ZP (a.l.drop (i+1)),u.oneCell'=true):=Y0 (zgp _);have IK:=Y0 (show i+(L - (i+1))≤maxLen by unfold maxLen;omega);have IL:=Y0 (show (i+(L - (i+1)))*24≤140737488355328 by omega);have IQ:=Y0 (show 0≤W1.drew.heap.size by omega);have oO:=Y0 hlen;have Co:=Y0 H.out.ne;have hgA:A≠g:=fun e=>Co.out Y65;have hA1:A<W1.drew.heap.size:=Nat.lt_of_lt_of_le rJ hBd.size;have Df:Bl<W1.drew.heap.size:=hBlt;have DN:g≠Bl:=fun e=>by have:=wD.out;omega
    have qz:Hid (A<W1.drew.heap.size∧A≠g∧Bl<W1.drew.heap.size∧g≠Bl):=Y0 ⟨hA1,hgA,Df,DN⟩;have mV:Hid (W1.drew.frozen? ⟨A,3,O⟩=false):=Y0 ((World.frozen?_of_block (a:=⟨A,3,O⟩) (hBd.block A rJ)).trans (zF H.out.obj 3));have hic:(i:Int)≤(cv:Int):=by have:=HL.out;omega
    have hi1:(i:Int)+1≤(L:Int):=Y1;clear hr1 hlen hBd hB1 Q8 hA1 hgA Df DN;have hwr:IntKind.i64.wrap ((i:Int)+1)=(i:Int)+1:=by simp[IntKind.wrap,IntKind.bits,IntKind.signed];omega
    have htn:((i:Int)+1).toNat=i+1:=Y1;have RA:(0:Int)≤(i:Int)+1:=Y1
    go_region_law (first|(refine Zw _ rfl (.tmp 28) (.tmp 35) 301 rfl 0 306 i3 _ 3 24 Tryz.underlying301 hi3 hz3 sJ xY rfl Y2 (Sl (V ⟨g,0,O⟩) i cv) i _ rfl E4.out xa (L - (i+1)) (cv - (i+1)) _ rfl oO.out N4.out O4.out IK.out IL.out IQ.out ?_;intro v5 w5 hown hgrow hnew;obtain ⟨A5,c5,rfl⟩:=Asm.zn hown;have t0:=(World.cell?_of_block (a:=⟨A,3,O⟩) (hgrow.block A qz.out.1 (fun e=>qz.out.2.1 Y18))).trans c3';have t1:=(World.frozen?_of_block (a:=⟨A,3,O⟩) (hgrow.block A qz.out.1 (fun e=>qz.out.2.1 Y18))).trans mV.out;have s0:=(World.cell?_of_block (a:=⟨Bl,0,O⟩) (hgrow.block Bl qz.out.2.2.1 (fun e=>qz.out.2.2.2 Y67))).trans y0;have s1:=(World.cell?_of_block (a:=⟨Bl,1,O⟩) (hgrow.block Bl qz.out.2.2.1 (fun e=>qz.out.2.2.2 Y67))).trans y1;have dN:=Y0 hown;have qC:=Y0 hgrow;have qE:=Y0 hnew;clear hown hgrow hnew))
    all_goals
     have Db:w5.heap[A]?=V (.cells #[Y (V ⟨X,0,O⟩),E Z a.lo,E Z a.hi,Sl (V ⟨g,0,O⟩) L cv] 303 (0,0)):=(qC.out.block A qz.out.1 (fun e=>qz.out.2.1 Y18)).trans ((fT.out.block A rJ).trans H.out.obj)
     have hel:a.l.eraseIdx i=a.l.take i++a.l.drop (i+1):=List.eraseIdx_eq_take_drop_succ _ _
     have hell:(a.l.eraseIdx i).length=i+(L - (i+1)):=by rw[hel,List.length_append,List.length_take,List.length_drop,←HL.out];omega
     have oH:w5.ownsRow 0 306 3 (.slice A5 (i+(L - (i+1))) c5) (a.l.eraseIdx i).length (ZP (a.l.eraseIdx i)):=by
      rw[hell,hel]
      have e5:ZP (a.l.take i++a.l.drop (i+1))=(ZP a.l).take (i*3)++ZP (a.l.drop (i+1)):=by
       have:(ZP a.l).take (i*3)=ZP (a.l.take i):=zfz (f:=jJ) (fun _=>rfl) _ _
       rw[this];simp[ZP]
      rw[e5];exact dN.out
     have R6:=bH.laid Db oH
     have yP:Hid (VR (w5.setCell ⟨A,3,O⟩ (.slice A5 (i+(L - (i+1))) c5)) A X (.slice A5 (i+(L - (i+1))) c5) { a with l:=a.l.eraseIdx i}):=Y0 ⟨zkq H.out.ok i,H.out.most,R6.obj,R6.row⟩
     have hk5:Keeps (fun b=>b=X∨b=gc∨b=gw∨OfA A (Sl (V ⟨g,0,O⟩) L cv) b) w w5:=(Keeps.zO fT.out).grown qC.out fun k hk=>Or.inr (Or.inr (Or.inr (Or.inr hk)))
     have Aq:Keeps (fun b=>b=X∨b=gc∨b=gw∨OfA A (Sl (V ⟨g,0,O⟩) L cv) b) w (w5.setCell ⟨A,3,O⟩ (.slice A5 (i+(L - (i+1))) c5)):=hk5.setCell (p:=⟨A,3,O⟩) (Or.inr (Or.inr (Or.inr (Or.inl rfl)))) _
     have Ci:=Y0 Aq
     clear hk5 Aq oH R6
     have qD:Hid (Zn (w5.setCell ⟨A,3,O⟩ (.slice A5 (i+(L - (i+1))) c5)) X gc gw m):=Y0 (HM.out.zk fun b hb=>by
      have hap:=H.out.apart HM.out
      have hba:b≠A:=fun e=>hap A (Or.inl rfl) (by rw[←e];exact hb)
      have hbl:b<w.heap.size:=by
       obtain ⟨l1,l2,l3⟩:=HM.out.lt
       rcases hb with rfl|rfl|rfl<;>assumption
      rw[zm hba]
      exact (qC.out.block b (Nat.lt_of_lt_of_le hbl fT.out.size) (fun e=>hap b (Or.inr e.symm) hb)).trans (fT.out.block b hbl))
     have z0:(w5.setCell ⟨A,3,O⟩ (.slice A5 (i+(L - (i+1))) c5)).drew.cell? ⟨A,0,O⟩=V (Y (V ⟨X,0,O⟩)):=by
      show (w5.setCell ⟨A,3,O⟩ (.slice A5 (i+(L - (i+1))) c5)).cell? ⟨A,0,O⟩=_
      rw[ze yP.out.obj];rfl
     have hne:Bl≠A:=fun e=>by have:=wD.out;omega
     have z1:(w5.setCell ⟨A,3,O⟩ (.slice A5 (i+(L - (i+1))) c5)).drew.cell? ⟨Bl,0,O⟩=V (E Z n):=(World.cell?_of_block (a:=⟨Bl,0,O⟩) (zm hne)).trans s0
     have z2:(w5.setCell ⟨A,3,O⟩ (.slice A5 (i+(L - (i+1))) c5)).drew.cell? ⟨Bl,1,O⟩=V (E Z (KI a.l i).n):=(World.cell?_of_block (a:=⟨Bl,1,O⟩) (zm hne)).trans s1
     have Fa:Hid (zdW a m n=({ a with l:=a.l.eraseIdx i},if m.zix n (KI a.l i).n then m.map n (KI a.l i).n 0 else m)):=Y0 (by
      unfold zdW
      rw[zgi Y92 HN.out he])
     have hbi:=zhS H.out.ok (KI a.l i) (zke Y92)
     have Fg:=Y0 (zlO (w:=(w5.setCell ⟨A,3,O⟩ (.slice A5 (i+(L - (i+1))) c5)).drew) (qD.out.zk fun _ _=>rfl) n (KI a.l i).n Y1 hnn Y1)
     have Oe:Hid (∀b,Value.ownBlock (.slice A5 (i+(L - (i+1))) c5)=some b→Value.ownBlock (Sl (V ⟨g,0,O⟩) a.l.length cv)=some b∨w.heap.size≤b):=Y0 fun b hb=>by
      rcases qE.out with h1|h1
      ·rw[h1] at hb;exact Or.inl hb
      ·rw[h1] at hb;injection hb with hb;have:=fT.out.size;exact Or.inr Y1
     clear s0 s1 t0 t1 y0 y1 c3' hwr htn RA hsl hbi Db hel hell
     generalize w5.setCell ⟨A,3,O⟩ (.slice A5 (i+(L - (i+1))) c5)=W6 at*
     cases hall:m.zix n (KI a.l i).n with
     |false=>
      rw[hall] at Fg Fa
      go_wp2_with fail
      go_region_with (go_at_call 150;refine Fg.out.mono ?_;rintro e w7 ⟨⟨_,rfl,ty,xv,rfl⟩,dU⟩)
      all_goals
       go_wp2_with fail
       refine (HF.out _ _ _ _).mono ?_
       rintro e w8 ⟨⟨ev,rfl,hev⟩,xV⟩
       go_wp2_with fail
       go_ret
       have hb6:Below W6.heap.size W6 w7:=⟨dU.os,dU.tape,dU.output,dU.size,dU.block⟩
       have hb:=hb6.trans (xV.mono hb6.size)
       rw[Fa.out]
       refine ⟨ev,_,rfl,yP.out.zk fun k hk=>hb.block k (yP.out.of_lt hk),qD.out.zk (fun b h=>hb.block b ?_),Ci.out.trans (Keeps.zO (X:=fun _=>False) hb) (fun _ h=>h.elim),Oe.out⟩
       obtain ⟨l1,l2,l3⟩:=qD.out.lt
       rcases h with rfl|rfl|rfl<;>assumption
     |true=>
      rw[hall] at Fg Fa
      go_wp2_with fail
      go_region_with (go_at_call 150;refine Fg.out.mono ?_;rintro e w7 ⟨rfl,Tg,uJ⟩)
      all_goals
       go_wp2_with fail
       go_ret
       rw[Fa.out]
       have hk:Keeps (fun b=>b=X∨b=gc∨b=gw) W6 w7:=⟨uJ.os,uJ.tape,uJ.output,uJ.size,uJ.block⟩
       refine ⟨_,_,rfl,yP.out.zk fun k hk'=>hk.block k (yP.out.of_lt hk') (yP.out.apart qD.out k hk'),Tg,Ci.out.trans hk (fun b h=>Or.inl ?_),Oe.out⟩
       rcases h with h|h|h
       ·exact Or.inl h
       ·exact Or.inr (Or.inl h)
       ·exact Or.inr (Or.inr (Or.inl h))
   ·have hb:((KI a.l i).pos:Int)≠(n:Int):=Y1;go_wp2_with fail;go_roundg (L+1 - (i+1));case measure=>have:=Hg.out;omega
    case rel=>
     refine ⟨i+1,by omega,rfl,by go_num,Y0 (HB.out.alloc HB.out.size _),Y0 fun j hj=>?_⟩;by_cases e:j=i
     ·rw[e];exact he
     ·exact HN.out j Y1
  ·have fC:i=L:=Y1;have P9:=Y0 (zbl (at':=n) (l:=a.l) fun j hj=>HN.out j (by rw[fC,HL.out];exact hj));rw[fC];go_wp2_with fail;refine (HF.out _ _ _ _).mono ?_;rintro e w1 ⟨⟨ev,rfl,hev⟩,hb1⟩;go_wp2_with fail;go_ret;have hb:=HB.out.trans (hb1.mono HB.out.size);have e0:zdW a m n=(a,m):=by unfold zdW;rw[P9.out]
   refine ⟨ev, .slice Av L cv,rfl,?_,?_,Keeps.zO hb,fun b h=>Or.inl (by rw[←HL.out];exact h)⟩
   ·rw[e0];have hP:=H.out;exact hP.zk fun k hk=>hb.block k (hP.of_lt hk)
   ·rw[e0];obtain ⟨l1,l2,l3⟩:=HM.out.lt;exact HM.out.zk fun b hb'=>hb.block b (by rcases hb' with rfl|rfl|rfl<;>assumption)
end Kn
end Go.Proofs.YtdlpmnmenhojfaaGreatDoor
