/- Part 19 of what the proof stands on: KnNewLay. -/
import Derived.Test.YtdlpmnmenhojfaaGreatDoorR16
set_option linter.unusedVariables false
set_option maxHeartbeats 40000000
set_option maxRecDepth 100000
variable {zP:Prop}
namespace Go.Proofs.YtdlpmnmenhojfaaGreatDoor
open Go.IntKind renaming i64->Z,u64->J
open Go.Value renaming int->E,pointer->Y,slice->Sl
open Option renaming none->O,some->V
open Go.Obj renaming cells->Ce
open Go.Ending renaming returned->Rt
open Go.Proofs.Tryz renaming prog->Tp
namespace Kn
open Go.RowKit Asm
theorem Zn.apart {w:World} {X gc gw K:Nat} {m:Mem} (h:Zn w X gc gw m) {C:Array Value} (hK:w.heap[K]?=V (.cells C 89 (0,0))):K≠X∧K≠gc∧K≠gw:=by
 obtain ⟨t,c,ho⟩:=h.obj;exact ⟨Zp hK ho Y2,Zp hK h.hs Y2,Zp hK h.ws Y2⟩
theorem Zn.set {w:World} {X gc gw K i:Nat} {m:Mem} {v:Value} (h:Zn w X gc gw m) (hK:K≠X∧K≠gc∧K≠gw):Zn (w.setCell ⟨K,i,O⟩ v) X gc gw m:=
 h.zk fun b hb=>zm (by
  rcases hb with rfl|rfl|rfl
  ·exact hK.1.symm
  ·exact hK.2.1.symm
  ·exact hK.2.2.symm)
structure Vu (w wr:World) (K X gc gw:Nat) (P R S:List Value) (m:Mem):Prop where
 kb:KB wr K P R S
 mem:Zn wr X gc gw m
 new:w.heap.size≤X∧w.heap.size≤gc∧w.heap.size≤gw
 keeps:Keeps (fun b=>b=K∨w.heap.size≤b) w wr
section
variable {w wr W:World} {K X gc gw:Nat} {P R S:List Value} {m:Mem}
theorem Vu.drew (h:Vu w wr K X gc gw P R S m):Vu w wr.drew K X gc gw P R S m:=⟨h.kb.of_block rfl,h.mem.zk fun _ _=>rfl,h.new,h.keeps.drew⟩
theorem Vu.step (h:Vu w wr K X gc gw P R S m) {m':Mem} (hK:K<w.heap.size) (hm:Zn W X gc gw m') (hk:Keeps (fun b=>b=X∨b=gc∨b=gw) wr W):Vu w W K X gc gw P R S m':=by
 obtain ⟨n1,n2,n3⟩:=h.new;exact ⟨h.kb.keeps hk Y1,hm,h.new,h.keeps.trans hk fun b hb=>Or.inr (by rcases hb with rfl|rfl|rfl<;>assumption)⟩
theorem Vu.below (h:Vu w wr K X gc gw P R S m) (hb:Below wr.heap.size wr W):Vu w W K X gc gw P R S m:=
 ⟨h.kb.below hb,h.mem.zk fun b hb'=>hb.block b (by obtain ⟨l1,l2,l3⟩:=h.mem.lt;rcases hb' with rfl|rfl|rfl<;>assumption),h.new,h.keeps.trans (Keeps.zO (X:=fun _=>False) hb) fun _ hx=>hx.elim⟩
theorem Vu.store (h:Vu w wr K X gc gw P R S m) (hK:K<w.heap.size) {a v:Int} (hw:m.width a=64) (ha:0≤a∧a<18446744073709551616) (hv:0≤v∧v<18446744073709551616):Calls Tp 97 #[Y (V ⟨X,0,O⟩),E J a,E J v] wr fun e w'=>e=Rt .nilIface∧Vu w w' K X gc gw P R S (m.lay a v):=by
 have H:=zbF h.mem a v ha hv;rw[zsM hw] at H;exact H.mono fun e w' ⟨a,b,c⟩=>⟨a,h.step hK b (c.mono fun b hb=>hb.elim Or.inl fun e=>Or.inr (Or.inl e))⟩
theorem Vu.map (h:Vu w wr K X gc gw P R S m) (hK:K<w.heap.size) {a n:Nat} {wd a' n':Int} (hwd:wd=32∨wd=64) (hn1:1≤n) (ha:a≤100000) (hn:n≤100000) (hf:m.free? a n=true) (ea:a'=(a:Int)) (en:n'=(n:Int)):Calls Tp 96 #[Y (V ⟨X,0,O⟩),E Z a',E Z n',E Z wd] wr fun e w'=>e=Rt .nilIface∧Vu w w' K X gc gw P R S (m.map a n wd):=by
 subst ea en;have H:=zjT h.mem a n wd hwd hn1 ha hn;rw[hf,if_pos rfl] at H;refine H.mono fun e w' q=>?_;obtain ⟨q1,q2,q3⟩:e=Rt .nilIface∧Zn w' X gc gw (m.map a n wd)∧Keeps (fun b=>b=X∨b=gc∨b=gw) wr w':=q;exact ⟨q1,h.step hK q2 q3⟩
end
section
variable {w wr W:World} {K X gc gw:Nat} {P R S:List Value} {m:Mem}
theorem Vu.zpd (h:Vu w wr K X gc gw P R S m) {v:Value}:Vu w (wr.setCell ⟨K,1008,O⟩ v) K X gc gw P R (S.set 1 v) m:=by
 have hK:=h.mem.apart h.kb.obj;exact ⟨h.kb.zkG 1 v,h.mem.set hK,h.new,h.keeps.setCell (p:=⟨K,1008,O⟩) (Or.inl rfl) _⟩
theorem VR.set {A:Nat} {v:Value} {a:Alc} (h:VR w A X v a) {i:Nat} {x:Value} (hK:K≠A) (hv:v.ownBlock=none:=by rfl):VR (w.setCell ⟨K,i,O⟩ x) A X v a:=
 h.zk fun b hb=>zm (by
  rcases hb with rfl|hb
  ·exact hK.symm
  ·rw[hv] at hb;cases hb)
theorem Vu.zt2 (h:Vu w wr K X gc gw P R S m) {wd nr:Int} (h5:P[5]?=V (E Z wd)) (h6:P[6]?=V (E Z nr)) (hwd:0≤wd∧0≤nr∧wd+nr≤256):Calls Tp 100 #[Y (V ⟨K,0,O⟩)] wr fun r w'=>r= .returned (E Z (wd+nr))∧Vu w w' K X gc gw P R S m:=
 (zoH (h.kb.cp Y2 h5) (h.kb.cp Y2 h6) hwd).mono fun e w' q=>⟨q.1,h.below q.2⟩
def zn8 (w:World) (K X gc gw:Nat) (P R S:List Value) (m:Mem) (lo hi:Nat) (e:Ending) (w':World):Prop:= ∃A,e=Rt (.tuple #[Y (V ⟨A,0,O⟩), .nilIface])∧Vu w w' K X gc gw P R S m∧VR w' A X (Sl none 0 0) ⟨lo,hi,[]⟩∧w.heap.size≤A∧X≠A∧gc≠A∧gw≠A∧K≠A
theorem Vu.zzp (h:Vu w wr K X gc gw P R S m) {lo hi:Nat} {lo':Int} (hlo:lo≤hi) (hhi:hi≤65536) (e:lo'=(lo:Int)):Calls Tp 99 #[Y (V ⟨X,0,O⟩),E Z lo',E Z hi] wr (zn8 w K X gc gw P R S m lo hi):=by
 subst e;obtain ⟨l1,l2,l3⟩:=h.mem.lt;have l4:=h.kb.lt;have l5:=h.keeps.size;exact (zhW wr X lo hi hlo hhi).mono fun e w' ⟨A,q1,q2,q3,q4⟩=>⟨A,q1,h.below q4,q2,by omega,by omega,by omega,by omega,by omega⟩
end
theorem Kt {w:World} {K gW:Nat} {P R S:List Value} (h:KB w K P R S) (F:Fixed) (cells:Nat) (hS:S[8]?=V (Sl (V ⟨gW,0,O⟩) F.workers F.workers)) (h5:P[5]?=V (E Z F.wide)) (h6:P[6]?=V (E Z F.narrow)) (hwk:1≤F.workers∧F.workers≤64) (hwd:0≤F.wide∧0≤F.narrow∧F.wide+F.narrow≤256) (hroom:F.base+F.wide+F.narrow+1≤cells) (hcells:cells≤65536):
  Calls Tp 47 #[Y (V ⟨K,0,O⟩),E Z cells] w fun e w'=>e=Rt (.tuple #[])∧ ∃X gc gw A,Vu w w' K X gc gw P R ((S.set 0 (Y (V ⟨X,0,O⟩))).set 1 (Y (V ⟨A,0,O⟩))) (zdB F cells)∧VR w' A X (Sl none 0 0) ⟨bE F+F.wide.toNat+F.narrow.toNat,cells,[]⟩∧w.heap.size≤A∧X≠A∧gc≠A∧gw≠A:=by
 have iq:=h.lt;have HK:=Y0 h;obtain ⟨k,hk⟩: ∃k,k=F.workers:=⟨_,rfl⟩;have hb:F.base=17+8* (k:Int):=by unfold Fixed.base;rw[hk]
 have hbN:(bE F:Int)=17+8* (k:Int):=by unfold bE;omega
 have dL:(1:Int)≤(k:Int)∧(k:Int)≤64:=Y1;obtain ⟨v0,hv0⟩: ∃v,S[0]?=some v:=⟨S[0]'(by rw[h.s];decide),List.getElem?_eq_getElem _⟩;obtain ⟨v1,hv1⟩: ∃v,S[1]?=some v:=⟨S[1]'(by rw[h.s];decide),List.getElem?_eq_getElem _⟩;have CP:=h.cs 0 hv0;have HN:=Y0 (ziv cells Y1 hcells w);rw[←hk] at hS;have HA:=Y0 (And.intro hk (And.intro hb (And.intro hbN (And.intro hroom (And.intro hcells (And.intro hwk hwd))))));clear h hk hb hbN hroom hcells hwk hwd;go_enter Tryz.func47,Tryz.ntmps47;go_wp2_with fail;refine HN.out.mono ?_;rintro e w1 ⟨X,gc,gw,rfl,hX,hgc,hgw,hm,hb1⟩;have FE:=HK.out.below hb1;have d7:=FE.cs 0 hv0;have f7:=FE.frz (1007+0);go_wp2_with fail;generalize hw2:World.setCell _ _ _=w2;have hb2:Vu w w2 K X gc gw P R (S.set 0 (Y (V ⟨X,0,O⟩))) ⟨List.replicate cells 0,List.replicate cells 0⟩:=by
  rw[←hw2];have RX:K≠X∧K≠gc∧K≠gw:=⟨by omega,by omega,by omega⟩;exact ⟨FE.zkG 0 _,hm.set RX,⟨hX,hgc,hgw⟩,(Keeps.zO hb1).setCell (p:=⟨K,1007+0,O⟩) (Or.inl rfl) _⟩
 clear hm hX hgc hgw hb1 FE d7 f7 CP hw2;obtain ⟨S1,ni⟩: ∃S1,S1=S.set 0 (Y (V ⟨X,0,O⟩)):=⟨_,rfl⟩;have hS1:S1[8]?=V (Sl (V ⟨gW,0,O⟩) k k):=by rw[ni,List.getElem?_set_ne Y2];exact hS
 have dS:S1[0]?=V (Y (V ⟨X,0,O⟩)):=by rw[ni,List.getElem?_set_self (by have:=HK.out.s;omega)]
 have Lu:S1[1]?=some v1:=by rw[ni,List.getElem?_set_ne Y2];exact hv1
 have Io:=Y0 ni;rw[←ni] at hb2;have HL:=Y0 hb2;have k7:w2.cell? ⟨K,1007,O⟩=V (Y (V ⟨X,0,O⟩)):=hb2.kb.cs 0 dS;have k15:w2.cell? ⟨K,1015,O⟩=V (Sl (V ⟨gW,0,O⟩) k k):=hb2.kb.cs 8 hS1;have fT:Hid (Calls Tp 42 #[Y (V ⟨K,0,O⟩)] w2.drew fun e w'=>e=Rt (E Z (17+8* (k:Int)))∧w'=w2.drew):=Y0 (by
  have tq:w2.drew.cell? ⟨K,1015,O⟩=V (Sl (V ⟨gW,0,O⟩) k k):=k15
  exact (zkm tq Y1).mono fun e w' q=>⟨q.1,q.2.symm⟩)
 have tq:w2.drew.cell? ⟨K,1015,O⟩=V (Sl (V ⟨gW,0,O⟩) k k):=k15;clear hb2 ni hS hv0 hv1 HN;go_wp2_with fail;go_region_held3 (fun W=>W.cell? ⟨K,1015,O⟩=V (Sl (V ⟨gW,0,O⟩) k k)) (with_reducible exact tq) (first|(go_at_call 42;refine fT.out.mono ?_;rintro e w3 ⟨rfl,rfl⟩));have Ns:=Y0 HL.out.drew;obtain ⟨hk,hb,hbN,hroom,hcells,hwk,hwd⟩:=HA.out;have a1:1≤17+8*k:=Y1;have a2:17+8*k≤100000:=Y1;have a3:0+(17+8*k)≤cells:=Y1;have a4:(17+8* (k:Int))=((17+8*k:Nat):Int):=Y1;have nZ:=Y0 (Ns.out.map iq (a:=0) (n:=17+8*k) (wd:=64) (a':=0) (n':=17+8* (k:Int)) (Or.inr rfl) a1 Y2 a2 (JH a3) rfl a4);clear a1 a2 a3 a4 hk hb hbN hroom hcells hwk hwd;have k7:w2.drew.cell? ⟨K,1007,O⟩=V (Y (V ⟨X,0,O⟩)):=k7;clear fT HL Ns k15 tq;generalize w2.drew=w3 at*;go_wp2_with fail;refine nZ.out.mono ?_
 rintro e w4 ⟨rfl,hl4⟩;have k15:w4.cell? ⟨K,1015,O⟩=V (Sl (V ⟨gW,0,O⟩) k k):=hl4.kb.cs 8 hS1;have HL:=Y0 hl4;clear hl4 nZ k7;go_wp2_with fail;generalize hM0:(⟨List.replicate cells 0,List.replicate cells 0⟩:Mem).map 0 (17+8*k) 64=m0 at*;have fG:=Y0 hM0.symm;have Eu: ∀b,0≤b∧b<(17+8* (k:Int))→m0.width b=64:=fun b hb=>by
  rw[←hM0];obtain ⟨hk,hb2,hbN,hroom,hcells,hwk,hwd⟩:=HA.out;exact zlz Y8 ⟨hb.1,by omega⟩
 have yT:=Y0 Eu;clear hM0 Eu;go_loopg [34] k (fun g iv wr=> ∃(i:Nat),i≤k∧g=k - i∧iv=E Z (i:Int)∧Hid (Vu w wr K X gc gw P R S1 (VF m0 k i)));case atStart=>exact ⟨0,by omega,rfl,rfl,HL⟩
 case round=>
  obtain ⟨i,hi,hg,rfl,HL⟩:=hrel;have Hg:=Y0 hg;have dH:(0:Int)≤(i:Int)∧(i:Int)≤64:=Y1;have k15:wr.cell? ⟨K,1015,O⟩=V (Sl (V ⟨gW,0,O⟩) k k):=HL.out.kb.cs 8 hS1;by_cases hlt:i<k
  ·have aH:(i:Int)<(k:Int):=Y1;have w1:IntKind.i64.wrap (3* (k:Int))=3* (k:Int):=gT;have w2:IntKind.i64.wrap (17+3* (k:Int))=17+3* (k:Int):=gT;have w3:IntKind.i64.wrap (5* (i:Int))=5* (i:Int):=gT;have w4:IntKind.i64.wrap (17+3* (k:Int)+5* (i:Int))=17+3* (k:Int)+5* (i:Int):=gT;have w5:IntKind.u64.wrap (17+3* (k:Int)+5* (i:Int))=17+3* (k:Int)+5* (i:Int):=Y22;have w6:IntKind.u64.wrap (17+3* (i:Int)+1)=17+3* (i:Int)+1:=Y22;have w7:IntKind.u64.wrap (17+3* (i:Int)+2)=17+3* (i:Int)+2:=Y22;have FY:Hid (∀aB,Calls Tp 98 #[Y (V ⟨K,0,O⟩),E Z (i:Int)] aB fun r w'=>r= .returned (E J (17+3* (i:Int)))∧aB=w'):=Y0 fun aB=>zgq (i:Int) aB Y1 _;have um:Hid (∀b,0≤b∧b<(17+8* (k:Int))→(VF m0 k i).width b=64):=Y0 fun b hb=>(jO m0 k i b).trans (yT.out b hb);have cO:Hid (VF m0 k (i+1)=ztg (VF m0 k i) k i):=Y0 rfl
   have fu:=Y0 hlt;have u1:(0:Int)≤17+3* (i:Int)∧17+3* (i:Int)<18446744073709551616:=Y1;have u2:(0:Int)≤17+3* (i:Int)+1∧17+3* (i:Int)+1<18446744073709551616:=Y1;have u3:(0:Int)≤17+3* (i:Int)+2∧17+3* (i:Int)+2<18446744073709551616:=Y1;have u4:(0:Int)≤17+3* (k:Int)+5* (i:Int)∧17+3* (k:Int)+5* (i:Int)<18446744073709551616:=Y1;have HU:=Y0 (And.intro u1 (And.intro u2 (And.intro u3 u4)));have b1:(0:Int)≤17+3* (i:Int)∧17+3* (i:Int)<17+8* (k:Int):=Y1;have b2:(0:Int)≤17+3* (i:Int)+1∧17+3* (i:Int)+1<17+8* (k:Int):=Y1;have b3:(0:Int)≤17+3* (i:Int)+2∧17+3* (i:Int)+2<17+8* (k:Int):=Y1;have b4:(0:Int)≤17+3* (k:Int)+5* (i:Int)∧17+3* (k:Int)+5* (i:Int)<17+8* (k:Int):=Y1;have HB:=Y0 (And.intro b1 (And.intro b2 (And.intro b3 b4)));generalize hm':VF m0 k i=m' at*;clear hg hlt hm' u1 u2 u3 u4 b1 b2 b3 b4 hi;go_wp2_with fail
   have dX:=Y0 (HL.out.drew.store iq (a:=17+3* (i:Int)) (v:=1) (um.out _ HB.out.1) HU.out.1 ⟨by decide,by decide⟩);have iM:Hid (∀W m',Vu w W K X gc gw P R S1 m'→W.cell? ⟨K,1007,O⟩=V (Y (V ⟨X,0,O⟩))):=Y0 fun W m' q=>q.kb.cs 0 dS;have qQ:wr.drew.cell? ⟨K,1007,O⟩=V (Y (V ⟨X,0,O⟩)):=iM.out _ _ HL.out.drew;go_region_held3 (fun W=>W.cell? ⟨K,1007,O⟩=V (Y (V ⟨X,0,O⟩))) (first|with_reducible exact qQ|with_reducible exact q7) (first|(go_at_call 98;refine (FY.out _).mono ?_;rintro e v1 ⟨rfl,rfl⟩) |(go_at_call 97;refine dX.out.mono ?_;rintro e v2 ⟨rfl,hl⟩;have q7:=iM.out _ _ hl));have HL:=Y0 hl;clear hl dX iM qQ q7;go_wp2_with fail;have dX:=Y0 (HL.out.drew.store iq (a:=17+3* (i:Int)+1) (v:=1) (um.out _ HB.out.2.1) HU.out.2.1 ⟨by decide,by decide⟩)
   have iM:Hid (∀W m',Vu w W K X gc gw P R S1 m'→W.cell? ⟨K,1007,O⟩=V (Y (V ⟨X,0,O⟩))):=Y0 fun W m' q=>q.kb.cs 0 dS;have qQ:v2.drew.cell? ⟨K,1007,O⟩=V (Y (V ⟨X,0,O⟩)):=iM.out _ _ HL.out.drew;go_region_held3 (fun W=>W.cell? ⟨K,1007,O⟩=V (Y (V ⟨X,0,O⟩))) (first|with_reducible exact qQ|with_reducible exact q7) (first|(go_at_call 98;refine (FY.out _).mono ?_;rintro e v1 ⟨rfl,rfl⟩) |(go_at_call 97;refine dX.out.mono ?_;rintro e v3 ⟨rfl,hl⟩;have q7:=iM.out _ _ hl));have HL:=Y0 hl;clear hl dX iM qQ q7;go_wp2_with fail;have dX:=Y0 (HL.out.drew.store iq (a:=17+3* (i:Int)+2) (v:=17+3* (k:Int)+5* (i:Int)) (um.out _ HB.out.2.2.1) HU.out.2.2.1 HU.out.2.2.2)
   have iM:Hid (∀W m',Vu w W K X gc gw P R S1 m'→W.cell? ⟨K,1007,O⟩=V (Y (V ⟨X,0,O⟩))):=Y0 fun W m' q=>q.kb.cs 0 dS;have qQ:v3.drew.cell? ⟨K,1007,O⟩=V (Y (V ⟨X,0,O⟩)):=iM.out _ _ HL.out.drew;go_region_held3 (fun W=>W.cell? ⟨K,1007,O⟩=V (Y (V ⟨X,0,O⟩))) (first|with_reducible exact qQ|with_reducible exact q7) (first|(go_at_call 98;refine (FY.out _).mono ?_;rintro e v1 ⟨rfl,rfl⟩) |(go_at_call 97;refine dX.out.mono ?_;rintro e v4 ⟨rfl,hl⟩;have q7:=iM.out _ _ hl));have HL:=Y0 hl;clear hl dX iM qQ q7;have k7:v4.cell? ⟨K,1007,O⟩=V (Y (V ⟨X,0,O⟩)):=HL.out.kb.cs 0 dS;have dX:=Y0 (HL.out.store iq (a:=17+3* (k:Int)+5* (i:Int)) (v:=4) (um.out _ HB.out.2.2.2) HU.out.2.2.2 ⟨by decide,by decide⟩);go_wp2_with fail;refine dX.out.mono ?_
   rintro e v5 ⟨rfl,hl⟩;have HL:=Y0 hl;clear hl dX k7;go_wp2_with fail;go_roundg (k - (i+1));case measure=>have:=Hg.out;have:=fu.out;omega
   case rel=>
    have:=fu.out;exact ⟨i+1,by omega,rfl,by go_num,by rw[cO.out];exact HL⟩
  ·obtain rfl:i=k:=Y1;have lV:Hid (i=F.workers):=Y0 HA.out.1;have dJ:Hid (∀b n,(VF m0 i i).free? b n=m0.free? b n):=Y0 fun b n=>zbp m0 i i b n;have p5:wr.cell? ⟨K,5,O⟩=V (E Z F.wide):=HL.out.kb.cp Y2 h5;have p6:wr.cell? ⟨K,6,O⟩=V (E Z F.narrow):=HL.out.kb.cp Y2 h6;have k7:wr.cell? ⟨K,1007,O⟩=V (Y (V ⟨X,0,O⟩)):=HL.out.kb.cs 0 dS;clear hg;obtain ⟨hk,hb,hbN,hroom,hcells,hwk,hwd⟩:=HA.out;have hwI:(0:Int)≤F.wide∧F.wide≤256∧0≤F.narrow∧F.narrow≤256:=Y1;have hf0:(VF m0 i i).free? (17+8*i) F.wide.toNat=true:=by
    rw[dJ.out,fG.out];exact zbo Y7 (JH Y1) Y1
   have hf1:(VF m0 i i).free? (17+8*i+F.wide.toNat) F.narrow.toNat=true:=by
    rw[dJ.out,fG.out];exact zbo Y7 (JH Y1) Y1
   have hlen:(VF m0 i i).ws.length=(VF m0 i i).hs.length:=HL.out.mem.ok.len;have hf2:(VY (VF m0 i i) (17+8*i) F.wide.toNat 64).free? (17+8*i+F.wide.toNat) F.narrow.toNat=true:=ziE hf1 hlen (Nat.le_refl _);have hlaid:zdB F cells=VY (VY (VF m0 i i) (17+8*i) F.wide.toNat 64) (17+8*i+F.wide.toNat) F.narrow.toNat 32:=by
    have e1:bE F=17+8*i:=Y1;unfold zdB;rw[e1,←hk,fG.out]
   have lW:=Y0 hlaid;have Nh:=Y0 hf0;have AX:=Y0 hf2;have a4:(17+8* (i:Int))=((17+8*i:Nat):Int):=Y1;have HA4:=Y0 a4;clear hk hb hbN hroom hcells hwk hwd hf0 hf1 hf2 hlen hlaid a4;generalize VF m0 i i=m5 at*;by_cases hwz:0<F.wide
   ·have e2:VY m5 (17+8*i) F.wide.toNat 64=m5.map (17+8*i) F.wide.toNat 64:=if_pos Y1;have hmp:=HL.out.drew.map iq (a:=17+8*i) (n:=F.wide.toNat) (wd:=64) (a':=17+8* (i:Int)) (n':=F.wide) (Or.inr rfl) Y1 Y1 Y1 Nh.out Y1 Y1;rw[←e2] at hmp;have nZ:=Y0 hmp;clear e2 hmp;go_wp2_with fail;go_still_tail 10,Y4;change wpList _ _ _ _ _ wr.drew;have p5:wr.drew.cell? ⟨K,5,O⟩=V (E Z F.wide):=p5;have k7:wr.drew.cell? ⟨K,1007,O⟩=V (Y (V ⟨X,0,O⟩)):=k7;generalize wr.drew=z4 at*;go_wp2_with fail;refine nZ.out.mono ?_;rintro e z5 ⟨rfl,hl5⟩;have HL:=Y0 hl5;clear hl5 nZ k7 p5 p6;have p6:z5.cell? ⟨K,6,O⟩=V (E Z F.narrow):=HL.out.kb.cp Y2 h6;by_cases hnz:0<F.narrow
    ·have e2:VY (VY m5 (17+8*i) F.wide.toNat 64) (17+8*i+F.wide.toNat) F.narrow.toNat 32=(VY m5 (17+8*i) F.wide.toNat 64).map (17+8*i+F.wide.toNat) F.narrow.toNat 32:=if_pos Y1;have hmp:=HL.out.drew.map iq (a:=17+8*i+F.wide.toNat) (n:=F.narrow.toNat) (wd:=32) (a':=17+8* (i:Int)+F.wide) (n':=F.narrow) (Or.inl rfl) Y1 Y1 Y1 AX.out Y1 Y1;rw[←e2] at hmp;have nZ:=Y0 hmp;have hs2:IntKind.i64.wrap (17+8* (i:Int)+F.wide)=17+8* (i:Int)+F.wide:=gT;have p5:z5.cell? ⟨K,5,O⟩=V (E Z F.wide):=HL.out.kb.cp Y2 h5;have k7:z5.cell? ⟨K,1007,O⟩=V (Y (V ⟨X,0,O⟩)):=HL.out.kb.cs 0 dS;clear e2 hmp;go_wp2_with fail;go_still_tail 16,Y4;change wpList _ _ _ _ _ z5.drew;have p5:z5.drew.cell? ⟨K,5,O⟩=V (E Z F.wide):=p5;have p6:z5.drew.cell? ⟨K,6,O⟩=V (E Z F.narrow):=p6;have k7:z5.drew.cell? ⟨K,1007,O⟩=V (Y (V ⟨X,0,O⟩)):=k7
     generalize z5.drew=z6 at*;go_wp2_with fail;refine nZ.out.mono ?_;rintro e z7 ⟨rfl,D9⟩;have HL:=Y0 D9;clear D9 nZ;generalize VY (VY m5 (17+8*i) F.wide.toNat 64) (17+8*i+F.wide.toNat) F.narrow.toNat 32=mF at*;have k7:z7.cell? ⟨K,1007,O⟩=V (Y (V ⟨X,0,O⟩)):=HL.out.kb.cs 0 dS;exact J2
    ·have e2:VY (VY m5 (17+8*i) F.wide.toNat 64) (17+8*i+F.wide.toNat) F.narrow.toNat 32=VY m5 (17+8*i) F.wide.toNat 64:=if_neg Y1;rw[e2] at lW;have k7:z5.cell? ⟨K,1007,O⟩=V (Y (V ⟨X,0,O⟩)):=HL.out.kb.cs 0 dS;clear e2 AX;generalize VY m5 (17+8*i) F.wide.toNat 64=mF at*;exact J2
   ·have e2:VY m5 (17+8*i) F.wide.toNat 64=m5:=if_neg Y1;rw[e2] at lW AX;clear e2 Nh;have p6:wr.cell? ⟨K,6,O⟩=V (E Z F.narrow):=HL.out.kb.cp Y2 h6;by_cases hnz:0<F.narrow
    ·have e2:VY (m5) (17+8*i+F.wide.toNat) F.narrow.toNat 32=(m5).map (17+8*i+F.wide.toNat) F.narrow.toNat 32:=if_pos Y1;have hmp:=HL.out.drew.map iq (a:=17+8*i+F.wide.toNat) (n:=F.narrow.toNat) (wd:=32) (a':=17+8* (i:Int)+F.wide) (n':=F.narrow) (Or.inl rfl) Y1 Y1 Y1 AX.out Y1 Y1;rw[←e2] at hmp;have nZ:=Y0 hmp;have hs2:IntKind.i64.wrap (17+8* (i:Int)+F.wide)=17+8* (i:Int)+F.wide:=gT;have p5:wr.cell? ⟨K,5,O⟩=V (E Z F.wide):=HL.out.kb.cp Y2 h5;have k7:wr.cell? ⟨K,1007,O⟩=V (Y (V ⟨X,0,O⟩)):=HL.out.kb.cs 0 dS;clear e2 hmp;go_wp2_with fail;go_still_tail 16,Y4;change wpList _ _ _ _ _ wr.drew;have p5:wr.drew.cell? ⟨K,5,O⟩=V (E Z F.wide):=p5;have p6:wr.drew.cell? ⟨K,6,O⟩=V (E Z F.narrow):=p6;have k7:wr.drew.cell? ⟨K,1007,O⟩=V (Y (V ⟨X,0,O⟩)):=k7;generalize wr.drew=z6 at*;go_wp2_with fail;refine nZ.out.mono ?_
     rintro e z7 ⟨rfl,D9⟩;have HL:=Y0 D9;clear D9 nZ;generalize VY (m5) (17+8*i+F.wide.toNat) F.narrow.toNat 32=mF at*;have k7:z7.cell? ⟨K,1007,O⟩=V (Y (V ⟨X,0,O⟩)):=HL.out.kb.cs 0 dS;exact J2
    ·have e2:VY (m5) (17+8*i+F.wide.toNat) F.narrow.toNat 32=m5:=if_neg Y1;rw[e2] at lW;have k7:wr.cell? ⟨K,1007,O⟩=V (Y (V ⟨X,0,O⟩)):=HL.out.kb.cs 0 dS;clear e2 AX;generalize m5=mF at*;exact J2
end Kn
end Go.Proofs.YtdlpmnmenhojfaaGreatDoor
