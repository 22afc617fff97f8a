/- Part 35 of what the proof stands on: KnStp, KnSpec, KnLibW, KnBorn, KnRuns, KnSpAny, KnSpTold, KnPrk, KnCbk, KnLibJ, KnLibT, KnRefA, KnRef. -/
import Derived.Test.YtdlpmnmenhojfaaGreatDoorR34
set_option linter.unusedVariables false
set_option maxHeartbeats 40000000
set_option maxRecDepth 100000
variable {zP:Prop}
namespace Go.Proofs.YtdlpmnmenhojfaaGreatDoor
open Go.IntKind renaming i64->Z,u64->J
open Go.Value renaming int->E,pointer->Y,slice->Sl
open Option renaming none->O,some->V
open Go.Obj renaming cells->Ce
open Go.Ending renaming returned->Rt
open Go.Proofs.Tryz renaming prog->Tp
namespace Kn
open Go.RowKit Asm
def Gw:zx:=⟨0,0,0,0,0,0,0⟩
section
variable {F:Fixed} {w:World} {own:Own} {G:KG} {M:zD} {n:Nat}
def zX (w:World) (own:Own) (b:Nat) (cs:Array Value) (t:TypeId):Prop:=w.heap[b]?=V (.cells cs t (0,0))∧own b= .other
theorem zX.move {w':World} {own':Own} {b:Nat} {cs:Array Value} {t:TypeId} (h:zX w own b cs t) (k:Touch (fun t=>t≠ .other) w w' own own'):zX w' own' b cs t:=
 have q:=k.other h.2 (zo h.1)
 ⟨q.1.trans h.1,q.2.1⟩
theorem zX.drawn {b:Nat} {cs:Array Value} {t:TypeId} (h:zX w own b cs t) (q:Nat):zX (w.drewN q) own b cs t:=h
theorem zX.cells {b:Nat} {cs:Array Value} {t:TypeId} (h:zX w own b cs t):(∀j,w.frozen? ⟨b,j,O⟩=false)∧ ∀j,w.cell? ⟨b,j,O⟩=cs[j]?:=⟨zF h.1,ze h.1⟩
theorem zX.put {b k:Nat} {cs:Array Value} {t:TypeId} (h:zX w own b cs t) (v:Value):zX (w.setCell ⟨b,k,O⟩ v) own b (cs.setIfInBounds k v) t:=⟨zy h.1 v,h.2⟩
theorem zX.far {b c k:Nat} {cs:Array Value} {t:TypeId} (h:zX w own b cs t) (hne:b≠c) (v:Value):zX (w.setCell ⟨c,k,O⟩ v) own b cs t:=⟨(zm hne).trans h.1,h.2⟩
theorem zX.zq5 {b:Nat} {t:TypeId} {z0 z1 z2 z3 z4 z5 z6:Value} (h:zX w own b #[z0,z1,z2,z3,z4,z5,z6] t) (v0 v1 v2 v3 v4 v5 v6:Value) {W:World} (hW:W=((((((w.setCell ⟨b,0,O⟩ v0).setCell ⟨b,1,O⟩ v1).setCell ⟨b,2,O⟩ v2).setCell ⟨b,3,O⟩ v3).setCell ⟨b,4,O⟩ v4).setCell ⟨b,5,O⟩ v5).setCell ⟨b,6,O⟩ v6):zX W own b #[v0,v1,v2,v3,v4,v5,v6] t∧Keeps (fun k=>k=b) w W:=by
 subst hW;have h1:=h.put (k:=0) v0;have h2:=h1.put (k:=1) v1;have h3:=h2.put (k:=2) v2;have h4:=h3.put (k:=3) v3;have h5:=h4.put (k:=4) v4;have h6:=h5.put (k:=5) v5;have h7:=h6.put (k:=6) v6;exact ⟨by simpa using h7,(((((((Keeps.refl (fun k=>k=b) w).setCell (p:=⟨b,0,O⟩) rfl v0).setCell (p:=⟨b,1,O⟩) rfl v1).setCell (p:=⟨b,2,O⟩) rfl v2).setCell (p:=⟨b,3,O⟩) rfl v3).setCell (p:=⟨b,4,O⟩) rfl v4).setCell (p:=⟨b,5,O⟩) rfl v5).setCell (p:=⟨b,6,O⟩) rfl v6⟩
theorem zi.boxed (h:zi F w own G M n) {W:World} {b:Nat} (hk:Keeps (fun k=>k=b) w W) (ho:own b= .other):zi F W own G M n:=h.move ⟨hk.mono fun k e=>by rw[e];exact ho,fun _ _=>rfl⟩
theorem Touch.boxed {w1 W:World} {aC:Own} {b:Nat} (t:Touch (fun t=>t≠ .other) w w1 own aC) (hk:Keeps (fun k=>k=b) w1 W) (hb:w.heap.size≤b):Touch (fun t=>t≠ .other) w W own aC:=⟨t.keeps.trans hk fun k e=>Or.inr (by rw[e];exact hb),t.own⟩
theorem zX.stay {b c:Nat} {cs ds:Array Value} {t u:TypeId} (h:zX w own b cs t) (hc:zX w own c ds u) (hne:b≠c) {v0 v1 v2 v3 v4 v5 v6:Value} {W:World} (hW:W=((((((w.setCell ⟨c,0,O⟩ v0).setCell ⟨c,1,O⟩ v1).setCell ⟨c,2,O⟩ v2).setCell ⟨c,3,O⟩ v3).setCell ⟨c,4,O⟩ v4).setCell ⟨c,5,O⟩ v5).setCell ⟨c,6,O⟩ v6):zX W own b cs t:=by
 subst hW;exact (((((((h.far hne v0).far hne v1).far hne v2).far hne v3).far hne v4).far hne v5).far hne v6)
theorem zfj (h:zi F w own G M n) {i:Nat} (hi:i<F.workers) {t:Option Int} {b o:Nat} (fa:VZ G M i t b o) (hn:n≤100000):
  Calls Tp 175 #[Y (V ⟨G.K,0,O⟩),Y (V ⟨b,o,O⟩)] w fun e w'=>e=Rt (.tuple #[.agg (zS ((Zc F.lib (zA M i t).pc).getD Gw)),E Z (zK (zA M i t) F.lib M.mem).how])∧KO F w own G (Zu { M with mem:=(zK (zA M i t) F.lib M.mem).mem} i t (zK (zA M i t) F.lib M.mem).f) (n+1) w':=by
 obtain ⟨w1,hw1⟩: ∃w1,w1=(w.alloc (Ce (zS Gw) 111)).alloc (Ce (zS Gw) 111):=⟨_,rfl⟩;obtain ⟨l1,l2,l3⟩:=zbZ w (.cells (zS Gw) 111) (.cells (zS Gw) 111);rw[←hw1] at l1 l2 l3;obtain ⟨aC,hown⟩: ∃o,o=ext own w.heap.size .other:=⟨_,rfl⟩;have h1:=h.below l3;have t1:Touch (fun t=>t≠ .other) w w1 own (ext own w.heap.size .other):=zU l3;rw[←hown] at h1 t1;have B4:zX w1 aC w.heap.size (zS Gw) 111:=⟨l1,by rw[hown];exact Zo (Or.inr (Nat.le_refl _))⟩;have B6:zX w1 aC (w.heap.size+1) (zS Gw) 111:=⟨l2,by rw[hown];exact Zo (Or.inr (Nat.le_succ _))⟩;obtain ⟨cp,hpr,-,-⟩:=h1.bump hi fa;obtain ⟨p,hp⟩:=Int.eq_ofNat_of_zero_le hpr.1;have hb1:b<w1.heap.size:=(h1.reg hi fa 0 Y2).2.2.2;have k0:w1.cell? ⟨G.K,0,O⟩=some G.lv:=h1.Vb fun _ _ hc=>hc.lib;have k7:=h1.zcR
 obtain ⟨g,c,hlv,hc,-,hg⟩:=h1.fix.lib.zbU h1.fok.lib.1;have hlen:=h1.fok.lib;have dY:=Y0 h1.fok.libs;rw[hlv] at k0;rw[hp] at cp;have j4:Hid (G.lv=Sl (V ⟨g,0,O⟩) F.lib.length c):=Y0 hlv;have HS:Hid (∀W own',zi F W own' G M n→Calls Tp 180 #[Y (V ⟨b,o,O⟩),Sl (V ⟨g,0,O⟩) F.lib.length c, .iface 79 (Y (V ⟨G.X,0,O⟩))] W fun e w'=>(∃ev,e=Rt (.tuple #[E Z (zK (zA M i t) F.lib M.mem).how,ev]))∧KO F W own' G (Zu { M with mem:=(zK (zA M i t) F.lib M.mem).mem} i t (zK (zA M i t) F.lib M.mem).f) (n+1) w'):=Y0 fun W own' h'=>by
  rw[←hlv];exact zkD h' hi fa hn
 have oG:(0:Int)≤(p:Int)∧(p:Int)≤200000:=Y1;have rM:(1:Int)≤(F.lib.length:Int)∧(F.lib.length:Int)≤2048:=Y1;have H1:=Y0 h1;have fq:=Y0 t1;have iO:=Y0 B4;have uZ:=Y0 B6;have iq:=h1.klt;have Hl:=Y0 iq;have wJ:Hid ((Zc F.lib (zA M i t).pc)=Zc F.lib p):=Y0 (by rw[hp]);rw[wJ.out];obtain ⟨Ae,uz⟩:=B4.cells;obtain ⟨OD,OC⟩:=B6.cells;unfold zS Gw at*;simp only at*;have hne:w.heap.size≠w.heap.size+1:=Y1;by_cases hlt:(p:Int)<(F.lib.length:Int)
 ·have hpl:p<F.lib.length:=Y1;have hins:Zc F.lib (p:Int)=some F.lib[p]:=by
   unfold Zc;rw[if_neg Y1,Int.toNat_natCast,List.getElem?_eq_getElem hpl]
  rw[hins];obtain ⟨x,hx⟩: ∃x,x=F.lib[p]:=⟨_,rfl⟩;rw[←hx];have hcc:=hc.cells hpl hx.symm;obtain ⟨xo,xa,xb,xc,xv,xm,xw⟩:=x;obtain ⟨c0,c1,c2,c3,c4,c5,c6⟩:=hcc;simp only[Option.getD_some];generalize (zK (zA M i t) F.lib M.mem)=st at*;clear h h1 t1 B4 B6 l1 l2 l3 hn hpr hp hlen hc hins hx hlv hown hpl fa dY wJ;generalize F.lib.length=L at*;go_enter Tryz.func175,Tryz.ntmps175;go_wp2_with fail;try rw[←hw1]
  clear hw1;go_quiet (fail);go_wp2_with fail;obtain ⟨w2,hw2⟩: ∃w2,w2=w1.drewN nq:=⟨_,rfl⟩;have dO:Hid (Touch (fun t=>t≠ .other) w w2 own aC):=Y0 Y26;have H2:Hid (zi F w2 aC G M n):=Y0 Y56;have C4:Hid (zX w2 aC w.heap.size _ 111):=Y0 Y55;have C6:Hid (zX w2 aC (w.heap.size+1) _ 111):=Y0 (by rw[hw2];exact uZ.out.drawn nq);obtain ⟨e0,e1,e2,e3,e4,e5,e6⟩:w2.cell? ⟨g,p*7,O⟩=V (E Z xo)∧w2.cell? ⟨g,p*7+1,O⟩=V (E Z xa)∧w2.cell? ⟨g,p*7+2,O⟩=V (E Z xb)∧w2.cell? ⟨g,p*7+3,O⟩=V (E Z xc)∧w2.cell? ⟨g,p*7+4,O⟩=V (E J xv)∧w2.cell? ⟨g,p*7+5,O⟩=V (E Z xm)∧w2.cell? ⟨g,p*7+6,O⟩=V (E Z xw):=by rw[hw2];exact ⟨c0,c1,c2,c3,c4,c5,c6⟩
  have d0:w2.cell? ⟨G.K,0,O⟩=V (Sl (V ⟨g,0,O⟩) L c):=by rw[hw2];exact k0
  have d1:w2.cell? ⟨b,o,O⟩=V (E Z (p:Int)):=by rw[hw2];exact cp
  rw[←hw2];clear hw2 c0 c1 c2 c3 c4 c5 c6 k0 k7 cp Ae uz OD OC hg hb1;go_still_tail 11,Y4;change wpList _ _ _ _ _ w2.drew;have H3:Hid (zi F w2.drew aC G M n):=Y0 H2.out.drew;have dG:Hid (Touch (fun t=>t≠ .other) w w2.drew own aC):=Y0 (dO.out.trans (Zv w2 aC));have yL:zX w2.drew aC (w.heap.size+1) _ 111:=C6.out;have qU:zX w2.drew aC w.heap.size _ 111:=C4.out;generalize w2.drew=wd at H3 dG yL qU ⊢;obtain ⟨f6,g6⟩:=yL.cells;have CU:=g6 0;have CV:=g6 1;have CW:=g6 2;have CX:=g6 3;have CY:=g6 4;have CZ:=g6 5;have C8:=g6 6;go_wp2_with fail;generalize hW:World.setCell _ _ _=W;obtain ⟨MV,K7⟩:=yL.zq5 _ _ _ _ _ _ _ hW.symm;have D4:=Y0 (qU.stay yL hne hW.symm);have D6:=Y0 MV;have H3:=Y0 (H3.out.boxed K7 yL.2);have dG:=Y0 (dG.out.boxed K7 Y1)
  clear hW K7 yL qU MV CU CV CW CX CY CZ C8 f6 g6 e0 e1 e2 e3 e4 e5 e6 d0 d1 H2 C4 C6 dO;have k0:W.cell? ⟨G.K,0,O⟩=some G.lv:=H3.out.Vb fun _ _ hc=>hc.lib;rw[j4.out] at k0;have k7:=H3.out.zcR;have dQ:Hid (∀W',(∃q,W'=W.drewN q)→Calls Tp 180 #[Y (V ⟨b,o,O⟩),Sl (V ⟨g,0,O⟩) L c, .iface 79 (Y (V ⟨G.X,0,O⟩))] W' fun e w'=>(∃ev,e=Rt (.tuple #[E Z st.how,ev]))∧KO F W aC G (Zu { M with mem:=st.mem} i t st.f) (n+1) w'∧w'.cell? ⟨G.K,0,O⟩=V (Sl (V ⟨g,0,O⟩) L c)∧w'.cell? ⟨G.K,1007,O⟩=V (Y (V ⟨G.X,0,O⟩))):=Y0 fun W' ⟨q,hq⟩=>by
   exact zyh
  go_region_held3 (fun aB=>aB.cell? ⟨G.K,0,O⟩=V (Sl (V ⟨g,0,O⟩) L c)∧aB.cell? ⟨G.K,1007,O⟩=V (Y (V ⟨G.X,0,O⟩))) (first|exact ⟨k0,k7⟩ |exact ⟨u0,u1⟩ |go_keep) (first|(go_at_call 180;refine (dQ.out _ ⟨1,rfl⟩).mono ?_;rintro e w3 ⟨⟨ev,rfl⟩,hk,u0,u1⟩));obtain ⟨dx,h4,t4⟩:=hk;have E4:=D4.out.move t4;have E6:=D6.out.move t4;have H4:=Y0 h4;have mZ:=Y0 (dG.out.trans t4);clear u0 u1 h4 t4 k0 k7;obtain ⟨f4,g4⟩:=E4.cells;obtain ⟨f6,g6⟩:=E6.cells;have Rm:=g4 0;have Rn:=g4 1;have Ro:=g4 2;have Rp:=g4 3;have Rq:=g4 4;have Rs:=g4 5;have Ru:=g4 6;have CU:=g6 0;have CV:=g6 1;have CW:=g6 2;have CX:=g6 3;have CY:=g6 4;have CZ:=g6 5;have C8:=g6 6;go_wp2_with fail;generalize hW:World.setCell _ _ _=aB;obtain ⟨R4,K7⟩:=E4.zq5 _ _ _ _ _ _ _ hW.symm;have iF:=R4.1;clear hW
  exact bodyPost_ret (v:= .tuple #[.agg #[E Z xo,E Z xa,E Z xb,E Z xc,E J xv,E Z xm,E Z xw],E Z st.how]) Y60 rfl ⟨rfl,dx,H4.out.boxed K7 E4.2,mZ.out.boxed K7 (Nat.le_refl _)⟩
 ·have hins:Zc F.lib (p:Int)=none:=JF (Or.inr Y1);rw[hins];simp only[Option.getD_none];generalize (zK (zA M i t) F.lib M.mem)=st at*;clear h h1 t1 B4 B6 l1 l2 l3 hn hpr hp hlen hc hins hlv hown fa dY wJ;generalize F.lib.length=L at*;go_enter Tryz.func175,Tryz.ntmps175;go_wp2_with fail;try rw[←hw1]
  clear hw1;go_quiet (fail);go_wp2_with fail;obtain ⟨W,hW⟩: ∃W,W=w1.drewN nq:=⟨_,rfl⟩;have dG:Hid (Touch (fun t=>t≠ .other) w W own aC):=Y0 Y45;have H3:Hid (zi F W aC G M n):=Y0 Y78;have D4:Hid (zX W aC w.heap.size _ 111):=Y0 Y75;have D6:Hid (zX W aC (w.heap.size+1) _ 111):=Y0 (by rw[hW];exact uZ.out.drawn nq);rw[←hW];clear hW k0 k7 cp Ae uz OD OC hg hb1;have k0:W.cell? ⟨G.K,0,O⟩=some G.lv:=H3.out.Vb fun _ _ hc=>hc.lib;rw[j4.out] at k0;have k7:=H3.out.zcR
  have dQ:Hid (∀W',(∃q,W'=W.drewN q)→Calls Tp 180 #[Y (V ⟨b,o,O⟩),Sl (V ⟨g,0,O⟩) L c, .iface 79 (Y (V ⟨G.X,0,O⟩))] W' fun e w'=>(∃ev,e=Rt (.tuple #[E Z st.how,ev]))∧KO F W aC G (Zu { M with mem:=st.mem} i t st.f) (n+1) w'∧w'.cell? ⟨G.K,0,O⟩=V (Sl (V ⟨g,0,O⟩) L c)∧w'.cell? ⟨G.K,1007,O⟩=V (Y (V ⟨G.X,0,O⟩))):=Y0 fun W' ⟨q,hq⟩=>by
   exact zyh
  go_region_held3 (fun aB=>aB.cell? ⟨G.K,0,O⟩=V (Sl (V ⟨g,0,O⟩) L c)∧aB.cell? ⟨G.K,1007,O⟩=V (Y (V ⟨G.X,0,O⟩))) (first|exact ⟨k0,k7⟩ |exact ⟨u0,u1⟩ |go_keep) (first|(go_at_call 180;refine (dQ.out _ ⟨1,rfl⟩).mono ?_;rintro e w3 ⟨⟨ev,rfl⟩,hk,u0,u1⟩));obtain ⟨dx,h4,t4⟩:=hk;have E4:=D4.out.move t4;have E6:=D6.out.move t4;have H4:=Y0 h4;have mZ:=Y0 (dG.out.trans t4);clear u0 u1 h4 t4 k0 k7;obtain ⟨f4,g4⟩:=E4.cells;obtain ⟨f6,g6⟩:=E6.cells;have Rm:=g4 0;have Rn:=g4 1;have Ro:=g4 2;have Rp:=g4 3;have Rq:=g4 4;have Rs:=g4 5;have Ru:=g4 6;have CU:=g6 0;have CV:=g6 1;have CW:=g6 2;have CX:=g6 3;have CY:=g6 4;have CZ:=g6 5;have C8:=g6 6;go_wp2_with fail;generalize hW:World.setCell _ _ _=aB;obtain ⟨R4,K7⟩:=E4.zq5 _ _ _ _ _ _ _ hW.symm;have iF:=R4.1;clear hW
  exact bodyPost_ret (v:= .tuple #[.agg #[E Z 0,E Z 0,E Z 0,E Z 0,E J 0,E Z 0,E Z 0],E Z st.how]) Y60 rfl ⟨rfl,dx,H4.out.boxed K7 E4.2,mZ.out.boxed K7 (Nat.le_refl _)⟩
end
def boxed (w:World) (x:zx):World:=w.alloc (Ce (zS x) 111)
theorem VD (w:World) (x:zx):Below w.heap.size w (boxed w x):=(Below.refl _ _).alloc (Nat.le_refl _) _
theorem a81.Q26 (h:zP:=by
 rcases ho with rfl|rfl|rfl|rfl|rfl|rfl|rfl|rfl
 all_goals
  go_enter Tryz.func176,Tryz.ntmps176
  go_wp2_with fail
  try rw[hw1]
  try clear hw1 hbx
  go_wp2_with fail
  refine HH.out.mono ?_
  rintro e w2 ⟨rfl,hq⟩
  have HQ:=Y0 hq
  clear hq
  go_wp2_with fail
  go_ret
  exact ⟨rfl,HQ.out⟩):zP:=h
open a81 in
theorem znz {w:World} {K wb wo b o:Nat} (x:zx) (ho:x.op=24∨x.op=28∨x.op=51∨x.op=53∨x.op=55∨x.op=56∨x.op=57∨x.op=58) {c:Int} {Q:World→Prop} {T:Nat}
  (H:Calls Tp 223 #[Y (V ⟨K,0,O⟩),Y (V ⟨wb,wo,O⟩),Y (V ⟨T,0,O⟩),Y (V ⟨b,o,O⟩), .agg (zS x)] (boxed w x) fun e w'=>e=Rt (E Z c)∧Q w'):
  Calls Tp 176 #[Y (V ⟨K,0,O⟩),Y (V ⟨wb,wo,O⟩),Y (V ⟨T,0,O⟩),Y (V ⟨b,o,O⟩), .agg (zS x)] w fun e w'=>e=Rt (E Z c)∧Q w':=by
 exact J26
theorem a82.Q26 (h:zP:=by
 exact J69):zP:=h
open a82 in
theorem Jw {w:World} {K wb wo b o:Nat} {tv:Option Addr} (x:zx) (ho:x.op=30∨x.op=33∨x.op=34∨x.op=35) {Q:World→Prop}
  (H:Calls Tp 226 #[Y (V ⟨K,0,O⟩),Y (V ⟨wb,wo,O⟩),Y (V ⟨b,o,O⟩), .agg (zS x)] (boxed w x) fun e w'=>e=Rt (.tuple #[])∧Q w'):
  Calls Tp 176 #[Y (V ⟨K,0,O⟩),Y (V ⟨wb,wo,O⟩), .pointer tv,Y (V ⟨b,o,O⟩), .agg (zS x)] w fun e w'=>e=Rt (E Z 0)∧Q w':=by
 exact J26
theorem a83.Q26 (h:zP:=by
 exact J69):zP:=h
open a83 in
theorem jd {w:World} {K wb wo b o:Nat} {tv:Option Addr} (x:zx) (ho:x.op=43∨x.op=44∨x.op=45∨x.op=46) {Q:World→Prop}
  (H:Calls Tp 227 #[Y (V ⟨K,0,O⟩),Y (V ⟨b,o,O⟩), .agg (zS x)] (boxed w x) fun e w'=>e=Rt (.tuple #[])∧Q w'):
  Calls Tp 176 #[Y (V ⟨K,0,O⟩),Y (V ⟨wb,wo,O⟩), .pointer tv,Y (V ⟨b,o,O⟩), .agg (zS x)] w fun e w'=>e=Rt (E Z 0)∧Q w':=by
 exact J26
def JN (W:World) (bx:Nat) (x:zx):Prop:=W.cell? ⟨bx,0,O⟩=V (E Z x.op)∧W.cell? ⟨bx,1,O⟩=V (E Z x.a)∧W.cell? ⟨bx,2,O⟩=V (E Z x.b)∧W.cell? ⟨bx,3,O⟩=V (E Z x.c)∧W.cell? ⟨bx,4,O⟩=V (E J x.v)∧W.cell? ⟨bx,5,O⟩=V (E Z x.m)∧W.cell? ⟨bx,6,O⟩=V (E Z x.w)
theorem zhV (w:World) (x:zx):JN (Kn.boxed w x) w.heap.size x:=Zf.of (t:=111) (heap_alloc_new w _)
theorem zc4 (w:World) (o a b c v m ww:Int):w.alloc (Ce #[E Z o,E Z a,E Z b,E Z c,E J v,E Z m,E Z ww] 111)=Kn.boxed w ⟨o,a,b,c,v,m,ww⟩:=rfl
theorem a84.Q43 (h:zP:=by
 have QK:=Y0 HT;clear HS H1 HT;go_enter Tryz.func118,Tryz.ntmps118;go_wp2_with fail;refine Ip.out.mono ?_;rintro e w1 ⟨rfl,hp⟩;have HP:=Y0 hp;obtain ⟨ct,cl⟩:=QK.out w1 hp;exact zxH):zP:=h
theorem a84.zyb (h:zP:=by
 go_still_tail 9,Y4;change wpList _ _ _ _ _ wb1.drew;go_wp2_with fail;refine HC.out.mono ?_;rintro e w2 ⟨rfl,hq⟩;exact zrs):zP:=h
open a84 in
theorem zoB {w:World} {K wb wo T fb:Nat} {id:Int} (x:zx) {P Q:World→Prop} (HS:Calls Tp 175 #[Y (V ⟨K,0,O⟩),Y (V ⟨fb,0,O⟩)] w fun e w'=>e=Rt (.tuple #[.agg (zS x),E Z 0])∧P w') (HT: ∀w1,P w1→(Kn.boxed w1 x).cell? ⟨T,0,O⟩=V (E J id)∧T<(Kn.boxed w1 x).heap.size)
  (H1: ∀w1,P w1→Calls Tp 177 #[Y (V ⟨K,0,O⟩),E J id,Y (V ⟨fb,0,O⟩), .agg (zS x)] (Kn.boxed w1 x).drew fun e w'=>e=Rt (.tuple #[])∧Q w'):Calls Tp 118 #[Y (V ⟨K,0,O⟩),Y (V ⟨wb,wo,O⟩),Y (V ⟨T,0,O⟩),Y (V ⟨fb,0,O⟩)] w fun e w'=>e=Rt (.tuple #[])∧Q w':=by
 exact J43
theorem a85.Q29 (h:zP:=by
 go_still_tail 7,Y4;exact J93):zP:=h
theorem a85.Q43 (h:zP:=by
 have AY:=Y0 H2;clear HS H1 H2;go_enter Tryz.func118,Tryz.ntmps118;exact J29):zP:=h
theorem a85.Q93 (h:zP:=by
 go_wp2_with fail;go_end0;exact ⟨rfl,AY.out w1 w2 HP.out E9.out⟩):zP:=h
open a85 in
theorem zl1 {w:World} {K wb wo T fb:Nat} {id:Int} (x:zx) {P Q:World→Prop} {P2:World→World→Prop} (HS:Calls Tp 175 #[Y (V ⟨K,0,O⟩),Y (V ⟨fb,0,O⟩)] w fun e w'=>e=Rt (.tuple #[.agg (zS x),E Z 1])∧P w')
  (H1: ∀w1,P w1→Calls Tp 176 #[Y (V ⟨K,0,O⟩),Y (V ⟨wb,wo,O⟩),Y (V ⟨T,0,O⟩),Y (V ⟨fb,0,O⟩), .agg (zS x)] (Kn.boxed w1 x).drew fun e w'=>e=Rt (E Z 1)∧P2 w1 w')
  (H2: ∀w1 w2,P w1→P2 w1 w2→Q w2):Calls Tp 118 #[Y (V ⟨K,0,O⟩),Y (V ⟨wb,wo,O⟩),Y (V ⟨T,0,O⟩),Y (V ⟨fb,0,O⟩)] w fun e w'=>e=Rt (.tuple #[])∧Q w':=by
 exact J43
theorem a86.Q29 (h:zP:=by
 go_still_tail 7,Y4;exact J93):zP:=h
theorem a86.Q43 (h:zP:=by
 have G7:=Y0 HF;clear HS H1 HF;go_enter Tryz.func118,Tryz.ntmps118;exact J29):zP:=h
theorem a86.Q93 (h:zP:=by
 have hf:=G7.out w1 w2 HP.out E9.out;rw[←EF.out] at hf;obtain ⟨⟨pc,p0,p1,p2,hm⟩,⟨q0,q1,q2,q3,q4,q5,q6⟩,hne,ct,hnt⟩:=hf;have HM:=Y0 hm;have hpw:IntKind.i64.wrap (pc+1)=pc+1:=gT;clear hm;go_wp2_with fail;have s0:(w2.setCell ⟨fb,0,O⟩ (E Z (pc+1))).cell? ⟨bx,0,O⟩=V (E Z xo):=(World.cell?_of_block (a:=⟨bx,0,O⟩) (zm hne)).trans q0;have s1:(w2.setCell ⟨fb,0,O⟩ (E Z (pc+1))).cell? ⟨bx,1,O⟩=V (E Z xa):=(World.cell?_of_block (a:=⟨bx,1,O⟩) (zm hne)).trans q1;have s2:(w2.setCell ⟨fb,0,O⟩ (E Z (pc+1))).cell? ⟨bx,2,O⟩=V (E Z xb):=(World.cell?_of_block (a:=⟨bx,2,O⟩) (zm hne)).trans q2;have s3:(w2.setCell ⟨fb,0,O⟩ (E Z (pc+1))).cell? ⟨bx,3,O⟩=V (E Z xc):=(World.cell?_of_block (a:=⟨bx,3,O⟩) (zm hne)).trans q3
 have s4:(w2.setCell ⟨fb,0,O⟩ (E Z (pc+1))).cell? ⟨bx,4,O⟩=V (E J xv):=(World.cell?_of_block (a:=⟨bx,4,O⟩) (zm hne)).trans q4;have s5:(w2.setCell ⟨fb,0,O⟩ (E Z (pc+1))).cell? ⟨bx,5,O⟩=V (E Z xm):=(World.cell?_of_block (a:=⟨bx,5,O⟩) (zm hne)).trans q5;have s6:(w2.setCell ⟨fb,0,O⟩ (E Z (pc+1))).cell? ⟨bx,6,O⟩=V (E Z xw):=(World.cell?_of_block (a:=⟨bx,6,O⟩) (zm hne)).trans q6;have st:(w2.setCell ⟨fb,0,O⟩ (E Z (pc+1))).cell? ⟨T,0,O⟩=V (E J id):=(World.cell?_of_block (a:=⟨T,0,O⟩) (zm hnt)).trans ct;generalize w2.setCell ⟨fb,0,O⟩ (E Z (pc+1))=w3 at*;clear q0 q1 q2 q3 q4 q5 q6 p0 p2;go_still_tail 9,Y4;change wpList _ _ _ _ _ w3.drew;go_wp2_with fail;refine HM.out.mono ?_;rintro e w4 ⟨rfl,hq⟩;exact zrs):zP:=h
open a86 in
theorem zlh {w:World} {K wb wo T fb:Nat} {id:Int} (x:zx) {P Q:World→Prop} {P2:World→World→Prop} (HS:Calls Tp 175 #[Y (V ⟨K,0,O⟩),Y (V ⟨fb,0,O⟩)] w fun e w'=>e=Rt (.tuple #[.agg (zS x),E Z 1])∧P w')
  (H1: ∀w1,P w1→Calls Tp 176 #[Y (V ⟨K,0,O⟩),Y (V ⟨wb,wo,O⟩),Y (V ⟨T,0,O⟩),Y (V ⟨fb,0,O⟩), .agg (zS x)] (Kn.boxed w1 x).drew fun e w'=>e=Rt (E Z 0)∧P2 w1 w')
  (HF: ∀w1 w2,P w1→P2 w1 w2→(∃pc:Int,w2.cell? ⟨fb,0,O⟩=V (E Z pc)∧(0≤pc∧pc≤1000000)∧w2.frozen? ⟨fb,0,O⟩=false∧Calls Tp 177 #[Y (V ⟨K,0,O⟩),E J id,Y (V ⟨fb,0,O⟩), .agg (zS x)] (w2.setCell ⟨fb,0,O⟩ (E Z (pc+1))).drew fun e w'=>e=Rt (.tuple #[])∧Q w')∧JN w2 w1.heap.size x∧w1.heap.size≠fb∧w2.cell? ⟨T,0,O⟩=V (E J id)∧T≠fb):Calls Tp 118 #[Y (V ⟨K,0,O⟩),Y (V ⟨wb,wo,O⟩),Y (V ⟨T,0,O⟩),Y (V ⟨fb,0,O⟩)] w fun e w'=>e=Rt (.tuple #[])∧Q w':=by
 exact J43
theorem a87.Q43 (h:zP:=by
 obtain ⟨u0,hu0⟩:=hu;clear HS H1;go_enter Tryz.func116,Tryz.ntmps116;go_wp2_with fail;refine Ip.out.mono ?_;rintro e w1 ⟨rfl,hp⟩;have HP:=Y0 hp;exact zxH):zP:=h
theorem a87.zyb (h:zP:=by
 go_still_tail 5,Y4;change wpList _ _ _ _ _ wb1.drew;go_wp2_with fail;refine HC.out.mono ?_;rintro e w2 ⟨rfl,hq⟩;exact zrs):zP:=h
open a87 in
theorem zpI {w:World} {K wb wo:Nat} (x:zx) {P Q:World→Prop} (hu: ∃u,w.cell? ⟨wb,wo+2,O⟩=some u) (hfz:w.frozen? ⟨wb,wo+2,O⟩=false) (HS:Calls Tp 175 #[Y (V ⟨K,0,O⟩),Y (V ⟨wb,wo+4,O⟩)] (w.setCell ⟨wb,wo+2,O⟩ (.bool false)) fun e w'=>e=Rt (.tuple #[.agg (zS x),E Z 0])∧P w')
  (H1: ∀w1,P w1→Calls Tp 177 #[Y (V ⟨K,0,O⟩),E J 0,Y (V ⟨wb,wo+4,O⟩), .agg (zS x)] (Kn.boxed w1 x).drew fun e w'=>e=Rt (.tuple #[])∧Q w'):Calls Tp 116 #[Y (V ⟨K,0,O⟩),Y (V ⟨wb,wo,O⟩)] w fun e w'=>e=Rt (.tuple #[])∧Q w':=by
 exact J43
theorem a88.Q29 (h:zP:=by
 go_still_tail 6,Y4;exact J93):zP:=h
theorem a88.Q43 (h:zP:=by
 have AY:=Y0 H2;obtain ⟨u0,hu0⟩:=hu;clear HS H1 H2;go_enter Tryz.func116,Tryz.ntmps116;exact J29):zP:=h
theorem a88.Q93 (h:zP:=by
 go_wp2_with fail;go_end0;exact ⟨rfl,AY.out w1 w2 HP.out E9.out⟩):zP:=h
open a88 in
theorem zm3 {w:World} {K wb wo:Nat} (x:zx) {P Q:World→Prop} {P2:World→World→Prop} (hu: ∃u,w.cell? ⟨wb,wo+2,O⟩=some u) (hfz:w.frozen? ⟨wb,wo+2,O⟩=false) (HS:Calls Tp 175 #[Y (V ⟨K,0,O⟩),Y (V ⟨wb,wo+4,O⟩)] (w.setCell ⟨wb,wo+2,O⟩ (.bool false)) fun e w'=>e=Rt (.tuple #[.agg (zS x),E Z 1])∧P w')
  (H1: ∀w1,P w1→Calls Tp 176 #[Y (V ⟨K,0,O⟩),Y (V ⟨wb,wo,O⟩),Y none,Y (V ⟨wb,wo+4,O⟩), .agg (zS x)] (Kn.boxed w1 x).drew fun e w'=>e=Rt (E Z 1)∧P2 w1 w')
  (H2: ∀w1 w2,P w1→P2 w1 w2→Q w2):Calls Tp 116 #[Y (V ⟨K,0,O⟩),Y (V ⟨wb,wo,O⟩)] w fun e w'=>e=Rt (.tuple #[])∧Q w':=by
 exact J43
theorem a89.Q29 (h:zP:=by
 go_still_tail 6,Y4;exact J93):zP:=h
theorem a89.Q43 (h:zP:=by
 have G7:=Y0 HF;obtain ⟨u0,hu0⟩:=hu;clear HS H1 HF;go_enter Tryz.func116,Tryz.ntmps116;exact J29):zP:=h
theorem a89.Q93 (h:zP:=by
 have hf:=G7.out w1 w2 HP.out E9.out;rw[←EF.out] at hf;obtain ⟨⟨pc,p0,p1,p2,hm⟩,⟨q0,q1,q2,q3,q4,q5,q6⟩,hne⟩:=hf;have HM:=Y0 hm;have hpw:IntKind.i64.wrap (pc+1)=pc+1:=gT;clear hm;go_wp2_with fail;have s0:(w2.setCell ⟨wb,wo+4,O⟩ (E Z (pc+1))).cell? ⟨bx,0,O⟩=V (E Z xo):=(World.cell?_of_block (a:=⟨bx,0,O⟩) (zm hne)).trans q0;have s1:(w2.setCell ⟨wb,wo+4,O⟩ (E Z (pc+1))).cell? ⟨bx,1,O⟩=V (E Z xa):=(World.cell?_of_block (a:=⟨bx,1,O⟩) (zm hne)).trans q1;have s2:(w2.setCell ⟨wb,wo+4,O⟩ (E Z (pc+1))).cell? ⟨bx,2,O⟩=V (E Z xb):=(World.cell?_of_block (a:=⟨bx,2,O⟩) (zm hne)).trans q2;have s3:(w2.setCell ⟨wb,wo+4,O⟩ (E Z (pc+1))).cell? ⟨bx,3,O⟩=V (E Z xc):=(World.cell?_of_block (a:=⟨bx,3,O⟩) (zm hne)).trans q3
 have s4:(w2.setCell ⟨wb,wo+4,O⟩ (E Z (pc+1))).cell? ⟨bx,4,O⟩=V (E J xv):=(World.cell?_of_block (a:=⟨bx,4,O⟩) (zm hne)).trans q4;have s5:(w2.setCell ⟨wb,wo+4,O⟩ (E Z (pc+1))).cell? ⟨bx,5,O⟩=V (E Z xm):=(World.cell?_of_block (a:=⟨bx,5,O⟩) (zm hne)).trans q5;have s6:(w2.setCell ⟨wb,wo+4,O⟩ (E Z (pc+1))).cell? ⟨bx,6,O⟩=V (E Z xw):=(World.cell?_of_block (a:=⟨bx,6,O⟩) (zm hne)).trans q6;generalize w2.setCell ⟨wb,wo+4,O⟩ (E Z (pc+1))=w3 at*;clear q0 q1 q2 q3 q4 q5 q6 p0 p2;go_still_tail 5,Y4;change wpList _ _ _ _ _ w3.drew;go_wp2_with fail;refine HM.out.mono ?_;rintro e w4 ⟨rfl,hq⟩;exact zrs):zP:=h
open a89 in
theorem zl5 {w:World} {K wb wo:Nat} (x:zx) {P Q:World→Prop} {P2:World→World→Prop} (hu: ∃u,w.cell? ⟨wb,wo+2,O⟩=some u) (hfz:w.frozen? ⟨wb,wo+2,O⟩=false) (HS:Calls Tp 175 #[Y (V ⟨K,0,O⟩),Y (V ⟨wb,wo+4,O⟩)] (w.setCell ⟨wb,wo+2,O⟩ (.bool false)) fun e w'=>e=Rt (.tuple #[.agg (zS x),E Z 1])∧P w')
  (H1: ∀w1,P w1→Calls Tp 176 #[Y (V ⟨K,0,O⟩),Y (V ⟨wb,wo,O⟩),Y none,Y (V ⟨wb,wo+4,O⟩), .agg (zS x)] (Kn.boxed w1 x).drew fun e w'=>e=Rt (E Z 0)∧P2 w1 w')
  (HF: ∀w1 w2,P w1→P2 w1 w2→(∃pc:Int,w2.cell? ⟨wb,wo+4,O⟩=V (E Z pc)∧(0≤pc∧pc≤1000000)∧w2.frozen? ⟨wb,wo+4,O⟩=false∧Calls Tp 177 #[Y (V ⟨K,0,O⟩),E J 0,Y (V ⟨wb,wo+4,O⟩), .agg (zS x)] (w2.setCell ⟨wb,wo+4,O⟩ (E Z (pc+1))).drew fun e w'=>e=Rt (.tuple #[])∧Q w')∧JN w2 w1.heap.size x∧w1.heap.size≠wb):Calls Tp 116 #[Y (V ⟨K,0,O⟩),Y (V ⟨wb,wo,O⟩)] w fun e w'=>e=Rt (.tuple #[])∧Q w':=by
 exact J43
section
variable {F:Fixed} {w:World} {own:Own} {G:KG} {M:zD} {n:Nat}
def JG (place r0:Int):Frame:={ pc:=place,r:=(List.replicate 32 0).set 0 r0}
theorem zkz {place r0:Int} {n:Nat} (hp:0≤place∧place≤4000) (hr:Zm r0):zb7 n (JG place r0):=by
 refine ⟨by simp[JG],fun x hx=>?_,⟨hp.1,by show place≤_;omega⟩,by simp[JG],fun x hx=>by simp[JG] at hx⟩;rcases List.mem_or_eq_of_mem_set hx with hx|hx
 ·rw[(List.mem_replicate.1 hx).2];exact VH
 ·rw[hx];exact hr
theorem zrZ:1≤maxLen:=Y24
theorem zgb {l:List Zt} {home id:Int} {l':List Zt} (e:gF l home=V (id,l')):Zm id:=by
 unfold gF at e;split at e
 ·cases e
 ·injection e with e
  injection e with e _
  rw[←e];unfold Zm;omega
theorem zmb (h:zi F w own G M n) (hI:Inv M) (place r0:Int) (hp:0≤place∧place≤4000) (hr:Zm r0) (hn:n≤100000):
  Calls Tp 48 #[Y (V ⟨G.K,0,O⟩),E Z place,E J r0] w fun e w'=>e=Rt (E J (Kj M place r0).1)∧Gp F w own G M.runs (Kj M place r0).2 (n+2) w':=by
 have k8:=h.zka
 have HG:=Y0 (zt9 h 1 Y2)
 have hlt: ∀p a m,kL M.alc M.mem 1 64=V (p,a,m)→p≤65536:=fun p a m e=>h.zif e
 have oP:=Y0 hlt
 have EG:=Y0 h.born
 have HI:=Y0 hI
 have H:=Y0 h
 have HP:=Y0 hp
 have HR:=Y0 hr
 have HN:=Y0 hn
 unfold Kj
 clear hlt h hI hp hr hn
 generalize kL M.alc M.mem 1 64=g at*
 cases g with
 |none=>
  go_enter Tryz.func48,Tryz.ntmps48
  go_wp2_with fail
  refine HG.out.mono ?_
  rintro e w1 ⟨⟨ev,rfl,te,xe,rfl⟩,hb⟩
  have HB:=Y0 hb
  clear hb
  go_wp2_with fail
  go_ret
  exact ⟨rfl,((KO.below H.out HB.out).more Y1).two⟩
 |some g=>
  obtain ⟨home,alc,mem⟩:=g
  simp only at HG ⊢
  have hhome:=oP.out _ _ _ rfl
  have SC:(0:Int)≤(home:Int)∧(home:Int)≤65536:=Y1
  have hcv:IntKind.u64.wrap (home:Int)=(home:Int):=Y22
  have hu:Zm (home:Int):=⟨SC.1,by omega⟩
  have HU:=Y0 hu
  have Qe:=Y0 hhome
  obtain ⟨bt,hbt⟩: ∃bt,bt=gF M.tab home:=⟨_,rfl⟩
  have FT:=Y0 hbt
  rw[←hbt]
  clear hhome hu hbt
  go_enter Tryz.func48,Tryz.ntmps48
  go_wp2_with fail
  refine HG.out.mono ?_
  rintro e w1 ⟨rfl,aC,h1,t1⟩
  have kt:=h1.zkh
  have HB:=Y0 (zyC h1 home HU.out (by have:=HN.out;omega))
  simp only at HB
  rw[←FT.out] at HB
  have fq:=Y0 t1
  clear t1 h1
  cases bt with
  |none=>
   go_wp2_with fail
   refine HB.out.mono ?_
   rintro e w2 ⟨⟨ev,rfl,te,xe,rfl⟩,vQ,h2,t2⟩
   have k8:=h2.zka
   have Fe:=Y0 (zzi h2 home (by have:=Qe.out;omega))
   have dO:=Y0 (fq.out.trans t2)
   clear h2 t2
   go_wp2_with fail
   refine Fe.out.mono ?_
   rintro e w3 ⟨⟨ev,rfl⟩,hk⟩
   have HK:=Y0 (KO.trans dO.out hk)
   clear hk
   go_wp2_with fail
   go_ret
   exact ⟨rfl,(HK.out.more Y1).two⟩
  |some q=>
   obtain ⟨id,tab⟩:=q
   go_wp2_with fail
   refine HB.out.mono ?_
   rintro e w2 ⟨rfl,vQ,h2,t2⟩
   have dO:=Y0 (fq.out.trans t2)
   have hbn:=EG.out home id tab FT.out.symm
   have hno:zR M.runs id=none:=by
    cases e:zR M.runs id with
    |none=>rfl
    |some r=>
     have:=(HI.out.has id).1 Y65
     obtain ⟨p,hp,-⟩:=this
     rw[hbn.2.1] at hp
     cases hp
   have kh:=h2.hcell
   have hK:=h2.klt
   have e36:(BU (JG place r0) (Sl none 0 0)++ [Value.bool false,Value.int Z 0]).toArray=#[E Z place,E J r0,E J 0,E J 0,E J 0,E J 0,E J 0,E J 0,E J 0,E J 0,E J 0,E J 0,E J 0,E J 0,E J 0,E J 0,E J 0,E J 0,E J 0,E J 0,E J 0,E J 0,E J 0,E J 0,E J 0,E J 0,E J 0,E J 0,E J 0,E J 0,E J 0,E J 0,E J 0,Sl none 0 0, .bool false,E Z 0]:=rfl
   have hb1:Below w2.heap.size w2 (w2.alloc (Ce #[E Z place,E J r0,E J 0,E J 0,E J 0,E J 0,E J 0,E J 0,E J 0,E J 0,E J 0,E J 0,E J 0,E J 0,E J 0,E J 0,E J 0,E J 0,E J 0,E J 0,E J 0,E J 0,E J 0,E J 0,E J 0,E J 0,E J 0,E J 0,E J 0,E J 0,E J 0,E J 0,E J 0,Sl none 0 0, .bool false,E Z 0] 240)):=(Below.refl _ _).alloc (Nat.le_refl _) _
   have hn1:=heap_alloc_new w2 (.cells #[E Z place,E J r0,E J 0,E J 0,E J 0,E J 0,E J 0,E J 0,E J 0,E J 0,E J 0,E J 0,E J 0,E J 0,E J 0,E J 0,E J 0,E J 0,E J 0,E J 0,E J 0,E J 0,E J 0,E J 0,E J 0,E J 0,E J 0,E J 0,E J 0,E J 0,E J 0,E J 0,E J 0,Sl none 0 0, .bool false,E Z 0] 240)
   have hs1:(w2.alloc (Ce #[E Z place,E J r0,E J 0,E J 0,E J 0,E J 0,E J 0,E J 0,E J 0,E J 0,E J 0,E J 0,E J 0,E J 0,E J 0,E J 0,E J 0,E J 0,E J 0,E J 0,E J 0,E J 0,E J 0,E J 0,E J 0,E J 0,E J 0,E J 0,E J 0,E J 0,E J 0,E J 0,E J 0,Sl none 0 0, .bool false,E Z 0] 240)).heap.size=w2.heap.size+1:=World.size_alloc _ _
   obtain ⟨v1,hv1⟩: ∃v1,v1=w2.alloc (Ce #[E Z place,E J r0,E J 0,E J 0,E J 0,E J 0,E J 0,E J 0,E J 0,E J 0,E J 0,E J 0,E J 0,E J 0,E J 0,E J 0,E J 0,E J 0,E J 0,E J 0,E J 0,E J 0,E J 0,E J 0,E J 0,E J 0,E J 0,E J 0,E J 0,E J 0,E J 0,E J 0,E J 0,Sl none 0 0, .bool false,E Z 0] 240):=⟨_,rfl⟩
   rw[←hv1] at hb1 hn1 hs1
   obtain ⟨l1,l2,l3⟩:=zbZ v1 (.cells #[Y (V ⟨w2.heap.size,0,O⟩)] 238) (.cells #[E J id,Sl (V ⟨w2.heap.size+1,0,O⟩) 1 1,E J 0] 244)
   rw[hs1] at l1 l2 l3
   have hn2:=(l3.block w2.heap.size Y1).trans hn1
   have hb3:Below w2.heap.size w2 _:=hb1.trans (l3.mono Y1)
   have hrow:World.ownsRow _ 0 238 1 (Sl (V ⟨w2.heap.size+1,0,O⟩) 1 1) 1 [Y (V ⟨w2.heap.size,0,O⟩)]:=⟨rfl,Or.inr ⟨_,1,_,rfl,Nat.zero_le _,l1,Nat.le_refl _,zrZ,rfl,rfl⟩⟩
   obtain ⟨w5,hst,hk5,-⟩:=h2.spawn ⟨hbn.1,zgb FT.out.symm⟩ hno (fr:=⟨JG place r0,false,0⟩) (zkz HP.out HR.out) rfl ⟨Int.le_refl 0,by show (0:Int)<1000;decide⟩ (by have:=HN.out;omega) hb3 (Nat.le_refl _) (Nat.le_succ_of_le (Nat.le_succ _)) (by rw[e36];exact hn2) l2 hrow (fun b hb=>by cases hb;exact Nat.le_succ _)
   rw[hv1] at hst
   have tJ:=Y0 hk5
   have QJ:=dO
   clear hv1 e36 hb1 hn1 hs1 l1 l2 l3 hn2 hb3 hrow hk5 hbn hno h2 t2
   go_wp2_with fail
   go_ret
   obtain ⟨tb,fb,hg,hk⟩:=tJ.out
   exact ⟨rfl,tb,fb,hg,KO.trans dO.out hk⟩
end
end Kn
namespace Kn
open Asm Hp
def vM (M M':zD):Prop:= ∀id r,zR M.runs id=some r→r.l≠ []→ ∃r',zR M'.runs id=some r'∧r'.l.length=r.l.length
theorem vM.of {M M':zD} (h:M'.runs=M.runs):vM M M':=fun id r hr _=>⟨r,by rw[h];exact hr,rfl⟩
theorem vM.refl (M:zD):vM M M:= .of rfl
theorem vM.trans {a b c:zD} (h:vM a b) (k:vM b c):vM a c:=fun id r hr hne=>by
 obtain ⟨r1,h1,h2⟩:=h id r hr hne
 obtain ⟨r2,h3,h4⟩:=k id r1 h1 (fun e=>hne (by rw[←List.length_eq_zero_iff,←h2,e];rfl))
 exact ⟨r2,h3,h4.trans h2⟩
theorem zd4 {M:zD} (hn:(M.runs.map (·.id)).Nodup) (i:Nat) (t:Option Int) (f:Frame):vM M (Zu M i t f):=by
 cases t with
 |none=>exact .of rfl
 |some id=>
  intro x r hr hne
  cases e:zR M.runs id with
  |none=>
   have e0:Zu M i (some id) f=M:=by unfold Zu;simp only[e]
   rw[e0];exact ⟨r,hr,rfl⟩
  |some r0=>
   have e0:Zu M i (some id) f={ M with runs:=Zb M.runs (zW r0 { zZ r0 with f:=f})}:=by unfold Zu;simp only[e]
   rw[e0]
   show∃r',zR (Zb M.runs (zW r0 { zZ r0 with f:=f})) x=some r'∧_
   have hid:=(Za e).2
   rw[vV hn (r0:=r0) (by show zR M.runs r0.id=some r0;rw[hid];exact e)]
   by_cases hx:x=(zW r0 { zZ r0 with f:=f}).id
   ·rw[if_pos hx]
    refine ⟨_,rfl,?_⟩
    have hx2:x=id:=hx.trans hid
    rw[hx2,e] at hr
    have hrr:=Option.some.inj hr
    rw[←hrr] at hne ⊢
    have:=List.length_pos_iff.2 hne
    simp[zW]
    omega
   ·rw[if_neg hx];exact ⟨r,hr,rfl⟩
theorem zbV {M M':zD} (h:vM M M') (hn:(M'.runs.map (·.id)).Nodup) (i:Nat) (t:Option Int) (a v:Int):vM M (zG M' i t a v):=h.trans (zd4 hn i t _)
theorem jm (f:Frame) (l:List zx) (m:Mem):(zK f l m).how≠0→(zK f l m).f=f∧(zK f l m).mem=m:=by
 unfold zK;split
 ·exact fun _=>⟨rfl,rfl⟩
 ·rename_i x _;refine zbE (P:=fun s:Stepped=>s.how≠0→s.f=f∧s.mem=m) (fun hc=>?_) (fun _=>?_)
  ·unfold VG;simp only;repeat' split
   all_goals first
    |exact fun h=>absurd (show (0:Int)=0 from rfl) h
    |exact fun _=>⟨rfl,rfl⟩
    |simp
  refine zbE (P:=fun s:Stepped=>s.how≠0→s.f=f∧s.mem=m) (fun hc=>?_) (fun _=>?_)
  ·split
   ·exact fun _=>⟨rfl,rfl⟩
   ·exact fun h=>absurd rfl h
  refine zbE (P:=fun s:Stepped=>s.how≠0→s.f=f∧s.mem=m) (fun hc h=>absurd rfl h) (fun _=>?_);refine zbE (P:=fun s:Stepped=>s.how≠0→s.f=f∧s.mem=m) (fun hc h=>absurd rfl h) (fun _=>?_);exact zbE (P:=fun s:Stepped=>s.how≠0→s.f=f∧s.mem=m) (fun hc h=>absurd rfl h) (fun _ _=>⟨rfl,rfl⟩)
theorem zdL {f:Frame} {l:List zx} {m:Mem} (hm: ∀x∈l,vI x l.length true=true) (h:(zK f l m).how=1): ∃x,Zc l f.pc=some x∧x∈l∧vI x l.length true=true∧23≤x.op∧x.op≤58:=by
 have hr:=Kg hm f.pc
 unfold zK at h
 rw[hr] at h
 cases e:Zc l f.pc with
 |none=>rw[e] at h;cases h
 |some x=>
  rw[e] at h
  simp only at h
  have hx:x∈l:=by
   unfold Zc at e
   split at e
   ·cases e
   ·exact List.mem_of_getElem? e
  have hmx:=hm x hx
  obtain ⟨hO,hQ,-⟩:=vH hmx
  have h22:x.op≠22:=hQ rfl
  refine ⟨x,rfl,hx,hmx,?_,hO.2⟩
  by_cases h1:x.op=12∨x.op=13∨x.op=14∨x.op=15∨x.op=16
  ·rw[if_pos h1] at h
   unfold VG at h
   simp only at h
   repeat' split at h
   all_goals cases h
  rw[if_neg h1] at h
  by_cases h2:17≤x.op∧x.op≤21
  ·rw[if_pos h2] at h
   split at h
   all_goals cases h
  rw[if_neg h2] at h
  by_cases h3:x.op=1
  ·rw[if_pos h3] at h;cases h
  rw[if_neg h3] at h
  by_cases h4:x.op=2
  ·rw[if_pos h4] at h;cases h
  rw[if_neg h4] at h
  by_cases h5:3≤x.op∧x.op≤11
  ·rw[if_pos h5] at h;cases h
  omega
end Kn
namespace Kn
open Go.RowKit Asm
def zqG (G:KG) (t:Option Int):Value:= .pointer (t.map fun id=>⟨G.tb id,0,O⟩)
section
variable {F:Fixed} {w:World} {own:Own} {G:KG} {M:zD} {n:Nat}
def zcI (F:Fixed) (w:World) (own:Own) (G:KG) (M:zD) (n:Nat) (p:Int×zD) (e:Ending) (w':World):Prop:=e=Rt (E Z p.1)∧Gp F w own G M.runs p.2 (n+2) w'
theorem zi.inB (h:zi F w own G M n) (x:zx): ∃aC,zi F (Kn.boxed w x) aC G M n∧Touch (fun t=>t≠ .other) w (Kn.boxed w x) own aC:=⟨_,h.below (VD w x),zU (VD w x)⟩
end
section
variable {F:Fixed} {w:World} {own:Own} {G:KG} {M:zD} {n:Nat}
theorem zi.zau (h:zi F w own G M n) {i:Nat} (hi:i<F.workers) {t:Option Int} {b o:Nat} (fa:VZ G M i t b o) {c:Nat} (hc:own c= .other):c≠b:=by
 obtain ⟨ty,P,S,tb,tk,bv,hf⟩:=h.frame hi fa;intro e;have:=hf.fr.mine;rw[←e,hc] at this;have q:=hf.ntb.2.2.1;rw[←this] at q;rcases q with q|q<;>exact q
theorem zo5 (h:zi F w own G M n) {i:Nat} (hi:i<F.workers) {t:Option Int} {b o:Nat} (fa:VZ G M i t b o) (x:zx):Zm (told F M i t x):=by
 have hw:=h.fok.workers;have hwk:=h.Ja hi;unfold told;simp only;have hb:0≤vT (rg (zA M i t) x.b)∧vT (rg (zA M i t) x.b)<8:=by unfold vT;omega
 have hd: ∀y:Int,Zm (za2 F y):=fun y=>by
  unfold za2 Zm;have h1:=Int.emod_nonneg y (show (F.workers:Int)≠0 by omega);have h2:=Int.emod_lt_of_pos y (show (0:Int)<F.workers by omega);omega
 repeat' split
 ·unfold Zm;omega
 ·obtain ⟨hb,hm,v,ab,N,K,hC,-⟩:=h.clk;have:=hC.now;unfold Zm;omega
 ·cases t with
  |none=>exact VH
  |some id=>
   obtain ⟨r,hr,-⟩:=fa;exact (h.ZB hr).2.2.2.1.2
 ·unfold Zm;omega
 ·exact h.num.draw
 ·exact hwk.hand
 ·exact hd _
 ·exact hd _
 ·unfold za3;split<;>unfold Zm<;>omega
theorem zdP (h:zi F w own G M n) {i:Nat} (hi:i<F.workers) {t:Option Int} {b o:Nat} (fa:VZ G M i t b o) (x:zx) (hm:vI x F.lib.length true=true) (ho:x.op=23∨x.op=41∨x.op=37∨x.op=40∨x.op=42∨x.op=29∨x.op=38∨x.op=39∨x.op=47) (hw:M.w=i):
  Calls Tp 176 #[Y (V ⟨G.K,0,O⟩),Y (V ⟨G.gW,i*38,O⟩),zqG G t,Y (V ⟨b,o,O⟩), .agg (zS x)] w (zcI F w own G M n (special F M i t x)):=by
 rw[zj4 F M i t x ho]
 obtain ⟨ha,-,-,hbb,-⟩:=Kz hm
 have hb2:0≤x.b∧x.b<32:=by
  by_cases e:kJ x.op=false
  ·exact hbb e
  ·have:kJ x.op=true:=by cases hh:kJ x.op<;>simp_all
   rcases ho with ho|ho|ho|ho|ho|ho|ho|ho|ho<;>(rw[ho] at this;exact absurd this Y2)
 obtain ⟨k,hk⟩:=Int.eq_ofNat_of_zero_le ha.1
 have hk2:k<32:=Y1
 have dL:(0:Int)≤(k:Int)∧(k:Int)<32:=Y1
 obtain ⟨aC,h1,t1⟩:=h.inB x
 have hz:(Kn.boxed w x).heap[w.heap.size]?=V (Ce (zS x) 111 (0,0)):=heap_alloc_new w _
 have hB1:=VD w x
 have Lx:=zo5 h hi fa x
 have hT: ∀q,Calls Tp 230 #[Y (V ⟨G.K,0,O⟩),Y (V ⟨G.gW,i*38,O⟩),E J (t.getD 0),Y (V ⟨b,o,O⟩), .agg (zS x)] ((Kn.boxed w x).drewN q) fun r w'=>r= .returned (E J (told F M i t x))∧Below ((Kn.boxed w x).drewN q).heap.size ((Kn.boxed w x).drewN q) w':=fun q=>zoa (h1.drewN q) hi fa x ho hb2 hw
 have hne:w.heap.size≠b:=by
  have:=(h.reg hi fa 0 Y2).2.2.2
  omega
 have hto:t.getD 0=t.getD 0:=rfl
 unfold Kn.boxed at*
 obtain ⟨xo,xa,xb,xc,xv,xm,xw⟩:=x
 unfold zS at*
 simp only at ho hk hz hT hB1 h1 t1 Lx ⊢
 subst hk
 generalize told F M i t ⟨xo,k,xb,xc,xv,xm,xw⟩=tv at*
 generalize hw1:w.alloc (Ce #[E Z xo,E Z k,E Z xb,E Z xc,E J xv,E Z xm,E Z xw] 111)=w1 at*
 generalize hbx:w.heap.size=bx at*
 have aD:Hid (∀W,Below w1.heap.size w1 W→Gp F w own G M.runs (zG M i t k tv) (n+2) (W.setCell ⟨b,o+1+k,O⟩ (E J tv))):=Y0 fun W hW=>by
  have h2:=h1.below hW
  have t2:Touch (fun t=>t≠ .other) w1 W aC (ext aC w1.heap.size .other):=zU hW
  exact ((KO.trans (t1.trans t2) (h2.KT hi Y88 hk2 Lx)).more Y1).two
 have aF: ∀W,Below w1.heap.size w1 W→Below w1.heap.size w1 W∧W.frozen? ⟨b,o+1+k,O⟩=false∧(∃u,W.cell? ⟨b,o+1+k,O⟩=some u)∧(W.cell? ⟨bx,0,O⟩=V (E Z xo)∧W.cell? ⟨bx,1,O⟩=V (E Z k)∧W.cell? ⟨bx,2,O⟩=V (E Z xb)∧W.cell? ⟨bx,3,O⟩=V (E Z xc)∧W.cell? ⟨bx,4,O⟩=V (E J xv)∧W.cell? ⟨bx,5,O⟩=V (E Z xm)∧W.cell? ⟨bx,6,O⟩=V (E Z xw)):=fun W hW=>by
  have h2:=h1.below hW
  obtain ⟨a,-,c,-⟩:=h2.reg (t:=t) hi Y88 k hk2
  have e:=(hW.block bx (zo hz)).trans hz
  exact ⟨hW,c,⟨_,a⟩,ze e 0,ze e 1,ze e 2,ze e 3,ze e 4,ze e 5,ze e 6⟩
 have HT:Hid (∀q,Calls Tp 230 #[Y (V ⟨G.K,0,O⟩),Y (V ⟨G.gW,i*38,O⟩),E J (t.getD 0),Y (V ⟨b,o,O⟩), .agg #[E Z xo,E Z k,E Z xb,E Z xc,E J xv,E Z xm,E Z xw]] (w1.drewN q) fun e w'=>e=Rt (E J tv)∧Below w1.heap.size w1 w'∧w'.frozen? ⟨b,o+1+k,O⟩=false∧(∃u,w'.cell? ⟨b,o+1+k,O⟩=some u)∧w'.cell? ⟨bx,0,O⟩=V (E Z xo)∧w'.cell? ⟨bx,1,O⟩=V (E Z k)∧w'.cell? ⟨bx,2,O⟩=V (E Z xb)∧w'.cell? ⟨bx,3,O⟩=V (E Z xc)∧w'.cell? ⟨bx,4,O⟩=V (E J xv)∧w'.cell? ⟨bx,5,O⟩=V (E Z xm)∧w'.cell? ⟨bx,6,O⟩=V (E Z xw)):=Y0 fun q=>(hT q).mono fun e w' ⟨a,c⟩=>⟨a,aF w' ((zas w1 q).trans c)⟩
 have aJ:Hid (∀(W:World) (j:Nat) (v:Value),(W.cell? ⟨bx,0,O⟩=V (E Z xo)∧W.cell? ⟨bx,1,O⟩=V (E Z k)∧W.cell? ⟨bx,2,O⟩=V (E Z xb)∧W.cell? ⟨bx,3,O⟩=V (E Z xc)∧W.cell? ⟨bx,4,O⟩=V (E J xv)∧W.cell? ⟨bx,5,O⟩=V (E Z xm)∧W.cell? ⟨bx,6,O⟩=V (E Z xw))→((W.setCell ⟨b,j,O⟩ v).cell? ⟨bx,0,O⟩=V (E Z xo)∧(W.setCell ⟨b,j,O⟩ v).cell? ⟨bx,1,O⟩=V (E Z k)∧(W.setCell ⟨b,j,O⟩ v).cell? ⟨bx,2,O⟩=V (E Z xb)∧(W.setCell ⟨b,j,O⟩ v).cell? ⟨bx,3,O⟩=V (E Z xc)∧(W.setCell ⟨b,j,O⟩ v).cell? ⟨bx,4,O⟩=V (E J xv)∧(W.setCell ⟨b,j,O⟩ v).cell? ⟨bx,5,O⟩=V (E Z xm)∧(W.setCell ⟨b,j,O⟩ v).cell? ⟨bx,6,O⟩=V (E Z xw))):=Y0 fun W j v hh=>by
  have:=Zf.far (b:=b) (j:=j) (v:=v) (x:=⟨xo,k,xb,xc,xv,xm,xw⟩) (show Zf W bx _ from hh) hne
  exact this
 obtain ⟨-,-,-,i0,i1,i2,i3,i4,i5,i6⟩:=aF w1 (Below.refl _ _)
 have hth: ∀id,t=some id→w1.cell? ⟨G.tb id,0,O⟩=V (E J id):=fun id e=>by
  subst e
  obtain ⟨r,hr,-⟩:=fa
  exact (h1.ZB hr).1
 clear h h1 t1 hB1 hz hT aF Lx hto hm ha hb2 hbb hi hw hne
 unfold zqG
 have e22:(xo==22)=false:=beq_eq_false_iff_ne.2 Y1
 have e24:(xo==24)=false:=beq_eq_false_iff_ne.2 Y1
 have e25:(xo==25)=false:=beq_eq_false_iff_ne.2 Y1
 have e26:(xo==26)=false:=beq_eq_false_iff_ne.2 Y1
 have e27:(xo==27)=false:=beq_eq_false_iff_ne.2 Y1
 have e28:(xo==28)=false:=beq_eq_false_iff_ne.2 Y1
 have e30:(xo==30)=false:=beq_eq_false_iff_ne.2 Y1
 have e31:(xo==31)=false:=beq_eq_false_iff_ne.2 Y1
 have e32:(xo==32)=false:=beq_eq_false_iff_ne.2 Y1
 have e33:(xo==33)=false:=beq_eq_false_iff_ne.2 Y1
 have e34:(xo==34)=false:=beq_eq_false_iff_ne.2 Y1
 have e35:(xo==35)=false:=beq_eq_false_iff_ne.2 Y1
 have e36:(xo==36)=false:=beq_eq_false_iff_ne.2 Y1
 have e43:(xo==43)=false:=beq_eq_false_iff_ne.2 Y1
 have e44:(xo==44)=false:=beq_eq_false_iff_ne.2 Y1
 have e45:(xo==45)=false:=beq_eq_false_iff_ne.2 Y1
 have e46:(xo==46)=false:=beq_eq_false_iff_ne.2 Y1
 have e48:(xo==48)=false:=beq_eq_false_iff_ne.2 Y1
 have e49:(xo==49)=false:=beq_eq_false_iff_ne.2 Y1
 have e50:(xo==50)=false:=beq_eq_false_iff_ne.2 Y1
 have e51:(xo==51)=false:=beq_eq_false_iff_ne.2 Y1
 have e52:(xo==52)=false:=beq_eq_false_iff_ne.2 Y1
 have e53:(xo==53)=false:=beq_eq_false_iff_ne.2 Y1
 have e54:(xo==54)=false:=beq_eq_false_iff_ne.2 Y1
 have e55:(xo==55)=false:=beq_eq_false_iff_ne.2 Y1
 have e56:(xo==56)=false:=beq_eq_false_iff_ne.2 Y1
 have e57:(xo==57)=false:=beq_eq_false_iff_ne.2 Y1
 have e58:(xo==58)=false:=beq_eq_false_iff_ne.2 Y1
 clear ho
 cases t with
 |none=>
  simp only[Option.map_none,Option.getD_none] at HT ⊢
  go_enter Tryz.func176,Tryz.ntmps176
  go_wp2_with fail
  try rw[hw1]
  try clear hw1 hbx
  go_region_held3 (fun W=>W.cell? ⟨bx,0,O⟩=V (E Z xo)∧W.cell? ⟨bx,1,O⟩=V (E Z k)∧W.cell? ⟨bx,2,O⟩=V (E Z xb)∧W.cell? ⟨bx,3,O⟩=V (E Z xc)∧W.cell? ⟨bx,4,O⟩=V (E J xv)∧W.cell? ⟨bx,5,O⟩=V (E Z xm)∧W.cell? ⟨bx,6,O⟩=V (E Z xw)) (first|with_reducible assumption|with_reducible exact ⟨i0,i1,i2,i3,i4,i5,i6⟩ |exact ⟨i0,i1,i2,i3,i4,i5,i6⟩ |with_reducible exact ⟨z3,z4,z5,z6,z7,z8,z9⟩ |with_reducible exact aJ.out _ _ _ ⟨z3,z4,z5,z6,z7,z8,z9⟩)
   (first|(go_at_call 230;refine (HT.out 1).mono ?_;rintro e w5 ⟨rfl,z0,z1,⟨zu,z2⟩,z3,z4,z5,z6,z7,z8,z9⟩))
  have HZ:=Y0 z0
  clear z3 z4 z5 z6 z7 z8 z9 z0
  go_wp2_with fail
  go_ret
  exact ⟨rfl,aD.out _ HZ.out⟩
 |some id=>
  simp only[Option.map_some,Option.getD_some] at HT ⊢
  have ct:=hth id rfl
  clear hth
  go_enter Tryz.func176,Tryz.ntmps176
  go_wp2_with fail
  try rw[hw1]
  try clear hw1 hbx
  go_region_held3 (fun W=>W.cell? ⟨bx,0,O⟩=V (E Z xo)∧W.cell? ⟨bx,1,O⟩=V (E Z k)∧W.cell? ⟨bx,2,O⟩=V (E Z xb)∧W.cell? ⟨bx,3,O⟩=V (E Z xc)∧W.cell? ⟨bx,4,O⟩=V (E J xv)∧W.cell? ⟨bx,5,O⟩=V (E Z xm)∧W.cell? ⟨bx,6,O⟩=V (E Z xw)) (first|with_reducible assumption|with_reducible exact ⟨i0,i1,i2,i3,i4,i5,i6⟩ |exact ⟨i0,i1,i2,i3,i4,i5,i6⟩ |with_reducible exact ⟨z3,z4,z5,z6,z7,z8,z9⟩ |with_reducible exact aJ.out _ _ _ ⟨z3,z4,z5,z6,z7,z8,z9⟩)
   (first|(go_at_call 230;refine (HT.out 1).mono ?_;rintro e w5 ⟨rfl,z0,z1,⟨zu,z2⟩,z3,z4,z5,z6,z7,z8,z9⟩))
  have HZ:=Y0 z0
  clear z3 z4 z5 z6 z7 z8 z9 z0
  go_wp2_with fail
  go_ret
  exact ⟨rfl,aD.out _ HZ.out⟩
end
section
variable {F:Fixed} {w:World} {own:Own} {G:KG} {M:zD} {n:Nat}
theorem zi.zAo (h:zi F w own G M n) {i:Nat} (hi:i<F.workers) (p:Bool):KO F w own G (setW M i { zl M i with parked:=p}) n (w.setCell ⟨G.gW,i*38+2,O⟩ (.bool p)):=by
 have hk:=h.Ja hi;have hp:=h.jB hi (j:=2) Y2 (v:= .bool p) (k':={ zl M i with parked:=p}) rfl rfl hk.slot hk.hand hk.left;exact ⟨own,hp.1,hp.2.mono fun t e=>by rw[e];nofun⟩
theorem zi.zs8 (h:zi F w own G M n) {i:Nat} (hi:i<F.workers) {t:Option Int} {b o:Nat} (fa:VZ G M i t b o) (k j:Nat) (hj:j<4):(⟨b,o+1+k,O⟩:Addr)≠⟨G.gW,i*38+j,O⟩:=by
 cases t with
 |none=>
  obtain ⟨rfl,rfl⟩:=fa
  intro e
  injection e with _ e _
  omega
 |some id=>
  obtain ⟨r,hr,hne,rfl,rfl⟩:=fa
  intro e
  injection e with e _ _
  obtain ⟨bv,h1,-⟩:=h.JC hr (zaS hne)
  have:=h1.mine
  rw[e,h.wk.1] at this
  cases this
theorem a90.Q50 (h:zP:=by
 obtain ⟨aC,h1,t1⟩:=h.inB x;have hz:(Kn.boxed w x).heap[w.heap.size]?=V (Ce (zS x) 111 (0,0)):=heap_alloc_new w _;have EI:zX (Kn.boxed w x) (ext own w.heap.size .other) w.heap.size (zS x) 111:=⟨hz,Zo (Or.inr (Nat.le_refl _))⟩;clear h1 t1;have h1:=h.below (VD w x);have t1:Touch (fun t=>t≠ .other) w (Kn.boxed w x) own (ext own w.heap.size .other):=zU (VD w x);obtain ⟨hr1,TH,-,-⟩:=h1.reg (t:=t) hi Y88 k hk2;have DK:=h1.zs8 (t:=t) hi Y88 k 2 Y2;have yQ:=zom (h1.drew) 0 VH;unfold Kn.boxed at*;obtain ⟨xo,xa,xb,xc,xv,xm,xw⟩:=x;unfold zS at*;simp only at ho hk hz yQ h1 t1 EI hr1 ⊢;subst ho hk;have NJ:Hid (rg (zA M i t) k=rg (zA M i t) k):=Y0 rfl;have aX:Hid (∀W own',zi F W own' G M n→W.cell? ⟨b,o+1+k,O⟩=V (E J (rg (zA M i t) k))):=Y0 fun W own' h'=>(h'.reg (t:=t) hi Y88 k hk2).1
 generalize rg (zA M i t) k=ra at*;generalize zam M.mem 0=pk at*;generalize hw1:w.alloc (Ce #[E Z 36,E Z k,E Z xb,E Z xc,E J xv,E Z xm,E Z xw] 111)=w1 at*;generalize hbx:w.heap.size=bx at*;generalize ext own bx .other=aC at*;have HI:=Y0 hi;have fq:=Y0 t1;have mV:Hid (∀(W:World) (v:Value),W.cell? ⟨bx,1,O⟩=V (E Z k)∧W.cell? ⟨b,o+1+k,O⟩=V (E J ra)→(W.setCell ⟨G.gW,i*38+2,O⟩ v).cell? ⟨bx,1,O⟩=V (E Z k)∧(W.setCell ⟨G.gW,i*38+2,O⟩ v).cell? ⟨b,o+1+k,O⟩=V (E J ra)):=Y0 fun W v ⟨e1,e2⟩=>by
  have n1:(⟨G.gW,i*38+2,O⟩:Addr)≠⟨bx,1,O⟩:=fun e=>by
   injection e with e _ _
   have:=EI.2;rw[←e,h1.wk.1] at this;cases this
  have n2:(⟨G.gW,i*38+2,O⟩:Addr)≠⟨b,o+1+k,O⟩:=fun e=>DK e.symm;have q1:(W.setCell ⟨G.gW,i*38+2,O⟩ v).cell? ⟨bx,1,O⟩=W.cell? ⟨bx,1,O⟩:=by
   first|exact World.cell?_setCell_other n1|exact World.cell?_setCell_other _ _ _ n1|exact World.cell?_setCell_other _ _ _ _ n1
  have q2:(W.setCell ⟨G.gW,i*38+2,O⟩ v).cell? ⟨b,o+1+k,O⟩=W.cell? ⟨b,o+1+k,O⟩:=by
   first|exact World.cell?_setCell_other n2|exact World.cell?_setCell_other _ _ _ n2|exact World.cell?_setCell_other _ _ _ _ n2
  exact ⟨q1.trans e1,q2.trans e2⟩
 have HP:Hid (Calls Tp 225 #[Y (V ⟨G.K,0,O⟩),E J 0] w1.drew fun e w'=>e=Rt (E J pk)∧(∃aV,zi F w' aV G M n∧Touch (fun t=>t≠ .other) w1 w' aC aV)∧(w'.cell? ⟨bx,1,O⟩=V (E Z k)∧w'.cell? ⟨b,o+1+k,O⟩=V (E J ra))∧w'.frozen? ⟨G.gW,i*38+2,O⟩=false∧ ∃u,w'.cell? ⟨G.gW,i*38+2,O⟩=some u):=Y0 (yQ.mono fun e w' ⟨a,aV,h5,t5⟩=>by
  obtain ⟨-,-,q2,-,q3⟩:=h5.vU hi
  exact ⟨a,⟨aV,h5,(Zv w1 aC).trans t5⟩,⟨(zX.move (w:=w1.drew) EI t5).cells.2 1,aX.out _ _ h5⟩,q3 _,_,q2⟩)
 have z1:=ze hz 1;have z0:=ze hz 0;have H1:=Y0 h1;have aD:Hid (∀(W:World) aV (p:Bool),zi F W aV G M n→Touch (fun t=>t≠ .other) w1 W aC aV→Gp F w own G M.runs (setW M i { zl M i with parked:=p}) (n+2) (W.setCell ⟨G.gW,i*38+2,O⟩ (.bool p))):=Y0 fun W aV p h5 t5=>((KO.trans (fq.out.trans t5) (h5.zAo HI.out p)).more Y1).two;clear h h1 t1 hz EI hm ha fa DK yQ TH;by_cases he:pk=ra
 ·have he2:(pk==ra)=true:=beq_iff_eq.2 he;have HE:=Y0 he;rw[if_pos he];clear he;go_enter Tryz.func176,Tryz.ntmps176;go_wp2_with fail;try rw[hw1]
  try clear hw1 hbx
  go_region_held3 (fun W=>W.cell? ⟨bx,1,O⟩=V (E Z k)∧W.cell? ⟨b,o+1+k,O⟩=V (E J ra)) (first|with_reducible assumption|with_reducible exact ⟨z1,hr1⟩ |exact ⟨z1,hr1⟩ |with_reducible exact ⟨y1,y2⟩ |with_reducible exact mV.out _ _ ⟨y1,y2⟩)
   (first|(go_at_call 225;refine HP.out.mono ?_;rintro e w5 ⟨rfl,⟨aV,h5,t5⟩,⟨y1,y2⟩,y3,⟨yu,y4⟩⟩))
  have HQ:=Y0 (aD.out w5 aV true h5 t5);clear h5 t5 y1 y2;go_wp2_with fail;go_ret;exact ⟨rfl,HQ.out⟩
 ·have he2:(pk==ra)=false:=beq_eq_false_iff_ne.2 he;rw[if_neg he];clear he;go_enter Tryz.func176,Tryz.ntmps176;go_wp2_with fail;try rw[hw1]
  try clear hw1 hbx
  go_region_held3 (fun W=>W.cell? ⟨bx,1,O⟩=V (E Z k)∧W.cell? ⟨b,o+1+k,O⟩=V (E J ra)) (first|with_reducible assumption|with_reducible exact ⟨z1,hr1⟩ |exact ⟨z1,hr1⟩ |with_reducible exact ⟨y1,y2⟩ |with_reducible exact mV.out _ _ ⟨y1,y2⟩)
   (first|(go_at_call 225;refine HP.out.mono ?_;rintro e w5 ⟨rfl,⟨aV,h5,t5⟩,⟨y1,y2⟩,y3,⟨yu,y4⟩⟩))
  have HQ:=Y0 (aD.out w5 aV false h5 t5);clear h5 t5 y1 y2;go_wp2_with fail;go_ret;exact ⟨rfl,HQ.out⟩):zP:=h
open a90 in
theorem zi9 (h:zi F w own G M n) {i:Nat} (hi:i<F.workers) {t:Option Int} {b o:Nat} (fa:VZ G M i t b o) (x:zx) (hm:vI x F.lib.length true=true) (ho:x.op=36):
  Calls Tp 176 #[Y (V ⟨G.K,0,O⟩),Y (V ⟨G.gW,i*38,O⟩),zqG G t,Y (V ⟨b,o,O⟩), .agg (zS x)] w (zcI F w own G M n (special F M i t x)):=by
 rw[ztp F M i t x ho];obtain ⟨ha,-⟩:=Kz hm;exact J50
end
theorem zuH:(Tryz.prog.info? 238).map (fun i=>(i.zero,i.size,i.bytes))=V (some (Y none),1,8):=Y4
section
variable {F:Fixed} {w:World} {own:Own} {G:KG} {M:zD} {n:Nat}
end
theorem zfw {f:Frame} {l:List zx} {m:Mem} (hm: ∀x∈l,vI x l.length true=true) (h:(zK f l m).how≠3): ∃x,Zc l f.pc=some x∧x∈l∧vI x l.length true=true:=by
 have hr:=Kg hm f.pc
 unfold zK at h
 rw[hr] at h
 cases e:Zc l f.pc with
 |none=>rw[e] at h;exact absurd rfl h
 |some x=>
  have hx:x∈l:=by
   unfold Zc at e
   split at e
   ·cases e
   ·exact List.mem_of_getElem? e
  exact ⟨x,rfl,hx,hm x hx⟩
section
variable {F:Fixed} {w:World} {own:Own} {G:KG} {M:zD} {n:Nat}
theorem zlV (M:zD) (id:Int) (f:Frame) {x:zx} (h:x.m=0):Vn M id f x=M:=by
 unfold Vn;simp only[if_pos h]
theorem GH (h:zi F w own G M n) {i:Nat} (hi:i<F.workers) {t:Option Int} {b o:Nat} (fa:VZ G M i t b o) (id:Int) (x:zx) {l:Int} (hx:vI x l true=true) (hf:M.out.length<1000000):
  Calls Tp 177 #[Y (V ⟨G.K,0,O⟩),E J id,Y (V ⟨b,o,O⟩), .agg (zS x)] w fun rr w'=>rr= .returned (.tuple #[])∧KO F w own G (Vn M id (zA M i t) x) n w':=by
 obtain ⟨hO,-,-,-,-,-,-,-,hw,-⟩:=vH hx;by_cases h0:x.m=0
 ·rw[zlV M id _ h0];exact znb h id b o x h0
 ·have hA:0≤x.a∧x.a<32:=by
   obtain ⟨_,_,_,hA,_⟩:=vH hx;unfold Kw at hA;split at hA
   ·simp at hA;omega
   ·simp at hA;omega
  exact zl2 h hi fa id x h0 hO hA hw hf
theorem zcI.at {W:World} {p:Int×zD} {e:Ending} {w':World} (h:zcI F W own G M n p e w'):e=Rt (E Z p.1)∧ ∃tb fb own',JX G tb fb M.runs∧zi F w' own' { G with tb:=tb,fb:=fb} p.2 (n+2)∧Touch (fun t=>t≠ .other) W w' own own':=by
 obtain ⟨a,tb,fb,hg,own',h1,t1⟩:=h;exact ⟨a,tb,fb,own',hg,h1,t1⟩
end
section
variable {F:Fixed} {w:World} {own:Own} {G:KG} {M:zD} {n:Nat}
def zbY (F:Fixed) (M:zD) (i:Nat) (id:Int):zD:=let p:=library F M i (some id);if p.1=2∨p.1=3 then answer p.2 id 22 0 else p.2
theorem KO.boxed {w1:World} (h:KO F w own G M n w1) (x:zx): ∃aC,zi F (Kn.boxed w1 x) aC G M n∧Touch (fun t=>t≠ .other) w (Kn.boxed w1 x) own aC∧zX (Kn.boxed w1 x) aC w1.heap.size (zS x) 111:=by
 obtain ⟨aC,h1,t1⟩:=h;exact ⟨_,h1.below (VD w1 x),t1.trans (zU (VD w1 x)),heap_alloc_new w1 _,Zo (Or.inr (Nat.le_refl _))⟩
theorem zX.drew {b:Nat} {cs:Array Value} {t:TypeId} (h:zX w own b cs t):zX w.drew own b cs t:=h
theorem zX.seven {b:Nat} {x:zx} {t:TypeId} (h:zX w own b (zS x) t):JN w b x:=Zf.of h.1
theorem zj2 {i:Nat} {t:Option Int} (h:(zK (zA M i t) F.lib M.mem).how=0):library F M i t=(0,Vn (Zu { M with mem:=(zK (zA M i t) F.lib M.mem).mem} i t (zK (zA M i t) F.lib M.mem).f) (t.getD 0) (zK (zA M i t) F.lib M.mem).f ((Zc F.lib (zA M i t).pc).getD Gw)):=by
 unfold library;simp only[h,if_true];rfl
theorem zeY {i:Nat} {t:Option Int} {x:zx} (h1:(zK (zA M i t) F.lib M.mem).how=1) (hx:Zc F.lib (zA M i t).pc=some x) (h57:x.op≠57):library F M i t=if (special F M i t x).1=0 then (0,Vn (VQ (special F M i t x).2 i t) (t.getD 0) (zA (VQ (special F M i t x).2 i t) i t) x) else if (special F M i t x).1=1 then (1,(special F M i t x).2) else (3,(special F M i t x).2):=by
 have hx0:(Zc F.lib (zA M i t).pc).getD ⟨0,0,0,0,0,0,0⟩=x:=by rw[hx];rfl
 unfold library;simp only[h1,hx0,if_neg h57,Int.reduceEq,if_false,if_true]
theorem VZ.sp {tb:Int→Nat} {fb:Int→Nat→Nat} {i:Nat} {t:Option Int} {b o:Nat} (fa:VZ G M i t b o) (hg:JX G tb fb M.runs) {M':zD} (hs:vM M M'):VZ { G with tb:=tb,fb:=fb} M' i t b o:=by
 have fa2:=fa.grow hg
 cases t with
 |none=>exact fa2
 |some id=>
  obtain ⟨r,h1,h2,h3,h4⟩:=fa2
  obtain ⟨r',k1,k2⟩:=hs id r h1 h2
  exact ⟨r',k1,fun e=>h2 (by rw[←List.length_eq_zero_iff,←k2,e];rfl),by rw[k2];exact h3,h4⟩
end
theorem ziy {l:List kI} {num:Int} (h:rowOf l num=none):gY l num=0:=by
 unfold gY;have:l.findIdx? (fun r=>r.num==num)=none:=by
  rw[List.findIdx?_eq_none_iff];intro x hx;have:=List.find?_eq_none.1 h x hx;simpa using this
 rw[this]
theorem zbk {l:List kI} {num:Int} {x:kI} (h:rowOf l num=some x): ∃p,gY l num=p+1∧l[p]?=some x:=by
 unfold gY
 cases e:l.findIdx? (fun r=>r.num==num) with
 |none=>
  rw[List.findIdx?_eq_none_iff] at e
  have h1:=List.mem_of_find?_eq_some h
  have h2:=List.find?_some h
  rw[e x h1] at h2
  cases h2
 |some p=>
  refine ⟨p,rfl,?_⟩
  unfold rowOf at h
  rw[List.find?_eq_some_iff_getElem] at h
  obtain ⟨hx,i,hi,rfl,hlt⟩:=h
  rw[List.findIdx?_eq_some_iff_getElem] at e
  obtain ⟨hp,h1,h2⟩:=e
  have:p=i:=by
   rcases Nat.lt_trichotomy p i with q|q|q
   ·have:=hlt p q
    simp only[h1] at this
    cases this
   ·exact q
   ·have:=h2 i q
    exact absurd hx this
  subst this
  exact List.getElem?_eq_getElem hp
section
variable {F:Fixed} {w:World} {own:Own} {G:KG} {M:zD} {n:Nat}
theorem Vv.rowAt {own:Own} {tg:Tag} {v:Value} {l:List kI} (h:Vv w own tg 125 6 v l.length (ku l)) {p:Nat} {x:kI} (hp:l[p]?=some x): ∃g c,v=Sl (V ⟨g,0,O⟩) l.length c∧(∀j,j<6→w.cell? ⟨g,p*6+j,O⟩=(bK x)[j]?)∧own g=tg∧g<w.heap.size:=by
 have hlt:=(List.getElem?_eq_some_iff.1 hp).1;have hx:=(List.getElem?_eq_some_iff.1 hp).2;have h0:=h.1;obtain ⟨h1,⟨h2,h3⟩ |⟨g,cap,cur,rfl,hg,r⟩⟩:=h0
 ·omega
 ·refine ⟨g,cap,rfl,fun j hj=>?_,h.2 g rfl,h.lt rfl⟩;have e1:(ku l)[p*6+j]?=(bK x)[j]?:=by
   have:=gu (k:=6) (f:=bK) (fun _=>rfl) l p hlt j hj;rw[hx] at this;exact this
  obtain ⟨u,hu⟩: ∃u,(bK x)[j]?=some u:=⟨(bK x)[j]'(by show j<6;exact hj),List.getElem?_eq_getElem _⟩;rw[hu] at e1 ⊢;have:=h.1.cells rfl _ _ e1;rwa[Addr.add_lit,Nat.zero_add] at this
end
section
variable {F:Fixed} {w:World} {own:Own} {G:KG} {M:zD} {n:Nat}
theorem ziC {r:Run} {num a0 a1 a2 a3:Int} {x:kI} (h:rowOf F.calls num=some x) (h7: ¬(7≤r.l.length∧num≠2)):refused F M r num a0 a1 a2 a3=if (kindOk F M x.k0 a0&&kindOk F M x.k1 a1&&kindOk F M x.k2 a2&&kindOk F M x.k3 a3)=true then 0 else 22:=by
 unfold refused;rw[h];simp only;rw[if_neg h7]
def kOk (F:Fixed) (M:zD) (x:kI) (a0 a1 a2 a3:Int) (i:Nat):Prop:=(0<i→kindOk F M x.k0 a0=true)∧(1<i→kindOk F M x.k1 a1=true)∧(2<i→kindOk F M x.k2 a2=true)∧(3<i→kindOk F M x.k3 a3=true)
def kAt (x:kI) (i:Nat):Int:=if i=0 then x.k0 else if i=1 then x.k1 else if i=2 then x.k2 else x.k3
def aAt (a0 a1 a2 a3:Int) (i:Nat):Int:=if i=0 then a0 else if i=1 then a1 else if i=2 then a2 else a3
theorem zbr {i:Nat} (h:i<4):i=0∨i=1∨i=2∨i=3:=Y1
theorem znL {x:kI} {a0 a1 a2 a3:Int} {i:Nat} (hi:i<4) (h:kOk F M x a0 a1 a2 a3 i) (e:kindOk F M (kAt x i) (aAt a0 a1 a2 a3 i)=true):kOk F M x a0 a1 a2 a3 (i+1):=by
 obtain ⟨h0,h1,h2,h3⟩:=h;rcases zbr hi with rfl|rfl|rfl|rfl
 all_goals exact ⟨fun q=>by first|exact h0 Y1 |exact e,fun q=>by first|omega|exact h1 Y1 |exact e,fun q=>by first|omega|exact h2 Y1 |exact e,fun q=>by first|omega|exact h3 Y1 |exact e⟩
def zbI (F:Fixed) (M:zD) (x:kI) (a0 a1 a2 a3 res:Int):Prop:=res=if (kindOk F M x.k0 a0&&kindOk F M x.k1 a1&&kindOk F M x.k2 a2&&kindOk F M x.k3 a3)=true then 0 else 22
theorem zbI.bad {x:kI} {a0 a1 a2 a3 res:Int} (h:zbI F M x a0 a1 a2 a3 res) {i:Nat} (hi:i<4) (hb:kindOk F M (kAt x i) (aAt a0 a1 a2 a3 i)=false):Ending.returned (E J 22)= .returned (E J res):=by
 have e:(kindOk F M x.k0 a0&&kindOk F M x.k1 a1&&kindOk F M x.k2 a2&&kindOk F M x.k3 a3)=false:=by
  rcases zbr hi with rfl|rfl|rfl|rfl
  all_goals
   simp only[kAt,aAt,Nat.reduceEqDiff,if_true,if_false,Nat.succ_ne_zero] at hb
   rw[hb]
   simp
 unfold zbI at h;rw[h,e];rfl
theorem zbI.good {x:kI} {a0 a1 a2 a3 res:Int} (h:zbI F M x a0 a1 a2 a3 res) (hb:kOk F M x a0 a1 a2 a3 4):Ending.returned (E J 0)= .returned (E J res):=by
 unfold zbI at h;rw[h,hb.1 Y1,hb.2.1 Y1,hb.2.2.1 Y1,hb.2.2.2 Y1];rfl
theorem zkf {w:World} {own:Own} {b:Nat} {a0 a1 a2 a3:Int} (h:zX w own b #[E J a0,E J a1,E J a2,E J a3] 72) {i:Nat} (hi:i<4):w.cell? ⟨b,i,O⟩=V (E J (aAt a0 a1 a2 a3 i)):=by
 rcases zbr hi with rfl|rfl|rfl|rfl<;>exact h.cells.2 _
theorem zsg (x:kI) (i:Nat) (hi:i<4) (W:World):(Instr.index 121 (.agg #[E Z x.k0,E Z x.k1,E Z x.k2,E Z x.k3]) (E Z (i:Int))).run Tp W= .ok (E Z (kAt x i)) W:=by
 rcases zbr hi with rfl|rfl|rfl|rfl<;>kernel_rfl
theorem zua {a0 a1 a2 a3:Int} (h:Zm a0∧Zm a1∧Zm a2∧Zm a3) {i:Nat} (hi:i<4):Zm (aAt a0 a1 a2 a3 i):=by
 rcases zbr hi with rfl|rfl|rfl|rfl
 ·exact h.1
 ·exact h.2.1
 ·exact h.2.2.1
 ·exact h.2.2.2
def BG (r:Option Int) (e:Ending):Prop:=match r with
 |some a=>e=Rt (.tuple #[E J a, .nilIface])
 |none=> ∃t y,e=Rt (.tuple #[E J 0, .iface t y])
theorem KU.parts {r:Option Int} {e:Ending} {w':World} (h:KU w r e w'):BG r e∧Below w.heap.size w w':=by
 cases r with
 |none=>
  obtain ⟨⟨ev,rfl,t,y,rfl⟩,hb⟩:=h
  exact ⟨⟨t,y,rfl⟩,hb⟩
 |some a=>exact h
theorem ztA {P:Prop} (h:P:=by
  go_enter Tryz.func240,Tryz.ntmps240
  go_upto_region 1 with fail
  rw[←hw1]
  clear hw1
  go_wp2_with fail
  go_quiet (fail)
  go_wp2_with fail
  obtain ⟨w2,hw2⟩: ∃w2,w2=w1.drewN nq:=⟨_,rfl⟩
  have H2:Hid (zi F w2 aC G M n):=Y0 Y56
  have dO:Hid (Touch (fun t=>t≠ .other) w w2 own aC):=Y0 Y26
  have aP:Hid (zX w2 aC w.heap.size #[E J a0,E J a1,E J a2,E J a3] 72):=Y0 Y55
  try rw[←hw2]
  clear hw2 row kc r2 r3 r4 r5 cl c0 H1 fq iO iq rM f7 oG hpw En hp1 hnum hL hlen
  try clear f2 g2
  generalize w.heap.size=bx at*
  have oN:=Y0 (zsg x)
  go_loopw [49] (fun iv wr=> ∃i:Nat,i≤4∧iv=E Z (i:Int)∧Hid (kOk F M x a0 a1 a2 a3 i)∧Hid (∃o,zi F wr o G M n∧Touch (fun t=>t≠ .other) w wr own o∧zX wr o bx #[E J a0,E J a1,E J a2,E J a3] 72)) (fun iv _=>4 - (intOf iv).toNat)
  case atStart=>exact ⟨0,by omega,rfl,Y0 ⟨fun e=>absurd e Y1,fun e=>absurd e Y1,fun e=>absurd e Y1,fun e=>absurd e Y1⟩,Y0 ⟨aC,H2.out,dO.out,aP.out⟩⟩
  obtain ⟨i,hi,rfl,Nq,HS⟩:=hrel
  obtain ⟨o,h3,t3,b3⟩:=HS.out
  by_cases h4:i<4
  ·have H3:=Y0 h3
   have dG:=Y0 t3
   have aY:=Y0 b3
   have hix: ∀(W:World),_=_:=oN.out _ h4
   have ci:wr.cell? ⟨bx,i,O⟩=V (E J (aAt a0 a1 a2 a3 i)):=zkf b3 h4
   have Nb:Hid (∀W o,zX W o bx #[E J a0,E J a1,E J a2,E J a3] 72→W.cell? ⟨bx,i,O⟩=V (E J (aAt a0 a1 a2 a3 i))):=Y0 fun W o q=>zkf q h4
   have Oa:=Y0 (zua HU.out h4)
   have HI:=Y0 h4
   have dH:(0:Int)≤(i:Int)∧(i:Int)<4:=Y1
   have hiw:IntKind.i64.wrap ((i:Int)+1)=(i:Int)+1:=gT
   have km:wr.cell? ⟨G.K,1013,O⟩=V (Y (V ⟨G.aA,0,O⟩)):=(h3.Vz).2.2.2.2.2.2.1
   clear HS h3 t3 b3 H2 dO aP
   have lI:=Y0 (znL (F:=F) (M:=M) HI.out Nq.out)
   have mM:=Y0 (iU.out.bad HI.out)
   generalize kAt x i=ki at*
   generalize aAt a0 a1 a2 a3 i=ai at*
   by_cases e0:ki=0
   ·have HE:Hid (kindOk F M ki ai=true):=Y0 (by unfold kindOk;rw[if_pos e0])
    have HX:Hid (_∧_∧_):=Y0 ⟨H3.out,dG.out,aY.out⟩
    have f0:(ki==0)=true:=beq_iff_eq.2 e0
    clear e0
    go_wp2_with fail
    go_roundw
    case rel=>
     first
      |exact ⟨i+1,by omega,by go_num,Y0 (lI.out HE.out),Y0 ⟨_,HX.out⟩⟩
      |(repeat apply Exists.intro);exact ⟨⟨by omega,by go_num,Y0 (lI.out HE.out),Y0 ⟨_,HX.out⟩⟩,rfl⟩
      |exact ⟨_,_,_,_,_,_,⟨i+1,by omega,by go_num,Y0 (lI.out HE.out),Y0 ⟨_,HX.out⟩⟩,rfl,rfl,rfl,rfl,rfl,rfl⟩
      |exact ⟨_,_,_,_,_,_,_,_,_,_,_,_,_,_,_,_,_,_,_,_,_,_,_,_,_,_,_,_,_,_,_,_,_,_,_,_,⟨i+1,by omega,by go_num,Y0 (lI.out HE.out),Y0 ⟨_,HX.out⟩⟩,rfl⟩
    case measure=>simp[intOf];omega
   ·have f0:(ki==0)=false:=beq_eq_false_iff_ne.2 e0
    by_cases e7:ki=7
    ·have f1:(ki==7)=true:=beq_iff_eq.2 e7
     have F3:=Y0 e7
     clear e0 e7
     have nY:Hid (Calls Tp 100 #[Y (V ⟨G.K,0,O⟩)] wr.drew fun e W=>e=Rt (E Z F.cells)∧W.cell? ⟨bx,i,O⟩=V (E J ai)∧ ∃o,zi F W o G M n∧Touch (fun t=>t≠ .other) w W own o∧zX W o bx #[E J a0,E J a1,E J a2,E J a3] 72):=Y0 (by
      refine (Qa.out _ _ H3.out.drew).mono ?_
      rintro e W ⟨rfl,hb⟩
      have tb:=zU (ts:=fun t=>t≠ .other) (t:= .other) (own:=o) hb
      have au:=zX.move (w:=wr.drew) aY.out tb
      exact ⟨rfl,Nb.out _ _ au,_,H3.out.drew.below hb,(dG.out.trans (Zv wr o)).trans tb,au⟩)
     have AL:Hid (0≤F.cells∧F.cells≤256):=Y0 (by have:=H3.out.fok.wide;unfold Fixed.cells;omega)
     have hcw:IntKind.u64.wrap F.cells=F.cells:=by have:=AL.out;rw[IntKind.wrap_u64];omega
     generalize hnc:F.cells=nc at*
     have Qw:=Y0 hnc
     clear hnc
     go_wp2_with fail
     go_region_held3 (fun W=>W.cell? ⟨bx,i,O⟩=V (E J ai)) (first|exact ci|exact z0|go_keep) (first|(go_at_call 100;refine nY.out.mono ?_;rintro e w3 ⟨rfl,z0,hx⟩))
     obtain ⟨o4,hx⟩:=hx
     have HX:=Y0 hx
     clear hx z0
     by_cases hge:nc≤ai
     ·have Rl:decide (nc≤ai)=true:=decide_eq_true hge
      have wm:Hid (kindOk F M ki ai=false):=Y0 Y95
      go_wp2_with fail
      go_ret
      obtain ⟨k1,k2⟩:=HX.out
      exact ⟨mM.out wm.out,_,k1,k2.1⟩
     ·have Rl:decide (nc≤ai)=false:=decide_eq_false hge
      have LY:ai<nc:=Y1
      have HE:Hid (kindOk F M ki ai=true):=Y0 Y95
      go_wp2_with fail
      go_roundw
      case rel=>
       first
        |exact ⟨i+1,by omega,by go_num,Y0 (lI.out HE.out),Y0 ⟨_,HX.out⟩⟩
        |(repeat apply Exists.intro);exact ⟨⟨by omega,by go_num,Y0 (lI.out HE.out),Y0 ⟨_,HX.out⟩⟩,rfl⟩
        |exact ⟨_,_,_,_,_,_,⟨i+1,by omega,by go_num,Y0 (lI.out HE.out),Y0 ⟨_,HX.out⟩⟩,rfl,rfl,rfl,rfl,rfl,rfl⟩
        |exact ⟨_,_,_,_,_,_,_,_,_,_,_,_,_,_,_,_,_,_,_,_,_,_,_,_,_,_,_,_,_,_,_,_,_,_,_,_,⟨i+1,by omega,by go_num,Y0 (lI.out HE.out),Y0 ⟨_,HX.out⟩⟩,rfl⟩
      case measure=>simp[intOf];omega
    ·have f1:(ki==7)=false:=beq_eq_false_iff_ne.2 e7
     have mP:=Y0 e0
     have F3:=Y0 e7
     clear e0 e7
     have dh:Hid (Calls Tp 241 #[Y (V ⟨G.aA,0,O⟩),E J ai,E Z ki] wr.drew fun e W=>BG (Vf M.objs ai ki) e∧(W.cell? ⟨G.K,1013,O⟩=V (Y (V ⟨G.aA,0,O⟩))∧W.cell? ⟨bx,i,O⟩=V (E J ai))∧ ∃o,zi F W o G M n∧Touch (fun t=>t≠ .other) w W own o∧zX W o bx #[E J a0,E J a1,E J a2,E J a3] 72):=Y0 (by
      refine (zg6 H3.out.drew ai ki Oa.out).mono fun e W hq=>?_
      obtain ⟨q1,hb⟩:=KU.parts hq
      have tb:=zU (ts:=fun t=>t≠ .other) (t:= .other) (own:=o) hb
      have au:=zX.move (w:=wr.drew) aY.out tb
      have h5:=H3.out.drew.below hb
      exact ⟨q1,⟨(h5.Vz).2.2.2.2.2.2.1,Nb.out _ _ au⟩,_,h5,(dG.out.trans (Zv wr o)).trans tb,au⟩)
     have HK:Hid (kindOk F M ki ai=(Vf M.objs ai ki).isSome):=Y0 (by unfold kindOk;rw[if_neg mP.out,if_neg F3.out])
     cases hfo:Vf M.objs ai ki with
     |none=>
      rw[hfo] at dh HK
      have wm:Hid (kindOk F M ki ai=false):=Y0 HK.out
      clear hfo
      go_wp2_with fail
      go_region_held3 (fun W=>W.cell? ⟨G.K,1013,O⟩=V (Y (V ⟨G.aA,0,O⟩))∧W.cell? ⟨bx,i,O⟩=V (E J ai)) (first|exact ⟨km,ci⟩ |exact ⟨z0,z1⟩ |go_keep) (first|(go_at_call 241;refine dh.out.mono ?_;rintro e w3 ⟨⟨te,xe,rfl⟩,⟨z0,z1⟩,hx⟩))
      obtain ⟨o4,hx⟩:=hx
      have HX:=Y0 hx
      clear hx z0 z1
      go_wp2_with fail
      go_ret
      obtain ⟨k1,k2⟩:=HX.out
      exact ⟨mM.out wm.out,_,k1,k2.1⟩
     |some v=>
      rw[hfo] at dh HK
      have HE:Hid (kindOk F M ki ai=true):=Y0 HK.out
      clear hfo
      go_wp2_with fail
      go_region_held3 (fun W=>W.cell? ⟨G.K,1013,O⟩=V (Y (V ⟨G.aA,0,O⟩))∧W.cell? ⟨bx,i,O⟩=V (E J ai)) (first|exact ⟨km,ci⟩ |exact ⟨z0,z1⟩ |go_keep) (first|(go_at_call 241;refine dh.out.mono ?_;rintro e w3 ⟨rfl,⟨z0,z1⟩,hx⟩))
      obtain ⟨o4,hx⟩:=hx
      have HX:=Y0 hx
      clear hx z0 z1
      go_wp2_with fail
      go_roundw
      case rel=>
       first
        |exact ⟨i+1,by omega,by go_num,Y0 (lI.out HE.out),Y0 ⟨_,HX.out⟩⟩
        |(repeat apply Exists.intro);exact ⟨⟨by omega,by go_num,Y0 (lI.out HE.out),Y0 ⟨_,HX.out⟩⟩,rfl⟩
        |exact ⟨_,_,_,_,_,_,⟨i+1,by omega,by go_num,Y0 (lI.out HE.out),Y0 ⟨_,HX.out⟩⟩,rfl,rfl,rfl,rfl,rfl,rfl⟩
        |exact ⟨_,_,_,_,_,_,_,_,_,_,_,_,_,_,_,_,_,_,_,_,_,_,_,_,_,_,_,_,_,_,_,_,_,_,_,_,⟨i+1,by omega,by go_num,Y0 (lI.out HE.out),Y0 ⟨_,HX.out⟩⟩,rfl⟩
      case measure=>simp[intOf];omega
  ·obtain rfl:i=4:=Y1
   have HX:=Y0 (And.intro h3 t3)
   clear HS h3 t3 b3 H2 dO aP
   go_wp2_with fail
   go_ret
   exact ⟨iU.out.good Nq.out,o,HX.out⟩):P:=h
theorem zhs (h:zi F w own G M n) {id:Int} {r:Run} (hr:zR M.runs id=some r) (num:Int) (hnum:0≤num∧num<1000) (a0 a1 a2 a3:Int) (u0:Zm a0) (u1:Zm a1) (u2:Zm a2) (u3:Zm a3):
  Calls Tp 240 #[Y (V ⟨G.K,0,O⟩),Y (V ⟨G.tb id,0,O⟩),E Z num, .agg #[E J a0,E J a1,E J a2,E J a3]] w fun e w'=>e=Rt (E J (refused F M r num a0 a1 a2 a3))∧KO F w own G M n w':=by
 obtain ⟨k,hk⟩:=Int.eq_ofNat_of_zero_le hnum.1
 subst hk
 have hk2:k<1000:=Y1
 obtain ⟨w1,hw1⟩: ∃w1,w1=(w.alloc (Ce #[E J a0,E J a1,E J a2,E J a3] 72)):=⟨_,rfl⟩
 have l3:Below w.heap.size w w1:=Y70
 have l1:w1.heap[w.heap.size]?=V (Ce #[E J a0,E J a1,E J a2,E J a3] 72 (0,0)):=Y34
 have h1:=h.below l3
 have t1:Touch (fun t=>t≠ .other) w w1 own (ext own w.heap.size .other):=zU l3
 have B4:zX w1 (ext own w.heap.size .other) w.heap.size _ 72:=⟨l1,Zo (Or.inr (Nat.le_refl _))⟩
 generalize ext own w.heap.size .other=aC at h1 t1 B4
 have row:w1.cell? ⟨G.K,7+k,O⟩=V (E Z (gY F.calls k:Nat)):=h1.Vb fun _ _ hc=>hc.rows k hk2
 have H1:=Y0 h1
 have fq:=Y0 t1
 have iO:=Y0 B4
 have HR:=Y0 hr
 cases hrow:rowOf F.calls k with
 |none=>
  rw[ziy hrow] at row
  have er:refused F M r k a0 a1 a2 a3=38:=by unfold refused;rw[hrow]
  rw[er]
  clear h h1 t1 B4 l1 l3 hrow er hr
  go_enter Tryz.func240,Tryz.ntmps240
  go_upto_region 1 with fail
  rw[←hw1]
  clear hw1
  go_wp2_with fail
  go_ret
  exact ⟨rfl,aC,H1.out,fq.out⟩
 |some x=>
  obtain ⟨p,hpx,hp⟩:=zbk hrow
  rw[hpx] at row
  obtain ⟨gc,cc,hcv,hrc,hgc,hgl⟩:=h1.fix.calls.rowAt hp
  have kc:w1.cell? ⟨G.K,2,O⟩=some G.cv:=h1.Vb fun _ _ hc=>hc.calls
  rw[hcv] at kc
  have hpl:=(List.getElem?_eq_some_iff.1 hp).1
  have dA:=h1.fok.few
  have r2:w1.cell? ⟨gc,p*6+2,O⟩=V (E Z x.k0):=hrc 2 Y2
  have r3:w1.cell? ⟨gc,p*6+2+1,O⟩=V (E Z x.k1):=hrc 3 Y2
  have r4:w1.cell? ⟨gc,p*6+2+2,O⟩=V (E Z x.k2):=hrc 4 Y2
  have r5:w1.cell? ⟨gc,p*6+2+3,O⟩=V (E Z x.k3):=hrc 5 Y2
  obtain ⟨c0,⟨lv,cl,hrl⟩,-,-,cfz⟩:=h1.ZB hr
  obtain ⟨lA,lc,hlv⟩:=Asm.zn hrl.1
  have hlen:r.l.length≤100:=(h1.runs.each r (Za hr).1).few
  subst hlv
  have iq:=h1.klt
  have xE: ∀_: ¬(7≤r.l.length∧(k:Int)≠2),refused F M r k a0 a1 a2 a3=_:=fun e=>ziC hrow e
  have xD:7≤r.l.length∧(k:Int)≠2→refused F M r k a0 a1 a2 a3=11:=fun e=>by unfold refused;rw[hrow];simp only;rw[if_pos e]
  have rM:(0:Int)≤(r.l.length:Int)∧(r.l.length:Int)≤100:=Y1
  generalize hL:r.l.length=L at*
  have oG:(0:Int)≤(p:Int)∧(p:Int)<(F.calls.length:Int):=Y1
  have hpw:IntKind.i64.wrap ((p:Int)+1 - 1)=(p:Int):=gT
  have En:IntKind.i64.wrap (p:Int)=(p:Int):=gT
  have hp1:((p:Int)+1==0)=false:=beq_eq_false_iff_ne.2 Y1
  have hcast:((p+1:Nat):Int)=(p:Int)+1:=Y1
  rw[hcast] at row
  generalize F.calls.length=NC at*
  clear h h1 t1 B4 l1 l3 hrow hr hpx hp hcv hrc hgc hgl hpl dA hrl cfz hcast
  by_cases h7:7≤L∧(k:Int)≠2
  ·rw[xD h7]
   have f7:decide ((7:Int)≤(L:Int))=true:=decide_eq_true Y1
   have f2:((k:Int)==2)=false:=beq_eq_false_iff_ne.2 h7.2
   clear xD xE h7
   go_enter Tryz.func240,Tryz.ntmps240
   go_upto_region 1 with fail
   rw[←hw1]
   clear hw1
   go_wp2_with fail
   go_ret
   exact ⟨rfl,aC,H1.out,fq.out⟩
  ·have iU:Hid (zbI F M x a0 a1 a2 a3 (refused F M r k a0 a1 a2 a3)):=Y0 (xE h7)
   generalize refused F M r k a0 a1 a2 a3=res at*
   have RI:(¬7≤L)∨(7≤L∧(k:Int)=2):=Y1
   have Qa:=Y0 (fun (W:World) (o:Own) (q:zi F W o G M n)=>zma q)
   have HU:Hid (Zm a0∧Zm a1∧Zm a2∧Zm a3):=Y0 ⟨u0,u1,u2,u3⟩
   clear xD xE h7 u0 u1 u2 u3
   rcases RI with q|⟨q,q2⟩
   ·have f7:decide ((7:Int)≤(L:Int))=false:=decide_eq_false Y1
    clear q
    exact ztA
   ·have f7:decide ((7:Int)≤(L:Int))=true:=decide_eq_true Y1
    have f2:((k:Int)==2)=true:=beq_iff_eq.2 q2
    have g2:((k:Int) !=2)=false:=by rw[bne,f2];rfl
    clear q q2
    exact ztA
end
end Kn
end Go.Proofs.YtdlpmnmenhojfaaGreatDoor
