/- Part 2 of what the proof stands on: HpUp, HpDown, HpPut, HpDrop, HpPop, KnWqPlain, HeadQuiet, KnApp, KnInv, KnInvB, KnInvC, KnInvD, KnSpEq, KnDenP, FdP. -/
import Derived.Test.YtdlpmnmenhojfaaGreatDoorR01
set_option linter.unusedVariables false
set_option maxHeartbeats 40000000
set_option maxRecDepth 100000
variable {zP:Prop}
namespace Go.Proofs.YtdlpmnmenhojfaaGreatDoor
open Go.IntKind renaming i64->Z,u64->J
open Go.Value renaming int->E,pointer->Y,slice->Sl
open Option renaming none->O,some->V
open Go.Obj renaming cells->Ce
open Go.Ending renaming returned->Rt
open Go.Proofs.Tryz renaming prog->Tp
namespace Hp
open Go.RowKit Go.Maps
theorem Raw.look {w:World} {hb mb rb:Nat} {l:List zC} {f:Int→Option Nat} {last:Int} {N g n cap:Nat} (h:Raw w hb mb (Sl (V ⟨g,0,O⟩) n cap) rb l f last N) (hn:n=l.length) {i:Nat} (hi:i<l.length):
  w.cell? ⟨hb,0,O⟩=V (Sl (V ⟨g,0,O⟩) n cap)∧w.cell? ⟨g,i*3,O⟩=V (E J (at_ l i).d)∧w.cell? ⟨g,i*3+1,O⟩=V (E J (at_ l i).w)∧w.cell? ⟨g,i*3+2,O⟩=V (E Z (at_ l i).h):=by
 subst hn;obtain ⟨c0,c1,c2⟩:=zcz hi;exact ⟨h.obj.cell.1,(h.row.cellAt _ Y1).trans c0,(h.row.cellAt _ Y1).trans c1,(h.row.cellAt _ Y1).trans c2⟩
def zah (w1:World) (hb mb:Nat) (v:Value) (rb:Nat) (l:List zC) (last:Int) (N i0:Nat) (t:zC) (k:Nat) (wr:World):Prop:=
 ∃(lr:List zC) (f:Int→Option Nat) (N':Nat),lr.length=l.length∧N'+k≤N+i0∧Raw wr hb mb v rb lr f last N'∧Ku (lr.set k t) k∧(BX l i0→BX (lr.set k t) k)∧(lr.set k t).Perm l∧Places f (lr.set k t) k∧Keeps (Of hb mb v) w1 wr
def ztt (w:World) (hb mb:Nat) (v:Value) (rb:Nat) (l:List zC) (last:Int) (N i0:Nat) (e:Ending) (w':World):Prop:=
 e=Rt (.tuple #[])∧ ∃(l':List zC) (f:Int→Option Nat) (p:Nat),Raw w' hb mb v rb l' f last (N+i0+1)∧l'.Perm l∧Vq f l'∧p<l'.length∧at_ l' p=at_ l i0∧vJ l' p∧(BX l i0→Heap l')∧Keeps (Of hb mb v) w w'
def Small (l:List zC):Prop:= ∀t∈l,0≤t.h∧t.h≤1000000000
theorem Small.perm {l l':List zC} (h:Small l) (hp:l'.Perm l):Small l':=fun t ht=>h t (hp.mem_iff.1 ht)
theorem zq {l:List zC} {k:Nat} (h:k<l.length):l.set k (at_ l k)=l:=by
 rw[kK h];exact List.set_getElem_self h
theorem zah.step {w1 wr w2:World} {hb mb:Nat} {v:Value} {rb:Nat} {l:List zC} {last:Int} {N i0 k:Nat} {t:zC} {lr:List zC} {f:Int→Option Nat} {N':Nat}
  (ha:Apart l) (hk:k<l.length) (h0:0<k) (hl:lr.length=l.length) (hN:N'+k≤N+i0) (hup:Ku (lr.set k t) k) (hp:(lr.set k t).Perm l) (hpl:Places f (lr.set k t) k) (fD:Keeps (Of hb mb v) w1 wr)
  (hlt:ZU t (at_ lr (par k))=true) (hR:Raw w2 hb mb v rb (lr.set k (at_ lr (par k))) (upd f (at_ lr (par k)).h k) last (N'+1)) (hk2:Keeps (Of hb mb v) wr w2):
  zah w1 hb mb v rb l last N i0 t (par k) w2:=by
 have hpk:=VT h0;have e1:at_ (lr.set k t) k=t:=vG Y1 t;have e2:at_ (lr.set k t) (par k)=at_ lr (par k):=Zi Y1 t;have es:swap (lr.set k t) k (par k)=(lr.set k (at_ lr (par k))).set (par k) t:=by
  unfold swap;rw[e1,e2,List.set_set]
 have st:=zr2 (v:=lr.set k t) (i:=k) Y12 h0 hup (by rw[e1,e2];exact hlt);have pl:=zat (ha.perm hp) (i:=k) (p:=par k) Y12 Y12 Y1 hpl;rw[e2] at pl;refine ⟨lr.set k (at_ lr (par k)),_,N'+1,by rw[List.length_set];exact hl,by omega,hR,by rw[←es];exact st.1,fun _=>by rw[←es];exact st.2,?_,by rw[←es];exact pl,fD.trans hk2 fun _ hx=>Or.inl hx⟩;rw[←es];exact (swap_perm Y12 Y12).trans hp
theorem zah.done {w w1 wr w2:World} {hb mb:Nat} {v:Value} {rb:Nat} {l:List zC} {last:Int} {N i0 k:Nat} {t:zC} {lr:List zC} {f:Int→Option Nat} {N':Nat} (ht:t=at_ l i0)
  (ha:Apart l) (hk:k<l.length) (hl:lr.length=l.length) (hN:N'+k≤N+i0) (hup:Ku (lr.set k t) k) (hkids:BX l i0→BX (lr.set k t) k) (hp:(lr.set k t).Perm l) (hpl:Places f (lr.set k t) k) (hw1:Keeps (Of hb mb v) w w1) (fD:Keeps (Of hb mb v) w1 wr)
  (he:0<k→ZU t (at_ lr (par k))=false) (hR:Raw w2 hb mb v rb (lr.set k t) (upd f t.h k) last (N'+1)) (hk2:Keeps (Of hb mb v) wr w2):
  ztt w hb mb v rb l last N i0 (.returned (.tuple #[])) w2:=by
 have e1:at_ (lr.set k t) k=t:=vG Y1 t;have hd:vJ (lr.set k t) k:=zug hup fun h0=>by
  have:=VT h0;rw[e1,Zi Y1];exact he h0
 have pf:=zaf (ha.perm hp) (i:=k) Y12 hpl;rw[e1] at pf;refine ⟨rfl,_,_,k,hR.mono Y1,hp,pf,by rw[List.length_set];omega,by rw[e1,ht],hd,fun hq=>GV hd (hkids hq),(hw1.trans fD fun _ hx=>Or.inl hx).trans hk2 fun _ hx=>Or.inl hx⟩
theorem a1.Q44 (h:zP:=by
 by_cases hk0:k=0
 ·subst hk0;have H3:=Y0 r3;have hnl:n=lr.length:=Y96;have hR2: ∀q,Raw (wr.drewN q) hb mb (Sl (V ⟨g,0,O⟩) n cap) rb lr f' last N':=fun q=>r3.zk fun _ _=>rfl;rw[hnl] at hR2;have hts:0≤th∧th≤1000000000:=by
   have:=HS.out _ (at_mem HI.out);rw[←HT.out] at this;exact this
  have aI:=Y0 (fun q=>Kt (hR2 q) 0 ⟨td,tw,th⟩ Y1 (by have:=HL.out;omega) (by have:=HN.out;have:=HI.out;have:=HL.out;omega) hts);unfold bP at aI;dsimp only at aI;have hz0:((0:Nat):Int)=0:=rfl;rw[hz0] at aI;have iP:=Y0 (fun q W2 hRaw hK=>zah.done (w:=w) (w1:=w.alloc (Ce #[E J td,E J tw,E Z th] 366)) (w2:=W2) (k:=0) (rb:=rb) (last:=last) HT.out HA.out Y27 r1 r2 r4 r5 r6 r7 ((Keeps.refl _ w).alloc _) r8 (fun h=>absurd h Y1) hRaw (Keeps.trans (Keeps.drewN (Keeps.refl _ wr) q) hK fun _ hx=>Or.inl hx));rw[←hnl] at aI;clear r1 r2 r3 r4 r5 r6 r7 r8 hR2 hts hnl iF hz0;go_wp2_with fail;go_quiet (fail);go_wp2_with fail;refine (aI.out _).mono ?_;rintro e w3 ⟨rfl,pF,hK3⟩;go_wp2;go_end0;exact iP.out _ w3 pF hK3
 ·have hpk:=VT (Nat.pos_of_ne_zero hk0)
  obtain ⟨p,hp⟩: ∃p,p=par k:=⟨_,rfl⟩
  have hpv:((k:Int) - 1)/2=p:=by rw[hp];unfold par;omega
  rw[←hp] at hpk
  obtain ⟨o0,c0,c1,c2⟩:=r3.look (i:=p) Y96 (by rw[r1,←og.out];omega)
  obtain ⟨x,hx⟩: ∃x,x=at_ lr p:=⟨_,rfl⟩
  rw[←hx] at c0 c1 c2
  obtain ⟨xd,xw,xh⟩:=x
  dsimp only at c0 c1 c2
  have hk1:(1:Int)≤(k:Int):=Y1
  have hkn:(k:Int)<(n:Int):=Y1
  have hpn:(p:Int)<(n:Int):=Y1
  obtain ⟨bv,hbv⟩: ∃bv,ZU ⟨td,tw,th⟩ ⟨xd,xw,xh⟩=bv:=⟨_,rfl⟩
  have oJ:=Y0 (fun W=>Gz ⟨td,tw,th⟩ ⟨xd,xw,xh⟩ W)
  rw[hbv] at oJ
  unfold bP at oJ
  dsimp only at oJ
  have qW:=Y0 hbv
  clear hbv
  have H1:=Y0 r1;have H2:=Y0 r2;have H3:=Y0 r3;have H4:=Y0 r4;have H5:=Y0 r5;have H6:=Y0 r6;have H7:=Y0 r7;have H8:=Y0 r8
  clear r1 r2 r3 r4 r5 r6 r7 r8
  have HK0:=Y0 hk0
  have HP:=Y0 hp
  have HX:=Y0 hx
  have hgr:g<wr.heap.size:=Y1
  have DV:hb<wr.heap.size:=Y1
  have hkN:0<k:=Nat.pos_of_ne_zero hk0
  have hkd:decide (0<k)=true:=by simpa using hkN
  have SV:decide ((0:Int)<(k:Int))=true:=Y8
  have hw1:IntKind.i64.wrap ((k:Int) - 1)=(k:Int) - 1:=gT
  have hw2:((k:Int) - 1).tdiv 2=(p:Int):=by rw[Int.tdiv_eq_ediv_of_nonneg Y1];exact hpv
  have hw3:IntKind.i64.wrap (p:Int)=(p:Int):=gT
  clear hk0 hp hx iF
  cases bv with
  |true=>
   go_wp2_with fail;go_region_held3 (fun w'=>w'.cell? ⟨w.heap.size,0,O⟩=V (E J td)∧w'.cell? ⟨w.heap.size,1,O⟩=V (E J tw)∧w'.cell? ⟨w.heap.size,2,O⟩=V (E Z th)∧w'.cell? ⟨hb,0,O⟩=V (Sl (V ⟨g,0,O⟩) n cap)∧w'.cell? ⟨g,p*3,O⟩=V (E J xd)∧w'.cell? ⟨g,p*3+1,O⟩=V (E J xw)∧w'.cell? ⟨g,p*3+2,O⟩=V (E Z xh)) (first|exact ⟨q0,q1,q2,q3,q4,q5,q6⟩ |go_keep)
    (first|(go_at_call 303;refine (oJ.out _).mono ?_;rintro e w2 ⟨rfl,hb2⟩;have q0:=(hb2.cell (p:=⟨w.heap.size,0,O⟩) hbl).trans b0;have q1:=(hb2.cell (p:=⟨w.heap.size,1,O⟩) hbl).trans b1;have q2:=(hb2.cell (p:=⟨w.heap.size,2,O⟩) hbl).trans b2;have q3:=(hb2.cell (p:=⟨hb,0,O⟩) DV).trans o0;have q4:=(hb2.cell (p:=⟨g,p*3,O⟩) hgr).trans c0;have q5:=(hb2.cell (p:=⟨g,p*3+1,O⟩) hgr).trans c1;have q6:=(hb2.cell (p:=⟨g,p*3+2,O⟩) hgr).trans c2))
   have r1:=H1.out;have r2:=H2.out;have r3:=H3.out;have r4:=H4.out;have r6:=H6.out;have r7:=H7.out;have r8:=H8.out;have hb3:Below wr.heap.size wr w2:=((Below.refl _ wr).drew).trans hb2;have hR2:=r3.below hb3;have Mw:p<lr.length:=by rw[r1,←og.out];omega
   have hnl:n=lr.length:=Y96;rw[hnl] at hR2;have hxs:0≤xh∧xh≤1000000000:=by
    have h1:(⟨xd,xw,xh⟩:zC)∈lr.set k ⟨td,tw,th⟩:=by
     rw[HX.out,←Zi (v:=lr) (i:=k) (j:=p) Y1 ⟨td,tw,th⟩];exact at_mem (by rw[List.length_set];exact Mw)
    exact HS.out _ (r6.mem_iff.1 h1)
   have aI:=Y0 (Kt hR2 k ⟨xd,xw,xh⟩ Y1 (by have:=HL.out;omega) (by have:=HN.out;have:=HI.out;have:=HL.out;omega) hxs);unfold bP at aI;dsimp only at aI;have cO:=Y0 (fun W2 hRaw hK=>zah.step (w1:=w.alloc (Ce #[E J td,E J tw,E Z th] 366)) (w2:=W2) (k:=k) (rb:=rb) (last:=last) HA.out Y27 hkN r1 r2 r4 r6 r7 r8 (by rw[←HP.out,←HX.out];exact qW.out) hRaw (Keeps.trans (Keeps.zO hb3) hK fun _ hx=>Or.inl hx));rw[←HP.out,←HX.out] at cO;rw[←hnl] at aI;have LH:w2.heap.size=w2.heap.size:=rfl;clear r1 r2 r3 r4 r6 r7 r8 hR2 hxs hb3 hnl LH;go_wp2_with fail;refine aI.out.mono ?_;rintro e w3 ⟨rfl,pF,hK3⟩;go_wp2;go_roundw;case rel=>exact ⟨p,by omega,by go_num,Y0 (cO.out w3 pF hK3)⟩
   case measure=>simp[intOf];omega
  |false=>
   go_wp2_with fail;go_region_held3 (fun w'=>w'.cell? ⟨w.heap.size,0,O⟩=V (E J td)∧w'.cell? ⟨w.heap.size,1,O⟩=V (E J tw)∧w'.cell? ⟨w.heap.size,2,O⟩=V (E Z th)∧w'.cell? ⟨hb,0,O⟩=V (Sl (V ⟨g,0,O⟩) n cap)∧w'.cell? ⟨g,p*3,O⟩=V (E J xd)∧w'.cell? ⟨g,p*3+1,O⟩=V (E J xw)∧w'.cell? ⟨g,p*3+2,O⟩=V (E Z xh)) (first|exact ⟨q0,q1,q2,q3,q4,q5,q6⟩ |go_keep)
    (first|(go_at_call 303;refine (oJ.out _).mono ?_;rintro e w2 ⟨rfl,hb2⟩;have q0:=(hb2.cell (p:=⟨w.heap.size,0,O⟩) hbl).trans b0;have q1:=(hb2.cell (p:=⟨w.heap.size,1,O⟩) hbl).trans b1;have q2:=(hb2.cell (p:=⟨w.heap.size,2,O⟩) hbl).trans b2;have q3:=(hb2.cell (p:=⟨hb,0,O⟩) DV).trans o0;have q4:=(hb2.cell (p:=⟨g,p*3,O⟩) hgr).trans c0;have q5:=(hb2.cell (p:=⟨g,p*3+1,O⟩) hgr).trans c1;have q6:=(hb2.cell (p:=⟨g,p*3+2,O⟩) hgr).trans c2))
   have r1:=H1.out;have r2:=H2.out;have r3:=H3.out;have r4:=H4.out;have r5:=H5.out;have r6:=H6.out;have r7:=H7.out;have r8:=H8.out;have hb3:Below wr.heap.size wr w2:=((Below.refl _ wr).drew).trans hb2;have hR2:=r3.below hb3;have hnl:n=lr.length:=Y96;rw[hnl] at hR2;have hts:0≤th∧th≤1000000000:=by
    have:=HS.out _ (at_mem HI.out);rw[←HT.out] at this;exact this
   have aI:=Y0 (Kt hR2 k ⟨td,tw,th⟩ Y1 (by have:=HL.out;omega) (by have:=HN.out;have:=HI.out;have:=HL.out;omega) hts);unfold bP at aI;dsimp only at aI;have iP:=Y0 (fun W2 hRaw hK=>zah.done (w:=w) (w1:=w.alloc (Ce #[E J td,E J tw,E Z th] 366)) (w2:=W2) (k:=k) (rb:=rb) (last:=last) HT.out HA.out Y27 r1 r2 r4 r5 r6 r7 ((Keeps.refl _ w).alloc _) r8 (fun _=>by rw[←HP.out,←HX.out];exact qW.out) hRaw (Keeps.trans (Keeps.zO hb3) hK fun _ hx=>Or.inl hx));rw[←hnl] at aI;clear r1 r2 r3 r4 r5 r6 r7 r8 hR2 hts hb3 hnl;exact J54):zP:=h
theorem a1.zxO (h:zP:=by
 clear h ha hs hup hpl hN hl hi ht hn;obtain ⟨td,tw,th⟩:=t;dsimp only at d0 d1 d2;go_enter Tryz.func268,Tryz.ntmps268;go_wp2;have hstart:zah (w.alloc (Ce #[E J td,E J tw,E Z th] 366)) hb mb (Sl (V ⟨g,0,O⟩) n cap) rb l last N i0 ⟨td,tw,th⟩ i0 (w.alloc (Ce #[E J td,E J tw,E Z th] 366)):=by
  have e:l.set i0 ⟨td,tw,th⟩=l:=by rw[HT.out];exact zq HI.out
  exact ⟨l,f,N,rfl,Nat.le_refl _,HR.out.below ((Below.refl _ _).alloc (Nat.le_refl _) _),by rw[e];exact Iy.out,fun hk=>by rw[e];exact hk,by rw[e],by rw[e];exact Cu.out,Keeps.refl _ _⟩
 have dX:=Y0 hstart;clear hstart;go_loopw [1] (fun i wr=> ∃k:Nat,k<n∧i=E Z k∧Hid (zah (w.alloc (Ce #[E J td,E J tw,E Z th] 366)) hb mb (Sl (V ⟨g,0,O⟩) n cap) rb l last N i0 ⟨td,tw,th⟩ k wr)) (fun i _=>(intOf i).toNat);case atStart=>exact ⟨i0,hin,rfl,dX⟩
 case round=>
  clear o0 d0 d1 d2;obtain ⟨k,hk,rfl,wK⟩:=hrel;obtain ⟨lr,f',N',r1,r2,r3,r4,r5,r6,r7,r8⟩:=wK.out;exact J44):zP:=h
theorem a1.zwa (h:zP:=by
 have Iy:=Y0 hup;exact zwu):zP:=h
open a1 in
theorem zvn {w:World} {hb mb:Nat} {v:Value} {rb:Nat} {l:List zC} {f:Int→Option Nat} {last:Int} {N:Nat} (h:Raw w hb mb v rb l f last N) (i0:Nat) (hi:i0<l.length) (hl:l.length≤1000000) (hN:N≤900000000)
  (ha:Apart l) (hs:Small l) (hup:Ku l i0) (hpl:Places f l i0):
  Calls Tp 268 #[Y (V ⟨hb,0,O⟩),E Z i0] w (ztt w hb mb v rb l last N i0):=by
 exact zx2
def KR (w1:World) (hb mb:Nat) (v:Value) (rb:Nat) (l:List zC) (last:Int) (N:Nat) (t:zC) (k:Nat) (wr:World):Prop:=
 ∃(lr:List zC) (f:Int→Option Nat) (N':Nat),lr.length=l.length∧N'≤N+k∧Raw wr hb mb v rb lr f last N'∧vJ (lr.set k t) k∧(lr.set k t).Perm l∧Places f (lr.set k t) k∧Keeps (Of hb mb v) w1 wr
def zkn (w:World) (hb mb:Nat) (v:Value) (rb:Nat) (l:List zC) (last:Int) (N:Nat) (e:Ending) (w':World):Prop:=
 e=Rt (.tuple #[])∧ ∃(l':List zC) (f:Int→Option Nat),Raw w' hb mb v rb l' f last (N+l.length+1)∧l'.Perm l∧Vq f l'∧Heap l'∧Keeps (Of hb mb v) w w'
theorem KR.step {w1 wr w2:World} {hb mb:Nat} {v:Value} {rb:Nat} {l:List zC} {last:Int} {N k c:Nat} {t:zC} {lr:List zC} {f:Int→Option Nat} {N':Nat}
  (ha:Apart l) (hc:c<l.length) (h0:0<c) (hpc:par c=k) (hl:lr.length=l.length) (hN:N'≤N+k) (hdn:vJ (lr.set k t) k) (hp:(lr.set k t).Perm l) (hpl:Places f (lr.set k t) k) (fD:Keeps (Of hb mb v) w1 wr)
  (hlt:ZU (at_ lr c) t=true) (hmin: ∀j,0<j→j<(lr.set k t).length→par j=k→le (at_ (lr.set k t) c) (at_ (lr.set k t) j))
  (hR:Raw w2 hb mb v rb (lr.set k (at_ lr c)) (upd f (at_ lr c).h k) last (N'+1)) (hk2:Keeps (Of hb mb v) wr w2):
  KR w1 hb mb v rb l last N t c w2:=by
 have hpk:=VT h0;have e1:at_ (lr.set k t) k=t:=vG Y1 t;have e2:at_ (lr.set k t) c=at_ lr c:=Zi Y1 t;have es:swap (lr.set k t) k c=(lr.set k (at_ lr c)).set c t:=by
  unfold swap;rw[e1,e2,List.set_set]
 have st:=zmO (v:=lr.set k t) (p:=k) (k:=c) Y12 hpc h0 hdn (by rw[e1,e2];exact hlt) hmin;have pl:=zat (ha.perm hp) (i:=k) (p:=c) Y12 Y12 Y1 hpl;rw[e2] at pl;refine ⟨lr.set k (at_ lr c),_,N'+1,by rw[List.length_set];exact hl,by omega,hR,by rw[←es];exact st,?_,by rw[←es];exact pl,fD.trans hk2 fun _ hx=>Or.inl hx⟩;rw[←es];exact (swap_perm Y12 Y12).trans hp
theorem KR.done {w w1 wr w2:World} {hb mb:Nat} {v:Value} {rb:Nat} {l:List zC} {last:Int} {N k:Nat} {t:zC} {lr:List zC} {f:Int→Option Nat} {N':Nat}
  (ha:Apart l) (hk:k<l.length) (hl:lr.length=l.length) (hN:N'≤N+k) (hp:(lr.set k t).Perm l) (hpl:Places f (lr.set k t) k) (hw1:Keeps (Of hb mb v) w w1) (fD:Keeps (Of hb mb v) w1 wr)
  (hh:Heap (lr.set k t)) (hR:Raw w2 hb mb v rb (lr.set k t) (upd f t.h k) last (N'+1)) (hk2:Keeps (Of hb mb v) wr w2):
  zkn w hb mb v rb l last N (.returned (.tuple #[])) w2:=by
 have e1:at_ (lr.set k t) k=t:=vG Y1 t;have pf:=zaf (ha.perm hp) (i:=k) Y12 hpl;rw[e1] at pf;exact ⟨rfl,_,_,hR.mono Y1,hp,pf,hh,(hw1.trans fD fun _ hx=>Or.inl hx).trans hk2 fun _ hx=>Or.inl hx⟩
theorem a2.Q44 (h:zP:=by
 have hgr:g<wr.heap.size:=Y1;have DV:hb<wr.heap.size:=Y1;have hnl:n=lr.length:=Y96;have o0:=r3.obj.cell.1;have H1:=Y0 r1;have H2:=Y0 r2;have H3:=Y0 r3;have H4:=Y0 r4;have H6:=Y0 r6;have H7:=Y0 r7;have H8:=Y0 r8;have dW:=Y0 hnl;have hkn:(k:Int)<(n:Int):=Y1;obtain ⟨c1,hc1⟩: ∃c1,c1=2*k+1:=⟨_,rfl⟩;obtain ⟨c2,hc2⟩: ∃c2,c2=2*k+2:=⟨_,rfl⟩;have hq1:2* (k:Int)+1=(c1:Int):=Y1;have hq2:(c1:Int)+1=(c2:Int):=Y1;have hw2:IntKind.i64.wrap (c2:Int)=(c2:Int):=gT;have nU:=Y0 hc1;have dD:=Y0 hc2;have SQ:k<c1:=Y1;have D8:k<c2:=Y1;clear r1 r2 r3 r4 r6 r7 r8 iF hnl hc1 hc2;by_cases hlt1:c1<n
 ·have Pb:(c1:Int)<(n:Int):=Y1;obtain ⟨_,y0,y1,y2⟩:=H3.out.look (i:=c1) dW.out (by rw[←dW.out];exact hlt1);obtain ⟨y,hy⟩: ∃y,y=at_ lr c1:=⟨_,rfl⟩;rw[←hy] at y0 y1 y2;obtain ⟨yd,yw,yh⟩:=y;dsimp only at y0 y1 y2;have HY:=Y0 hy;clear hy;by_cases hlt2:c2<n
  ·have Pe:(c2:Int)<(n:Int):=Y1
   obtain ⟨_,z0,z1,z2⟩:=H3.out.look (i:=c2) dW.out (by rw[←dW.out];exact hlt2)
   obtain ⟨z,hz⟩: ∃z,z=at_ lr c2:=⟨_,rfl⟩
   rw[←hz] at z0 z1 z2
   obtain ⟨zd,zw,zh⟩:=z
   dsimp only at z0 z1 z2
   have HZ:=Y0 hz
   clear hz
   obtain ⟨bv,hbv⟩: ∃bv,ZU ⟨zd,zw,zh⟩ ⟨yd,yw,yh⟩=bv:=⟨_,rfl⟩
   have oJ:=Y0 (fun W=>Gz ⟨zd,zw,zh⟩ ⟨yd,yw,yh⟩ W)
   rw[hbv] at oJ
   unfold bP at oJ
   dsimp only at oJ
   have qW:=Y0 hbv
   clear hbv
   cases bv with
   |true=>
    have hmin: ∀j,0<j→j<(lr.set k ⟨td,tw,th⟩).length→par j=k→le (at_ (lr.set k ⟨td,tw,th⟩) c2) (at_ (lr.set k ⟨td,tw,th⟩) j):=by
     refine zeC (Or.inr ⟨dD.out,?_⟩);rw[Zi Y1,Zi Y1,←nU.out,←dD.out,←HY.out,←HZ.out];exact qW.out
    have lJ:=Y0 hmin
    clear hmin
    go_wp2_with fail
    go_region_held3 (fun w'=>w'.cell? ⟨hb,0,O⟩=V (Sl (V ⟨g,0,O⟩) n cap)∧w'.cell? ⟨g,c1*3,O⟩=V (E J yd)∧w'.cell? ⟨g,c1*3+1,O⟩=V (E J yw)∧w'.cell? ⟨g,c1*3+2,O⟩=V (E Z yh)∧w'.cell? ⟨g,c2*3,O⟩=V (E J zd)∧w'.cell? ⟨g,c2*3+1,O⟩=V (E J zw)∧w'.cell? ⟨g,c2*3+2,O⟩=V (E Z zh)) (first|exact ⟨m0,m1,m2,m3,m4,m5,m6⟩ |go_keep)
     (first|(go_at_call 303;refine (oJ.out _).mono ?_;rintro e W ⟨rfl,hb2⟩;have m0:=(hb2.cell (p:=⟨hb,0,O⟩) DV).trans o0;have m1:=(hb2.cell (p:=⟨g,c1*3,O⟩) hgr).trans y0;have m2:=(hb2.cell (p:=⟨g,c1*3+1,O⟩) hgr).trans y1;have m3:=(hb2.cell (p:=⟨g,c1*3+2,O⟩) hgr).trans y2;have m4:=(hb2.cell (p:=⟨g,c2*3,O⟩) hgr).trans z0;have m5:=(hb2.cell (p:=⟨g,c2*3+1,O⟩) hgr).trans z1;have m6:=(hb2.cell (p:=⟨g,c2*3+2,O⟩) hgr).trans z2))
    have hb3:Below wr.heap.size wr W:=((Below.refl _ wr).drew).trans hb2
    have yR:Hid (Raw W hb mb (Sl (V ⟨g,0,O⟩) n cap) rb lr f' last N'):=Y0 (H3.out.below hb3)
    have yN:Hid (Keeps (Of hb mb (Sl (V ⟨g,0,O⟩) n cap)) wr W):=Y0 (Keeps.zO hb3)
    have MP:wr.heap.size≤W.heap.size:=hb3.size
    have p0:=(hb3.cell (p:=⟨w.heap.size,0,O⟩) hbl).trans b0
    have p1:=(hb3.cell (p:=⟨w.heap.size,1,O⟩) hbl).trans b1
    have p2:=(hb3.cell (p:=⟨w.heap.size,2,O⟩) hbl).trans b2
    have q0:=m0
    clear hb2 hb3
    have uI:hb<W.heap.size:=Y1
    have hgW:g<W.heap.size:=Y1
    have hbW:w.heap.size<W.heap.size:=Y1
    obtain ⟨bw,hbw⟩: ∃bw,ZU ⟨zd,zw,zh⟩ ⟨td,tw,th⟩=bw:=⟨_,rfl⟩
    have fQ:=Y0 (fun W=>Gz ⟨zd,zw,zh⟩ ⟨td,tw,th⟩ W)
    rw[hbw] at fQ
    unfold bP at fQ
    dsimp only at fQ
    have mO:=Y0 hbw
    clear hbw
    cases bw with
    |true=>
     go_wp2_with fail;go_region_held3 (fun w'=>w'.cell? ⟨hb,0,O⟩=V (Sl (V ⟨g,0,O⟩) n cap)∧w'.cell? ⟨g,c2*3,O⟩=V (E J zd)∧w'.cell? ⟨g,c2*3+1,O⟩=V (E J zw)∧w'.cell? ⟨g,c2*3+2,O⟩=V (E Z zh)∧w'.cell? ⟨w.heap.size,0,O⟩=V (E J td)∧w'.cell? ⟨w.heap.size,1,O⟩=V (E J tw)∧w'.cell? ⟨w.heap.size,2,O⟩=V (E Z th)) (first|exact ⟨u0,u1,u2,u3,u4,u5,u6⟩ |go_keep)
      (first|(go_at_call 303;refine (fQ.out _).mono ?_;rintro e W4 ⟨rfl,hb4⟩;have u0:=(hb4.cell (p:=⟨hb,0,O⟩) uI).trans q0;have u1:=(hb4.cell (p:=⟨g,c2*3,O⟩) hgW).trans m4;have u2:=(hb4.cell (p:=⟨g,c2*3+1,O⟩) hgW).trans m5;have u3:=(hb4.cell (p:=⟨g,c2*3+2,O⟩) hgW).trans m6;have u4:=(hb4.cell (p:=⟨w.heap.size,0,O⟩) hbW).trans p0;have u5:=(hb4.cell (p:=⟨w.heap.size,1,O⟩) hbW).trans p1;have u6:=(hb4.cell (p:=⟨w.heap.size,2,O⟩) hbW).trans p2))
     have hb5:Below W.heap.size W W4:=((Below.refl _ W).drew).trans hb4;have hR2:=yR.out.below hb5;rw[dW.out] at hR2;have hxs:0≤zh∧zh≤1000000000:=by
      have h1:(⟨zd,zw,zh⟩:zC)∈lr.set k ⟨td,tw,th⟩:=by
       rw[HZ.out,←Zi (v:=lr) (i:=k) (j:=c2) Y1 ⟨td,tw,th⟩];exact at_mem Y61
      exact HS.out _ (H6.out.mem_iff.1 h1)
     have aI:=Y0 (Kt hR2 k ⟨zd,zw,zh⟩ Y16 (by have:=HL.out;have:=H1.out;omega) (by have:=HN.out;have:=HI.out;have:=HL.out;have:=H2.out;have:=og.out;omega) hxs);unfold bP at aI;dsimp only at aI;rw[←dW.out] at aI;have cO:=Y0 (fun W2 hRaw hK=>KR.step (w1:=w.alloc (Ce #[E J td,E J tw,E Z th] 366)) (wr:=wr) (w2:=W2) (k:=k) (c:=c2) (rb:=rb) (last:=last) (N:=N+i0) HA.out Y97 Y1 (by rw[dD.out];unfold par;omega) H1.out H2.out H4.out H6.out H7.out H8.out (by rw[←HZ.out];exact mO.out) lJ.out hRaw (Keeps.trans (yN.out.trans (Keeps.zO (X:=Of hb mb (Sl (V ⟨g,0,O⟩) n cap)) hb5) fun _ hx=>Or.inl hx) hK fun _ hx=>Or.inl hx));rw[←HZ.out] at cO;clear hR2 hxs hb4 hb5;go_wp2_with fail;refine aI.out.mono ?_;rintro e w3 ⟨rfl,pF,hK3⟩;go_wp2;go_roundw;case rel=>exact ⟨c2,by omega,by go_num,Y0 (cO.out w3 pF hK3)⟩
     case measure=>simp[intOf];omega
    |false=>
     have hh:Heap (lr.set k ⟨td,tw,th⟩):=by
      refine JE H4.out ?_ lJ.out;rw[Zi Y1,vG Y16,←HZ.out];exact mO.out
     go_wp2_with fail;go_region_held3 (fun w'=>w'.cell? ⟨hb,0,O⟩=V (Sl (V ⟨g,0,O⟩) n cap)∧w'.cell? ⟨g,c2*3,O⟩=V (E J zd)∧w'.cell? ⟨g,c2*3+1,O⟩=V (E J zw)∧w'.cell? ⟨g,c2*3+2,O⟩=V (E Z zh)∧w'.cell? ⟨w.heap.size,0,O⟩=V (E J td)∧w'.cell? ⟨w.heap.size,1,O⟩=V (E J tw)∧w'.cell? ⟨w.heap.size,2,O⟩=V (E Z th)) (first|exact ⟨u0,u1,u2,u3,u4,u5,u6⟩ |go_keep)
      (first|(go_at_call 303;refine (fQ.out _).mono ?_;rintro e W4 ⟨rfl,hb4⟩;have u0:=(hb4.cell (p:=⟨hb,0,O⟩) uI).trans q0;have u1:=(hb4.cell (p:=⟨g,c2*3,O⟩) hgW).trans m4;have u2:=(hb4.cell (p:=⟨g,c2*3+1,O⟩) hgW).trans m5;have u3:=(hb4.cell (p:=⟨g,c2*3+2,O⟩) hgW).trans m6;have u4:=(hb4.cell (p:=⟨w.heap.size,0,O⟩) hbW).trans p0;have u5:=(hb4.cell (p:=⟨w.heap.size,1,O⟩) hbW).trans p1;have u6:=(hb4.cell (p:=⟨w.heap.size,2,O⟩) hbW).trans p2))
     exact J15
   |false=>
    have hmin: ∀j,0<j→j<(lr.set k ⟨td,tw,th⟩).length→par j=k→le (at_ (lr.set k ⟨td,tw,th⟩) c1) (at_ (lr.set k ⟨td,tw,th⟩) j):=by
     refine zeC (Or.inl ⟨nU.out,fun _=>?_⟩);rw[Zi Y1,Zi Y1,←nU.out,←dD.out,←HY.out,←HZ.out];exact qW.out
    have lJ:=Y0 hmin
    clear hmin
    go_wp2_with fail
    go_region_held3 (fun w'=>w'.cell? ⟨hb,0,O⟩=V (Sl (V ⟨g,0,O⟩) n cap)∧w'.cell? ⟨g,c1*3,O⟩=V (E J yd)∧w'.cell? ⟨g,c1*3+1,O⟩=V (E J yw)∧w'.cell? ⟨g,c1*3+2,O⟩=V (E Z yh)∧w'.cell? ⟨g,c2*3,O⟩=V (E J zd)∧w'.cell? ⟨g,c2*3+1,O⟩=V (E J zw)∧w'.cell? ⟨g,c2*3+2,O⟩=V (E Z zh)) (first|exact ⟨m0,m1,m2,m3,m4,m5,m6⟩ |go_keep)
     (first|(go_at_call 303;refine (oJ.out _).mono ?_;rintro e W ⟨rfl,hb2⟩;have m0:=(hb2.cell (p:=⟨hb,0,O⟩) DV).trans o0;have m1:=(hb2.cell (p:=⟨g,c1*3,O⟩) hgr).trans y0;have m2:=(hb2.cell (p:=⟨g,c1*3+1,O⟩) hgr).trans y1;have m3:=(hb2.cell (p:=⟨g,c1*3+2,O⟩) hgr).trans y2;have m4:=(hb2.cell (p:=⟨g,c2*3,O⟩) hgr).trans z0;have m5:=(hb2.cell (p:=⟨g,c2*3+1,O⟩) hgr).trans z1;have m6:=(hb2.cell (p:=⟨g,c2*3+2,O⟩) hgr).trans z2))
    have hb3:Below wr.heap.size wr W:=((Below.refl _ wr).drew).trans hb2
    have yR:Hid (Raw W hb mb (Sl (V ⟨g,0,O⟩) n cap) rb lr f' last N'):=Y0 (H3.out.below hb3)
    have yN:Hid (Keeps (Of hb mb (Sl (V ⟨g,0,O⟩) n cap)) wr W):=Y0 (Keeps.zO hb3)
    have MP:wr.heap.size≤W.heap.size:=hb3.size
    have p0:=(hb3.cell (p:=⟨w.heap.size,0,O⟩) hbl).trans b0
    have p1:=(hb3.cell (p:=⟨w.heap.size,1,O⟩) hbl).trans b1
    have p2:=(hb3.cell (p:=⟨w.heap.size,2,O⟩) hbl).trans b2
    have q0:=m0
    clear hb2 hb3
    have uI:hb<W.heap.size:=Y1
    have hgW:g<W.heap.size:=Y1
    have hbW:w.heap.size<W.heap.size:=Y1
    obtain ⟨bw,hbw⟩: ∃bw,ZU ⟨yd,yw,yh⟩ ⟨td,tw,th⟩=bw:=⟨_,rfl⟩
    have fQ:=Y0 (fun W=>Gz ⟨yd,yw,yh⟩ ⟨td,tw,th⟩ W)
    rw[hbw] at fQ
    unfold bP at fQ
    dsimp only at fQ
    have mO:=Y0 hbw
    clear hbw
    cases bw with
    |true=>
     go_wp2_with fail;go_region_held3 (fun w'=>w'.cell? ⟨hb,0,O⟩=V (Sl (V ⟨g,0,O⟩) n cap)∧w'.cell? ⟨g,c1*3,O⟩=V (E J yd)∧w'.cell? ⟨g,c1*3+1,O⟩=V (E J yw)∧w'.cell? ⟨g,c1*3+2,O⟩=V (E Z yh)∧w'.cell? ⟨w.heap.size,0,O⟩=V (E J td)∧w'.cell? ⟨w.heap.size,1,O⟩=V (E J tw)∧w'.cell? ⟨w.heap.size,2,O⟩=V (E Z th)) (first|exact ⟨u0,u1,u2,u3,u4,u5,u6⟩ |go_keep)
      (first|(go_at_call 303;refine (fQ.out _).mono ?_;rintro e W4 ⟨rfl,hb4⟩;have u0:=(hb4.cell (p:=⟨hb,0,O⟩) uI).trans q0;have u1:=(hb4.cell (p:=⟨g,c1*3,O⟩) hgW).trans m1;have u2:=(hb4.cell (p:=⟨g,c1*3+1,O⟩) hgW).trans m2;have u3:=(hb4.cell (p:=⟨g,c1*3+2,O⟩) hgW).trans m3;have u4:=(hb4.cell (p:=⟨w.heap.size,0,O⟩) hbW).trans p0;have u5:=(hb4.cell (p:=⟨w.heap.size,1,O⟩) hbW).trans p1;have u6:=(hb4.cell (p:=⟨w.heap.size,2,O⟩) hbW).trans p2))
     exact J23
    |false=>
     have hh:Heap (lr.set k ⟨td,tw,th⟩):=by
      refine JE H4.out ?_ lJ.out;rw[Zi Y1,vG Y16,←HY.out];exact mO.out
     go_wp2_with fail;go_region_held3 (fun w'=>w'.cell? ⟨hb,0,O⟩=V (Sl (V ⟨g,0,O⟩) n cap)∧w'.cell? ⟨g,c1*3,O⟩=V (E J yd)∧w'.cell? ⟨g,c1*3+1,O⟩=V (E J yw)∧w'.cell? ⟨g,c1*3+2,O⟩=V (E Z yh)∧w'.cell? ⟨w.heap.size,0,O⟩=V (E J td)∧w'.cell? ⟨w.heap.size,1,O⟩=V (E J tw)∧w'.cell? ⟨w.heap.size,2,O⟩=V (E Z th)) (first|exact ⟨u0,u1,u2,u3,u4,u5,u6⟩ |go_keep)
      (first|(go_at_call 303;refine (fQ.out _).mono ?_;rintro e W4 ⟨rfl,hb4⟩;have u0:=(hb4.cell (p:=⟨hb,0,O⟩) uI).trans q0;have u1:=(hb4.cell (p:=⟨g,c1*3,O⟩) hgW).trans m1;have u2:=(hb4.cell (p:=⟨g,c1*3+1,O⟩) hgW).trans m2;have u3:=(hb4.cell (p:=⟨g,c1*3+2,O⟩) hgW).trans m3;have u4:=(hb4.cell (p:=⟨w.heap.size,0,O⟩) hbW).trans p0;have u5:=(hb4.cell (p:=⟨w.heap.size,1,O⟩) hbW).trans p1;have u6:=(hb4.cell (p:=⟨w.heap.size,2,O⟩) hbW).trans p2))
     exact J15
  ·have Pf:decide (c2<n)=false:=by simpa using hlt2
   have Pg:decide ((c2:Int)<(n:Int))=false:=Y8
   have hmin: ∀j,0<j→j<(lr.set k ⟨td,tw,th⟩).length→par j=k→le (at_ (lr.set k ⟨td,tw,th⟩) c1) (at_ (lr.set k ⟨td,tw,th⟩) j):=
    zeC (Or.inl ⟨nU.out,fun h=>by rw[List.length_set,←dW.out,←dD.out] at h;exact absurd h hlt2⟩)
   have lJ:=Y0 hmin
   clear hmin
   go_wp2_with fail
   go_quiet (fail)
   have yR:Hid (Raw (wr.drewN nq) hb mb (Sl (V ⟨g,0,O⟩) n cap) rb lr f' last N'):=Y0 (H3.out.zk fun _ _=>rfl)
   have yN:Hid (Keeps (Of hb mb (Sl (V ⟨g,0,O⟩) n cap)) wr (wr.drewN nq)):=Y0 ((Keeps.refl _ wr).drewN nq)
   have q0:(wr.drewN nq).cell? ⟨hb,0,O⟩=V (Sl (V ⟨g,0,O⟩) n cap):=o0
   have p0:(wr.drewN nq).cell? ⟨w.heap.size,0,O⟩=V (E J td):=b0
   have p1:(wr.drewN nq).cell? ⟨w.heap.size,1,O⟩=V (E J tw):=b1
   have p2:(wr.drewN nq).cell? ⟨w.heap.size,2,O⟩=V (E Z th):=b2
   have q1:(wr.drewN nq).cell? ⟨g,c1*3,O⟩=V (E J yd):=y0
   have q2:(wr.drewN nq).cell? ⟨g,c1*3+1,O⟩=V (E J yw):=y1
   have q3:(wr.drewN nq).cell? ⟨g,c1*3+2,O⟩=V (E Z yh):=y2
   have MP:wr.heap.size≤(wr.drewN nq).heap.size:=Nat.le_refl _
   generalize wr.drewN nq=W at yR yN q0 q1 q2 q3 p0 p1 p2 MP ⊢
   have uI:hb<W.heap.size:=Y1
   have hgW:g<W.heap.size:=Y1
   have hbW:w.heap.size<W.heap.size:=Y1
   obtain ⟨bw,hbw⟩: ∃bw,ZU ⟨yd,yw,yh⟩ ⟨td,tw,th⟩=bw:=⟨_,rfl⟩
   have fQ:=Y0 (fun W=>Gz ⟨yd,yw,yh⟩ ⟨td,tw,th⟩ W)
   rw[hbw] at fQ
   unfold bP at fQ
   dsimp only at fQ
   have mO:=Y0 hbw
   clear hbw
   cases bw with
   |true=>
    go_wp2_with fail;go_region_held3 (fun w'=>w'.cell? ⟨hb,0,O⟩=V (Sl (V ⟨g,0,O⟩) n cap)∧w'.cell? ⟨g,c1*3,O⟩=V (E J yd)∧w'.cell? ⟨g,c1*3+1,O⟩=V (E J yw)∧w'.cell? ⟨g,c1*3+2,O⟩=V (E Z yh)∧w'.cell? ⟨w.heap.size,0,O⟩=V (E J td)∧w'.cell? ⟨w.heap.size,1,O⟩=V (E J tw)∧w'.cell? ⟨w.heap.size,2,O⟩=V (E Z th)) (first|exact ⟨u0,u1,u2,u3,u4,u5,u6⟩ |go_keep)
     (first|(go_at_call 303;refine (fQ.out _).mono ?_;rintro e W4 ⟨rfl,hb4⟩;have u0:=(hb4.cell (p:=⟨hb,0,O⟩) uI).trans q0;have u1:=(hb4.cell (p:=⟨g,c1*3,O⟩) hgW).trans q1;have u2:=(hb4.cell (p:=⟨g,c1*3+1,O⟩) hgW).trans q2;have u3:=(hb4.cell (p:=⟨g,c1*3+2,O⟩) hgW).trans q3;have u4:=(hb4.cell (p:=⟨w.heap.size,0,O⟩) hbW).trans p0;have u5:=(hb4.cell (p:=⟨w.heap.size,1,O⟩) hbW).trans p1;have u6:=(hb4.cell (p:=⟨w.heap.size,2,O⟩) hbW).trans p2))
    exact J23
   |false=>
    have hh:Heap (lr.set k ⟨td,tw,th⟩):=by
     refine JE H4.out ?_ lJ.out;rw[Zi Y1,vG Y16,←HY.out];exact mO.out
    go_wp2_with fail;go_region_held3 (fun w'=>w'.cell? ⟨hb,0,O⟩=V (Sl (V ⟨g,0,O⟩) n cap)∧w'.cell? ⟨g,c1*3,O⟩=V (E J yd)∧w'.cell? ⟨g,c1*3+1,O⟩=V (E J yw)∧w'.cell? ⟨g,c1*3+2,O⟩=V (E Z yh)∧w'.cell? ⟨w.heap.size,0,O⟩=V (E J td)∧w'.cell? ⟨w.heap.size,1,O⟩=V (E J tw)∧w'.cell? ⟨w.heap.size,2,O⟩=V (E Z th)) (first|exact ⟨u0,u1,u2,u3,u4,u5,u6⟩ |go_keep)
     (first|(go_at_call 303;refine (fQ.out _).mono ?_;rintro e W4 ⟨rfl,hb4⟩;have u0:=(hb4.cell (p:=⟨hb,0,O⟩) uI).trans q0;have u1:=(hb4.cell (p:=⟨g,c1*3,O⟩) hgW).trans q1;have u2:=(hb4.cell (p:=⟨g,c1*3+1,O⟩) hgW).trans q2;have u3:=(hb4.cell (p:=⟨g,c1*3+2,O⟩) hgW).trans q3;have u4:=(hb4.cell (p:=⟨w.heap.size,0,O⟩) hbW).trans p0;have u5:=(hb4.cell (p:=⟨w.heap.size,1,O⟩) hbW).trans p1;have u6:=(hb4.cell (p:=⟨w.heap.size,2,O⟩) hbW).trans p2))
    exact J15
 ·have Pd:decide (c1<n)=false:=by simpa using hlt1
  have hh:Heap (lr.set k ⟨td,tw,th⟩):=zmL H4.out (by rw[List.length_set,←dW.out,←nU.out];omega);have hR2:=H3.out;rw[dW.out] at hR2;have aI:=Y0 (Kt hR2 k ⟨td,tw,th⟩ Y16 (by have:=HL.out;have:=H1.out;omega) (by have:=HN.out;have:=HI.out;have:=HL.out;have:=H2.out;have:=og.out;omega) NW.out);unfold bP at aI;dsimp only at aI;rw[←dW.out] at aI;have iP:=Y0 (fun W2 hRaw hK=>KR.done (w:=w) (w1:=w.alloc (Ce #[E J td,E J tw,E Z th] 366)) (wr:=wr) (w2:=W2) (k:=k) (rb:=rb) (last:=last) (N:=N+i0) HA.out Y27 H1.out H2.out H6.out H7.out ((Keeps.refl _ w).alloc _) H8.out hh hRaw (Keeps.trans (Keeps.refl _ wr) hK fun _ hx=>Or.inl hx));clear hR2 hh;exact J54):zP:=h
theorem a2.zxO (h:zP:=by
 clear h ha hs hdn hpl hN hl hi ht hn;obtain ⟨td,tw,th⟩:=t;dsimp only at d0 d1 d2;have hts:0≤th∧th≤1000000000:=by
  have:=HS.out _ (at_mem HI.out);rw[←HT.out] at this;exact this
 have NW:=Y0 hts;clear hts;go_enter Tryz.func269,Tryz.ntmps269;go_wp2;have hstart:KR (w.alloc (Ce #[E J td,E J tw,E Z th] 366)) hb mb (Sl (V ⟨g,0,O⟩) n cap) rb l last (N+i0) ⟨td,tw,th⟩ i0 (w.alloc (Ce #[E J td,E J tw,E Z th] 366)):=by
  have e:l.set i0 ⟨td,tw,th⟩=l:=by rw[HT.out];exact zq HI.out
  exact ⟨l,f,N,rfl,by omega,HR.out.below ((Below.refl _ _).alloc (Nat.le_refl _) _),by rw[e];exact PX.out,by rw[e],by rw[e];exact Cu.out,Keeps.refl _ _⟩
 have dX:=Y0 hstart;clear hstart;go_loopw [1] (fun i wr=> ∃k:Nat,k<n∧i=E Z k∧Hid (KR (w.alloc (Ce #[E J td,E J tw,E Z th] 366)) hb mb (Sl (V ⟨g,0,O⟩) n cap) rb l last (N+i0) ⟨td,tw,th⟩ k wr)) (fun i _=>n - (intOf i).toNat);case atStart=>exact ⟨i0,hin,rfl,dX⟩
 case round=>
  clear o0 d0 d1 d2;obtain ⟨k,hk,rfl,wK⟩:=hrel;obtain ⟨lr,f',N',r1,r2,r3,r4,r6,r7,r8⟩:=wK.out;exact J44):zP:=h
theorem a2.zwa (h:zP:=by
 have PX:=Y0 hdn;exact zwu):zP:=h
open a2 in
theorem zpp {w:World} {hb mb:Nat} {v:Value} {rb:Nat} {l:List zC} {f:Int→Option Nat} {last:Int} {N:Nat} (h:Raw w hb mb v rb l f last N) (i0:Nat) (hi:i0<l.length) (hl:l.length≤1000000) (hN:N≤900000000)
  (ha:Apart l) (hs:Small l) (hdn:vJ l i0) (hpl:Places f l i0):
  Calls Tp 269 #[Y (V ⟨hb,0,O⟩),E Z i0] w (zkn w hb mb v rb l last (N+i0)):=by
 exact zx2
def zyv (last:Int) (t:zC):Prop:=(1≤t.h∧t.h≤last)∧(0≤t.d∧t.d<18446744073709551616)∧(0≤t.w∧t.w<18446744073709551616)
def vS (w:World) (hb mb:Nat) (v:Value) (rb:Nat) (S:List zC) (last:Int) (N:Nat):Prop:=
 ∃(l:List zC) (f:Int→Option Nat),Raw w hb mb v rb l f last N∧l.Perm S∧Sorted S∧Heap l∧Vq f l∧Apart l∧(∀t∈S,zyv last t)∧0≤last∧last≤1000000
theorem vS.zk {w w':World} {hb mb:Nat} {v:Value} {rb:Nat} {S:List zC} {last:Int} {N:Nat} (h:vS w hb mb v rb S last N) (e: ∀k,Of hb mb v k→w'.heap[k]?=w.heap[k]?):vS w' hb mb v rb S last N:=by
 obtain ⟨l,f,h1,r⟩:=h;exact ⟨l,f,h1.zk e,r⟩
theorem vS.of_lt {w:World} {hb mb:Nat} {v:Value} {rb:Nat} {S:List zC} {last:Int} {N:Nat} (h:vS w hb mb v rb S last N) {k:Nat} (hk:Of hb mb v k):k<w.heap.size:=by
 obtain ⟨l,f,h1,r⟩:=h;exact h1.of_lt hk
theorem bL.set0 {w:World} {hb mb:Nat} {v:Value} {last:Int} (h:bL w hb mb v last) (v':Value):bL (w.setCell ⟨hb,0,O⟩ v') hb mb v' last:=by
 have hl:=h.lt;unfold bL at*;have:=heap_setCell_same w hb 0 _ _ v' h;simpa using this
theorem zrD (w:World):Calls Tp 91 #[] w fun e w'=> ∃hb mb,e=Rt (Y (V ⟨hb,0,O⟩))∧w.heap.size≤hb∧w.heap.size≤mb∧vS w' hb mb (Sl none 0 0) 0 [] 0 0∧Below w.heap.size w w':=by
 have hmm:=@run_makeMap Tp;go_enter Tryz.func91,Tryz.ntmps91;go_wp2;go_ret;have hmap:gQ (w.alloc (.map #[] 0)) w.heap.size (fun _=>none) 0:=
  ⟨_,0,World.ownsMap_made w Tp 3 (plainElem Tp 3),Nat.le_refl _,fun k _=>⟨rfl,fun j hj=>by cases hj⟩⟩
 have hB:Below w.heap.size w ((w.alloc (.map #[] 0)).alloc (Ce #[Sl none 0 0, .map (some w.heap.size),E Z 0] 295)):=((Below.refl _ w).alloc (Nat.le_refl _) _).alloc Y7 _;refine ⟨w.heap.size+1,w.heap.size,rfl,by omega,Nat.le_refl _,⟨[],fun _=>none,⟨?_,World.ownsRow_nil _ _ _ _,hmap.of_block (Below.heap_alloc _ _ _ Y7)⟩,List.Perm.refl _,List.Pairwise.nil,zou,⟨(fun j hj=>absurd hj Y7),fun _ _=>rfl⟩,List.nodup_nil,(fun _ ht=>absurd ht Y7),by decide,by decide⟩,hB⟩;unfold bL;have:=heap_alloc_new (w.alloc (.map #[] 0)) (.cells #[Sl none 0 0, .map (some w.heap.size),E Z 0] 295);simpa using this
theorem gQ.look {w:World} {mb:Nat} {f:Int→Option Nat} {N:Nat} (h:gQ w mb f N) {k:Int} (hk:(Lit.int Z k).wf=true):
  ∃c:Int,(Instr.lookup 292 (.map (some mb)) (E Z k) true).run Tp w= .ok (.tuple #[E Z c, .bool (f k).isSome]) w∧ ∀j,f k=some j→c=j:=by
 obtain ⟨D,n,h1,h2,h3⟩:=h;obtain ⟨v,ps,hrun,hv⟩:=h1.look_ok keyed Tryz.underlying292 (zjN w) (plainElem_int Tryz.underlying3 Y2) (keyOf_int_mk Tryz.underlying3 hk);obtain ⟨c,rfl,hc,hwc⟩:=plainElem_int_inv Tryz.underlying3 hv;obtain ⟨e1,e2⟩:=h3 k hk;rw[e1] at hrun;refine ⟨c,hrun,fun j hj=>?_⟩;have:=congrArg Prod.fst hc;rw[show (D.atKey (Lit.int Z k) (DataW.lit (Lit.int Z 0)))=_ from e2 j hj] at this;simp at this;exact this.symm
theorem gQ.zxP {w:World} {mb:Nat} {f:Int→Option Nat} {N:Nat} (h:gQ w mb f N) {k:Int} (hk:(Lit.int Z k).wf=true) {j:Nat} (hj:f k=some j):
  (Instr.lookup 292 (.map (some mb)) (E Z k) false).run Tp w= .ok (E Z j) w:=by
 obtain ⟨D,n,h1,h2,h3⟩:=h;obtain ⟨c,hrun,hc,hwc⟩:=h1.lookup_int keyed Tryz.underlying292 Tryz.underlying3 (zjN w) (keyOf_int_mk Tryz.underlying3 hk);have:=(h3 k hk).2 j hj;rw[this] at hc;simp at hc;rw[hrun,hc]
theorem Raw.cut {w:World} {hb mb rb:Nat} {l:List zC} {f:Int→Option Nat} {last:Int} {N g cap:Nat} (h:Raw w hb mb (Sl (V ⟨g,0,O⟩) l.length cap) rb l f last N) {n:Nat} (hn:n≤l.length):
  Raw (w.setCell ⟨hb,0,O⟩ (Sl (V ⟨g,0,O⟩) n cap)) hb mb (Sl (V ⟨g,0,O⟩) n cap) rb (l.take n) f last N:=by
 have hgh:g≠hb:=fun e=>h.vh (by rw[←e];rfl);have hr:w.ownsRow rb 366 3 (Sl (V ⟨g,0,O⟩) n cap) (l.take n).length (Vi (l.take n)):=by
  obtain ⟨h1,⟨h2,_⟩ |⟨g',cap',cur,hv,hg,hh,hnc,hcm,hcs,ht⟩⟩:=h.row
  ·cases h2
  ·cases hv;have hl:(l.take n).length=n:=by rw[List.length_take];omega
   refine ⟨by rw[zca],Or.inr ⟨g,cap,cur,by rw[hl],hg,hh,by omega,hcm,hcs,?_⟩⟩;rw[hl,←zhf,←ht,List.take_take,Nat.min_eq_left Y1]
 exact ⟨h.obj.set0 _,za hr fun k hk=>Below.heap_setCell _ _ _ _ (fun e=>by cases hk;exact hgh e),h.map.of_block (Below.heap_setCell _ _ _ _ (fun e=>h.hm e.symm))⟩
theorem Raw.turned {w w':World} {hb mb:Nat} {v:Value} {rb:Nat} {l:List zC} {f f':Int→Option Nat} {last:Int} {N N':Nat} (h:Raw w hb mb v rb l f last N) (hm:gQ w' mb f' N') (ht:w.mapTurned w' mb):Raw w' hb mb v rb l f' last N':=by
 have hg:=ht.grown;exact ⟨(hg.block hb h.obj.lt (fun e=>h.hm Y18)).trans h.obj,h.row.kept hg (Or.inr (fun e=>h.vm Y93)),hm⟩
def zrb (w:World) (hb mb:Nat) (v:Value) (rb:Nat) (S:List zC) (last:Int) (N:Nat) (k q:Int) (e:Ending) (w':World):Prop:=
 e=Rt (.tuple #[E J q, .bool true])∧ ∃v',vS w' hb mb v' rb (without k S) last (N+3*S.length+4)∧v'.ownBlock=v.ownBlock∧Keeps (Of hb mb v) w w'
theorem zmp {w:World} {hb mb:Nat} {v:Value} {rb:Nat} {S:List zC} {last:Int} {N:Nat} (h:vS w hb mb v rb S last N) (k:Int) (hk: -9223372036854775808≤k∧k≤9223372036854775807) {t:zC} (hyes:ofH k S=some t)
  (hS:S.length≤900000) (hN:N≤800000000):
  Calls Tp 219 #[Y (V ⟨hb,0,O⟩),E Z k] w (zrb w hb mb v rb S last N k t.w):=by
 obtain ⟨l,f,hraw,hperm,hsort,hheap,hpl,hap,uH,hl0,hl1⟩:=h;obtain ⟨FC,htk⟩:=zq6 hyes;obtain ⟨j,hj,hjt⟩:=zed (hperm.mem_iff.2 FC);have hf:f k=some j:=by have:=hpl.1 j hj;rwa[hjt,htk] at this
 obtain ⟨c,hrun,hc⟩:=hraw.map.look (wf_i64 hk);rw[hf] at hrun;obtain rfl:=hc j hf;obtain ⟨g,cap,hv,hcap⟩:=hraw.slice Y1;subst hv;obtain ⟨m,hm⟩: ∃m,l.length=m+1:=⟨l.length - 1,by omega⟩;obtain ⟨o0,o1,o2,of⟩:=hraw.obj.cell;obtain ⟨z0,d0,d1,d2⟩:=hraw.look rfl hj;clear z0;rw[hjt] at d0 d1 d2;obtain ⟨z0,e0,e1,e2⟩:=hraw.look rfl (i:=m) Y1;clear z0;obtain ⟨x,hx⟩: ∃x,x=at_ l m:=⟨_,rfl⟩;rw[←hx] at e0 e1 e2;have hlt:=hraw.obj.lt;have hgl:=(hraw.row.lt g rfl).2;rw[hm] at o0 hcap;have Pk:m+1=S.length:=by rw[←hm];exact hperm.length_eq
 have HR:=Y0 hraw;have Fb:=Y0 hperm;have NR:=Y0 hsort;have Nk:=Y0 hheap;have Cu:=Y0 hpl;have uY:=Y0 hap;have EP:=Y0 uH;have HM:=Y0 hm;have Qs:=Y0 Pk;have HN:=Y0 hN;have HS:=Y0 hS;have Cb:=Y0 hjt;have NV:=Y0 htk;have HX:=Y0 hx;have HF:=Y0 hf;have rX:(m:Int)≤900000:=Y1;have Am:(j:Int)≤(m:Int):=Y1;have hjm:j≤m:=Y1;clear hraw hperm hsort hheap hpl hap uH hm Pk hN hS hjt htk hx hj hf hyes FC hc;obtain ⟨td,tw,th⟩:=t;obtain ⟨xd,xw,xh⟩:=x;dsimp only at d0 d1 d2 e0 e1 e2 ⊢;rw[show ((m+1:Nat))=m+1 from rfl] at o0;have HR':=HR.out;have hcut:=HR'.cut (n:=m) Y68;have R3:Raw (((w.setCell ⟨hb,0,O⟩ (Sl (V ⟨g,0,O⟩) m cap)).alloc (Ce #[E J td,E J tw,E Z th] 366)).alloc (Ce #[E J xd,E J xw,E Z xh] 366)) hb mb (Sl (V ⟨g,0,O⟩) m cap) rb (l.take m) f last N:=
  (hcut.below ((Below.refl _ _).alloc (Nat.le_refl _) _)).below ((Below.refl _ _).alloc (Nat.le_refl _) _)
 have K3:Keeps (Of hb mb (Sl (V ⟨g,0,O⟩) m cap)) w (((w.setCell ⟨hb,0,O⟩ (Sl (V ⟨g,0,O⟩) m cap)).alloc (Ce #[E J td,E J tw,E Z th] 366)).alloc (Ce #[E J xd,E J xw,E Z xh] 366)):=
  (((Keeps.refl _ w).setCell (p:=⟨hb,0,O⟩) (Or.inl rfl) _).alloc _).alloc _
 obtain ⟨w3,hdel,rO,hturn⟩:=R3.map.drop (wf_i64 hk) 0;have hg3:=hturn.grown;have hmw:=HR.out.map.lt;have R4:=Y0 (R3.turned rO hturn);have K4:=Y0 (K3.grown hg3 (fun k e=>by cases e;exact Or.inr (Or.inl rfl)));have s3:w3.heap.size≥w.heap.size+2:=by have:=hg3.size;simp[World.setCell] at this;omega
 have p1:w3.cell? ⟨w.heap.size,1,O⟩=V (E J tw):=hg3.cell (by rw[World.cell?_alloc_lt _ _ ⟨w.heap.size,1,O⟩ Y39];exact World.cell?_alloc_at _ _ _ _ Y39) (fun e=>by injection e with e;simp at e;omega);have q0:w3.cell? ⟨w.heap.size+1,0,O⟩=V (E J xd):=hg3.cell (World.cell?_alloc_at _ _ _ _ Y39) (fun e=>by injection e with e;simp at e;omega);have q1:w3.cell? ⟨w.heap.size+1,1,O⟩=V (E J xw):=hg3.cell (World.cell?_alloc_at _ _ _ _ Y39) (fun e=>by injection e with e;simp at e;omega);have q2:w3.cell? ⟨w.heap.size+1,2,O⟩=V (E Z xh):=hg3.cell (World.cell?_alloc_at _ _ _ _ Y39) (fun e=>by injection e with e;simp at e;omega);have htake:(l.take m).length=m:=by rw[List.length_take,HM.out];omega
 have uj:=Y0 htake;have hm0:l.length - 1=m:=Y68;have fG:=Y0 hm0;clear hcut R3 K3 rO hturn hg3 HR' htake hm0;by_cases hjlt:j<m
 ·have hxs:0≤xh∧xh≤1000000000:=by
   have:=(EP.out ⟨xd,xw,xh⟩ (by rw[HX.out];exact Fb.out.mem_iff.1 (at_mem Y68))).1;dsimp only at this;omega
  have aI:Hid (Calls Tp 267 #[Y (V ⟨hb,0,O⟩),E Z j, .agg #[E J xd,E J xw,E Z xh]] w3 fun e w'=>e=Rt (.tuple #[])∧Raw w' hb mb (Sl (V ⟨g,0,O⟩) m cap) rb ((l.take m).set j ⟨xd,xw,xh⟩) (upd (del f k) xh j) last (N+1)∧Keeps (Of hb mb (Sl (V ⟨g,0,O⟩) m cap)) w3 w'):=
   Y0 (Kt R4.out j ⟨xd,xw,xh⟩ (by rw[uj.out];exact hjlt) (by rw[uj.out];omega) (by have:=HN.out;omega) hxs)
  clear hxs;go_enter Tryz.func219,Tryz.ntmps219;go_wp2_with fail;refine aI.out.mono ?_;rintro e w5 ⟨rfl,Lr,uF⟩;have hs5:=uF.size;have hbx0: ¬Of hb mb (Sl (V ⟨g,0,O⟩) m cap) w.heap.size:=fun ho=>absurd (HR.out.of_lt ho) Y1;have rT: ¬Of hb mb (Sl (V ⟨g,0,O⟩) m cap) (w.heap.size+1):=fun ho=>absurd (HR.out.of_lt ho) Y1;have p1':w5.cell? ⟨w.heap.size,1,O⟩=V (E J tw):=(uF.cell (p:=⟨w.heap.size,1,O⟩) (by show w.heap.size<_;omega) hbx0).trans p1;have q2':w5.cell? ⟨w.heap.size+1,2,O⟩=V (E Z xh):=(uF.cell (p:=⟨w.heap.size+1,2,O⟩) (by show w.heap.size+1<_;omega) rT).trans q2;have hcl:(cutAt l j).length=m:=by rw[VJ,fG.out]
  have uG:(l.take m).set j ⟨xd,xw,xh⟩=cutAt l j:=by unfold cutAt;rw[fG.out,HX.out]
  rw[uG] at Lr;have hjl:j<l.length - 1:=by rw[fG.out];exact hjlt
  have hcp:=ziB hjl;have su:=ziU uY.out hjl Cu.out;rw[fG.out,←HX.out,Cb.out] at su;dsimp only at su;have xL:Apart (cutAt l j):=by
   have h1:Apart (cutAt l j++ [at_ l j]):=uY.out.perm hcp;exact List.Nodup.sublist ((List.sublist_append_left (cutAt l j) [at_ l j]).map _) h1
  have yH:Small (cutAt l j):=by
   intro y hy;have:=(EP.out y (Fb.out.mem_iff.1 (hcp.mem_iff.1 (List.mem_append_left _ hy)))).1;omega
  have htk:th=k:=NV.out;have Dt:Raw w5 hb mb (Sl (V ⟨g,0,O⟩) m cap) rb (cutAt l j) (upd (del f th) xh j) last (N+1):=by rw[htk];exact Lr
  have Iy:=Y0 (zvn Dt j Y1 (by rw[hcl];omega) (by have:=HN.out;omega) xL yH (zvl Nk.out hjl) (su.hole j));have Np:Hid (at_ (cutAt l j) j=⟨xd,xw,xh⟩):=Y0 (by rw[zbM hjl,fG.out,HX.out]);have wE:=Y0 hcp;have nY:=Y0 hcl;have MX:=Y0 xL;have NP:=Y0 yH;have tJ:=Y0 uF;have xg:=Y0 htk;clear Lr Dt uG hjl hcp su xL yH htk uF p1 q0 q1 q2 hcl;go_wp2_with fail;refine Iy.out.mono ?_;rintro e w6 ⟨rfl,l6,f6,p6,u1,u2,u3,u4,u5,u6,u7,u8⟩;have hs6:=u8.size;have p1:w6.cell? ⟨w.heap.size,1,O⟩=V (E J tw):=(u8.cell (p:=⟨w.heap.size,1,O⟩) (by show w.heap.size<_;omega) hbx0).trans p1';have q2:w6.cell? ⟨w.heap.size+1,2,O⟩=V (E Z xh):=(u8.cell (p:=⟨w.heap.size+1,2,O⟩) (by show w.heap.size+1<_;omega) rT).trans q2';have OZ:f6 xh=some p6:=by
   have:=u3.1 p6 u4;rwa[u5,Np.out] at this
  have o1':=u1.obj.cell.2.1;have Au:l6.length=m:=by rw[u2.length_eq];exact nY.out
  have hx6:(Lit.int Z xh).wf=true:=by
   have:=NP.out ⟨xd,xw,xh⟩ (by rw[←Np.out];exact at_mem (by rw[nY.out];exact hjlt));dsimp only at this;exact wf_i64 Y1
  have Tc:(Instr.lookup 292 (.map (some mb)) (E Z xh) false).run Tp w6.drew= .ok (E Z p6) w6.drew:=gQ.zxP (w:=w6.drew) (u1.map.of_block rfl) hx6 OZ;have AV:=Y0 (zpp (w:=w6.drew) (u1.zk fun _ _=>rfl) p6 u4 (by rw[Au];omega) (by have:=HN.out;omega) (MX.out.perm u2) (NP.out.perm u2) u6 (u3.hole p6));have U1:=Y0 u1;have U2:=Y0 u2;have U4:=Y0 u4;have U8:=Y0 u8;have Qn:=Y0 Au;clear p1' q2' u1 u2 u3 u4 u5 u6 u7 u8 OZ hx6 Au;go_wp2_with fail;go_region_held3 (fun w'=>w'.cell? ⟨hb,1,O⟩=V (.map (some mb))∧w'.cell? ⟨w.heap.size+1,2,O⟩=V (E Z xh)) (first|exact ⟨y1,y2⟩ |go_keep)
   (first|(go_at_call 269;refine AV.out.mono ?_;rintro e w7 ⟨rfl,l7,f7,z1,z2,z3,z4,z5⟩;have y1:=z1.obj.cell.2.1;have y2:=(z5.cell (p:=⟨w.heap.size+1,2,O⟩) (by show w.heap.size+1<w6.heap.size;omega) rT).trans q2;have y3:=(z5.cell (p:=⟨w.heap.size,1,O⟩) (by show w.heap.size<w6.heap.size;omega) hbx0).trans p1))
  go_wp2;go_ret2;have iH:(l7++ [(⟨td,tw,th⟩:zC)]).Perm l:=by
   have h1:l7.Perm (cutAt l j):=z2.trans U2.out;have h2:=wE.out;rw[Cb.out] at h2;exact (h1.append_right _).trans h2
  have hd:=zcp uY.out Fb.out iH;dsimp only at hd;rw[xg.out] at hd;have hms:=Qs.out;have Au:=Qn.out;have hu4:=U4.out;refine ⟨rfl,Sl (V ⟨g,0,O⟩) m cap,⟨l7,f7,z1.mono Y1,hd,bX NR.out,z4,z3,MX.out.perm (z2.trans U2.out),fun t ht=>EP.out t (List.mem_filter.1 ht).1,hl0,hl1⟩,rfl,?_⟩;exact ((K4.out.trans tJ.out fun _ hx=>Or.inl hx).trans (U8.out.drew) fun _ hx=>Or.inl hx).trans z5 fun _ hx=>Or.inl hx
 ·obtain rfl:j=m:=Y1;obtain ⟨rfl,rfl,rfl⟩:xd=td∧xw=tw∧xh=th:=by
   have:=HX.out.trans Cb.out;injection this with a b c
   exact ⟨a,b,c⟩
  have hP:=zgC uY.out Y68 Cu.out;rw[fG.out,Cb.out] at hP;dsimp only at hP;have iH:(l.take j++ [(⟨xd,xw,xh⟩:zC)]).Perm l:=by
   have:=zmW (v:=l) Y68;rw[fG.out,Cb.out] at this;rw[this]
  have hd:=zcp uY.out Fb.out iH;have htk:xh=k:=NV.out;have HP:=Y0 hP;have HD:=Y0 hd;have xg:=Y0 htk;clear hP iH hd htk hjlt;go_enter Tryz.func219,Tryz.ntmps219;go_wp2;go_ret2;refine ⟨rfl,Sl (V ⟨g,0,O⟩) j cap,⟨l.take j,del f k,R4.out.mono Y1,?_,bX NR.out,zmT Nk.out j,?_,?_,fun t ht=>EP.out t (List.mem_filter.1 ht).1,hl0,hl1⟩,rfl,K4.out⟩
  ·rw[←xg.out];exact HD.out
  ·rw[←xg.out];exact HP.out
  ·exact List.Nodup.sublist ((List.take_sublist j l).map _) uY.out
theorem vS.zra {w:World} {hb mb:Nat} {v:Value} {rb:Nat} {last:Int} {N:Nat} (h:vS w hb mb v rb [] last N): ∃A c,v= .slice A 0 c∧w.cell? ⟨hb,0,O⟩=V (.slice A 0 c):=by
 obtain ⟨l,f,hraw,hperm,_⟩:=h;obtain rfl:l= []:=by have:=hperm.length_eq;exact List.length_eq_zero_iff.1 this
 obtain ⟨A,c,hv⟩:=hraw.slice';have h1:=hraw.obj.cell.1;rw[hv] at h1;exact ⟨A,c,hv,h1⟩
theorem vS.zeQ {w:World} {hb mb:Nat} {v:Value} {rb:Nat} {s:zC} {S:List zC} {last:Int} {N:Nat} (h:vS w hb mb v rb (s::S) last N):
  ∃g c,v=Sl (V ⟨g,0,O⟩) (S.length+1) c∧g<w.heap.size∧w.cell? ⟨hb,0,O⟩=V (Sl (V ⟨g,0,O⟩) (S.length+1) c)∧w.cell? ⟨g,0,O⟩=V (E J s.d)∧w.cell? ⟨g,1,O⟩=V (E J s.w)∧w.cell? ⟨g,2,O⟩=V (E Z s.h):=by
 obtain ⟨l,f,hraw,hperm,hsort,hheap,hpl,hap,_⟩:=h;have hl:l.length=S.length+1:=by rw[hperm.length_eq];rfl
 have hf:=znu hheap hperm hsort;obtain ⟨g,c,hv,hc⟩:=hraw.slice Y1;subst hv;obtain ⟨o0,d0,d1,d2⟩:=hraw.look rfl (i:=0) Y1;rw[hf] at d0 d1 d2;rw[hl] at o0;exact ⟨g,c,by rw[hl],(hraw.row.lt g rfl).2,o0,d0,d1,d2⟩
theorem vS.apart {w:World} {hb mb:Nat} {v:Value} {rb:Nat} {S:List zC} {last:Int} {N:Nat} (h:vS w hb mb v rb S last N):Apart S:=by
 obtain ⟨l,f,hraw,hperm,hsort,hheap,hpl,hap,_⟩:=h;exact hap.perm hperm.symm
theorem vS.fine {w:World} {hb mb:Nat} {v:Value} {rb:Nat} {S:List zC} {last:Int} {N:Nat} (h:vS w hb mb v rb S last N):(∀t∈S,zyv last t)∧0≤last∧last≤1000000:=by
 obtain ⟨l,f,hraw,hperm,hsort,hheap,hpl,hap,hfi,h0,h1⟩:=h;exact ⟨hfi,h0,h1⟩
theorem zsH {w:World} {hb mb:Nat} {v:Value} {rb:Nat} {last:Int} {N:Nat} (h:vS w hb mb v rb [] last N) (now:Int):
  Calls Tp 170 #[Y (V ⟨hb,0,O⟩),E J now] w fun e w'=>e=Rt (.tuple #[E J 0, .bool false])∧w=w':=by
 obtain ⟨A,c,_,o0⟩:=h.zra;clear h;exact zvU
theorem zmK {w:World} {hb mb:Nat} {v:Value} {rb:Nat} {s:zC} {S:List zC} {last:Int} {N:Nat} (h:vS w hb mb v rb (s::S) last N) (now:Int) (hS:S.length≤900000) (hl:now<s.d):
  Calls Tp 170 #[Y (V ⟨hb,0,O⟩),E J now] w fun e w'=>e=Rt (.tuple #[E J 0, .bool false])∧w=w':=by
 obtain ⟨g,c,_,hg,o0,d0,d1,d2⟩:=h.zeQ;obtain ⟨sd,sw,sh⟩:=s;dsimp only at d0 d1 d2 hl ⊢;obtain ⟨n,hn⟩: ∃n,n=S.length:=⟨_,rfl⟩;rw[←hn] at o0 hS;have dV:(n:Int)≤900000:=Y1;have hb1:((n:Int)+1==0)=false:=Y8;have hd:decide (now<sd)=true:=by simpa using hl
 clear h hn hS;exact zvU
def zt1 (w:World) (hb mb:Nat) (v:Value) (rb:Nat) (S:List zC) (last:Int) (N:Nat) (q:Int) (e:Ending) (w':World):Prop:=
 e=Rt (.tuple #[E J q, .bool true])∧ ∃v',vS w' hb mb v' rb S last (N+3*S.length+7)∧v'.ownBlock=v.ownBlock∧Keeps (Of hb mb v) w w'
theorem zrG {w:World} {hb mb:Nat} {v:Value} {rb:Nat} {s:zC} {S:List zC} {last:Int} {N:Nat} (h:vS w hb mb v rb (s::S) last N) (now:Int) (hS:S.length≤800000) (hN:N≤800000000) (hl:s.d≤now):
  Calls Tp 170 #[Y (V ⟨hb,0,O⟩),E J now] w (zt1 w hb mb v rb S last N s.w):=by
 obtain ⟨g,c,_,hg,o0,d0,d1,d2⟩:=h.zeQ;have hfi:=(h.fine.1 s List.mem_cons_self).1;have hfl:=h.fine.2;have HD:=Y0 (zmp h s.h Y1 (zoV h.apart List.mem_cons_self rfl) Y8 hN);have HW:=Y0 (zd2 h.apart);obtain ⟨sd,sw,sh⟩:=s;dsimp only at d0 d1 d2 hl HD HW hfi ⊢;obtain ⟨n,hn⟩: ∃n,n=S.length:=⟨_,rfl⟩;have HN:=Y0 hn;rw[←hn] at o0 hS;have dV:(n:Int)≤800000:=Y1;have hb1:((n:Int)+1==0)=false:=Y8;have hd:decide (now<sd)=false:=Y8;clear h hn hS hN hfl;go_enter Tryz.func170,Tryz.ntmps170;go_wp2_with fail;refine HD.out.mono ?_;rintro e w2 ⟨rfl,v',hH,hv',hk⟩;go_wp2;go_ret2;rw[HW.out] at hH;obtain ⟨l,f,h1,h2⟩:=hH;exact ⟨rfl,v',⟨l,f,h1.mono Y8,h2⟩,hv',hk⟩
end Hp
namespace Kn
def zp0 (id:Int):List Slp→Option Slp
 |a::b::L=>if b.id=id then some a else zp0 id (b::L)
 |_=>none
def zp8 (id:Int):List Slp→Option Slp
 |a::L=>if a.id=id then L.head? else zp8 id L
 |[]=>none
def bkt (l:List Slp) (b:Int):List Slp:=l.filter fun s=>vT s.addr==b
def ids (l:List Slp):List Int:=l.map (·.id)
end Kn
section
open Go
theorem JM {P:Program} {ops:Array Oper} {Q:Exit→Act→World→Prop} {a:Act} {w:World} (hs:Region.noSelect ops=true) (l:List Oper) (k:Nat) (listed:Array Bool) (hl: ∀j,l[j]?=ops[k+j]?)
  (hB:Region.lexFrom .any ops l.length k listed=true)
  (h:wpQuiet P ops (fun w'=> ∃n,w'=w.drewN n) (fun a'=> ∀w',(∃n,w'=w.drewN n)→Q .normal a' w') l a):wpAny P .any ops Q l.length listed a w:=
 wpAny_of_quiet (C:=fun w'=> ∃n,w'=w.drewN n) (Q:=fun a'=> ∀w',(∃n,w'=w.drewN n)→Q .normal a' w') (fun _ w' hw' h=>h w' hw') _ _ _ _ ⟨0,rfl⟩ (wpAnyQ_lex (md:= .any) hs l k listed a hl hB h)
theorem jw {P:Program} {id:Nat} {ops:Array Oper} {Q:Exit→Act→World→Prop} {a:Act} {w:World} {o0 o1 o2:Oper} {l:List Oper} (hm:P.follows .mixedOrders=true)
  (hops:ops=(o0::o1::o2::l).toArray) (hs:Region.noSelect ops=true)
  (hr0:Region.ready .any ops (Array.replicate ops.size false)= [0,1])
  (hr1:Region.ready .any ops ((Array.replicate ops.size false).setIfInBounds 0 true)= [1])
  (hr2:Region.ready .any ops ((Array.replicate ops.size false).setIfInBounds 1 true)= [0])
  (hr3:Region.ready .any ops (((Array.replicate ops.size false).setIfInBounds 0 true).setIfInBounds 1 true)= [2])
  (hB:Region.lexFrom .any ops l.length 3 ((((Array.replicate ops.size false).setIfInBounds 0 true).setIfInBounds 1 true).setIfInBounds 2 true)=true)
  (g0:o0.guard=none) (g1:o1.guard=none) (g2:o2.guard=none) (v0 v1:Value)
  (h0: ∀(w':World),(execOp a.eval o0).run P w'= .ok (.value v0) w') (h0': ∀(w':World),(execOp (a.put o1.dst v1).eval o0).run P w'= .ok (.value v0) w')
  (h1: ∀(w':World),(execOp a.eval o1).run P w'= .ok (.value v1) w') (h1': ∀(w':World),(execOp (a.put o0.dst v0).eval o1).run P w'= .ok (.value v1) w')
  (hcomm:(a.put o1.dst v1).put o0.dst v0=(a.put o0.dst v0).put o1.dst v1)
  (h2: ∀K:Act→World→Prop,(∀a' w',wpQuiet P ops (fun x=> ∃n,x=w'.drewN n) (fun a''=> ∀x,(∃n,x=w'.drewN n)→Q .normal a'' x) l a'→K a' w')→Oper.wp P o2 ((a.put o0.dst v0).put o1.dst v1) w.drew K Q):
  (Code.region id ops true).wp P Q a w:=by
 have e0:ops[0]?=some o0:=by rw[hops];rfl
 have e1:ops[1]?=some o1:=by rw[hops];rfl
 have e2:ops[2]?=some o2:=by rw[hops];rfl
 have hl: ∀j,l[j]?=ops[3+j]?:=by
  intro j;rw[hops];simp[Nat.add_comm 3 j]
 have hsz:ops.size=l.length+1+1+1:=by rw[hops];simp
 have two:wpAny P .any ops Q (l.length+1) (((Array.replicate ops.size false).setIfInBounds 0 true).setIfInBounds 1 true) ((a.put o0.dst v0).put o1.dst v1) w.drew:=by
  refine wpAny_ready hr3 Y7 (AllReady.cons e2 ?_ AllReady.nil);intro K' hK';rw[if_pos (by simp[Region.wanted,g2])];exact h2 K' fun a' w' hq=>hK' a' w' (JM hs l 3 _ hl hB hq)
 refine wp_region_any hm ?_;rw[show wpAny P .any ops Q ops.size=wpAny P .any ops Q (l.length+1+1+1) by rw[hsz]];refine wpAny_ready hr0 Y7 (AllReady.cons e0 ?_ (AllReady.cons e1 ?_ AllReady.nil))
 ·intro K' hK';rw[if_pos (by simp[Region.wanted,g0])];unfold Oper.wp;rw[h0];refine hK' _ _ (wpAny_ready hr1 Y7 (AllReady.cons e1 ?_ AllReady.nil));intro K'' hK'';rw[if_pos (by simp[Region.wanted,g1])];unfold Oper.wp;rw[h1'];exact hK'' _ _ two
 ·intro K' hK';rw[if_pos (by simp[Region.wanted,g1])];unfold Oper.wp;rw[h1];refine hK' _ _ (wpAny_ready hr2 Y7 (AllReady.cons e0 ?_ AllReady.nil));intro K'' hK'';rw[if_pos (by simp[Region.wanted,g0])];unfold Oper.wp;rw[h0'];refine hK'' _ _ ?_;rw[hcomm,Array.setIfInBounds_comm _ _ Y1];exact two
end
section
open Go.RowKit
theorem gG {w:World} {base:Nat} {e:TypeId} {size n:Nat} {v:Value} {xs:List Value} (h:w.ownsRow base e size v n xs):(v=Sl none 0 0∧n=0∧xs= [])∨ ∃g c,v=Sl (V ⟨g,0,O⟩) n c∧ ∀j u,xs[j]?=some u→w.cell? ((⟨g,0,O⟩:Addr).add j)=some u:=by
 have h0:=h;rcases h with ⟨hl,⟨rfl,rfl⟩ |⟨g,cap,cur,rfl,_⟩⟩
 ·exact Or.inl ⟨rfl,rfl,by simpa using hl⟩
 ·exact Or.inr ⟨g,cap,rfl,fun j u hu=>h0.cells rfl j u hu⟩
theorem zjI {P:Program} {w:World} (base:Nat) (t ty e:TypeId) (i:TypeInfo) (z:Value) (size bytes:Nat) (ht:P.underlying t=V (.slice e)) (hi:P.info? e=some i) (hz:i.zero=some z)
  (hsize:i.size=size) (hby:i.bytes=bytes) (hzs:z.cells.size=size) (hsz:0<size)
  {v:Value} {n:Nat} {xs:List Value} (hown:w.ownsRow base e size v n xs) {b2:Nat} {v2:Value} {m:Nat} {ys:List Value} (h2:w.ownsRow b2 e size v2 m ys) (h1: ∀u∈ys,u.oneCell'=true)
  (h63:n+m≤maxLen) (hbytes:(n+m)*bytes≤140737488355328) (hbase:base≤w.heap.size):
  ∃v' w',(Builtin.append_ #[t,t] ty #[v,v2]).run P w= .ok v' w'∧w'.ownsRow base e size v' (n+m) (xs++ys)∧w.grownBy w' v.ownBlock∧(v'.ownBlock=v.ownBlock∨v'.ownBlock=some w.heap.size):=by
 rcases gG h2 with ⟨rfl,rfl,rfl⟩ |⟨g,c,rfl,hc⟩
 ·refine ⟨v,w,run_append_owned_none (P:=P) (w:=w) base t ty e i size ht hi v n xs hown,?_,⟨rfl,rfl,rfl,Nat.le_refl _,fun _ _ _=>rfl⟩,Or.inl rfl⟩;rw[List.append_nil];exact hown
 ·obtain ⟨v',w',hrun,q2,q3,_,q4⟩:=run_append_own_at (P:=P) w base t ty e i z size bytes ht hi hz hsize hby hzs hsz v n xs hown ⟨g,0,O⟩ m c ys h2.1 hc h1 h63 hbytes hbase;exact ⟨v',w',hrun,q2,q3,q4⟩
end
namespace Kn
open Asm Hp
def view (l:List Zt) (id:Int):Option (Int×Bool):=(KF l id).map fun t=>(t.state,t.stepping)
def ziI (o:Option (Int×Bool)):Prop:= ∃p,o=some p∧(p.1=4→p.2=true)
theorem zrF {l:List Zt} {id:Int} {p:Nat} {r:Zt} (h:ofT l id=V (p,r)):view l id=V (r.t.state,r.t.stepping):=by
 unfold view KF;rw[h];rfl
theorem zcB {l:List Zt} {id:Int} (h:ofT l id=none):view l id=none:=by
 unfold view KF;rw[h];rfl
def zjJ (M:zD):List Int:=M.wkrs.map (·.hand)
def slotsOf (M:zD):List Int:=M.wkrs.map (·.slot)
def Based (r:Run):Prop:=(∃f l,r.l=f::l∧f.lib=false)∧r.l.length≤9∧(r.l.length=9→(zZ r).lib=true)
structure zzW (ring hands slots:List Int) (v:Int→Option (Int×Bool)):Prop where
 once: ∀id,id≠0→ring.count id+hands.count id+slots.count id≤1
 away: ∀id,id≠0→id∈ring∨id∈hands→ ∃p,v id=some p∧(p.1=1∨p.1=4∧p.2=true)
 on: ∀id,id≠0→id∈slots→ ∃p,v id=some p∧(p.1=2∨p.1=4∧p.2=true)
structure Inv (M:zD):Prop where
 nod:(M.runs.map (·.id)).Nodup
 has: ∀id,(zR M.runs id).isSome=true↔ziI (view M.tab id)
 base: ∀r∈M.runs,Based r
 pl:zzW M.ring (zjJ M) (slotsOf M) (view M.tab)
 slp: ∀s∈M.slps,ziI (view M.tab s.id)
 clk: ∀t∈M.clk.S,ziI (view M.tab t.w)
theorem Za {l:List Run} {id:Int} {r:Run} (h:zR l id=some r):r∈l∧r.id=id:=⟨List.mem_of_find?_eq_some h,by simpa using List.find?_some h⟩
theorem jI {l:List Run} (hn:(l.map (·.id)).Nodup) {r:Run} (hr:r∈l):zR l r.id=some r:=by
 induction l with
 |nil=>cases hr
 |cons a l ih=>
  rw[List.map_cons,List.nodup_cons] at hn
  unfold zR
  rw[List.find?_cons]
  rcases List.mem_cons.1 hr with e|e
  ·subst e;simp
  ·have:(a.id==r.id)=false:=by
    simp
    intro e2
    exact hn.1 (by rw[e2];exact List.mem_map_of_mem (f:=(·.id)) e)
   rw[this]
   exact ih hn.2 e
theorem ziz (l:List Run) (r:Run):(Zb l r).map (·.id)=l.map (·.id):=by
 unfold Zb;rw[List.map_map];apply List.map_congr_left;intro s _;simp only[Function.comp];split
 ·rename_i h;exact (eq_of_beq h).symm
 ·rfl
theorem vV {l:List Run} (hn:(l.map (·.id)).Nodup) {r0 r:Run} (h0:zR l r.id=some r0) (x:Int):zR (Zb l r) x=if x=r.id then some r else zR l x:=by
 induction l with
 |nil=>cases h0
 |cons a l ih=>
  rw[List.map_cons,List.nodup_cons] at hn
  unfold zR Zb at*
  rw[List.map_cons,List.find?_cons,List.find?_cons]
  rw[List.find?_cons] at h0
  by_cases ha:a.id=r.id
  ·have e1:(a.id==r.id)=true:=by simp[ha]
   rw[if_pos e1]
   by_cases hx:x=r.id
   ·subst hx;simp
   ·have e2:(r.id==x)=false:=by simp;exact fun e=>hx e.symm
    have e3:(a.id==x)=false:=by rw[ha];exact e2
    rw[e2,e3,if_neg hx]
    have e4:(l.map fun s=>if s.id==r.id then r else s)=l:=by
     conv=>rhs;rw[←List.map_id l]
     apply List.map_congr_left
     intro s hs
     have:(s.id==r.id)=false:=by
      simp
      intro e
      exact hn.1 (by rw[ha,←e];exact List.mem_map_of_mem (f:=(·.id)) hs)
     rw[this]
     rfl
    rw[e4]
  ·have e1:(a.id==r.id)=false:=by simp[ha]
   rw[e1] at h0
   rw[if_neg (by rw[e1];exact Bool.false_ne_true)]
   by_cases hx:a.id=x
   ·have e2:(a.id==x)=true:=by simp[hx]
    rw[e2,if_neg (by rw[←hx];exact ha)]
   ·have e2:(a.id==x)=false:=by simp[hx]
    rw[e2]
    exact ih hn.2 h0
theorem zjA {α:Type} {l:List α} {i:Nat} {x:α} (h:l[i]?=some x):l.set i x=l:=by
 apply List.ext_getElem?;intro j;rw[List.getElem?_set];split
 ·rename_i e;subst e;split
  ·exact h.symm
  ·rename_i hl;rw[List.getElem?_eq_none Y1]
 ·rfl
abbrev aB:=Int→Option (Int×Bool)
section
variable {ring hands slots:List Int} {v v':aB}
end
def zqk (l:List Zt):Prop:= ∀home id l',gF l home=V (id,l')→id≠0∧view l id=none∧ ∀x,view l' x=if x=id then some (1,false) else view l x
theorem zbE {α:Type} {P:α→Prop} {c:Prop} [Decidable c] {a b:α} (h1:c→P a) (h2: ¬c→P b):P (if c then a else b):=by
 split
 ·exact h1 Y44
 ·exact h2 Y44
section
variable (F:Fixed) (M:zD) (i:Nat) (t:Option Int) (x:zx)
theorem zoh (id:Int) (ho:x.op=24∨x.op=28∨x.op=51∨x.op=53∨x.op=55∨x.op=56∨x.op=58):special F M i (some id) x=bW F M i id x:=by
 unfold special;simp only[if_pos ho]
theorem ztp (ho:x.op=36):special F M i t x=if zam M.mem 0=rg (zA M i t) x.a then (1,setW M i { zl M i with parked:=true}) else (0,setW M i { zl M i with parked:=false}):=by
 exact J81
theorem ztm (ho:x.op=34):special F M i t x=(0,if (zl M i).hand=0 then zG (setW { M with ring:=M.ring.drop 1} i { zl M i with hand:=M.ring.headD 0}) i t x.a (M.ring.headD 0) else zG M i t x.a 0):=by
 exact J81
theorem zte (ho:x.op=35):special F M i t x=(0,if (zl M i).hand≠0∧rg (zA M i t) x.a=(zl M i).hand∧(zl M i).slot=0 then setW { M with tab:=beT M.tab (zl M i).hand 2} i { zl M i with slot:=(zl M i).hand,hand:=0,left:=24} else M):=by
 exact J81
theorem ztk (ho:x.op=43):special F M i t x=(0,if (if 0≤x.b then rg (zA M i t) x.b else x.v)≤4096 then (match kL M.alc M.mem (if 0≤x.b then rg (zA M i t) x.b else x.v).toNat 64 with|none=>zG M i t x.a 0|some (at',alc,mem)=>zG { M with alc:=alc,mem:=mem} i t x.a at') else zG M i t x.a 0):=by
 exact J81
theorem ztn (ho:x.op=45):special F M i t x=(0,if x.v≤6 then zG { M with objs:=(kg M.objs x.v (rg (zA M i t) x.b)).2} i t x.a (kg M.objs x.v (rg (zA M i t) x.b)).1 else zG M i t x.a 0):=by
 exact J81
theorem zj4 (ho:x.op=23∨x.op=41∨x.op=37∨x.op=40∨x.op=42∨x.op=29∨x.op=38∨x.op=39∨x.op=47):special F M i t x=(0,zG M i t x.a (told F M i t x)):=by
 rcases ho with ho|ho|ho|ho|ho|ho|ho|ho|ho
 all_goals
  unfold special;simp only[ho,Int.reduceEq,or_self,if_false]
theorem ztr (id:Int) (ho:x.op=58):bW F M i id x=(1,answer M id (rg (zA M i (some id)) 0) (rg (zA M i (some id)) 1)):=by
 unfold bW;simp only[ho,Int.reduceEq,if_false,if_true];all_goals rfl
end
def zfg (op:Int):Bool:=op==34||op==35||op==36||op==38||op==39||op==40||op==42
def znw (F:Fixed) (A:zD):Bool:=match Zc F.lib (zl A 0).f.pc with
 |none=>false
 |some x=>(zK (zl A 0).f F.lib A.mem).how==0||((zK (zl A 0).f F.lib A.mem).how==1&&zfg x.op)
def upd (A:zD) (e:Int) (c:bJ) (d:Int):zD:={ A with entries:=e+1,pos:=e,clk:=c,draw:=d,out:=A.out.map fun x=>{ x with pos:=e}}
def okU (op:Int):Bool:=op==34||op==35||op==38||op==39||op==40||op==43||op==45||op==58
section
variable {F:Fixed} {A:zD} {e d:Int} {c:bJ} {i:Nat}
theorem zbh (v:Ev):tell (upd A e c d) v=upd (tell A v) e c d:=by
 unfold tell upd;simp only[List.map_append,List.map_cons,List.map_nil]
theorem jP (t:Option Int) (f:Frame):Zu (upd A e c d) i t f=upd (Zu A i t f) e c d:=by
 cases t with
 |none=>rfl
 |some id=>
  unfold Zu
  simp only
  have h:zR (upd A e c d).runs id=zR A.runs id:=rfl
  rw[h]
  cases zR A.runs id<;>rfl
theorem zqd (t:Option Int):zA (upd A e c d) i t=zA A i t:=rfl
theorem KV (t:Option Int) (a v:Int):zG (upd A e c d) i t a v=upd (zG A i t a v) e c d:=jP _ _
theorem zft (t:Option Int):VQ (upd A e c d) i t=upd (VQ A i t) e c d:=jP _ _
theorem zfu (id:Int) (f:Frame) (x:zx):Vn (upd A e c d) id f x=upd (Vn A id f x) e c d:=by
 unfold Vn;simp only;generalize (if Gm x.op=true then rg f x.a else 0)=k;split
 ·rfl
 ·split
  ·exact zbh _
  ·rfl
theorem zsR (id:Int):GU (upd A e c d) id=upd (GU A id) e c d:=by
 unfold GU;have h:zR (upd A e c d).runs id=zR A.runs id:=rfl;rw[h];cases zR A.runs id<;>rfl
theorem Js (id num k v:Int):returned (upd A e c d) id num k v=upd (returned A id num k v) e c d:=by
 unfold returned
 have h:zR (upd A e c d).runs id=zR A.runs id:=rfl
 rw[h]
 cases zR A.runs id with
 |none=>rfl
 |some r=>exact zbh (A:={ A with runs:=Zb A.runs (zW r { zZ r with f:=vC (vC (zZ r).f 0 k) 1 v})}) _
theorem zbL (id k v:Int):answer (upd A e c d) id k v=upd (answer A id k v) e c d:=by
 unfold answer
 have h:zR (upd A e c d).runs id=zR A.runs id:=rfl
 rw[h]
 cases zR A.runs id with
 |none=>rfl
 |some r=>simp only;rw[zsR];exact Js _ _ _ _
theorem zeT (t:Option Int) (x:zx) (ho:okU x.op=true):special F (upd A e c d) i t x=((special F A i t x).1,upd (special F A i t x).2 e c d):=by
 unfold okU at ho;simp only[Bool.or_eq_true,beq_iff_eq] at ho;rcases ho with ((((((ho|ho) |ho) |ho) |ho) |ho) |ho) |ho
 all_goals
  unfold special
  simp only[ho,Int.reduceEq,or_self,if_false,if_true,or_true]
 ·show ((0:Int),if (zl A i).hand=0 then _ else _)=_;by_cases h:(zl A i).hand=0
  ·rw[if_pos h,if_pos h];exact congrArg (Prod.mk (0:Int)) (KV (A:=setW { A with ring:=A.ring.drop 1} i { zl A i with hand:=A.ring.headD 0}) _ _ _)
  ·rw[if_neg h,if_neg h];exact congrArg (Prod.mk (0:Int)) (KV _ _ _)
 ·show ((0:Int),if (zl A i).hand≠0∧rg (zA A i t) x.a=(zl A i).hand∧(zl A i).slot=0 then _ else _)=_;by_cases h:(zl A i).hand≠0∧rg (zA A i t) x.a=(zl A i).hand∧(zl A i).slot=0
  ·rw[if_pos h,if_pos h];rfl
  ·rw[if_neg h,if_neg h]
 ·exact zx7
 ·exact zx7
 ·have:told F (upd A e c d) i t x=told F A i t x:=by unfold told;simp only[ho,Int.reduceEq,if_false,if_true]
  rw[this];exact congrArg (Prod.mk (0:Int)) (KV _ _ _)
 ·have e1:zA (upd A e c d) i t=zA A i t:=rfl;rw[e1];generalize (if 0≤x.b then rg (zA A i t) x.b else x.v)=n;by_cases hn:n≤4096
  ·rw[if_pos hn,if_pos hn]
   have e2:kL (upd A e c d).alc (upd A e c d).mem n.toNat 64=kL A.alc A.mem n.toNat 64:=rfl
   rw[e2]
   cases kL A.alc A.mem n.toNat 64 with
   |none=>exact congrArg (Prod.mk (0:Int)) (KV _ _ _)
   |some p=>obtain ⟨at',alc,mem⟩:=p;exact congrArg (Prod.mk (0:Int)) (KV (A:={ A with alc:=alc,mem:=mem}) _ _ _)
  ·rw[if_neg hn,if_neg hn];exact congrArg (Prod.mk (0:Int)) (KV _ _ _)
 ·by_cases hn:x.v≤6
  ·rw[if_pos hn,if_pos hn];exact congrArg (Prod.mk (0:Int)) (KV (A:={ A with objs:=(kg A.objs x.v (rg (zA A i t) x.b)).2}) _ _ _)
  ·rw[if_neg hn,if_neg hn];exact congrArg (Prod.mk (0:Int)) (KV _ _ _)
 ·cases t with
  |none=>rfl
  |some id=>
   simp only;unfold bW;simp only[ho,Int.reduceEq,if_false,if_true];exact congrArg (Prod.mk (1:Int)) (zbL _ _ _)
def zjP (F:Fixed) (A:zD) (i:Nat) (t:Option Int):Bool:=
 (zK (zA A i t) F.lib A.mem).how==0||((zK (zA A i t) F.lib A.mem).how==1&&okU ((Zc F.lib (zA A i t).pc).getD ⟨0,0,0,0,0,0,0⟩).op)
theorem zan (t:Option Int) (ho:zjP F A i t=true):library F (upd A e c d) i t=((library F A i t).1,upd (library F A i t).2 e c d):=by
 unfold zjP at ho;simp only[Bool.or_eq_true,Bool.and_eq_true,beq_iff_eq] at ho;unfold library;have e1:zA (upd A e c d) i t=zA A i t:=rfl;have e2:(upd A e c d).mem=A.mem:=rfl;simp only[e1,e2];rcases ho with ho|⟨ho,hop⟩
 ·simp only[ho,if_true];refine congrArg (Prod.mk (0:Int)) ?_;have:=jP (A:={ A with mem:=(zK (zA A i t) F.lib A.mem).mem}) (e:=e) (c:=c) (d:=d) (i:=i) t (zK (zA A i t) F.lib A.mem).f;exact (congrArg (fun M=>Vn M _ _ _) this).trans (zfu _ _ _)
 ·simp only[ho,if_true,Int.reduceEq,if_false];generalize (Zc F.lib (zA A i t).pc).getD ⟨0,0,0,0,0,0,0⟩=x at*;have h57:x.op≠57:=fun q=>by rw[q] at hop;cases hop
  rw[if_neg h57,if_neg h57,zeT t x hop];generalize special F A i t x=p;obtain ⟨k,B⟩:=p;simp only;by_cases c0:k=0
  ·rw[if_pos c0,if_pos c0];refine congrArg (Prod.mk (0:Int)) ?_;rw[zft,zqd];exact zfu _ _ _
  ·rw[if_neg c0,if_neg c0];by_cases c1:k=1
   ·rw[if_pos c1,if_pos c1]
   ·rw[if_neg c1,if_neg c1]
theorem zqI (id num:Int):bD F (upd A e c d) id num=upd (bD F A id num) e c d:=by
 unfold bD
 have h:zR (upd A e c d).runs id=zR A.runs id:=rfl
 rw[h]
 cases zR A.runs id with
 |none=>rfl
 |some r=>
  simp only
  rw[zbh]
  have hr: ∀a0 a1 a2 a3,refused F (upd A e c d) r num a0 a1 a2 a3=refused F A r num a0 a1 a2 a3:=fun _ _ _ _=>rfl
  rw[hr]
  by_cases q:refused F A r num (rg (zZ r).f 0) (rg (zZ r).f 1) (rg (zZ r).f 2) (rg (zZ r).f 3)≠0
  ·rw[if_pos q,if_pos q];exact Js _ _ _ _
  ·rw[if_neg q,if_neg q]
   cases rowOf F.calls num<;>rfl
def zuy (F:Fixed) (A:zD) (i:Nat) (id:Int):Bool:=match Zc F.code (zA A i (some id)).pc with
 |none=>false
 |some x=>x.op==22||((x.op==1||x.op==2)&& (zK (zA A i (some id)) F.code A.mem).how==0)
theorem ziH (id:Int) (ho:zuy F A i id=true):VN F (upd A e c d) i id=upd (VN F A i id) e c d:=by
 unfold zuy at ho
 unfold VN
 have e1:zA (upd A e c d) i (some id)=zA A i (some id):=rfl
 have e2:(upd A e c d).mem=A.mem:=rfl
 simp only[e1,e2]
 cases hx:Zc F.code (zA A i (some id)).pc with
 |none=>rw[hx] at ho;cases ho
 |some x=>
  rw[hx] at ho
  simp only[Bool.or_eq_true,Bool.and_eq_true,beq_iff_eq] at ho
  simp only
  rcases ho with ho|⟨hop,ho⟩
  ·rw[if_neg Y1,if_pos ho,if_neg Y1,if_pos ho,zft]
   exact zqI _ _
  ·have n1: ¬(17≤x.op∧x.op≤21):=Y1
   have n2: ¬x.op=22:=Y1
   have n3: ¬(x.op=16∧(zA A i (some id)).back= []):=fun q=>by have:=q.1;omega
   rw[if_neg n1,if_neg n1,if_neg n2,if_neg n2,if_neg n3,if_neg n3,ho,if_neg Y2,if_neg Y2]
   exact jP _ _
def jF (F:Fixed) (A:zD):Bool:=
 if (zl A 0).slot=0 then zjP F (setW A 0 { zl A 0 with parked:=false}) 0 none
 else match zR A.runs (zl A 0).slot with
  |none=>false
  |some r=>if (zZ r).lib=false then (zl A 0).left !=0&&zuy F (setW A 0 { zl A 0 with left:=if 1≤(zl A 0).left then (zl A 0).left - 1 else 0}) 0 r.id
   else zjP F (setW A 0 { zl A 0 with left:=if 1≤(zl A 0).left then (zl A 0).left - 1 else 0}) 0 (some r.id)
theorem znA (h:jF F A=true):kY F (upd A e c d) 0=upd (kY F A 0) e c d:=by
 unfold jF at h;unfold kY;have e1:zl (upd A e c d) 0=zl A 0:=rfl;have e2:(upd A e c d).runs=A.runs:=rfl;have e3: ∀k,setW (upd A e c d) 0 k=upd (setW A 0 k) e c d:=fun _=>rfl;simp only[e1,e2,e3];by_cases hs:(zl A 0).slot=0
 ·rw[if_pos hs] at h;rw[if_pos hs,if_pos hs,zan none h];generalize library F (setW A 0 { zl A 0 with parked:=false}) 0 none=p;obtain ⟨k,B⟩:=p;simp only;by_cases hc:k=2∨k=3
  ·rw[if_pos hc,if_pos hc];try rfl
  ·rw[if_neg hc,if_neg hc]
 ·rw[if_neg hs] at h
  rw[if_neg hs,if_neg hs]
  cases hr:zR A.runs (zl A 0).slot with
  |none=>simp[hr] at h
  |some r=>
   rw[hr] at h;simp only at h ⊢;by_cases hl:(zZ r).lib=false
   ·rw[if_pos hl] at h;simp only[Bool.and_eq_true,bne_iff_ne,ne_eq] at h;have q1: ¬((zZ r).lib=false∧(zl A 0).left=0):=fun q=>h.1 q.2;rw[if_neg q1,if_neg q1,if_pos hl,if_pos hl];exact ziH _ h.2
   ·rw[if_neg hl] at h;have q1: ¬((zZ r).lib=false∧(zl A 0).left=0):=fun q=>hl q.1;rw[if_neg q1,if_neg q1,if_neg hl,if_neg hl,zan _ h];generalize library F _ 0 (some r.id)=p;obtain ⟨k,B⟩:=p;simp only;by_cases hc:k=2∨k=3
    ·rw[if_pos hc,if_pos hc];exact zbL _ _ _
    ·rw[if_neg hc,if_neg hc]
end
end Kn
end Go.Proofs.YtdlpmnmenhojfaaGreatDoor
