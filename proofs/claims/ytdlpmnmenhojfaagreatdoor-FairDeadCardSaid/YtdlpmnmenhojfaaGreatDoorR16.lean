/- Part 16 of what the proof stands on: KnOthers, KnThings, KnHandy, KnGood, KnGoodB, KnNewK, KnNewL. -/
import Derived.Test.YtdlpmnmenhojfaaGreatDoorR15
set_option linter.unusedVariables false
set_option maxHeartbeats 40000000
set_option maxRecDepth 100000
variable {zP:Prop}
namespace Go.Proofs.YtdlpmnmenhojfaaGreatDoor
open Go.IntKind renaming i64->Z,u64->J
open Go.Value renaming int->E,pointer->Y,slice->Sl
open Option renaming none->O,some->V
open Go.Obj renaming cells->Ce
open Go.Ending renaming returned->Rt
open Go.Proofs.Tryz renaming prog->Tp
namespace Kn
open Go.RowKit Asm
section
variable {F:Fixed} {w:World} {own:Own} {G:KG} {M:zD} {n:Nat}
theorem zfD {l:List Run} (hn:(l.map (·.id)).Nodup) {r:Run} (hr:r∈l):Zb l r=l:=by
 unfold Zb;conv=>rhs;rw[←List.map_id l]
 apply List.map_congr_left;intro s hs;by_cases e:s.id=r.id
 ·have h1:=jI hn hs;have h2:=jI hn hr;rw[e,h2] at h1;injection h1 with h1
  subst h1;simp
 ·have:(s.id==r.id)=false:=by simp[e]
  rw[this];rfl
theorem zi.JJ (h:zi F w own G M n) {i:Nat} (hi:i<F.workers) {t:Option Int} {b o:Nat} (fa:VZ G M i t b o):Zu M i t (zA M i t)=M:=by
 cases t with
 |none=>
  show setW M i (zl M i)=M
  unfold setW
  have:M.wkrs.set i (zl M i)=M.wkrs:=zjA (by
   unfold zl
   rw[List.getD_eq_getElem?_getD,List.getElem?_eq_getElem (h.bV hi)]
   rfl)
  rw[this]
 |some id=>
  obtain ⟨r,hr,hne,-,-⟩:=fa
  unfold Zu zA
  simp only[hr]
  have e1:zW r { zZ r with f:=(zZ r).f}=r:=by
   show ({ r with l:=r.l.dropLast++ [r.l.getLastD {}]}:Run)=r
   have:r.l.dropLast++ [r.l.getLastD {}]=r.l:=by
    have h1:r.l.getLastD {}=r.l.getLast hne:=by rw[List.getLastD_eq_getLast?,List.getLast?_eq_some_getLast hne];rfl
    rw[h1]
    exact List.dropLast_concat_getLast hne
   rw[this]
  rw[e1,zfD h.runs.nod (Za hr).1]
end
section
variable {F:Fixed} {w:World} {own:Own} {G:KG} {M:zD} {n:Nat}
theorem zp6 (l:List Vd) (k a:Int):Zm (kg l k a).1:=by
 unfold kg;split
 ·exact VH
 ·split
  ·exact VH
  ·simp only;unfold Zm;omega
theorem zck (hn:(M.runs.map (·.id)).Nodup) {i:Nat} {t:Option Int} {b o:Nat} (fa:VZ G M i t b o) (f g:Frame):Zu (Zu M i t f) i t g=Zu M i t g:=by
 cases t with
 |none=>
  show setW (setW M i { zl M i with f:=f}) i { zl (setW M i { zl M i with f:=f}) i with f:=g}=setW M i { zl M i with f:=g}
  rw[Gt]
  by_cases hi:i<M.wkrs.length
  ·rw[Va hi]
  ·unfold setW
   simp only
   rw[List.set_eq_of_length_le Y1,List.set_eq_of_length_le Y1]
 |some id=>
  obtain ⟨r,hr,hne,-,-⟩:=fa
  have hid:=(Za hr).2
  have e1:Zu M i (some id) f={ M with runs:=Zb M.runs (zW r { zZ r with f:=f})}:=by unfold Zu;simp only[hr]
  have e3:Zu M i (some id) g={ M with runs:=Zb M.runs (zW r { zZ r with f:=g})}:=by unfold Zu;simp only[hr]
  have e2:zR (Zb M.runs (zW r { zZ r with f:=f})) id=V (zW r { zZ r with f:=f}):=by
   rw[vV hn (r0:=r) Y15,if_pos Y30]
  rw[e1,e3]
  unfold Zu
  simp only[e2]
  have e4:zW (zW r { zZ r with f:=f}) { zZ (zW r { zZ r with f:=f}) with f:=g}=zW r { zZ r with f:=g}:=by
   simp[zW,zZ]
  rw[e4]
  have e5:Zb (Zb M.runs (zW r { zZ r with f:=f})) (zW r { zZ r with f:=g})=Zb M.runs (zW r { zZ r with f:=g}):=by
   unfold Zb
   rw[List.map_map]
   apply List.map_congr_left
   intro s _
   simp only[Function.comp]
   by_cases e:s.id=r.id
   ·have q:(s.id==(zW r { zZ r with f:=f}).id)=true:=by simp[zW,e]
    simp[zW,e]
   ·have q:(s.id==r.id)=false:=by simp[e]
    simp[zW,q]
  rw[e5]
theorem a44.Q21 (h:zP:=by
 clear k7 k8 k9 kr kq kt ko kh;obtain ⟨k7,k8,k9,kr,kq,kt,ko,kh⟩:=h1.Vz;obtain ⟨AB,-,-,-⟩:=h1.reg HI.out iD.out kb hkb2;rw[show rg (zA M i t) kb=vb from ug.out] at AB;have z4:=ze BZ.out 4;have z2:=ze BZ.out 2;have lY:Hid (Calls Tp 279 #[Y (V ⟨G.aA,0,O⟩),E Z xv,E J vb] w1.drew fun e w'=>(∃ev,e=Rt (.tuple #[E J (kg M.objs xv vb).1,ev]))∧KO F w1 aC G { M with objs:=(kg M.objs xv vb).2} (n+1) w'∧w'.cell? ⟨G.K,1013,O⟩=V (Y (V ⟨G.aA,0,O⟩))∧w'.cell? ⟨b,o+1+kb,O⟩=V (E J vb)∧w'.cell? ⟨bx,4,O⟩=V (E J xv)∧w'.cell? ⟨bx,2,O⟩=V (E Z kb)):=Y0 ((zvV h1.drew xv vb QW.out.1 Iw.out (by have:=HN.out;omega)).mono fun e w' ⟨a,vQ,h2,t2⟩=>by
  obtain ⟨x1,-,-⟩:=t2.other BO.out (zo BZ.out)
  have zz:=x1.trans BZ.out
  obtain ⟨q0,-⟩:=h2.reg (t:=t) HI.out Y38 kb hkb2
  rw[show rg (zA { M with objs:=(kg M.objs xv vb).2} i t) kb=vb from ug.out] at q0
  exact ⟨a,⟨vQ,h2,(Zv _ _).trans t2⟩,h2.ztC,q0,ze zz 4,ze zz 2⟩)
 have H1:=Y0 h1;clear h1;go_wp2_with fail;go_region_held3 (fun W=>W.cell? ⟨G.K,1013,O⟩=V (Y (V ⟨G.aA,0,O⟩))∧W.cell? ⟨b,o+1+kb,O⟩=V (E J vb)∧W.cell? ⟨bx,4,O⟩=V (E J xv)∧W.cell? ⟨bx,2,O⟩=V (E Z kb)) (first|with_reducible exact ⟨ko,AB,z4,z2⟩ |exact ⟨ko,AB,z4,z2⟩ |with_reducible exact ⟨y0,y1,y2,y3⟩) (first|(go_at_call 279;refine lY.out.mono ?_;rintro e w2 ⟨⟨ev,rfl⟩,L8,y0,y1,y2,y3⟩));obtain ⟨vQ,h2,t2⟩:=L8;have HT:=Y0 (HT.out.trans t2);have iT:=Y0 (h2.KT HI.out (t:=t) Y38 hk2 Qu.out);obtain ⟨u0,-,u1,-⟩:=h2.reg (t:=t) HI.out Y38 k hk2;clear h2 t2 y0 y1 y2 y3;go_wp2_with fail;go_end0;exact ⟨rfl,KO.trans HT.out iT.out⟩):zP:=h
theorem a44.Q24 (h:zP:=by
 by_cases hl:xv≤6
 ·rw[if_pos hl];have hv1:0≤xv:=hv.1;have hcv:IntKind.i64.wrap xv=xv:=gT;have QW:=Y0 hv;have HN:=Y0 hn;have Qu:=Y0 (zp6 M.objs xv vb);clear hv hn;exact zuA
 ·rw[if_neg hl];have hl2:6<xv:=Y1;clear hl hn hv;go_enter Tryz.func227,Tryz.ntmps227;go_wp2_with fail;go_quiet (fail);go_wp2_with fail;have hb:=HB.out nq;have h1:=H.out.below hb;have HT:=Y0 (zU (ts:=fun t=>t≠ .other) (t:= .other) (own:=own) hb);have BO:Hid (ext own w.heap.size .other w.heap.size= .other):=Y0 (Zo (Or.inr (Nat.le_refl _)));have BZ:Hid (((w.alloc (Ce #[E Z xo,E Z k,E Z kb,E Z xc,E J xv,E Z xm,E Z xw] 111)).drewN nq).heap[w.heap.size]?=V (Ce #[E Z xo,E Z k,E Z kb,E Z xc,E J xv,E Z xm,E Z xw] 111 (0,0))):=HZ;generalize (w.alloc (Ce #[E Z xo,E Z k,E Z kb,E Z xc,E J xv,E Z xm,E Z xw] 111)).drewN nq=w1 at*
  generalize w.heap.size=bx at*;generalize ext own bx .other=aC at*;clear hb;have iT:=Y0 (h1.KT HI.out (t:=t) Y38 hk2 VH);obtain ⟨u0,-,u1,-⟩:=h1.reg (t:=t) HI.out Y38 k hk2;clear h1;go_wp2_with fail;go_end0;exact ⟨rfl,(KO.trans HT.out iT.out).more (Nat.le_succ n)⟩):zP:=h
theorem a44.zvx (h:zP:=by
 go_wp2_with fail;exact J21):zP:=h
open a44 in
theorem zlK (h:zi F w own G M n) {i:Nat} (hi:i<F.workers) {t:Option Int} {b o:Nat} (fa:VZ G M i t b o) (x:zx) (ho:x.op=45) (ha:0≤x.a∧x.a<32) (hb:0≤x.b∧x.b<32) (hv:Zm x.v) (hn:n≤100000):
  Calls Tp 227 #[Y (V ⟨G.K,0,O⟩),Y (V ⟨b,o,O⟩), .agg (zS x)] w fun r w'=>r= .returned (.tuple #[])∧KO F w own G (if x.v≤6 then zG { M with objs:=(kg M.objs x.v (rg (zA M i t) x.b)).2} i t x.a (kg M.objs x.v (rg (zA M i t) x.b)).1 else zG M i t x.a 0) (n+1) w':=by
 exact J24
theorem zoy {a:Alc} {m:Mem} {n:Nat} {v:Int} {p:Nat} {a':Alc} {m':Mem} (h:kL a m n v=V (p,a',m')):p+n≤m.ws.length:=by
 unfold kL at h;split at h
 ·cases h
 ·split at h
  ·cases h
  ·rename_i q k _;split at h
   ·rename_i hf;injection h with h
    injection h with h1 _
    subst h1;unfold Mem.free? at hf;rw[Bool.and_eq_true] at hf;exact of_decide_eq_true hf.1
   ·cases h
theorem zi.zif (h:zi F w own G M n) {q p:Nat} {a':Alc} {m':Mem} {v:Int} (e:kL M.alc M.mem q v=V (p,a',m')):p≤65536:=by
 obtain ⟨gc,gw,hm,-⟩:=h.mem;have:=zoy e;have:=hm.ok.len;have:=hm.ok.most;omega
def jM (M:zD) (i:Nat) (t:Option Int) (a nn:Int):zD:=if nn≤4096 then (match kL M.alc M.mem nn.toNat 64 with|none=>zG M i t a 0|some (at',alc,mem)=>zG { M with alc:=alc,mem:=mem} i t a at') else zG M i t a 0
theorem Gi (hn:(M.runs.map (·.id)).Nodup) {i:Nat} (hi:i<M.wkrs.length) {t:Option Int} {b o:Nat} (fa:VZ G M i t b o) (k u v:Int):zG (zG M i t k u) i t k v=zG M i t k v:=by
 unfold zG;rw[zck hn fa];have hg:zA (Zu M i t (vC (zA M i t) k u)) i t=vC (zA M i t) k u:=by
  cases t with
  |none=>
   show (zl (setW M i { zl M i with f:=vC (zA M i none) k u}) i).f=_;rw[Va hi]
  |some id=>
   obtain ⟨r,hr,-,-,-⟩:=fa;have hid:=(Za hr).2;have e1:Zu M i (some id) (vC (zA M i (some id)) k u)={ M with runs:=Zb M.runs (zW r { zZ r with f:=vC (zA M i (some id)) k u})}:=by unfold Zu;simp only[hr]
   rw[e1];unfold zA;simp only;rw[vV hn (r0:=r) Y15,if_pos Y30];simp[zW,zZ]
 rw[hg];unfold vC;simp
theorem VZ.Zu {i:Nat} {t:Option Int} {b o:Nat} (fa:VZ G M i t b o) (hn:(M.runs.map (·.id)).Nodup) (f:Frame):VZ G (Kn.Zu M i t f) i t b o:=by
 cases t with
 |none=>exact fa
 |some id=>
  obtain ⟨r,hr,hne,h1,h2⟩:=fa
  have hid:=(Za hr).2
  have e1:Kn.Zu M i (some id) f={ M with runs:=Zb M.runs (zW r { zZ r with f:=f})}:=by unfold Kn.Zu;simp only[hr]
  rw[e1]
  have hl:(zW r { zZ r with f:=f}).l.length=r.l.length:=by
   have:0<r.l.length:=List.length_pos_iff.2 hne
   simp[zW]
   omega
  refine ⟨zW r { zZ r with f:=f},?_,fun e=>hne (by rw[←List.length_eq_zero_iff,←hl,e];rfl),by rw[hl];exact h1,h2⟩
  show zR (Zb M.runs (zW r { zZ r with f:=f})) id=_
  rw[vV hn (r0:=r) Y15,if_pos Y30]
theorem KS (M:zD) (i:Nat) (t:Option Int) (k v:Int):(zG M i t k v).alc=M.alc∧(zG M i t k v).mem=M.mem:=by
 unfold zG Zu
 cases t with
 |none=>exact ⟨rfl,rfl⟩
 |some id=>
  simp only
  split<;>exact ⟨rfl,rfl⟩
theorem zhC (M:zD) (i:Nat) (t:Option Int) (k v:Int) (a:Alc) (m:Mem):{ zG M i t k v with alc:=a,mem:=m}=zG { M with alc:=a,mem:=m} i t k v:=by
 unfold zG Zu zA
 cases t with
 |none=>rfl
 |some id=>
  simp only
  cases zR M.runs id<;>rfl
theorem a45.Q11 (h:zP:=by
 exact J34):zP:=h
theorem a45.Q34 (h:zP:=by
 exact zyN):zP:=h
theorem a45.Q38 (h:zP:=by
 have HR:Hid (jM M i t k xv=zG { M with alc:=a',mem:=m'} i t k p):=iU;clear h3 t3 rU e9;exact zsq):zP:=h
theorem a45.Q50 (h:zP:=by
 obtain ⟨MQ,ua,fa1,Dy⟩:=h.reg hi fa k hk2;obtain ⟨xo,xa,xb,xc,xv,xm,xw⟩:=x;simp only at ho hk ⊢;subst hk;have e43:=ZH ho 43;have e44:=ZH ho 44;have e45:=ZH ho 45;have e46:=ZH ho 46;simp only[Int.reduceEq,decide_true,decide_false] at e43 e44 e45 e46;clear ho;unfold zS;have hB: ∀q,Below w.heap.size w ((w.alloc (Ce #[E Z xo,E Z k,E Z xb,E Z xc,E J xv,E Z xm,E Z xw] 111)).drewN q):=fun q=>KD ((Below.refl _ _).alloc (Nat.le_refl _) _) q;have hz:=heap_alloc_new w (.cells #[E Z xo,E Z k,E Z xb,E Z xc,E J xv,E Z xm,E Z xw] 111);have H:=Y0 h;have HI:=Y0 hi;have iD:=Y0 fa;have HB:=Y0 hB;have HZ:=Y0 hz;have NZ:=Y0 ua;obtain ⟨k7,k8,k9,kr,kq,kt,ko,kh⟩:=h.Vz;have hK:=h.klt;clear h hi fa hB hz ua ha;generalize hra:rg (zA M i t) k=va at*;clear hra
 have Oc:=Y0 hv;have hb2:xb<0:=by
  have e:xb= -1:=hb1;omega
 clear hv hb1;exact zuA):zP:=h
theorem a45.Q70 (h:zP:=by
 have HR:Hid (jM M i t k xv=zG M i t k 0):=iU;clear h3 t3 hbb hev;exact zsq):zP:=h
theorem a45.zvx (h:zP:=by
 go_upto_region 7 with fail;exact J11):zP:=h
theorem a45.zyw (h:zP:=by
 by_cases hl:xv≤4096
 ·obtain ⟨q,hq⟩:=Int.eq_ofNat_of_zero_le Oc.out.1
  have hcv:IntKind.i64.wrap xv=xv:=by rw[IntKind.wrap_i64];have:=Oc.out.1;omega
  have HL:=Y0 hl
  have HG:=zt9 h2 q Y1
  rw[(KS M i t k 0).1,(KS M i t k 0).2,←hq] at HG
  have htn:xv.toNat=q:=by rw[hq];rfl
  have iU:Hid (jM M i t k xv=(match kL M.alc M.mem q 64 with|none=>zG M i t k 0|some (at',alc,mem)=>zG { M with alc:=alc,mem:=mem} i t k at')):=Y0 (by unfold jM;rw[if_pos hl,htn])
  have oP:Hid (∀p a' m',kL M.alc M.mem q 64=V (p,a',m')→p≤65536):=Y0 fun p a' m' e=>H.out.zif e
  clear hq htn
  generalize kL M.alc M.mem q 64=r at*
  have H2:=Y0 h2
  have HG:=Y0 HG
  clear h2
  cases r with
  |none=>
   exact J70
  |some r=>
   exact J38
 ·have hl2:4096<xv:=Y1;have HR:Hid (jM M i t k xv=zG M i t k 0):=Y0 (by unfold jM;rw[if_neg hl]);have H2:=Y0 h2;clear h2 hl;go_wp2_with fail;go_end0;rw[HR.out];exact ⟨rfl,vQ,H2.out,HT.out⟩):zP:=h
open a45 in
theorem zjk (h:zi F w own G M n) {i:Nat} (hi:i<F.workers) {t:Option Int} {b o:Nat} (fa:VZ G M i t b o) (x:zx) (ho:x.op=43) (ha:0≤x.a∧x.a<32) (hb1:x.b= -1) (hv:Zm x.v):
  Calls Tp 227 #[Y (V ⟨G.K,0,O⟩),Y (V ⟨b,o,O⟩), .agg (zS x)] w fun r w'=>r= .returned (.tuple #[])∧KO F w own G (jM M i t x.a x.v) (n) w':=by
 exact J50
theorem a46.Q21 (h:zP:=by
 obtain ⟨AB,-,-,-⟩:=h1.reg HI.out iD.out kb hkb2;rw[show rg (zA M i t) kb=vb from ug.out] at AB;have z2:=ze BZ.out 2;go_quiet (fail);go_upto_region 7 with fail;clear AB z2;have HT:=Y0 (HT.out.trans (ZW w1 aC nq));replace h1:=h1.drewN nq;replace BZ:Hid ((w1.drewN nq).heap[bx]?=V (.cells #[E Z xo,E Z k,E Z kb,E Z xc,E J xv,E Z xm,E Z xw] 111 (0,0))):=BZ;generalize w1.drewN nq=w1 at*;exact J34):zP:=h
theorem a46.Q24 (h:zP:=by
 exact zuA):zP:=h
theorem a46.Q34 (h:zP:=by
 exact zyN):zP:=h
theorem a46.Q38 (h:zP:=by
 have HR:Hid (jM M i t k vb=zG { M with alc:=a',mem:=m'} i t k p):=iU;clear h3 t3 rU e9;exact zsq):zP:=h
theorem a46.Q70 (h:zP:=by
 have HR:Hid (jM M i t k vb=zG M i t k 0):=iU;clear h3 t3 hbb hev;exact zsq):zP:=h
theorem a46.zvx (h:zP:=by
 go_upto_region 6 with fail;exact J21):zP:=h
theorem a46.zyw (h:zP:=by
 by_cases hl:vb≤4096
 ·obtain ⟨q,hq⟩:=Int.eq_ofNat_of_zero_le Iw.out.1
  have hcv:IntKind.i64.wrap vb=vb:=by rw[IntKind.wrap_i64];have:=Iw.out.1;omega
  have HL:=Y0 hl
  have HG:=zt9 h2 q Y1
  rw[(KS M i t k 0).1,(KS M i t k 0).2,←hq] at HG
  have htn:vb.toNat=q:=by rw[hq];rfl
  have iU:Hid (jM M i t k vb=(match kL M.alc M.mem q 64 with|none=>zG M i t k 0|some (at',alc,mem)=>zG { M with alc:=alc,mem:=mem} i t k at')):=Y0 (by unfold jM;rw[if_pos hl,htn])
  have oP:Hid (∀p a' m',kL M.alc M.mem q 64=V (p,a',m')→p≤65536):=Y0 fun p a' m' e=>H.out.zif e
  clear hq htn
  generalize kL M.alc M.mem q 64=r at*
  have H2:=Y0 h2
  have HG:=Y0 HG
  clear h2
  cases r with
  |none=>
   exact J70
  |some r=>
   exact J38
 ·have hl2:4096<vb:=Y1;have HR:Hid (jM M i t k vb=zG M i t k 0):=Y0 (by unfold jM;rw[if_neg hl]);have H2:=Y0 h2;clear h2 hl;go_wp2_with fail;go_end0;rw[HR.out];exact ⟨rfl,vQ,H2.out,HT.out⟩):zP:=h
open a46 in
theorem zhH (h:zi F w own G M n) {i:Nat} (hi:i<F.workers) {t:Option Int} {b o:Nat} (fa:VZ G M i t b o) (x:zx) (ho:x.op=43) (ha:0≤x.a∧x.a<32) (hb:0≤x.b∧x.b<32):
  Calls Tp 227 #[Y (V ⟨G.K,0,O⟩),Y (V ⟨b,o,O⟩), .agg (zS x)] w fun r w'=>r= .returned (.tuple #[])∧KO F w own G (jM M i t x.a (rg (zA M i t) x.b)) (n) w':=by
 exact J24
end
section
variable {F:Fixed} {w:World} {own:Own} {G:KG} {M:zD} {n:Nat}
theorem zi.hand0 (h:zi F w own G M n) {i:Nat} (hi:i<F.workers) {v:Int} (hv:Zm v):KO F w own G (setW M i { zl M i with hand:=v}) n (w.setCell ⟨G.gW,i*38+1,O⟩ (E J v)):=by
 have hk:=h.Ja hi;have hp:=h.jB hi (j:=1) Y2 (v:=E J v) (k':={ zl M i with hand:=v}) rfl rfl hk.slot hv hk.left;exact ⟨own,hp.1,hp.2.mono fun t e=>by rw[e];nofun⟩
theorem zaa (M:zD) (i:Nat) (t:Option Int) (k v:Int):(zl (zG M i t k v) i).hand=(zl M i).hand:=by
 unfold zG Zu
 cases t with
 |none=>
  simp only
  by_cases hi:i<M.wkrs.length
  ·rw[Va hi]
  ·unfold zl setW
   simp only
   rw[List.set_eq_of_length_le Y1]
 |some id=>
  simp only
  split<;>rfl
theorem a47.Q11 (h:zP:=by
 exact J34):zP:=h
theorem a47.Q12 (h:zP:=by
 clear h hi fa hB hz ua ha;generalize hra:rg (zA M i t) k=va at*;clear hra;exact J65):zP:=h
theorem a47.Q34 (h:zP:=by
 clear x1 x2 x3 t2 h1 k7 k8 k9 kr kq kt ko kh cs ch cf;go_upto_region 11 with fail;generalize w1.setCell ⟨b,o+1+k,O⟩ (E J 0)=w2 at*;obtain ⟨-,ch,-,-,cf⟩:=h2.vU HI.out;rw[zaa] at ch;have Fj:=Y0 hz;have hz2:((zl M i).hand==0)=false:=beq_eq_false_iff_ne.2 hz;have H2:=Y0 h2;clear h2 hz;go_wp2_with fail;go_end0;exact ⟨rfl,vQ,H2.out,HT.out⟩):zP:=h
theorem a47.Q65 (h:zP:=by
 go_upto_region 10 with fail;exact J11):zP:=h
open a47 in
theorem zmG (h:zi F w own G M n) {i:Nat} (hi:i<F.workers) {t:Option Int} {b o:Nat} (fa:VZ G M i t b o) (x:zx) (ho:x.op=34) (ha:0≤x.a∧x.a<32) (hz:(zl M i).hand≠0):
  Calls Tp 226 #[Y (V ⟨G.K,0,O⟩),Y (V ⟨G.gW,i*38,O⟩),Y (V ⟨b,o,O⟩), .agg (zS x)] w fun r w'=>r= .returned (.tuple #[])∧KO F w own G (zG M i t x.a 0) (n) w':=by
 exact J12
theorem zfL (M:zD) (i:Nat) (id:Int) (k v:Int) (x:Wkr):zG (setW M i x) i (some id) k v=setW (zG M i (some id) k v) i x:=by
 unfold zG Zu zA setW;simp only;cases zR M.runs id<;>rfl
theorem zgv (M:zD) (i:Nat) (t:Option Int) (k v:Int) (l:List Int):{ zG M i t k v with ring:=l}=zG { M with ring:=l} i t k v:=by
 unfold zG Zu zA
 cases t with
 |none=>rfl
 |some id=>
  simp only
  cases zR M.runs id<;>rfl
theorem zkN (M:zD) (i:Nat) (id:Int) (k v:Int):zl (zG M i (some id) k v) i=zl M i:=by
 unfold zG Zu;simp only;split<;>rfl
theorem ztK (h:zi F w own G M n) {i:Nat} (hi:i<F.workers) {t:Option Int} {b o:Nat} (fa:VZ G M i t b o) (k hd:Int) (R:List Int):zG (setW { zG M i t k 0 with ring:=R} i { zl { zG M i t k 0 with ring:=R} i with hand:=hd}) i t k hd=zG (setW { M with ring:=R} i { zl M i with hand:=hd}) i t k hd:=by
 have hl:=h.bV hi
 cases t with
 |none=>
  have pn: ∀(N:zD) (z:Wkr) (v:Int),i<N.wkrs.length→zG (setW N i z) i none k v=setW N i { z with f:=vC z.f k v}:=fun N z v hN=>by
   show setW (setW N i z) i { zl (setW N i z) i with f:=vC (zl (setW N i z) i).f k v}=_
   rw[Va hN,Gt]
  have p0:({ zG M i none k 0 with ring:=R}:zD)=setW { M with ring:=R} i { zl M i with f:=vC (zl M i).f k 0}:=rfl
  rw[p0,Va (M:={ M with ring:=R}) hl,Gt,pn { M with ring:=R} _ _ hl,pn { M with ring:=R} _ _ hl]
  have e4:vC (vC (zl M i).f k 0) k hd=vC (zl M i).f k hd:=by unfold vC;simp
  rw[e4]
 |some id=>
  have e1:zl { zG M i (some id) k 0 with ring:=R} i=zl M i:=zkN M i id k 0
  rw[e1,zgv,zfL,zfL,Gi (M:={ M with ring:=R}) h.runs.nod hl Y88 k 0 hd]
theorem a48.Q11 (h:zP:=by
 exact J34):zP:=h
theorem a48.Q12 (h:zP:=by
 have Fj:=Y0 hz0;clear hz0;clear h hi fa hB hz ua ha;generalize hra:rg (zA M i t) k=va at*;clear hra;have uh:=Y0 (show Zm (M.ring.headD 0) from by
  cases hm:M.ring with
  |nil=>exact VH
  |cons a l=>
   obtain ⟨gr,⟨fr,C,hR⟩,-⟩:=H.out.ring
   exact hR.u a (by rw[hm];exact List.mem_cons_self))
 exact J65):zP:=h
theorem a48.Q34 (h:zP:=by
 clear x1 x2 x3 t2 h1 k7 k8 k9 kr kq kt ko kh cs ch cf;go_upto_region 11 with fail;generalize w1.setCell ⟨b,o+1+k,O⟩ (E J 0)=w2 at*;obtain ⟨-,ch,-,-,cf⟩:=h2.vU HI.out;rw[zaa,Fj.out] at ch;have cr:=h2.zqv;have CB:Calls Tp 278 #[Y (V ⟨G.R,0,O⟩)] w2 fun e w'=>e=Rt (.tuple #[E J (M.ring.headD 0), .bool (!M.ring.isEmpty)])∧KO F w2 vQ G { zG M i t k 0 with ring:=M.ring.drop 1} n w':=by
  have q:=zuY h2;have e:(zG M i t k 0).ring=M.ring:=by
   unfold zG Zu
   cases t with
   |none=>rfl
   |some id=>
    simp only;split<;>rfl
  rw[e] at q;exact q
 have qB:=Y0 (ztK H.out HI.out iD.out k (M.ring.headD 0) (M.ring.drop 1));generalize hhd:M.ring.headD 0=hd at*;have Qd:=Y0 hhd;clear hhd;generalize (!M.ring.isEmpty)=bz at*;have CB:=Y0 CB;clear h2;go_wp2_with fail;refine CB.out.mono ?_;rintro e w3 ⟨rfl,dw,h3,t3⟩;have HT:=Y0 (HT.out.trans t3);obtain ⟨-,ch3,-,-,Om⟩:=h3.vU HI.out;have cf4:=Om (i*38+1);obtain ⟨dx,h4,t4⟩:=h3.hand0 HI.out uh.out;have HT:=Y0 (HT.out.trans t4);have yx:VZ G (setW { zG M i t k 0 with ring:=M.ring.drop 1} i { zl { zG M i t k 0 with ring:=M.ring.drop 1} i with hand:=hd}) i t b o:=by
  have q:=mQ.out
  cases t with
  |none=>exact q
  |some id=>exact q
 obtain ⟨u0,-,u1,-⟩:=h4.reg HI.out yx k hk2;obtain ⟨-,Ra,-,-,-⟩:=h4.vU HI.out;have iT:=h4.KT HI.out yx hk2 uh.out;rw[qB.out] at iT;have iT:=Y0 iT;rw[Va (h3.bV HI.out)] at Ra;clear h3 t3 h4 t4 yx Om ch cf;go_wp2_with fail;go_end0;rw[Qd.out];exact ⟨rfl,KO.trans HT.out iT.out⟩):zP:=h
theorem a48.Q65 (h:zP:=by
 go_upto_region 10 with fail;exact J11):zP:=h
open a48 in
theorem zmH (h:zi F w own G M n) {i:Nat} (hi:i<F.workers) {t:Option Int} {b o:Nat} (fa:VZ G M i t b o) (x:zx) (ho:x.op=34) (ha:0≤x.a∧x.a<32) (hz0:(zl M i).hand=0):
  Calls Tp 226 #[Y (V ⟨G.K,0,O⟩),Y (V ⟨G.gW,i*38,O⟩),Y (V ⟨b,o,O⟩), .agg (zS x)] w fun r w'=>r= .returned (.tuple #[])∧KO F w own G (zG (setW { M with ring:=M.ring.drop 1} i { zl M i with hand:=M.ring.headD 0}) i t x.a (M.ring.headD 0)) (n) w':=by
 exact J12
theorem zi.zAn (h:zi F w own G M n) {i:Nat} (hi:i<F.workers) {v:Int} (hv:Zm v):KO F w own G (setW M i { zl M i with slot:=v,hand:=0,left:=24}) n (((w.setCell ⟨G.gW,i*38,O⟩ (E J v)).setCell ⟨G.gW,i*38+1,O⟩ (E J 0)).setCell ⟨G.gW,i*38+3,O⟩ (E Z 24)):=by
 have hk:=h.Ja hi;have hl:=h.bV hi;have p1:=h.jB hi (j:=0) Y2 (v:=E J v) (k':={ zl M i with slot:=v}) rfl rfl hv hk.hand hk.left;have e1:zl (setW M i { zl M i with slot:=v}) i={ zl M i with slot:=v}:=Va hl _;have p2:=p1.1.jB hi (j:=1) Y2 (v:=E J 0) (k':={ zl M i with slot:=v,hand:=0}) (by rw[e1];rfl) (by rw[e1]) hv VH hk.left;rw[Gt] at p2;have e2:zl (setW M i { zl M i with slot:=v,hand:=0}) i={ zl M i with slot:=v,hand:=0}:=Va hl _;have p3:=p2.1.jB hi (j:=3) Y2 (v:=E Z 24) (k':={ zl M i with slot:=v,hand:=0,left:=24}) (by rw[e2];rfl) (by rw[e2]) hv VH ⟨(by show (0:Int)≤24;decide),(by show (24:Int)≤100;decide)⟩;rw[Gt] at p3;exact ⟨own,p3.1,((p1.2.trans p2.2).trans p3.2).mono fun t e=>by rw[e];nofun⟩
theorem a49.Q11 (h:zP:=by
 obtain ⟨cs1,Q9,-,-,Aa⟩:=h1.vU HI.out;rw[show (zl M i).slot=0 from HC.out.2.2] at cs1;obtain ⟨PD,-,-,-⟩:=h1.reg HI.out iD.out k hk2;rw[show rg (zA M i t) k=(zl M i).hand from NJ.out] at PD;clear cs ch cf MQ;go_quiet (fail);go_upto_region 16 with fail;have hcl: ∃u,w1.cell? ⟨G.gW,i*38+3,O⟩=some u:=⟨_,(h1.vU HI.out).2.2.2.1⟩;obtain ⟨cl,hcl⟩:=hcl;have f0:=Aa (i*38);have f1:=Aa (i*38+1);have f3:=Aa (i*38+3);obtain ⟨vQ,h2,t2⟩:=QE.out _ _ (h1.drewN nq);have HT:=Y0 (HT.out.trans ((ZW w1 aC nq).trans t2));have H2:=Y0 h2;clear h1 h2 t2 Aa k7 k8 k9 kr kq kt ko kh PD;go_upto_region 17 with fail;have c12:=H2.out.zkh;obtain ⟨cs2,-⟩:=H2.out.vU HI.out;rw[Va (H.out.bV HI.out)] at cs2
 generalize (((w1.drewN nq).setCell ⟨G.gW,i*38,O⟩ (E J (zl M i).hand)).setCell ⟨G.gW,i*38+1,O⟩ (E J 0)).setCell ⟨G.gW,i*38+3,O⟩ (E Z 24)=w2 at*;clear f0 f1 f3 hcl Q9 cs1;go_still_tail 8,Y4;change wpList _ _ _ _ _ w2.drew;go_wp2_with fail;refine (kbe H2.out.drew (zl M i).hand 2 N7.out (Or.inr (Or.inl rfl))).mono ?_;rintro e w3 ⟨⟨ev,rfl⟩,hk⟩;have HK:=Y0 hk;clear hk;go_wp2_with fail;go_end0;try rw[if_pos HC.out]
 exact ⟨rfl,KO.trans HT.out HK.out.drew⟩):zP:=h
theorem a49.Q12 (h:zP:=by
 clear h hi fa hB hz ua ha;generalize hra:rg (zA M i t) k=va at*;have NJ:=Y0 hra;clear hra;have N7:=Y0 QV.out.hand;have QE:=Y0 (fun W own' (h':zi F W own' G M n)=>h'.zAn HI.out N7.out);by_cases hc:(zl M i).hand≠0∧va=(zl M i).hand∧(zl M i).slot=0
 ·have HC:=Y0 hc;obtain ⟨c1,c2,c3⟩:=hc;have d1:((zl M i).hand !=0)=true:=bne_iff_ne.2 c1;rw[c3] at cs;subst c2;clear c1 c3;exact J65
 ·have HC:=Y0 hc;by_cases c1:(zl M i).hand=0
  ·rw[c1] at ch;clear hc c1;exact J48
  ·have d1:((zl M i).hand !=0)=true:=bne_iff_ne.2 c1;by_cases c2:va=(zl M i).hand
   ·have c3: ¬(zl M i).slot=0:=fun e=>hc ⟨c1,c2,e⟩;have d2:(va==(zl M i).hand)=true:=by simp[c2]
    have d3:((zl M i).slot==0)=false:=beq_eq_false_iff_ne.2 c3;clear hc c1 c2 c3;exact J48
   ·have d2:(va==(zl M i).hand)=false:=beq_eq_false_iff_ne.2 c2;clear hc c1 c2;exact J48):zP:=h
theorem a49.Q65 (h:zP:=by
 go_upto_region 15 with fail;exact J11):zP:=h
open a49 in
theorem zqw (h:zi F w own G M n) {i:Nat} (hi:i<F.workers) {t:Option Int} {b o:Nat} (fa:VZ G M i t b o) (x:zx) (ho:x.op=35) (ha:0≤x.a∧x.a<32):
  Calls Tp 226 #[Y (V ⟨G.K,0,O⟩),Y (V ⟨G.gW,i*38,O⟩),Y (V ⟨b,o,O⟩), .agg (zS x)] w fun r w'=>r= .returned (.tuple #[])∧KO F w own G (if (zl M i).hand≠0∧rg (zA M i t) x.a=(zl M i).hand∧(zl M i).slot=0 then setW { M with tab:=beT M.tab (zl M i).hand 2} i { zl M i with slot:=(zl M i).hand,hand:=0,left:=24} else M) (n) w':=by
 exact J12
end
end Kn
namespace Kn
open Asm Hp
theorem GD (M:zD) (i:Nat) (t:Option Int) (f:Frame):(Zu M i t f).tab=M.tab∧(Zu M i t f).out=M.out:=by
 unfold Zu
 cases t with
 |none=>exact ⟨rfl,rfl⟩
 |some id=>simp only;cases zR M.runs id<;>exact ⟨rfl,rfl⟩
end Kn
namespace Kn
open Go.RowKit Asm
theorem zgB: ∀{l:List Zt} {p:Nat},Jp l=some p→ ∃r,l[p]?=some r∧r.t.id=0
 |[],_,h=>by cases h
 |r::l,p,h=>by
  unfold Jp at h
  split at h
  ·rename_i h0
   injection h with h
   subst h
   exact ⟨r,rfl,h0⟩
  ·cases e:Jp l with
   |none=>rw[e] at h;cases h
   |some q=>
    rw[e] at h
    injection h with h
    subst h
    obtain ⟨r',h1,h2⟩:=zgB e
    exact ⟨r',h1,h2⟩
theorem bF.born {l:List Zt} {N:Nat} (h:bF l N):zqk l:=by
 intro home id l' e;unfold gF at e;split at e
 ·cases e
 rename_i p hp;obtain ⟨r,hr,hr0⟩:=zgB hp;have hpl:p<l.length:=(List.getElem?_eq_some_iff.1 hr).1;have aQ:p<64:=by rw[←h.len];exact hpl
 have hg:l.getD p {}=r:=by rw[List.getD_eq_getElem?_getD,hr];rfl
 have hok:=h.row p aQ;have ht:=hok.times;unfold tAt at ht;rw[hg] at ht e;have hN:=h.most;injection e with e
 injection e with e1 e2
 have hid:id=(p:Int)+64* (r.times+1):=by rw[←e1];omega
 have h0:id≠0:=Y1;have hq:(id%64).toNat=p:=Y1;rw[e1] at e2;refine ⟨h0,?_,fun x=>?_⟩
 ·refine zcB ?_;unfold ofT;rw[if_neg h0,hq,hr];have: ¬r.t.id=id:=Y1;simp only[if_neg this]
 ·rw[←e2];by_cases hx:x=id
  ·subst hx;rw[if_pos rfl];refine zrF (p:=p) (r:=⟨r.times+1,false,{ id:=x,state:=1,home:=home}⟩) ?_;unfold ofT;rw[if_neg h0,hq,List.getElem?_set_self hpl];simp
  ·rw[if_neg hx];by_cases hx0:x=0
   ·subst hx0;rfl
   ·have:ofT (l.set p ⟨r.times+1,false,{ id:=id,state:=1,home:=home}⟩) x=ofT l x:=by
     unfold ofT;rw[if_neg hx0,if_neg hx0,List.getElem?_set];by_cases hqx:p=(x%64).toNat
     ·rw[if_pos hqx,if_pos hpl,←hqx,hr];have a: ¬id=x:=fun e=>hx e.symm;have b: ¬r.t.id=x:=Y1;simp only[if_neg a,if_neg b]
     ·rw[if_neg hqx]
    unfold view KF;rw[this]
section
variable {F:Fixed} {w:World} {own:Own} {G:KG} {M:zD} {n:Nat}
theorem zi.born (h:zi F w own G M n):zqk M.tab:=by
 obtain ⟨gt,N,hT,-,-⟩:=h.tab;exact hT.ok.born
end
end Kn
namespace Kn
open Asm Hp
def ztg (m:Mem) (n i:Nat):Mem:=(((m.lay (17+3* (i:Int)) 1).lay (17+3* (i:Int)+1) 1).lay (17+3* (i:Int)+2) (17+3* (n:Int)+5* (i:Int))).lay (17+3* (n:Int)+5* (i:Int)) 4
def VF (m:Mem) (n:Nat):Nat→Mem
 |0=>m
 |k+1=>ztg (VF m n k) n k
def bE (F:Fixed):Nat:=17+8*F.workers
def VY (m:Mem) (a n:Nat) (w:Int):Mem:=if 0<n then m.map a n w else m
def zdB (F:Fixed) (cells:Nat):Mem:=VY (VY (VF ((⟨List.replicate cells 0,List.replicate cells 0⟩:Mem).map 0 (bE F) 64) F.workers F.workers) (bE F) F.wide.toNat 64) (bE F+F.wide.toNat) F.narrow.toNat 32
def Kk (F:Fixed) (cells:Nat):zD where
 mem:=zdB F cells
 alc:=⟨bE F+F.wide.toNat+F.narrow.toNat,cells,[]⟩
 clk:={ now:=0,S:= [],last:=0}
 slps:= []
 ring:= []
 tab:=List.replicate 64 {}
 objs:=List.replicate 64 {}
 runs:= []
 wkrs:=List.replicate F.workers { f:={ pc:=F.loop}}
def zdR (F:Fixed) (cells:Nat) (entry:Int):zD:={ (Kj (Kk F cells) entry 0).2 with ring:=Ga (Kj (Kk F cells) entry 0).2.ring (Kj (Kk F cells) entry 0).1}
theorem zpP {r:Zt} (h:r∈List.replicate 64 ({}:Zt)):r={}:=(List.mem_replicate.1 h).2
theorem view0 (id:Int):view (List.replicate 64 {}) id=none:=by
 refine zcB ?_;unfold ofT;split
 ·rfl
 ·rename_i h0;split
  ·rename_i r hr;have:r={}:=zpP (List.mem_of_getElem? hr);subst this;exact if_neg fun e=>h0 e.symm
  ·rfl
theorem zpG (l:List Int) (h: ∀x∈l,x=0) {id:Int} (h0:id≠0):l.count id=0:=List.count_eq_zero.2 fun hm=>h0 (h _ hm)
theorem zpn (F:Fixed) (cells:Nat):Inv (Kk F cells):=by
 have hh: ∀x∈zjJ (Kk F cells),x=0:=fun x hx=>by
  obtain ⟨k,hk,e⟩:=List.mem_map.1 hx;have:=(List.mem_replicate.1 hk).2;rw[←e,this]
 have hs: ∀x∈slotsOf (Kk F cells),x=0:=fun x hx=>by
  obtain ⟨k,hk,e⟩:=List.mem_map.1 hx;have:=(List.mem_replicate.1 hk).2;rw[←e,this]
 refine ⟨List.nodup_nil,fun id=>?_,fun r hr=>(by cases hr),⟨fun id h0=>?_,fun id h0 hm=>?_,fun id h0 hm=>?_⟩,fun s hs=>(by cases hs),fun t ht=>(by cases ht)⟩
 ·constructor
  ·intro h;cases h
  ·rintro ⟨p,hp,-⟩;rw[show view (Kk F cells).tab id=none from view0 id] at hp;cases hp
 ·rw[zpG _ hh h0,zpG _ hs h0];show ([]:List Int).count id+0+0≤1;simp
 ·rcases hm with hm|hm
  ·cases hm
  ·exact absurd (hh _ hm) h0
 ·exact absurd (hs _ hm) h0
end Kn
namespace Kn
open Go.RowKit Asm
structure KB (w:World) (K:Nat) (P R S:List Value):Prop where
 obj:w.heap[K]?=V (.cells (P++R++S).toArray 89 (0,0))
 p:P.length=7
 r:R.length=1000
 s:S.length=14
section
variable {w w':World} {K:Nat} {P R S:List Value}
theorem KB.lt (h:KB w K P R S):K<w.heap.size:=zo h.obj
theorem KB.frz (h:KB w K P R S) (i:Nat):w.frozen? ⟨K,i,O⟩=false:=zF h.obj i
theorem KB.of_block (h:KB w K P R S) (e:w'.heap[K]?=w.heap[K]?):KB w' K P R S:=⟨e.trans h.obj,h.p,h.r,h.s⟩
theorem KB.below (h:KB w K P R S) (hb:Below w.heap.size w w'):KB w' K P R S:=h.of_block (hb.block K h.lt)
theorem KB.keeps {X:Nat→Prop} (h:KB w K P R S) (hk:Keeps X w w') (hx: ¬X K):KB w' K P R S:=h.of_block (hk.block K h.lt hx)
theorem KB.cp (h:KB w K P R S) {j:Nat} (hj:j<7) {v:Value} (hv:P[j]?=some v):w.cell? ⟨K,j,O⟩=some v:=by
 rw[ze h.obj,List.getElem?_toArray,List.append_assoc,List.getElem?_append_left (by rw[h.p];exact hj),hv]
theorem KB.cr (h:KB w K P R S) {j:Nat} (hj:j<1000) {v:Value} (hv:R[j]?=some v):w.cell? ⟨K,7+j,O⟩=some v:=by
 rw[ze h.obj,List.getElem?_toArray,List.append_assoc,List.getElem?_append_right (by rw[h.p];omega),h.p,List.getElem?_append_left (by rw[h.r];omega),Nat.add_sub_cancel_left,hv]
theorem KB.cs (h:KB w K P R S) (j:Nat) {v:Value} (hv:S[j]?=some v):w.cell? ⟨K,1007+j,O⟩=some v:=by
 have hl:(P++R).length=1007:=by rw[List.length_append,h.p,h.r]
 rw[ze h.obj,List.getElem?_toArray,List.getElem?_append_right (by rw[hl];omega),hl,Nat.add_sub_cancel_left,hv]
theorem KB.zia (h:KB w K P R S) {j:Nat} (hj:j<7) (v:Value):KB (w.setCell ⟨K,j,O⟩ v) K (P.set j v) R S:=by
 refine ⟨?_,by rw[List.length_set];exact h.p,h.r,h.s⟩;rw[zy h.obj,List.setIfInBounds_toArray,List.append_assoc,List.set_append_left _ _ (by rw[h.p];exact hj),List.append_assoc]
theorem KB.vC (h:KB w K P R S) {j:Nat} (hj:j<1000) (v:Value):KB (w.setCell ⟨K,7+j,O⟩ v) K P (R.set j v) S:=by
 refine ⟨?_,h.p,by rw[List.length_set];exact h.r,h.s⟩;rw[zy h.obj,List.setIfInBounds_toArray,List.append_assoc,List.set_append_right _ _ (by rw[h.p];omega),h.p,Nat.add_sub_cancel_left,List.set_append_left _ _ (by rw[h.r];exact hj),List.append_assoc]
theorem KB.zkG (h:KB w K P R S) (j:Nat) (v:Value):KB (w.setCell ⟨K,1007+j,O⟩ v) K P R (S.set j v):=by
 have hl:(P++R).length=1007:=by rw[List.length_append,h.p,h.r]
 refine ⟨?_,h.p,h.r,by rw[List.length_set];exact h.s⟩;rw[zy h.obj,List.setIfInBounds_toArray,List.set_append_right _ _ (by rw[hl];omega),hl,Nat.add_sub_cancel_left]
end
theorem zkm {w:World} {K gW k:Nat} (c0:w.cell? ⟨K,1015,O⟩=V (Sl (V ⟨gW,0,O⟩) k k)) (hk:1≤k∧k≤64):Calls Tp 42 #[Y (V ⟨K,0,O⟩)] w fun r w'=>r= .returned (E Z (17+8* (k:Int)))∧w=w':=by
 have dL:(1:Int)≤(k:Int)∧(k:Int)≤64:=Y1;have hw:IntKind.i64.wrap (8* (k:Int))=8* (k:Int):=gT;have hw2:IntKind.i64.wrap (17+8* (k:Int))=17+8* (k:Int):=gT;clear hk;exact zxT
theorem zoH {w:World} {K:Nat} {wd nr:Int} (c0:w.cell? ⟨K,5,O⟩=V (E Z wd)) (c1:w.cell? ⟨K,6,O⟩=V (E Z nr)) (hwd:0≤wd∧0≤nr∧wd+nr≤256):Calls Tp 100 #[Y (V ⟨K,0,O⟩)] w fun r w'=>r= .returned (E Z (wd+nr))∧Below w.heap.size w w':=by
 have hw:IntKind.i64.wrap (wd+nr)=wd+nr:=gT;clear hwd;exact J97
theorem zsM {m:Mem} {a v:Int} (hw:m.width a=64):m.acc 1 a 0 v=V (m.held a,m.lay a v):=by
 unfold Mem.acc;simp only[hw];rw[if_neg Y2];simp[KY]
theorem jO (m:Mem) (n:Nat): ∀(k:Nat) (b:Int),(VF m n k).width b=m.width b
 |0,_=>rfl
 |k+1,b=>jO m n k b
theorem zbp (m:Mem) (n:Nat): ∀(k b l:Nat),(VF m n k).free? b l=m.free? b l
 |0,_,_=>rfl
 |k+1,b,l=>zbp m n k b l
theorem zlz {m:Mem} {n:Nat} {w:Int} (hl:n≤m.ws.length) {b:Int} (hb:0≤b∧b<n):(m.map 0 n w).width b=w:=by
 unfold Mem.width Mem.map KP;simp only[List.take_zero,List.nil_append];rw[List.getD_eq_getElem?_getD,List.getElem?_append_left Y8,List.getElem?_replicate,if_pos Y1];rfl
theorem JH {cells a n:Nat} (h:a+n≤cells):(⟨List.replicate cells 0,List.replicate cells 0⟩:Mem).free? a n=true:=by
 unfold Mem.free?;simp only[List.length_replicate,Bool.and_eq_true,decide_eq_true_eq];refine ⟨h,?_⟩;rw[List.all_eq_true];intro x hx;have:=List.mem_of_mem_drop (List.mem_of_mem_take hx);rw[(List.mem_replicate.1 this).2];rfl
theorem zbo {m:Mem} {a n b k:Nat} {w:Int} (hl:m.ws.length=m.hs.length) (h:m.free? b k=true) (hab:a+n≤b):(m.map a n w).free? b k=true:=by
 unfold Mem.free? Mem.map at*;simp only[Bool.and_eq_true,decide_eq_true_eq] at*;obtain ⟨h1,h2⟩:=h;have hlen:(KP m.ws a n w).length=m.ws.length:=by
  unfold KP;simp only[List.length_append,List.length_take,List.length_replicate,List.length_drop];omega
 refine ⟨by rw[hlen];exact h1,?_⟩;have e:((KP m.ws a n w).drop b).take k=(m.ws.drop b).take k:=by
  have hA:(m.ws.take a++List.replicate n w).length=a+n:=Y8;unfold KP;rw[List.drop_append,List.drop_eq_nil_of_le (by rw[hA];exact hab),List.nil_append,hA,List.drop_drop];congr 2;omega
 rw[e];exact h2
theorem ziE {m:Mem} {a n b k:Nat} {w:Int} (h:m.free? b k=true) (hl:m.ws.length=m.hs.length) (hab:a+n≤b):(VY m a n w).free? b k=true:=by
 unfold VY;split
 ·exact zbo hl h hab
 ·exact h
end Kn
end Go.Proofs.YtdlpmnmenhojfaaGreatDoor
