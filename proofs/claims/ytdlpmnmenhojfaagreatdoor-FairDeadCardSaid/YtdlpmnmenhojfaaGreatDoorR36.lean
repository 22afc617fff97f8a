/- Part 36 of what the proof stands on: KnCallN, KnCallS, KnCallY, KnCallA, KnExJ, KnCl, KnClJ, KnOwn. -/
import Derived.Test.YtdlpmnmenhojfaaGreatDoorR35
set_option linter.unusedVariables false
set_option maxHeartbeats 40000000
set_option maxRecDepth 100000
variable {zP:Prop}
namespace Go.Proofs.YtdlpmnmenhojfaaGreatDoor
open Go.IntKind renaming i64->Z,u64->J
open Go.Value renaming int->E,pointer->Y,slice->Sl
open Option renaming none->O,some->V
open Go.Obj renaming cells->Ce
open Go.Ending renaming returned->Rt
open Go.Proofs.Tryz renaming prog->Tp
namespace Kn
open Go.RowKit Asm
section
variable {F:Fixed} {w:World} {own:Own} {G:KG} {M:zD} {n:Nat}
def ZJ (id num a0 a1 a2 a3:Int):Ev:={ kind:=1,t:=id,num:=num,a0:=a0,a1:=a1,a2:=a2,a3:=a3}
theorem zf5 (M:zD) (r:Run) (num a0 a1 a2 a3:Int):Zm (refused F M r num a0 a1 a2 a3):=by
 unfold refused;split
 ·exact ⟨by decide,by decide⟩
 ·split
  ·exact ⟨by decide,by decide⟩
  ·split<;>exact ⟨by decide,by decide⟩
theorem a91.Q6 (h:zP:=by
 have CB:Hid (∀W o,zi F W o G (tell M (ZJ id num a0 a1 a2 a3)) n→Calls Tp 232 #[Y (V ⟨G.K,0,O⟩),Y (V ⟨G.tb id,0,O⟩),E Z num,E J (refused F M r num a0 a1 a2 a3),E J 0] W fun e w'=>e=Rt (.tuple #[])∧KO F W o G (returned (tell M (ZJ id num a0 a1 a2 a3)) id num (refused F M r num a0 a1 a2 a3) 0) n w'):=Y0 fun W o q=>jV (M:=tell M (ZJ id num a0 a1 a2 a3)) q hr hne num _ 0 (zf5 M r num a0 a1 a2 a3) ⟨by decide,by decide⟩ (by show (M.out++ [_]).length<_;rw[List.length_append];simp;omega);have hcb:(refused F M r num a0 a1 a2 a3==0)=false:=beq_eq_false_iff_ne.2 hc;generalize refused F M r num a0 a1 a2 a3=c at*;clear h h1 t1 B1 l1 l3 u0 u1 u2 u3 e0 e1 e2 e3 fa hr hne hout;exact J33):zP:=h
theorem a91.Q33 (h:zP:=by
 go_wp2_with fail;refine (CB.out _ _ H3.out).mono ?_;rintro e w4 ⟨rfl,hk⟩;have HK:=Y0 (KO.trans dG.out hk);clear hk;go_wp2_with fail;exact bodyPost_ret (results_none rfl _ _ _) rfl ⟨rfl,HK.out⟩):zP:=h
open a91 in
theorem zrh (h:zi F w own G M n) {i:Nat} (hi:i<F.workers) {id:Int} {b:Nat} {r:Run} (hr:zR M.runs id=some r) (hne:r.l≠ []) (fa:VZ G M i (some id) b 0) (num:Int) (hnum:0≤num∧num<1000) (hout:M.out.length<999990) {a0 a1 a2 a3:Int}
  (e0:rg (zA M i (some id)) 0=a0) (e1:rg (zA M i (some id)) 1=a1) (e2:rg (zA M i (some id)) 2=a2) (e3:rg (zA M i (some id)) 3=a3) (hc:refused F M r num a0 a1 a2 a3≠0):
  Calls Tp 181 #[Y (V ⟨G.K,0,O⟩),Y (V ⟨G.tb id,0,O⟩),Y (V ⟨b,0,O⟩),E Z num] w fun e w'=>e=Rt (.tuple #[])∧KO F w own G (returned (tell M (ZJ id num a0 a1 a2 a3)) id num (refused F M r num a0 a1 a2 a3) 0) n w':=by
 exact J6
end
def frA (pos num v0 v1 v2 v3 v30 v31:Int):Array Value:=#[E Z pos,E J v0,E J v1,E J v2,E J v3,E J 0,E J 0,E J 0,E J 0,E J 0,E J 0,E J 0,E J 0,E J 0,E J 0,E J 0,E J 0,E J 0,E J 0,E J 0,E J 0,E J 0,E J 0,E J 0,E J 0,E J 0,E J 0,E J 0,E J 0,E J 0,E J 0,E J v30,E J v31,Sl none 0 0, .bool true,E Z num]
def zgZ (a0 a1 a2 a3:Int):Array Value:=#[E J a0,E J a1,E J a2,E J a3]
def CSt (F:Fixed) (w:World) (own:Own) (G:KG) (M:zD) (n nb bx:Nat) (A:Array Value) (FR:Array Value) (wz W:World):Prop:= ∃o,zi F W o G M n∧Touch (fun t=>t≠ .other) w W own o∧zX W o nb FR 240∧zX W o bx A 72∧Below nb wz W
section
variable {F:Fixed} {w wz W:World} {own:Own} {G:KG} {M:zD} {n nb bx:Nat} {A FR:Array Value}
theorem CSt.drew (h:CSt F w own G M n nb bx A FR wz W):CSt F w own G M n nb bx A FR wz W.drew:=by
 obtain ⟨o,h1,h2,h3,h4,h5⟩:=h;exact ⟨o,h1.drew,h2.trans (Zv W o),h3,h4,h5.drew⟩
theorem CSt.below (h:CSt F w own G M n nb bx A FR wz W) {W':World} (hb:Below W.heap.size W W'):CSt F w own G M n nb bx A FR wz W':=by
 obtain ⟨o,h1,h2,h3,h4,h5⟩:=h;have t:=zU (ts:=fun t=>t≠ .other) (t:= .other) (own:=o) hb;exact ⟨_,h1.below hb,h2.trans t,h3.move t,h4.move t,h5.trans (hb.mono (Nat.le_of_lt (zo h3.1)))⟩
theorem CSt.put (h:CSt F w own G M n nb bx A FR wz W) (hn:w.heap.size≤nb) (hne:nb≠bx) (k:Nat) (v:Value):CSt F w own G M n nb bx A (FR.setIfInBounds k v) wz (W.setCell ⟨nb,k,O⟩ v):=by
 obtain ⟨o,h1,h2,h3,h4,h5⟩:=h;have K8:Keeps (fun j=>j=nb) W (W.setCell ⟨nb,k,O⟩ v):=(Keeps.refl (fun j=>j=nb) W).setCell (p:=⟨nb,k,O⟩) rfl _;exact ⟨o,h1.boxed K8 h3.2,h2.boxed K8 hn,h3.put v,h4.far (fun e=>hne e.symm) v,h5.setCell (p:=⟨nb,k,O⟩) (Nat.le_refl _) v⟩
theorem CSt.ac (h:CSt F w own G M n nb bx A FR wz W) (j:Nat):W.cell? ⟨bx,j,O⟩=A[j]?:=by
 obtain ⟨o,h1,h2,h3,h4,h5⟩:=h;exact h4.cells.2 j
theorem CSt.fc (h:CSt F w own G M n nb bx A FR wz W) (j:Nat):W.cell? ⟨nb,j,O⟩=FR[j]?∧W.frozen? ⟨nb,j,O⟩=false:=by
 obtain ⟨o,h1,h2,h3,h4,h5⟩:=h;exact ⟨h3.cells.2 j,h3.cells.1 j⟩
end
def kvs (F:Fixed) (M:zD) (x:kI) (a0 a1 a2 a3 v0 v1 v2 v3:Int) (i:Nat):Prop:=v0=(if 0<i then Zg F M x.k0 a0 else a0)∧v1=(if 1<i then Zg F M x.k1 a1 else a1)∧v2=(if 2<i then Zg F M x.k2 a2 else a2)∧v3=(if 3<i then Zg F M x.k3 a3 else a3)
section
variable {F:Fixed} {M:zD} {x:kI} {a0 a1 a2 a3 v0 v1 v2 v3 v:Int}
theorem kvs.s0 (h:kvs F M x a0 a1 a2 a3 v0 v1 v2 v3 0) (e:v=Zg F M x.k0 a0):kvs F M x a0 a1 a2 a3 v v1 v2 v3 1:=⟨e,h.2.1,h.2.2.1,h.2.2.2⟩
theorem kvs.s1 (h:kvs F M x a0 a1 a2 a3 v0 v1 v2 v3 1) (e:v=Zg F M x.k1 a1):kvs F M x a0 a1 a2 a3 v0 v v2 v3 2:=⟨h.1,e,h.2.2.1,h.2.2.2⟩
theorem kvs.s2 (h:kvs F M x a0 a1 a2 a3 v0 v1 v2 v3 2) (e:v=Zg F M x.k2 a2):kvs F M x a0 a1 a2 a3 v0 v1 v v3 3:=⟨h.1,h.2.1,e,h.2.2.2⟩
theorem kvs.s3 (h:kvs F M x a0 a1 a2 a3 v0 v1 v2 v3 3) (e:v=Zg F M x.k3 a3):kvs F M x a0 a1 a2 a3 v0 v1 v2 v 4:=⟨h.1,h.2.1,h.2.2.1,e⟩
theorem kvs.n0 (h:kvs F M x a0 a1 a2 a3 v0 v1 v2 v3 0) (e:x.k0=0):kvs F M x a0 a1 a2 a3 v0 v1 v2 v3 1:=h.s0 (by unfold Zg;rw[if_pos e];exact h.1)
theorem kvs.n1 (h:kvs F M x a0 a1 a2 a3 v0 v1 v2 v3 1) (e:x.k1=0):kvs F M x a0 a1 a2 a3 v0 v1 v2 v3 2:=h.s1 (by unfold Zg;rw[if_pos e];exact h.2.1)
theorem kvs.n2 (h:kvs F M x a0 a1 a2 a3 v0 v1 v2 v3 2) (e:x.k2=0):kvs F M x a0 a1 a2 a3 v0 v1 v2 v3 3:=h.s2 (by unfold Zg;rw[if_pos e];exact h.2.2.1)
theorem kvs.n3 (h:kvs F M x a0 a1 a2 a3 v0 v1 v2 v3 3) (e:x.k3=0):kvs F M x a0 a1 a2 a3 v0 v1 v2 v3 4:=h.s3 (by unfold Zg;rw[if_pos e];exact h.2.2.2)
theorem zxC (p n v0 v1 v2 v3 a b v:Int):(frA p n v0 v1 v2 v3 a b).setIfInBounds 1 (E J v)=frA p n v v1 v2 v3 a b:=rfl
theorem zx8 (p n v0 v1 v2 v3 a b v:Int):(frA p n v0 v1 v2 v3 a b).setIfInBounds 2 (E J v)=frA p n v0 v v2 v3 a b:=rfl
theorem zyu (p n v0 v1 v2 v3 a b v:Int):(frA p n v0 v1 v2 v3 a b).setIfInBounds 3 (E J v)=frA p n v0 v1 v v3 a b:=rfl
theorem zwg (p n v0 v1 v2 v3 a b v:Int):(frA p n v0 v1 v2 v3 a b).setIfInBounds 4 (E J v)=frA p n v0 v1 v2 v a b:=rfl
theorem kvs.start:kvs F M x a0 a1 a2 a3 a0 a1 a2 a3 0:=⟨rfl,rfl,rfl,rfl⟩
theorem kvs.done (h:kvs F M x a0 a1 a2 a3 v0 v1 v2 v3 4):v0=Zg F M x.k0 a0∧v1=Zg F M x.k1 a1∧v2=Zg F M x.k2 a2∧v3=Zg F M x.k3 a3:=h
theorem zi.Bv {w:World} {own:Own} {G:KG} {n:Nat} (h:zi F w own G M n) {k a:Int} (ha:Zm a) (hk:kindOk F M k a=true):Zm (Zg F M k a):=by
 unfold kindOk at hk;unfold Zg;by_cases e0:k=0
 ·rw[if_pos e0];exact ha
 ·rw[if_neg e0] at hk ⊢;by_cases e7:k=7
  ·rw[if_pos e7] at hk ⊢;have h1:a<F.cells:=of_decide_eq_true hk;have h2:=h.fok.workers;have h3:=h.fok.wide;have h4:=ha.1;unfold Fixed.cells at h1;unfold Fixed.base;exact ⟨by omega,by omega⟩
  ·rw[if_neg e7] at hk ⊢
   cases e:Vf M.objs a k with
   |none=>exact ⟨by decide,by decide⟩
   |some v=>
    obtain ⟨go,N,hO,-⟩:=h.obj
    unfold Vf at e
    cases e2:ofO M.objs a with
    |none=>rw[e2] at e;cases e
    |some pr=>
     obtain ⟨p,r⟩:=pr;rw[e2] at e;simp only at e;split at e
     ·injection e with e
      obtain ⟨-,-,aQ,hr,-⟩:=zbO hO.ok e2;have:=(hO.ok.row p aQ).addr;rw[←hr,e] at this;exact this
     ·cases e
theorem zb6 {r:Run} {num:Int} (hx:rowOf F.calls num=some x) (hc:refused F M r num a0 a1 a2 a3=0):kOk F M x a0 a1 a2 a3 4:=by
 unfold refused at hc;rw[hx] at hc;simp only at hc;split at hc
 ·cases hc
 ·split at hc
  ·rename_i h;simp only[Bool.and_eq_true] at h;exact ⟨fun _=>h.1.1.1,fun _=>h.1.1.2,fun _=>h.1.2,fun _=>h.2⟩
  ·cases hc
end
section
variable {F:Fixed} {w:World} {own:Own} {G:KG} {M:zD} {n:Nat}
theorem a92.Q6 (h:zP:=by
 have HX:=Y0 hx;have rA:=Y0 hr;have yO:=Y0 hl;have tK:=Y0 (zb6 hx hc);have HU:Hid (Zm a0∧Zm a1∧Zm a2∧Zm a3):=Y0 ⟨u0,u1,u2,u3⟩;have mM:Hid (∀W o,zi F W o G (tell M (ZJ id num a0 a1 a2 a3)) n→Calls Tp 42 #[Y (V ⟨G.K,0,O⟩)] W fun e w'=>e=Rt (E Z F.base)∧W=w'):=Y0 fun W o q=>zoK q;have aG:Hid ((0≤F.base∧F.base<1000)∧F.cells≤256):=Y0 ⟨by have:=h.fok.workers;unfold Fixed.base;omega,by have:=h.fok.wide;unfold Fixed.cells;omega⟩;rw[hc] at Il;clear h h1 t1 B1 l1 l3 u0 u1 u2 u3 e0 e1 e2 e3 fa hr hne hout hc hx hl;exact J33):zP:=h
theorem a92.Q33 (h:zP:=by
 obtain ⟨p,hpx,hp⟩:=zbk HX.out;obtain ⟨k,hk⟩:=Int.eq_ofNat_of_zero_le hnum.1;subst hk;have row:w3.cell? ⟨G.K,7+k,O⟩=V (E Z (gY F.calls k:Nat)):=H3.out.Vb fun _ _ hc=>hc.rows k Y1;rw[hpx] at row;have hcast:((p+1:Nat):Int)=(p:Int)+1:=Y1;rw[hcast] at row;obtain ⟨gc,cc,hcv,hrc,hgc,hgl⟩:=H3.out.fix.calls.rowAt hp;have kc:w3.cell? ⟨G.K,2,O⟩=some G.cv:=H3.out.Vb fun _ _ hc=>hc.calls;rw[hcv] at kc;have hpl:=(List.getElem?_eq_some_iff.1 hp).1;have dA:=H3.out.fok.few;have hxn:x.num=k:=by have:=List.find?_some HX.out;simpa using this
 have z0:w3.cell? ⟨gc,p*6,O⟩=V (E Z k):=(hrc 0 Y2).trans (by rw[←hxn];rfl);have z1:w3.cell? ⟨gc,p*6+1,O⟩=V (E Z x.pos):=hrc 1 Y2;have z2:w3.cell? ⟨gc,p*6+2,O⟩=V (E Z x.k0):=hrc 2 Y2;have z3:w3.cell? ⟨gc,p*6+3,O⟩=V (E Z x.k1):=hrc 3 Y2;have z4:w3.cell? ⟨gc,p*6+4,O⟩=V (E Z x.k2):=hrc 4 Y2;have z5:w3.cell? ⟨gc,p*6+5,O⟩=V (E Z x.k3):=hrc 5 Y2;have oG:(0:Int)≤(p:Int)∧(p:Int)<(F.calls.length:Int):=Y1;have En:IntKind.i64.wrap (p:Int)=(p:Int):=gT;generalize F.calls.length=NC at*;clear hcv hrc hgc hgl hpl dA hxn hp hpx hcast;go_wp2_with fail
 go_region_held3 (fun W=>W.cell? ⟨G.K,2,O⟩=V (Sl (V ⟨gc,0,O⟩) NC cc)∧W.cell? ⟨G.K,7+k,O⟩=V (E Z ((p:Int)+1))∧W.cell? ⟨gc,p*6,O⟩=V (E Z k)∧W.cell? ⟨gc,p*6+1,O⟩=V (E Z x.pos)∧W.cell? ⟨gc,p*6+2,O⟩=V (E Z x.k0)∧W.cell? ⟨gc,p*6+3,O⟩=V (E Z x.k1)∧W.cell? ⟨gc,p*6+4,O⟩=V (E Z x.k2)∧W.cell? ⟨gc,p*6+5,O⟩=V (E Z x.k3)) (first|exact ⟨kc,row,z0,z1,z2,z3,z4,z5⟩ |go_keep) (fail);have hb5:Below w3.heap.size w3 (w3.alloc (Ce #[E Z k,E Z x.pos,E Z x.k0,E Z x.k1,E Z x.k2,E Z x.k3] 125)).drew:=((Below.refl _ _).alloc (Nat.le_refl _) _).drew
 have mD:(w3.alloc (Ce #[E Z k,E Z x.pos,E Z x.k0,E Z x.k1,E Z x.k2,E Z x.k3] 125)).drew.heap[w3.heap.size]?=V (Ce #[E Z k,E Z x.pos,E Z x.k0,E Z x.k1,E Z x.k2,E Z x.k3] 125 (0,0)):=heap_alloc_new w3 _;have t5:=zU (ts:=fun t=>t≠ .other) (t:= .other) (own:=dw) hb5;have R5:zX (w3.alloc (Ce #[E Z k,E Z x.pos,E Z x.k0,E Z x.k1,E Z x.k2,E Z x.k3] 125)).drew (ext dw w3.heap.size .other) w3.heap.size _ 125:=⟨mD,Zo (Or.inr (Nat.le_refl _))⟩;have A5:=aY.out.move t5;have H5:=Y0 (H3.out.below hb5);have CG:=Y0 (dG.out.trans t5);have Tt:w3.heap.size≠bx:=by have:=zo aY.out.1;omega
 generalize (w3.alloc (Ce #[E Z k,E Z x.pos,E Z x.k0,E Z x.k1,E Z x.k2,E Z x.k3] 125)).drew=w5 at*;generalize ext dw w3.heap.size .other=aV at*;clear kc row z0 z1 z2 z3 z4 z5 hb5 mD t5 H3 dG aY;generalize w3.heap.size=br at*;obtain ⟨w6,FD⟩: ∃w6,w6=w5.alloc (Ce #[E Z 0,E J 0,E J 0,E J 0,E J 0,E J 0,E J 0,E J 0,E J 0,E J 0,E J 0,E J 0,E J 0,E J 0,E J 0,E J 0,E J 0,E J 0,E J 0,E J 0,E J 0,E J 0,E J 0,E J 0,E J 0,E J 0,E J 0,E J 0,E J 0,E J 0,E J 0,E J 0,E J 0,Sl none 0 0, .bool true,E Z k] 240):=⟨_,rfl⟩
 have hb6:Below w5.heap.size w5 w6:=by rw[FD];exact VX (Below.refl _ _) _
 have sV:w6.heap[w5.heap.size]?=V (Ce #[E Z 0,E J 0,E J 0,E J 0,E J 0,E J 0,E J 0,E J 0,E J 0,E J 0,E J 0,E J 0,E J 0,E J 0,E J 0,E J 0,E J 0,E J 0,E J 0,E J 0,E J 0,E J 0,E J 0,E J 0,E J 0,E J 0,E J 0,E J 0,E J 0,E J 0,E J 0,E J 0,E J 0,Sl none 0 0, .bool true,E Z k] 240 (0,0)):=by rw[FD];exact heap_alloc_new w5 _
 have t6:=zU (ts:=fun t=>t≠ .other) (t:= .other) (own:=aV) hb6;have N6:zX w6 (ext aV w5.heap.size .other) w5.heap.size _ 240:=⟨sV,Zo (Or.inr (Nat.le_refl _))⟩;have R6:=R5.move t6;have A6:=A5.move t6;have H6:=Y0 (H5.out.below hb6);have CJ:=Y0 (CG.out.trans t6);have yE:w5.heap.size≠br:=by have:=zo R5.1;omega
 have rZ:w5.heap.size≠bx:=by have:=zo A5.1;omega
 generalize ext aV w5.heap.size .other=iK at*;have p1:w6.cell? ⟨br,1,O⟩=V (E Z x.pos):=R6.cells.2 1;have n0:w6.cell? ⟨w5.heap.size,0,O⟩=V (E Z 0):=N6.cells.2 0;have f0:w6.frozen? ⟨w5.heap.size,0,O⟩=false:=N6.cells.1 0;have Hz:=Y0 N6;have Cv:=Y0 R6;have MZ:=Y0 A6;have Ia:Hid (w.heap.size≤w5.heap.size):=Y0 CG.out.keeps.size;have uZ:=Y0 hb6;clear hb6 sV t6 N6 R6 A6 R5 A5;go_upto_region 7 with fail;try rw[←FD]
 clear FD;generalize Eh:w5.heap.size=nb at*;have mY:=Y0 Eh;clear Eh;go_upto_region 8 with fail;obtain ⟨w8,hw8⟩: ∃w8,w8=w6.setCell ⟨nb,0,O⟩ (E Z x.pos):=⟨_,rfl⟩;have K8:Keeps (fun k=>k=nb) w6 w8:=by rw[hw8];exact (Keeps.refl (fun k=>k=nb) w6).setCell (p:=⟨nb,0,O⟩) rfl _
 have N8:zX w8 iK nb #[E Z x.pos,E J 0,E J 0,E J 0,E J 0,E J 0,E J 0,E J 0,E J 0,E J 0,E J 0,E J 0,E J 0,E J 0,E J 0,E J 0,E J 0,E J 0,E J 0,E J 0,E J 0,E J 0,E J 0,E J 0,E J 0,E J 0,E J 0,E J 0,E J 0,E J 0,E J 0,E J 0,E J 0,Sl none 0 0, .bool true,E Z k] 240:=by rw[hw8];exact Hz.out.put _
 have A8:zX w8 iK bx #[E J a0,E J a1,E J a2,E J a3] 72:=by rw[hw8];exact MZ.out.far (fun e=>rZ e.symm) _
 have R8:zX w8 iK br #[E Z k,E Z x.pos,E Z x.k0,E Z x.k1,E Z x.k2,E Z x.k3] 125:=by rw[hw8];exact Cv.out.far (fun e=>yE e.symm) _
 have H8:=Y0 (H6.out.boxed K8 Hz.out.2);have tu:Hid (Below nb w5 w8):=Y0 (by rw[hw8];exact uZ.out.setCell (p:=⟨nb,0,O⟩) (Nat.le_refl _) _);have j5:Hid (w.heap.size≤nb):=Ia;have NS:=Y0 (CJ.out.boxed K8 j5.out);try rw[←hw8]
 clear hw8 K8 Hz MZ Cv H6 CJ p1 n0 f0;obtain ⟨w9,sS⟩: ∃w9,w9=w8.drew.setRow nb (#[E Z x.pos,E J a0,E J a1,E J a2,E J a3,E J 0,E J 0,E J 0,E J 0,E J 0,E J 0,E J 0,E J 0,E J 0,E J 0,E J 0,E J 0,E J 0,E J 0,E J 0,E J 0,E J 0,E J 0,E J 0,E J 0,E J 0,E J 0,E J 0,E J 0,E J 0,E J 0,E J 0,E J 0,Sl none 0 0, .bool true,E Z k]):=⟨_,rfl⟩;have eU:Hid ((Builtin.copy_ #[23,23] 3 #[Sl (V ⟨nb,1,O⟩) 32 32,Sl (V ⟨bx,0,O⟩) 4 4]).run Tp w8.drew= .ok (goInt 4) w9):=Y0 (by
  have hrun:=BK (P:=Tp) w8.drew 23 23 3 22 1 nb 1 32 32 ⟨bx,0,O⟩ 4 4 _ 240 [E J a0,E J a1,E J a2,E J a3] Tryz.underlying23 Y4 N8.1 rfl
   (by
    intro j u hj
    have hjl:j<4:=(List.getElem?_eq_some_iff.1 hj).1
    rw[Addr.add_lit,Nat.zero_add]
    refine (A8.cells.2 j).trans ?_
    rw[←hj]
    simp) Y7 (by intro u hu;simp at hu;rcases hu with rfl|rfl|rfl|rfl<;>rfl)
  rw[sS]
  exact hrun)
 have K9:Keeps (fun k=>k=nb) w8 w9:=by
  rw[sS];exact (Keeps.refl (fun k=>k=nb) w8).drew.trans ⟨rfl,rfl,rfl,by rw[bn];exact Nat.le_refl _,fun k _ hx=>kE _ _ _ _ hx⟩ fun k hk=>Or.inl hk
 have N9:zX w9 iK nb #[E Z x.pos,E J a0,E J a1,E J a2,E J a3,E J 0,E J 0,E J 0,E J 0,E J 0,E J 0,E J 0,E J 0,E J 0,E J 0,E J 0,E J 0,E J 0,E J 0,E J 0,E J 0,E J 0,E J 0,E J 0,E J 0,E J 0,E J 0,E J 0,E J 0,E J 0,E J 0,E J 0,E J 0,Sl none 0 0, .bool true,E Z k] 240:=⟨by rw[sS];exact setRow_heap w8.drew nb _ _ _ _ N8.1,N8.2⟩;have A9:zX w9 iK bx #[E J a0,E J a1,E J a2,E J a3] 72:=⟨(K9.block bx (zo A8.1) (fun e=>rZ e.symm)).trans A8.1,A8.2⟩
 have R9:zX w9 iK br #[E Z k,E Z x.pos,E Z x.k0,E Z x.k1,E Z x.k2,E Z x.k3] 125:=⟨(K9.block br (zo R8.1) (fun e=>yE e.symm)).trans R8.1,R8.2⟩;have H9:=Y0 (H8.out.boxed K9 N8.2);have NT:=Y0 (NS.out.boxed K9 j5.out);have PO:Hid (Below nb w5 w9):=Y0 (by rw[sS];exact (let h:=tu.out.drew;⟨h.os,h.tape,h.output,by rw[bn];exact h.size,fun j hj=>(kE _ _ _ _ Y1).trans (h.block j hj)⟩));have ND:=Y0 N9;have M4:=Y0 A9;have Cw:=Y0 R9;clear sS K9 N8 A8 R8 H8 NS N9 A9 R9;go_still_tail 6,Y4;change wpList _ _ _ _ _ w8.drew;have hrun:=eU.out;have q2:w9.cell? ⟨br,2,O⟩=V (E Z x.k0):=Cw.out.cells.2 2;have q3:w9.cell? ⟨br,2+1,O⟩=V (E Z x.k1):=Cw.out.cells.2 3;have q4:w9.cell? ⟨br,2+2,O⟩=V (E Z x.k2):=Cw.out.cells.2 4
 have q5:w9.cell? ⟨br,2+3,O⟩=V (E Z x.k3):=Cw.out.cells.2 5;have q3':w9.cell? ⟨br,3,O⟩=V (E Z x.k1):=q3;have Ul:w9.cell? ⟨br,4,O⟩=V (E Z x.k2):=q4;have Um:w9.cell? ⟨br,5,O⟩=V (E Z x.k3):=q5;go_wp2_with fail;clear q2 q3 q4 q5 q3' Ul Um hrun eU Cw;have dn:Hid (nb≠bx):=Y0 rZ;have Na:Hid (CSt F w own G (tell M (ZJ id k a0 a1 a2 a3)) n nb bx (zgZ a0 a1 a2 a3) (frA x.pos k a0 a1 a2 a3 0 0) w5 w9):=Y0 ⟨iK,H9.out,NT.out,ND.out,M4.out,PO.out⟩;clear H9 NT ND M4 rZ yE;go_loopw [74] (fun iv wr=> ∃i:Nat,i≤4∧iv=E Z (i:Int)∧Hid (∃v0 v1 v2 v3,kvs F M x a0 a1 a2 a3 v0 v1 v2 v3 i∧CSt F w own G (tell M (ZJ id k a0 a1 a2 a3)) n nb bx (zgZ a0 a1 a2 a3) (frA x.pos k v0 v1 v2 v3 0 0) w5 wr)) (fun iv _=>4 - (intOf iv).toNat);case atStart=>exact ⟨0,by omega,rfl,Y0 ⟨a0,a1,a2,a3,kvs.start,Na.out⟩⟩
 case round=>
  obtain ⟨i,hi,rfl,HS⟩:=hrel;obtain ⟨v0,v1,v2,v3,hkv,hcs⟩:=HS.out;have qY:=Y0 hkv;have dI:=Y0 hcs;clear HS hkv hcs Na;rcases (by omega:i=0∨i=1∨i=2∨i=3∨i=4) with rfl|rfl|rfl|rfl|rfl
  ·have hix: ∀(W:World),(Instr.index 121 (.agg #[E Z x.k0,E Z x.k1,E Z x.k2,E Z x.k3]) (E Z (0:Int))).run Tp W= .ok (E Z x.k0) W:=fun W=>by kernel_rfl
   by_cases e0:x.k0=0
   ·have HE:=Y0 e0;have f0:(x.k0==0)=true:=beq_iff_eq.2 e0;clear e0;go_wp2_with fail;go_roundw;case rel=>exact ⟨1,by omega,by go_num,Y0 ⟨v0,v1,v2,v3,qY.out.n0 HE.out,dI.out⟩⟩
    case measure=>simp[intOf]
   have f0:(x.k0==0)=false:=beq_eq_false_iff_ne.2 e0;have c0:wr.cell? ⟨bx,0,O⟩=V (E J a0):=dI.out.ac 0;obtain ⟨n0,z0⟩:=dI.out.fc 1;replace n0:wr.cell? ⟨nb,1,O⟩=V (E J v0):=n0;have aJ:Hid (∀(W:World) (v:Value),W.cell? ⟨bx,0,O⟩=V (E J a0)→(W.setCell ⟨nb,1,O⟩ v).cell? ⟨bx,0,O⟩=V (E J a0)):=Y0 fun W v e=>(World.cell?_of_block (a:=⟨bx,0,O⟩) (zm fun e=>dn.out e.symm)).trans e;by_cases e7:x.k0=7
   ·have f1:(x.k0==7)=true:=beq_iff_eq.2 e7;have hk:=tK.out.1 Y1;unfold kindOk at hk;rw[if_neg e0,if_pos e7] at hk;have hlt:a0<F.cells:=of_decide_eq_true hk;have hu:=HU.out.1;have aZ:Hid (F.base+a0=Zg F M x.k0 a0):=Y0 Y41;have hbw:IntKind.u64.wrap F.base=F.base:=by have:=aG.out.1;rw[IntKind.wrap_u64];omega
    have hbw2:IntKind.u64.wrap (F.base+a0)=F.base+a0:=by have:=aG.out;have:=hu.1;rw[IntKind.wrap_u64];omega
    have fT:Hid (Calls Tp 42 #[Y (V ⟨G.K,0,O⟩)] wr.drew fun e w'=>e=Rt (E Z F.base)∧w'=wr.drew):=Y0 (by
     obtain ⟨o,h1,-,-,-,-⟩:=dI.out.drew
     exact (mM.out _ _ h1).mono fun e w' q=>⟨q.1,q.2.symm⟩)
    have aT:=Y0 dI.out.drew;clear hk hlt hu e0 e7;generalize F.base=bs at*;go_wp2_with fail;go_region_held3 (fun W=>W.cell? ⟨bx,0,O⟩=V (E J a0)) (first|with_reducible exact c0|with_reducible exact aJ.out _ _ c0|exact c0|exact aJ.out _ _ c0) (first|(go_at_call 42;refine fT.out.mono ?_;rintro e w3 ⟨rfl,rfl⟩));have hput:=aT.out.put j5.out dn.out 1 (E J (bs+a0));exact J62
   ·have f1:(x.k0==7)=false:=beq_eq_false_iff_ne.2 e7
    have aZ:Hid ((Vf M.objs a0 x.k0).getD 0=Zg F M x.k0 a0):=Y0 Y42
    obtain ⟨o,h1,-,eY,-,-⟩:=dI.out
    have hKn:nb≠G.K:=fun e=>by
     have q1:=h1.k.mine;rw[←e,eY.2] at q1;cases q1
    have wM:=Y0 hKn
    have km:wr.cell? ⟨G.K,1013,O⟩=V (Y (V ⟨G.aA,0,O⟩)):=(h1.Vz).2.2.2.2.2.2.1
    have aO:Hid (∀(W:World) (v:Value),W.cell? ⟨G.K,1013,O⟩=V (Y (V ⟨G.aA,0,O⟩))→(W.setCell ⟨nb,1,O⟩ v).cell? ⟨G.K,1013,O⟩=V (Y (V ⟨G.aA,0,O⟩))):=Y0 fun W v e=>(World.cell?_of_block (a:=⟨G.K,1013,O⟩) (zm fun e=>wM.out e.symm)).trans e
    have dh:Hid (Calls Tp 241 #[Y (V ⟨G.aA,0,O⟩),E J a0,E Z x.k0] wr.drew fun e W=>BG (Vf M.objs a0 x.k0) e∧(W.cell? ⟨G.K,1013,O⟩=V (Y (V ⟨G.aA,0,O⟩))∧W.cell? ⟨bx,0,O⟩=V (E J a0))∧(W.cell? ⟨nb,1,O⟩=V (E J v0)∧W.frozen? ⟨nb,1,O⟩=false)∧CSt F w own G (tell M (ZJ id k a0 a1 a2 a3)) n nb bx (zgZ a0 a1 a2 a3) (frA x.pos k v0 v1 v2 v3 0 0) w5 W):=Y0 (by
     refine (zg6 (M:=tell M (ZJ id k a0 a1 a2 a3)) h1.drew a0 x.k0 HU.out.1).mono fun e W hq=>?_
     obtain ⟨q1,hb⟩:=KU.parts hq
     have hc:=dI.out.drew.below hb
     refine ⟨q1,⟨?_,hc.ac 0⟩,⟨(hc.fc 1).1,(hc.fc 1).2⟩,hc⟩
     obtain ⟨o2,h2,-,-,-,-⟩:=hc
     exact (h2.Vz).2.2.2.2.2.2.1)
    clear h1 eY hKn e0 e7
    cases hfo:Vf M.objs a0 x.k0 with
    |none=>
     rw[hfo] at dh aZ;clear hfo;go_wp2_with fail;go_region_held3 (fun W=>W.cell? ⟨G.K,1013,O⟩=V (Y (V ⟨G.aA,0,O⟩))∧W.cell? ⟨bx,0,O⟩=V (E J a0)) (first|with_reducible exact ⟨km,c0⟩ |with_reducible exact ⟨y0,y1⟩ |with_reducible exact ⟨aO.out _ _ y0,aJ.out _ _ y1⟩ |exact ⟨km,c0⟩ |exact ⟨aO.out _ _ y0,aJ.out _ _ y1⟩) (first|(go_at_call 241;refine dh.out.mono ?_;rintro e w3 ⟨⟨te,xe,rfl⟩,⟨y0,y1⟩,⟨y2,y3⟩,hc2⟩));have aT:=Y0 hc2;clear hc2 y0 y1 y2 y3;have hput:=aT.out.put j5.out dn.out 1 (E J 0);exact J62
    |some v=>
     rw[hfo] at dh aZ;clear hfo;go_wp2_with fail;go_region_held3 (fun W=>W.cell? ⟨G.K,1013,O⟩=V (Y (V ⟨G.aA,0,O⟩))∧W.cell? ⟨bx,0,O⟩=V (E J a0)) (first|with_reducible exact ⟨km,c0⟩ |with_reducible exact ⟨y0,y1⟩ |with_reducible exact ⟨aO.out _ _ y0,aJ.out _ _ y1⟩ |exact ⟨km,c0⟩ |exact ⟨aO.out _ _ y0,aJ.out _ _ y1⟩) (first|(go_at_call 241;refine dh.out.mono ?_;rintro e w3 ⟨rfl,⟨y0,y1⟩,⟨y2,y3⟩,hc2⟩));have aT:=Y0 hc2;clear hc2 y0 y1 y2 y3;have hput:=aT.out.put j5.out dn.out 1 (E J v);exact J62
  ·have hix: ∀(W:World),(Instr.index 121 (.agg #[E Z x.k0,E Z x.k1,E Z x.k2,E Z x.k3]) (E Z (1:Int))).run Tp W= .ok (E Z x.k1) W:=fun W=>by kernel_rfl
   by_cases e0:x.k1=0
   ·have HE:=Y0 e0;have f0:(x.k1==0)=true:=beq_iff_eq.2 e0;clear e0;go_wp2_with fail;go_roundw;case rel=>exact ⟨2,by omega,by go_num,Y0 ⟨v0,v1,v2,v3,qY.out.n1 HE.out,dI.out⟩⟩
    case measure=>simp[intOf]
   have f0:(x.k1==0)=false:=beq_eq_false_iff_ne.2 e0;have c1:wr.cell? ⟨bx,1,O⟩=V (E J a1):=dI.out.ac 1;obtain ⟨n1,z1⟩:=dI.out.fc 2;replace n1:wr.cell? ⟨nb,2,O⟩=V (E J v1):=n1;have aJ:Hid (∀(W:World) (v:Value),W.cell? ⟨bx,1,O⟩=V (E J a1)→(W.setCell ⟨nb,2,O⟩ v).cell? ⟨bx,1,O⟩=V (E J a1)):=Y0 fun W v e=>(World.cell?_of_block (a:=⟨bx,1,O⟩) (zm fun e=>dn.out e.symm)).trans e;by_cases e7:x.k1=7
   ·have f1:(x.k1==7)=true:=beq_iff_eq.2 e7;have hk:=tK.out.2.1 Y1;unfold kindOk at hk;rw[if_neg e0,if_pos e7] at hk;have hlt:a1<F.cells:=of_decide_eq_true hk;have hu:=HU.out.2.1;have aZ:Hid (F.base+a1=Zg F M x.k1 a1):=Y0 Y41;have hbw:IntKind.u64.wrap F.base=F.base:=by have:=aG.out.1;rw[IntKind.wrap_u64];omega
    have hbw2:IntKind.u64.wrap (F.base+a1)=F.base+a1:=by have:=aG.out;have:=hu.1;rw[IntKind.wrap_u64];omega
    have fT:Hid (Calls Tp 42 #[Y (V ⟨G.K,0,O⟩)] wr.drew fun e w'=>e=Rt (E Z F.base)∧w'=wr.drew):=Y0 (by
     obtain ⟨o,h1,-,-,-,-⟩:=dI.out.drew
     exact (mM.out _ _ h1).mono fun e w' q=>⟨q.1,q.2.symm⟩)
    have aT:=Y0 dI.out.drew;clear hk hlt hu e0 e7;generalize F.base=bs at*;go_wp2_with fail;go_region_held3 (fun W=>W.cell? ⟨bx,1,O⟩=V (E J a1)) (first|with_reducible exact c1|with_reducible exact aJ.out _ _ c1|exact c1|exact aJ.out _ _ c1) (first|(go_at_call 42;refine fT.out.mono ?_;rintro e w3 ⟨rfl,rfl⟩));have hput:=aT.out.put j5.out dn.out 2 (E J (bs+a1));exact J61
   ·have f1:(x.k1==7)=false:=beq_eq_false_iff_ne.2 e7
    have aZ:Hid ((Vf M.objs a1 x.k1).getD 0=Zg F M x.k1 a1):=Y0 Y42
    obtain ⟨o,h1,-,eY,-,-⟩:=dI.out
    have hKn:nb≠G.K:=fun e=>by
     have q1:=h1.k.mine;rw[←e,eY.2] at q1;cases q1
    have wM:=Y0 hKn
    have km:wr.cell? ⟨G.K,1013,O⟩=V (Y (V ⟨G.aA,0,O⟩)):=(h1.Vz).2.2.2.2.2.2.1
    have aO:Hid (∀(W:World) (v:Value),W.cell? ⟨G.K,1013,O⟩=V (Y (V ⟨G.aA,0,O⟩))→(W.setCell ⟨nb,2,O⟩ v).cell? ⟨G.K,1013,O⟩=V (Y (V ⟨G.aA,0,O⟩))):=Y0 fun W v e=>(World.cell?_of_block (a:=⟨G.K,1013,O⟩) (zm fun e=>wM.out e.symm)).trans e
    have dh:Hid (Calls Tp 241 #[Y (V ⟨G.aA,0,O⟩),E J a1,E Z x.k1] wr.drew fun e W=>BG (Vf M.objs a1 x.k1) e∧(W.cell? ⟨G.K,1013,O⟩=V (Y (V ⟨G.aA,0,O⟩))∧W.cell? ⟨bx,1,O⟩=V (E J a1))∧(W.cell? ⟨nb,2,O⟩=V (E J v1)∧W.frozen? ⟨nb,2,O⟩=false)∧CSt F w own G (tell M (ZJ id k a0 a1 a2 a3)) n nb bx (zgZ a0 a1 a2 a3) (frA x.pos k v0 v1 v2 v3 0 0) w5 W):=Y0 (by
     refine (zg6 (M:=tell M (ZJ id k a0 a1 a2 a3)) h1.drew a1 x.k1 HU.out.2.1).mono fun e W hq=>?_
     obtain ⟨q1,hb⟩:=KU.parts hq
     have hc:=dI.out.drew.below hb
     refine ⟨q1,⟨?_,hc.ac 1⟩,⟨(hc.fc 2).1,(hc.fc 2).2⟩,hc⟩
     obtain ⟨o2,h2,-,-,-,-⟩:=hc
     exact (h2.Vz).2.2.2.2.2.2.1)
    clear h1 eY hKn e0 e7
    cases hfo:Vf M.objs a1 x.k1 with
    |none=>
     rw[hfo] at dh aZ;clear hfo;go_wp2_with fail;go_region_held3 (fun W=>W.cell? ⟨G.K,1013,O⟩=V (Y (V ⟨G.aA,0,O⟩))∧W.cell? ⟨bx,1,O⟩=V (E J a1)) (first|with_reducible exact ⟨km,c1⟩ |with_reducible exact ⟨y0,y1⟩ |with_reducible exact ⟨aO.out _ _ y0,aJ.out _ _ y1⟩ |exact ⟨km,c1⟩ |exact ⟨aO.out _ _ y0,aJ.out _ _ y1⟩) (first|(go_at_call 241;refine dh.out.mono ?_;rintro e w3 ⟨⟨te,xe,rfl⟩,⟨y0,y1⟩,⟨y2,y3⟩,hc2⟩));have aT:=Y0 hc2;clear hc2 y0 y1 y2 y3;have hput:=aT.out.put j5.out dn.out 2 (E J 0);exact J61
    |some v=>
     rw[hfo] at dh aZ;clear hfo;go_wp2_with fail;go_region_held3 (fun W=>W.cell? ⟨G.K,1013,O⟩=V (Y (V ⟨G.aA,0,O⟩))∧W.cell? ⟨bx,1,O⟩=V (E J a1)) (first|with_reducible exact ⟨km,c1⟩ |with_reducible exact ⟨y0,y1⟩ |with_reducible exact ⟨aO.out _ _ y0,aJ.out _ _ y1⟩ |exact ⟨km,c1⟩ |exact ⟨aO.out _ _ y0,aJ.out _ _ y1⟩) (first|(go_at_call 241;refine dh.out.mono ?_;rintro e w3 ⟨rfl,⟨y0,y1⟩,⟨y2,y3⟩,hc2⟩));have aT:=Y0 hc2;clear hc2 y0 y1 y2 y3;have hput:=aT.out.put j5.out dn.out 2 (E J v);exact J61
  ·have hix: ∀(W:World),(Instr.index 121 (.agg #[E Z x.k0,E Z x.k1,E Z x.k2,E Z x.k3]) (E Z (2:Int))).run Tp W= .ok (E Z x.k2) W:=fun W=>by kernel_rfl
   by_cases e0:x.k2=0
   ·have HE:=Y0 e0;have f0:(x.k2==0)=true:=beq_iff_eq.2 e0;clear e0;go_wp2_with fail;go_roundw;case rel=>exact ⟨3,by omega,by go_num,Y0 ⟨v0,v1,v2,v3,qY.out.n2 HE.out,dI.out⟩⟩
    case measure=>simp[intOf]
   have f0:(x.k2==0)=false:=beq_eq_false_iff_ne.2 e0;have c2:wr.cell? ⟨bx,2,O⟩=V (E J a2):=dI.out.ac 2;obtain ⟨n2,z2⟩:=dI.out.fc 3;replace n2:wr.cell? ⟨nb,3,O⟩=V (E J v2):=n2;have aJ:Hid (∀(W:World) (v:Value),W.cell? ⟨bx,2,O⟩=V (E J a2)→(W.setCell ⟨nb,3,O⟩ v).cell? ⟨bx,2,O⟩=V (E J a2)):=Y0 fun W v e=>(World.cell?_of_block (a:=⟨bx,2,O⟩) (zm fun e=>dn.out e.symm)).trans e;by_cases e7:x.k2=7
   ·have f1:(x.k2==7)=true:=beq_iff_eq.2 e7;have hk:=tK.out.2.2.1 Y1;unfold kindOk at hk;rw[if_neg e0,if_pos e7] at hk;have hlt:a2<F.cells:=of_decide_eq_true hk;have hu:=HU.out.2.2.1;have aZ:Hid (F.base+a2=Zg F M x.k2 a2):=Y0 Y41;have hbw:IntKind.u64.wrap F.base=F.base:=by have:=aG.out.1;rw[IntKind.wrap_u64];omega
    have hbw2:IntKind.u64.wrap (F.base+a2)=F.base+a2:=by have:=aG.out;have:=hu.1;rw[IntKind.wrap_u64];omega
    have fT:Hid (Calls Tp 42 #[Y (V ⟨G.K,0,O⟩)] wr.drew fun e w'=>e=Rt (E Z F.base)∧w'=wr.drew):=Y0 (by
     obtain ⟨o,h1,-,-,-,-⟩:=dI.out.drew
     exact (mM.out _ _ h1).mono fun e w' q=>⟨q.1,q.2.symm⟩)
    have aT:=Y0 dI.out.drew;clear hk hlt hu e0 e7;generalize F.base=bs at*;go_wp2_with fail;go_region_held3 (fun W=>W.cell? ⟨bx,2,O⟩=V (E J a2)) (first|with_reducible exact c2|with_reducible exact aJ.out _ _ c2|exact c2|exact aJ.out _ _ c2) (first|(go_at_call 42;refine fT.out.mono ?_;rintro e w3 ⟨rfl,rfl⟩));have hput:=aT.out.put j5.out dn.out 3 (E J (bs+a2));exact J63
   ·have f1:(x.k2==7)=false:=beq_eq_false_iff_ne.2 e7
    have aZ:Hid ((Vf M.objs a2 x.k2).getD 0=Zg F M x.k2 a2):=Y0 Y42
    obtain ⟨o,h1,-,eY,-,-⟩:=dI.out
    have hKn:nb≠G.K:=fun e=>by
     have q1:=h1.k.mine;rw[←e,eY.2] at q1;cases q1
    have wM:=Y0 hKn
    have km:wr.cell? ⟨G.K,1013,O⟩=V (Y (V ⟨G.aA,0,O⟩)):=(h1.Vz).2.2.2.2.2.2.1
    have aO:Hid (∀(W:World) (v:Value),W.cell? ⟨G.K,1013,O⟩=V (Y (V ⟨G.aA,0,O⟩))→(W.setCell ⟨nb,3,O⟩ v).cell? ⟨G.K,1013,O⟩=V (Y (V ⟨G.aA,0,O⟩))):=Y0 fun W v e=>(World.cell?_of_block (a:=⟨G.K,1013,O⟩) (zm fun e=>wM.out e.symm)).trans e
    have dh:Hid (Calls Tp 241 #[Y (V ⟨G.aA,0,O⟩),E J a2,E Z x.k2] wr.drew fun e W=>BG (Vf M.objs a2 x.k2) e∧(W.cell? ⟨G.K,1013,O⟩=V (Y (V ⟨G.aA,0,O⟩))∧W.cell? ⟨bx,2,O⟩=V (E J a2))∧(W.cell? ⟨nb,3,O⟩=V (E J v2)∧W.frozen? ⟨nb,3,O⟩=false)∧CSt F w own G (tell M (ZJ id k a0 a1 a2 a3)) n nb bx (zgZ a0 a1 a2 a3) (frA x.pos k v0 v1 v2 v3 0 0) w5 W):=Y0 (by
     refine (zg6 (M:=tell M (ZJ id k a0 a1 a2 a3)) h1.drew a2 x.k2 HU.out.2.2.1).mono fun e W hq=>?_
     obtain ⟨q1,hb⟩:=KU.parts hq
     have hc:=dI.out.drew.below hb
     refine ⟨q1,⟨?_,hc.ac 2⟩,⟨(hc.fc 3).1,(hc.fc 3).2⟩,hc⟩
     obtain ⟨o2,h2,-,-,-,-⟩:=hc
     exact (h2.Vz).2.2.2.2.2.2.1)
    clear h1 eY hKn e0 e7
    cases hfo:Vf M.objs a2 x.k2 with
    |none=>
     rw[hfo] at dh aZ;clear hfo;go_wp2_with fail;go_region_held3 (fun W=>W.cell? ⟨G.K,1013,O⟩=V (Y (V ⟨G.aA,0,O⟩))∧W.cell? ⟨bx,2,O⟩=V (E J a2)) (first|with_reducible exact ⟨km,c2⟩ |with_reducible exact ⟨y0,y1⟩ |with_reducible exact ⟨aO.out _ _ y0,aJ.out _ _ y1⟩ |exact ⟨km,c2⟩ |exact ⟨aO.out _ _ y0,aJ.out _ _ y1⟩) (first|(go_at_call 241;refine dh.out.mono ?_;rintro e w3 ⟨⟨te,xe,rfl⟩,⟨y0,y1⟩,⟨y2,y3⟩,hc2⟩));have aT:=Y0 hc2;clear hc2 y0 y1 y2 y3;have hput:=aT.out.put j5.out dn.out 3 (E J 0);exact J63
    |some v=>
     rw[hfo] at dh aZ;clear hfo;go_wp2_with fail;go_region_held3 (fun W=>W.cell? ⟨G.K,1013,O⟩=V (Y (V ⟨G.aA,0,O⟩))∧W.cell? ⟨bx,2,O⟩=V (E J a2)) (first|with_reducible exact ⟨km,c2⟩ |with_reducible exact ⟨y0,y1⟩ |with_reducible exact ⟨aO.out _ _ y0,aJ.out _ _ y1⟩ |exact ⟨km,c2⟩ |exact ⟨aO.out _ _ y0,aJ.out _ _ y1⟩) (first|(go_at_call 241;refine dh.out.mono ?_;rintro e w3 ⟨rfl,⟨y0,y1⟩,⟨y2,y3⟩,hc2⟩));have aT:=Y0 hc2;clear hc2 y0 y1 y2 y3;have hput:=aT.out.put j5.out dn.out 3 (E J v);exact J63
  ·have hix: ∀(W:World),(Instr.index 121 (.agg #[E Z x.k0,E Z x.k1,E Z x.k2,E Z x.k3]) (E Z (3:Int))).run Tp W= .ok (E Z x.k3) W:=fun W=>by kernel_rfl
   by_cases e0:x.k3=0
   ·have HE:=Y0 e0;have f0:(x.k3==0)=true:=beq_iff_eq.2 e0;clear e0;go_wp2_with fail;go_roundw;case rel=>exact ⟨4,by omega,by go_num,Y0 ⟨v0,v1,v2,v3,qY.out.n3 HE.out,dI.out⟩⟩
    case measure=>simp[intOf]
   have f0:(x.k3==0)=false:=beq_eq_false_iff_ne.2 e0;have c3:wr.cell? ⟨bx,3,O⟩=V (E J a3):=dI.out.ac 3;obtain ⟨n3,z3⟩:=dI.out.fc 4;replace n3:wr.cell? ⟨nb,4,O⟩=V (E J v3):=n3;have aJ:Hid (∀(W:World) (v:Value),W.cell? ⟨bx,3,O⟩=V (E J a3)→(W.setCell ⟨nb,4,O⟩ v).cell? ⟨bx,3,O⟩=V (E J a3)):=Y0 fun W v e=>(World.cell?_of_block (a:=⟨bx,3,O⟩) (zm fun e=>dn.out e.symm)).trans e;by_cases e7:x.k3=7
   ·have f1:(x.k3==7)=true:=beq_iff_eq.2 e7;have hk:=tK.out.2.2.2 Y1;unfold kindOk at hk;rw[if_neg e0,if_pos e7] at hk;have hlt:a3<F.cells:=of_decide_eq_true hk;have hu:=HU.out.2.2.2;have aZ:Hid (F.base+a3=Zg F M x.k3 a3):=Y0 Y41;have hbw:IntKind.u64.wrap F.base=F.base:=by have:=aG.out.1;rw[IntKind.wrap_u64];omega
    have hbw2:IntKind.u64.wrap (F.base+a3)=F.base+a3:=by have:=aG.out;have:=hu.1;rw[IntKind.wrap_u64];omega
    have fT:Hid (Calls Tp 42 #[Y (V ⟨G.K,0,O⟩)] wr.drew fun e w'=>e=Rt (E Z F.base)∧w'=wr.drew):=Y0 (by
     obtain ⟨o,h1,-,-,-,-⟩:=dI.out.drew
     exact (mM.out _ _ h1).mono fun e w' q=>⟨q.1,q.2.symm⟩)
    have aT:=Y0 dI.out.drew;clear hk hlt hu e0 e7;generalize F.base=bs at*;go_wp2_with fail;go_region_held3 (fun W=>W.cell? ⟨bx,3,O⟩=V (E J a3)) (first|with_reducible exact c3|with_reducible exact aJ.out _ _ c3|exact c3|exact aJ.out _ _ c3) (first|(go_at_call 42;refine fT.out.mono ?_;rintro e w3 ⟨rfl,rfl⟩));have hput:=aT.out.put j5.out dn.out 4 (E J (bs+a3));exact J64
   ·have f1:(x.k3==7)=false:=beq_eq_false_iff_ne.2 e7
    have aZ:Hid ((Vf M.objs a3 x.k3).getD 0=Zg F M x.k3 a3):=Y0 Y42
    obtain ⟨o,h1,-,eY,-,-⟩:=dI.out
    have hKn:nb≠G.K:=fun e=>by
     have q1:=h1.k.mine;rw[←e,eY.2] at q1;cases q1
    have wM:=Y0 hKn
    have km:wr.cell? ⟨G.K,1013,O⟩=V (Y (V ⟨G.aA,0,O⟩)):=(h1.Vz).2.2.2.2.2.2.1
    have aO:Hid (∀(W:World) (v:Value),W.cell? ⟨G.K,1013,O⟩=V (Y (V ⟨G.aA,0,O⟩))→(W.setCell ⟨nb,4,O⟩ v).cell? ⟨G.K,1013,O⟩=V (Y (V ⟨G.aA,0,O⟩))):=Y0 fun W v e=>(World.cell?_of_block (a:=⟨G.K,1013,O⟩) (zm fun e=>wM.out e.symm)).trans e
    have dh:Hid (Calls Tp 241 #[Y (V ⟨G.aA,0,O⟩),E J a3,E Z x.k3] wr.drew fun e W=>BG (Vf M.objs a3 x.k3) e∧(W.cell? ⟨G.K,1013,O⟩=V (Y (V ⟨G.aA,0,O⟩))∧W.cell? ⟨bx,3,O⟩=V (E J a3))∧(W.cell? ⟨nb,4,O⟩=V (E J v3)∧W.frozen? ⟨nb,4,O⟩=false)∧CSt F w own G (tell M (ZJ id k a0 a1 a2 a3)) n nb bx (zgZ a0 a1 a2 a3) (frA x.pos k v0 v1 v2 v3 0 0) w5 W):=Y0 (by
     refine (zg6 (M:=tell M (ZJ id k a0 a1 a2 a3)) h1.drew a3 x.k3 HU.out.2.2.2).mono fun e W hq=>?_
     obtain ⟨q1,hb⟩:=KU.parts hq
     have hc:=dI.out.drew.below hb
     refine ⟨q1,⟨?_,hc.ac 3⟩,⟨(hc.fc 4).1,(hc.fc 4).2⟩,hc⟩
     obtain ⟨o2,h2,-,-,-,-⟩:=hc
     exact (h2.Vz).2.2.2.2.2.2.1)
    clear h1 eY hKn e0 e7
    cases hfo:Vf M.objs a3 x.k3 with
    |none=>
     rw[hfo] at dh aZ;clear hfo;go_wp2_with fail;go_region_held3 (fun W=>W.cell? ⟨G.K,1013,O⟩=V (Y (V ⟨G.aA,0,O⟩))∧W.cell? ⟨bx,3,O⟩=V (E J a3)) (first|with_reducible exact ⟨km,c3⟩ |with_reducible exact ⟨y0,y1⟩ |with_reducible exact ⟨aO.out _ _ y0,aJ.out _ _ y1⟩ |exact ⟨km,c3⟩ |exact ⟨aO.out _ _ y0,aJ.out _ _ y1⟩) (first|(go_at_call 241;refine dh.out.mono ?_;rintro e w3 ⟨⟨te,xe,rfl⟩,⟨y0,y1⟩,⟨y2,y3⟩,hc2⟩));have aT:=Y0 hc2;clear hc2 y0 y1 y2 y3;have hput:=aT.out.put j5.out dn.out 4 (E J 0);exact J64
    |some v=>
     rw[hfo] at dh aZ;clear hfo;go_wp2_with fail;go_region_held3 (fun W=>W.cell? ⟨G.K,1013,O⟩=V (Y (V ⟨G.aA,0,O⟩))∧W.cell? ⟨bx,3,O⟩=V (E J a3)) (first|with_reducible exact ⟨km,c3⟩ |with_reducible exact ⟨y0,y1⟩ |with_reducible exact ⟨aO.out _ _ y0,aJ.out _ _ y1⟩ |exact ⟨km,c3⟩ |exact ⟨aO.out _ _ y0,aJ.out _ _ y1⟩) (first|(go_at_call 241;refine dh.out.mono ?_;rintro e w3 ⟨rfl,⟨y0,y1⟩,⟨y2,y3⟩,hc2⟩));have aT:=Y0 hc2;clear hc2 y0 y1 y2 y3;have hput:=aT.out.put j5.out dn.out 4 (E J v);exact J64
  ·obtain ⟨Oq,Ot,Ou,Ov⟩:=qY.out.done;have c0:wr.cell? ⟨bx,0,O⟩=V (E J a0):=dI.out.ac 0;obtain ⟨n31,z31⟩:=dI.out.fc 31;obtain ⟨n32,z32⟩:=dI.out.fc 32;replace n31:wr.cell? ⟨nb,31,O⟩=V (E J 0):=n31;replace n32:wr.cell? ⟨nb,32,O⟩=V (E J 0):=n32;have fD:IntKind.u64.wrap (k:Int)=(k:Int):=Y22;have dZ:Hid (∀q,CSt F w own G (tell M (ZJ id k a0 a1 a2 a3)) n nb bx (zgZ a0 a1 a2 a3) (frA x.pos k v0 v1 v2 v3 a0 k) w5 (((wr.drewN q).setCell ⟨nb,31,O⟩ (E J a0)).setCell ⟨nb,32,O⟩ (E J k))):=Y0 fun q=>((dI.out.below (zas wr q)).put j5.out dn.out 31 (E J a0)).put j5.out dn.out 32 (E J k);have Ng:Hid (v0=Zg F M x.k0 a0∧v1=Zg F M x.k1 a1∧v2=Zg F M x.k2 a2∧v3=Zg F M x.k3 a3):=Y0 ⟨Oq,Ot,Ou,Ov⟩;clear Oq Ot Ou Ov;go_wp2_with fail;go_region_with (fail)
   have HP:Hid (CSt F w own G (tell M (ZJ id k a0 a1 a2 a3)) n nb bx (zgZ a0 a1 a2 a3) (frA x.pos k v0 v1 v2 v3 a0 k) w5 ((wr.setCell ⟨nb,31,O⟩ (E J a0)).setCell ⟨nb,32,O⟩ (E J k)).drew):=Y0 (dZ.out 0).drew;generalize ((wr.setCell ⟨nb,31,O⟩ (E J a0)).setCell ⟨nb,32,O⟩ (E J k)).drew=w10 at HP ⊢;clear dZ n31 n32 z31 z32 c0;obtain ⟨o10,-,-,hfr,-,hbw⟩:=HP.out;obtain ⟨-,⟨lv,cl,hrow⟩,-,-,cfz⟩:=H5.out.ZB rA.out;obtain ⟨lA,lc,hlv⟩:=Asm.zn hrow.1;have hto:=H5.out.zel rA.out;have oh:=Y0 hto;have htl:=hto.2;have dA:r.l.length<100:=yO.out;subst hlv;obtain ⟨L,hL⟩: ∃L,L=r.l.length:=⟨_,rfl⟩;have HL:=Y0 hL;rw[←hL] at cl hrow dA;have aK:=Y0 hrow;have Es:G.tb id<nb:=by rw[←mY.out];exact htl
   have mO:=Y0 hbw;have mV:=Y0 hfr;have Rb:w10.cell? ⟨G.tb id,1,O⟩=V (.slice lA L lc):=(World.cell?_of_block (a:=⟨G.tb id,1,O⟩) (hbw.block _ Es)).trans cl;have Aa:w10.frozen? ⟨G.tb id,1,O⟩=false:=(World.frozen?_of_block (a:=⟨G.tb id,1,O⟩) (hbw.block _ Es)).trans (cfz 1);have uM:nb<w10.heap.size:=zo hfr.1;obtain ⟨TR,hif,TQ,hsf,hbf⟩:=info_parts zuH;have E3:Hid ((w10.alloc (Ce #[Y (V ⟨nb,0,O⟩)] 238)).ownsRow 0 238 1 (.slice lA L lc) L (Vo G.fb r)):=Y0 (by
    refine Asm.za aK.out.1 fun c hc=>?_
    have hlt:c<nb:=by rw[←mY.out];exact aK.out.lt hc
    exact (Below.heap_alloc _ _ _ Y1).trans (mO.out.block c hlt))
   have N3:=Y0 (cell_one_new w10 (Y (V ⟨nb,0,O⟩)) 238);have O3:Hid (∀u∈ [Value.pointer (V ⟨nb,0,O⟩)],u.oneCell'=true):=Y0 fun u hu=>by simp at hu;subst hu;rfl
   have M1:Hid (L+1≤maxLen):=Y0 Y24;have M2:Hid ((L+1)*8≤140737488355328):=Y0 Y1;have htb: ∀c,(Value.slice lA L lc).ownBlock=some c→c≠G.tb id:=fun c hc e=>by
    have h5:=aK.out.2 c hc;rw[e,oh.out.1] at h5;cases h5
   have rD:Hid (∀(v4:Value) (w4:World),(w10.alloc (Ce #[Y (V ⟨nb,0,O⟩)] 238)).grownBy w4 (Value.slice lA L lc).ownBlock→w4.heap[G.tb id]?=w10.heap[G.tb id]?):=Y0 fun v4 w4 hg=>(hg.block _ (by rw[World.size_alloc];omega) (fun e=>htb _ e.symm rfl)).trans (Below.heap_alloc _ _ _ Y1);have Ho:Hid (Zm v0∧Zm v1∧Zm v2∧Zm v3):=Y0 (by
    obtain ⟨q0,q1,q2,q3⟩:=Ng.out
    rw[q0,q1,q2,q3]
    exact ⟨H5.out.Bv (M:=tell M (ZJ id k a0 a1 a2 a3)) HU.out.1 (tK.out.1 Y1),H5.out.Bv (M:=tell M (ZJ id k a0 a1 a2 a3)) HU.out.2.1 (tK.out.2.1 Y1),H5.out.Bv (M:=tell M (ZJ id k a0 a1 a2 a3)) HU.out.2.2.1 (tK.out.2.2.1 Y1),H5.out.Bv (M:=tell M (ZJ id k a0 a1 a2 a3)) HU.out.2.2.2 (tK.out.2.2.2 Y1)⟩)
   have aD:Hid (∀(v4:Value) (w4:World),(w10.alloc (Ce #[Y (V ⟨nb,0,O⟩)] 238)).grownBy w4 (Value.slice lA L lc).ownBlock→w4.ownsRow 0 238 1 v4 (L+1) (Vo G.fb r++ [Y (V ⟨nb,0,O⟩)])→(v4.ownBlock=(Value.slice lA L lc).ownBlock∨v4.ownBlock=V (w10.alloc (Ce #[Y (V ⟨nb,0,O⟩)] 238)).heap.size)→Gp F w own G M.runs { tell M (ZJ id k a0 a1 a2 a3) with runs:=Zb M.runs { r with l:=r.l++ [⟨{ pc:=x.pos,r:= [Zg F M x.k0 a0,Zg F M x.k1 a1,Zg F M x.k2 a2,Zg F M x.k3 a3]++List.replicate 26 0++ [a0,k]},true,k⟩]}} n (w4.setCell ⟨G.tb id,1,O⟩ v4)):=Y0 fun v4 w4 hg hown hn=>by
    have hb2:Below w5.heap.size w5 (w10.alloc (Ce #[Y (V ⟨nb,0,O⟩)] 238)):=by rw[mY.out];exact mO.out.alloc (Nat.le_of_lt uM) _
    have hk:Keeps (fun b=>(Value.slice lA L lc).ownBlock=some b) w5 w4:=Keeps.grown (Keeps.zO hb2) hg fun k e=>e;obtain ⟨q0,q1,q2,q3⟩:=Ng.out;have eO:w4.heap[nb]?=V (.cells (BU { pc:=x.pos,r:= [Zg F M x.k0 a0,Zg F M x.k1 a1,Zg F M x.k2 a2,Zg F M x.k3 a3]++List.replicate 26 0++ [a0,(k:Int)]} (Sl none 0 0)++ [Value.bool true,Value.int Z (k:Int)]).toArray 240 (0,0)):=by
     refine (hg.block _ (by rw[World.size_alloc];omega) fun e=>?_).trans ((Below.heap_alloc _ _ _ uM).trans ?_)
     ·have:=aK.out.lt e.symm;rw[mY.out] at this;omega
     ·rw[mV.out.1,←q0,←q1,←q2,←q3];rfl
    have hmem:=H5.out.fok.calls x (List.mem_of_find?_eq_some HX.out);have iG:=H5.out.fok.lib;have hok:zb7 n { pc:=x.pos,r:= [Zg F M x.k0 a0,Zg F M x.k1 a1,Zg F M x.k2 a2,Zg F M x.k3 a3]++List.replicate 26 0++ [a0,(k:Int)]}:=⟨by simp,fun y hy=>by
     rw[←q0,←q1,←q2,←q3] at hy
     obtain ⟨z0,z1,z2,z3⟩:=Ho.out
     simp at hy
     rcases hy with rfl|rfl|rfl|rfl|rfl|rfl|rfl
     ·exact z0
     ·exact z1
     ·exact z2
     ·exact z3
     ·exact VH
     ·exact HU.out.1
     ·exact ⟨by omega,by omega⟩,⟨hmem.2.2.1,by show x.pos≤_;omega⟩,by simp,fun y hy=>by cases hy⟩
    obtain ⟨tb,fb,p1,p2⟩:=H5.out.push rA.out yO.out (Nat.le_refl n) (fr:=⟨{ pc:=x.pos,r:= [Zg F M x.k0 a0,Zg F M x.k1 a1,Zg F M x.k2 a2,Zg F M x.k3 a3]++List.replicate 26 0++ [a0,(k:Int)]},true,(k:Int)⟩) (lv:= .slice lA L lc) hok rfl hnum cl hk (by rw[mY.out];exact Nat.le_refl _) eO (by rw[←HL.out];exact hown) (fun c hc=>by
     rcases hn with e|e
     ·exact Or.inl (by rw[←e];exact hc)
     ·rw[hc] at e;injection e with e;exact Or.inr (by rw[e,World.size_alloc,mY.out];omega))
    exact ⟨tb,fb,p1,KO.trans CG.out p2⟩
   clear htb hbw hfr hrow hL cl cfz hnum dA;go_upto_region 19 with fail;go_wp2_with (at_builtin;refine wpList_append_own_at _ rfl _ _ 242 rfl 0 238 TR _ 1 8 Tryz.underlying242 hif TQ hsf hbf rfl Y2 (.slice lA L lc) L (Vo G.fb r) rfl E3.out ⟨w10.heap.size,0,O⟩ 1 1 [Y (V ⟨nb,0,O⟩)] rfl rfl N3.out O3.out M1.out M2.out (Nat.zero_le _) ?_;intro v4 w4 hown hgrow _ hnew;obtain ⟨A4,c4,rfl⟩:=Asm.zn hown;have MK:=rD.out (Sl none 0 0) w4 hgrow;have t0:=(World.cell?_of_block (a:=⟨G.tb id,1,O⟩) MK).trans Rb;have t1:=(World.frozen?_of_block (a:=⟨G.tb id,1,O⟩) MK).trans Aa;have HF:=Y0 (aD.out _ w4 hgrow hown hnew);clear hown hgrow hnew MK);go_wp2_with fail;go_end0;exact ⟨rfl,HF.out⟩):zP:=h
open a92 in
theorem zn6 (h:zi F w own G M n) {i:Nat} (hi:i<F.workers) {id:Int} {b:Nat} {r:Run} (hr:zR M.runs id=some r) (hne:r.l≠ []) (fa:VZ G M i (some id) b 0) (num:Int) (hnum:0≤num∧num<1000) (hout:M.out.length<999990) {a0 a1 a2 a3:Int}
  (e0:rg (zA M i (some id)) 0=a0) (e1:rg (zA M i (some id)) 1=a1) (e2:rg (zA M i (some id)) 2=a2) (e3:rg (zA M i (some id)) 3=a3) (hc:refused F M r num a0 a1 a2 a3=0) {x:kI} (hx:rowOf F.calls num=some x) (hl:r.l.length<100):
  Calls Tp 181 #[Y (V ⟨G.K,0,O⟩),Y (V ⟨G.tb id,0,O⟩),Y (V ⟨b,0,O⟩),E Z num] w fun e w'=>e=Rt (.tuple #[])∧Gp F w own G M.runs { tell M (ZJ id num a0 a1 a2 a3) with runs:=Zb M.runs { r with l:=r.l++ [⟨{ pc:=x.pos,r:= [Zg F M x.k0 a0,Zg F M x.k1 a1,Zg F M x.k2 a2,Zg F M x.k3 a3]++List.replicate 26 0++ [a0,num]},true,num⟩]}} n w':=by
 exact J6
end
section
variable {F:Fixed} {w:World} {own:Own} {G:KG} {M:zD} {n:Nat}
theorem zgt {r:Run} {num a0 a1 a2 a3:Int} (hc:refused F M r num a0 a1 a2 a3=0): ∃x,rowOf F.calls num=some x:=by
 cases e:rowOf F.calls num with
 |none=>
  unfold refused at hc
  rw[e] at hc
  cases hc
 |some x=>exact ⟨x,rfl⟩
theorem znv {id num:Int} {r:Run} (hr:zR M.runs id=some r) (hc:refused F M r num (rg (zZ r).f 0) (rg (zZ r).f 1) (rg (zZ r).f 2) (rg (zZ r).f 3)≠0):bD F M id num=returned (tell M (ZJ id num (rg (zZ r).f 0) (rg (zZ r).f 1) (rg (zZ r).f 2) (rg (zZ r).f 3))) id num (refused F M r num (rg (zZ r).f 0) (rg (zZ r).f 1) (rg (zZ r).f 2) (rg (zZ r).f 3)) 0:=by
 unfold bD;simp only[hr];rw[if_pos hc];rfl
theorem zn2 (h:zi F w own G M n) {i:Nat} (hi:i<F.workers) {id:Int} {b:Nat} {r:Run} (hr:zR M.runs id=some r) (hne:r.l≠ []) (hl:r.l.length<100) (fa:VZ G M i (some id) b 0) (num:Int) (hnum:0≤num∧num<1000) (hout:M.out.length<999990):
  Calls Tp 181 #[Y (V ⟨G.K,0,O⟩),Y (V ⟨G.tb id,0,O⟩),Y (V ⟨b,0,O⟩),E Z num] w fun e w'=>e=Rt (.tuple #[])∧Gp F w own G M.runs (bD F M id num) n w':=by
 have eg:zA M i (some id)=(zZ r).f:=by unfold zA;simp only[hr]
 by_cases hc:refused F M r num (rg (zZ r).f 0) (rg (zZ r).f 1) (rg (zZ r).f 2) (rg (zZ r).f 3)=0
 ·obtain ⟨x,hx⟩:=zgt hc;have e:bD F M id num={ tell M (ZJ id num (rg (zZ r).f 0) (rg (zZ r).f 1) (rg (zZ r).f 2) (rg (zZ r).f 3)) with runs:=Zb M.runs { r with l:=r.l++ [⟨{ pc:=x.pos,r:= [Zg F M x.k0 (rg (zZ r).f 0),Zg F M x.k1 (rg (zZ r).f 1),Zg F M x.k2 (rg (zZ r).f 2),Zg F M x.k3 (rg (zZ r).f 3)]++List.replicate 26 0++ [rg (zZ r).f 0,num]},true,num⟩]}}:=by
   unfold bD;simp only[hr,hx];rw[if_neg (by rw[hc];simp)];rfl
  rw[e];exact zn6 h hi hr hne fa num hnum hout Y76 Y76 Y76 Y76 hc hx hl
 ·rw[znv hr hc];exact (zrh h hi hr hne fa num hnum hout Y76 Y76 Y76 Y76 hc).mono fun e w' q=>⟨q.1,q.2.two⟩
end
section
variable {F:Fixed} {w:World} {own:Own} {G:KG} {M:zD} {n:Nat}
theorem Gp.nil {w':World} {l:List Run} (h:Gp F w own G l M n w'):Gp F w own G [] M n w':=by
 obtain ⟨tb,fb,-,k⟩:=h;exact ⟨tb,fb,(fun _ e=>by cases e),k⟩
theorem Gp.from {w1 w':World} {aC:Own} {l:List Run} (t:Touch (fun t=>t≠ .other) w w1 own aC) (h:Gp F w1 aC G l M n w'):Gp F w own G l M n w':=by
 obtain ⟨tb,fb,g,k⟩:=h;exact ⟨tb,fb,g,KO.trans t k⟩
theorem Gp.more {w':World} {l:List Run} {n':Nat} (h:Gp F w own G l M n w') (hn:n≤n'):Gp F w own G l M n' w':=by
 obtain ⟨tb,fb,g,k⟩:=h;exact ⟨tb,fb,g,k.more hn⟩
end
section
variable {F:Fixed} {w:World} {own:Own} {G:KG} {M:zD} {n:Nat}
theorem zi.ztF (h:zi F w own G M n) {i:Nat} (hi:i<F.workers) {t:Option Int} {b o:Nat} (fa:VZ G M i t b o):b<w.heap.size:=(h.reg hi fa 0 Y2).2.2.2
theorem a93.Q14 (h:zP:=by
 exact J16):zP:=h
theorem a93.Q20 (h:zP:=by
 obtain ⟨Ae,uz⟩:=B4.cells;unfold zS Gw at*;simp only at*;by_cases hlt:(p:Int)<(F.code.length:Int)
 ·exact J98
 ·exact J88):zP:=h
theorem a93.Q47 (h:zP:=by
 exact J16):zP:=h
theorem a93.Q88 (h:zP:=by
 clear h h1 t1 B4 l1 l3 hn hpr hp hlen hc hins hlv fa z0 z1 z2 z3 z4 z5 z6 hr hr2 hi;exact J47):zP:=h
theorem a93.Q98 (h:zP:=by
 clear h h1 t1 B4 l1 l3 hn hpr hp hlen hc hins hlv hpl fa hx hr hr2 hi;exact J14):zP:=h
open a93 in
theorem zn1 (h:zi F w own G M n) {i:Nat} (hi:i<F.workers) {id:Int} {b:Nat} (fa:VZ G M i (some id) b 0) (x:zx) (hx:(Zc F.code (zA M i (some id)).pc).getD Gw=x) (hn:n≤200000) {M2:zD} {n2:Nat} {r r2:Run} (hr:zR M.runs id=some r) (hr2:zR M2.runs id=some r2)
  (HS: ∀W own',zi F W own' G M n→Calls Tp 180 #[Y (V ⟨b,0,O⟩),G.pv, .iface 337 (shV G.K id x.op)] W fun e w'=>(∃ev,e=Rt (.tuple #[E Z 0,ev]))∧KO F W own' G M2 n2 w'):
  Calls Tp 119 #[Y (V ⟨G.K,0,O⟩),Y (V ⟨G.gW,i*38,O⟩),Y (V ⟨G.tb id,0,O⟩),Y (V ⟨b,0,O⟩)] w fun e w'=>e=Rt (.tuple #[])∧KO F w own G M2 n2 w':=by
 exact J20
theorem a94.Q14 (h:zP:=by
 exact J10):zP:=h
theorem a94.Q20 (h:zP:=by
 have HC:=Y0 HC;have mQ:=Y0 fa2;obtain ⟨Ae,uz⟩:=B4.cells;unfold zS Gw at*;simp only at*;by_cases hlt:(p:Int)<(F.code.length:Int)
 ·exact J98
 ·exact J88):zP:=h
theorem a94.Q47 (h:zP:=by
 exact J10):zP:=h
theorem a94.Q88 (h:zP:=by
 clear h h1 t1 B4 l1 l3 hn hpr hp hlen hc hins hlv fa z0 z1 z2 z3 z4 z5 z6 hr hr2 hi fa2;exact J47):zP:=h
theorem a94.Q98 (h:zP:=by
 clear h h1 t1 B4 l1 l3 hn hpr hp hlen hc hins hlv hpl fa hx hr hr2 hi fa2;exact J14):zP:=h
open a94 in
theorem znP (h:zi F w own G M n) {i:Nat} (hi:i<F.workers) {id:Int} {b:Nat} (fa:VZ G M i (some id) b 0) (x:zx) (hx:(Zc F.code (zA M i (some id)).pc).getD Gw=x) (hn:n≤200000) {M2:zD} {n2:Nat} {r r2:Run} (hr:zR M.runs id=some r) (hr2:zR M2.runs id=some r2) (fa2:VZ G M2 i (some id) b 0) (hn2:n2≤300000) (hxv:0≤x.v∧x.v<1000) {Q:World→Prop}
  (HC: ∀W o,zi F W o G (VQ M2 i (some id)) (n2+1)→Touch (fun t=>t≠ .other) w W own o→Calls Tp 181 #[Y (V ⟨G.K,0,O⟩),Y (V ⟨G.tb id,0,O⟩),Y (V ⟨b,0,O⟩),E Z x.v] W fun e w'=>e=Rt (.tuple #[])∧Q w')
  (HS: ∀W own',zi F W own' G M n→Calls Tp 180 #[Y (V ⟨b,0,O⟩),G.pv, .iface 337 (shV G.K id x.op)] W fun e w'=>(∃ev,e=Rt (.tuple #[E Z 1,ev]))∧KO F W own' G M2 n2 w'):
  Calls Tp 119 #[Y (V ⟨G.K,0,O⟩),Y (V ⟨G.gW,i*38,O⟩),Y (V ⟨G.tb id,0,O⟩),Y (V ⟨b,0,O⟩)] w fun e w'=>e=Rt (.tuple #[])∧Q w':=by
 exact J20
end
section
variable {F:Fixed} {w:World} {own:Own} {G:KG} {M:zD} {n:Nat}
theorem zb4 {i:Nat} {id:Int} {x:zx} (hx:Zc F.code (zA M i (some id)).pc=some x) (ho: ¬(17≤x.op∧x.op≤21)) (h22:x.op≠22) (h16: ¬(x.op=16∧(zA M i (some id)).back= [])):VN F M i id=if (zK (zA M i (some id)) F.code M.mem).how=3 then zba F M i id x.op 0 else Zu M i (some id) (zK (zA M i (some id)) F.code M.mem).f:=by
 unfold VN;simp only[hx];rw[if_neg ho,if_neg h22,if_neg h16]
theorem zeI {i:Nat} {id:Int} {x:zx} (hx:Zc F.code (zA M i (some id)).pc=some x) (h22:x.op=22):VN F M i id=bD F (VQ M i (some id)) id x.v:=by
 unfold VN;simp only[hx];rw[if_neg Y1,if_pos h22]
theorem zlY {l:List zx} {pc:Int} {x:zx} (h:Zc l pc=some x):x∈l:=by
 unfold Zc at h;split at h
 ·cases h
 ·exact List.mem_of_getElem? h
end
section
variable {F:Fixed} {w:World} {own:Own} {G:KG} {M:zD} {n:Nat}
def zvb (F:Fixed) (M:zD) (i:Nat):zD:=let p:=library F (setW M i { zl M i with parked:=false}) i none;if p.1=2∨p.1=3 then again F p.2 i else p.2
end
end Kn
end Go.Proofs.YtdlpmnmenhojfaaGreatDoor
