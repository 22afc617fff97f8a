/- Part 9 of what the proof stands on: KnObj, KnMemNew, KnZero, KnNews, KnMemOps, KnCode, KnRAll, AsmPl. -/
import Derived.Test.YtdlpmnmenhojfaaGreatDoorR08
set_option linter.unusedVariables false
set_option maxHeartbeats 40000000
set_option maxRecDepth 100000
variable {zP:Prop}
namespace Go.Proofs.YtdlpmnmenhojfaaGreatDoor
open Go.IntKind renaming i64->Z,u64->J
open Go.Value renaming int->E,pointer->Y,slice->Sl
open Option renaming none->O,some->V
open Go.Obj renaming cells->Ce
open Go.Ending renaming returned->Rt
open Go.Proofs.Tryz renaming prog->Tp
namespace Kn
open Go.RowKit Asm
def or4 (r:Vd):List Value:= [E J r.times,E J r.handle,E Z r.kind,E J r.addr]
def zr7 (l:List Vd):List Value:=l.flatMap or4
def oAt (l:List Vd) (p:Nat):Vd:=l.getD p {}
structure zeK (r:Vd) (p N:Nat):Prop where
 times:0≤r.times∧r.times≤N
 handle:r.handle≠0→r.handle=p+1+64* (r.times - 1)∧1≤r.times
 free:r.handle=0→r.kind=0∧r.addr=0
 kind:0≤r.kind∧r.kind≤6
 addr:Zm r.addr
structure BS (l:List Vd) (N:Nat):Prop where
 len:l.length=64
 most:N≤1000000000
 row: ∀p,p<64→zeK (oAt l p) p N
theorem zaV {l:List Vd} {p:Nat} (h:p<l.length):oAt l p=l[p]:=by
 unfold oAt;rw[List.getD_eq_getElem?_getD,List.getElem?_eq_getElem h];rfl
theorem zrJ {l:List Vd} {p q:Nat} (h:p<l.length) (r:Vd):oAt (l.set p r) q=if q=p then r else oAt l q:=by
 unfold oAt;exact zvZ
theorem BS.set {l:List Vd} {N p:Nat} (h:BS l N) (hp:p<64) {r:Vd} (hr:zeK r p N):BS (l.set p r) N:=
 ⟨by rw[List.length_set];exact h.len,h.most,fun q hq=>by
  rw[zrJ (by rw[h.len];exact hp)]
  split
  ·rename_i e;subst e;exact hr
  ·exact h.row q hq⟩
theorem BS.more {l:List Vd} {N:Nat} (h:BS l N) (hN:N+1≤1000000000):BS l (N+1):=
 ⟨h.len,hN,fun p hp=>by have k:=h.row p hp;exact ⟨by have:=k.times;omega,k.handle,k.free,k.kind,k.addr⟩⟩
theorem zbO {l:List Vd} {N:Nat} (h:BS l N) {id:Int} {p:Nat} {r:Vd} (e:ofO l id=V (p,r)):id≠0∧(id - 1)%64=(p:Int)∧p<64∧r=oAt l p∧r.handle=id:=by
 unfold ofO at e;by_cases h0:id=0
 ·rw[if_pos h0] at e;cases e
 ·rw[if_neg h0] at e;have hlt:((id - 1)%64).toNat<l.length:=by rw[h.len];omega
  rw[List.getElem?_eq_getElem hlt] at e;simp only at e;split at e
  ·rename_i he;injection e with e
   injection e with e1 e2
   subst e1;refine ⟨h0,by omega,by omega,?_,by rw[←e2];exact he⟩;rw[zaV hlt,e2]
  ·cases e
theorem zqa {l:List Vd} {N:Nat} (h:BS l N) {id:Int} (h0:id≠0) (e:ofO l id=none): ∃p:Nat,(id - 1)%64=(p:Int)∧p<64∧(oAt l p).handle≠id:=by
 refine ⟨((id - 1)%64).toNat,by omega,by omega,?_⟩;have hlt:((id - 1)%64).toNat<l.length:=by rw[h.len];omega
 unfold ofO at e;rw[if_neg h0,List.getElem?_eq_getElem hlt] at e;simp only at e;split at e
 ·cases e
 ·rename_i he;rw[zaV hlt];exact he
structure VE (w:World) (aA go:Nat) (l:List Vd) (N:Nat):Prop where
 ok:BS l N
 obj:w.heap[aA]?=V (.cells #[Sl (V ⟨go,0,O⟩) 64 64] 225 (0,0))
 row:w.heap[go]?=V (.cells (zr7 l).toArray 419 (0,0))
section
variable {w w':World} {aA go:Nat} {l:List Vd} {N:Nat}
theorem VE.zk (h:VE w aA go l N) (e: ∀b,b=aA∨b=go→w'.heap[b]?=w.heap[b]?):VE w' aA go l N:=
 ⟨h.ok,(e aA (Or.inl rfl)).trans h.obj,(e go (Or.inr rfl)).trans h.row⟩
theorem VE.lt (h:VE w aA go l N):aA<w.heap.size∧go<w.heap.size:=⟨zo h.obj,zo h.row⟩
theorem VE.below (h:VE w aA go l N) (hb:Below w.heap.size w w'):VE w' aA go l N:=
 h.zk fun b hb'=>hb.block b (by obtain ⟨l1,l2⟩:=h.lt;rcases hb' with rfl|rfl<;>assumption)
theorem VE.ne (h:VE w aA go l N):aA≠go:=Zp h.obj h.row Y2
theorem VE.at0 (h:VE w aA go l N):w.cell? ⟨aA,0,O⟩=V (Sl (V ⟨go,0,O⟩) 64 64):=by rw[ze h.obj];rfl
theorem VE.cell (h:VE w aA go l N) {p:Nat} (hp:p<64) (j:Nat) (hj:j<4):w.cell? ⟨go,p*4+j,O⟩=(or4 (oAt l p))[j]?:=by
 have hlt:p<l.length:=Y81;rw[ze h.row,zaV hlt];have:=gu (k:=4) (f:=or4) (fun _=>rfl) l p hlt j hj;simpa[zr7] using this
theorem VE.frozen (h:VE w aA go l N) (o:Nat):w.frozen? ⟨go,o,O⟩=false:=zF h.row o
theorem VE.mid (h:VE w aA go l N) {p:Nat} (hp:p<64):
  w.heap[go]?=V (.cells ((l.take p).flatMap or4++or4 (oAt l p)++(l.drop (p+1)).flatMap or4).toArray 419 (0,0))∧((l.take p).flatMap or4).length=p*4:=by
 have hlt:p<l.length:=Y81;refine ⟨?_,by rw[BA (k:=4) (fun _=>rfl),List.length_take,Nat.min_eq_left Y1]⟩;rw[zaV hlt,←zaN l p hlt];exact h.row
theorem VE.put (h:VE w aA go l N) {p:Nat} (hp:p<64) (r:Vd) (hr:zeK r p N) (hO:w'.heap[aA]?=w.heap[aA]?)
  (hm:w'.heap[go]?=V (.cells ((l.take p).flatMap or4++or4 r++(l.drop (p+1)).flatMap or4).toArray 419 (0,0))):VE w' aA go (l.set p r) N:=by
 have hlt:p<l.length:=Y81;refine ⟨h.ok.set hp hr,hO.trans h.obj,?_⟩;rw[hm,zek l p hlt];rfl
end
theorem zad (k:Int) (w:World):Calls Tp 94 #[.iface 48 (E Z k)] w fun e w'=>(∃v,e= .returned v∧Som v)∧Below w.heap.size w w':=by
 go_enter Tryz.func94,Tryz.ntmps94;exact J75
theorem zph {w:World} {aA go:Nat} {l:List Vd} {N:Nat} (h:VE w aA go l N) (id:Int) (hid:Zm id) {p:Nat} {r:Vd} (hof:ofO l id=V (p,r)):
  Calls Tp 293 #[Y (V ⟨aA,0,O⟩),E J id] w fun e w'=>e=Rt (Y (V ⟨go,p*4,O⟩))∧ ∃q,w'=w.drewN q:=by
 obtain ⟨h0,hp,aQ,rfl,sH⟩:=zbO h.ok hof;have c0:=h.at0;have x1:w.cell? ⟨go,p*4+1,O⟩=V (E J id):=by
  have:=h.cell aQ 1 Y1;rw[this];simp[or4,sH]
 have oG:(p:Int)<64:=Y1;have hi1:1≤id:=by have:=hid.1;omega
 have hi2:=hid.2;have Rz:(id==0)=false:=by simp[h0]
 clear h hof sH hid aQ h0;exact J79
theorem zpf {w:World} {aA go:Nat} {l:List Vd} {N:Nat} (h:VE w aA go l N) (id:Int) (hid:Zm id) (hof:ofO l id=none):
  Calls Tp 293 #[Y (V ⟨aA,0,O⟩),E J id] w fun e w'=>e=Rt (Y none)∧ ∃q,w'=w.drewN q:=by
 by_cases h0:id=0
 ·subst h0;clear h hof hid;exact J79
 ·obtain ⟨p,hp,aQ,hno⟩:=zqa h.ok h0 hof;have c0:=h.at0;have oG:(p:Int)<64:=Y1;have hi1:1≤id:=by have:=hid.1;omega
  have hi2:=hid.2;have Rz:(id==0)=false:=by simp[h0]
  have x1:w.cell? ⟨go,p*4+1,O⟩=V (E J (oAt l p).handle):=by
   rw[h.cell aQ 1 Y1];simp[or4]
  have hb:((oAt l p).handle !=id)=true:=bne_iff_ne.2 hno;generalize (oAt l p).handle=i at*;clear h hof hid aQ hno h0;exact J79
def KU (w:World) (r:Option Int) (e:Ending) (w':World):Prop:=match r with
 |some a=>e=Rt (.tuple #[E J a, .nilIface])∧Below w.heap.size w w'
 |none=>(∃ev,e=Rt (.tuple #[E J 0,ev])∧Som ev)∧Below w.heap.size w w'
theorem BR {w w':World} {q:Nat} (hb:Below (w.drewN q).heap.size (w.drewN q) w'):Below w.heap.size w w':=⟨hb.os,hb.tape,hb.output,hb.size,hb.block⟩
theorem zkX {w:World} {aA go:Nat} {l:List Vd} {N:Nat} (h:VE w aA go l N) (id k:Int) (hid:Zm id):
  Calls Tp 241 #[Y (V ⟨aA,0,O⟩),E J id,E Z k] w (KU w (Vf l id k)):=by
 have HF:=Y0 (fun k W=>zad k W)
 cases hof:ofO l id with
 |none=>
  have HO:=Y0 (zpf h id hid hof)
  have e0:Vf l id k=none:=by unfold Vf;rw[hof]
  rw[e0]
  clear hof h e0 hid
  go_enter Tryz.func241,Tryz.ntmps241
  go_wp2_with fail
  refine HO.out.mono ?_
  rintro e w1 ⟨rfl,q,rfl⟩
  go_wp2_with fail
  refine (HF.out _ _).mono ?_
  rintro e w2 ⟨⟨ev,rfl,hev⟩,hb⟩
  go_wp2
  go_ret2
  exact ⟨⟨_,rfl,hev⟩,BR hb⟩
 |some pr=>
  obtain ⟨p,r⟩:=pr
  obtain ⟨h0,hp,aQ,hr,sH⟩:=zbO h.ok hof
  have HO:=Y0 (zph h id hid hof)
  have x2:w.cell? ⟨go,p*4+2,O⟩=V (E Z r.kind):=by rw[h.cell aQ 2 Y1,←hr];rfl
  have x3:w.cell? ⟨go,p*4+3,O⟩=V (E J r.addr):=by rw[h.cell aQ 3 Y1,←hr];rfl
  by_cases hk:r.kind=k
  ·have e0:Vf l id k=some r.addr:=by unfold Vf;rw[hof];exact if_pos hk
   rw[e0,]
   have hb:(r.kind !=k)=false:=by simp[hk]
   generalize r.addr=ad at*
   generalize r.kind=kd at*
   clear hof h e0 hid hr sH hk h0 hp
   go_enter Tryz.func241,Tryz.ntmps241
   go_wp2_with fail
   refine HO.out.mono ?_
   rintro e w1 ⟨rfl,q,rfl⟩
   go_wp2_with fail
   go_ret2
   exact ⟨rfl,zoT w q⟩
  ·have e0:Vf l id k=none:=by unfold Vf;rw[hof];exact if_neg hk
   rw[e0]
   have hb:(r.kind !=k)=true:=by simp[hk]
   generalize r.addr=ad at*
   generalize r.kind=kd at*
   clear hof h e0 hid hr sH hk h0 hp
   go_enter Tryz.func241,Tryz.ntmps241
   go_wp2_with fail
   refine HO.out.mono ?_
   rintro e w1 ⟨rfl,q,rfl⟩
   go_wp2_with fail
   refine (HF.out _ _).mono ?_
   rintro e w2 ⟨⟨ev,rfl,hev⟩,hb⟩
   go_wp2
   go_ret2
   exact ⟨⟨_,rfl,hev⟩,BR hb⟩
theorem zqB {l:List Vd} {i:Nat} (hi:i<l.length) (hb: ∀j,j<i→(oAt l j).handle≠0) (h:(oAt l i).handle=0):zcm l=some i:=by
 induction l generalizing i with
 |nil=>simp at hi
 |cons r l ih=>
  unfold zcm
  cases i with
  |zero=>rw[if_pos (show r.handle=0 from h)]
  |succ i=>
   rw[if_neg (show¬r.handle=0 from hb 0 Y1),ih Y59 (fun j hj=>hb (j+1) Y1) h]
   rfl
theorem zn0 {l:List Vd} (hb: ∀j,j<l.length→(oAt l j).handle≠0):zcm l=none:=by
 induction l with
 |nil=>rfl
 |cons r l ih=>
  unfold zcm
  rw[if_neg (show¬r.handle=0 from hb 0 Y7),ih fun j hj=>hb (j+1) Y50]
  rfl
def zq1 (w:World) (aA go:Nat) (N:Nat) (r:Int×List Vd) (e:Ending) (w':World):Prop:=
 (∃ev,e=Rt (.tuple #[E J r.1,ev]))∧VE w' aA go r.2 (N+1)∧Keeps (fun b=>b=go) w w'
theorem VE.more {w w':World} {aA go:Nat} {l:List Vd} {N:Nat} (h:VE w aA go l N) (hN:N+1≤1000000000):VE w aA go l (N+1):=⟨h.ok.more hN,h.obj,h.row⟩
theorem zlA {w:World} {aA go:Nat} {l:List Vd} {N:Nat} (h:VE w aA go l N) (k addr:Int) (hk0:0≤k) (ha:Zm addr) (hN:N+1≤1000000000):
  Calls Tp 279 #[Y (V ⟨aA,0,O⟩),E Z k,E J addr] w (zq1 w aA go N (kg l k addr)):=by
 have HF:=Y0 (fun k W=>zad k W);have H:=Y0 h;have HA:=Y0 ha;have HN:=Y0 hN;have c0:=h.at0;by_cases hkb:k<1∨6<k
 ·have e0:kg l k addr=(0,l):=by unfold kg;rw[if_pos hkb]
  rw[e0];clear h ha hN e0;rcases hkb with hkb|hkb
  all_goals
   go_enter Tryz.func279,Tryz.ntmps279
   go_wp2_with fail
   refine (HF.out _ _).mono ?_
   rintro e w2 ⟨⟨ev,rfl,hev⟩,hb⟩
   go_wp2
   go_ret2
   exact ⟨⟨_,rfl⟩,(H.out.more (w':=w) HN.out).below hb,Keeps.zO hb⟩
 have hk1:1≤k:=Y1;have Aq:k≤6:=Y1;clear h ha hN hk0;go_enter Tryz.func279,Tryz.ntmps279;go_wp2_with fail;go_loopw [23] (fun iv wr=> ∃i:Nat,i≤64∧iv=E Z (i:Int)∧wr=w∧Hid (∀j,j<i→(oAt l j).handle≠0)) (fun iv _=>64 - (intOf iv).toNat);case atStart=>exact ⟨0,by omega,rfl,rfl,Y0 fun j hj=>absurd hj Y1⟩
 case round=>
  obtain ⟨i,hi,rfl,rfl,HB⟩:=hrel;by_cases hlt:i<64
  ·have aH:(i:Int)<64:=Y1;have hc:=fun j hj=>H.out.cell hlt j hj;have hk:=H.out.ok.row i hlt;obtain ⟨hm,hl⟩:=H.out.mid hlt;have hf:=fun o=>H.out.frozen o;generalize hr:oAt l i=r at hc hk hm;obtain ⟨ti,ha,ki,ad⟩:=r;by_cases hz:ha=0
   ·subst hz;obtain ⟨hz1,hz2⟩:=hk.free rfl;simp only at hz1 hz2;subst hz1 hz2;have x0:wr.cell? ⟨go,i*4,O⟩=V (E J ti):=hc 0 Y1;have x1:wr.cell? ⟨go,i*4+1,O⟩=V (E J 0):=hc 1 Y1;have x2:wr.cell? ⟨go,i*4+2,O⟩=V (E Z 0):=hc 2 Y1;have x3:wr.cell? ⟨go,i*4+3,O⟩=V (E J 0):=hc 3 Y1;have f0:=hf (i*4);have f1:=hf (i*4+1);have f2:=hf (i*4+2);have f3:=hf (i*4+3);have ht:=hk.times;simp only at ht;have ht2:ti≤1000000000:=by have:=HN.out;omega
    have ht1:=ht.1;have m1:=VL hm 1 (by simp[or4]) (show i*4+1=_ by rw[hl]) (E J ((i:Int)+1+64*ti));have m2:=VL m1 2 (by simp[or4]) (show i*4+2=_ by rw[hl]) (E Z k);have m3:=VL m2 3 (by simp[or4]) (show i*4+3=_ by rw[hl]) (E J addr);have m4:=VL m3 0 (by simp[or4]) (show i*4=_ by rw[hl];rfl) (E J (ti+1));have HM:=Y0 m4;have hne:((i:Int)+1+64*ti)≠0:=Y1;have e0:kg l k addr=((i:Int)+1+64*ti,l.set i ⟨ti+1,(i:Int)+1+64*ti,k,addr⟩):=by
     unfold kg;rw[if_neg hkb,zqB (by rw[H.out.ok.len];exact hlt) HB.out (by rw[hr])];have:l.getD i {}=⟨ti,0,0,0⟩:=hr;simp only[this];rw[Int.emod_eq_of_lt Y1 Y1]
    have HE:=Y0 e0;have HK:Hid (zeK ⟨ti+1,(i:Int)+1+64*ti,k,addr⟩ i (N+1)):=Y0 ⟨by show 0≤ti+1∧ti+1≤((N+1:Nat):Int);omega,fun _=>⟨by show (i:Int)+1+64*ti=(i:Int)+1+64* (ti+1 - 1);omega,by show 1≤ti+1;omega⟩,fun e=>absurd e hne,by show 0≤k∧k≤6;omega,HA.out⟩;clear m1 m2 m3 m4 hm hl hk hc hf hr e0 ht hne;go_wp2_with fail;go_ret2;rw[HE.out];refine ⟨⟨_,rfl⟩,(H.out.more (w':=wr) HN.out).put hlt _ HK.out ?_ HM.out,?_⟩
    ·have e: ∀(W:World) o v,(W.setCell ⟨go,o,O⟩ v).heap[aA]?=W.heap[aA]?:=fun W o v=>zm H.out.ne;rw[e,e,e,e]
    ·iterate 4 (refine Keeps.setCell (X:=fun b=>b=go) (p:=⟨go,_,O⟩) ?_ rfl _)
     exact Keeps.refl _ _
   ·have x1:wr.cell? ⟨go,i*4+1,O⟩=V (E J ha):=hc 1 Y1;have hzb:(ha !=0)=true:=by simp[hz]
    have aP:Hid (∀j,j<i+1→(oAt l j).handle≠0):=Y0 fun j hj=>by
     rcases Nat.lt_succ_iff_lt_or_eq.1 hj with h1|h1
     ·exact HB.out j h1
     ·rw[h1,hr];exact hz
    exact zwh
  ·obtain rfl:i=64:=Y1;have e0:kg l k addr=(0,l):=by
    unfold kg;rw[if_neg hkb,zn0 fun j hj=>HB.out j (by rw[←H.out.ok.len];exact hj)]
   have HE:=Y0 e0;clear e0;go_wp2_with fail;refine (HF.out _ _).mono ?_;rintro e w2 ⟨⟨ev,rfl,hev⟩,hb⟩;go_wp2;go_ret2;rw[HE.out];exact ⟨⟨_,rfl⟩,(H.out.more (w':=wr) HN.out).below hb,Keeps.zO hb⟩
theorem zhq (z:Value) (n:Nat):madeCells #[z] n=(List.replicate n z).toArray:=by
 unfold madeCells;apply Array.ext
 ·simp
 ·intro i h1 h2;simp[Nat.mod_one]
theorem zrk (n:Nat):madeCells (Value.int J 0).cells n=zaz (List.replicate n 0):=by
 show madeCells #[Value.int J 0] n=_;rw[zhq];simp[zaz]
theorem zu6 (n:Nat):madeCells (Value.int .u8 0).cells n=u8A (List.replicate n 0):=by
 show madeCells #[Value.int .u8 0] n=_;rw[zhq];simp[u8A]
theorem zoG (n:Nat) (hn:n≤65536) (w:World):(Instr.makeSlice 23 (E Z (n:Int)) (E Z (n:Int))).run Tp w= .ok (Sl (V ⟨w.heap.size,0,O⟩) n n) (w.alloc (Ce (zaz (List.replicate n 0)) 22)):=by
 obtain ⟨i,h1,h2,h3,h4⟩:=info_parts (show (Tryz.prog.info? 22).map (fun i=>(i.zero,i.size,i.bytes))=V (some (E J 0),1,8) by kernel_rfl);have:=run_make (P:=Tp) w 23 22 i _ Tryz.underlying23 h1 h2 Z Z (n:Int) (n:Int) Y1 Y1 (by rw[h4];omega) Y1;rw[h3,Int.toNat_natCast,Nat.mul_one] at this;rw[this,zrk]
theorem zyH (n:Nat) (hn:n≤65536) (w:World):(Instr.makeSlice 296 (E Z (n:Int)) (E Z (n:Int))).run Tp w= .ok (Sl (V ⟨w.heap.size,0,O⟩) n n) (w.alloc (Ce (u8A (List.replicate n 0)) 5)):=by
 obtain ⟨i,h1,h2,h3,h4⟩:=info_parts (show (Tryz.prog.info? 5).map (fun i=>(i.zero,i.size,i.bytes))=V (some (.int .u8 0),1,1) by kernel_rfl);have:=run_make (P:=Tp) w 296 5 i _ Tryz.underlying296 h1 h2 Z Z (n:Int) (n:Int) Y1 Y1 (by rw[h4];omega) Y1;rw[h3,Int.toNat_natCast,Nat.mul_one] at this;rw[this,zu6]
theorem zfh (n:Nat) (h1:1≤n) (h2:n≤65536):bM ⟨List.replicate n 0,List.replicate n 0⟩:=
 ⟨by simp,by simpa using h1,by simpa using h2,fun x hx=>Or.inl (List.mem_replicate.1 hx).2,fun x hx=>by rw[(List.mem_replicate.1 hx).2];exact ⟨by decide,by decide⟩⟩
theorem zpe (w:World) (a b c:Obj):Below w.heap.size w (((w.alloc a).alloc b).alloc c).drew:=
 let h:=(((Below.refl w.heap.size w).alloc (Nat.le_refl _) a).alloc Y7 b).alloc Y8 c
 ⟨h.os,h.tape,h.output,h.size,h.block⟩
theorem znX (w:World) (a b c:Obj):(((w.alloc a).alloc b).alloc c).drew.heap[w.heap.size]?=some a:=
 (Below.heap_alloc _ _ _ Y8).trans ((Below.heap_alloc _ _ _ Y7).trans (heap_alloc_new w a))
theorem zol (w:World) (a b c:Obj):(((w.alloc a).alloc b).alloc c).drew.heap[w.heap.size+1]?=some b:=
 (Below.heap_alloc _ _ _ Y7).trans (by have:=heap_alloc_new (w.alloc a) b;simpa using this)
theorem znG (w:World) (a b c:Obj):(((w.alloc a).alloc b).alloc c).drew.heap[w.heap.size+1+1]?=some c:=by
 show (((w.alloc a).alloc b).alloc c).heap[w.heap.size+1+1]?=some c;have:=heap_alloc_new ((w.alloc a).alloc b) c;simpa using this
theorem ziv (n:Nat) (h1:1≤n) (h2:n≤65536) (w:World):
  Calls Tp 95 #[E Z n] w fun e w'=> ∃X gc gw,e=Rt (.tuple #[Y (V ⟨X,0,O⟩), .nilIface])∧w.heap.size≤X∧w.heap.size≤gc∧w.heap.size≤gw∧Zn w' X gc gw ⟨List.replicate n 0,List.replicate n 0⟩∧Below w.heap.size w w':=by
 have ou:1≤(n:Int):=Y1;have iN:(n:Int)≤65536:=Y1;have e1:=zoG n h2;have e2:=zyH n h2;go_enter Tryz.func95,Tryz.ntmps95;go_wp2_with fail;go_region;all_goals
  go_wp2_with fail
  go_ret2
 ·refine ⟨w.heap.size+1+1,w.heap.size,w.heap.size+1,rfl,by omega,by omega,by omega,⟨zfh n h1 h2,⟨0,0,?_⟩,znX _ _ _ _,zol _ _ _ _⟩,zpe w _ _ _⟩;rw[znG];try simp
 ·refine ⟨w.heap.size+1+1,w.heap.size+1,w.heap.size,rfl,by omega,by omega,by omega,⟨zfh n h1 h2,⟨0,0,?_⟩,zol _ _ _ _,znX _ _ _ _⟩,zpe w _ _ _⟩;rw[znG];try simp
theorem zrV:(zqM (List.replicate 64 {})).toArray=madeCells #[E J 0, .bool false, .bool false,E J 0,E Z 0,E J 0,E J 0,E J 0, .bool false, .bool false] (64*10):=Y4
theorem zrP:(zr7 (List.replicate 64 {})).toArray=madeCells #[E J 0,E J 0,E Z 0,E J 0] (64*4):=Y4
theorem zu7 (B:Int→Nat):(wqC B []).toArray=madeCells #[Y none,Y none] (8*2):=Y4
open Go.RowKit Go.Maps Asm Hp
theorem zj5 {w:World} {C hb hm:Nat} {v:Value} {ab:Nat} {c:bJ} {N K:Nat} (h:KE w C hb hm v ab c N K):
  Calls Tp 112 #[Y (V ⟨C,0,O⟩)] w fun e w'=>e=Rt (E J c.now)∧w'=w:=by
 obtain ⟨k0,k1,k2,kf⟩:=h.cells;clear h;go_enter Tryz.func112,Tryz.ntmps112;go_wp2_with fail;go_ret;exact ⟨rfl,rfl⟩
theorem ziO (w:World):Calls Tp 41 #[] w fun e w'=> ∃C hb hm ab,e=Rt (Y (V ⟨C,0,O⟩))∧KE w' C hb hm (Sl none 0 0) ab { now:=0,S:= [],last:=0} 0 0∧w.heap.size≤C∧w.heap.size≤hb∧w.heap.size≤hm∧w.heap.size≤ab∧Below w.heap.size w w':=by
 have hmm:=@run_makeMap Tp;have HN:=Y0 (Hp.zrD w);go_enter Tryz.func41,Tryz.ntmps41;go_wp2_with (go_at_call 91;refine HN.out.mono ?_;rintro e w1 ⟨hb,hm,rfl,h1,h2,h3,h4⟩;have H3:=Y0 h3;have H4:=Y0 h4;clear h3 h4);go_ret;have hS:=H4.out.size;have hB:Below w.heap.size w ((w1.alloc (.map #[] 0)).alloc (Ce #[E J 0,Y (V ⟨hb,0,O⟩), .map (some w1.heap.size)] 212)):=(H4.out.alloc hS _).alloc Y8 _;have hn:=heap_alloc_new (w1.alloc (.map #[] 0)) (.cells #[E J 0,Y (V ⟨hb,0,O⟩), .map (some w1.heap.size)] 212);have hmap:Zl arms (w1.alloc (.map #[] 0)) w1.heap.size (byF []) 0:=
  ⟨_,0,World.ownsMap_made w1 Tp 22 arms.R,Nat.le_refl _,fun k _=>⟨rfl,fun j hj=>by cases hj⟩⟩
 refine ⟨w1.heap.size+1,hb,hm,w1.heap.size,rfl,⟨by simpa using hn,H3.out.zk fun k hk=>?_,hmap.of_block (Below.heap_alloc _ _ _ Y7),?_,List.nodup_nil,(fun t ht=>by cases ht),⟨by decide,by decide⟩,by simp⟩,by omega,h1,h2,by omega,hB⟩
 ·have hlt:=H3.out.of_lt hk;exact (Below.heap_alloc _ _ _ Y8).trans (Below.heap_alloc _ _ _ hlt)
 ·have hlt:=H3.out.of_lt (k:=hm) (Or.inr (Or.inl rfl));omega
theorem zkj (t e:TypeId) (n:Nat) (zs:Array Value) (k:Nat) (ht:Tryz.prog.underlying t=V (.slice e)) (hi:(Tryz.prog.info? e).map (fun i=>(i.zero.map (·.cells),i.size,decide (i.bytes≤1000)))=V (some zs,k,true)) (hn:n≤64) (w:World):
  (Instr.makeSlice t (E Z (n:Int)) (E Z (n:Int))).run Tp w= .ok (Sl (V ⟨w.heap.size,0,O⟩) n n) (w.alloc (Ce (madeCells zs (n*k)) e)):=by
 obtain ⟨i,h1,h2⟩: ∃i,Tryz.prog.info? e=some i∧(i.zero.map (·.cells),i.size,decide (i.bytes≤1000))=(some zs,k,true):=by
  cases hh:Tryz.prog.info? e with
  |none=>rw[hh] at hi;cases hi
  |some i=>rw[hh] at hi;injection hi with hi;exact ⟨i,rfl,hi⟩
 have h3:i.size=k:=congrArg (fun q=>q.2.1) h2;have hb:i.bytes≤1000:=of_decide_eq_true (congrArg (fun q=>q.2.2) h2);replace h2:i.zero.map (·.cells)=some zs:=congrArg (fun q=>q.1) h2;obtain ⟨z,hz,hzz⟩: ∃z,i.zero=some z∧z.cells=zs:=by
  cases hh:i.zero with
  |none=>rw[hh] at h2;cases h2
  |some z=>rw[hh] at h2;injection h2 with h2;exact ⟨z,rfl,h2⟩
 have hbn:i.bytes*n≤1000*64:=Nat.mul_le_mul hb hn;have hbe:((i.bytes*n:Nat):Int)=(i.bytes:Int)* (n:Int):=Int.natCast_mul _ _;have:=run_make (P:=Tp) w t e i z ht h1 hz Z Z (n:Int) (n:Int) Y1 Y1 Y1 Y1;rw[h3,Int.toNat_natCast,hzz] at this;exact this
theorem zbZ (w:World) (o o':Obj):((w.alloc o).alloc o').heap[w.heap.size]?=some o∧((w.alloc o).alloc o').heap[w.heap.size+1]?=some o'∧Below w.heap.size w ((w.alloc o).alloc o'):=by
 have hn:=heap_alloc_new (w.alloc o) o';exact ⟨(Below.heap_alloc _ _ _ Y7).trans (heap_alloc_new w _),by simpa using hn,((Below.refl _ w).alloc (Nat.le_refl _) _).alloc Y7 _⟩
theorem zg2 (w:World):Calls Tp 43 #[E Z 64] w fun e w'=> ∃R gr,e=Rt (.tuple #[Y (V ⟨R,0,O⟩), .nilIface])∧gJ w' R gr []∧w.heap.size≤R∧w.heap.size≤gr∧Below w.heap.size w w':=by
 have e1:=zoG 64 Y1;simp only[Int.cast_ofNat_Int] at e1;go_enter Tryz.func43,Tryz.ntmps43;go_wp2_with fail;go_ret2;have hn:=heap_alloc_new (w.alloc (Ce (zaz (List.replicate 64 0)) 22)) (.cells #[Sl (V ⟨w.heap.size,0,O⟩) 64 64,E Z 0,E Z 0] 214);have hB:Below w.heap.size w ((w.alloc (Ce (zaz (List.replicate 64 0)) 22)).alloc (Ce #[Sl (V ⟨w.heap.size,0,O⟩) 64 64,E Z 0,E Z 0] 214)):=((Below.refl _ w).alloc (Nat.le_refl _) _).alloc Y7 _;refine ⟨w.heap.size+1,w.heap.size,rfl,⟨0,List.replicate 64 0,rfl,by decide,by decide,by simpa using hn,(Below.heap_alloc _ _ _ Y7).trans (heap_alloc_new w _),(fun i hi=>absurd hi Y7),fun x hx=>by cases hx⟩,by omega,by omega,hB⟩
theorem zoE (p:Nat):tAt (List.replicate 64 {}) p={}:=by
 unfold tAt;rw[List.getD_eq_getElem?_getD,List.getElem?_replicate];split<;>rfl
theorem zpE (p:Nat):oAt (List.replicate 64 {}) p={}:=by
 unfold oAt;rw[List.getD_eq_getElem?_getD,List.getElem?_replicate];split<;>rfl
theorem zrW:bF (List.replicate 64 {}) 0:=
 ⟨by decide,by decide,fun p _=>by rw[zoE];exact ⟨⟨by decide,by decide⟩,fun h=>absurd rfl h,fun _=>⟨rfl,rfl⟩,⟨by decide,by decide⟩,⟨by decide,by decide⟩,⟨by decide,by decide⟩,⟨by decide,by decide⟩⟩⟩
theorem zsI:BS (List.replicate 64 {}) 0:=
 ⟨by decide,by decide,fun p _=>by rw[zpE];exact ⟨⟨by decide,by decide⟩,fun h=>absurd rfl h,fun _=>⟨rfl,rfl⟩,⟨by decide,by decide⟩,⟨by decide,by decide⟩⟩⟩
theorem zhA (w:World):Calls Tp 45 #[E Z 64] w fun e w'=> ∃T gt,e=Rt (.tuple #[Y (V ⟨T,0,O⟩), .nilIface])∧Vh w' T gt (List.replicate 64 {}) 0∧w.heap.size≤T∧w.heap.size≤gt∧Below w.heap.size w w':=by
 have e1:=zkj 220 311 64 #[E J 0, .bool false, .bool false,E J 0,E Z 0,E J 0,E J 0,E J 0, .bool false, .bool false] 10 Tryz.underlying220 Y4 Y1 w;simp only[Int.cast_ofNat_Int] at e1;rw[←zrV] at e1;go_enter Tryz.func45,Tryz.ntmps45;go_wp2_with fail;go_ret2;obtain ⟨l1,l2,l3⟩:=zbZ w (.cells (zqM (List.replicate 64 {})).toArray 311) (.cells #[Sl (V ⟨w.heap.size,0,O⟩) 64 64] 222);exact ⟨w.heap.size+1,w.heap.size,rfl,⟨zrW,l2,l1⟩,by omega,by omega,l3⟩
theorem zhy (w:World):Calls Tp 46 #[E Z 64] w fun e w'=> ∃aA go,e=Rt (.tuple #[Y (V ⟨aA,0,O⟩), .nilIface])∧VE w' aA go (List.replicate 64 {}) 0∧w.heap.size≤aA∧w.heap.size≤go∧Below w.heap.size w w':=by
 have e1:=zkj 223 419 64 #[E J 0,E J 0,E Z 0,E J 0] 4 Tryz.underlying223 Y4 Y1 w;simp only[Int.cast_ofNat_Int] at e1;rw[←zrP] at e1;go_enter Tryz.func46,Tryz.ntmps46;go_wp2_with fail;go_ret2;obtain ⟨l1,l2,l3⟩:=zbZ w (.cells (zr7 (List.replicate 64 {})).toArray 419) (.cells #[Sl (V ⟨w.heap.size,0,O⟩) 64 64] 225);exact ⟨w.heap.size+1,w.heap.size,rfl,⟨zsI,l2,l1⟩,by omega,by omega,l3⟩
theorem zm2 (w:World) (B:Int→Nat):Calls Tp 44 #[E Z 8] w fun e w'=> ∃Q gl mb,e=Rt (.tuple #[Y (V ⟨Q,0,O⟩), .nilIface])∧WqP w' Q gl mb B [] 0∧w.heap.size≤Q∧w.heap.size≤gl∧w.heap.size≤mb∧Below w.heap.size w w':=by
 have hmm:=@run_makeMap Tp;have e1:=fun W=>zkj 216 370 8 #[Y none,Y none] 2 Tryz.underlying216 Y4 Y1 W;simp only[Int.cast_ofNat_Int] at e1;rw[←zu7 B] at e1;go_enter Tryz.func44,Tryz.ntmps44;go_wp2_with fail;go_ret2;obtain ⟨l1,l2,l3⟩:=zbZ w (.cells (wqC B []).toArray 370) (.map #[] 0);have hs:((w.alloc (Ce (wqC B []).toArray 370)).alloc (.map #[] 0)).heap.size=w.heap.size+1+1:=Y7;have hn:=heap_alloc_new ((w.alloc (Ce (wqC B []).toArray 370)).alloc (.map #[] 0)) (.cells #[Sl (V ⟨w.heap.size,0,O⟩) 8 8, .map (some (w.heap.size+1))] 219);rw[hs] at hn;have hm:=World.ownsMap_made (w.alloc (Ce (wqC B []).toArray 370)) Tp 22 ptrs.R
 have hs1:(w.alloc (Ce (wqC B []).toArray 370)).heap.size=w.heap.size+1:=Y7;rw[hs1] at hm;have hmap:Zl ptrs ((w.alloc (Ce (wqC B []).toArray 370)).alloc (.map #[] 0)) (w.heap.size+1) (zpS B []) 0:=
  ⟨_,0,hm,Nat.le_refl _,fun k _=>⟨rfl,fun j hj=>by cases hj⟩⟩
 exact ⟨w.heap.size+1+1,w.heap.size,w.heap.size+1,rfl,⟨⟨List.nodup_nil,(fun s hs=>by cases hs),hn,(Below.heap_alloc _ _ _ (by rw[hs];omega)).trans l1,fun s hs=>by cases hs⟩,hmap.of_block (Below.heap_alloc _ _ _ (by rw[hs];omega)),by decide⟩,by omega,by omega,by omega,l3.alloc (by rw[hs];omega) _⟩
theorem zhW (w:World) (X lo hi:Nat) (hlo:lo≤hi) (hhi:hi≤65536):Calls Tp 99 #[Y (V ⟨X,0,O⟩),E Z lo,E Z hi] w fun e w'=> ∃A,e=Rt (.tuple #[Y (V ⟨A,0,O⟩), .nilIface])∧VR w' A X (Sl none 0 0) ⟨lo,hi,[]⟩∧w.heap.size≤A∧Below w.heap.size w w':=by
 have h1:(0:Int)≤(lo:Int):=Y1;have h2:(lo:Int)≤(hi:Int):=Y1;go_enter Tryz.func99,Tryz.ntmps99;go_wp2_with fail;go_ret2;have hn:=heap_alloc_new w (.cells #[Y (V ⟨X,0,O⟩),E Z lo,E Z hi,Sl none 0 0] 303);exact ⟨w.heap.size,rfl,⟨hlo,hhi,hn,World.ownsRow_nil _ _ _ _⟩,Nat.le_refl _,(Below.refl _ w).alloc (Nat.le_refl _) _⟩
end Kn
namespace Kn
open Go.RowKit Asm
theorem gK {w:World} {X gc gw:Nat} {m:Mem} (h:Zn w X gc gw m) (kind a old v:Int) (hk:kind=0∨kind=1∨kind=2∨kind=3∨kind=4) (ha:0≤a∧a<18446744073709551616) (ho:0≤old∧old<18446744073709551616) (hv:0≤v∧v<18446744073709551616):
  Calls Tp 146 #[Y (V ⟨X,0,O⟩),E Z kind,E J a,E J old,E J v] w (gN w X gc gw (m.acc kind a old v)):=by
 by_cases h0:m.width a=0
 ·rw[show m.acc kind a old v=none by unfold Mem.acc;rw[if_pos h0]];exact zff h kind a old v ha h0
 ·exact ze8 h kind a old v hk ha ho hv h0
theorem zcs {w:World} {X gc gw:Nat} {m:Mem} (h:Zn w X gc gw m) (a:Int) (ha:0≤a∧a<18446744073709551616):
  Calls Tp 277 #[Y (V ⟨X,0,O⟩),E J a] w (gN w X gc gw (m.acc 0 a 0 0)):=by
 have H:=Y0 (gK h 0 a 0 0 (Or.inl rfl) ha Y2 Y2)
 clear h
 generalize m.acc 0 a 0 0=r at H ⊢
 cases r with
 |none=>
  go_enter Tryz.func277,Tryz.ntmps277
  go_wp2_with fail
  refine H.out.mono ?_
  rintro e w1 ⟨⟨ev,rfl,hev⟩,hb⟩
  go_wp2_with fail
  go_ret2
  exact ⟨⟨_,rfl,hev⟩,hb⟩
 |some p=>
  obtain ⟨was,m'⟩:=p
  go_enter Tryz.func277,Tryz.ntmps277
  go_wp2_with fail
  refine H.out.mono ?_
  rintro e w1 ⟨rfl,hb⟩
  go_wp2_with fail
  go_ret2
  exact ⟨rfl,hb⟩
theorem zmM {w:World} {X gc gw:Nat} {m:Mem} (h:Zn w X gc gw m) (a v:Int) (ha:0≤a∧a<18446744073709551616) (hv:0≤v∧v<18446744073709551616):
  Calls Tp 332 #[Y (V ⟨X,0,O⟩),E J a,E J v] w (gN w X gc gw (m.acc 2 a 0 v)):=by
 have H:=Y0 (gK h 2 a 0 v (Or.inr (Or.inr (Or.inl rfl))) ha Y2 hv)
 clear h
 generalize m.acc 2 a 0 v=r at H ⊢
 cases r with
 |none=>
  go_enter Tryz.func332,Tryz.ntmps332
  go_wp2_with fail
  refine H.out.mono ?_
  rintro e w1 ⟨⟨ev,rfl,hev⟩,hb⟩
  go_wp2_with fail
  go_ret2
  exact ⟨⟨_,rfl,hev⟩,hb⟩
 |some p=>
  obtain ⟨was,m'⟩:=p
  go_enter Tryz.func332,Tryz.ntmps332
  go_wp2_with fail
  refine H.out.mono ?_
  rintro e w1 ⟨rfl,hb⟩
  go_wp2_with fail
  go_ret2
  exact ⟨rfl,hb⟩
theorem zpw {w:World} {X gc gw:Nat} {m:Mem} (h:Zn w X gc gw m) (a v:Int) (ha:0≤a∧a<18446744073709551616) (hv:0≤v∧v<18446744073709551616):
  Calls Tp 174 #[Y (V ⟨X,0,O⟩),E J a,E J v] w (gN w X gc gw (m.acc 3 a 0 v)):=by
 have H:=Y0 (gK h 3 a 0 v (Or.inr (Or.inr (Or.inr (Or.inl rfl)))) ha Y2 hv)
 clear h
 generalize m.acc 3 a 0 v=r at H ⊢
 cases r with
 |none=>
  go_enter Tryz.func174,Tryz.ntmps174
  go_wp2_with fail
  refine H.out.mono ?_
  rintro e w1 ⟨⟨ev,rfl,hev⟩,hb⟩
  go_wp2_with fail
  go_ret2
  exact ⟨⟨_,rfl,hev⟩,hb⟩
 |some p=>
  obtain ⟨was,m'⟩:=p
  go_enter Tryz.func174,Tryz.ntmps174
  go_wp2_with fail
  refine H.out.mono ?_
  rintro e w1 ⟨rfl,hb⟩
  go_wp2_with fail
  go_ret2
  exact ⟨rfl,hb⟩
theorem zqF {w:World} {X gc gw:Nat} {m:Mem} (h:Zn w X gc gw m) (a old v:Int) (ha:0≤a∧a<18446744073709551616) (ho:0≤old∧old<18446744073709551616) (hv:0≤v∧v<18446744073709551616):
  Calls Tp 275 #[Y (V ⟨X,0,O⟩),E J a,E J old,E J v] w (gN w X gc gw (m.acc 4 a old v)):=by
 have H:=Y0 (gK h 4 a old v (Or.inr (Or.inr (Or.inr (Or.inr rfl)))) ha ho hv)
 clear h
 generalize m.acc 4 a old v=r at H ⊢
 cases r with
 |none=>
  go_enter Tryz.func275,Tryz.ntmps275
  go_wp2_with fail
  refine H.out.mono ?_
  rintro e w1 ⟨⟨ev,rfl,hev⟩,hb⟩
  go_wp2_with fail
  go_ret2
  exact ⟨⟨_,rfl,hev⟩,hb⟩
 |some p=>
  obtain ⟨was,m'⟩:=p
  go_enter Tryz.func275,Tryz.ntmps275
  go_wp2_with fail
  refine H.out.mono ?_
  rintro e w1 ⟨rfl,hb⟩
  go_wp2_with fail
  go_ret2
  exact ⟨rfl,hb⟩
def zgS (w:World) (X gc gw:Nat) (r:Option (Int×Mem)) (e:Ending) (w':World):Prop:=match r with
 |none=>(∃ev,e= .returned ev∧Som ev)∧Below w.heap.size w w'
 |some (_,m')=>e=Rt .nilIface∧Zn w' X gc gw m'∧Keeps (fun b=>b=X∨b=gc) w w'
theorem zbF {w:World} {X gc gw:Nat} {m:Mem} (h:Zn w X gc gw m) (a v:Int) (ha:0≤a∧a<18446744073709551616) (hv:0≤v∧v<18446744073709551616):
  Calls Tp 97 #[Y (V ⟨X,0,O⟩),E J a,E J v] w (zgS w X gc gw (m.acc 1 a 0 v)):=by
 have H:=Y0 (gK h 1 a 0 v (Or.inr (Or.inl rfl)) ha Y2 hv)
 clear h
 generalize m.acc 1 a 0 v=r at H ⊢
 cases r with
 |none=>
  go_enter Tryz.func97,Tryz.ntmps97
  go_wp2_with fail
  refine H.out.mono ?_
  rintro e w1 ⟨⟨ev,rfl,t,x,rfl⟩,hb⟩
  go_wp2_with fail
  go_ret
  exact ⟨⟨_,rfl,t,x,rfl⟩,hb⟩
 |some p=>
  obtain ⟨was,m'⟩:=p
  go_enter Tryz.func97,Tryz.ntmps97
  go_wp2_with fail
  refine H.out.mono ?_
  rintro e w1 ⟨rfl,hb⟩
  go_wp2_with fail
  go_ret
  exact ⟨rfl,hb⟩
theorem vB (x:Int) (u l:Bool) (w:World):Calls Tp 264 #[E Z x, .bool u, .bool l] w fun e w'=>e=Rt (.bool (Kw x u l))∧w=w':=by
 cases u with
 |false=>
  go_enter Tryz.func264,Tryz.ntmps264
  go_wp2
  go_ret
  exact ⟨rfl,rfl⟩
 |true=>
  by_cases h1:0≤x
  ·by_cases h2:x<32
   ·go_enter Tryz.func264,Tryz.ntmps264
    go_wp2
    go_ret
    exact ⟨by simp[Kw,h1,h2],rfl⟩
   ·have h3:32≤x:=Y1
    have h4:(x== -1)=false:=beq_eq_false_iff_ne.2 Y1
    cases l<;>
    ·go_enter Tryz.func264,Tryz.ntmps264
     go_wp2
     go_ret
     exact ⟨by simp[Kw,h1,h2];try omega,rfl⟩
  ·have h2:x<0:=Y1
   cases l with
   |false=>
    go_enter Tryz.func264,Tryz.ntmps264
    go_wp2
    go_ret
    exact ⟨by simp[Kw];omega,rfl⟩
   |true=>
    by_cases h5:x= -1
    ·subst h5
     go_enter Tryz.func264,Tryz.ntmps264
     go_wp2
     go_ret
     exact ⟨rfl,rfl⟩
    ·have h4:(x== -1)=false:=beq_eq_false_iff_ne.2 h5
     go_enter Tryz.func264,Tryz.ntmps264
     go_wp2
     go_ret
     exact ⟨by simp[Kw,h5];omega,rfl⟩
open Go.RowKit Go.Maps Asm
attribute [local go_sem] Oper.semAt_some
theorem zuQ {B:Nat} {a w:World} (h:Below B a w) (n:Nat):Below B a (w.drewN n):=⟨h.os,h.tape,h.output,h.size,h.block⟩
end Kn
namespace Asm
open Go.RowKit Go.Maps
theorem zpi:(Tryz.prog.info? 203).map (fun i=>(i.zero,i.size,i.bytes))=V (some (.agg #[E Z 0,E Z 0, .string ⟨#[]⟩]),3,32):=Y4
theorem zj8 (s:ByteArray):vD s.data.toList= .string s:=by
 unfold vD;congr 1
theorem zgo (l:List (Nat×Nat×Str)) (x:Nat×Nat×Str):KJ (l++ [x])=KJ l++ [E Z x.1,E Z x.2.1,vD x.2.2]:=by simp[KJ]
theorem BJ {w:World} {R mb rb:Nat} {vc vl vn vw:Value} {st:St} {X:Nat} {x:zx} (hR:Rd w R mb rb vc vl vn vw st) (hrb:rb≤w.heap.size) (hX: ¬GJ R mb vc vl vn vw X) (hx:zT w X x) (s:ByteArray) (hs:s.size≤100000) (i:Nat) (k:Int) (hk:k=8∨k=9) (hn:ZC s.data.toList=true) (hc:st.code.length≤100000) (hw:st.wants.length≤100000):
  Calls Tp 141 #[Y (V ⟨R,0,O⟩),Y (V ⟨X,0,O⟩),E Z k, .string s,E Z i] w (VB w R mb rb vc vl vn vw st X x (some s.data.toList) i):=by
 have aX:=Y0 (vB s w Y1);have iQ:=Y0 (JZ s w Y1);have j6:=Y0 hn;obtain ⟨iw,hiw,qO,hsw,hbw⟩:=info_parts zpi;obtain ⟨Aw,cw,rfl⟩:=zn hR.wants;obtain ⟨Ac,cc,rfl⟩:=zn hR.code;obtain ⟨r0,r1,r2,r3,r4,rf⟩:=hR.cell;have hRl:=hR.lt;obtain ⟨m,hm⟩: ∃m,m=st.code.length:=⟨_,rfl⟩;have rX:(m:Int)≤100000:=Y1;have EY:=Y0 hm;have h0:Rd ((w.alloc (Ce #[E Z (m:Int),E Z (i:Int), .string s] 203)).drew) R mb rb (.slice Ac st.code.length cc) vl vn (.slice Aw st.wants.length cw) st:=(hR.below ((Below.refl _ _).alloc (Nat.le_refl _) _)).zk fun _ _=>rfl;have K0:Keeps (GJ R mb (.slice Ac st.code.length cc) vl vn (.slice Aw st.wants.length cw)) w ((w.alloc (Ce #[E Z (m:Int),E Z (i:Int), .string s] 203)).drew):=((Keeps.refl _ w).alloc _).drew;have E0:=Y0 h0.wants
 have N1:Hid (∀j u,([E Z (m:Int),E Z (i:Int), .string s]:List Value)[j]?=some u→((w.alloc (Ce #[E Z (m:Int),E Z (i:Int), .string s] 203)).drew).cell? ((⟨w.heap.size,0,O⟩:Addr).add j)=some u):=Y0 (by
  intro j u hu
  rw[Addr.add_lit,Nat.zero_add]
  exact (World.cell?_alloc_at _ _ _ _ rfl).trans Y23)
 have O1:Hid (∀u∈([E Z (m:Int),E Z (i:Int), .string s]:List Value),u.oneCell'=true):=Y0 (by
  intro u hu
  simp at hu
  rcases hu with rfl|rfl|rfl<;>rfl)
 have M1:=Y0 (show st.wants.length+1≤maxLen by unfold maxLen;omega);have M2:=Y0 (show (st.wants.length+1)*32≤140737488355328 by omega);have M3:=Y0 (show rb≤((w.alloc (Ce #[E Z (m:Int),E Z (i:Int), .string s] 203)).drew).heap.size by show rb≤(w.alloc _).heap.size;simp;omega);have HV:Hid (some R≠(Value.slice Aw st.wants.length cw).ownBlock):=Y0 (own_ne hR.wants hR.vO Y2);have aD:Hid (∀v' w2,w2.ownsRow rb 203 3 v' (st.wants.length+1) (KJ st.wants++ [E Z (m:Int),E Z (i:Int), .string s])→((w.alloc (Ce #[E Z (m:Int),E Z (i:Int), .string s] 203)).drew).grownBy w2 (Value.slice Aw st.wants.length cw).ownBlock→(v'.ownBlock=(Value.slice Aw st.wants.length cw).ownBlock∨v'.ownBlock=V ((w.alloc (Ce #[E Z (m:Int),E Z (i:Int), .string s] 203)).drew).heap.size)→
   VB w R mb rb (.slice Ac st.code.length cc) vl vn (.slice Aw st.wants.length cw) st X x (some s.data.toList) i (.returned .nilIface) (w2.setCell ⟨R,4,O⟩ v')):=Y0 (fun v' w2 hr hg hnew=>by
  have hr2:w2.ownsRow rb 203 3 v' (st.wants++ [(st.code.length,i,s.data.toList)]).length (KJ (st.wants++ [(st.code.length,i,s.data.toList)])):=by
   rw[zgo,zj8,List.length_append,←hm];exact hr
  have hadd:=h0.JU _ hg hr2
  have hK2:Keeps (GJ R mb (.slice Ac st.code.length cc) vl vn (.slice Aw st.wants.length cw)) w (w2.setCell ⟨R,4,O⟩ v'):=(K0.grown hg (fun k e=>Or.inr (Or.inr (Or.inr (Or.inr (Or.inr e)))))).setCell (p:=⟨R,4,O⟩) (Or.inl rfl) _
  refine ⟨rfl,hx.keeps hK2 hX,v',hadd,hK2.mono (fun _ h=>Or.inr h),fun k hk=>?_⟩
  rcases hnew with e|e
  ·exact Or.inl (e▸hk)
  ·right
   rw[e] at hk
   have h2:(w.alloc (Ce #[E Z (m:Int),E Z (i:Int), .string s] 203)).heap.size=k:=Option.some.inj hk
   simp at h2
   omega)
 have HC:Hid (∀w2:World,((w.alloc (Ce #[E Z (m:Int),E Z (i:Int), .string s] 203)).drew).grownBy w2 (Value.slice Aw st.wants.length cw).ownBlock→w2.cell? ⟨R,4,O⟩=V (.slice Aw st.wants.length cw)∧w2.frozen? ⟨R,4,O⟩=false):=Y0 (fun w2 hg=>by
  have hb:=hg.block R h0.lt HV.out
  exact ⟨(World.cell?_of_block (a:=⟨R,4,O⟩) hb).trans h0.cell.2.2.2.2.1,(World.frozen?_of_block (a:=⟨R,4,O⟩) hb).trans (h0.cell.2.2.2.2.2 4)⟩)
 rw[←hm] at r0;generalize st.wants.length=z at r4 E0 M1 M2 HV aD HC;clear hR hX hx hs hn hm h0 K0 hc hw hrb;rcases hk with rfl|rfl
 all_goals
  go_enter Tryz.func141,Tryz.ntmps141
  go_wp2_with fail
  refine aX.out.mono ?_
  rintro e w' ⟨m9,rfl,hm,rfl⟩
  clear hm
  generalize (Zr s.data.toList).isSome=b
  go_wp2_with fail
  refine iQ.out.mono ?_
  rintro e w' ⟨rfl,rfl⟩
  rw[j6.out]
  go_wp2_with fail
  go_region_law (first|(refine Zw _ rfl (.tmp 87) (.tmp 96) 197 rfl rb 203 iw _ 3 32 Tryz.underlying197 hiw qO hsw hbw rfl Y2 (.slice Aw z cw) z (KJ st.wants) Y20 E0.out ⟨w.heap.size,0,O⟩ 1 1 [E Z (m:Int),E Z (i:Int), .string s] Y20 rfl N1.out O1.out M1.out M2.out M3.out ?_;intro v' w2 hown' hgrow hnew;obtain ⟨A',c',rfl⟩:=zn hown';have tt:=HC.out w2 hgrow;have t0:=tt.1;have t1:=tt.2;have HF:=Y0 (aD.out _ _ hown' hgrow hnew);clear hown' hgrow hnew tt))
  all_goals
   go_wp2
   go_ret
   exact HF.out
theorem a20.zxe (h:zP:=by
 exact zeg hR hX hx s hs i r hr):zP:=h
theorem a20.zws (h:zP:=by
 exact zhl hR hX hx s hs i r hr):zP:=h
open a20 in
theorem zfq {w:World} {R mb rb:Nat} {vc vl vn vw:Value} {st:St} {X:Nat} {x:zx} (hR:Rd w R mb rb vc vl vn vw st) (hrb:rb≤w.heap.size) (hX: ¬GJ R mb vc vl vn vw X) (hx:zT w X x) (s:ByteArray) (hs:s.size≤100000) (i:Nat) (k:Int) (hk:1≤k∧k≤9) {y:zx} {o:Option Str} (h:KZ x k s.data.toList=V (y,o)) (hc:st.code.length≤100000) (hw:st.wants.length≤100000):
  Calls Tp 141 #[Y (V ⟨R,0,O⟩),Y (V ⟨X,0,O⟩),E Z k, .string s,E Z i] w (VB w R mb rb vc vl vn vw st X y o i):=by
 unfold KZ at h;obtain rfl|rfl|rfl|rfl|rfl|rfl|rfl|rfl|rfl:k=1∨k=2∨k=3∨k=4∨k=5∨k=6∨k=7∨k=8∨k=9:=Y1
 ·simp only[if_true] at h;obtain ⟨r,hr,e⟩:=Option.map_eq_some_iff.1 h;injection e with e1 e2
  subst e1 e2;exact zeN hR hX hx s hs i r hr
 ·simp only[show ((2:Int)=1)=False by simp,if_false,if_true] at h;obtain ⟨r,hr,e⟩:=Option.map_eq_some_iff.1 h;injection e with e1 e2
  subst e1 e2;exact zew hR hX hx s hs i r hr
 ·simp only[show ((3:Int)=1)=False by simp,show ((3:Int)=2)=False by simp,if_false,if_true] at h;obtain ⟨r,hr,e⟩:=Option.map_eq_some_iff.1 h;injection e with e1 e2
  subst e1 e2;exact zev hR hX hx s hs i r hr
 ·simp only[show ((4:Int)=1)=False by simp,show ((4:Int)=2)=False by simp,show ((4:Int)=3)=False by simp,if_false,if_true] at h
  cases hr:Zr s.data.toList with
  |some r=>
   rw[hr] at h;injection h with h
   injection h with e1 e2
   subst e1 e2;exact zeB hR hX hx s hs i r hr
  |none=>
   rw[hr] at h;obtain ⟨v,hv,e⟩:=Option.map_eq_some_iff.1 h;injection e with e1 e2
   subst e1 e2;exact zdQ hR hX hx s hs i v hr hv
 ·simp only[show ((5:Int)=1)=False by simp,show ((5:Int)=2)=False by simp,show ((5:Int)=3)=False by simp,show ((5:Int)=4)=False by simp,if_false,if_true] at h
  cases hr:Zr s.data.toList with
  |some r=>
   rw[hr] at h;injection h with h
   injection h with e1 e2
   subst e1 e2;exact zeb hR hX hx s hs i r hr
  |none=>
   rw[hr] at h;obtain ⟨v,hv,e⟩:=Option.map_eq_some_iff.1 h;injection e with e1 e2
   subst e1 e2;exact zeE hR hX hx s hs i v hr hv
 ·exact zyf
 ·exact zxL
 ·simp only[show ((8:Int)=1)=False by simp,show ((8:Int)=2)=False by simp,show ((8:Int)=3)=False by simp,show ((8:Int)=4)=False by simp,show ((8:Int)=5)=False by simp,show ((8:Int)=6)=False by simp,show ((8:Int)=7)=False by simp,if_false,if_true] at h
  cases hn:ZC s.data.toList with
  |true=>
   rw[hn] at h;simp only[if_true] at h;injection h with h
   injection h with e1 e2
   subst e1 e2;exact BJ hR hrb hX hx s hs i 8 (Or.inl rfl) hn hc hw
  |false=>rw[hn] at h;simp at h
 ·simp only[show ((9:Int)=1)=False by simp,show ((9:Int)=2)=False by simp,show ((9:Int)=3)=False by simp,show ((9:Int)=4)=False by simp,show ((9:Int)=5)=False by simp,show ((9:Int)=6)=False by simp,show ((9:Int)=7)=False by simp,show ((9:Int)=8)=False by simp,if_false] at h
  cases hn:ZC s.data.toList with
  |true=>
   rw[hn] at h;simp only[if_true] at h;injection h with h
   injection h with e1 e2
   subst e1 e2;exact BJ hR hrb hX hx s hs i 9 (Or.inr rfl) hn hc hw
  |false=>
   rw[hn] at h;simp only[Bool.false_eq_true,if_false] at h;obtain ⟨r,hr,e⟩:=Option.map_eq_some_iff.1 h;injection e with e1 e2
   subst e1 e2;exact zci hR hX hx s hs i r hn hr
end Asm
end Go.Proofs.YtdlpmnmenhojfaaGreatDoor
