/- Part 42 of what the proof stands on: FdCl, FdS, KnPNew, FdWalk, FdLaw. -/
import Derived.Test.YtdlpmnmenhojfaaGreatDoorR30
import Derived.Test.YtdlpmnmenhojfaaGreatDoorR39
import Derived.Test.YtdlpmnmenhojfaaGreatDoorR40
import Derived.Test.YtdlpmnmenhojfaaGreatDoorR41
set_option linter.unusedVariables false
set_option maxHeartbeats 40000000
set_option maxRecDepth 100000
variable {zP:Prop}
namespace Go.Proofs.YtdlpmnmenhojfaaGreatDoor
open Go.IntKind renaming i64->Z,u64->J
open Go.Value renaming int->E,pointer->Y,slice->Sl
open Option renaming none->O,some->V
open Go.Obj renaming cells->Ce
open Go.Ending renaming returned->Rt
open Go.Proofs.Tryz renaming prog->Tp
namespace Kn
open Go.RowKit Go.Maps PosTab Asm
def zb5:Str:= [115,101,116,32,114,48,32,48,10,99,97,108,108,32,49,48,10,115,101,116,32,114,48,32,49,10,99,97,108,108,32,49,53,10,114,101,116,10]
def zoY (a b:zx):Bool:=a.op==b.op&&a.a==b.a&&a.b==b.b&&a.c==b.c&&a.v==b.v&&a.m==b.m&&a.w==b.w
theorem zqc {a b:zx} (h:zoY a b=true):a=b:=by
 obtain ⟨_,_,_,_,_,_,_⟩:=a;obtain ⟨_,_,_,_,_,_,_⟩:=b;unfold zoY at h;simp only[Bool.and_eq_true,beq_iff_eq] at h;simp only[zx.mk.injEq];simpa only[and_assoc] using h
def zeH:List zx→List zx→Bool
 |[],[]=>true
 |a::l,b::m=>zoY a b&&zeH l m
 |_,_=>false
theorem zcZ: ∀{l m:List zx},zeH l m=true→l=m
 |[],[],_=>rfl
 |a::l,b::m,h=>by
  unfold zeH at h
  rw[Bool.and_eq_true] at h
  rw[zqc h.1,zcZ h.2]
theorem zmF:(match Vt (ZM zb5) with|some p=>zeH p.1 fdC&&p.2.isEmpty|none=>false)=true:=jE
theorem zmV:(ZM zb5).all (fun l=>l.all (fun c=>c !=59)&&decide (l.length≤1000))=true:=jE
theorem zu5:Vt (ZM zb5)=V (fdC,[]):=by
 have h:=zmF
 cases e:Vt (ZM zb5) with
 |none=>rw[e] at h;cases h
 |some p=>
  rw[e] at h
  obtain ⟨a,b⟩:=p
  simp only[Bool.and_eq_true,List.isEmpty_iff] at h
  rw[zcZ h.1,h.2]
theorem zpg (w:World):Calls Tp 17 #[.string ⟨zb5.toArray⟩] w (JK w fdC []):=by
 have hz:(⟨zb5.toArray⟩:ByteArray).size≤20000:=by
  have:(⟨zb5.toArray⟩:ByteArray).size=zb5.length:=by simp[ByteArray.size]
  rw[this];decide
 refine zmw hz (fun l hl=>?_) zu5 w;have h:=List.all_eq_true.1 zmV l hl;simp only[Bool.and_eq_true,List.all_eq_true,bne_iff_ne,ne_eq,decide_eq_true_eq] at h;exact h
end Kn
namespace Kn
open Go.RowKit Go.Maps Asm Errs
theorem zzr.zww (h:zP:=by
 exact J32):zP:=h
open zzr in
theorem zpN {w:World} {Wb:Nat} (x0:w.cell? ⟨Wb,0,O⟩=V (Y none)) (x5:w.cell? ⟨Wb,5,O⟩=some .nilIface) (x:Entry):Calls Tp 7 #[Y (V ⟨Wb,0,O⟩), .agg (Ke x)] w fun e w'=>e=Rt .nilIface∧Below w.heap.size w w':=by
 exact zyq
theorem zAk.zww (h:zP:=by
 exact J32):zP:=h
open zAk in
theorem zok {w:World} {Wb K:Nat} {ty:TypeId} {v:Value} (x0:w.cell? ⟨Wb,0,O⟩=V (Y (V ⟨K,0,O⟩))) (x5:w.cell? ⟨Wb,5,O⟩=V (.iface ty v)) (x:Entry):Calls Tp 7 #[Y (V ⟨Wb,0,O⟩), .agg (Ke x)] w fun e w'=>e=Rt (.iface ty v)∧Below w.heap.size w w':=by
 exact zyq
theorem zal {w:World} {Wb:Nat} {lg:Int} (x4:w.cell? ⟨Wb,4,O⟩=V (E Z lg)):Calls Tp 9 #[Y (V ⟨Wb,0,O⟩)] w fun e w'=>e=Rt (E Z lg)∧w'=w:=by
 go_enter Tryz.func9,Tryz.ntmps9;go_wp2_with fail;go_ret;exact ⟨rfl,rfl⟩
theorem zlD {w:World} {Wb:Nat} (x2:w.cell? ⟨Wb,2,O⟩=V (Sl none 0 0)):Calls Tp 8 #[Y (V ⟨Wb,0,O⟩)] w fun e w'=> ∃A c,e=Rt (.slice A 0 c)∧Below w.heap.size w w':=by
 have hl:Wb<w.heap.size:=by
  rcases Nat.lt_or_ge Wb w.heap.size with q|q
  ·exact q
  ·simp[World.cell?,Array.getElem?_eq_none q] at x2
 have hE:(w.alloc (Ce #[] 74)).ownsRow w.heap.size 74 11 (Sl (V ⟨w.heap.size,0,O⟩) 0 0) 0 []:=znk w w.heap.size 74 11 (Nat.le_refl _);have eU:=Y0 (zzX (w:=w.alloc (Ce #[] 74)) w.heap.size 40 40 74 11 Tryz.underlying40 Y4 hE);go_enter Tryz.func8,Tryz.ntmps8;go_wp2_with (at_builtin;refine Go.Lib.wpList_append_run _ rfl (.tmp 3) (.tmp 7) 40 40 rfl _ _ rfl rfl _ _ eU.out ?_);go_ret;exact ⟨_,_,rfl,(Below.refl _ _).alloc (Nat.le_refl _) _⟩
theorem znp (w:World):Calls Tp 4 #[.string ⟨zb5.toArray⟩] w fun e w'=> ∃A c,e=Rt (.agg #[.slice A 5 c,E Z 0,E Z 3,E Z 1])∧w'.ownsRow 0 111 7 (.slice A 5 c) 5 (Ze fdC)∧Below w.heap.size w w':=by
 have hb1:Below w.heap.size w (w.alloc (Ce #[Sl none 0 0,E Z 0,E Z 0,E Z 0] 26)):=(Below.refl _ _).alloc (Nat.le_refl _) _;have hz1:=heap_alloc_new w (.cells #[Sl none 0 0,E Z 0,E Z 0,E Z 0] 26);have HP:=zpg (w.alloc (Ce #[Sl none 0 0,E Z 0,E Z 0,E Z 0] 26));unfold JK at HP;generalize (⟨zb5.toArray⟩:ByteArray)=T at HP ⊢;have HP:=Y0 HP;have HB:=Y0 (And.intro hb1 hz1);clear hb1 hz1;go_enter Tryz.func4,Tryz.ntmps4;go_wp2_with fail;refine HP.out.mono ?_;rintro e w2 ⟨vc,vl,rfl,hc,hl,hb2⟩;obtain ⟨hb1,hz1⟩:=HB.out;obtain ⟨A,c,rfl⟩:=Asm.zn hc;have h5:fdC.length=5:=rfl;rw[h5] at hc;have hz2:=(hb2.block _ (zo hz1)).trans hz1;have z0:w2.cell? ⟨w.heap.size,0,O⟩=V (Sl none 0 0):=ze hz2 0
 have z1:w2.cell? ⟨w.heap.size,1,O⟩=V (E Z 0):=ze hz2 1;have z2:w2.cell? ⟨w.heap.size,2,O⟩=V (E Z 0):=ze hz2 2;have z3:w2.cell? ⟨w.heap.size,3,O⟩=V (E Z 0):=ze hz2 3;have f0:=zF hz2 0;have f1:=zF hz2 1;have f2:=zF hz2 2;have f3:=zF hz2 3;have HR:Hid (∀aB:World,(∀b,b≠w.heap.size→aB.heap[b]?=w2.heap[b]?)→aB.os=w2.os→aB.tape=w2.tape→aB.output=w2.output→w2.heap.size≤aB.heap.size→aB.ownsRow 0 111 7 (.slice A 5 c) 5 (Ze fdC)∧Below w.heap.size w aB):=Y0 fun aB e e1 e2 e3 e4=>by
  have hbw:Below w.heap.size w w2:=hb1.trans (hb2.mono hb1.size);refine ⟨Asm.Vx (Asm.za hc fun b q=>e b fun r=>?_) (Nat.zero_le _),⟨e1.trans hbw.os,e2.trans hbw.tape,e3.trans hbw.output,Nat.le_trans hbw.size e4,fun k hk=>(e k Y1).trans (hbw.block k hk)⟩⟩;have:=(hc.lt b q).1;simp at this;omega
 clear hb1 hz1 hz2 hc hl hb2 HP HB h5;go_wp2_with fail;refine bodyPost_ret (v:= .agg #[.slice A 5 c,E Z 0,E Z 3,E Z 1]) (by simp[results,Tryz.results4,go_sem,z0,z1,z2,z3];rfl) rfl ?_;refine ⟨A,c,rfl,HR.out _ (fun b hb=>?_) rfl rfl rfl Y7⟩;exact (zm hb).trans ((zm hb).trans ((zm hb).trans (zm hb)))
end Kn
namespace Kn
open Go.RowKit Asm PosTab
def zql (code:List zx) (labels:List (Str×Nat)) (prog:List zx) (wide narrow:Int) (k:Nat):Fixed:={ lib:=code,loop:=ZQ labels,calls:=ZE labels,code:=prog,wide:=wide,narrow:=narrow,workers:=k}
theorem zpT {code:List zx} {labels:List (Str×Nat)} (hp:Vt (ZM Zy)=V (code,labels)) (hlab:labels.length≤3000) {w:World} (hM:kZ w) (l8:1<w.heap.size)
  {prog:List zx} {wide narrow entry:Int} {k cells:Nat} (hF:zdG (zql code labels prog wide narrow k)) {pv0:Value} (he:0≤entry∧entry<prog.length) (hroom:(zql code labels prog wide narrow k).base+wide+narrow+1≤cells) (hcells:cells≤65536)
  (hpv:w.ownsRow 0 111 7 pv0 prog.length (Ze prog)):
  Calls Tp 5 #[.agg #[E Z (k:Int),E Z (cells:Int)], .agg #[pv0,E Z entry,E Z wide,E Z narrow]] w fun e w'=> ∃G own',e=Rt (.tuple #[Y (V ⟨G.K,0,O⟩), .nilIface])∧zi (zql code labels prog wide narrow k) w' own' G (zdR (zql code labels prog wide narrow k) cells entry) 3∧Below w.heap.size w w'∧ ∀b,b<w.heap.size→own' b= .other:=by
 obtain ⟨l0,l1,hb0⟩:=zbZ w (.cells #[E Z (k:Int),E Z (cells:Int)] 34) (.cells #[pv0,E Z entry,E Z wide,E Z narrow] 26);obtain ⟨wA,uR⟩: ∃wA,wA=(w.alloc (Ce #[E Z (k:Int),E Z (cells:Int)] 34)).alloc (Ce #[pv0,E Z entry,E Z wide,E Z narrow] 26):=⟨_,rfl⟩;rw[←uR] at l0 l1 hb0;obtain ⟨Ap,cp,rfl⟩:=Asm.zn hpv;have Cj:=Y0 (zrK hp hlab wA (hM.below hb0 l8) (Nat.lt_of_lt_of_le l8 hb0.size));have iY:=Y0 hb0;have L0:=Y0 l0;have L1:=Y0 l1;have tX:=Y0 hpv;have HF:=Y0 hF;have HA:=Y0 (And.intro he (And.intro hroom hcells));clear hp hlab hM l8 hF he hroom hcells hpv l0 l1 hb0;go_enter Tryz.func5,Tryz.ntmps5;go_wp2_with fail;try rw[←uR]
 clear uR;refine Cj.out.mono ?_;rintro e w2 ⟨vc,vr,rfl,hc,hr,hb2⟩;obtain ⟨Ac,cc,rfl⟩:=Asm.zn hc;obtain ⟨Ar,cr,rfl⟩:=Asm.zn hr;generalize hL:(ZQ labels:Int)=L;have HL:=Y0 hL;have HC:=Y0 hc;have HR:=Y0 hr;have aP:=Y0 hb2;clear hL hc hr hb2 Cj;go_upto_region 2 with fail;have hb3:Below w2.heap.size w2 (w2.alloc (Ce #[.slice Ac code.length cc,E Z L, .slice Ar 45 cr] 58)):=(Below.refl _ _).alloc (Nat.le_refl _) _;have z3:=heap_alloc_new w2 (.cells #[.slice Ac code.length cc,E Z L, .slice Ar 45 cr] 58);generalize hw3:w2.alloc (Ce #[.slice Ac code.length cc,E Z L, .slice Ar 45 cr] 58)=w3 at*;have aU:=aP.out.trans (hb3.mono aP.out.size);have z0:=(aU.block _ (zo L0.out)).trans L0.out;have z1:=(aU.block _ (zo L1.out)).trans L1.out;have hB3:Below w.heap.size w w3:=iY.out.trans (aU.mono iY.out.size)
 have a0:w3.cell? ⟨w.heap.size,0,O⟩=V (E Z (k:Int)):=ze z0 0;have a1:w3.cell? ⟨w.heap.size,1,O⟩=V (E Z (cells:Int)):=ze z0 1;have p0:w3.cell? ⟨w.heap.size+1,0,O⟩=V (.slice Ap prog.length cp):=ze z1 0;have p1:w3.cell? ⟨w.heap.size+1,1,O⟩=V (E Z entry):=ze z1 1;have p2:w3.cell? ⟨w.heap.size+1,2,O⟩=V (E Z wide):=ze z1 2;have p3:w3.cell? ⟨w.heap.size+1,3,O⟩=V (E Z narrow):=ze z1 3;have b0:w3.cell? ⟨w2.heap.size,0,O⟩=V (.slice Ac code.length cc):=ze z3 0;have b1:w3.cell? ⟨w2.heap.size,1,O⟩=V (E Z L):=ze z3 1;have b2:w3.cell? ⟨w2.heap.size,2,O⟩=V (.slice Ar 45 cr):=ze z3 2;have hc3:w3.ownsRow 0 111 7 (.slice Ac code.length cc) code.length (Ze code):=Asm.Vx (za HC.out fun b e=>hb3.block b (HC.out.lt b e).2) (Nat.zero_le _)
 have hr3:w3.ownsRow 0 125 6 (.slice Ar 45 cr) (ZE labels).length (ku (ZE labels)):=by
  rw[JY,zhF];exact Asm.Vx (za HR.out fun b e=>hb3.block b (HR.out.lt b e).2) (Nat.zero_le _)
 have hp3:w3.ownsRow 0 111 7 (.slice Ap prog.length cp) prog.length (Ze prog):=za tX.out fun b e=>hB3.block b (tX.out.lt b e).2;have hnew:=znx (w:=w3) (cells:=cells) (entry:=entry) HF.out HA.out.1 HA.out.2.1 HA.out.2.2 (by show 0<(ZE labels).length;rw[JY];decide) hc3 hr3 hp3;change Calls Tp 19 #[.agg #[E Z (k:Int),E Z (cells:Int)], .agg #[.slice Ac code.length cc,E Z (ZQ labels:Int), .slice Ar 45 cr], .agg #[.slice Ap prog.length cp,E Z entry,E Z wide,E Z narrow]] w3 _ at hnew;rw[HL.out] at hnew;have Cq:=Y0 hnew;have aY:=Y0 hB3;clear hnew hc3 hr3 hp3 z0 z1 z3 hb3 aU hB3 hw3;go_wp2_with fail;refine Cq.out.mono ?_;rintro e w4 ⟨G,own',rfl,hk,hb4,ho⟩;have HK:=Y0 hk;have iO:=Y0 hb4;have HO:=Y0 ho;generalize RV:G.K=KK;clear hk hb4 ho Cq;go_wp2_with fail;go_ret2
 refine ⟨G,own',by subst RV;rfl,HK.out,aY.out.trans (iO.out.mono aY.out.size),fun b hb=>HO.out b (Nat.lt_of_lt_of_le hb aY.out.size)⟩
open Go.RowKit Go.Maps Asm Errs PosTab Go.Proofs.YtdlpmnmenhojfaaGreatDoor.Fair
theorem zrq: ∀x∈fdC,vI x fdC.length false=true∧Zm x.v:=by
 have hl:((fdC).length:Int)=5:=rfl;intro x hx;unfold fdC at hx;simp only[List.mem_cons,List.not_mem_nil,or_false] at hx;rcases hx with rfl|rfl|rfl|rfl|rfl
 all_goals exact ⟨by decide+kernel,by decide,by decide⟩
theorem zhg (s:Int): ∃P:List (Bool×Int),P.length=400∧(∀q∈P,0≤q.2∧q.2<18446744073709551616)∧Gu 1 400 s=gU P:=by
 obtain ⟨P,h1,h2,h3⟩:=jW 400 [] s;refine ⟨P,h1,h2,?_⟩;unfold Gu;rw[if_neg Y2];exact h3
theorem JB {w:World} {base n:Nat} {A:Option Addr} {c:Nat} {l:List kS} (h:w.ownsRow base 39 3 (.slice A n c) n (vR l)) (hn:n=l.length) {i:Nat} {e:kS} (he:l[i]?=some e): ∃g,A=some ⟨g,0,O⟩∧base≤g∧g<w.heap.size∧w.cell? ⟨g,i*3,O⟩=V (E Z e.kind)∧w.cell? ⟨g,i*3+1,O⟩=V (E Z e.who)∧w.cell? ⟨g,i*3+2,O⟩=V (E J e.draw):=by
 have hi:i<l.length:=(List.getElem?_eq_some_iff.1 he).1;rcases Go.Proofs.YtdlpmnmenhojfaaGreatDoor.gG h with ⟨q,-⟩ |⟨g,c',q,hq⟩
 ·injection q with _ q2 _
  omega
 ·injection q with q1 _ _
  subst q1;obtain ⟨h1,h2,h3⟩:=zbQ l i e he;have k: ∀j u,(vR l)[j]?=some u→w.cell? ⟨g,j,O⟩=some u:=fun j u hu=>by
   have:=hq j u hu;rwa[Addr.add_lit,Nat.zero_add] at this
  exact ⟨g,rfl,(h.lt g rfl).1,(h.lt g rfl).2,k _ _ h1,k _ _ h2,k _ _ h3⟩
theorem zsE (w:World) (hM:kZ w) (l8:1<w.heap.size): ∃F:Fixed,zfP F∧ ∀(W:World) (A:Option Addr) (c:Nat),Below w.heap.size w W→W.ownsRow 0 111 7 (.slice A 5 c) 5 (Ze fdC)→Calls Tp 5 #[.agg #[E Z 1,E Z 200], .agg #[.slice A 5 c,E Z 0,E Z 3,E Z 1]] W fun e w'=> ∃G own',e=Rt (.tuple #[Y (V ⟨G.K,0,O⟩), .nilIface])∧zi F w' own' G (zdR F 200 0) 3∧Below W.heap.size W w'∧ ∀b,b<W.heap.size→own' b= .other:=by
 obtain ⟨code,labels,hp,hc0,hc1,hlab⟩:=ztR;have hgood:=zaR.of hp;refine ⟨FDp code (ZQ labels) (ZE labels),zuv hp,fun W A c hW hr=>?_⟩;have hF:zdG (zql code labels fdC 3 1 1):=ztQ hgood (prog:=fdC) (by show 0<5;decide) (by show 5≤2048;decide) zrq ⟨by decide,by decide,by decide⟩ ⟨by decide,by decide⟩;exact zpT hp hlab (hM.below hW l8) (Nat.lt_of_lt_of_le l8 hW.size) hF (entry:=0) (cells:=200) ⟨by decide,by show (0:Int)<((5:Nat):Int);decide⟩ (by show (17+8* ((1:Nat):Int))+3+1+1≤((200:Nat):Int);decide) Y2 hr
theorem fairdead_law (seed:Int) (A:Option Addr) (n c:Nat) (zs:Nat→Int) (hs:zqC seed) (hn:n≤9223372036854775807) (w:World) (hD:zje J w A n zs) (hd:zay w) (hM:kZ w) (l8:1<w.heap.size):
  Calls Tp 3 #[E J seed, .slice A n c] w fun e w'=>e=Rt (.bool true)∧Below w.heap.size w w':=by
 obtain ⟨F,hA,qE⟩:=zsE w hM l8;obtain ⟨P,Dn,Dq,Fx⟩:=zhg seed;have hlenL:(gU P).length=800:=by rw[Jg,Dn]
 have nY:=Y0 (znp w);have HN:=Y0 qE;have HG:=Y0 (And.intro hA (And.intro Dn (And.intro Dq (And.intro Fx hlenL))));have HI:=Y0 (And.intro hs (And.intro hn (And.intro hD hd)));have hp0:=KX hd;clear hM l8 qE hA Dn Dq Fx hlenL hs hn hD hd;go_enter Tryz.func3,Tryz.ntmps3;go_wp2_with fail;refine nY.out.mono ?_;rintro e w1 ⟨Ap,cp,rfl,hr1,hb1⟩;clear nY;have hb2:Below w1.heap.size w1 (w1.alloc (Ce #[.slice Ap 5 cp,E Z 0,E Z 3,E Z 1] 26)):=(Below.refl _ _).alloc (Nat.le_refl _) _;have hz2:=heap_alloc_new w1 (.cells #[.slice Ap 5 cp,E Z 0,E Z 3,E Z 1] 26)
 have hr2:(w1.alloc (Ce #[.slice Ap 5 cp,E Z 0,E Z 3,E Z 1] 26)).ownsRow 0 111 7 (.slice Ap 5 cp) 5 (Ze fdC):=Asm.za hr1 fun b e=>hb2.block b (hr1.lt b e).2;go_upto_region 2 with fail;generalize (World.alloc w1 _)=w2 at*;have hbw2:Below w.heap.size w w2:=hb1.trans (hb2.mono hb1.size);have y0:w2.cell? ⟨w1.heap.size,0,O⟩=V (.slice Ap 5 cp):=ze hz2 0;have y1:w2.cell? ⟨w1.heap.size,1,O⟩=V (E Z 0):=ze hz2 1;have y2:w2.cell? ⟨w1.heap.size,2,O⟩=V (E Z 3):=ze hz2 2;have y3:w2.cell? ⟨w1.heap.size,3,O⟩=V (E Z 1):=ze hz2 3;have NG:=Y0 (HN.out w2 Ap cp hbw2 hr2);have aP:=Y0 (And.intro hbw2 hz2);clear hr1 hb1 hb2 hz2 hr2 hbw2 HN;go_wp2_with fail;refine NG.out.mono ?_;rintro e w3 ⟨G,dw,rfl,hk3,hb3,ho3⟩;obtain ⟨hbw2,hz2⟩:=aP.out
 have hz3:=(hb3.block _ (zo hz2)).trans hz2;have hlz:=zo hz2;obtain ⟨K,hK⟩: ∃K,K=G.K:=⟨_,rfl⟩;have wG:=Y0 (zf9 w3 (V ⟨G.K,0,O⟩) Ap cp);rw[←hK] at wG ⊢;have HK:=Y0 hK;have H3:=Y0 (And.intro hk3 (And.intro (hbw2.trans (hb3.mono hbw2.size)) (And.intro (fun b (hb:b<w.heap.size)=>ho3 b (Nat.lt_of_lt_of_le hb hbw2.size)) hz3)));have y0':w3.cell? ⟨w1.heap.size,0,O⟩=V (.slice Ap 5 cp):=ze hz3 0;have y1':w3.cell? ⟨w1.heap.size,1,O⟩=V (E Z 0):=ze hz3 1;have y2':w3.cell? ⟨w1.heap.size,2,O⟩=V (E Z 3):=ze hz3 2;have FL:w3.cell? ⟨w1.heap.size,3,O⟩=V (E Z 1):=ze hz3 3;clear y0 y1 y2 y3 NG aP hk3 hb3 ho3 hz3 hbw2 hz2 hK hlz;go_wp2_with fail;refine wG.out.mono ?_;rintro e w4 ⟨B,Wb,rb,rfl,Ah,hb4,pz,pJ,qd,pI,qc,sG,hr4,pG⟩;clear wG;have eZ:=(hb4.block _ (zo H3.out.2.2.2)).trans H3.out.2.2.2
 have x0:w4.cell? ⟨w1.heap.size,0,O⟩=V (.slice Ap 5 cp):=ze eZ 0;have x1:w4.cell? ⟨w1.heap.size,1,O⟩=V (E Z 0):=ze eZ 1;have x2:w4.cell? ⟨w1.heap.size,2,O⟩=V (E Z 3):=ze eZ 2;have x3:w4.cell? ⟨w1.heap.size,3,O⟩=V (E Z 1):=ze eZ 3;have EL:=Y0 (zf9 w4 none Ap cp);have H4:=Y0 (And.intro Ah (And.intro hb4 (And.intro pz (And.intro pJ (And.intro qd (And.intro pI (And.intro qc (And.intro sG (And.intro hr4 pG)))))))));clear y0' y1' y2' FL Ah hb4 pz pJ qd pI qc sG hr4 pG eZ;go_wp2_with fail;refine EL.out.mono ?_;rintro e w5 ⟨B5,Wn,rn,rfl,-,hb5,-,LA,-,-,-,-,-,nk⟩;clear EL
 obtain ⟨n0,-,n2,-,n4,n5,-⟩:=Kq.at_ (K:=0) (M:=0) (w:=w5) (Wb:=Wn) (rb:=0) (tv:= .nilIface) (dv:= .nilIface) (lg:=0) |>fun _=>(⟨ze nk 0,trivial,ze nk 2,trivial,ze nk 4,ze nk 5,trivial⟩:w5.cell? ⟨Wn,0,O⟩=V (Y none)∧True∧w5.cell? ⟨Wn,2,O⟩=V (Sl none 0 0)∧True∧w5.cell? ⟨Wn,4,O⟩=V (E Z 0)∧w5.cell? ⟨Wn,5,O⟩=some .nilIface∧True)
 have fK:=zo nk;have AQ:=zpN n0 n5 ⟨2,0,0⟩;unfold Ke at AQ;have AQ:=Y0 AQ;have H5:=Y0 (And.intro hb5 (And.intro n2 (And.intro n4 fK)));clear x0 x1 x2 x3 n0 n2 n4 n5 nk hb5 LA fK;go_wp2_with fail;refine AQ.out.mono ?_;rintro e w6 ⟨rfl,hb6⟩;clear AQ;obtain ⟨hb5,n2,n4,fK⟩:=H5.out;have CJ:=Y0 (zlD ((hb6.cell (p:=⟨Wn,2,O⟩) fK).trans n2));have H6:=Y0 (And.intro (hb5.trans (hb6.mono hb5.size)) (And.intro ((hb6.cell (p:=⟨Wn,4,O⟩) fK).trans n4) (Nat.lt_of_lt_of_le fK hb6.size)));clear hb5 n2 n4 fK hb6 H5;go_wp2_with fail;refine CJ.out.mono ?_;rintro e w7 ⟨At,ct,rfl,dU⟩;clear CJ;obtain ⟨xS,n4,fK⟩:=H6.out;have iM:=Y0 (zal ((dU.cell (p:=⟨Wn,4,O⟩) fK).trans n4));have H7:=Y0 (xS.trans (dU.mono xS.size));clear xS n4 fK dU H6;go_wp2_with fail;refine iM.out.mono ?_;rintro e PG ⟨rfl,hw7⟩;subst hw7;clear iM
 have Cx:=za8 PG 1 400 seed Y2 Y2 HI.out.1;rw[HG.out.2.2.2.1,HG.out.2.2.2.2] at Cx;have Cx:=Y0 Cx;go_wp2_with fail;refine Cx.out.mono ?_;rintro e w8 ⟨sv,rfl,hrow,xV⟩;clear Cx;obtain ⟨As,cs,rfl⟩:=Asm.zn hrow;have hlenL:=HG.out.2.2.2.2;have hsb: ∃sb,As=some ⟨sb,0,O⟩∧PG.heap.size≤sb∧sb<w8.heap.size:=by
  have hi0:(0:Nat)<(gU P).length:=by rw[hlenL];decide
  obtain ⟨g,q1,q2,q3,-⟩:=JB hrow hlenL.symm (List.getElem?_eq_getElem hi0);exact ⟨g,q1,q2,q3⟩
 obtain ⟨sb,rfl,MJ,sM⟩:=hsb;obtain ⟨Ah,hb4,pz,pJ,qd,pI,qc,sG,hr4,pG⟩:=H4.out;obtain ⟨hk3,eH,ho3,-⟩:=H3.out;have hb48:Below w4.heap.size w4 w8:=H7.out.trans (xV.mono H7.out.size);have xR:Below w3.heap.size w3 w8:=hb4.trans (hb48.mono hb4.size);have Eb: ∀b∈B.l,b<w4.heap.size:=Ah.lt;have cZ:=zo pG;have hrl:=zo hr4;have h47:=H7.out.size;have Dc:zdx (fun b=>b<w.heap.size∨b=sb) F w8 G Wb P 0 w8:=zgh hk3 ho3 eH.size xR (Ah.below hb48) pz (by rw[←HK.out];exact (hb48.block _ cZ).trans pG) pJ ((hb48.block _ hrl).trans hr4) qd pI qc ⟨by have:=hb4.size;omega,sM,by omega,fun q=>by have:=Eb _ q;omega,by omega⟩ (zsC P);have uX:=Y0 Dc;have aK:=Y0 hrow;have NH:Hid (∀aB,Keeps (fun b=> ¬(b<w.heap.size∨b=sb)) w8 aB→aB.heap[sb]?=w8.heap[sb]?):=Y0 fun aB k=>k.block sb sM fun q=>q (Or.inr rfl)
 have tu:Hid (Below w.heap.size w w8):=Y0 (eH.trans (xR.mono eH.size));have QH:=Y0 sM;clear Ah hb4 pz pJ qd pI qc sG hr4 pG hk3 eH ho3 hb48 xR Eb cZ hrl h47 Dc hrow xV MJ sM H4 H3 H7;clear hlenL;go_wp2_with fail;go_loopg [12,11] 801 (fun g iv fv wr=> ∃i:Nat,g=801 - i∧i≤100∧iv=E Z (i:Int)∧((fv= .nilIface∧Hid (zdx (fun b=>b<w.heap.size∨b=sb) F w8 G Wb P i wr))∨ ∃b i0:Nat,i=i0+1∧fv= .iface 94 (Y (V ⟨b,0,O⟩))∧Hid (Dead (fun b=>b<w.heap.size∨b=sb) F w8 G Wb i0 (.iface 94 (Y (V ⟨b,0,O⟩))) wr)));case atStart=>exact ⟨0,rfl,by omega,rfl,Or.inl ⟨rfl,uX⟩⟩
 case round=>
  obtain ⟨i,hg,hi,rfl,hrel⟩:=hrel;have Hg:=Y0 hg;have dH:(0:Int)≤(i:Int)∧(i:Int)≤100:=Y1;rcases hrel with ⟨rfl,HA⟩ |⟨b,i0,hi0,rfl,HDe⟩
  ·obtain ⟨hA,Dn,Dq,Fx,hlenL⟩:=HG.out;have DW:=zjU HA.out Y1;obtain ⟨e,he,hdo⟩:=zjy hA Dq Y1 HA.out;have hkp:Keeps (fun b=> ¬(b<w.heap.size∨b=sb)) w8 wr:=by
    obtain ⟨k,t,M,own,tb,fb,B',tv,iL,lg,ne,cs',-,-,-,-,-,-,q⟩:=HA.out;exact q
   obtain ⟨g',q1,-,-,c0,c1,c2⟩:=JB aK.out hlenL.symm he;injection q1 with q1
   injection q1 with q1 _ _
   subst q1;have es:=NH.out wr hkp;have d0:=(World.cell?_of_block (a:=⟨sb,i*3,O⟩) es).trans c0;have d1:=(World.cell?_of_block (a:=⟨sb,i*3+1,O⟩) es).trans c1;have d2:=(World.cell?_of_block (a:=⟨sb,i*3+2,O⟩) es).trans c2;obtain ⟨ek,ew,ed⟩:=e;unfold KC Ke at hdo;dsimp only at hdo d0 d1 d2;have tF:=Y0 hdo;have Hi:=Y0 DW;clear hA Dn Dq Fx hlenL he hdo hkp c0 c1 c2 es HA hg DW;go_wp2_with fail;refine tF.out.mono ?_;rintro e w9 (⟨rfl,h9⟩ |⟨b,rfl,h9⟩)
   ·have H9:=Y0 h9;clear h9 tF;go_wp2_with fail;go_roundg (801 - (i+1));case measure=>have:=Hg.out;have:=Hi.out;omega
    case rel=>have:=Hi.out;exact ⟨i+1,rfl,by omega,by go_num,Or.inl ⟨rfl,H9⟩⟩
   ·have H9:=Y0 h9;clear h9 tF;go_wp2_with fail;go_roundg (801 - (i+1));case measure=>have:=Hg.out;have:=Hi.out;omega
    case rel=>have:=Hi.out;exact ⟨i+1,rfl,by omega,by go_num,Or.inr ⟨b,i,rfl,rfl,H9⟩⟩
  ·subst hi0;obtain ⟨M,own,tb,fb,nn,Bm,tv,iL,lg,hent,hk,hW,hx,hkp⟩:=HDe.out;have fM:Below w.heap.size w wr:=⟨hkp.os.trans tu.out.os,hkp.tape.trans tu.out.tape,hkp.output.trans tu.out.output,Nat.le_trans tu.out.size hkp.size,fun k hk=>(hkp.block k (Nat.lt_of_lt_of_le hk tu.out.size) fun q=>q (Or.inl hk)).trans (tu.out.block k hk)⟩;have tH:Hid (∀aB,Below wr.heap.size wr aB→Calls Tp 11 #[Y (V ⟨K,0,O⟩)] aB fun e w'=>e=Rt (E Z ((i0:Int)+1))∧w'=aB):=Y0 fun aB hV=>by
    have:=jG (hk.below hV);rw[hent] at this;change Calls Tp 11 #[Y (V ⟨G.K,0,O⟩)] aB _ at this;rw[←HK.out] at this;exact this
   obtain ⟨x0,-,-,-,x4,x5,-⟩:=Kq.at_ hW;have cZ:=zo hW;have EW:Hid (∀aB,Below wr.heap.size wr aB→Calls Tp 9 #[Y (V ⟨Wb,0,O⟩)] aB fun e w'=>e=Rt (E Z lg)∧w'=aB):=Y0 fun aB hV=>zal ((hV.cell (p:=⟨Wb,4,O⟩) cZ).trans x4);have tF:Hid (∀aB (x:Entry),Below wr.heap.size wr aB→Calls Tp 7 #[Y (V ⟨Wb,0,O⟩), .agg (Ke x)] aB fun e w'=>e=Rt (.iface 94 (Y (V ⟨b,0,O⟩)))∧Below aB.heap.size aB w'):=Y0 fun aB x hV=>zok ((hV.cell (p:=⟨Wb,0,O⟩) cZ).trans x0) ((hV.cell (p:=⟨Wb,5,O⟩) cZ).trans x5) x;have HX:Hid (∀aB,Below wr.heap.size wr aB→vN aB [(jY,(i0:Int)),(Gg,(i0:Int))] 10 (.iface 94 (Y (V ⟨b,0,O⟩)))):=Y0 fun aB hV=>hx.below hV;have mO:=Y0 fM;have SE:(0:Int)≤(i0:Int)∧(i0:Int)≤100:=Y1
   have hw1:IntKind.i64.wrap ((i0:Int)+1 - 1)=(i0:Int):=gT;have hee:((i0:Int)+1==(i0:Int)+1)=true:=Y7;have hll:(lg==lg)=true:=Y7;have hbr:=Below.refl wr.heap.size wr;have mP:=Y0 (tH.out wr hbr);have Qk:=Y0 (EW.out wr hbr);have j6:=Y0 (zt3 Gg (i0:Int) 10 wr);clear hk hW hx hkp fM x0 x4 x5 cZ hent HDe hg hbr QH NH aK uX;go_wp2_with fail;refine mP.out.mono ?_;rintro e v1 ⟨rfl,hv1⟩;subst hv1;go_wp2_with fail;refine Qk.out.mono ?_;rintro e v1 ⟨rfl,hv1⟩;subst hv1;go_wp2_with fail;refine j6.out.mono ?_;rintro e v2 ⟨f1,rfl,hf1,pK⟩;have Dw:Below v1.heap.size v1 v2:=pK;have Nn:=Y0 (zsS jY (i0:Int) hf1 (Nat.zero_lt_succ _) (Nat.le_of_ble_eq_true rfl));have H2:=Y0 Dw;clear hf1 pK Dw j6;go_wp2_with fail;refine Nn.out.mono ?_;rintro e v3 ⟨f,rfl,hf,aU⟩;have lN:Below v1.heap.size v1 v3:=H2.out.trans (aU.mono H2.out.size)
   have eH:Below w.heap.size w v3:=mO.out.trans (lN.mono mO.out.size);have NQ:=Y0 (zir v3 A n c zs HI.out.2.1 (HI.out.2.2.1.below eH));have H3:=Y0 (And.intro hf (And.intro lN eH));clear hf aU lN eH Nn H2;go_wp2_with fail;refine NQ.out.mono ?_;rintro e v4 ⟨v,l2,rfl,Ma,hrow4,iE⟩;obtain ⟨hf,lN,eH⟩:=H3.out;obtain ⟨A4,c4,rfl⟩:=Asm.zn hrow4;obtain ⟨L,hL⟩: ∃L,L=l2.length:=⟨_,rfl⟩;rw[←hL] at hrow4 ⊢;have rM:(0:Int)≤(L:Int)∧(L:Int)≤50:=Y1;have H4:=Y0 (And.intro (hf.below iE) (And.intro (lN.trans (iE.mono lN.size)) (And.intro (eH.trans (iE.mono eH.size)) (And.intro hrow4 hL))));clear hf lN eH iE hrow4 hL Ma H3 NQ;go_wp2_with fail;go_loopg [17] (L+1) (fun g iv wr=> ∃j:Nat,g=L+1 - j∧j≤L∧iv=E Z (j:Int)∧Hid (Below v4.heap.size v4 wr));case atStart=>exact ⟨0,rfl,by omega,rfl,Y0 (Below.refl _ _)⟩
   case round=>
    obtain ⟨j,hg,hj,rfl,EH⟩:=hrel;have Hg:=Y0 hg;have Am:(0:Int)≤(j:Int)∧(j:Int)≤50:=Y1;obtain ⟨hf,ny,nD,hrow4,hL⟩:=H4.out;have hbr:=EH.out;by_cases hlt:j<L
    ·have aH:(j:Int)<(L:Int):=Y1;have fu:=Y0 hlt;obtain ⟨gs,rfl,-,hgs,c0,c1,c2⟩:=JB hrow4 hL (List.getElem?_eq_getElem (by omega:j<l2.length));have d0:=(hbr.cell (p:=⟨gs,j*3,O⟩) hgs).trans c0;have d1:=(hbr.cell (p:=⟨gs,j*3+1,O⟩) hgs).trans c1;have d2:=(hbr.cell (p:=⟨gs,j*3+2,O⟩) hgs).trans c2;generalize l2[j]' Y1=e at d0 d1 d2;obtain ⟨ek,ew,ed⟩:=e;dsimp only at d0 d1 d2;have eG:=ny.trans (hbr.mono ny.size);have hdo:=tF.out wr ⟨ek,ew,ed⟩ eG;unfold Ke at hdo;dsimp only at hdo;have AU:=Y0 hdo
     have wX:Hid (∀aB,Below wr.heap.size wr aB→Calls Tp 15 #[.iface 94 (Y (V ⟨b,0,O⟩)),f] aB fun e w'=>e=Rt (.bool true)∧Below aB.heap.size aB w'):=Y0 fun aB hV=>zds _ f _ 10 aB (HX.out aB (eG.trans (hV.mono eG.size))) ((hf.below hbr).below hV) (HI.out.2.2.2.below (nD.trans ((hbr.trans (hV.mono hbr.size)).mono nD.size)) hp0) Y2 Y2 (Nat.le_of_ble_eq_true rfl);clear hf ny nD hrow4 hL hbr hgs c0 c1 c2 eG hdo hg hlt;go_wp2_with fail;refine AU.out.mono ?_;rintro e v5 ⟨rfl,hb5⟩;have NM:=Y0 (wX.out v5 hb5);have H5:=Y0 hb5;clear hb5 AU;go_wp2_with fail;refine NM.out.mono ?_;rintro e v6 ⟨rfl,hb6⟩;have H6:Hid (Below v4.heap.size v4 v6):=Y0 ((EH.out.trans (H5.out.mono EH.out.size)).trans (hb6.mono (Nat.le_trans EH.out.size H5.out.size)));clear hb6 NM H5 wX;go_wp2_with fail;go_roundg (L+1 - (j+1))
     case measure=>have:=Hg.out;have:=fu.out;omega
     case rel=>have:=fu.out;exact ⟨j+1,rfl,by omega,by go_num,H6⟩
    ·obtain rfl:j=L:=Y1;have eG:=ny.trans (hbr.mono ny.size);have fM:=nD.trans (hbr.mono nD.size);have wX:=Y0 (zds _ f _ 10 wr (HX.out wr eG) (hf.below hbr) (HI.out.2.2.2.below fM hp0) Y2 Y2 (Nat.le_of_ble_eq_true rfl));have HR:=Y0 (And.intro eG fM);clear hf ny nD hrow4 hL hbr eG fM hg hlt;go_wp2_with fail;refine wX.out.mono ?_;rintro e v5 ⟨rfl,hb5⟩;obtain ⟨eG,fM⟩:=HR.out;have yc:=eG.trans (hb5.mono eG.size);have PZ:=Y0 (tH.out v5 yc);have Qm:=Y0 (EW.out v5 yc);have fQ:=Y0 (zlb v5);have H5:=Y0 (fM.trans (hb5.mono fM.size));clear eG fM hb5 yc wX HR;go_wp2_with fail;refine PZ.out.mono ?_;rintro e v6 ⟨rfl,hv6⟩;subst hv6;go_wp2_with fail;refine Qm.out.mono ?_;rintro e v7 ⟨rfl,hv7⟩;subst hv7;go_wp2_with fail;refine fQ.out.mono ?_;rintro e v8 ⟨rfl,xV⟩;have H8:=Y0 (H5.out.trans (xV.mono H5.out.size));clear xV fQ
     go_wp2_with fail;go_ret;exact ⟨rfl,H8.out⟩
end Kn
end Go.Proofs.YtdlpmnmenhojfaaGreatDoor
