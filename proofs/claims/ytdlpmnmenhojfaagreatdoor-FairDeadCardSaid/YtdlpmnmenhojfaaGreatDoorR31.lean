/- Part 31 of what the proof stands on: KnStepC. -/
import Derived.Test.YtdlpmnmenhojfaaGreatDoorR27
set_option linter.unusedVariables false
set_option maxHeartbeats 40000000
set_option maxRecDepth 100000
variable {zP:Prop}
namespace Go.Proofs.YtdlpmnmenhojfaaGreatDoor
open Go.IntKind renaming i64->Z,u64->J
open Go.Value renaming int->E,pointer->Y,slice->Sl
open Option renaming none->O,some->V
open Go.Obj renaming cells->Ce
open Go.Ending renaming returned->Rt
open Go.Proofs.Tryz renaming prog->Tp
namespace Kn
open Go.RowKit Asm
theorem zhB (k:Int) (t:TypeId) (x:Value) (w:World):Calls Tp 236 #[E Z k, .iface t x] w fun e w'=>(∃v,e= .returned v∧Som v)∧Below w.heap.size w w':=by
 go_enter Tryz.func236,Tryz.ntmps236;exact J75
section
variable {w:World} {own:Own} {b o:Nat} {t:TypeId} {P S:List Value} {tb tk:Tag} {n:Nat} {f:Frame} {bv:Value}
def zpO (b o k bx:Nat) (p:Int) (au:World→Prop) (R:Int→World→Prop) (e:Ending) (w':World):Prop:=
 w'.cell? ⟨bx,1,O⟩=V (E Z k)∧w'.cell? ⟨b,o,O⟩=V (E Z p)∧w'.frozen? ⟨b,o,O⟩=false∧w'.frozen? ⟨b,o+1+k,O⟩=false∧(∃u,w'.cell? ⟨b,o+1+k,O⟩=some u)∧
  ((∃v t x,e=Rt (.tuple #[E J v, .iface t x])∧au w')∨(∃v,e=Rt (.tuple #[E J v, .nilIface])∧R v w'))
theorem a79.Q50 (h:zP:=by
 have M5:Hid (∀(W:World) (bx:Nat),Below w.heap.size w W→Zf W bx x→w.heap.size≤bx→bx<W.heap.size→Calls Tp 235 #[Y (V ⟨b,o,O⟩), .agg (zS x), .iface mt mv] W (zpO b o k bx p au R)):=Y0 fun W bx h1 h2 h3 h4=>by
  have:=HA k W bx hk hk2 h1 h2 h3 h4;rwa[hp] at this
 have htn:x.a.toNat=k:=by rw[hk];rfl
 rw[htn,hp];obtain ⟨xo,xa,xb,xc,xv,xm,xw⟩:=x;simp only at ho c0 c1 c2 c3 c4 c5 c6 hk;unfold zS at dY M5;subst hk;clear h hc hg hmay hlv hn hx hmx nK ha hxl hxm hpl HA hp htn;generalize l.length=L at*;clear hl;have El:xo=17∨xo=18∨xo=19∨xo=20∨xo=21:=Y1;clear ho;obtain ⟨oo,hoe⟩: ∃oo,oo=xo:=⟨_,rfl⟩;have HOE:=Y0 hoe;clear hoe;rcases El with rfl|rfl|rfl|rfl|rfl
 all_goals
  go_enter Tryz.func180,Tryz.ntmps180
  go_wp2_with fail
  refine (dY.out _).mono ?_
  rintro e w1 ⟨rfl,hb1⟩
  replace hb1:Below w.heap.size w w1:=Y73
  have CQ:=wE.out w1 hb1
  have d0:=(hb1.cell (p:=⟨g,p*7,O⟩) HG.out).trans c0
  have d1:=(hb1.cell (p:=⟨g,p*7+1,O⟩) HG.out).trans c1
  have d2:=(hb1.cell (p:=⟨g,p*7+2,O⟩) HG.out).trans c2
  have d3:=(hb1.cell (p:=⟨g,p*7+3,O⟩) HG.out).trans c3
  have d4:=(hb1.cell (p:=⟨g,p*7+4,O⟩) HG.out).trans c4
  have d5:=(hb1.cell (p:=⟨g,p*7+5,O⟩) HG.out).trans c5
  have d6:=(hb1.cell (p:=⟨g,p*7+6,O⟩) HG.out).trans c6
  have aL:=Y0 hb1
  clear hb1
  go_wp2_with fail
  refine (M5.out _ w1.heap.size (VX aL.out _) (Zf.of (heap_alloc_new w1 _)) aL.out.size Y7).mono ?_
  clear d0 d1 d2 d3 d4 d5 d6 CQ
  rintro e w2 ⟨q1,q2,q3,q4,⟨u,q5⟩,⟨v,te,xe,rfl,hE⟩ |⟨v,rfl,hR⟩⟩
  ·have HE:=Y0 hE
   clear hE
   go_wp2_with fail
   refine (zhB _ _ _ _).mono ?_
   rintro e w3 ⟨⟨ev,rfl,hev⟩,hb3⟩
   have aY:=Y0 hb3
   clear hb3 hev
   go_wp2_with fail
   go_ret2
   exact Or.inl ⟨_,w2,rfl,HE.out,aY.out⟩
  ·have HR:=Y0 hR
   clear hR
   go_wp2_with fail
   go_still_tail 7,Y4
   change wpList _ _ _ _ _ w2.drew
   go_wp2_with fail
   go_ret2
   exact Or.inr ⟨v,w2,1,rfl,HR.out,rfl⟩):zP:=h
open a79 in
theorem zlG (h:bB w own b o t P S tb tk n f bv) {g c:Nat} {l:List zx} {lib:Bool} (hc:vK w g l) (hg:g<w.heap.size) (hl:l.length≤2048) (hmay: ∀x∈l,vI x l.length lib=true) (hlv: ∀x∈l,Zm x.v) (hn:n≤100000) {mt:TypeId} {mv:Value} {x:zx} (hx:Zc l f.pc=some x) (ho:17≤x.op∧x.op≤21) {au:World→Prop} {R:Int→World→Prop}
  (HA: ∀(k:Nat) (W:World) (bx:Nat),x.a=k→k<32→Below w.heap.size w W→Zf W bx x→w.heap.size≤bx→bx<W.heap.size→Calls Tp 235 #[Y (V ⟨b,o,O⟩), .agg (zS x), .iface mt mv] W (zpO b o k bx f.pc au R)):
  Calls Tp 180 #[Y (V ⟨b,o,O⟩),Sl (V ⟨g,0,O⟩) l.length c, .iface mt mv] w fun e w'=>
   (∃ev w2,e=Rt (.tuple #[E Z 3,ev])∧au w2∧Below w2.heap.size w2 w')∨
   (∃v w2 q,e=Rt (.tuple #[E Z 0, .nilIface])∧R v w2∧w'=((w2.drewN q).setCell ⟨b,o+1+x.a.toNat,O⟩ (E J v)).setCell ⟨b,o,O⟩ (E Z (f.pc+1))):=by
 obtain ⟨p,hp⟩:=Int.eq_ofNat_of_zero_le h.ok.pc.1;have hpl:p<l.length:=by
  unfold Zc at hx;rw[if_neg Y1] at hx;have:=(List.getElem?_eq_some_iff.1 hx).1;omega
 have hxl:l[p]=x:=by
  unfold Zc at hx;rw[if_neg Y1,hp] at hx;exact Option.some.inj ((List.getElem?_eq_getElem hpl).symm.trans hx)
 have hxm:x∈l:=by rw[←hxl];exact List.getElem_mem hpl
 have hmx:=hmay x hxm;have nK:=hlv x hxm;have oG:(0:Int)≤(p:Int)∧(p:Int)<(l.length:Int):=Y1;have yC:(1:Int)≤(l.length:Int)∧(l.length:Int)≤2048:=Y1;obtain ⟨cp,-,-,-⟩:=h.cells;rw[hp] at cp;have hpw:IntKind.i64.wrap ((p:Int)+1)=(p:Int)+1:=gT;have dY:Hid (∀W,Calls Tp 233 #[.agg (zS x),E Z l.length] W fun e w'=>e=Rt (.bool true)∧Below W.heap.size W w'):=Y0 fun W=>zgW x l.length lib W Y1 nK.1 hmx;have wE:Hid (∀W,Below w.heap.size w W→W.cell? ⟨b,o,O⟩=V (E Z p)):=Y0 fun W hW=>(hW.cell (p:=⟨b,o,O⟩) h.lens.lt).trans cp
 obtain ⟨c0,c1,c2,c3,c4,c5,c6⟩:w.cell? ⟨g,p*7,O⟩=V (E Z x.op)∧w.cell? ⟨g,p*7+1,O⟩=V (E Z x.a)∧w.cell? ⟨g,p*7+2,O⟩=V (E Z x.b)∧w.cell? ⟨g,p*7+3,O⟩=V (E Z x.c)∧w.cell? ⟨g,p*7+4,O⟩=V (E J x.v)∧w.cell? ⟨g,p*7+5,O⟩=V (E Z x.m)∧w.cell? ⟨g,p*7+6,O⟩=V (E Z x.w):=hc.cells hpl hxl;have HG:=Y0 hg;obtain ⟨ha,-⟩:=Kz hmx;exact J50
end
end Kn
end Go.Proofs.YtdlpmnmenhojfaaGreatDoor
