/- Part 27 of what the proof stands on: KnStepB. -/
import Derived.Test.YtdlpmnmenhojfaaGreatDoorR25
set_option linter.unusedVariables false
set_option maxHeartbeats 40000000
set_option maxRecDepth 100000
variable {zP:Prop}
namespace Go.Proofs.YtdlpmnmenhojfaaGreatDoor
open Go.IntKind renaming i64->Z,u64->J
open Go.Value renaming int->E,pointer->Y,slice->Sl
open Option renaming none->O,some->V
open Go.Obj renaming cells->Ce
open Go.Ending renaming returned->Rt
open Go.Proofs.Tryz renaming prog->Tp
namespace Kn
open Go.RowKit Asm
section
variable {w:World} {own:Own} {b o:Nat} {t:TypeId} {P S:List Value} {tb tk:Tag} {n:Nat} {f:Frame} {bv:Value}
theorem Zf.far {W:World} {bx b j:Nat} {x:zx} {v:Value} (h:Zf W bx x) (hne:bx≠b):Zf (W.setCell ⟨b,j,O⟩ v) bx x:=by
 have q: ∀i u,W.cell? ⟨bx,i,O⟩=some u→(W.setCell ⟨b,j,O⟩ v).cell? ⟨bx,i,O⟩=some u:=fun i u hu=>(World.cell?_of_block (a:=⟨bx,i,O⟩) (zm (p:=⟨b,j,O⟩) hne)).trans hu;obtain ⟨h0,h1,h2,h3,h4,h5,h6⟩:=h;exact ⟨q _ _ h0,q _ _ h1,q _ _ h2,q _ _ h3,q _ _ h4,q _ _ h5,q _ _ h6⟩
theorem zmx {m:Mem} {f:Frame} {x:zx} (ho:1≤x.op∧x.op≤11):(if x.op=1 then (⟨0,{ vC f x.a x.v with pc:=f.pc+1},m⟩:Stepped)
  else if x.op=2 then ⟨0,{ vC f x.a (rg f x.b) with pc:=f.pc+1},m⟩
  else if 3≤x.op∧x.op≤11 then ⟨0,{ vC f x.a (reckon x.op (rg f x.b) (bZ f x)) with pc:=f.pc+1},m⟩
  else ⟨1,f,m⟩)=⟨0,{ vC f x.a (BM x (rg f x.b) (bZ f x)) with pc:=f.pc+1},m⟩:=by
 unfold BM;by_cases h1:x.op=1
 ·rw[if_pos h1,if_pos h1]
 ·rw[if_neg h1,if_neg h1];by_cases h2:x.op=2
  ·rw[if_pos h2,if_pos h2]
  ·rw[if_neg h2,if_neg h2,if_pos Y1]
theorem zdb {f:Frame} (hr: ∀y∈f.r,Zm y) {x:zx} (hv:Zm x.v):Zm (bZ f x):=by
 unfold bZ;split
 ·exact hv
 ·exact Vm hr _
theorem a77.Q5 (h:zP:=by
 obtain ⟨ha,-,hcr,hbr,-⟩:=Kz hmx;exact J50):zP:=h
theorem a77.Q50 (h:zP:=by
 have yj:=hbr (by
  have e:x.op=1∨x.op=2∨x.op=3∨x.op=4∨x.op=5∨x.op=6∨x.op=7∨x.op=8∨x.op=9∨x.op=10∨x.op=11:=Y1
  unfold kJ
  rcases e with e|e|e|e|e|e|e|e|e|e|e<;>(rw[e];rfl))
 have mV:Hid (∀W,Below w.heap.size w W→W.cell? ⟨b,o+1+k,O⟩=V (E J (f.r.getD k 0))∧W.frozen? ⟨b,o+1+k,O⟩=false∧W.frozen? ⟨b,o,O⟩=false∧W.cell? ⟨b,o,O⟩=V (E Z p)):=Y0 fun W hW=>by
  have q:=(h.below hW).cells;exact ⟨q.2.2.1 k hk2,q.2.2.2 _,q.2.2.2 _,by rw[q.1,hp]⟩
 have lK:Hid (∀W,Below w.heap.size w W→Calls Tp 238 #[Y (V ⟨b,o,O⟩),E Z x.b] W fun e w'=>e=Rt (E J (rg f x.b))∧W=w'):=Y0 fun W hW=>JL (h.below hW).lens h.ok.len x.b yj.1 yj.2;have Og:Hid (∀W,Below w.heap.size w W→Calls Tp 239 #[Y (V ⟨b,o,O⟩), .agg (zS x)] W fun e w'=>e=Rt (E J (bZ f x))∧Below W.heap.size W w'):=Y0 fun W hW=>zjo (h.below hW).lens h.ok.len x hcr;have qF:Hid (∀W,Calls Tp 237 #[.agg (zS x),E J (rg f x.b),E J (bZ f x)] W fun e w'=>e=Rt (E J (BM x (rg f x.b) (bZ f x)))∧Below W.heap.size W w'):=Y0 fun W=>zkA x _ _ W (Vm h.ok.r _) (zdb h.ok.r nK) ho;have hrr:Zm (BM x (rg f x.b) (bZ f x)):=zgg x _ _ (Vm h.ok.r _) (zdb h.ok.r nK) nK ho
 have aD:Hid (∀W,Below w.heap.size w W→Zd w own b o t P S tb tk (n+1) { vC f x.a (BM x (rg f x.b) (bZ f x)) with pc:=f.pc+1} ((W.setCell ⟨b,o+1+k,O⟩ (E J (BM x (rg f x.b) (bZ f x)))).setCell ⟨b,o,O⟩ (E Z ((p:Int)+1)))):=Y0 fun W hW=>by
  have q:=(((Zd.refl h (Nat.le_succ n)).below hW).reg hne hk2 hrr).pc hne (p:=(p:Int)+1) (by have:=h.ok.pc;omega);rw[hk,sj];exact q
 generalize BM x (rg f x.b) (bZ f x)=rr at*;generalize rg f x.b=rb at*;generalize bZ f x=vc at*;generalize hra:f.r.getD k 0=ra at*;obtain ⟨xo,xa,xb,xc,xv,xm,xw⟩:=x;simp only at ho c0 c1 c2 c3 c4 c5 c6 hk lK;unfold zS at dY Og qF;subst hk;clear h hc hg hmay hlv hn hx hmx nK ha sj hxl hxm hpl hbr yj hcr hrr hra;generalize l.length=L at*;clear hl;have El:xo=1∨xo=2∨xo=3∨xo=4∨xo=5∨xo=6∨xo=7∨xo=8∨xo=9∨xo=10∨xo=11:=Y1;clear ho;rcases El with ho|ho|ho|ho|ho|ho|ho|ho|ho|ho|ho
 all_goals
  have e1:=ZH ho 1
  have e2:=ZH ho 2
  have e3:=ZH ho 3
  have e4:=ZH ho 4
  have e5:=ZH ho 5
  have e6:=ZH ho 6
  have e7:=ZH ho 7
  have e8:=ZH ho 8
  have e9:=ZH ho 9
  have e10:=ZH ho 10
  have e11:=ZH ho 11
  have e12:=ZH ho 12
  have e13:=ZH ho 13
  have e14:=ZH ho 14
  have e15:=ZH ho 15
  have e16:=ZH ho 16
  have e17:=ZH ho 17
  have e18:=ZH ho 18
  have e19:=ZH ho 19
  have e20:=ZH ho 20
  have e21:=ZH ho 21
  simp only[Int.reduceEq,decide_true,decide_false] at e1 e2 e3 e4 e5 e6 e7 e8 e9 e10 e11 e12 e13 e14 e15 e16 e17 e18 e19 e20 e21
  clear ho
  go_enter Tryz.func180,Tryz.ntmps180
  go_wp2_with fail
  refine (dY.out _).mono ?_
  rintro e w1 ⟨rfl,hb1⟩
  replace hb1:Below w.heap.size w w1:=Y73
  have CQ:=wE.out w1 hb1
  have d0:=(hb1.cell (p:=⟨g,p*7,O⟩) HG.out).trans c0
  have d1:=(hb1.cell (p:=⟨g,p*7+1,O⟩) HG.out).trans c1
  have d2:=(hb1.cell (p:=⟨g,p*7+2,O⟩) HG.out).trans c2
  have d3:=(hb1.cell (p:=⟨g,p*7+3,O⟩) HG.out).trans c3
  have d4:=(hb1.cell (p:=⟨g,p*7+4,O⟩) HG.out).trans c4
  have d5:=(hb1.cell (p:=⟨g,p*7+5,O⟩) HG.out).trans c5
  have d6:=(hb1.cell (p:=⟨g,p*7+6,O⟩) HG.out).trans c6
  have aL:=Y0 hb1
  clear hb1
  go_wp2_with fail
  have hB2:=VX aL.out (.cells #[E Z xo,E Z k,E Z xb,E Z xc,E J xv,E Z xm,E Z xw] 111)
  have hz:=heap_alloc_new w1 (.cells #[E Z xo,E Z k,E Z xb,E Z xc,E J xv,E Z xm,E Z xw] 111)
  have Dz:w1.heap.size≠b:=by
   have:=wD.out
   have:=aL.out.size
   omega
  generalize w1.alloc (Ce #[E Z xo,E Z k,E Z xb,E Z xc,E J xv,E Z xm,E Z xw] 111)=w2 at hB2 hz ⊢
  generalize w1.heap.size=bx at hz Dz ⊢
  have aF: ∀W,Below w2.heap.size w2 W→Below w2.heap.size w2 W∧W.cell? ⟨b,o+1+k,O⟩=V (E J ra)∧W.frozen? ⟨b,o+1+k,O⟩=false∧Zf W bx ⟨xo,k,xb,xc,xv,xm,xw⟩:=fun W hW=>⟨hW,(mV.out W (VK hB2 hW)).1,(mV.out W (VK hB2 hW)).2.1,Zf.of ((hW.block _ (zo hz)).trans hz)⟩
  have Ij:Hid (∀W,Below w2.heap.size w2 W→Calls Tp 238 #[Y (V ⟨b,o,O⟩),E Z xb] W fun e w'=>e=Rt (E J rb)∧W=w'):=Y0 fun W hW=>lK.out W (VK hB2 hW)
  have xq:Hid (∀W,Below w2.heap.size w2 W→Calls Tp 239 #[Y (V ⟨b,o,O⟩), .agg #[E Z xo,E Z k,E Z xb,E Z xc,E J xv,E Z xm,E Z xw]] W fun e w'=>e=Rt (E J vc)∧Below w2.heap.size w2 w'∧w'.cell? ⟨b,o+1+k,O⟩=V (E J ra)∧w'.frozen? ⟨b,o+1+k,O⟩=false∧Zf w' bx ⟨xo,k,xb,xc,xv,xm,xw⟩):=Y0 fun W hW=>(Og.out W (VK hB2 hW)).mono fun e w' ⟨p,q⟩=>⟨p,aF _ (VK hW q)⟩
  have wW:Hid (∀W,Below w2.heap.size w2 W→Calls Tp 237 #[.agg #[E Z xo,E Z k,E Z xb,E Z xc,E J xv,E Z xm,E Z xw],E J rb,E J vc] W fun e w'=>e=Rt (E J rr)∧Below w2.heap.size w2 w'∧w'.cell? ⟨b,o+1+k,O⟩=V (E J ra)∧w'.frozen? ⟨b,o+1+k,O⟩=false∧Zf w' bx ⟨xo,k,xb,xc,xv,xm,xw⟩):=Y0 fun W hW=>(qF.out W).mono fun e w' ⟨p,q⟩=>⟨p,aF _ (VK hW q)⟩
  have aP:=Y0 hB2
  have b0:=Below.refl w2.heap.size w2
  obtain ⟨-,s0,s1,i0,i1,i2,i3,i4,i5,i6⟩:=aF w2 b0
  unfold Zf at xq wW
  simp only at i0 i1 i2 i3 i4 i5 i6 xq wW
  clear hB2 hz aF d0 d1 d2 d3 d4 d5 d6 CQ c0 c1 c2 c3 c4 c5 c6 cp
  have aJ:Hid (∀(W:World) (j:Nat) (v:Value),Zf W bx ⟨xo,k,xb,xc,xv,xm,xw⟩→Zf (W.setCell ⟨b,j,O⟩ v) bx ⟨xo,k,xb,xc,xv,xm,xw⟩):=Y0 fun W j v h=>h.far Dz
  unfold Zf at aJ
  simp only at aJ
  go_region_held3 (fun W=>W.cell? ⟨bx,0,O⟩=V (E Z xo)∧W.cell? ⟨bx,1,O⟩=V (E Z k)∧W.cell? ⟨bx,2,O⟩=V (E Z xb)∧W.cell? ⟨bx,3,O⟩=V (E Z xc)∧W.cell? ⟨bx,4,O⟩=V (E J xv)∧W.cell? ⟨bx,5,O⟩=V (E Z xm)∧W.cell? ⟨bx,6,O⟩=V (E Z xw)) (first|with_reducible assumption|with_reducible exact ⟨i0,i1,i2,i3,i4,i5,i6⟩ |exact ⟨i0,i1,i2,i3,i4,i5,i6⟩ |with_reducible exact ⟨y3,y4,y5,y6,y7,y8,y9⟩ |with_reducible exact ⟨z3,z4,z5,z6,z7,z8,z9⟩ |with_reducible exact aJ.out _ _ _ ⟨z3,z4,z5,z6,z7,z8,z9⟩)
   (first
   |(go_at_call 238;refine (Ij.out _ Y6).mono ?_;rintro e w3 ⟨rfl,rfl⟩)
   |(go_at_call 239;refine (xq.out _ Y6).mono ?_;rintro e w4 ⟨rfl,y0,y1,y2,y3,y4,y5,y6,y7,y8,y9⟩)
   |(go_at_call 237;refine (wW.out _ Y6).mono ?_;rintro e w5 ⟨rfl,z0,z1,z2,z3,z4,z5,z6,z7,z8,z9⟩))
  obtain ⟨g0,g1,g2,g3⟩:=mV.out w5 (VK aP.out z0)
  have QT:=Y0 (VK aP.out z0)
  clear z3 z4 z5 z6 z7 z8 z9
  go_wp2_with fail
  go_ret2
  exact ⟨rfl,aD.out w5 QT.out⟩):zP:=h
open a77 in
theorem zh2 (h:bB w own b o t P S tb tk n f bv) (hne:tb≠tk) {g c:Nat} {l:List zx} {lib:Bool} (hc:vK w g l) (hg:g<w.heap.size) (hl:l.length≤2048) (hmay: ∀x∈l,vI x l.length lib=true) (hlv: ∀x∈l,Zm x.v) (hn:n≤100000) {mt:TypeId} {mv:Value} {x:zx} (hx:Zc l f.pc=some x) (ho:1≤x.op∧x.op≤11) (m:Mem):
  Calls Tp 180 #[Y (V ⟨b,o,O⟩),Sl (V ⟨g,0,O⟩) l.length c, .iface mt mv] w fun e w'=>e=Rt (.tuple #[E Z (zK f l m).how, .nilIface])∧Zd w own b o t P S tb tk (n+1) (zK f l m).f w':=by
 rw[Bu ((Kg hmay f.pc).trans hx)];rw[if_neg Y1,if_neg Y1,zmx ho];exact J5
end
end Kn
end Go.Proofs.YtdlpmnmenhojfaaGreatDoor
