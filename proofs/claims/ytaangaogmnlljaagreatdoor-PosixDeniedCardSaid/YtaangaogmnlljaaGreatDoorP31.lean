/- Part 31 of what the proof stands on: KnStepB. -/
import Derived.Test.YtaangaogmnlljaaGreatDoorP29
set_option linter.unusedVariables false
namespace Go.Proofs.YtaangaogmnlljaaGreatDoor.Kn
open Go.RowKit Asm
section
variable {w:World} {own:Own} {b o:Nat} {t:TypeId} {P S:List Value} {tb tk:Tag} {n:Nat} {f:Frame} {bv:Value}
theorem InsBox.far {W:World} {bx b j:Nat} {x:InsL} {v:Value} (h:InsBox W bx x) (hne:bx≠b):InsBox (W.setCell ⟨b,j,none⟩ v) bx x:=by
 have q: ∀i u,W.cell? ⟨bx,i,none⟩=some u→(W.setCell ⟨b,j,none⟩ v).cell? ⟨bx,i,none⟩=some u:=fun i u hu=>(World.cell?_of_block (a:=⟨bx,i,none⟩) (set_other (p:=⟨b,j,none⟩) hne)).trans hu
 obtain ⟨h0,h1,h2,h3,h4,h5,h6⟩:=h
 exact ⟨q _ _ h0,q _ _ h1,q _ _ h2,q _ _ h3,q _ _ h4,q _ _ h5,q _ _ h6⟩
theorem step_reck {m:Mem} {f:Frame} {x:InsL} (ho:1≤x.op∧x.op≤11):(if x.op=1 then (⟨0,{ setR f x.a x.v with pc:=f.pc+1},m⟩:Stepped)
  else if x.op=2 then ⟨0,{ setR f x.a (rg f x.b) with pc:=f.pc+1},m⟩
  else if 3≤x.op∧x.op≤11 then ⟨0,{ setR f x.a (reckon x.op (rg f x.b) (valC f x)) with pc:=f.pc+1},m⟩
  else ⟨1,f,m⟩)=⟨0,{ setR f x.a (reckV x (rg f x.b) (valC f x)) with pc:=f.pc+1},m⟩:=by
 unfold reckV
 by_cases h1:x.op=1
 ·rw[if_pos h1,if_pos h1]
 ·rw[if_neg h1,if_neg h1]
  by_cases h2:x.op=2
  ·rw[if_pos h2,if_pos h2]
  ·rw[if_neg h2,if_neg h2,if_pos (by omega)]
theorem val_range {f:Frame} (hr: ∀y∈f.r,U64 y) {x:InsL} (hv:U64 x.v):U64 (valC f x):=by
 unfold valC
 split
 ·exact hv
 ·exact rg_range hr _
set_option maxRecDepth 100000 in
set_option maxHeartbeats 8000000 in
theorem vstep_reck (h:FrM w own b o t P S tb tk n f bv) (hne:tb≠tk) {g c:Nat} {l:List InsL} {lib:Bool} (hc:CodeAt w g l) (hg:g<w.heap.size) (hl:l.length≤2048) (hmay: ∀x∈l,mayK x l.length lib=true) (hlv: ∀x∈l,U64 x.v) (hn:n≤100000) {mt:TypeId} {mv:Value} {x:InsL} (hx:insAt l f.pc=some x) (ho:1≤x.op∧x.op≤11) (m:Mem):
  Calls Tryz.prog 198 #[.pointer (some ⟨b,o,none⟩), .slice (some ⟨g,0,none⟩) l.length c, .iface mt mv] w fun e w'=>e= .returned (.tuple #[.int .i64 (stepL f l m).how, .nilIface])∧FrOut w own b o t P S tb tk (n+1) (stepL f l m).f w':=by
 rw[step_of ((runs_ins hmay f.pc).trans hx)]
 rw[if_neg (by omega),if_neg (by omega),step_reck ho]
 obtain ⟨p,hp⟩:=Int.eq_ofNat_of_zero_le h.ok.pc.1
 have hpl:p<l.length:=by
  unfold insAt at hx
  rw[if_neg (by omega)] at hx
  have:=(List.getElem?_eq_some_iff.1 hx).1
  omega
 have hxl:l[p]=x:=by
  unfold insAt at hx
  rw[if_neg (by omega),hp] at hx
  exact Option.some.inj ((List.getElem?_eq_getElem hpl).symm.trans hx)
 have hxm:x∈l:=by rw[←hxl];exact List.getElem_mem hpl
 have hmx:=hmay x hxm
 have hvx:=hlv x hxm
 have hpI:(0:Int)≤(p:Int)∧(p:Int)<(l.length:Int):=by omega
 have hlI:(1:Int)≤(l.length:Int)∧(l.length:Int)≤2048:=by omega
 obtain ⟨cp,-,-,-⟩:=h.cells
 rw[hp] at cp
 have hpc1:f.pc+1=(p:Int)+1:=by rw[hp]
 have hpw:IntKind.i64.wrap ((p:Int)+1)=(p:Int)+1:=by rw[IntKind.wrap_i64];omega
 have HMay:Hid (∀W,Calls Tryz.prog 248 #[.agg (insV x), .int .i64 l.length] W fun e w'=>e= .returned (.bool true)∧Below W.heap.size W w'):=Lib.hid fun W=>vmay_any x l.length lib W (by omega) hvx.1 hmx
 have HCode:Hid (∀W,Below w.heap.size w W→CodeAt W g l):=Lib.hid fun W hW=>hc.below hg hW
 have HCp:Hid (∀W,Below w.heap.size w W→W.cell? ⟨b,o,none⟩=some (.int .i64 p)):=Lib.hid fun W hW=>(hW.cell (p:=⟨b,o,none⟩) h.lens.lt).trans cp
 obtain ⟨c0,c1,c2,c3,c4,c5,c6⟩:w.cell? ⟨g,p*7,none⟩=some (.int .i64 x.op)∧w.cell? ⟨g,p*7+1,none⟩=some (.int .i64 x.a)∧w.cell? ⟨g,p*7+2,none⟩=some (.int .i64 x.b)∧w.cell? ⟨g,p*7+3,none⟩=some (.int .i64 x.c)∧w.cell? ⟨g,p*7+4,none⟩=some (.int .u64 x.v)∧w.cell? ⟨g,p*7+5,none⟩=some (.int .i64 x.m)∧w.cell? ⟨g,p*7+6,none⟩=some (.int .i64 x.w):=hc.cells hpl hxl
 have HG:=Lib.hid hg
 have HBl:=Lib.hid h.lens.lt
 obtain ⟨ha,-,hcr,hbr,-⟩:=may_regs hmx
 obtain ⟨k,hk⟩:=Int.eq_ofNat_of_zero_le ha.1
 have hk2:k<32:=by omega
 have hkI:(0:Int)≤(k:Int)∧(k:Int)<32:=by omega
 have hbr2:=hbr (by
  have e:x.op=1∨x.op=2∨x.op=3∨x.op=4∨x.op=5∨x.op=6∨x.op=7∨x.op=8∨x.op=9∨x.op=10∨x.op=11:=by omega
  unfold lessBK
  rcases e with e|e|e|e|e|e|e|e|e|e|e<;>(rw[e];rfl))
 have HFr:Hid (∀W,Below w.heap.size w W→W.cell? ⟨b,o+1+k,none⟩=some (.int .u64 (f.r.getD k 0))∧W.frozen? ⟨b,o+1+k,none⟩=false∧W.frozen? ⟨b,o,none⟩=false∧W.cell? ⟨b,o,none⟩=some (.int .i64 p)):=Lib.hid fun W hW=>by
  have q:=(h.below hW).cells
  exact ⟨q.2.2.1 k hk2,q.2.2.2 _,q.2.2.2 _,by rw[q.1,hp]⟩
 have HRd:Hid (∀W,Below w.heap.size w W→Calls Tryz.prog 253 #[.pointer (some ⟨b,o,none⟩), .int .i64 x.b] W fun e w'=>e= .returned (.int .u64 (rg f x.b))∧W=w'):=Lib.hid fun W hW=>vread_any (h.below hW).lens h.ok.len x.b hbr2.1 hbr2.2
 have HVl:Hid (∀W,Below w.heap.size w W→Calls Tryz.prog 254 #[.pointer (some ⟨b,o,none⟩), .agg (insV x)] W fun e w'=>e= .returned (.int .u64 (valC f x))∧Below W.heap.size W w'):=Lib.hid fun W hW=>vvalue_any (h.below hW).lens h.ok.len x hcr
 have HRk:Hid (∀W,Calls Tryz.prog 252 #[.agg (insV x), .int .u64 (rg f x.b), .int .u64 (valC f x)] W fun e w'=>e= .returned (.int .u64 (reckV x (rg f x.b) (valC f x)))∧Below W.heap.size W w'):=Lib.hid fun W=>vreck_any x _ _ W (rg_range h.ok.r _) (val_range h.ok.r hvx) ho
 have hrr:U64 (reckV x (rg f x.b) (valC f x)):=reckV_range x _ _ (rg_range h.ok.r _) (val_range h.ok.r hvx) hvx ho
 have HFin:Hid (∀W,Below w.heap.size w W→FrOut w own b o t P S tb tk (n+1) { setR f x.a (reckV x (rg f x.b) (valC f x)) with pc:=f.pc+1} ((W.setCell ⟨b,o+1+k,none⟩ (.int .u64 (reckV x (rg f x.b) (valC f x)))).setCell ⟨b,o,none⟩ (.int .i64 ((p:Int)+1)))):=Lib.hid fun W hW=>by
  have q:=(((FrOut.refl h (Nat.le_succ n)).below hW).reg hne hk2 hrr).pc hne (p:=(p:Int)+1) (by have:=h.ok.pc;omega)
  rw[hk,hpc1]
  exact q
 generalize reckV x (rg f x.b) (valC f x)=rr at*
 generalize rg f x.b=rb at*
 generalize valC f x=vc at*
 generalize hra:f.r.getD k 0=ra at*
 obtain ⟨xo,xa,xb,xc,xv,xm,xw⟩:=x
 simp only at ho c0 c1 c2 c3 c4 c5 c6 hk HRd
 unfold insV at HMay HVl HRk
 subst hk
 clear h hc hg hmay hlv hn hx hmx hvx ha hpc1 hxl hxm hpl hbr hbr2 hcr hrr hra
 generalize l.length=L at*
 clear hl
 have hoo:xo=1∨xo=2∨xo=3∨xo=4∨xo=5∨xo=6∨xo=7∨xo=8∨xo=9∨xo=10∨xo=11:=by omega
 clear ho
 rcases hoo with rfl|rfl|rfl|rfl|rfl|rfl|rfl|rfl|rfl|rfl|rfl
 ·go_enter Tryz.func198,Tryz.ntmps198
  go_wp2_with fail
  refine (HMay.out _).mono ?_
  rintro e w1 ⟨rfl,hb1⟩
  replace hb1:Below w.heap.size w w1:=by first|exact hb1|exact (below_dn (Below.refl _ _) _).trans hb1
  have cp1:=HCp.out w1 hb1
  have d0:=(hb1.cell (p:=⟨g,p*7,none⟩) HG.out).trans c0
  have d1:=(hb1.cell (p:=⟨g,p*7+1,none⟩) HG.out).trans c1
  have d2:=(hb1.cell (p:=⟨g,p*7+2,none⟩) HG.out).trans c2
  have d3:=(hb1.cell (p:=⟨g,p*7+3,none⟩) HG.out).trans c3
  have d4:=(hb1.cell (p:=⟨g,p*7+4,none⟩) HG.out).trans c4
  have d5:=(hb1.cell (p:=⟨g,p*7+5,none⟩) HG.out).trans c5
  have d6:=(hb1.cell (p:=⟨g,p*7+6,none⟩) HG.out).trans c6
  have HB1:=Lib.hid hb1
  clear hb1
  go_wp2_with fail
  have hB2:=below_al HB1.out (.cells #[.int .i64 1, .int .i64 k, .int .i64 xb, .int .i64 xc, .int .u64 xv, .int .i64 xm, .int .i64 xw] 68)
  have hz:=heap_alloc_new w1 (.cells #[.int .i64 1, .int .i64 k, .int .i64 xb, .int .i64 xc, .int .u64 xv, .int .i64 xm, .int .i64 xw] 68)
  have hbxb:w1.heap.size≠b:=by
   have:=HBl.out
   have:=HB1.out.size
   omega
  generalize w1.alloc (.cells #[.int .i64 1, .int .i64 k, .int .i64 xb, .int .i64 xc, .int .u64 xv, .int .i64 xm, .int .i64 xw] 68)=w2 at hB2 hz ⊢
  generalize w1.heap.size=bx at hz hbxb ⊢
  have hAll: ∀W,Below w2.heap.size w2 W→Below w2.heap.size w2 W∧W.cell? ⟨b,o+1+k,none⟩=some (.int .u64 ra)∧W.frozen? ⟨b,o+1+k,none⟩=false∧InsBox W bx ⟨1,k,xb,xc,xv,xm,xw⟩:=fun W hW=>⟨hW,(HFr.out W (below_two hB2 hW)).1,(HFr.out W (below_two hB2 hW)).2.1,InsBox.of ((hW.block _ (blk_in hz)).trans hz)⟩
  have HRd2:Hid (∀W,Below w2.heap.size w2 W→Calls Tryz.prog 253 #[.pointer (some ⟨b,o,none⟩), .int .i64 xb] W fun e w'=>e= .returned (.int .u64 rb)∧W=w'):=Lib.hid fun W hW=>HRd.out W (below_two hB2 hW)
  have HVl2:Hid (∀W,Below w2.heap.size w2 W→Calls Tryz.prog 254 #[.pointer (some ⟨b,o,none⟩), .agg #[.int .i64 1, .int .i64 k, .int .i64 xb, .int .i64 xc, .int .u64 xv, .int .i64 xm, .int .i64 xw]] W fun e w'=>e= .returned (.int .u64 vc)∧Below w2.heap.size w2 w'∧w'.cell? ⟨b,o+1+k,none⟩=some (.int .u64 ra)∧w'.frozen? ⟨b,o+1+k,none⟩=false∧InsBox w' bx ⟨1,k,xb,xc,xv,xm,xw⟩):=Lib.hid fun W hW=>(HVl.out W (below_two hB2 hW)).mono fun e w' ⟨p,q⟩=>⟨p,hAll _ (below_two hW q)⟩
  have HRk2:Hid (∀W,Below w2.heap.size w2 W→Calls Tryz.prog 252 #[.agg #[.int .i64 1, .int .i64 k, .int .i64 xb, .int .i64 xc, .int .u64 xv, .int .i64 xm, .int .i64 xw], .int .u64 rb, .int .u64 vc] W fun e w'=>e= .returned (.int .u64 rr)∧Below w2.heap.size w2 w'∧w'.cell? ⟨b,o+1+k,none⟩=some (.int .u64 ra)∧w'.frozen? ⟨b,o+1+k,none⟩=false∧InsBox w' bx ⟨1,k,xb,xc,xv,xm,xw⟩):=Lib.hid fun W hW=>(HRk.out W).mono fun e w' ⟨p,q⟩=>⟨p,hAll _ (below_two hW q)⟩
  have HB2:=Lib.hid hB2
  have b0:=Below.refl w2.heap.size w2
  obtain ⟨-,s0,s1,i0,i1,i2,i3,i4,i5,i6⟩:=hAll w2 b0
  unfold InsBox at HVl2 HRk2
  simp only at i0 i1 i2 i3 i4 i5 i6 HVl2 HRk2
  clear hB2 hz hAll d0 d1 d2 d3 d4 d5 d6 cp1 c0 c1 c2 c3 c4 c5 c6 cp
  have HFar:Hid (∀(W:World) (j:Nat) (v:Value),InsBox W bx ⟨1,k,xb,xc,xv,xm,xw⟩→InsBox (W.setCell ⟨b,j,none⟩ v) bx ⟨1,k,xb,xc,xv,xm,xw⟩):=Lib.hid fun W j v h=>h.far hbxb
  unfold InsBox at HFar
  simp only at HFar
  go_region_held3 (fun W=>W.cell? ⟨bx,0,none⟩=some (.int .i64 1)∧W.cell? ⟨bx,1,none⟩=some (.int .i64 k)∧W.cell? ⟨bx,2,none⟩=some (.int .i64 xb)∧W.cell? ⟨bx,3,none⟩=some (.int .i64 xc)∧W.cell? ⟨bx,4,none⟩=some (.int .u64 xv)∧W.cell? ⟨bx,5,none⟩=some (.int .i64 xm)∧W.cell? ⟨bx,6,none⟩=some (.int .i64 xw)) (first|with_reducible assumption|with_reducible exact ⟨i0,i1,i2,i3,i4,i5,i6⟩ |exact ⟨i0,i1,i2,i3,i4,i5,i6⟩ |with_reducible exact ⟨y3,y4,y5,y6,y7,y8,y9⟩ |with_reducible exact ⟨z3,z4,z5,z6,z7,z8,z9⟩ |with_reducible exact HFar.out _ _ _ ⟨z3,z4,z5,z6,z7,z8,z9⟩)
   (first
   |(go_at_call 253;refine (HRd2.out _ (by repeat first|with_reducible assumption|with_reducible exact b0|with_reducible refine Below.drew ?_)).mono ?_;rintro e w3 ⟨rfl,rfl⟩)
   |(go_at_call 254;refine (HVl2.out _ (by repeat first|with_reducible assumption|with_reducible exact b0|with_reducible refine Below.drew ?_)).mono ?_;rintro e w4 ⟨rfl,y0,y1,y2,y3,y4,y5,y6,y7,y8,y9⟩)
   |(go_at_call 252;refine (HRk2.out _ (by repeat first|with_reducible assumption|with_reducible exact b0|with_reducible refine Below.drew ?_)).mono ?_;rintro e w5 ⟨rfl,z0,z1,z2,z3,z4,z5,z6,z7,z8,z9⟩))
  obtain ⟨g0,g1,g2,g3⟩:=HFr.out w5 (below_two HB2.out z0)
  have HW5:=Lib.hid (below_two HB2.out z0)
  clear z3 z4 z5 z6 z7 z8 z9
  go_wp2_with fail
  go_ret2
  exact ⟨rfl,HFin.out w5 HW5.out⟩
 ·go_enter Tryz.func198,Tryz.ntmps198
  go_wp2_with fail
  refine (HMay.out _).mono ?_
  rintro e w1 ⟨rfl,hb1⟩
  replace hb1:Below w.heap.size w w1:=by first|exact hb1|exact (below_dn (Below.refl _ _) _).trans hb1
  have cp1:=HCp.out w1 hb1
  have d0:=(hb1.cell (p:=⟨g,p*7,none⟩) HG.out).trans c0
  have d1:=(hb1.cell (p:=⟨g,p*7+1,none⟩) HG.out).trans c1
  have d2:=(hb1.cell (p:=⟨g,p*7+2,none⟩) HG.out).trans c2
  have d3:=(hb1.cell (p:=⟨g,p*7+3,none⟩) HG.out).trans c3
  have d4:=(hb1.cell (p:=⟨g,p*7+4,none⟩) HG.out).trans c4
  have d5:=(hb1.cell (p:=⟨g,p*7+5,none⟩) HG.out).trans c5
  have d6:=(hb1.cell (p:=⟨g,p*7+6,none⟩) HG.out).trans c6
  have HB1:=Lib.hid hb1
  clear hb1
  go_wp2_with fail
  have hB2:=below_al HB1.out (.cells #[.int .i64 2, .int .i64 k, .int .i64 xb, .int .i64 xc, .int .u64 xv, .int .i64 xm, .int .i64 xw] 68)
  have hz:=heap_alloc_new w1 (.cells #[.int .i64 2, .int .i64 k, .int .i64 xb, .int .i64 xc, .int .u64 xv, .int .i64 xm, .int .i64 xw] 68)
  have hbxb:w1.heap.size≠b:=by
   have:=HBl.out
   have:=HB1.out.size
   omega
  generalize w1.alloc (.cells #[.int .i64 2, .int .i64 k, .int .i64 xb, .int .i64 xc, .int .u64 xv, .int .i64 xm, .int .i64 xw] 68)=w2 at hB2 hz ⊢
  generalize w1.heap.size=bx at hz hbxb ⊢
  have hAll: ∀W,Below w2.heap.size w2 W→Below w2.heap.size w2 W∧W.cell? ⟨b,o+1+k,none⟩=some (.int .u64 ra)∧W.frozen? ⟨b,o+1+k,none⟩=false∧InsBox W bx ⟨2,k,xb,xc,xv,xm,xw⟩:=fun W hW=>⟨hW,(HFr.out W (below_two hB2 hW)).1,(HFr.out W (below_two hB2 hW)).2.1,InsBox.of ((hW.block _ (blk_in hz)).trans hz)⟩
  have HRd2:Hid (∀W,Below w2.heap.size w2 W→Calls Tryz.prog 253 #[.pointer (some ⟨b,o,none⟩), .int .i64 xb] W fun e w'=>e= .returned (.int .u64 rb)∧W=w'):=Lib.hid fun W hW=>HRd.out W (below_two hB2 hW)
  have HVl2:Hid (∀W,Below w2.heap.size w2 W→Calls Tryz.prog 254 #[.pointer (some ⟨b,o,none⟩), .agg #[.int .i64 2, .int .i64 k, .int .i64 xb, .int .i64 xc, .int .u64 xv, .int .i64 xm, .int .i64 xw]] W fun e w'=>e= .returned (.int .u64 vc)∧Below w2.heap.size w2 w'∧w'.cell? ⟨b,o+1+k,none⟩=some (.int .u64 ra)∧w'.frozen? ⟨b,o+1+k,none⟩=false∧InsBox w' bx ⟨2,k,xb,xc,xv,xm,xw⟩):=Lib.hid fun W hW=>(HVl.out W (below_two hB2 hW)).mono fun e w' ⟨p,q⟩=>⟨p,hAll _ (below_two hW q)⟩
  have HRk2:Hid (∀W,Below w2.heap.size w2 W→Calls Tryz.prog 252 #[.agg #[.int .i64 2, .int .i64 k, .int .i64 xb, .int .i64 xc, .int .u64 xv, .int .i64 xm, .int .i64 xw], .int .u64 rb, .int .u64 vc] W fun e w'=>e= .returned (.int .u64 rr)∧Below w2.heap.size w2 w'∧w'.cell? ⟨b,o+1+k,none⟩=some (.int .u64 ra)∧w'.frozen? ⟨b,o+1+k,none⟩=false∧InsBox w' bx ⟨2,k,xb,xc,xv,xm,xw⟩):=Lib.hid fun W hW=>(HRk.out W).mono fun e w' ⟨p,q⟩=>⟨p,hAll _ (below_two hW q)⟩
  have HB2:=Lib.hid hB2
  have b0:=Below.refl w2.heap.size w2
  obtain ⟨-,s0,s1,i0,i1,i2,i3,i4,i5,i6⟩:=hAll w2 b0
  unfold InsBox at HVl2 HRk2
  simp only at i0 i1 i2 i3 i4 i5 i6 HVl2 HRk2
  clear hB2 hz hAll d0 d1 d2 d3 d4 d5 d6 cp1 c0 c1 c2 c3 c4 c5 c6 cp
  have HFar:Hid (∀(W:World) (j:Nat) (v:Value),InsBox W bx ⟨2,k,xb,xc,xv,xm,xw⟩→InsBox (W.setCell ⟨b,j,none⟩ v) bx ⟨2,k,xb,xc,xv,xm,xw⟩):=Lib.hid fun W j v h=>h.far hbxb
  unfold InsBox at HFar
  simp only at HFar
  go_region_held3 (fun W=>W.cell? ⟨bx,0,none⟩=some (.int .i64 2)∧W.cell? ⟨bx,1,none⟩=some (.int .i64 k)∧W.cell? ⟨bx,2,none⟩=some (.int .i64 xb)∧W.cell? ⟨bx,3,none⟩=some (.int .i64 xc)∧W.cell? ⟨bx,4,none⟩=some (.int .u64 xv)∧W.cell? ⟨bx,5,none⟩=some (.int .i64 xm)∧W.cell? ⟨bx,6,none⟩=some (.int .i64 xw)) (first|with_reducible assumption|with_reducible exact ⟨i0,i1,i2,i3,i4,i5,i6⟩ |exact ⟨i0,i1,i2,i3,i4,i5,i6⟩ |with_reducible exact ⟨y3,y4,y5,y6,y7,y8,y9⟩ |with_reducible exact ⟨z3,z4,z5,z6,z7,z8,z9⟩ |with_reducible exact HFar.out _ _ _ ⟨z3,z4,z5,z6,z7,z8,z9⟩)
   (first
   |(go_at_call 253;refine (HRd2.out _ (by repeat first|with_reducible assumption|with_reducible exact b0|with_reducible refine Below.drew ?_)).mono ?_;rintro e w3 ⟨rfl,rfl⟩)
   |(go_at_call 254;refine (HVl2.out _ (by repeat first|with_reducible assumption|with_reducible exact b0|with_reducible refine Below.drew ?_)).mono ?_;rintro e w4 ⟨rfl,y0,y1,y2,y3,y4,y5,y6,y7,y8,y9⟩)
   |(go_at_call 252;refine (HRk2.out _ (by repeat first|with_reducible assumption|with_reducible exact b0|with_reducible refine Below.drew ?_)).mono ?_;rintro e w5 ⟨rfl,z0,z1,z2,z3,z4,z5,z6,z7,z8,z9⟩))
  obtain ⟨g0,g1,g2,g3⟩:=HFr.out w5 (below_two HB2.out z0)
  have HW5:=Lib.hid (below_two HB2.out z0)
  clear z3 z4 z5 z6 z7 z8 z9
  go_wp2_with fail
  go_ret2
  exact ⟨rfl,HFin.out w5 HW5.out⟩
 ·go_enter Tryz.func198,Tryz.ntmps198
  go_wp2_with fail
  refine (HMay.out _).mono ?_
  rintro e w1 ⟨rfl,hb1⟩
  replace hb1:Below w.heap.size w w1:=by first|exact hb1|exact (below_dn (Below.refl _ _) _).trans hb1
  have cp1:=HCp.out w1 hb1
  have d0:=(hb1.cell (p:=⟨g,p*7,none⟩) HG.out).trans c0
  have d1:=(hb1.cell (p:=⟨g,p*7+1,none⟩) HG.out).trans c1
  have d2:=(hb1.cell (p:=⟨g,p*7+2,none⟩) HG.out).trans c2
  have d3:=(hb1.cell (p:=⟨g,p*7+3,none⟩) HG.out).trans c3
  have d4:=(hb1.cell (p:=⟨g,p*7+4,none⟩) HG.out).trans c4
  have d5:=(hb1.cell (p:=⟨g,p*7+5,none⟩) HG.out).trans c5
  have d6:=(hb1.cell (p:=⟨g,p*7+6,none⟩) HG.out).trans c6
  have HB1:=Lib.hid hb1
  clear hb1
  go_wp2_with fail
  have hB2:=below_al HB1.out (.cells #[.int .i64 3, .int .i64 k, .int .i64 xb, .int .i64 xc, .int .u64 xv, .int .i64 xm, .int .i64 xw] 68)
  have hz:=heap_alloc_new w1 (.cells #[.int .i64 3, .int .i64 k, .int .i64 xb, .int .i64 xc, .int .u64 xv, .int .i64 xm, .int .i64 xw] 68)
  have hbxb:w1.heap.size≠b:=by
   have:=HBl.out
   have:=HB1.out.size
   omega
  generalize w1.alloc (.cells #[.int .i64 3, .int .i64 k, .int .i64 xb, .int .i64 xc, .int .u64 xv, .int .i64 xm, .int .i64 xw] 68)=w2 at hB2 hz ⊢
  generalize w1.heap.size=bx at hz hbxb ⊢
  have hAll: ∀W,Below w2.heap.size w2 W→Below w2.heap.size w2 W∧W.cell? ⟨b,o+1+k,none⟩=some (.int .u64 ra)∧W.frozen? ⟨b,o+1+k,none⟩=false∧InsBox W bx ⟨3,k,xb,xc,xv,xm,xw⟩:=fun W hW=>⟨hW,(HFr.out W (below_two hB2 hW)).1,(HFr.out W (below_two hB2 hW)).2.1,InsBox.of ((hW.block _ (blk_in hz)).trans hz)⟩
  have HRd2:Hid (∀W,Below w2.heap.size w2 W→Calls Tryz.prog 253 #[.pointer (some ⟨b,o,none⟩), .int .i64 xb] W fun e w'=>e= .returned (.int .u64 rb)∧W=w'):=Lib.hid fun W hW=>HRd.out W (below_two hB2 hW)
  have HVl2:Hid (∀W,Below w2.heap.size w2 W→Calls Tryz.prog 254 #[.pointer (some ⟨b,o,none⟩), .agg #[.int .i64 3, .int .i64 k, .int .i64 xb, .int .i64 xc, .int .u64 xv, .int .i64 xm, .int .i64 xw]] W fun e w'=>e= .returned (.int .u64 vc)∧Below w2.heap.size w2 w'∧w'.cell? ⟨b,o+1+k,none⟩=some (.int .u64 ra)∧w'.frozen? ⟨b,o+1+k,none⟩=false∧InsBox w' bx ⟨3,k,xb,xc,xv,xm,xw⟩):=Lib.hid fun W hW=>(HVl.out W (below_two hB2 hW)).mono fun e w' ⟨p,q⟩=>⟨p,hAll _ (below_two hW q)⟩
  have HRk2:Hid (∀W,Below w2.heap.size w2 W→Calls Tryz.prog 252 #[.agg #[.int .i64 3, .int .i64 k, .int .i64 xb, .int .i64 xc, .int .u64 xv, .int .i64 xm, .int .i64 xw], .int .u64 rb, .int .u64 vc] W fun e w'=>e= .returned (.int .u64 rr)∧Below w2.heap.size w2 w'∧w'.cell? ⟨b,o+1+k,none⟩=some (.int .u64 ra)∧w'.frozen? ⟨b,o+1+k,none⟩=false∧InsBox w' bx ⟨3,k,xb,xc,xv,xm,xw⟩):=Lib.hid fun W hW=>(HRk.out W).mono fun e w' ⟨p,q⟩=>⟨p,hAll _ (below_two hW q)⟩
  have HB2:=Lib.hid hB2
  have b0:=Below.refl w2.heap.size w2
  obtain ⟨-,s0,s1,i0,i1,i2,i3,i4,i5,i6⟩:=hAll w2 b0
  unfold InsBox at HVl2 HRk2
  simp only at i0 i1 i2 i3 i4 i5 i6 HVl2 HRk2
  clear hB2 hz hAll d0 d1 d2 d3 d4 d5 d6 cp1 c0 c1 c2 c3 c4 c5 c6 cp
  have HFar:Hid (∀(W:World) (j:Nat) (v:Value),InsBox W bx ⟨3,k,xb,xc,xv,xm,xw⟩→InsBox (W.setCell ⟨b,j,none⟩ v) bx ⟨3,k,xb,xc,xv,xm,xw⟩):=Lib.hid fun W j v h=>h.far hbxb
  unfold InsBox at HFar
  simp only at HFar
  go_region_held3 (fun W=>W.cell? ⟨bx,0,none⟩=some (.int .i64 3)∧W.cell? ⟨bx,1,none⟩=some (.int .i64 k)∧W.cell? ⟨bx,2,none⟩=some (.int .i64 xb)∧W.cell? ⟨bx,3,none⟩=some (.int .i64 xc)∧W.cell? ⟨bx,4,none⟩=some (.int .u64 xv)∧W.cell? ⟨bx,5,none⟩=some (.int .i64 xm)∧W.cell? ⟨bx,6,none⟩=some (.int .i64 xw)) (first|with_reducible assumption|with_reducible exact ⟨i0,i1,i2,i3,i4,i5,i6⟩ |exact ⟨i0,i1,i2,i3,i4,i5,i6⟩ |with_reducible exact ⟨y3,y4,y5,y6,y7,y8,y9⟩ |with_reducible exact ⟨z3,z4,z5,z6,z7,z8,z9⟩ |with_reducible exact HFar.out _ _ _ ⟨z3,z4,z5,z6,z7,z8,z9⟩)
   (first
   |(go_at_call 253;refine (HRd2.out _ (by repeat first|with_reducible assumption|with_reducible exact b0|with_reducible refine Below.drew ?_)).mono ?_;rintro e w3 ⟨rfl,rfl⟩)
   |(go_at_call 254;refine (HVl2.out _ (by repeat first|with_reducible assumption|with_reducible exact b0|with_reducible refine Below.drew ?_)).mono ?_;rintro e w4 ⟨rfl,y0,y1,y2,y3,y4,y5,y6,y7,y8,y9⟩)
   |(go_at_call 252;refine (HRk2.out _ (by repeat first|with_reducible assumption|with_reducible exact b0|with_reducible refine Below.drew ?_)).mono ?_;rintro e w5 ⟨rfl,z0,z1,z2,z3,z4,z5,z6,z7,z8,z9⟩))
  obtain ⟨g0,g1,g2,g3⟩:=HFr.out w5 (below_two HB2.out z0)
  have HW5:=Lib.hid (below_two HB2.out z0)
  clear z3 z4 z5 z6 z7 z8 z9
  go_wp2_with fail
  go_ret2
  exact ⟨rfl,HFin.out w5 HW5.out⟩
 ·go_enter Tryz.func198,Tryz.ntmps198
  go_wp2_with fail
  refine (HMay.out _).mono ?_
  rintro e w1 ⟨rfl,hb1⟩
  replace hb1:Below w.heap.size w w1:=by first|exact hb1|exact (below_dn (Below.refl _ _) _).trans hb1
  have cp1:=HCp.out w1 hb1
  have d0:=(hb1.cell (p:=⟨g,p*7,none⟩) HG.out).trans c0
  have d1:=(hb1.cell (p:=⟨g,p*7+1,none⟩) HG.out).trans c1
  have d2:=(hb1.cell (p:=⟨g,p*7+2,none⟩) HG.out).trans c2
  have d3:=(hb1.cell (p:=⟨g,p*7+3,none⟩) HG.out).trans c3
  have d4:=(hb1.cell (p:=⟨g,p*7+4,none⟩) HG.out).trans c4
  have d5:=(hb1.cell (p:=⟨g,p*7+5,none⟩) HG.out).trans c5
  have d6:=(hb1.cell (p:=⟨g,p*7+6,none⟩) HG.out).trans c6
  have HB1:=Lib.hid hb1
  clear hb1
  go_wp2_with fail
  have hB2:=below_al HB1.out (.cells #[.int .i64 4, .int .i64 k, .int .i64 xb, .int .i64 xc, .int .u64 xv, .int .i64 xm, .int .i64 xw] 68)
  have hz:=heap_alloc_new w1 (.cells #[.int .i64 4, .int .i64 k, .int .i64 xb, .int .i64 xc, .int .u64 xv, .int .i64 xm, .int .i64 xw] 68)
  have hbxb:w1.heap.size≠b:=by
   have:=HBl.out
   have:=HB1.out.size
   omega
  generalize w1.alloc (.cells #[.int .i64 4, .int .i64 k, .int .i64 xb, .int .i64 xc, .int .u64 xv, .int .i64 xm, .int .i64 xw] 68)=w2 at hB2 hz ⊢
  generalize w1.heap.size=bx at hz hbxb ⊢
  have hAll: ∀W,Below w2.heap.size w2 W→Below w2.heap.size w2 W∧W.cell? ⟨b,o+1+k,none⟩=some (.int .u64 ra)∧W.frozen? ⟨b,o+1+k,none⟩=false∧InsBox W bx ⟨4,k,xb,xc,xv,xm,xw⟩:=fun W hW=>⟨hW,(HFr.out W (below_two hB2 hW)).1,(HFr.out W (below_two hB2 hW)).2.1,InsBox.of ((hW.block _ (blk_in hz)).trans hz)⟩
  have HRd2:Hid (∀W,Below w2.heap.size w2 W→Calls Tryz.prog 253 #[.pointer (some ⟨b,o,none⟩), .int .i64 xb] W fun e w'=>e= .returned (.int .u64 rb)∧W=w'):=Lib.hid fun W hW=>HRd.out W (below_two hB2 hW)
  have HVl2:Hid (∀W,Below w2.heap.size w2 W→Calls Tryz.prog 254 #[.pointer (some ⟨b,o,none⟩), .agg #[.int .i64 4, .int .i64 k, .int .i64 xb, .int .i64 xc, .int .u64 xv, .int .i64 xm, .int .i64 xw]] W fun e w'=>e= .returned (.int .u64 vc)∧Below w2.heap.size w2 w'∧w'.cell? ⟨b,o+1+k,none⟩=some (.int .u64 ra)∧w'.frozen? ⟨b,o+1+k,none⟩=false∧InsBox w' bx ⟨4,k,xb,xc,xv,xm,xw⟩):=Lib.hid fun W hW=>(HVl.out W (below_two hB2 hW)).mono fun e w' ⟨p,q⟩=>⟨p,hAll _ (below_two hW q)⟩
  have HRk2:Hid (∀W,Below w2.heap.size w2 W→Calls Tryz.prog 252 #[.agg #[.int .i64 4, .int .i64 k, .int .i64 xb, .int .i64 xc, .int .u64 xv, .int .i64 xm, .int .i64 xw], .int .u64 rb, .int .u64 vc] W fun e w'=>e= .returned (.int .u64 rr)∧Below w2.heap.size w2 w'∧w'.cell? ⟨b,o+1+k,none⟩=some (.int .u64 ra)∧w'.frozen? ⟨b,o+1+k,none⟩=false∧InsBox w' bx ⟨4,k,xb,xc,xv,xm,xw⟩):=Lib.hid fun W hW=>(HRk.out W).mono fun e w' ⟨p,q⟩=>⟨p,hAll _ (below_two hW q)⟩
  have HB2:=Lib.hid hB2
  have b0:=Below.refl w2.heap.size w2
  obtain ⟨-,s0,s1,i0,i1,i2,i3,i4,i5,i6⟩:=hAll w2 b0
  unfold InsBox at HVl2 HRk2
  simp only at i0 i1 i2 i3 i4 i5 i6 HVl2 HRk2
  clear hB2 hz hAll d0 d1 d2 d3 d4 d5 d6 cp1 c0 c1 c2 c3 c4 c5 c6 cp
  have HFar:Hid (∀(W:World) (j:Nat) (v:Value),InsBox W bx ⟨4,k,xb,xc,xv,xm,xw⟩→InsBox (W.setCell ⟨b,j,none⟩ v) bx ⟨4,k,xb,xc,xv,xm,xw⟩):=Lib.hid fun W j v h=>h.far hbxb
  unfold InsBox at HFar
  simp only at HFar
  go_region_held3 (fun W=>W.cell? ⟨bx,0,none⟩=some (.int .i64 4)∧W.cell? ⟨bx,1,none⟩=some (.int .i64 k)∧W.cell? ⟨bx,2,none⟩=some (.int .i64 xb)∧W.cell? ⟨bx,3,none⟩=some (.int .i64 xc)∧W.cell? ⟨bx,4,none⟩=some (.int .u64 xv)∧W.cell? ⟨bx,5,none⟩=some (.int .i64 xm)∧W.cell? ⟨bx,6,none⟩=some (.int .i64 xw)) (first|with_reducible assumption|with_reducible exact ⟨i0,i1,i2,i3,i4,i5,i6⟩ |exact ⟨i0,i1,i2,i3,i4,i5,i6⟩ |with_reducible exact ⟨y3,y4,y5,y6,y7,y8,y9⟩ |with_reducible exact ⟨z3,z4,z5,z6,z7,z8,z9⟩ |with_reducible exact HFar.out _ _ _ ⟨z3,z4,z5,z6,z7,z8,z9⟩)
   (first
   |(go_at_call 253;refine (HRd2.out _ (by repeat first|with_reducible assumption|with_reducible exact b0|with_reducible refine Below.drew ?_)).mono ?_;rintro e w3 ⟨rfl,rfl⟩)
   |(go_at_call 254;refine (HVl2.out _ (by repeat first|with_reducible assumption|with_reducible exact b0|with_reducible refine Below.drew ?_)).mono ?_;rintro e w4 ⟨rfl,y0,y1,y2,y3,y4,y5,y6,y7,y8,y9⟩)
   |(go_at_call 252;refine (HRk2.out _ (by repeat first|with_reducible assumption|with_reducible exact b0|with_reducible refine Below.drew ?_)).mono ?_;rintro e w5 ⟨rfl,z0,z1,z2,z3,z4,z5,z6,z7,z8,z9⟩))
  obtain ⟨g0,g1,g2,g3⟩:=HFr.out w5 (below_two HB2.out z0)
  have HW5:=Lib.hid (below_two HB2.out z0)
  clear z3 z4 z5 z6 z7 z8 z9
  go_wp2_with fail
  go_ret2
  exact ⟨rfl,HFin.out w5 HW5.out⟩
 ·go_enter Tryz.func198,Tryz.ntmps198
  go_wp2_with fail
  refine (HMay.out _).mono ?_
  rintro e w1 ⟨rfl,hb1⟩
  replace hb1:Below w.heap.size w w1:=by first|exact hb1|exact (below_dn (Below.refl _ _) _).trans hb1
  have cp1:=HCp.out w1 hb1
  have d0:=(hb1.cell (p:=⟨g,p*7,none⟩) HG.out).trans c0
  have d1:=(hb1.cell (p:=⟨g,p*7+1,none⟩) HG.out).trans c1
  have d2:=(hb1.cell (p:=⟨g,p*7+2,none⟩) HG.out).trans c2
  have d3:=(hb1.cell (p:=⟨g,p*7+3,none⟩) HG.out).trans c3
  have d4:=(hb1.cell (p:=⟨g,p*7+4,none⟩) HG.out).trans c4
  have d5:=(hb1.cell (p:=⟨g,p*7+5,none⟩) HG.out).trans c5
  have d6:=(hb1.cell (p:=⟨g,p*7+6,none⟩) HG.out).trans c6
  have HB1:=Lib.hid hb1
  clear hb1
  go_wp2_with fail
  have hB2:=below_al HB1.out (.cells #[.int .i64 5, .int .i64 k, .int .i64 xb, .int .i64 xc, .int .u64 xv, .int .i64 xm, .int .i64 xw] 68)
  have hz:=heap_alloc_new w1 (.cells #[.int .i64 5, .int .i64 k, .int .i64 xb, .int .i64 xc, .int .u64 xv, .int .i64 xm, .int .i64 xw] 68)
  have hbxb:w1.heap.size≠b:=by
   have:=HBl.out
   have:=HB1.out.size
   omega
  generalize w1.alloc (.cells #[.int .i64 5, .int .i64 k, .int .i64 xb, .int .i64 xc, .int .u64 xv, .int .i64 xm, .int .i64 xw] 68)=w2 at hB2 hz ⊢
  generalize w1.heap.size=bx at hz hbxb ⊢
  have hAll: ∀W,Below w2.heap.size w2 W→Below w2.heap.size w2 W∧W.cell? ⟨b,o+1+k,none⟩=some (.int .u64 ra)∧W.frozen? ⟨b,o+1+k,none⟩=false∧InsBox W bx ⟨5,k,xb,xc,xv,xm,xw⟩:=fun W hW=>⟨hW,(HFr.out W (below_two hB2 hW)).1,(HFr.out W (below_two hB2 hW)).2.1,InsBox.of ((hW.block _ (blk_in hz)).trans hz)⟩
  have HRd2:Hid (∀W,Below w2.heap.size w2 W→Calls Tryz.prog 253 #[.pointer (some ⟨b,o,none⟩), .int .i64 xb] W fun e w'=>e= .returned (.int .u64 rb)∧W=w'):=Lib.hid fun W hW=>HRd.out W (below_two hB2 hW)
  have HVl2:Hid (∀W,Below w2.heap.size w2 W→Calls Tryz.prog 254 #[.pointer (some ⟨b,o,none⟩), .agg #[.int .i64 5, .int .i64 k, .int .i64 xb, .int .i64 xc, .int .u64 xv, .int .i64 xm, .int .i64 xw]] W fun e w'=>e= .returned (.int .u64 vc)∧Below w2.heap.size w2 w'∧w'.cell? ⟨b,o+1+k,none⟩=some (.int .u64 ra)∧w'.frozen? ⟨b,o+1+k,none⟩=false∧InsBox w' bx ⟨5,k,xb,xc,xv,xm,xw⟩):=Lib.hid fun W hW=>(HVl.out W (below_two hB2 hW)).mono fun e w' ⟨p,q⟩=>⟨p,hAll _ (below_two hW q)⟩
  have HRk2:Hid (∀W,Below w2.heap.size w2 W→Calls Tryz.prog 252 #[.agg #[.int .i64 5, .int .i64 k, .int .i64 xb, .int .i64 xc, .int .u64 xv, .int .i64 xm, .int .i64 xw], .int .u64 rb, .int .u64 vc] W fun e w'=>e= .returned (.int .u64 rr)∧Below w2.heap.size w2 w'∧w'.cell? ⟨b,o+1+k,none⟩=some (.int .u64 ra)∧w'.frozen? ⟨b,o+1+k,none⟩=false∧InsBox w' bx ⟨5,k,xb,xc,xv,xm,xw⟩):=Lib.hid fun W hW=>(HRk.out W).mono fun e w' ⟨p,q⟩=>⟨p,hAll _ (below_two hW q)⟩
  have HB2:=Lib.hid hB2
  have b0:=Below.refl w2.heap.size w2
  obtain ⟨-,s0,s1,i0,i1,i2,i3,i4,i5,i6⟩:=hAll w2 b0
  unfold InsBox at HVl2 HRk2
  simp only at i0 i1 i2 i3 i4 i5 i6 HVl2 HRk2
  clear hB2 hz hAll d0 d1 d2 d3 d4 d5 d6 cp1 c0 c1 c2 c3 c4 c5 c6 cp
  have HFar:Hid (∀(W:World) (j:Nat) (v:Value),InsBox W bx ⟨5,k,xb,xc,xv,xm,xw⟩→InsBox (W.setCell ⟨b,j,none⟩ v) bx ⟨5,k,xb,xc,xv,xm,xw⟩):=Lib.hid fun W j v h=>h.far hbxb
  unfold InsBox at HFar
  simp only at HFar
  go_region_held3 (fun W=>W.cell? ⟨bx,0,none⟩=some (.int .i64 5)∧W.cell? ⟨bx,1,none⟩=some (.int .i64 k)∧W.cell? ⟨bx,2,none⟩=some (.int .i64 xb)∧W.cell? ⟨bx,3,none⟩=some (.int .i64 xc)∧W.cell? ⟨bx,4,none⟩=some (.int .u64 xv)∧W.cell? ⟨bx,5,none⟩=some (.int .i64 xm)∧W.cell? ⟨bx,6,none⟩=some (.int .i64 xw)) (first|with_reducible assumption|with_reducible exact ⟨i0,i1,i2,i3,i4,i5,i6⟩ |exact ⟨i0,i1,i2,i3,i4,i5,i6⟩ |with_reducible exact ⟨y3,y4,y5,y6,y7,y8,y9⟩ |with_reducible exact ⟨z3,z4,z5,z6,z7,z8,z9⟩ |with_reducible exact HFar.out _ _ _ ⟨z3,z4,z5,z6,z7,z8,z9⟩)
   (first
   |(go_at_call 253;refine (HRd2.out _ (by repeat first|with_reducible assumption|with_reducible exact b0|with_reducible refine Below.drew ?_)).mono ?_;rintro e w3 ⟨rfl,rfl⟩)
   |(go_at_call 254;refine (HVl2.out _ (by repeat first|with_reducible assumption|with_reducible exact b0|with_reducible refine Below.drew ?_)).mono ?_;rintro e w4 ⟨rfl,y0,y1,y2,y3,y4,y5,y6,y7,y8,y9⟩)
   |(go_at_call 252;refine (HRk2.out _ (by repeat first|with_reducible assumption|with_reducible exact b0|with_reducible refine Below.drew ?_)).mono ?_;rintro e w5 ⟨rfl,z0,z1,z2,z3,z4,z5,z6,z7,z8,z9⟩))
  obtain ⟨g0,g1,g2,g3⟩:=HFr.out w5 (below_two HB2.out z0)
  have HW5:=Lib.hid (below_two HB2.out z0)
  clear z3 z4 z5 z6 z7 z8 z9
  go_wp2_with fail
  go_ret2
  exact ⟨rfl,HFin.out w5 HW5.out⟩
 ·go_enter Tryz.func198,Tryz.ntmps198
  go_wp2_with fail
  refine (HMay.out _).mono ?_
  rintro e w1 ⟨rfl,hb1⟩
  replace hb1:Below w.heap.size w w1:=by first|exact hb1|exact (below_dn (Below.refl _ _) _).trans hb1
  have cp1:=HCp.out w1 hb1
  have d0:=(hb1.cell (p:=⟨g,p*7,none⟩) HG.out).trans c0
  have d1:=(hb1.cell (p:=⟨g,p*7+1,none⟩) HG.out).trans c1
  have d2:=(hb1.cell (p:=⟨g,p*7+2,none⟩) HG.out).trans c2
  have d3:=(hb1.cell (p:=⟨g,p*7+3,none⟩) HG.out).trans c3
  have d4:=(hb1.cell (p:=⟨g,p*7+4,none⟩) HG.out).trans c4
  have d5:=(hb1.cell (p:=⟨g,p*7+5,none⟩) HG.out).trans c5
  have d6:=(hb1.cell (p:=⟨g,p*7+6,none⟩) HG.out).trans c6
  have HB1:=Lib.hid hb1
  clear hb1
  go_wp2_with fail
  have hB2:=below_al HB1.out (.cells #[.int .i64 6, .int .i64 k, .int .i64 xb, .int .i64 xc, .int .u64 xv, .int .i64 xm, .int .i64 xw] 68)
  have hz:=heap_alloc_new w1 (.cells #[.int .i64 6, .int .i64 k, .int .i64 xb, .int .i64 xc, .int .u64 xv, .int .i64 xm, .int .i64 xw] 68)
  have hbxb:w1.heap.size≠b:=by
   have:=HBl.out
   have:=HB1.out.size
   omega
  generalize w1.alloc (.cells #[.int .i64 6, .int .i64 k, .int .i64 xb, .int .i64 xc, .int .u64 xv, .int .i64 xm, .int .i64 xw] 68)=w2 at hB2 hz ⊢
  generalize w1.heap.size=bx at hz hbxb ⊢
  have hAll: ∀W,Below w2.heap.size w2 W→Below w2.heap.size w2 W∧W.cell? ⟨b,o+1+k,none⟩=some (.int .u64 ra)∧W.frozen? ⟨b,o+1+k,none⟩=false∧InsBox W bx ⟨6,k,xb,xc,xv,xm,xw⟩:=fun W hW=>⟨hW,(HFr.out W (below_two hB2 hW)).1,(HFr.out W (below_two hB2 hW)).2.1,InsBox.of ((hW.block _ (blk_in hz)).trans hz)⟩
  have HRd2:Hid (∀W,Below w2.heap.size w2 W→Calls Tryz.prog 253 #[.pointer (some ⟨b,o,none⟩), .int .i64 xb] W fun e w'=>e= .returned (.int .u64 rb)∧W=w'):=Lib.hid fun W hW=>HRd.out W (below_two hB2 hW)
  have HVl2:Hid (∀W,Below w2.heap.size w2 W→Calls Tryz.prog 254 #[.pointer (some ⟨b,o,none⟩), .agg #[.int .i64 6, .int .i64 k, .int .i64 xb, .int .i64 xc, .int .u64 xv, .int .i64 xm, .int .i64 xw]] W fun e w'=>e= .returned (.int .u64 vc)∧Below w2.heap.size w2 w'∧w'.cell? ⟨b,o+1+k,none⟩=some (.int .u64 ra)∧w'.frozen? ⟨b,o+1+k,none⟩=false∧InsBox w' bx ⟨6,k,xb,xc,xv,xm,xw⟩):=Lib.hid fun W hW=>(HVl.out W (below_two hB2 hW)).mono fun e w' ⟨p,q⟩=>⟨p,hAll _ (below_two hW q)⟩
  have HRk2:Hid (∀W,Below w2.heap.size w2 W→Calls Tryz.prog 252 #[.agg #[.int .i64 6, .int .i64 k, .int .i64 xb, .int .i64 xc, .int .u64 xv, .int .i64 xm, .int .i64 xw], .int .u64 rb, .int .u64 vc] W fun e w'=>e= .returned (.int .u64 rr)∧Below w2.heap.size w2 w'∧w'.cell? ⟨b,o+1+k,none⟩=some (.int .u64 ra)∧w'.frozen? ⟨b,o+1+k,none⟩=false∧InsBox w' bx ⟨6,k,xb,xc,xv,xm,xw⟩):=Lib.hid fun W hW=>(HRk.out W).mono fun e w' ⟨p,q⟩=>⟨p,hAll _ (below_two hW q)⟩
  have HB2:=Lib.hid hB2
  have b0:=Below.refl w2.heap.size w2
  obtain ⟨-,s0,s1,i0,i1,i2,i3,i4,i5,i6⟩:=hAll w2 b0
  unfold InsBox at HVl2 HRk2
  simp only at i0 i1 i2 i3 i4 i5 i6 HVl2 HRk2
  clear hB2 hz hAll d0 d1 d2 d3 d4 d5 d6 cp1 c0 c1 c2 c3 c4 c5 c6 cp
  have HFar:Hid (∀(W:World) (j:Nat) (v:Value),InsBox W bx ⟨6,k,xb,xc,xv,xm,xw⟩→InsBox (W.setCell ⟨b,j,none⟩ v) bx ⟨6,k,xb,xc,xv,xm,xw⟩):=Lib.hid fun W j v h=>h.far hbxb
  unfold InsBox at HFar
  simp only at HFar
  go_region_held3 (fun W=>W.cell? ⟨bx,0,none⟩=some (.int .i64 6)∧W.cell? ⟨bx,1,none⟩=some (.int .i64 k)∧W.cell? ⟨bx,2,none⟩=some (.int .i64 xb)∧W.cell? ⟨bx,3,none⟩=some (.int .i64 xc)∧W.cell? ⟨bx,4,none⟩=some (.int .u64 xv)∧W.cell? ⟨bx,5,none⟩=some (.int .i64 xm)∧W.cell? ⟨bx,6,none⟩=some (.int .i64 xw)) (first|with_reducible assumption|with_reducible exact ⟨i0,i1,i2,i3,i4,i5,i6⟩ |exact ⟨i0,i1,i2,i3,i4,i5,i6⟩ |with_reducible exact ⟨y3,y4,y5,y6,y7,y8,y9⟩ |with_reducible exact ⟨z3,z4,z5,z6,z7,z8,z9⟩ |with_reducible exact HFar.out _ _ _ ⟨z3,z4,z5,z6,z7,z8,z9⟩)
   (first
   |(go_at_call 253;refine (HRd2.out _ (by repeat first|with_reducible assumption|with_reducible exact b0|with_reducible refine Below.drew ?_)).mono ?_;rintro e w3 ⟨rfl,rfl⟩)
   |(go_at_call 254;refine (HVl2.out _ (by repeat first|with_reducible assumption|with_reducible exact b0|with_reducible refine Below.drew ?_)).mono ?_;rintro e w4 ⟨rfl,y0,y1,y2,y3,y4,y5,y6,y7,y8,y9⟩)
   |(go_at_call 252;refine (HRk2.out _ (by repeat first|with_reducible assumption|with_reducible exact b0|with_reducible refine Below.drew ?_)).mono ?_;rintro e w5 ⟨rfl,z0,z1,z2,z3,z4,z5,z6,z7,z8,z9⟩))
  obtain ⟨g0,g1,g2,g3⟩:=HFr.out w5 (below_two HB2.out z0)
  have HW5:=Lib.hid (below_two HB2.out z0)
  clear z3 z4 z5 z6 z7 z8 z9
  go_wp2_with fail
  go_ret2
  exact ⟨rfl,HFin.out w5 HW5.out⟩
 ·go_enter Tryz.func198,Tryz.ntmps198
  go_wp2_with fail
  refine (HMay.out _).mono ?_
  rintro e w1 ⟨rfl,hb1⟩
  replace hb1:Below w.heap.size w w1:=by first|exact hb1|exact (below_dn (Below.refl _ _) _).trans hb1
  have cp1:=HCp.out w1 hb1
  have d0:=(hb1.cell (p:=⟨g,p*7,none⟩) HG.out).trans c0
  have d1:=(hb1.cell (p:=⟨g,p*7+1,none⟩) HG.out).trans c1
  have d2:=(hb1.cell (p:=⟨g,p*7+2,none⟩) HG.out).trans c2
  have d3:=(hb1.cell (p:=⟨g,p*7+3,none⟩) HG.out).trans c3
  have d4:=(hb1.cell (p:=⟨g,p*7+4,none⟩) HG.out).trans c4
  have d5:=(hb1.cell (p:=⟨g,p*7+5,none⟩) HG.out).trans c5
  have d6:=(hb1.cell (p:=⟨g,p*7+6,none⟩) HG.out).trans c6
  have HB1:=Lib.hid hb1
  clear hb1
  go_wp2_with fail
  have hB2:=below_al HB1.out (.cells #[.int .i64 7, .int .i64 k, .int .i64 xb, .int .i64 xc, .int .u64 xv, .int .i64 xm, .int .i64 xw] 68)
  have hz:=heap_alloc_new w1 (.cells #[.int .i64 7, .int .i64 k, .int .i64 xb, .int .i64 xc, .int .u64 xv, .int .i64 xm, .int .i64 xw] 68)
  have hbxb:w1.heap.size≠b:=by
   have:=HBl.out
   have:=HB1.out.size
   omega
  generalize w1.alloc (.cells #[.int .i64 7, .int .i64 k, .int .i64 xb, .int .i64 xc, .int .u64 xv, .int .i64 xm, .int .i64 xw] 68)=w2 at hB2 hz ⊢
  generalize w1.heap.size=bx at hz hbxb ⊢
  have hAll: ∀W,Below w2.heap.size w2 W→Below w2.heap.size w2 W∧W.cell? ⟨b,o+1+k,none⟩=some (.int .u64 ra)∧W.frozen? ⟨b,o+1+k,none⟩=false∧InsBox W bx ⟨7,k,xb,xc,xv,xm,xw⟩:=fun W hW=>⟨hW,(HFr.out W (below_two hB2 hW)).1,(HFr.out W (below_two hB2 hW)).2.1,InsBox.of ((hW.block _ (blk_in hz)).trans hz)⟩
  have HRd2:Hid (∀W,Below w2.heap.size w2 W→Calls Tryz.prog 253 #[.pointer (some ⟨b,o,none⟩), .int .i64 xb] W fun e w'=>e= .returned (.int .u64 rb)∧W=w'):=Lib.hid fun W hW=>HRd.out W (below_two hB2 hW)
  have HVl2:Hid (∀W,Below w2.heap.size w2 W→Calls Tryz.prog 254 #[.pointer (some ⟨b,o,none⟩), .agg #[.int .i64 7, .int .i64 k, .int .i64 xb, .int .i64 xc, .int .u64 xv, .int .i64 xm, .int .i64 xw]] W fun e w'=>e= .returned (.int .u64 vc)∧Below w2.heap.size w2 w'∧w'.cell? ⟨b,o+1+k,none⟩=some (.int .u64 ra)∧w'.frozen? ⟨b,o+1+k,none⟩=false∧InsBox w' bx ⟨7,k,xb,xc,xv,xm,xw⟩):=Lib.hid fun W hW=>(HVl.out W (below_two hB2 hW)).mono fun e w' ⟨p,q⟩=>⟨p,hAll _ (below_two hW q)⟩
  have HRk2:Hid (∀W,Below w2.heap.size w2 W→Calls Tryz.prog 252 #[.agg #[.int .i64 7, .int .i64 k, .int .i64 xb, .int .i64 xc, .int .u64 xv, .int .i64 xm, .int .i64 xw], .int .u64 rb, .int .u64 vc] W fun e w'=>e= .returned (.int .u64 rr)∧Below w2.heap.size w2 w'∧w'.cell? ⟨b,o+1+k,none⟩=some (.int .u64 ra)∧w'.frozen? ⟨b,o+1+k,none⟩=false∧InsBox w' bx ⟨7,k,xb,xc,xv,xm,xw⟩):=Lib.hid fun W hW=>(HRk.out W).mono fun e w' ⟨p,q⟩=>⟨p,hAll _ (below_two hW q)⟩
  have HB2:=Lib.hid hB2
  have b0:=Below.refl w2.heap.size w2
  obtain ⟨-,s0,s1,i0,i1,i2,i3,i4,i5,i6⟩:=hAll w2 b0
  unfold InsBox at HVl2 HRk2
  simp only at i0 i1 i2 i3 i4 i5 i6 HVl2 HRk2
  clear hB2 hz hAll d0 d1 d2 d3 d4 d5 d6 cp1 c0 c1 c2 c3 c4 c5 c6 cp
  have HFar:Hid (∀(W:World) (j:Nat) (v:Value),InsBox W bx ⟨7,k,xb,xc,xv,xm,xw⟩→InsBox (W.setCell ⟨b,j,none⟩ v) bx ⟨7,k,xb,xc,xv,xm,xw⟩):=Lib.hid fun W j v h=>h.far hbxb
  unfold InsBox at HFar
  simp only at HFar
  go_region_held3 (fun W=>W.cell? ⟨bx,0,none⟩=some (.int .i64 7)∧W.cell? ⟨bx,1,none⟩=some (.int .i64 k)∧W.cell? ⟨bx,2,none⟩=some (.int .i64 xb)∧W.cell? ⟨bx,3,none⟩=some (.int .i64 xc)∧W.cell? ⟨bx,4,none⟩=some (.int .u64 xv)∧W.cell? ⟨bx,5,none⟩=some (.int .i64 xm)∧W.cell? ⟨bx,6,none⟩=some (.int .i64 xw)) (first|with_reducible assumption|with_reducible exact ⟨i0,i1,i2,i3,i4,i5,i6⟩ |exact ⟨i0,i1,i2,i3,i4,i5,i6⟩ |with_reducible exact ⟨y3,y4,y5,y6,y7,y8,y9⟩ |with_reducible exact ⟨z3,z4,z5,z6,z7,z8,z9⟩ |with_reducible exact HFar.out _ _ _ ⟨z3,z4,z5,z6,z7,z8,z9⟩)
   (first
   |(go_at_call 253;refine (HRd2.out _ (by repeat first|with_reducible assumption|with_reducible exact b0|with_reducible refine Below.drew ?_)).mono ?_;rintro e w3 ⟨rfl,rfl⟩)
   |(go_at_call 254;refine (HVl2.out _ (by repeat first|with_reducible assumption|with_reducible exact b0|with_reducible refine Below.drew ?_)).mono ?_;rintro e w4 ⟨rfl,y0,y1,y2,y3,y4,y5,y6,y7,y8,y9⟩)
   |(go_at_call 252;refine (HRk2.out _ (by repeat first|with_reducible assumption|with_reducible exact b0|with_reducible refine Below.drew ?_)).mono ?_;rintro e w5 ⟨rfl,z0,z1,z2,z3,z4,z5,z6,z7,z8,z9⟩))
  obtain ⟨g0,g1,g2,g3⟩:=HFr.out w5 (below_two HB2.out z0)
  have HW5:=Lib.hid (below_two HB2.out z0)
  clear z3 z4 z5 z6 z7 z8 z9
  go_wp2_with fail
  go_ret2
  exact ⟨rfl,HFin.out w5 HW5.out⟩
 ·go_enter Tryz.func198,Tryz.ntmps198
  go_wp2_with fail
  refine (HMay.out _).mono ?_
  rintro e w1 ⟨rfl,hb1⟩
  replace hb1:Below w.heap.size w w1:=by first|exact hb1|exact (below_dn (Below.refl _ _) _).trans hb1
  have cp1:=HCp.out w1 hb1
  have d0:=(hb1.cell (p:=⟨g,p*7,none⟩) HG.out).trans c0
  have d1:=(hb1.cell (p:=⟨g,p*7+1,none⟩) HG.out).trans c1
  have d2:=(hb1.cell (p:=⟨g,p*7+2,none⟩) HG.out).trans c2
  have d3:=(hb1.cell (p:=⟨g,p*7+3,none⟩) HG.out).trans c3
  have d4:=(hb1.cell (p:=⟨g,p*7+4,none⟩) HG.out).trans c4
  have d5:=(hb1.cell (p:=⟨g,p*7+5,none⟩) HG.out).trans c5
  have d6:=(hb1.cell (p:=⟨g,p*7+6,none⟩) HG.out).trans c6
  have HB1:=Lib.hid hb1
  clear hb1
  go_wp2_with fail
  have hB2:=below_al HB1.out (.cells #[.int .i64 8, .int .i64 k, .int .i64 xb, .int .i64 xc, .int .u64 xv, .int .i64 xm, .int .i64 xw] 68)
  have hz:=heap_alloc_new w1 (.cells #[.int .i64 8, .int .i64 k, .int .i64 xb, .int .i64 xc, .int .u64 xv, .int .i64 xm, .int .i64 xw] 68)
  have hbxb:w1.heap.size≠b:=by
   have:=HBl.out
   have:=HB1.out.size
   omega
  generalize w1.alloc (.cells #[.int .i64 8, .int .i64 k, .int .i64 xb, .int .i64 xc, .int .u64 xv, .int .i64 xm, .int .i64 xw] 68)=w2 at hB2 hz ⊢
  generalize w1.heap.size=bx at hz hbxb ⊢
  have hAll: ∀W,Below w2.heap.size w2 W→Below w2.heap.size w2 W∧W.cell? ⟨b,o+1+k,none⟩=some (.int .u64 ra)∧W.frozen? ⟨b,o+1+k,none⟩=false∧InsBox W bx ⟨8,k,xb,xc,xv,xm,xw⟩:=fun W hW=>⟨hW,(HFr.out W (below_two hB2 hW)).1,(HFr.out W (below_two hB2 hW)).2.1,InsBox.of ((hW.block _ (blk_in hz)).trans hz)⟩
  have HRd2:Hid (∀W,Below w2.heap.size w2 W→Calls Tryz.prog 253 #[.pointer (some ⟨b,o,none⟩), .int .i64 xb] W fun e w'=>e= .returned (.int .u64 rb)∧W=w'):=Lib.hid fun W hW=>HRd.out W (below_two hB2 hW)
  have HVl2:Hid (∀W,Below w2.heap.size w2 W→Calls Tryz.prog 254 #[.pointer (some ⟨b,o,none⟩), .agg #[.int .i64 8, .int .i64 k, .int .i64 xb, .int .i64 xc, .int .u64 xv, .int .i64 xm, .int .i64 xw]] W fun e w'=>e= .returned (.int .u64 vc)∧Below w2.heap.size w2 w'∧w'.cell? ⟨b,o+1+k,none⟩=some (.int .u64 ra)∧w'.frozen? ⟨b,o+1+k,none⟩=false∧InsBox w' bx ⟨8,k,xb,xc,xv,xm,xw⟩):=Lib.hid fun W hW=>(HVl.out W (below_two hB2 hW)).mono fun e w' ⟨p,q⟩=>⟨p,hAll _ (below_two hW q)⟩
  have HRk2:Hid (∀W,Below w2.heap.size w2 W→Calls Tryz.prog 252 #[.agg #[.int .i64 8, .int .i64 k, .int .i64 xb, .int .i64 xc, .int .u64 xv, .int .i64 xm, .int .i64 xw], .int .u64 rb, .int .u64 vc] W fun e w'=>e= .returned (.int .u64 rr)∧Below w2.heap.size w2 w'∧w'.cell? ⟨b,o+1+k,none⟩=some (.int .u64 ra)∧w'.frozen? ⟨b,o+1+k,none⟩=false∧InsBox w' bx ⟨8,k,xb,xc,xv,xm,xw⟩):=Lib.hid fun W hW=>(HRk.out W).mono fun e w' ⟨p,q⟩=>⟨p,hAll _ (below_two hW q)⟩
  have HB2:=Lib.hid hB2
  have b0:=Below.refl w2.heap.size w2
  obtain ⟨-,s0,s1,i0,i1,i2,i3,i4,i5,i6⟩:=hAll w2 b0
  unfold InsBox at HVl2 HRk2
  simp only at i0 i1 i2 i3 i4 i5 i6 HVl2 HRk2
  clear hB2 hz hAll d0 d1 d2 d3 d4 d5 d6 cp1 c0 c1 c2 c3 c4 c5 c6 cp
  have HFar:Hid (∀(W:World) (j:Nat) (v:Value),InsBox W bx ⟨8,k,xb,xc,xv,xm,xw⟩→InsBox (W.setCell ⟨b,j,none⟩ v) bx ⟨8,k,xb,xc,xv,xm,xw⟩):=Lib.hid fun W j v h=>h.far hbxb
  unfold InsBox at HFar
  simp only at HFar
  go_region_held3 (fun W=>W.cell? ⟨bx,0,none⟩=some (.int .i64 8)∧W.cell? ⟨bx,1,none⟩=some (.int .i64 k)∧W.cell? ⟨bx,2,none⟩=some (.int .i64 xb)∧W.cell? ⟨bx,3,none⟩=some (.int .i64 xc)∧W.cell? ⟨bx,4,none⟩=some (.int .u64 xv)∧W.cell? ⟨bx,5,none⟩=some (.int .i64 xm)∧W.cell? ⟨bx,6,none⟩=some (.int .i64 xw)) (first|with_reducible assumption|with_reducible exact ⟨i0,i1,i2,i3,i4,i5,i6⟩ |exact ⟨i0,i1,i2,i3,i4,i5,i6⟩ |with_reducible exact ⟨y3,y4,y5,y6,y7,y8,y9⟩ |with_reducible exact ⟨z3,z4,z5,z6,z7,z8,z9⟩ |with_reducible exact HFar.out _ _ _ ⟨z3,z4,z5,z6,z7,z8,z9⟩)
   (first
   |(go_at_call 253;refine (HRd2.out _ (by repeat first|with_reducible assumption|with_reducible exact b0|with_reducible refine Below.drew ?_)).mono ?_;rintro e w3 ⟨rfl,rfl⟩)
   |(go_at_call 254;refine (HVl2.out _ (by repeat first|with_reducible assumption|with_reducible exact b0|with_reducible refine Below.drew ?_)).mono ?_;rintro e w4 ⟨rfl,y0,y1,y2,y3,y4,y5,y6,y7,y8,y9⟩)
   |(go_at_call 252;refine (HRk2.out _ (by repeat first|with_reducible assumption|with_reducible exact b0|with_reducible refine Below.drew ?_)).mono ?_;rintro e w5 ⟨rfl,z0,z1,z2,z3,z4,z5,z6,z7,z8,z9⟩))
  obtain ⟨g0,g1,g2,g3⟩:=HFr.out w5 (below_two HB2.out z0)
  have HW5:=Lib.hid (below_two HB2.out z0)
  clear z3 z4 z5 z6 z7 z8 z9
  go_wp2_with fail
  go_ret2
  exact ⟨rfl,HFin.out w5 HW5.out⟩
 ·go_enter Tryz.func198,Tryz.ntmps198
  go_wp2_with fail
  refine (HMay.out _).mono ?_
  rintro e w1 ⟨rfl,hb1⟩
  replace hb1:Below w.heap.size w w1:=by first|exact hb1|exact (below_dn (Below.refl _ _) _).trans hb1
  have cp1:=HCp.out w1 hb1
  have d0:=(hb1.cell (p:=⟨g,p*7,none⟩) HG.out).trans c0
  have d1:=(hb1.cell (p:=⟨g,p*7+1,none⟩) HG.out).trans c1
  have d2:=(hb1.cell (p:=⟨g,p*7+2,none⟩) HG.out).trans c2
  have d3:=(hb1.cell (p:=⟨g,p*7+3,none⟩) HG.out).trans c3
  have d4:=(hb1.cell (p:=⟨g,p*7+4,none⟩) HG.out).trans c4
  have d5:=(hb1.cell (p:=⟨g,p*7+5,none⟩) HG.out).trans c5
  have d6:=(hb1.cell (p:=⟨g,p*7+6,none⟩) HG.out).trans c6
  have HB1:=Lib.hid hb1
  clear hb1
  go_wp2_with fail
  have hB2:=below_al HB1.out (.cells #[.int .i64 9, .int .i64 k, .int .i64 xb, .int .i64 xc, .int .u64 xv, .int .i64 xm, .int .i64 xw] 68)
  have hz:=heap_alloc_new w1 (.cells #[.int .i64 9, .int .i64 k, .int .i64 xb, .int .i64 xc, .int .u64 xv, .int .i64 xm, .int .i64 xw] 68)
  have hbxb:w1.heap.size≠b:=by
   have:=HBl.out
   have:=HB1.out.size
   omega
  generalize w1.alloc (.cells #[.int .i64 9, .int .i64 k, .int .i64 xb, .int .i64 xc, .int .u64 xv, .int .i64 xm, .int .i64 xw] 68)=w2 at hB2 hz ⊢
  generalize w1.heap.size=bx at hz hbxb ⊢
  have hAll: ∀W,Below w2.heap.size w2 W→Below w2.heap.size w2 W∧W.cell? ⟨b,o+1+k,none⟩=some (.int .u64 ra)∧W.frozen? ⟨b,o+1+k,none⟩=false∧InsBox W bx ⟨9,k,xb,xc,xv,xm,xw⟩:=fun W hW=>⟨hW,(HFr.out W (below_two hB2 hW)).1,(HFr.out W (below_two hB2 hW)).2.1,InsBox.of ((hW.block _ (blk_in hz)).trans hz)⟩
  have HRd2:Hid (∀W,Below w2.heap.size w2 W→Calls Tryz.prog 253 #[.pointer (some ⟨b,o,none⟩), .int .i64 xb] W fun e w'=>e= .returned (.int .u64 rb)∧W=w'):=Lib.hid fun W hW=>HRd.out W (below_two hB2 hW)
  have HVl2:Hid (∀W,Below w2.heap.size w2 W→Calls Tryz.prog 254 #[.pointer (some ⟨b,o,none⟩), .agg #[.int .i64 9, .int .i64 k, .int .i64 xb, .int .i64 xc, .int .u64 xv, .int .i64 xm, .int .i64 xw]] W fun e w'=>e= .returned (.int .u64 vc)∧Below w2.heap.size w2 w'∧w'.cell? ⟨b,o+1+k,none⟩=some (.int .u64 ra)∧w'.frozen? ⟨b,o+1+k,none⟩=false∧InsBox w' bx ⟨9,k,xb,xc,xv,xm,xw⟩):=Lib.hid fun W hW=>(HVl.out W (below_two hB2 hW)).mono fun e w' ⟨p,q⟩=>⟨p,hAll _ (below_two hW q)⟩
  have HRk2:Hid (∀W,Below w2.heap.size w2 W→Calls Tryz.prog 252 #[.agg #[.int .i64 9, .int .i64 k, .int .i64 xb, .int .i64 xc, .int .u64 xv, .int .i64 xm, .int .i64 xw], .int .u64 rb, .int .u64 vc] W fun e w'=>e= .returned (.int .u64 rr)∧Below w2.heap.size w2 w'∧w'.cell? ⟨b,o+1+k,none⟩=some (.int .u64 ra)∧w'.frozen? ⟨b,o+1+k,none⟩=false∧InsBox w' bx ⟨9,k,xb,xc,xv,xm,xw⟩):=Lib.hid fun W hW=>(HRk.out W).mono fun e w' ⟨p,q⟩=>⟨p,hAll _ (below_two hW q)⟩
  have HB2:=Lib.hid hB2
  have b0:=Below.refl w2.heap.size w2
  obtain ⟨-,s0,s1,i0,i1,i2,i3,i4,i5,i6⟩:=hAll w2 b0
  unfold InsBox at HVl2 HRk2
  simp only at i0 i1 i2 i3 i4 i5 i6 HVl2 HRk2
  clear hB2 hz hAll d0 d1 d2 d3 d4 d5 d6 cp1 c0 c1 c2 c3 c4 c5 c6 cp
  have HFar:Hid (∀(W:World) (j:Nat) (v:Value),InsBox W bx ⟨9,k,xb,xc,xv,xm,xw⟩→InsBox (W.setCell ⟨b,j,none⟩ v) bx ⟨9,k,xb,xc,xv,xm,xw⟩):=Lib.hid fun W j v h=>h.far hbxb
  unfold InsBox at HFar
  simp only at HFar
  go_region_held3 (fun W=>W.cell? ⟨bx,0,none⟩=some (.int .i64 9)∧W.cell? ⟨bx,1,none⟩=some (.int .i64 k)∧W.cell? ⟨bx,2,none⟩=some (.int .i64 xb)∧W.cell? ⟨bx,3,none⟩=some (.int .i64 xc)∧W.cell? ⟨bx,4,none⟩=some (.int .u64 xv)∧W.cell? ⟨bx,5,none⟩=some (.int .i64 xm)∧W.cell? ⟨bx,6,none⟩=some (.int .i64 xw)) (first|with_reducible assumption|with_reducible exact ⟨i0,i1,i2,i3,i4,i5,i6⟩ |exact ⟨i0,i1,i2,i3,i4,i5,i6⟩ |with_reducible exact ⟨y3,y4,y5,y6,y7,y8,y9⟩ |with_reducible exact ⟨z3,z4,z5,z6,z7,z8,z9⟩ |with_reducible exact HFar.out _ _ _ ⟨z3,z4,z5,z6,z7,z8,z9⟩)
   (first
   |(go_at_call 253;refine (HRd2.out _ (by repeat first|with_reducible assumption|with_reducible exact b0|with_reducible refine Below.drew ?_)).mono ?_;rintro e w3 ⟨rfl,rfl⟩)
   |(go_at_call 254;refine (HVl2.out _ (by repeat first|with_reducible assumption|with_reducible exact b0|with_reducible refine Below.drew ?_)).mono ?_;rintro e w4 ⟨rfl,y0,y1,y2,y3,y4,y5,y6,y7,y8,y9⟩)
   |(go_at_call 252;refine (HRk2.out _ (by repeat first|with_reducible assumption|with_reducible exact b0|with_reducible refine Below.drew ?_)).mono ?_;rintro e w5 ⟨rfl,z0,z1,z2,z3,z4,z5,z6,z7,z8,z9⟩))
  obtain ⟨g0,g1,g2,g3⟩:=HFr.out w5 (below_two HB2.out z0)
  have HW5:=Lib.hid (below_two HB2.out z0)
  clear z3 z4 z5 z6 z7 z8 z9
  go_wp2_with fail
  go_ret2
  exact ⟨rfl,HFin.out w5 HW5.out⟩
 ·go_enter Tryz.func198,Tryz.ntmps198
  go_wp2_with fail
  refine (HMay.out _).mono ?_
  rintro e w1 ⟨rfl,hb1⟩
  replace hb1:Below w.heap.size w w1:=by first|exact hb1|exact (below_dn (Below.refl _ _) _).trans hb1
  have cp1:=HCp.out w1 hb1
  have d0:=(hb1.cell (p:=⟨g,p*7,none⟩) HG.out).trans c0
  have d1:=(hb1.cell (p:=⟨g,p*7+1,none⟩) HG.out).trans c1
  have d2:=(hb1.cell (p:=⟨g,p*7+2,none⟩) HG.out).trans c2
  have d3:=(hb1.cell (p:=⟨g,p*7+3,none⟩) HG.out).trans c3
  have d4:=(hb1.cell (p:=⟨g,p*7+4,none⟩) HG.out).trans c4
  have d5:=(hb1.cell (p:=⟨g,p*7+5,none⟩) HG.out).trans c5
  have d6:=(hb1.cell (p:=⟨g,p*7+6,none⟩) HG.out).trans c6
  have HB1:=Lib.hid hb1
  clear hb1
  go_wp2_with fail
  have hB2:=below_al HB1.out (.cells #[.int .i64 10, .int .i64 k, .int .i64 xb, .int .i64 xc, .int .u64 xv, .int .i64 xm, .int .i64 xw] 68)
  have hz:=heap_alloc_new w1 (.cells #[.int .i64 10, .int .i64 k, .int .i64 xb, .int .i64 xc, .int .u64 xv, .int .i64 xm, .int .i64 xw] 68)
  have hbxb:w1.heap.size≠b:=by
   have:=HBl.out
   have:=HB1.out.size
   omega
  generalize w1.alloc (.cells #[.int .i64 10, .int .i64 k, .int .i64 xb, .int .i64 xc, .int .u64 xv, .int .i64 xm, .int .i64 xw] 68)=w2 at hB2 hz ⊢
  generalize w1.heap.size=bx at hz hbxb ⊢
  have hAll: ∀W,Below w2.heap.size w2 W→Below w2.heap.size w2 W∧W.cell? ⟨b,o+1+k,none⟩=some (.int .u64 ra)∧W.frozen? ⟨b,o+1+k,none⟩=false∧InsBox W bx ⟨10,k,xb,xc,xv,xm,xw⟩:=fun W hW=>⟨hW,(HFr.out W (below_two hB2 hW)).1,(HFr.out W (below_two hB2 hW)).2.1,InsBox.of ((hW.block _ (blk_in hz)).trans hz)⟩
  have HRd2:Hid (∀W,Below w2.heap.size w2 W→Calls Tryz.prog 253 #[.pointer (some ⟨b,o,none⟩), .int .i64 xb] W fun e w'=>e= .returned (.int .u64 rb)∧W=w'):=Lib.hid fun W hW=>HRd.out W (below_two hB2 hW)
  have HVl2:Hid (∀W,Below w2.heap.size w2 W→Calls Tryz.prog 254 #[.pointer (some ⟨b,o,none⟩), .agg #[.int .i64 10, .int .i64 k, .int .i64 xb, .int .i64 xc, .int .u64 xv, .int .i64 xm, .int .i64 xw]] W fun e w'=>e= .returned (.int .u64 vc)∧Below w2.heap.size w2 w'∧w'.cell? ⟨b,o+1+k,none⟩=some (.int .u64 ra)∧w'.frozen? ⟨b,o+1+k,none⟩=false∧InsBox w' bx ⟨10,k,xb,xc,xv,xm,xw⟩):=Lib.hid fun W hW=>(HVl.out W (below_two hB2 hW)).mono fun e w' ⟨p,q⟩=>⟨p,hAll _ (below_two hW q)⟩
  have HRk2:Hid (∀W,Below w2.heap.size w2 W→Calls Tryz.prog 252 #[.agg #[.int .i64 10, .int .i64 k, .int .i64 xb, .int .i64 xc, .int .u64 xv, .int .i64 xm, .int .i64 xw], .int .u64 rb, .int .u64 vc] W fun e w'=>e= .returned (.int .u64 rr)∧Below w2.heap.size w2 w'∧w'.cell? ⟨b,o+1+k,none⟩=some (.int .u64 ra)∧w'.frozen? ⟨b,o+1+k,none⟩=false∧InsBox w' bx ⟨10,k,xb,xc,xv,xm,xw⟩):=Lib.hid fun W hW=>(HRk.out W).mono fun e w' ⟨p,q⟩=>⟨p,hAll _ (below_two hW q)⟩
  have HB2:=Lib.hid hB2
  have b0:=Below.refl w2.heap.size w2
  obtain ⟨-,s0,s1,i0,i1,i2,i3,i4,i5,i6⟩:=hAll w2 b0
  unfold InsBox at HVl2 HRk2
  simp only at i0 i1 i2 i3 i4 i5 i6 HVl2 HRk2
  clear hB2 hz hAll d0 d1 d2 d3 d4 d5 d6 cp1 c0 c1 c2 c3 c4 c5 c6 cp
  have HFar:Hid (∀(W:World) (j:Nat) (v:Value),InsBox W bx ⟨10,k,xb,xc,xv,xm,xw⟩→InsBox (W.setCell ⟨b,j,none⟩ v) bx ⟨10,k,xb,xc,xv,xm,xw⟩):=Lib.hid fun W j v h=>h.far hbxb
  unfold InsBox at HFar
  simp only at HFar
  go_region_held3 (fun W=>W.cell? ⟨bx,0,none⟩=some (.int .i64 10)∧W.cell? ⟨bx,1,none⟩=some (.int .i64 k)∧W.cell? ⟨bx,2,none⟩=some (.int .i64 xb)∧W.cell? ⟨bx,3,none⟩=some (.int .i64 xc)∧W.cell? ⟨bx,4,none⟩=some (.int .u64 xv)∧W.cell? ⟨bx,5,none⟩=some (.int .i64 xm)∧W.cell? ⟨bx,6,none⟩=some (.int .i64 xw)) (first|with_reducible assumption|with_reducible exact ⟨i0,i1,i2,i3,i4,i5,i6⟩ |exact ⟨i0,i1,i2,i3,i4,i5,i6⟩ |with_reducible exact ⟨y3,y4,y5,y6,y7,y8,y9⟩ |with_reducible exact ⟨z3,z4,z5,z6,z7,z8,z9⟩ |with_reducible exact HFar.out _ _ _ ⟨z3,z4,z5,z6,z7,z8,z9⟩)
   (first
   |(go_at_call 253;refine (HRd2.out _ (by repeat first|with_reducible assumption|with_reducible exact b0|with_reducible refine Below.drew ?_)).mono ?_;rintro e w3 ⟨rfl,rfl⟩)
   |(go_at_call 254;refine (HVl2.out _ (by repeat first|with_reducible assumption|with_reducible exact b0|with_reducible refine Below.drew ?_)).mono ?_;rintro e w4 ⟨rfl,y0,y1,y2,y3,y4,y5,y6,y7,y8,y9⟩)
   |(go_at_call 252;refine (HRk2.out _ (by repeat first|with_reducible assumption|with_reducible exact b0|with_reducible refine Below.drew ?_)).mono ?_;rintro e w5 ⟨rfl,z0,z1,z2,z3,z4,z5,z6,z7,z8,z9⟩))
  obtain ⟨g0,g1,g2,g3⟩:=HFr.out w5 (below_two HB2.out z0)
  have HW5:=Lib.hid (below_two HB2.out z0)
  clear z3 z4 z5 z6 z7 z8 z9
  go_wp2_with fail
  go_ret2
  exact ⟨rfl,HFin.out w5 HW5.out⟩
 ·go_enter Tryz.func198,Tryz.ntmps198
  go_wp2_with fail
  refine (HMay.out _).mono ?_
  rintro e w1 ⟨rfl,hb1⟩
  replace hb1:Below w.heap.size w w1:=by first|exact hb1|exact (below_dn (Below.refl _ _) _).trans hb1
  have cp1:=HCp.out w1 hb1
  have d0:=(hb1.cell (p:=⟨g,p*7,none⟩) HG.out).trans c0
  have d1:=(hb1.cell (p:=⟨g,p*7+1,none⟩) HG.out).trans c1
  have d2:=(hb1.cell (p:=⟨g,p*7+2,none⟩) HG.out).trans c2
  have d3:=(hb1.cell (p:=⟨g,p*7+3,none⟩) HG.out).trans c3
  have d4:=(hb1.cell (p:=⟨g,p*7+4,none⟩) HG.out).trans c4
  have d5:=(hb1.cell (p:=⟨g,p*7+5,none⟩) HG.out).trans c5
  have d6:=(hb1.cell (p:=⟨g,p*7+6,none⟩) HG.out).trans c6
  have HB1:=Lib.hid hb1
  clear hb1
  go_wp2_with fail
  have hB2:=below_al HB1.out (.cells #[.int .i64 11, .int .i64 k, .int .i64 xb, .int .i64 xc, .int .u64 xv, .int .i64 xm, .int .i64 xw] 68)
  have hz:=heap_alloc_new w1 (.cells #[.int .i64 11, .int .i64 k, .int .i64 xb, .int .i64 xc, .int .u64 xv, .int .i64 xm, .int .i64 xw] 68)
  have hbxb:w1.heap.size≠b:=by
   have:=HBl.out
   have:=HB1.out.size
   omega
  generalize w1.alloc (.cells #[.int .i64 11, .int .i64 k, .int .i64 xb, .int .i64 xc, .int .u64 xv, .int .i64 xm, .int .i64 xw] 68)=w2 at hB2 hz ⊢
  generalize w1.heap.size=bx at hz hbxb ⊢
  have hAll: ∀W,Below w2.heap.size w2 W→Below w2.heap.size w2 W∧W.cell? ⟨b,o+1+k,none⟩=some (.int .u64 ra)∧W.frozen? ⟨b,o+1+k,none⟩=false∧InsBox W bx ⟨11,k,xb,xc,xv,xm,xw⟩:=fun W hW=>⟨hW,(HFr.out W (below_two hB2 hW)).1,(HFr.out W (below_two hB2 hW)).2.1,InsBox.of ((hW.block _ (blk_in hz)).trans hz)⟩
  have HRd2:Hid (∀W,Below w2.heap.size w2 W→Calls Tryz.prog 253 #[.pointer (some ⟨b,o,none⟩), .int .i64 xb] W fun e w'=>e= .returned (.int .u64 rb)∧W=w'):=Lib.hid fun W hW=>HRd.out W (below_two hB2 hW)
  have HVl2:Hid (∀W,Below w2.heap.size w2 W→Calls Tryz.prog 254 #[.pointer (some ⟨b,o,none⟩), .agg #[.int .i64 11, .int .i64 k, .int .i64 xb, .int .i64 xc, .int .u64 xv, .int .i64 xm, .int .i64 xw]] W fun e w'=>e= .returned (.int .u64 vc)∧Below w2.heap.size w2 w'∧w'.cell? ⟨b,o+1+k,none⟩=some (.int .u64 ra)∧w'.frozen? ⟨b,o+1+k,none⟩=false∧InsBox w' bx ⟨11,k,xb,xc,xv,xm,xw⟩):=Lib.hid fun W hW=>(HVl.out W (below_two hB2 hW)).mono fun e w' ⟨p,q⟩=>⟨p,hAll _ (below_two hW q)⟩
  have HRk2:Hid (∀W,Below w2.heap.size w2 W→Calls Tryz.prog 252 #[.agg #[.int .i64 11, .int .i64 k, .int .i64 xb, .int .i64 xc, .int .u64 xv, .int .i64 xm, .int .i64 xw], .int .u64 rb, .int .u64 vc] W fun e w'=>e= .returned (.int .u64 rr)∧Below w2.heap.size w2 w'∧w'.cell? ⟨b,o+1+k,none⟩=some (.int .u64 ra)∧w'.frozen? ⟨b,o+1+k,none⟩=false∧InsBox w' bx ⟨11,k,xb,xc,xv,xm,xw⟩):=Lib.hid fun W hW=>(HRk.out W).mono fun e w' ⟨p,q⟩=>⟨p,hAll _ (below_two hW q)⟩
  have HB2:=Lib.hid hB2
  have b0:=Below.refl w2.heap.size w2
  obtain ⟨-,s0,s1,i0,i1,i2,i3,i4,i5,i6⟩:=hAll w2 b0
  unfold InsBox at HVl2 HRk2
  simp only at i0 i1 i2 i3 i4 i5 i6 HVl2 HRk2
  clear hB2 hz hAll d0 d1 d2 d3 d4 d5 d6 cp1 c0 c1 c2 c3 c4 c5 c6 cp
  have HFar:Hid (∀(W:World) (j:Nat) (v:Value),InsBox W bx ⟨11,k,xb,xc,xv,xm,xw⟩→InsBox (W.setCell ⟨b,j,none⟩ v) bx ⟨11,k,xb,xc,xv,xm,xw⟩):=Lib.hid fun W j v h=>h.far hbxb
  unfold InsBox at HFar
  simp only at HFar
  go_region_held3 (fun W=>W.cell? ⟨bx,0,none⟩=some (.int .i64 11)∧W.cell? ⟨bx,1,none⟩=some (.int .i64 k)∧W.cell? ⟨bx,2,none⟩=some (.int .i64 xb)∧W.cell? ⟨bx,3,none⟩=some (.int .i64 xc)∧W.cell? ⟨bx,4,none⟩=some (.int .u64 xv)∧W.cell? ⟨bx,5,none⟩=some (.int .i64 xm)∧W.cell? ⟨bx,6,none⟩=some (.int .i64 xw)) (first|with_reducible assumption|with_reducible exact ⟨i0,i1,i2,i3,i4,i5,i6⟩ |exact ⟨i0,i1,i2,i3,i4,i5,i6⟩ |with_reducible exact ⟨y3,y4,y5,y6,y7,y8,y9⟩ |with_reducible exact ⟨z3,z4,z5,z6,z7,z8,z9⟩ |with_reducible exact HFar.out _ _ _ ⟨z3,z4,z5,z6,z7,z8,z9⟩)
   (first
   |(go_at_call 253;refine (HRd2.out _ (by repeat first|with_reducible assumption|with_reducible exact b0|with_reducible refine Below.drew ?_)).mono ?_;rintro e w3 ⟨rfl,rfl⟩)
   |(go_at_call 254;refine (HVl2.out _ (by repeat first|with_reducible assumption|with_reducible exact b0|with_reducible refine Below.drew ?_)).mono ?_;rintro e w4 ⟨rfl,y0,y1,y2,y3,y4,y5,y6,y7,y8,y9⟩)
   |(go_at_call 252;refine (HRk2.out _ (by repeat first|with_reducible assumption|with_reducible exact b0|with_reducible refine Below.drew ?_)).mono ?_;rintro e w5 ⟨rfl,z0,z1,z2,z3,z4,z5,z6,z7,z8,z9⟩))
  obtain ⟨g0,g1,g2,g3⟩:=HFr.out w5 (below_two HB2.out z0)
  have HW5:=Lib.hid (below_two HB2.out z0)
  clear z3 z4 z5 z6 z7 z8 z9
  go_wp2_with fail
  go_ret2
  exact ⟨rfl,HFin.out w5 HW5.out⟩
end
end Go.Proofs.YtaangaogmnlljaaGreatDoor.Kn
