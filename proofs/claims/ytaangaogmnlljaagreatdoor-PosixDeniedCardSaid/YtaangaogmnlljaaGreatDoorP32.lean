/- Part 32 of what the proof stands on: KnStepC. -/
import Derived.StillTailTactics
import Derived.Test.YtaangaogmnlljaaGreatDoorP31
set_option linter.unusedVariables false
namespace Go.Proofs.YtaangaogmnlljaaGreatDoor.Kn
open Go.RowKit Asm
theorem vmfail_any (k:Int) (t:TypeId) (x:Value) (w:World):Calls Tryz.prog 251 #[.int .i64 k, .iface t x] w fun e w'=>(∃v,e= .returned v∧Som v)∧Below w.heap.size w w':=by
 go_enter Tryz.func251,Tryz.ntmps251
 go_wp2
 go_ret
 exact ⟨⟨_,rfl,_,_,rfl⟩,(Below.refl _ _).alloc (Nat.le_refl _) _⟩
section
variable {w:World} {own:Own} {b o:Nat} {t:TypeId} {P S:List Value} {tb tk:Tag} {n:Nat} {f:Frame} {bv:Value}
def AccEnd (b o k bx:Nat) (p:Int) (E:World→Prop) (R:Int→World→Prop) (e:Ending) (w':World):Prop:=
 w'.cell? ⟨bx,1,none⟩=some (.int .i64 k)∧w'.cell? ⟨b,o,none⟩=some (.int .i64 p)∧w'.frozen? ⟨b,o,none⟩=false∧w'.frozen? ⟨b,o+1+k,none⟩=false∧(∃u,w'.cell? ⟨b,o+1+k,none⟩=some u)∧
  ((∃v t x,e= .returned (.tuple #[.int .u64 v, .iface t x])∧E w')∨(∃v,e= .returned (.tuple #[.int .u64 v, .nilIface])∧R v w'))
set_option maxRecDepth 100000 in
set_option maxHeartbeats 8000000 in
theorem vstep_acc (h:FrM w own b o t P S tb tk n f bv) {g c:Nat} {l:List InsL} {lib:Bool} (hc:CodeAt w g l) (hg:g<w.heap.size) (hl:l.length≤2048) (hmay: ∀x∈l,mayK x l.length lib=true) (hlv: ∀x∈l,U64 x.v) (hn:n≤100000) {mt:TypeId} {mv:Value} {x:InsL} (hx:insAt l f.pc=some x) (ho:17≤x.op∧x.op≤21) {E:World→Prop} {R:Int→World→Prop}
  (HA: ∀(k:Nat) (W:World) (bx:Nat),x.a=k→k<32→Below w.heap.size w W→InsBox W bx x→w.heap.size≤bx→bx<W.heap.size→Calls Tryz.prog 250 #[.pointer (some ⟨b,o,none⟩), .agg (insV x), .iface mt mv] W (AccEnd b o k bx f.pc E R)):
  Calls Tryz.prog 198 #[.pointer (some ⟨b,o,none⟩), .slice (some ⟨g,0,none⟩) l.length c, .iface mt mv] w fun e w'=>
   (∃ev w2,e= .returned (.tuple #[.int .i64 3,ev])∧E w2∧Below w2.heap.size w2 w')∨
   (∃v w2 q,e= .returned (.tuple #[.int .i64 0, .nilIface])∧R v w2∧w'=((w2.drewN q).setCell ⟨b,o+1+x.a.toNat,none⟩ (.int .u64 v)).setCell ⟨b,o,none⟩ (.int .i64 (f.pc+1))):=by
 obtain ⟨p,hp⟩:=Int.eq_ofNat_of_zero_le h.ok.pc.1
 have hpl:p<l.length:=by
  unfold insAt at hx
  rw[if_neg (by omega)] at hx
  have:=(List.getElem?_eq_some_iff.1 hx).1
  omega
 have hxl:l[p]=x:=by
  unfold insAt at hx
  rw[if_neg (by omega),hp] at hx
  exact Option.some.inj ((List.getElem?_eq_getElem hpl).symm.trans hx)
 have hxm:x∈l:=by rw[←hxl];exact List.getElem_mem hpl
 have hmx:=hmay x hxm
 have hvx:=hlv x hxm
 have hpI:(0:Int)≤(p:Int)∧(p:Int)<(l.length:Int):=by omega
 have hlI:(1:Int)≤(l.length:Int)∧(l.length:Int)≤2048:=by omega
 obtain ⟨cp,-,-,-⟩:=h.cells
 rw[hp] at cp
 have hpw:IntKind.i64.wrap ((p:Int)+1)=(p:Int)+1:=by rw[IntKind.wrap_i64];omega
 have HMay:Hid (∀W,Calls Tryz.prog 248 #[.agg (insV x), .int .i64 l.length] W fun e w'=>e= .returned (.bool true)∧Below W.heap.size W w'):=Lib.hid fun W=>vmay_any x l.length lib W (by omega) hvx.1 hmx
 have HCp:Hid (∀W,Below w.heap.size w W→W.cell? ⟨b,o,none⟩=some (.int .i64 p)):=Lib.hid fun W hW=>(hW.cell (p:=⟨b,o,none⟩) h.lens.lt).trans cp
 obtain ⟨c0,c1,c2,c3,c4,c5,c6⟩:w.cell? ⟨g,p*7,none⟩=some (.int .i64 x.op)∧w.cell? ⟨g,p*7+1,none⟩=some (.int .i64 x.a)∧w.cell? ⟨g,p*7+2,none⟩=some (.int .i64 x.b)∧w.cell? ⟨g,p*7+3,none⟩=some (.int .i64 x.c)∧w.cell? ⟨g,p*7+4,none⟩=some (.int .u64 x.v)∧w.cell? ⟨g,p*7+5,none⟩=some (.int .i64 x.m)∧w.cell? ⟨g,p*7+6,none⟩=some (.int .i64 x.w):=hc.cells hpl hxl
 have HG:=Lib.hid hg
 obtain ⟨ha,-⟩:=may_regs hmx
 obtain ⟨k,hk⟩:=Int.eq_ofNat_of_zero_le ha.1
 have hk2:k<32:=by omega
 have hkI:(0:Int)≤(k:Int)∧(k:Int)<32:=by omega
 have HAc:Hid (∀(W:World) (bx:Nat),Below w.heap.size w W→InsBox W bx x→w.heap.size≤bx→bx<W.heap.size→Calls Tryz.prog 250 #[.pointer (some ⟨b,o,none⟩), .agg (insV x), .iface mt mv] W (AccEnd b o k bx p E R)):=Lib.hid fun W bx h1 h2 h3 h4=>by
  have:=HA k W bx hk hk2 h1 h2 h3 h4
  rwa[hp] at this
 have htn:x.a.toNat=k:=by rw[hk];rfl
 rw[htn,hp]
 obtain ⟨xo,xa,xb,xc,xv,xm,xw⟩:=x
 simp only at ho c0 c1 c2 c3 c4 c5 c6 hk
 unfold insV at HMay HAc
 subst hk
 clear h hc hg hmay hlv hn hx hmx hvx ha hxl hxm hpl HA hp htn
 generalize l.length=L at*
 clear hl
 have hoo:xo=17∨xo=18∨xo=19∨xo=20∨xo=21:=by omega
 clear ho
 obtain ⟨oo,hoe⟩: ∃oo,oo=xo:=⟨_,rfl⟩
 have HOE:=Lib.hid hoe
 clear hoe
 rcases hoo with rfl|rfl|rfl|rfl|rfl
 all_goals
  go_enter Tryz.func198,Tryz.ntmps198
  go_wp2_with fail
  refine (HMay.out _).mono ?_
  rintro e w1 ⟨rfl,hb1⟩
  replace hb1:Below w.heap.size w w1:=by first|exact hb1|exact (below_dn (Below.refl _ _) _).trans hb1
  have cp1:=HCp.out w1 hb1
  have d0:=(hb1.cell (p:=⟨g,p*7,none⟩) HG.out).trans c0
  have d1:=(hb1.cell (p:=⟨g,p*7+1,none⟩) HG.out).trans c1
  have d2:=(hb1.cell (p:=⟨g,p*7+2,none⟩) HG.out).trans c2
  have d3:=(hb1.cell (p:=⟨g,p*7+3,none⟩) HG.out).trans c3
  have d4:=(hb1.cell (p:=⟨g,p*7+4,none⟩) HG.out).trans c4
  have d5:=(hb1.cell (p:=⟨g,p*7+5,none⟩) HG.out).trans c5
  have d6:=(hb1.cell (p:=⟨g,p*7+6,none⟩) HG.out).trans c6
  have HB1:=Lib.hid hb1
  clear hb1
  go_wp2_with fail
  refine (HAc.out _ w1.heap.size (below_al HB1.out _) (InsBox.of (heap_alloc_new w1 _)) HB1.out.size (by simp)).mono ?_
  clear d0 d1 d2 d3 d4 d5 d6 cp1
  rintro e w2 ⟨q1,q2,q3,q4,⟨u,q5⟩,⟨v,te,xe,rfl,hE⟩ |⟨v,rfl,hR⟩⟩
  ·have HE:=Lib.hid hE
   clear hE
   go_wp2_with fail
   refine (vmfail_any _ _ _ _).mono ?_
   rintro e w3 ⟨⟨ev,rfl,hev⟩,hb3⟩
   have HB3:=Lib.hid hb3
   clear hb3 hev
   go_wp2_with fail
   go_ret2
   exact Or.inl ⟨_,w2,rfl,HE.out,HB3.out⟩
  ·have HR:=Lib.hid hR
   clear hR
   go_wp2_with fail
   go_still_tail 7,(by kernel_rfl)
   change wpList _ _ _ _ _ w2.drew
   go_wp2_with fail
   go_ret2
   exact Or.inr ⟨v,w2,1,rfl,HR.out,rfl⟩
end
end Go.Proofs.YtaangaogmnlljaaGreatDoor.Kn
