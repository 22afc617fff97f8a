/- Part 37 of what the proof stands on: KnSpTold. -/
import Derived.Test.YtaangaogmnlljaaGreatDoorP34
set_option linter.unusedVariables false
namespace Go.Proofs.YtaangaogmnlljaaGreatDoor.Kn
open Go.RowKit Asm
section
variable {F:Fixed} {w:World} {own:Own} {G:KG} {M:Mach} {n:Nat}
theorem KernP.frame_other (h:KernP F w own G M n) {i:Nat} (hi:i<F.workers) {t:Option Int} {b o:Nat} (fa:FAt G M i t b o) {c:Nat} (hc:own c= .other):c≠b:=by
 obtain ⟨ty,P,S,tb,tk,bv,hf⟩:=h.frame hi fa
 intro e
 have:=hf.fr.mine
 rw[←e,hc] at this
 have q:=hf.ntb.2.2.1
 rw[←this] at q
 rcases q with q|q<;>exact q
theorem told_u64 (h:KernP F w own G M n) {i:Nat} (hi:i<F.workers) {t:Option Int} {b o:Nat} (fa:FAt G M i t b o) (x:InsL):U64 (told F M i t x):=by
 have hw:=h.fok.workers
 have hwk:=h.wk_ok hi
 unfold told
 simp only
 have hb:0≤bucketOf (rg (getF M i t) x.b)∧bucketOf (rg (getF M i t) x.b)<8:=by unfold bucketOf;omega
 have hd: ∀y:Int,U64 (deckK F y):=fun y=>by
  unfold deckK U64
  have h1:=Int.emod_nonneg y (show (F.workers:Int)≠0 by omega)
  have h2:=Int.emod_lt_of_pos y (show (0:Int)<F.workers by omega)
  omega
 repeat' split
 ·unfold U64;omega
 ·obtain ⟨hb,hm,v,ab,N,K,hC,-⟩:=h.clk
  have:=hC.now
  unfold U64;omega
 ·cases t with
  |none=>exact u64_0
  |some id=>
   obtain ⟨r,hr,-⟩:=fa
   exact (h.thr_cells hr).2.2.2.1.2
 ·unfold U64;omega
 ·exact h.num.draw
 ·exact hwk.hand
 ·exact hd _
 ·exact hd _
 ·unfold yesI;split<;>unfold U64<;>omega
set_option maxRecDepth 100000 in
set_option maxHeartbeats 8000000 in
theorem special_told (h:KernP F w own G M n) {i:Nat} (hi:i<F.workers) {t:Option Int} {b o:Nat} (fa:FAt G M i t b o) (x:InsL) (hm:mayK x F.lib.length true=true) (ho:x.op=23∨x.op=41∨x.op=37∨x.op=40∨x.op=42∨x.op=29∨x.op=38∨x.op=39∨x.op=47) (hw:M.w=i):
  Calls Tryz.prog 194 #[.pointer (some ⟨G.K,0,none⟩), .pointer (some ⟨G.gW,i*38,none⟩),tptr G t, .pointer (some ⟨b,o,none⟩), .agg (insV x)] w (SpOut F w own G M n (special F M i t x)):=by
 rw[sp_told F M i t x ho]
 obtain ⟨ha,-,-,hbb,-⟩:=may_regs hm
 have hb2:0≤x.b∧x.b<32:=by
  by_cases e:lessBK x.op=false
  ·exact hbb e
  ·have:lessBK x.op=true:=by cases hh:lessBK x.op<;>simp_all
   rcases ho with ho|ho|ho|ho|ho|ho|ho|ho|ho<;>(rw[ho] at this;exact absurd this (by decide))
 obtain ⟨k,hk⟩:=Int.eq_ofNat_of_zero_le ha.1
 have hk2:k<32:=by omega
 have hkI:(0:Int)≤(k:Int)∧(k:Int)<32:=by omega
 obtain ⟨own1,h1,t1⟩:=h.inB x
 have hz:(Kn.boxed w x).heap[w.heap.size]?=some (.cells (insV x) 68 (0,0)):=heap_alloc_new w _
 have hB1:=boxed_below w x
 have hUt:=told_u64 h hi fa x
 have hT: ∀q,Calls Tryz.prog 245 #[.pointer (some ⟨G.K,0,none⟩), .pointer (some ⟨G.gW,i*38,none⟩), .int .u64 (t.getD 0), .pointer (some ⟨b,o,none⟩), .agg (insV x)] ((Kn.boxed w x).drewN q) fun r w'=>r= .returned (.int .u64 (told F M i t x))∧Below ((Kn.boxed w x).drewN q).heap.size ((Kn.boxed w x).drewN q) w':=fun q=>told_any (h1.drewN q) hi fa x ho hb2 hw
 have hne:w.heap.size≠b:=by
  have:=(h.reg hi fa 0 (by decide)).2.2.2
  omega
 have hto:t.getD 0=t.getD 0:=rfl
 unfold Kn.boxed at*
 obtain ⟨xo,xa,xb,xc,xv,xm,xw⟩:=x
 unfold insV at*
 simp only at ho hk hz hT hB1 h1 t1 hUt ⊢
 subst hk
 generalize told F M i t ⟨xo,k,xb,xc,xv,xm,xw⟩=tv at*
 generalize hw1:w.alloc (.cells #[.int .i64 xo, .int .i64 k, .int .i64 xb, .int .i64 xc, .int .u64 xv, .int .i64 xm, .int .i64 xw] 68)=w1 at*
 generalize hbx:w.heap.size=bx at*
 have HFin:Hid (∀W,Below w1.heap.size w1 W→KO2 F w own G M.runs (putReg M i t k tv) (n+2) (W.setCell ⟨b,o+1+k,none⟩ (.int .u64 tv))):=Lib.hid fun W hW=>by
  have h2:=h1.below hW
  have t2:Touch (fun t=>t≠ .other) w1 W own1 (ext own1 w1.heap.size .other):=touch_below hW
  exact ((KO.trans (t1.trans t2) (h2.put_reg hi (by exact fa) hk2 hUt)).more (by omega)).two
 have hAll: ∀W,Below w1.heap.size w1 W→Below w1.heap.size w1 W∧W.frozen? ⟨b,o+1+k,none⟩=false∧(∃u,W.cell? ⟨b,o+1+k,none⟩=some u)∧(W.cell? ⟨bx,0,none⟩=some (.int .i64 xo)∧W.cell? ⟨bx,1,none⟩=some (.int .i64 k)∧W.cell? ⟨bx,2,none⟩=some (.int .i64 xb)∧W.cell? ⟨bx,3,none⟩=some (.int .i64 xc)∧W.cell? ⟨bx,4,none⟩=some (.int .u64 xv)∧W.cell? ⟨bx,5,none⟩=some (.int .i64 xm)∧W.cell? ⟨bx,6,none⟩=some (.int .i64 xw)):=fun W hW=>by
  have h2:=h1.below hW
  obtain ⟨a,-,c,-⟩:=h2.reg (t:=t) hi (by exact fa) k hk2
  have e:=(hW.block bx (blk_in hz)).trans hz
  exact ⟨hW,c,⟨_,a⟩,blk_cell e 0,blk_cell e 1,blk_cell e 2,blk_cell e 3,blk_cell e 4,blk_cell e 5,blk_cell e 6⟩
 have HT:Hid (∀q,Calls Tryz.prog 245 #[.pointer (some ⟨G.K,0,none⟩), .pointer (some ⟨G.gW,i*38,none⟩), .int .u64 (t.getD 0), .pointer (some ⟨b,o,none⟩), .agg #[.int .i64 xo, .int .i64 k, .int .i64 xb, .int .i64 xc, .int .u64 xv, .int .i64 xm, .int .i64 xw]] (w1.drewN q) fun e w'=>e= .returned (.int .u64 tv)∧Below w1.heap.size w1 w'∧w'.frozen? ⟨b,o+1+k,none⟩=false∧(∃u,w'.cell? ⟨b,o+1+k,none⟩=some u)∧w'.cell? ⟨bx,0,none⟩=some (.int .i64 xo)∧w'.cell? ⟨bx,1,none⟩=some (.int .i64 k)∧w'.cell? ⟨bx,2,none⟩=some (.int .i64 xb)∧w'.cell? ⟨bx,3,none⟩=some (.int .i64 xc)∧w'.cell? ⟨bx,4,none⟩=some (.int .u64 xv)∧w'.cell? ⟨bx,5,none⟩=some (.int .i64 xm)∧w'.cell? ⟨bx,6,none⟩=some (.int .i64 xw)):=Lib.hid fun q=>(hT q).mono fun e w' ⟨a,c⟩=>⟨a,hAll w' ((drewN_below w1 q).trans c)⟩
 have HFar:Hid (∀(W:World) (j:Nat) (v:Value),(W.cell? ⟨bx,0,none⟩=some (.int .i64 xo)∧W.cell? ⟨bx,1,none⟩=some (.int .i64 k)∧W.cell? ⟨bx,2,none⟩=some (.int .i64 xb)∧W.cell? ⟨bx,3,none⟩=some (.int .i64 xc)∧W.cell? ⟨bx,4,none⟩=some (.int .u64 xv)∧W.cell? ⟨bx,5,none⟩=some (.int .i64 xm)∧W.cell? ⟨bx,6,none⟩=some (.int .i64 xw))→((W.setCell ⟨b,j,none⟩ v).cell? ⟨bx,0,none⟩=some (.int .i64 xo)∧(W.setCell ⟨b,j,none⟩ v).cell? ⟨bx,1,none⟩=some (.int .i64 k)∧(W.setCell ⟨b,j,none⟩ v).cell? ⟨bx,2,none⟩=some (.int .i64 xb)∧(W.setCell ⟨b,j,none⟩ v).cell? ⟨bx,3,none⟩=some (.int .i64 xc)∧(W.setCell ⟨b,j,none⟩ v).cell? ⟨bx,4,none⟩=some (.int .u64 xv)∧(W.setCell ⟨b,j,none⟩ v).cell? ⟨bx,5,none⟩=some (.int .i64 xm)∧(W.setCell ⟨b,j,none⟩ v).cell? ⟨bx,6,none⟩=some (.int .i64 xw))):=Lib.hid fun W j v hh=>by
  have:=InsBox.far (b:=b) (j:=j) (v:=v) (x:=⟨xo,k,xb,xc,xv,xm,xw⟩) (show InsBox W bx _ from hh) hne
  exact this
 obtain ⟨-,-,-,i0,i1,i2,i3,i4,i5,i6⟩:=hAll w1 (Below.refl _ _)
 have hth: ∀id,t=some id→w1.cell? ⟨G.tb id,0,none⟩=some (.int .u64 id):=fun id e=>by
  subst e
  obtain ⟨r,hr,-⟩:=fa
  exact (h1.thr_cells hr).1
 clear h h1 t1 hB1 hz hT hAll hUt hto hm ha hb2 hbb hi hw hne
 unfold tptr
 cases t with
 |none=>
  simp only[Option.map_none,Option.getD_none] at HT ⊢
  rcases ho with rfl|rfl|rfl|rfl|rfl|rfl|rfl|rfl|rfl
  ·go_enter Tryz.func194,Tryz.ntmps194
   go_wp2_with fail
   try rw[hw1]
   try clear hw1 hbx
   go_region_held3 (fun W=>W.cell? ⟨bx,0,none⟩=some (.int .i64 23)∧W.cell? ⟨bx,1,none⟩=some (.int .i64 k)∧W.cell? ⟨bx,2,none⟩=some (.int .i64 xb)∧W.cell? ⟨bx,3,none⟩=some (.int .i64 xc)∧W.cell? ⟨bx,4,none⟩=some (.int .u64 xv)∧W.cell? ⟨bx,5,none⟩=some (.int .i64 xm)∧W.cell? ⟨bx,6,none⟩=some (.int .i64 xw)) (first|with_reducible assumption|with_reducible exact ⟨i0,i1,i2,i3,i4,i5,i6⟩ |exact ⟨i0,i1,i2,i3,i4,i5,i6⟩ |with_reducible exact ⟨z3,z4,z5,z6,z7,z8,z9⟩ |with_reducible exact HFar.out _ _ _ ⟨z3,z4,z5,z6,z7,z8,z9⟩)
    (first|(go_at_call 245;refine (HT.out 1).mono ?_;rintro e w5 ⟨rfl,z0,z1,⟨zu,z2⟩,z3,z4,z5,z6,z7,z8,z9⟩))
   have HZ:=Lib.hid z0
   clear z3 z4 z5 z6 z7 z8 z9 z0
   go_wp2_with fail
   go_ret
   exact ⟨rfl,HFin.out _ HZ.out⟩
  ·go_enter Tryz.func194,Tryz.ntmps194
   go_wp2_with fail
   try rw[hw1]
   try clear hw1 hbx
   go_region_held3 (fun W=>W.cell? ⟨bx,0,none⟩=some (.int .i64 41)∧W.cell? ⟨bx,1,none⟩=some (.int .i64 k)∧W.cell? ⟨bx,2,none⟩=some (.int .i64 xb)∧W.cell? ⟨bx,3,none⟩=some (.int .i64 xc)∧W.cell? ⟨bx,4,none⟩=some (.int .u64 xv)∧W.cell? ⟨bx,5,none⟩=some (.int .i64 xm)∧W.cell? ⟨bx,6,none⟩=some (.int .i64 xw)) (first|with_reducible assumption|with_reducible exact ⟨i0,i1,i2,i3,i4,i5,i6⟩ |exact ⟨i0,i1,i2,i3,i4,i5,i6⟩ |with_reducible exact ⟨z3,z4,z5,z6,z7,z8,z9⟩ |with_reducible exact HFar.out _ _ _ ⟨z3,z4,z5,z6,z7,z8,z9⟩)
    (first|(go_at_call 245;refine (HT.out 1).mono ?_;rintro e w5 ⟨rfl,z0,z1,⟨zu,z2⟩,z3,z4,z5,z6,z7,z8,z9⟩))
   have HZ:=Lib.hid z0
   clear z3 z4 z5 z6 z7 z8 z9 z0
   go_wp2_with fail
   go_ret
   exact ⟨rfl,HFin.out _ HZ.out⟩
  ·go_enter Tryz.func194,Tryz.ntmps194
   go_wp2_with fail
   try rw[hw1]
   try clear hw1 hbx
   go_region_held3 (fun W=>W.cell? ⟨bx,0,none⟩=some (.int .i64 37)∧W.cell? ⟨bx,1,none⟩=some (.int .i64 k)∧W.cell? ⟨bx,2,none⟩=some (.int .i64 xb)∧W.cell? ⟨bx,3,none⟩=some (.int .i64 xc)∧W.cell? ⟨bx,4,none⟩=some (.int .u64 xv)∧W.cell? ⟨bx,5,none⟩=some (.int .i64 xm)∧W.cell? ⟨bx,6,none⟩=some (.int .i64 xw)) (first|with_reducible assumption|with_reducible exact ⟨i0,i1,i2,i3,i4,i5,i6⟩ |exact ⟨i0,i1,i2,i3,i4,i5,i6⟩ |with_reducible exact ⟨z3,z4,z5,z6,z7,z8,z9⟩ |with_reducible exact HFar.out _ _ _ ⟨z3,z4,z5,z6,z7,z8,z9⟩)
    (first|(go_at_call 245;refine (HT.out 1).mono ?_;rintro e w5 ⟨rfl,z0,z1,⟨zu,z2⟩,z3,z4,z5,z6,z7,z8,z9⟩))
   have HZ:=Lib.hid z0
   clear z3 z4 z5 z6 z7 z8 z9 z0
   go_wp2_with fail
   go_ret
   exact ⟨rfl,HFin.out _ HZ.out⟩
  ·go_enter Tryz.func194,Tryz.ntmps194
   go_wp2_with fail
   try rw[hw1]
   try clear hw1 hbx
   go_region_held3 (fun W=>W.cell? ⟨bx,0,none⟩=some (.int .i64 40)∧W.cell? ⟨bx,1,none⟩=some (.int .i64 k)∧W.cell? ⟨bx,2,none⟩=some (.int .i64 xb)∧W.cell? ⟨bx,3,none⟩=some (.int .i64 xc)∧W.cell? ⟨bx,4,none⟩=some (.int .u64 xv)∧W.cell? ⟨bx,5,none⟩=some (.int .i64 xm)∧W.cell? ⟨bx,6,none⟩=some (.int .i64 xw)) (first|with_reducible assumption|with_reducible exact ⟨i0,i1,i2,i3,i4,i5,i6⟩ |exact ⟨i0,i1,i2,i3,i4,i5,i6⟩ |with_reducible exact ⟨z3,z4,z5,z6,z7,z8,z9⟩ |with_reducible exact HFar.out _ _ _ ⟨z3,z4,z5,z6,z7,z8,z9⟩)
    (first|(go_at_call 245;refine (HT.out 1).mono ?_;rintro e w5 ⟨rfl,z0,z1,⟨zu,z2⟩,z3,z4,z5,z6,z7,z8,z9⟩))
   have HZ:=Lib.hid z0
   clear z3 z4 z5 z6 z7 z8 z9 z0
   go_wp2_with fail
   go_ret
   exact ⟨rfl,HFin.out _ HZ.out⟩
  ·go_enter Tryz.func194,Tryz.ntmps194
   go_wp2_with fail
   try rw[hw1]
   try clear hw1 hbx
   go_region_held3 (fun W=>W.cell? ⟨bx,0,none⟩=some (.int .i64 42)∧W.cell? ⟨bx,1,none⟩=some (.int .i64 k)∧W.cell? ⟨bx,2,none⟩=some (.int .i64 xb)∧W.cell? ⟨bx,3,none⟩=some (.int .i64 xc)∧W.cell? ⟨bx,4,none⟩=some (.int .u64 xv)∧W.cell? ⟨bx,5,none⟩=some (.int .i64 xm)∧W.cell? ⟨bx,6,none⟩=some (.int .i64 xw)) (first|with_reducible assumption|with_reducible exact ⟨i0,i1,i2,i3,i4,i5,i6⟩ |exact ⟨i0,i1,i2,i3,i4,i5,i6⟩ |with_reducible exact ⟨z3,z4,z5,z6,z7,z8,z9⟩ |with_reducible exact HFar.out _ _ _ ⟨z3,z4,z5,z6,z7,z8,z9⟩)
    (first|(go_at_call 245;refine (HT.out 1).mono ?_;rintro e w5 ⟨rfl,z0,z1,⟨zu,z2⟩,z3,z4,z5,z6,z7,z8,z9⟩))
   have HZ:=Lib.hid z0
   clear z3 z4 z5 z6 z7 z8 z9 z0
   go_wp2_with fail
   go_ret
   exact ⟨rfl,HFin.out _ HZ.out⟩
  ·go_enter Tryz.func194,Tryz.ntmps194
   go_wp2_with fail
   try rw[hw1]
   try clear hw1 hbx
   go_region_held3 (fun W=>W.cell? ⟨bx,0,none⟩=some (.int .i64 29)∧W.cell? ⟨bx,1,none⟩=some (.int .i64 k)∧W.cell? ⟨bx,2,none⟩=some (.int .i64 xb)∧W.cell? ⟨bx,3,none⟩=some (.int .i64 xc)∧W.cell? ⟨bx,4,none⟩=some (.int .u64 xv)∧W.cell? ⟨bx,5,none⟩=some (.int .i64 xm)∧W.cell? ⟨bx,6,none⟩=some (.int .i64 xw)) (first|with_reducible assumption|with_reducible exact ⟨i0,i1,i2,i3,i4,i5,i6⟩ |exact ⟨i0,i1,i2,i3,i4,i5,i6⟩ |with_reducible exact ⟨z3,z4,z5,z6,z7,z8,z9⟩ |with_reducible exact HFar.out _ _ _ ⟨z3,z4,z5,z6,z7,z8,z9⟩)
    (first|(go_at_call 245;refine (HT.out 1).mono ?_;rintro e w5 ⟨rfl,z0,z1,⟨zu,z2⟩,z3,z4,z5,z6,z7,z8,z9⟩))
   have HZ:=Lib.hid z0
   clear z3 z4 z5 z6 z7 z8 z9 z0
   go_wp2_with fail
   go_ret
   exact ⟨rfl,HFin.out _ HZ.out⟩
  ·go_enter Tryz.func194,Tryz.ntmps194
   go_wp2_with fail
   try rw[hw1]
   try clear hw1 hbx
   go_region_held3 (fun W=>W.cell? ⟨bx,0,none⟩=some (.int .i64 38)∧W.cell? ⟨bx,1,none⟩=some (.int .i64 k)∧W.cell? ⟨bx,2,none⟩=some (.int .i64 xb)∧W.cell? ⟨bx,3,none⟩=some (.int .i64 xc)∧W.cell? ⟨bx,4,none⟩=some (.int .u64 xv)∧W.cell? ⟨bx,5,none⟩=some (.int .i64 xm)∧W.cell? ⟨bx,6,none⟩=some (.int .i64 xw)) (first|with_reducible assumption|with_reducible exact ⟨i0,i1,i2,i3,i4,i5,i6⟩ |exact ⟨i0,i1,i2,i3,i4,i5,i6⟩ |with_reducible exact ⟨z3,z4,z5,z6,z7,z8,z9⟩ |with_reducible exact HFar.out _ _ _ ⟨z3,z4,z5,z6,z7,z8,z9⟩)
    (first|(go_at_call 245;refine (HT.out 1).mono ?_;rintro e w5 ⟨rfl,z0,z1,⟨zu,z2⟩,z3,z4,z5,z6,z7,z8,z9⟩))
   have HZ:=Lib.hid z0
   clear z3 z4 z5 z6 z7 z8 z9 z0
   go_wp2_with fail
   go_ret
   exact ⟨rfl,HFin.out _ HZ.out⟩
  ·go_enter Tryz.func194,Tryz.ntmps194
   go_wp2_with fail
   try rw[hw1]
   try clear hw1 hbx
   go_region_held3 (fun W=>W.cell? ⟨bx,0,none⟩=some (.int .i64 39)∧W.cell? ⟨bx,1,none⟩=some (.int .i64 k)∧W.cell? ⟨bx,2,none⟩=some (.int .i64 xb)∧W.cell? ⟨bx,3,none⟩=some (.int .i64 xc)∧W.cell? ⟨bx,4,none⟩=some (.int .u64 xv)∧W.cell? ⟨bx,5,none⟩=some (.int .i64 xm)∧W.cell? ⟨bx,6,none⟩=some (.int .i64 xw)) (first|with_reducible assumption|with_reducible exact ⟨i0,i1,i2,i3,i4,i5,i6⟩ |exact ⟨i0,i1,i2,i3,i4,i5,i6⟩ |with_reducible exact ⟨z3,z4,z5,z6,z7,z8,z9⟩ |with_reducible exact HFar.out _ _ _ ⟨z3,z4,z5,z6,z7,z8,z9⟩)
    (first|(go_at_call 245;refine (HT.out 1).mono ?_;rintro e w5 ⟨rfl,z0,z1,⟨zu,z2⟩,z3,z4,z5,z6,z7,z8,z9⟩))
   have HZ:=Lib.hid z0
   clear z3 z4 z5 z6 z7 z8 z9 z0
   go_wp2_with fail
   go_ret
   exact ⟨rfl,HFin.out _ HZ.out⟩
  ·go_enter Tryz.func194,Tryz.ntmps194
   go_wp2_with fail
   try rw[hw1]
   try clear hw1 hbx
   go_region_held3 (fun W=>W.cell? ⟨bx,0,none⟩=some (.int .i64 47)∧W.cell? ⟨bx,1,none⟩=some (.int .i64 k)∧W.cell? ⟨bx,2,none⟩=some (.int .i64 xb)∧W.cell? ⟨bx,3,none⟩=some (.int .i64 xc)∧W.cell? ⟨bx,4,none⟩=some (.int .u64 xv)∧W.cell? ⟨bx,5,none⟩=some (.int .i64 xm)∧W.cell? ⟨bx,6,none⟩=some (.int .i64 xw)) (first|with_reducible assumption|with_reducible exact ⟨i0,i1,i2,i3,i4,i5,i6⟩ |exact ⟨i0,i1,i2,i3,i4,i5,i6⟩ |with_reducible exact ⟨z3,z4,z5,z6,z7,z8,z9⟩ |with_reducible exact HFar.out _ _ _ ⟨z3,z4,z5,z6,z7,z8,z9⟩)
    (first|(go_at_call 245;refine (HT.out 1).mono ?_;rintro e w5 ⟨rfl,z0,z1,⟨zu,z2⟩,z3,z4,z5,z6,z7,z8,z9⟩))
   have HZ:=Lib.hid z0
   clear z3 z4 z5 z6 z7 z8 z9 z0
   go_wp2_with fail
   go_ret
   exact ⟨rfl,HFin.out _ HZ.out⟩
 |some id=>
  simp only[Option.map_some,Option.getD_some] at HT ⊢
  have ct:=hth id rfl
  clear hth
  rcases ho with rfl|rfl|rfl|rfl|rfl|rfl|rfl|rfl|rfl
  ·go_enter Tryz.func194,Tryz.ntmps194
   go_wp2_with fail
   try rw[hw1]
   try clear hw1 hbx
   go_region_held3 (fun W=>W.cell? ⟨bx,0,none⟩=some (.int .i64 23)∧W.cell? ⟨bx,1,none⟩=some (.int .i64 k)∧W.cell? ⟨bx,2,none⟩=some (.int .i64 xb)∧W.cell? ⟨bx,3,none⟩=some (.int .i64 xc)∧W.cell? ⟨bx,4,none⟩=some (.int .u64 xv)∧W.cell? ⟨bx,5,none⟩=some (.int .i64 xm)∧W.cell? ⟨bx,6,none⟩=some (.int .i64 xw)) (first|with_reducible assumption|with_reducible exact ⟨i0,i1,i2,i3,i4,i5,i6⟩ |exact ⟨i0,i1,i2,i3,i4,i5,i6⟩ |with_reducible exact ⟨z3,z4,z5,z6,z7,z8,z9⟩ |with_reducible exact HFar.out _ _ _ ⟨z3,z4,z5,z6,z7,z8,z9⟩)
    (first|(go_at_call 245;refine (HT.out 1).mono ?_;rintro e w5 ⟨rfl,z0,z1,⟨zu,z2⟩,z3,z4,z5,z6,z7,z8,z9⟩))
   have HZ:=Lib.hid z0
   clear z3 z4 z5 z6 z7 z8 z9 z0
   go_wp2_with fail
   go_ret
   exact ⟨rfl,HFin.out _ HZ.out⟩
  ·go_enter Tryz.func194,Tryz.ntmps194
   go_wp2_with fail
   try rw[hw1]
   try clear hw1 hbx
   go_region_held3 (fun W=>W.cell? ⟨bx,0,none⟩=some (.int .i64 41)∧W.cell? ⟨bx,1,none⟩=some (.int .i64 k)∧W.cell? ⟨bx,2,none⟩=some (.int .i64 xb)∧W.cell? ⟨bx,3,none⟩=some (.int .i64 xc)∧W.cell? ⟨bx,4,none⟩=some (.int .u64 xv)∧W.cell? ⟨bx,5,none⟩=some (.int .i64 xm)∧W.cell? ⟨bx,6,none⟩=some (.int .i64 xw)) (first|with_reducible assumption|with_reducible exact ⟨i0,i1,i2,i3,i4,i5,i6⟩ |exact ⟨i0,i1,i2,i3,i4,i5,i6⟩ |with_reducible exact ⟨z3,z4,z5,z6,z7,z8,z9⟩ |with_reducible exact HFar.out _ _ _ ⟨z3,z4,z5,z6,z7,z8,z9⟩)
    (first|(go_at_call 245;refine (HT.out 1).mono ?_;rintro e w5 ⟨rfl,z0,z1,⟨zu,z2⟩,z3,z4,z5,z6,z7,z8,z9⟩))
   have HZ:=Lib.hid z0
   clear z3 z4 z5 z6 z7 z8 z9 z0
   go_wp2_with fail
   go_ret
   exact ⟨rfl,HFin.out _ HZ.out⟩
  ·go_enter Tryz.func194,Tryz.ntmps194
   go_wp2_with fail
   try rw[hw1]
   try clear hw1 hbx
   go_region_held3 (fun W=>W.cell? ⟨bx,0,none⟩=some (.int .i64 37)∧W.cell? ⟨bx,1,none⟩=some (.int .i64 k)∧W.cell? ⟨bx,2,none⟩=some (.int .i64 xb)∧W.cell? ⟨bx,3,none⟩=some (.int .i64 xc)∧W.cell? ⟨bx,4,none⟩=some (.int .u64 xv)∧W.cell? ⟨bx,5,none⟩=some (.int .i64 xm)∧W.cell? ⟨bx,6,none⟩=some (.int .i64 xw)) (first|with_reducible assumption|with_reducible exact ⟨i0,i1,i2,i3,i4,i5,i6⟩ |exact ⟨i0,i1,i2,i3,i4,i5,i6⟩ |with_reducible exact ⟨z3,z4,z5,z6,z7,z8,z9⟩ |with_reducible exact HFar.out _ _ _ ⟨z3,z4,z5,z6,z7,z8,z9⟩)
    (first|(go_at_call 245;refine (HT.out 1).mono ?_;rintro e w5 ⟨rfl,z0,z1,⟨zu,z2⟩,z3,z4,z5,z6,z7,z8,z9⟩))
   have HZ:=Lib.hid z0
   clear z3 z4 z5 z6 z7 z8 z9 z0
   go_wp2_with fail
   go_ret
   exact ⟨rfl,HFin.out _ HZ.out⟩
  ·go_enter Tryz.func194,Tryz.ntmps194
   go_wp2_with fail
   try rw[hw1]
   try clear hw1 hbx
   go_region_held3 (fun W=>W.cell? ⟨bx,0,none⟩=some (.int .i64 40)∧W.cell? ⟨bx,1,none⟩=some (.int .i64 k)∧W.cell? ⟨bx,2,none⟩=some (.int .i64 xb)∧W.cell? ⟨bx,3,none⟩=some (.int .i64 xc)∧W.cell? ⟨bx,4,none⟩=some (.int .u64 xv)∧W.cell? ⟨bx,5,none⟩=some (.int .i64 xm)∧W.cell? ⟨bx,6,none⟩=some (.int .i64 xw)) (first|with_reducible assumption|with_reducible exact ⟨i0,i1,i2,i3,i4,i5,i6⟩ |exact ⟨i0,i1,i2,i3,i4,i5,i6⟩ |with_reducible exact ⟨z3,z4,z5,z6,z7,z8,z9⟩ |with_reducible exact HFar.out _ _ _ ⟨z3,z4,z5,z6,z7,z8,z9⟩)
    (first|(go_at_call 245;refine (HT.out 1).mono ?_;rintro e w5 ⟨rfl,z0,z1,⟨zu,z2⟩,z3,z4,z5,z6,z7,z8,z9⟩))
   have HZ:=Lib.hid z0
   clear z3 z4 z5 z6 z7 z8 z9 z0
   go_wp2_with fail
   go_ret
   exact ⟨rfl,HFin.out _ HZ.out⟩
  ·go_enter Tryz.func194,Tryz.ntmps194
   go_wp2_with fail
   try rw[hw1]
   try clear hw1 hbx
   go_region_held3 (fun W=>W.cell? ⟨bx,0,none⟩=some (.int .i64 42)∧W.cell? ⟨bx,1,none⟩=some (.int .i64 k)∧W.cell? ⟨bx,2,none⟩=some (.int .i64 xb)∧W.cell? ⟨bx,3,none⟩=some (.int .i64 xc)∧W.cell? ⟨bx,4,none⟩=some (.int .u64 xv)∧W.cell? ⟨bx,5,none⟩=some (.int .i64 xm)∧W.cell? ⟨bx,6,none⟩=some (.int .i64 xw)) (first|with_reducible assumption|with_reducible exact ⟨i0,i1,i2,i3,i4,i5,i6⟩ |exact ⟨i0,i1,i2,i3,i4,i5,i6⟩ |with_reducible exact ⟨z3,z4,z5,z6,z7,z8,z9⟩ |with_reducible exact HFar.out _ _ _ ⟨z3,z4,z5,z6,z7,z8,z9⟩)
    (first|(go_at_call 245;refine (HT.out 1).mono ?_;rintro e w5 ⟨rfl,z0,z1,⟨zu,z2⟩,z3,z4,z5,z6,z7,z8,z9⟩))
   have HZ:=Lib.hid z0
   clear z3 z4 z5 z6 z7 z8 z9 z0
   go_wp2_with fail
   go_ret
   exact ⟨rfl,HFin.out _ HZ.out⟩
  ·go_enter Tryz.func194,Tryz.ntmps194
   go_wp2_with fail
   try rw[hw1]
   try clear hw1 hbx
   go_region_held3 (fun W=>W.cell? ⟨bx,0,none⟩=some (.int .i64 29)∧W.cell? ⟨bx,1,none⟩=some (.int .i64 k)∧W.cell? ⟨bx,2,none⟩=some (.int .i64 xb)∧W.cell? ⟨bx,3,none⟩=some (.int .i64 xc)∧W.cell? ⟨bx,4,none⟩=some (.int .u64 xv)∧W.cell? ⟨bx,5,none⟩=some (.int .i64 xm)∧W.cell? ⟨bx,6,none⟩=some (.int .i64 xw)) (first|with_reducible assumption|with_reducible exact ⟨i0,i1,i2,i3,i4,i5,i6⟩ |exact ⟨i0,i1,i2,i3,i4,i5,i6⟩ |with_reducible exact ⟨z3,z4,z5,z6,z7,z8,z9⟩ |with_reducible exact HFar.out _ _ _ ⟨z3,z4,z5,z6,z7,z8,z9⟩)
    (first|(go_at_call 245;refine (HT.out 1).mono ?_;rintro e w5 ⟨rfl,z0,z1,⟨zu,z2⟩,z3,z4,z5,z6,z7,z8,z9⟩))
   have HZ:=Lib.hid z0
   clear z3 z4 z5 z6 z7 z8 z9 z0
   go_wp2_with fail
   go_ret
   exact ⟨rfl,HFin.out _ HZ.out⟩
  ·go_enter Tryz.func194,Tryz.ntmps194
   go_wp2_with fail
   try rw[hw1]
   try clear hw1 hbx
   go_region_held3 (fun W=>W.cell? ⟨bx,0,none⟩=some (.int .i64 38)∧W.cell? ⟨bx,1,none⟩=some (.int .i64 k)∧W.cell? ⟨bx,2,none⟩=some (.int .i64 xb)∧W.cell? ⟨bx,3,none⟩=some (.int .i64 xc)∧W.cell? ⟨bx,4,none⟩=some (.int .u64 xv)∧W.cell? ⟨bx,5,none⟩=some (.int .i64 xm)∧W.cell? ⟨bx,6,none⟩=some (.int .i64 xw)) (first|with_reducible assumption|with_reducible exact ⟨i0,i1,i2,i3,i4,i5,i6⟩ |exact ⟨i0,i1,i2,i3,i4,i5,i6⟩ |with_reducible exact ⟨z3,z4,z5,z6,z7,z8,z9⟩ |with_reducible exact HFar.out _ _ _ ⟨z3,z4,z5,z6,z7,z8,z9⟩)
    (first|(go_at_call 245;refine (HT.out 1).mono ?_;rintro e w5 ⟨rfl,z0,z1,⟨zu,z2⟩,z3,z4,z5,z6,z7,z8,z9⟩))
   have HZ:=Lib.hid z0
   clear z3 z4 z5 z6 z7 z8 z9 z0
   go_wp2_with fail
   go_ret
   exact ⟨rfl,HFin.out _ HZ.out⟩
  ·go_enter Tryz.func194,Tryz.ntmps194
   go_wp2_with fail
   try rw[hw1]
   try clear hw1 hbx
   go_region_held3 (fun W=>W.cell? ⟨bx,0,none⟩=some (.int .i64 39)∧W.cell? ⟨bx,1,none⟩=some (.int .i64 k)∧W.cell? ⟨bx,2,none⟩=some (.int .i64 xb)∧W.cell? ⟨bx,3,none⟩=some (.int .i64 xc)∧W.cell? ⟨bx,4,none⟩=some (.int .u64 xv)∧W.cell? ⟨bx,5,none⟩=some (.int .i64 xm)∧W.cell? ⟨bx,6,none⟩=some (.int .i64 xw)) (first|with_reducible assumption|with_reducible exact ⟨i0,i1,i2,i3,i4,i5,i6⟩ |exact ⟨i0,i1,i2,i3,i4,i5,i6⟩ |with_reducible exact ⟨z3,z4,z5,z6,z7,z8,z9⟩ |with_reducible exact HFar.out _ _ _ ⟨z3,z4,z5,z6,z7,z8,z9⟩)
    (first|(go_at_call 245;refine (HT.out 1).mono ?_;rintro e w5 ⟨rfl,z0,z1,⟨zu,z2⟩,z3,z4,z5,z6,z7,z8,z9⟩))
   have HZ:=Lib.hid z0
   clear z3 z4 z5 z6 z7 z8 z9 z0
   go_wp2_with fail
   go_ret
   exact ⟨rfl,HFin.out _ HZ.out⟩
  ·go_enter Tryz.func194,Tryz.ntmps194
   go_wp2_with fail
   try rw[hw1]
   try clear hw1 hbx
   go_region_held3 (fun W=>W.cell? ⟨bx,0,none⟩=some (.int .i64 47)∧W.cell? ⟨bx,1,none⟩=some (.int .i64 k)∧W.cell? ⟨bx,2,none⟩=some (.int .i64 xb)∧W.cell? ⟨bx,3,none⟩=some (.int .i64 xc)∧W.cell? ⟨bx,4,none⟩=some (.int .u64 xv)∧W.cell? ⟨bx,5,none⟩=some (.int .i64 xm)∧W.cell? ⟨bx,6,none⟩=some (.int .i64 xw)) (first|with_reducible assumption|with_reducible exact ⟨i0,i1,i2,i3,i4,i5,i6⟩ |exact ⟨i0,i1,i2,i3,i4,i5,i6⟩ |with_reducible exact ⟨z3,z4,z5,z6,z7,z8,z9⟩ |with_reducible exact HFar.out _ _ _ ⟨z3,z4,z5,z6,z7,z8,z9⟩)
    (first|(go_at_call 245;refine (HT.out 1).mono ?_;rintro e w5 ⟨rfl,z0,z1,⟨zu,z2⟩,z3,z4,z5,z6,z7,z8,z9⟩))
   have HZ:=Lib.hid z0
   clear z3 z4 z5 z6 z7 z8 z9 z0
   go_wp2_with fail
   go_ret
   exact ⟨rfl,HFin.out _ HZ.out⟩
end
end Go.Proofs.YtaangaogmnlljaaGreatDoor.Kn
