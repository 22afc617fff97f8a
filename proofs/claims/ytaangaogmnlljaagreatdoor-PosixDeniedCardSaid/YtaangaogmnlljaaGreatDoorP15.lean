/- Part 15 of what the proof stands on: KnVmJ, KnFr, KnWkr, KnLift, KnGive, KnEnd, KnTold. -/
import Derived.Deep.RegionLawGrows
import Derived.StillTailTactics
import Derived.Test.YtaangaogmnlljaaGreatDoorP02
import Derived.Test.YtaangaogmnlljaaGreatDoorP09
import Derived.Test.YtaangaogmnlljaaGreatDoorP14
set_option linter.unusedVariables false
namespace Go.Proofs.YtaangaogmnlljaaGreatDoor.Kn
open Go.RowKit Asm
structure FrM (w:World) (own:Own) (b o:Nat) (t:TypeId) (P S:List Value) (tb tk:Tag) (n:Nat) (f:Frame) (bv:Value):Prop where
 lens:Lens w b o t P S f bv
 mine:own b=tb
 row:PRow w own tk 3 1 bv f.back.length (intC f.back)
 ok:FrOk n f
def FrOut (w:World) (own:Own) (b o:Nat) (t:TypeId) (P S:List Value) (tb tk:Tag) (n:Nat) (f':Frame) (w':World):Prop:= ∃own' bv',FrM w' own' b o t P S tb tk n f' bv'∧Touch (fun t=>t=tb∨t=tk) w w' own own'
section
variable {w:World} {own:Own} {b o:Nat} {t:TypeId} {P S:List Value} {tb tk:Tag} {n:Nat} {f:Frame} {bv:Value}
theorem FrM.pc (h:FrM w own b o t P S tb tk n f bv) (hne:tb≠tk) {p:Int} {n':Nat} (hn:n≤n') (hp:0≤p∧p≤4000+n'):FrM (w.setCell ⟨b,o,none⟩ (.int .i64 p)) own b o t P S tb tk n' { f with pc:=p} bv∧Touch (fun t=>t=tb∨t=tk) w (w.setCell ⟨b,o,none⟩ (.int .i64 p)) own own:=by
 have hk:Touch (fun t=>t=tb) w (w.setCell ⟨b,o,none⟩ (.int .i64 p)) own own:=⟨(Keeps.refl _ w).setCell (p:=⟨b,o,none⟩) h.mine _,fun _ _=>rfl⟩
 have ho:=h.ok.more hn
 exact ⟨⟨h.lens.setPc p,h.mine,h.row.move hk (fun e=>hne e.symm),⟨ho.len,ho.r,hp,ho.few,ho.back⟩⟩,hk.mono fun _ e=>Or.inl e⟩
theorem FrM.reg (h:FrM w own b o t P S tb tk n f bv) (hne:tb≠tk) {k:Nat} (hk:k<32) {v:Int} (hv:U64 v):FrM (w.setCell ⟨b,o+1+k,none⟩ (.int .u64 v)) own b o t P S tb tk n { f with r:=f.r.set k v} bv∧Touch (fun t=>t=tb∨t=tk) w (w.setCell ⟨b,o+1+k,none⟩ (.int .u64 v)) own own:=by
 have hk':Touch (fun t=>t=tb) w (w.setCell ⟨b,o+1+k,none⟩ (.int .u64 v)) own own:=⟨(Keeps.refl _ w).setCell (p:=⟨b,o+1+k,none⟩) h.mine _,fun _ _=>rfl⟩
 refine ⟨⟨h.lens.setReg h.ok.len hk v,h.mine,h.row.move hk' (fun e=>hne e.symm),⟨by simp[h.ok.len],fun x hx=>?_,h.ok.pc,h.ok.few,h.ok.back⟩⟩,hk'.mono fun _ e=>Or.inl e⟩
 rcases List.mem_or_eq_of_mem_set hx with hx|hx
 ·exact h.ok.r x hx
 ·rw[hx];exact hv
theorem FrM.move {w':World} {own':Own} {ts:Tag→Prop} (h:FrM w own b o t P S tb tk n f bv) (k:Touch ts w w' own own') (h1: ¬ts tb) (h2: ¬ts tk):FrM w' own' b o t P S tb tk n f bv:=
 ⟨h.lens.of_block (k.at h1 h.mine h.lens.lt).1,(k.at h1 h.mine h.lens.lt).2,h.row.move k h2,h.ok⟩
theorem FrM.below {w':World} (h:FrM w own b o t P S tb tk n f bv) (k:Below w.heap.size w w'):FrM w' own b o t P S tb tk n f bv:=
 ⟨h.lens.of_block (k.block b h.lens.lt),h.mine,⟨Asm.ownsRow_of_block h.row.1 fun c hc=>k.block c (h.row.lt hc),h.row.2⟩,h.ok⟩
theorem FrM.cells (h:FrM w own b o t P S tb tk n f bv):w.cell? ⟨b,o,none⟩=some (.int .i64 f.pc)∧w.cell? ⟨b,o+33,none⟩=some bv∧(∀k,k<32→w.cell? ⟨b,o+1+k,none⟩=some (.int .u64 (f.r.getD k 0)))∧ ∀j,w.frozen? ⟨b,j,none⟩=false:=
 ⟨h.lens.pc,h.lens.bk h.ok.len,fun _ hk=>h.lens.reg h.ok.len hk,h.lens.frozen⟩
theorem FrM.more {n':Nat} (h:FrM w own b o t P S tb tk n f bv) (hn:n≤n'):FrM w own b o t P S tb tk n' f bv:=⟨h.lens,h.mine,h.row,h.ok.more hn⟩
theorem FrOut.refl {n':Nat} (h:FrM w own b o t P S tb tk n f bv) (hn:n≤n'):FrOut w own b o t P S tb tk n' f w:=⟨own,bv,h.more hn,Touch.refl _ _ _⟩
theorem FrOut.alloc {W:World} (h:FrOut w own b o t P S tb tk n f W) (ob:Obj):FrOut w own b o t P S tb tk n f (W.alloc ob):=by
 obtain ⟨own',bv',h1,h2⟩:=h
 exact ⟨own',bv',h1.below ((Below.refl _ _).alloc (Nat.le_refl _) _),h2.keeps.alloc _,h2.own⟩
theorem FrOut.drew {W:World} (h:FrOut w own b o t P S tb tk n f W):FrOut w own b o t P S tb tk n f W.drew:=by
 obtain ⟨own',bv',h1,h2⟩:=h
 exact ⟨own',bv',h1.below (below_drewN _ 1),h2.keeps.drew,h2.own⟩
theorem FrOut.drewN {W:World} (h:FrOut w own b o t P S tb tk n f W) (q:Nat):FrOut w own b o t P S tb tk n f (W.drewN q):=by
 obtain ⟨own',bv',h1,h2⟩:=h
 exact ⟨own',bv',h1.below (below_drewN _ q),h2.keeps.drewN q,h2.own⟩
theorem FrOut.pc {W:World} (h:FrOut w own b o t P S tb tk n f W) (hne:tb≠tk) {p:Int} (hp:0≤p∧p≤4000+n):FrOut w own b o t P S tb tk n { f with pc:=p} (W.setCell ⟨b,o,none⟩ (.int .i64 p)):=by
 obtain ⟨own',bv',h1,h2⟩:=h
 obtain ⟨a1,a2⟩:=h1.pc hne (Nat.le_refl n) hp
 exact ⟨own',bv',a1,h2.trans a2⟩
theorem FrOut.reg {W:World} (h:FrOut w own b o t P S tb tk n f W) (hne:tb≠tk) {k:Nat} (hk:k<32) {v:Int} (hv:U64 v):FrOut w own b o t P S tb tk n { f with r:=f.r.set k v} (W.setCell ⟨b,o+1+k,none⟩ (.int .u64 v)):=by
 obtain ⟨own',bv',h1,h2⟩:=h
 obtain ⟨a1,a2⟩:=h1.reg hne hk hv
 exact ⟨own',bv',a1,h2.trans a2⟩
theorem FrOut.back {W:World} (h:FrOut w own b o t P S tb tk n f W) (hne:tb≠tk) {l:List Int} {v:Value} (hl:l.length≤8) (hx: ∀x∈l,0≤x∧x≤4000+n) (hr: ∀own' bv',FrM W own' b o t P S tb tk n f bv'→Touch (fun t=>t=tb∨t=tk) w W own own'→ ∃own2,PRow W own2 tk 3 1 v l.length (intC l)∧own2 b=tb∧Touch (fun t=>t=tb∨t=tk) w W own own2):FrOut w own b o t P S tb tk n { f with back:=l} (W.setCell ⟨b,o+33,none⟩ v):=by
 obtain ⟨own',bv',h1,h2⟩:=h
 obtain ⟨own2,r1,r2,r3⟩:=hr own' bv' h1 h2
 have hk:Touch (fun t=>t=tb) W (W.setCell ⟨b,o+33,none⟩ v) own2 own2:=⟨(Keeps.refl _ W).setCell (p:=⟨b,o+33,none⟩) r2 _,fun _ _=>rfl⟩
 exact ⟨own2,v,⟨h1.lens.setBk h1.ok.len l v,r2,r1.move hk (fun e=>hne e.symm),⟨h1.ok.len,h1.ok.r,h1.ok.pc,hl,hx⟩⟩,r3.trans (hk.mono fun _ e=>Or.inl e)⟩
theorem PRow.lies {l:List Int} {A:Option Addr} {c:Nat} (h:PRow w own tk 3 1 (.slice A l.length c) l.length (intC l)): ∀W,Below w.heap.size w W→ ∀a,A=some a→ ∀j u,(intC l)[j]?=some u→W.cell? (a.add j)=some u:=by
 intro W hW a ha j u hu
 subst ha
 have hg:(Value.slice (some a) l.length c).ownBlock=some a.block:=rfl
 have h0:a=⟨a.block,0,none⟩:=by
  rcases h.1.2 with ⟨e,_⟩ |⟨g,cp,cur,e,_⟩
  ·cases e
  ·injection e with e;injection e with e;rw[e]
 have hc:=h.1.cells hg j u hu
 rw[←h0] at hc
 refine (hW.cell (p:=a.add j) ?_).trans hc
 have e:(a.add j).block=a.block:=by rw[h0,Addr.add_lit]
 rw[e]
 exact h.lt hg
theorem infoInt:(Tryz.prog.info? 3).map (fun i=>(i.zero,i.size,i.bytes))=some (some (.int .i64 0),1,8):=by kernel_rfl
theorem jsr_back {w1 w2:World} (h:FrOut w own b o t P S tb tk n f w1) (hne:tb≠tk) (hl:f.back.length<8) {fp:Int} (hfp:f.pc=fp) (hp:0≤fp∧fp+1≤4000+n) (hk:Keeps (fun _=>False) w1 w2) {base:Nat} {v:Value} (hb:w1.heap.size≤base) (hr:w2.ownsRow base 3 1 v (f.back.length+1) (intC f.back++ [.int .i64 (fp+1)])):
  FrOut w own b o t P S tb tk n { f with back:=f.back++ [f.pc+1]} (w2.setCell ⟨b,o+33,none⟩ v):=by
 obtain ⟨own',bv',h1,h2⟩:=h
 have hT:Touch (fun _=>False) w1 w2 own' own':=⟨hk,fun _ _=>rfl⟩
 have h2':FrOut w own b o t P S tb tk n f w2:=⟨own',bv',h1.move hT id id,h2.trans (hT.mono fun _ e=>e.elim)⟩
 refine h2'.back hne (by simp;omega) (fun x hx=>?_) fun own3 bv3 h3 h4=>?_
 ·rcases List.mem_append.1 hx with hx|hx
  ·exact h1.ok.back x hx
  ·simp at hx;rw[hx,hfp];omega
 ·have hlt: ∀c,v.ownBlock=some c→base≤c∧c<w2.heap.size:=hr.lt
  refine ⟨fun c=>if v.ownBlock=some c then tk else own3 c,⟨?_,fun c hc=>if_pos hc⟩,?_,?_⟩
  ·rw[List.length_append,List.length_singleton,hfp]
   have e:intC (f.back++ [fp+1])=intC f.back++ [.int .i64 (fp+1)]:=by simp[intC]
   rw[e]
   exact ⟨hr.1,hr.2.elim Or.inl fun ⟨g,cp,cur,a1,_,a2⟩=>Or.inr ⟨g,cp,cur,a1,Nat.zero_le _,a2⟩⟩
  ·show (if v.ownBlock=some b then tk else own3 b)=tb
   rw[if_neg (fun hc=>?_)]
   ·exact h3.mine
   ·have:=h1.lens.lt
    have:=(hlt b hc).1
    omega
  ·refine ⟨h4.keeps,fun c hc=>?_⟩
   show (if v.ownBlock=some c then tk else own3 c)=own c
   rw[if_neg (fun hv=>?_)]
   ·exact h4.own c hc
   ·have:=(hlt c hv).1
    have:=h2.keeps.size
    omega
set_option maxRecDepth 100000 in
set_option maxHeartbeats 1000000 in
theorem jump_any (h:FrM w own b o t P S tb tk n f bv) (hne:tb≠tk) (x:InsL) (ho:12≤x.op∧x.op≤16) (hv:0≤x.v∧x.v≤4000) (ha:0≤x.a∧x.a<32) (hn:n≤100000):
  Calls Tryz.prog 249 #[.pointer (some ⟨b,o,none⟩), .agg (insV x)] w fun e w'=>e= .returned (.int .i64 (jumpK f x).1)∧FrOut w own b o t P S tb tk (n+1) (jumpK f x).2 w':=by
 obtain ⟨xo,xa,xb,xc,xv,xm,xw⟩:=x
 simp only at ho hv ha
 unfold insV
 obtain ⟨c0,c33,creg,cf⟩:=h.cells
 obtain ⟨A,cp,hbv⟩:=Asm.own_shape h.row.1
 obtain ⟨L,hL⟩: ∃L,L=f.back.length:=⟨_,rfl⟩
 have hL8:(L:Int)≤8:=by have:=h.ok.few;omega
 rw[hbv,←hL] at c33
 have hpc:=h.ok.pc
 have hbl:=h.lens.lt
 have H:=Lib.hid h
 have HL:=Lib.hid hL
 have HBv:=Lib.hid hbv
 have e:xo=12∨xo=13∨xo=14∨xo=15∨xo=16:=by omega
 have hxw:wrap64 xv=xv:=by simp only[wrap64];omega
 clear h hbv hL
 generalize hfp:f.pc=fp at*
 have HFp:=Lib.hid hfp
 clear hfp
 have hB: ∀ob,Below w.heap.size w (w.alloc ob):=fun ob=>(Below.refl _ w).alloc (Nat.le_refl _) _
 have HB:=Lib.hid hB
 clear hB
 rcases e with rfl|rfl|rfl|rfl|rfl
 ·go_enter Tryz.func249,Tryz.ntmps249
  go_wp2_with fail
  go_ret
  refine ⟨rfl,?_⟩
  show FrOut w own b o t P S tb tk (n+1) { f with pc:=xv} _
  (repeat first|exact FrOut.refl H.out (Nat.le_succ n) |refine FrOut.alloc ?_ _|refine FrOut.drewN ?_ _|refine FrOut.drew ?_|refine FrOut.pc ?_ hne (by omega))
 ·obtain ⟨k,rfl⟩:=Int.eq_ofNat_of_zero_le ha.1
  have hk:k<32:=by omega
  have ck:=creg k hk
  have ek:rg f (k:Int)=f.r.getD k 0:=rfl
  have hps:wrap64 (fp+1)=fp+1:=by simp only[wrap64];omega
  have E1:Hid (jumpK f ⟨13,k,xb,xc,xv,xm,xw⟩=(0,{ f with pc:=if rg f k=0 then xv else fp+1})):=Lib.hid (by unfold jumpK;simp only[HFp.out];by_cases h0:rg f k=0<;>simp[h0])
  rw[ek] at E1
  clear creg ek
  generalize f.r.getD k 0=rk at*
  by_cases h0:rk=0
  ·subst h0
   rw[if_pos rfl] at E1
   go_enter Tryz.func249,Tryz.ntmps249
   go_wp2_with fail
   go_quiet (fail)
   go_wp2_with fail
   go_ret
   rw[E1.out]
   refine ⟨rfl,?_⟩
   show FrOut w own b o t P S tb tk (n+1) { f with pc:=xv} _
   (repeat first|exact FrOut.refl H.out (Nat.le_succ n) |refine FrOut.alloc ?_ _|refine FrOut.drewN ?_ _|refine FrOut.drew ?_|refine FrOut.pc ?_ hne (by omega))
  ·have hb0:(rk==0)=false:=by simp[h0]
   rw[if_neg h0] at E1
   go_enter Tryz.func249,Tryz.ntmps249
   go_wp2_with fail
   go_quiet (fail)
   go_wp2_with fail
   go_ret
   rw[E1.out]
   refine ⟨rfl,?_⟩
   show FrOut w own b o t P S tb tk (n+1) { f with pc:=fp+1} _
   (repeat first|exact FrOut.refl H.out (Nat.le_succ n) |refine FrOut.alloc ?_ _|refine FrOut.drewN ?_ _|refine FrOut.drew ?_|refine FrOut.pc ?_ hne (by omega))
 ·obtain ⟨k,rfl⟩:=Int.eq_ofNat_of_zero_le ha.1
  have hk:k<32:=by omega
  have ck:=creg k hk
  have ek:rg f (k:Int)=f.r.getD k 0:=rfl
  have hps:wrap64 (fp+1)=fp+1:=by simp only[wrap64];omega
  have E1:Hid (jumpK f ⟨14,k,xb,xc,xv,xm,xw⟩=(0,{ f with pc:=if rg f k=0 then fp+1 else xv})):=Lib.hid (by unfold jumpK;simp only[HFp.out];by_cases h0:rg f k=0<;>simp[h0])
  rw[ek] at E1
  clear creg ek
  generalize f.r.getD k 0=rk at*
  by_cases h0:rk=0
  ·subst h0
   rw[if_pos rfl] at E1
   go_enter Tryz.func249,Tryz.ntmps249
   go_wp2_with fail
   go_quiet (fail)
   go_wp2_with fail
   go_ret
   rw[E1.out]
   refine ⟨rfl,?_⟩
   show FrOut w own b o t P S tb tk (n+1) { f with pc:=fp+1} _
   (repeat first|exact FrOut.refl H.out (Nat.le_succ n) |refine FrOut.alloc ?_ _|refine FrOut.drewN ?_ _|refine FrOut.drew ?_|refine FrOut.pc ?_ hne (by omega))
  ·have hb0:(rk==0)=false:=by simp[h0]
   rw[if_neg h0] at E1
   go_enter Tryz.func249,Tryz.ntmps249
   go_wp2_with fail
   go_quiet (fail)
   go_wp2_with fail
   go_ret
   rw[E1.out]
   refine ⟨rfl,?_⟩
   show FrOut w own b o t P S tb tk (n+1) { f with pc:=xv} _
   (repeat first|exact FrOut.refl H.out (Nat.le_succ n) |refine FrOut.alloc ?_ _|refine FrOut.drewN ?_ _|refine FrOut.drew ?_|refine FrOut.pc ?_ hne (by omega))
 ·by_cases h8:L=8
  ·have E1:Hid (jumpK f ⟨15,xa,xb,xc,xv,xm,xw⟩=(3,f)):=Lib.hid (by unfold jumpK;simp[←HL.out,h8])
   subst h8
   go_enter Tryz.func249,Tryz.ntmps249
   go_wp2_with fail
   go_ret
   rw[E1.out]
   refine ⟨rfl,?_⟩
   (repeat first|exact FrOut.refl H.out (Nat.le_succ n) |refine FrOut.alloc ?_ _|refine FrOut.drewN ?_ _|refine FrOut.drew ?_|refine FrOut.pc ?_ hne (by omega))
  ·have hL7:(L:Int)<8:=by omega
   go_enter Tryz.func249,Tryz.ntmps249
   go_wp2_with fail
   have hwr:wrap64 (fp+1)=fp+1:=by simp only[wrap64];omega
   have hwr2:IntKind.i64.wrap (fp+1)=fp+1:=by simp[IntKind.wrap,IntKind.bits,IntKind.signed];omega
   generalize hw1:w.alloc _=w1
   have hb1:Below w.heap.size w w1:=by rw[←hw1];exact (Below.refl _ _).alloc (Nat.le_refl _) _
   have HF1:Hid (FrOut w own b o t P S tb tk (n+1) f w1):=Lib.hid (by rw[←hw1];exact (FrOut.refl H.out (Nat.le_succ n)).alloc _)
   have bx:w1.cell? ⟨w.heap.size,4,none⟩=some (.int .u64 xv):=by rw[←hw1];exact World.cell?_alloc_at _ _ _ _ rfl
   have hBs:w.heap.size<w1.heap.size:=by rw[←hw1];simp
   have HBs:=Lib.hid hBs
   have d0:w1.drew.cell? ⟨b,o,none⟩=some (.int .i64 fp):=(hb1.cell (p:=⟨b,o,none⟩) hbl).trans c0
   have d33:w1.drew.cell? ⟨b,o+33,none⟩=some (.slice A L cp):=(hb1.cell (p:=⟨b,o+33,none⟩) hbl).trans c33
   have e0:w1.cell? ⟨b,o,none⟩=some (.int .i64 fp):=d0
   have e33:w1.cell? ⟨b,o+33,none⟩=some (.slice A L cp):=d33
   have hLc:(L:Int)≤(cp:Int):=by
    rcases (HBv.out▸H.out.row.1).2 with ⟨e,e2⟩ |⟨g,c,cur,e,_,_,hc,_⟩
    ·have:=HL.out;omega
    ·injection e with _ _ e3;have:=HL.out;omega
   have hbl1:b<w1.heap.size:=Nat.lt_of_lt_of_le hbl hb1.size
   have fr1: ∀j,w1.frozen? ⟨b,j,none⟩=false:=fun j=>(World.frozen?_of_block (a:=⟨b,j,none⟩) (hb1.block b hbl)).trans (cf j)
   have HB1:=Lib.hid (show b<w1.heap.size∧(∀j,w1.frozen? ⟨b,j,none⟩=false)∧Below w.heap.size w w1 from ⟨hbl1,fr1,hb1⟩)
   have hrow:=H.out.row
   rw[HBv.out] at hrow
   have HOld:=Lib.hid hrow.lies
   have HN:Hid (A=none→L=0∧L=0):=Lib.hid fun e=>by
    subst e
    rcases hrow.1.2 with ⟨_,e2⟩ |⟨g,c,cur,e,_⟩
    ·rw[HL.out];exact ⟨e2,e2⟩
    ·injection e with e;cases e
   have HOl:Hid ((intC f.back).length=L*1):=Lib.hid (by simp[intC,HL.out])
   have HM:Hid (L<L+1∧L+1≤maxLen∧(L+1)*8≤140737488355328):=Lib.hid ⟨by omega,by unfold maxLen;omega,by omega⟩
   have HNw:Hid (∀j u,[Value.int .i64 (fp+1)][j]?=some u→(w1.drew.alloc (.cells #[.int .i64 (fp+1)] 3)).cell? ((⟨w1.heap.size,0,none⟩:Addr).add j)=some u):=Lib.hid fun j u hu=>by
    cases j with
    |zero=>simp at hu;subst hu;exact World.cell?_alloc_at _ _ _ _ rfl
    |succ j=>simp at hu
   have HBa:Hid (Below w.heap.size w (w1.drew.alloc (.cells #[.int .i64 (fp+1)] 3))):=Lib.hid (hb1.drew.alloc hb1.size _)
   have hkk:Keeps (fun _=>False) w1 (w1.drew.alloc (.cells #[.int .i64 (fp+1)] 3)):=(Keeps.refl _ w1).drew.alloc _
   have HKk:=Lib.hid hkk
   obtain ⟨ii,hii,hzi,hsi,hbi⟩:=info_parts infoInt
   have E1:Hid (jumpK f ⟨15,xa,xb,xc,xv,xm,xw⟩=(0,{ f with pc:=xv,back:=f.back++ [f.pc+1]})):=Lib.hid (by unfold jumpK;simp;have:=HL.out;omega)
   have hLcN:L≤cp:=by omega
   clear hw1 hb1 hLc fr1 hrow hkk
   go_region_law (first|(refine step_append_grows rfl (.tmp 51) (.tmp 57) 89 rfl 3 ii (.int .i64 0) 1 8 Tryz.underlying89 hii hzi hsi hbi rfl (by decide) A L L (intC f.back) rfl HN.out HOl.out (HOld.out _ HBa.out) ⟨w1.heap.size,0,none⟩ 1 1 [.int .i64 (fp+1)] rfl rfl HNw.out (by intro u hu;simp at hu;subst hu;rfl) HM.out.1 HM.out.2.1 HM.out.2.2 ?_;intro v' w2 hown hgrow;obtain ⟨A',c',rfl⟩:=Asm.own_shape hown;have fr2:=(World.frozen?_of_block (a:=⟨b,o+33,none⟩) ((hgrow.block b (Nat.lt_of_lt_of_le HB1.out.1 HKk.out.size) (fun e=>by cases e)).trans (HKk.out.block b HB1.out.1 id))).trans (HB1.out.2.1 _);have cc2:=(World.cell?_of_block (a:=⟨b,o+33,none⟩) ((hgrow.block b (Nat.lt_of_lt_of_le HB1.out.1 HKk.out.size) (fun e=>by cases e)).trans (HKk.out.block b HB1.out.1 id))).trans d33;have hbb2:=(hgrow.block b (Nat.lt_of_lt_of_le HB1.out.1 HKk.out.size) (fun e=>by cases e)).trans (HKk.out.block b HB1.out.1 id);have fr3:=(World.frozen?_of_block (a:=⟨b,o,none⟩) hbb2).trans (HB1.out.2.1 _);have cc3:=(World.cell?_of_block (a:=⟨b,o,none⟩) hbb2).trans e0;clear hbb2;have bx2:=(World.cell?_of_block (a:=⟨w.heap.size,4,none⟩) ((hgrow.block w.heap.size (Nat.lt_of_lt_of_le HBs.out HKk.out.size) (fun e=>by cases e)).trans (HKk.out.block w.heap.size HBs.out id))).trans bx;have HOwn:=Lib.hid hown;have HGr:=Lib.hid hgrow;clear hown hgrow))
   all_goals
    go_wp2_with fail
    go_ret
    rw[E1.out]
    refine ⟨rfl,?_⟩
    show FrOut w own b o t P S tb tk (n+1) { f with pc:=xv,back:=f.back++ [f.pc+1]} _
    have hg:=HGr.out
    have hfin:FrOut w own b o t P S tb tk (n+1) { f with back:=f.back++ [f.pc+1]} (w2.setCell ⟨b,o+33,none⟩ (.slice A' (L+1) c')):=by
     have hr:=HOwn.out
     rw[HL.out] at hr
     have hsz:w1.heap.size≤(w1.alloc (.cells #[.int .i64 (fp+1)] 3)).drew.heap.size:=by show _≤(w1.alloc _).heap.size;simp
     have:=jsr_back HF1.out hne (by rw[←HL.out];omega) HFp.out (by omega) (Keeps.grown ((Keeps.refl (fun _=>False) w1).alloc (.cells #[.int .i64 (fp+1)] 3)).drew hg (fun _ e=>by cases e)) hsz hr
     rw[←HL.out] at this
     exact this
    exact FrOut.pc hfin hne (by omega)
 ·by_cases h0:L=0
  ·have E1:Hid (jumpK f ⟨16,xa,xb,xc,xv,xm,xw⟩=(2,f)):=Lib.hid (by
    unfold jumpK
    have:f.back= []:=List.eq_nil_of_length_eq_zero (by rw[←HL.out];exact h0)
    simp[this])
   subst h0
   go_enter Tryz.func249,Tryz.ntmps249
   go_wp2_with fail
   go_ret
   rw[E1.out]
   refine ⟨rfl,?_⟩
   (repeat first|exact FrOut.refl H.out (Nat.le_succ n) |refine FrOut.alloc ?_ _|refine FrOut.drewN ?_ _|refine FrOut.drew ?_|refine FrOut.pc ?_ hne (by omega))
  ·obtain ⟨l,hLl⟩: ∃l,L=l+1:=⟨L - 1,by omega⟩
   have hrow:=H.out.row
   rw[HBv.out] at hrow
   obtain ⟨g,hA⟩: ∃g,A=some ⟨g,0,none⟩:=by
    rcases hrow.1.2 with ⟨_,e2⟩ |⟨g,c,cur,e,_⟩
    ·have:=HL.out;omega
    ·injection e with e;exact ⟨g,e⟩
   subst hA
   obtain ⟨p,hp⟩: ∃p,p=f.back.getD l 0:=⟨_,rfl⟩
   have hll:l<f.back.length:=by rw[←HL.out];omega
   have hpm:p∈f.back:=by rw[hp,List.getD_eq_getElem?_getD,List.getElem?_eq_getElem hll];exact List.getElem_mem hll
   have hpr:=H.out.ok.back p hpm
   have hgl:g<w.heap.size:=hrow.lt rfl
   have cg:w.cell? ⟨g,l,none⟩=some (.int .i64 p):=by
    have:=hrow.lies w (Below.refl _ _) _ rfl l (.int .i64 p) (by
     unfold intC
     rw[List.getElem?_map,List.getElem?_eq_getElem hll,hp,List.getD_eq_getElem?_getD,List.getElem?_eq_getElem hll]
     rfl)
    rwa[Addr.add_lit,Nat.zero_add] at this
   have hgb:g≠b:=fun e=>hne (by rw[←H.out.mine,←hrow.2 g rfl,e])
   have E1:Hid (jumpK f ⟨16,xa,xb,xc,xv,xm,xw⟩=(0,{ f with pc:=p,back:=f.back.dropLast})):=Lib.hid (by
    unfold jumpK
    have hn0:f.back≠ []:=fun e=>by rw[e] at hll;simp at hll
    have:f.back.getLast?=some p:=by
     rw[List.getLast?_eq_getElem?,←HL.out,show L - 1=l by omega,List.getElem?_eq_getElem hll,hp,List.getD_eq_getElem?_getD,List.getElem?_eq_getElem hll]
     rfl
    simp[this])
   have hLc:L≤cp:=by
    rcases hrow.1.2 with ⟨e,_⟩ |⟨g',c,cur,e,_,_,hc,_⟩
    ·cases e
    ·injection e with _ _ e3;have:=HL.out;omega
   have hw1:(L:Int) - 1=(l:Int):=by omega
   have hne0:((L:Int)==0)=false:=beq_eq_false_iff_ne.2 (by omega)
   have hlc:(l:Int)<(L:Int):=by omega
   have hlN:l≤cp:=by omega
   have HLL:=Lib.hid hLl
   have HRow:=Lib.hid hrow
   have HLl:=Lib.hid hll
   clear hp hpm hll hrow hLl
   go_enter Tryz.func249,Tryz.ntmps249
   go_wp2_with fail
   go_ret
   rw[E1.out]
   refine ⟨rfl,?_⟩
   show FrOut w own b o t P S tb tk (n+1) { f with pc:=p,back:=f.back.dropLast} _
   refine FrOut.alloc ?_ _
   have h1:FrOut w own b o t P S tb tk (n+1) { f with pc:=p} (w.setCell ⟨b,o,none⟩ (.int .i64 p)):=(FrOut.refl H.out (Nat.le_succ n)).pc hne (by omega)
   have hbl:f.back.length=l+1:=by rw[←HL.out,HLL.out]
   refine h1.back hne (by have:=H.out.ok.few;simp;omega) (fun x hx=>?_) fun own3 bv3 h3 h4=>⟨own,⟨?_,HRow.out.2⟩,H.out.mine,⟨(Keeps.refl _ w).setCell (p:=⟨b,o,none⟩) (Or.inl H.out.mine) _,fun _ _=>rfl⟩⟩
   ·have:=H.out.ok.back x (List.dropLast_subset _ hx);omega
   ·have hr:(w.setCell ⟨b,o,none⟩ (.int .i64 p)).ownsRow 0 3 1 (.slice (some ⟨g,0,none⟩) f.back.length cp) f.back.length (intC f.back):=Asm.ownsRow_of_block HRow.out.1 fun c hc=>set_other (fun e=>hgb (by
     have:c=g:=by injection hc with hc;exact hc.symm
     rw[←this];exact e))
    have hp:=own_prefix hr l (by omega)
    have e1:f.back.dropLast.length=l:=by simp[hbl]
    have e2:intC f.back.dropLast=(intC f.back).take (l*1):=by
     rw[List.dropLast_eq_take,hbl,Nat.mul_one]
     show List.map _ _=(List.map _ _).take _
     rw[List.map_take]
     rfl
    show World.ownsRow _ 0 3 1 _ f.back.dropLast.length (intC f.back.dropLast)
    rw[e1,e2]
    exact hp
end
end Go.Proofs.YtaangaogmnlljaaGreatDoor.Kn
namespace Go.Proofs.YtaangaogmnlljaaGreatDoor.Kn
open Go.RowKit Asm
section
variable {F:Fixed} {w:World} {own:Own} {G:KG} {M:Mach} {n:Nat}
theorem KernP.moved {w':World} {own':Own} {ts:Tag→Prop} {n':Nat} (h:KernP F w own G M n) (hn:n≤n') (k:Touch ts w w' own own') (hts: ∀t,ts t→t= .mem∨ofRuns t∨ofWk t) {m:Mem} {rs:List Run} {ws:List Wkr} {tb:Int→Nat} {fb:Int→Nat→Nat} (hl:ws.length=M.wkrs.length) (hm:PMem w' own' G.X m) (hr:PRuns w' own' G.th tb fb rs n') (hw:PWk w' own' G.gW ws n'):KernP F w' own' { G with tb:=tb,fb:=fb} { M with mem:=m,runs:=rs,wkrs:=ws} n':=
 let h:=h.more hn
 have no: ∀t,¬(t= .mem∨ofRuns t∨ofWk t)→ ¬ts t:=fun t ht e=>ht (hts t e)
 have q: ∀t,t≠ .mem→ ¬ofRuns t→ ¬ofWk t→ ¬ts t:=fun t h1 h2 h3=>no t fun e=>e.elim h1 fun e=>e.elim h2 h3
 ⟨h.fok,⟨h.num.entries,h.num.pos,h.num.w,h.num.draw,hl.trans h.num.wk,h.num.out⟩,⟨(h.k.move k (q _ nofun id id) (q _ nofun id id)).mine,by obtain ⟨C,ov,a,b,c⟩:=(h.k.move k (q _ nofun id id) (q _ nofun id id)).obj;exact ⟨C,ov,a,⟨b.size,b.lib,b.loop,b.calls,b.code,b.wide,b.narrow,b.rows,b.mem,b.alc,b.clk,b.ring,b.wq,b.tab,b.obj,b.th,b.wk,b.entries,b.pos,b.w,b.draw,b.out⟩,c⟩⟩,
  ⟨(h.fix.move k (q _ nofun id id)).lib,(h.fix.move k (q _ nofun id id)).calls,(h.fix.move k (q _ nofun id id)).code⟩,hm,h.alc.move k (q _ nofun id id),h.clk.move k (q _ nofun id id),h.ring.move k (q _ nofun id id),h.wq.move k (q _ nofun id id),h.tab.move k (q _ nofun id id),h.obj.move k (q _ nofun id id),hr,hw⟩
theorem wk38_len (p:Wkr×Value) (h:p.1.f.r.length=32):(wk38 p).length=38:=by simp[wk38,frC,h]
theorem PWk.at {gW:Nat} {l:List Wkr} (h:PWk w own gW l n) {i:Nat} (hi:i<l.length): ∃(P S:List Value) (bv:Value),FrM w own gW (i*38+4) 166 (P++ [.int .u64 (l.getD i {}).slot, .int .u64 (l.getD i {}).hand, .bool (l.getD i {}).parked, .int .i64 (l.getD i {}).left]) S .wk (.wback i) n (l.getD i {}).f bv∧P.length=i*38∧WkOk n (l.getD i {})∧
  ∀(w':World) (own':Own) (n':Nat) (ts:Tag→Prop) (k':Wkr) (bv':Value),n≤n'→Touch ts w w' own own'→(∀j,j≠i→ ¬ts (.wback j))→own' gW= .wk→w'.heap[gW]?=some (.cells (P++wk38 (k',bv')++S).toArray 166 (0,0))→WkOk n' k'→PRow w' own' (.wback i) 3 1 bv' k'.f.back.length (intC k'.f.back)→PWk w' own' gW (l.set i k') n':=by
 obtain ⟨h0,L,h1,h2,h3⟩:=h
 have hlen:L.length=l.length:=by rw[←h1];simp
 have hiL:i<L.length:=by omega
 obtain ⟨hok,hrow⟩:=h3 i L[i] (List.getElem?_eq_getElem hiL)
 have e0:l.getD i {}=L[i].1:=by
  rw[List.getD_eq_getElem?_getD,←h1,List.getElem?_map,List.getElem?_eq_getElem hiL];rfl
 have hall: ∀p∈L,(wk38 p).length=38:=fun p hp=>by
  obtain ⟨j,hj,e⟩:=List.getElem_of_mem hp
  have:=(h3 j p (by rw[List.getElem?_eq_getElem hj,e])).1
  exact wk38_len p this.f.len
 have hpl: ∀K:List (Wkr×Value),(∀p∈K,(wk38 p).length=38)→(K.flatMap wk38).length=K.length*38:=fun K=>by
  induction K with
  |nil=>intro _;rfl
  |cons a K ih=>
   intro hK
   rw[List.flatMap_cons,List.length_append,ih fun p hp=>hK p (List.mem_cons_of_mem _ hp),hK a List.mem_cons_self,List.length_cons]
   omega
 have hP:((L.take i).flatMap wk38).length=i*38:=by
  rw[hpl _ fun p hp=>hall p (List.mem_of_mem_take hp),List.length_take,Nat.min_eq_left (by omega)]
 rw[e0]
 refine ⟨(L.take i).flatMap wk38,(L.drop (i+1)).flatMap wk38,L[i].2,⟨⟨?_,by simp[hP]⟩,h0,hrow,hok.f⟩,hP,hok,fun w' own' n' ts k' bv' hn k hts hown hobj hk' hr'=>?_⟩
 ·rw[h2]
  have:=flL_mid (f:=wk38) L i hiL
  rw[this]
  simp[wk38,List.append_assoc]
 ·refine ⟨hown,L.set i (k',bv'),?_,?_,fun j p hp=>?_⟩
  ·rw[List.map_set,h1]
  ·rw[hobj,flL_put L i hiL (k',bv')]
  ·rw[List.getElem?_set] at hp
   by_cases e:i=j
   ·subst e
    rw[if_pos rfl,if_pos hiL] at hp
    injection hp with hp
    subst hp
    exact ⟨hk',hr'⟩
   ·rw[if_neg e] at hp
    obtain ⟨a,b⟩:=h3 j p hp
    exact ⟨⟨a.slot,a.hand,a.left,a.f.more hn⟩,b.move k (hts j (Ne.symm e))⟩
theorem KernP.frame_wk (h:KernP F w own G M n) {i:Nat} (hi:i<F.workers): ∃(P S:List Value) (bv:Value),FrM w own G.gW (i*38+4) 166 P S .wk (.wback i) n (wkrOf M i).f bv∧
  ∀(w':World) (own':Own) (n':Nat) (f':Frame) (bv':Value) (m':Mem),n≤n'→Touch (fun t=>t= .wk∨t= .wback i∨t= .mem) w w' own own'→FrM w' own' G.gW (i*38+4) 166 P S .wk (.wback i) n' f' bv'→PMem w' own' G.X m'→KernP F w' own' G (setF { M with mem:=m'} i none f') n':=by
 have hlen:i<M.wkrs.length:=by rw[h.num.wk];exact hi
 obtain ⟨P,S,bv,h1,h2,h3,h4⟩:=h.wk.at hlen
 refine ⟨_,S,bv,h1,fun w' own' n' f' bv' m' hn k hf hm=>?_⟩
 refine h.moved (m:=m') (rs:=M.runs) (ws:=M.wkrs.set i { wkrOf M i with f:=f'}) hn k (fun t ht=>?_) (by simp) hm ((h.runs.move k ⟨fun e=>(by rcases e with e|e|e<;>cases e),fun _=>⟨fun e=>(by rcases e with e|e|e<;>cases e),fun e=>(by rcases e with e|e|e<;>cases e),fun _=>⟨fun e=>(by rcases e with e|e|e<;>cases e),fun e=>(by rcases e with e|e|e<;>cases e)⟩⟩⟩).more hn) ?_
 ·rcases ht with rfl|rfl|rfl
  ·exact Or.inr (Or.inr trivial)
  ·exact Or.inr (Or.inr trivial)
  ·exact Or.inl rfl
 ·refine h4 w' own' n' _ { wkrOf M i with f:=f'} bv' hn k (fun j hj e=>by rcases e with e|e|e<;>cases e;exact hj rfl) hf.mine ?_ ⟨h3.slot,h3.hand,h3.left,hf.ok⟩ hf.row
  rw[hf.lens.obj]
  simp[wk38,List.append_assoc,wkrOf]
theorem setRun_mem' {l:List Run} {r x:Run} (h:x∈setRun l r):x=r∨(x∈l∧x.id≠r.id):=by
 unfold setRun at h
 obtain ⟨s,hs,e⟩:=List.mem_map.1 h
 split at e
 ·exact Or.inl e.symm
 ·rename_i hne
  exact Or.inr ⟨e▸hs,e▸fun e2=>hne (by simp[e2])⟩
def onFr (id:Int) (j:Nat) (t:Tag):Prop:=t= .fr id j∨t= .back id j∨t= .mem
theorem PRuns.setRun {w':World} {own':Own} {ts:Tag→Prop} {n':Nat} {th:Nat} {tb:Int→Nat} {fb:Int→Nat→Nat} {l:List Run} (h:PRuns w own th tb fb l n) {r r':Run} (hr:runOf l r.id=some r) (hid:r'.id=r.id) (hn:n≤n') (k:Touch ts w w' own own') (hmap: ¬ts .map) (hts: ∀x,x≠r.id→ ¬ts (.thr x)∧ ¬ts (.row x)∧ ∀i,¬ts (.fr x i)∧ ¬ts (.back x i)) (hp:RunP w' own' tb fb r' n'):PRuns w' own' th tb fb (setRun l r') n':=by
 obtain ⟨N,hm,hN⟩:=h.map
 have hr':runOf l r'.id=some r:=by rw[hid];exact hr
 refine ⟨by rw[setRun_ids];exact h.nod,(k.at hmap h.mine hm.lt).2,⟨N,(hm.of_block (k.at hmap h.mine hm.lt).1).same fun x _=>?_,by omega⟩,fun x hx=>?_⟩
 ·rw[runOf_setRun h.nod hr']
  split
  ·rename_i e;rw[e,hr'];rfl
  ·rfl
 ·rcases setRun_mem' hx with e|⟨hm,hne⟩
  ·rw[e];exact hp
  ·rw[hid] at hne
   obtain ⟨a,b,c⟩:=hts x.id hne
   exact ((h.each x hm).move k a b (fun i=>(c i).1) fun i=>(c i).2).more hn
theorem fptrs_len {fb:Int→Nat→Nat} {r r':Run} (h:r'.l.length=r.l.length) (hid:r'.id=r.id):fptrs fb r'=fptrs fb r:=by unfold fptrs;rw[h,hid]
theorem KernP.frame_run (h:KernP F w own G M n) {id:Int} {r:Run} (hr:runOf M.runs id=some r) {j:Nat} {fr:Fr} (hj:r.l[j]?=some fr): ∃(bv:Value),FrM w own (G.fb id j) 0 284 [] [.bool fr.lib, .int .i64 fr.num] (.fr id j) (.back id j) n fr.f bv∧
  ∀(w':World) (own':Own) (n':Nat) (f':Frame) (bv':Value) (m':Mem),n≤n'→Touch (onFr id j) w w' own own'→FrM w' own' (G.fb id j) 0 284 [] [.bool fr.lib, .int .i64 fr.num] (.fr id j) (.back id j) n' f' bv'→PMem w' own' G.X m'→KernP F w' own' G { M with mem:=m',runs:=setRun M.runs { r with l:=r.l.set j { fr with f:=f'}}} n':=by
 obtain ⟨hm,rfl⟩:=runOf_mem hr
 have hP:=h.runs.each r hm
 have hF:=hP.frs j fr hj
 obtain ⟨bv,ho,hrow⟩:=hF.obj
 refine ⟨bv,⟨⟨by simpa using ho,rfl⟩,hF.mine,hrow,hF.ok⟩,fun w' own' n' f' bv' m' hn k hf hmm=>?_⟩
 have hno: ∀t,t≠ .fr r.id j→t≠ .back r.id j→t≠ .mem→ ¬onFr r.id j t:=fun t a b c e=>e.elim a fun e=>e.elim b c
 refine h.moved (m:=m') (rs:=Kn.setRun M.runs { r with l:=r.l.set j { fr with f:=f'}}) (ws:=M.wkrs) hn k (fun t ht=>?_) rfl hmm ?_ ((h.wk.move k ⟨hno _ nofun nofun nofun,fun _=>hno _ nofun nofun nofun⟩).more hn)
 ·rcases ht with rfl|rfl|rfl
  ·exact Or.inr (Or.inl trivial)
  ·exact Or.inr (Or.inl trivial)
  ·exact Or.inl rfl
 ·refine h.runs.setRun hr rfl hn k (hno _ nofun nofun nofun) (fun x hx=>⟨hno _ nofun nofun nofun,hno _ nofun nofun nofun,fun i=>⟨hno _ (fun e=>by injection e with e;exact hx e) nofun nofun,hno _ nofun (fun e=>by injection e with e;exact hx e) nofun⟩⟩) ?_
  obtain ⟨lv,o1,o2⟩:=hP.obj
  have hjl:j<r.l.length:=(List.getElem?_eq_some_iff.1 hj).1
  refine ⟨(k.at (hno (.thr r.id) nofun nofun nofun) hP.mine (blk_in o1)).2,hP.id,hP.woken,by simpa using hP.few,⟨lv,(k.at (hno (.thr r.id) nofun nofun nofun) hP.mine (blk_in o1)).1.trans o1,?_⟩,fun i fx hi=>?_⟩
  ·have:=o2.move k (hno (.row r.id) nofun nofun nofun)
   rw[fptrs_len (r':={ r with l:=r.l.set j { fr with f:=f'}}) (r:=r) (by simp) rfl]
   show PRow w' own' (.row r.id) _ 1 lv (r.l.set j { fr with f:=f'}).length _
   rw[List.length_set]
   exact this
  ·simp only[List.getElem?_set] at hi
   by_cases e:j=i
   ·subst e
    rw[if_pos rfl,if_pos hjl] at hi
    injection hi with hi
    subst hi
    exact ⟨hf.mine,hf.ok,hF.num,bv',by simpa using hf.lens.obj,hf.row⟩
   ·rw[if_neg e] at hi
    exact ((hP.frs i fx hi).move k (hno _ (fun e2=>by injection e2 with _ e2;exact e e2.symm) nofun nofun) (hno _ nofun (fun e2=>by injection e2 with _ e2;exact e e2.symm) nofun)).more hn
def FAt (G:KG) (M:Mach) (i:Nat) (t:Option Int) (b o:Nat):Prop:=match t with
 |none=>b=G.gW∧o=i*38+4
 |some id=> ∃r,runOf M.runs id=some r∧r.l≠ []∧b=G.fb id (r.l.length - 1)∧o=0
theorem top_get {l:List Fr} (h:l≠ []):l[l.length - 1]?=some (l.getLastD {}):=by
 rw[←List.getLast?_eq_getElem?]
 rw[List.getLastD_eq_getLast?]
 cases hl:l.getLast? with
 |none=>exact absurd (List.getLast?_eq_none_iff.1 hl) h
 |some x=>rfl
theorem set_top {l:List Fr} (h:l≠ []) (x:Fr):l.set (l.length - 1) x=l.dropLast++ [x]:=by
 have hl:0<l.length:=List.length_pos_iff.2 h
 conv=>lhs;rw[←List.dropLast_concat_getLast h]
 rw[List.set_append_right _ _ (by simp)]
 simp
structure Fr1 (F:Fixed) (w:World) (own:Own) (G:KG) (M:Mach) (n:Nat) (i:Nat) (t:Option Int) (b o:Nat) (ty:TypeId) (P S:List Value) (tb tk:Tag) (bv:Value):Prop where
 fr:FrM w own b o ty P S tb tk n (getF M i t) bv
 ne:tb≠tk
 ntb:tb≠ .mem∧tk≠ .mem∧(ofRuns tb∨ofWk tb)∧(ofRuns tk∨ofWk tk)
 back: ∀(w':World) (own':Own) (n':Nat) (f':Frame) (bv':Value) (m':Mem),n≤n'→Touch (fun t=>t=tb∨t=tk∨t= .mem) w w' own own'→FrM w' own' b o ty P S tb tk n' f' bv'→PMem w' own' G.X m'→KernP F w' own' G (setF { M with mem:=m'} i t f') n'
theorem KernP.frame (h:KernP F w own G M n) {i:Nat} (hi:i<F.workers) {t:Option Int} {b o:Nat} (fa:FAt G M i t b o): ∃ty P S tb tk bv,Fr1 F w own G M n i t b o ty P S tb tk bv:=by
 cases t with
 |none=>
  obtain ⟨rfl,rfl⟩:=fa
  obtain ⟨P,S,bv,h1,h2⟩:=h.frame_wk hi
  exact ⟨_,P,S, .wk, .wback i,bv,⟨h1,nofun,⟨nofun,nofun,Or.inr trivial,Or.inr trivial⟩,h2⟩⟩
 |some id=>
  obtain ⟨r,hr,hne,rfl,rfl⟩:=fa
  obtain ⟨bv,h1,h2⟩:=h.frame_run hr (top_get hne)
  have e:getF M i (some id)=(topF r).f:=by unfold getF;simp only[hr]
  refine ⟨_,[],_, .fr id (r.l.length - 1), .back id (r.l.length - 1),bv,⟨by rw[e];exact h1,nofun,⟨nofun,nofun,Or.inl trivial,Or.inl trivial⟩,fun w' own' n' f' bv' m' hn k hf hm=>?_⟩⟩
  have:=h2 w' own' n' f' bv' m' hn k hf hm
  rw[set_top hne] at this
  unfold setF
  simp only[hr]
  exact this
end
end Go.Proofs.YtaangaogmnlljaaGreatDoor.Kn
namespace Go.Proofs.YtaangaogmnlljaaGreatDoor.Kn
open Go.RowKit Asm
section
variable {F:Fixed} {w:World} {own:Own} {G:KG} {M:Mach} {n:Nat}
theorem KernP.wlen (h:KernP F w own G M n) {i:Nat} (hi:i<F.workers):i<M.wkrs.length:=by rw[h.num.wk];exact hi
theorem KernP.wk_cells (h:KernP F w own G M n) {i:Nat} (hi:i<F.workers):w.cell? ⟨G.gW,i*38,none⟩=some (.int .u64 (wkrOf M i).slot)∧w.cell? ⟨G.gW,i*38+1,none⟩=some (.int .u64 (wkrOf M i).hand)∧w.cell? ⟨G.gW,i*38+2,none⟩=some (.bool (wkrOf M i).parked)∧w.cell? ⟨G.gW,i*38+3,none⟩=some (.int .i64 (wkrOf M i).left)∧ ∀j,w.frozen? ⟨G.gW,j,none⟩=false:=by
 obtain ⟨P,S,bv,h1,h2,h3,h4⟩:=h.wk.at (h.wlen hi)
 have ho:=h1.lens.obj
 have q: ∀j v,j<4→ [Value.int .u64 (wkrOf M i).slot, .int .u64 (wkrOf M i).hand, .bool (wkrOf M i).parked, .int .i64 (wkrOf M i).left][j]?=some v→w.cell? ⟨G.gW,i*38+j,none⟩=some v:=fun j v hj hv=>by
  rw[blk_cell ho,List.getElem?_toArray,List.append_assoc,List.append_assoc,List.getElem?_append_right (by omega),List.getElem?_append_left (by simp;omega),h2,Nat.add_sub_cancel_left]
  exact hv
 exact ⟨q 0 _ (by decide) rfl,q 1 _ (by decide) rfl,q 2 _ (by decide) rfl,q 3 _ (by decide) rfl,blk_frozen ho⟩
theorem KernP.wk_ok (h:KernP F w own G M n) {i:Nat} (hi:i<F.workers):WkOk n (wkrOf M i):=by
 obtain ⟨P,S,bv,h1,h2,h3,h4⟩:=h.wk.at (h.wlen hi)
 exact h3
theorem KernP.wk_put (h:KernP F w own G M n) {i:Nat} (hi:i<F.workers) {j:Nat} (hj:j<4) {v:Value} {k':Wkr} (e: [Value.int .u64 (wkrOf M i).slot, .int .u64 (wkrOf M i).hand, .bool (wkrOf M i).parked, .int .i64 (wkrOf M i).left].set j v= [Value.int .u64 k'.slot, .int .u64 k'.hand, .bool k'.parked, .int .i64 k'.left]) (hf:k'.f=(wkrOf M i).f) (hs:U64 k'.slot) (hh:U64 k'.hand) (hl:0≤k'.left∧k'.left≤100):
  KernP F (w.setCell ⟨G.gW,i*38+j,none⟩ v) own G (setW M i k') n∧Touch (fun t=>t= .wk) w (w.setCell ⟨G.gW,i*38+j,none⟩ v) own own:=by
 obtain ⟨P,S,bv,h1,h2,h3,h4⟩:=h.wk.at (h.wlen hi)
 have hk:Touch (fun t=>t= .wk) w (w.setCell ⟨G.gW,i*38+j,none⟩ v) own own:=⟨(Keeps.refl _ w).setCell (p:=⟨G.gW,i*38+j,none⟩) h1.mine _,fun _ _=>rfl⟩
 have hw:PWk (w.setCell ⟨G.gW,i*38+j,none⟩ v) own G.gW (M.wkrs.set i k') n:=by
  refine h4 _ own n (fun t=>t= .wk) k' bv (Nat.le_refl n) hk (fun _ _=>nofun) h1.mine ?_ ⟨hs,hh,hl,by rw[hf];exact h3.f⟩ ?_
  ·rw[set_block h1.lens.obj]
   have e1:=set_mid P ([Value.int .u64 (wkrOf M i).slot, .int .u64 (wkrOf M i).hand, .bool (wkrOf M i).parked, .int .i64 (wkrOf M i).left]++frC (wkrOf M i).f bv) S j (by simp;omega) v
   have e3:([Value.int .u64 (wkrOf M i).slot, .int .u64 (wkrOf M i).hand, .bool (wkrOf M i).parked, .int .i64 (wkrOf M i).left]++frC (wkrOf M i).f bv).set j v= [Value.int .u64 k'.slot, .int .u64 k'.hand, .bool k'.parked, .int .i64 k'.left]++frC (wkrOf M i).f bv:=by
    rw[List.set_append_left _ _ (by simpa using hj),e]
   rw[e3,h2] at e1
   rw[List.setIfInBounds_toArray]
   have e2:(P++ [Value.int .u64 (M.wkrs.getD i {}).slot, .int .u64 (M.wkrs.getD i {}).hand, .bool (M.wkrs.getD i {}).parked, .int .i64 (M.wkrs.getD i {}).left]++frC (M.wkrs.getD i {}).f bv++S).set (i*38+j) v=P++wk38 (k',bv)++S:=by
    rw[List.append_assoc P]
    exact e1.trans (by unfold wk38;rw[hf])
   rw[e2]
  ·rw[hf];exact h1.row.move hk nofun
 exact ⟨h.on_wk (hk.mono fun t e=>by rw[e];trivial) (Nat.le_refl n) (by simp) hw,hk⟩
theorem wkrOf_setW {M:Mach} {i:Nat} (hi:i<M.wkrs.length) (k:Wkr):wkrOf (setW M i k) i=k:=by
 unfold wkrOf setW
 rw[List.getD_eq_getElem?_getD]
 simp[hi]
theorem setW_setW (M:Mach) (i:Nat) (a b:Wkr):setW (setW M i a) i b=setW M i b:=by
 unfold setW;simp
set_option maxRecDepth 100000 in
set_option maxHeartbeats 1000000 in
theorem again_any (h:KernP F w own G M n) {i:Nat} (hi:i<F.workers):
  Calls Tryz.prog 196 #[.pointer (some ⟨G.K,0,none⟩), .pointer (some ⟨G.gW,i*38,none⟩)] w fun r w'=>r= .returned (.tuple #[])∧KO F w own G (again F M i) n w':=by
 have c0:w.cell? ⟨G.K,1,none⟩=some (.int .i64 F.loop):=h.kcell fun _ _ hc=>hc.loop
 obtain ⟨ty,P,S,tb,tk,bv,hf⟩:=h.frame hi (t:=none) ⟨rfl,rfl⟩
 have f0:=hf.fr.lens.frozen
 obtain ⟨c1,c2,-,-⟩:=hf.fr.cells
 have hloop:0≤F.loop∧F.loop≤2048:=by have:=h.fok.loop;have:=h.fok.lib;omega
 have hM:=h.mem
 have hF1:FrOut w own G.gW (i*38+4) ty P S tb tk n { getF M i none with pc:=F.loop,back:= []} ((w.setCell ⟨G.gW,i*38+4,none⟩ (.int .i64 F.loop)).setCell ⟨G.gW,i*38+4+33,none⟩ (.slice none 0 0)):=by
  have a1:=(FrOut.refl hf.fr (Nat.le_refl n)).pc hf.ne (p:=F.loop) (by omega)
  exact a1.back hf.ne (l:= []) (by decide) (by intro x hx;cases hx) fun own2 bv2 b1 b2=>⟨own2,⟨World.ownsRow_nil _ _ _ _,fun c hc=>by cases hc⟩,b1.mine,b2⟩
 have HF:=Lib.hid hF1
 have HK:=Lib.hid hf
 have HM:=Lib.hid hM
 have HG:again F M i=setF { M with mem:=M.mem} i none { getF M i none with pc:=F.loop,back:= []}:=rfl
 rw[HG]
 have fA:=f0 (i*38+4)
 have fB:=f0 (i*38+4+33)
 clear hF1 hf hM h hloop f0 HG
 go_enter Tryz.func196,Tryz.ntmps196
 go_wp2_with fail
 go_end0
 obtain ⟨own2,bv2,h1,h2⟩:=HF.out
 refine ⟨rfl,own2,HK.out.back _ _ _ _ bv2 _ (Nat.le_refl n) (h2.mono fun _ e=>e.elim Or.inl fun e=>Or.inr (Or.inl e)) h1 ?_,h2.mono ?_⟩
 ·exact HM.out.move h2 fun e=>e.elim (fun e=>HK.out.ntb.1 e.symm) fun e=>HK.out.ntb.2.1 e.symm
 ·rintro t (rfl|rfl) rfl
  ·rcases HK.out.ntb.2.2.1 with e|e<;>exact e
  ·rcases HK.out.ntb.2.2.2 with e|e<;>exact e
set_option maxRecDepth 100000 in
set_option maxHeartbeats 1000000 in
theorem leave_any (h:KernP F w own G M n) {i:Nat} (hi:i<F.workers):
  Calls Tryz.prog 132 #[.pointer (some ⟨G.K,0,none⟩), .pointer (some ⟨G.gW,i*38,none⟩)] w fun r w'=>r= .returned (.tuple #[])∧KO F w own G (leave F M i) n w':=by
 have fz:=h.wk_cells hi
 have c0:=fz.1
 have f0:=fz.2.2.2.2 (i*38)
 have hk:=h.wk_ok hi
 have hp:=h.wk_put hi (j:=0) (by decide) (v:= .int .u64 0) (k':={ wkrOf M i with slot:=0}) rfl rfl u64_0 hk.hand hk.left
 have HA:=Lib.hid (again_any hp.1 hi)
 have HT:=Lib.hid hp.2
 have e1:leave F M i=again F (setW M i { wkrOf M i with slot:=0}) i:=by
  unfold again leave
  rw[wkrOf_setW (h.wlen hi),setW_setW]
 rw[e1]
 clear fz hk hp h e1
 go_enter Tryz.func132,Tryz.ntmps132
 go_wp2_with fail
 refine HA.out.mono ?_
 rintro e w1 ⟨rfl,hk⟩
 have HK:=Lib.hid hk
 clear hk
 go_wp2_with fail
 go_end0
 exact ⟨rfl,KO.trans (HT.out.mono fun t e=>by rw[e];nofun) HK.out⟩
set_option maxRecDepth 100000 in
theorem cells_any (h:KernP F w own G M n):Calls Tryz.prog 169 #[.pointer (some ⟨G.K,0,none⟩)] w fun r w'=>r= .returned (.int .i64 F.cells)∧Below w.heap.size w w':=by
 have c0:w.cell? ⟨G.K,5,none⟩=some (.int .i64 F.wide):=h.kcell fun _ _ hc=>hc.wide
 have c1:w.cell? ⟨G.K,6,none⟩=some (.int .i64 F.narrow):=h.kcell fun _ _ hc=>hc.narrow
 have hwd:=h.fok.wide
 have hw:IntKind.i64.wrap (F.wide+F.narrow)=F.wide+F.narrow:=by rw[IntKind.wrap_i64];omega
 unfold Fixed.cells
 clear h hwd
 go_enter Tryz.func169,Tryz.ntmps169
 go_wp2_with fail
 go_quiet (fail)
 go_wp2_with fail
 go_ret
 exact ⟨rfl,by first|exact Below.refl _ _|exact below_dn (Below.refl _ _) _⟩
theorem deck_any (i:Int) (w:World) (hi:0≤i∧i<64) (p:Value):Calls Tryz.prog 120 #[p, .int .i64 i] w fun r w'=>r= .returned (.int .u64 (17+3*i))∧w=w':=by
 have hw:IntKind.i64.wrap (3*i)=3*i:=by rw[IntKind.wrap_i64];omega
 have hw2:IntKind.i64.wrap (17+3*i)=17+3*i:=by rw[IntKind.wrap_i64];omega
 have hw3:IntKind.u64.wrap (17+3*i)=17+3*i:=by rw[IntKind.wrap_u64];omega
 go_enter Tryz.func120,Tryz.ntmps120
 go_wp2_with fail
 go_ret
 exact ⟨rfl,rfl⟩
set_option maxRecDepth 100000 in
theorem peek_any (h:KernP F w own G M n) (a:Int) (ha:U64 a):Calls Tryz.prog 121 #[.pointer (some ⟨G.K,0,none⟩), .int .u64 a] w fun r w'=>r= .returned (.int .u64 (peekM M.mem a))∧KO F w own G M n w':=by
 have c0:=h.mcell
 obtain ⟨gc,gw,hm,hMo⟩:=h.mem
 have HL:=Lib.hid (mload_any hm a ha)
 have H:=Lib.hid h
 have HMo:=Lib.hid hMo
 have e1:peekM M.mem a=match M.mem.acc 0 a 0 0 with|some p=>p.1|none=>0:=by
  unfold peekM Mem.acc
  split<;>rfl
 have e2: ∀p,M.mem.acc 0 a 0 0=some p→p.2=M.mem:=fun p hp=>by
  unfold Mem.acc at hp
  split at hp
  ·cases hp
  ·injection hp with hp;rw[←hp];rfl
 rw[e1]
 have HE:=Lib.hid e2
 clear h hm hMo e1 e2
 generalize M.mem.acc 0 a 0 0=r at HL HE ⊢
 cases r with
 |none=>
  go_enter Tryz.func121,Tryz.ntmps121
  go_wp2_with fail
  refine HL.out.mono ?_
  rintro e w1 ⟨⟨ev,rfl,hev⟩,hb⟩
  have HB:=Lib.hid hb
  clear hb
  go_wp2_with fail
  go_ret
  exact ⟨rfl,KO.below H.out HB.out⟩
 |some p=>
  obtain ⟨was,m'⟩:=p
  go_enter Tryz.func121,Tryz.ntmps121
  go_wp2_with fail
  refine HL.out.mono ?_
  rintro e w1 ⟨rfl,hm1,hk1⟩
  have hme:=HE.out _ rfl
  simp only at hme
  subst hme
  have HK:=Lib.hid (H.out.memmed HMo.out hk1 hm1)
  clear hm1 hk1
  go_wp2_with fail
  go_ret
  exact ⟨rfl,HK.out⟩
end
end Go.Proofs.YtaangaogmnlljaaGreatDoor.Kn
namespace Go.Proofs.YtaangaogmnlljaaGreatDoor.Kn
open Go.RowKit Asm
section
variable {F:Fixed} {w:World} {own:Own} {G:KG} {M:Mach} {n:Nat}
theorem KernP.alced {w':World} {a':Alc} {m':Mem} (h:KernP F w own G M n) {gc gw:Nat} {v v':Value} (hm0:MemP w G.X gc gw M.mem) (hm: ∀b,b=G.X∨b=gc∨b=gw→own b= .mem) (ha: ∀b,OfA G.A v b→own b= .alc) (hp:AlcP w' G.A G.X v' a') (hmm:MemP w' G.X gc gw m') (hk:Keeps (fun b=>b=G.X∨b=gc∨b=gw∨OfA G.A v b) w w') (hv: ∀b,v'.ownBlock=some b→v.ownBlock=some b∨w.heap.size≤b):KO F w own G { M with alc:=a',mem:=m'} n w':=by
 have k:Touch (fun t=>t= .alc∨t= .mem) w w' own (ext own w.heap.size .alc):=touch_of hk fun b hb=>by
  rcases hb with e|e|e|e
  ·exact Or.inr (hm b (Or.inl e))
  ·exact Or.inr (hm b (Or.inr (Or.inl e)))
  ·exact Or.inr (hm b (Or.inr (Or.inr e)))
  ·exact Or.inl (ha b e)
 refine ⟨_,h.on_alc k ⟨v',hp,fun b hb=>?_⟩ ⟨gc,gw,hmm,fun b hb=>(ext_lt ?_).trans (hm b hb)⟩,k.mono fun _ e=>by rcases e with e|e<;>(rw[e];nofun)⟩
 ·rcases hb with e|e
  ·exact ext_tag (Or.inl (ha b (Or.inl e)))
  ·rcases hv b e with e|e
   ·exact ext_tag (Or.inl (ha b (Or.inr e)))
   ·exact ext_tag (Or.inr e)
 ·obtain ⟨l1,l2,l3⟩:=hm0.lt
  rcases hb with rfl|rfl|rfl<;>assumption
theorem kbe (h:KernP F w own G M n) (id s:Int) (hid:U64 id) (hs:s=1∨s=2∨s=3):Calls Tryz.prog 191 #[.pointer (some ⟨G.T,0,none⟩), .int .u64 id, .int .i64 s] w fun e w'=>(∃ev,e= .returned ev)∧KO F w own G { M with tab:=beT M.tab id s} n w':=by
 obtain ⟨gt,N,hT,ho,hN⟩:=h.tab
 exact (be_any hT id s hid hs).mono fun e w' ⟨h1,h2,h3⟩=>⟨h1,h.tabbed ho (Nat.le_refl n) hN h3 h2⟩
theorem drewN_below (w:World) (q:Nat):Below w.heap.size w (w.drewN q):=⟨rfl,rfl,rfl,Nat.le_refl _,fun _ _=>rfl⟩
def KBorn (F:Fixed) (w:World) (own:Own) (G:KG) (M:Mach) (n:Nat) (r:Option (Int×List TRow)) (e:Ending) (w':World):Prop:=match r with
 |none=>(∃ev,e= .returned (.tuple #[.int .u64 0,ev])∧Som ev)∧KO F w own G M n w'
 |some (id,l')=>e= .returned (.tuple #[.int .u64 id, .nilIface])∧KO F w own G { M with tab:=l'} (n+1) w'
theorem kborn (h:KernP F w own G M n) (home:Int) (hh:U64 home) (hn:n≤1000000):Calls Tryz.prog 171 #[.pointer (some ⟨G.T,0,none⟩), .int .u64 home] w (KBorn F w own G M n (bornT M.tab home)):=by
 obtain ⟨gt,N,hT,ho,hN⟩:=h.tab
 have H:=born_any hT home hh (by omega)
 generalize bornT M.tab home=r at H ⊢
 cases r with
 |none=>exact H.mono fun e w' ⟨h1,h2,h3⟩=>⟨h1,h.tabbed ho (Nat.le_refl n) hN h3 h2⟩
 |some p=>exact H.mono fun e w' ⟨h1,h2,h3⟩=>⟨h1,h.tabbed ho (by omega) (by omega) h3 h2⟩
theorem kfind (h:KernP F w own G M n) (id k:Int) (hid:U64 id):Calls Tryz.prog 256 #[.pointer (some ⟨G.O,0,none⟩), .int .u64 id, .int .i64 k] w (FindOut w (findO M.objs id k)):=by
 obtain ⟨go,N,hO,ho,hN⟩:=h.obj
 exact ofind_any hO id k hid
theorem krput (h:KernP F w own G M n) (v:Int) (hv:U64 v):Calls Tryz.prog 85 #[.pointer (some ⟨G.R,0,none⟩), .int .u64 v] w fun e w'=>(∃ev,e= .returned ev)∧KO F w own G { M with ring:=putRing M.ring v} n w':=by
 obtain ⟨gr,hR,ho⟩:=h.ring
 exact (rput_any hR v hv).mono fun e w' ⟨h1,h2,h3⟩=>⟨h1,h.ringed ho h3 h2⟩
theorem krtake (h:KernP F w own G M n):Calls Tryz.prog 294 #[.pointer (some ⟨G.R,0,none⟩)] w fun e w'=>e= .returned (.tuple #[.int .u64 (M.ring.headD 0), .bool (!M.ring.isEmpty)])∧KO F w own G { M with ring:=M.ring.drop 1} n w':=by
 obtain ⟨gr,hR,ho⟩:=h.ring
 exact (rtake_any hR).mono fun e w' ⟨h1,h2,h3⟩=>⟨h1,h.ringed ho h3 h2⟩
theorem kget (h:KernP F w own G M n) (k:Nat) (hk:k≤4096):Calls Tryz.prog 170 #[.pointer (some ⟨G.A,0,none⟩), .int .i64 k, .int .i64 64] w fun e w'=>match getA M.alc M.mem k 64 with
  |none=>(∃ev,e= .returned (.tuple #[.int .i64 0,ev])∧Som ev)∧Below w.heap.size w w'
  |some (p,a',m')=>e= .returned (.tuple #[.int .i64 p, .nilIface])∧KO F w own G { M with alc:=a',mem:=m'} n w':=by
 obtain ⟨gc,gw,hm,hMo⟩:=h.mem
 obtain ⟨v,hA,hAo⟩:=h.alc
 have H:=get_any hA hm k hk
 generalize getA M.alc M.mem k 64=r at H ⊢
 cases r with
 |none=>exact H
 |some p=>
  obtain ⟨p,a',m'⟩:=p
  exact H.mono fun e w' ⟨h1,v',h2,h3,h4,h5⟩=>⟨h1,h.alced hm hMo hAo h2 h3 h4 h5⟩
theorem kput (h:KernP F w own G M n) (k:Nat) (hk:k≤100000):Calls Tryz.prog 172 #[.pointer (some ⟨G.A,0,none⟩), .int .i64 k] w fun e w'=>(∃ev,e= .returned ev)∧KO F w own G { M with alc:=(putA M.alc M.mem k).1,mem:=(putA M.alc M.mem k).2} n w':=by
 obtain ⟨gc,gw,hm,hMo⟩:=h.mem
 obtain ⟨v,hA,hAo⟩:=h.alc
 exact (put_anyA hA hm k hk).mono fun e w' ⟨ev,v',h1,h2,h3,h4,h5⟩=>⟨⟨ev,h1⟩,h.alced hm hMo hAo h2 h3 h4 h5⟩
end
end Go.Proofs.YtaangaogmnlljaaGreatDoor.Kn
namespace Go.Proofs.YtaangaogmnlljaaGreatDoor.Kn
open Go.RowKit Asm
theorem below_two {a b c:World} (h:Below a.heap.size a b) (k:Below b.heap.size b c):Below a.heap.size a c:=h.trans (k.mono h.size)
section
variable {F:Fixed} {w:World} {own:Own} {G:KG} {M:Mach} {n:Nat}
theorem KernP.drew (h:KernP F w own G M n):KernP F w.drew own G M n:=h.move (touch_drew w own)
theorem KernP.drewN (h:KernP F w own G M n) (q:Nat):KernP F (w.drewN q) own G M n:=h.move (touch_drewN w own q)
theorem KO.drew {w':World} (h:KO F w.drew own G M n w'):KO F w own G M n w':=KO.trans (touch_drew w own) h
theorem KO.drewN {w':World} {q:Nat} (h:KO F (w.drewN q) own G M n w'):KO F w own G M n w':=KO.trans (touch_drewN w own q) h
theorem KO.more {w1:World} {n':Nat} (h:KO F w own G M n w1) (hn:n≤n'):KO F w own G M n' w1:=by
 obtain ⟨own1,h1,t1⟩:=h
 exact ⟨_,h1.more hn,t1⟩
theorem KernP.thr_cells (h:KernP F w own G M n) {id:Int} {r:Run} (hr:runOf M.runs id=some r):w.cell? ⟨G.tb id,0,none⟩=some (.int .u64 id)∧(∃lv,w.cell? ⟨G.tb id,1,none⟩=some lv∧PRow w own (.row id) 282 1 lv r.l.length (fptrs G.fb r))∧w.cell? ⟨G.tb id,2,none⟩=some (.int .u64 r.woken)∧(id≠0∧U64 id)∧ ∀j,w.frozen? ⟨G.tb id,j,none⟩=false:=by
 obtain ⟨hm,rfl⟩:=runOf_mem hr
 have hP:=h.runs.each r hm
 obtain ⟨lv,ho,hrow⟩:=hP.obj
 exact ⟨by rw[blk_cell ho];rfl,⟨lv,by rw[blk_cell ho];rfl,hrow⟩,by rw[blk_cell ho];rfl,hP.id,blk_frozen ho⟩
end
end Go.Proofs.YtaangaogmnlljaaGreatDoor.Kn
namespace Go.Proofs.YtaangaogmnlljaaGreatDoor.Kn
open Go.RowKit Asm
def Homes (l:List TRow):Prop:= ∀r∈l,0≤r.t.home∧r.t.home≤65536
theorem ofT_mem {l:List TRow} {id:Int} {p:Nat} {r:TRow} (h:ofT l id=some (p,r)):r∈l∧l[p]?=some r:=by
 unfold ofT at h
 split at h
 ·cases h
 ·split at h
  ·rename_i r0 hr0
   split at h
   ·injection h with h
    injection h with h1 h2
    subst h1 h2
    exact ⟨List.mem_of_getElem? hr0,hr0⟩
   ·cases h
  ·cases h
theorem Homes.set {l:List TRow} (h:Homes l) {p:Nat} {r:TRow} (hr:0≤r.t.home∧r.t.home≤65536):Homes (l.set p r):=fun x hx=>by
 rcases List.mem_or_eq_of_mem_set hx with hx|hx
 ·exact h x hx
 ·rw[hx];exact hr
theorem Homes.look {l:List TRow} (h:Homes l) (id:Int):0≤((lookT l id).getD {}).home∧((lookT l id).getD {}).home≤65536:=by
 unfold lookT
 cases e:ofT l id with
 |none=>exact ⟨Int.le_refl 0,by show (0:Int)≤65536;decide⟩
 |some p=>exact h p.2 (ofT_mem (p:=p.1) (r:=p.2) e).1
section
variable {F:Fixed} {w:World} {own:Own} {G:KG} {M:Mach} {n:Nat}
theorem KernP.kcells (h:KernP F w own G M n):w.cell? ⟨G.K,1007,none⟩=some (.pointer (some ⟨G.X,0,none⟩))∧w.cell? ⟨G.K,1008,none⟩=some (.pointer (some ⟨G.A,0,none⟩))∧w.cell? ⟨G.K,1009,none⟩=some (.pointer (some ⟨G.C,0,none⟩))∧w.cell? ⟨G.K,1010,none⟩=some (.pointer (some ⟨G.R,0,none⟩))∧w.cell? ⟨G.K,1011,none⟩=some (.pointer (some ⟨G.Q,0,none⟩))∧w.cell? ⟨G.K,1012,none⟩=some (.pointer (some ⟨G.T,0,none⟩))∧w.cell? ⟨G.K,1013,none⟩=some (.pointer (some ⟨G.O,0,none⟩))∧w.cell? ⟨G.K,1014,none⟩=some (.map (some G.th)):=
 ⟨h.mcell,h.acell,h.ccell,h.rcell,h.qcell,h.tcell,h.ocell,h.hcell⟩
theorem KernP.stays (h:KernP F w own G M n) {id:Int} {r:Run} (hr:runOf M.runs id=some r) {W:World} (hW:Below w.heap.size w W):Below w.heap.size w W∧W.cell? ⟨G.K,1012,none⟩=some (.pointer (some ⟨G.T,0,none⟩))∧W.cell? ⟨G.tb id,0,none⟩=some (.int .u64 id):=⟨hW,(h.below hW).tcell,((h.below hW).thr_cells hr).1⟩
theorem Touch.other {w':World} {own':Own} (k:Touch (fun t=>t≠ .other) w w' own own') {b:Nat} (hb:own b= .other) (hl:b<w.heap.size):w'.heap[b]?=w.heap[b]?∧own' b= .other∧b<w'.heap.size:=
 ⟨(k.at (t:= .other) (fun e=>e rfl) hb hl).1,(k.at (t:= .other) (fun e=>e rfl) hb hl).2,Nat.lt_of_lt_of_le hl k.keeps.size⟩
end
end Go.Proofs.YtaangaogmnlljaaGreatDoor.Kn
namespace Go.Proofs.YtaangaogmnlljaaGreatDoor.Kn
open Go.RowKit Asm
section
variable {F:Fixed} {w:World} {own:Own} {G:KG} {M:Mach} {n:Nat}
theorem KernP.reg (h:KernP F w own G M n) {i:Nat} (hi:i<F.workers) {t:Option Int} {b o:Nat} (fa:FAt G M i t b o) (k:Nat) (hk:k<32):w.cell? ⟨b,o+1+k,none⟩=some (.int .u64 (rg (getF M i t) k))∧U64 (rg (getF M i t) k)∧w.frozen? ⟨b,o+1+k,none⟩=false∧b<w.heap.size:=by
 obtain ⟨ty,P,S,tb,tk,bv,hf⟩:=h.frame hi fa
 exact ⟨hf.fr.cells.2.2.1 k hk,rg_range hf.fr.ok.r _,hf.fr.cells.2.2.2 _,hf.fr.lens.lt⟩
theorem KernP.know (h:KernP F w own G M n):Calls Tryz.prog 110 #[.pointer (some ⟨G.C,0,none⟩)] w fun e w'=>e= .returned (.int .u64 M.clk.now)∧w'=w:=by
 obtain ⟨hb,hm,v,ab,N,K,hC,-⟩:=h.clk
 exact now_any hC
set_option maxRecDepth 100000 in
set_option maxHeartbeats 4000000 in
theorem told_any (h:KernP F w own G M n) {i:Nat} (hi:i<F.workers) {t:Option Int} {b o:Nat} (fa:FAt G M i t b o) (x:InsL) (ho:x.op=23∨x.op=41∨x.op=37∨x.op=40∨x.op=42∨x.op=29∨x.op=38∨x.op=39∨x.op=47) (hb:0≤x.b∧x.b<32) (hw:M.w=i):
  Calls Tryz.prog 245 #[.pointer (some ⟨G.K,0,none⟩), .pointer (some ⟨G.gW,i*38,none⟩), .int .u64 (t.getD 0), .pointer (some ⟨b,o,none⟩), .agg (insV x)] w fun r w'=>r= .returned (.int .u64 (told F M i t x))∧Below w.heap.size w w':=by
 obtain ⟨k,hk⟩:=Int.eq_ofNat_of_zero_le hb.1
 have hk2:k<32:=by omega
 have hkI:(0:Int)≤(k:Int)∧(k:Int)<32:=by omega
 obtain ⟨cr,hrb,-,hbl⟩:=h.reg hi fa k hk2
 have kw:w.cell? ⟨G.K,1018,none⟩=some (.int .i64 M.w):=h.kcell fun _ _ hc=>hc.w
 have kd:w.cell? ⟨G.K,1019,none⟩=some (.int .u64 M.draw):=h.kcell fun _ _ hc=>hc.draw
 have kp:w.cell? ⟨G.K,3,none⟩=some G.pv:=h.kcell fun _ _ hc=>hc.code
 have kc:=h.ccell
 have kk:=h.wcell
 obtain ⟨-,ch,-,-,-⟩:=h.wk_cells hi
 have HNow:=Lib.hid (h.know)
 have HNw:Hid (∀W,Below w.heap.size w W→Calls Tryz.prog 110 #[.pointer (some ⟨G.C,0,none⟩)] W fun e w'=>e= .returned (.int .u64 M.clk.now)∧w'=W):=Lib.hid fun W hW=>(h.below hW).know
 obtain ⟨pA,pc,hpv⟩:=Asm.own_shape h.fix.code.1
 rw[hpv] at kp
 have hW:=h.fok.workers
 have hC:=h.fok.code
 have hK:=h.klt
 have hgW:G.gW<w.heap.size:=by
  obtain ⟨P,S,bv,h1,-⟩:=h.wk.at (h.wlen hi)
  exact h1.lens.lt
 have hnow:U64 M.clk.now:=by
  obtain ⟨hb,hm,v,ab,N,K,hC,-⟩:=h.clk
  have:=hC.now
  unfold U64
  omega
 obtain ⟨xo,xa,xb,xc,xv,xm,xw⟩:=x
 simp only at ho hk hb
 subst hk
 have e1:told F M i t ⟨xo,xa,k,xc,xv,xm,xw⟩=(if xo=23 then 1+2*bucketOf (rg (getF M i t) k) else if xo=41 then M.clk.now else if xo=37 then t.getD 0 else if xo=40 then (F.workers:Int) else if xo=42 then M.draw else if xo=29 then (wkrOf M i).hand else if xo=38 then deckK F i else if xo=39 then deckK F (rg (getF M i t) k) else yesI (decide (rg (getF M i t) k<F.code.length))):=by unfold told;rw[hw]
 rw[e1]
 rw[hw] at kw
 clear e1 hpv HNow hw fa
 generalize rg (getF M i t) k=rb at*
 generalize M.draw=dr at*
 generalize M.clk.now=nw at*
 generalize (wkrOf M i).hand=hd at*
 generalize t.getD 0=ti at*
 obtain ⟨W,hWn⟩: ∃W,W=F.workers:=⟨_,rfl⟩
 obtain ⟨C,hCn⟩: ∃C,C=F.code.length:=⟨_,rfl⟩
 unfold deckK
 rw[←hWn] at kk hW hi ⊢
 rw[←hCn] at kp hC ⊢
 clear hWn hCn
 have hWI:(1:Int)≤(W:Int)∧(W:Int)≤64:=by omega
 have hCI:(1:Int)≤(C:Int)∧(C:Int)≤2048:=by omega
 have w1:IntKind.u64.wrap (W:Int)=(W:Int):=by rw[IntKind.wrap_u64];omega
 have w2:IntKind.u64.wrap (C:Int)=(C:Int):=by rw[IntKind.wrap_u64];omega
 unfold U64 at hrb
 have hb1:Below w.heap.size w (w.alloc (.cells (insV ⟨xo,xa,k,xc,xv,xm,xw⟩) 68)):=(Below.refl _ _).alloc (Nat.le_refl _) _
 have HB1:=Lib.hid hb1
 have HD:Hid (∀(m:Int) (V:World),0≤m∧m<64→Calls Tryz.prog 120 #[.pointer (some ⟨G.K,0,none⟩), .int .i64 m] V fun r w'=>r= .returned (.int .u64 (17+3*m))∧V=w'):=Lib.hid fun m V hm=>deck_any m V hm _
 clear h hb1 hW hC
 unfold insV at HB1 ⊢
 have fin: ∀V,(∃q,V=(w.alloc (.cells #[.int .i64 xo, .int .i64 xa, .int .i64 k, .int .i64 xc, .int .u64 xv, .int .i64 xm, .int .i64 xw] 68)).drewN q)→Below w.heap.size w V:=fun V ⟨q,e⟩=>by rw[e];exact below_dn HB1.out q
 have FIN:=Lib.hid fin
 clear fin
 have hbk:0≤bucketOf rb∧bucketOf rb<8:=by unfold bucketOf;omega
 have hm0:0≤rb% (W:Int)∧rb% (W:Int)<64:=⟨Int.emod_nonneg _ (by omega),Int.lt_of_lt_of_le (Int.emod_lt_of_pos _ (by omega)) (by omega)⟩
 have hBk:=Lib.hid (fun V=>bucket_any rb V)
 generalize bucketOf rb=bk at*
 have w3:IntKind.i64.wrap (2*bk)=2*bk:=by rw[IntKind.wrap_i64];omega
 have w4:IntKind.i64.wrap (1+2*bk)=1+2*bk:=by rw[IntKind.wrap_i64];omega
 have w5:IntKind.u64.wrap (1+2*bk)=1+2*bk:=by rw[IntKind.wrap_u64];omega
 have hiI:(0:Int)≤(i:Int)∧(i:Int)<(W:Int):=by omega
 have w6:IntKind.u64.wrap (i:Int)=(i:Int):=by rw[IntKind.wrap_u64];omega
 have w7:IntKind.i64.wrap (i:Int)=(i:Int):=by rw[IntKind.wrap_i64];omega
 have hmi:(i:Int)% (W:Int)=(i:Int):=Int.emod_eq_of_lt hiI.1 hiI.2
 have HI:=Lib.hid hiI
 have HW:=Lib.hid hWI
 rcases ho with rfl|rfl|rfl|rfl|rfl|rfl|rfl|rfl|rfl
 ·go_enter Tryz.func245,Tryz.ntmps245
  go_wp2_with fail
  go_quiet (fail)
  go_wp2_with fail
  refine (hBk.out _).mono ?_
  rintro e v1 ⟨rfl,rfl⟩
  go_wp2_with fail
  go_ret
  exact ⟨rfl,FIN.out _ ⟨_,rfl⟩⟩
 ·go_enter Tryz.func245,Tryz.ntmps245
  go_wp2_with fail
  go_quiet (fail)
  go_wp2_with fail
  refine (HNw.out _ (FIN.out _ ⟨_,rfl⟩)).mono ?_
  rintro e v1 ⟨rfl,rfl⟩
  go_wp2_with fail
  go_ret
  exact ⟨rfl,FIN.out _ ⟨_,rfl⟩⟩
 ·go_enter Tryz.func245,Tryz.ntmps245
  go_wp2_with fail
  go_quiet (fail)
  go_wp2_with fail
  go_ret
  exact ⟨rfl,FIN.out _ ⟨_,rfl⟩⟩
 ·go_enter Tryz.func245,Tryz.ntmps245
  go_wp2_with fail
  go_quiet (fail)
  go_wp2_with fail
  go_ret
  exact ⟨rfl,FIN.out _ ⟨_,rfl⟩⟩
 ·go_enter Tryz.func245,Tryz.ntmps245
  go_wp2_with fail
  go_quiet (fail)
  go_wp2_with fail
  go_ret
  exact ⟨rfl,FIN.out _ ⟨_,rfl⟩⟩
 ·go_enter Tryz.func245,Tryz.ntmps245
  go_wp2_with fail
  go_quiet (fail)
  go_wp2_with fail
  go_ret
  exact ⟨rfl,FIN.out _ ⟨_,rfl⟩⟩
 ·go_enter Tryz.func245,Tryz.ntmps245
  go_wp2_with fail
  go_quiet (fail)
  go_wp2_with fail
  refine (HD.out i _ (by have:=HI.out;have:=HW.out;omega)).mono ?_
  rintro e v1 ⟨rfl,rfl⟩
  go_wp2_with fail
  go_ret
  exact ⟨rfl,FIN.out _ ⟨_,rfl⟩⟩
 ·generalize hm:rb% (W:Int)=m at*
  have w8:IntKind.i64.wrap m=m:=by rw[IntKind.wrap_i64];omega
  have hm2:rb.tmod (W:Int)=m:=by rw[←hm,Int.tmod_eq_emod_of_nonneg (by omega)]
  go_enter Tryz.func245,Tryz.ntmps245
  go_wp2_with fail
  go_quiet (fail)
  go_wp2_with fail
  refine (HD.out m _ (by omega)).mono ?_
  rintro e v1 ⟨rfl,rfl⟩
  go_wp2_with fail
  go_ret
  exact ⟨rfl,FIN.out _ ⟨_,rfl⟩⟩
 ·by_cases hl:rb<(C:Int)
  ·go_enter Tryz.func245,Tryz.ntmps245
   go_wp2_with fail
   go_quiet (fail)
   go_wp2_with fail
   go_ret
   exact ⟨by simp[yesI],FIN.out _ ⟨_,rfl⟩⟩
  ·have hl2:(C:Int)≤rb:=by omega
   go_enter Tryz.func245,Tryz.ntmps245
   go_wp2_with fail
   go_quiet (fail)
   go_wp2_with fail
   go_ret
   exact ⟨by simp[yesI,hl],FIN.out _ ⟨_,rfl⟩⟩
end
end Go.Proofs.YtaangaogmnlljaaGreatDoor.Kn
