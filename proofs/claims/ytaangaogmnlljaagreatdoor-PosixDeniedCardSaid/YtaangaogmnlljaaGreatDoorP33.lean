/- Part 33 of what the proof stands on: KnStepL, KnRet, KnMark, KnKo2, KnPush, KnIdle, KnStp. -/
import Derived.Deep.RegionWith
import Derived.Test.YtaangaogmnlljaaGreatDoorP16
import Derived.Test.YtaangaogmnlljaaGreatDoorP32
set_option linter.unusedVariables false
namespace Go.Proofs.YtaangaogmnlljaaGreatDoor.Kn
open Go.RowKit Asm
theorem accR_range {f:Frame} {m:Mem} (hm:MemOk m) (hr: ∀y∈f.r,U64 y) {x:InsL} {v:Int} {m':Mem} (h:accR f m x=some (v,m')):U64 v:=by
 unfold accR at h
 cases e:m.acc (accKind x.op) (addrB f x) (rg f x.a) (if x.op=21 then rg f x.c else rg f x.a) with
 |none=>rw[e] at h;cases h
 |some p=>
  rw[e] at h
  injection h with h
  injection h with h1 h2
  unfold Mem.acc at e
  split at e
  ·cases e
  ·injection e with e
   rw[←h1,←e]
   simp only
   split
   ·exact rg_range hr _
   ·exact held_range m hm _
section
variable {F:Fixed} {w:World} {own:Own} {G:KG} {M:Mach} {n:Nat}
theorem PRow.codeAt {own:Own} {tg:Tag} {v:Value} {l:List InsL} (h:PRow w own tg 68 7 v l.length (codeC l)) (hl:0<l.length): ∃g c,v= .slice (some ⟨g,0,none⟩) l.length c∧CodeAt w g l∧own g=tg∧g<w.heap.size:=by
 have h0:=h.1
 obtain ⟨h1,⟨h2,h3⟩ |⟨g,cap,cur,rfl,hg,r⟩⟩:=h0
 ·omega
 ·refine ⟨g,cap,rfl,fun k hk j u hu=>?_,h.2 g rfl,h.lt rfl⟩
  have hj:j<7:=by
   have:=(Array.getElem?_eq_some_iff.1 hu).1
   simpa[insV] using this
  have e1:(codeC l)[k*7+j]?=some u:=by
   rw[show codeC l=l.flatMap fun x=>(insV x).toList from rfl,flL_at (k:=7) (fun _=>rfl) l k hk j hj]
   simpa using hu
  have:=h.1.cells rfl _ _ e1
  rwa[Addr.add_lit,Nat.zero_add] at this
theorem step_acc_some {l:List InsL} {m:Mem} {f:Frame} {x:InsL} {lib:Bool} (hmay: ∀x∈l,mayK x l.length lib=true) (hx:insAt l f.pc=some x) (ho:17≤x.op∧x.op≤21) (hl:f.r.length=32) (ha:0≤x.a∧x.a<32) {v:Int} {m':Mem} (h:accR f m x=some (v,m')):stepL f l m=⟨0,{ f with r:=f.r.set x.a.toNat v,pc:=f.pc+1},m'⟩:=by
 rw[step_of ((runs_ins hmay f.pc).trans hx),if_neg (by omega),if_pos ho]
 unfold accR at h
 cases e:m.acc (accKind x.op) (addrB f x) (rg f x.a) (if x.op=21 then rg f x.c else rg f x.a) with
 |none=>rw[e] at h;cases h
 |some p=>
  obtain ⟨was,m2⟩:=p
  rw[e] at h
  injection h with h
  injection h with h1 h2
  subst h2
  simp only
  rw[←h1]
  by_cases h18:x.op=18
  ·rw[if_pos h18,if_pos h18]
   have:f.r.set x.a.toNat (rg f x.a)=f.r:=set_get (by
    unfold rg
    rw[List.getD_eq_getElem?_getD,List.getElem?_eq_getElem (by omega)]
    rfl)
   rw[this]
  ·rw[if_neg h18,if_neg h18]
   rfl
theorem step_acc_none {l:List InsL} {m:Mem} {f:Frame} {x:InsL} {lib:Bool} (hmay: ∀x∈l,mayK x l.length lib=true) (hx:insAt l f.pc=some x) (ho:17≤x.op∧x.op≤21) (h:accR f m x=none):stepL f l m=⟨3,f,m⟩:=by
 rw[step_of ((runs_ins hmay f.pc).trans hx),if_neg (by omega),if_pos ho]
 unfold accR at h
 cases e:m.acc (accKind x.op) (addrB f x) (rg f x.a) (if x.op=21 then rg f x.c else rg f x.a) with
 |none=>rfl
 |some p=>rw[e] at h;cases h
theorem step_same {l:List InsL} {m:Mem} {f:Frame} {x:InsL} (hx:runs? l f.pc=some x) (ho: ¬(17≤x.op∧x.op≤21)):(stepL f l m).mem=m:=by
 rw[step_of hx]
 repeat' split
 all_goals first
  |rfl
  |omega
theorem vstep_lib (h:KernP F w own G M n) {i:Nat} (hi:i<F.workers) {t:Option Int} {b o:Nat} (fa:FAt G M i t b o) (hn:n≤100000):
  Calls Tryz.prog 198 #[.pointer (some ⟨b,o,none⟩),G.lv, .iface 149 (.pointer (some ⟨G.X,0,none⟩))] w fun e w'=>(∃ev,e= .returned (.tuple #[.int .i64 (stepL (getF M i t) F.lib M.mem).how,ev]))∧KO F w own G (setF { M with mem:=(stepL (getF M i t) F.lib M.mem).mem} i t (stepL (getF M i t) F.lib M.mem).f) (n+1) w':=by
 obtain ⟨ty,P,S,tb,tk,bv,hf⟩:=h.frame hi fa
 obtain ⟨g,c,hlv,hc,hgo,hg⟩:=h.fix.lib.codeAt h.fok.lib.1
 have hl:=h.fok.lib.2
 have hmay:=h.fok.libs
 have hv:=h.fok.libv
 have hM:=h.mem
 rw[hlv]
 have hpc:=hf.fr.ok.pc
 by_cases hp:(F.lib.length:Int)≤(getF M i t).pc
 ·have e1:stepL (getF M i t) F.lib M.mem=⟨3,getF M i t,M.mem⟩:=step_none ((runs_ins hmay _).trans (insAt_out (Or.inr hp)))
  rw[e1]
  exact (vstep_out hf.fr hl hp).mono fun e w' ⟨p,q⟩=>⟨⟨_,p⟩,hf.out hM (Nat.le_succ n) ((FrOut.refl hf.fr (Nat.le_succ n)).below q)⟩
 ·obtain ⟨hx,hxm⟩:=insAt_in (l:=F.lib) hpc.1 (by omega)
  generalize F.lib.getD (getF M i t).pc.toNat {}=x at hx hxm
  have hmx:=hmay x hxm
  have hO:=(may_parts hmx).1
  have hr:runs? F.lib (getF M i t).pc=some x:=(runs_ins hmay _).trans hx
  by_cases ho:17≤x.op∧x.op≤21
  ·obtain ⟨gc,gw,hm,hmo⟩:=hM
   obtain ⟨ha,hb,-,-,hcc⟩:=may_regs hmx
   have hXl:=hm.lt
   have hbm: ∀d,d=G.X∨d=gc→d≠b:=fun d hd e=>by
    have e1:own b= .mem:=by rw[←e];exact hmo d (hd.elim Or.inl fun e=>Or.inr (Or.inl e))
    rw[hf.fr.mine] at e1
    exact hf.ntb.1 e1
   have HA:=vstep_acc (bv:=bv) (c:=c) hf.fr hc hg hl hmay hv hn (mt:=149) (mv:= .pointer (some ⟨G.X,0,none⟩)) hx ho (E:=fun w'=>accR (getF M i t) M.mem x=none∧Below w.heap.size w w') (R:=fun v w'=> ∃m',accR (getF M i t) M.mem x=some (v,m')∧MemP w' G.X gc gw m'∧Keeps (fun b=>b=G.X∨b=gc) w w') fun k W bx hk hk2 hW hbx hb1 hb2=>by
    have hfw:=hf.fr.below hW
    have hA:=vaccess_any hfw (hm.below' hW) x ho ha hb (fun e=>hcc (by rw[e];rfl)) ⟨fun e=>hbm _ (Or.inl rfl) e.symm,fun e=>hbm _ (Or.inr rfl) e.symm⟩ (hv x hxm)
    refine hA.mono fun e w' hq=>?_
    have hst: ∀d,d≠G.X→d≠gc→d<W.heap.size→w'.heap[d]?=W.heap[d]?:=fun d d1 d2 d3=>by
     cases hr:accR (getF M i t) M.mem x with
     |none=>rw[hr] at hq;exact hq.2.block d d3
     |some p=>rw[hr] at hq;exact hq.2.2.block d d3 fun e=>e.elim d1 d2
    have hbx2:w'.heap[bx]?=W.heap[bx]?:=hst bx (by omega) (by omega) hb2
    have hbb:w'.heap[b]?=W.heap[b]?:=hst b (fun e=>hbm _ (Or.inl rfl) e.symm) (fun e=>hbm _ (Or.inr rfl) e.symm) hfw.lens.lt
    obtain ⟨f1,-,f3,f4⟩:=hfw.cells
    refine ⟨?_,(World.cell?_of_block (a:=⟨b,o,none⟩) hbb).trans f1,(World.frozen?_of_block (a:=⟨b,o,none⟩) hbb).trans (f4 _),(World.frozen?_of_block (a:=⟨b,o+1+k,none⟩) hbb).trans (f4 _),⟨_,(World.cell?_of_block (a:=⟨b,o+1+k,none⟩) hbb).trans (f3 k hk2)⟩,?_⟩
    ·rw[World.cell?_of_block (a:=⟨bx,1,none⟩) hbx2,hbx.2.1,hk]
    ·cases hr:accR (getF M i t) M.mem x with
     |none=>
      rw[hr] at hq
      obtain ⟨⟨v,ev,rfl,te,xe,rfl⟩,q2⟩:=hq
      exact Or.inl ⟨v,te,xe,rfl,rfl,hW.trans (q2.mono hW.size)⟩
     |some p=>
      obtain ⟨v,m'⟩:=p
      rw[hr] at hq
      obtain ⟨rfl,q2,q3⟩:=hq
      exact Or.inr ⟨v,rfl,m',rfl,q2,(Keeps.ofBelow hW).trans q3 fun _ e=>Or.inl e⟩
   refine HA.mono fun e w' hq=>?_
   rcases hq with ⟨ev,w2,rfl,⟨hN,hB⟩,hB2⟩ |⟨v,w2,q,rfl,⟨m',hS,hm2,hk2⟩,rfl⟩
   ·rw[step_acc_none hmay hx ho hN]
    exact ⟨⟨_,rfl⟩,hf.out ⟨gc,gw,hm,hmo⟩ (Nat.le_succ n) ((FrOut.refl hf.fr (Nat.le_succ n)).below (below_two hB hB2))⟩
   ·rw[step_acc_some hmay hx ho hf.fr.ok.len ha hS]
    refine ⟨⟨_,rfl⟩,?_⟩
    have hk:Touch (fun t=>t= .mem) w w2 own (ext own w.heap.size .mem):=touch_of hk2 fun d hd=>hmo d (hd.elim Or.inl fun e=>Or.inr (Or.inl e))
    have hf2:=hf.fr.move hk (fun e=>hf.ntb.1 e) fun e=>hf.ntb.2.1 e
    have hkk:x.a.toNat<32:=by omega
    have hO2:=((((FrOut.refl hf2 (Nat.le_succ n)).drewN q).reg hf.ne hkk (accR_range hm.ok hf.fr.ok.r hS)).pc hf.ne (p:=(getF M i t).pc+1) (by omega))
    obtain ⟨own3,bv3,r1,r2⟩:=hO2
    have hT:Touch (fun t=>t=tb∨t=tk∨t= .mem) w _ own own3:=(hk.mono fun _ e=>Or.inr (Or.inr e)).trans (r2.mono fun _ e=>e.elim Or.inl fun e=>Or.inr (Or.inl e))
    have hMm:PMem w2 (ext own w.heap.size .mem) G.X m':=⟨gc,gw,hm2,fun d hd=>ext_tag (Or.inl (hmo d hd))⟩
    refine ⟨own3,hf.back _ own3 (n+1) _ bv3 m' (Nat.le_succ n) hT r1 (hMm.move r2 fun e=>e.elim (fun e=>hf.ntb.1 e.symm) fun e=>hf.ntb.2.1 e.symm),hT.mono ?_⟩
    intro t2 ht e0
    subst e0
    rcases ht with e|e|e
    ·have q:=hf.ntb.2.2.1
     rw[←e] at q
     rcases q with q|q<;>exact q
    ·have q:=hf.ntb.2.2.2
     rw[←e] at q
     rcases q with q|q<;>exact q
    ·cases e
  ·have hsm:=step_same (m:=M.mem) hr ho
   rw[hsm]
   have fin: ∀(e:Ending) (w':World),e= .returned (.tuple #[.int .i64 (stepL (getF M i t) F.lib M.mem).how, .nilIface])∧FrOut w own b o ty P S tb tk (n+1) (stepL (getF M i t) F.lib M.mem).f w'→(∃ev,e= .returned (.tuple #[.int .i64 (stepL (getF M i t) F.lib M.mem).how,ev]))∧KO F w own G (setF { M with mem:=M.mem} i t (stepL (getF M i t) F.lib M.mem).f) (n+1) w':=fun e w' ⟨a,c⟩=>⟨⟨_,a⟩,hf.out hM (Nat.le_succ n) c⟩
   by_cases h1:x.op≤11
   ·exact (vstep_reck hf.fr hf.ne hc hg hl hmay hv hn hx ⟨hO.1,h1⟩ M.mem).mono fin
   ·by_cases h2:x.op≤16
    ·exact (vstep_jump hf.fr hf.ne hc hg hl hmay hv hn hx ⟨by omega,h2⟩ M.mem).mono fin
    ·exact (vstep_away hf.fr hf.ne hc hg hl hmay hv hn hx (by omega) M.mem).mono fin
end
end Go.Proofs.YtaangaogmnlljaaGreatDoor.Kn
namespace Go.Proofs.YtaangaogmnlljaaGreatDoor.Kn
open Go.RowKit Asm
section
variable {F:Fixed} {w:World} {own:Own} {G:KG} {M:Mach} {n:Nat}
theorem KernP.top_ptr (h:KernP F w own G M n) {id:Int} {r:Run} (hr:runOf M.runs id=some r) (hne:r.l≠ []): ∃g c l,w.cell? ⟨G.tb id,1,none⟩=some (.slice (some ⟨g,0,none⟩) (l+1) c)∧r.l.length=l+1∧w.cell? ⟨g,l,none⟩=some (.pointer (some ⟨G.fb id l,0,none⟩))∧own g= .row id∧g<w.heap.size∧l+1≤c:=by
 obtain ⟨-,⟨lv,hc,hrow⟩,-,-,-⟩:=h.thr_cells hr
 obtain ⟨hm,rfl⟩:=runOf_mem hr
 have hl:0<r.l.length:=List.length_pos_iff.2 hne
 obtain ⟨l,hll⟩: ∃l,r.l.length=l+1:=⟨r.l.length - 1,by omega⟩
 obtain ⟨h1,⟨h2,h3⟩ |⟨g,cap,cur,rfl,hg,q⟩⟩:=hrow.1
 ·omega
 ·refine ⟨g,cap,l,by rw[hc,hll],hll,?_,hrow.2 g rfl,hrow.lt rfl,?_⟩
  ·have e1:(fptrs G.fb r)[l]?=some (.pointer (some ⟨G.fb r.id l,0,none⟩)):=by
    unfold fptrs
    rw[List.getElem?_map,List.getElem?_range (by omega)]
    rfl
   have:=hrow.1.cells rfl _ _ e1
   rwa[Addr.add_lit,Nat.zero_add] at this
  ·have:=q.2.1;omega
theorem getF_setF (hn:(M.runs.map (·.id)).Nodup) {i:Nat} (hi:i<M.wkrs.length) {t:Option Int} {b o:Nat} (fa:FAt G M i t b o) (f:Frame):getF (setF M i t f) i t=f:=by
 cases t with
 |none=>
  show (wkrOf (setW M i { wkrOf M i with f:=f}) i).f=_
  rw[wkrOf_setW hi]
 |some id=>
  obtain ⟨r,hr,-,-,-⟩:=fa
  have hid:=(runOf_mem hr).2
  have e1:setF M i (some id) f={ M with runs:=setRun M.runs (withTop r { topF r with f:=f})}:=by unfold setF;simp only[hr]
  rw[e1]
  unfold getF
  simp only
  rw[runOf_setRun hn (r0:=r) (by show runOf M.runs r.id=some r;rw[hid];exact hr),if_pos (by show id=r.id;exact hid.symm)]
  simp[withTop,topF]
set_option maxRecDepth 100000 in
set_option maxHeartbeats 2000000 in
theorem returned_any (h:KernP F w own G M n) {id:Int} {r:Run} (hr:runOf M.runs id=some r) (hne:r.l≠ []) (num code v:Int) (hc:U64 code) (hv:U64 v) (hf:M.out.length<1000000):
  Calls Tryz.prog 247 #[.pointer (some ⟨G.K,0,none⟩), .pointer (some ⟨G.tb id,0,none⟩), .int .i64 num, .int .u64 code, .int .u64 v] w fun rr w'=>rr= .returned (.tuple #[])∧KO F w own G (returned M id num code v) n w':=by
 obtain ⟨g,c,l,ct1,hll,cg,-,hgl,hlc⟩:=h.top_ptr hr hne
 have hlI:(0:Int)≤(l:Int)∧(l:Int)<(l:Int)+1:=by omega
 have hlen:r.l.length≤100:=(h.runs.each r (runOf_mem hr).1).few
 have hl2:(l:Int)≤99:=by omega
 have hw:IntKind.i64.wrap ((l:Int)+1 - 1)=(l:Int):=by rw[IntKind.wrap_i64];omega
 have fa:FAt G M 0 (some id) (G.fb id l) 0:=⟨r,hr,hne,by rw[hll];rfl,rfl⟩
 have h0:0<F.workers:=h.fok.workers.1
 obtain ⟨f0,-,f1,hfb⟩:=h.reg h0 fa 0 (by decide)
 obtain ⟨f2,-,f3,-⟩:=h.reg h0 fa 1 (by decide)
 obtain ⟨ct0,-,-,⟨-,hui⟩,-⟩:=h.thr_cells hr
 have hl0:0<M.wkrs.length:=h.wlen h0
 have e2:getF (setF M 0 (some id) (setR (topF r).f 0 code)) 0 (some id)=setR (topF r).f 0 code:=getF_setF h.runs.nod hl0 fa _
 have hgf:getF M 0 (some id)=(topF r).f:=by unfold getF;simp only[hr]
 have e3:putReg (putReg M 0 (some id) 0 code) 0 (some id) 1 v={ M with runs:=setRun M.runs (withTop r { topF r with f:=setR (setR (topF r).f 0 code) 1 v})}:=by
  unfold putReg
  rw[hgf,e2,setF_setF h.runs.nod fa]
  unfold setF
  simp only[hr]
 have HPut:Hid (∀q,KO F w own G { M with runs:=setRun M.runs (withTop r { topF r with f:=setR (setR (topF r).f 0 code) 1 v})} n (((w.drewN q).setCell ⟨G.fb id l,1,none⟩ (.int .u64 code)).setCell ⟨G.fb id l,2,none⟩ (.int .u64 v))):=Lib.hid fun q=>by
  rw[←e3]
  obtain ⟨o1,k1,t1⟩:=(h.drewN q).put_reg h0 fa (k:=0) (by decide) hc
  obtain ⟨o2,k2,t2⟩:=k1.put_reg h0 (t:=some id) (b:=G.fb id l) (o:=0) (FAt.setF fa h.runs.nod _) (k:=1) (by decide) hv
  exact ⟨o2,k2,(touch_drewN w own q).trans (t1.trans t2)⟩
 have HEq:Hid (returned M id num code v=tell { M with runs:=setRun M.runs (withTop r { topF r with f:=setR (setR (topF r).f 0 code) 1 v})} ⟨2,0,0,id,num,0,0,0,0,v,code⟩):=Lib.hid (by
  unfold returned
  simp only[hr])
 have hr2:runOf (setRun M.runs (withTop r { topF r with f:=setR (setR (topF r).f 0 code) 1 v})) id=some (withTop r { topF r with f:=setR (setR (topF r).f 0 code) 1 v}):=by
  have hid:=(runOf_mem hr).2
  rw[runOf_setRun h.runs.nod (r0:=r) (by show runOf M.runs r.id=some r;rw[hid];exact hr),if_pos (by show id=r.id;exact hid.symm)]
 have HTc:Hid (∀W own',KernP F W own' G { M with runs:=setRun M.runs (withTop r { topF r with f:=setR (setR (topF r).f 0 code) 1 v})} n→W.cell? ⟨G.tb id,0,none⟩=some (.int .u64 id)):=Lib.hid fun W own' h'=>(h'.thr_cells hr2).1
 have HOut:=Lib.hid hf
 have H:=Lib.hid h
 have HFa:=Lib.hid fa
 clear fa hr hne hll hlen e2 e3 hgf hr2 hf hc hv
 generalize setRun M.runs (withTop r { topF r with f:=setR (setR (topF r).f 0 code) 1 v})=rs at*
 go_enter Tryz.func247,Tryz.ntmps247
 go_wp2_with fail
 go_quiet (fail)
 go_wp2_with fail
 go_region_with (fail)
 have HQ:=HPut.out (nq+1)
 generalize (((w.drewN (nq+1)).setCell ⟨G.fb id l,1,none⟩ (.int .u64 code)).setCell ⟨G.fb id l,2,none⟩ (.int .u64 v))=w1 at HQ ⊢
 obtain ⟨own1,h1,t1⟩:=HQ
 have HT:=Lib.hid t1
 have c0:=HTc.out w1 own1 h1
 have HTl:=Lib.hid (tell_any h1 ⟨2,0,0,id,num,0,0,0,0,v,code⟩ HOut.out)
 clear h1 t1
 go_wp2_with fail
 refine HTl.out.mono ?_
 rintro e w2 ⟨rfl,hk⟩
 have HK:=Lib.hid hk
 clear hk
 go_wp2_with fail
 go_end0
 rw[HEq.out]
 exact ⟨rfl,KO.trans HT.out HK.out⟩
end
end Go.Proofs.YtaangaogmnlljaaGreatDoor.Kn
namespace Go.Proofs.YtaangaogmnlljaaGreatDoor.Kn
open Go.RowKit Asm
set_option maxRecDepth 100000 in
theorem uses_any {x:Int} (ho:1≤x∧x≤58) (w:World):Calls Tryz.prog 246 #[.int .i64 x] w fun e w'=>e= .returned (.bool (hasA x))∧w=w':=by
 have HF:=Lib.hid (cfields_any ho w)
 generalize hasA x=a1 at*
 generalize hasB x=a2 at*
 generalize hasC x=a3 at*
 generalize hasV x=a4 at*
 go_enter Tryz.func246,Tryz.ntmps246
 go_wp2_with fail
 refine HF.out.mono ?_
 rintro e w1 ⟨rfl,rfl⟩
 go_wp2_with fail
 go_ret
 exact ⟨rfl,rfl⟩
section
variable {F:Fixed} {w:World} {own:Own} {G:KG} {M:Mach} {n:Nat}
set_option maxRecDepth 100000 in
set_option maxHeartbeats 4000000 in
theorem mark_none (h:KernP F w own G M n) (id:Int) (b o:Nat) (x:InsL) (hm:x.m=0):
  Calls Tryz.prog 195 #[.pointer (some ⟨G.K,0,none⟩), .int .u64 id, .pointer (some ⟨b,o,none⟩), .agg (insV x)] w fun rr w'=>rr= .returned (.tuple #[])∧KO F w own G M n w':=by
 obtain ⟨xo,xa,xb,xc,xv,xm,xw⟩:=x
 simp only at hm
 subst hm
 unfold insV
 have H:=Lib.hid h
 clear h
 go_enter Tryz.func195,Tryz.ntmps195
 go_wp2_with fail
 refine bodyPost_ret (results_none rfl _ _ _) rfl ?_
 exact ⟨rfl,KO.below H.out ((Below.refl _ _).alloc (Nat.le_refl _) _)⟩
set_option maxRecDepth 100000 in
set_option maxHeartbeats 4000000 in
theorem mark_some (h:KernP F w own G M n) {i:Nat} (hi:i<F.workers) {t:Option Int} {b o:Nat} (fa:FAt G M i t b o) (id:Int) (x:InsL) (hm:x.m≠0) (ho:1≤x.op∧x.op≤58) (ha:0≤x.a∧x.a<32) (hw:0≤x.w∧x.w≤2) (hf:M.out.length<1000000):
  Calls Tryz.prog 195 #[.pointer (some ⟨G.K,0,none⟩), .int .u64 id, .pointer (some ⟨b,o,none⟩), .agg (insV x)] w fun rr w'=>rr= .returned (.tuple #[])∧KO F w own G (markK M id (getF M i t) x) n w':=by
 obtain ⟨k,hk⟩:=Int.eq_ofNat_of_zero_le ha.1
 have hk2:k<32:=by omega
 have hkI:(0:Int)≤(k:Int)∧(k:Int)<32:=by omega
 obtain ⟨ra,-,-,hbl⟩:=h.reg hi fa k hk2
 obtain ⟨r0,-,-,-⟩:=h.reg hi fa 0 (by decide)
 have HUs:=Lib.hid (fun W=>uses_any ho W)
 obtain ⟨xo,xa,xb,xc,xv,xm,xw⟩:=x
 simp only at hk hm hw ho HUs
 subst hk
 unfold insV
 have hm2:(xm==0)=false:=beq_eq_false_iff_ne.2 hm
 have hb:Below w.heap.size w (w.alloc (.cells #[.int .i64 xo, .int .i64 k, .int .i64 xb, .int .i64 xc, .int .u64 xv, .int .i64 xm, .int .i64 xw] 68)):=(Below.refl _ _).alloc (Nat.le_refl _) _
 have hz:=heap_alloc_new w (.cells #[.int .i64 xo, .int .i64 k, .int .i64 xb, .int .i64 xc, .int .u64 xv, .int .i64 xm, .int .i64 xw] 68)
 have H:=Lib.hid h
 have HFa:=Lib.hid fa
 have HI:=Lib.hid hi
 have h1:=h.below hb
 have HT:=Lib.hid (touch_below (ts:=fun t=>t≠ .other) (t:= .other) (own:=own) hb)
 have BO:Hid (ext own w.heap.size .other w.heap.size= .other):=Lib.hid (ext_tag (Or.inr (Nat.le_refl _)))
 have BZ:=Lib.hid hz
 generalize hw1:w.alloc (.cells #[.int .i64 xo, .int .i64 k, .int .i64 xb, .int .i64 xc, .int .u64 xv, .int .i64 xm, .int .i64 xw] 68)=w1 at*
 generalize hbx:w.heap.size=bx at*
 generalize ext own bx .other=own1 at*
 have hww:xw=0∨xw=1∨xw=2:=by omega
 have HMk:Hid (∀c,(if hasA xo=true then rg (getF M i t) k else 0)=c→markK M id (getF M i t) ⟨xo,k,xb,xc,xv,xm,xw⟩=if xw=0∨(xw=1∧c=0)∨(xw=2∧c≠0) then tell M ⟨5,0,0,id,xm,0,0,0,0,rg (getF M i t) 0,c⟩ else M):=Lib.hid fun c hc=>by
  unfold markK
  simp only[hc,if_neg hm]
 have HOut:=Lib.hid hf
 clear ra r0 h hb hz fa hi hm ha hf hw ho
 obtain ⟨ra,-,-,-⟩:=h1.reg HI.out HFa.out k hk2
 obtain ⟨r0,-,-,-⟩:=h1.reg HI.out HFa.out 0 (by decide)
 have z0:=blk_cell BZ.out 0
 have z1:=blk_cell BZ.out 1
 have z5:=blk_cell BZ.out 5
 have z6:=blk_cell BZ.out 6
 have hbx1:=blk_in BZ.out
 generalize hva:rg (getF M i t) (k:Int)=va at*
 have HVa:=Lib.hid hva
 clear hva
 have hc0:rg (getF M i t) ((0:Nat):Int)=rg (getF M i t) 0:=rfl
 rw[hc0] at r0
 clear hc0
 generalize hv0:rg (getF M i t) 0=v0 at*
 have HV0:=Lib.hid hv0
 clear hv0
 have H1:=Lib.hid h1
 clear h1
 go_enter Tryz.func195,Tryz.ntmps195
 go_wp2_with fail
 try rw[hw1]
 have HBXe:=Lib.hid hbx
 clear hw1 hbx
 go_region_held3 (fun W=>W.cell? ⟨bx,5,none⟩=some (.int .i64 xm)∧W.cell? ⟨b,o+1+0,none⟩=some (.int .u64 v0)) (first|with_reducible exact ⟨z5,r0⟩ |exact ⟨z5,r0⟩ |go_keep) (fail)
 have hb2:Below w1.heap.size w1 (w1.alloc (.cells #[.int .i64 5, .int .i64 0, .int .i64 0, .int .u64 id, .int .i64 xm, .int .u64 0, .int .u64 0, .int .u64 0, .int .u64 0, .int .u64 v0, .int .u64 0] 71)).drew:=((Below.refl _ _).alloc (Nat.le_refl _) _).drew
 have hz2:(w1.alloc (.cells #[.int .i64 5, .int .i64 0, .int .i64 0, .int .u64 id, .int .i64 xm, .int .u64 0, .int .u64 0, .int .u64 0, .int .u64 0, .int .u64 v0, .int .u64 0] 71)).drew.heap[w1.heap.size]?=some (.cells #[.int .i64 5, .int .i64 0, .int .i64 0, .int .u64 id, .int .i64 xm, .int .u64 0, .int .u64 0, .int .u64 0, .int .u64 0, .int .u64 v0, .int .u64 0] 71 (0,0)):=heap_alloc_new w1 _
 have h2:=H1.out.below hb2
 have HT:=Lib.hid (HT.out.trans (touch_below (ts:=fun t=>t≠ .other) (t:= .other) (own:=own1) hb2))
 have EO:Hid (ext own1 w1.heap.size .other w1.heap.size= .other):=Lib.hid (ext_tag (Or.inr (Nat.le_refl _)))
 replace BZ:=Lib.hid ((hb2.block _ (blk_in BZ.out)).trans BZ.out)
 have hne:w1.heap.size≠bx:=by omega
 generalize (w1.alloc (.cells #[.int .i64 5, .int .i64 0, .int .i64 0, .int .u64 id, .int .i64 xm, .int .u64 0, .int .u64 0, .int .u64 0, .int .u64 0, .int .u64 v0, .int .u64 0] 71)).drew=w2 at*
 generalize w1.heap.size=be at*
 generalize ext own1 be .other=own2 at*
 clear r0 ra z0 z1 z5 z6 hb2
 obtain ⟨ra,-,-,-⟩:=h2.reg HI.out HFa.out k hk2
 rw[show rg (getF M i t) (k:Int)=va from HVa.out] at ra
 have z0:=blk_cell BZ.out 0
 have z1:=blk_cell BZ.out 1
 have z6:=blk_cell BZ.out 6
 have e0:=blk_cell hz2 0
 have e10:=blk_cell hz2 10
 have ef:=blk_frozen hz2 10
 have EZ:=Lib.hid hz2
 have H2:=Lib.hid h2
 clear h2 hz2
 go_wp2_with fail
 refine (HUs.out _).mono ?_
 rintro e w3 ⟨rfl,rfl⟩
 cases hA:hasA xo with
 |false=>
  have HM0:=HMk.out 0 (by rw[hA];rfl)
  have g0:=blk_cell EZ.out 0
  have g1:=blk_cell EZ.out 1
  have g2:=blk_cell EZ.out 2
  have g3:=blk_cell EZ.out 3
  have g4:=blk_cell EZ.out 4
  have g5:=blk_cell EZ.out 5
  have g6:=blk_cell EZ.out 6
  have g7:=blk_cell EZ.out 7
  have g8:=blk_cell EZ.out 8
  have g9:=blk_cell EZ.out 9
  have g10:=blk_cell EZ.out 10
  clear e0 e10
  rcases hww with rfl|rfl|rfl
  ·have HM:Hid (markK M id (getF M i t) ⟨xo,k,xb,xc,xv,xm,0⟩=tell M ⟨5,0,0,id,xm,0,0,0,0,v0,0⟩):=Lib.hid (HM0.trans (if_pos (Or.inl rfl)))
   go_wp2_with fail
   refine (tell_any (H2.out) ⟨5,0,0,id,xm,0,0,0,0,v0,0⟩ HOut.out).mono ?_
   rintro e w9 ⟨rfl,hk⟩
   have HK9:=Lib.hid hk
   clear hk
   go_wp2_with fail
   go_end0
   try rw[HM.out]
   exact ⟨rfl,KO.trans HT.out HK9.out⟩
  ·have HM:Hid (markK M id (getF M i t) ⟨xo,k,xb,xc,xv,xm,1⟩=tell M ⟨5,0,0,id,xm,0,0,0,0,v0,0⟩):=Lib.hid (HM0.trans (if_pos (Or.inr (Or.inl ⟨rfl,rfl⟩))))
   go_wp2_with fail
   refine (tell_any (H2.out) ⟨5,0,0,id,xm,0,0,0,0,v0,0⟩ HOut.out).mono ?_
   rintro e w9 ⟨rfl,hk⟩
   have HK9:=Lib.hid hk
   clear hk
   go_wp2_with fail
   go_end0
   try rw[HM.out]
   exact ⟨rfl,KO.trans HT.out HK9.out⟩
  ·have HM:Hid (markK M id (getF M i t) ⟨xo,k,xb,xc,xv,xm,2⟩=M):=Lib.hid (HM0.trans (if_neg (by decide)))
   go_wp2_with fail
   go_end0
   try rw[HM.out]
   exact ⟨rfl,own2,H2.out,HT.out⟩
 |true=>
  have HM0:=HMk.out va (by simp[hA])
  have EZ4:Hid ((w2.setCell ⟨be,10,none⟩ (.int .u64 va)).drew.heap[be]?=some (.cells #[.int .i64 5, .int .i64 0, .int .i64 0, .int .u64 id, .int .i64 xm, .int .u64 0, .int .u64 0, .int .u64 0, .int .u64 0, .int .u64 v0, .int .u64 va] 71 (0,0))):=Lib.hid (by show (w2.setCell ⟨be,10,none⟩ (.int .u64 va)).heap[be]?=_;rw[set_block EZ.out];rfl)
  have H4:=Lib.hid (H2.out.move (w':=(w2.setCell ⟨be,10,none⟩ (.int .u64 va)).drew) ⟨((Keeps.refl _ w2).setCell (p:=⟨be,10,none⟩) EO.out _).drew,fun _ _=>rfl⟩)
  have z64:(w2.setCell ⟨be,10,none⟩ (.int .u64 va)).drew.cell? ⟨bx,6,none⟩=some (.int .i64 xw):=(World.cell?_of_block (a:=⟨bx,6,none⟩) (set_other (p:=⟨be,10,none⟩) (Ne.symm hne))).trans z6
  have HT4:Hid (Touch (fun t=>t≠ .other) w (w2.setCell ⟨be,10,none⟩ (.int .u64 va)).drew own own2):=Lib.hid (by
   have hk:Keeps (fun c=>c=be) w2 (w2.setCell ⟨be,10,none⟩ (.int .u64 va)).drew:=(Keeps.setCell (X:=fun c=>c=be) (Keeps.refl _ w2) (p:=⟨be,10,none⟩) rfl _).drew
   exact ⟨HT.out.keeps.trans hk fun c hc=>Or.inr (by have:=HBXe.out;omega),HT.out.own⟩)
  go_wp2_with fail
  go_still_tail 8,(by kernel_rfl)
  change wpList _ _ _ _ _ w2.drew
  go_upto_region 5 with fail
  generalize (w2.setCell ⟨be,10,none⟩ (.int .u64 va)).drew=w4 at*
  clear e0 e10 ef z0 z1 z6 ra
  have g0:=blk_cell EZ4.out 0
  have g1:=blk_cell EZ4.out 1
  have g2:=blk_cell EZ4.out 2
  have g3:=blk_cell EZ4.out 3
  have g4:=blk_cell EZ4.out 4
  have g5:=blk_cell EZ4.out 5
  have g6:=blk_cell EZ4.out 6
  have g7:=blk_cell EZ4.out 7
  have g8:=blk_cell EZ4.out 8
  have g9:=blk_cell EZ4.out 9
  have g10:=blk_cell EZ4.out 10
  rcases hww with rfl|rfl|rfl
  ·have HM:Hid (markK M id (getF M i t) ⟨xo,k,xb,xc,xv,xm,0⟩=tell M ⟨5,0,0,id,xm,0,0,0,0,v0,va⟩):=Lib.hid (HM0.trans (if_pos (Or.inl rfl)))
   go_wp2_with fail
   refine (tell_any H4.out ⟨5,0,0,id,xm,0,0,0,0,v0,va⟩ HOut.out).mono ?_
   rintro e w9 ⟨rfl,hk⟩
   have HK9:=Lib.hid hk
   clear hk
   go_wp2_with fail
   go_end0
   try rw[HM.out]
   exact ⟨rfl,KO.trans HT4.out HK9.out⟩
  ·by_cases hc:va=0
   ·subst hc
    have HM:Hid (markK M id (getF M i t) ⟨xo,k,xb,xc,xv,xm,1⟩=tell M ⟨5,0,0,id,xm,0,0,0,0,v0,0⟩):=Lib.hid (HM0.trans (if_pos (Or.inr (Or.inl ⟨rfl,rfl⟩))))
    go_wp2_with fail
    refine (tell_any H4.out ⟨5,0,0,id,xm,0,0,0,0,v0,0⟩ HOut.out).mono ?_
    rintro e w9 ⟨rfl,hk⟩
    have HK9:=Lib.hid hk
    clear hk
    go_wp2_with fail
    go_end0
    try rw[HM.out]
    exact ⟨rfl,KO.trans HT4.out HK9.out⟩
   ·have hc2:(va==0)=false:=beq_eq_false_iff_ne.2 hc
    have HM:Hid (markK M id (getF M i t) ⟨xo,k,xb,xc,xv,xm,1⟩=M):=Lib.hid (HM0.trans (if_neg (by intro e;rcases e with e|e|e;exact absurd e (by decide);exact hc e.2;exact absurd e.1 (by decide))))
    go_wp2_with fail
    go_end0
    try rw[HM.out]
    exact ⟨rfl,own2,H4.out,HT4.out⟩
  ·by_cases hc:va=0
   ·subst hc
    have HM:Hid (markK M id (getF M i t) ⟨xo,k,xb,xc,xv,xm,2⟩=M):=Lib.hid (HM0.trans (if_neg (by intro e;rcases e with e|e|e;exact absurd e (by decide);exact absurd e.1 (by decide);exact e.2 rfl)))
    go_wp2_with fail
    go_end0
    try rw[HM.out]
    exact ⟨rfl,own2,H4.out,HT4.out⟩
   ·have hc2:(va==0)=false:=beq_eq_false_iff_ne.2 hc
    have HM:Hid (markK M id (getF M i t) ⟨xo,k,xb,xc,xv,xm,2⟩=tell M ⟨5,0,0,id,xm,0,0,0,0,v0,va⟩):=Lib.hid (HM0.trans (if_pos (Or.inr (Or.inr ⟨rfl,hc⟩))))
    go_wp2_with fail
    refine (tell_any H4.out ⟨5,0,0,id,xm,0,0,0,0,v0,va⟩ HOut.out).mono ?_
    rintro e w9 ⟨rfl,hk⟩
    have HK9:=Lib.hid hk
    clear hk
    go_wp2_with fail
    go_end0
    try rw[HM.out]
    exact ⟨rfl,KO.trans HT4.out HK9.out⟩
end
end Go.Proofs.YtaangaogmnlljaaGreatDoor.Kn
namespace Go.Proofs.YtaangaogmnlljaaGreatDoor.Kn
open Go.RowKit Asm
def GAgree (G:KG) (tb:Int→Nat) (fb:Int→Nat→Nat) (l:List Run):Prop:= ∀r∈l,tb r.id=G.tb r.id∧ ∀i,i<r.l.length→fb r.id i=G.fb r.id i
def KO2 (F:Fixed) (w:World) (own:Own) (G:KG) (l:List Run) (M:Mach) (n:Nat) (w':World):Prop:= ∃tb fb,GAgree G tb fb l∧KO F w own { G with tb:=tb,fb:=fb} M n w'
section
variable {F:Fixed} {w:World} {own:Own} {G:KG} {M:Mach} {n:Nat}
theorem KO.two {w':World} {l:List Run} (h:KO F w own G M n w'):KO2 F w own G l M n w':=⟨G.tb,G.fb,fun _ _=>⟨rfl,fun _ _=>rfl⟩,h⟩
theorem FAt.grow {tb:Int→Nat} {fb:Int→Nat→Nat} {i:Nat} {t:Option Int} {b o:Nat} (fa:FAt G M i t b o) (hg:GAgree G tb fb M.runs):FAt { G with tb:=tb,fb:=fb} M i t b o:=by
 cases t with
 |none=>exact fa
 |some id=>
  obtain ⟨r,h1,h2,h3,h4⟩:=fa
  obtain ⟨hm,hid⟩:=runOf_mem h1
  have hl:0<r.l.length:=List.length_pos_iff.2 h2
  refine ⟨r,h1,h2,?_,h4⟩
  rw[h3]
  have:=(hg r hm).2 (r.l.length - 1) (by omega)
  rw[hid] at this
  exact this.symm
end
end Go.Proofs.YtaangaogmnlljaaGreatDoor.Kn
namespace Go.Proofs.YtaangaogmnlljaaGreatDoor.Kn
open Go.RowKit Asm
section
variable {F:Fixed} {w:World} {own:Own} {G:KG} {M:Mach} {n:Nat}
theorem fptrs_agree {fb fb':Int→Nat→Nat} {r:Run} (h: ∀i,i<r.l.length→fb' r.id i=fb r.id i):fptrs fb' r=fptrs fb r:=by
 unfold fptrs
 apply List.map_congr_left
 intro i hi
 rw[h i (List.mem_range.1 hi)]
theorem RunP.grow {tb tb':Int→Nat} {fb fb':Int→Nat→Nat} {r:Run} (h:RunP w own tb fb r n) (h1:tb' r.id=tb r.id) (h2: ∀i,i<r.l.length→fb' r.id i=fb r.id i):RunP w own tb' fb' r n:=by
 obtain ⟨lv,ho,hr⟩:=h.obj
 refine ⟨by rw[h1];exact h.mine,h.id,h.woken,h.few,⟨lv,by rw[h1];exact ho,by rw[fptrs_agree h2];exact hr⟩,fun i fr hi=>?_⟩
 rw[h2 i (List.getElem?_eq_some_iff.1 hi).1]
 exact h.frs i fr hi
theorem PRuns.grow {th:Nat} {tb tb':Int→Nat} {fb fb':Int→Nat→Nat} {l:List Run} (h:PRuns w own th tb fb l n) (hg: ∀r∈l,tb' r.id=tb r.id∧ ∀i,i<r.l.length→fb' r.id i=fb r.id i):PRuns w own th tb' fb' l n:=by
 obtain ⟨N,hm,hN⟩:=h.map
 refine ⟨h.nod,h.mine,⟨N,hm.same fun id _=>?_,hN⟩,fun r hr=>(h.each r hr).grow (hg r hr).1 (hg r hr).2⟩
 cases e:runOf l id with
 |none=>rfl
 |some r=>
  obtain ⟨hm,hid⟩:=runOf_mem e
  have:=(hg r hm).1
  rw[hid] at this
  simp[this]
def own2 (own:Own) (n nb:Nat) (t1 t2:Tag):Own:=fun b=>if b<n then own b else if b=nb then t1 else t2
theorem own2_old {n nb b:Nat} {t1 t2:Tag} (h:b<n):own2 own n nb t1 t2 b=own b:=if_pos h
theorem own2_new {n nb:Nat} {t1 t2:Tag} (h:n≤nb):own2 own n nb t1 t2 nb=t1:=by
 unfold own2;rw[if_neg (by omega),if_pos rfl]
theorem own2_rest {n nb b:Nat} {t1 t2:Tag} (h:n≤b) (hne:b≠nb):own2 own n nb t1 t2 b=t2:=by
 unfold own2;rw[if_neg (by omega),if_neg hne]
theorem KernP.push (h:KernP F w own G M n) {id:Int} {r:Run} (hr:runOf M.runs id=some r) (hl:r.l.length<100) {fr:Fr} {n':Nat} (hn:n≤n') (hok:FrOk n' fr.f) (hbk:fr.f.back= []) (hnum:0≤fr.num∧fr.num<1000) {lv:Value} (hlv:w.cell? ⟨G.tb id,1,none⟩=some lv) {w4:World} {v:Value} {nb:Nat} (hk:Keeps (fun b=>lv.ownBlock=some b) w w4) (hnb:w.heap.size≤nb) (hob:w4.heap[nb]?=some (.cells (frC fr.f (.slice none 0 0)++ [Value.bool fr.lib,Value.int .i64 fr.num]).toArray 284 (0,0))) (hr4:w4.ownsRow 0 282 1 v (r.l.length+1) (fptrs G.fb r++ [.pointer (some ⟨nb,0,none⟩)])) (hv: ∀b,v.ownBlock=some b→lv.ownBlock=some b∨w.heap.size≤b):
  KO2 F w own G M.runs { M with runs:=setRun M.runs { r with l:=r.l++ [fr]}} n' (w4.setCell ⟨G.tb id,1,none⟩ v):=by
 obtain ⟨hm,hid⟩:=runOf_mem hr
 subst hid
 have hP:=h.runs.each r hm
 obtain ⟨lv',ho,hrow⟩:=hP.obj
 have hlv':lv'=lv:=by rw[blk_cell ho] at hlv;exact Option.some.inj hlv
 subst hlv'
 have htl:G.tb r.id<w.heap.size:=blk_in ho
 have hvn: ∀b,v.ownBlock=some b→b≠nb:=fun b hb e=>by
  obtain ⟨cur,hc⟩:=Asm.row_block hr4 hb
  rw[e,hob] at hc
  injection hc with hc
  injection hc with _ hc
  exact absurd hc (by decide)
 obtain ⟨fb,hfb⟩: ∃fb:Int→Nat→Nat,fb=fun x i=>if x=r.id∧i=r.l.length then nb else G.fb x i:=⟨_,rfl⟩
 have fb_old: ∀x i,(x≠r.id∨i≠r.l.length)→fb x i=G.fb x i:=fun x i hx=>by
  rw[hfb]
  exact if_neg fun e=>hx.elim (fun k=>k e.1) fun k=>k e.2
 have fb_new:fb r.id r.l.length=nb:=by rw[hfb];exact if_pos ⟨rfl,rfl⟩
 have hga: ∀x∈M.runs,G.tb x.id=G.tb x.id∧ ∀i,i<x.l.length→fb x.id i=G.fb x.id i:=fun x hx=>⟨rfl,fun i hi=>fb_old _ _ (by
  by_cases e:x.id=r.id
  ·have:x=r:=by
    have h1:=runOf_in h.runs.nod hx
    rw[e,hr] at h1
    exact (Option.some.inj h1).symm
   subst this
   exact Or.inr (by omega)
  ·exact Or.inl e)⟩
 obtain ⟨own',hown⟩: ∃own':Own,own'=own2 own w.heap.size nb (.fr r.id r.l.length) (.row r.id):=⟨_,rfl⟩
 have hold: ∀b,b<w.heap.size→own' b=own b:=fun b hb=>by rw[hown];exact own2_old hb
 have hT:Touch (fun t=>t= .row r.id) w w4 own own':=⟨hk.mono fun b hb=>hrow.2 b hb,hold⟩
 have hT2:Touch (fun t=>t= .thr r.id) w4 (w4.setCell ⟨G.tb r.id,1,none⟩ v) own' own':=⟨(Keeps.refl _ _).setCell (p:=⟨G.tb r.id,1,none⟩) ((hold _ htl).trans hP.mine) _,fun _ _=>rfl⟩
 have hT3:Touch (fun t=>t= .row r.id∨t= .thr r.id) w (w4.setCell ⟨G.tb r.id,1,none⟩ v) own own':=(hT.mono fun _ e=>Or.inl e).trans (hT2.mono fun _ e=>Or.inr e)
 have ho4:w4.heap[G.tb r.id]?=some (.cells #[.int .u64 r.id,lv', .int .u64 r.woken] 281 (0,0)):=(hT.at (t:= .thr r.id) nofun hP.mine htl).1.trans ho
 have hnbt:nb≠G.tb r.id:=by omega
 have hpr:PRuns (w4.setCell ⟨G.tb r.id,1,none⟩ v) own' G.th G.tb fb (Kn.setRun M.runs { r with l:=r.l++ [fr]}) n':=by
  refine (h.runs.grow hga).setRun (r':={ r with l:=r.l++ [fr]}) hr rfl hn hT3 (fun e=>(by rcases e with e|e<;>cases e)) (fun x hx=>⟨fun e=>(by rcases e with e|e<;>cases e;exact hx rfl),fun e=>(by rcases e with e|e<;>cases e;exact hx rfl),fun _=>⟨fun e=>(by rcases e with e|e<;>cases e),fun e=>(by rcases e with e|e<;>cases e)⟩⟩) ⟨(hold _ htl).trans hP.mine,hP.id,hP.woken,by simp;omega,⟨v,?_,?_,?_⟩,fun i fx hi=>?_⟩
  ·rw[set_block ho4]
   rfl
  ·have e1:fptrs fb { r with l:=r.l++ [fr]}=fptrs G.fb r++ [.pointer (some ⟨nb,0,none⟩)]:=by
    unfold fptrs
    simp only[List.length_append,List.length_singleton,List.range_succ,List.map_append,List.map_cons,List.map_nil]
    rw[fb_new]
    congr 1
    apply List.map_congr_left
    intro i hi
    rw[fb_old _ _ (Or.inr (by have:=List.mem_range.1 hi;omega))]
   show World.ownsRow _ 0 _ 1 v (r.l++ [fr]).length _
   rw[e1,List.length_append,List.length_singleton]
   refine Asm.ownsRow_of_block hr4 fun c hc=>set_other fun e2=>?_
   rcases hv c hc with h1|h1
   ·have:=hrow.2 c h1
    have e3:c=G.tb r.id:=e2
    rw[e3,hP.mine] at this
    cases this
   ·have e3:c=G.tb r.id:=e2
    omega
  ·intro c hc
   rcases hv c hc with h1|h1
   ·exact (hold c (hrow.lt h1)).trans (hrow.2 c h1)
   ·rw[hown];exact own2_rest h1 (hvn c hc)
  ·simp only at hi
   by_cases hlt:i<r.l.length
   ·rw[List.getElem?_append_left hlt] at hi
    rw[fb_old _ _ (Or.inr (by omega))]
    exact ((hP.frs i fx hi).move hT3 (fun e=>by rcases e with e|e<;>cases e) (fun e=>by rcases e with e|e<;>cases e)).more hn
   ·have hi2:i=r.l.length:=by
     have:=(List.getElem?_eq_some_iff.1 hi).1
     simp at this
     omega
    subst hi2
    rw[List.getElem?_append_right (Nat.le_refl _),Nat.sub_self] at hi
    have hfx:fr=fx:=Option.some.inj hi
    subst hfx
    rw[fb_new]
    refine ⟨by rw[hown];exact own2_new hnb,hok,hnum, .slice none 0 0,(set_other hnbt).trans hob,?_⟩
    rw[hbk]
    exact ⟨World.ownsRow_nil _ _ _ _,fun c hc=>by cases hc⟩
 exact ⟨G.tb,fb,fun x hx=>hga x hx,own',h.on_runs (tb:=G.tb) (fb:=fb) (hT3.mono fun t e=>by rcases e with e|e<;>(rw[e];trivial)) hn hpr,hT3.mono fun t e=>by rcases e with e|e<;>(rw[e];nofun)⟩
set_option maxRecDepth 100000 in
theorem KernP.spawn (h:KernP F w own G M n) {id:Int} (hid:id≠0∧U64 id) (hno:runOf M.runs id=none) {fr:Fr} (hok:FrOk (n+1) fr.f) (hbk:fr.f.back= []) (hnum:0≤fr.num∧fr.num<1000) (hn:n≤1000000) {w4:World} {lv:Value} {nb nt:Nat} (hk:Below w.heap.size w w4) (hnb:w.heap.size≤nb) (hnt:w.heap.size≤nt) (hob:w4.heap[nb]?=some (.cells (frC fr.f (.slice none 0 0)++ [Value.bool fr.lib,Value.int .i64 fr.num]).toArray 284 (0,0)))
  (hot:w4.heap[nt]?=some (.cells #[.int .u64 id,lv, .int .u64 0] 281 (0,0))) (hr4:w4.ownsRow 0 282 1 lv 1 [.pointer (some ⟨nb,0,none⟩)]) (hv: ∀b,lv.ownBlock=some b→w.heap.size≤b):
  ∃w5,(Instr.mapUpdate 156 (.map (some G.th)) (.int .u64 id) (.pointer (some ⟨nt,0,none⟩))).run Tryz.prog w4= .ok () w5∧KO2 F w own G M.runs { M with runs:=M.runs++ [⟨id,[fr],0⟩]} (n+1) w5∧ ∀b,own b≠ .map→b<w.heap.size→w5.heap[b]?=w4.heap[b]?:=by
 have hvn: ∀b,lv.ownBlock=some b→b≠nb∧b≠nt:=fun b hb=>by
  obtain ⟨cur,hc⟩:=Asm.row_block hr4 hb
  refine ⟨fun e=>?_,fun e=>?_⟩
  ·rw[e,hob] at hc
   injection hc with hc
   injection hc with _ hc
   exact absurd hc (by decide)
  ·rw[e,hot] at hc
   injection hc with hc
   injection hc with _ hc
   exact absurd hc (by decide)
 have hnn:nb≠nt:=fun e=>by
  rw[e,hot] at hob
  injection hob with hob
  injection hob with _ hob
  exact absurd hob (by decide)
 obtain ⟨N,hm,hN⟩:=h.runs.map
 have hm4:=hm.of_block (hk.block G.th hm.lt)
 obtain ⟨w5,hrun,hM,hturn⟩:=hm4.store (S:=ptrs) (by unfold maxLen;omega) Tryz.underlying156 hid.2 nt
 have hg:=hturn.grown
 obtain ⟨fb,hfb⟩: ∃fb:Int→Nat→Nat,fb=fun x i=>if x=id∧i=0 then nb else G.fb x i:=⟨_,rfl⟩
 obtain ⟨tb,htb⟩: ∃tb:Int→Nat,tb=fun x=>if x=id then nt else G.tb x:=⟨_,rfl⟩
 have hne: ∀x∈M.runs,x.id≠id:=fun x hx e=>by
  have h1:=runOf_in h.runs.nod hx
  rw[e,hno] at h1
  cases h1
 have hga: ∀x∈M.runs,tb x.id=G.tb x.id∧ ∀i,i<x.l.length→fb x.id i=G.fb x.id i:=fun x hx=>⟨by rw[htb];exact if_neg (hne x hx),fun i _=>by rw[hfb];exact if_neg fun e=>hne x hx e.1⟩
 obtain ⟨own',hown⟩: ∃own':Own,own'=fun b=>if b<w.heap.size then own b else if b=nb then .fr id 0 else if b=nt then .thr id else .row id:=⟨_,rfl⟩
 have hold: ∀b,b<w.heap.size→own' b=own b:=fun b hb=>by rw[hown];exact if_pos hb
 have hT:Touch (fun _=>False) w w4 own own':=⟨Keeps.ofBelow hk,hold⟩
 have hth:own' G.th= .map:=(hold _ hm.lt).trans h.runs.mine
 have k5:Touch (fun t=>t= .map) w4 w5 own' own':=⟨(Keeps.refl _ w4).grown hg fun k hk=>by injection hk with hk;rw[←hk];exact hth,fun _ _=>rfl⟩
 have kT:Touch (fun t=>t= .map) w w5 own own':=(hT.mono fun _ e=>e.elim).trans k5
 have onb:own' nb= .fr id 0:=by rw[hown];show (if nb<w.heap.size then own nb else if nb=nb then _ else _)=_;rw[if_neg (by omega),if_pos rfl]
 have ont:own' nt= .thr id:=by rw[hown];show (if nt<w.heap.size then own nt else if nt=nb then _ else if nt=nt then _ else _)=_;rw[if_neg (by omega),if_neg (Ne.symm hnn),if_pos rfl]
 have onr: ∀b,lv.ownBlock=some b→own' b= .row id:=fun b hb=>by
  have h1:=hv b hb
  have h2:=hvn b hb
  rw[hown];simp only;rw[if_neg (by omega),if_neg h2.1,if_neg h2.2]
 have hob5:w5.heap[nb]?=some (.cells (frC fr.f (.slice none 0 0)++ [Value.bool fr.lib,Value.int .i64 fr.num]).toArray 284 (0,0)):=(k5.at (t:= .fr id 0) nofun onb (blk_in hob)).1.trans hob
 have hot5:w5.heap[nt]?=some (.cells #[.int .u64 id,lv, .int .u64 0] 281 (0,0)):=(k5.at (t:= .thr id) nofun ont (blk_in hot)).1.trans hot
 have hr5:PRow w5 own' (.row id) 282 1 lv 1 [.pointer (some ⟨nb,0,none⟩)]:=PRow.move (own:=own') ⟨hr4,onr⟩ k5 nofun
 have hold5:=(h.runs.grow hga)
 have hpr:PRuns w5 own' G.th tb fb (M.runs++ [⟨id,[fr],0⟩]) (n+1):=by
  refine ⟨?_,hth,⟨N+1,hM.same fun x hx=>?_,by omega⟩,fun r hr=>?_⟩
  ·rw[List.map_append,List.nodup_append]
   refine ⟨h.runs.nod,by simp,fun a ha b hb=>?_⟩
   simp at hb
   subst hb
   obtain ⟨y,hy,rfl⟩:=List.mem_map.1 ha
   exact hne y hy
  ·unfold updG
   by_cases e:x=id
   ·subst e
    rw[if_pos rfl]
    have:runOf (M.runs++ [⟨x,[fr],0⟩]) x=some ⟨x,[fr],0⟩:=by
     unfold runOf at hno ⊢
     rw[List.find?_append,hno]
     simp
    rw[this,htb]
    simp
   ·rw[if_neg e]
    have:runOf (M.runs++ [⟨id,[fr],0⟩]) x=runOf M.runs x:=by
     unfold runOf
     rw[List.find?_append]
     have e2:(id==x)=false:=by simp;exact fun e3=>e e3.symm
     simp[e2]
    rw[this,htb]
    simp[e]
  ·rcases List.mem_append.1 hr with hr|hr
   ·exact ((hold5.each r hr).move kT nofun nofun (fun _=>nofun) (fun _=>nofun)).more (Nat.le_succ n)
   ·simp at hr
    subst hr
    have e1:tb id=nt:=by rw[htb];exact if_pos rfl
    have e2:fb id 0=nb:=by rw[hfb];exact if_pos ⟨rfl,rfl⟩
    refine ⟨by rw[e1];exact ont,hid,u64_0,by simp,⟨lv,by rw[e1];exact hot5,?_⟩,fun i fx hi=>?_⟩
    ·have e3:fptrs fb ⟨id,[fr],0⟩= [.pointer (some ⟨nb,0,none⟩)]:=by
      unfold fptrs
      simp[List.range_succ,e2]
     rw[e3]
     exact hr5
    ·have hi2:i=0:=by
      have:=(List.getElem?_eq_some_iff.1 hi).1
      simp at this
      exact this
     subst hi2
     have hfx:fr=fx:=Option.some.inj hi
     subst hfx
     rw[e2]
     refine ⟨onb,hok,hnum, .slice none 0 0,hob5,?_⟩
     rw[hbk]
     exact ⟨World.ownsRow_nil _ _ _ _,fun c hc=>by cases hc⟩
 refine ⟨w5,hrun,⟨tb,fb,hga,own',h.on_runs (tb:=tb) (fb:=fb) (kT.mono fun t e=>by rw[e];trivial) (Nat.le_succ n) hpr,kT.mono fun t e=>by rw[e];nofun⟩,fun b hb hl=>(k5.at (t:=own b) hb (hold b hl) (Nat.lt_of_lt_of_le hl hk.size)).1⟩
theorem KO2.trans {w1 w2:World} {M1 M2:Mach} {n1 n2:Nat} {l:List Run} (h:KO2 F w own G l M1 n1 w1) (k: ∀own1 tb fb,GAgree G tb fb l→KernP F w1 own1 { G with tb:=tb,fb:=fb} M1 n1→KO2 F w1 own1 { G with tb:=tb,fb:=fb} M1.runs M2 n2 w2) (hl: ∀r∈l,∃r'∈M1.runs,r'.id=r.id∧r.l.length≤r'.l.length):KO2 F w own G l M2 n2 w2:=by
 obtain ⟨tb,fb,hg,own1,h1,t1⟩:=h
 obtain ⟨tb2,fb2,hg2,hk⟩:=k own1 tb fb hg h1
 refine ⟨tb2,fb2,fun r hr=>?_,KO.trans t1 hk⟩
 obtain ⟨r',hr',e,hle⟩:=hl r hr
 have a:=hg r hr
 have b:=hg2 r' hr'
 rw[e] at b
 exact ⟨b.1.trans a.1,fun i hi=>(b.2 i (by omega)).trans (a.2 i hi)⟩
end
end Go.Proofs.YtaangaogmnlljaaGreatDoor.Kn
namespace Go.Proofs.YtaangaogmnlljaaGreatDoor.Kn
open Go.RowKit Asm
def Retag (own own':Own):Prop:= ∀b,own b≠ .ev→own' b=own b
theorem Retag.at {own own':Own} (h:Retag own own') {t:Tag} {b:Nat} (hb:own b=t) (ht:t≠ .ev):own' b=t:=(h b (by rw[hb];exact ht)).trans hb
section
variable {F:Fixed} {w:World} {own own':Own} {G:KG} {M:Mach} {n:Nat}
theorem PRow.re {t:Tag} {e:TypeId} {size k:Nat} {v:Value} {xs:List Value} (h:PRow w own t e size v k xs) (r:Retag own own') (ht:t≠ .ev):PRow w own' t e size v k xs:=⟨h.1,fun b hb=>r.at (h.2 b hb) ht⟩
theorem FrP.re {id:Int} {i b:Nat} {fr:Fr} (h:FrP w own id i b fr n) (r:Retag own own'):FrP w own' id i b fr n:=by
 obtain ⟨bv,ho,hr⟩:=h.obj
 exact ⟨r.at h.mine nofun,h.ok,h.num,bv,ho,hr.re r nofun⟩
theorem RunP.re {tb:Int→Nat} {fb:Int→Nat→Nat} {x:Run} (h:RunP w own tb fb x n) (r:Retag own own'):RunP w own' tb fb x n:=by
 obtain ⟨lv,ho,hr⟩:=h.obj
 exact ⟨r.at h.mine nofun,h.id,h.woken,h.few,⟨lv,ho,hr.re r nofun⟩,fun i fr hi=>(h.frs i fr hi).re r⟩
theorem PRuns.re {th:Nat} {tb:Int→Nat} {fb:Int→Nat→Nat} {l:List Run} (h:PRuns w own th tb fb l n) (r:Retag own own'):PRuns w own' th tb fb l n:=
 ⟨h.nod,r.at h.mine nofun,h.map,fun x hx=>(h.each x hx).re r⟩
theorem PWk.re {gW:Nat} {l:List Wkr} (h:PWk w own gW l n) (r:Retag own own'):PWk w own' gW l n:=by
 obtain ⟨h0,L,h1,h2,h3⟩:=h
 exact ⟨r.at h0 nofun,L,h1,h2,fun i p hp=>⟨(h3 i p hp).1,(h3 i p hp).2.re r nofun⟩⟩
theorem KernP.re (h:KernP F w own G M n) (r:Retag own own') {C:Array Value} (ho:w.heap[G.K]?=some (.cells C 159 (0,0))) (hc:C[1020]?=some (.slice none 0 0)):KernP F w own' G M n:=by
 refine ⟨h.fok,h.num,⟨r.at h.k.mine nofun,?_⟩,⟨h.fix.lib.re r nofun,h.fix.calls.re r nofun,h.fix.code.re r nofun⟩,?_,?_,?_,?_,?_,?_,?_,h.runs.re r,h.wk.re r⟩
 ·obtain ⟨C',ov,ho',hC,hr⟩:=h.k.obj
  have e:C'=C:=by
   rw[ho] at ho'
   injection ho' with ho'
   injection ho' with ho' _
   exact ho'.symm
  subst e
  have e2:ov= .slice none 0 0:=by
   have:=hC.out
   rw[hc] at this
   exact (Option.some.inj this).symm
  subst e2
  exact ⟨C',_,ho',hC,hr.1,fun b hb=>by cases hb⟩
 ·obtain ⟨gc,gw,hP,hO⟩:=h.mem
  exact ⟨gc,gw,hP,fun b hb=>r.at (hO b hb) nofun⟩
 ·obtain ⟨v,hP,hO⟩:=h.alc
  exact ⟨v,hP,fun b hb=>r.at (hO b hb) nofun⟩
 ·obtain ⟨hb,hm,v,ab,N,K,hP,hO,h2⟩:=h.clk
  exact ⟨hb,hm,v,ab,N,K,hP,fun b hb=>r.at (hO b hb) nofun,h2⟩
 ·obtain ⟨gr,hP,hO⟩:=h.ring
  exact ⟨gr,hP,fun b hb=>r.at (hO b hb) nofun⟩
 ·obtain ⟨gl,mb,B,N,hP,hO,h2⟩:=h.wq
  exact ⟨gl,mb,B,N,hP,fun b hb=>r.at (hO b hb) nofun,h2⟩
 ·obtain ⟨gt,N,hP,hO,h2⟩:=h.tab
  exact ⟨gt,N,hP,fun b hb=>r.at (hO b hb) nofun,h2⟩
 ·obtain ⟨go,N,hP,hO,h2⟩:=h.obj
  exact ⟨go,N,hP,fun b hb=>r.at (hO b hb) nofun,h2⟩
structure Aside (w w':World) (own own':Own):Prop where
 keeps:Keeps (fun b=>own b≠ .other) w w'
 own: ∀b,b<w.heap.size→own b= .other→own' b= .other
theorem Aside.refl (w:World) (own:Own):Aside w w own own:=⟨Keeps.refl _ w,fun _ _ h=>h⟩
theorem Aside.of {w w':World} {own own':Own} (h:Touch (fun t=>t≠ .other) w w' own own'):Aside w w' own own':=⟨h.keeps,fun b hb e=>(h.own b hb).trans e⟩
theorem Aside.trans {w1 w2 w3:World} {o1 o2 o3:Own} (h:Aside w1 w2 o1 o2) (k:Aside w2 w3 o2 o3):Aside w1 w3 o1 o3:=
 ⟨h.keeps.trans k.keeps fun i hi=>by
  by_cases hl:i<w1.heap.size
  ·exact Or.inl fun e=>hi (h.own i hl e)
  ·exact Or.inr (by omega),fun b hb e=>k.own b (Nat.lt_of_lt_of_le hb h.keeps.size) (h.own b hb e)⟩
end
end Go.Proofs.YtaangaogmnlljaaGreatDoor.Kn
namespace Go.Proofs.YtaangaogmnlljaaGreatDoor.Kn
open Go.RowKit Asm
def insZ:InsL:=⟨0,0,0,0,0,0,0⟩
section
variable {F:Fixed} {w:World} {own:Own} {G:KG} {M:Mach} {n:Nat}
def BoxAt (w:World) (own:Own) (b:Nat) (cs:Array Value) (t:TypeId):Prop:=w.heap[b]?=some (.cells cs t (0,0))∧own b= .other
theorem BoxAt.move {w':World} {own':Own} {b:Nat} {cs:Array Value} {t:TypeId} (h:BoxAt w own b cs t) (k:Touch (fun t=>t≠ .other) w w' own own'):BoxAt w' own' b cs t:=
 have q:=k.other h.2 (blk_in h.1)
 ⟨q.1.trans h.1,q.2.1⟩
theorem BoxAt.drawn {b:Nat} {cs:Array Value} {t:TypeId} (h:BoxAt w own b cs t) (q:Nat):BoxAt (w.drewN q) own b cs t:=h
theorem BoxAt.cells {b:Nat} {cs:Array Value} {t:TypeId} (h:BoxAt w own b cs t):(∀j,w.frozen? ⟨b,j,none⟩=false)∧ ∀j,w.cell? ⟨b,j,none⟩=cs[j]?:=⟨blk_frozen h.1,blk_cell h.1⟩
theorem BoxAt.put {b k:Nat} {cs:Array Value} {t:TypeId} (h:BoxAt w own b cs t) (v:Value):BoxAt (w.setCell ⟨b,k,none⟩ v) own b (cs.setIfInBounds k v) t:=⟨set_block h.1 v,h.2⟩
theorem BoxAt.far {b c k:Nat} {cs:Array Value} {t:TypeId} (h:BoxAt w own b cs t) (hne:b≠c) (v:Value):BoxAt (w.setCell ⟨c,k,none⟩ v) own b cs t:=⟨(set_other hne).trans h.1,h.2⟩
theorem BoxAt.put7 {b:Nat} {t:TypeId} {z0 z1 z2 z3 z4 z5 z6:Value} (h:BoxAt w own b #[z0,z1,z2,z3,z4,z5,z6] t) (v0 v1 v2 v3 v4 v5 v6:Value) {W:World} (hW:W=((((((w.setCell ⟨b,0,none⟩ v0).setCell ⟨b,1,none⟩ v1).setCell ⟨b,2,none⟩ v2).setCell ⟨b,3,none⟩ v3).setCell ⟨b,4,none⟩ v4).setCell ⟨b,5,none⟩ v5).setCell ⟨b,6,none⟩ v6):BoxAt W own b #[v0,v1,v2,v3,v4,v5,v6] t∧Keeps (fun k=>k=b) w W:=by
 subst hW
 have h1:=h.put (k:=0) v0
 have h2:=h1.put (k:=1) v1
 have h3:=h2.put (k:=2) v2
 have h4:=h3.put (k:=3) v3
 have h5:=h4.put (k:=4) v4
 have h6:=h5.put (k:=5) v5
 have h7:=h6.put (k:=6) v6
 exact ⟨by simpa using h7,(((((((Keeps.refl (fun k=>k=b) w).setCell (p:=⟨b,0,none⟩) rfl v0).setCell (p:=⟨b,1,none⟩) rfl v1).setCell (p:=⟨b,2,none⟩) rfl v2).setCell (p:=⟨b,3,none⟩) rfl v3).setCell (p:=⟨b,4,none⟩) rfl v4).setCell (p:=⟨b,5,none⟩) rfl v5).setCell (p:=⟨b,6,none⟩) rfl v6⟩
theorem KernP.boxed (h:KernP F w own G M n) {W:World} {b:Nat} (hk:Keeps (fun k=>k=b) w W) (ho:own b= .other):KernP F W own G M n:=h.move ⟨hk.mono fun k e=>by rw[e];exact ho,fun _ _=>rfl⟩
theorem Touch.boxed {w1 W:World} {own1:Own} {b:Nat} (t:Touch (fun t=>t≠ .other) w w1 own own1) (hk:Keeps (fun k=>k=b) w1 W) (hb:w.heap.size≤b):Touch (fun t=>t≠ .other) w W own own1:=⟨t.keeps.trans hk fun k e=>Or.inr (by rw[e];exact hb),t.own⟩
theorem BoxAt.stay {b c:Nat} {cs ds:Array Value} {t u:TypeId} (h:BoxAt w own b cs t) (hc:BoxAt w own c ds u) (hne:b≠c) {v0 v1 v2 v3 v4 v5 v6:Value} {W:World} (hW:W=((((((w.setCell ⟨c,0,none⟩ v0).setCell ⟨c,1,none⟩ v1).setCell ⟨c,2,none⟩ v2).setCell ⟨c,3,none⟩ v3).setCell ⟨c,4,none⟩ v4).setCell ⟨c,5,none⟩ v5).setCell ⟨c,6,none⟩ v6):BoxAt W own b cs t:=by
 subst hW
 exact (((((((h.far hne v0).far hne v1).far hne v2).far hne v3).far hne v4).far hne v5).far hne v6)
set_option maxRecDepth 100000 in
set_option maxHeartbeats 8000000 in
theorem step_any (h:KernP F w own G M n) {i:Nat} (hi:i<F.workers) {t:Option Int} {b o:Nat} (fa:FAt G M i t b o) (hn:n≤100000):
  Calls Tryz.prog 193 #[.pointer (some ⟨G.K,0,none⟩), .pointer (some ⟨b,o,none⟩)] w fun e w'=>e= .returned (.tuple #[.agg (insV ((insAt F.lib (getF M i t).pc).getD insZ)), .int .i64 (stepL (getF M i t) F.lib M.mem).how])∧KO F w own G (setF { M with mem:=(stepL (getF M i t) F.lib M.mem).mem} i t (stepL (getF M i t) F.lib M.mem).f) (n+1) w':=by
 obtain ⟨w1,hw1⟩: ∃w1,w1=(w.alloc (.cells (insV insZ) 68)).alloc (.cells (insV insZ) 68):=⟨_,rfl⟩
 obtain ⟨l1,l2,l3⟩:=laid2 w (.cells (insV insZ) 68) (.cells (insV insZ) 68)
 rw[←hw1] at l1 l2 l3
 obtain ⟨own1,hown⟩: ∃o,o=ext own w.heap.size .other:=⟨_,rfl⟩
 have h1:=h.below l3
 have t1:Touch (fun t=>t≠ .other) w w1 own (ext own w.heap.size .other):=touch_below l3
 rw[←hown] at h1 t1
 have B4:BoxAt w1 own1 w.heap.size (insV insZ) 68:=⟨l1,by rw[hown];exact ext_tag (Or.inr (Nat.le_refl _))⟩
 have B6:BoxAt w1 own1 (w.heap.size+1) (insV insZ) 68:=⟨l2,by rw[hown];exact ext_tag (Or.inr (Nat.le_succ _))⟩
 obtain ⟨cp,hpr,-,-⟩:=h1.bump hi fa
 obtain ⟨p,hp⟩:=Int.eq_ofNat_of_zero_le hpr.1
 have hb1:b<w1.heap.size:=(h1.reg hi fa 0 (by decide)).2.2.2
 have k0:w1.cell? ⟨G.K,0,none⟩=some G.lv:=h1.kcell fun _ _ hc=>hc.lib
 have k7:=h1.mcell
 obtain ⟨g,c,hlv,hc,-,hg⟩:=h1.fix.lib.codeAt h1.fok.lib.1
 have hlen:=h1.fok.lib
 have HMay:=Lib.hid h1.fok.libs
 rw[hlv] at k0
 rw[hp] at cp
 have HLv:Hid (G.lv= .slice (some ⟨g,0,none⟩) F.lib.length c):=Lib.hid hlv
 have HS:Hid (∀W own',KernP F W own' G M n→Calls Tryz.prog 198 #[.pointer (some ⟨b,o,none⟩), .slice (some ⟨g,0,none⟩) F.lib.length c, .iface 149 (.pointer (some ⟨G.X,0,none⟩))] W fun e w'=>(∃ev,e= .returned (.tuple #[.int .i64 (stepL (getF M i t) F.lib M.mem).how,ev]))∧KO F W own' G (setF { M with mem:=(stepL (getF M i t) F.lib M.mem).mem} i t (stepL (getF M i t) F.lib M.mem).f) (n+1) w'):=Lib.hid fun W own' h'=>by
  rw[←hlv];exact vstep_lib h' hi fa hn
 have hpI:(0:Int)≤(p:Int)∧(p:Int)≤200000:=by omega
 have hLI:(1:Int)≤(F.lib.length:Int)∧(F.lib.length:Int)≤2048:=by omega
 have H1:=Lib.hid h1
 have HT1:=Lib.hid t1
 have HB4:=Lib.hid B4
 have HB6:=Lib.hid B6
 have hKl:=h1.klt
 have HKl:=Lib.hid hKl
 have HIns:Hid ((insAt F.lib (getF M i t).pc)=insAt F.lib p):=Lib.hid (by rw[hp])
 rw[HIns.out]
 obtain ⟨h4f,h4c⟩:=B4.cells
 obtain ⟨h6f,h6c⟩:=B6.cells
 unfold insV insZ at*
 simp only at*
 have hne:w.heap.size≠w.heap.size+1:=by omega
 by_cases hlt:(p:Int)<(F.lib.length:Int)
 ·have hpl:p<F.lib.length:=by omega
  have hins:insAt F.lib (p:Int)=some F.lib[p]:=by
   unfold insAt
   rw[if_neg (by omega),Int.toNat_natCast,List.getElem?_eq_getElem hpl]
  rw[hins]
  obtain ⟨x,hx⟩: ∃x,x=F.lib[p]:=⟨_,rfl⟩
  rw[←hx]
  have hcc:=hc.cells hpl hx.symm
  obtain ⟨xo,xa,xb,xc,xv,xm,xw⟩:=x
  obtain ⟨c0,c1,c2,c3,c4,c5,c6⟩:=hcc
  simp only[Option.getD_some]
  generalize (stepL (getF M i t) F.lib M.mem)=st at*
  clear h h1 t1 B4 B6 l1 l2 l3 hn hpr hp hlen hc hins hx hlv hown hpl fa HMay HIns
  generalize F.lib.length=L at*
  go_enter Tryz.func193,Tryz.ntmps193
  go_wp2_with fail
  try rw[←hw1]
  clear hw1
  go_quiet (fail)
  go_wp2_with fail
  obtain ⟨w2,hw2⟩: ∃w2,w2=w1.drewN nq:=⟨_,rfl⟩
  have HT2:Hid (Touch (fun t=>t≠ .other) w w2 own own1):=Lib.hid (by rw[hw2];exact HT1.out.trans (touch_drewN w1 own1 nq))
  have H2:Hid (KernP F w2 own1 G M n):=Lib.hid (by rw[hw2];exact H1.out.drewN nq)
  have C4:Hid (BoxAt w2 own1 w.heap.size _ 68):=Lib.hid (by rw[hw2];exact HB4.out.drawn nq)
  have C6:Hid (BoxAt w2 own1 (w.heap.size+1) _ 68):=Lib.hid (by rw[hw2];exact HB6.out.drawn nq)
  obtain ⟨e0,e1,e2,e3,e4,e5,e6⟩:w2.cell? ⟨g,p*7,none⟩=some (.int .i64 xo)∧w2.cell? ⟨g,p*7+1,none⟩=some (.int .i64 xa)∧w2.cell? ⟨g,p*7+2,none⟩=some (.int .i64 xb)∧w2.cell? ⟨g,p*7+3,none⟩=some (.int .i64 xc)∧w2.cell? ⟨g,p*7+4,none⟩=some (.int .u64 xv)∧w2.cell? ⟨g,p*7+5,none⟩=some (.int .i64 xm)∧w2.cell? ⟨g,p*7+6,none⟩=some (.int .i64 xw):=by rw[hw2];exact ⟨c0,c1,c2,c3,c4,c5,c6⟩
  have d0:w2.cell? ⟨G.K,0,none⟩=some (.slice (some ⟨g,0,none⟩) L c):=by rw[hw2];exact k0
  have d1:w2.cell? ⟨b,o,none⟩=some (.int .i64 (p:Int)):=by rw[hw2];exact cp
  rw[←hw2]
  clear hw2 c0 c1 c2 c3 c4 c5 c6 k0 k7 cp h4f h4c h6f h6c hg hb1
  go_still_tail 11,(by kernel_rfl)
  change wpList _ _ _ _ _ w2.drew
  have H3:Hid (KernP F w2.drew own1 G M n):=Lib.hid H2.out.drew
  have HT3:Hid (Touch (fun t=>t≠ .other) w w2.drew own own1):=Lib.hid (HT2.out.trans (touch_drew w2 own1))
  have C6d:BoxAt w2.drew own1 (w.heap.size+1) _ 68:=C6.out
  have C4d:BoxAt w2.drew own1 w.heap.size _ 68:=C4.out
  generalize w2.drew=wd at H3 HT3 C6d C4d ⊢
  obtain ⟨f6,g6⟩:=C6d.cells
  have g60:=g6 0
  have g61:=g6 1
  have g62:=g6 2
  have g63:=g6 3
  have g64:=g6 4
  have g65:=g6 5
  have g66:=g6 6
  go_wp2_with fail
  generalize hW:World.setCell _ _ _=W
  obtain ⟨C6',K7⟩:=C6d.put7 _ _ _ _ _ _ _ hW.symm
  have D4:=Lib.hid (C4d.stay C6d hne hW.symm)
  have D6:=Lib.hid C6'
  have H3:=Lib.hid (H3.out.boxed K7 C6d.2)
  have HT3:=Lib.hid (HT3.out.boxed K7 (by omega))
  clear hW K7 C6d C4d C6' g60 g61 g62 g63 g64 g65 g66 f6 g6 e0 e1 e2 e3 e4 e5 e6 d0 d1 H2 C4 C6 HT2
  have k0:W.cell? ⟨G.K,0,none⟩=some G.lv:=H3.out.kcell fun _ _ hc=>hc.lib
  rw[HLv.out] at k0
  have k7:=H3.out.mcell
  have HCall:Hid (∀W',(∃q,W'=W.drewN q)→Calls Tryz.prog 198 #[.pointer (some ⟨b,o,none⟩), .slice (some ⟨g,0,none⟩) L c, .iface 149 (.pointer (some ⟨G.X,0,none⟩))] W' fun e w'=>(∃ev,e= .returned (.tuple #[.int .i64 st.how,ev]))∧KO F W own1 G (setF { M with mem:=st.mem} i t st.f) (n+1) w'∧w'.cell? ⟨G.K,0,none⟩=some (.slice (some ⟨g,0,none⟩) L c)∧w'.cell? ⟨G.K,1007,none⟩=some (.pointer (some ⟨G.X,0,none⟩))):=Lib.hid fun W' ⟨q,hq⟩=>by
   subst hq
   refine (HS.out _ own1 (H3.out.drewN q)).mono fun e w' ⟨a,hk⟩=>⟨a,hk.drewN,?_⟩
   obtain ⟨own5,h5,t5⟩:=hk
   have:=h5.kcell (i:=0) (v:=G.lv) fun _ _ hc=>hc.lib
   rw[HLv.out] at this
   exact ⟨this,h5.mcell⟩
  go_region_held3 (fun V=>V.cell? ⟨G.K,0,none⟩=some (.slice (some ⟨g,0,none⟩) L c)∧V.cell? ⟨G.K,1007,none⟩=some (.pointer (some ⟨G.X,0,none⟩))) (first|exact ⟨k0,k7⟩ |exact ⟨u0,u1⟩ |go_keep) (first|(go_at_call 198;refine (HCall.out _ ⟨1,rfl⟩).mono ?_;rintro e w3 ⟨⟨ev,rfl⟩,hk,u0,u1⟩))
  obtain ⟨own4,h4,t4⟩:=hk
  have E4:=D4.out.move t4
  have E6:=D6.out.move t4
  have H4:=Lib.hid h4
  have HT4:=Lib.hid (HT3.out.trans t4)
  clear u0 u1 h4 t4 k0 k7
  obtain ⟨f4,g4⟩:=E4.cells
  obtain ⟨f6,g6⟩:=E6.cells
  have g40:=g4 0
  have g41:=g4 1
  have g42:=g4 2
  have g43:=g4 3
  have g44:=g4 4
  have g45:=g4 5
  have g46:=g4 6
  have g60:=g6 0
  have g61:=g6 1
  have g62:=g6 2
  have g63:=g6 3
  have g64:=g6 4
  have g65:=g6 5
  have g66:=g6 6
  go_wp2_with fail
  generalize hW:World.setCell _ _ _=V
  obtain ⟨R4,K7⟩:=E4.put7 _ _ _ _ _ _ _ hW.symm
  have hbox:=R4.1
  clear hW
  exact bodyPost_ret (v:= .tuple #[.agg #[.int .i64 xo, .int .i64 xa, .int .i64 xb, .int .i64 xc, .int .u64 xv, .int .i64 xm, .int .i64 xw], .int .i64 st.how]) (by simp[results,Tryz.results193,go_sem,World.cell?,hbox]) rfl ⟨rfl,own4,H4.out.boxed K7 E4.2,HT4.out.boxed K7 (Nat.le_refl _)⟩
 ·have hins:insAt F.lib (p:Int)=none:=insAt_out (Or.inr (by omega))
  rw[hins]
  simp only[Option.getD_none]
  generalize (stepL (getF M i t) F.lib M.mem)=st at*
  clear h h1 t1 B4 B6 l1 l2 l3 hn hpr hp hlen hc hins hlv hown fa HMay HIns
  generalize F.lib.length=L at*
  go_enter Tryz.func193,Tryz.ntmps193
  go_wp2_with fail
  try rw[←hw1]
  clear hw1
  go_quiet (fail)
  go_wp2_with fail
  obtain ⟨W,hW⟩: ∃W,W=w1.drewN nq:=⟨_,rfl⟩
  have HT3:Hid (Touch (fun t=>t≠ .other) w W own own1):=Lib.hid (by rw[hW];exact HT1.out.trans (touch_drewN w1 own1 nq))
  have H3:Hid (KernP F W own1 G M n):=Lib.hid (by rw[hW];exact H1.out.drewN nq)
  have D4:Hid (BoxAt W own1 w.heap.size _ 68):=Lib.hid (by rw[hW];exact HB4.out.drawn nq)
  have D6:Hid (BoxAt W own1 (w.heap.size+1) _ 68):=Lib.hid (by rw[hW];exact HB6.out.drawn nq)
  rw[←hW]
  clear hW k0 k7 cp h4f h4c h6f h6c hg hb1
  have k0:W.cell? ⟨G.K,0,none⟩=some G.lv:=H3.out.kcell fun _ _ hc=>hc.lib
  rw[HLv.out] at k0
  have k7:=H3.out.mcell
  have HCall:Hid (∀W',(∃q,W'=W.drewN q)→Calls Tryz.prog 198 #[.pointer (some ⟨b,o,none⟩), .slice (some ⟨g,0,none⟩) L c, .iface 149 (.pointer (some ⟨G.X,0,none⟩))] W' fun e w'=>(∃ev,e= .returned (.tuple #[.int .i64 st.how,ev]))∧KO F W own1 G (setF { M with mem:=st.mem} i t st.f) (n+1) w'∧w'.cell? ⟨G.K,0,none⟩=some (.slice (some ⟨g,0,none⟩) L c)∧w'.cell? ⟨G.K,1007,none⟩=some (.pointer (some ⟨G.X,0,none⟩))):=Lib.hid fun W' ⟨q,hq⟩=>by
   subst hq
   refine (HS.out _ own1 (H3.out.drewN q)).mono fun e w' ⟨a,hk⟩=>⟨a,hk.drewN,?_⟩
   obtain ⟨own5,h5,t5⟩:=hk
   have:=h5.kcell (i:=0) (v:=G.lv) fun _ _ hc=>hc.lib
   rw[HLv.out] at this
   exact ⟨this,h5.mcell⟩
  go_region_held3 (fun V=>V.cell? ⟨G.K,0,none⟩=some (.slice (some ⟨g,0,none⟩) L c)∧V.cell? ⟨G.K,1007,none⟩=some (.pointer (some ⟨G.X,0,none⟩))) (first|exact ⟨k0,k7⟩ |exact ⟨u0,u1⟩ |go_keep) (first|(go_at_call 198;refine (HCall.out _ ⟨1,rfl⟩).mono ?_;rintro e w3 ⟨⟨ev,rfl⟩,hk,u0,u1⟩))
  obtain ⟨own4,h4,t4⟩:=hk
  have E4:=D4.out.move t4
  have E6:=D6.out.move t4
  have H4:=Lib.hid h4
  have HT4:=Lib.hid (HT3.out.trans t4)
  clear u0 u1 h4 t4 k0 k7
  obtain ⟨f4,g4⟩:=E4.cells
  obtain ⟨f6,g6⟩:=E6.cells
  have g40:=g4 0
  have g41:=g4 1
  have g42:=g4 2
  have g43:=g4 3
  have g44:=g4 4
  have g45:=g4 5
  have g46:=g4 6
  have g60:=g6 0
  have g61:=g6 1
  have g62:=g6 2
  have g63:=g6 3
  have g64:=g6 4
  have g65:=g6 5
  have g66:=g6 6
  go_wp2_with fail
  generalize hW:World.setCell _ _ _=V
  obtain ⟨R4,K7⟩:=E4.put7 _ _ _ _ _ _ _ hW.symm
  have hbox:=R4.1
  clear hW
  exact bodyPost_ret (v:= .tuple #[.agg #[.int .i64 0, .int .i64 0, .int .i64 0, .int .i64 0, .int .u64 0, .int .i64 0, .int .i64 0], .int .i64 st.how]) (by simp[results,Tryz.results193,go_sem,World.cell?,hbox]) rfl ⟨rfl,own4,H4.out.boxed K7 E4.2,HT4.out.boxed K7 (Nat.le_refl _)⟩
end
end Go.Proofs.YtaangaogmnlljaaGreatDoor.Kn
