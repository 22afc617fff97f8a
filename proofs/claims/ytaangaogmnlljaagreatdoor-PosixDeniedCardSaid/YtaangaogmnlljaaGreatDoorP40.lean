/- Part 40 of what the proof stands on: KnCl. -/
import Derived.StillTailTactics
import Derived.Test.YtaangaogmnlljaaGreatDoorP09
import Derived.Test.YtaangaogmnlljaaGreatDoorP16
import Derived.Test.YtaangaogmnlljaaGreatDoorP30
import Derived.Test.YtaangaogmnlljaaGreatDoorP33
import Derived.Test.YtaangaogmnlljaaGreatDoorP38
set_option linter.unusedVariables false
namespace Go.Proofs.YtaangaogmnlljaaGreatDoor.Kn
open Go.RowKit Asm
section
variable {F:Fixed} {w:World} {own:Own} {G:KG} {M:Mach} {n:Nat}
theorem KernP.fr_lt (h:KernP F w own G M n) {i:Nat} (hi:i<F.workers) {t:Option Int} {b o:Nat} (fa:FAt G M i t b o):b<w.heap.size:=(h.reg hi fa 0 (by decide)).2.2.2
set_option maxRecDepth 100000 in
set_option maxHeartbeats 4000000 in
theorem client_0 (h:KernP F w own G M n) {i:Nat} (hi:i<F.workers) {id:Int} {b:Nat} (fa:FAt G M i (some id) b 0) (x:InsL) (hx:(insAt F.code (getF M i (some id)).pc).getD insZ=x) (hn:n≤200000) {M2:Mach} {n2:Nat} {r r2:Run} (hr:runOf M.runs id=some r) (hr2:runOf M2.runs id=some r2)
  (HS: ∀W own',KernP F W own' G M n→Calls Tryz.prog 198 #[.pointer (some ⟨b,0,none⟩),G.pv, .iface 410 (shV G.K id x.op)] W fun e w'=>(∃ev,e= .returned (.tuple #[.int .i64 0,ev]))∧KO F W own' G M2 n2 w'):
  Calls Tryz.prog 134 #[.pointer (some ⟨G.K,0,none⟩), .pointer (some ⟨G.gW,i*38,none⟩), .pointer (some ⟨G.tb id,0,none⟩), .pointer (some ⟨b,0,none⟩)] w fun e w'=>e= .returned (.tuple #[])∧KO F w own G M2 n2 w':=by
 obtain ⟨w1,hw1⟩: ∃w1,w1=(w.alloc (.cells (insV insZ) 68)):=⟨_,rfl⟩
 have l3:Below w.heap.size w w1:=by rw[hw1];exact below_al (Below.refl _ _) _
 have l1:w1.heap[w.heap.size]?=some (.cells (insV insZ) 68 (0,0)):=by rw[hw1];exact heap_alloc_new w _
 have h1:=h.below l3
 have t1:Touch (fun t=>t≠ .other) w w1 own (ext own w.heap.size .other):=touch_below l3
 have B4:BoxAt w1 (ext own w.heap.size .other) w.heap.size (insV insZ) 68:=⟨l1,ext_tag (Or.inr (Nat.le_refl _))⟩
 generalize ext own w.heap.size .other=own1 at h1 t1 B4
 obtain ⟨cp,hpr,-,-⟩:=h1.bump hi fa
 obtain ⟨p,hp⟩:=Int.eq_ofNat_of_zero_le hpr.1
 have hb1:b<w1.heap.size:=h1.fr_lt hi fa
 have hbw:b<w.heap.size:=h.fr_lt hi fa
 have hnb:w.heap.size≠b:=by omega
 have hnb2:b≠w.heap.size:=by omega
 have ht0:G.tb id<w.heap.size:=by
  obtain ⟨hm,he⟩:=runOf_mem hr
  obtain ⟨lv,ho,-⟩:=(h.runs.each r hm).obj
  rw[←he]
  exact blk_in ho
 have hnt:w.heap.size≠G.tb id:=by omega
 have hnt2:G.tb id≠w.heap.size:=by omega
 have k0:w1.cell? ⟨G.K,3,none⟩=some G.pv:=h1.kcell fun _ _ hc=>hc.code
 obtain ⟨g,c,hlv,hc,-,hg⟩:=h1.fix.code.codeAt h1.fok.code.1
 have hlen:=h1.fok.code
 rw[hlv] at k0
 rw[hp] at cp hx
 have HLv:Hid (G.pv= .slice (some ⟨g,0,none⟩) F.code.length c):=Lib.hid hlv
 rw[hlv] at HS
 have HS:=Lib.hid HS
 have hpI:(0:Int)≤(p:Int)∧(p:Int)≤300000:=by omega
 have hLI:(1:Int)≤(F.code.length:Int)∧(F.code.length:Int)≤2048:=by omega
 have H1:=Lib.hid h1
 have HT1:=Lib.hid t1
 have HB4:=Lib.hid B4
 have hKl:=h1.klt
 have HR2:=Lib.hid hr2
 have HI:=Lib.hid hi
 have HTC:Hid (∀W o,KernP F W o G M n→W.cell? ⟨G.tb id,0,none⟩=some (.int .u64 id)):=Lib.hid fun W o q=>(q.thr_cells hr).1
 obtain ⟨h4f,h4c⟩:=B4.cells
 unfold insV insZ at*
 simp only at*
 by_cases hlt:(p:Int)<(F.code.length:Int)
 ·have hpl:p<F.code.length:=by omega
  have hins:insAt F.code (p:Int)=some F.code[p]:=by
   unfold insAt
   rw[if_neg (by omega),Int.toNat_natCast,List.getElem?_eq_getElem hpl]
  rw[hins] at hx
  simp only[Option.getD_some] at hx
  have hcc:=hc.cells hpl hx
  obtain ⟨xo,xa,xb,xc,xv,xm,xw⟩:=x
  obtain ⟨c0,c1,c2,c3,c4,c5,c6⟩:=hcc
  clear h h1 t1 B4 l1 l3 hn hpr hp hlen hc hins hlv hpl fa hx hr hr2 hi
  generalize F.code.length=L at*
  simp only at*
  go_enter Tryz.func134,Tryz.ntmps134
  go_wp2_with fail
  try rw[←hw1]
  clear hw1
  go_quiet (fail)
  go_wp2_with fail
  obtain ⟨w2,hw2⟩: ∃w2,w2=w1.drewN nq:=⟨_,rfl⟩
  have HT2:Hid (Touch (fun t=>t≠ .other) w w2 own own1):=Lib.hid (by rw[hw2];exact HT1.out.trans (touch_drewN w1 own1 nq))
  have H2:Hid (KernP F w2 own1 G M n):=Lib.hid (by rw[hw2];exact H1.out.drewN nq)
  have C4:Hid (BoxAt w2 own1 w.heap.size _ 68):=Lib.hid (by rw[hw2];exact HB4.out.drawn nq)
  obtain ⟨e0,e1,e2,e3,e4,e5,e6⟩:w2.cell? ⟨g,p*7,none⟩=some (.int .i64 xo)∧w2.cell? ⟨g,p*7+1,none⟩=some (.int .i64 xa)∧w2.cell? ⟨g,p*7+2,none⟩=some (.int .i64 xb)∧w2.cell? ⟨g,p*7+3,none⟩=some (.int .i64 xc)∧w2.cell? ⟨g,p*7+4,none⟩=some (.int .u64 xv)∧w2.cell? ⟨g,p*7+5,none⟩=some (.int .i64 xm)∧w2.cell? ⟨g,p*7+6,none⟩=some (.int .i64 xw):=by rw[hw2];exact ⟨c0,c1,c2,c3,c4,c5,c6⟩
  have d0:w2.cell? ⟨G.K,3,none⟩=some (.slice (some ⟨g,0,none⟩) L c):=by rw[hw2];exact k0
  have d1:w2.cell? ⟨b,0,none⟩=some (.int .i64 (p:Int)):=by rw[hw2];exact cp
  rw[←hw2]
  clear hw2 c0 c1 c2 c3 c4 c5 c6 k0 cp h4f h4c hg hb1
  go_still_tail 12,(by kernel_rfl)
  change wpList _ _ _ _ _ w2.drew
  have H3:Hid (KernP F w2.drew own1 G M n):=Lib.hid H2.out.drew
  have HT3:Hid (Touch (fun t=>t≠ .other) w w2.drew own own1):=Lib.hid (HT2.out.trans (touch_drew w2 own1))
  have C4d:BoxAt w2.drew own1 w.heap.size _ 68:=C4.out
  generalize w2.drew=wd at H3 HT3 C4d ⊢
  obtain ⟨f6,g6⟩:=C4d.cells
  have g60:=g6 0
  have g61:=g6 1
  have g62:=g6 2
  have g63:=g6 3
  have g64:=g6 4
  have g65:=g6 5
  have g66:=g6 6
  go_wp2_with fail
  generalize hW:World.setCell _ _ _=W
  obtain ⟨C4',K7⟩:=C4d.put7 _ _ _ _ _ _ _ hW.symm
  have D4:Hid (BoxAt W own1 w.heap.size #[.int .i64 xo, .int .i64 xa, .int .i64 xb, .int .i64 xc, .int .u64 xv, .int .i64 xm, .int .i64 xw] 68):=Lib.hid C4'
  have H3:=Lib.hid (H3.out.boxed K7 C4d.2)
  have HT3:=Lib.hid (HT3.out.boxed K7 (Nat.le_refl _))
  clear hW K7 C4d C4' g60 g61 g62 g63 g64 g65 g66 f6 g6 e0 e1 e2 e3 e4 e5 e6 d0 d1 H2 C4 HT2
  have k0:W.cell? ⟨G.K,3,none⟩=some G.pv:=H3.out.kcell fun _ _ hc=>hc.code
  rw[HLv.out] at k0
  have HSs:=HS.out
  unfold shV at HSs
  have HSs:=Lib.hid HSs
  clear HS
  have HCall:Hid (∀W',(∃q,W'=W.drewN q)→Calls Tryz.prog 198 #[.pointer (some ⟨b,0,none⟩), .slice (some ⟨g,0,none⟩) L c, .iface 410 (.agg #[.pointer (some ⟨G.K,0,none⟩), .int .u64 id, .int .i64 xo])] W' fun e w'=>(∃ev,e= .returned (.tuple #[.int .i64 0,ev]))∧KO F W own1 G M2 n2 w'∧w'.cell? ⟨G.K,3,none⟩=some (.slice (some ⟨g,0,none⟩) L c)∧w'.cell? ⟨G.tb id,0,none⟩=some (.int .u64 id)∧w'.cell? ⟨w.heap.size,0,none⟩=some (.int .i64 xo)):=Lib.hid fun W' ⟨q,hq⟩=>by
   subst hq
   refine (HSs.out _ own1 (H3.out.drewN q)).mono fun e w' ⟨a,hk⟩=>⟨a,hk.drewN,?_⟩
   obtain ⟨own5,h5,t5⟩:=hk
   have:=h5.kcell (i:=3) (v:=G.pv) fun _ _ hc=>hc.code
   rw[HLv.out] at this
   exact ⟨this,(h5.thr_cells HR2.out).1,(BoxAt.move (w:=W.drewN q) D4.out t5).cells.2 0⟩
  have t0:W.cell? ⟨G.tb id,0,none⟩=some (.int .u64 id):=HTC.out _ _ H3.out
  have x0:W.cell? ⟨w.heap.size,0,none⟩=some (.int .i64 xo):=D4.out.cells.2 0
  go_region_held3 (fun V=>V.cell? ⟨G.K,3,none⟩=some (.slice (some ⟨g,0,none⟩) L c)∧V.cell? ⟨G.tb id,0,none⟩=some (.int .u64 id)∧V.cell? ⟨w.heap.size,0,none⟩=some (.int .i64 xo)) (first|exact ⟨k0,t0,x0⟩ |exact ⟨u0,u1,u2⟩ |go_keep) (first|(go_at_call 198;refine (HCall.out _ ⟨1,rfl⟩).mono ?_;rintro e w3 ⟨⟨ev,rfl⟩,hk,u0,u1,u2⟩))
  obtain ⟨own4,h4,t4⟩:=hk
  have E4:=D4.out.move t4
  have HE4:=Lib.hid E4
  have H4:=Lib.hid h4
  have HT4:=Lib.hid (HT3.out.trans t4)
  clear u0 u1 u2 t4 k0 t0 x0 HCall H3 HT3 D4 HSs
  clear h4 E4
  go_wp2_with fail
  go_end0
  exact ⟨rfl,own4,H4.out,HT4.out⟩
 ·have hins:insAt F.code (p:Int)=none:=insAt_out (Or.inr (by omega))
  rw[hins] at hx
  simp only[Option.getD_none] at hx
  obtain ⟨xo,xa,xb,xc,xv,xm,xw⟩:=x
  injection hx with z0 z1 z2 z3 z4 z5 z6
  have HB4:Hid (BoxAt w1 own1 w.heap.size #[.int .i64 xo, .int .i64 xa, .int .i64 xb, .int .i64 xc, .int .u64 xv, .int .i64 xm, .int .i64 xw] 68):=Lib.hid (by rw[←z0,←z1,←z2,←z3,←z4,←z5,←z6];exact HB4.out)
  clear h h1 t1 B4 l1 l3 hn hpr hp hlen hc hins hlv fa z0 z1 z2 z3 z4 z5 z6 hr hr2 hi
  generalize F.code.length=L at*
  simp only at*
  go_enter Tryz.func134,Tryz.ntmps134
  go_wp2_with fail
  try rw[←hw1]
  clear hw1
  go_quiet (fail)
  go_wp2_with fail
  obtain ⟨W,hW⟩: ∃W,W=w1.drewN nq:=⟨_,rfl⟩
  have HT3:Hid (Touch (fun t=>t≠ .other) w W own own1):=Lib.hid (by rw[hW];exact HT1.out.trans (touch_drewN w1 own1 nq))
  have H3:Hid (KernP F W own1 G M n):=Lib.hid (by rw[hW];exact H1.out.drewN nq)
  have D4:Hid (BoxAt W own1 w.heap.size #[.int .i64 xo, .int .i64 xa, .int .i64 xb, .int .i64 xc, .int .u64 xv, .int .i64 xm, .int .i64 xw] 68):=Lib.hid (by rw[hW];exact HB4.out.drawn nq)
  rw[←hW]
  clear hW k0 cp h4f h4c hg hb1
  have k0:W.cell? ⟨G.K,3,none⟩=some G.pv:=H3.out.kcell fun _ _ hc=>hc.code
  rw[HLv.out] at k0
  have HSs:=HS.out
  unfold shV at HSs
  have HSs:=Lib.hid HSs
  clear HS
  have HCall:Hid (∀W',(∃q,W'=W.drewN q)→Calls Tryz.prog 198 #[.pointer (some ⟨b,0,none⟩), .slice (some ⟨g,0,none⟩) L c, .iface 410 (.agg #[.pointer (some ⟨G.K,0,none⟩), .int .u64 id, .int .i64 xo])] W' fun e w'=>(∃ev,e= .returned (.tuple #[.int .i64 0,ev]))∧KO F W own1 G M2 n2 w'∧w'.cell? ⟨G.K,3,none⟩=some (.slice (some ⟨g,0,none⟩) L c)∧w'.cell? ⟨G.tb id,0,none⟩=some (.int .u64 id)∧w'.cell? ⟨w.heap.size,0,none⟩=some (.int .i64 xo)):=Lib.hid fun W' ⟨q,hq⟩=>by
   subst hq
   refine (HSs.out _ own1 (H3.out.drewN q)).mono fun e w' ⟨a,hk⟩=>⟨a,hk.drewN,?_⟩
   obtain ⟨own5,h5,t5⟩:=hk
   have:=h5.kcell (i:=3) (v:=G.pv) fun _ _ hc=>hc.code
   rw[HLv.out] at this
   exact ⟨this,(h5.thr_cells HR2.out).1,(BoxAt.move (w:=W.drewN q) D4.out t5).cells.2 0⟩
  have t0:W.cell? ⟨G.tb id,0,none⟩=some (.int .u64 id):=HTC.out _ _ H3.out
  have x0:W.cell? ⟨w.heap.size,0,none⟩=some (.int .i64 xo):=D4.out.cells.2 0
  go_region_held3 (fun V=>V.cell? ⟨G.K,3,none⟩=some (.slice (some ⟨g,0,none⟩) L c)∧V.cell? ⟨G.tb id,0,none⟩=some (.int .u64 id)∧V.cell? ⟨w.heap.size,0,none⟩=some (.int .i64 xo)) (first|exact ⟨k0,t0,x0⟩ |exact ⟨u0,u1,u2⟩ |go_keep) (first|(go_at_call 198;refine (HCall.out _ ⟨1,rfl⟩).mono ?_;rintro e w3 ⟨⟨ev,rfl⟩,hk,u0,u1,u2⟩))
  obtain ⟨own4,h4,t4⟩:=hk
  have E4:=D4.out.move t4
  have HE4:=Lib.hid E4
  have H4:=Lib.hid h4
  have HT4:=Lib.hid (HT3.out.trans t4)
  clear u0 u1 u2 t4 k0 t0 x0 HCall H3 HT3 D4 HSs
  clear h4 E4
  go_wp2_with fail
  go_end0
  exact ⟨rfl,own4,H4.out,HT4.out⟩
set_option maxRecDepth 100000 in
set_option maxHeartbeats 4000000 in
theorem client_1 (h:KernP F w own G M n) {i:Nat} (hi:i<F.workers) {id:Int} {b:Nat} (fa:FAt G M i (some id) b 0) (x:InsL) (hx:(insAt F.code (getF M i (some id)).pc).getD insZ=x) (hn:n≤200000) {M2:Mach} {n2:Nat} {r r2:Run} (hr:runOf M.runs id=some r) (hr2:runOf M2.runs id=some r2) (fa2:FAt G M2 i (some id) b 0) (hn2:n2≤300000) (hxv:0≤x.v∧x.v<1000) {Q:World→Prop}
  (HC: ∀W o,KernP F W o G (bumpF M2 i (some id)) (n2+1)→Touch (fun t=>t≠ .other) w W own o→Calls Tryz.prog 199 #[.pointer (some ⟨G.K,0,none⟩), .pointer (some ⟨G.tb id,0,none⟩), .pointer (some ⟨b,0,none⟩), .int .i64 x.v] W fun e w'=>e= .returned (.tuple #[])∧Q w')
  (HS: ∀W own',KernP F W own' G M n→Calls Tryz.prog 198 #[.pointer (some ⟨b,0,none⟩),G.pv, .iface 410 (shV G.K id x.op)] W fun e w'=>(∃ev,e= .returned (.tuple #[.int .i64 1,ev]))∧KO F W own' G M2 n2 w'):
  Calls Tryz.prog 134 #[.pointer (some ⟨G.K,0,none⟩), .pointer (some ⟨G.gW,i*38,none⟩), .pointer (some ⟨G.tb id,0,none⟩), .pointer (some ⟨b,0,none⟩)] w fun e w'=>e= .returned (.tuple #[])∧Q w':=by
 obtain ⟨w1,hw1⟩: ∃w1,w1=(w.alloc (.cells (insV insZ) 68)):=⟨_,rfl⟩
 have l3:Below w.heap.size w w1:=by rw[hw1];exact below_al (Below.refl _ _) _
 have l1:w1.heap[w.heap.size]?=some (.cells (insV insZ) 68 (0,0)):=by rw[hw1];exact heap_alloc_new w _
 have h1:=h.below l3
 have t1:Touch (fun t=>t≠ .other) w w1 own (ext own w.heap.size .other):=touch_below l3
 have B4:BoxAt w1 (ext own w.heap.size .other) w.heap.size (insV insZ) 68:=⟨l1,ext_tag (Or.inr (Nat.le_refl _))⟩
 generalize ext own w.heap.size .other=own1 at h1 t1 B4
 obtain ⟨cp,hpr,-,-⟩:=h1.bump hi fa
 obtain ⟨p,hp⟩:=Int.eq_ofNat_of_zero_le hpr.1
 have hb1:b<w1.heap.size:=h1.fr_lt hi fa
 have hbw:b<w.heap.size:=h.fr_lt hi fa
 have hnb:w.heap.size≠b:=by omega
 have hnb2:b≠w.heap.size:=by omega
 have ht0:G.tb id<w.heap.size:=by
  obtain ⟨hm,he⟩:=runOf_mem hr
  obtain ⟨lv,ho,-⟩:=(h.runs.each r hm).obj
  rw[←he]
  exact blk_in ho
 have hnt:w.heap.size≠G.tb id:=by omega
 have hnt2:G.tb id≠w.heap.size:=by omega
 have k0:w1.cell? ⟨G.K,3,none⟩=some G.pv:=h1.kcell fun _ _ hc=>hc.code
 obtain ⟨g,c,hlv,hc,-,hg⟩:=h1.fix.code.codeAt h1.fok.code.1
 have hlen:=h1.fok.code
 rw[hlv] at k0
 rw[hp] at cp hx
 have HLv:Hid (G.pv= .slice (some ⟨g,0,none⟩) F.code.length c):=Lib.hid hlv
 rw[hlv] at HS
 have HS:=Lib.hid HS
 have hpI:(0:Int)≤(p:Int)∧(p:Int)≤300000:=by omega
 have hLI:(1:Int)≤(F.code.length:Int)∧(F.code.length:Int)≤2048:=by omega
 have H1:=Lib.hid h1
 have HT1:=Lib.hid t1
 have HB4:=Lib.hid B4
 have hKl:=h1.klt
 have HR2:=Lib.hid hr2
 have HI:=Lib.hid hi
 have HTC:Hid (∀W o,KernP F W o G M n→W.cell? ⟨G.tb id,0,none⟩=some (.int .u64 id)):=Lib.hid fun W o q=>(q.thr_cells hr).1
 have HC:=Lib.hid HC
 have HFa2:=Lib.hid fa2
 obtain ⟨h4f,h4c⟩:=B4.cells
 unfold insV insZ at*
 simp only at*
 by_cases hlt:(p:Int)<(F.code.length:Int)
 ·have hpl:p<F.code.length:=by omega
  have hins:insAt F.code (p:Int)=some F.code[p]:=by
   unfold insAt
   rw[if_neg (by omega),Int.toNat_natCast,List.getElem?_eq_getElem hpl]
  rw[hins] at hx
  simp only[Option.getD_some] at hx
  have hcc:=hc.cells hpl hx
  obtain ⟨xo,xa,xb,xc,xv,xm,xw⟩:=x
  obtain ⟨c0,c1,c2,c3,c4,c5,c6⟩:=hcc
  clear h h1 t1 B4 l1 l3 hn hpr hp hlen hc hins hlv hpl fa hx hr hr2 hi fa2
  generalize F.code.length=L at*
  simp only at*
  go_enter Tryz.func134,Tryz.ntmps134
  go_wp2_with fail
  try rw[←hw1]
  clear hw1
  go_quiet (fail)
  go_wp2_with fail
  obtain ⟨w2,hw2⟩: ∃w2,w2=w1.drewN nq:=⟨_,rfl⟩
  have HT2:Hid (Touch (fun t=>t≠ .other) w w2 own own1):=Lib.hid (by rw[hw2];exact HT1.out.trans (touch_drewN w1 own1 nq))
  have H2:Hid (KernP F w2 own1 G M n):=Lib.hid (by rw[hw2];exact H1.out.drewN nq)
  have C4:Hid (BoxAt w2 own1 w.heap.size _ 68):=Lib.hid (by rw[hw2];exact HB4.out.drawn nq)
  obtain ⟨e0,e1,e2,e3,e4,e5,e6⟩:w2.cell? ⟨g,p*7,none⟩=some (.int .i64 xo)∧w2.cell? ⟨g,p*7+1,none⟩=some (.int .i64 xa)∧w2.cell? ⟨g,p*7+2,none⟩=some (.int .i64 xb)∧w2.cell? ⟨g,p*7+3,none⟩=some (.int .i64 xc)∧w2.cell? ⟨g,p*7+4,none⟩=some (.int .u64 xv)∧w2.cell? ⟨g,p*7+5,none⟩=some (.int .i64 xm)∧w2.cell? ⟨g,p*7+6,none⟩=some (.int .i64 xw):=by rw[hw2];exact ⟨c0,c1,c2,c3,c4,c5,c6⟩
  have d0:w2.cell? ⟨G.K,3,none⟩=some (.slice (some ⟨g,0,none⟩) L c):=by rw[hw2];exact k0
  have d1:w2.cell? ⟨b,0,none⟩=some (.int .i64 (p:Int)):=by rw[hw2];exact cp
  rw[←hw2]
  clear hw2 c0 c1 c2 c3 c4 c5 c6 k0 cp h4f h4c hg hb1
  go_still_tail 12,(by kernel_rfl)
  change wpList _ _ _ _ _ w2.drew
  have H3:Hid (KernP F w2.drew own1 G M n):=Lib.hid H2.out.drew
  have HT3:Hid (Touch (fun t=>t≠ .other) w w2.drew own own1):=Lib.hid (HT2.out.trans (touch_drew w2 own1))
  have C4d:BoxAt w2.drew own1 w.heap.size _ 68:=C4.out
  generalize w2.drew=wd at H3 HT3 C4d ⊢
  obtain ⟨f6,g6⟩:=C4d.cells
  have g60:=g6 0
  have g61:=g6 1
  have g62:=g6 2
  have g63:=g6 3
  have g64:=g6 4
  have g65:=g6 5
  have g66:=g6 6
  go_wp2_with fail
  generalize hW:World.setCell _ _ _=W
  obtain ⟨C4',K7⟩:=C4d.put7 _ _ _ _ _ _ _ hW.symm
  have D4:Hid (BoxAt W own1 w.heap.size #[.int .i64 xo, .int .i64 xa, .int .i64 xb, .int .i64 xc, .int .u64 xv, .int .i64 xm, .int .i64 xw] 68):=Lib.hid C4'
  have H3:=Lib.hid (H3.out.boxed K7 C4d.2)
  have HT3:=Lib.hid (HT3.out.boxed K7 (Nat.le_refl _))
  clear hW K7 C4d C4' g60 g61 g62 g63 g64 g65 g66 f6 g6 e0 e1 e2 e3 e4 e5 e6 d0 d1 H2 C4 HT2
  have k0:W.cell? ⟨G.K,3,none⟩=some G.pv:=H3.out.kcell fun _ _ hc=>hc.code
  rw[HLv.out] at k0
  have HSs:=HS.out
  unfold shV at HSs
  have HSs:=Lib.hid HSs
  clear HS
  have HCall:Hid (∀W',(∃q,W'=W.drewN q)→Calls Tryz.prog 198 #[.pointer (some ⟨b,0,none⟩), .slice (some ⟨g,0,none⟩) L c, .iface 410 (.agg #[.pointer (some ⟨G.K,0,none⟩), .int .u64 id, .int .i64 xo])] W' fun e w'=>(∃ev,e= .returned (.tuple #[.int .i64 1,ev]))∧KO F W own1 G M2 n2 w'∧w'.cell? ⟨G.K,3,none⟩=some (.slice (some ⟨g,0,none⟩) L c)∧w'.cell? ⟨G.tb id,0,none⟩=some (.int .u64 id)∧w'.cell? ⟨w.heap.size,0,none⟩=some (.int .i64 xo)):=Lib.hid fun W' ⟨q,hq⟩=>by
   subst hq
   refine (HSs.out _ own1 (H3.out.drewN q)).mono fun e w' ⟨a,hk⟩=>⟨a,hk.drewN,?_⟩
   obtain ⟨own5,h5,t5⟩:=hk
   have:=h5.kcell (i:=3) (v:=G.pv) fun _ _ hc=>hc.code
   rw[HLv.out] at this
   exact ⟨this,(h5.thr_cells HR2.out).1,(BoxAt.move (w:=W.drewN q) D4.out t5).cells.2 0⟩
  have t0:W.cell? ⟨G.tb id,0,none⟩=some (.int .u64 id):=HTC.out _ _ H3.out
  have x0:W.cell? ⟨w.heap.size,0,none⟩=some (.int .i64 xo):=D4.out.cells.2 0
  go_region_held3 (fun V=>V.cell? ⟨G.K,3,none⟩=some (.slice (some ⟨g,0,none⟩) L c)∧V.cell? ⟨G.tb id,0,none⟩=some (.int .u64 id)∧V.cell? ⟨w.heap.size,0,none⟩=some (.int .i64 xo)) (first|exact ⟨k0,t0,x0⟩ |exact ⟨u0,u1,u2⟩ |go_keep) (first|(go_at_call 198;refine (HCall.out _ ⟨1,rfl⟩).mono ?_;rintro e w3 ⟨⟨ev,rfl⟩,hk,u0,u1,u2⟩))
  obtain ⟨own4,h4,t4⟩:=hk
  have E4:=D4.out.move t4
  have HE4:=Lib.hid E4
  have H4:=Lib.hid h4
  have HT4:=Lib.hid (HT3.out.trans t4)
  clear u0 u1 u2 t4 k0 t0 x0 HCall H3 HT3 D4 HSs
  obtain ⟨p0,p1,p2,hb⟩:=h4.bump HI.out HFa2.out
  have HB:=Lib.hid hb
  have y4:w3.cell? ⟨w.heap.size,4,none⟩=some (.int .u64 xv):=E4.cells.2 4
  clear h4 E4 hb
  generalize (getF M2 i (some id)).pc=pc2 at*
  have hpw:IntKind.i64.wrap (pc2+1)=pc2+1:=by rw[IntKind.wrap_i64];omega
  have hxw:IntKind.i64.wrap xv=xv:=by rw[IntKind.wrap_i64];omega
  go_wp2_with fail
  obtain ⟨own5,h5,t5⟩:=HB.out
  refine (HC.out _ _ h5 (HT4.out.trans t5)).mono ?_
  rintro e w6 ⟨rfl,hq⟩
  have HQ:=Lib.hid hq
  clear hq h5 t5
  go_wp2_with fail
  go_end0
  exact ⟨rfl,HQ.out⟩
 ·have hins:insAt F.code (p:Int)=none:=insAt_out (Or.inr (by omega))
  rw[hins] at hx
  simp only[Option.getD_none] at hx
  obtain ⟨xo,xa,xb,xc,xv,xm,xw⟩:=x
  injection hx with z0 z1 z2 z3 z4 z5 z6
  have HB4:Hid (BoxAt w1 own1 w.heap.size #[.int .i64 xo, .int .i64 xa, .int .i64 xb, .int .i64 xc, .int .u64 xv, .int .i64 xm, .int .i64 xw] 68):=Lib.hid (by rw[←z0,←z1,←z2,←z3,←z4,←z5,←z6];exact HB4.out)
  clear h h1 t1 B4 l1 l3 hn hpr hp hlen hc hins hlv fa z0 z1 z2 z3 z4 z5 z6 hr hr2 hi fa2
  generalize F.code.length=L at*
  simp only at*
  go_enter Tryz.func134,Tryz.ntmps134
  go_wp2_with fail
  try rw[←hw1]
  clear hw1
  go_quiet (fail)
  go_wp2_with fail
  obtain ⟨W,hW⟩: ∃W,W=w1.drewN nq:=⟨_,rfl⟩
  have HT3:Hid (Touch (fun t=>t≠ .other) w W own own1):=Lib.hid (by rw[hW];exact HT1.out.trans (touch_drewN w1 own1 nq))
  have H3:Hid (KernP F W own1 G M n):=Lib.hid (by rw[hW];exact H1.out.drewN nq)
  have D4:Hid (BoxAt W own1 w.heap.size #[.int .i64 xo, .int .i64 xa, .int .i64 xb, .int .i64 xc, .int .u64 xv, .int .i64 xm, .int .i64 xw] 68):=Lib.hid (by rw[hW];exact HB4.out.drawn nq)
  rw[←hW]
  clear hW k0 cp h4f h4c hg hb1
  have k0:W.cell? ⟨G.K,3,none⟩=some G.pv:=H3.out.kcell fun _ _ hc=>hc.code
  rw[HLv.out] at k0
  have HSs:=HS.out
  unfold shV at HSs
  have HSs:=Lib.hid HSs
  clear HS
  have HCall:Hid (∀W',(∃q,W'=W.drewN q)→Calls Tryz.prog 198 #[.pointer (some ⟨b,0,none⟩), .slice (some ⟨g,0,none⟩) L c, .iface 410 (.agg #[.pointer (some ⟨G.K,0,none⟩), .int .u64 id, .int .i64 xo])] W' fun e w'=>(∃ev,e= .returned (.tuple #[.int .i64 1,ev]))∧KO F W own1 G M2 n2 w'∧w'.cell? ⟨G.K,3,none⟩=some (.slice (some ⟨g,0,none⟩) L c)∧w'.cell? ⟨G.tb id,0,none⟩=some (.int .u64 id)∧w'.cell? ⟨w.heap.size,0,none⟩=some (.int .i64 xo)):=Lib.hid fun W' ⟨q,hq⟩=>by
   subst hq
   refine (HSs.out _ own1 (H3.out.drewN q)).mono fun e w' ⟨a,hk⟩=>⟨a,hk.drewN,?_⟩
   obtain ⟨own5,h5,t5⟩:=hk
   have:=h5.kcell (i:=3) (v:=G.pv) fun _ _ hc=>hc.code
   rw[HLv.out] at this
   exact ⟨this,(h5.thr_cells HR2.out).1,(BoxAt.move (w:=W.drewN q) D4.out t5).cells.2 0⟩
  have t0:W.cell? ⟨G.tb id,0,none⟩=some (.int .u64 id):=HTC.out _ _ H3.out
  have x0:W.cell? ⟨w.heap.size,0,none⟩=some (.int .i64 xo):=D4.out.cells.2 0
  go_region_held3 (fun V=>V.cell? ⟨G.K,3,none⟩=some (.slice (some ⟨g,0,none⟩) L c)∧V.cell? ⟨G.tb id,0,none⟩=some (.int .u64 id)∧V.cell? ⟨w.heap.size,0,none⟩=some (.int .i64 xo)) (first|exact ⟨k0,t0,x0⟩ |exact ⟨u0,u1,u2⟩ |go_keep) (first|(go_at_call 198;refine (HCall.out _ ⟨1,rfl⟩).mono ?_;rintro e w3 ⟨⟨ev,rfl⟩,hk,u0,u1,u2⟩))
  obtain ⟨own4,h4,t4⟩:=hk
  have E4:=D4.out.move t4
  have HE4:=Lib.hid E4
  have H4:=Lib.hid h4
  have HT4:=Lib.hid (HT3.out.trans t4)
  clear u0 u1 u2 t4 k0 t0 x0 HCall H3 HT3 D4 HSs
  obtain ⟨p0,p1,p2,hb⟩:=h4.bump HI.out HFa2.out
  have HB:=Lib.hid hb
  have y4:w3.cell? ⟨w.heap.size,4,none⟩=some (.int .u64 xv):=E4.cells.2 4
  clear h4 E4 hb
  generalize (getF M2 i (some id)).pc=pc2 at*
  have hpw:IntKind.i64.wrap (pc2+1)=pc2+1:=by rw[IntKind.wrap_i64];omega
  have hxw:IntKind.i64.wrap xv=xv:=by rw[IntKind.wrap_i64];omega
  go_wp2_with fail
  obtain ⟨own5,h5,t5⟩:=HB.out
  refine (HC.out _ _ h5 (HT4.out.trans t5)).mono ?_
  rintro e w6 ⟨rfl,hq⟩
  have HQ:=Lib.hid hq
  clear hq h5 t5
  go_wp2_with fail
  go_end0
  exact ⟨rfl,HQ.out⟩
end
end Go.Proofs.YtaangaogmnlljaaGreatDoor.Kn
