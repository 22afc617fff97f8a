/- Part 35 of what the proof stands on: KnDoL, KnRunL, KnDoG. -/
import Derived.StillTailTactics
import Derived.Test.YtaangaogmnlljaaGreatDoorP15
import Derived.Test.YtaangaogmnlljaaGreatDoorP33
set_option linter.unusedVariables false
namespace Go.Proofs.YtaangaogmnlljaaGreatDoor.Kn
open Go.RowKit Asm
section
variable {F:Fixed} {w:World} {own:Own} {G:KG} {M:Mach} {n:Nat}
theorem KernP.kset (h:KernP F w own G M n) {j:Nat} {v:Value} {en ps wk dr:Int} {n':Nat} (hn:n≤n') (hN:NumOk { M with entries:=en,pos:=ps,w:=wk,draw:=dr} F n') (hj:j≠1020) (hC: ∀C ov,MachC C F G M ov→MachC (C.setIfInBounds j v) F G { M with entries:=en,pos:=ps,w:=wk,draw:=dr} ov):
  KernP F (w.setCell ⟨G.K,j,none⟩ v) own G { M with entries:=en,pos:=ps,w:=wk,draw:=dr} n'∧Touch (fun t=>t≠ .other) w (w.setCell ⟨G.K,j,none⟩ v) own own:=by
 obtain ⟨C,ov,ho,hc,hr⟩:=h.k.obj
 have hT:Touch (fun t=>t= .mach) w (w.setCell ⟨G.K,j,none⟩ v) own own:=⟨(Keeps.refl _ _).setCell (p:=⟨G.K,j,none⟩) h.k.mine _,fun _ _=>rfl⟩
 refine ⟨?_,hT.mono fun t e=>by rw[e];nofun⟩
 exact h.on_k (ot:=M.out) hn (hT.mono fun t e=>Or.inl e) ⟨h.k.mine,_,ov,set_block ho _,hC C ov hc,hr.move hT nofun⟩ hN
theorem KernP.set_pos (h:KernP F w own G M n) (v:Int) (hv:0≤v∧v≤n):KernP F (w.setCell ⟨G.K,1017,none⟩ (.int .i64 v)) own G { M with pos:=v} n∧Touch (fun t=>t≠ .other) w (w.setCell ⟨G.K,1017,none⟩ (.int .i64 v)) own own:=
 h.kset (en:=M.entries) (ps:=v) (wk:=M.w) (dr:=M.draw) (Nat.le_refl n) ⟨h.num.entries,hv,h.num.w,h.num.draw,h.num.wk,h.num.out⟩ (by decide) fun C ov hc=>
  ⟨by simp[hc.size],set_at hc.lib (by decide),set_at hc.loop (by decide),set_at hc.calls (by decide),set_at hc.code (by decide),set_at hc.wide (by decide),set_at hc.narrow (by decide),fun i hi=>set_at (hc.rows i hi) (by omega),set_at hc.mem (by decide),set_at hc.alc (by decide),set_at hc.clk (by decide),set_at hc.ring (by decide),set_at hc.wq (by decide),set_at hc.tab (by decide),set_at hc.obj (by decide),set_at hc.th (by decide),set_at hc.wk (by decide),set_at hc.entries (by decide),set_here (by rw[hc.size];decide),set_at hc.w (by decide),set_at hc.draw (by decide),set_at hc.out (by decide)⟩
theorem KernP.set_w (h:KernP F w own G M n) (v:Int) (hv: -1≤v∧v<64):KernP F (w.setCell ⟨G.K,1018,none⟩ (.int .i64 v)) own G { M with w:=v} n∧Touch (fun t=>t≠ .other) w (w.setCell ⟨G.K,1018,none⟩ (.int .i64 v)) own own:=
 h.kset (en:=M.entries) (ps:=M.pos) (wk:=v) (dr:=M.draw) (Nat.le_refl n) ⟨h.num.entries,h.num.pos,hv,h.num.draw,h.num.wk,h.num.out⟩ (by decide) fun C ov hc=>
  ⟨by simp[hc.size],set_at hc.lib (by decide),set_at hc.loop (by decide),set_at hc.calls (by decide),set_at hc.code (by decide),set_at hc.wide (by decide),set_at hc.narrow (by decide),fun i hi=>set_at (hc.rows i hi) (by omega),set_at hc.mem (by decide),set_at hc.alc (by decide),set_at hc.clk (by decide),set_at hc.ring (by decide),set_at hc.wq (by decide),set_at hc.tab (by decide),set_at hc.obj (by decide),set_at hc.th (by decide),set_at hc.wk (by decide),set_at hc.entries (by decide),set_at hc.pos (by decide),set_here (by rw[hc.size];decide),set_at hc.draw (by decide),set_at hc.out (by decide)⟩
theorem KernP.set_draw (h:KernP F w own G M n) (v:Int) (hv:U64 v):KernP F (w.setCell ⟨G.K,1019,none⟩ (.int .u64 v)) own G { M with draw:=v} n∧Touch (fun t=>t≠ .other) w (w.setCell ⟨G.K,1019,none⟩ (.int .u64 v)) own own:=
 h.kset (en:=M.entries) (ps:=M.pos) (wk:=M.w) (dr:=v) (Nat.le_refl n) ⟨h.num.entries,h.num.pos,h.num.w,hv,h.num.wk,h.num.out⟩ (by decide) fun C ov hc=>
  ⟨by simp[hc.size],set_at hc.lib (by decide),set_at hc.loop (by decide),set_at hc.calls (by decide),set_at hc.code (by decide),set_at hc.wide (by decide),set_at hc.narrow (by decide),fun i hi=>set_at (hc.rows i hi) (by omega),set_at hc.mem (by decide),set_at hc.alc (by decide),set_at hc.clk (by decide),set_at hc.ring (by decide),set_at hc.wq (by decide),set_at hc.tab (by decide),set_at hc.obj (by decide),set_at hc.th (by decide),set_at hc.wk (by decide),set_at hc.entries (by decide),set_at hc.pos (by decide),set_at hc.w (by decide),set_here (by rw[hc.size];decide),set_at hc.out (by decide)⟩
theorem KernP.set_entries (h:KernP F w own G M n):KernP F (w.setCell ⟨G.K,1016,none⟩ (.int .i64 (M.entries+1))) own G { M with entries:=M.entries+1} (n+1)∧Touch (fun t=>t≠ .other) w (w.setCell ⟨G.K,1016,none⟩ (.int .i64 (M.entries+1))) own own:=
 h.kset (en:=M.entries+1) (ps:=M.pos) (wk:=M.w) (dr:=M.draw) (Nat.le_succ n) ⟨⟨by have:=h.num.entries;show 0≤M.entries+1;omega,by have:=h.num.entries;show M.entries+1≤_;omega⟩,⟨h.num.pos.1,by have:=h.num.pos;show M.pos≤_;omega⟩,h.num.w,h.num.draw,h.num.wk,h.num.out⟩ (by decide) fun C ov hc=>
  ⟨by simp[hc.size],set_at hc.lib (by decide),set_at hc.loop (by decide),set_at hc.calls (by decide),set_at hc.code (by decide),set_at hc.wide (by decide),set_at hc.narrow (by decide),fun i hi=>set_at (hc.rows i hi) (by omega),set_at hc.mem (by decide),set_at hc.alc (by decide),set_at hc.clk (by decide),set_at hc.ring (by decide),set_at hc.wq (by decide),set_at hc.tab (by decide),set_at hc.obj (by decide),set_at hc.th (by decide),set_at hc.wk (by decide),set_here (by rw[hc.size];decide),set_at hc.pos (by decide),set_at hc.w (by decide),set_at hc.draw (by decide),set_at hc.out (by decide)⟩
def untell (own:Own):Own:=fun b=>match own b with
 | .ev=> .other
 |t=>t
theorem untell_re (own:Own):Retag own (untell own):=fun b h=>by
 unfold untell
 split
 ·rename_i e;exact absurd e h
 ·rfl
theorem untell_ev {own:Own} {b:Nat} (h:own b= .ev):untell own b= .other:=by
 unfold untell;rw[h]
theorem KernP.done (h:KernP F w own G M n): ∃ov,w.cell? ⟨G.K,1020,none⟩=some ov∧w.frozen? ⟨G.K,1020,none⟩=false∧(∀b,ov.ownBlock=some b→own b= .ev∧b<w.heap.size)∧(∃a c,ov= .slice a M.out.length c)∧KernP F (w.setCell ⟨G.K,1020,none⟩ (.slice none 0 0)) (untell own) G { M with out:= []} n∧PRow (w.setCell ⟨G.K,1020,none⟩ (.slice none 0 0)) (untell own) .other 71 11 ov M.out.length (evC M.out)∧Touch (fun t=>t≠ .other) w (w.setCell ⟨G.K,1020,none⟩ (.slice none 0 0)) own own:=by
 obtain ⟨C,ov,ho,hc,hr⟩:=h.k.obj
 have hT:Touch (fun t=>t= .mach) w (w.setCell ⟨G.K,1020,none⟩ (.slice none 0 0)) own own:=⟨(Keeps.refl _ _).setCell (p:=⟨G.K,1020,none⟩) h.k.mine _,fun _ _=>rfl⟩
 have hr2:=hr.move hT nofun
 have ho2:(w.setCell ⟨G.K,1020,none⟩ (.slice none 0 0)).heap[G.K]?=some (.cells (C.setIfInBounds 1020 (.slice none 0 0)) 159 (0,0)):=set_block ho _
 have hh:(C.setIfInBounds 1020 (.slice none 0 0))[1020]?=some (.slice none 0 0):=set_here (by rw[hc.size];decide)
 refine ⟨ov,(blk_cell ho _).trans hc.out,blk_frozen ho _,fun b hb=>⟨hr.2 b hb,hr.lt hb⟩,Asm.own_shape hr.1,?_,⟨hr2.1,fun b hb=>untell_ev (hr2.2 b hb)⟩,hT.mono fun t e=>by rw[e];nofun⟩
 have h1:KernP F (w.setCell ⟨G.K,1020,none⟩ (.slice none 0 0)) own G { M with out:= []} n:=by
  refine h.on_k (en:=M.entries) (ps:=M.pos) (wk:=M.w) (dr:=M.draw) (ot:= []) (Nat.le_refl n) (hT.mono fun t e=>Or.inl e) ⟨h.k.mine,_, .slice none 0 0,ho2,?_,⟨World.ownsRow_nil _ _ _ _,fun b hb=>by cases hb⟩⟩ ⟨h.num.entries,h.num.pos,h.num.w,h.num.draw,h.num.wk,by simp⟩
  exact ⟨by simp[hc.size],set_at hc.lib (by decide),set_at hc.loop (by decide),set_at hc.calls (by decide),set_at hc.code (by decide),set_at hc.wide (by decide),set_at hc.narrow (by decide),fun i hi=>set_at (hc.rows i hi) (by omega),set_at hc.mem (by decide),set_at hc.alc (by decide),set_at hc.clk (by decide),set_at hc.ring (by decide),set_at hc.wq (by decide),set_at hc.tab (by decide),set_at hc.obj (by decide),set_at hc.th (by decide),set_at hc.wk (by decide),set_at hc.entries (by decide),set_at hc.pos (by decide),set_at hc.w (by decide),set_at hc.draw (by decide),hh⟩
 exact h1.re (untell_re own) ho2 hh
end
end Go.Proofs.YtaangaogmnlljaaGreatDoor.Kn
namespace Go.Proofs.YtaangaogmnlljaaGreatDoor.Kn
open Go.RowKit Asm
def doN (F:Fixed) (M:Mach) (x:Entry):Mach:={ doK F M x with out:= []}
end Go.Proofs.YtaangaogmnlljaaGreatDoor.Kn
namespace Go.Proofs.YtaangaogmnlljaaGreatDoor.Kn
open Go.RowKit Asm
section
variable {F:Fixed} {w:World} {own:Own} {G:KG} {M:Mach} {n:Nat}
def DoP (F:Fixed) (w:World) (own:Own) (G:KG) (M:Mach) (n:Nat) (x:Entry) (e:Ending) (w':World):Prop:=
 ∃ov tb fb own',e= .returned ov∧KernP F w' own' { G with tb:=tb,fb:=fb} (doN F M x) (n+8)∧Aside w w' own own'∧PRow w' own' .other 71 11 ov (doK F M x).out.length (evC (doK F M x).out)
theorem do_fin {x:Entry} {w9:World} {own9:Own} {tb:Int→Nat} {fb:Int→Nat→Nat} {n9:Nat} (hn9:n9≤n+8) (t9:Touch (fun t=>t≠ .other) w w9 own own9) {ov:Value} {w10:World}
  (h10:KernP F w10 (untell own9) { G with tb:=tb,fb:=fb} { doK F M x with out:= []} n9) (hr10:PRow w10 (untell own9) .other 71 11 ov (doK F M x).out.length (evC (doK F M x).out)) (t10:Touch (fun t=>t≠ .other) w9 w10 own9 own9):DoP F w own G M n x (.returned ov) w10:=by
 refine ⟨ov,tb,fb,untell own9,rfl,h10.more hn9,⟨(t9.trans t10).keeps,fun b hb e=>?_⟩,hr10⟩
 have h1:own9 b= .other:=(t9.own b hb).trans e
 exact (untell_re own9 b (by rw[h1];nofun)).trans h1
def entV (x:Entry):Array Value:=#[.int .i64 x.kind, .int .i64 x.w, .int .u64 x.draw]
def doS (M:Mach) (x:Entry):Mach:={ M with pos:=M.entries,w:= -1,draw:=x.draw,entries:=M.entries+1}
theorem doS_eq {M:Mach} (h:M.out= []) (x:Entry):({ M with out:= [],pos:=M.entries,entries:=M.entries+1,w:= -1,draw:=x.draw}:Mach)=doS M x:=by
 unfold doS
 rw[h]
theorem KernP.starts (h:KernP F w own G M n) (x:Entry) (hd:U64 x.draw) (W:World) (hW:KernP F W own G M n):KernP F (((W.setCell ⟨G.K,1017,none⟩ (.int .i64 M.entries)).setCell ⟨G.K,1018,none⟩ (.int .i64 (-1))).setCell ⟨G.K,1019,none⟩ (.int .u64 x.draw)) own G { M with pos:=M.entries,w:= -1,draw:=x.draw} n∧Touch (fun t=>t≠ .other) W (((W.setCell ⟨G.K,1017,none⟩ (.int .i64 M.entries)).setCell ⟨G.K,1018,none⟩ (.int .i64 (-1))).setCell ⟨G.K,1019,none⟩ (.int .u64 x.draw)) own own:=by
 obtain ⟨a1,t1⟩:=hW.set_pos M.entries hW.num.entries
 obtain ⟨a2,t2⟩:=a1.set_w (-1) ⟨by decide,by decide⟩
 obtain ⟨a3,t3⟩:=a2.set_draw x.draw hd
 exact ⟨a3,t1.trans (t2.trans t3)⟩
theorem doK_tick (F:Fixed) {M:Mach} (hM:M.out= []) (x:Entry) (h:x.kind=2):doK F M x=tickK (doS M x):=by
 unfold doK
 simp only
 rw[if_pos h,doS_eq hM]
theorem doK_pick (F:Fixed) {M:Mach} (hM:M.out= []) (x:Entry) (h:x.kind=1) (hw:0≤x.w∧x.w<F.workers):doK F M x=pickK F { doS M x with w:=x.w} x.w.toNat:=by
 unfold doK
 simp only
 rw[if_neg (by omega),if_pos ⟨h,hw⟩]
 have:=doS_eq hM x
 rw[←this]
theorem doK_none (F:Fixed) {M:Mach} (hM:M.out= []) (x:Entry) (h2:x.kind≠2) (h: ¬(x.kind=1∧0≤x.w∧x.w<F.workers)):doK F M x=doS M x:=by
 unfold doK
 simp only
 rw[if_neg h2,if_neg h,doS_eq hM]
set_option maxRecDepth 100000 in
set_option maxHeartbeats 8000000 in
theorem do_gen (h:KernP F w own G M n) (hM:M.out= []) (x:Entry) (hd:U64 x.draw) (hn:n≤50000)
  (HT0:x.kind=2→ ∀W own',KernP F W own' G (doS M x) (n+1)→Calls Tryz.prog 63 #[.pointer (some ⟨G.K,0,none⟩)] W fun e w'=>e= .returned (.tuple #[])∧KO F W own' G (tickK (doS M x)) (n+8) w')
  (HP0: ∀k:Nat,x.kind=1→x.w=k→k<F.workers→ ∀W own',KernP F W own' G { doS M x with w:=(k:Int)} (n+1)→Calls Tryz.prog 64 #[.pointer (some ⟨G.K,0,none⟩), .pointer (some ⟨G.gW,k*38,none⟩)] W fun e w'=>e= .returned (.tuple #[])∧KO2 F W own' G [] (pickK F { doS M x with w:=(k:Int)} k) (n+8) w'):
  Calls Tryz.prog 18 #[.pointer (some ⟨G.K,0,none⟩), .agg (entV x)] w (DoP F w own G M n x):=by
 have HTk0:=Lib.hid HT0
 have HPk0:=Lib.hid HP0
 have hB:Below w.heap.size w (w.alloc (.cells (entV x) 55)):=below_al (Below.refl _ _) _
 have hz:=heap_alloc_new w (.cells (entV x) 55)
 have h1:=h.below hB
 have HT:=Lib.hid (touch_below (ts:=fun t=>t≠ .other) (t:= .other) (own:=own) hB)
 have BO:Hid (ext own w.heap.size .other w.heap.size= .other):=Lib.hid (ext_tag (Or.inr (Nat.le_refl _)))
 have BZ:=Lib.hid hz
 have HD:=Lib.hid hd
 have HN:=Lib.hid hn
 have HM:=Lib.hid hM
 have HE2:=Lib.hid (fun q=>doK_tick F hM x q)
 have HE1:=Lib.hid (fun q p=>doK_pick F hM x q p)
 have HE0:=Lib.hid (fun q p=>doK_none F hM x q p)
 have HSt:=Lib.hid (fun W hW=>h1.starts x hd W hW)
 obtain ⟨C,ov,ho,hC,-⟩:=h1.k.obj
 have k16:(w.alloc (.cells (entV x) 55)).cell? ⟨G.K,1016,none⟩=some (.int .i64 M.entries):=(blk_cell ho _).trans hC.entries
 have k17:(w.alloc (.cells (entV x) 55)).cell? ⟨G.K,1017,none⟩=some (.int .i64 M.pos):=(blk_cell ho _).trans hC.pos
 have k18:(w.alloc (.cells (entV x) 55)).cell? ⟨G.K,1018,none⟩=some (.int .i64 M.w):=(blk_cell ho _).trans hC.w
 have k19:(w.alloc (.cells (entV x) 55)).cell? ⟨G.K,1019,none⟩=some (.int .u64 M.draw):=(blk_cell ho _).trans hC.draw
 have kfz: ∀i,(w.alloc (.cells (entV x) 55)).frozen? ⟨G.K,i,none⟩=false:=fun i=>blk_frozen ho i
 have f17:=kfz 1017
 have f18:=kfz 1018
 have f19:=kfz 1019
 have hKl:=h1.klt
 have H1:=Lib.hid h1
 have hen:=h.num.entries
 have hwr:IntKind.i64.wrap (M.entries+1)=M.entries+1:=by rw[IntKind.wrap_i64];omega
 generalize hw1:w.alloc (.cells (entV x) 55)=w1 at*
 generalize hbx:w.heap.size=bx at*
 generalize ext own bx .other=own1 at*
 obtain ⟨xk,xw,xd⟩:=x
 unfold entV at*
 simp only at*
 have z0:=blk_cell BZ.out 0
 have z1:=blk_cell BZ.out 1
 have z2:=blk_cell BZ.out 2
 clear h hM hB hz h1 hd hn ho hC kfz hen HT0 HP0
 go_enter Tryz.func18,Tryz.ntmps18
 go_upto_region 1 with fail
 try rw[hw1]
 clear hw1 hbx
 go_cut [20] (fun _ wx=>Hid (KernP F wx own1 G { M with pos:=M.entries,w:= -1,draw:=xd} n∧Touch (fun t=>t≠ .other) w1 wx own1 own1))
 case first=>
  go_region_with (fail)
  all_goals
   go_wp2_with fail
   go_meet
   have hst:=HSt.out w1 H1.out
   exact Lib.hid ⟨hst.1.drew,hst.2.trans (touch_drew _ _)⟩
 case rest=>
  obtain ⟨h2,t2⟩:=hcut.out
  have x:=t2.other BO.out (blk_in BZ.out)
  have BZ2:=Lib.hid (x.1.trans BZ.out)
  have BO2:=Lib.hid x.2.1
  obtain ⟨h3,t3⟩:=h2.set_entries
  have HT3:=Lib.hid ((HT.out.trans t2).trans t3)
  have H3:Hid (KernP F (wc.setCell ⟨G.K,1016,none⟩ (.int .i64 (M.entries+1))) own1 G (doS M ⟨xk,xw,xd⟩) (n+1)):=Lib.hid h3
  obtain ⟨C,ov,ho,hC,-⟩:=h2.k.obj
  have k16:wc.cell? ⟨G.K,1016,none⟩=some (.int .i64 M.entries):=(blk_cell ho _).trans hC.entries
  have f16:wc.frozen? ⟨G.K,1016,none⟩=false:=blk_frozen ho _
  have BZ3:Hid ((wc.setCell ⟨G.K,1016,none⟩ (.int .i64 (M.entries+1))).heap[bx]?=some (.cells #[.int .i64 xk, .int .i64 xw, .int .u64 xd] 55 (0,0))):=Lib.hid ((t3.other BO2.out (blk_in BZ2.out)).1.trans BZ2.out)
  have hne:bx≠G.K:=fun e=>by
   have h1:=h2.k.mine
   rw[←e,BO2.out] at h1
   cases h1
  have hne2:G.K≠bx:=fun e=>hne e.symm
  have y0:wc.cell? ⟨bx,0,none⟩=some (.int .i64 xk):=blk_cell BZ2.out 0
  have BO3:=BO2
  clear h2 t2 h3 t3 ho hC x hcut k17 k18 k19 f17 f18 f19 z0 z1 z2 BZ2 BO2 BZ BO HT H1 HSt hKl
  have EN:=Lib.hid hwr
  by_cases h2:xk=2
  ·subst h2
   have HDo:=HE2.out rfl
   have HDoE:=Lib.hid HDo
   go_wp2_with fail
   generalize hw4:World.setCell wc _ _=w4 at*
   have HTk:=Lib.hid (HTk0.out (by first|rfl|trivial) _ own1 H3.out)
   refine HTk.out.mono ?_
   rintro e w5 ⟨rfl,own5,h5,t5⟩
   have HK:Hid (∃tb fb own9,KernP F w5 own9 { G with tb:=tb,fb:=fb} (doK F M ⟨2,xw,xd⟩) (n+8)∧Touch (fun t=>t≠ .other) w w5 own own9):=Lib.hid ⟨G.tb,G.fb,own5,by rw[HDoE.out];exact h5.more (by omega),HT3.out.trans t5⟩
   clear h5 t5 HTk HDo hw4 k16 f16 y0
   obtain ⟨tb,fb,own9,h9,t9⟩:=HK.out
   obtain ⟨ov,c20,f20,hob,⟨Ao,co,rfl⟩,h10,hr10,t10⟩:=h9.done
   have HF:=Lib.hid (do_fin (Nat.le_refl (n+8)) t9 h10 hr10 t10)
   clear h9 t9 hob h10 hr10 t10 HK
   go_wp2_with fail
   go_ret
   exact HF.out
  ·have h2b:(xk==2)=false:=beq_eq_false_iff_ne.2 h2
   by_cases h1:xk=1
   ·subst h1
    by_cases hw0:0≤xw
    ·obtain ⟨k,hk⟩:=Int.eq_ofNat_of_zero_le hw0
     subst hk
     have kw:=H3.out.wcell
     obtain ⟨L,hL⟩: ∃L,L=F.workers:=⟨_,rfl⟩
     have hwk:=H3.out.fok.workers
     rw[←hL] at kw hwk
     have hLI:(1:Int)≤(L:Int)∧(L:Int)≤64:=by omega
     by_cases hlt:k<L
     ·have hltI:(k:Int)<(L:Int):=by omega
      have hkI:(0:Int)≤(k:Int)∧(k:Int)≤64:=by omega
      have HDoE:=Lib.hid (HE1.out rfl ⟨by omega,by rw[←hL];exact hltI⟩)
      have HkL:Hid (k<F.workers):=Lib.hid (by rw[←hL];exact hlt)
      have y1:=blk_cell BZ3.out 1
      have y0':=blk_cell BZ3.out 0
      obtain ⟨C4,ov4,ho4,hC4,-⟩:=H3.out.k.obj
      have k18:=(blk_cell ho4 1018).trans hC4.w
      have f18:(wc.setCell ⟨G.K,1016,none⟩ (.int .i64 (M.entries+1))).frozen? ⟨G.K,1018,none⟩=false:=blk_frozen ho4 _
      clear hwk hlt hL ho4 hC4
      go_wp2_with fail
      generalize hw4:World.setCell wc _ _=w4 at*
      clear hw4 k16 f16 y0
      go_quiet (fail)
      go_wp2_with fail
      generalize hw5:World.setCell _ _ _=w5
      have h45:KernP F w5 own1 G { doS M ⟨1,(k:Int),xd⟩ with w:=(k:Int)} (n+1)∧Touch (fun t=>t≠ .other) w w5 own own1∧w5.heap[bx]?=some (.cells #[.int .i64 1, .int .i64 (k:Int), .int .u64 xd] 55 (0,0)):=by
       rw[←hw5]
       obtain ⟨h4,t4⟩:=(H3.out.drewN nq).set_w (k:Int) ⟨by omega,by omega⟩
       exact ⟨h4,(HT3.out.trans (touch_drewN _ own1 nq)).trans t4,(t4.other BO3.out (blk_in BZ3.out)).1.trans BZ3.out⟩
      obtain ⟨h5,t5,b5⟩:=h45
      have z1:=blk_cell b5 1
      have kw5:=h5.wcell
      have e36:L≤L:=Nat.le_refl _
      have HPk:=Lib.hid (HPk0.out k (by first|rfl|trivial) (by first|rfl|trivial) HkL.out _ own1 h5.drew)
      have HT5:=Lib.hid (t5.trans (touch_drew w5 own1))
      have HKL2:=HkL
      obtain ⟨L2,hL2⟩: ∃L2,L2=F.workers:=⟨_,rfl⟩
      rw[←hL2] at kw5
      have hltI2:(k:Int)<(L2:Int):=by have:=HkL.out;omega
      clear h5 t5 b5 hw5 hL2 y1 y0' k18 f18 kw
      go_wp2_with fail
      go_still_tail 8,(by kernel_rfl)
      change wpList _ _ _ _ _ w5.drew
      have z1:w5.drew.cell? ⟨bx,1,none⟩=some (.int .i64 (k:Int)):=z1
      have kw5:w5.drew.cell? ⟨G.K,1015,none⟩=some (.slice (some ⟨G.gW,0,none⟩) L2 L2):=kw5
      generalize w5.drew=w6 at*
      go_wp2_with fail
      refine HPk.out.mono ?_
      rintro e w7 ⟨rfl,tb7,fb7,-,own7,h7,t7⟩
      have HK:Hid (∃tb fb own9,KernP F w7 own9 { G with tb:=tb,fb:=fb} (doK F M ⟨1,(k:Int),xd⟩) (n+8)∧Touch (fun t=>t≠ .other) w w7 own own9):=Lib.hid ⟨tb7,fb7,own7,by rw[HDoE.out];exact h7.more (by omega),HT5.out.trans t7⟩
      clear h7 t7 HPk z1 kw5
      obtain ⟨tb,fb,own9,h9,t9⟩:=HK.out
      obtain ⟨ov,c20,f20,hob,⟨Ao,co,rfl⟩,h10,hr10,t10⟩:=h9.done
      have HF:=Lib.hid (do_fin (Nat.le_refl (n+8)) t9 h10 hr10 t10)
      clear h9 t9 hob h10 hr10 t10 HK
      go_wp2_with fail
      go_ret
      exact HF.out
     ·have hltI: ¬((k:Int)<(L:Int)):=by omega
      have HDoE:=Lib.hid (HE0.out (by decide) (fun q=>by have:=q.2.2;omega))
      clear hwk hL
      obtain ⟨C4,ov4,ho4,hC4,-⟩:=H3.out.k.obj
      have y1:=blk_cell BZ3.out 1
      have y0':=blk_cell BZ3.out 0
      clear ho4 hC4
      go_wp2_with fail
      generalize hw4:World.setCell wc _ _=w4 at*
      clear hw4 k16 f16 y0
      go_quiet (fail)
      have HK:Hid (∃tb fb own9,KernP F (w4.drewN nq) own9 { G with tb:=tb,fb:=fb} (doK F M ⟨1,(k:Int),xd⟩) (n+8)∧Touch (fun t=>t≠ .other) w (w4.drewN nq) own own9):=Lib.hid ⟨G.tb,G.fb,own1,by rw[HDoE.out];exact (H3.out.drewN nq).more (by omega),HT3.out.trans (touch_drewN w4 own1 nq)⟩
      obtain ⟨tb,fb,own9,h9,t9⟩:=HK.out
      obtain ⟨ov,c20,f20,hob,⟨Ao,co,rfl⟩,h10,hr10,t10⟩:=h9.done
      have HF:=Lib.hid (do_fin (Nat.le_refl (n+8)) t9 h10 hr10 t10)
      clear h9 t9 hob h10 hr10 t10 HK
      go_wp2_with fail
      go_ret
      exact HF.out
    ·have hltI:xw<0:=by omega
     have hge:decide (0≤xw)=false:=decide_eq_false hw0
     have hge2:decide (xw≥0)=false:=decide_eq_false hw0
     have HDoE:=Lib.hid (HE0.out (by decide) (fun q=>by have:=q.2.1;omega))
     obtain ⟨C4,ov4,ho4,hC4,-⟩:=H3.out.k.obj
     have y1:=blk_cell BZ3.out 1
     have y0':=blk_cell BZ3.out 0
     clear ho4 hC4
     go_wp2_with fail
     generalize hw4:World.setCell wc _ _=w4 at*
     clear hw4 k16 f16 y0
     go_quiet (fail)
     have HK:Hid (∃tb fb own9,KernP F (w4.drewN nq) own9 { G with tb:=tb,fb:=fb} (doK F M ⟨1,xw,xd⟩) (n+8)∧Touch (fun t=>t≠ .other) w (w4.drewN nq) own own9):=Lib.hid ⟨G.tb,G.fb,own1,by rw[HDoE.out];exact (H3.out.drewN nq).more (by omega),HT3.out.trans (touch_drewN w4 own1 nq)⟩
     obtain ⟨tb,fb,own9,h9,t9⟩:=HK.out
     obtain ⟨ov,c20,f20,hob,⟨Ao,co,rfl⟩,h10,hr10,t10⟩:=h9.done
     have HF:=Lib.hid (do_fin (Nat.le_refl (n+8)) t9 h10 hr10 t10)
     clear h9 t9 hob h10 hr10 t10 HK
     go_wp2_with fail
     go_ret
     exact HF.out
   ·have h1b:(xk==1)=false:=beq_eq_false_iff_ne.2 h1
    have HDoE:=Lib.hid (HE0.out h2 (fun q=>h1 q.1))
    have y0':=blk_cell BZ3.out 0
    have HK:Hid (∃tb fb own9,KernP F (wc.setCell ⟨G.K,1016,none⟩ (.int .i64 (M.entries+1))) own9 { G with tb:=tb,fb:=fb} (doK F M ⟨xk,xw,xd⟩) (n+8)∧Touch (fun t=>t≠ .other) w (wc.setCell ⟨G.K,1016,none⟩ (.int .i64 (M.entries+1))) own own9):=Lib.hid ⟨G.tb,G.fb,own1,by rw[HDoE.out];exact H3.out.more (by omega),HT3.out⟩
    obtain ⟨tb,fb,own9,h9,t9⟩:=HK.out
    obtain ⟨ov,c20,f20,hob,⟨Ao,co,rfl⟩,h10,hr10,t10⟩:=h9.done
    have HF:=Lib.hid (do_fin (Nat.le_refl (n+8)) t9 h10 hr10 t10)
    clear h9 t9 hob h10 hr10 t10 HK
    go_wp2_with fail
    go_ret
    exact HF.out
end
end Go.Proofs.YtaangaogmnlljaaGreatDoor.Kn
