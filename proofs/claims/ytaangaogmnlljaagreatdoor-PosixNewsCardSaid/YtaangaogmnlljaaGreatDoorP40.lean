/- Part 40 of what the proof stands on: KnNewW. -/
import Derived.Test.YtaangaogmnlljaaGreatDoorP29
import Derived.Test.YtaangaogmnlljaaGreatDoorP36
set_option linter.unusedVariables false
set_option maxRecDepth 100000
set_option maxHeartbeats 40000000
namespace Go.Proofs.YtaangaogmnlljaaGreatDoor.Kn
open Go.RowKit Asm
set_option maxRecDepth 100000 in
theorem knew_any {w:World} {F:Fixed} (hF:FixOk F) {cells:Nat} {entry:Int} {lv0 cv0 pv0:Value} (he:0≤entry∧entry<F.code.length) (hroom:F.base+F.wide+F.narrow+1≤cells) (hcells:cells≤65536) (hcl0:0<F.calls.length)
  (hlv:w.ownsRow 0 68 7 lv0 F.lib.length (codeC F.lib)) (hcv:w.ownsRow 0 184 6 cv0 F.calls.length (callC F.calls)) (hpv:w.ownsRow 0 68 7 pv0 F.code.length (codeC F.code)):
  Calls Tryz.prog 28 #[.agg #[.int .i64 F.workers, .int .i64 cells], .agg #[lv0, .int .i64 F.loop,cv0], .agg #[pv0, .int .i64 entry, .int .i64 F.wide, .int .i64 F.narrow]] w fun e w'=> ∃G own',e= .returned (.tuple #[.pointer (some ⟨G.K,0,none⟩), .nilIface])∧KernP F w' own' G (newK F cells entry) 3∧Below w.heap.size w w'∧ ∀b,b<w.heap.size→own' b= .other:=by
 have hb0:Below w.heap.size w (((w.alloc (.cells #[.int .i64 F.workers, .int .i64 cells] 23)).alloc (.cells #[lv0, .int .i64 F.loop,cv0] 77)).alloc (.cells #[pv0, .int .i64 entry, .int .i64 F.wide, .int .i64 F.narrow] 26)):=((((Below.refl _ w).alloc (Nat.le_refl _) _).alloc (by simp) _).alloc (by simp;omega) _)
 obtain ⟨l1,l2,l3⟩:=laid2 (w.alloc (.cells #[.int .i64 F.workers, .int .i64 cells] 23)) (.cells #[lv0, .int .i64 F.loop,cv0] 77) (.cells #[pv0, .int .i64 entry, .int .i64 F.wide, .int .i64 F.narrow] 26)
 have l0:=(l3.block w.heap.size (by simp)).trans (heap_alloc_new w (.cells #[.int .i64 F.workers, .int .i64 cells] 23))
 rw[World.size_alloc] at l1 l2
 obtain ⟨wA,hwA⟩: ∃wA,wA=(((w.alloc (.cells #[.int .i64 F.workers, .int .i64 cells] 23)).alloc (.cells #[lv0, .int .i64 F.loop,cv0] 77)).alloc (.cells #[pv0, .int .i64 entry, .int .i64 F.wide, .int .i64 F.narrow] 26)):=⟨_,rfl⟩
 rw[←hwA] at hb0 l0 l1 l2
 clear l3
 obtain ⟨glv,clv,hlvE,hlvC,hglv⟩: ∃g c,lv0= .slice (some ⟨g,0,none⟩) F.lib.length c∧CodeAt w g F.lib∧g<w.heap.size:=row_code hlv hF.lib.1
 obtain ⟨gpv,cpv,hpvE,hpvC,hgpv⟩: ∃g c,pv0= .slice (some ⟨g,0,none⟩) F.code.length c∧CodeAt w g F.code∧g<w.heap.size:=row_code hpv hF.code.1
 obtain ⟨gcv,ccv,hcvE,hcvR⟩: ∃g c,cv0= .slice (some ⟨g,0,none⟩) F.calls.length c∧ ∀j u,(callC F.calls)[j]?=some u→w.cell? ((⟨g,0,none⟩:Addr).add j)=some u:=by
  rcases row_at hcv with ⟨-,q,-⟩ |q
  ·omega
  ·exact q
 subst hlvE hpvE hcvE
 have hgcv:gcv<w.heap.size:=(hcv.lt gcv rfl).2
 have hwk:=hF.workers
 have hwd:=hF.wide
 obtain ⟨n,hn⟩: ∃n,n=F.workers:=⟨_,rfl⟩
 have hnI:(1:Int)≤(n:Int)∧(n:Int)≤64:=by omega
 have hcI:(1:Int)≤(cells:Int)∧(cells:Int)≤65536:=by unfold Fixed.base at hroom;omega
 have HLb:=Lib.hid (clib_ok (w:=wA) (c:=clv) (cr:=ccv) (hlvC.below hglv hb0) (Nat.lt_of_lt_of_le hglv hb0.size) rfl hF.lib.1 hF.lib.2 hF.libs hF.loop rfl hF.few (ownsRow_of_block hcv fun k hk=>hb0.block k (hcv.lt k hk).2) hF.nod hF.calls)
 have HCl:Hid (∀W,Below w.heap.size w W→Calls Tryz.prog 77 #[.agg #[.slice (some ⟨gpv,0,none⟩) F.code.length cpv, .int .i64 entry, .int .i64 F.wide, .int .i64 F.narrow]] W fun e w'=>e= .returned .nilIface∧Below W.heap.size W w'):=Lib.hid fun W hW=>cclient_ok (c:=cpv) (hpvC.below hgpv hW) (Nat.lt_of_lt_of_le hgpv hW.size) rfl hF.code.1 hF.code.2 hF.codes he hwd
 have HB0:=Lib.hid hb0
 have HF:=Lib.hid hF
 have HLv:=Lib.hid hlv
 have HPv:=Lib.hid hpv
 have HCr:=Lib.hid (And.intro hcvR (And.intro hcl0 hgcv))
 have HR:=Lib.hid (And.intro hroom (And.intro hcells (And.intro he (And.intro hwd (And.intro hn hwk)))))
 have L0:=Lib.hid l0
 have L1:=Lib.hid l1
 have L2:=Lib.hid l2
 rw[←hn] at L0 ⊢
 clear hF hlv hcv hpv hlvC hpvC hb0 l0 l1 l2 hwk hwd hroom hcells he hcvR hcl0 hgcv
 rw[←hn] at hwA
 clear hn
 go_enter Tryz.func28,Tryz.ntmps28
 go_wp2_with fail
 try rw[←hwA]
 clear hwA
 refine HLb.out.mono ?_
 rintro e w1 ⟨rfl,hb1⟩
 have hlA:=L2.out
 have z2:=(hb1.block _ (blk_in L2.out)).trans L2.out
 have z1:=(hb1.block _ (blk_in L1.out)).trans L1.out
 have z0:=(hb1.block _ (blk_in L0.out)).trans L0.out
 have HB1:=Lib.hid (HB0.out.trans (hb1.mono HB0.out.size))
 have p0:w1.cell? ⟨w.heap.size+1+1,0,none⟩=some (.slice (some ⟨gpv,0,none⟩) F.code.length cpv):=blk_cell z2 0
 have p1:w1.cell? ⟨w.heap.size+1+1,1,none⟩=some (.int .i64 entry):=blk_cell z2 1
 have p2:w1.cell? ⟨w.heap.size+1+1,2,none⟩=some (.int .i64 F.wide):=blk_cell z2 2
 have p3:w1.cell? ⟨w.heap.size+1+1,3,none⟩=some (.int .i64 F.narrow):=blk_cell z2 3
 have Z0:=Lib.hid z0
 have Z1:=Lib.hid z1
 have Z2:=Lib.hid z2
 clear hb1 z0 z1 z2 L0 L1 L2 hlA HB0 HLb
 go_wp2_with fail
 refine (HCl.out w1 HB1.out).mono ?_
 rintro e w2 ⟨rfl,hb2⟩
 have z2:=(hb2.block _ (blk_in Z2.out)).trans Z2.out
 have z1:=(hb2.block _ (blk_in Z1.out)).trans Z1.out
 have z0:=(hb2.block _ (blk_in Z0.out)).trans Z0.out
 have HB2:=Lib.hid (HB1.out.trans (hb2.mono HB1.out.size))
 have q0:w2.cell? ⟨w.heap.size,0,none⟩=some (.int .i64 (n:Int)):=blk_cell z0 0
 have q0l:=blk_in z0
 have HlA:Hid (w.heap.size+1+1<w2.heap.size):=Lib.hid (blk_in z2)
 have Z0:=Lib.hid z0
 have Z1:=Lib.hid z1
 have Z2:=Lib.hid z2
 clear hb2 z0 z1 z2 p0 p1 p2 p3 HCl HB1
 have hmm:=@run_makeMap Tryz.prog
 have hmk:=make_wk n (by omega)
 have hbm:=build_mach
 have HCk:=Lib.hid clknew_any
 have HBel:Hid (∀W W':World,Below w2.heap.size w2 W→Below W.heap.size W W'→Below w2.heap.size w2 W'):=Lib.hid fun W W' a b=>a.trans (b.mono a.size)
 have HQ:Hid (∀W:World,Below w2.heap.size w2 W→W.cell? ⟨w.heap.size,0,none⟩=some (.int .i64 (n:Int))):=Lib.hid fun W a=>(a.cell (p:=⟨w.heap.size,0,none⟩) q0l).trans q0
 go_upto_region 11 with fail
 go_cut [3,4,5,10] (fun a3 a4 a5 a10 wx=>a3= .pointer (some ⟨w.heap.size,0,none⟩)∧a4= .pointer (some ⟨w.heap.size+1,0,none⟩)∧a5= .pointer (some ⟨w.heap.size+1+1,0,none⟩)∧ ∃K th gW C,a10= .pointer (some ⟨K,0,none⟩)∧Hid (MadeS w2 wx n K th gW C))
 case first=>
  clear HLv HCr HPv HR Z0 Z1 Z2 HF HB2 hcI hglv hgpv
  have hrefl:=Below.refl w2.heap.size w2
  go_region_with (go_at_call 78;refine (HCk.out _).mono ?_;rintro e w3 ⟨C,hb,hm,ab,rfl,hC,hC1,hC2,hC3,hC4,hB3⟩;have hW:=HBel.out _ w3 (by repeat first|exact Below.refl _ _|refine below_al ?_ _|refine Below.drew ?_) hB3;have q0':=HQ.out _ hW;have ql':=Nat.lt_of_lt_of_le q0l hW.size)
  all_goals
   clear HQ hmm hmk hbm HCk HBel q0' ql' q0 q0l
   go_wp2_with fail
   go_meet
   have hz3:=hB3.size
   have hz4:=hW.size
   simp only[World.size_alloc,World.size_drew] at hz3 hz4 hC1 hC2 hC3 hC4
   refine ⟨rfl,rfl,rfl,?_⟩
   apply made_fin
   case hK=>repeat (first|with_reducible refine (heap_dr _ _).trans ?_|exact heap_at (by (first|(with_reducible exact Nat.le_refl _) |(simp only[World.size_alloc]<;>omega) |omega)) |refine (Below.heap_alloc _ _ _ (by (first|(with_reducible exact Nat.le_refl _) |(simp only[World.size_alloc,World.size_drew]<;>omega) |omega))).trans ?_|refine (hB3.block _ (by (first|(with_reducible exact Nat.le_refl _) |(simp only[World.size_alloc,World.size_drew]<;>omega) |omega))).trans ?_)
   case hC=>exact hC
   case h1=>exact hC1
   case h2=>exact hC2
   case h3=>exact hC3
   case h4=>exact hC4
   case hth=>repeat (first|with_reducible refine (heap_dr _ _).trans ?_|exact heap_at (by (first|(with_reducible exact Nat.le_refl _) |(simp only[World.size_alloc]<;>omega) |omega)) |refine (Below.heap_alloc _ _ _ (by (first|(with_reducible exact Nat.le_refl _) |(simp only[World.size_alloc]<;>omega) |omega))).trans ?_|refine (hB3.block _ (by (first|(with_reducible exact Nat.le_refl _) |(simp only[World.size_alloc,World.size_drew]<;>omega) |omega))).trans ?_)
   case hgW=>repeat (first|with_reducible refine (heap_dr _ _).trans ?_|exact heap_at (by (first|(with_reducible exact Nat.le_refl _) |(simp only[World.size_alloc]<;>omega) |omega)) |refine (Below.heap_alloc _ _ _ (by (first|(with_reducible exact Nat.le_refl _) |(simp only[World.size_alloc]<;>omega) |omega))).trans ?_|refine (hB3.block _ (by (first|(with_reducible exact Nat.le_refl _) |(simp only[World.size_alloc,World.size_drew]<;>omega) |omega))).trans ?_)
   case hkeep=>
    intro b hb
    repeat (first|rfl|with_reducible refine (heap_dr _ _).trans ?_|refine (Below.heap_alloc _ _ _ (by (first|(with_reducible exact Nat.le_refl _) |(simp only[World.size_alloc]<;>omega) |omega))).trans ?_)
   case hlo=>(first|(with_reducible exact Nat.le_refl _) |(simp only[World.size_alloc,World.size_drew]<;>omega) |omega)
   case hd=>(first|(with_reducible exact Nat.le_refl _) |(simp only[World.size_alloc,World.size_drew]<;>omega) |omega)
   case hKw=>(first|(with_reducible exact Nat.le_refl _) |(simp only[World.size_alloc,World.size_drew]<;>omega) |omega)
   case ht=>(first|(with_reducible exact Nat.le_refl _) |(simp only[World.size_alloc,World.size_drew]<;>omega) |omega)
   case hg=>(first|(with_reducible exact Nat.le_refl _) |(simp only[World.size_alloc,World.size_drew]<;>omega) |omega)
   case hbel=>repeat (first|exact hW|refine below_al ?_ _|refine Below.drew ?_)
 case rest=>
  obtain ⟨rfl,rfl,rfl,K,th,gW,C,rfl,HMd⟩:=hcut
  clear q0 hmm hmk hbm HCk HBel HQ
  have hbw:=HMd.out.below
  have z2:=(hbw.block _ (blk_in Z2.out)).trans Z2.out
  have z1:=(hbw.block _ (blk_in Z1.out)).trans Z1.out
  have z0:=(hbw.block _ (blk_in Z0.out)).trans Z0.out
  have q1:wc.cell? ⟨w.heap.size,1,none⟩=some (.int .i64 (cells:Int)):=blk_cell z0 1
  have p2:wc.cell? ⟨w.heap.size+1+1,2,none⟩=some (.int .i64 F.wide):=blk_cell z2 2
  have p3:wc.cell? ⟨w.heap.size+1+1,3,none⟩=some (.int .i64 F.narrow):=blk_cell z2 3
  have HBs:Hid (∀q,Calls Tryz.prog 42 #[.pointer (some ⟨K,0,none⟩)] (wc.drewN q) fun e w'=>e= .returned (.int .i64 (17+8* (n:Int)))∧wc.drewN q=w'):=Lib.hid fun q=>base_at (w:=wc.drewN q) (HMd.out.kb.cs 8 rfl) (by omega)
  have HBc:=Lib.hid (HB2.out.trans (hbw.mono HB2.out.size))
  obtain ⟨hroom,hcells,he,hwd,hn,hwk⟩:=HR.out
  have hrm:17+8* (n:Int)+F.wide+F.narrow+1≤(cells:Int):=by unfold Fixed.base at hroom;omega
  have hs1:IntKind.i64.wrap (17+8* (n:Int)+F.wide)=17+8* (n:Int)+F.wide:=by rw[IntKind.wrap_i64];omega
  have hs2:IntKind.i64.wrap (17+8* (n:Int)+F.wide+F.narrow)=17+8* (n:Int)+F.wide+F.narrow:=by rw[IntKind.wrap_i64];omega
  have hs3:IntKind.i64.wrap (17+8* (n:Int)+F.wide+F.narrow+1)=17+8* (n:Int)+F.wide+F.narrow+1:=by rw[IntKind.wrap_i64];omega
  have Z0:=Lib.hid z0
  have Z1:=Lib.hid z1
  have Z2:=Lib.hid z2
  clear z0 z1 z2 hbw hroom hcells he hwd hn hwk q0l
  go_wp2_with fail
  go_quiet ((go_at_call 42;exact quiet_lf (HBs.out _)))
  go_upto_region 14 with fail
  generalize hwd:wc.drewN nq=wd
  have HMd:Hid (MadeS w2 wd n K th gW C):=Lib.hid (by rw[←hwd];exact HMd.out.drewN nq)
  have HBc:Hid (Below w.heap.size w wd):=Lib.hid (by rw[←hwd];exact bel_dn HBc.out nq)
  have Z0:Hid (wd.heap[w.heap.size]?=some (.cells #[.int .i64 (n:Int), .int .i64 (cells:Int)] 23 (0,0))):=Lib.hid (by rw[←hwd];exact Z0.out)
  have Z1:Hid (wd.heap[w.heap.size+1]?=some (.cells #[.slice (some ⟨glv,0,none⟩) F.lib.length clv, .int .i64 F.loop, .slice (some ⟨gcv,0,none⟩) F.calls.length ccv] 77 (0,0))):=Lib.hid (by rw[←hwd];exact Z1.out)
  have Z2:Hid (wd.heap[w.heap.size+1+1]?=some (.cells #[.slice (some ⟨gpv,0,none⟩) F.code.length cpv, .int .i64 entry, .int .i64 F.wide, .int .i64 F.narrow] 26 (0,0))):=Lib.hid (by rw[←hwd];exact Z2.out)
  clear hwd HBs q1 p2 p3 hs1 hs2 hs3 hrm
  go_cut [3,4,5,10] (fun a3 a4 a5 a10 wx=>a3= .pointer (some ⟨w.heap.size,0,none⟩)∧a4= .pointer (some ⟨w.heap.size+1,0,none⟩)∧a5= .pointer (some ⟨w.heap.size+1+1,0,none⟩)∧a10= .pointer (some ⟨K,0,none⟩)∧ ∃lv cv,Hid (LibS F wd wx K lv cv (S0 C th gW n)))
  case first=>
   have hKl:=HMd.out.kb.lt
   have hl1:=blk_in Z1.out
   have hdlt:w.heap.size+1<wd.heap.size:=hl1
   have y0:wd.cell? ⟨w.heap.size+1,0,none⟩=some (.slice (some ⟨glv,0,none⟩) F.lib.length clv):=blk_cell Z1.out 0
   have y1:wd.cell? ⟨w.heap.size+1,1,none⟩=some (.int .i64 F.loop):=blk_cell Z1.out 1
   have y2:wd.cell? ⟨w.heap.size+1,2,none⟩=some (.slice (some ⟨gcv,0,none⟩) F.calls.length ccv):=blk_cell Z1.out 2
   obtain ⟨iI,hiI,hzI,hsI,hbI⟩:=info_parts infoInsN
   obtain ⟨i6,z6,hi6,hzz6,hs6,hbb6,hcc6⟩:=infoRow
   have hF:=HF.out
   have hlib:=hF.lib
   have hfew:=hF.few
   have hloop:=hF.loop
   have E1:Hid (∀X k,Below wd.heap.size wd X→X.heap[k]?=some (.cells #[] 68 (0,0))→wd.heap.size≤k→X.ownsRow wd.heap.size 68 7 (.slice (some ⟨k,0,none⟩) 0 0) 0 []):=Lib.hid fun X k _ h h2=>row_new h h2
   have E2:Hid (∀X k,Below wd.heap.size wd X→X.heap[k]?=some (.cells #[] 184 (0,0))→wd.heap.size≤k→X.ownsRow wd.heap.size 184 6 (.slice (some ⟨k,0,none⟩) 0 0) 0 []):=Lib.hid fun X k _ h h2=>row_new h h2
   have N1:Hid (∀X,Below wd.heap.size wd X→ ∀j u,(codeC F.lib)[j]?=some u→X.cell? ((⟨glv,0,none⟩:Addr).add j)=some u):=Lib.hid fun X hX j u hu=>by
    have hlt:glv<wd.heap.size:=Nat.lt_of_lt_of_le hglv HBc.out.size
    have h1:=HLv.out.cells rfl j u hu
    rw[Addr.add_lit,Nat.zero_add] at h1 ⊢
    exact (hX.cell (p:=⟨glv,j,none⟩) hlt).trans ((HBc.out.cell (p:=⟨glv,j,none⟩) hglv).trans h1)
   have N2:Hid (∀X,Below wd.heap.size wd X→ ∀j u,(callC F.calls)[j]?=some u→X.cell? ((⟨gcv,0,none⟩:Addr).add j)=some u):=Lib.hid fun X hX j u hu=>by
    have hg0:=HCr.out.2.2
    have hlt:gcv<wd.heap.size:=Nat.lt_of_lt_of_le hg0 HBc.out.size
    have h1:=HCr.out.1 j u hu
    rw[Addr.add_lit,Nat.zero_add] at h1 ⊢
    exact (hX.cell (p:=⟨gcv,j,none⟩) hlt).trans ((HBc.out.cell (p:=⟨gcv,j,none⟩) hg0).trans h1)
   have M1:Hid ((codeC F.lib).length=F.lib.length*7∧(∀u∈codeC F.lib,u.oneCell'=true)∧0+F.lib.length≤maxLen∧(0+F.lib.length)*56≤140737488355328):=Lib.hid ⟨codeC_len' _,codeC_one' _,by unfold maxLen;omega,by omega⟩
   have M2:Hid ((callC F.calls).length=F.calls.length*6∧(∀u∈callC F.calls,u.oneCell'=true)∧0+F.calls.length≤maxLen∧(0+F.calls.length)*48≤140737488355328):=Lib.hid ⟨callC_len' _,callC_one' _,by unfold maxLen;omega,by omega⟩
   have HY:Hid (∀X,Below wd.heap.size wd X→X.cell? ⟨w.heap.size+1,0,none⟩=some (.slice (some ⟨glv,0,none⟩) F.lib.length clv)∧X.cell? ⟨w.heap.size+1,1,none⟩=some (.int .i64 F.loop)∧X.cell? ⟨w.heap.size+1,2,none⟩=some (.slice (some ⟨gcv,0,none⟩) F.calls.length ccv)∧w.heap.size+1<X.heap.size∧K<X.heap.size∧X.cell? ⟨K,0,none⟩=some (.slice none 0 0)∧X.cell? ⟨K,1,none⟩=some (.int .i64 0)∧X.cell? ⟨K,2,none⟩=some (.slice none 0 0)∧X.frozen? ⟨K,0,none⟩=false∧X.frozen? ⟨K,1,none⟩=false∧X.frozen? ⟨K,2,none⟩=false):=Lib.hid fun X hX=>by
    have kb:=HMd.out.kb.below (w':=X) hX
    have hs:=hX.size
    exact ⟨(hX.cell (p:=⟨w.heap.size+1,0,none⟩) hl1).trans (blk_cell Z1.out 0),(hX.cell (p:=⟨w.heap.size+1,1,none⟩) hl1).trans (blk_cell Z1.out 1),(hX.cell (p:=⟨w.heap.size+1,2,none⟩) hl1).trans (blk_cell Z1.out 2),by omega,kb.lt,kb.cp (by decide) rfl,kb.cp (by decide) rfl,kb.cp (by decide) rfl,kb.frz 0,kb.frz 1,kb.frz 2⟩
   have HFin:Hid (∀X lv cv,Below wd.heap.size wd X→X.ownsRow wd.heap.size 68 7 lv F.lib.length (codeC F.lib)→X.ownsRow wd.heap.size 184 6 cv F.calls.length (callC F.calls)→LibS F wd (((X.setCell ⟨K,0,none⟩ lv).setCell ⟨K,1,none⟩ (.int .i64 F.loop)).setCell ⟨K,2,none⟩ cv) K lv cv (S0 C th gW n)):=Lib.hid fun X lv cv hX h1 h2=>by
    exact libS_of HMd.out.kb hX h1 h2
   have hbG:Hid (∀(X w5:World) (row:Option Nat),Below wd.heap.size wd X→X.grownBy w5 row→(∀k,row=some k→wd.heap.size≤k)→Below wd.heap.size wd w5):=Lib.hid fun X w5 row a b c=>a.grown b a.size c
   have hlibI:(0:Int)≤(F.lib.length:Int)∧(F.lib.length:Int)≤2048:=by omega
   have hF.calls.lengthI:(0:Int)≤(F.calls.length:Int)∧(F.calls.length:Int)≤999:=by omega
   have HAll:Hid (∀X,Keeps (fun b=>b=K) wd X→Keeps (fun b=>b=K) wd X∧X.cell? ⟨w.heap.size+1,0,none⟩=some (.slice (some ⟨glv,0,none⟩) F.lib.length clv)∧X.cell? ⟨w.heap.size+1,1,none⟩=some (.int .i64 F.loop)∧X.cell? ⟨w.heap.size+1,2,none⟩=some (.slice (some ⟨gcv,0,none⟩) F.calls.length ccv)):=Lib.hid fun X hX=>by
    have hne:w.heap.size+1≠K:=by have:=HMd.out.d.1;have:=HlA.out;omega
    exact ⟨hX,(hX.cell (p:=⟨w.heap.size+1,0,none⟩) hl1 hne).trans (blk_cell Z1.out 0),(hX.cell (p:=⟨w.heap.size+1,1,none⟩) hl1 hne).trans (blk_cell Z1.out 1),(hX.cell (p:=⟨w.heap.size+1,2,none⟩) hl1 hne).trans (blk_cell Z1.out 2)⟩
   clear hlib hfew hF hloop hl1 HMd HBc Z0 Z1 Z2 HLv HCr HPv HR HF HB2
   go_wp2_with fail
   go_region_held_law (fun W=>Keeps (fun b=>b=K) wd W∧W.cell? ⟨w.heap.size+1,0,none⟩=some (.slice (some ⟨glv,0,none⟩) F.lib.length clv)∧W.cell? ⟨w.heap.size+1,1,none⟩=some (.int .i64 F.loop)∧W.cell? ⟨w.heap.size+1,2,none⟩=some (.slice (some ⟨gcv,0,none⟩) F.calls.length ccv)) (exact HAll.out _ (by repeat first|exact Keeps.refl _ _|exact hk4|exact hk5|refine Keeps.alloc ?_ _|refine Keeps.drew ?_|refine Keeps.setCell ?_ (by exact rfl) _)) (first
    |(refine step_append_own2 _ rfl (.tmp 69) (.tmp 71) 24 rfl wd.heap.size 68 iI _ 7 56 Tryz.underlying24 hiI hzI hsI hbI rfl (by decide) (.slice (some ⟨_,0,none⟩) 0 0) 0 [] rfl (E1.out _ _ (by repeat first|exact Below.refl _ _|exact hb4|exact hb5|refine below_al ?_ _|refine Below.drew ?_) (by repeat (first|with_reducible refine (heap_dr _ _).trans ?_|exact heap_at (by (first|(with_reducible exact Nat.le_refl _) |(simp only[World.size_alloc]<;>omega) |omega)) |refine (Below.heap_alloc _ _ _ (by (first|(with_reducible exact Nat.le_refl _) |(simp only[World.size_alloc]<;>omega) |omega))).trans ?_|refine (hg4.block _ (by (first|(with_reducible exact Nat.le_refl _) |(simp only[World.size_alloc,World.size_drew]<;>omega) |omega)) (fun e=>by injection e with e;revert e;(first|(with_reducible exact Nat.le_refl _) |(simp only[]<;>omega) |omega))).trans ?_|refine (hg5.block _ (by (first|(with_reducible exact Nat.le_refl _) |(simp only[World.size_alloc,World.size_drew]<;>omega) |omega)) (fun e=>by injection e with e;revert e;(first|(with_reducible exact Nat.le_refl _) |(simp only[World.size_alloc,World.size_drew]<;>omega) |omega))).trans ?_)) (by (first|(with_reducible exact Nat.le_refl _) |(simp only[World.size_alloc,World.size_drew]<;>omega) |omega))) ⟨glv,0,none⟩ F.lib.length clv (codeC F.lib) rfl M1.out.1 (N1.out _ (by repeat first|exact Below.refl _ _|exact hb4|exact hb5|refine below_al ?_ _|refine Below.drew ?_)) M1.out.2.1 M1.out.2.2.1 M1.out.2.2.2 (by (first|(with_reducible exact Nat.le_refl _) |(simp only[World.size_alloc,World.size_drew]<;>omega) |omega)) ?_;intro v4 w4 hem4 hown4 hg4;rw[Nat.zero_add,List.nil_append] at hown4;obtain ⟨A4,c4,rfl⟩:=own_shape hown4;have hb4:=hbG.out _ w4 _ (by repeat first|exact Below.refl _ _|exact hb4|exact hb5|refine below_al ?_ _|refine Below.drew ?_) hg4 (by intro k e;injection e with e;subst e;(first|(with_reducible exact Nat.le_refl _) |(simp only[]<;>omega) |omega));have hk4:=Keeps.ofBelow (X:=fun b=>b=K) hb4;have hs4:=hb4.size;have hgs4:=hg4.size;(try simp only[World.size_alloc,World.size_drew] at hgs4);obtain ⟨y0',y1',y2',y3',y4',k0',k1',k2',f0',f1',f2'⟩:=HY.out w4 hb4;try (have HF4:=Lib.hid (HFin.out w4 _ _ hb4 hown4 (rows_both hown5 (by repeat first|exact Below.refl _ _|refine below_al ?_ _|refine Below.drew ?_) hem4 hg4 (by decide)))))
    |(refine step_append_own2 _ rfl (.tmp 75) (.tmp 77) 75 rfl wd.heap.size 184 i6 _ 6 48 Tryz.underlying75 hi6 hzz6 hs6 hbb6 hcc6 (by decide) (.slice (some ⟨_,0,none⟩) 0 0) 0 [] rfl (E2.out _ _ (by repeat first|exact Below.refl _ _|exact hb4|exact hb5|refine below_al ?_ _|refine Below.drew ?_) (by repeat (first|with_reducible refine (heap_dr _ _).trans ?_|exact heap_at (by (first|(with_reducible exact Nat.le_refl _) |(simp only[World.size_alloc]<;>omega) |omega)) |refine (Below.heap_alloc _ _ _ (by (first|(with_reducible exact Nat.le_refl _) |(simp only[World.size_alloc]<;>omega) |omega))).trans ?_|refine (hg4.block _ (by (first|(with_reducible exact Nat.le_refl _) |(simp only[World.size_alloc,World.size_drew]<;>omega) |omega)) (fun e=>by injection e with e;revert e;(first|(with_reducible exact Nat.le_refl _) |(simp only[]<;>omega) |omega))).trans ?_|refine (hg5.block _ (by (first|(with_reducible exact Nat.le_refl _) |(simp only[World.size_alloc,World.size_drew]<;>omega) |omega)) (fun e=>by injection e with e;revert e;(first|(with_reducible exact Nat.le_refl _) |(simp only[World.size_alloc,World.size_drew]<;>omega) |omega))).trans ?_)) (by (first|(with_reducible exact Nat.le_refl _) |(simp only[World.size_alloc,World.size_drew]<;>omega) |omega))) ⟨gcv,0,none⟩ F.calls.length ccv (callC F.calls) rfl M2.out.1 (N2.out _ (by repeat first|exact Below.refl _ _|exact hb4|exact hb5|refine below_al ?_ _|refine Below.drew ?_)) M2.out.2.1 M2.out.2.2.1 M2.out.2.2.2 (by (first|(with_reducible exact Nat.le_refl _) |(simp only[World.size_alloc]<;>omega) |omega)) ?_;intro v5 w5 hem5 hown5 hg5;rw[Nat.zero_add,List.nil_append] at hown5;obtain ⟨A5,c5,rfl⟩:=own_shape hown5;have hb5:=hbG.out _ w5 _ (by repeat first|exact Below.refl _ _|exact hb4|exact hb5|refine below_al ?_ _|refine Below.drew ?_) hg5 (by intro k e;injection e with e;subst e;(first|(with_reducible exact Nat.le_refl _) |(simp only[]<;>omega) |omega));have hk5:=Keeps.ofBelow (X:=fun b=>b=K) hb5;have hs5:=hb5.size;have hgs5:=hg5.size;(try simp only[World.size_alloc] at hgs5);obtain ⟨y0',y1',y2',y3',y4',k0',k1',k2',f0',f1',f2'⟩:=HY.out w5 hb5;try (have HF5:=Lib.hid (HFin.out w5 _ _ hb5 (rows_both hown4 (by repeat first|exact Below.refl _ _|refine below_al ?_ _|refine Below.drew ?_) hem5 hg5 (by decide)) hown5))))
   all_goals
    go_wp2_with fail
    go_meet
    exact ⟨rfl,rfl,rfl,rfl,_,_,by first|exact HF4|exact HF5⟩
  case rest=>
   obtain ⟨rfl,rfl,rfl,rfl,lv,cv,HLi⟩:=hcut
   generalize wc=w14 at*
   have k14:=HLi.out.keeps
   have hKd:=HMd.out.kb.lt
   have hl2:=blk_in Z2.out
   have hlK: ∀b,b<w2.heap.size→b≠K:=fun b hb=>by have:=HMd.out.d.1;omega
   have hs2:=HMd.out.below.size
   have hw2:w.heap.size+1+1<w2.heap.size:=HlA.out
   have hZ: ∀b,b<w2.heap.size→w14.heap[b]?=wd.heap[b]?:=fun b hb=>k14.block b (by omega) (hlK b hb)
   have Z0:=Lib.hid ((hZ _ (by omega)).trans Z0.out)
   have Z1:=Lib.hid ((hZ _ (by omega)).trans Z1.out)
   have Z2:=Lib.hid ((hZ _ (by omega)).trans Z2.out)
   have HlK:=Lib.hid hlK
   have HBe:Hid (Below w.heap.size w w14):=Lib.hid (Keeps.below HBc.out k14 HBc.out.size fun i e=>by subst e;have:=HMd.out.d.1;have:=HB2.out.size;omega)
   clear k14 hKd hl2 hlK hs2 hw2 hZ
   go_upto_region 15 with fail
   go_cut [3,4,5,10] (fun a3 a4 a5 a10 wx=>a3= .pointer (some ⟨w.heap.size,0,none⟩)∧a4= .pointer (some ⟨w.heap.size+1,0,none⟩)∧a5= .pointer (some ⟨w.heap.size+1+1,0,none⟩)∧a10= .pointer (some ⟨K,0,none⟩)∧ ∃pv,Hid (CodeS F w14 wx K lv cv pv entry (S0 C th gW n)))
   case first=>
    have hKl:=HLi.out.kb.lt
    have hl1:=blk_in Z2.out
    have hdlt:w.heap.size+1+1<w14.heap.size:=hl1
    have y0:w14.cell? ⟨w.heap.size+1+1,0,none⟩=some (.slice (some ⟨gpv,0,none⟩) F.code.length cpv):=blk_cell Z2.out 0
    have y1:w14.cell? ⟨w.heap.size+1+1,1,none⟩=some (.int .i64 entry):=blk_cell Z2.out 1
    have y2:w14.cell? ⟨w.heap.size+1+1,2,none⟩=some (.int .i64 F.wide):=blk_cell Z2.out 2
    have y3:w14.cell? ⟨w.heap.size+1+1,3,none⟩=some (.int .i64 F.narrow):=blk_cell Z2.out 3
    obtain ⟨iI,hiI,hzI,hsI,hbI⟩:=info_parts infoInsN
    have hF:=HF.out
    have hlib:=hF.code
    have E1:Hid (∀X k,Below w14.heap.size w14 X→X.heap[k]?=some (.cells #[] 68 (0,0))→w14.heap.size≤k→X.ownsRow w14.heap.size 68 7 (.slice (some ⟨k,0,none⟩) 0 0) 0 []):=Lib.hid fun X k _ h h2=>row_new h h2
    have N1:Hid (∀X,Below w14.heap.size w14 X→ ∀j u,(codeC F.code)[j]?=some u→X.cell? ((⟨gpv,0,none⟩:Addr).add j)=some u):=Lib.hid fun X hX j u hu=>by
     have hlt:gpv<w14.heap.size:=Nat.lt_of_lt_of_le hgpv HBe.out.size
     have h1:=HPv.out.cells rfl j u hu
     rw[Addr.add_lit,Nat.zero_add] at h1 ⊢
     exact (hX.cell (p:=⟨gpv,j,none⟩) hlt).trans ((HBe.out.cell (p:=⟨gpv,j,none⟩) hgpv).trans h1)
    have M1:Hid ((codeC F.code).length=F.code.length*7∧(∀u∈codeC F.code,u.oneCell'=true)∧0+F.code.length≤maxLen∧(0+F.code.length)*56≤140737488355328):=Lib.hid ⟨codeC_len' _,codeC_one' _,by unfold maxLen;omega,by omega⟩
    have HY:Hid (∀X,Below w14.heap.size w14 X→(X.cell? ⟨w.heap.size+1+1,0,none⟩=some (.slice (some ⟨gpv,0,none⟩) F.code.length cpv)∧X.cell? ⟨w.heap.size+1+1,1,none⟩=some (.int .i64 entry)∧X.cell? ⟨w.heap.size+1+1,2,none⟩=some (.int .i64 F.wide)∧X.cell? ⟨w.heap.size+1+1,3,none⟩=some (.int .i64 F.narrow)∧w.heap.size+1+1<X.heap.size∧K<X.heap.size)∧X.cell? ⟨K,3,none⟩=some (.slice none 0 0)∧X.cell? ⟨K,4,none⟩=some (.int .i64 0)∧X.cell? ⟨K,5,none⟩=some (.int .i64 0)∧X.cell? ⟨K,6,none⟩=some (.int .i64 0)∧X.frozen? ⟨K,3,none⟩=false∧X.frozen? ⟨K,4,none⟩=false∧X.frozen? ⟨K,5,none⟩=false∧X.frozen? ⟨K,6,none⟩=false):=Lib.hid fun X hX=>by
     have kb:=HLi.out.kb.below (w':=X) hX
     have hs:=hX.size
     exact ⟨⟨(hX.cell (p:=⟨w.heap.size+1+1,0,none⟩) hl1).trans (blk_cell Z2.out 0),(hX.cell (p:=⟨w.heap.size+1+1,1,none⟩) hl1).trans (blk_cell Z2.out 1),(hX.cell (p:=⟨w.heap.size+1+1,2,none⟩) hl1).trans (blk_cell Z2.out 2),(hX.cell (p:=⟨w.heap.size+1+1,3,none⟩) hl1).trans (blk_cell Z2.out 3),by omega,kb.lt⟩,kb.cp (by decide) rfl,kb.cp (by decide) rfl,kb.cp (by decide) rfl,kb.cp (by decide) rfl,kb.frz 3,kb.frz 4,kb.frz 5,kb.frz 6⟩
    have HFin:Hid (∀X pv,Below w14.heap.size w14 X→X.ownsRow w14.heap.size 68 7 pv F.code.length (codeC F.code)→CodeS F w14 ((((X.setCell ⟨K,3,none⟩ pv).setCell ⟨K,4,none⟩ (.int .i64 entry)).setCell ⟨K,5,none⟩ (.int .i64 F.wide)).setCell ⟨K,6,none⟩ (.int .i64 F.narrow)) K lv cv pv entry (S0 C th gW n)):=Lib.hid fun X pv hX h1=>by
     exact codeS_of HLi.out.kb hX h1
    have hbG:Hid (∀(X w5:World) (row:Option Nat),Below w14.heap.size w14 X→X.grownBy w5 row→(∀k,row=some k→w14.heap.size≤k)→Below w14.heap.size w14 w5):=Lib.hid fun X w5 row a b c=>a.grown b a.size c
    have hlibI:(0:Int)≤(F.code.length:Int)∧(F.code.length:Int)≤2048:=by omega
    have HAll:Hid (∀X,Keeps (fun b=>b=K) w14 X→Keeps (fun b=>b=K) w14 X∧X.cell? ⟨w.heap.size+1+1,0,none⟩=some (.slice (some ⟨gpv,0,none⟩) F.code.length cpv)∧X.cell? ⟨w.heap.size+1+1,1,none⟩=some (.int .i64 entry)∧X.cell? ⟨w.heap.size+1+1,2,none⟩=some (.int .i64 F.wide)∧X.cell? ⟨w.heap.size+1+1,3,none⟩=some (.int .i64 F.narrow)):=Lib.hid fun X hX=>by
     have hne:w.heap.size+1+1≠K:=HlK.out _ HlA.out
     exact ⟨hX,(hX.cell (p:=⟨w.heap.size+1+1,0,none⟩) hl1 hne).trans (blk_cell Z2.out 0),(hX.cell (p:=⟨w.heap.size+1+1,1,none⟩) hl1 hne).trans (blk_cell Z2.out 1),(hX.cell (p:=⟨w.heap.size+1+1,2,none⟩) hl1 hne).trans (blk_cell Z2.out 2),(hX.cell (p:=⟨w.heap.size+1+1,3,none⟩) hl1 hne).trans (blk_cell Z2.out 3)⟩
    clear hlib hF hl1 HMd HBc HBe HLi Z0 Z1 Z2 HLv HCr HPv HR HF HB2 HlK
    go_wp2_with fail
    go_region_held_law (fun W=>Keeps (fun b=>b=K) w14 W∧W.cell? ⟨w.heap.size+1+1,0,none⟩=some (.slice (some ⟨gpv,0,none⟩) F.code.length cpv)∧W.cell? ⟨w.heap.size+1+1,1,none⟩=some (.int .i64 entry)∧W.cell? ⟨w.heap.size+1+1,2,none⟩=some (.int .i64 F.wide)∧W.cell? ⟨w.heap.size+1+1,3,none⟩=some (.int .i64 F.narrow)) (exact HAll.out _ (by repeat first|exact Keeps.refl _ _|exact hk4|exact hk5|refine Keeps.alloc ?_ _|refine Keeps.drew ?_|refine Keeps.setCell ?_ (by exact rfl) _)) (first
     |(refine step_append_own2 _ rfl (.tmp 83) (.tmp 85) 24 rfl w14.heap.size 68 iI _ 7 56 Tryz.underlying24 hiI hzI hsI hbI rfl (by decide) (.slice (some ⟨_,0,none⟩) 0 0) 0 [] rfl (E1.out _ _ (by repeat first|exact Below.refl _ _|exact hb4|exact hb5|refine below_al ?_ _|refine Below.drew ?_) (by repeat (first|with_reducible refine (heap_dr _ _).trans ?_|exact heap_at (by (first|(with_reducible exact Nat.le_refl _) |(simp only[]<;>omega) |omega)) |refine (Below.heap_alloc _ _ _ (by (first|(with_reducible exact Nat.le_refl _) |(simp only[World.size_alloc,World.size_drew]<;>omega) |omega))).trans ?_|refine (hg4.block _ (by (first|(with_reducible exact Nat.le_refl _) |(simp only[World.size_alloc,World.size_drew]<;>omega) |omega)) (fun e=>by injection e with e;revert e;(first|(with_reducible exact Nat.le_refl _) |(simp only[World.size_alloc,World.size_drew]<;>omega) |omega))).trans ?_|refine (hg5.block _ (by (first|(with_reducible exact Nat.le_refl _) |(simp only[World.size_alloc,World.size_drew]<;>omega) |omega)) (fun e=>by injection e with e;revert e;(first|(with_reducible exact Nat.le_refl _) |(simp only[World.size_alloc,World.size_drew]<;>omega) |omega))).trans ?_)) (by (first|(with_reducible exact Nat.le_refl _) |(simp only[World.size_alloc,World.size_drew]<;>omega) |omega))) ⟨gpv,0,none⟩ F.code.length cpv (codeC F.code) rfl M1.out.1 (N1.out _ (by repeat first|exact Below.refl _ _|exact hb4|exact hb5|refine below_al ?_ _|refine Below.drew ?_)) M1.out.2.1 M1.out.2.2.1 M1.out.2.2.2 (by (first|(with_reducible exact Nat.le_refl _) |(simp only[World.size_alloc,World.size_drew]<;>omega) |omega)) ?_;intro v4 w4 hem4 hown4 hg4;rw[Nat.zero_add,List.nil_append] at hown4;obtain ⟨A4,c4,rfl⟩:=own_shape hown4;have hb4:=hbG.out _ w4 _ (by repeat first|exact Below.refl _ _|exact hb4|exact hb5|refine below_al ?_ _|refine Below.drew ?_) hg4 (by intro k e;injection e with e;subst e;(first|(with_reducible exact Nat.le_refl _) |(simp only[World.size_alloc,World.size_drew]<;>omega) |omega));have hk4:=Keeps.ofBelow (X:=fun b=>b=K) hb4;have hs4:=hb4.size;have hgs4:=hg4.size;(try simp only[World.size_alloc,World.size_drew] at hgs4);obtain ⟨⟨y0',y1',y2',y3',y4',y5'⟩,k0',k1',k2',k3',f0',f1',f2',f3'⟩:=HY.out w4 hb4;have HF4:=Lib.hid (HFin.out w4 _ hb4 hown4)))
    all_goals
     go_wp2_with fail
     go_meet
     exact ⟨rfl,rfl,rfl,rfl,_,HF4⟩
   case rest=>
    obtain ⟨rfl,rfl,rfl,rfl,pv,HCd⟩:=hcut
    generalize wc=w15 at*
    have k15:=HCd.out.keeps
    have hZ: ∀b,b<w2.heap.size→w15.heap[b]?=w14.heap[b]?:=fun b hb=>k15.block b (by have:=HMd.out.below.size;have:=HLi.out.keeps.size;omega) (HlK.out b hb)
    have hlA:=HlA.out
    have Z0:=Lib.hid ((hZ _ (by omega)).trans Z0.out)
    have Z1:=Lib.hid ((hZ _ (by omega)).trans Z1.out)
    have Z2:=Lib.hid ((hZ _ (by omega)).trans Z2.out)
    have HKl:Hid (w2.heap.size≤K∧w.heap.size+1+1<w2.heap.size):=Lib.hid ⟨HMd.out.d.1,HlA.out⟩
    have HBf:Hid (Below w.heap.size w w15):=Lib.hid (Keeps.below HBe.out k15 HBe.out.size fun i e=>by subst e;have:=HKl.out;omega)
    have y2:w15.cell? ⟨w.heap.size+1,2,none⟩=some (.slice (some ⟨gcv,0,none⟩) F.calls.length ccv):=blk_cell Z1.out 2
    have hfew:=HF.out.few
    obtain ⟨LC,hLC⟩: ∃L,L=F.calls.length:=⟨_,rfl⟩
    rw[←hLC] at y2 hfew
    have HLC:=Lib.hid hLC
    have hLCI:(0:Int)≤(LC:Int)∧(LC:Int)≤999:=by omega
    clear hZ hLC k15 hlA
    go_wp2_with fail
    go_loopg [99] LC (fun g iv wr=> ∃(i:Nat),i≤LC∧g=LC - i∧iv= .int .i64 (i:Int)∧Hid (KB wr K (P7 F lv cv pv entry) (rowsV F i) (S0 C th gW n))∧Hid (Keeps (fun b=>b=K) w15 wr))
    case atStart=>exact ⟨0,by omega,rfl,rfl,Lib.hid (by rw[rowsV_zero];exact HCd.out.kb),Lib.hid (Keeps.refl _ _)⟩
    case round=>
     obtain ⟨i,hi,hg,rfl,HK,HKp⟩:=hrel
     have Hg:=Lib.hid hg
     have hiI:(0:Int)≤(i:Int)∧(i:Int)≤999:=by omega
     by_cases hlt:i<LC
     ·have hltI:(i:Int)<(LC:Int):=by omega
      have hil:i<F.calls.length:=by rw[←HLC.out];exact hlt
      have hlb:gcv<w15.heap.size:=Nat.lt_of_lt_of_le HCr.out.2.2 HBf.out.size
      have hgK:gcv≠K:=by have:=HCr.out.2.2;have:=HKl.out;omega
      have X0: ∀j,j<6→wr.cell? ⟨gcv,i*6+j,none⟩=(row6 F.calls[i])[j]?:=fun j hj=>by
       have e:=flL_at (k:=6) (f:=row6) (fun _=>rfl) F.calls i hil j hj
       obtain ⟨u,hu⟩: ∃u,(row6 F.calls[i])[j]?=some u:=⟨(row6 F.calls[i])[j]'(by simpa[row6] using hj),List.getElem?_eq_getElem _⟩
       have h1:=HCr.out.1 (i*6+j) u (e.trans hu)
       rw[Addr.add_lit,Nat.zero_add] at h1
       rw[hu]
       exact (HKp.out.cell (p:=⟨gcv,i*6+j,none⟩) hlb hgK).trans ((HBf.out.cell (p:=⟨gcv,i*6+j,none⟩) HCr.out.2.2).trans h1)
      have hok:=HF.out.calls _ (List.getElem_mem hil)
      obtain ⟨m,hm⟩:=Int.eq_ofNat_of_zero_le (show 0≤F.calls[i].num by omega)
      have hone:=rowsV_succ hil HF.out.nod hm
      generalize F.calls[i]=r at X0 hok hm
      obtain ⟨rn,rp,r0,r1,r2,r3⟩:=r
      simp only at hm hok
      subst hm
      have hmI:(1:Int)≤(m:Int)∧(m:Int)≤999:=⟨hok.1,hok.2.1⟩
      have x0:wr.cell? ⟨gcv,i*6,none⟩=some (.int .i64 (m:Int)):=X0 0 (by decide)
      have x1:wr.cell? ⟨gcv,i*6+1,none⟩=some (.int .i64 rp):=X0 1 (by decide)
      have x2:wr.cell? ⟨gcv,i*6+2,none⟩=some (.int .i64 r0):=X0 2 (by decide)
      have x3:wr.cell? ⟨gcv,i*6+3,none⟩=some (.int .i64 r1):=X0 3 (by decide)
      have x4:wr.cell? ⟨gcv,i*6+4,none⟩=some (.int .i64 r2):=X0 4 (by decide)
      have x5:wr.cell? ⟨gcv,i*6+5,none⟩=some (.int .i64 r3):=X0 5 (by decide)
      have hKr:=HK.out.lt
      have hgr:gcv<wr.heap.size:=Nat.lt_of_lt_of_le hlb HKp.out.size
      have hm1000:m<1000:=by omega
      have hrl:(rowsV F i).length=1000:=HK.out.r
      obtain ⟨ov,hov⟩: ∃u,(rowsV F i)[m]?=some u:=⟨(rowsV F i)[m]'(by omega),List.getElem?_eq_getElem _⟩
      have k0:wr.cell? ⟨K,7+m,none⟩=some ov:=HK.out.cr hm1000 hov
      have f0:wr.frozen? ⟨K,7+m,none⟩=false:=HK.out.frz (7+m)
      have HFin:Hid (∀X,Below wr.heap.size wr X→KB (X.setCell ⟨K,7+m,none⟩ (.int .i64 ((i:Int)+1))) K (P7 F lv cv pv entry) (rowsV F (i+1)) (S0 C th gW n)∧Keeps (fun b=>b=K) w15 (X.setCell ⟨K,7+m,none⟩ (.int .i64 ((i:Int)+1)))):=Lib.hid fun X hX=>by
       rw[hone]
       exact ⟨(HK.out.below hX).setR hm1000 _,(HKp.out.trans (Keeps.ofBelow (X:=fun _=>False) hX) fun _ e=>e.elim).setCell (p:=⟨K,7+m,none⟩) rfl _⟩
      have hwi:IntKind.i64.wrap ((i:Int)+1)=(i:Int)+1:=by rw[IntKind.wrap_i64];omega
      have Hlt:=Lib.hid hlt
      clear X0 hok hone hov hrl hil hlb hgK hg hlt HK HKp Z0 Z1 Z2 HCd HLi HMd HBc HBe HBf HLv HPv HF HR HB2 HlK HCr
      go_wp2_with fail
      go_region_with (fail)
      all_goals
       go_wp2_with fail
       go_roundg (LC - (i+1))
       case measure=>have:=Hg.out;have:=Hlt.out;omega
       case rel=>
        have:=Hlt.out
        obtain ⟨a,b⟩:=HFin.out wr (Below.refl _ _)
        exact ⟨i+1,by omega,rfl,by go_num,Lib.hid (a.below (by repeat first|exact Below.refl _ _|refine below_al ?_ _|refine Below.drew ?_)),Lib.hid (b.trans (Keeps.ofBelow (X:=fun _=>False) (by repeat first|exact Below.refl _ _|refine below_al ?_ _|refine Below.drew ?_)) fun _ e=>e.elim)⟩
     ·obtain rfl:i=LC:=by omega
      have hiL:i=F.calls.length:=HLC.out
      have HK:Hid (KB wr K (P7 F lv cv pv entry) (rowsV F F.calls.length) (S0 C th gW n)):=Lib.hid (by rw[←hiL];exact HK.out)
      clear hiL hg y2
      generalize wr=w16 at*
      go_wp2_with fail
      refine (ringnew_any _).mono ?_
      rintro e v17 ⟨R,gr,rfl,hR,b1,b2,hb17⟩
      have kb17:=HK.out.below hb17
      have c17:v17.cell? ⟨K,1010,none⟩=some (.pointer none):=kb17.cs 3 rfl
      have f17:v17.frozen? ⟨K,1010,none⟩=false:=kb17.frz 1010
      have l17:=kb17.lt
      go_upto_region 22 with fail
      generalize hw17:World.setCell _ _ _=w17
      have HK17:Hid (KB w17 K (P7 F lv cv pv entry) (rowsV F F.calls.length) ((S0 C th gW n).set 3 (.pointer (some ⟨R,0,none⟩)))):=Lib.hid (by rw[←hw17];exact kb17.setS 3 _)
      have hKp17:K<w16.heap.size:=HK.out.lt
      have HP17:Hid (RingP w17 R gr []):=Lib.hid (by rw[←hw17];exact hR.of_blocks fun b hb=>set_other (by rcases hb with rfl|rfl<;>show _≠K<;>omega))
      have KP17:Hid (Keeps (fun b=>b=K) w16 w17):=Lib.hid (by rw[←hw17];exact (Keeps.ofBelow (X:=fun b=>b=K) hb17).setCell (p:=⟨K,1010,none⟩) rfl _)
      have BP17:=Lib.hid (And.intro b1 b2)
      clear kb17 c17 f17 l17 hw17 hb17 hKp17
      go_wp2_with fail
      refine (wqnew_any _ (fun _=>0)).mono ?_
      rintro e v18 ⟨Q,gl,mb,rfl,hQ,b1,b2,b3,hb18⟩
      have kb18:=HK17.out.below hb18
      have c18:v18.cell? ⟨K,1011,none⟩=some (.pointer none):=kb18.cs 4 rfl
      have f18:v18.frozen? ⟨K,1011,none⟩=false:=kb18.frz 1011
      have l18:=kb18.lt
      go_upto_region 23 with fail
      generalize hw18:World.setCell _ _ _=w18
      have HK18:Hid (KB w18 K (P7 F lv cv pv entry) (rowsV F F.calls.length) (((S0 C th gW n).set 3 (.pointer (some ⟨R,0,none⟩))).set 4 (.pointer (some ⟨Q,0,none⟩)))):=Lib.hid (by rw[←hw18];exact kb18.setS 4 _)
      have hKp18:K<w17.heap.size:=HK17.out.lt
      have HP18:Hid (WqP w18 Q gl mb (fun _=>0) [] 0):=Lib.hid (by rw[←hw18];exact hQ.of_blocks fun b hb=>set_other (by
        show b≠K
        rcases hb with (rfl|rfl|⟨s,hs,-⟩) |rfl
        ·omega
        ·omega
        ·cases hs
        ·omega))
      have KP18:Hid (Keeps (fun b=>b=K) w17 w18):=Lib.hid (by rw[←hw18];exact (Keeps.ofBelow (X:=fun b=>b=K) hb18).setCell (p:=⟨K,1011,none⟩) rfl _)
      have BP18:=Lib.hid (And.intro b1 (And.intro b2 b3))
      clear kb18 c18 f18 l18 hw18 hb18 hKp18
      go_wp2_with fail
      refine (tabnew_any _).mono ?_
      rintro e v19 ⟨T,gt,rfl,hT,b1,b2,hb19⟩
      have kb19:=HK18.out.below hb19
      have c19:v19.cell? ⟨K,1012,none⟩=some (.pointer none):=kb19.cs 5 rfl
      have f19:v19.frozen? ⟨K,1012,none⟩=false:=kb19.frz 1012
      have l19:=kb19.lt
      go_upto_region 24 with fail
      generalize hw19:World.setCell _ _ _=w19
      have HK19:Hid (KB w19 K (P7 F lv cv pv entry) (rowsV F F.calls.length) ((((S0 C th gW n).set 3 (.pointer (some ⟨R,0,none⟩))).set 4 (.pointer (some ⟨Q,0,none⟩))).set 5 (.pointer (some ⟨T,0,none⟩)))):=Lib.hid (by rw[←hw19];exact kb19.setS 5 _)
      have hKp19:K<w18.heap.size:=HK18.out.lt
      have HP19:Hid (TabP w19 T gt (List.replicate 64 {}) 0):=Lib.hid (by rw[←hw19];exact hT.of_blocks fun b hb=>set_other (by rcases hb with rfl|rfl<;>show _≠K<;>omega))
      have KP19:Hid (Keeps (fun b=>b=K) w18 w19):=Lib.hid (by rw[←hw19];exact (Keeps.ofBelow (X:=fun b=>b=K) hb19).setCell (p:=⟨K,1012,none⟩) rfl _)
      have BP19:=Lib.hid (And.intro b1 b2)
      clear kb19 c19 f19 l19 hw19 hb19 hKp19
      go_wp2_with fail
      refine (objnew_any _).mono ?_
      rintro e v20 ⟨O,go,rfl,hO,b1,b2,hb20⟩
      have kb20:=HK19.out.below hb20
      have c20:v20.cell? ⟨K,1013,none⟩=some (.pointer none):=kb20.cs 6 rfl
      have f20:v20.frozen? ⟨K,1013,none⟩=false:=kb20.frz 1013
      have l20:=kb20.lt
      go_upto_region 25 with fail
      generalize hw20:World.setCell _ _ _=w20
      have HK20:Hid (KB w20 K (P7 F lv cv pv entry) (rowsV F F.calls.length) (((((S0 C th gW n).set 3 (.pointer (some ⟨R,0,none⟩))).set 4 (.pointer (some ⟨Q,0,none⟩))).set 5 (.pointer (some ⟨T,0,none⟩))).set 6 (.pointer (some ⟨O,0,none⟩)))):=Lib.hid (by rw[←hw20];exact kb20.setS 6 _)
      have hKp20:K<w19.heap.size:=HK19.out.lt
      have HP20:Hid (ObjP w20 O go (List.replicate 64 {}) 0):=Lib.hid (by rw[←hw20];exact hO.of_blocks fun b hb=>set_other (by rcases hb with rfl|rfl<;>show _≠K<;>omega))
      have KP20:Hid (Keeps (fun b=>b=K) w19 w20):=Lib.hid (by rw[←hw20];exact (Keeps.ofBelow (X:=fun b=>b=K) hb20).setCell (p:=⟨K,1013,none⟩) rfl _)
      have BP20:=Lib.hid (And.intro b1 b2)
      clear kb20 c20 f20 l20 hw20 hb20 hKp20
      have HZ:Hid (∀b,b<w2.heap.size→w20.heap[b]?=w15.heap[b]?):=Lib.hid fun b hb=>by
       have hne:=HlK.out b hb
       have s0:=HMd.out.below.size
       have s1:=HLi.out.keeps.size
       have s2:=HCd.out.keeps.size
       have s3:=HKp.out.size
       have s4:=KP17.out.size
       have s5:=KP18.out.size
       have s6:=KP19.out.size
       exact (KP20.out.block b (by omega) hne).trans ((KP19.out.block b (by omega) hne).trans ((KP18.out.block b (by omega) hne).trans ((KP17.out.block b (by omega) hne).trans (HKp.out.block b (by omega) hne))))
      have q1:w20.cell? ⟨w.heap.size,1,none⟩=some (.int .i64 (cells:Int)):=(World.cell?_of_block (a:=⟨w.heap.size,1,none⟩) (HZ.out _ (by have:=HlA.out;show w.heap.size<_;omega))).trans (blk_cell Z0.out 1)
      obtain ⟨hroom,hcells,he,hwd,hn,hwk⟩:=HR.out
      have HLy:=Lib.hid (lay_any (gW:=gW) HK20.out F cells (by rw[←hn];rfl) rfl rfl hwk hwd hroom hcells)
      clear hroom hcells he hwd hn hwk
      go_wp2_with fail
      refine HLy.out.mono ?_
      rintro e w21 ⟨rfl,X,gc,gw,A,hL,hA,bA⟩
      have HL:=Lib.hid hL
      have HA:=Lib.hid hA
      have HbA:=Lib.hid bA
      have c15:w21.cell? ⟨K,1015,none⟩=some (.slice (some ⟨gW,0,none⟩) n n):=hL.kb.cs 8 rfl
      have hgK:gW≠K:=fun q=>HMd.out.d.2.2.2.2.1 q.symm
      have hgd:=blk_in HMd.out.wk
      have hg0: ∀b,b<wd.heap.size→b≠K→w21.heap[b]?=wd.heap[b]?:=fun b hb hne=>by
       have s1:=HLi.out.keeps.size
       have s2:=HCd.out.keeps.size
       have s3:=HKp.out.size
       have s4:=KP17.out.size
       have s5:=KP18.out.size
       have s6:=KP19.out.size
       have s7:=KP20.out.size
       exact ((keeps_strip HL.out.keeps).block b (by omega) hne).trans ((KP20.out.block b (by omega) hne).trans ((KP19.out.block b (by omega) hne).trans ((KP18.out.block b (by omega) hne).trans ((KP17.out.block b (by omega) hne).trans ((HKp.out.block b (by omega) hne).trans ((HCd.out.keeps.block b (by omega) hne).trans (HLi.out.keeps.block b hb hne)))))))
      have HW0:Hid (w21.heap[gW]?=some (.cells ((wkB n 0).flatMap (wkf F)).toArray 166 (0,0))):=Lib.hid (by rw[wkB_zero];exact (hg0 gW hgd hgK).trans HMd.out.wk)
      have HGK:=Lib.hid hgK
      have hlo: ∀b,b<w2.heap.size→b≠gW:=fun b hb=>by have:=HMd.out.d.2.2.1;omega
      have HLo:=Lib.hid hlo
      have HZ1:Hid (∀b,b<w2.heap.size→w21.heap[b]?=w15.heap[b]?):=Lib.hid fun b hb=>((keeps_strip HL.out.keeps).block b (by
       have s0:=HMd.out.below.size
       have s1:=HLi.out.keeps.size
       have s2:=HCd.out.keeps.size
       have s3:=HKp.out.size
       have s4:=KP17.out.size
       have s5:=KP18.out.size
       have s6:=KP19.out.size
       have s7:=KP20.out.size
       omega) (HlK.out b hb)).trans (HZ.out b hb)
      have hs21:wd.heap.size≤w21.heap.size:=by
       have s1:=HLi.out.keeps.size
       have s2:=HCd.out.keeps.size
       have s3:=HKp.out.size
       have s4:=KP17.out.size
       have s5:=KP18.out.size
       have s6:=KP19.out.size
       have s7:=KP20.out.size
       have s8:=HL.out.keeps.size
       omega
      have HS21:=Lib.hid hs21
      clear hL hA bA hgK hgd hg0 hlo hs21 HLy q1
      go_wp2_with fail
      go_loopg [150] n (fun g iv wz=> ∃(k:Nat),k≤n∧g=n - k∧iv= .int .i64 (k:Int)∧Hid (wz.heap[gW]?=some (.cells ((wkB n k).flatMap (wkf F)).toArray 166 (0,0)))∧Hid (Keeps (fun b=>b=gW) w21 wz))
      case atStart=>exact ⟨0,by omega,rfl,rfl,HW0,Lib.hid (Keeps.refl _ _)⟩
      case round=>
       obtain ⟨k,hk,hg,rfl,HW,HKg⟩:=hrel
       have Hg:=Lib.hid hg
       have hkI:(0:Int)≤(k:Int)∧(k:Int)≤64:=by omega
       have kbz:=HL.out.kb.of_block (HKg.out.block K HL.out.kb.lt fun q=>HGK.out q.symm)
       have hz1: ∀b,b<w2.heap.size→wr.heap[b]?=w15.heap[b]?:=fun b hb=>(HKg.out.block b (by have:=HS21.out;have:=HMd.out.below.size;omega) (HLo.out b hb)).trans (HZ1.out b hb)
       by_cases hlt:k<n
       ·have hltI:(k:Int)<(n:Int):=by omega
        have c15:wr.cell? ⟨K,1015,none⟩=some (.slice (some ⟨gW,0,none⟩) n n):=kbz.cs 8 rfl
        have y1:wr.cell? ⟨w.heap.size+1,1,none⟩=some (.int .i64 F.loop):=(World.cell?_of_block (a:=⟨w.heap.size+1,1,none⟩) (hz1 _ (by have:=HlA.out;show w.heap.size+1<_;omega))).trans (blk_cell Z1.out 1)
        have x4:wr.cell? ⟨gW,k*38+4,none⟩=some (.int .i64 0):=(blk_cell HW.out _).trans (by rw[List.getElem?_toArray];exact wkB_cell F hlt)
        have f4:wr.frozen? ⟨gW,k*38+4,none⟩=false:=blk_frozen HW.out _
        have hgl:gW<wr.heap.size:=blk_in HW.out
        have HFin:Hid (∀X,Below wr.heap.size wr X→(X.setCell ⟨gW,k*38+4,none⟩ (.int .i64 F.loop)).heap[gW]?=some (.cells ((wkB n (k+1)).flatMap (wkf F)).toArray 166 (0,0))∧Keeps (fun b=>b=gW) w21 (X.setCell ⟨gW,k*38+4,none⟩ (.int .i64 F.loop))):=Lib.hid fun X hX=>by
         exact ⟨wkB_store ((hX.block gW hgl).trans HW.out) hlt,(HKg.out.trans (Keeps.ofBelow (X:=fun _=>False) hX) fun _ q=>q.elim).setCell (p:=⟨gW,k*38+4,none⟩) (by exact rfl) _⟩
        have Hlt:=Lib.hid hlt
        clear hlt hg hk HW HKg kbz hz1 HL HA HbA HZ1 HZ HS21 Z0 Z1 Z2 HMd HLi HCd HKp HP17 HP18 HP19 HP20 KP17 KP18 KP19 KP20 BP17 BP18 BP19 BP20 HW0
        go_wp2_with fail
        go_still_tail 10,(by kernel_rfl)
        change wpList _ _ _ _ _ wr.drew
        have HFd:=Lib.hid (HFin.out wr.drew (Below.drew (Below.refl _ _)))
        have x4:wr.drew.cell? ⟨gW,k*38+4,none⟩=some (.int .i64 0):=x4
        have f4:wr.drew.frozen? ⟨gW,k*38+4,none⟩=false:=f4
        have hgl:gW<wr.drew.heap.size:=hgl
        clear HFin
        generalize wr.drew=wd2 at*
        go_wp2_with fail
        go_roundg (n - (k+1))
        case measure=>have:=Hg.out;have:=Hlt.out;omega
        case rel=>
         have:=Hlt.out
         exact ⟨k+1,by omega,rfl,by go_num,Lib.hid HFd.out.1,Lib.hid HFd.out.2⟩
       ·have hnl2: ¬((k:Int)<(n:Int)):=by omega
        have hkn:k=n:=by omega
        have hwf:wr.heap[gW]?=some (.cells ((List.replicate n (wk0 F,Value.slice none 0 0)).flatMap wk38).toArray 166 (0,0)):=by
         have:=HW.out
         rw[hkn,wkB_all] at this
         exact this
        obtain ⟨hroom,hcells,he,hwd,hn,hwk⟩:=HR.out
        have hS:=news_fin F (cells:=cells) (entry:=entry) hn HMd.out HLi.out.lib HLi.out.calls HLi.out.keeps HCd.out.code HCd.out.keeps HKp.out HP17.out BP17.out KP17.out HP18.out BP18.out KP18.out HP19.out BP19.out KP19.out HP20.out BP20.out KP20.out HL.out HA.out HbA.out HKg.out kbz hwf
        have hlow: ∀b,b<w2.heap.size→ownN K th gW A w2.heap.size wd.heap.size w16.heap.size w17.heap.size w18.heap.size w19.heap.size w20.heap.size b= .other:=fun b hb=>own_lo hS.cuts hb
        have hk0:=hS.kern HF.out
        generalize ownN K th gW A w2.heap.size wd.heap.size w16.heap.size w17.heap.size w18.heap.size w19.heap.size w20.heap.size=own0 at*
        have hBz:Below w.heap.size w wr:=by
         refine ⟨?_,?_,?_,?_,fun b hb=>?_⟩
         all_goals have q:=HKg.out
         ·exact q.os.trans (HL.out.keeps.os.trans (KP20.out.os.trans (KP19.out.os.trans (KP18.out.os.trans (KP17.out.os.trans (HKp.out.os.trans HBf.out.os))))))
         ·exact q.tape.trans (HL.out.keeps.tape.trans (KP20.out.tape.trans (KP19.out.tape.trans (KP18.out.tape.trans (KP17.out.tape.trans (HKp.out.tape.trans HBf.out.tape))))))
         ·exact q.output.trans (HL.out.keeps.output.trans (KP20.out.output.trans (KP19.out.output.trans (KP18.out.output.trans (KP17.out.output.trans (HKp.out.output.trans HBf.out.output))))))
         ·have:=HB2.out.size
          have:=HMd.out.below.size
          have:=HS21.out
          have:=q.size
          omega
         ·exact (hz1 b (by have:=HlA.out;omega)).trans (HBf.out.block b hb)
        have HBz:=Lib.hid hBz
        have HLow:=Lib.hid hlow
        have hbo:=kborn_any hk0 (inv_bare F cells) entry 0 ⟨he.1,by have:=HF.out.code;omega⟩ u64_0 (by decide)
        change Calls Tryz.prog 84 #[.pointer (some ⟨K,0,none⟩), .int .i64 entry, .int .u64 0] wr _ at hbo
        have HBo:=Lib.hid hbo
        have y1:wr.cell? ⟨w.heap.size+1+1,1,none⟩=some (.int .i64 entry):=(World.cell?_of_block (a:=⟨w.heap.size+1+1,1,none⟩) (hz1 _ HlA.out)).trans (blk_cell Z2.out 1)
        have hzl:w2.heap.size≤wr.heap.size:=by have:=HMd.out.below.size;have:=HS21.out;have:=HKg.out.size;omega
        have HZl:=Lib.hid hzl
        clear hroom hcells he hwd hn hwk hS hlow hk0 hbo hwf hkn hk hg hlt hBz hz1 kbz HW HKg HL HA HbA HZ1 HZ HS21 Z0 Z1 Z2 HMd HLi HCd HKp HP17 HP18 HP19 HP20 KP17 KP18 KP19 KP20 BP17 BP18 BP19 BP20 HW0 hzl
        go_wp2_with fail
        refine HBo.out.mono ?_
        rintro e w31 ⟨rfl,tb,fb,-,own3,h3,t3⟩
        have hpt:=krput h3 _ (bornK_u64 (bareK F cells) entry 0)
        change Calls Tryz.prog 85 #[.pointer (some ⟨R,0,none⟩), .int .u64 (bornK (bareK F cells) entry 0).1] w31 _ at hpt
        have HPt:=Lib.hid hpt
        have kr:w31.cell? ⟨K,1010,none⟩=some (.pointer (some ⟨R,0,none⟩)):=h3.rcell
        have T3:=Lib.hid t3
        clear h3 t3 hpt HBo y1
        go_wp2_with fail
        refine HPt.out.mono ?_
        rintro e w32 ⟨⟨ev,rfl⟩,own4,h4,t4⟩
        have H4:=Lib.hid (And.intro h4 (T3.out.trans t4))
        clear h4 t4 HPt kr
        go_wp2_with fail
        go_ret2
        obtain ⟨h4,t4⟩:=H4.out
        refine ⟨_,own4,rfl,h4,Keeps.below HBz.out t4.keeps HBz.out.size fun b hb=>?_,fun b hb=>?_⟩
        ·rcases Nat.lt_or_ge b w2.heap.size with q|q
         ·exact absurd (HLow.out b q) hb
         ·have:=HB2.out.size;omega
        ·have hl:=HlA.out
         exact (t4.own b (by have:=HZl.out;omega)).trans (HLow.out b (by omega))
end Go.Proofs.YtaangaogmnlljaaGreatDoor.Kn
