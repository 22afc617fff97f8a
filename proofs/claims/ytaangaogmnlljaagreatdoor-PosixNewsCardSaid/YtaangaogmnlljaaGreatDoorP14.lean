/- Part 14 of what the proof stands on: KnHnd, KnRingV, RdAll, KnAllT, KnView. -/
import Derived.Test.YtaangaogmnlljaaGreatDoorP08
import Derived.Test.YtaangaogmnlljaaGreatDoorP13
set_option linter.unusedVariables false
set_option maxRecDepth 100000
set_option maxHeartbeats 40000000
namespace Go.Proofs.YtaangaogmnlljaaGreatDoor.Kn
open Go.RowKit Go.Maps Asm
attribute [local go_sem] Oper.semAt_some
theorem infoOr:(Tryz.prog.info? 304).map (fun i=>(i.zero,i.size,i.bytes))=some (some (.agg #[.int .u64 0, .int .u64 0, .int .i64 0, .int .u64 0]),4,32):=by kernel_rfl
theorem objC_one (l:List ORow): ∀u∈objC l,u.oneCell'=true:=fun u hu=>by
 obtain ⟨e,-,h⟩:=List.mem_flatMap.1 hu
 simp[or4] at h
 rcases h with rfl|rfl|rfl|rfl<;>rfl
theorem objC_len' (l:List ORow):(objC l).length=l.length*4:=flL_len (k:=4) (f:=or4) (fun _=>rfl) l
theorem ObjP.rowO {w:World} {O go:Nat} {l:List ORow} {N:Nat} (h:ObjP w O go l N):w.ownsRow 0 304 4 (.slice (some ⟨go,0,none⟩) 64 64) 64 (objC l):=by
 have hl:(objC l).length=64*4:=by rw[objC_len',h.ok.len]
 exact ⟨hl, .inr ⟨go,64,(objC l).toArray,rfl,Nat.zero_le _,h.row,Nat.le_refl _,by unfold maxLen;omega,by rw[List.size_toArray,hl],by rw[List.take_of_length_le (by rw[←hl];exact Nat.le_refl _)]⟩⟩
def encO (x:Int×Int):Array Value:=#[.int .u64 x.1, .int .u64 x.2]
set_option maxRecDepth 100000 in
theorem obj1_in (n:Nat) (l0 Bh O go:Nat) (l:List ORow) (N:Nat) (hz: ∀r∈l,r.handle=0) (J Jx:List (Int×Int)→World→Prop)
  (W:World) (hJ:AbidesFrom W.heap.size J)
  (hBh:W.cell? ⟨Bh,0,none⟩=some (.pointer (some ⟨O,0,none⟩))) (hR:ObjP W O go l N) (h0:J [] W):
  CallsIn Fence.wide n Tryz.prog 143 #[.func (.yield l0) #[] #[], .pointer (some ⟨Bh,0,none⟩)] W fun e W'=>(∃v,e= .returned v)∧
   ((∃xs,xs= []∧J xs W')∨(∃pre,False∧Jx pre W')):=by
 obtain ⟨i3,hi3,hz3,hs3,hb3⟩:=info_parts infoOr
 obtain ⟨A1,c1,w1,hrun,hrow1,hbel⟩:=copy_new (t:=300) Tryz.underlying300 hi3 hz3 hs3 hb3 rfl (by decide) hR.rowO (objC_one _) (by unfold maxLen;omega) (by omega)
 have hA3:W.cell? ⟨O,0,none⟩=some (.slice (some ⟨go,0,none⟩) 64 64):=blk_cell hR.obj 0
 have hOl:=hR.lt.1
 have hBl:=blk_of_cell hBh
 obtain ⟨g,c,cur,hg1,hg2,hg3⟩:=row_cur hrow1 (by decide)
 injection hg1 with hg1 _ hg4
 subst hg1 hg4
 have HRun:=Lib.hid hrun
 have HJ:=Lib.hid hJ
 have HR1:=Lib.hid hrow1
 have HJ0:=Lib.hid h0
 have HBel:=Lib.hid hbel
 have HZ:=Lib.hid hz
 have HLen:=Lib.hid hR.ok.len
 have hgl:=blk_in hg3
 clear hrun hJ hrow1 hR h0 hbel hz
 refine callsIn_wide.2 ?_
 go_enter Tryz.func143,Tryz.ntmps143
 go_wp2_with (at_builtin;refine Go.Lib.wpList_append_run _ rfl (.tmp 5) (.tmp 9) 300 300 rfl _ _ rfl rfl _ _ HRun.out ?_)
 go_loopg [12] 64 (fun q iv wr=> ∃k:Nat,k≤64∧q=64 - k∧iv= .int .i64 (k:Int)∧Hid (Below w1.heap.size w1 wr))
 case atStart=>exact ⟨0,by omega,rfl,rfl,Lib.hid (Below.refl _ _)⟩
 case round=>
  obtain ⟨k,hk,hq,rfl,HB⟩:=hrel
  have hkI:(0:Int)≤(k:Int)∧(k:Int)≤64:=by omega
  by_cases hlt:k<64
  ·have hltI:(k:Int)<64:=by omega
   have hkl:k<l.length:=by rw[HLen.out];exact hlt
   have hh:=HZ.out _ (List.getElem_mem hkl)
   have X: ∀j,j<4→wr.cell? ⟨g,k*4+j,none⟩=(or4 l[k])[j]?:=fun j hj=>by
    have e:=flL_at (k:=4) (f:=or4) (fun _=>rfl) l k hkl j hj
    obtain ⟨u,hu⟩: ∃u,(or4 l[k])[j]?=some u:=⟨(or4 l[k])[j]'(by simpa[or4] using hj),List.getElem?_eq_getElem _⟩
    have h1:=HR1.out.cells rfl (k*4+j) u (e.trans hu)
    rw[Addr.add_lit,Nat.zero_add] at h1
    rw[hu]
    exact (HB.out.cell (p:=⟨g,k*4+j,none⟩) hgl).trans h1
   generalize l[k]=r at X hh
   obtain ⟨rt,rh,rk,ra⟩:=r
   simp only at hh
   subst hh
   have x0:wr.cell? ⟨g,k*4,none⟩=some (.int .u64 rt):=X 0 (by decide)
   have x1:wr.cell? ⟨g,k*4+1,none⟩=some (.int .u64 0):=X 1 (by decide)
   have x2:wr.cell? ⟨g,k*4+2,none⟩=some (.int .i64 rk):=X 2 (by decide)
   have x3:wr.cell? ⟨g,k*4+3,none⟩=some (.int .u64 ra):=X 3 (by decide)
   have Hq:=Lib.hid hq
   clear X hq
   go_wp2_with fail
   go_roundg (64 - (k+1))
   case measure=>have:=Hq.out;omega
   case rel=>exact ⟨k+1,by omega,rfl,by go_num,Lib.hid (HB.out.alloc HB.out.size _)⟩
  ·obtain rfl:k=64:=by omega
   go_wp2_with fail
   go_end0
   have hB:Below W.heap.size W wr:=HBel.out.trans (HB.out.mono HBel.out.size)
   exact ⟨⟨_,rfl⟩, .inl ⟨_,rfl,HJ.out [] W wr none HJ0.out ⟨hB.os,hB.tape,hB.output,hB.size,fun k hk _=>hB.block k hk⟩ (fun r e=>by cases e)⟩⟩
theorem oall_in (n:Nat) (a:Addr) (w:World):
  CallsIn Fence.wide n Tryz.prog 69 #[.pointer (some a)] w fun e w'=>e= .returned (.func (.func 143) #[] #[.pointer (some ⟨w.heap.size,0,none⟩)])∧w.alloc (.cells #[.pointer (some a)] 155)=w':=by
 refine callsIn_of_wp Tryz.func69 rfl trivial ?_ rfl
 simp only[Tryz.ntmps69,List.size_toArray,List.length_cons,List.length_nil,Nat.reduceAdd,Nat.reduceSub,Array.replicate_succ,Array.replicate_zero,List.push_toArray,List.append_toArray,List.nil_append,List.cons_append]
 gi_wp2
 go_ret
 exact ⟨rfl,rfl⟩
theorem obj_stops (n:Nat) (Bh O go:Nat) (l:List ORow) (N:Nat) (hz: ∀r∈l,r.handle=0) (n0:Nat) (w:World)
  (hBh:w.cell? ⟨Bh,0,none⟩=some (.pointer (some ⟨O,0,none⟩))) (hBl:Bh<w.heap.size) (hR:ObjP w O go l N):
  SeqStopsK Fence.wide n Tryz.prog 143 #[.pointer (some ⟨Bh,0,none⟩)] encO (CellsKeep n0) (fun xs=>xs= []) (fun _=>False) 0 w:=fun l0 J Jx W hW hJ _ _ h0=>
 obj1_in n l0 Bh O go l N hz J Jx W hJ ((hW.cell (p:=⟨Bh,0,none⟩) hBl).trans hBh) (hR.below hW) h0
section
variable {F:Fixed} {w:World} {own:Own} {G:KG} {M:Mach} {nn:Nat}
set_option maxRecDepth 100000 in
theorem handles_in (n:Nat) (hn:4≤n) (h:KernP F w own G M nn) (hz: ∀r∈M.objs,r.handle=0):
  CallsIn Fence.wide n Tryz.prog 25 #[.pointer (some ⟨G.K,0,none⟩)] w fun e w'=>e= .returned (.slice none 0 0)∧Below w.heap.size w w':=by
 have h1:1≤n:=by omega
 obtain ⟨go,N,hR,-,-⟩:=h.obj
 have kO:w.cell? ⟨G.K,1013,none⟩=some (.pointer (some ⟨G.O,0,none⟩)):=h.kcell fun _ _ hc=>hc.obj
 have hKl:=h.klt
 have hOl:=hR.lt
 refine callsIn_of_wp_marks Tryz.func25 rfl trivial ?_ rfl
 simp only[Tryz.ntmps25,List.size_toArray,List.length_cons,List.length_nil,Nat.reduceAdd,Nat.reduceSub,Array.replicate_succ,Array.replicate_zero,List.push_toArray,List.append_toArray,List.nil_append,List.cons_append]
 gi_wp2_with fail
 refine ⟨trivial,?_⟩
 refine (oall_in (n - 1) _ _).mono ?_
 rintro e w' ⟨rfl,rfl⟩
 gi_wp2
 have hB0:Below w.heap.size w ((w.alloc (.cells #[.slice none 0 0] 48)).alloc (.cells #[.pointer (some ⟨G.O,0,none⟩)] 155)):=((Below.refl _ w).alloc (Nat.le_refl _) _).alloc (by simp) _
 have hc0:((w.alloc (.cells #[.slice none 0 0] 48)).alloc (.cells #[.pointer (some ⟨G.O,0,none⟩)] 155)).cell? ⟨w.heap.size,0,none⟩=some (.slice none 0 0):=by
  exact m89
 have hf0:((w.alloc (.cells #[.slice none 0 0] 48)).alloc (.cells #[.pointer (some ⟨G.O,0,none⟩)] 155)).frozen? ⟨w.heap.size,0,none⟩=false:=by
  exact m84
 have hc1:((w.alloc (.cells #[.slice none 0 0] 48)).alloc (.cells #[.pointer (some ⟨G.O,0,none⟩)] 155)).cell? ⟨w.heap.size+1,0,none⟩=some (.pointer (some ⟨G.O,0,none⟩)):=World.cell?_alloc_at _ _ _ _ (by simp)
 refine wpIn_rangeFunc_ownF rfl h1 (gf:=143) (lb:=#[.pointer (some ⟨w.heap.size+1,0,none⟩)]) rfl trivial (enters_of Tryz.func143 (by kernel_rfl) rfl)
  (obj_stops (n - 1) (w.heap.size+1) G.O go M.objs N hz (w.heap.size+2) _ hc1 (by simp) (hR.below hB0)) (fun h k=>CellsKeep.t h k) (fun W l o o' hl h ho hw=>CellsKeep.b W l o o' hl h ho hw) (Below.refl _ _) (fun _=>rfl)
  (fun _ W=>(W.cell? ⟨w.heap.size,0,none⟩=some (.slice none 0 0)∧W.frozen? ⟨w.heap.size,0,none⟩=false)∧Below w.heap.size w W)
  (fun _ _ _=>False)
  (OwnFrom.and (Own.from (fun s A B row hs hg hr=>⟨cell_kept hs.1 hg hr,(frozen_kept hs.1 hg hr).trans hs.2⟩) _) (ownFrom_below (Nat.le_refl _) (by simp;omega)))
  (fun _ _ _ _ _ hs _ _=>hs)
  ⟨⟨hc0,hf0⟩,hB0⟩ ?a1 ?assign ?body ?done ?stop
 case assign=>
  intro l x W K hK
  have e:(#[10,11]:Array Nat).zip (encO x)=#[(10, .int .u64 x.1),(11, .int .u64 x.2)]:=by kernel_rfl
  rw[e]
  gi_wp2
  exact hK
 case body=>
  rintro l1 pre x W - hpre
  exact absurd hpre (Nat.not_lt_zero _)
 case done=>
  rintro D ys W hD rfl ⟨⟨hc,hf⟩,hB⟩ hK
  exact m87
 case stop=>
  rintro D c pre W _ _ h _
  exact h.elim
theorem handles_any (h:KernP F w own G M nn) (hz: ∀r∈M.objs,r.handle=0):
  Calls Tryz.prog 25 #[.pointer (some ⟨G.K,0,none⟩)] w fun e w'=>e= .returned (.slice none 0 0)∧Below w.heap.size w w':=callsIn_wide.1 (handles_in 4 (by omega) h hz)
set_option maxRecDepth 100000 in
theorem kused_any (h:KernP F w own G M nn) (hu:usedA M.alc≤4000000000) (hl:M.alc.l.length≤65536):
  Calls Tryz.prog 26 #[.pointer (some ⟨G.K,0,none⟩)] w fun e w'=>e= .returned (.int .i64 (usedA M.alc:Int))∧Below w.heap.size w w':=by
 obtain ⟨v,hA,-⟩:=h.alc
 have k8:w.cell? ⟨G.K,1008,none⟩=some (.pointer (some ⟨G.A,0,none⟩)):=h.acell
 have HU:=Lib.hid (callsIn_wide.1 (used_in 4 (by omega) hA hl hu))
 have hKl:=h.klt
 generalize usedA M.alc=u at*
 clear hA h
 go_enter Tryz.func26,Tryz.ntmps26
 go_wp2_with fail
 refine HU.out.mono ?_
 rintro e w1 ⟨rfl,hb⟩
 go_wp2_with fail
 go_ret
 exact ⟨rfl,hb⟩
end
end Go.Proofs.YtaangaogmnlljaaGreatDoor.Kn
namespace Go.Proofs.YtaangaogmnlljaaGreatDoor.Kn
open Go.RowKit Go.Maps Asm
attribute [local go_sem] Oper.semAt_some
theorem enumL_snd (l:List Int):(enumL l).map (·.2)=l:=by
 unfold enumL
 rw[List.map_map]
 refine List.ext_getElem (by simp) fun i h1 h2=>?_
 simp at h1 ⊢
 simp[h1]
section
variable {F:Fixed} {w:World} {own:Own} {G:KG} {M:Mach} {nn:Nat}
theorem rall_in (n:Nat) (a:Addr) (w:World):
  CallsIn Fence.wide n Tryz.prog 111 #[.pointer (some a)] w fun e w'=>e= .returned (.func (.func 183) #[] #[.pointer (some ⟨w.heap.size,0,none⟩)])∧w.alloc (.cells #[.pointer (some a)] 152)=w':=callsIn_wide.2 (rall_any a w)
set_option maxRecDepth 100000 in
theorem kring_in (n:Nat) (hn:4≤n) (h:KernP F w own G M nn) (hl:M.ring.length≤1):
  CallsIn Fence.wide n Tryz.prog 47 #[.pointer (some ⟨G.K,0,none⟩)] w fun e w'=> ∃v,e= .returned v∧w'.ownsRow w.heap.size 53 1 v M.ring.length (u64R M.ring)∧Below w.heap.size w w':=by
 have h1:1≤n:=by omega
 have kr:=h.rcell
 obtain ⟨gr,hRg,-⟩:=h.ring
 have hKl:=h.klt
 have HL:=Lib.hid hl
 have hB0:Below w.heap.size w ((w.alloc (.cells #[.slice none 0 0] 48)).alloc (.cells #[.pointer (some ⟨G.R,0,none⟩)] 152)):=((Below.refl _ w).alloc (Nat.le_refl _) _).alloc (by simp) _
 have hR2:=hRg.below hB0
 clear h hl hRg
 refine callsIn_of_wp_marks Tryz.func47 rfl trivial ?_ rfl
 simp only[Tryz.ntmps47,List.size_toArray,List.length_cons,List.length_nil,Nat.reduceAdd,Nat.reduceSub,Array.replicate_succ,Array.replicate_zero,List.push_toArray,List.append_toArray,List.nil_append,List.cons_append]
 gi_wp2_with fail
 refine ⟨trivial,?_⟩
 refine (rall_in (n - 1) _ _).mono ?_
 rintro e w' ⟨rfl,rfl⟩
 gi_wp2
 have hc0:((w.alloc (.cells #[.slice none 0 0] 48)).alloc (.cells #[.pointer (some ⟨G.R,0,none⟩)] 152)).cell? ⟨w.heap.size,0,none⟩=some (.slice none 0 0):=by
  exact m89
 have hf0:((w.alloc (.cells #[.slice none 0 0] 48)).alloc (.cells #[.pointer (some ⟨G.R,0,none⟩)] 152)).frozen? ⟨w.heap.size,0,none⟩=false:=by
  exact m84
 have hc1:((w.alloc (.cells #[.slice none 0 0] 48)).alloc (.cells #[.pointer (some ⟨G.R,0,none⟩)] 152)).cell? ⟨w.heap.size+1,0,none⟩=some (.pointer (some ⟨G.R,0,none⟩)):=World.cell?_alloc_at _ _ _ _ (by simp)
 generalize hw2:(w.alloc (.cells #[.slice none 0 0] 48)).alloc (.cells #[.pointer (some ⟨G.R,0,none⟩)] 152)=w2 at*
 have hs2:w2.heap.size=w.heap.size+2:=by rw[←hw2];simp
 clear hw2
 have HStop:=Lib.hid (rall_stops (n - 1) (by omega) (w.heap.size+1) G.R gr M.ring w2.heap.size w2 (Nat.le_refl _) hc1 (by omega) hR2)
 generalize hb0:w.heap.size=b at*
 have hrow0:w2.ownsRow (b+2) 53 1 (.slice none 0 0) 0 []:=World.ownsRow_nil _ _ _ _
 have keepRow: ∀{A B:World} {v:Value} {m:Nat} {xs:List Value} {row:Option Nat},A.ownsRow (b+2) 53 1 v m xs→A.grownBy B row→(∀r,row=some r→ ∃o:Obj,A.heap[r]?=some o∧o.isCells=false)→B.ownsRow (b+2) 53 1 v m xs:=fun hs hg hr=>
  ownsRow_of_block hs fun k hk=>by
   obtain ⟨cur,hc⟩:=Asm.row_block hs hk
   exact grownBy_keeps_cells hg hr hc rfl
 refine wpIn_rangeFunc_ownF rfl h1 (gf:=183) (lb:=#[.pointer (some ⟨b+1,0,none⟩)]) rfl trivial (enters_of Tryz.func183 (by kernel_rfl) rfl)
  HStop.out (fun h k=>CellsKeep.t h k) (fun W l o o' hl h ho hw=>CellsKeep.b W l o o' hl h ho hw) (Below.refl _ _) (fun _=>rfl)
  (fun pre W=>(∃v,W.cell? ⟨b,0,none⟩=some v∧W.frozen? ⟨b,0,none⟩=false∧W.ownsRow (b+2) 53 1 v pre.length (u64R (pre.map (·.2)))∧(pre= []→v= .slice none 0 0))∧(b+2≤W.heap.size∧Below b w W))
  (fun _ _ _=>False)
  (OwnFrom.and (Own.from (fun s A B row hs hg hr=>by
   obtain ⟨v,h1,h2,h3,h4⟩:=hs
   exact ⟨v,cell_kept h1 hg hr,(frozen_kept h1 hg hr).trans h2,keepRow h3 hg hr,h4⟩) _) (OwnFrom.and (fun s A B row hs hg hr=>Nat.le_trans hs hg.size) (ownFrom_below (by omega) (by omega))))
  (fun _ _ _ _ _ hs _ _=>hs)
  ⟨⟨_,hc0,hf0,hrow0,fun _=>rfl⟩,by omega,hB0⟩ ?a1 ?assign ?body ?done ?stop
 case assign=>
  intro l x W K hK
  have e:(#[11,12]:Array Nat).zip (encR x)=#[(11, .int .i64 x.1),(12, .int .u64 x.2)]:=by kernel_rfl
  rw[e]
  gi_wp2
  exact hK
 case body=>
  rintro l1 pre x W ⟨⟨v,z0,zf,hr,hv⟩,hb2,hB⟩ hpre
  obtain rfl:pre= []:=List.length_eq_zero_iff.1 (by have:=HL.out;omega)
  obtain rfl:=hv rfl
  obtain ⟨xi,xv⟩:=x
  have hz1:=heap_alloc_new W (.cells #[.int .u64 xv] 53)
  have hB1:Below W.heap.size W (W.alloc (.cells #[.int .u64 xv] 53)):=(Below.refl _ _).alloc (Nat.le_refl _) _
  obtain ⟨v6,w6,hrun,hown,hg,-⟩:=appT (w:=W.alloc (.cells #[.int .u64 xv] 53)) (b+2) 48 48 53 1 8 Tryz.underlying48 (by kernel_rfl) (by decide) (by decide) (row_at0 _ (b+2) _ _) (row_one' (base:=0) hz1 (Nat.zero_le _)) (fun u hu=>by simp at hu;subst hu;rfl) (by decide) (by simp;omega)
  have hB6:Below W.heap.size W w6:=hB1.grown hg (by simp) fun k e=>by cases e
  have hbl:b<W.heap.size:=by omega
  have z6:w6.cell? ⟨b,0,none⟩=some (.slice none 0 0):=(hB6.cell (p:=⟨b,0,none⟩) hbl).trans z0
  have zf6:w6.frozen? ⟨b,0,none⟩=false:=(World.frozen?_of_block (hB6.block b hbl)).trans zf
  have hko:KeepsOthers W w6:=(KeepsOthers.alloc W _).trans (KeepsOthers.of_grownBy hg fun j o e _=>by cases e)
  obtain ⟨A6,c6,rfl⟩:=Asm.own_shape hown
  have HRun:=Lib.hid hrun
  have HA:=Lib.hid (And.intro hown (And.intro hB6 (And.intro hko (And.intro hb2 (And.intro hB (And.intro z6 zf6))))))
  clear hz1 hB1 hrun hown hg hB6 hko hr hb2 hB hv
  gi_wp2_with (gi_at_builtin;refine wpListIn_append_run rfl (.tmp 13) (.tmp 15) 48 rfl rfl rfl HRun.out ?_)
  obtain ⟨hown,hB6,hko,hb2,hB,z6,zf6⟩:=HA.out
  have hs6:=hB6.size
  refine ⟨hko.trans (KeepsOthers.setCell _ _ _),⟨by simp[World.setCell];exact hs6,fun k c t fr hk hcc=>(Below.heap_setCell _ _ _ _ (by show k≠b;omega)).trans ((hB6.block k (blk_in hcc)).trans hcc)⟩,⟨_,World.cell?_setCell_same' _ _ _ (by rw[z6];rfl),by rw[World.frozen?_setCell];exact zf6,?_,by simp⟩,by simp[World.setCell];omega,(hB.trans (hB6.mono (by omega))).setCell (p:=⟨b,0,none⟩) (Nat.le_refl _) _⟩
  exact ownsRow_of_block hown fun k e=>set_other (by have:=(hown.lt k e).1;show k≠b;omega)
 case done=>
  rintro D ys W hD rfl ⟨⟨v,z0,zf,hr,hv⟩,-,hB⟩ hK
  rw[enumL_snd,enumL_len] at hr
  obtain ⟨A,c,rfl⟩:=Asm.own_shape hr
  have HR:=Lib.hid (And.intro hr hB)
  clear hr hB hv
  gi_wp2
  refine ⟨by simp, .inl ⟨_,_,rfl,run_takeDeferred hK,?_⟩⟩
  have hg:=grownBy_putObj' W D (.deferred none)
  have hrow:(W.putObj D (.deferred none)).ownsRow b 53 1 (.slice A M.ring.length c) M.ring.length (u64R M.ring):=by
   refine Asm.row_base (b:=b+2) (b':=b) (ownsRow_of_block HR.out.1 fun k e=>?_) (by omega)
   obtain ⟨cur,hc⟩:=Asm.row_block HR.out.1 e
   exact hg.block k (blk_in hc) fun e=>by cases e;rw[hK] at hc;cases hc
  have hbel:Below b w (W.putObj D (.deferred none)):=HR.out.2.trans (by have q:=belowK_b (w:=w) (Nat.le_refl _) W D _ (.deferred none) (by omega) hK rfl rfl;rw[hb0] at q;exact q)
  rw[←hb0] at hrow hbel
  refine ⟨_,results_tmp rfl _ _ _,_,rfl,?_,hbel⟩
  exact hrow
 case stop=>
  rintro D c pre W _ _ h _
  exact h.elim
theorem kring_any (h:KernP F w own G M nn) (hl:M.ring.length≤1):
  Calls Tryz.prog 47 #[.pointer (some ⟨G.K,0,none⟩)] w fun e w'=> ∃v,e= .returned v∧w'.ownsRow w.heap.size 53 1 v M.ring.length (u64R M.ring)∧Below w.heap.size w w':=callsIn_wide.1 (kring_in 4 (by omega) h hl)
end
end Go.Proofs.YtaangaogmnlljaaGreatDoor.Kn
namespace Go.Proofs.YtaangaogmnlljaaGreatDoor.Kn
open Go.RowKit Go.Maps Asm
def thr7 (t:Thr):List Value:= [.int .u64 t.id, .int .i64 t.state, .int .u64 t.home, .int .u64 t.value, .int .u64 t.joiner, .bool t.loose, .bool t.stepping]
def thrC (l:List Thr):List Value:=l.flatMap thr7
theorem thr7_one (t:Thr): ∀u∈thr7 t,u.oneCell'=true:=fun u hu=>by
 simp[thr7] at hu
 rcases hu with rfl|rfl|rfl|rfl|rfl|rfl|rfl<;>rfl
theorem rtabC_at {l:List TRow} {i:Nat} (hi:i<l.length) (j:Nat) (hj:j<9):(rtabC l)[i*9+j]?=(tr9 l[i])[j]?:=flL_at (k:=9) (f:=tr9) (fun _=>rfl) l i hi j hj
theorem row_blk7 {X:World} {k base:Nat} {e:TypeId} {a b c d x y z:Value} (h:X.heap[k]?=some (.cells #[a,b,c,d,x,y,z] e (0,0))) (hb:base≤k):X.ownsRow base e 7 (.slice (some ⟨k,0,none⟩) 1 1) 1 [a,b,c,d,x,y,z]:=
 ⟨by simp, .inr ⟨_,1,#[a,b,c,d,x,y,z],rfl,hb,h,Nat.le_refl _,by simp[maxLen],by simp,by simp⟩⟩
theorem allT_step {l:List TRow} {i:Nat} (hi:i<l.length):allT (l.take (i+1))=if l[i].t.id=0 then allT (l.take i) else allT (l.take i)++ [l[i].t]:=by
 unfold allT
 rw[List.take_add_one,List.getElem?_eq_getElem hi,Option.toList_some,List.filter_append,List.map_append]
 by_cases h:l[i].t.id=0
 ·rw[if_pos h];simp[h]
 ·rw[if_neg h];simp[h]
theorem a36.q14 {P:Prop} (h:P:=by
 go_wp2_with (at_builtin;refine Go.Lib.wpList_append_run _ rfl (.tmp 24) (.tmp 33) 97 97 rfl _ _ rfl rfl _ _ HRun.out ?_)
 go_roundg (64 - (i+1))
 case measure=>have:=Hg.out;have:=Hlt.out;omega
 case rel=>exact ⟨i+1,Hlt.out,rfl,by go_num,HN⟩):P:=h
theorem a36.q73 {P:Prop} (h:P:=by
 by_cases hlt:i<64
 ·have hltI:(i:Int)<64:=by omega
  have hil:i<l.length:=by rw[HLen.out];exact hlt
  have hst:=allT_step hil
  have q:=fun j hj=>(blk_cell hG (i*9+j)).trans ((List.getElem?_toArray).trans (rtabC_at hil j hj))
  generalize l[i]=r at*
  obtain ⟨ti,re,id,st,ho,va,jo,lo,sp⟩:=r
  have x0:wr.cell? ⟨gt,i*9,none⟩=some (.int .u64 id):=q 0 (by decide)
  have x1:wr.cell? ⟨gt,i*9+1,none⟩=some (.int .i64 st):=q 1 (by decide)
  have x2:wr.cell? ⟨gt,i*9+2,none⟩=some (.int .u64 ho):=q 2 (by decide)
  have x3:wr.cell? ⟨gt,i*9+3,none⟩=some (.int .u64 va):=q 3 (by decide)
  have x4:wr.cell? ⟨gt,i*9+4,none⟩=some (.int .u64 jo):=q 4 (by decide)
  have x5:wr.cell? ⟨gt,i*9+5,none⟩=some (.bool lo):=q 5 (by decide)
  have x6:wr.cell? ⟨gt,i*9+6,none⟩=some (.bool sp):=q 6 (by decide)
  simp only at hst
  have Hlt:=Lib.hid hlt
  by_cases hz:id=0
  ·exact m74
  ·rw[if_neg hz] at hst
   have hne:(id !=0)=true:=bne_iff_ne.2 hz
   exact m14
 exact m43):P:=h
open a36 in
set_option maxRecDepth 100000 in
theorem rtall_any {w:World} {T gt:Nat} {l:List TRow} {N:Nat} (h:RTabP w T gt l N):
  Calls Tryz.prog 45 #[.pointer (some ⟨T,0,none⟩)] w fun e w'=> ∃v,e= .returned v∧w'.ownsRow w.heap.size 100 7 v (allT l).length (thrC (allT l))∧Below w.heap.size w w':=by
 have H:=Lib.hid h
 have hlen:=h.ok.len
 have HLen:=Lib.hid hlen
 clear h hlen
 go_enter Tryz.func45,Tryz.ntmps45
 go_wp2_with fail
 go_loopg [3,4] 64 (fun gg lv iv wr=> ∃(i:Nat),i≤64∧gg=64 - i∧iv= .int .i64 (i:Int)∧Hid (wr.ownsRow w.heap.size 100 7 lv (allT (l.take i)).length (thrC (allT (l.take i)))∧Below w.heap.size w wr))
 case atStart=>exact ⟨0,by omega,rfl,rfl,Lib.hid ⟨row_at0 _ _ _ _,Below.refl _ _⟩⟩
 case round=>
  exact m73
end Go.Proofs.YtaangaogmnlljaaGreatDoor.Kn
namespace Go.Proofs.YtaangaogmnlljaaGreatDoor.Kn
open Go.RowKit Go.Maps Asm
theorem tabC_at10 {l:List TRow} {i:Nat} (hi:i<l.length) (j:Nat) (hj:j<10):(tabC l)[i*10+j]?=(tr10 l[i])[j]?:=flL_at (k:=10) (f:=tr10) (fun _=>rfl) l i hi j hj
theorem a37.q14 {P:Prop} (h:P:=by
 go_wp2_with (at_builtin;refine Go.Lib.wpList_append_run _ rfl (.tmp 21) (.tmp 30) 97 97 rfl _ _ rfl rfl _ _ HRun.out ?_)
 go_roundg (64 - (i+1))
 case measure=>have:=Hg.out;have:=Hlt.out;omega
 case rel=>exact ⟨i+1,Hlt.out,rfl,by go_num,HN⟩):P:=h
theorem a37.q73 {P:Prop} (h:P:=by
 by_cases hlt:i<64
 ·have hltI:(i:Int)<64:=by omega
  have hil:i<l.length:=by rw[HLen.out];exact hlt
  have hst:=allT_step hil
  have q:=fun j hj=>(blk_cell hG (i*10+j)).trans ((List.getElem?_toArray).trans (tabC_at10 hil j hj))
  generalize l[i]=r at*
  obtain ⟨ti,re,id,st,ho,va,jo,lo,sp⟩:=r
  have x0:wr.cell? ⟨gt,i*10+1,none⟩=some (.bool (id !=0)):=q 1 (by decide)
  have y0:wr.cell? ⟨gt,i*10+3,none⟩=some (.int .u64 id):=q 3 (by decide)
  have x1:wr.cell? ⟨gt,i*10+4,none⟩=some (.int .i64 st):=q 4 (by decide)
  have x2:wr.cell? ⟨gt,i*10+5,none⟩=some (.int .u64 ho):=q 5 (by decide)
  have x3:wr.cell? ⟨gt,i*10+6,none⟩=some (.int .u64 va):=q 6 (by decide)
  have x4:wr.cell? ⟨gt,i*10+7,none⟩=some (.int .u64 jo):=q 7 (by decide)
  have x5:wr.cell? ⟨gt,i*10+8,none⟩=some (.bool lo):=q 8 (by decide)
  have x6:wr.cell? ⟨gt,i*10+9,none⟩=some (.bool sp):=q 9 (by decide)
  simp only at hst
  have Hlt:=Lib.hid hlt
  by_cases hz:id=0
  ·exact m74
  ·rw[if_neg hz] at hst
   have hne:(id !=0)=true:=bne_iff_ne.2 hz
   rw[hne] at x0
   exact m14
 exact m43):P:=h
open a37 in
set_option maxRecDepth 100000 in
theorem tall_any {w:World} {T gt:Nat} {l:List TRow} {N:Nat} (h:TabP w T gt l N):
  Calls Tryz.prog 109 #[.pointer (some ⟨T,0,none⟩)] w fun e w'=> ∃v,e= .returned v∧w'.ownsRow w.heap.size 100 7 v (allT l).length (thrC (allT l))∧Below w.heap.size w w':=by
 have H:=Lib.hid h
 have k0:w.cell? ⟨T,0,none⟩=some (.slice (some ⟨gt,0,none⟩) 64 64):=blk_cell h.obj 0
 have hlen:=h.ok.len
 have HLen:=Lib.hid hlen
 clear h hlen
 go_enter Tryz.func109,Tryz.ntmps109
 go_wp2_with fail
 clear k0
 go_loopg [3,10] 64 (fun gg lv iv wr=> ∃(i:Nat),i≤64∧gg=64 - i∧iv= .int .i64 (i:Int)∧Hid (wr.ownsRow w.heap.size 100 7 lv (allT (l.take i)).length (thrC (allT (l.take i)))∧Below w.heap.size w wr))
 case atStart=>exact ⟨0,by omega,rfl,rfl,Lib.hid ⟨row_at0 _ _ _ _,Below.refl _ _⟩⟩
 case round=>
  exact m73
end Go.Proofs.YtaangaogmnlljaaGreatDoor.Kn
namespace Go.Proofs.YtaangaogmnlljaaGreatDoor.Kn
open Go.RowKit Go.Maps Asm
section
variable {F:Fixed} {w:World} {own:Own} {G:KG} {M:Mach} {n:Nat}
theorem KernP.vcells (h:KernP F w own G M n):w.cell? ⟨G.K,1015,none⟩=some (.slice (some ⟨G.gW,0,none⟩) F.workers F.workers)∧w.cell? ⟨G.K,1016,none⟩=some (.int .i64 M.entries):=by
 obtain ⟨C,ov,ho,hc,-⟩:=h.k.obj
 exact ⟨(blk_cell ho _).trans hc.wk,(blk_cell ho _).trans hc.entries⟩
theorem know_any (h:KernP F w own G M n):Calls Tryz.prog 40 #[.pointer (some ⟨G.K,0,none⟩)] w fun e w'=>e= .returned (.int .u64 M.clk.now)∧w'=w:=by
 obtain ⟨_,_,k9,_⟩:=h.kcells
 obtain ⟨hb,hm,v,ab,N,K,hP,-⟩:=h.clk
 have HN:=Lib.hid (now_any hP)
 clear h hP
 go_enter Tryz.func40,Tryz.ntmps40
 go_wp2_with fail
 refine HN.out.mono ?_
 rintro e w1 ⟨rfl,rfl⟩
 go_wp2_with fail
 go_ret
 exact ⟨rfl,rfl⟩
theorem kentries_any (h:KernP F w own G M n):Calls Tryz.prog 41 #[.pointer (some ⟨G.K,0,none⟩)] w fun e w'=>e= .returned (.int .i64 M.entries)∧w'=w:=by
 obtain ⟨_,k⟩:=h.vcells
 clear h
 go_enter Tryz.func41,Tryz.ntmps41
 go_wp2_with fail
 go_ret
 exact ⟨rfl,rfl⟩
theorem kbase_any (h:KernP F w own G M n):Calls Tryz.prog 42 #[.pointer (some ⟨G.K,0,none⟩)] w fun e w'=>e= .returned (.int .i64 F.base)∧w'=w:=by
 obtain ⟨k,_⟩:=h.vcells
 have hw:=h.fok.workers
 have h1:IntKind.i64.wrap (8* (F.workers:Int))=8* (F.workers:Int):=by rw[IntKind.wrap_i64];omega
 have h2:IntKind.i64.wrap (17+8* (F.workers:Int))=17+8* (F.workers:Int):=by rw[IntKind.wrap_i64];omega
 clear h hw
 unfold Fixed.base
 exact m114
theorem kthreads_any (h:KernP F w own G M n):Calls Tryz.prog 36 #[.pointer (some ⟨G.K,0,none⟩)] w fun e w'=> ∃v,e= .returned v∧w'.ownsRow w.heap.size 100 7 v (allT M.tab).length (thrC (allT M.tab))∧Below w.heap.size w w':=by
 obtain ⟨_,_,_,_,_,kt,_⟩:=h.kcells
 obtain ⟨gt,N,hP,-⟩:=h.tab
 have HN:=Lib.hid (tall_any hP)
 clear h hP
 go_enter Tryz.func36,Tryz.ntmps36
 go_wp2_with fail
 refine HN.out.mono ?_
 rintro e w1 ⟨v,rfl,hr,hb⟩
 obtain ⟨A,c,rfl⟩:=Asm.own_shape hr
 have HR:=Lib.hid (And.intro hr hb)
 clear hr hb
 go_wp2_with fail
 go_ret
 exact ⟨_,rfl,HR.out.1,HR.out.2⟩
def wk5 (k:Wkr):Value:= .agg #[.int .u64 k.slot, .int .u64 k.hand, .bool k.parked, .int .i64 k.f.pc, .int .i64 k.left]
def wkz:Value:= .agg #[.int .u64 0, .int .u64 0, .bool false, .int .i64 0, .int .i64 0]
theorem kworker_no (h:KernP F w own G M n) (i:Int) (hi:i<0∨(0≤i∧(F.workers:Int)≤i)):Calls Tryz.prog 55 #[.pointer (some ⟨G.K,0,none⟩), .int .i64 i] w fun e w'=>e= .returned (.tuple #[wkz, .bool false])∧Below w.heap.size w w':=by
 obtain ⟨k,_⟩:=h.vcells
 have hK:=h.klt
 clear h
 rcases hi with hi|⟨h1,h2⟩
 all_goals
  go_enter Tryz.func55,Tryz.ntmps55
  go_wp2_with fail
  refine bodyPost_ret (v:= .tuple #[wkz, .bool false]) (by simp[results,Tryz.results55,go_sem,wkz]) rfl ⟨rfl,?_⟩
  exact (Below.refl _ _).alloc (Nat.le_refl _) _
theorem kworker_any (h:KernP F w own G M n) {i:Nat} (hi:i<F.workers):Calls Tryz.prog 55 #[.pointer (some ⟨G.K,0,none⟩), .int .i64 (i:Int)] w fun e w'=>e= .returned (.tuple #[wk5 (wkrOf M i), .bool true])∧Below w.heap.size w w':=by
 obtain ⟨k,_⟩:=h.vcells
 have hK:=h.klt
 obtain ⟨x0,x1,x2,x3,xf⟩:=h.wk_cells hi
 obtain ⟨P,S,bv,h1,h2,h3,h4⟩:=h.wk.at (h.wlen hi)
 have x4:w.cell? ⟨G.gW,i*38+4,none⟩=some (.int .i64 (wkrOf M i).f.pc):=by
  rw[blk_cell h1.lens.obj,List.getElem?_toArray,List.append_assoc,List.append_assoc,List.getElem?_append_right (by omega),h2,Nat.add_sub_cancel_left]
  rfl
 have hg:=blk_in h1.lens.obj
 have hw:=h.fok.workers
 have hiI:(0:Int)≤(i:Int)∧(i:Int)<(F.workers:Int):=by omega
 clear h h1 h2 h3 h4
 generalize wkrOf M i=r at*
 go_enter Tryz.func55,Tryz.ntmps55
 go_wp2_with fail
 go_region
 go_wp2_with fail
 refine bodyPost_ret (v:= .tuple #[wk5 r, .bool true]) (by simp[results,Tryz.results55,go_sem,wk5]) rfl ⟨rfl,?_⟩
 exact dn_below ((Below.refl _ _).alloc (Nat.le_refl _) _) 1
end
end Go.Proofs.YtaangaogmnlljaaGreatDoor.Kn
