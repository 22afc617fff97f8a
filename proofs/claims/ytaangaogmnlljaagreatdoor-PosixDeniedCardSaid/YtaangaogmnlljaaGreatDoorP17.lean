/- Part 17 of what the proof stands on: KnHnd. -/
import Derived.Lib.AppendZeros
import Derived.Test.YtaangaogmnlljaaGreatDoorP10
import Derived.Test.YtaangaogmnlljaaGreatDoorP15
set_option linter.unusedVariables false
namespace Go.Proofs.YtaangaogmnlljaaGreatDoor.Kn
open Go.RowKit Go.Maps Asm
attribute [local go_sem] Oper.semAt_some
theorem infoOr:(Tryz.prog.info? 304).map (fun i=>(i.zero,i.size,i.bytes))=some (some (.agg #[.int .u64 0, .int .u64 0, .int .i64 0, .int .u64 0]),4,32):=by kernel_rfl
theorem objC_one (l:List ORow): ∀u∈objC l,u.oneCell'=true:=fun u hu=>by
 obtain ⟨e,-,h⟩:=List.mem_flatMap.1 hu
 simp[or4] at h
 rcases h with rfl|rfl|rfl|rfl<;>rfl
theorem objC_len' (l:List ORow):(objC l).length=l.length*4:=flL_len (k:=4) (f:=or4) (fun _=>rfl) l
theorem ObjP.rowO {w:World} {O go:Nat} {l:List ORow} {N:Nat} (h:ObjP w O go l N):w.ownsRow 0 304 4 (.slice (some ⟨go,0,none⟩) 64 64) 64 (objC l):=by
 have hl:(objC l).length=64*4:=by rw[objC_len',h.ok.len]
 exact ⟨hl, .inr ⟨go,64,(objC l).toArray,rfl,Nat.zero_le _,h.row,Nat.le_refl _,by unfold maxLen;omega,by rw[List.size_toArray,hl],by rw[List.take_of_length_le (by rw[←hl];exact Nat.le_refl _)]⟩⟩
def encO (x:Int×Int):Array Value:=#[.int .u64 x.1, .int .u64 x.2]
set_option maxRecDepth 100000 in
set_option maxHeartbeats 4000000 in
theorem obj1_in (n:Nat) (l0 Bh O go:Nat) (l:List ORow) (N:Nat) (hz: ∀r∈l,r.handle=0) (J Jx:List (Int×Int)→World→Prop)
  (W:World) (hJ:AbidesFrom W.heap.size J)
  (hBh:W.cell? ⟨Bh,0,none⟩=some (.pointer (some ⟨O,0,none⟩))) (hR:ObjP W O go l N) (h0:J [] W):
  CallsIn Fence.wide n Tryz.prog 143 #[.func (.yield l0) #[] #[], .pointer (some ⟨Bh,0,none⟩)] W fun e W'=>(∃v,e= .returned v)∧
   ((∃xs,xs= []∧J xs W')∨(∃pre,False∧Jx pre W')):=by
 obtain ⟨i3,hi3,hz3,hs3,hb3⟩:=info_parts infoOr
 obtain ⟨A1,c1,w1,hrun,hrow1,hbel⟩:=copy_new (t:=300) Tryz.underlying300 hi3 hz3 hs3 hb3 rfl (by decide) hR.rowO (objC_one _) (by unfold maxLen;omega) (by omega)
 have hA3:W.cell? ⟨O,0,none⟩=some (.slice (some ⟨go,0,none⟩) 64 64):=blk_cell hR.obj 0
 have hOl:=hR.lt.1
 have hBl:=blk_of_cell hBh
 obtain ⟨g,c,cur,hg1,hg2,hg3⟩:=row_cur hrow1 (by decide)
 injection hg1 with hg1 _ hg4
 subst hg1 hg4
 have HRun:=Lib.hid hrun
 have HJ:=Lib.hid hJ
 have HR1:=Lib.hid hrow1
 have HJ0:=Lib.hid h0
 have HBel:=Lib.hid hbel
 have HZ:=Lib.hid hz
 have HLen:=Lib.hid hR.ok.len
 have hgl:=blk_in hg3
 clear hrun hJ hrow1 hR h0 hbel hz
 refine callsIn_wide.2 ?_
 go_enter Tryz.func143,Tryz.ntmps143
 go_wp2_with (at_builtin;refine Go.Lib.wpList_append_run _ rfl (.tmp 5) (.tmp 9) 300 300 rfl _ _ rfl rfl _ _ HRun.out ?_)
 go_loopg [12] 64 (fun q iv wr=> ∃k:Nat,k≤64∧q=64 - k∧iv= .int .i64 (k:Int)∧Hid (Below w1.heap.size w1 wr))
 case atStart=>exact ⟨0,by omega,rfl,rfl,Lib.hid (Below.refl _ _)⟩
 case round=>
  obtain ⟨k,hk,hq,rfl,HB⟩:=hrel
  have hkI:(0:Int)≤(k:Int)∧(k:Int)≤64:=by omega
  by_cases hlt:k<64
  ·have hltI:(k:Int)<64:=by omega
   have hkl:k<l.length:=by rw[HLen.out];exact hlt
   have hh:=HZ.out _ (List.getElem_mem hkl)
   have X: ∀j,j<4→wr.cell? ⟨g,k*4+j,none⟩=(or4 l[k])[j]?:=fun j hj=>by
    have e:=flL_at (k:=4) (f:=or4) (fun _=>rfl) l k hkl j hj
    obtain ⟨u,hu⟩: ∃u,(or4 l[k])[j]?=some u:=⟨(or4 l[k])[j]'(by simpa[or4] using hj),List.getElem?_eq_getElem _⟩
    have h1:=HR1.out.cells rfl (k*4+j) u (e.trans hu)
    rw[Addr.add_lit,Nat.zero_add] at h1
    rw[hu]
    exact (HB.out.cell (p:=⟨g,k*4+j,none⟩) hgl).trans h1
   generalize l[k]=r at X hh
   obtain ⟨rt,rh,rk,ra⟩:=r
   simp only at hh
   subst hh
   have x0:wr.cell? ⟨g,k*4,none⟩=some (.int .u64 rt):=X 0 (by decide)
   have x1:wr.cell? ⟨g,k*4+1,none⟩=some (.int .u64 0):=X 1 (by decide)
   have x2:wr.cell? ⟨g,k*4+2,none⟩=some (.int .i64 rk):=X 2 (by decide)
   have x3:wr.cell? ⟨g,k*4+3,none⟩=some (.int .u64 ra):=X 3 (by decide)
   have Hq:=Lib.hid hq
   clear X hq
   go_wp2_with fail
   go_roundg (64 - (k+1))
   case measure=>have:=Hq.out;omega
   case rel=>exact ⟨k+1,by omega,rfl,by go_num,Lib.hid (HB.out.alloc HB.out.size _)⟩
  ·obtain rfl:k=64:=by omega
   go_wp2_with fail
   go_end0
   have hB:Below W.heap.size W wr:=HBel.out.trans (HB.out.mono HBel.out.size)
   exact ⟨⟨_,rfl⟩, .inl ⟨_,rfl,HJ.out [] W wr none HJ0.out ⟨hB.os,hB.tape,hB.output,hB.size,fun k hk _=>hB.block k hk⟩ (fun r e=>by cases e)⟩⟩
theorem oall_in (n:Nat) (a:Addr) (w:World):
  CallsIn Fence.wide n Tryz.prog 69 #[.pointer (some a)] w fun e w'=>e= .returned (.func (.func 143) #[] #[.pointer (some ⟨w.heap.size,0,none⟩)])∧w.alloc (.cells #[.pointer (some a)] 155)=w':=by
 refine callsIn_of_wp Tryz.func69 rfl trivial ?_ rfl
 simp only[Tryz.ntmps69,List.size_toArray,List.length_cons,List.length_nil,Nat.reduceAdd,Nat.reduceSub,Array.replicate_succ,Array.replicate_zero,List.push_toArray,List.append_toArray,List.nil_append,List.cons_append]
 gi_wp2
 go_ret
 exact ⟨rfl,rfl⟩
theorem obj_stops (n:Nat) (Bh O go:Nat) (l:List ORow) (N:Nat) (hz: ∀r∈l,r.handle=0) (n0:Nat) (w:World)
  (hBh:w.cell? ⟨Bh,0,none⟩=some (.pointer (some ⟨O,0,none⟩))) (hBl:Bh<w.heap.size) (hR:ObjP w O go l N):
  SeqStopsK Fence.wide n Tryz.prog 143 #[.pointer (some ⟨Bh,0,none⟩)] encO (CellsKeep n0) (fun xs=>xs= []) (fun _=>False) 0 w:=fun l0 J Jx W hW hJ _ _ h0=>
 obj1_in n l0 Bh O go l N hz J Jx W hJ ((hW.cell (p:=⟨Bh,0,none⟩) hBl).trans hBh) (hR.below hW) h0
section
variable {F:Fixed} {w:World} {own:Own} {G:KG} {M:Mach} {nn:Nat}
set_option maxRecDepth 100000 in
set_option maxHeartbeats 4000000 in
theorem handles_in (n:Nat) (hn:4≤n) (h:KernP F w own G M nn) (hz: ∀r∈M.objs,r.handle=0):
  CallsIn Fence.wide n Tryz.prog 25 #[.pointer (some ⟨G.K,0,none⟩)] w fun e w'=>e= .returned (.slice none 0 0)∧Below w.heap.size w w':=by
 have h1:1≤n:=by omega
 obtain ⟨go,N,hR,-,-⟩:=h.obj
 have kO:w.cell? ⟨G.K,1013,none⟩=some (.pointer (some ⟨G.O,0,none⟩)):=h.kcell fun _ _ hc=>hc.obj
 have hKl:=h.klt
 have hOl:=hR.lt
 refine callsIn_of_wp_marks Tryz.func25 rfl trivial ?_ rfl
 simp only[Tryz.ntmps25,List.size_toArray,List.length_cons,List.length_nil,Nat.reduceAdd,Nat.reduceSub,Array.replicate_succ,Array.replicate_zero,List.push_toArray,List.append_toArray,List.nil_append,List.cons_append]
 gi_wp2_with fail
 refine ⟨trivial,?_⟩
 refine (oall_in (n - 1) _ _).mono ?_
 rintro e w' ⟨rfl,rfl⟩
 gi_wp2
 have hB0:Below w.heap.size w ((w.alloc (.cells #[.slice none 0 0] 48)).alloc (.cells #[.pointer (some ⟨G.O,0,none⟩)] 155)):=((Below.refl _ w).alloc (Nat.le_refl _) _).alloc (by simp) _
 have hc0:((w.alloc (.cells #[.slice none 0 0] 48)).alloc (.cells #[.pointer (some ⟨G.O,0,none⟩)] 155)).cell? ⟨w.heap.size,0,none⟩=some (.slice none 0 0):=by
  rw[World.cell?_alloc_lt _ _ ⟨w.heap.size,0,none⟩ (by simp)];exact World.cell?_alloc_at _ _ _ _ rfl
 have hf0:((w.alloc (.cells #[.slice none 0 0] 48)).alloc (.cells #[.pointer (some ⟨G.O,0,none⟩)] 155)).frozen? ⟨w.heap.size,0,none⟩=false:=by
  rw[World.frozen?_alloc_old _ _ ⟨w.heap.size,0,none⟩ (by simp)];exact World.frozen?_alloc_at _ _ _ _ rfl
 have hc1:((w.alloc (.cells #[.slice none 0 0] 48)).alloc (.cells #[.pointer (some ⟨G.O,0,none⟩)] 155)).cell? ⟨w.heap.size+1,0,none⟩=some (.pointer (some ⟨G.O,0,none⟩)):=World.cell?_alloc_at _ _ _ _ (by simp)
 refine wpIn_rangeFunc_ownF rfl h1 (gf:=143) (lb:=#[.pointer (some ⟨w.heap.size+1,0,none⟩)]) rfl trivial (enters_of Tryz.func143 (by kernel_rfl) rfl)
  (obj_stops (n - 1) (w.heap.size+1) G.O go M.objs N hz (w.heap.size+2) _ hc1 (by simp) (hR.below hB0)) (fun h k=>CellsKeep.t h k) (fun W l o o' hl h ho hw=>CellsKeep.b W l o o' hl h ho hw) (Below.refl _ _) (fun _=>rfl)
  (fun _ W=>(W.cell? ⟨w.heap.size,0,none⟩=some (.slice none 0 0)∧W.frozen? ⟨w.heap.size,0,none⟩=false)∧Below w.heap.size w W)
  (fun _ _ _=>False)
  (OwnFrom.and (Own.from (fun s A B row hs hg hr=>⟨cell_kept hs.1 hg hr,(frozen_kept hs.1 hg hr).trans hs.2⟩) _) (ownFrom_below (Nat.le_refl _) (by simp;omega)))
  (fun _ _ _ _ _ hs _ _=>hs)
  ⟨⟨hc0,hf0⟩,hB0⟩ ?a1 ?assign ?body ?done ?stop
 case assign=>
  intro l x W K hK
  have e:(#[10,11]:Array Nat).zip (encO x)=#[(10, .int .u64 x.1),(11, .int .u64 x.2)]:=by kernel_rfl
  rw[e]
  gi_wp2
  exact hK
 case body=>
  rintro l1 pre x W - hpre
  exact absurd hpre (Nat.not_lt_zero _)
 case done=>
  rintro D ys W hD rfl ⟨⟨hc,hf⟩,hB⟩ hK
  gi_wp2
  refine ⟨by simp, .inl ⟨_,_,rfl,run_takeDeferred hK,?_⟩⟩
  exact ⟨_,results_tmp rfl _ _ _,rfl,hB.trans (belowK_b (w:=w) (Nat.le_refl _) W D _ _ (by simp at hD;omega) hK rfl rfl)⟩
 case stop=>
  rintro D c pre W _ _ h _
  exact h.elim
theorem handles_any (h:KernP F w own G M nn) (hz: ∀r∈M.objs,r.handle=0):
  Calls Tryz.prog 25 #[.pointer (some ⟨G.K,0,none⟩)] w fun e w'=>e= .returned (.slice none 0 0)∧Below w.heap.size w w':=callsIn_wide.1 (handles_in 4 (by omega) h hz)
set_option maxRecDepth 100000 in
theorem kused_any (h:KernP F w own G M nn) (hu:usedA M.alc≤4000000000) (hl:M.alc.l.length≤65536):
  Calls Tryz.prog 26 #[.pointer (some ⟨G.K,0,none⟩)] w fun e w'=>e= .returned (.int .i64 (usedA M.alc:Int))∧Below w.heap.size w w':=by
 obtain ⟨v,hA,-⟩:=h.alc
 have k8:w.cell? ⟨G.K,1008,none⟩=some (.pointer (some ⟨G.A,0,none⟩)):=h.acell
 have HU:=Lib.hid (callsIn_wide.1 (used_in 4 (by omega) hA hl hu))
 have hKl:=h.klt
 generalize usedA M.alc=u at*
 clear hA h
 go_enter Tryz.func26,Tryz.ntmps26
 go_wp2_with fail
 refine HU.out.mono ?_
 rintro e w1 ⟨rfl,hb⟩
 go_wp2_with fail
 go_ret
 exact ⟨rfl,hb⟩
end
end Go.Proofs.YtaangaogmnlljaaGreatDoor.Kn
