/- Part 10 of what the proof stands on: KnUsed. -/
import Derived.LoopIn
import Derived.LoopNIn
import Derived.OwnWalkIn
import Derived.RangeFuncBound
import Derived.RangeFuncCalls
import Derived.RangeFuncFrom
import Derived.RangeFuncLeaves
import Derived.RangeFuncNested
import Derived.Shelf.Abstract
import Derived.Shelf.RegionOpen
import Derived.TacticsInMore
import Derived.WalkKit
import Derived.Test.YtaangaogmnlljaaGreatDoorP02
import Derived.Test.YtaangaogmnlljaaGreatDoorP08
import Derived.Test.YtaangaogmnlljaaGreatDoorP09
set_option linter.unusedVariables false
namespace Go.Proofs.YtaangaogmnlljaaGreatDoor.Kn
open Go.RowKit Go.Maps Asm
attribute [local go_sem] Oper.semAt_some
theorem wpListIn_append_run {F:Fence} {n:Nat} {P:Program} {w:World} {ops:Array Oper} {rest:List Oper} {o:Oper} {a:Act} {Q:Exit→Act→World→Prop}
  (hg:o.guard=none) (s x:Operand) (t:TypeId) (hop:o.op=Op.call { callee:=Callee.builtin Builtin.append,args:=#[s,x],argTypes:=#[t,t]}) {v u v':Value} {w':World} (hs:a.eval s=v) (hx:a.eval x=u)
  (hrun:(Builtin.append_ #[t,t] o.type #[v,u]).run P w= .ok v' w') (hK:wpListIn F n P ops Q rest (a.put o.dst v') w'):wpListIn F n P ops Q (o::rest) a w:=by
 refine wpListIn_plain hg fun K hK'=>?_
 unfold Oper.wpIn
 refine ⟨?_,?_⟩
 ·simp[Oper.about,hop,resolve,Target.leads,Sem.run_pure]
 ·rw[Oper.semAt_plain F _ _ (by rw[hop];intro c hc';cases hc')]
  simp[execOp,hop,resolve,invoke,builtin,hs,hx,hrun,Result.andThen]
  exact hK' _ _ hK
theorem copy_new {W:World} {t e:TypeId} {i:TypeInfo} {z:Value} {size bytes:Nat} (ht:Tryz.prog.underlying t=some (.slice e)) (hi:Tryz.prog.info? e=some i) (hz:i.zero=some z) (hsize:i.size=size) (hby:i.bytes=bytes) (hzs:z.cells.size=size) (hsz:0<size)
  {v:Value} {b2 m:Nat} {ys:List Value} (h:W.ownsRow b2 e size v m ys) (h1: ∀u∈ys,u.oneCell'=true) (hm:m≤maxLen) (hb:m*bytes≤140737488355328):
  ∃A c w1,(Builtin.append_ #[t,t] t #[.slice (some ⟨W.heap.size,0,none⟩) 0 0,v]).run Tryz.prog (W.alloc (.cells #[] e))= .ok (.slice A m c) w1∧w1.ownsRow W.heap.size e size (.slice A m c) m ys∧Below W.heap.size W w1:=by
 have hE:(W.alloc (.cells #[] e)).ownsRow W.heap.size e size (.slice (some ⟨W.heap.size,0,none⟩) 0 0) 0 []:=Go.Proofs.YtaangaogmnlljaaGreatDoor.own_empty W W.heap.size e size (Nat.le_refl _)
 have hY:(W.alloc (.cells #[] e)).ownsRow b2 e size v m ys:=Asm.ownsRow_of_block h fun k hk=>Below.heap_alloc _ _ _ (h.lt k hk).2
 obtain ⟨v',w1,q1,q2,q3,-⟩:=Go.Proofs.YtaangaogmnlljaaGreatDoor.app_row (P:=Tryz.prog) W.heap.size t t e i z size bytes ht hi hz hsize hby hzs hsz hE hY h1 (by omega) (by rw[Nat.zero_add];exact hb) (by simp)
 rw[Nat.zero_add,List.nil_append] at q2
 obtain ⟨A,c,rfl⟩:=Asm.own_shape q2
 exact ⟨A,c,w1,q1,q2,((Below.refl _ W).alloc (Nat.le_refl _) _).grown q3 (by simp) (fun k e=>by cases e;exact Nat.le_refl _)⟩
theorem row_cur {w:World} {base:Nat} {e:TypeId} {size n:Nat} {v:Value} {xs:List Value} (h:w.ownsRow base e size v n xs) (h0:0<n): ∃g c cur,v= .slice (some ⟨g,0,none⟩) n c∧base≤g∧w.heap[g]?=some (.cells cur e (0,0)):=by
 rcases h.2 with ⟨-,q⟩ |⟨g,c,cur,q1,q2,q3,-⟩
 ·omega
 ·exact ⟨g,c,cur,q1,q2,q3⟩
theorem blk_of_cell {w:World} {b i:Nat} {v:Value} (h:w.cell? ⟨b,i,none⟩=some v):b<w.heap.size:=by
 rcases Nat.lt_or_ge b w.heap.size with h1|h1
 ·exact h1
 ·simp[World.cell?,Array.getElem?_eq_none h1] at h
def encB (x:Blk):Array Value:=#[.agg #[.int .i64 x.pos, .int .i64 x.n, .int .i64 x.w]]
set_option maxRecDepth 100000 in
set_option maxHeartbeats 4000000 in
theorem blocks1_in (n:Nat) (hn:1≤n) (l0 Bh A X:Nat) (v:Value) (a:Alc) (hl:a.l.length≤65536) (n0:Nat) (J Jx:List Blk→World→Prop)
  (W:World) (hJ:AbidesFrom W.heap.size J) (hn0:n0≤W.heap.size)
  (hY: ∀pre x W1,J pre W1→pre.length<a.l.length→YieldAt Fence.wide (n - 1) Tryz.prog l0 (encB x) W1 fun e W'=>
   (e= .returned (.bool true)∧J (pre++ [x]) W'∧CellsKeep n0 W1 W')∨(e= .returned (.bool false)∧Jx (pre++ [x]) W'))
  (hBh:W.cell? ⟨Bh,0,none⟩=some (.pointer (some ⟨A,0,none⟩))) (hR:AlcP W A X v a) (h0:J [] W):
  CallsIn Fence.wide n Tryz.prog 213 #[.func (.yield l0) #[] #[], .pointer (some ⟨Bh,0,none⟩)] W fun e W'=>(∃v,e= .returned v)∧
   ((∃xs,xs=a.l∧J xs W')∨(∃pre,pre<+:a.l∧Jx pre W')):=by
 obtain ⟨i3,hi3,hz3,hs3,hb3⟩:=info_parts info345
 obtain ⟨m,hm⟩: ∃m,m=a.l.length:=⟨_,rfl⟩
 have hrow:=hR.row
 rw[←hm] at hrow hl hY
 obtain ⟨A0,c0,hv⟩:=Asm.own_shape hrow
 obtain ⟨A1,c1,w1,hrun,hrow1,hbel⟩:=copy_new (t:=425) Tryz.underlying425 hi3 hz3 hs3 hb3 rfl (by decide) hrow (blkC_one _) (by unfold maxLen;omega) (by omega)
 have hA3:W.cell? ⟨A,3,none⟩=some v:=blk_cell hR.obj 3
 have hAl:=hR.lt
 have hBl:=blk_of_cell hBh
 subst hv
 have hmI:(m:Int)≤65536:=by omega
 have hJ1:J [] w1:=hJ [] W w1 none h0 ⟨hbel.os,hbel.tape,hbel.output,hbel.size,fun k hk _=>hbel.block k hk⟩ (fun r e=>by cases e)
 have HRun:=Lib.hid hrun
 have HY:=Lib.hid hY
 have HJ:=Lib.hid hJ
 have HM:=Lib.hid hm
 have HR1:=Lib.hid hrow1
 have HJ1:=Lib.hid hJ1
 have HN:=Lib.hid (Nat.le_trans hn0 (Nat.le_refl _))
 have hcur:0<m→ ∃g cur,A1=some ⟨g,0,none⟩∧n0≤g∧w1.heap[g]?=some (.cells cur 308 (0,0))∧W.heap.size≤g:=fun hp=>by
  obtain ⟨g,c,cur,q1,q2,q3⟩:=row_cur hrow1 hp
  injection q1 with q1
  exact ⟨g,cur,q1,by omega,q3,q2⟩
 have HCur:=Lib.hid hcur
 clear hrun hY hJ hm hrow1 hl hrow hbel hJ1 hcur hR h0
 refine callsIn_of_wp Tryz.func213 rfl trivial ?_ rfl
 simp only[Tryz.ntmps213,List.size_toArray,List.length_cons,List.length_nil,Nat.reduceAdd,Nat.reduceSub,Array.replicate_succ,Array.replicate_zero,List.push_toArray,List.append_toArray,List.nil_append,List.cons_append]
 gi_wp2_with (gi_at_builtin;refine wpListIn_append_run rfl (.tmp 5) (.tmp 9) 425 rfl rfl rfl HRun.out ?_)
 gi_loopw [12] (fun i wr=> ∃k:Nat,k≤m∧i= .int .i64 k∧Hid (J (a.l.take k) wr)∧Hid (∀g,A1=some ⟨g,0,none⟩→W.heap.size≤g→wr.heap[g]?=w1.heap[g]?∧(g<w1.heap.size→g<wr.heap.size))) (fun i _=>m - (intOf i).toNat)
 case atStart=>exact ⟨0,by omega,rfl,Lib.hid (by rw[List.take_zero];exact HJ1.out),Lib.hid fun g _ _=>⟨rfl,fun h=>h⟩⟩
 case round=>
  obtain ⟨k,hk,rfl,HJk,HBk⟩:=hrel
  by_cases hlt:k<m
  ·obtain ⟨g,cur,rfl,hg0,hcur,hgW⟩:=HCur.out (by omega)
   obtain ⟨hb1,hbl⟩:=HBk.out g rfl hgW
   have hbl:=hbl (blk_in hcur)
   have hkl:k<a.l.length:=by rw[←HM.out];exact hlt
   obtain ⟨y0,y1,y2⟩:=blkC_at hkl
   have hx:bAt a.l k=a.l[k]:=by unfold bAt;rw[List.getD_eq_getElem?_getD,List.getElem?_eq_getElem hkl];rfl
   have cell: ∀j u,(blkC a.l)[j]?=some u→wr.cell? ⟨g,j,none⟩=some u:=fun j u hu=>(World.cell?_of_block (w:=w1) (a:=⟨g,j,none⟩) hb1).trans (by
    have:=HR1.out.cells rfl j _ hu
    rwa[Addr.add_lit,Nat.zero_add] at this)
   have d0:=cell _ _ y0
   have d1:=cell _ _ y1
   have d2:=cell _ _ y2
   have hsnoc:a.l.take (k+1)=a.l.take k++ [bAt a.l k]:=by rw[List.take_add_one,List.getElem?_eq_getElem hkl,hx];rfl
   generalize bAt a.l k=x at d0 d1 d2 hsnoc
   have HSn:=Lib.hid hsnoc
   obtain ⟨xp,xn,xw⟩:=x
   dsimp only at d0 d1 d2
   have hJ':J (a.l.take k) (wr.alloc (.cells #[.int .i64 xp, .int .i64 xn, .int .i64 xw] 308)):=HJ.out _ wr _ none HJk.out (World.grownBy_alloc wr _ none) (fun r e=>by cases e)
   obtain ⟨fn,tmps,assign,body,hy,hR⟩:=HY.out (a.l.take k) ⟨xp,xn,xw⟩ _ hJ' (by rw[List.length_take,←HM.out];omega)
   unfold encB at hy
   dsimp only at hy
   have HR:=Lib.hid hR
   have hkI:(k:Int)<(m:Int):=by omega
   clear y0 y1 y2 hx hsnoc hJ' hR cell hA3
   gi_wp2_with fail
   refine HR.out.mono ?_
   rintro e w4 (⟨rfl,hJ3,hk3⟩ |⟨rfl,hJx3⟩)
   ·have h1:(wr.alloc (.cells #[.int .i64 xp, .int .i64 xn, .int .i64 xw] 308)).heap[g]?=some (.cells cur 308 (0,0)):=(Below.heap_alloc _ _ _ hbl).trans (hb1.trans hcur)
    have hb4:w4.heap[g]?=w1.heap[g]?:=by rw[hk3.2 g _ _ _ hg0 h1,hcur]
    have hs4:g<w4.heap.size:=blk_in (hb4.trans hcur)
    have HJ3:=Lib.hid hJ3
    have HB4:=Lib.hid hb4
    clear hJ3 hk3 hb4 h1
    gi_wp2
    go_roundw
    case rel=>exact ⟨k+1,by omega,by go_num,Lib.hid (by rw[HSn.out];exact HJ3.out),Lib.hid fun g2 e _=>by injection e with e;injection e with e;subst e;exact ⟨HB4.out,fun _=>hs4⟩⟩
    case measure=>simp[intOf];omega
   ·gi_wp2
    refine bodyPost_ret (results_none rfl _ _ _) rfl ?_
    refine ⟨⟨_,rfl⟩, .inr ⟨_,?_,hJx3⟩⟩
    rw[←HSn.out]
    exact List.take_prefix _ _
  ·obtain rfl:k=m:=by omega
   gi_wp2
   go_end0
   refine ⟨⟨_,rfl⟩, .inl ⟨_,rfl,?_⟩⟩
   have:=HJk.out
   rwa[List.take_of_length_le (by rw[←HM.out];exact Nat.le_refl _)] at this
theorem blocks_in (n:Nat) (a:Addr) (w:World):
  CallsIn Fence.wide n Tryz.prog 144 #[.pointer (some a)] w fun e w'=>e= .returned (.func (.func 213) #[] #[.pointer (some ⟨w.heap.size,0,none⟩)])∧w.alloc (.cells #[.pointer (some a)] 150)=w':=by
 refine callsIn_of_wp Tryz.func144 rfl trivial ?_ rfl
 simp only[Tryz.ntmps144,List.size_toArray,List.length_cons,List.length_nil,Nat.reduceAdd,Nat.reduceSub,Array.replicate_succ,Array.replicate_zero,List.push_toArray,List.append_toArray,List.nil_append,List.cons_append]
 gi_wp2
 go_ret
 exact ⟨rfl,rfl⟩
theorem blocks_stops (n:Nat) (hn:1≤n) (Bh A X:Nat) (v:Value) (a:Alc) (hl:a.l.length≤65536) (n0:Nat) (w:World) (hn0:n0≤w.heap.size)
  (hBh:w.cell? ⟨Bh,0,none⟩=some (.pointer (some ⟨A,0,none⟩))) (hBl:Bh<w.heap.size) (hR:AlcP w A X v a):
  SeqStopsK Fence.wide n Tryz.prog 213 #[.pointer (some ⟨Bh,0,none⟩)] encB (CellsKeep n0) (fun xs=>xs=a.l) (fun pre=>pre<+:a.l) a.l.length w:=fun l0 J Jx W hW hJ _ hY h0=>
 blocks1_in n hn l0 Bh A X v a hl n0 J Jx W hJ (Nat.le_trans hn0 hW.size) hY ((hW.cell (p:=⟨Bh,0,none⟩) hBl).trans hBh) (hR.of_blocks fun k hk=>hW.block k (by
  rcases hk with rfl|hk
  ·exact hR.lt
  ·exact (hR.row.lt k hk).2)) h0
theorem wrap_64 (x:Int):IntKind.i64.wrap x=wrap64 x:=by rw[IntKind.wrap_i64];unfold wrap64;first|rfl|omega
def sumB (l:List Blk):Int:=l.foldl (fun s x=>IntKind.i64.wrap (s+(x.n:Int))) 0
theorem sumB_app (l:List Blk) (x:Blk):sumB (l++ [x])=IntKind.i64.wrap (sumB l+(x.n:Int)):=by simp[sumB,List.foldl_append]
theorem sumB_from: ∀(l:List Blk) (s:Nat),s+(l.map (·.n)).sum≤4000000000→l.foldl (fun s x=>IntKind.i64.wrap (s+(x.n:Int))) (s:Int)=((s+(l.map (·.n)).sum:Nat):Int)
 |[],s,_=>by simp
 |x::l,s,h=>by
  rw[List.map_cons,List.sum_cons] at h
  rw[List.foldl_cons,List.map_cons,List.sum_cons]
  have e:IntKind.i64.wrap ((s:Int)+(x.n:Int))=((s+x.n:Nat):Int):=by rw[IntKind.wrap_i64];omega
  rw[e,sumB_from l (s+x.n) (by omega)]
  congr 1
  omega
theorem sumB_used {a:Alc} (h:usedA a≤4000000000):sumB a.l=(usedA a:Int):=by
 have:=sumB_from a.l 0 (by unfold usedA at h;omega)
 unfold sumB usedA
 simpa using this
set_option maxRecDepth 100000 in
set_option maxHeartbeats 4000000 in
theorem used_in (n:Nat) (hn:4≤n) {w:World} {A X:Nat} {v:Value} {a:Alc} (hR:AlcP w A X v a) (hl:a.l.length≤65536) (hu:usedA a≤4000000000):
  CallsIn Fence.wide n Tryz.prog 70 #[.pointer (some ⟨A,0,none⟩)] w fun e w'=>e= .returned (.int .i64 (usedA a:Int))∧Below w.heap.size w w':=by
 have h1:1≤n:=by omega
 have hAl:=hR.lt
 refine callsIn_of_wp_marks Tryz.func70 rfl trivial ?_ rfl
 simp only[Tryz.ntmps70,List.size_toArray,List.length_cons,List.length_nil,Nat.reduceAdd,Nat.reduceSub,Array.replicate_succ,Array.replicate_zero,List.push_toArray,List.append_toArray,List.nil_append,List.cons_append]
 gi_wp2_with fail
 refine ⟨trivial,?_⟩
 refine (blocks_in (n - 1) _ _).mono ?_
 rintro e w' ⟨rfl,rfl⟩
 gi_wp2
 have hB0:Below w.heap.size w ((w.alloc (.cells #[.int .i64 0] 3)).alloc (.cells #[.pointer (some ⟨A,0,none⟩)] 150)):=((Below.refl _ w).alloc (Nat.le_refl _) _).alloc (by simp) _
 have hc0:((w.alloc (.cells #[.int .i64 0] 3)).alloc (.cells #[.pointer (some ⟨A,0,none⟩)] 150)).cell? ⟨w.heap.size,0,none⟩=some (.int .i64 0):=by
  rw[World.cell?_alloc_lt _ _ ⟨w.heap.size,0,none⟩ (by simp)];exact World.cell?_alloc_at _ _ _ _ rfl
 have hf0:((w.alloc (.cells #[.int .i64 0] 3)).alloc (.cells #[.pointer (some ⟨A,0,none⟩)] 150)).frozen? ⟨w.heap.size,0,none⟩=false:=by
  rw[World.frozen?_alloc_old _ _ ⟨w.heap.size,0,none⟩ (by simp)];exact World.frozen?_alloc_at _ _ _ _ rfl
 have hc1:((w.alloc (.cells #[.int .i64 0] 3)).alloc (.cells #[.pointer (some ⟨A,0,none⟩)] 150)).cell? ⟨w.heap.size+1,0,none⟩=some (.pointer (some ⟨A,0,none⟩)):=World.cell?_alloc_at _ _ _ _ (by simp)
 have hR2:AlcP ((w.alloc (.cells #[.int .i64 0] 3)).alloc (.cells #[.pointer (some ⟨A,0,none⟩)] 150)) A X v a:=hR.of_blocks fun k hk=>hB0.block k (by
  rcases hk with rfl|hk
  ·exact hAl
  ·exact (hR.row.lt k hk).2)
 refine wpIn_rangeFunc_ownH rfl h1 (gf:=213) (lb:=#[.pointer (some ⟨w.heap.size+1,0,none⟩)]) rfl trivial (enters_of Tryz.func213 (by kernel_rfl) rfl)
  (blocks_stops (n - 1) (by omega) (w.heap.size+1) A X v a hl (w.heap.size+2) _ (by simp) hc1 (by simp) hR2) (fun h k=>CellsKeep.t h k) (fun W l o o' hl h ho hw=>CellsKeep.b W l o o' hl h ho hw) (Below.refl _ _) (fun _=>rfl)
  (fun pre W=>(W.cell? ⟨w.heap.size,0,none⟩=some (.int .i64 (sumB pre))∧W.frozen? ⟨w.heap.size,0,none⟩=false)∧Below w.heap.size w W)
  (fun _ _ _=>False)
  (OwnFrom.and (Own.from (fun s A B row hs hg hr=>⟨cell_kept hs.1 hg hr,(frozen_kept hs.1 hg hr).trans hs.2⟩) _) (ownFrom_below (Nat.le_refl _) (by simp;omega)))
  (fun _ _ _ _ _ hs _ _=>hs)
  ⟨⟨hc0,hf0⟩,hB0⟩
  (fun x a' W=> ∃bx,w.heap.size<bx∧W.heap[bx]?=some (.cells #[.int .i64 x.pos, .int .i64 x.n, .int .i64 x.w] 308 (0,0))∧a'={ tmps:=#[.pointer (some ⟨A,0,none⟩),undef, .int .i64 0, .pointer (some ⟨w.heap.size,0,none⟩), .pointer (some ⟨bx,0,none⟩), .pointer (some ⟨A,0,none⟩), .func (.func 213) #[] #[.pointer (some ⟨w.heap.size+1,0,none⟩)], .agg #[.int .i64 x.pos, .int .i64 x.n, .int .i64 x.w],undef,undef,undef,undef,undef],defers:= []})
  (fun x a' _ X Y row ⟨bx,q1,q2,q3⟩ hg hr=>⟨bx,q1,(hg.block bx (blk_in q2) (fun e=>by obtain ⟨-,o,ho,hc⟩:=hr bx e.symm;rw[q2] at ho;cases ho;cases hc)).trans q2,q3⟩)
  ?assign ?body ?done ?stop
 case assign=>
  rintro l pre x W K ⟨⟨hc,hf⟩,hB⟩ hK
  have e:(#[7]:Array Nat).zip (encB x)=#[(7, .agg #[.int .i64 x.pos, .int .i64 x.n, .int .i64 x.w])]:=by kernel_rfl
  have hbl:w.heap.size<W.heap.size:=blk_of_cell hc
  rw[e]
  gi_wp2
  refine hK _ _ ((KeepsOthers.alloc _ _).from _) ⟨by simp,fun k c t fr hk hcc=>(Below.heap_alloc _ _ _ (blk_in hcc)).trans hcc⟩ ⟨⟨?_,?_⟩,hB.alloc hB.size _⟩ ⟨_,hbl,heap_alloc_new W _,rfl⟩
  ·rw[World.cell?_alloc_lt _ _ ⟨w.heap.size,0,none⟩ hbl];exact hc
  ·rw[World.frozen?_alloc_old _ _ ⟨w.heap.size,0,none⟩ (by show w.heap.size≠W.heap.size;omega)];exact hf
 case body=>
  rintro l1 pre x a' W hl1 ⟨r,hlr⟩ ⟨⟨hc,hf⟩,hB⟩ ⟨bx,hbx,hbo,rfl⟩ hpre
  have hsn:=sumB_app pre x
  obtain ⟨xp,xn,xw⟩:=x
  dsimp only at hsn hbo
  generalize sumB pre=q at hc hsn
  have HB:=Lib.hid hB
  have HS:=Lib.hid hsn
  have d1:W.cell? ⟨bx,1,none⟩=some (.int .i64 (xn:Int)):=blk_cell hbo 1
  have hbl:w.heap.size<W.heap.size:=blk_of_cell hc
  have hbl2:=blk_in hbo
  clear hpre hB hsn hbo hlr
  gi_wp2
  refine ⟨(KeepsOthers.setCell _ _ _).from _,⟨by simp[World.setCell],fun k c t fr hk hcc=>(Below.heap_setCell _ _ _ _ (by show k≠w.heap.size;omega)).trans hcc⟩,⟨?_,by rw[World.frozen?_setCell];exact hf⟩,HB.out.setCell (p:=⟨w.heap.size,0,none⟩) (Nat.le_refl _) _⟩
  rw[HS.out,wrap_64]
  exact World.cell?_setCell_same' _ _ _ (by rw[hc];rfl)
 case done=>
  rintro D ys W hD rfl ⟨⟨hc,hf⟩,hB⟩ hK
  rw[sumB_used hu] at hc
  gi_wp2
  refine ⟨by simp, .inl ⟨_,_,rfl,run_takeDeferred hK,?_⟩⟩
  exact ⟨_,results_tmp rfl _ _ _,rfl,hB.trans (belowK_b (w:=w) (Nat.le_refl _) W D _ _ (by simp at hD;omega) hK rfl rfl)⟩
 case stop=>
  rintro D c pre W _ _ h _
  exact h.elim
end Go.Proofs.YtaangaogmnlljaaGreatDoor.Kn
