/- Part 30 of what the proof stands on: KnCLib, KnLibOk, KnShA. -/
import Derived.Deep.LoopGhost
import Derived.Test.YtaangaogmnlljaaGreatDoorP02
import Derived.Test.YtaangaogmnlljaaGreatDoorP14
import Derived.Test.YtaangaogmnlljaaGreatDoorP28
import Derived.Test.YtaangaogmnlljaaGreatDoorP29
set_option linter.unusedVariables false
namespace Go.Proofs.YtaangaogmnlljaaGreatDoor.Kn
open Go.RowKit Asm
def SeenIs (w:World) (b:Nat) (D:List Int):Prop:= ∃C:Array Value,w.heap[b]?=some (.cells C 322 (0,0))∧C.size=1000∧ ∀j:Nat,j<1000→C[j]?=some (.bool (decide ((j:Int)∈D)))
theorem SeenIs.cell {w:World} {b:Nat} {D:List Int} (h:SeenIs w b D) {j:Nat} (hj:j<1000):w.cell? ⟨b,j,none⟩=some (.bool (decide ((j:Int)∈D)))∧w.frozen? ⟨b,j,none⟩=false∧b<w.heap.size:=by
 obtain ⟨C,h1,h2,h3⟩:=h
 exact ⟨(blk_cell h1 _).trans (h3 j hj),blk_frozen h1 _,blk_in h1⟩
theorem SeenIs.set {w:World} {b:Nat} {D:List Int} (h:SeenIs w b D) {n:Nat} (hn:n<1000):SeenIs (w.setCell ⟨b,n,none⟩ (.bool true)) b (D++ [(n:Int)]):=by
 obtain ⟨C,h1,h2,h3⟩:=h
 refine ⟨C.setIfInBounds n (.bool true),set_block h1 _,by simp[h2],fun j hj=>?_⟩
 rw[Array.getElem?_setIfInBounds]
 by_cases e:n=j
 ·subst e
  rw[if_pos rfl,if_pos (by omega)]
  simp
 ·rw[if_neg e,h3 j hj]
  have e2: ¬(j:Int)=(n:Int):=by omega
  simp[e2]
theorem SeenIs.block {w w':World} {b:Nat} {D:List Int} (h:SeenIs w b D) (e:w'.heap[b]?=w.heap[b]?):SeenIs w' b D:=by
 obtain ⟨C,h1,h2,h3⟩:=h
 exact ⟨C,e.trans h1,h2,h3⟩
theorem zero1000:Tryz.zeroCells322=(List.replicate 1000 (Value.bool false)).toArray:=by kernel_rfl
theorem seen0 {w:World} {SZ:Array Value} (hSZ:SZ=(List.replicate 1000 (Value.bool false)).toArray):SeenIs (w.alloc (.cells SZ 322)) w.heap.size []:=by
 refine ⟨SZ,heap_alloc_new w _,by rw[hSZ,List.size_toArray,List.length_replicate],fun j hj=>?_⟩
 rw[hSZ,List.getElem?_toArray,List.getElem?_replicate,if_pos hj]
 simp
theorem callC_at {l:List RowL} {i:Nat} (hi:i<l.length) (j:Nat) (hj:j<6):(callC l)[i*6+j]?=(row6 l[i])[j]?:=flL_at (k:=6) (f:=row6) (fun _=>rfl) l i hi j hj
set_option maxRecDepth 100000 in
set_option maxHeartbeats 2000000 in
theorem clib_ok {w:World} {g n c m cr b:Nat} {A:Option Addr} {l:List InsL} {calls:List RowL} {loop:Int} (h:CodeAt w g l) (hg:g<w.heap.size) (hn:n=l.length) (h0:0<l.length) (hl:l.length≤2048) (hmay: ∀x∈l,mayK x l.length true=true) (hlp:0≤loop∧loop<l.length) (hm:m=calls.length) (hm2:m≤999)
  (hrow:w.ownsRow b 184 6 (.slice A m cr) m (callC calls)) (hnod:(calls.map (·.num)).Nodup) (hcalls: ∀r∈calls,1≤r.num∧r.num≤999∧0≤r.pos∧r.pos<l.length∧(0≤r.k0∧r.k0≤7)∧(0≤r.k1∧r.k1≤7)∧(0≤r.k2∧r.k2≤7)∧(0≤r.k3∧r.k3≤7)):
  Calls Tryz.prog 76 #[.agg #[.slice (some ⟨g,0,none⟩) n c, .int .i64 loop, .slice A m cr]] w fun e w'=>e= .returned .nilIface∧Below w.heap.size w w':=by
 have B1:Below w.heap.size w (w.alloc (.cells #[.slice (some ⟨g,0,none⟩) n c, .int .i64 loop, .slice A m cr] 77)):=(Below.refl _ _).alloc (Nat.le_refl _) _
 have HC:=Lib.hid (cchecked_ok (c:=c) (h.below hg B1) (Nat.lt_of_lt_of_le hg B1.size) hn hl hmay)
 have hz:=heap_alloc_new w (.cells #[.slice (some ⟨g,0,none⟩) n c, .int .i64 loop, .slice A m cr] 77)
 have HZ:=Lib.hid hz
 have HB1:=Lib.hid B1
 have hnI:(0:Int)<(n:Int)∧(n:Int)≤2048:=by omega
 have f5:((n:Int)==0)=false:=beq_eq_false_iff_ne.2 (by omega)
 have g5: ¬(n:Int)=0:=by omega
 have HP:=Lib.hid (fun W=>cplace_ok loop (n:Int) W (by omega))
 have HRow:=Lib.hid hrow
 have HNod:=Lib.hid hnod
 have HM:=Lib.hid hm
 have HCa:Hid (∀r∈calls,1≤r.num∧r.num≤999∧0≤r.pos∧r.pos<n∧(0≤r.k0∧r.k0≤7)∧(0≤r.k1∧r.k1≤7)∧(0≤r.k2∧r.k2≤7)∧(0≤r.k3∧r.k3≤7)):=Lib.hid (by rw[hn];exact hcalls)
 have hmI:(0:Int)≤(m:Int)∧(m:Int)≤999:=by omega
 clear h hn hl hmay B1 hz h0 hlp hm hm2 hrow hnod hcalls
 go_enter Tryz.func76,Tryz.ntmps76
 go_wp2_with fail
 refine HC.out.mono ?_
 rintro e w1 ⟨rfl,hb⟩
 have bz:=(hb.block w.heap.size (by simp)).trans HZ.out
 have z0:=blk_cell bz 0
 have z1:=blk_cell bz 1
 have HB:=Lib.hid (HB1.out.trans (hb.mono (by simp)))
 have HZ1:=Lib.hid bz
 clear hb bz
 go_wp2_with fail
 refine (HP.out _).mono ?_
 rintro e w2 ⟨rfl,hb2⟩
 have bz:=(hb2.block w.heap.size (blk_in HZ1.out)).trans HZ1.out
 clear z0
 have z2:w2.cell? ⟨w.heap.size,2,none⟩=some (.slice A m cr):=blk_cell bz 2
 have z0:w2.cell? ⟨w.heap.size,0,none⟩=some (.slice (some ⟨g,0,none⟩) n c):=blk_cell bz 0
 have hl2:w.heap.size<w2.heap.size:=blk_in bz
 have HB2:=Lib.hid (HB.out.trans (hb2.mono HB.out.size))
 have HZ2:=Lib.hid bz
 clear hb2 z1 bz
 go_wp2_with fail
 have HS0:Hid (SeenIs (w2.alloc (.cells Tryz.zeroCells322 322)) w2.heap.size []):=Lib.hid (seen0 zero1000)
 have HB3:Hid (Below w2.heap.size w2 (w2.alloc (.cells Tryz.zeroCells322 322))):=Lib.hid ((Below.refl _ _).alloc (Nat.le_refl _) _)
 have HRow2:=Lib.hid (ownsRow_of_block HRow.out fun k hk=>HB2.out.block k (HRow.out.lt k hk).2)
 generalize w2.alloc (.cells Tryz.zeroCells322 322)=w3 at*
 go_loopg [34] m (fun gg iv wr=> ∃(i:Nat),i≤m∧gg=m - i∧iv= .int .i64 (i:Int)∧Hid (SeenIs wr w2.heap.size ((calls.take i).map (·.num))∧Below w2.heap.size w2 wr))
 case atStart=>exact ⟨0,by omega,rfl,rfl,Lib.hid ⟨HS0.out,HB3.out⟩⟩
 case round=>
  obtain ⟨i,hi,hgg,rfl,HS⟩:=hrel
  have Hg:=Lib.hid hgg
  have hiI:(0:Int)≤(i:Int)∧(i:Int)≤999:=by omega
  by_cases hlt:i<m
  ·have hltI:(i:Int)<(m:Int):=by omega
   have hil:i<calls.length:=by rw[←HM.out];exact hlt
   have hmem:=List.getElem_mem hil
   have hr:=HCa.out _ hmem
   have hiL:i<(calls.map (·.num)).length:=by rw[List.length_map];exact hil
   have hgi:(calls.map (·.num))[i]=calls[i].num:=List.getElem_map _
   have hnew:calls[i].num∉ (calls.take i).map (·.num):=fun hm=>by
    have hnd:=HNod.out
    rw[←List.take_append_drop i (calls.map (·.num))] at hnd
    rw[List.map_take] at hm
    have:=(List.nodup_append.1 hnd).2.2 _ hm calls[i].num (by
     rw[List.drop_eq_getElem_cons hiL,hgi]
     exact List.mem_cons_self)
    exact this rfl
   have hstep:(calls.take (i+1)).map (·.num)=(calls.take i).map (·.num)++ [calls[i].num]:=by
    rw[List.map_take,List.map_take,List.take_add_one,List.getElem?_eq_getElem hiL,hgi]
    rfl
   clear hiL hgi
   have hel: ∃gr,A=some ⟨gr,0,none⟩∧gr<w2.heap.size∧ ∀j,j<6→wr.cell? ⟨gr,i*6+j,none⟩=(row6 calls[i])[j]?:=by
    have hlt':=HRow2.out
    rcases row_at hlt' with ⟨q,-⟩ |⟨gr,c',q,hq⟩
    ·injection q with _ q2 _
     omega
    ·injection q with q1 _ _
     refine ⟨gr,q1,(hlt'.lt gr (by rw[q1];rfl)).2,fun j hj=>?_⟩
     have e:=callC_at hil j hj
     have hsome: ∃u,(row6 calls[i])[j]?=some u:=⟨_,List.getElem?_eq_getElem (by show j<6;exact hj)⟩
     obtain ⟨u,hu⟩:=hsome
     have:=hq (i*6+j) u (e.trans hu)
     rw[Addr.add_lit,Nat.zero_add] at this
     rw[hu,←this]
     exact HS.out.2.cell (p:=⟨gr,i*6+j,none⟩) (hlt'.lt gr (by rw[q1];rfl)).2
   obtain ⟨gr,rfl,hgr,hcl⟩:=hel
   generalize calls[i]=x at*
   obtain ⟨xn,xp,k0,k1,k2,k3⟩:=x
   obtain ⟨r1,r2,r3,r4,⟨r5,r6⟩,⟨r7,r8⟩,⟨r9,r10⟩,r11,r12⟩:=hr
   simp only at r1 r2 r3 r4 r5 r6 r7 r8 r9 r10 r11 r12 hnew hstep
   obtain ⟨xn',hxn⟩:=Int.eq_ofNat_of_zero_le (show 0≤xn by omega)
   subst hxn
   have hx1000:xn'<1000:=by omega
   have c0:wr.cell? ⟨gr,i*6,none⟩=some (.int .i64 (xn':Int)):=hcl 0 (by decide)
   have c1:wr.cell? ⟨gr,i*6+1,none⟩=some (.int .i64 xp):=hcl 1 (by decide)
   have c2:wr.cell? ⟨gr,i*6+2,none⟩=some (.int .i64 k0):=hcl 2 (by decide)
   have c3:wr.cell? ⟨gr,i*6+3,none⟩=some (.int .i64 k1):=hcl 3 (by decide)
   have c4:wr.cell? ⟨gr,i*6+4,none⟩=some (.int .i64 k2):=hcl 4 (by decide)
   have c5:wr.cell? ⟨gr,i*6+5,none⟩=some (.int .i64 k3):=hcl 5 (by decide)
   obtain ⟨s1,s2,s3⟩:=HS.out.1.cell hx1000
   rw[decide_eq_false hnew] at s1
   have y0:wr.cell? ⟨w.heap.size,0,none⟩=some (.slice (some ⟨g,0,none⟩) n c):=(HS.out.2.cell (p:=⟨w.heap.size,0,none⟩) hl2).trans z0
   have hxI:(1:Int)≤(xn':Int)∧(xn':Int)≤999:=by omega
   have hls:w.heap.size<wr.heap.size:=Nat.lt_of_lt_of_le hl2 HS.out.2.size
   have hlg:gr<wr.heap.size:=Nat.lt_of_lt_of_le hgr HS.out.2.size
   have HStep:=Lib.hid hstep
   have Hlt:=Lib.hid hlt
   have HX:=Lib.hid hx1000
   clear hgg hlt hil hmem hnew hstep hcl hi hx1000 z0 z2
   go_wp2_with fail
   have HSn:Hid (SeenIs ((wr.setCell ⟨w2.heap.size,xn',none⟩ (.bool true)).alloc (.cells #[.int .i64 (xn':Int), .int .i64 xp, .int .i64 k0, .int .i64 k1, .int .i64 k2, .int .i64 k3] 184)) w2.heap.size ((calls.take (i+1)).map (·.num))∧Below w2.heap.size w2 ((wr.setCell ⟨w2.heap.size,xn',none⟩ (.bool true)).alloc (.cells #[.int .i64 (xn':Int), .int .i64 xp, .int .i64 k0, .int .i64 k1, .int .i64 k2, .int .i64 k3] 184))):=Lib.hid (by
    have hb0:Below w2.heap.size w2 (wr.setCell ⟨w2.heap.size,xn',none⟩ (.bool true)):=HS.out.2.setCell (p:=⟨w2.heap.size,xn',none⟩) (Nat.le_refl _) _
    have hb1:Below (wr.setCell ⟨w2.heap.size,xn',none⟩ (.bool true)).heap.size (wr.setCell ⟨w2.heap.size,xn',none⟩ (.bool true)) ((wr.setCell ⟨w2.heap.size,xn',none⟩ (.bool true)).alloc (.cells #[.int .i64 (xn':Int), .int .i64 xp, .int .i64 k0, .int .i64 k1, .int .i64 k2, .int .i64 k3] 184)):=(Below.refl _ _).alloc (Nat.le_refl _) _
    refine ⟨?_,hb0.trans (hb1.mono hb0.size)⟩
    rw[HStep.out]
    have hs:=HS.out.1.set HX.out
    exact hs.block (hb1.block _ (hs.cell (j:=0) (by decide)).2.2))
   generalize (wr.setCell ⟨w2.heap.size,xn',none⟩ (.bool true)).alloc (.cells #[.int .i64 (xn':Int), .int .i64 xp, .int .i64 k0, .int .i64 k1, .int .i64 k2, .int .i64 k3] 184)=w5 at*
   go_loopg [74] 4 (fun g2 jv wr2=> ∃(j:Int),(0≤j∧j≤4)∧g2=(4 - j).toNat∧jv= .int .i64 j∧w5=wr2)
   case atStart=>exact ⟨0,⟨by decide,by decide⟩,rfl,rfl,rfl⟩
   case round=>
    obtain ⟨j,hj,hg2,rfl,rfl⟩:=hrel
    have HG2:=Lib.hid hg2
    clear hg2
    obtain rfl|rfl|rfl|rfl|rfl:j=0∨j=1∨j=2∨j=3∨j=4:=by omega
    ·have hix: ∀(W:World),(Instr.index 64 (.agg #[.int .i64 k0, .int .i64 k1, .int .i64 k2, .int .i64 k3]) (.int .i64 (0:Int))).run Tryz.prog W= .ok (.int .i64 k0) W:=fun W=>by kernel_rfl
     go_wp2_with fail
     go_roundg 3
     case measure=>have:=HG2.out;omega
     case rel=>exact ⟨1,⟨by decide,by decide⟩,rfl,by go_num,rfl⟩
    ·have hix: ∀(W:World),(Instr.index 64 (.agg #[.int .i64 k0, .int .i64 k1, .int .i64 k2, .int .i64 k3]) (.int .i64 (1:Int))).run Tryz.prog W= .ok (.int .i64 k1) W:=fun W=>by kernel_rfl
     go_wp2_with fail
     go_roundg 2
     case measure=>have:=HG2.out;omega
     case rel=>exact ⟨2,⟨by decide,by decide⟩,rfl,by go_num,rfl⟩
    ·have hix: ∀(W:World),(Instr.index 64 (.agg #[.int .i64 k0, .int .i64 k1, .int .i64 k2, .int .i64 k3]) (.int .i64 (2:Int))).run Tryz.prog W= .ok (.int .i64 k2) W:=fun W=>by kernel_rfl
     go_wp2_with fail
     go_roundg 1
     case measure=>have:=HG2.out;omega
     case rel=>exact ⟨3,⟨by decide,by decide⟩,rfl,by go_num,rfl⟩
    ·have hix: ∀(W:World),(Instr.index 64 (.agg #[.int .i64 k0, .int .i64 k1, .int .i64 k2, .int .i64 k3]) (.int .i64 (3:Int))).run Tryz.prog W= .ok (.int .i64 k3) W:=fun W=>by kernel_rfl
     go_wp2_with fail
     go_roundg 0
     case measure=>have:=HG2.out;omega
     case rel=>exact ⟨4,⟨by decide,by decide⟩,rfl,by go_num,rfl⟩
    ·go_wp2_with fail
     go_roundg (m - (i+1))
     case measure=>have:=Hg.out;have:=Hlt.out;omega
     case rel=>
      have:=Hlt.out
      exact ⟨i+1,by omega,rfl,by go_num,HSn⟩
  ·obtain rfl:i=m:=by omega
   clear hgg
   go_wp2_with fail
   go_ret
   exact ⟨rfl,HB2.out.trans (HS.out.2.mono HB2.out.size)⟩
end Go.Proofs.YtaangaogmnlljaaGreatDoor.Kn
namespace Go.Proofs.YtaangaogmnlljaaGreatDoor.Kn
open Go.RowKit Asm PosTab
theorem good_of {code:List InsL} {labels:List (Str×Nat)} (hp:parseL (linesL textL)=some (code,labels)):goodLib (code,labels)=true:=by
 have:=lib_good
 rw[hp] at this
 exact this
theorem den_of {code:List InsL} {labels:List (Str×Nat)} (hp:parseL (linesL textL)=some (code,labels)):denCheck (code,labels)=true:=by
 have:=den_check
 rw[hp] at this
 exact this
structure LibGood (code:List InsL) (labels:List (Str×Nat)):Prop where
 len:0<code.length∧code.length≤2048
 few:labels.length≤3000
 loop:loopOf labels<code.length
 may: ∀x∈code,mayK x code.length true=true
 v: ∀x∈code,U64 x.v
 pos: ∀r∈tab,atOf labels r<code.length
theorem LibGood.of {code:List InsL} {labels:List (Str×Nat)} (hp:parseL (linesL textL)=some (code,labels)):LibGood code labels:=by
 have h:=good_of hp
 unfold goodLib at h
 simp only[Bool.and_eq_true,decide_eq_true_eq,List.all_eq_true] at h
 obtain ⟨⟨⟨⟨⟨h1,h2⟩,h3⟩,h4⟩,h5⟩,h6⟩:=h
 exact ⟨⟨h1,h2⟩,h3,h4,fun x hx=>(h5 x hx).1.1,fun x hx=>⟨(h5 x hx).1.2,(h5 x hx).2⟩,h6⟩
theorem calls_rows (labels:List (Str×Nat)):callC (libCalls labels)=rowsC labels tab:=by
 unfold callC libCalls rowsC
 rw[List.flatMap_map]
 rfl
theorem calls_len (labels:List (Str×Nat)):(libCalls labels).length=45:=by
 unfold libCalls
 rw[List.length_map]
 exact tab_len
theorem tab_nums:(tab.map (·.num)).Nodup:=by decide+kernel
theorem tab_range:(tab.all fun r=>decide (1≤r.num∧r.num≤999∧(0≤r.k0∧r.k0≤7)∧(0≤r.k1∧r.k1≤7)∧(0≤r.k2∧r.k2≤7)∧(0≤r.k3∧r.k3≤7)))=true:=by decide+kernel
theorem fix_ok {code:List InsL} {labels:List (Str×Nat)} (h:LibGood code labels) {prog:List InsL} (hp0:0<prog.length) (hp1:prog.length≤2048) (hpm: ∀x∈prog,mayK x prog.length false=true∧U64 x.v) {wide narrow:Int} (hw:0≤wide∧0≤narrow∧wide+narrow≤256) {k:Nat} (hk:1≤k∧k≤64):
  FixOk { lib:=code,loop:=loopOf labels,calls:=libCalls labels,code:=prog,wide:=wide,narrow:=narrow,workers:=k}:=by
 refine ⟨h.len,⟨by show (0:Int)≤(loopOf labels:Int);omega,by have:=h.loop;show (loopOf labels:Int)<(code.length:Int);omega⟩,h.may,⟨hp0,hp1⟩,fun x hx=>(hpm x hx).1,h.v,fun x hx=>(hpm x hx).2,hw,hk,?_,?_,?_⟩
 ·show (libCalls labels).length≤999
  rw[calls_len];decide
 ·show ((libCalls labels).map (·.num)).Nodup
  have e:(libCalls labels).map (·.num)=tab.map (·.num):=by
   unfold libCalls
   rw[List.map_map]
   rfl
  rw[e];exact tab_nums
 ·intro r hr
  obtain ⟨t,ht,rfl⟩:=List.mem_map.1 hr
  have h1:=of_decide_eq_true (List.all_eq_true.1 tab_range t ht)
  have h2:=h.pos t ht
  exact ⟨h1.1,h1.2.1,by show (0:Int)≤(atOf labels t:Int);omega,by show (atOf labels t:Int)<(code.length:Int);omega,h1.2.2.1,h1.2.2.2.1,h1.2.2.2.2.1,h1.2.2.2.2.2⟩
end Go.Proofs.YtaangaogmnlljaaGreatDoor.Kn
namespace Go.Proofs.YtaangaogmnlljaaGreatDoor.Kn
open Go.RowKit Asm
def shV (K:Nat) (id op:Int):Value:= .agg #[.pointer (some ⟨K,0,none⟩), .int .u64 id, .int .i64 op]
section
variable {w:World} {own:Own} {b o:Nat} {t:TypeId} {P S:List Value} {tb tk:Tag} {n:Nat} {f:Frame} {bv:Value}
end
end Go.Proofs.YtaangaogmnlljaaGreatDoor.Kn
