/- Part 9 of what the proof stands on: KnPutA. -/
import Derived.Test.YtaangaogmnlljaaGreatDoorP07
set_option linter.unusedVariables false
set_option maxHeartbeats 40000000
namespace Go.Proofs.YtaangaogmnlljaaGreatDoor.Kn
open Go.RowKit Asm
theorem findB_at {at':Nat}: ∀{l:List Blk} {i:Nat},i<l.length→(∀j,j<i→(bAt l j).pos≠at')→(bAt l i).pos=at'→findB at' l=some (i,bAt l i)
 |[],i,h,_,_=>absurd h (by simp)
 |b::l,0,_,_,h=>by
  unfold findB
  have h':b.pos=at':=h
  rw[if_pos h']
  rfl
 |b::l,i+1,h,hn,he=>by
  unfold findB
  have h0:b.pos≠at':=hn 0 (by omega)
  rw[if_neg h0,findB_at (l:=l) (i:=i) (by simpa using h) (fun j hj=>hn (j+1) (by omega)) he]
  rfl
theorem findB_none {at':Nat}: ∀{l:List Blk},(∀j,j<l.length→(bAt l j).pos≠at')→findB at' l=none
 |[],_=>rfl
 |b::l,hn=>by
  unfold findB
  have h0:b.pos≠at':=hn 0 (by simp)
  rw[if_neg h0,findB_none (l:=l) fun j hj=>hn (j+1) (by simpa using hj)]
  rfl
def PutOutA (w:World) (A X gc gw:Nat) (v:Value) (r:Alc×Mem) (e:Ending) (w':World):Prop:=
 ∃ev v',e= .returned ev∧AlcP w' A X v' r.1∧MemP w' X gc gw r.2∧Keeps (fun b=>b=X∨b=gc∨b=gw∨OfA A v b) w w'∧ ∀b,v'.ownBlock=some b→v.ownBlock=some b∨w.heap.size≤b
set_option maxRecDepth 100000 in
theorem put_anyA {w:World} {A X gc gw:Nat} {v:Value} {a:Alc} {m:Mem} (h:AlcP w A X v a) (hm:MemP w X gc gw m) (n:Nat) (hn:n≤100000):
  Calls Tryz.prog 172 #[.pointer (some ⟨A,0,none⟩), .int .i64 n] w (PutOutA w A X gc gw v (putA a m n)):=by
 have HF:=Lib.hid (fun n t x W=>allocfail_any n t x W)
 obtain ⟨L,hL⟩: ∃L,L=a.l.length:=⟨_,rfl⟩
 obtain ⟨Av,cv,rfl⟩:=own_shape h.row
 have hLI:(L:Int)≤65536:=by have:=h.len;omega
 have H:=Lib.hid h
 have HM:=Lib.hid hm
 have HL:=Lib.hid hL
 rw[←hL] at H
 have c3:w.cell? ⟨A,3,none⟩=some (.slice Av L cv):=by rw[blk_cell h.obj,hL];rfl
 have HC3:=Lib.hid c3
 have hAl:=h.lt
 have hnI:(n:Int)≤100000:=by omega
 have hnn:=hn
 clear h hm hL hn
 go_enter Tryz.func172,Tryz.ntmps172
 go_wp2_with fail
 go_loopg [13] (L+1) (fun g iv wr=> ∃i:Nat,i≤L∧g=L+1 - i∧iv= .int .i64 (i:Int)∧Hid (Below w.heap.size w wr)∧Hid (∀j,j<i→(bAt a.l j).pos≠n))
 case atStart=>exact ⟨0,by omega,by omega,rfl,Lib.hid (Below.refl _ _),Lib.hid fun j hj=>absurd hj (by omega)⟩
 case round=>
  obtain ⟨i,hi,hg,rfl,HB,HN⟩:=hrel
  have Hg:=Lib.hid hg
  clear hg
  by_cases hlt:i<L
  ·obtain ⟨g,cp,hv,_,hgl,hcap,p1,_⟩:=own_at H.out.row (by rw[←HL.out];omega)
   injection hv with hv1 hv2 hv3
   subst hv1 hv3
   have hltI:(i:Int)<(L:Int):=by omega
   obtain ⟨b0,b1,b2⟩:=blkC_at (l:=a.l) (i:=i) (by rw[←HL.out];exact hlt)
   have x0:wr.cell? ⟨g,i*3,none⟩=some (.int .i64 (bAt a.l i).pos):=(HB.out.cell (p:=⟨g,_,none⟩) hgl).trans ((p1 _ (by rw[←HL.out];omega)).trans b0)
   have x1:wr.cell? ⟨g,i*3+1,none⟩=some (.int .i64 (bAt a.l i).n):=(HB.out.cell (p:=⟨g,_,none⟩) hgl).trans ((p1 _ (by rw[←HL.out];omega)).trans b1)
   have x2:wr.cell? ⟨g,i*3+2,none⟩=some (.int .i64 (bAt a.l i).w):=(HB.out.cell (p:=⟨g,_,none⟩) hgl).trans ((p1 _ (by rw[←HL.out];omega)).trans b2)
   clear b0 b1 b2 p1 hv2
   by_cases he:(bAt a.l i).pos=n
   ·have c3w:=HB.out.cell (p:=⟨A,3,none⟩) hAl|>.trans HC3.out
    go_wp2_with fail
    have hB1:Below w.heap.size w (wr.alloc (.cells #[.int .i64 n, .int .i64 (bAt a.l i).n, .int .i64 (bAt a.l i).w] 308)):=HB.out.alloc HB.out.size _
    have y0:(wr.alloc (.cells #[.int .i64 n, .int .i64 (bAt a.l i).n, .int .i64 (bAt a.l i).w] 308)).drew.cell? ⟨wr.heap.size,0,none⟩=some (.int .i64 n):=World.cell?_alloc_at _ _ _ _ rfl
    have y1:(wr.alloc (.cells #[.int .i64 n, .int .i64 (bAt a.l i).n, .int .i64 (bAt a.l i).w] 308)).drew.cell? ⟨wr.heap.size,1,none⟩=some (.int .i64 (bAt a.l i).n):=World.cell?_alloc_at _ _ _ _ rfl
    obtain ⟨Bl,hBl⟩: ∃Bl,Bl=wr.heap.size:=⟨_,rfl⟩
    have hBlt:Bl<(wr.alloc (.cells #[.int .i64 n, .int .i64 (bAt a.l i).n, .int .i64 (bAt a.l i).w] 308)).heap.size:=by rw[hBl];simp
    have HBl:Hid (w.heap.size≤Bl):=Lib.hid (by rw[hBl];exact HB.out.size)
    rw[←hBl] at y0 y1 ⊢
    clear x0 x1 x2 hBl
    generalize wr.alloc (.cells #[.int .i64 n, .int .i64 (bAt a.l i).n, .int .i64 (bAt a.l i).w] 308)=W1 at hB1 y0 y1 hBlt ⊢
    have hBd:Below w.heap.size w W1.drew:=⟨hB1.os,hB1.tape,hB1.output,hB1.size,hB1.block⟩
    have HBd:=Lib.hid hBd
    have c3':W1.drew.cell? ⟨A,3,none⟩=some (.slice (some ⟨g,0,none⟩) L cv):=(hBd.cell (p:=⟨A,3,none⟩) hAl).trans HC3.out
    have hr1:W1.drew.ownsRow 0 308 3 (.slice (some ⟨g,0,none⟩) L cv) L (blkC a.l):=Asm.ownsRow_of_block (by have:=H.out.row;rwa[←HL.out] at this) fun k hk=>hBd.block k (H.out.of_lt (Or.inr hk))
    have hlen:(blkC (a.l.drop (i+1))).length=(L - (i+1))*3:=by rw[blkC_len,List.length_drop,HL.out]
    obtain ⟨i3,hi3,hz3,hs3',hbb3⟩:=info_parts info345
    have E4:=Lib.hid (own_prefix hr1 i (by omega))
    obtain ⟨xa,hsl,hN4⟩: ∃xa:Addr,(∀W,(Instr.slice 425 (.slice (some ⟨g,0,none⟩) L cv) (some (.int .i64 ((i:Int)+1))) none none).run Tryz.prog W= .ok (.slice (some xa) (L - (i+1)) (cv - (i+1))) W)∧ ∀j u,(blkC (a.l.drop (i+1)))[j]?=some u→W1.drew.cell? (xa.add j)=some u:=by
     have hsz: ∀W,(sizeOf 308).run Tryz.prog W= .ok 3 W:=fun W=>by kernel_rfl
     have hel:Tryz.prog.elem 425=308:=by kernel_rfl
     refine ⟨if cv=i+1 then ⟨g,0,none⟩ else ⟨g,(i+1)*3,none⟩,fun W=>?_,?_⟩
     ·have hr:=run_slice_l (P:=Tryz.prog) (w:=W) 425 (some ⟨g,0,none⟩) L cv Tryz.underlying425 .i64 ((i:Int)+1) (by omega) (by omega)
      rw[hr,hel,hsz]
      have et:((i:Int)+1).toNat=i+1:=by omega
      rw[et]
      rw[Result.andThen_ok]
      unfold sliced
      by_cases e:cv=i+1
      ·rw[if_pos e,if_pos e]
      ·rw[if_neg e,if_neg e]
       show Result.ok (Value.slice (some ((⟨g,0,none⟩:Addr).add ((i+1)*3))) _ _) W=_
       rw[Addr.add_lit,Nat.zero_add]
     ·intro j u hu
      have hj:j<(L - (i+1))*3:=by
       have:=(List.getElem?_eq_some_iff.1 hu).1;rwa[hlen] at this
      rw[if_neg (by have:=HL.out;omega),Addr.add_lit]
      obtain ⟨g',c',hv,_,_,_,p1,_⟩:=own_at hr1 (by omega)
      injection hv with hv1 hv2 hv3
      injection hv1 with hv1
      injection hv1 with hv1
      rw[hv1,p1 _ (by omega),←hu]
      have e5:blkC (a.l.drop (i+1))=(blkC a.l).drop ((i+1)*3):=(flL_drop (k:=3) (f:=blk3) (fun _=>rfl) _ _).symm
      rw[e5,List.getElem?_drop]
    have N4:=Lib.hid hN4
    clear hN4
    have O4:Hid (∀u∈blkC (a.l.drop (i+1)),u.oneCell'=true):=Lib.hid (blkC_one _)
    have M41:=Lib.hid (show i+(L - (i+1))≤maxLen by unfold maxLen;omega)
    have M42:=Lib.hid (show (i+(L - (i+1)))*24≤140737488355328 by omega)
    have M43:=Lib.hid (show 0≤W1.drew.heap.size by omega)
    have HLn:=Lib.hid hlen
    have HNe:=Lib.hid H.out.ne
    have hgA:A≠g:=fun e=>HNe.out (by rw[e];rfl)
    have hA1:A<W1.drew.heap.size:=Nat.lt_of_lt_of_le hAl hBd.size
    have hBl1:Bl<W1.drew.heap.size:=hBlt
    have hgBl:g≠Bl:=fun e=>by have:=HBl.out;omega
    have HA1:Hid (A<W1.drew.heap.size∧A≠g∧Bl<W1.drew.heap.size∧g≠Bl):=Lib.hid ⟨hA1,hgA,hBl1,hgBl⟩
    have HFr:Hid (W1.drew.frozen? ⟨A,3,none⟩=false):=Lib.hid ((World.frozen?_of_block (a:=⟨A,3,none⟩) (hBd.block A hAl)).trans (blk_frozen H.out.obj 3))
    have hic:(i:Int)≤(cv:Int):=by have:=HL.out;omega
    have hi1:(i:Int)+1≤(L:Int):=by omega
    clear hr1 hlen hBd hB1 c3w hA1 hgA hBl1 hgBl
    have hwr:IntKind.i64.wrap ((i:Int)+1)=(i:Int)+1:=by simp[IntKind.wrap,IntKind.bits,IntKind.signed];omega
    have htn:((i:Int)+1).toNat=i+1:=by omega
    have h0i:(0:Int)≤(i:Int)+1:=by omega
    go_region_law (first|(refine step_append_own _ rfl (.tmp 28) (.tmp 35) 425 rfl 0 308 i3 _ 3 24 Tryz.underlying425 hi3 hz3 hs3' hbb3 rfl (by decide) (.slice (some ⟨g,0,none⟩) i cv) i _ rfl E4.out xa (L - (i+1)) (cv - (i+1)) _ rfl HLn.out N4.out O4.out M41.out M42.out M43.out ?_;intro v5 w5 hown hgrow hnew;obtain ⟨A5,c5,rfl⟩:=Asm.own_shape hown;have t0:=(World.cell?_of_block (a:=⟨A,3,none⟩) (hgrow.block A HA1.out.1 (fun e=>HA1.out.2.1 (by injection e)))).trans c3';have t1:=(World.frozen?_of_block (a:=⟨A,3,none⟩) (hgrow.block A HA1.out.1 (fun e=>HA1.out.2.1 (by injection e)))).trans HFr.out;have s0:=(World.cell?_of_block (a:=⟨Bl,0,none⟩) (hgrow.block Bl HA1.out.2.2.1 (fun e=>HA1.out.2.2.2 (by injection e with e;exact e.symm)))).trans y0;have s1:=(World.cell?_of_block (a:=⟨Bl,1,none⟩) (hgrow.block Bl HA1.out.2.2.1 (fun e=>HA1.out.2.2.2 (by injection e with e;exact e.symm)))).trans y1;have HOwn:=Lib.hid hown;have HGr:=Lib.hid hgrow;have HNw:=Lib.hid hnew;clear hown hgrow hnew))
    all_goals
     have hA5:w5.heap[A]?=some (.cells #[.pointer (some ⟨X,0,none⟩), .int .i64 a.lo, .int .i64 a.hi, .slice (some ⟨g,0,none⟩) L cv] 427 (0,0)):=(HGr.out.block A HA1.out.1 (fun e=>HA1.out.2.1 (by injection e))).trans ((HBd.out.block A hAl).trans H.out.obj)
     have hel:a.l.eraseIdx i=a.l.take i++a.l.drop (i+1):=List.eraseIdx_eq_take_drop_succ _ _
     have hell:(a.l.eraseIdx i).length=i+(L - (i+1)):=by rw[hel,List.length_append,List.length_take,List.length_drop,←HL.out];omega
     have hr5:w5.ownsRow 0 308 3 (.slice A5 (i+(L - (i+1))) c5) (a.l.eraseIdx i).length (blkC (a.l.eraseIdx i)):=by
      rw[hell,hel]
      have e5:blkC (a.l.take i++a.l.drop (i+1))=(blkC a.l).take (i*3)++blkC (a.l.drop (i+1)):=by
       have:(blkC a.l).take (i*3)=blkC (a.l.take i):=flL_take (f:=blk3) (fun _=>rfl) _ _
       rw[this];simp[blkC]
      rw[e5];exact HOwn.out
     have R6:=AlcR.laid hA5 hr5
     have HP6:Hid (AlcP (w5.setCell ⟨A,3,none⟩ (.slice A5 (i+(L - (i+1))) c5)) A X (.slice A5 (i+(L - (i+1))) c5) { a with l:=a.l.eraseIdx i}):=Lib.hid ⟨okB_del H.out.ok i,H.out.most,R6.obj,R6.row⟩
     have hk5:Keeps (fun b=>b=X∨b=gc∨b=gw∨OfA A (.slice (some ⟨g,0,none⟩) L cv) b) w w5:=(Keeps.ofBelow HBd.out).grown HGr.out fun k hk=>Or.inr (Or.inr (Or.inr (Or.inr hk)))
     have hk6:Keeps (fun b=>b=X∨b=gc∨b=gw∨OfA A (.slice (some ⟨g,0,none⟩) L cv) b) w (w5.setCell ⟨A,3,none⟩ (.slice A5 (i+(L - (i+1))) c5)):=hk5.setCell (p:=⟨A,3,none⟩) (Or.inr (Or.inr (Or.inr (Or.inl rfl)))) _
     have HK6:=Lib.hid hk6
     clear hk5 hk6 hr5 R6
     have HM6:Hid (MemP (w5.setCell ⟨A,3,none⟩ (.slice A5 (i+(L - (i+1))) c5)) X gc gw m):=Lib.hid (HM.out.of_blocks fun b hb=>by
      have hap:=H.out.apart HM.out
      have hba:b≠A:=fun e=>hap A (Or.inl rfl) (by rw[←e];exact hb)
      have hbl:b<w.heap.size:=by
       obtain ⟨l1,l2,l3⟩:=HM.out.lt
       rcases hb with rfl|rfl|rfl<;>assumption
      rw[set_other hba]
      exact (HGr.out.block b (Nat.lt_of_lt_of_le hbl HBd.out.size) (fun e=>hap b (Or.inr e.symm) hb)).trans (HBd.out.block b hbl))
     have z0:(w5.setCell ⟨A,3,none⟩ (.slice A5 (i+(L - (i+1))) c5)).drew.cell? ⟨A,0,none⟩=some (.pointer (some ⟨X,0,none⟩)):=by
      show (w5.setCell ⟨A,3,none⟩ (.slice A5 (i+(L - (i+1))) c5)).cell? ⟨A,0,none⟩=_
      rw[blk_cell HP6.out.obj];rfl
     have hne:Bl≠A:=fun e=>by have:=HBl.out;omega
     have z1:(w5.setCell ⟨A,3,none⟩ (.slice A5 (i+(L - (i+1))) c5)).drew.cell? ⟨Bl,0,none⟩=some (.int .i64 n):=(World.cell?_of_block (a:=⟨Bl,0,none⟩) (set_other hne)).trans s0
     have z2:(w5.setCell ⟨A,3,none⟩ (.slice A5 (i+(L - (i+1))) c5)).drew.cell? ⟨Bl,1,none⟩=some (.int .i64 (bAt a.l i).n):=(World.cell?_of_block (a:=⟨Bl,1,none⟩) (set_other hne)).trans s1
     have HPe:Hid (putA a m n=({ a with l:=a.l.eraseIdx i},if m.all? n (bAt a.l i).n then m.map n (bAt a.l i).n 0 else m)):=Lib.hid (by
      unfold putA
      rw[findB_at (by rw[←HL.out];exact hlt) HN.out he])
     have hbi:=okB_in H.out.ok (bAt a.l i) (bAt_mem (by rw[←HL.out];exact hlt))
     have HUn:=Lib.hid (unmap_any (w:=(w5.setCell ⟨A,3,none⟩ (.slice A5 (i+(L - (i+1))) c5)).drew) (HM6.out.of_blocks fun _ _=>rfl) n (bAt a.l i).n (by omega) hnn (by omega))
     have HV5:Hid (∀b,Value.ownBlock (.slice A5 (i+(L - (i+1))) c5)=some b→Value.ownBlock (.slice (some ⟨g,0,none⟩) a.l.length cv)=some b∨w.heap.size≤b):=Lib.hid fun b hb=>by
      rcases HNw.out with h1|h1
      ·rw[h1] at hb;exact Or.inl hb
      ·rw[h1] at hb;injection hb with hb;have:=HBd.out.size;exact Or.inr (by omega)
     clear s0 s1 t0 t1 y0 y1 c3' hwr htn h0i hsl hbi hA5 hel hell
     generalize w5.setCell ⟨A,3,none⟩ (.slice A5 (i+(L - (i+1))) c5)=W6 at*
     cases hall:m.all? n (bAt a.l i).n with
     |false=>
      rw[hall] at HUn HPe
      go_wp2_with fail
      go_region_with (go_at_call 227;refine HUn.out.mono ?_;rintro e w7 ⟨⟨_,rfl,ty,xv,rfl⟩,hb7⟩)
      all_goals
       go_wp2_with fail
       refine (HF.out _ _ _ _).mono ?_
       rintro e w8 ⟨⟨ev,rfl,hev⟩,hb8⟩
       go_wp2_with fail
       go_ret
       have hb6:Below W6.heap.size W6 w7:=⟨hb7.os,hb7.tape,hb7.output,hb7.size,hb7.block⟩
       have hb:=hb6.trans (hb8.mono hb6.size)
       rw[HPe.out]
       refine ⟨ev,_,rfl,HP6.out.of_blocks fun k hk=>hb.block k (HP6.out.of_lt hk),HM6.out.of_blocks (fun b h=>hb.block b ?_),HK6.out.trans (Keeps.ofBelow (X:=fun _=>False) hb) (fun _ h=>h.elim),HV5.out⟩
       obtain ⟨l1,l2,l3⟩:=HM6.out.lt
       rcases h with rfl|rfl|rfl<;>assumption
     |true=>
      rw[hall] at HUn HPe
      go_wp2_with fail
      go_region_with (go_at_call 227;refine HUn.out.mono ?_;rintro e w7 ⟨rfl,hm7,hk7⟩)
      all_goals
       go_wp2_with fail
       go_ret
       rw[HPe.out]
       have hk:Keeps (fun b=>b=X∨b=gc∨b=gw) W6 w7:=⟨hk7.os,hk7.tape,hk7.output,hk7.size,hk7.block⟩
       refine ⟨_,_,rfl,HP6.out.of_blocks fun k hk'=>hk.block k (HP6.out.of_lt hk') (HP6.out.apart HM6.out k hk'),hm7,HK6.out.trans hk (fun b h=>Or.inl ?_),HV5.out⟩
       rcases h with h|h|h
       ·exact Or.inl h
       ·exact Or.inr (Or.inl h)
       ·exact Or.inr (Or.inr (Or.inl h))
   ·have hb:((bAt a.l i).pos:Int)≠(n:Int):=by omega
    go_wp2_with fail
    go_roundg (L+1 - (i+1))
    case measure=>have:=Hg.out;omega
    case rel=>
     refine ⟨i+1,by omega,rfl,by go_num,Lib.hid (HB.out.alloc HB.out.size _),Lib.hid fun j hj=>?_⟩
     by_cases e:j=i
     ·rw[e];exact he
     ·exact HN.out j (by omega)
  ·have hiL:i=L:=by omega
   have HFN:=Lib.hid (findB_none (at':=n) (l:=a.l) fun j hj=>HN.out j (by rw[hiL,HL.out];exact hj))
   rw[hiL]
   go_wp2_with fail
   refine (HF.out _ _ _ _).mono ?_
   rintro e w1 ⟨⟨ev,rfl,hev⟩,hb1⟩
   go_wp2_with fail
   go_ret
   have hb:=HB.out.trans (hb1.mono HB.out.size)
   have e0:putA a m n=(a,m):=by unfold putA;rw[HFN.out]
   refine ⟨ev, .slice Av L cv,rfl,?_,?_,Keeps.ofBelow hb,fun b h=>Or.inl (by rw[←HL.out];exact h)⟩
   ·rw[e0]
    have hP:=H.out
    exact hP.of_blocks fun k hk=>hb.block k (hP.of_lt hk)
   ·rw[e0]
    obtain ⟨l1,l2,l3⟩:=HM.out.lt
    exact HM.out.of_blocks fun b hb'=>hb.block b (by rcases hb' with rfl|rfl|rfl<;>assumption)
end Go.Proofs.YtaangaogmnlljaaGreatDoor.Kn
