/- Part 7 of what the proof stands on: KnGet, KnTabB, KnTabE, KnObj, KnMemNew, KnZero, KnNews, KnMemOps, KnCode, KnRAll, AsmPl. -/
import Derived.Test.YtaangaogmnlljaaGreatDoorP06
set_option linter.unusedVariables false
set_option maxHeartbeats 40000000
namespace Go.Proofs.YtaangaogmnlljaaGreatDoor.Kn
open Go.RowKit Asm
theorem row_tag {w:World} {base:Nat} {e:TypeId} {size n:Nat} {v:Value} {xs:List Value} {g:Nat} (h:w.ownsRow base e size v n xs) (hv:v.ownBlock=some g): ∃cur,w.heap[g]?=some (.cells cur e (0,0)):=row_block h hv
theorem AlcP.apart {w:World} {A X gc gw:Nat} {v:Value} {a:Alc} {m:Mem} (h:AlcP w A X v a) (hm:MemP w X gc gw m): ∀b,OfA A v b→ ¬(b=X∨b=gc∨b=gw):=by
 intro b hb
 obtain ⟨t,c,ho⟩:=hm.obj
 rcases hb with rfl|hb
 ·rintro (e|e|e)
  ·exact blk_ne h.obj ho (by decide) e
  ·exact blk_ne h.obj hm.hs (by decide) e
  ·exact blk_ne h.obj hm.ws (by decide) e
 ·obtain ⟨cur,hc⟩:=row_tag h.row hb
  rintro (e|e|e)
  ·exact blk_ne hc ho (by decide) e
  ·exact blk_ne hc hm.hs (by decide) e
  ·exact blk_ne hc hm.ws (by decide) e
theorem AlcP.ne {w:World} {A X:Nat} {v:Value} {a:Alc} (h:AlcP w A X v a):v.ownBlock≠some A:=by
 intro e
 obtain ⟨cur,hc⟩:=row_tag h.row e
 exact blk_ne hc h.obj (by decide) rfl
structure AlcR (w:World) (A X:Nat) (v:Value) (lo hi:Nat) (l:List Blk):Prop where
 obj:w.heap[A]?=some (.cells #[.pointer (some ⟨X,0,none⟩), .int .i64 lo, .int .i64 hi,v] 427 (0,0))
 row:w.ownsRow 0 308 3 v l.length (blkC l)
theorem AlcP.raw {w:World} {A X:Nat} {v:Value} {a:Alc} (h:AlcP w A X v a):AlcR w A X v a.lo a.hi a.l:=⟨h.obj,h.row⟩
section
variable {w w':World} {A X g c lo hi:Nat} {v v':Value} {l:List Blk}
theorem AlcR.ne (h:AlcR w A X v lo hi l):v.ownBlock≠some A:=by
 intro e
 obtain ⟨cur,hc⟩:=row_tag h.row e
 exact blk_ne hc h.obj (by decide) rfl
theorem AlcR.of_blocks (h:AlcR w A X v lo hi l) (e: ∀k,OfA A v k→w'.heap[k]?=w.heap[k]?):AlcR w' A X v lo hi l:=
 ⟨(e A (Or.inl rfl)).trans h.obj,ownsRow_of_block h.row fun k hk=>e k (Or.inr hk)⟩
theorem blkC_snoc (l:List Blk) (b:Blk):blkC (l++ [b])=blkC l++ [.int .i64 b.pos, .int .i64 b.n, .int .i64 b.w]:=by simp[blkC,blk3]
theorem blkC_one (l:List Blk): ∀u∈blkC l,u.oneCell'=true:=by
 intro u hu
 obtain ⟨t,_,h⟩:=List.mem_flatMap.1 hu
 simp[blk3] at h
 rcases h with rfl|rfl|rfl<;>rfl
theorem AlcR.laid (h:w.heap[A]?=some (.cells #[.pointer (some ⟨X,0,none⟩), .int .i64 lo, .int .i64 hi,v] 427 (0,0))) (hr:w.ownsRow 0 308 3 v' l.length (blkC l)):AlcR (w.setCell ⟨A,3,none⟩ v') A X v' lo hi l:=by
 refine ⟨set_block h _,ownsRow_of_block hr fun k hk=>?_⟩
 obtain ⟨cur,hc⟩:=row_tag hr hk
 exact set_other (blk_ne hc h (by decide))
theorem AlcR.moved (h:AlcR w A X (.slice (some ⟨g,0,none⟩) (l.length+1) c) lo hi (l++ [zB])) (i:Nat) (hi':i<l.length):
  ∃cur:Array Value,w.heap[g]?=some (.cells cur 308 (0,0))∧(i+1)*3+(blkC (l.drop i)).length≤cur.size∧
   AlcR (w.setRow g (cur.toList.take ((i+1)*3)++blkC (l.drop i)++cur.toList.drop ((i+1)*3+(blkC (l.drop i)).length)).toArray) A X (.slice (some ⟨g,0,none⟩) (l.length+1) c) lo hi ((l++ [zB]).take (i+1)++l.drop i):=by
 have hr:=h.row
 have e1:(l++ [zB]).length=l.length+1:=by simp
 rw[e1] at hr
 have e2:(blkC (l.drop i)).length=(l.length - i)*3:=by rw[blkC_len,List.length_drop]
 obtain ⟨cur,hc,hsz,hr2⟩:=own_over hr ((i+1)*3) (blkC (l.drop i)) (by rw[e2];omega)
 have hgA:A≠g:=fun e=>h.ne (by rw[e];rfl)
 refine ⟨cur,hc,hsz,(setRow_other' w g A _ hgA).trans h.obj,?_⟩
 have e3:((l++ [zB]).take (i+1)++l.drop i).length=l.length+1:=by simp;omega
 rw[e3]
 have e4:blkC ((l++ [zB]).take (i+1)++l.drop i)=(blkC (l++ [zB])).take ((i+1)*3)++blkC (l.drop i)++(blkC (l++ [zB])).drop ((i+1)*3+(blkC (l.drop i)).length):=by
  have e5:(blkC (l++ [zB])).take ((i+1)*3)=blkC ((l++ [zB]).take (i+1)):=flL_take (f:=blk3) (fun _=>rfl) _ _
  have e6:(blkC (l++ [zB])).drop ((i+1)*3+(blkC (l.drop i)).length)= []:=by
   apply List.drop_eq_nil_of_le
   rw[blkC_len,e1,e2];omega
  rw[e5,e6,List.append_nil]
  simp[blkC]
 rw[e4]
 exact hr2
theorem AlcR.stored (h:AlcR w A X (.slice (some ⟨g,0,none⟩) l.length c) lo hi l) (i:Nat) (hi':i<l.length) (b:Blk):
  AlcR (((w.setCell ⟨g,i*3,none⟩ (.int .i64 b.pos)).setCell ⟨g,i*3+1,none⟩ (.int .i64 b.n)).setCell ⟨g,i*3+2,none⟩ (.int .i64 b.w)) A X (.slice (some ⟨g,0,none⟩) l.length c) lo hi (l.set i b):=by
 have hgA:A≠g:=fun e=>h.ne (by rw[e];rfl)
 have h1:=(h.row.stored (i*3) (.int .i64 b.pos)).1
 have h2:=(h1.stored (i*3+1) (.int .i64 b.n)).1
 have h3:=(h2.stored (i*3+2) (.int .i64 b.w)).1
 have e:(((blkC l).set (i*3) (.int .i64 b.pos)).set (i*3+1) (.int .i64 b.n)).set (i*3+2) (.int .i64 b.w)=blkC (l.set i b):=by
  have f1:=flL_set (k:=3) (f:=blk3) (fun _=>rfl) l i hi' 0 (by omega) (.int .i64 b.pos) ⟨b.pos,(l[i]).n,(l[i]).w⟩ rfl
  have f2:=flL_set (k:=3) (f:=blk3) (fun _=>rfl) (l.set i ⟨b.pos,(l[i]).n,(l[i]).w⟩) i (by simpa using hi') 1 (by omega) (.int .i64 b.n) ⟨b.pos,b.n,(l[i]).w⟩ (by rw[List.getElem_set_self];rfl)
  have f3:=flL_set (k:=3) (f:=blk3) (fun _=>rfl) ((l.set i ⟨b.pos,(l[i]).n,(l[i]).w⟩).set i ⟨b.pos,b.n,(l[i]).w⟩) i (by simpa using hi') 2 (by omega) (.int .i64 b.w) b (by rw[List.getElem_set_self];rfl)
  unfold blkC
  rw[show i*3=i*3+0 from rfl,f1,f2,f3,List.set_set,List.set_set]
 rw[e] at h3
 refine ⟨?_,by rw[List.length_set];exact h3⟩
 rw[set_other hgA,set_other hgA,set_other hgA]
 exact h.obj
theorem ins_eq (l:List Blk) (i:Nat) (h:i≤l.length) (b:Blk):((l++ [zB]).take (i+1)++l.drop i).set i b=l.take i++b::l.drop i:=by
 have e1:(l++ [zB]).take (i+1)=l.take i++ [(l++ [zB])[i]'(by simp;omega)]:=by
  rw[List.take_succ_eq_append_getElem (by simp;omega),List.take_append_of_le_length h]
 rw[e1,List.append_assoc,List.set_append_right _ _ (by simp;omega),List.length_take,Nat.min_eq_left h,Nat.sub_self]
 rfl
end
def GetOut (w:World) (A X gc gw:Nat) (v:Value) (r:Option (Nat×Alc×Mem)) (e:Ending) (w':World):Prop:=match r with
 |none=>(∃ev,e= .returned (.tuple #[.int .i64 0,ev])∧Som ev)∧Below w.heap.size w w'
 |some (p,a',m')=>e= .returned (.tuple #[.int .i64 p, .nilIface])∧ ∃v',AlcP w' A X v' a'∧MemP w' X gc gw m'∧Keeps (fun b=>b=X∨b=gc∨b=gw∨OfA A v b) w w'∧ ∀b,v'.ownBlock=some b→v.ownBlock=some b∨w.heap.size≤b
theorem info345:(Tryz.prog.info? 308).map (fun i=>(i.zero,i.size,i.bytes))=some (some (.agg #[.int .i64 0, .int .i64 0, .int .i64 0]),3,24):=by kernel_rfl
set_option maxRecDepth 100000 in
theorem get_any {w:World} {A X gc gw:Nat} {v:Value} {a:Alc} {m:Mem} (h:AlcP w A X v a) (hm:MemP w X gc gw m) (n:Nat) (hn:n≤4096):
  Calls Tryz.prog 170 #[.pointer (some ⟨A,0,none⟩), .int .i64 n, .int .i64 64] w (GetOut w A X gc gw v (getA a m n 64)):=by
 have HF:=Lib.hid (fun n t x W=>allocfail_any n t x W)
 by_cases hn0:n=0
 ·subst hn0
  have e0:getA a m 0 64=none:=by unfold getA;rw[if_pos (Or.inl (by omega))]
  rw[e0]
  clear h hm hn e0
  go_enter Tryz.func170,Tryz.ntmps170
  go_wp2_with fail
  refine (HF.out _ _ _ _).mono ?_
  rintro e w1 ⟨⟨ev,rfl,hev⟩,hb1⟩
  go_wp2
  go_ret2
  exact ⟨⟨_,rfl,hev⟩,hb1⟩
 have hn1:1≤(n:Int):=by omega
 have hnI:(n:Int)≤4096:=by omega
 obtain ⟨L,hL⟩: ∃L,L=a.l.length:=⟨_,rfl⟩
 obtain ⟨Av,cv,rfl⟩:=own_shape h.row
 have hLe:=h.len
 have hLI:(L:Int)≤65536:=by omega
 have H:=Lib.hid h
 have HM:=Lib.hid hm
 have HL:=Lib.hid hL
 rw[←hL] at H
 have HEnd:=Lib.hid (fun (W:World) (e:W.heap=w.heap) (i:Nat) (hi:i≤a.l.length)=>end_any (h.of_blocks (w':=W) (fun k _=>by rw[e])) i hi)
 have HStart:=Lib.hid (fun (W:World) (e:W.heap=w.heap) (i:Nat) (hi:i≤a.l.length)=>start_any (h.of_blocks (w':=W) (fun k _=>by rw[e])) i hi)
 have HGap:=Lib.hid (fun k hk hb hh=>gap_of n a.hi a.l a.lo k hk hb hh)
 have HNo:=Lib.hid (gap_no n a.hi a.l a.lo)
 have HBd:=Lib.hid (fun i hi=>okB_gap h.ok i hi)
 have HMost:=Lib.hid h.most
 have hA:=h.obj
 have hgA:getA a m n 64=(match gapL n a.hi a.lo a.l with|none=>none|some (at',k)=>if m.free? at' n then some (at',{ a with l:=a.l.take k++⟨at',n,64⟩::a.l.drop k},m.map at' n 64) else none):=by
  unfold getA;rw[if_neg (by omega)];rfl
 have HG:=Lib.hid hgA
 have c3:w.cell? ⟨A,3,none⟩=some (.slice Av L cv):=by rw[blk_cell hA,hL];rfl
 have HC3:=Lib.hid c3
 have c0:w.cell? ⟨A,0,none⟩=some (.pointer (some ⟨X,0,none⟩)):=by rw[blk_cell hA];rfl
 have HC0:=Lib.hid c0
 clear h hm hgA hL hLe hn c3 c0 hA hn0
 go_enter Tryz.func170,Tryz.ntmps170
 go_wp2_with fail
 go_loopw [8] (fun iv wr=> ∃i q:Nat,i≤L+1∧iv= .int .i64 (i:Int)∧Hid (wr=w.drewN q)∧Hid (∀j,j<i→(startL a.hi a.l j:Int) - endL a.lo a.l j<n)) (fun iv _=>L+1 - (intOf iv).toNat)
 case atStart=>exact ⟨0,0,by omega,rfl,Lib.hid rfl,Lib.hid fun j hj=>absurd hj (by omega)⟩
 case round=>
  obtain ⟨i,q,hi,rfl,HW,HB⟩:=hrel
  have c3:wr.cell? ⟨A,3,none⟩=some (.slice Av L cv):=by rw[HW.out];exact HC3.out
  by_cases hle:i≤L
  ·have hleI:(i:Int)≤(L:Int):=by omega
   have E1:=Lib.hid (HEnd.out wr (by rw[HW.out];rfl) i (by rw[←HL.out];exact hle))
   have E2:=Lib.hid (fun q'=>HStart.out (wr.drewN q') (by rw[HW.out];rfl) i (by rw[←HL.out];exact hle))
   have hbd:=HBd.out i (by rw[←HL.out];exact hle)
   have hmo:=HMost.out
   have HGi:=Lib.hid (HGap.out i (by rw[←HL.out];exact hle) HB.out)
   obtain ⟨en,hen⟩: ∃en,en=endL a.lo a.l i:=⟨_,rfl⟩
   obtain ⟨st,hst⟩: ∃st,st=startL a.hi a.l i:=⟨_,rfl⟩
   rw[←hen,←hst] at hbd
   have HEn:=Lib.hid hen
   have HSt:=Lib.hid hst
   rw[←hen] at E1
   rw[←hst] at E2
   rw[←hen,←hst] at HGi
   have hb1:(en:Int)≤(st:Int):=by omega
   have hb2:(st:Int)≤65536:=by omega
   have hen2:en≤65536:=by omega
   clear hen hst hbd hmo
   go_wp2_with fail
   refine E1.out.mono ?_
   rintro e w1 ⟨rfl,q1,rfl⟩
   go_wp2_with fail
   refine (E2.out _).mono ?_
   rintro e w1 ⟨rfl,q2,rfl⟩
   rw[World.drewN_drewN]
   have HW2:Hid (wr.drewN (q1+q2)=w.drewN (q+(q1+q2))):=Lib.hid (by rw[HW.out,World.drewN_drewN])
   by_cases hlt:(st:Int) - (en:Int)<(n:Int)
   ·have hltB:decide ((st:Int) - (en:Int)<(n:Int))=true:=by simpa using hlt
    go_wp2_with fail
    go_roundw
    case rel=>
     refine ⟨i+1,q+(q1+q2),by omega,by go_num,HW2,Lib.hid fun j hj=>?_⟩
     rcases Nat.lt_succ_iff_lt_or_eq.1 hj with h1|h1
     ·exact HB.out j h1
     ·rw[h1,←HEn.out,←HSt.out];exact hlt
    case measure=>simp[intOf];omega
   ·have hltB:decide ((st:Int) - (en:Int)<(n:Int))=false:=by simpa using hlt
    have HGk:=Lib.hid (HGi.out (by omega))
    have c0:wr.cell? ⟨A,0,none⟩=some (.pointer (some ⟨X,0,none⟩)):=by rw[HW.out];exact HC0.out
    have hnn:(n:Int)≤(st:Int) - (en:Int):=by omega
    have EM:=Lib.hid (map_any (HM.out.of_blocks (w':=wr.drewN (q1+q2)) (fun b _=>by rw[HW.out];rfl)) en n 64 (Or.inr rfl) (by omega) (by omega) (by omega))
    cases hfr:m.free? en n with
    |false=>
     rw[hfr,if_neg (by decide)] at EM
     have e0:getA a m n 64=none:=by
      rw[HG.out,HGk.out]
      simp only[hfr]
      rfl
     have HE0:=Lib.hid e0
     have HB0:Hid (Below w.heap.size w (wr.drewN (q1+q2))):=Lib.hid (by rw[HW2.out];exact below_drewN w _)
     clear e0 hfr
     go_wp2_with fail
     refine EM.out.mono ?_
     rintro e w3 ⟨⟨ev,rfl,t,x,rfl⟩,hb3⟩
     go_wp2_with fail
     refine (HF.out _ _ _ _).mono ?_
     rintro e w4 ⟨⟨ev,rfl,hev⟩,hb4⟩
     go_wp2
     go_ret2
     rw[HE0.out]
     exact ⟨⟨_,rfl,hev⟩,(HB0.out.trans (hb3.mono HB0.out.size)).trans (hb4.mono (by have:=HB0.out.size;have:=hb3.size;omega))⟩
    |true=>
     rw[hfr,if_pos rfl] at EM
     have HE0:Hid (getA a m n 64=some (en,{ a with l:=a.l.take i++⟨en,n,64⟩::a.l.drop i},m.map en n 64)):=Lib.hid (by
      rw[HG.out,HGk.out]
      simp only[hfr]
      rfl)
     have HOk:Hid (okB a.hi a.lo (a.l.take i++⟨en,n,64⟩::a.l.drop i)):=Lib.hid (by
      have:=okB_ins (n:=n) (wd:=64) (by omega) (by omega) (Or.inr rfl) H.out.ok i (by rw[←HL.out];exact hle) (by rw[←HEn.out,←HSt.out];omega)
      rwa[←HEn.out] at this)
     have hheap:(wr.drewN (q1+q2)).heap=w.heap:=by rw[HW.out];rfl
     have HHp:=Lib.hid hheap
     clear hfr hheap
     go_wp2_with fail
     refine EM.out.mono ?_
     rintro e w3 ⟨rfl,hm3,hk3⟩
     have hap:=H.out.apart HM.out
     have hb3: ∀k,OfA A (.slice Av L cv) k→w3.heap[k]?=w.heap[k]?:=fun k hk=>(hk3.block k (by rw[HHp.out];exact H.out.of_lt hk) (hap k hk)).trans (by rw[HHp.out])
     have R3:=H.out.raw.of_blocks hb3
     have hAl:A<w3.heap.size:=blk_in R3.obj
     have c3':w3.cell? ⟨A,3,none⟩=some (.slice Av L cv):=by rw[blk_cell R3.obj];rfl
     have f3': ∀o,w3.frozen? ⟨A,o,none⟩=false:=fun o=>blk_frozen R3.obj o
     obtain ⟨i3,hi3,hz3,hs3',hbb3⟩:=info_parts info345
     have hr3:w3.ownsRow 0 308 3 (.slice Av L cv) L (blkC a.l):=by have:=R3.row;rwa[←HL.out] at this
     have E4:=Lib.hid (hr3.alloc (.cells #[.int .i64 0, .int .i64 0, .int .i64 0] 308))
     have N4:Hid (∀j u,([.int .i64 0, .int .i64 0, .int .i64 0]:List Value)[j]?=some u→(w3.alloc (.cells #[.int .i64 0, .int .i64 0, .int .i64 0] 308)).cell? ((⟨w3.heap.size,0,none⟩:Addr).add j)=some u):=Lib.hid (by
      intro j u hu
      rw[Addr.add_lit,Nat.zero_add]
      exact (World.cell?_alloc_at _ _ _ _ rfl).trans (by simpa using hu))
     have O4:Hid (∀u∈([.int .i64 0, .int .i64 0, .int .i64 0]:List Value),u.oneCell'=true):=Lib.hid (by
      intro u hu
      simp at hu
      subst hu
      rfl)
     have M41:=Lib.hid (show L+1≤maxLen by unfold maxLen;omega)
     have M42:=Lib.hid (show (L+1)*24≤140737488355328 by omega)
     have M43:=Lib.hid (show 0≤(w3.alloc (.cells #[.int .i64 0, .int .i64 0, .int .i64 0] 308)).heap.size by omega)
     have HNe:=Lib.hid H.out.ne
     have HR3:=Lib.hid R3
     have HM3:=Lib.hid hm3
     have HK3:Hid (Keeps (fun b=>b=X∨b=gc∨b=gw∨OfA A (.slice Av L cv) b) w w3):=Lib.hid ⟨by rw[hk3.os,HW2.out];rfl,by rw[hk3.tape,HW2.out];rfl,by rw[hk3.output,HW2.out];rfl,by have:=hk3.size;rw[HHp.out] at this;exact this,fun k hk hx=>(hk3.block k (by rw[HHp.out];exact hk) (fun hh=>hx (by rcases hh with hh|hh|hh<;>first|exact Or.inl hh|exact Or.inr (Or.inl hh) |exact Or.inr (Or.inr (Or.inl hh))))).trans (by rw[HHp.out])⟩
     have HB3:=Lib.hid hb3
     clear hap hb3 R3 hr3 hm3 hk3
     go_wp2_with (at_builtin;refine wpList_append_own_at _ rfl _ _ 425 rfl 0 308 i3 _ 3 24 Tryz.underlying425 hi3 hz3 hs3' hbb3 rfl (by decide) _ _ _ rfl E4.out ⟨w3.heap.size,0,none⟩ 1 1 [.int .i64 0, .int .i64 0, .int .i64 0] rfl rfl N4.out O4.out M41.out M42.out M43.out ?_;intro v' w5 hown hgrow _ hnew;obtain ⟨A',c',rfl⟩:=own_shape hown;have t0:=(World.cell?_of_block (a:=⟨A,3,none⟩) (hgrow.block A (by simp;omega) (fun e=>HNe.out e.symm))).trans ((World.cell?_alloc_lt _ _ ⟨A,3,none⟩ hAl).trans c3');have t1:=(World.frozen?_of_block (a:=⟨A,3,none⟩) (hgrow.block A (by simp;omega) (fun e=>HNe.out e.symm))).trans ((World.frozen?_alloc_old _ _ ⟨A,3,none⟩ (Nat.ne_of_lt hAl)).trans (f3' 3));have HOwn:=Lib.hid hown;have HGr:=Lib.hid hgrow;have HNw:=Lib.hid hnew;clear hown hgrow hnew)
     have hblk5: ∀k,k<w3.heap.size→Value.ownBlock (.slice Av L cv)≠some k→w5.heap[k]?=w3.heap[k]?:=fun k hk hne=>(HGr.out.block k (by simp;omega) (fun e=>hne e.symm)).trans (Below.heap_alloc _ _ _ hk)
     have hA5:w5.heap[A]?=some (.cells #[.pointer (some ⟨X,0,none⟩), .int .i64 a.lo, .int .i64 a.hi, .slice Av L cv] 427 (0,0)):=(hblk5 A hAl HNe.out).trans HR3.out.obj
     have hr5:w5.ownsRow 0 308 3 (.slice A' (L+1) c') (a.l++ [zB]).length (blkC (a.l++ [zB])):=by
      rw[blkC_snoc,List.length_append,←HL.out];exact HOwn.out
     have R6:=AlcR.laid hA5 hr5
     have hK5:Keeps (fun b=>b=X∨b=gc∨b=gw∨OfA A (.slice Av L cv) b) w w5:=(HK3.out.alloc (.cells #[.int .i64 0, .int .i64 0, .int .i64 0] 308)).grown HGr.out fun k hk=>Or.inr (Or.inr (Or.inr (Or.inr hk)))
     have K6:Keeps (fun b=>b=X∨b=gc∨b=gw∨OfA A (.slice Av L cv) b) w (w5.setCell ⟨A,3,none⟩ (.slice A' (L+1) c')):=hK5.setCell (p:=⟨A,3,none⟩) (Or.inr (Or.inr (Or.inr (Or.inl rfl)))) _
     have M6:MemP (w5.setCell ⟨A,3,none⟩ (.slice A' (L+1) c')) X gc gw (m.map en n 64):=HM3.out.of_blocks fun b hb=>by
      have hba:b≠A:=fun e=>H.out.apart HM.out A (Or.inl rfl) (by rw[←e];exact hb)
      rw[set_other hba]
      refine hblk5 b ?_ (fun e=>H.out.apart HM.out b (Or.inr e) hb)
      obtain ⟨l1,l2,l3⟩:=HM3.out.lt
      rcases hb with rfl|rfl|rfl<;>assumption
     have F6: ∀g,A'=some ⟨g,0,none⟩→Value.ownBlock (.slice Av L cv)=some g∨w.heap.size≤g:=by
      intro g hg
      rcases HNw.out with h1|h1
      ·exact Or.inl ((show Value.ownBlock (.slice Av L cv)=Value.ownBlock (.slice A' (L+1) c') from h1.symm).trans (by rw[hg];rfl))
      ·have h1':Value.ownBlock (.slice A' (L+1) c')=some (w3.alloc (.cells #[.int .i64 0, .int .i64 0, .int .i64 0] 308)).heap.size:=h1
       rw[hg] at h1'
       have:g=(w3.alloc (.cells #[.int .i64 0, .int .i64 0, .int .i64 0] 308)).heap.size:=by injection h1'
       right
       have h2:=HK3.out.size
       rw[this];simp;omega
     generalize w5.setCell ⟨A,3,none⟩ (.slice A' (L+1) c')=w6 at R6 K6 M6 ⊢
     have hr6:=R6.row
     rw[List.length_append,←HL.out] at hr6
     obtain ⟨g,c,hgv,_,hgl,hcap,_,_⟩:=own_at hr6 (by simp)
     injection hgv with hg1 hgn hg2
     subst hg1 hg2
     clear hgn
     have HF6:=Lib.hid (F6 g rfl)
     have HR6:=Lib.hid R6
     have HK6:=Lib.hid K6
     have HM6:=Lib.hid M6
     have c6:w6.cell? ⟨A,3,none⟩=some (.slice (some ⟨g,0,none⟩) (L+1) c'):=by rw[blk_cell R6.obj];rfl
     have hcI:(L:Int)+1≤(c':Int):=by simp at hcap;omega
     clear hblk5 hA5 hr5 R6 hK5 K6 M6 F6 hr6 hgl hcap
     have hs1:IntKind.i64.wrap ((i:Int)+1)=(i:Int)+1:=IntWalk.i64_in _ (by omega)
     have hs2:(0:Int)≤(i:Int)+1:=by omega
     have hs3:(i:Int)+1≤(L:Int)+1:=by omega
     have hs4:(i:Int)≤(L:Int)+1:=by omega
     have hcopy:Hid (∃(cnt:Nat) (w7:World),(Builtin.copy_ #[425,425] 3 #[.slice (if c'=i+1 then some ⟨g,0,none⟩ else some ⟨g,(i+1)*3,none⟩) (L - i) (c' - (i+1)), .slice (if c'=i then some ⟨g,0,none⟩ else some ⟨g,i*3,none⟩) (L+1 - i) (c' - i)]).run Tryz.prog w6.drew= .ok (goInt cnt) w7∧
       AlcR w7 A X (.slice (some ⟨g,0,none⟩) (L+1) c') a.lo a.hi ((a.l++ [zB]).take (i+1)++a.l.drop i)∧Keeps (fun b=>b=X∨b=gc∨b=gw∨OfA A (.slice Av L cv) b) w w7∧MemP w7 X gc gw (m.map en n 64)):=Lib.hid (by
      have hsize:(Tryz.prog.info? 308).map (·.size)=some 3:=by rw[hi3];exact congrArg some hs3'
      by_cases hiL:i<L
      ·have R6:=HR6.out
       rw[HL.out] at R6
       obtain ⟨cur,hc,hsz,R7⟩:=R6.moved i (by rw[←HL.out];exact hiL)
       have hlen:(blkC (a.l.drop i)).length=(L - i)*3:=by rw[blkC_len,List.length_drop,←HL.out]
       have hr:=R6.row
       rw[show (a.l++ [zB]).length=a.l.length+1 by simp] at hr
       obtain ⟨g',c'',hv',_,_,_,p1,_⟩:=own_at hr (by omega)
       injection hv' with hv1 _ _
       injection hv1 with hv1
       injection hv1 with hv1 _ _
       subst hv1
       rw[if_neg (by omega),if_neg (by omega)]
       have hrun:=run_copy_rowK (P:=Tryz.prog) w6.drew 425 425 3 308 3 g ((i+1)*3) (L - i) (c' - (i+1)) ⟨g,i*3,none⟩ (L+1 - i) (c' - i) cur 308 (blkC (a.l.drop i)) Tryz.underlying425 hsize hc
        (by rw[hlen,show Nat.min (L+1 - i) (L - i)=L - i from Nat.min_eq_right (by omega)])
        (by
         intro j u hj
         have hjl:j<(L - i)*3:=by rw[←hlen];exact (List.getElem?_eq_some_iff.1 hj).1
         rw[Addr.add_lit]
         refine (p1 (i*3+j) (by rw[←HL.out];omega)).trans ?_
         have e1:(blkC (a.l.drop i))=(blkC a.l).drop (i*3):=(flL_drop (f:=blk3) (fun _=>rfl) a.l i).symm
         rw[e1,List.getElem?_drop] at hj
         have e2:blkC (a.l++ [zB])=blkC a.l++blkC [zB]:=by simp[blkC]
         rw[e2,List.getElem?_append_left (by rw[blkC_len,←HL.out];omega)]
         exact hj) hsz (blkC_one _)
       refine ⟨_,_,hrun,?_,?_,?_⟩
       ·rw[HL.out];exact R7.of_blocks fun _ _=>rfl
       ·have hk:Keeps (fun k=>k=g) w6.drew (w6.drew.setRow g (cur.toList.take ((i+1)*3)++blkC (a.l.drop i)++cur.toList.drop ((i+1)*3+(blkC (a.l.drop i)).length)).toArray):=⟨rfl,rfl,rfl,by rw[grown_setRow];exact Nat.le_refl _,fun k _ hx=>setRow_other' _ _ _ _ hx⟩
        refine HK6.out.drew.trans hk fun k hk=>?_
        subst hk
        rcases HF6.out with h1|h1
        ·exact Or.inl (Or.inr (Or.inr (Or.inr (Or.inr h1))))
        ·exact Or.inr h1
       ·refine HM6.out.of_blocks fun b hb=>?_
        have:b≠g:=by
         obtain ⟨t,ct,ho⟩:=HM6.out.obj
         rcases hb with rfl|rfl|rfl
         ·exact blk_ne ho hc (by decide)
         ·exact blk_ne HM6.out.hs hc (by decide)
         ·exact blk_ne HM6.out.ws hc (by decide)
        exact setRow_other' w6.drew g b _ this
      ·obtain rfl:i=L:=by omega
       refine ⟨0,w6.drew,run_copy_noneK w6.drew _ _ _ 308 3 _ _ _ _ _ _ Tryz.underlying425 hsize (by rw[Nat.sub_self i];exact Nat.min_zero _),?_,HK6.out.drew,HM6.out.of_blocks fun _ _=>rfl⟩
       have e1:(a.l++ [zB]).take (i+1)++a.l.drop i=a.l++ [zB]:=by
        rw[HL.out,List.drop_length,List.append_nil,List.take_of_length_le (by simp)]
       rw[e1]
       exact HR6.out.of_blocks fun _ _=>rfl)
     go_still_tail 13,(by kernel_rfl)
     change wpList _ _ _ _ _ w6.drew
     obtain ⟨cnt,w7,hrun,R7,K7,M7⟩:=hcopy.out
     refine wpList_copy_eq w6.drew rfl (.tmp 75) (.tmp 81) _ _ rfl _ _ rfl rfl hrun ?_
     have e7:((a.l++ [zB]).take (i+1)++a.l.drop i).length=L+1:=by have:=HL.out;simp;omega
     have R7':AlcR w7 A X (.slice (some ⟨g,0,none⟩) ((a.l++ [zB]).take (i+1)++a.l.drop i).length c') a.lo a.hi ((a.l++ [zB]).take (i+1)++a.l.drop i):=by rw[e7];exact R7
     have R8:=R7'.stored i (by rw[e7];omega) ⟨en,n,64⟩
     rw[ins_eq a.l i (by rw[←HL.out];exact hle),e7] at R8
     have hlen8:(a.l.take i++⟨en,n,64⟩::a.l.drop i).length=L+1:=by have:=HL.out;simp;omega
     obtain ⟨g',c'',hv',_,hgl,_,p7,f7⟩:=own_at R7'.row (by rw[e7];omega)
     injection hv' with hv1 hv2 hv3
     injection hv1 with hv1
     injection hv1 with hv1 _ _
     subst hv1
     clear hv2 hv3
     have hx7: ∀j,j<3→ ∃u,w7.cell? ⟨g,i*3+j,none⟩=some u:=fun j hj=>by
      rw[p7 (i*3+j) (by rw[e7];omega)]
      have:i*3+j<(blkC ((a.l++ [zB]).take (i+1)++a.l.drop i)).length:=by rw[blkC_len,e7];omega
      exact ⟨_,List.getElem?_eq_getElem this⟩
     obtain ⟨u0,x0⟩:=hx7 0 (by omega)
     obtain ⟨u1,x1⟩:=hx7 1 (by omega)
     obtain ⟨u2,x2⟩:=hx7 2 (by omega)
     rw[Nat.add_zero] at x0
     have c7:w7.cell? ⟨A,3,none⟩=some (.slice (some ⟨g,0,none⟩) (L+1) c'):=by rw[blk_cell R7.obj];rfl
     have hgne:g≠X∧g≠gc∧g≠gw:=by
      obtain ⟨cur,hc⟩:=row_tag R7.row (g:=g) rfl
      obtain ⟨t,ct,ho⟩:=M7.obj
      exact ⟨blk_ne hc ho (by decide),blk_ne hc M7.hs (by decide),blk_ne hc M7.ws (by decide)⟩
     have M8:MemP (((w7.setCell ⟨g,i*3,none⟩ (.int .i64 en)).setCell ⟨g,i*3+1,none⟩ (.int .i64 n)).setCell ⟨g,i*3+2,none⟩ (.int .i64 64)) X gc gw (m.map en n 64):=M7.of_blocks fun b hb=>by
      have:b≠g:=by rcases hb with rfl|rfl|rfl<;>first|exact hgne.1.symm|exact hgne.2.1.symm|exact hgne.2.2.symm
      rw[set_other this,set_other this,set_other this]
     have K8:Keeps (fun b=>b=X∨b=gc∨b=gw∨OfA A (.slice Av L cv) b) w (((w7.setCell ⟨g,i*3,none⟩ (.int .i64 en)).setCell ⟨g,i*3+1,none⟩ (.int .i64 n)).setCell ⟨g,i*3+2,none⟩ (.int .i64 64)):=by
      refine K7.trans (Y:=fun k=>k=g) ((((Keeps.refl (fun k=>k=g) w7).setCell (p:=⟨g,i*3,none⟩) rfl _).setCell (p:=⟨g,i*3+1,none⟩) rfl _).setCell (p:=⟨g,i*3+2,none⟩) rfl _) fun k hk=>?_
      subst hk
      rcases HF6.out with h1|h1
      ·exact Or.inl (Or.inr (Or.inr (Or.inr (Or.inr h1))))
      ·exact Or.inr h1
     have HR8:=Lib.hid R8
     have HM8:=Lib.hid M8
     have HK8:=Lib.hid K8
     have HL8:=Lib.hid hlen8
     clear R7 R7' R8 M7 M8 K7 K8 e7 p7 hx7 hgne hlen8 hrun hcopy
     go_wp2_with fail
     all_goals
      go_ret2
      rw[HE0.out]
      have hL9:=HL.out
      subst hL9
      exact ⟨rfl,_,⟨HOk.out,HMost.out,HR8.out.obj,by have:=HR8.out.row;exact this⟩,HM8.out,HK8.out,fun b hb=>by
       have:b=g:=by injection hb with hb;exact hb.symm
       subst this
       exact HF6.out⟩
  ·obtain rfl:i=L+1:=by omega
   have e0:getA a m n 64=none:=by
    rw[HG.out,HNo.out fun j hj=>HB.out j (by rw[HL.out];omega)]
   have HE0:=Lib.hid e0
   have HB0:Hid (Below w.heap.size w wr):=Lib.hid (by rw[HW.out];exact below_drewN w _)
   have hlI:(L:Int)<((L+1:Nat):Int):=by omega
   clear e0 hle
   go_wp2_with fail
   refine (HF.out _ _ _ _).mono ?_
   rintro e w4 ⟨⟨ev,rfl,hev⟩,hb4⟩
   go_wp2
   go_ret2
   rw[HE0.out]
   exact ⟨⟨_,rfl,hev⟩,HB0.out.trans (hb4.mono HB0.out.size)⟩
end Go.Proofs.YtaangaogmnlljaaGreatDoor.Kn
namespace Go.Proofs.YtaangaogmnlljaaGreatDoor.Kn
open Go.RowKit Asm
theorem mid_set {w:World} {g o:Nat} {A y B:List Value} {t:TypeId} (h:w.heap[g]?=some (.cells (A++y++B).toArray t (0,0))) (j:Nat) (hj:j<y.length) (ho:o=A.length+j) (v:Value):
  (w.setCell ⟨g,o,none⟩ v).heap[g]?=some (.cells (A++y.set j v++B).toArray t (0,0)):=by
 rw[set_block h,ho,←set_mid A y B j hj v]
 simp
theorem TabP.mid {w:World} {T gt:Nat} {l:List TRow} {N:Nat} (h:TabP w T gt l N) {p:Nat} (hp:p<64):
  w.heap[gt]?=some (.cells ((l.take p).flatMap tr10++tr10 (tAt l p)++(l.drop (p+1)).flatMap tr10).toArray 382 (0,0))∧((l.take p).flatMap tr10).length=p*10:=by
 have hlt:p<l.length:=by rw[h.ok.len];exact hp
 refine ⟨?_,by rw[flL_len (k:=10) (fun _=>rfl),List.length_take,Nat.min_eq_left (by omega)]⟩
 rw[tAt_get hlt,←flL_mid l p hlt]
 exact h.row
theorem TabP.put {w w':World} {T gt:Nat} {l:List TRow} {N:Nat} (h:TabP w T gt l N) {p:Nat} (hp:p<64) (r:TRow) (hr:TRowOk r p N) (hT:w'.heap[T]?=w.heap[T]?)
  (hm:w'.heap[gt]?=some (.cells ((l.take p).flatMap tr10++tr10 r++(l.drop (p+1)).flatMap tr10).toArray 382 (0,0))):TabP w' T gt (l.set p r) N:=by
 have hlt:p<l.length:=by rw[h.ok.len];exact hp
 refine ⟨h.ok.set hp hr,hT.trans h.obj,?_⟩
 rw[hm,flL_put l p hlt]
 rfl
theorem u64_0:U64 0:=⟨by decide,by decide⟩
end Go.Proofs.YtaangaogmnlljaaGreatDoor.Kn
namespace Go.Proofs.YtaangaogmnlljaaGreatDoor.Kn
open Go.RowKit Asm
theorem free_at {l:List TRow} {i:Nat} (hi:i<l.length) (hb: ∀j,j<i→(tAt l j).t.id≠0) (h:(tAt l i).t.id=0):freeT l=some i:=by
 induction l generalizing i with
 |nil=>simp at hi
 |cons r l ih=>
  unfold freeT
  cases i with
  |zero=>rw[if_pos (show r.t.id=0 from h)]
  |succ i=>
   rw[if_neg (show¬r.t.id=0 from hb 0 (by omega)),ih (by simpa using hi) (fun j hj=>hb (j+1) (by omega)) h]
   rfl
theorem free_no {l:List TRow} (hb: ∀j,j<l.length→(tAt l j).t.id≠0):freeT l=none:=by
 induction l with
 |nil=>rfl
 |cons r l ih=>
  unfold freeT
  rw[if_neg (show¬r.t.id=0 from hb 0 (by simp)),ih fun j hj=>hb (j+1) (by simpa using hj)]
  rfl
theorem TabOk.more {l:List TRow} {N:Nat} (h:TabOk l N) (hN:N+1≤1000000000):TabOk l (N+1):=
 ⟨h.len,hN,fun p hp=>by have k:=h.row p hp;exact ⟨by have:=k.times;omega,k.id,k.free,k.state,k.home,k.value,k.joiner⟩⟩
def BornOut (w:World) (T gt:Nat) (l:List TRow) (N:Nat) (r:Option (Int×List TRow)) (e:Ending) (w':World):Prop:=match r with
 |none=>(∃ev,e= .returned (.tuple #[.int .u64 0,ev])∧Som ev)∧TabP w' T gt l N∧Keeps (fun b=>b=gt) w w'
 |some (id,l')=>e= .returned (.tuple #[.int .u64 id, .nilIface])∧TabP w' T gt l' (N+1)∧Keeps (fun b=>b=gt) w w'
set_option maxRecDepth 100000 in
theorem born_any {w:World} {T gt:Nat} {l:List TRow} {N:Nat} (h:TabP w T gt l N) (home:Int) (hh:U64 home) (hN:N+1≤1000000000):
  Calls Tryz.prog 171 #[.pointer (some ⟨T,0,none⟩), .int .u64 home] w (BornOut w T gt l N (bornT l home)):=by
 have HF:=Lib.hid (fun k W=>tabfail_any k W)
 have H:=Lib.hid h
 have HH:=Lib.hid hh
 have HN:=Lib.hid hN
 have c0:=h.at0
 clear h hh hN
 go_enter Tryz.func171,Tryz.ntmps171
 go_wp2_with fail
 go_loopw [13] (fun iv wr=> ∃i:Nat,i≤64∧iv= .int .i64 (i:Int)∧wr=w∧Hid (∀j,j<i→(tAt l j).t.id≠0)) (fun iv _=>64 - (intOf iv).toNat)
 case atStart=>exact ⟨0,by omega,rfl,rfl,Lib.hid fun j hj=>absurd hj (by omega)⟩
 case round=>
  obtain ⟨i,hi,rfl,rfl,HB⟩:=hrel
  by_cases hlt:i<64
  ·have hltI:(i:Int)<64:=by omega
   have hc:=fun j hj=>H.out.cell hlt j hj
   have hk:=H.out.ok.row i hlt
   obtain ⟨hm,hl⟩:=H.out.mid hlt
   have hf:=fun o=>H.out.frozen o
   generalize hr:tAt l i=r at hc hk hm
   obtain ⟨ti,re,id,st,ho,va,jo,lo,sp⟩:=r
   by_cases hz:id=0
   ·subst hz
    obtain ⟨hz1,hz2⟩:=hk.free rfl
    injection hz1 with _ hz3 hz4 hz5 hz6 hz7 hz8
    simp only at hz2
    subst hz2 hz3 hz4 hz5 hz6 hz7 hz8
    have x0:wr.cell? ⟨gt,i*10,none⟩=some (.int .u64 ti):=hc 0 (by omega)
    have x1:wr.cell? ⟨gt,i*10+1,none⟩=some (.bool false):=hc 1 (by omega)
    have x3:wr.cell? ⟨gt,i*10+3,none⟩=some (.int .u64 0):=hc 3 (by omega)
    have x4:wr.cell? ⟨gt,i*10+4,none⟩=some (.int .i64 0):=hc 4 (by omega)
    have x5:wr.cell? ⟨gt,i*10+5,none⟩=some (.int .u64 0):=hc 5 (by omega)
    have x6:wr.cell? ⟨gt,i*10+6,none⟩=some (.int .u64 0):=hc 6 (by omega)
    have x7:wr.cell? ⟨gt,i*10+7,none⟩=some (.int .u64 0):=hc 7 (by omega)
    have x8:wr.cell? ⟨gt,i*10+8,none⟩=some (.bool false):=hc 8 (by omega)
    have x9:wr.cell? ⟨gt,i*10+9,none⟩=some (.bool false):=hc 9 (by omega)
    have f0:=hf (i*10)
    have f1:=hf (i*10+1)
    have f3:=hf (i*10+3)
    have f4:=hf (i*10+4)
    have f5:=hf (i*10+5)
    have f6:=hf (i*10+6)
    have f7:=hf (i*10+7)
    have f8:=hf (i*10+8)
    have f9:=hf (i*10+9)
    have ht:=hk.times
    simp only at ht
    have ht2:ti≤1000000000:=by have:=HN.out;omega
    have ht1:=ht.1
    have m0:=mid_set hm 0 (by simp[tr10]) (show i*10=_ by rw[hl];rfl) (.int .u64 (ti+1))
    have m1:=mid_set m0 1 (by simp[tr10]) (show i*10+1=_ by rw[hl]) (.bool true)
    have m3:=mid_set m1 3 (by simp[tr10]) (show i*10+3=_ by rw[hl]) (.int .u64 ((i:Int)+64* (ti+1)))
    have m4:=mid_set m3 4 (by simp[tr10]) (show i*10+4=_ by rw[hl]) (.int .i64 1)
    have m5:=mid_set m4 5 (by simp[tr10]) (show i*10+5=_ by rw[hl]) (.int .u64 home)
    have m6:=mid_set m5 6 (by simp[tr10]) (show i*10+6=_ by rw[hl]) (.int .u64 0)
    have m7:=mid_set m6 7 (by simp[tr10]) (show i*10+7=_ by rw[hl]) (.int .u64 0)
    have m8:=mid_set m7 8 (by simp[tr10]) (show i*10+8=_ by rw[hl]) (.bool false)
    have m9:=mid_set m8 9 (by simp[tr10]) (show i*10+9=_ by rw[hl]) (.bool false)
    have HM:=Lib.hid m9
    have hne:((i:Int)+64* (ti+1))≠0:=by omega
    have e0:bornT l home=some ((i:Int)+64* (ti+1),l.set i ⟨ti+1,false,⟨(i:Int)+64* (ti+1),1,home,0,0,false,false⟩⟩):=by
     unfold bornT
     rw[free_at (by rw[H.out.ok.len];exact hlt) HB.out (by rw[hr])]
     have:l.getD i {}=⟨ti,false,⟨0,0,0,0,0,false,false⟩⟩:=hr
     simp only[this]
     rw[Int.emod_eq_of_lt (by omega) (by omega)]
    have HE:=Lib.hid e0
    have HK:Hid (TRowOk ⟨ti+1,false,⟨(i:Int)+64* (ti+1),1,home,0,0,false,false⟩⟩ i (N+1)):=Lib.hid ⟨by show 0≤ti+1∧ti+1≤((N+1:Nat):Int);omega,fun _=>⟨rfl,by show 1≤ti+1;omega⟩,fun e=>absurd e hne,show (0:Int)≤1∧(1:Int)≤4 by decide,HH.out,u64_0,u64_0⟩
    have HY:Hid ((.bool true:Value)= .bool (((i:Int)+64* (ti+1)) !=0)):=Lib.hid (by simp;omega)
    clear m0 m1 m3 m4 m5 m6 m7 m8 m9 hm hl hk hc hf hr e0 ht hne
    go_wp2_with fail
    go_ret2
    rw[HE.out]
    refine ⟨rfl,TabP.put ⟨H.out.ok.more HN.out,H.out.obj,H.out.row⟩ hlt _ HK.out ?_ ?_,?_⟩
    ·have e: ∀(W:World) o v,(W.setCell ⟨gt,o,none⟩ v).heap[T]?=W.heap[T]?:=fun W o v=>set_other H.out.ne
     rw[e,e,e,e,e,e,e,e,e]
    ·have hy:tr10 ⟨ti+1,false,⟨(i:Int)+64* (ti+1),1,home,0,0,false,false⟩⟩= [.int .u64 (ti+1), .bool true, .bool false, .int .u64 ((i:Int)+64* (ti+1)), .int .i64 1, .int .u64 home, .int .u64 0, .int .u64 0, .bool false, .bool false]:=by
      unfold tr10
      rw[←HY.out]
     rw[hy]
     exact HM.out
    ·iterate 9 (refine Keeps.setCell (X:=fun b=>b=gt) (p:=⟨gt,_,none⟩) ?_ rfl _)
     exact Keeps.refl _ _
   ·have x1:wr.cell? ⟨gt,i*10+1,none⟩=some (.bool true):=by
     rw[hc 1 (by omega)];simp[tr10,hz]
    have HB2:Hid (∀j,j<i+1→(tAt l j).t.id≠0):=Lib.hid fun j hj=>by
     rcases Nat.lt_succ_iff_lt_or_eq.1 hj with h1|h1
     ·exact HB.out j h1
     ·rw[h1,hr];exact hz
    clear hm hl hk hc hf hr hz
    go_wp2_with fail
    go_roundw
    case rel=>exact ⟨i+1,by omega,by go_num,trivial,HB2⟩
    case measure=>simp[intOf];omega
  ·obtain rfl:i=64:=by omega
   have e0:bornT l home=none:=by
    unfold bornT
    rw[free_no fun j hj=>HB.out j (by rw[←H.out.ok.len];exact hj)]
   have HE:=Lib.hid e0
   clear e0
   go_wp2_with fail
   refine (HF.out _ _).mono ?_
   rintro e w2 ⟨⟨ev,rfl,hev⟩,hb⟩
   go_wp2
   go_ret2
   rw[HE.out]
   exact ⟨⟨_,rfl,hev⟩,H.out.below hb,Keeps.ofBelow hb⟩
end Go.Proofs.YtaangaogmnlljaaGreatDoor.Kn
namespace Go.Proofs.YtaangaogmnlljaaGreatDoor.Kn
open Go.RowKit Asm
def or4 (r:ORow):List Value:= [.int .u64 r.times, .int .u64 r.handle, .int .i64 r.kind, .int .u64 r.addr]
def objC (l:List ORow):List Value:=l.flatMap or4
def oAt (l:List ORow) (p:Nat):ORow:=l.getD p {}
structure ORowOk (r:ORow) (p N:Nat):Prop where
 times:0≤r.times∧r.times≤N
 handle:r.handle≠0→r.handle=p+1+64* (r.times - 1)∧1≤r.times
 free:r.handle=0→r.kind=0∧r.addr=0
 kind:0≤r.kind∧r.kind≤6
 addr:U64 r.addr
structure ObjOk (l:List ORow) (N:Nat):Prop where
 len:l.length=64
 most:N≤1000000000
 row: ∀p,p<64→ORowOk (oAt l p) p N
theorem oAt_get {l:List ORow} {p:Nat} (h:p<l.length):oAt l p=l[p]:=by
 unfold oAt;rw[List.getD_eq_getElem?_getD,List.getElem?_eq_getElem h];rfl
theorem oAt_set {l:List ORow} {p q:Nat} (h:p<l.length) (r:ORow):oAt (l.set p r) q=if q=p then r else oAt l q:=by
 unfold oAt
 exact m94
theorem ObjOk.set {l:List ORow} {N p:Nat} (h:ObjOk l N) (hp:p<64) {r:ORow} (hr:ORowOk r p N):ObjOk (l.set p r) N:=
 ⟨by rw[List.length_set];exact h.len,h.most,fun q hq=>by
  rw[oAt_set (by rw[h.len];exact hp)]
  split
  ·rename_i e;subst e;exact hr
  ·exact h.row q hq⟩
theorem ObjOk.more {l:List ORow} {N:Nat} (h:ObjOk l N) (hN:N+1≤1000000000):ObjOk l (N+1):=
 ⟨h.len,hN,fun p hp=>by have k:=h.row p hp;exact ⟨by have:=k.times;omega,k.handle,k.free,k.kind,k.addr⟩⟩
structure ObjP (w:World) (O go:Nat) (l:List ORow) (N:Nat):Prop where
 ok:ObjOk l N
 obj:w.heap[O]?=some (.cells #[.slice (some ⟨go,0,none⟩) 64 64] 302 (0,0))
 row:w.heap[go]?=some (.cells (objC l).toArray 304 (0,0))
section
variable {w w':World} {O go:Nat} {l:List ORow} {N:Nat}
theorem ObjP.of_blocks (h:ObjP w O go l N) (e: ∀b,b=O∨b=go→w'.heap[b]?=w.heap[b]?):ObjP w' O go l N:=
 ⟨h.ok,(e O (Or.inl rfl)).trans h.obj,(e go (Or.inr rfl)).trans h.row⟩
theorem ObjP.lt (h:ObjP w O go l N):O<w.heap.size∧go<w.heap.size:=⟨blk_in h.obj,blk_in h.row⟩
theorem ObjP.below (h:ObjP w O go l N) (hb:Below w.heap.size w w'):ObjP w' O go l N:=
 h.of_blocks fun b hb'=>hb.block b (by obtain ⟨l1,l2⟩:=h.lt;rcases hb' with rfl|rfl<;>assumption)
theorem ObjP.ne (h:ObjP w O go l N):O≠go:=blk_ne h.obj h.row (by decide)
theorem ObjP.at0 (h:ObjP w O go l N):w.cell? ⟨O,0,none⟩=some (.slice (some ⟨go,0,none⟩) 64 64):=by rw[blk_cell h.obj];rfl
theorem ObjP.cell (h:ObjP w O go l N) {p:Nat} (hp:p<64) (j:Nat) (hj:j<4):w.cell? ⟨go,p*4+j,none⟩=(or4 (oAt l p))[j]?:=by
 have hlt:p<l.length:=by rw[h.ok.len];exact hp
 rw[blk_cell h.row,oAt_get hlt]
 have:=flL_at (k:=4) (f:=or4) (fun _=>rfl) l p hlt j hj
 simpa[objC] using this
theorem ObjP.frozen (h:ObjP w O go l N) (o:Nat):w.frozen? ⟨go,o,none⟩=false:=blk_frozen h.row o
theorem ObjP.mid (h:ObjP w O go l N) {p:Nat} (hp:p<64):
  w.heap[go]?=some (.cells ((l.take p).flatMap or4++or4 (oAt l p)++(l.drop (p+1)).flatMap or4).toArray 304 (0,0))∧((l.take p).flatMap or4).length=p*4:=by
 have hlt:p<l.length:=by rw[h.ok.len];exact hp
 refine ⟨?_,by rw[flL_len (k:=4) (fun _=>rfl),List.length_take,Nat.min_eq_left (by omega)]⟩
 rw[oAt_get hlt,←flL_mid l p hlt]
 exact h.row
theorem ObjP.put (h:ObjP w O go l N) {p:Nat} (hp:p<64) (r:ORow) (hr:ORowOk r p N) (hO:w'.heap[O]?=w.heap[O]?)
  (hm:w'.heap[go]?=some (.cells ((l.take p).flatMap or4++or4 r++(l.drop (p+1)).flatMap or4).toArray 304 (0,0))):ObjP w' O go (l.set p r) N:=by
 have hlt:p<l.length:=by rw[h.ok.len];exact hp
 refine ⟨h.ok.set hp hr,hO.trans h.obj,?_⟩
 rw[hm,flL_put l p hlt]
 rfl
end
theorem ObjP.more {w w':World} {O go:Nat} {l:List ORow} {N:Nat} (h:ObjP w O go l N) (hN:N+1≤1000000000):ObjP w O go l (N+1):=⟨h.ok.more hN,h.obj,h.row⟩
end Go.Proofs.YtaangaogmnlljaaGreatDoor.Kn
namespace Go.Proofs.YtaangaogmnlljaaGreatDoor.Kn
open Go.RowKit Asm
theorem made_one (z:Value) (n:Nat):madeCells #[z] n=(List.replicate n z).toArray:=by
 unfold madeCells
 apply Array.ext
 ·simp
 ·intro i h1 h2;simp[Nat.mod_one]
theorem madeu64 (n:Nat):madeCells (Value.int .u64 0).cells n=u64A (List.replicate n 0):=by
 show madeCells #[Value.int .u64 0] n=_
 rw[made_one];simp[u64A]
theorem madeu8 (n:Nat):madeCells (Value.int .u8 0).cells n=u8A (List.replicate n 0):=by
 show madeCells #[Value.int .u8 0] n=_
 rw[made_one];simp[u8A]
theorem make64 (n:Nat) (hn:n≤65536) (w:World):(Instr.makeSlice 48 (.int .i64 (n:Int)) (.int .i64 (n:Int))).run Tryz.prog w= .ok (.slice (some ⟨w.heap.size,0,none⟩) n n) (w.alloc (.cells (u64A (List.replicate n 0)) 53)):=by
 obtain ⟨i,h1,h2,h3,h4⟩:=info_parts (show (Tryz.prog.info? 53).map (fun i=>(i.zero,i.size,i.bytes))=some (some (.int .u64 0),1,8) by kernel_rfl)
 have:=run_make (P:=Tryz.prog) w 48 53 i _ Tryz.underlying48 h1 h2 .i64 .i64 (n:Int) (n:Int) (by omega) (by omega) (by rw[h4];omega) (by omega)
 rw[h3,Int.toNat_natCast,Nat.mul_one] at this
 rw[this,madeu64]
theorem make8 (n:Nat) (hn:n≤65536) (w:World):(Instr.makeSlice 440 (.int .i64 (n:Int)) (.int .i64 (n:Int))).run Tryz.prog w= .ok (.slice (some ⟨w.heap.size,0,none⟩) n n) (w.alloc (.cells (u8A (List.replicate n 0)) 5)):=by
 obtain ⟨i,h1,h2,h3,h4⟩:=info_parts (show (Tryz.prog.info? 5).map (fun i=>(i.zero,i.size,i.bytes))=some (some (.int .u8 0),1,1) by kernel_rfl)
 have:=run_make (P:=Tryz.prog) w 440 5 i _ Tryz.underlying440 h1 h2 .i64 .i64 (n:Int) (n:Int) (by omega) (by omega) (by rw[h4];omega) (by omega)
 rw[h3,Int.toNat_natCast,Nat.mul_one] at this
 rw[this,madeu8]
theorem zeros_ok (n:Nat) (h1:1≤n) (h2:n≤65536):MemOk ⟨List.replicate n 0,List.replicate n 0⟩:=
 ⟨by simp,by simpa using h1,by simpa using h2,fun x hx=>Or.inl (List.mem_replicate.1 hx).2,fun x hx=>by rw[(List.mem_replicate.1 hx).2];exact ⟨by decide,by decide⟩⟩
theorem below3 (w:World) (a b c:Obj):Below w.heap.size w (((w.alloc a).alloc b).alloc c).drew:=
 let h:=(((Below.refl w.heap.size w).alloc (Nat.le_refl _) a).alloc (by simp) b).alloc (by simp;omega) c
 ⟨h.os,h.tape,h.output,h.size,h.block⟩
theorem three0 (w:World) (a b c:Obj):(((w.alloc a).alloc b).alloc c).drew.heap[w.heap.size]?=some a:=
 (Below.heap_alloc _ _ _ (by simp;omega)).trans ((Below.heap_alloc _ _ _ (by simp)).trans (heap_alloc_new w a))
theorem three1 (w:World) (a b c:Obj):(((w.alloc a).alloc b).alloc c).drew.heap[w.heap.size+1]?=some b:=
 (Below.heap_alloc _ _ _ (by simp)).trans (by have:=heap_alloc_new (w.alloc a) b;simpa using this)
theorem three2 (w:World) (a b c:Obj):(((w.alloc a).alloc b).alloc c).drew.heap[w.heap.size+1+1]?=some c:=by
 show (((w.alloc a).alloc b).alloc c).heap[w.heap.size+1+1]?=some c
 have:=heap_alloc_new ((w.alloc a).alloc b) c;simpa using this
theorem memnew_any (n:Nat) (h1:1≤n) (h2:n≤65536) (w:World):
  Calls Tryz.prog 165 #[.int .i64 n] w fun e w'=> ∃X gc gw,e= .returned (.tuple #[.pointer (some ⟨X,0,none⟩), .nilIface])∧w.heap.size≤X∧w.heap.size≤gc∧w.heap.size≤gw∧MemP w' X gc gw ⟨List.replicate n 0,List.replicate n 0⟩∧Below w.heap.size w w':=by
 have h1I:1≤(n:Int):=by omega
 have h2I:(n:Int)≤65536:=by omega
 have e1:=make64 n h2
 have e2:=make8 n h2
 go_enter Tryz.func165,Tryz.ntmps165
 go_wp2_with fail
 go_region
 all_goals
  go_wp2_with fail
  go_ret2
 ·refine ⟨w.heap.size+1+1,w.heap.size,w.heap.size+1,rfl,by omega,by omega,by omega,⟨zeros_ok n h1 h2,⟨0,0,?_⟩,three0 _ _ _ _,three1 _ _ _ _⟩,below3 w _ _ _⟩
  rw[three2];try simp
 ·refine ⟨w.heap.size+1+1,w.heap.size+1,w.heap.size,rfl,by omega,by omega,by omega,⟨zeros_ok n h1 h2,⟨0,0,?_⟩,three1 _ _ _ _,three0 _ _ _ _⟩,below3 w _ _ _⟩
  rw[three2];try simp
end Go.Proofs.YtaangaogmnlljaaGreatDoor.Kn
namespace Go.Proofs.YtaangaogmnlljaaGreatDoor.Kn
open Go.RowKit Asm
theorem tabZero:(tabC (List.replicate 64 {})).toArray=madeCells #[.int .u64 0, .bool false, .bool false, .int .u64 0, .int .i64 0, .int .u64 0, .int .u64 0, .int .u64 0, .bool false, .bool false] (64*10):=by kernel_rfl
theorem objZero:(objC (List.replicate 64 {})).toArray=madeCells #[.int .u64 0, .int .u64 0, .int .i64 0, .int .u64 0] (64*4):=by kernel_rfl
theorem wqZero (B:Int→Nat):(wqC B []).toArray=madeCells #[.pointer none, .pointer none] (8*2):=by kernel_rfl
end Go.Proofs.YtaangaogmnlljaaGreatDoor.Kn
namespace Go.Proofs.YtaangaogmnlljaaGreatDoor.Kn
open Go.RowKit Go.Maps Asm Hp
theorem now_any {w:World} {C hb hm:Nat} {v:Value} {ab:Nat} {c:Clk} {N K:Nat} (h:ClkP w C hb hm v ab c N K):
  Calls Tryz.prog 110 #[.pointer (some ⟨C,0,none⟩)] w fun e w'=>e= .returned (.int .u64 c.now)∧w'=w:=by
 obtain ⟨k0,k1,k2,kf⟩:=h.cells
 clear h
 go_enter Tryz.func110,Tryz.ntmps110
 go_wp2_with fail
 go_ret
 exact ⟨rfl,rfl⟩
theorem clknew_any (w:World):Calls Tryz.prog 78 #[] w fun e w'=> ∃C hb hm ab,e= .returned (.pointer (some ⟨C,0,none⟩))∧ClkP w' C hb hm (.slice none 0 0) ab { now:=0,S:= [],last:=0} 0 0∧w.heap.size≤C∧w.heap.size≤hb∧w.heap.size≤hm∧w.heap.size≤ab∧Below w.heap.size w w':=by
 have hmm:=@run_makeMap Tryz.prog
 have HN:=Lib.hid (Hp.new_any w)
 go_enter Tryz.func78,Tryz.ntmps78
 go_wp2_with (go_at_call 161;refine HN.out.mono ?_;rintro e w1 ⟨hb,hm,rfl,h1,h2,h3,h4⟩;have H3:=Lib.hid h3;have H4:=Lib.hid h4;clear h3 h4)
 go_ret
 have hS:=H4.out.size
 have hB:Below w.heap.size w ((w1.alloc (.map #[] 0)).alloc (.cells #[.int .u64 0, .pointer (some ⟨hb,0,none⟩), .map (some w1.heap.size)] 327)):=(H4.out.alloc hS _).alloc (by simp;omega) _
 have hn:=heap_alloc_new (w1.alloc (.map #[] 0)) (.cells #[.int .u64 0, .pointer (some ⟨hb,0,none⟩), .map (some w1.heap.size)] 327)
 have hmap:GMap arms (w1.alloc (.map #[] 0)) w1.heap.size (byF []) 0:=
  ⟨_,0,World.ownsMap_made w1 Tryz.prog 53 arms.R,Nat.le_refl _,fun k _=>⟨rfl,fun j hj=>by cases hj⟩⟩
 refine ⟨w1.heap.size+1,hb,hm,w1.heap.size,rfl,⟨by simpa using hn,H3.out.of_blocks fun k hk=>?_,hmap.of_block (Below.heap_alloc _ _ _ (by simp)),?_,List.nodup_nil,(fun t ht=>by cases ht),⟨by decide,by decide⟩,by simp⟩,by omega,h1,h2,by omega,hB⟩
 ·have hlt:=H3.out.of_lt hk
  exact (Below.heap_alloc _ _ _ (by simp;omega)).trans (Below.heap_alloc _ _ _ hlt)
 ·have hlt:=H3.out.of_lt (k:=hm) (Or.inr (Or.inl rfl))
  omega
theorem makeN (t e:TypeId) (n:Nat) (zs:Array Value) (k:Nat) (ht:Tryz.prog.underlying t=some (.slice e)) (hi:(Tryz.prog.info? e).map (fun i=>(i.zero.map (·.cells),i.size,decide (i.bytes≤1000)))=some (some zs,k,true)) (hn:n≤64) (w:World):
  (Instr.makeSlice t (.int .i64 (n:Int)) (.int .i64 (n:Int))).run Tryz.prog w= .ok (.slice (some ⟨w.heap.size,0,none⟩) n n) (w.alloc (.cells (madeCells zs (n*k)) e)):=by
 obtain ⟨i,h1,h2⟩: ∃i,Tryz.prog.info? e=some i∧(i.zero.map (·.cells),i.size,decide (i.bytes≤1000))=(some zs,k,true):=by
  cases hh:Tryz.prog.info? e with
  |none=>rw[hh] at hi;cases hi
  |some i=>rw[hh] at hi;injection hi with hi;exact ⟨i,rfl,hi⟩
 have h3:i.size=k:=congrArg (fun q=>q.2.1) h2
 have hb:i.bytes≤1000:=of_decide_eq_true (congrArg (fun q=>q.2.2) h2)
 replace h2:i.zero.map (·.cells)=some zs:=congrArg (fun q=>q.1) h2
 obtain ⟨z,hz,hzz⟩: ∃z,i.zero=some z∧z.cells=zs:=by
  cases hh:i.zero with
  |none=>rw[hh] at h2;cases h2
  |some z=>rw[hh] at h2;injection h2 with h2;exact ⟨z,rfl,h2⟩
 have hbn:i.bytes*n≤1000*64:=Nat.mul_le_mul hb hn
 have hbe:((i.bytes*n:Nat):Int)=(i.bytes:Int)* (n:Int):=Int.natCast_mul _ _
 have:=run_make (P:=Tryz.prog) w t e i z ht h1 hz .i64 .i64 (n:Int) (n:Int) (by omega) (by omega) (by omega) (by omega)
 rw[h3,Int.toNat_natCast,hzz] at this
 exact this
theorem laid2 (w:World) (o o':Obj):((w.alloc o).alloc o').heap[w.heap.size]?=some o∧((w.alloc o).alloc o').heap[w.heap.size+1]?=some o'∧Below w.heap.size w ((w.alloc o).alloc o'):=by
 have hn:=heap_alloc_new (w.alloc o) o'
 exact ⟨(Below.heap_alloc _ _ _ (by simp)).trans (heap_alloc_new w _),by simpa using hn,((Below.refl _ w).alloc (Nat.le_refl _) _).alloc (by simp) _⟩
theorem ringnew_any (w:World):Calls Tryz.prog 79 #[.int .i64 64] w fun e w'=> ∃R gr,e= .returned (.tuple #[.pointer (some ⟨R,0,none⟩), .nilIface])∧RingP w' R gr []∧w.heap.size≤R∧w.heap.size≤gr∧Below w.heap.size w w':=by
 have e1:=make64 64 (by omega)
 simp only[Int.cast_ofNat_Int] at e1
 go_enter Tryz.func79,Tryz.ntmps79
 go_wp2_with fail
 go_ret2
 have hn:=heap_alloc_new (w.alloc (.cells (u64A (List.replicate 64 0)) 53)) (.cells #[.slice (some ⟨w.heap.size,0,none⟩) 64 64, .int .i64 0, .int .i64 0] 329)
 have hB:Below w.heap.size w ((w.alloc (.cells (u64A (List.replicate 64 0)) 53)).alloc (.cells #[.slice (some ⟨w.heap.size,0,none⟩) 64 64, .int .i64 0, .int .i64 0] 329)):=((Below.refl _ w).alloc (Nat.le_refl _) _).alloc (by simp) _
 refine ⟨w.heap.size+1,w.heap.size,rfl,⟨0,List.replicate 64 0,rfl,by decide,by decide,by simpa using hn,(Below.heap_alloc _ _ _ (by simp)).trans (heap_alloc_new w _),(fun i hi=>absurd hi (by simp)),fun x hx=>by cases hx⟩,by omega,by omega,hB⟩
theorem tAt_zero (p:Nat):tAt (List.replicate 64 {}) p={}:=by
 unfold tAt
 rw[List.getD_eq_getElem?_getD,List.getElem?_replicate]
 split<;>rfl
theorem oAt_zero (p:Nat):oAt (List.replicate 64 {}) p={}:=by
 unfold oAt
 rw[List.getD_eq_getElem?_getD,List.getElem?_replicate]
 split<;>rfl
theorem tab_ok0:TabOk (List.replicate 64 {}) 0:=
 ⟨by decide,by decide,fun p _=>by rw[tAt_zero];exact ⟨⟨by decide,by decide⟩,fun h=>absurd rfl h,fun _=>⟨rfl,rfl⟩,⟨by decide,by decide⟩,⟨by decide,by decide⟩,⟨by decide,by decide⟩,⟨by decide,by decide⟩⟩⟩
theorem obj_ok0:ObjOk (List.replicate 64 {}) 0:=
 ⟨by decide,by decide,fun p _=>by rw[oAt_zero];exact ⟨⟨by decide,by decide⟩,fun h=>absurd rfl h,fun _=>⟨rfl,rfl⟩,⟨by decide,by decide⟩,⟨by decide,by decide⟩⟩⟩
theorem tabnew_any (w:World):Calls Tryz.prog 81 #[.int .i64 64] w fun e w'=> ∃T gt,e= .returned (.tuple #[.pointer (some ⟨T,0,none⟩), .nilIface])∧TabP w' T gt (List.replicate 64 {}) 0∧w.heap.size≤T∧w.heap.size≤gt∧Below w.heap.size w w':=by
 have e1:=makeN 335 382 64 #[.int .u64 0, .bool false, .bool false, .int .u64 0, .int .i64 0, .int .u64 0, .int .u64 0, .int .u64 0, .bool false, .bool false] 10 Tryz.underlying335 (by kernel_rfl) (by omega) w
 simp only[Int.cast_ofNat_Int] at e1
 rw[←tabZero] at e1
 go_enter Tryz.func81,Tryz.ntmps81
 go_wp2_with fail
 go_ret2
 obtain ⟨l1,l2,l3⟩:=laid2 w (.cells (tabC (List.replicate 64 {})).toArray 382) (.cells #[.slice (some ⟨w.heap.size,0,none⟩) 64 64] 337)
 exact ⟨w.heap.size+1,w.heap.size,rfl,⟨tab_ok0,l2,l1⟩,by omega,by omega,l3⟩
theorem objnew_any (w:World):Calls Tryz.prog 82 #[.int .i64 64] w fun e w'=> ∃O go,e= .returned (.tuple #[.pointer (some ⟨O,0,none⟩), .nilIface])∧ObjP w' O go (List.replicate 64 {}) 0∧w.heap.size≤O∧w.heap.size≤go∧Below w.heap.size w w':=by
 have e1:=makeN 300 304 64 #[.int .u64 0, .int .u64 0, .int .i64 0, .int .u64 0] 4 Tryz.underlying300 (by kernel_rfl) (by omega) w
 simp only[Int.cast_ofNat_Int] at e1
 rw[←objZero] at e1
 go_enter Tryz.func82,Tryz.ntmps82
 go_wp2_with fail
 go_ret2
 obtain ⟨l1,l2,l3⟩:=laid2 w (.cells (objC (List.replicate 64 {})).toArray 304) (.cells #[.slice (some ⟨w.heap.size,0,none⟩) 64 64] 302)
 exact ⟨w.heap.size+1,w.heap.size,rfl,⟨obj_ok0,l2,l1⟩,by omega,by omega,l3⟩
theorem wqnew_any (w:World) (B:Int→Nat):Calls Tryz.prog 80 #[.int .i64 8] w fun e w'=> ∃Q gl mb,e= .returned (.tuple #[.pointer (some ⟨Q,0,none⟩), .nilIface])∧WqP w' Q gl mb B [] 0∧w.heap.size≤Q∧w.heap.size≤gl∧w.heap.size≤mb∧Below w.heap.size w w':=by
 have hmm:=@run_makeMap Tryz.prog
 have e1:=fun W=>makeN 331 385 8 #[.pointer none, .pointer none] 2 Tryz.underlying331 (by kernel_rfl) (by omega) W
 simp only[Int.cast_ofNat_Int] at e1
 rw[←wqZero B] at e1
 go_enter Tryz.func80,Tryz.ntmps80
 go_wp2_with fail
 go_ret2
 obtain ⟨l1,l2,l3⟩:=laid2 w (.cells (wqC B []).toArray 385) (.map #[] 0)
 have hs:((w.alloc (.cells (wqC B []).toArray 385)).alloc (.map #[] 0)).heap.size=w.heap.size+1+1:=by simp
 have hn:=heap_alloc_new ((w.alloc (.cells (wqC B []).toArray 385)).alloc (.map #[] 0)) (.cells #[.slice (some ⟨w.heap.size,0,none⟩) 8 8, .map (some (w.heap.size+1))] 334)
 rw[hs] at hn
 have hm:=World.ownsMap_made (w.alloc (.cells (wqC B []).toArray 385)) Tryz.prog 53 ptrs.R
 have hs1:(w.alloc (.cells (wqC B []).toArray 385)).heap.size=w.heap.size+1:=by simp
 rw[hs1] at hm
 have hmap:GMap ptrs ((w.alloc (.cells (wqC B []).toArray 385)).alloc (.map #[] 0)) (w.heap.size+1) (whereF B []) 0:=
  ⟨_,0,hm,Nat.le_refl _,fun k _=>⟨rfl,fun j hj=>by cases hj⟩⟩
 exact ⟨w.heap.size+1+1,w.heap.size,w.heap.size+1,rfl,⟨⟨List.nodup_nil,(fun s hs=>by cases hs),hn,(Below.heap_alloc _ _ _ (by rw[hs];omega)).trans l1,fun s hs=>by cases hs⟩,hmap.of_block (Below.heap_alloc _ _ _ (by rw[hs];omega)),by decide⟩,by omega,by omega,by omega,l3.alloc (by rw[hs];omega) _⟩
theorem alcnew_any (w:World) (X lo hi:Nat) (hlo:lo≤hi) (hhi:hi≤65536):Calls Tryz.prog 168 #[.pointer (some ⟨X,0,none⟩), .int .i64 lo, .int .i64 hi] w fun e w'=> ∃A,e= .returned (.tuple #[.pointer (some ⟨A,0,none⟩), .nilIface])∧AlcP w' A X (.slice none 0 0) ⟨lo,hi,[]⟩∧w.heap.size≤A∧Below w.heap.size w w':=by
 have h1:(0:Int)≤(lo:Int):=by omega
 have h2:(lo:Int)≤(hi:Int):=by omega
 go_enter Tryz.func168,Tryz.ntmps168
 go_wp2_with fail
 go_ret2
 have hn:=heap_alloc_new w (.cells #[.pointer (some ⟨X,0,none⟩), .int .i64 lo, .int .i64 hi, .slice none 0 0] 427)
 exact ⟨w.heap.size,rfl,⟨hlo,hhi,hn,World.ownsRow_nil _ _ _ _⟩,Nat.le_refl _,(Below.refl _ w).alloc (Nat.le_refl _) _⟩
end Go.Proofs.YtaangaogmnlljaaGreatDoor.Kn
namespace Go.Proofs.YtaangaogmnlljaaGreatDoor.Kn
open Go.RowKit Asm
theorem access_any {w:World} {X gc gw:Nat} {m:Mem} (h:MemP w X gc gw m) (kind a old v:Int) (hk:kind=0∨kind=1∨kind=2∨kind=3∨kind=4) (ha:0≤a∧a<18446744073709551616) (ho:0≤old∧old<18446744073709551616) (hv:0≤v∧v<18446744073709551616):
  Calls Tryz.prog 212 #[.pointer (some ⟨X,0,none⟩), .int .i64 kind, .int .u64 a, .int .u64 old, .int .u64 v] w (AccOut w X gc gw (m.acc kind a old v)):=by
 by_cases h0:m.width a=0
 ·rw[show m.acc kind a old v=none by unfold Mem.acc;rw[if_pos h0]]
  exact access_none h kind a old v ha h0
 ·exact access_some h kind a old v hk ha ho hv h0
theorem mload_any {w:World} {X gc gw:Nat} {m:Mem} (h:MemP w X gc gw m) (a:Int) (ha:0≤a∧a<18446744073709551616):
  Calls Tryz.prog 141 #[.pointer (some ⟨X,0,none⟩), .int .u64 a] w (AccOut w X gc gw (m.acc 0 a 0 0)):=by
 have H:=Lib.hid (access_any h 0 a 0 0 (Or.inl rfl) ha (by decide) (by decide))
 clear h
 generalize m.acc 0 a 0 0=r at H ⊢
 cases r with
 |none=>
  go_enter Tryz.func141,Tryz.ntmps141
  go_wp2_with fail
  refine H.out.mono ?_
  rintro e w1 ⟨⟨ev,rfl,hev⟩,hb⟩
  go_wp2_with fail
  go_ret2
  exact ⟨⟨_,rfl,hev⟩,hb⟩
 |some p=>
  obtain ⟨was,m'⟩:=p
  go_enter Tryz.func141,Tryz.ntmps141
  go_wp2_with fail
  refine H.out.mono ?_
  rintro e w1 ⟨rfl,hb⟩
  go_wp2_with fail
  go_ret2
  exact ⟨rfl,hb⟩
def StoreOut (w:World) (X gc gw:Nat) (r:Option (Int×Mem)) (e:Ending) (w':World):Prop:=match r with
 |none=>(∃ev,e= .returned ev∧Som ev)∧Below w.heap.size w w'
 |some (_,m')=>e= .returned .nilIface∧MemP w' X gc gw m'∧Keeps (fun b=>b=X∨b=gc) w w'
theorem mstore_any {w:World} {X gc gw:Nat} {m:Mem} (h:MemP w X gc gw m) (a v:Int) (ha:0≤a∧a<18446744073709551616) (hv:0≤v∧v<18446744073709551616):
  Calls Tryz.prog 167 #[.pointer (some ⟨X,0,none⟩), .int .u64 a, .int .u64 v] w (StoreOut w X gc gw (m.acc 1 a 0 v)):=by
 have H:=Lib.hid (access_any h 1 a 0 v (Or.inr (Or.inl rfl)) ha (by decide) hv)
 clear h
 generalize m.acc 1 a 0 v=r at H ⊢
 cases r with
 |none=>
  go_enter Tryz.func167,Tryz.ntmps167
  go_wp2_with fail
  refine H.out.mono ?_
  rintro e w1 ⟨⟨ev,rfl,t,x,rfl⟩,hb⟩
  go_wp2_with fail
  go_ret
  exact ⟨⟨_,rfl,t,x,rfl⟩,hb⟩
 |some p=>
  obtain ⟨was,m'⟩:=p
  go_enter Tryz.func167,Tryz.ntmps167
  go_wp2_with fail
  refine H.out.mono ?_
  rintro e w1 ⟨rfl,hb⟩
  go_wp2_with fail
  go_ret
  exact ⟨rfl,hb⟩
end Go.Proofs.YtaangaogmnlljaaGreatDoor.Kn
namespace Go.Proofs.YtaangaogmnlljaaGreatDoor.Kn
open Go.RowKit Asm
theorem register_any (x:Int) (u l:Bool) (w:World):Calls Tryz.prog 332 #[.int .i64 x, .bool u, .bool l] w fun e w'=>e= .returned (.bool (regOk x u l))∧w=w':=by
 cases u with
 |false=>
  go_enter Tryz.func332,Tryz.ntmps332
  go_wp2
  go_ret
  exact ⟨rfl,rfl⟩
 |true=>
  by_cases h1:0≤x
  ·by_cases h2:x<32
   ·go_enter Tryz.func332,Tryz.ntmps332
    go_wp2
    go_ret
    exact ⟨by simp[regOk,h1,h2],rfl⟩
   ·have h3:32≤x:=by omega
    have h4:(x== -1)=false:=beq_eq_false_iff_ne.2 (by omega)
    cases l<;>
    ·go_enter Tryz.func332,Tryz.ntmps332
     go_wp2
     go_ret
     exact ⟨by simp[regOk,h1,h2];try omega,rfl⟩
  ·have h2:x<0:=by omega
   cases l with
   |false=>
    go_enter Tryz.func332,Tryz.ntmps332
    go_wp2
    go_ret
    exact ⟨by simp[regOk];omega,rfl⟩
   |true=>
    by_cases h5:x= -1
    ·subst h5
     go_enter Tryz.func332,Tryz.ntmps332
     go_wp2
     go_ret
     exact ⟨rfl,rfl⟩
    ·have h4:(x== -1)=false:=beq_eq_false_iff_ne.2 h5
     go_enter Tryz.func332,Tryz.ntmps332
     go_wp2
     go_ret
     exact ⟨by simp[regOk,h5];omega,rfl⟩
end Go.Proofs.YtaangaogmnlljaaGreatDoor.Kn
namespace Go.Proofs.YtaangaogmnlljaaGreatDoor.Kn
open Go.RowKit Go.Maps Asm
attribute [local go_sem] Oper.semAt_some
def CellsKeep (n:Nat) (W W':World):Prop:=W.heap.size≤W'.heap.size∧ ∀k c t fr,n≤k→W.heap[k]?=some (.cells c t fr)→W'.heap[k]?=some (.cells c t fr)
theorem CellsKeep.t {n:Nat} {A B C:World} (h:CellsKeep n A B) (k:CellsKeep n B C):CellsKeep n A C:=
 ⟨Nat.le_trans h.1 k.1,fun i c t fr hi hc=>k.2 i c t fr hi (h.2 i c t fr hi hc)⟩
theorem CellsKeep.b {n m:Nat} (W:World) (l:Nat) (o o':Obj) (_:m≤l) (h:W.heap[l]?=some o) (ho:o.isCells=false) (_:o.isWalk=false):CellsKeep n W (W.putObj l o'):=by
 refine ⟨by simp,fun k c t fr _ hc=>?_⟩
 by_cases e:k=l
 ·subst e
  rw[h] at hc
  cases hc
  cases ho
 ·rw[World.putObj_heap_other e];exact hc
def encR (x:Int×Int):Array Value:=#[.int .i64 x.1, .int .u64 x.2]
def enumL (l:List Int):List (Int×Int):=(List.range l.length).map fun i:Nat=>((i:Int),l.getD i 0)
theorem enumL_len (l:List Int):(enumL l).length=l.length:=by simp[enumL]
theorem enumL_at {l:List Int} {i:Nat} (h:i<l.length):(enumL l)[i]?=some ((i:Int),l.getD i 0):=by
 unfold enumL
 rw[List.getElem?_map,List.getElem?_range h]
 rfl
theorem enumL_take {l:List Int} {i:Nat} (h:i<l.length):(enumL l).take (i+1)=(enumL l).take i++ [((i:Int),l.getD i 0)]:=by
 rw[List.take_add_one,enumL_at h];rfl
theorem bel_dn {B:Nat} {a w:World} (h:Below B a w) (n:Nat):Below B a (w.drewN n):=⟨h.os,h.tape,h.output,h.size,h.block⟩
theorem info64:(Tryz.prog.info? 53).map (fun i=>(i.zero,i.size,i.bytes))=some (some (.int .u64 0),1,8):=by kernel_rfl
def u64R (l:List Int):List Value:=l.map fun x=>Value.int .u64 x
set_option maxRecDepth 100000 in
theorem rall1_in (n:Nat) (hn:1≤n) (l0 Bh R gr:Nat) (l:List Int) (n0:Nat) (J Jx:List (Int×Int)→World→Prop)
  (W:World) (hJ:AbidesFrom W.heap.size J) (hn0:n0≤W.heap.size)
  (hY: ∀pre x W1,J pre W1→pre.length<l.length→YieldAt Fence.wide (n - 1) Tryz.prog l0 (encR x) W1 fun e W'=>
   (e= .returned (.bool true)∧J (pre++ [x]) W'∧CellsKeep n0 W1 W')∨(e= .returned (.bool false)∧Jx (pre++ [x]) W'))
  (hBh:W.cell? ⟨Bh,0,none⟩=some (.pointer (some ⟨R,0,none⟩))) (hBl:Bh<W.heap.size) (hR:RingP W R gr l) (h0:J [] W):
  CallsIn Fence.wide n Tryz.prog 183 #[.func (.yield l0) #[] #[], .pointer (some ⟨Bh,0,none⟩)] W fun e W'=>(∃v,e= .returned v)∧
   ((∃xs,xs=enumL l∧J xs W')∨(∃pre,pre<+:enumL l∧Jx pre W')):=by
 refine callsIn_wide.2 ?_
 obtain ⟨m,hm⟩: ∃m,m=l.length:=⟨_,rfl⟩
 obtain ⟨fr,C,hRR⟩:=hR
 obtain ⟨-,-,c2,-⟩:=hRR.cells
 have hmost:=hRR.most
 rw[←hm] at c2 hmost hY
 have hmI:(m:Int)≤64:=by omega
 have HY:=Lib.hid hY
 have HJ:=Lib.hid hJ
 have HM:=Lib.hid hm
 have HRR:=Lib.hid hRR
 have HBl:=Lib.hid hBl
 have HBh:=Lib.hid hBh
 have HJ0:=Lib.hid h0
 clear hY hJ hm hRR hBl h0
 go_enter Tryz.func183,Tryz.ntmps183
 go_wp2_with fail
 obtain ⟨iu,hiu,hzu,hsu,hbu⟩:=info_parts info64
 go_loopg [3,11] m (fun g sv iv wr=> ∃k:Nat,k≤m∧g=m - k∧iv= .int .i64 (k:Int)∧Hid (Below W.heap.size W wr)∧Hid (wr.ownsRow W.heap.size 53 1 sv k (u64R (l.take k))))
 case atStart=>exact ⟨0,by omega,rfl,rfl,Lib.hid (Below.refl _ _),Lib.hid (World.ownsRow_nil _ _ _ _)⟩
 case round=>
  obtain ⟨k,hk,hg,rfl,HB,HL⟩:=hrel
  have hkI:(0:Int)≤(k:Int)∧(k:Int)≤64:=by omega
  have hbh:wr.cell? ⟨Bh,0,none⟩=some (.pointer (some ⟨R,0,none⟩)):=(HB.out.cell (p:=⟨Bh,0,none⟩) HBl.out).trans HBh.out
  by_cases hlt:k<m
  ·have hltI:(k:Int)<(m:Int):=by omega
   have hR:RingR wr R gr fr C l:=HRR.out.of_blocks fun b hb=>HB.out.block b (by rcases hb with rfl|rfl;exact blk_in HRR.out.obj;exact blk_in HRR.out.row)
   have HAt:=Lib.hid (rat_any hR k (by omega))
   have hgc:wr.cell? ⟨gr,(fr+k)%64,none⟩=some (.int .u64 (l.getD k 0)):=by
    rw[blk_cell hR.row,u64A_at (by rw[hR.len];exact Nat.mod_lt _ (by decide)),hR.hold k (by rw[←HM.out];exact hlt)]
   obtain ⟨x,hx⟩: ∃x,x=l.getD k 0:=⟨_,rfl⟩
   rw[←hx] at hgc
   have HX:=Lib.hid hx
   have HLt:=Lib.hid hlt
   have Hg:=Lib.hid hg
   generalize (fr+k)%64=z at*
   clear hR hk hx hlt hg
   go_wp2_with fail
   refine HAt.out.mono ?_
   rintro e w2 ⟨rfl,q,rfl⟩
   have hgc2:(wr.drewN q).cell? ⟨gr,z,none⟩=some (.int .u64 x):=hgc
   have hL2:(wr.drewN q).ownsRow W.heap.size 53 1 u3 k (u64R (l.take k)):=HL.out
   have E3:Hid (((wr.drewN q).alloc (.cells #[.int .u64 x] 53)).ownsRow W.heap.size 53 1 u3 k (u64R (l.take k))):=Lib.hid (Asm.ownsRow_of_block hL2 fun c hc=>by
    obtain ⟨cur,hcc⟩:=Asm.row_block hL2 hc
    exact Below.heap_alloc _ _ _ (blk_in hcc))
   have N3:=Lib.hid (cell_one_new (wr.drewN q) (.int .u64 x) 53)
   have O3:Hid (∀u∈ [Value.int .u64 x],u.oneCell'=true):=Lib.hid fun u hu=>by simp at hu;subst hu;rfl
   have M1:Hid (k+1≤maxLen):=Lib.hid (by unfold maxLen;omega)
   have M2:Hid ((k+1)*8≤140737488355328):=Lib.hid (by omega)
   have HB2:Hid (Below W.heap.size W ((wr.drewN q).alloc (.cells #[.int .u64 x] 53))):=Lib.hid ((bel_dn HB.out q).alloc HB.out.size _)
   have M3:Hid (W.heap.size≤((wr.drewN q).alloc (.cells #[.int .u64 x] 53)).heap.size):=Lib.hid HB2.out.size
   clear hL2
   go_wp2_with (at_builtin;refine wpList_append_own_at _ rfl _ _ 48 rfl W.heap.size 53 iu _ 1 8 Tryz.underlying48 hiu hzu hsu hbu rfl (by decide) u3 k (u64R (l.take k)) rfl E3.out ⟨(wr.drewN q).heap.size,0,none⟩ 1 1 [.int .u64 x] rfl rfl N3.out O3.out M1.out M2.out M3.out ?_;intro v4 w4 hown hgrow _ hnew;have HOwn:=Lib.hid hown;have HGr:=Lib.hid hgrow;clear hown hgrow hnew)
   go_roundg (m - (k+1))
   case measure=>have:=Hg.out;have:=HLt.out;omega
   case rel=>
    have:=HLt.out
    refine ⟨k+1,by omega,rfl,by go_num,Lib.hid (HB2.out.grown HGr.out M3.out fun c hc=>?_),Lib.hid ?_⟩
    ·obtain ⟨_,⟨e1,_⟩ |⟨g,_,_,e1,h2,_⟩⟩:=E3.out
     ·rw[e1] at hc;cases hc
     ·rw[e1] at hc;cases hc;exact h2
    ·have e:u64R (l.take (k+1))=u64R (l.take k)++ [.int .u64 x]:=by
      unfold u64R
      rw[List.take_add_one,List.map_append,HX.out,List.getD_eq_getElem?_getD,List.getElem?_eq_getElem (by rw[←HM.out];exact HLt.out)]
      rfl
     rw[e]
     exact HOwn.out
  ·obtain rfl:k=m:=by omega
   have hjw:J [] wr:=HJ.out [] W wr none HJ0.out ⟨HB.out.os,HB.out.tape,HB.out.output,HB.out.size,fun k hk _=>HB.out.block k hk⟩ (fun r e=>by cases e)
   have HJw:=Lib.hid hjw
   clear hjw
   obtain ⟨A3,c3,hsv⟩:=Asm.own_shape HL.out
   subst hsv
   have hA:0<k→ ∃g,A3=some ⟨g,0,none⟩∧n0≤g∧g<wr.heap.size∧ ∃cur,wr.heap[g]?=some (.cells cur 53 (0,0)):=fun h0=>by
    obtain ⟨_,⟨e1,h1⟩ |⟨g,cc,cur,e1,h2,h3,_⟩⟩:=HL.out
    ·omega
    ·injection e1 with e1
     exact ⟨g,e1,by omega,blk_in h3,cur,h3⟩
   have HA:=Lib.hid hA
   clear hA hg hk
   go_wp2_with fail
   generalize wr=wa at*
   refine (wpIn_wide (n:=n)).1 ?_
   gi_loopw [25] (fun i w2=> ∃j:Nat,j≤k∧i= .int .i64 j∧Hid (J ((enumL l).take j) w2)∧Hid (∀g,A3=some ⟨g,0,none⟩→w2.heap[g]?=wa.heap[g]?∧g<w2.heap.size)) (fun i _=>k - (intOf i).toNat)
   case atStart=>exact ⟨0,by omega,rfl,Lib.hid (by rw[List.take_zero];exact HJw.out),Lib.hid fun g e=>by
    by_cases h0:0<k
    ·obtain ⟨g2,e2,_,h3,_⟩:=HA.out h0
     rw[e] at e2
     injection e2 with e2
     injection e2 with e2
     subst e2
     exact ⟨rfl,h3⟩
    ·obtain ⟨_,⟨e1,h1⟩ |⟨g2,cc,cur,e1,h2,h3,_⟩⟩:=HL.out
     ·rw[e] at e1;cases e1
     ·rw[e] at e1
      injection e1 with e1
      injection e1 with e1
      injection e1 with e1
      subst e1
      exact ⟨rfl,blk_in h3⟩⟩
   case round=>
    obtain ⟨j,hj,rfl,HJj,HBk⟩:=hrel
    by_cases hlt:j<k
    ·obtain ⟨g,rfl,hg0,hgl,cur,hcur⟩:=HA.out (by omega)
     obtain ⟨hb1,hbl⟩:=HBk.out g rfl
     have hjl:j<l.length:=by rw[←HM.out];exact hlt
     have hu:(u64R (l.take k))[j]?=some (.int .u64 (l.getD j 0)):=by
      unfold u64R
      rw[List.getElem?_map,List.getElem?_take,if_pos hlt,List.getD_eq_getElem?_getD,List.getElem?_eq_getElem hjl]
      rfl
     have d0:wr.cell? ⟨g,j,none⟩=some (.int .u64 (l.getD j 0)):=(World.cell?_of_block (w:=wa) (a:=⟨g,j,none⟩) hb1).trans (by
      have:=HL.out.cells rfl j _ hu
      rwa[Addr.add_lit,Nat.zero_add] at this)
     have hsnoc:=enumL_take hjl
     obtain ⟨x,hx⟩: ∃x,x=l.getD j 0:=⟨_,rfl⟩
     rw[←hx] at d0 hsnoc
     have HSn:=Lib.hid hsnoc
     obtain ⟨fn,tmps,assign,body,hy,hR⟩:=HY.out ((enumL l).take j) ((j:Int),x) wr HJj.out (by rw[List.length_take,enumL_len,←HM.out];omega)
     unfold encR at hy
     dsimp only at hy
     have HR:=Lib.hid hR
     have hjI:(j:Int)<(k:Int):=by omega
     have hkI2:(k:Int)≤64:=by omega
     clear hu hx hsnoc hR
     gi_wp2_with fail
     refine HR.out.mono ?_
     rintro e w4 (⟨rfl,hJ3,hk3⟩ |⟨rfl,hJx3⟩)
     ·have hb4:w4.heap[g]?=wa.heap[g]?:=by
       rw[hk3.2 g _ _ _ hg0 (hb1.trans hcur),hcur]
      have hs4:g<w4.heap.size:=Nat.lt_of_lt_of_le hbl hk3.1
      have HJ3:=Lib.hid hJ3
      have HB4:=Lib.hid hb4
      clear hJ3 hk3 hb4
      gi_wp2
      go_roundw
      case rel=>exact ⟨j+1,by omega,by go_num,Lib.hid (by rw[HSn.out];exact HJ3.out),Lib.hid fun g2 e=>by injection e with e;injection e with e;subst e;exact ⟨HB4.out,hs4⟩⟩
      case measure=>simp[intOf];omega
     exact m107
    ·obtain rfl:j=k:=by omega
     gi_wp2
     go_end0
     refine ⟨⟨_,rfl⟩, .inl ⟨_,rfl,?_⟩⟩
     have:=HJj.out
     rwa[List.take_of_length_le (by rw[enumL_len,←HM.out];exact Nat.le_refl _)] at this
end Go.Proofs.YtaangaogmnlljaaGreatDoor.Kn
namespace Go.Proofs.YtaangaogmnlljaaGreatDoor.Asm
open Go.RowKit Go.Maps
theorem infoWant:(Tryz.prog.info? 317).map (fun i=>(i.zero,i.size,i.bytes))=some (some (.agg #[.int .i64 0, .int .i64 0, .string ⟨#[]⟩]),3,32):=by kernel_rfl
theorem strV_of (s:ByteArray):strV s.data.toList= .string s:=by
 unfold strV
 congr 1
theorem wantsC_snoc (l:List (Nat×Nat×Str)) (x:Nat×Nat×Str):wantsC (l++ [x])=wantsC l++ [.int .i64 x.1, .int .i64 x.2.1,strV x.2.2]:=by simp[wantsC]
set_option maxRecDepth 100000 in
theorem operand_place {w:World} {R mb rb:Nat} {vc vl vn vw:Value} {st:St} {X:Nat} {x:InsL} (hR:Rd w R mb rb vc vl vn vw st) (hrb:rb≤w.heap.size) (hX: ¬OfR R mb vc vl vn vw X) (hx:InsAt w X x) (s:ByteArray) (hs:s.size≤100000) (i:Nat) (k:Int) (hk:k=8∨k=9) (hn:namedL s.data.toList=true) (hc:st.code.length≤100000) (hw:st.wants.length≤100000):
  Calls Tryz.prog 219 #[.pointer (some ⟨R,0,none⟩), .pointer (some ⟨X,0,none⟩), .int .i64 k, .string s, .int .i64 i] w (OpdOut w R mb rb vc vl vn vw st X x (some s.data.toList) i):=by
 have HReg:=Lib.hid (register_any s w (by omega))
 have HNam:=Lib.hid (named_any s w (by omega))
 have HNo:=Lib.hid hn
 obtain ⟨iw,hiw,hzw,hsw,hbw⟩:=info_parts infoWant
 obtain ⟨Aw,cw,rfl⟩:=own_shape hR.wants
 obtain ⟨Ac,cc,rfl⟩:=own_shape hR.code
 obtain ⟨r0,r1,r2,r3,r4,rf⟩:=hR.cell
 have hRl:=hR.lt
 obtain ⟨m,hm⟩: ∃m,m=st.code.length:=⟨_,rfl⟩
 have hmI:(m:Int)≤100000:=by omega
 have HMc:=Lib.hid hm
 have h0:Rd ((w.alloc (.cells #[.int .i64 (m:Int), .int .i64 (i:Int), .string s] 317)).drew) R mb rb (.slice Ac st.code.length cc) vl vn (.slice Aw st.wants.length cw) st:=(hR.below ((Below.refl _ _).alloc (Nat.le_refl _) _)).of_blocks fun _ _=>rfl
 have K0:Keeps (OfR R mb (.slice Ac st.code.length cc) vl vn (.slice Aw st.wants.length cw)) w ((w.alloc (.cells #[.int .i64 (m:Int), .int .i64 (i:Int), .string s] 317)).drew):=((Keeps.refl _ w).alloc _).drew
 have E0:=Lib.hid h0.wants
 have N1:Hid (∀j u,([.int .i64 (m:Int), .int .i64 (i:Int), .string s]:List Value)[j]?=some u→((w.alloc (.cells #[.int .i64 (m:Int), .int .i64 (i:Int), .string s] 317)).drew).cell? ((⟨w.heap.size,0,none⟩:Addr).add j)=some u):=Lib.hid (by
  intro j u hu
  rw[Addr.add_lit,Nat.zero_add]
  exact (World.cell?_alloc_at _ _ _ _ rfl).trans (by simpa using hu))
 have O1:Hid (∀u∈([.int .i64 (m:Int), .int .i64 (i:Int), .string s]:List Value),u.oneCell'=true):=Lib.hid (by
  intro u hu
  simp at hu
  rcases hu with rfl|rfl|rfl<;>rfl)
 have M1:=Lib.hid (show st.wants.length+1≤maxLen by unfold maxLen;omega)
 have M2:=Lib.hid (show (st.wants.length+1)*32≤140737488355328 by omega)
 have M3:=Lib.hid (show rb≤((w.alloc (.cells #[.int .i64 (m:Int), .int .i64 (i:Int), .string s] 317)).drew).heap.size by show rb≤(w.alloc _).heap.size;simp;omega)
 have HV:Hid (some R≠(Value.slice Aw st.wants.length cw).ownBlock):=Lib.hid (own_ne hR.wants hR.tagR (by decide))
 have HFin:Hid (∀v' w2,w2.ownsRow rb 317 3 v' (st.wants.length+1) (wantsC st.wants++ [.int .i64 (m:Int), .int .i64 (i:Int), .string s])→((w.alloc (.cells #[.int .i64 (m:Int), .int .i64 (i:Int), .string s] 317)).drew).grownBy w2 (Value.slice Aw st.wants.length cw).ownBlock→(v'.ownBlock=(Value.slice Aw st.wants.length cw).ownBlock∨v'.ownBlock=some ((w.alloc (.cells #[.int .i64 (m:Int), .int .i64 (i:Int), .string s] 317)).drew).heap.size)→
   OpdOut w R mb rb (.slice Ac st.code.length cc) vl vn (.slice Aw st.wants.length cw) st X x (some s.data.toList) i (.returned .nilIface) (w2.setCell ⟨R,4,none⟩ v')):=Lib.hid (fun v' w2 hr hg hnew=>by
  have hr2:w2.ownsRow rb 317 3 v' (st.wants++ [(st.code.length,i,s.data.toList)]).length (wantsC (st.wants++ [(st.code.length,i,s.data.toList)])):=by
   rw[wantsC_snoc,strV_of,List.length_append,←hm];exact hr
  have hadd:=h0.add_wants _ hg hr2
  have hK2:Keeps (OfR R mb (.slice Ac st.code.length cc) vl vn (.slice Aw st.wants.length cw)) w (w2.setCell ⟨R,4,none⟩ v'):=(K0.grown hg (fun k e=>Or.inr (Or.inr (Or.inr (Or.inr (Or.inr e)))))).setCell (p:=⟨R,4,none⟩) (Or.inl rfl) _
  refine ⟨rfl,hx.keeps hK2 hX,v',hadd,hK2.mono (fun _ h=>Or.inr h),fun k hk=>?_⟩
  rcases hnew with e|e
  ·exact Or.inl (e▸hk)
  ·right
   rw[e] at hk
   have h2:(w.alloc (.cells #[.int .i64 (m:Int), .int .i64 (i:Int), .string s] 317)).heap.size=k:=Option.some.inj hk
   simp at h2
   omega)
 have HC:Hid (∀w2:World,((w.alloc (.cells #[.int .i64 (m:Int), .int .i64 (i:Int), .string s] 317)).drew).grownBy w2 (Value.slice Aw st.wants.length cw).ownBlock→w2.cell? ⟨R,4,none⟩=some (.slice Aw st.wants.length cw)∧w2.frozen? ⟨R,4,none⟩=false):=Lib.hid (fun w2 hg=>by
  have hb:=hg.block R h0.lt HV.out
  exact ⟨(World.cell?_of_block (a:=⟨R,4,none⟩) hb).trans h0.cell.2.2.2.2.1,(World.frozen?_of_block (a:=⟨R,4,none⟩) hb).trans (h0.cell.2.2.2.2.2 4)⟩)
 rw[←hm] at r0
 generalize st.wants.length=z at r4 E0 M1 M2 HV HFin HC
 clear hR hX hx hs hn hm h0 K0 hc hw hrb
 rcases hk with rfl|rfl
 all_goals
  go_enter Tryz.func219,Tryz.ntmps219
  go_wp2_with fail
  refine HReg.out.mono ?_
  rintro e w' ⟨m9,rfl,hm,rfl⟩
  clear hm
  generalize (regL s.data.toList).isSome=b
  go_wp2_with fail
  refine HNam.out.mono ?_
  rintro e w' ⟨rfl,rfl⟩
  rw[HNo.out]
  go_wp2_with fail
  go_region_law (first|(refine step_append_own _ rfl (.tmp 87) (.tmp 96) 311 rfl rb 317 iw _ 3 32 Tryz.underlying311 hiw hzw hsw hbw rfl (by decide) (.slice Aw z cw) z (wantsC st.wants) (by simp[Act.eval]) E0.out ⟨w.heap.size,0,none⟩ 1 1 [.int .i64 (m:Int), .int .i64 (i:Int), .string s] (by simp[Act.eval]) rfl N1.out O1.out M1.out M2.out M3.out ?_;intro v' w2 hown' hgrow hnew;obtain ⟨A',c',rfl⟩:=own_shape hown';have tt:=HC.out w2 hgrow;have t0:=tt.1;have t1:=tt.2;have HF:=Lib.hid (HFin.out _ _ hown' hgrow hnew);clear hown' hgrow hnew tt))
  all_goals
   go_wp2
   go_ret
   exact HF.out
end Go.Proofs.YtaangaogmnlljaaGreatDoor.Asm
namespace Go.Proofs.YtaangaogmnlljaaGreatDoor.Asm
open Go.RowKit Go.Maps
theorem a18.q91 {P:Prop} (h:P:=by
 exact operand_cell hR hX hx s hs i r hr):P:=h
theorem a18.q106 {P:Prop} (h:P:=by
 exact operand_num hR hX hx s hs i r hr):P:=h
open a18 in
theorem operand_any {w:World} {R mb rb:Nat} {vc vl vn vw:Value} {st:St} {X:Nat} {x:InsL} (hR:Rd w R mb rb vc vl vn vw st) (hrb:rb≤w.heap.size) (hX: ¬OfR R mb vc vl vn vw X) (hx:InsAt w X x) (s:ByteArray) (hs:s.size≤100000) (i:Nat) (k:Int) (hk:1≤k∧k≤9) {y:InsL} {o:Option Str} (h:operandL x k s.data.toList=some (y,o)) (hc:st.code.length≤100000) (hw:st.wants.length≤100000):
  Calls Tryz.prog 219 #[.pointer (some ⟨R,0,none⟩), .pointer (some ⟨X,0,none⟩), .int .i64 k, .string s, .int .i64 i] w (OpdOut w R mb rb vc vl vn vw st X y o i):=by
 unfold operandL at h
 obtain rfl|rfl|rfl|rfl|rfl|rfl|rfl|rfl|rfl:k=1∨k=2∨k=3∨k=4∨k=5∨k=6∨k=7∨k=8∨k=9:=by omega
 ·simp only[if_true] at h
  obtain ⟨r,hr,e⟩:=Option.map_eq_some_iff.1 h
  injection e with e1 e2
  subst e1 e2
  exact operand_regA hR hX hx s hs i r hr
 ·simp only[show ((2:Int)=1)=False by simp,if_false,if_true] at h
  obtain ⟨r,hr,e⟩:=Option.map_eq_some_iff.1 h
  injection e with e1 e2
  subst e1 e2
  exact operand_regB hR hX hx s hs i r hr
 ·simp only[show ((3:Int)=1)=False by simp,show ((3:Int)=2)=False by simp,if_false,if_true] at h
  obtain ⟨r,hr,e⟩:=Option.map_eq_some_iff.1 h
  injection e with e1 e2
  subst e1 e2
  exact operand_regC hR hX hx s hs i r hr
 ·simp only[show ((4:Int)=1)=False by simp,show ((4:Int)=2)=False by simp,show ((4:Int)=3)=False by simp,if_false,if_true] at h
  cases hr:regL s.data.toList with
  |some r=>
   rw[hr] at h
   injection h with h
   injection h with e1 e2
   subst e1 e2
   exact operand_orCr hR hX hx s hs i r hr
  |none=>
   rw[hr] at h
   obtain ⟨v,hv,e⟩:=Option.map_eq_some_iff.1 h
   injection e with e1 e2
   subst e1 e2
   exact operand_orCn hR hX hx s hs i v hr hv
 ·simp only[show ((5:Int)=1)=False by simp,show ((5:Int)=2)=False by simp,show ((5:Int)=3)=False by simp,show ((5:Int)=4)=False by simp,if_false,if_true] at h
  cases hr:regL s.data.toList with
  |some r=>
   rw[hr] at h
   injection h with h
   injection h with e1 e2
   subst e1 e2
   exact operand_orBr hR hX hx s hs i r hr
  |none=>
   rw[hr] at h
   obtain ⟨v,hv,e⟩:=Option.map_eq_some_iff.1 h
   injection e with e1 e2
   subst e1 e2
   exact operand_orBn hR hX hx s hs i v hr hv
 ·exact m91
 ·exact m106
 ·simp only[show ((8:Int)=1)=False by simp,show ((8:Int)=2)=False by simp,show ((8:Int)=3)=False by simp,show ((8:Int)=4)=False by simp,show ((8:Int)=5)=False by simp,show ((8:Int)=6)=False by simp,show ((8:Int)=7)=False by simp,if_false,if_true] at h
  cases hn:namedL s.data.toList with
  |true=>
   rw[hn] at h
   simp only[if_true] at h
   injection h with h
   injection h with e1 e2
   subst e1 e2
   exact operand_place hR hrb hX hx s hs i 8 (Or.inl rfl) hn hc hw
  |false=>rw[hn] at h;simp at h
 ·simp only[show ((9:Int)=1)=False by simp,show ((9:Int)=2)=False by simp,show ((9:Int)=3)=False by simp,show ((9:Int)=4)=False by simp,show ((9:Int)=5)=False by simp,show ((9:Int)=6)=False by simp,show ((9:Int)=7)=False by simp,show ((9:Int)=8)=False by simp,if_false] at h
  cases hn:namedL s.data.toList with
  |true=>
   rw[hn] at h
   simp only[if_true] at h
   injection h with h
   injection h with e1 e2
   subst e1 e2
   exact operand_place hR hrb hX hx s hs i 9 (Or.inr rfl) hn hc hw
  |false=>
   rw[hn] at h
   simp only[Bool.false_eq_true,if_false] at h
   obtain ⟨r,hr,e⟩:=Option.map_eq_some_iff.1 h
   injection e with e1 e2
   subst e1 e2
   exact operand_bothn hR hX hx s hs i r hn hr
end Go.Proofs.YtaangaogmnlljaaGreatDoor.Asm
