/- Part 39 of what the proof stands on: RdErr. -/
import Derived.Test.YtdlpmnmenhojfaaGreatDoorR38
set_option linter.unusedVariables false
set_option maxHeartbeats 40000000
set_option maxRecDepth 100000
variable {zP:Prop}
namespace Go.Proofs.YtdlpmnmenhojfaaGreatDoor
open Go.IntKind renaming i64->Z,u64->J
open Go.Value renaming int->E,pointer->Y,slice->Sl
open Option renaming none->O,some->V
open Go.Obj renaming cells->Ce
open Go.Ending renaming returned->Rt
open Go.Proofs.Tryz renaming prog->Tp
namespace Kn
open Go.RowKit Asm Errs
theorem row_one {X:World} {k base:Nat} {e:TypeId} {u:Value} (h:X.heap[k]?=V (.cells #[u] e (0,0))) (hb:base≤k):X.ownsRow base e 1 (Sl (V ⟨k,0,O⟩) 1 1) 1 [u]:=
 ⟨by simp, .inr ⟨_,1,#[u],rfl,hb,h,Nat.le_refl _,by simp[maxLen],by simp,by simp⟩⟩
theorem Jk {w:World} {b i:Nat} {v:Value} (h:w.cell? ⟨b,i,O⟩=some v):b<w.heap.size:=by
 rcases Nat.lt_or_ge b w.heap.size with h1|h1
 ·exact h1
 ·simp[World.cell?,Array.getElem?_eq_none h1] at h
theorem zaO:(Tryz.prog.info? 9).map (fun i=>(i.zero,i.size,i.bytes))=V (some (.string ⟨#[]⟩),1,16):=Y4
theorem zAb (r:List (ByteArray×Int)): ∀u∈(r.map fun p=>Value.string p.1),u.oneCell'=true:=fun u hu=>by
 obtain ⟨x,-,rfl⟩:=List.mem_map.1 hu;rfl
theorem zAv (r:List (ByteArray×Int)): ∀u∈(r.map fun p=>Value.int Z p.2),u.oneCell'=true:=fun u hu=>by
 obtain ⟨x,-,rfl⟩:=List.mem_map.1 hu;rfl
theorem zsX {W:World} {fb:Nat} {A A':Option Addr} {c c' n:Nat} {base:Nat} {r:List (ByteArray×Int)} {k:Int} (h4:W.ownsRow base 9 1 (.slice A n c) n (r.map fun p=>Value.string p.1)) (h5:W.ownsRow base 3 1 (.slice A' n c') n (r.map fun p=>Value.int Z p.2)) (hn:n=r.length) (hr:0<r.length)
  (hb:W.heap[fb]?=V (.cells #[.slice A n c, .slice A' n c',E Z k] 92 (0,0))):Bp W r k (Y (V ⟨fb,0,O⟩)):=by
 subst hn;rcases gG h4 with ⟨-,e,-⟩ |⟨g,c0,e,hc⟩
 ·omega
 rcases gG h5 with ⟨-,e2,-⟩ |⟨g',c0',e2,hc'⟩
 ·omega
 injection e with e _ e3
 injection e2 with e2 _ e4
 subst e e2;refine ⟨fb,_,_,_,_,rfl,zo hb,ze hb 0,ze hb 1,ze hb 2,fun i s n hi=>?_⟩;have p1:(r.map fun p=>Value.string p.1)[i]?=V (.string s):=by rw[List.getElem?_map,hi];rfl
 have p2:(r.map fun p=>Value.int Z p.2)[i]?=V (E Z n):=by rw[List.getElem?_map,hi];rfl
 have q1:=hc i _ p1;have q2:=hc' i _ p2;rw[Addr.add_lit] at q1 q2;exact ⟨g,0,g',0,rfl,rfl,Jk q1,Jk q2,q1,q2⟩
theorem zla {w:World} {r:List (ByteArray×Int)} {k:Int} {f:Value} (h:Bp w r k f) (hr:0<r.length): ∃fb lb lo pb po c c',f=Y (V ⟨fb,0,O⟩)∧fb<w.heap.size∧lb<w.heap.size∧pb<w.heap.size∧w.cell? ⟨fb,0,O⟩=V (Sl (V ⟨lb,lo,O⟩) r.length c)∧w.cell? ⟨fb,1,O⟩=V (Sl (V ⟨pb,po,O⟩) r.length c')∧w.cell? ⟨fb,2,O⟩=V (E Z k)∧
  (∀j u,(r.map fun p=>Value.string p.1)[j]?=some u→w.cell? ((⟨lb,lo,O⟩:Addr).add j)=some u)∧ ∀j u,(r.map fun p=>Value.int Z p.2)[j]?=some u→w.cell? ((⟨pb,po,O⟩:Addr).add j)=some u:=by
 obtain ⟨fb,A,A',c,c',rfl,hl,h0,h1,h2,hi⟩:=h;obtain ⟨lb,lo,pb,po,rfl,rfl,b1,b2,-,-⟩:=hi 0 (r[0]).1 (r[0]).2 (by rw[List.getElem?_eq_getElem hr]);refine ⟨fb,lb,lo,pb,po,c,c',rfl,hl,b1,b2,h0,h1,h2,fun j u hu=>?_,fun j u hu=>?_⟩;all_goals
  rw[List.getElem?_map] at hu
  obtain ⟨⟨s,n⟩,hp,rfl⟩:=Option.map_eq_some_iff.1 hu
  obtain ⟨_,_,_,_,e1,e2,_,_,q1,q2⟩:=hi j s n hp
  injection e1 with e1
  injection e2 with e2
  injection e1 with e1 e3
  injection e2 with e2 e4
  subst e1 e2 e3 e4
  rw[Addr.add_lit]
  first|exact q1|exact q2
theorem zsS {w:World} {r:List (ByteArray×Int)} {k:Int} {f:Value} (s:ByteArray) (n:Int) (h:Bp w r k f) (hr:0<r.length) (hl:r.length≤1000):
  Calls Tp 12 #[.string s,E Z n,f] w (zjZ w ((s,n)::r) k):=by
 obtain ⟨fb,lb,lo,pb,po,c,c',rfl,hfl,hll,hpl,h0,h1,h2,hL,hP⟩:=zla h hr;obtain ⟨iS,SF,TP,TJ,hbS⟩:=info_parts zaO;obtain ⟨iI,dH,nL,hsI,Dv⟩:=info_parts zaI;have xW:Hid (∀(X w5:World) (row:Option Nat),Below w.heap.size w X→X.grownBy w5 row→(∀k,row=some k→w.heap.size≤k)→Below w.heap.size w w5):=Y0 fun X w5 row a b c=>a.grown b a.size c;have E4:Hid (∀(X:World) (k:Nat),X.heap[k]?=V (.cells #[.string s] 9 (0,0))→w.heap.size≤k→X.ownsRow w.heap.size 9 1 (Sl (V ⟨k,0,O⟩) 1 1) 1 [.string s]):=Y0 fun X k a b=>row_one a b;have E5:Hid (∀(X:World) (k:Nat),X.heap[k]?=V (.cells #[E Z n] 3 (0,0))→w.heap.size≤k→X.ownsRow w.heap.size 3 1 (Sl (V ⟨k,0,O⟩) 1 1) 1 [E Z n]):=Y0 fun X k a b=>row_one a b
 have N4:Hid (∀X,Below w.heap.size w X→ ∀j u,(r.map fun p=>Value.string p.1)[j]?=some u→X.cell? ((⟨lb,lo,O⟩:Addr).add j)=some u):=Y0 fun X hX j u hu=>by have q:=hL j u hu;rw[Addr.add_lit] at q ⊢;exact (hX.cell (p:=⟨lb,lo+j,O⟩) hll).trans q
 have N5:Hid (∀X,Below w.heap.size w X→ ∀j u,(r.map fun p=>Value.int Z p.2)[j]?=some u→X.cell? ((⟨pb,po,O⟩:Addr).add j)=some u):=Y0 fun X hX j u hu=>by have q:=hP j u hu;rw[Addr.add_lit] at q ⊢;exact (hX.cell (p:=⟨pb,po+j,O⟩) hpl).trans q
 have HY:Hid (∀X,Below w.heap.size w X→X.cell? ⟨fb,0,O⟩=V (Sl (V ⟨lb,lo,O⟩) r.length c)∧X.cell? ⟨fb,1,O⟩=V (Sl (V ⟨pb,po,O⟩) r.length c')∧X.cell? ⟨fb,2,O⟩=V (E Z k)):=Y0 fun X hX=>⟨(hX.cell (p:=⟨fb,0,O⟩) hfl).trans h0,(hX.cell (p:=⟨fb,1,O⟩) hfl).trans h1,(hX.cell (p:=⟨fb,2,O⟩) hfl).trans h2⟩
 have aS:Hid (∀X,Below w.heap.size w X→Below w.heap.size w X∧X.cell? ⟨fb,0,O⟩=V (Sl (V ⟨lb,lo,O⟩) r.length c)∧X.cell? ⟨fb,1,O⟩=V (Sl (V ⟨pb,po,O⟩) r.length c')∧X.cell? ⟨fb,2,O⟩=V (E Z k)):=Y0 fun X hX=>⟨hX,HY.out X hX⟩
 have HM:Hid (1+r.length≤maxLen∧(1+r.length)*16≤140737488355328∧(1+r.length)*8≤140737488355328):=Y0 ⟨by simp[maxLen];omega,by omega,by omega⟩;have HR:=Y0 hr;clear h hL hP hr hl hll hpl;go_enter Tryz.func12,Tryz.ntmps12;go_wp2_with fail;go_region_held_law (fun W=>Below w.heap.size w W∧W.cell? ⟨fb,0,O⟩=V (Sl (V ⟨lb,lo,O⟩) r.length c)∧W.cell? ⟨fb,1,O⟩=V (Sl (V ⟨pb,po,O⟩) r.length c')∧W.cell? ⟨fb,2,O⟩=V (E Z k)) (exact aS.out _ Y5) (first
  |(refine Vg _ rfl (.tmp 10) (.tmp 14) 90 rfl w.heap.size 9 iS _ 1 16 Tryz.underlying90 SF TP TJ hbS rfl Y2 (Sl (V ⟨_,0,O⟩) 1 1) 1 [.string s] rfl (E4.out _ _ Y99 Y3) ⟨lb,lo,O⟩ r.length c (r.map fun p=>Value.string p.1) rfl Y7 (N4.out _ Y5) (zAb _) HM.out.1 HM.out.2.1 Y3 ?_;intro v4 w4 hem4 hown4 hg4;obtain ⟨A4,c4,rfl⟩:=zn hown4;have hb4:=xW.out _ w4 _ Y5 hg4 Y11;have hs4:=hb4.size;have pU:=hg4.size;(try simp only[World.size_alloc,World.size_drew] at pU);obtain ⟨Ab,Ad,f2'⟩:=HY.out w4 hb4;try (have p9:=BD hown5 Y9 hem4 hg4 Y2))
  |(refine Vg _ rfl (.tmp 17) (.tmp 21) 76 rfl w.heap.size 3 iI _ 1 8 Tryz.underlying76 dH nL hsI Dv rfl Y2 (Sl (V ⟨_,0,O⟩) 1 1) 1 [E Z n] rfl (E5.out _ _ Y99 Y3) ⟨pb,po,O⟩ r.length c' (r.map fun p=>Value.int Z p.2) rfl Y7 (N5.out _ Y5) (zAv _) HM.out.1 HM.out.2.2 Y3 ?_;intro v5 w5 hem5 hown5 hg5;obtain ⟨A5,c5,rfl⟩:=zn hown5;have hb5:=xW.out _ w5 _ Y5 hg5 Y11;have hs5:=hb5.size;have yA:=hg5.size;(try simp only[World.size_alloc,World.size_drew] at yA);obtain ⟨Ab,Ad,f2'⟩:=HY.out w5 hb5;try (have p8:=BD hown4 Y9 hem5 hg5 Y2)))
 all_goals
  go_wp2_with fail
  go_ret
  refine ⟨_,rfl,zsX (base:=w.heap.size) (n:=1+r.length) (r:=(s,n)::r) (za (by first|exact p8|exact hown4) fun k e=>Below.heap_alloc _ _ _ ?_) (za (by first|exact p9|exact hown5) fun k e=>Below.heap_alloc _ _ _ ?_) Y8 Y7 (heap_alloc_new _ _),Below.alloc (by first|exact hb5|exact hb4) (by first|exact hs5|exact hs4) _⟩
  ·first|exact (p8.lt k e).2|exact (hown4.lt k e).2
  ·first|exact (p9.lt k e).2|exact (hown5.lt k e).2
end Kn
end Go.Proofs.YtdlpmnmenhojfaaGreatDoor
