/- Part 37 of what the proof stands on: RdErr, RdCode, RdLib, RdNew, RdSrc, KnLibOk, KnViewF, KnEvSame. -/
import Derived.Test.YtaangaogmnlljaaGreatDoorP34
import Derived.Test.YtaangaogmnlljaaGreatDoorP36
set_option linter.unusedVariables false
set_option maxRecDepth 100000
set_option maxHeartbeats 40000000
namespace Go.Proofs.YtaangaogmnlljaaGreatDoor.Kn
open Go.RowKit Asm Errs
theorem row_one {X:World} {k base:Nat} {e:TypeId} {u:Value} (h:X.heap[k]?=some (.cells #[u] e (0,0))) (hb:base≤k):X.ownsRow base e 1 (.slice (some ⟨k,0,none⟩) 1 1) 1 [u]:=
 ⟨by simp, .inr ⟨_,1,#[u],rfl,hb,h,Nat.le_refl _,by simp[maxLen],by simp,by simp⟩⟩
theorem blk_of_cell0 {w:World} {b i:Nat} {v:Value} (h:w.cell? ⟨b,i,none⟩=some v):b<w.heap.size:=by
 rcases Nat.lt_or_ge b w.heap.size with h1|h1
 ·exact h1
 ·simp[World.cell?,Array.getElem?_eq_none h1] at h
theorem infoStr:(Tryz.prog.info? 9).map (fun i=>(i.zero,i.size,i.bytes))=some (some (.string ⟨#[]⟩),1,16):=by kernel_rfl
theorem one4 (r:List (ByteArray×Int)): ∀u∈(r.map fun p=>Value.string p.1),u.oneCell'=true:=fun u hu=>by
 obtain ⟨x,-,rfl⟩:=List.mem_map.1 hu;rfl
theorem one5 (r:List (ByteArray×Int)): ∀u∈(r.map fun p=>Value.int .i64 p.2),u.oneCell'=true:=fun u hu=>by
 obtain ⟨x,-,rfl⟩:=List.mem_map.1 hu;rfl
theorem fail_of {W:World} {fb:Nat} {A A':Option Addr} {c c' n:Nat} {base:Nat} {r:List (ByteArray×Int)} {k:Int} (h4:W.ownsRow base 9 1 (.slice A n c) n (r.map fun p=>Value.string p.1)) (h5:W.ownsRow base 3 1 (.slice A' n c') n (r.map fun p=>Value.int .i64 p.2)) (hn:n=r.length) (hr:0<r.length)
  (hb:W.heap[fb]?=some (.cells #[.slice A n c, .slice A' n c', .int .i64 k] 91 (0,0))):IsFail W r k (.pointer (some ⟨fb,0,none⟩)):=by
 subst hn
 rcases row_at h4 with ⟨-,e,-⟩ |⟨g,c0,e,hc⟩
 ·omega
 rcases row_at h5 with ⟨-,e2,-⟩ |⟨g',c0',e2,hc'⟩
 ·omega
 injection e with e _ e3
 injection e2 with e2 _ e4
 subst e e2
 refine ⟨fb,_,_,_,_,rfl,blk_in hb,blk_cell hb 0,blk_cell hb 1,blk_cell hb 2,fun i s n hi=>?_⟩
 have p1:(r.map fun p=>Value.string p.1)[i]?=some (.string s):=by rw[List.getElem?_map,hi];rfl
 have p2:(r.map fun p=>Value.int .i64 p.2)[i]?=some (.int .i64 n):=by rw[List.getElem?_map,hi];rfl
 have q1:=hc i _ p1
 have q2:=hc' i _ p2
 rw[Addr.add_lit] at q1 q2
 exact ⟨g,0,g',0,rfl,rfl,blk_of_cell0 q1,blk_of_cell0 q2,q1,q2⟩
theorem fail_rows {w:World} {r:List (ByteArray×Int)} {k:Int} {f:Value} (h:IsFail w r k f) (hr:0<r.length): ∃fb lb lo pb po c c',f= .pointer (some ⟨fb,0,none⟩)∧fb<w.heap.size∧lb<w.heap.size∧pb<w.heap.size∧w.cell? ⟨fb,0,none⟩=some (.slice (some ⟨lb,lo,none⟩) r.length c)∧w.cell? ⟨fb,1,none⟩=some (.slice (some ⟨pb,po,none⟩) r.length c')∧w.cell? ⟨fb,2,none⟩=some (.int .i64 k)∧
  (∀j u,(r.map fun p=>Value.string p.1)[j]?=some u→w.cell? ((⟨lb,lo,none⟩:Addr).add j)=some u)∧ ∀j u,(r.map fun p=>Value.int .i64 p.2)[j]?=some u→w.cell? ((⟨pb,po,none⟩:Addr).add j)=some u:=by
 obtain ⟨fb,A,A',c,c',rfl,hl,h0,h1,h2,hi⟩:=h
 obtain ⟨lb,lo,pb,po,rfl,rfl,b1,b2,-,-⟩:=hi 0 (r[0]).1 (r[0]).2 (by rw[List.getElem?_eq_getElem hr])
 refine ⟨fb,lb,lo,pb,po,c,c',rfl,hl,b1,b2,h0,h1,h2,fun j u hu=>?_,fun j u hu=>?_⟩
 all_goals
  rw[List.getElem?_map] at hu
  obtain ⟨⟨s,n⟩,hp,rfl⟩:=Option.map_eq_some_iff.1 hu
  obtain ⟨_,_,_,_,e1,e2,_,_,q1,q2⟩:=hi j s n hp
  injection e1 with e1
  injection e2 with e2
  injection e1 with e1 e3
  injection e2 with e2 e4
  subst e1 e2 e3 e4
  rw[Addr.add_lit]
  first|exact q1|exact q2
set_option maxRecDepth 100000 in
theorem rin_any {w:World} {r:List (ByteArray×Int)} {k:Int} {f:Value} (s:ByteArray) (n:Int) (h:IsFail w r k f) (hr:0<r.length) (hl:r.length≤1000):
  Calls Tryz.prog 33 #[.string s, .int .i64 n,f] w (FailOut w ((s,n)::r) k):=by
 obtain ⟨fb,lb,lo,pb,po,c,c',rfl,hfl,hll,hpl,h0,h1,h2,hL,hP⟩:=fail_rows h hr
 obtain ⟨iS,hiS,hzS,hsS,hbS⟩:=info_parts infoStr
 obtain ⟨iI,hiI,hzI,hsI,hbI⟩:=info_parts infoInt
 have hbG:Hid (∀(X w5:World) (row:Option Nat),Below w.heap.size w X→X.grownBy w5 row→(∀k,row=some k→w.heap.size≤k)→Below w.heap.size w w5):=Lib.hid fun X w5 row a b c=>a.grown b a.size c
 have E4:Hid (∀(X:World) (k:Nat),X.heap[k]?=some (.cells #[.string s] 9 (0,0))→w.heap.size≤k→X.ownsRow w.heap.size 9 1 (.slice (some ⟨k,0,none⟩) 1 1) 1 [.string s]):=Lib.hid fun X k a b=>row_one a b
 have E5:Hid (∀(X:World) (k:Nat),X.heap[k]?=some (.cells #[.int .i64 n] 3 (0,0))→w.heap.size≤k→X.ownsRow w.heap.size 3 1 (.slice (some ⟨k,0,none⟩) 1 1) 1 [.int .i64 n]):=Lib.hid fun X k a b=>row_one a b
 have N4:Hid (∀X,Below w.heap.size w X→ ∀j u,(r.map fun p=>Value.string p.1)[j]?=some u→X.cell? ((⟨lb,lo,none⟩:Addr).add j)=some u):=Lib.hid fun X hX j u hu=>by have q:=hL j u hu;rw[Addr.add_lit] at q ⊢;exact (hX.cell (p:=⟨lb,lo+j,none⟩) hll).trans q
 have N5:Hid (∀X,Below w.heap.size w X→ ∀j u,(r.map fun p=>Value.int .i64 p.2)[j]?=some u→X.cell? ((⟨pb,po,none⟩:Addr).add j)=some u):=Lib.hid fun X hX j u hu=>by have q:=hP j u hu;rw[Addr.add_lit] at q ⊢;exact (hX.cell (p:=⟨pb,po+j,none⟩) hpl).trans q
 have HY:Hid (∀X,Below w.heap.size w X→X.cell? ⟨fb,0,none⟩=some (.slice (some ⟨lb,lo,none⟩) r.length c)∧X.cell? ⟨fb,1,none⟩=some (.slice (some ⟨pb,po,none⟩) r.length c')∧X.cell? ⟨fb,2,none⟩=some (.int .i64 k)):=Lib.hid fun X hX=>⟨(hX.cell (p:=⟨fb,0,none⟩) hfl).trans h0,(hX.cell (p:=⟨fb,1,none⟩) hfl).trans h1,(hX.cell (p:=⟨fb,2,none⟩) hfl).trans h2⟩
 have HAll:Hid (∀X,Below w.heap.size w X→Below w.heap.size w X∧X.cell? ⟨fb,0,none⟩=some (.slice (some ⟨lb,lo,none⟩) r.length c)∧X.cell? ⟨fb,1,none⟩=some (.slice (some ⟨pb,po,none⟩) r.length c')∧X.cell? ⟨fb,2,none⟩=some (.int .i64 k)):=Lib.hid fun X hX=>⟨hX,HY.out X hX⟩
 have HM:Hid (1+r.length≤maxLen∧(1+r.length)*16≤140737488355328∧(1+r.length)*8≤140737488355328):=Lib.hid ⟨by simp[maxLen];omega,by omega,by omega⟩
 have HR:=Lib.hid hr
 clear h hL hP hr hl hll hpl
 go_enter Tryz.func33,Tryz.ntmps33
 go_wp2_with fail
 go_region_held_law (fun W=>Below w.heap.size w W∧W.cell? ⟨fb,0,none⟩=some (.slice (some ⟨lb,lo,none⟩) r.length c)∧W.cell? ⟨fb,1,none⟩=some (.slice (some ⟨pb,po,none⟩) r.length c')∧W.cell? ⟨fb,2,none⟩=some (.int .i64 k)) (exact HAll.out _ (by repeat first|exact Below.refl _ _|exact hb4|exact hb5|refine below_al ?_ _|refine Below.drew ?_)) (first
  |(refine step_append_own2 _ rfl (.tmp 10) (.tmp 14) 88 rfl w.heap.size 9 iS _ 1 16 Tryz.underlying88 hiS hzS hsS hbS rfl (by decide) (.slice (some ⟨_,0,none⟩) 1 1) 1 [.string s] rfl (E4.out _ _ (by repeat (first|with_reducible refine (heap_dr _ _).trans ?_|exact heap_at (by (first|(with_reducible exact Nat.le_refl _) |(simp only[World.size_alloc]<;>omega) |omega)) |refine (Below.heap_alloc _ _ _ (by (first|(with_reducible exact Nat.le_refl _) |(simp only[World.size_alloc]<;>omega) |omega))).trans ?_|refine (hg4.block _ (by (first|(with_reducible exact Nat.le_refl _) |(simp only[World.size_alloc,World.size_drew]<;>omega) |omega)) (fun e=>by injection e with e;revert e;(first|(with_reducible exact Nat.le_refl _) |(simp only[]<;>omega) |omega))).trans ?_|refine (hg5.block _ (by (first|(with_reducible exact Nat.le_refl _) |(simp only[World.size_alloc,World.size_drew]<;>omega) |omega)) (fun e=>by injection e with e;revert e;(first|(with_reducible exact Nat.le_refl _) |(simp only[World.size_alloc,World.size_drew]<;>omega) |omega))).trans ?_)) (by (first|(with_reducible exact Nat.le_refl _) |(simp only[World.size_alloc,World.size_drew]<;>omega) |omega))) ⟨lb,lo,none⟩ r.length c (r.map fun p=>Value.string p.1) rfl (by simp) (N4.out _ (by repeat first|exact Below.refl _ _|exact hb4|exact hb5|refine below_al ?_ _|refine Below.drew ?_)) (one4 _) HM.out.1 HM.out.2.1 (by (first|(with_reducible exact Nat.le_refl _) |(simp only[World.size_alloc,World.size_drew]<;>omega) |omega)) ?_;intro v4 w4 hem4 hown4 hg4;obtain ⟨A4,c4,rfl⟩:=own_shape hown4;have hb4:=hbG.out _ w4 _ (by repeat first|exact Below.refl _ _|exact hb4|exact hb5|refine below_al ?_ _|refine Below.drew ?_) hg4 (by intro k e;injection e with e;subst e;(first|(with_reducible exact Nat.le_refl _) |(simp only[]<;>omega) |omega));have hs4:=hb4.size;have hgs4:=hg4.size;(try simp only[World.size_alloc,World.size_drew] at hgs4);obtain ⟨f0',f1',f2'⟩:=HY.out w4 hb4;try (have hown5':=rows_both hown5 (by repeat first|exact Below.refl _ _|refine below_al ?_ _|refine Below.drew ?_) hem4 hg4 (by decide)))
  |(refine step_append_own2 _ rfl (.tmp 17) (.tmp 21) 89 rfl w.heap.size 3 iI _ 1 8 Tryz.underlying89 hiI hzI hsI hbI rfl (by decide) (.slice (some ⟨_,0,none⟩) 1 1) 1 [.int .i64 n] rfl (E5.out _ _ (by repeat (first|with_reducible refine (heap_dr _ _).trans ?_|exact heap_at (by (first|(with_reducible exact Nat.le_refl _) |(simp only[World.size_alloc]<;>omega) |omega)) |refine (Below.heap_alloc _ _ _ (by (first|(with_reducible exact Nat.le_refl _) |(simp only[World.size_alloc]<;>omega) |omega))).trans ?_|refine (hg4.block _ (by (first|(with_reducible exact Nat.le_refl _) |(simp only[World.size_alloc,World.size_drew]<;>omega) |omega)) (fun e=>by injection e with e;revert e;(first|(with_reducible exact Nat.le_refl _) |(simp only[]<;>omega) |omega))).trans ?_|refine (hg5.block _ (by (first|(with_reducible exact Nat.le_refl _) |(simp only[World.size_alloc,World.size_drew]<;>omega) |omega)) (fun e=>by injection e with e;revert e;(first|(with_reducible exact Nat.le_refl _) |(simp only[World.size_alloc,World.size_drew]<;>omega) |omega))).trans ?_)) (by (first|(with_reducible exact Nat.le_refl _) |(simp only[World.size_alloc,World.size_drew]<;>omega) |omega))) ⟨pb,po,none⟩ r.length c' (r.map fun p=>Value.int .i64 p.2) rfl (by simp) (N5.out _ (by repeat first|exact Below.refl _ _|exact hb4|exact hb5|refine below_al ?_ _|refine Below.drew ?_)) (one5 _) HM.out.1 HM.out.2.2 (by (first|(with_reducible exact Nat.le_refl _) |(simp only[World.size_alloc]<;>omega) |omega)) ?_;intro v5 w5 hem5 hown5 hg5;obtain ⟨A5,c5,rfl⟩:=own_shape hown5;have hb5:=hbG.out _ w5 _ (by repeat first|exact Below.refl _ _|exact hb4|exact hb5|refine below_al ?_ _|refine Below.drew ?_) hg5 (by intro k e;injection e with e;subst e;(first|(with_reducible exact Nat.le_refl _) |(simp only[]<;>omega) |omega));have hs5:=hb5.size;have hgs5:=hg5.size;(try simp only[World.size_alloc] at hgs5);obtain ⟨f0',f1',f2'⟩:=HY.out w5 hb5;try (have hown4':=rows_both hown4 (by repeat first|exact Below.refl _ _|refine below_al ?_ _|refine Below.drew ?_) hem5 hg5 (by decide))))
 all_goals
  go_wp2_with fail
  go_ret
  refine ⟨_,rfl,fail_of (base:=w.heap.size) (n:=1+r.length) (r:=(s,n)::r) (ownsRow_of_block (by first|exact hown4'|exact hown4) fun k e=>Below.heap_alloc _ _ _ ?_) (ownsRow_of_block (by first|exact hown5'|exact hown5) fun k e=>Below.heap_alloc _ _ _ ?_) (by simp;omega) (by simp) (heap_alloc_new _ _),Below.alloc (by first|exact hb5|exact hb4) (by first|exact hs5|exact hs4) _⟩
  ·first|exact (hown4'.lt k e).2|exact (hown4.lt k e).2
  ·first|exact (hown5'.lt k e).2|exact (hown5.lt k e).2
end Go.Proofs.YtaangaogmnlljaaGreatDoor.Kn
namespace Go.Proofs.YtaangaogmnlljaaGreatDoor.Kn
open Go.RowKit Asm Errs
def checkG (lib:Bool) (l:List InsL):Option ErrK:=if 2048<l.length then some ([(codeS,0)],3) else (l.findIdx? fun x=>!mayK x l.length lib).map fun i:Nat=>([(codeS,(i:Int))],5)
set_option maxRecDepth 100000 in
theorem rdcheck_any {w:World} {g n c:Nat} {l:List InsL} {lib:Bool} (h:CodeAt w g l) (hg:g<w.heap.size) (hn:n=l.length) (hnb:n≤9223372036854775807)
  (hR:l.length≤2048→ ∀k (hk:k<l.length) (W:World),Calls Tryz.prog 281 #[.agg (insV l[k]), .int .i64 n, .bool lib] W fun e w'=>e= .returned (.bool (mayK l[k] l.length lib))∧Below W.heap.size W w'):
  Calls Tryz.prog 228 #[.slice (some ⟨g,0,none⟩) n c, .bool lib] w (FailOr w (checkG lib l)):=by
 exact m7
def againG (lib:Bool) (l:List InsL):Option ErrK:=(checkG lib l).map fun x=>((codeS,(x.1.headD (codeS,0)).2)::x.1,x.2)
theorem checkG_one {lib:Bool} {l:List InsL} {x:ErrK} (h:checkG lib l=some x): ∃n:Int,x.1= [(codeS,n)]:=by
 unfold checkG at h
 split at h
 ·cases h;exact ⟨0,rfl⟩
 ·obtain ⟨i,_,rfl⟩:=Option.map_eq_some_iff.1 h;exact ⟨i,rfl⟩
set_option maxRecDepth 100000 in
theorem rdagain_any {w:World} {A:Option Addr} {n c:Nat} {l:List InsL} {lib:Bool} (h:Calls Tryz.prog 228 #[.slice A n c, .bool lib] w (FailOr w (checkG lib l))):
  Calls Tryz.prog 174 #[.slice A n c, .bool lib] w (FailOr w (againG lib l)):=by
 have H:=Lib.hid h
 clear h
 unfold againG
 cases hk:checkG lib l with
 |none=>
  rw[hk] at H
  clear hk
  go_enter Tryz.func174,Tryz.ntmps174
  go_wp2_with fail
  refine H.out.mono ?_
  rintro e w1 ⟨rfl,hb⟩
  have HB:=Lib.hid hb
  clear hb
  go_wp2_with fail
  go_ret
  exact ⟨rfl,HB.out⟩
 |some x=>
  rw[hk] at H
  obtain ⟨m,hm⟩:=checkG_one hk
  obtain ⟨r,k⟩:=x
  simp only at hm
  subst hm
  clear hk
  go_enter Tryz.func174,Tryz.ntmps174
  go_wp2_with fail
  refine H.out.mono ?_
  rintro e w1 ⟨v,rfl,hv,hb⟩
  have HI:=Lib.hid (fun n=>rin_any codeS n hv (by simp) (by simp))
  unfold codeS at HI
  obtain ⟨fb,lb,lo,pb,po,c1,c2,rfl,hfl,-,-,-,h1,-,-,hP⟩:=fail_rows hv (by simp)
  have p0:w1.cell? ⟨pb,po,none⟩=some (.int .i64 m):=hP 0 _ rfl
  simp only[List.length_cons,List.length_nil,Nat.zero_add] at h1
  have HB:=Lib.hid hb
  clear hb hv hP
  go_wp2_with fail
  refine (HI.out _).mono ?_
  rintro e w2 ⟨v2,rfl,hv2,hb2⟩
  have HV:=Lib.hid hv2
  have HB2:=Lib.hid (HB.out.trans (hb2.mono HB.out.size))
  clear hb2 hv2
  go_wp2_with fail
  go_ret
  exact ⟨v2,rfl,HV.out,HB2.out⟩
theorem a93.q82 {P:Prop} (h:P:=by
 clear hbad hn
 rcases hcase with h1|⟨h1,h2⟩ |⟨h1,h2,h3⟩ |⟨h1,h2,h3,h4⟩ |⟨h1,h2,h3,h4,h5⟩
 case' inr.inr.inr.inl=>have hsub:IntKind.i64.wrap (256 - wide)=256 - wide:=by rw[IntKind.wrap_i64];omega
 case' inr.inr.inr.inr=>have hsub:IntKind.i64.wrap (256 - wide)=256 - wide:=by rw[IntKind.wrap_i64];omega
 case' inr.inr.inr.inr=>subst h5
 all_goals
  go_enter Tryz.func87,Tryz.ntmps87
  go_wp2_with fail
  refine (HF.out _).mono ?_
  rintro e w1 ⟨v,rfl,hv,hb⟩
  have HV:=Lib.hid hv
  have HB:=Lib.hid (HB1.out.trans (hb.mono (by simp)))
  clear hv hb
  go_wp2_with fail
  go_ret
  exact ⟨v,rfl,HV.out,HB.out⟩):P:=h
open a93 in
set_option maxRecDepth 100000 in
theorem rdclient_bad {w:World} {A:Option Addr} {n c:Nat} {l:List InsL} {entry wide narrow:Int} (hn:n=l.length)
  (hbad:wide<0∨narrow<0∨256<wide∨256 - wide<narrow∨l.length=0):
  Calls Tryz.prog 87 #[.agg #[.slice A n c, .int .i64 entry, .int .i64 wide, .int .i64 narrow]] w (FailOr w (clientE l entry wide narrow)):=by
 have HB1:Hid (Below w.heap.size w (w.alloc (.cells #[.slice A n c, .int .i64 entry, .int .i64 wide, .int .i64 narrow] 26))):=Lib.hid ((Below.refl _ _).alloc (Nat.le_refl _) _)
 have HF:=Lib.hid (fun W=>no_any codeS 0 1 W)
 unfold codeS at HF
 exact m82
theorem againG_false (l:List InsL):againG false l=againK l:=rfl
end Go.Proofs.YtaangaogmnlljaaGreatDoor.Kn
namespace Go.Proofs.YtaangaogmnlljaaGreatDoor.Kn
open Go.RowKit Asm Errs
theorem call_cells {w wr:World} {b m cr i:Nat} {A:Option Addr} {calls:List RowL} (hrow:w.ownsRow b 184 6 (.slice A m cr) m (callC calls)) (hb:Below w.heap.size w wr) (hil:i<calls.length) (hm:m=calls.length):
  ∃gr,A=some ⟨gr,0,none⟩∧gr<wr.heap.size∧ ∀i,(h:i<calls.length)→wr.cell? ⟨gr,i*6,none⟩=some (.int .i64 calls[i].num)∧wr.cell? ⟨gr,i*6+1,none⟩=some (.int .i64 calls[i].pos)∧wr.cell? ⟨gr,i*6+2,none⟩=some (.int .i64 calls[i].k0)∧wr.cell? ⟨gr,i*6+3,none⟩=some (.int .i64 calls[i].k1)∧wr.cell? ⟨gr,i*6+4,none⟩=some (.int .i64 calls[i].k2)∧wr.cell? ⟨gr,i*6+5,none⟩=some (.int .i64 calls[i].k3):=by
 rcases row_at hrow with ⟨q,-⟩ |⟨gr,c',q,hq⟩
 ·injection q with _ q2 _
  omega
 ·injection q with q1 _ _
  have hgr:=(hrow.lt gr (by rw[q1];rfl)).2
  refine ⟨gr,q1,Nat.lt_of_lt_of_le hgr hb.size,fun i hil=>?_⟩
  have k: ∀j u,(row6 calls[i])[j]?=some u→j<6→wr.cell? ⟨gr,i*6+j,none⟩=some u:=fun j u hu hj=>by
   have:=hq (i*6+j) u ((callC_at hil j hj).trans hu)
   rw[Addr.add_lit,Nat.zero_add] at this
   exact (hb.cell (p:=⟨gr,i*6+j,none⟩) hgr).trans this
  exact ⟨k 0 _ rfl (by decide),k 1 _ rfl (by decide),k 2 _ rfl (by decide),k 3 _ rfl (by decide),k 4 _ rfl (by decide),k 5 _ rfl (by decide)⟩
theorem bel_dn0 {B:Nat} {a w:World} (h:Below B a w) (n:Nat):Below B a (w.drewN n):=⟨h.os,h.tape,h.output,h.size,h.block⟩
theorem nod_at {calls:List RowL} (h:(calls.map (·.num)).Nodup) {k i:Nat} (hi:i<calls.length) (hk:k<i):(calls[k]'(by omega)).num≠calls[i].num:=by
 have:=List.pairwise_iff_getElem.1 h k i (by rw[List.length_map];omega) (by rw[List.length_map];exact hi) hk
 rwa[List.getElem_map,List.getElem_map] at this
theorem a94.q83 {P:Prop} (h:P:=by
 clear h hn hl hmay B1 hz h0 hlp hm hm2 hrow hnod hcalls hnone
 go_enter Tryz.func86,Tryz.ntmps86
 go_wp2_with fail
 refine HC.out.mono ?_
 rintro e w2 ⟨rfl,hb⟩
 have bz:=(hb.block w.heap.size (by simp)).trans HZ.out
 have z0:w2.cell? ⟨w.heap.size,0,none⟩=some (.slice (some ⟨g,0,none⟩) n c):=blk_cell bz 0
 have z1:w2.cell? ⟨w.heap.size,1,none⟩=some (.int .i64 loop):=blk_cell bz 1
 have HB2:=Lib.hid (HB1.out.trans (hb.mono (by simp)))
 have HZ2:=Lib.hid bz
 have hl2:w.heap.size<w2.heap.size:=blk_in bz
 clear hb bz
 go_wp2_with fail
 go_loopg [4] m (fun gg iv wr=> ∃(i:Nat),i≤m∧gg=m - i∧iv= .int .i64 (i:Int)∧Hid (Below w2.heap.size w2 wr))
 case atStart=>exact ⟨0,by omega,rfl,rfl,Lib.hid (Below.refl _ _)⟩
 case round=>
  obtain ⟨i,hi,hgg,rfl,HS⟩:=hrel
  have Hg:=Lib.hid hgg
  have hiI:(0:Int)≤(i:Int)∧(i:Int)≤999:=by omega
  have bz:=(HS.out.block _ (blk_in HZ2.out)).trans HZ2.out
  have y2:wr.cell? ⟨w.heap.size,2,none⟩=some (.slice A m cr):=blk_cell bz 2
  by_cases hlt:i<m
  ·have hltI:(i:Int)<(m:Int):=by omega
   have hil:i<calls.length:=by rw[←HM.out];exact hlt
   have hr:=HCa.out _ (List.getElem_mem hil)
   obtain ⟨gr,rfl,hgr,hcl⟩:=call_cells HRow.out (HB2.out.trans (HS.out.mono HB2.out.size)) hil HM.out
   obtain ⟨c0,c1,c2,c3,c4,c5⟩:=hcl i hil
   have HCl:=Lib.hid hcl
   have HN:Hid (∀k,(hk:k<calls.length)→k<i→calls[k].num≠calls[i].num):=Lib.hid fun k _ hk=>nod_at HNod.out hil hk
   generalize calls[i]=x at*
   obtain ⟨xn,xp,k0,k1,k2,k3⟩:=x
   obtain ⟨r1,r2,r3,r4,⟨r5,r6⟩,⟨r7,r8⟩,⟨r9,r10⟩,r11,r12⟩:=hr
   simp only at r1 r2 r3 r4 r5 r6 r7 r8 r9 r10 r11 r12 c0 c1 c2 c3 c4 c5
   have y0:wr.cell? ⟨w.heap.size,0,none⟩=some (.slice (some ⟨g,0,none⟩) n c):=blk_cell bz 0
   have hls:w.heap.size<wr.heap.size:=blk_in bz
   have Hlt:=Lib.hid hlt
   have HIl:=Lib.hid hil
   have hzb:=heap_alloc_new wr (.cells #[.int .i64 xn, .int .i64 xp, .int .i64 k0, .int .i64 k1, .int .i64 k2, .int .i64 k3] 184)
   have HZb:=Lib.hid hzb
   have HBz:=Lib.hid bz
   have HSb:Hid (Below wr.heap.size wr (wr.alloc (.cells #[.int .i64 xn, .int .i64 xp, .int .i64 k0, .int .i64 k1, .int .i64 k2, .int .i64 k3] 184))):=Lib.hid ((Below.refl _ _).alloc (Nat.le_refl _) _)
   clear hgg hlt hil hcl hi z0 z1 bz hzb
   go_wp2_with fail
   generalize wr.alloc (.cells #[.int .i64 xn, .int .i64 xp, .int .i64 k0, .int .i64 k1, .int .i64 k2, .int .i64 k3] 184)=w5 at*
   have d2:w5.cell? ⟨wr.heap.size,2,none⟩=some (.int .i64 k0):=blk_cell HZb.out 2
   have d3:w5.cell? ⟨wr.heap.size,3,none⟩=some (.int .i64 k1):=blk_cell HZb.out 3
   have d4:w5.cell? ⟨wr.heap.size,4,none⟩=some (.int .i64 k2):=blk_cell HZb.out 4
   have d5:w5.cell? ⟨wr.heap.size,5,none⟩=some (.int .i64 k3):=blk_cell HZb.out 5
   go_loopg [6,7] 4 (fun g2 bv jv wr2=> ∃(j:Int),(0≤j∧j≤4)∧g2=(4 - j).toNat∧bv= .bool false∧jv= .int .i64 j∧w5=wr2)
   case atStart=>exact ⟨0,⟨by decide,by decide⟩,rfl,(by simp only[Value.bool.injEq,Bool.or_eq_false_iff,decide_eq_false_iff_not];omega),rfl,rfl⟩
   case round=>
    obtain ⟨j,hj,hg2,rfl,rfl,rfl⟩:=hrel
    have HG2:=Lib.hid hg2
    clear hg2
    obtain rfl|rfl|rfl|rfl|rfl:j=0∨j=1∨j=2∨j=3∨j=4:=by omega
    ·go_wp2_with fail
     go_roundg 3
     case measure=>have:=HG2.out;omega
     case rel=>exact ⟨1,⟨by decide,by decide⟩,rfl,(by simp only[Value.bool.injEq,Bool.or_eq_false_iff,decide_eq_false_iff_not];omega),by go_num,rfl⟩
    ·go_wp2_with fail
     go_roundg 2
     case measure=>have:=HG2.out;omega
     case rel=>exact ⟨2,⟨by decide,by decide⟩,rfl,(by simp only[Value.bool.injEq,Bool.or_eq_false_iff,decide_eq_false_iff_not];omega),by go_num,rfl⟩
    ·go_wp2_with fail
     go_roundg 1
     case measure=>have:=HG2.out;omega
     case rel=>exact ⟨3,⟨by decide,by decide⟩,rfl,(by simp only[Value.bool.injEq,Bool.or_eq_false_iff,decide_eq_false_iff_not];omega),by go_num,rfl⟩
    ·go_wp2_with fail
     go_roundg 0
     case measure=>have:=HG2.out;omega
     case rel=>exact ⟨4,⟨by decide,by decide⟩,rfl,(by simp only[Value.bool.injEq,Bool.or_eq_false_iff,decide_eq_false_iff_not];omega),by go_num,rfl⟩
    ·clear d2 d3 d4 d5
     go_wp2_with fail
     generalize wr=wo at*
     go_loopg [6,8] i (fun g2 bv jv wr=> ∃(j:Nat),j≤i∧g2=i - j∧bv= .bool false∧jv= .int .i64 (j:Int)∧Hid (Below w5.heap.size w5 wr))
     case atStart=>exact ⟨0,Nat.zero_le _,rfl,rfl,rfl,Lib.hid (Below.refl _ _)⟩
     case round=>
      obtain ⟨j,hj,hg3,rfl,rfl,HJ⟩:=hrel
      have HG3:=Lib.hid hg3
      have hjI:(0:Int)≤(j:Int):=by omega
      have hj9:(j:Int)<1000:=by omega
      clear hg3
      by_cases hji:j<i
      ·have hjiI:(j:Int)<(i:Int):=by omega
       have hjl:j<calls.length:=Nat.lt_trans hji HIl.out
       have hjm:(j:Int)<(m:Int):=by omega
       have e0:=(HJ.out.cell (p:=⟨gr,j*6,none⟩) (by have:=HSb.out.size;show gr<_;omega)).trans ((HSb.out.cell (p:=⟨gr,j*6,none⟩) hgr).trans (HCl.out j hjl).1)
       have e1:wr.cell? ⟨w.heap.size,2,none⟩=some (.slice (some ⟨gr,0,none⟩) m cr):=(HJ.out.cell (p:=⟨w.heap.size,2,none⟩) (by have:=HSb.out.size;show w.heap.size<_;omega)).trans ((HSb.out.cell (p:=⟨w.heap.size,2,none⟩) hls).trans y2)
       have e2:wr.cell? ⟨wo.heap.size,0,none⟩=some (.int .i64 xn):=(HJ.out.cell (p:=⟨wo.heap.size,0,none⟩) (blk_in HZb.out)).trans (blk_cell HZb.out 0)
       have hne:=HN.out j hjl hji
       generalize (calls[j]'hjl).num=yn at*
       have hneb:(yn==xn)=false:=beq_eq_false_iff_ne.2 hne
       have HJi:=Lib.hid hji
       clear hne hji hjl hj
       go_wp2_with fail
       go_quiet (fail)
       go_wp2_with fail
       go_roundg (i - (j+1))
       case measure=>have:=HG3.out;have:=HJi.out;omega
       case rel=>exact ⟨j+1,HJi.out,rfl,rfl,by go_num,Lib.hid (bel_dn0 HJ.out _)⟩
      ·have hjn: ¬(j:Int)<(i:Int):=by omega
       obtain rfl:j=i:=by omega
       clear hji
       have HJ2:=Lib.hid (HS.out.trans ((HSb.out.trans (HJ.out.mono HSb.out.size)).mono HS.out.size))
       go_wp2_with fail
       go_roundg (m - (j+1))
       case measure=>have:=Hg.out;have:=Hlt.out;omega
       case rel=>
        have:=Hlt.out
        exact ⟨j+1,by omega,rfl,by go_num,HJ2⟩
  ·obtain rfl:i=m:=by omega
   clear hgg
   go_wp2_with fail
   go_ret
   exact ⟨rfl,HB2.out.trans (HS.out.mono HB2.out.size)⟩):P:=h
theorem a94.q92 {P:Prop} (h:P:=by
 have hlpI:(0:Int)≤loop∧loop<(n:Int):=by omega
 exact m83):P:=h
open a94 in
set_option maxRecDepth 100000 in
theorem rdlib_ok {w:World} {g n c m cr b:Nat} {A:Option Addr} {l:List InsL} {calls:List RowL} {loop:Int} (h:CodeAt w g l) (hg:g<w.heap.size) (hn:n=l.length) (h0:0<l.length) (hl:l.length≤2048) (hmay: ∀x∈l,mayK x l.length true=true) (hlp:0≤loop∧loop<l.length) (hm:m=calls.length) (hm2:m≤999)
  (hrow:w.ownsRow b 184 6 (.slice A m cr) m (callC calls)) (hnod:(calls.map (·.num)).Nodup) (hcalls: ∀r∈calls,1≤r.num∧r.num≤999∧0≤r.pos∧r.pos<l.length∧(0≤r.k0∧r.k0≤7)∧(0≤r.k1∧r.k1≤7)∧(0≤r.k2∧r.k2≤7)∧(0≤r.k3∧r.k3≤7)):
  Calls Tryz.prog 86 #[.agg #[.slice (some ⟨g,0,none⟩) n c, .int .i64 loop, .slice A m cr]] w fun e w'=>e= .returned (.pointer none)∧Below w.heap.size w w':=by
 have B1:Below w.heap.size w (w.alloc (.cells #[.slice (some ⟨g,0,none⟩) n c, .int .i64 loop, .slice A m cr] 77)):=(Below.refl _ _).alloc (Nat.le_refl _) _
 have hnone:againG true l=none:=by
  unfold againG checkG
  rw[if_neg (by omega)]
  have:(l.findIdx? fun x=>!mayK x l.length true)=none:=by
   rw[List.findIdx?_eq_none_iff]
   intro x hx
   rw[hmay x hx];rfl
  rw[this];rfl
 have HC:=Lib.hid (rdagain_any (rdcheck_any (c:=c) (lib:=true) (h.below hg B1) (Nat.lt_of_lt_of_le hg B1.size) hn (by omega) fun hl k hk W=>(rright_lib (n:=(n:Int)) _ ⟨by omega,by omega⟩ (by rw[hn];exact hmay _ (List.getElem_mem hk)) W).mono fun e w' q=>by rw[hmay _ (List.getElem_mem hk)];exact q))
 rw[hnone] at HC
 exact m92
end Go.Proofs.YtaangaogmnlljaaGreatDoor.Kn
namespace Go.Proofs.YtaangaogmnlljaaGreatDoor.Kn
open Go.RowKit Go.Maps Asm Errs
variable {u0 u1 u2 u6 u7 u8 u9 u11 u12 u13 u14 u15 u16 u17 u18 u19 u20 u21 u22 u23 u24 u25 u26 u27 u28 u29 u30 u31 u32 u33 u34 u35 u36 u37 u38 u39 u40 u41 u42 u43 u44 u45 u46 u47 u48 u49 u50 u51 u52 u53 u54 u55 u56 u57 u58 u59 u60 u61 u62 u63 u64 u65 u66 u67 u68 u69 u70 u71 u72 u73 u74 u75 u76 u77 u78 u79 u80 u81 u82 u83 u84 u85 u86 u87 u88 u89 u90 u91 u92 u93 u94 u95 u96 u97 u98 u99 u100 u101 u102 u103 u104 u105 u106 u107 u108 u109 u110 u111 u112 u113 u114 u115 u116 u117 u118 u119 u120 u121 u122 u123 u124 u125 u126 u127 u128 u129 u130 u131 u132 u133 u134 u135 u136 u137 u138 u139 u140 u141 u142 u143 u144 u145 u146 u147 u148 u149 u150 u151 u152 u153 u154 u155 u156 u157 u158 u159 u160 u161 u162 u163 u164 u165 u166 u167 u168 u169 u170 u171 u172 u173 u174 u175 u176 u177 u178 u179 u180 u181 u182 u183 u184 u185 u186 u187 u188 u189 u190 u191 u192 u193 u194 u195 u196 u197 u198 u199 u200 u201 u202 u203 u204 u205 u206 u207 u208 u209 u210 u211 u212 u213 u214 u215 u216 u217 u218 u219 u220 u221 u222 u223 u224 u225 u226 u227 u228 u229 u230 u231 u232 u233 u234 u235 u236 u237 u238 u239 u240 u241 u242 u243 u244 u245 u246 u247 u248 u249 u250 u251 u252 u253 u254 u255 u256 u257 u258 u259 u260 u261 u262 u263 u264 u265 u266 u267 u268 u269 u270 u271 u272 u273 u274 u275 u276 u277 u278 u279 u280 u281 u282 u283 u284 u285 u286 u287 u288:Value}
def RNewFail (w:World) (x:ErrK) (e:Ending) (w':World):Prop:= ∃v,e= .returned (.tuple #[.pointer none,v])∧IsFail w' x.1 x.2 v∧Below w.heap.size w w'
theorem a95.q40 {P:Prop} (h:P:=by
 have hs3:IntKind.i64.wrap ((lo:Int)+1)=(lo:Int)+1:=by rw[IntKind.wrap_i64];omega
 have hgt:(cells:Int)<(lo:Int)+1:=by omega
 have H:=Lib.hid (And.intro h bx)
 have HF0:=Lib.hid (fun W=>no_any kernS 0 3 W)
 unfold kernS at HF0
 clear h hnb hlo hnbI hloI bx hpp hw hwd hroom hcells hnb2
 conv=>arg 2;whnf
 go_quiet (fail)
 go_wp2_with fail
 have HN:=Lib.hid (And.intro (H.out.1.drewN nq) H.out.2)
 clear k20 p2 p3 hs1 hs2 H
 generalize w.drewN nq=w1 at HN ⊢
 have a1:w1.cell? ⟨b0,1,none⟩=some (.int .i64 (cells:Int)):=blk_cell (HN.out.1.hs.at' _ (List.mem_cons_of_mem _ HN.out.2.c)) 1
 conv=>arg 2;whnf
 go_wp2_with fail
 refine (HF0.out _).mono ?_
 rintro e w2 ⟨v,rfl,hv,hb⟩
 have HV:=Lib.hid (And.intro hv (HN.out.1.below.trans (hb.mono HN.out.1.below.size)))
 clear hv hb
 go_wp2_with fail
 go_ret2
 exact ⟨v,rfl,HV.out.1,HV.out.2⟩):P:=h
theorem a95.q118 {P:Prop} (h:P:=by
 have hnb2:nb≤1000:=by rw[hnb];unfold baseN;omega
 exact m40):P:=h
open a95 in
set_option maxRecDepth 100000 in
theorem rdnew_t1f {w0 w:World} {F:Fixed} {cells:Nat} {entry:Int} {b0 b1 b2 K:Nat} {lv cv pv:Value} {S:List (Nat×Obj)}
  (h:NE w0 w K F lv cv pv ((K,kO F cells entry lv cv pv (.pointer none) (.pointer none) (.pointer none) (.pointer none) (.pointer none) (.pointer none) (.slice none 0 0) (.slice none 0 0))::S))
  (bx:Boxes S b0 b1 b2 F cells entry) (hw:1≤F.workers∧F.workers≤64) (hwd:0≤F.wide∧0≤F.narrow∧F.wide+F.narrow≤256) (hroom: ¬loN F+1≤cells) (hcells:1≤cells∧cells≤65536)
  (J:Act→World→Prop) (hJ: ∀a w,(tailC 7 newBody).wp Tryz.prog (bodyPost Tryz.prog Tryz.f31 (RNewFail w0 ([(kernS,0)],3))) a w→J a w):(headC 6 newBody).wp Tryz.prog (Exit.then J (bodyPost Tryz.prog Tryz.f31 (RNewFail w0 ([(kernS,0)],3)))) ⟨#[u0,u1,u2, .pointer (some ⟨b0,0,none⟩), .pointer (some ⟨b1,0,none⟩), .pointer (some ⟨b2,0,none⟩),u6,u7,u8,u9, .pointer (some ⟨K,0,none⟩),u11,u12,u13,u14,u15,u16,u17,u18,u19,u20,u21,u22,u23,u24,u25,u26,u27,u28,u29,u30,u31,u32,u33,u34,u35,u36,u37,u38,u39,u40,u41,u42,u43,u44,u45,u46,u47,u48,u49,u50,u51,u52,u53,u54,u55,u56,u57,u58,u59,u60,u61,u62,u63,u64,u65,u66,u67,u68,u69,u70,u71,u72,u73,u74,u75,u76,u77,u78,u79,u80,u81,u82,u83,u84,u85,u86,u87,u88,u89,u90,u91,u92,u93,u94,u95,u96,u97,u98,u99,u100,u101,u102,u103,u104,u105,u106,u107,u108,u109,u110,u111,u112,u113,u114,u115,u116,u117,u118,u119,u120,u121,u122,u123,u124,u125,u126,u127,u128,u129,u130,u131,u132,u133,u134,u135,u136,u137,u138,u139,u140,u141,u142,u143,u144,u145,u146,u147,u148,u149,u150,u151,u152,u153,u154,u155,u156,u157,u158,u159,u160,u161,u162,u163,u164,u165,u166,u167,u168,u169,u170,u171,u172,u173,u174,u175,u176,u177,u178,u179,u180,u181,u182,u183,u184,u185,u186,u187,u188,u189,u190,u191,u192,u193,u194,u195,u196,u197,u198,u199,u200,u201,u202,u203,u204,u205,u206,u207,u208,u209,u210,u211,u212,u213,u214,u215,u216,u217,u218,u219,u220,u221,u222,u223,u224,u225,u226,u227,u228,u229,u230,u231,u232,u233,u234,u235,u236,u237,u238,u239,u240,u241,u242,u243,u244,u245,u246,u247,u248,u249,u250,u251,u252,u253,u254,u255,u256,u257,u258,u259,u260,u261,u262,u263,u264,u265,u266,u267,u268,u269,u270,u271,u272,u273,u274,u275,u276,u277,u278,u279,u280,u281,u282,u283,u284,u285,u286,u287,u288],[]⟩ w:=by
 exact m118
theorem a96.q4 {P:Prop} (h:P:=by
 go_region_held3 (fun W=>W.cell? ⟨w.heap.size,0,none⟩=some (.int .i64 (F.workers:Int))∧W.cell? ⟨w.heap.size,1,none⟩=some (.int .i64 (cells:Int))∧W.cell? ⟨w.heap.size+1,0,none⟩=some (.slice (some ⟨gl,0,none⟩) F.lib.length cl)∧W.cell? ⟨w.heap.size+1,1,none⟩=some (.int .i64 F.loop)∧W.cell? ⟨w.heap.size+1,2,none⟩=some (.slice Ac F.calls.length cc)∧W.cell? ⟨w.heap.size+2,0,none⟩=some (.slice Ap F.code.length cp)∧W.cell? ⟨w.heap.size+2,1,none⟩=some (.int .i64 entry)∧W.cell? ⟨w.heap.size+2,2,none⟩=some (.int .i64 F.wide)∧W.cell? ⟨w.heap.size+2,3,none⟩=some (.int .i64 F.narrow))
  (first|with_reducible exact ⟨a0,a1,b0,b1,b2,p0,p1,p2,p3⟩ |exact HY.out _ (bel_dr HB3.out) |exact HY.out _ HB6.out|exact HY.out _ HB5.out|exact HY.out _ (HB6.out.alloc HB6.out.size _) |exact HY.out _ (HB5.out.alloc HB5.out.size _) |go_keep)
  (first
  |(go_at_call 88
    refine (HCl.out _ (by first|exact HB6.out|exact bel_dr HB6.out|exact bel_dr HB3.out)).mono ?_
    rintro e w5 ⟨A5,c5,B5,d5,rfl,r5,s5,b5,bz5⟩
    have HB5:=Lib.hid bz5
    have R5:=Lib.hid (And.intro r5 s5)
    try (have RZ:=Lib.hid (And.intro R5.out.1 (And.intro R5.out.2 (ownsRow_of_block R6.out fun b e=>b5.block b (R6.out.lt b e).2))))
    clear a0 a1 b0 b1 b2 p0 p1 p2 p3
    obtain ⟨a0,a1,b0,b1,b2,p0,p1,p2,p3⟩:=HY.out w5 HB5.out)
  |(go_at_call 8
    refine (HCp.out _ (by first|exact HB5.out|exact bel_dr HB5.out|exact bel_dr HB3.out)).mono ?_
    rintro e w6 ⟨A6,c6,rfl,r6,b6,bz6⟩
    have HB6:=Lib.hid bz6
    have R6:=Lib.hid (r6)
    try (have RZ:=Lib.hid (And.intro (ownsRow_of_block R5.out.1 fun b e=>b6.block b (R5.out.1.lt b e).2) (And.intro (ownsRow_of_block R5.out.2 fun b e=>b6.block b (R5.out.2.lt b e).2) R6.out)))
    clear a0 a1 b0 b1 b2 p0 p1 p2 p3
    obtain ⟨a0,a1,b0,b1,b2,p0,p1,p2,p3⟩:=HY.out w6 HB6.out))
 all_goals
  have HNE:Hid _:=Lib.hid (NE.of (entry:=entry) (cells:=cells) HBA.out (by first|exact HB6.out|exact HB5.out) H1.out RZ.out.1 RZ.out.2.1 RZ.out.2.2)
  go_upto_region 12 with fail
  have hwk:=HF.out.workers
  have hwd:=HF.out.wide
  have hrm:=HE.out.2.1
  exact rdnew_t1c HNE.out (S:= [(w.heap.size+2, .cells #[.slice Ap F.code.length cp, .int .i64 entry, .int .i64 F.wide, .int .i64 F.narrow] 26 (0,0)),(w.heap.size+1, .cells #[.slice (some ⟨gl,0,none⟩) F.lib.length cl, .int .i64 F.loop, .slice Ac F.calls.length cc] 77 (0,0)),(w.heap.size, .cells #[.int .i64 (F.workers:Int), .int .i64 (cells:Int)] 23 (0,0))]) ⟨List.mem_cons_of_mem _ (List.mem_cons_of_mem _ List.mem_cons_self),⟨_,_,List.mem_cons_of_mem _ List.mem_cons_self⟩,⟨_,List.mem_cons_self⟩⟩ hwk hwd (by unfold loN;unfold Fixed.base at hrm;unfold baseN;omega) HE.out.2.2 _ (by assumption)):P:=h
theorem a96.q12 {P:Prop} (h:P:=by
 have hcI:(1:Int)≤(cells:Int)∧(cells:Int)≤65536:=by have:=hF.wide;have:=hroom;unfold Fixed.base at this;omega
 exact m4):P:=h
open a96 in
set_option maxRecDepth 100000 in
theorem rdnew_any {w:World} (F:Fixed) (hF:FixOk F) {cells:Nat} {entry:Int} {Al Ac Ap:Option Addr} {cl cc cp:Nat}
  (hlv:w.ownsRow 0 68 7 (.slice Al F.lib.length cl) F.lib.length (codeC F.lib)) (hcv:w.ownsRow 0 184 6 (.slice Ac F.calls.length cc) F.calls.length (callC F.calls))
  (hcli: ∀W,Below w.heap.size w W→Calls Tryz.prog 87 #[.agg #[.slice Ap F.code.length cp, .int .i64 entry, .int .i64 F.wide, .int .i64 F.narrow]] W fun e w'=>e= .returned (.pointer none)∧Below W.heap.size W w')
  (hcpy: ∀W,Below w.heap.size w W→Calls Tryz.prog 8 #[.agg #[.slice Ap F.code.length cp, .int .i64 entry, .int .i64 F.wide, .int .i64 F.narrow]] W fun e w'=> ∃A' c',e= .returned (.agg #[.slice A' F.code.length c', .int .i64 entry, .int .i64 F.wide, .int .i64 F.narrow])∧w'.ownsRow W.heap.size 68 7 (.slice A' F.code.length c') F.code.length (codeC F.code)∧Below W.heap.size W w')
  (he:0≤entry∧entry<F.code.length) (hroom:F.base+F.wide+F.narrow+1≤cells) (hcells:cells≤65536):
  Calls Tryz.prog 31 #[.agg #[.int .i64 (F.workers:Int), .int .i64 (cells:Int)], .agg #[.slice Al F.lib.length cl, .int .i64 F.loop, .slice Ac F.calls.length cc], .agg #[.slice Ap F.code.length cp, .int .i64 entry, .int .i64 F.wide, .int .i64 F.narrow]] w (NewOk w F cells entry):=by
 exact m12
theorem a97.q4 {P:Prop} (h:P:=by
 go_region_held3 (fun W=>W.cell? ⟨w.heap.size,0,none⟩=some (.int .i64 (F.workers:Int))∧W.cell? ⟨w.heap.size,1,none⟩=some (.int .i64 (cells:Int))∧W.cell? ⟨w.heap.size+1,0,none⟩=some (.slice (some ⟨gl,0,none⟩) F.lib.length cl)∧W.cell? ⟨w.heap.size+1,1,none⟩=some (.int .i64 F.loop)∧W.cell? ⟨w.heap.size+1,2,none⟩=some (.slice Ac F.calls.length cc)∧W.cell? ⟨w.heap.size+2,0,none⟩=some (.slice Ap F.code.length cp)∧W.cell? ⟨w.heap.size+2,1,none⟩=some (.int .i64 entry)∧W.cell? ⟨w.heap.size+2,2,none⟩=some (.int .i64 F.wide)∧W.cell? ⟨w.heap.size+2,3,none⟩=some (.int .i64 F.narrow))
  (first|with_reducible exact ⟨a0,a1,b0,b1,b2,p0,p1,p2,p3⟩ |exact HY.out _ (bel_dr HB3.out) |exact HY.out _ HB6.out|exact HY.out _ HB5.out|exact HY.out _ (HB6.out.alloc HB6.out.size _) |exact HY.out _ (HB5.out.alloc HB5.out.size _) |go_keep)
  (first
  |(go_at_call 88
    refine (HCl.out _ (by first|exact HB6.out|exact bel_dr HB6.out|exact bel_dr HB3.out)).mono ?_
    rintro e w5 ⟨A5,c5,B5,d5,rfl,r5,s5,b5,bz5⟩
    have HB5:=Lib.hid bz5
    have R5:=Lib.hid (And.intro r5 s5)
    try (have RZ:=Lib.hid (And.intro R5.out.1 (And.intro R5.out.2 (ownsRow_of_block R6.out fun b e=>b5.block b (R6.out.lt b e).2))))
    clear a0 a1 b0 b1 b2 p0 p1 p2 p3
    obtain ⟨a0,a1,b0,b1,b2,p0,p1,p2,p3⟩:=HY.out w5 HB5.out)
  |(go_at_call 8
    refine (HCp.out _ (by first|exact HB5.out|exact bel_dr HB5.out|exact bel_dr HB3.out)).mono ?_
    rintro e w6 ⟨A6,c6,rfl,r6,b6,bz6⟩
    have HB6:=Lib.hid bz6
    have R6:=Lib.hid (r6)
    try (have RZ:=Lib.hid (And.intro (ownsRow_of_block R5.out.1 fun b e=>b6.block b (R5.out.1.lt b e).2) (And.intro (ownsRow_of_block R5.out.2 fun b e=>b6.block b (R5.out.2.lt b e).2) R6.out)))
    clear a0 a1 b0 b1 b2 p0 p1 p2 p3
    obtain ⟨a0,a1,b0,b1,b2,p0,p1,p2,p3⟩:=HY.out w6 HB6.out))
 all_goals
  have HNE:Hid _:=Lib.hid (NE.of (entry:=entry) (cells:=cells) HBA.out (by first|exact HB6.out|exact HB5.out) H1.out RZ.out.1 RZ.out.2.1 RZ.out.2.2)
  go_upto_region 12 with fail
  have hwk:=HF.out.workers
  have hwd:=HF.out.wide
  have hrm:=HE.out.2.1
  exact rdnew_t1f HNE.out (S:= [(w.heap.size+2, .cells #[.slice Ap F.code.length cp, .int .i64 entry, .int .i64 F.wide, .int .i64 F.narrow] 26 (0,0)),(w.heap.size+1, .cells #[.slice (some ⟨gl,0,none⟩) F.lib.length cl, .int .i64 F.loop, .slice Ac F.calls.length cc] 77 (0,0)),(w.heap.size, .cells #[.int .i64 (F.workers:Int), .int .i64 (cells:Int)] 23 (0,0))]) ⟨List.mem_cons_of_mem _ (List.mem_cons_of_mem _ List.mem_cons_self),⟨_,_,List.mem_cons_of_mem _ List.mem_cons_self⟩,⟨_,List.mem_cons_self⟩⟩ hwk hwd (by unfold loN;unfold Fixed.base at hrm;unfold baseN;omega) HE.out.2.2 _ (by assumption)):P:=h
theorem a97.q12 {P:Prop} (h:P:=by
 have hcI:(1:Int)≤(cells:Int)∧(cells:Int)≤65536:=by omega
 exact m4):P:=h
open a97 in
set_option maxRecDepth 100000 in
theorem rdnew_room {w:World} (F:Fixed) (hF:FixOk F) {cells:Nat} {entry:Int} {Al Ac Ap:Option Addr} {cl cc cp:Nat}
  (hlv:w.ownsRow 0 68 7 (.slice Al F.lib.length cl) F.lib.length (codeC F.lib)) (hcv:w.ownsRow 0 184 6 (.slice Ac F.calls.length cc) F.calls.length (callC F.calls))
  (hcli: ∀W,Below w.heap.size w W→Calls Tryz.prog 87 #[.agg #[.slice Ap F.code.length cp, .int .i64 entry, .int .i64 F.wide, .int .i64 F.narrow]] W fun e w'=>e= .returned (.pointer none)∧Below W.heap.size W w')
  (hcpy: ∀W,Below w.heap.size w W→Calls Tryz.prog 8 #[.agg #[.slice Ap F.code.length cp, .int .i64 entry, .int .i64 F.wide, .int .i64 F.narrow]] W fun e w'=> ∃A' c',e= .returned (.agg #[.slice A' F.code.length c', .int .i64 entry, .int .i64 F.wide, .int .i64 F.narrow])∧w'.ownsRow W.heap.size 68 7 (.slice A' F.code.length c') F.code.length (codeC F.code)∧Below W.heap.size W w')
  (he:0≤entry∧entry<F.code.length) (hroom: ¬F.base+F.wide+F.narrow+1≤cells) (hcells:1≤cells∧cells≤65536):
  Calls Tryz.prog 31 #[.agg #[.int .i64 (F.workers:Int), .int .i64 (cells:Int)], .agg #[.slice Al F.lib.length cl, .int .i64 F.loop, .slice Ac F.calls.length cc], .agg #[.slice Ap F.code.length cp, .int .i64 entry, .int .i64 F.wide, .int .i64 F.narrow]] w (RNewFail w ([(kernS,0)],3)):=by
 exact m12
end Go.Proofs.YtaangaogmnlljaaGreatDoor.Kn
namespace Go.Proofs.YtaangaogmnlljaaGreatDoor.Kn
open Go.RowKit Go.Maps Asm Errs
structure Src (w:World) (A:Option Addr) (n:Nat) (l:List InsL):Prop where
 len:n=l.length
 size:n*56≤140737488355328
 at':n=0∨ ∃b o,A=some ⟨b,o,none⟩∧b<w.heap.size∧ ∀(k:Nat) (h:k<l.length) (j:Nat) (u:Value),(insV l[k])[j]?=some u→w.cell? ⟨b,o+(k*7+j),none⟩=some u
theorem Src.below {w w':World} {A:Option Addr} {n:Nat} {l:List InsL} (h:Src w A n l) (hb:Below w.heap.size w w'):Src w' A n l:=
 ⟨h.len,h.size,h.at'.imp id fun ⟨b,o,e,hl,hc⟩=>⟨b,o,e,Nat.lt_of_lt_of_le hl hb.size,fun k hk j u hu=>(hb.cell (p:=⟨b,o+(k*7+j),none⟩) hl).trans (hc k hk j u hu)⟩⟩
theorem a98.q113 {P:Prop} (h:P:=by
 exact ⟨v',rfl,HO.out.1,HO.out.2⟩):P:=h
open a98 in
set_option maxRecDepth 100000 in
theorem rcopycodeO {w:World} {A:Option Addr} {n c:Nat} {l:List InsL} (h:Src w A n l) (hA:A=none→c=0):
  Calls Tryz.prog 30 #[.slice A n c] w fun e w'=> ∃v',e= .returned v'∧w'.ownsRow w.heap.size 68 7 v' n (codeC l)∧Below w.heap.size w w':=by
 obtain ⟨hn,hsz,hat⟩:=h
 obtain ⟨i,h3,h4⟩: ∃i,Tryz.prog.info? 68=some i∧(i.zero.map (·.cells.size),i.size,i.bytes)=(some 7,7,56):=by
  have hi:(Tryz.prog.info? 68).map (fun i=>(i.zero.map (·.cells.size),i.size,i.bytes))=some (some 7,7,56):=by kernel_rfl
  cases hh:Tryz.prog.info? 68 with
  |none=>rw[hh] at hi;cases hi
  |some i=>rw[hh] at hi;injection hi with hi;exact ⟨i,rfl,hi⟩
 have k2:i.size=7:=congrArg (fun q=>q.2.1) h4
 have k3:i.bytes=56:=congrArg (fun q=>q.2.2) h4
 have k1:i.zero.map (·.cells.size)=some 7:=congrArg (fun q=>q.1) h4
 obtain ⟨z,hz,hzz⟩:=Option.map_eq_some_iff.1 k1
 have hR: ∃v' w',(Builtin.append_ #[24,24] 24 #[.slice none 0 0, .slice A n c]).run Tryz.prog w= .ok v' w'∧w'.ownsRow w.heap.size 68 7 v' n (codeC l)∧Below w.heap.size w w':=by
  cases A with
  |none=>
   obtain rfl:=hA rfl
   have h0:n=0:=hat.elim id fun ⟨b,o,e,_⟩=>by cases e
   subst h0
   have:l= []:=List.length_eq_zero_iff.1 hn.symm
   subst this
   exact ⟨_,w,run_append_owned_none (P:=Tryz.prog) (w:=w) w.heap.size 24 24 68 i 7 Tryz.underlying24 h3 (.slice none 0 0) 0 [] (row_at0 _ _ _ _),row_at0 _ _ _ _,Below.refl _ _⟩
  |some a=>
   have hcl:(codeC l).length=n*7:=by rw[hn];exact flL_len (k:=7) (f:=insC) (fun _=>rfl) l
   have hcell: ∀j u,(codeC l)[j]?=some u→w.cell? (a.add j)=some u:=fun j u hu=>by
    have hj:j<n*7:=by
     rcases Nat.lt_or_ge j (codeC l).length with h|h
     ·omega
     ·rw[List.getElem?_eq_none h] at hu;cases hu
    rcases hat with h0|⟨b,o,e,-,hc⟩
    ·omega
    ·injection e with e
     subst e
     have hq:=hc (j/7) (by rw[←hn];omega) (j%7) u (by
      have e:=flL_at (k:=7) (f:=insC) (fun _=>rfl) l (j/7) (by rw[←hn];omega) (j%7) (by omega)
      rw[show j/7*7+j%7=j by omega] at e
      have e2:(codeC l)[j]?=(insC l[j/7])[j%7]?:=e
      rw[e2] at hu
      rw[←hu]
      simp[insC,insV])
     rw[show j/7*7+j%7=j by omega] at hq
     rw[Addr.add_lit]
     exact hq
   obtain ⟨v',w',q1,q2,q3,-,q4⟩:=run_append_own_at (P:=Tryz.prog) w w.heap.size 24 24 68 i z 7 56 Tryz.underlying24 h3 hz k2 k3 hzz (by decide) (.slice none 0 0) 0 [] (row_at0 _ _ _ _) a n c (codeC l) hcl hcell (codeC_one0 l) (by unfold maxLen;omega) (by omega) (Nat.le_refl _)
   rw[Nat.zero_add,List.nil_append] at q2
   exact ⟨v',w',q1,q2,(Below.refl _ w).grown q3 (Nat.le_refl _) fun k e=>by cases e⟩
 obtain ⟨v',w',hrun,hown,hbe⟩:=hR
 have HR:=Lib.hid hrun
 have HO:=Lib.hid (And.intro hown hbe)
 clear hrun hown hbe hn hsz hat h3 h4 k1 k2 k3 hz hzz hA
 exact m113
set_option maxRecDepth 100000 in
theorem rcopyprogO {w:World} {A:Option Addr} {n c:Nat} {l:List InsL} {entry wide narrow:Int} (h:Src w A n l) (hA:A=none→c=0):
  Calls Tryz.prog 8 #[.agg #[.slice A n c, .int .i64 entry, .int .i64 wide, .int .i64 narrow]] w fun e w'=> ∃A' c',e= .returned (.agg #[.slice A' n c', .int .i64 entry, .int .i64 wide, .int .i64 narrow])∧w'.ownsRow w.heap.size 68 7 (.slice A' n c') n (codeC l)∧Below w.heap.size w w':=by
 obtain ⟨l0,l1,hb0⟩:=laid2 w (.cells #[.slice A n c, .int .i64 entry, .int .i64 wide, .int .i64 narrow] 26) (.cells #[.slice none 0 0, .int .i64 0, .int .i64 0, .int .i64 0] 26)
 have HC:=Lib.hid (rcopycodeO (c:=c) (w:=(w.alloc (.cells #[.slice A n c, .int .i64 entry, .int .i64 wide, .int .i64 narrow] 26)).alloc (.cells #[.slice none 0 0, .int .i64 0, .int .i64 0, .int .i64 0] 26)) (h.below hb0) hA)
 have L0:=Lib.hid l0
 have L1:=Lib.hid l1
 have HB0:=Lib.hid hb0
 have hsz:((w.alloc (.cells #[.slice A n c, .int .i64 entry, .int .i64 wide, .int .i64 narrow] 26)).alloc (.cells #[.slice none 0 0, .int .i64 0, .int .i64 0, .int .i64 0] 26)).heap.size=w.heap.size+2:=by simp
 have HSz:=Lib.hid hsz
 clear h l0 l1 hb0 hsz hA
 go_enter Tryz.func8,Tryz.ntmps8
 go_wp2_with fail
 refine HC.out.mono ?_
 rintro e w2 ⟨v',rfl,hown,hb⟩
 obtain ⟨A',c',rfl⟩:=Asm.own_shape hown
 have z0:=(hb.block _ (blk_in L0.out)).trans L0.out
 have z1:=(hb.block _ (blk_in L1.out)).trans L1.out
 have a0:w2.cell? ⟨w.heap.size,0,none⟩=some (.slice A n c):=blk_cell z0 0
 have a1:w2.cell? ⟨w.heap.size,1,none⟩=some (.int .i64 entry):=blk_cell z0 1
 have a2:w2.cell? ⟨w.heap.size,2,none⟩=some (.int .i64 wide):=blk_cell z0 2
 have a3:w2.cell? ⟨w.heap.size,3,none⟩=some (.int .i64 narrow):=blk_cell z0 3
 have b0:w2.cell? ⟨w.heap.size+1,0,none⟩=some (.slice none 0 0):=blk_cell z1 0
 have b1:w2.cell? ⟨w.heap.size+1,1,none⟩=some (.int .i64 0):=blk_cell z1 1
 have b2:w2.cell? ⟨w.heap.size+1,2,none⟩=some (.int .i64 0):=blk_cell z1 2
 have b3:w2.cell? ⟨w.heap.size+1,3,none⟩=some (.int .i64 0):=blk_cell z1 3
 have f0:=blk_frozen z0 0
 have g0:=blk_frozen z1 0
 have g1:=blk_frozen z1 1
 have g2:=blk_frozen z1 2
 have g3:=blk_frozen z1 3
 have HO:=Lib.hid hown
 have HB:=Lib.hid (HB0.out.trans (hb.mono (by have:=HSz.out;omega)))
 clear hown hb z0 z1
 go_wp2_with fail
 refine bodyPost_ret (v:= .agg #[.slice A' n c', .int .i64 entry, .int .i64 wide, .int .i64 narrow]) (by simp[results,Tryz.results8,go_sem,b0,b1,b2,b3]) rfl ⟨A',c',rfl,?_,?_⟩
 ·refine Asm.row_base (ownsRow_of_block HO.out fun k e=>?_) (show w.heap.size≤_ by have:=HSz.out;omega)
  have hk:=(HO.out.lt k e).1
  have hs:=HSz.out
  iterate 4 rw[set_other (by show k≠w.heap.size+1;omega)]
  exact set_other (by show k≠w.heap.size;omega)
 ·iterate 4 refine Below.setCell ?_ (by show w.heap.size≤w.heap.size+1;omega) _
  exact HB.out.setCell (p:=⟨w.heap.size,0,none⟩) (Nat.le_refl _) _
def CodeO (w:World) (g o:Nat) (l:List InsL):Prop:= ∀(k:Nat) (h:k<l.length) (j:Nat) (u:Value),(insV l[k])[j]?=some u→w.cell? ⟨g,o+(k*7+j),none⟩=some u
theorem CodeO.below {w w':World} {g o:Nat} {l:List InsL} (h:CodeO w g o l) (hg:g<w.heap.size) (hb:Below w.heap.size w w'):CodeO w' g o l:=fun k hk j u hu=>(hb.cell (p:=⟨g,o+(k*7+j),none⟩) hg).trans (h k hk j u hu)
theorem CodeO.cells {w:World} {g o:Nat} {l:List InsL} (h:CodeO w g o l) {k:Nat} (hk:k<l.length) {xo xa xb xc xv xm xw:Int} (e:l[k]=⟨xo,xa,xb,xc,xv,xm,xw⟩):w.cell? ⟨g,o+k*7,none⟩=some (.int .i64 xo)∧w.cell? ⟨g,o+k*7+1,none⟩=some (.int .i64 xa)∧w.cell? ⟨g,o+k*7+2,none⟩=some (.int .i64 xb)∧w.cell? ⟨g,o+k*7+3,none⟩=some (.int .i64 xc)∧w.cell? ⟨g,o+k*7+4,none⟩=some (.int .u64 xv)∧w.cell? ⟨g,o+k*7+5,none⟩=some (.int .i64 xm)∧w.cell? ⟨g,o+k*7+6,none⟩=some (.int .i64 xw):=by
 have q: ∀j u,(insV l[k])[j]?=some u→w.cell? ⟨g,o+k*7+j,none⟩=some u:=fun j u hu=>by have:=h k hk j u hu;rwa[←Nat.add_assoc] at this
 rw[e] at q
 exact ⟨q 0 _ rfl,q 1 _ rfl,q 2 _ rfl,q 3 _ rfl,q 4 _ rfl,q 5 _ rfl,q 6 _ rfl⟩
set_option maxRecDepth 100000 in
theorem rdcheckO {w:World} {g o n c:Nat} {l:List InsL} {lib:Bool} (h:CodeO w g o l) (hg:g<w.heap.size) (hn:n=l.length) (hnb:n≤9223372036854775807)
  (hR:l.length≤2048→ ∀k (hk:k<l.length) (W:World),Calls Tryz.prog 281 #[.agg (insV l[k]), .int .i64 n, .bool lib] W fun e w'=>e= .returned (.bool (mayK l[k] l.length lib))∧Below W.heap.size W w'):
  Calls Tryz.prog 228 #[.slice (some ⟨g,o,none⟩) n c, .bool lib] w (FailOr w (checkG lib l)):=by
 exact m7
set_option maxRecDepth 100000 in
theorem rdclientO {w:World} {g o n c:Nat} {l:List InsL} {entry wide narrow:Int} (h:CodeO w g o l) (hg:g<w.heap.size) (hn:n=l.length) (hnb:n≤9223372036854775807):
  Calls Tryz.prog 87 #[.agg #[.slice (some ⟨g,o,none⟩) n c, .int .i64 entry, .int .i64 wide, .int .i64 narrow]] w (FailOr w (clientE l entry wide narrow)):=by
 by_cases hbad:wide<0∨narrow<0∨256<wide∨256 - wide<narrow∨l.length=0
 ·exact rdclient_bad hn hbad
 have B1:Below w.heap.size w (w.alloc (.cells #[.slice (some ⟨g,o,none⟩) n c, .int .i64 entry, .int .i64 wide, .int .i64 narrow] 26)):=(Below.refl _ _).alloc (Nat.le_refl _) _
 have HC:=Lib.hid (rdagain_any (rdcheckO (c:=c) (lib:=false) (h.below hg B1) (Nat.lt_of_lt_of_le hg B1.size) hn hnb fun hl k hk W=>rright_client _ ⟨by omega,by omega⟩ W|>.mono fun e w' q=>by rw[hn] at q;exact q))
 rw[againG_false] at HC
 have hz:=heap_alloc_new w (.cells #[.slice (some ⟨g,o,none⟩) n c, .int .i64 entry, .int .i64 wide, .int .i64 narrow] 26)
 have HZ:=Lib.hid hz
 have HB1:=Lib.hid B1
 have hm:clientE l entry wide narrow=match againK l with|some x=>some x|none=>placeK entry l.length:=by unfold clientE;rw[if_neg hbad];rfl
 have hsub:IntKind.i64.wrap (256 - wide)=256 - wide:=by rw[IntKind.wrap_i64];omega
 have g1: ¬wide<0:=by omega
 have g2: ¬narrow<0:=by omega
 have g3: ¬256<wide:=by omega
 have g4: ¬256 - wide<narrow:=by omega
 have g5: ¬(n:Int)=0:=by omega
 have f1:decide (wide<0)=false:=decide_eq_false g1
 have f2:decide (narrow<0)=false:=decide_eq_false g2
 have f3:decide (wide>256)=false:=decide_eq_false g3
 have f4:decide (narrow>256 - wide)=false:=decide_eq_false g4
 have f5:((n:Int)==0)=false:=beq_eq_false_iff_ne.2 g5
 have HN:=Lib.hid (fun k W=>no_any codeS k 5 W)
 unfold codeS at HN
 cases hk:againK l with
 |some x=>
  rw[hk] at HC hm
  rw[hm]
  clear hbad h hn hnb B1 hz hk hm
  go_enter Tryz.func87,Tryz.ntmps87
  go_wp2_with fail
  refine HC.out.mono ?_
  rintro e w1 ⟨v,rfl,hv,hb⟩
  have HV:=Lib.hid hv
  have HB:=Lib.hid (HB1.out.trans (hb.mono (by simp)))
  obtain ⟨fb,_,_,_,_,rfl,-⟩:=hv
  clear hb
  go_wp2_with fail
  go_ret
  exact ⟨_,rfl,HV.out,HB.out⟩
 |none=>
  rw[hk] at HC hm
  have hmn:clientE l entry wide narrow=placeK entry n:=by rw[hm,hn]
  rw[hmn]
  unfold placeK
  have hcase:entry<0∨(¬entry<0∧(n:Int)≤entry)∨(¬entry<0∧ ¬(n:Int)≤entry):=by omega
  clear hbad h hn hnb B1 hz hk hm hmn
  rcases hcase with e1|⟨e1,e2⟩ |⟨e1,e2⟩
  case' inl=>rw[if_pos (Or.inl e1)];have hx:max entry 0=0:=by omega
  case' inr.inl=>rw[if_pos (Or.inr e2)];have hx:max entry 0=entry:=by omega
  case' inr.inr=>rw[if_neg (by omega)]
  all_goals
   go_enter Tryz.func87,Tryz.ntmps87
   go_wp2_with fail
   refine HC.out.mono ?_
   rintro e w1 ⟨rfl,hb⟩
   have bz:=(hb.block w.heap.size (by simp)).trans HZ.out
   have z0:=blk_cell bz 0
   have z1:=blk_cell bz 1
   have HB:=Lib.hid (HB1.out.trans (hb.mono (by simp)))
   clear hb bz
   go_wp2_with fail
  all_goals first
   |(refine (HN.out _ _).mono ?_
     rintro e w2 ⟨v,rfl,hv,hb2⟩
     have HV:=Lib.hid hv
     have HB2:=Lib.hid (HB.out.trans (hb2.mono HB.out.size))
     clear hv hb2
     go_wp2_with fail
     go_ret
     rw[hx]
     exact ⟨v,rfl,HV.out,HB2.out⟩)
   |(go_ret
     exact ⟨rfl,HB.out⟩)
theorem rdclientS {w:World} {A:Option Addr} {n c:Nat} {l:List InsL} {entry wide narrow:Int} (h:Src w A n l):
  Calls Tryz.prog 87 #[.agg #[.slice A n c, .int .i64 entry, .int .i64 wide, .int .i64 narrow]] w (FailOr w (clientE l entry wide narrow)):=by
 have hn:=h.len
 rcases h.at' with h0|⟨b,o,rfl,hb,hc⟩
 ·exact rdclient_bad hn (Or.inr (Or.inr (Or.inr (Or.inr (by omega)))))
 ·have hsz:=h.size
  exact rdclientO (g:=b) (o:=o) hc hb hn (by omega)
end Go.Proofs.YtaangaogmnlljaaGreatDoor.Kn
namespace Go.Proofs.YtaangaogmnlljaaGreatDoor.Kn
open Go.RowKit Asm PosTab
theorem good_of {code:List InsL} {labels:List (Str×Nat)} (hp:parseL (linesL textL)=some (code,labels)):goodLib (code,labels)=true:=by
 have:=lib_good
 rw[hp] at this
 exact this
structure LibGood (code:List InsL) (labels:List (Str×Nat)):Prop where
 len:0<code.length∧code.length≤2048
 few:labels.length≤3000
 loop:loopOf labels<code.length
 may: ∀x∈code,mayK x code.length true=true
 v: ∀x∈code,U64 x.v
 pos: ∀r∈tab,atOf labels r<code.length
theorem LibGood.of {code:List InsL} {labels:List (Str×Nat)} (hp:parseL (linesL textL)=some (code,labels)):LibGood code labels:=by
 have h:=good_of hp
 unfold goodLib at h
 simp only[Bool.and_eq_true,decide_eq_true_eq,List.all_eq_true] at h
 obtain ⟨⟨⟨⟨⟨h1,h2⟩,h3⟩,h4⟩,h5⟩,h6⟩:=h
 exact ⟨⟨h1,h2⟩,h3,h4,fun x hx=>(h5 x hx).1.1,fun x hx=>⟨(h5 x hx).1.2,(h5 x hx).2⟩,h6⟩
theorem calls_rows (labels:List (Str×Nat)):callC (libCalls labels)=rowsC labels tab:=by
 unfold callC libCalls rowsC
 rw[List.flatMap_map]
 rfl
theorem calls_len (labels:List (Str×Nat)):(libCalls labels).length=45:=by
 unfold libCalls
 rw[List.length_map]
 exact tab_len
theorem tab_nums:(tab.map (·.num)).Nodup:=by decide+kernel
theorem tab_range:(tab.all fun r=>decide (1≤r.num∧r.num≤999∧(0≤r.k0∧r.k0≤7)∧(0≤r.k1∧r.k1≤7)∧(0≤r.k2∧r.k2≤7)∧(0≤r.k3∧r.k3≤7)))=true:=by decide+kernel
theorem fix_ok {code:List InsL} {labels:List (Str×Nat)} (h:LibGood code labels) {prog:List InsL} (hp0:0<prog.length) (hp1:prog.length≤2048) (hpm: ∀x∈prog,mayK x prog.length false=true∧U64 x.v) {wide narrow:Int} (hw:0≤wide∧0≤narrow∧wide+narrow≤256) {k:Nat} (hk:1≤k∧k≤64):
  FixOk { lib:=code,loop:=loopOf labels,calls:=libCalls labels,code:=prog,wide:=wide,narrow:=narrow,workers:=k}:=by
 refine ⟨h.len,⟨by show (0:Int)≤(loopOf labels:Int);omega,by have:=h.loop;show (loopOf labels:Int)<(code.length:Int);omega⟩,h.may,⟨hp0,hp1⟩,fun x hx=>(hpm x hx).1,h.v,fun x hx=>(hpm x hx).2,hw,hk,?_,?_,?_⟩
 ·show (libCalls labels).length≤999
  rw[calls_len];decide
 ·show ((libCalls labels).map (·.num)).Nodup
  have e:(libCalls labels).map (·.num)=tab.map (·.num):=by
   unfold libCalls
   rw[List.map_map]
   rfl
  rw[e];exact tab_nums
 ·intro r hr
  obtain ⟨t,ht,rfl⟩:=List.mem_map.1 hr
  have h1:=of_decide_eq_true (List.all_eq_true.1 tab_range t ht)
  have h2:=h.pos t ht
  exact ⟨h1.1,h1.2.1,by show (0:Int)≤(atOf labels t:Int);omega,by show (atOf labels t:Int)<(code.length:Int);omega,h1.2.2.1,h1.2.2.2.1,h1.2.2.2.2.1,h1.2.2.2.2.2⟩
end Go.Proofs.YtaangaogmnlljaaGreatDoor.Kn
namespace Go.Proofs.YtaangaogmnlljaaGreatDoor.Kn
open Go.RowKit Go.Maps Asm
section
variable {F:Fixed} {w:World} {own:Own} {G:KG} {M:Mach} {n:Nat}
theorem peek_kept (h:KernP F w own G M n) (a:Int) (ha:U64 a):Calls Tryz.prog 121 #[.pointer (some ⟨G.K,0,none⟩), .int .u64 a] w fun r w'=>r= .returned (.int .u64 (peekM M.mem a))∧(∃own',KernP F w' own' G M n)∧Keeps (fun b=>b=G.X) w w':=by
 have c0:=h.mcell
 obtain ⟨gc,gw,hm,hMo⟩:=h.mem
 have HL:=Lib.hid (mload_any hm a ha)
 have H:=Lib.hid h
 have HMo:=Lib.hid hMo
 have HM:=Lib.hid hm
 have e1:peekM M.mem a=match M.mem.acc 0 a 0 0 with|some p=>p.1|none=>0:=by
  unfold peekM Mem.acc
  split<;>rfl
 have e2: ∀p,M.mem.acc 0 a 0 0=some p→p.2=M.mem:=fun p hp=>by
  unfold Mem.acc at hp
  split at hp
  ·cases hp
  ·injection hp with hp;rw[←hp];rfl
 rw[e1]
 have HE:=Lib.hid e2
 clear h hm hMo e1 e2
 generalize M.mem.acc 0 a 0 0=r at HL HE ⊢
 cases r with
 |none=>
  go_enter Tryz.func121,Tryz.ntmps121
  go_wp2_with fail
  refine HL.out.mono ?_
  rintro e w1 ⟨⟨ev,rfl,hev⟩,hb⟩
  have HB:=Lib.hid hb
  clear hb
  go_wp2_with fail
  go_ret
  obtain ⟨o,hk,-⟩:=KO.below H.out HB.out
  exact ⟨rfl,⟨o,hk⟩,Keeps.ofBelow HB.out⟩
 |some p=>
  obtain ⟨was,m'⟩:=p
  go_enter Tryz.func121,Tryz.ntmps121
  go_wp2_with fail
  refine HL.out.mono ?_
  rintro e w1 ⟨rfl,hm1,hk1⟩
  have hme:=HE.out _ rfl
  simp only at hme
  subst hme
  have HK:=Lib.hid (H.out.memmed HMo.out hk1 hm1)
  have HKp:Hid (Keeps (fun b=>b=G.X) w w1):=Lib.hid ⟨hk1.os,hk1.tape,hk1.output,hk1.size,fun b hb hn=>by
   by_cases e:b=gc
   ·subst e;exact hm1.hs.trans HM.out.hs.symm
   ·exact hk1.block b hb (fun q=>by rcases q with q|q;exact hn q;exact e q)⟩
  clear hm1 hk1
  go_wp2_with fail
  go_ret
  obtain ⟨o,hk,-⟩:=HK.out
  exact ⟨rfl,⟨o,hk⟩,HKp.out⟩
theorem kdeque_out (h:KernP F w own G M n) (i:Int) (hi:i<0∨(0≤i∧(F.workers:Int)≤i)):Calls Tryz.prog 57 #[.pointer (some ⟨G.K,0,none⟩), .int .i64 i] w fun e w'=>e= .returned (.tuple #[.int .u64 0, .int .u64 0, .slice none 0 0])∧w=w':=by
 obtain ⟨k,_⟩:=h.vcells
 clear h
 rcases hi with hi|⟨h1,h2⟩
 all_goals
  go_enter Tryz.func57,Tryz.ntmps57
  go_wp2_with fail
  refine bodyPost_ret (v:= .tuple #[.int .u64 0, .int .u64 0, .slice none 0 0]) (by simp[results,Tryz.results57,go_sem]) rfl ⟨rfl,rfl⟩
theorem keeps_x {A B C:World} {X:Nat} (h:Keeps (fun b=>b=X) A B) (k:Keeps (fun b=>b=X) B C):Keeps (fun b=>b=X) A C:=h.trans k fun _ e=>Or.inl e
set_option maxRecDepth 100000 in
theorem kdeque_in (h:KernP F w own G M n) {i:Nat} (hi:i<F.workers) {d3:Nat} (hd3:d3≤100000) (v0:peekM M.mem (17+3* (i:Int))=1) (v1:peekM M.mem (17+3* (i:Int)+1)=1) (v2:peekM M.mem (17+3* (i:Int)+2)=d3) (v3:peekM M.mem d3=4):
  Calls Tryz.prog 57 #[.pointer (some ⟨G.K,0,none⟩), .int .i64 (i:Int)] w fun e w'=>e= .returned (.tuple #[.int .u64 1, .int .u64 1, .slice none 0 0])∧(∃own',KernP F w' own' G M n)∧Keeps (fun b=>b=G.X) w w':=by
 have hw:=h.fok.workers
 obtain ⟨k,_⟩:=h.vcells
 have hiI:(0:Int)≤(i:Int)∧(i:Int)<(F.workers:Int)∧(F.workers:Int)≤64:=by omega
 have m1:IntKind.u64.wrap (17+3* (i:Int)+1)=17+3* (i:Int)+1:=by rw[IntKind.wrap_u64];omega
 have m2:IntKind.u64.wrap (17+3* (i:Int)+2)=17+3* (i:Int)+2:=by rw[IntKind.wrap_u64];omega
 have HD:=Lib.hid (fun W=>deck_any (i:Int) W (by omega) (.pointer (some ⟨G.K,0,none⟩)))
 have ha0:U64 (17+3* (i:Int)):=by unfold U64;omega
 have ha1:U64 (17+3* (i:Int)+1):=by unfold U64;omega
 have ha2:U64 (17+3* (i:Int)+2):=by unfold U64;omega
 have ha3:U64 (d3:Int):=by unfold U64;omega
 have HP0:Hid (∀W o,KernP F W o G M n→Calls Tryz.prog 121 #[.pointer (some ⟨G.K,0,none⟩), .int .u64 (17+3* (i:Int))] W fun r w'=>r= .returned (.int .u64 1)∧(∃own',KernP F w' own' G M n)∧Keeps (fun b=>b=G.X) W w'):=Lib.hid fun W o h=>by have q:=peek_kept h _ (ha0);rw[v0] at q;exact q
 have HP1:Hid (∀W o,KernP F W o G M n→Calls Tryz.prog 121 #[.pointer (some ⟨G.K,0,none⟩), .int .u64 (17+3* (i:Int)+1)] W fun r w'=>r= .returned (.int .u64 1)∧(∃own',KernP F w' own' G M n)∧Keeps (fun b=>b=G.X) W w'):=Lib.hid fun W o h=>by have q:=peek_kept h _ (ha1);rw[v1] at q;exact q
 have HP2:Hid (∀W o,KernP F W o G M n→Calls Tryz.prog 121 #[.pointer (some ⟨G.K,0,none⟩), .int .u64 (17+3* (i:Int)+2)] W fun r w'=>r= .returned (.int .u64 d3)∧(∃own',KernP F w' own' G M n)∧Keeps (fun b=>b=G.X) W w'):=Lib.hid fun W o h=>by have q:=peek_kept h _ (ha2);rw[v2] at q;exact q
 have HP3:Hid (∀W o,KernP F W o G M n→Calls Tryz.prog 121 #[.pointer (some ⟨G.K,0,none⟩), .int .u64 (d3:Int)] W fun r w'=>r= .returned (.int .u64 4)∧(∃own',KernP F w' own' G M n)∧Keeps (fun b=>b=G.X) W w'):=Lib.hid fun W o h=>by have q:=peek_kept h _ (ha3);rw[v3] at q;exact q
 have H:=Lib.hid h
 clear h hw v0 v1 v2 v3 hd3 hi ha0 ha1 ha2 ha3
 go_enter Tryz.func57,Tryz.ntmps57
 go_wp2_with fail
 refine (HD.out _).mono ?_
 rintro e w1 ⟨rfl,rfl⟩
 clear k
 go_wp2_with fail
 refine (HP0.out _ _ H.out).mono ?_
 rintro e w1 ⟨rfl,⟨o1,h1⟩,k1⟩
 have H1:=Lib.hid (And.intro h1 k1)
 clear h1 k1
 go_wp2_with fail
 refine (HP1.out _ _ H1.out.1).mono ?_
 rintro e w2 ⟨rfl,⟨o2,h2⟩,k2⟩
 have H2:=Lib.hid (And.intro h2 (keeps_x H1.out.2 k2))
 clear h2 k2 H1
 go_wp2_with fail
 refine (HP2.out _ _ H2.out.1).mono ?_
 rintro e w3 ⟨rfl,⟨o3,h3⟩,k3⟩
 have H3:=Lib.hid (And.intro h3 (keeps_x H2.out.2 k3))
 clear h3 k3 H2
 go_wp2_with fail
 refine (HP3.out _ _ H3.out.1).mono ?_
 rintro e w4 ⟨rfl,⟨o4,h4⟩,k4⟩
 have H4:=Lib.hid (And.intro h4 (keeps_x H3.out.2 k4))
 clear h4 k4 H3
 go_wp2_with fail
 refine wp_loop_rounds 1 ?_
 rw[rounds_succ]
 go_wp2_with fail
 exact bodyPost_ret (v:= .tuple #[.int .u64 1, .int .u64 1, .slice none 0 0]) (by simp[results,Tryz.results57,go_sem]) rfl ⟨rfl,⟨o4,H4.out.1⟩,H4.out.2⟩
theorem bucket0 {Q gl mb N:Nat} {B:Int→Nat} (h:WqP w Q gl mb B [] N) {b:Nat} (hb:b<8):Calls Tryz.prog 112 #[.pointer (some ⟨Q,0,none⟩), .int .i64 (b:Int)] w fun e w'=>e= .returned (.slice none 0 0)∧w=w':=by
 have c0:w.cell? ⟨Q,0,none⟩=some (.slice (some ⟨gl,0,none⟩) 8 8):=blk_cell h.r.obj 0
 have c1:w.cell? ⟨gl,b*2,none⟩=some (.pointer none):=by
  refine (blk_cell h.r.row (b*2)).trans ?_
  rcases (by omega:b=0∨b=1∨b=2∨b=3∨b=4∨b=5∨b=6∨b=7) with e|e|e|e|e|e|e|e
  all_goals subst e;rfl
 have hbI:(0:Int)≤(b:Int)∧(b:Int)<8:=by omega
 clear h
 go_enter Tryz.func112,Tryz.ntmps112
 exact m46
theorem kwaiting0 (h:KernP F w own G M n) (hs:M.slps= []):Calls Tryz.prog 49 #[.pointer (some ⟨G.K,0,none⟩)] w fun e w'=>e= .returned (.slice none 0 0)∧w=w':=by
 have kq:w.cell? ⟨G.K,1011,none⟩=some (.pointer (some ⟨G.Q,0,none⟩)):=h.kcell fun _ _ hc=>hc.wq
 obtain ⟨gl,mb,B,N,hW,-,-⟩:=h.wq
 rw[hs] at hW
 have HB:=Lib.hid (fun (b:Nat) (hb:b<8)=>bucket0 hW hb)
 clear h hW
 go_enter Tryz.func49,Tryz.ntmps49
 go_wp2_with fail
 go_loopg [3,10] 8 (fun gg lv iv wr=> ∃i:Nat,i≤8∧gg=8 - i∧lv= .slice none 0 0∧iv= .int .i64 (i:Int)∧w=wr)
 case atStart=>exact ⟨0,by omega,rfl,rfl,rfl,rfl⟩
 case round=>
  obtain ⟨i,hi,hgg,rfl,rfl,rfl⟩:=hrel
  have hiI:(0:Int)≤(i:Int)∧(i:Int)≤8:=by omega
  by_cases hlt:i<8
  ·have hltI:(i:Int)<8:=by omega
   have Hg:=Lib.hid (And.intro hgg hlt)
   clear hgg hi
   go_wp2_with (first|(go_at_call 112;refine (HB.out i hlt).mono ?_;rintro e w1 ⟨rfl,rfl⟩))
   exact m93
  ·obtain rfl:i=8:=by omega
   go_wp2_with fail
   go_ret
   exact ⟨rfl,rfl⟩
set_option maxRecDepth 100000 in
theorem kframes0 (h:KernP F w own G M n) {f:Frame} {num wk:Int} (hr:runOf M.runs 64=some ⟨64,[⟨f,false,num⟩],wk⟩):
  Calls Tryz.prog 53 #[.pointer (some ⟨G.K,0,none⟩), .int .u64 64] w fun e w'=> ∃v,e= .returned v∧w'.ownsRow w.heap.size 3 1 v 1 [.int .i64 f.pc]∧Below w.heap.size w w':=by
 have kth:w.cell? ⟨G.K,1014,none⟩=some (.map (some G.th)):=h.kcell fun _ _ hc=>hc.th
 have hlk:(Instr.lookup 156 (.map (some G.th)) (.int .u64 64) false).run Tryz.prog w= .ok (.pointer (some ⟨G.tb 64,0,none⟩)) w:=by
  have:=h.look 64 (by unfold U64;decide)
  rw[hr] at this
  exact this
 obtain ⟨g,c,l,ct1,hll,cg,-,hgl,hlc⟩:=h.top_ptr hr (by simp)
 obtain rfl:l=0:=by simp at hll;omega
 obtain ⟨hm,-⟩:=runOf_mem hr
 have hP:=(h.runs.each _ hm).frs 0 _ rfl
 obtain ⟨bv,hfo,-⟩:=hP.obj
 obtain ⟨lv,hto,-⟩:=(h.runs.each _ hm).obj
 have htl:G.tb 64<w.heap.size:=blk_in hto
 have hfl:G.fb 64 0<w.heap.size:=blk_in hfo
 have f0:w.cell? ⟨G.fb 64 0,0,none⟩=some (.int .i64 f.pc):=blk_cell hfo 0
 have hlen:f.r.length=32:=hP.ok.len
 have f1:w.cell? ⟨G.fb 64 0,34,none⟩=some (.bool false):=by
  refine (blk_cell hfo 34).trans ?_
  rw[List.getElem?_toArray,List.getElem?_append_right (by simp[frC,hlen])]
  simp[frC,hlen]
 clear h hr hm hP hfo hto hll hlc hlen
 generalize G.tb 64=tb at*
 generalize G.fb 64 0=fb at*
 generalize f.pc=pc at*
 have hz1:=heap_alloc_new w (.cells #[.int .i64 pc] 3)
 have hb1:Below w.heap.size w (w.alloc (.cells #[.int .i64 pc] 3)):=(Below.refl _ _).alloc (Nat.le_refl _) _
 obtain ⟨v',w3,hrun,hown,hg,-⟩:=appT (w:=w.alloc (.cells #[.int .i64 pc] 3)) w.heap.size 89 89 3 1 8 Tryz.underlying89 (by kernel_rfl) (by decide) (by decide) (row_at0 _ w.heap.size _ _) (row_one' (base:=0) hz1 (Nat.zero_le _)) (fun u hu=>by simp at hu;subst hu;rfl) (by decide) (by simp)
 have hbe:Below w.heap.size w w3:=hb1.grown hg (by simp) fun k e=>by cases e
 obtain ⟨A3,c3,rfl⟩:=Asm.own_shape hown
 have HRun:=Lib.hid hrun
 have HN:=Lib.hid (And.intro hown hbe)
 clear hz1 hb1 hrun hown hg hbe
 go_enter Tryz.func53,Tryz.ntmps53
 go_wp2_with fail
 refine wp_loop_rounds 2 ?_
 rw[rounds_succ]
 go_wp2_with (at_builtin;refine Go.Lib.wpList_append_run _ rfl (.tmp 39) (.tmp 45) 89 89 rfl _ _ rfl rfl _ _ HRun.out ?_)
 rw[rounds_succ]
 go_wp2_with fail
 go_ret
 exact ⟨_,rfl,HN.out.1,HN.out.2⟩
set_option maxRecDepth 100000 in
theorem living0 (h:KernP F w own G M n) {t:Thr} (ha:allT M.tab= [t]) (ht:t.state≠4):
  Calls Tryz.prog 11 #[.pointer (some ⟨G.K,0,none⟩)] w fun e w'=>e= .returned (.int .i64 1)∧Below w.heap.size w w':=by
 have HT:=Lib.hid (kthreads_any h)
 rw[ha] at HT
 have hne:(t.state !=4)=true:=bne_iff_ne.2 ht
 have hKl:=h.klt
 clear h ha
 go_enter Tryz.func11,Tryz.ntmps11
 go_wp2_with fail
 refine HT.out.mono ?_
 rintro e w1 ⟨v,rfl,hr,hb⟩
 obtain ⟨g,c,rfl,hc,hg⟩: ∃g c,v= .slice (some ⟨g,0,none⟩) 1 c∧(∀i u,(thr7 t)[i]?=some u→w1.cell? ⟨g,i,none⟩=some u)∧g<w1.heap.size:=by
  rcases row_at hr with ⟨-,-,h3⟩ |⟨g,c,rfl,hc⟩
  ·simp[thrC,thr7] at h3
  ·refine ⟨g,c,rfl,fun i u hu=>?_,(hr.lt g rfl).2⟩
   have:=hc i u (by simpa[thrC] using hu)
   rwa[Addr.add_lit,Nat.zero_add] at this
 have x0:w1.cell? ⟨g,0,none⟩=some (.int .u64 t.id):=hc 0 _ rfl
 have x1:w1.cell? ⟨g,1,none⟩=some (.int .i64 t.state):=hc 1 _ rfl
 have x2:w1.cell? ⟨g,2,none⟩=some (.int .u64 t.home):=hc 2 _ rfl
 have x3:w1.cell? ⟨g,3,none⟩=some (.int .u64 t.value):=hc 3 _ rfl
 have x4:w1.cell? ⟨g,4,none⟩=some (.int .u64 t.joiner):=hc 4 _ rfl
 have x5:w1.cell? ⟨g,5,none⟩=some (.bool t.loose):=hc 5 _ rfl
 have x6:w1.cell? ⟨g,6,none⟩=some (.bool t.stepping):=hc 6 _ rfl
 have HB:=Lib.hid hb
 clear hc hr hb HT
 go_wp2_with fail
 refine wp_loop_rounds 2 ?_
 rw[rounds_succ]
 go_wp2_with fail
 rw[rounds_succ]
 go_wp2_with fail
 go_ret
 exact ⟨rfl,HB.out.trans ((Below.refl _ _).alloc HB.out.size _)⟩
theorem living_nil (w:World):Calls Tryz.prog 11 #[.pointer none] w fun e w'=>e= .returned (.int .i64 0)∧w=w':=by
 go_enter Tryz.func11,Tryz.ntmps11
 go_wp2_with fail
 go_ret
 exact ⟨rfl,rfl⟩
end
end Go.Proofs.YtaangaogmnlljaaGreatDoor.Kn
namespace Go.Proofs.YtaangaogmnlljaaGreatDoor.Kn
open Go.RowKit Go.Maps Asm
theorem cellsU64:Tryz.prog.cellsOf 53=1:=by kernel_rfl
theorem cellsIntE:Tryz.prog.cellsOf 3=1:=by kernel_rfl
theorem eqIntE (d:Nat) (a b:Int) (w:World):(Op.equalIn (d+1) 3 (.int .i64 a) (.int .i64 b)).run Tryz.prog w= .ok (a==b) w:=by
 simp[Op.equalIn,run_underlying Tryz.underlying3]
theorem eqU64E (d:Nat) (a b:Int) (w:World):(Op.equalIn (d+1) 53 (.int .u64 a) (.int .u64 b)).run Tryz.prog w= .ok (a==b) w:=by
 simp[Op.equalIn,run_underlying Tryz.underlying53]
end Go.Proofs.YtaangaogmnlljaaGreatDoor.Kn
