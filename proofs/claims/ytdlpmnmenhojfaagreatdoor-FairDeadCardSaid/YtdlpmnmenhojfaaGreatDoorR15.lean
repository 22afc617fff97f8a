/- Part 15 of what the proof stands on: FdLv, FdNw, KnSmall, KnVmB, KnVmJ, KnFr, KnWkr, KnLift, KnGive, KnEnd, KnView, KnTold, KnReg. -/
import Derived.Test.YtdlpmnmenhojfaaGreatDoorSortLays
import Derived.Test.YtdlpmnmenhojfaaGreatDoorR14
set_option linter.unusedVariables false
set_option maxHeartbeats 40000000
set_option maxRecDepth 100000
variable {zP:Prop}
namespace Go.Proofs.YtdlpmnmenhojfaaGreatDoor
open Go.IntKind renaming i64->Z,u64->J
open Go.Value renaming int->E,pointer->Y,slice->Sl
open Option renaming none->O,some->V
open Go.Obj renaming cells->Ce
open Go.Ending renaming returned->Rt
open Go.Proofs.Tryz renaming prog->Tp
namespace Kn
open Go.RowKit Go.Maps Asm Go.Shelf Go.Sort
theorem ztJ:(Tryz.prog.info? 23).map (·.desc)=V (.slice 22):=Y4
theorem zxX:(Tryz.prog.info? 22).isSome=true:=Y4
theorem zqD (W:World) (blk cap Bs:Nat):
  Calls Tp 50 #[.iface 23 (Sl (V ⟨blk,0,O⟩) 1 cap), .func (.func 51) #[] #[Y (V ⟨Bs,0,O⟩)]] W fun e w'=>e=Rt (.tuple #[])∧Below W.heap.size W w':=by
 obtain ⟨i,hi,hd⟩:=Option.map_eq_some_iff.1 ztJ;obtain ⟨ie,hie⟩:=Option.isSome_iff_exists.1 zxX;have hK:Lib.swapperK 1 ie 11=2:=by simp[Lib.swapperK]
 have hS:=Any.sort_Slice_tiny SortLays.gg6 23 22 i ie hi hd Y4 hie 11 (fun _=>by kernel_rfl) (V ⟨blk,0,O⟩) 1 cap (Nat.le_refl 1) (151+1) (by
  rw[hK]
  kernel_rfl) (.func 51) #[] #[Y (V ⟨Bs,0,O⟩)] W
 refine hS.mono ?_;rintro e w' ⟨rfl,os,rfl⟩;refine ⟨rfl,rfl,rfl,rfl,by show W.heap.size≤(W.heap++os).size;simp,fun k hk=>?_⟩;show (W.heap++os)[k]?=_;rw[Array.getElem?_append_left hk]
section
variable {w W:World} {B:MB} {s:Nat} {t:Int}
theorem zju (h:ZG w B s t):Calls Tp 22 #[Y (V ⟨B.M,0,O⟩)] w fun e w'=> ∃g c,e=Rt (Sl (V ⟨g,0,O⟩) 1 c)∧w'.cell? ⟨g,0,O⟩=V (E J 64)∧g<w'.heap.size∧w.heap.size≤g∧Below w.heap.size w w':=by
 have hk:VU (64:Int):=Y14;have z1:(w.alloc (Ce #[Sl none 0 0] 23)).heap.size=w.heap.size+1:=Y7;have b1:Below w.heap.size w (w.alloc (Ce #[Sl none 0 0] 23)):=(Below.refl _ _).alloc (Nat.le_refl _) _;have h1:=h.below b1;have m5:=h1.cells.2.2.2.2.1;have hl1:=heap_alloc_new w (.cells #[Sl none 0 0] 23);obtain ⟨w2,r2,R2,g2,s2⟩:=h1.thr.range hk Tryz.underlying146;rw[z1] at r2 R2 s2;obtain ⟨w3,r3,R3,g3,s3,e3⟩:=R2.next hk 0;have q2: ∀b,b<w.heap.size+1→w2.heap[b]?=(w.alloc (Ce #[Sl none 0 0] 23)).heap[b]?:=fun b hb=>g2.block b (by rw[z1];exact hb) Y7;have q3: ∀b,b<w.heap.size+1→w3.heap[b]?=(w.alloc (Ce #[Sl none 0 0] 23)).heap[b]?:=fun b hb=>(g3.block b Y1 fun e=>by injection e with e;omega).trans (q2 b hb)
 have h3:ZG w3 B s t:=h1.zk (by rw[z1];omega) fun b hb=>q3 b (by have:=h.lt b hb;omega);have t1:=h3.ZR.2.1;have hl3:=(q3 _ (Nat.lt_succ_self _)).trans hl1;have c3:w3.cell? ⟨w.heap.size,0,O⟩=V (Sl none 0 0):=ze hl3 0;have eZ:=heap_alloc_new w3 (.cells #[E J 64] 22);obtain ⟨v',w5,hrun,hown,hg,eO⟩:=zvy (w:=w3.alloc (Ce #[E J 64] 22)) w3.heap.size 23 23 22 1 8 Tryz.underlying23 Y4 Y2 Y2 (zjG _ w3.heap.size _ _) (zbw (base:=0) eZ (Nat.zero_le _)) (fun u hu=>by simp at hu;subst hu;rfl) Y2 Y7;obtain ⟨g,cp,rfl,hgc,LX,hgl⟩: ∃g cp,v'=Sl (V ⟨g,0,O⟩) 1 cp∧w5.cell? ⟨g,0,O⟩=V (E J 64)∧w3.heap.size≤g∧g<w5.heap.size:=by
  have h0:=hown;rcases hown with ⟨q0,⟨q1,q2⟩ |⟨g,cp,cur,rfl,q3,q4⟩⟩
  ·omega
  ·refine ⟨g,cp,rfl,?_,q3,(h0.lt g rfl).2⟩;have:=h0.cells rfl 0 (E J 64) rfl;rwa[Addr.add_lit,Nat.zero_add] at this
 have e5: ∀b,b<w3.heap.size→w5.heap[b]?=w3.heap[b]?:=fun b hb=>(hg.block b Y8 fun e=>by cases e).trans (heap_alloc_old _ _ hb);have s5:w3.heap.size+1≤w5.heap.size:=by have:=hg.size;simpa using this
 have hl5:=(e5 _ Y1).trans hl3;have c5:w5.cell? ⟨w.heap.size,0,O⟩=V (Sl none 0 0):=ze hl5 0;have f5:w5.frozen? ⟨w.heap.size,0,O⟩=false:=zF hl5 0;have o6: ∀b,b≠w.heap.size→(w5.setCell ⟨w.heap.size,0,O⟩ (Sl (V ⟨g,0,O⟩) 1 cp)).heap[b]?=w5.heap[b]?:=fun b hb=>zm hb;have z6:(w5.setCell ⟨w.heap.size,0,O⟩ (Sl (V ⟨g,0,O⟩) 1 cp)).heap.size=w5.heap.size:=Y7;have FC:=h.thr.lt;have R6:Rng ptrs (w5.setCell ⟨w.heap.size,0,O⟩ (Sl (V ⟨g,0,O⟩) 1 cp)) B.tm (w.heap.size+1) 64 B.T false:=R3.zk ((o6 _ Y1).trans (e5 _ Y1)) ((o6 _ Y1).trans (e5 _ R3.lt));have r6:=R6.done 0;have hgn:g≠w.heap.size:=Y1;have G6:Hid ((w5.setCell ⟨w.heap.size,0,O⟩ (Sl (V ⟨g,0,O⟩) 1 cp)).cell? ⟨g,0,O⟩=V (E J 64)):=Y0 ((World.cell?_of_block (a:=⟨g,0,O⟩) (o6 g hgn)).trans hgc)
 have uZ:Hid (Below w.heap.size w (w5.setCell ⟨w.heap.size,0,O⟩ (Sl (V ⟨g,0,O⟩) 1 cp))):=Y0 ⟨hg.os.trans (g3.os.trans (g2.os.trans b1.os)),hg.tape.trans (g3.tape.trans (g2.tape.trans b1.tape)),hg.output.trans (g3.output.trans (g2.output.trans b1.output)),by rw[z6];omega,fun b hb=>(o6 b Y1).trans ((e5 b Y1).trans ((q3 b Y1).trans (heap_alloc_old _ _ hb)))⟩;have ES:Hid (g<(w5.setCell ⟨w.heap.size,0,O⟩ (Sl (V ⟨g,0,O⟩) 1 cp)).heap.size∧w.heap.size≤g):=Y0 ⟨by rw[z6];exact hgl,by omega⟩;have HS:=Y0 (zqD (w5.setCell ⟨w.heap.size,0,O⟩ (Sl (V ⟨g,0,O⟩) 1 cp)) g cp w.heap.size);have c6:(w5.setCell ⟨w.heap.size,0,O⟩ (Sl (V ⟨g,0,O⟩) 1 cp)).cell? ⟨w.heap.size,0,O⟩=V (Sl (V ⟨g,0,O⟩) 1 cp):=ze (zy hl5 _) 0;have C6:=Y0 c6;have eU:=Y0 hrun
 replace r3:(Instr.next (Y (V ⟨w.heap.size+1,0,O⟩)) false 0).run Tp w2= .ok (.tuple #[.bool true,E J 64,Y (V ⟨B.T,0,O⟩)]) w3:=r3;replace e3:(Instr.entry (Y (V ⟨w.heap.size+1,0,O⟩))).run Tp w3= .ok (.tuple #[E J 64,Y (V ⟨B.T,0,O⟩)]) w3:=e3;clear h h1 h3 R2 R3 g2 g3 q2 q3 hl1 hl3 eZ hown hg eO e5 hl5 o6 R6 hgc hrun LX hgl b1 z6 c6 s2 s3 s5 FC;go_enter Tryz.func22,Tryz.ntmps22;go_wp2_with fail;refine wp_loop_rounds 2 ?_;rw[rounds_succ];go_wp2_with (at_builtin;refine Go.Lib.wpList_append_run _ rfl (.tmp 20) (.tmp 22) 23 23 rfl _ _ rfl rfl _ _ eU.out ?_);rw[rounds_succ];go_wp2_with fail;refine HS.out.mono ?_;rintro e w7 ⟨rfl,dU⟩
 have c7:=(dU.cell (p:=⟨w.heap.size,0,O⟩) (by have:=ES.out;show w.heap.size<_;omega)).trans C6.out;have HR:=Y0 (And.intro ((dU.cell (p:=⟨g,0,O⟩) ES.out.1).trans G6.out) (And.intro (Nat.lt_of_lt_of_le ES.out.1 dU.size) (And.intro ES.out.2 (uZ.out.trans (dU.mono uZ.out.size)))));clear dU HS;go_wp2_with fail;go_ret;exact ⟨g,cp,rfl,HR.out⟩
end
end Kn
namespace Kn
open Go.RowKit Go.Maps Asm
theorem zw9 (W:World) (o1 o2 o3 o4 o5:Obj) (n:Nat) (hn:W.heap.size=n):
  (((((W.alloc o1).alloc o2).alloc o3).alloc o4).alloc o5).heap[n]?=some o1∧(((((W.alloc o1).alloc o2).alloc o3).alloc o4).alloc o5).heap[n+1]?=some o2∧(((((W.alloc o1).alloc o2).alloc o3).alloc o4).alloc o5).heap[n+1+1]?=some o3∧
  (((((W.alloc o1).alloc o2).alloc o3).alloc o4).alloc o5).heap[n+1+1+1]?=some o4∧(((((W.alloc o1).alloc o2).alloc o3).alloc o4).alloc o5).heap[n+1+1+1+1]?=some o5∧(((((W.alloc o1).alloc o2).alloc o3).alloc o4).alloc o5).heap.size=n+1+1+1+1+1∧
  Below n W (((((W.alloc o1).alloc o2).alloc o3).alloc o4).alloc o5):=by
 subst hn;have b1:=(Below.refl W.heap.size W).alloc (Nat.le_refl _) o1;have b2:=b1.alloc b1.size o2;have b3:=b2.alloc b2.size o3;have b4:=b3.alloc b3.size o4;have b5:=b4.alloc b4.size o5;refine ⟨?_,?_,?_,?_,?_,by simp,b5⟩
 ·rw[heap_alloc_old _ _ Y64,heap_alloc_old _ _ Y64,heap_alloc_old _ _ Y64,heap_alloc_old _ _ Y7];exact heap_alloc_new W o1
 ·rw[heap_alloc_old _ _ Y64,heap_alloc_old _ _ Y64,heap_alloc_old _ _ Y7];have:=heap_alloc_new (W.alloc o1) o2;simpa using this
 ·rw[heap_alloc_old _ _ Y64,heap_alloc_old _ _ Y7];have:=heap_alloc_new ((W.alloc o1).alloc o2) o3;simpa using this
 ·rw[heap_alloc_old _ _ Y7];have:=heap_alloc_new (((W.alloc o1).alloc o2).alloc o3) o4;simpa using this
 ·have:=heap_alloc_new ((((W.alloc o1).alloc o2).alloc o3).alloc o4) o5;simpa using this
theorem Zl.fresh {γ:Type} {S:Reads γ} {w:World} {b:Nat} (h:w.heap[b]?=V (.map #[] 0)):Zl S w b (fun _=>none) 0:=by
 have g:=Zl.made (S:=S) w;have hs:(w.alloc (.map #[] 0)).heap[w.heap.size]?=V (.map #[] 0):=heap_alloc_new w _;obtain ⟨D,n,⟨es,c,h1,h2,h3,h4⟩,h5,h6⟩:=g;rw[hs] at h1;exact ⟨D,n,⟨es,c,h.trans h1,h2,h3,h4⟩,h5,h6⟩
theorem zqs (w:World) (A:Option Addr) (c:Nat):Calls Tp 21 #[.agg #[.slice A 5 c,E Z 0,E Z 3,E Z 1]] w fun e w'=> ∃B:MB,e=Rt (Y (V ⟨B.M,0,O⟩))∧ZG w' B 0 0∧Below w.heap.size w w'∧ ∀b∈B.l,w.heap.size≤b:=by
 go_enter Tryz.func21,Tryz.ntmps21;go_upto_region 1 with fail;have hb:Below w.heap.size w (w.alloc (Ce #[.slice A 5 c,E Z 0,E Z 3,E Z 1] 26)):=(Below.refl _ _).alloc (Nat.le_refl _) _;have hz:=heap_alloc_new w (.cells #[.slice A 5 c,E Z 0,E Z 3,E Z 1] 26);have hs:(w.alloc (Ce #[.slice A 5 c,E Z 0,E Z 3,E Z 1] 26)).heap.size=w.heap.size+1:=Y7;generalize w.alloc _=W at*;have p0:W.cell? ⟨w.heap.size,0,O⟩=V (.slice A 5 c):=ze hz 0;have p2:W.cell? ⟨w.heap.size,2,O⟩=V (E Z 3):=ze hz 2;have p3:W.cell? ⟨w.heap.size,3,O⟩=V (E Z 1):=ze hz 3;have hmm:=@run_makeMap Tp;go_upto_region 2 with fail
 obtain ⟨x1,x2,x3,x4,x5,xs,xb⟩:=zw9 W (.map #[] 0) (.map #[] 0) (.map #[] 0) (.map #[] 0) (.cells #[E J 5,E J 0,E J 0,E J 0, .map (some (w.heap.size+1)), .map (some (w.heap.size+1+1)), .map (some (w.heap.size+1+1+1)), .map (some (w.heap.size+1+1+1+1)), .bool false] 149) (w.heap.size+1) hs;generalize (World.alloc (World.alloc (World.alloc (World.alloc (World.alloc W _) _) _) _) _)=X at*;have p2':=(xb.cell (p:=⟨w.heap.size,2,O⟩) (Nat.lt_succ_self _)).trans p2;have p3':=(xb.cell (p:=⟨w.heap.size,3,O⟩) (Nat.lt_succ_self _)).trans p3;have EF:Hid (Below w.heap.size w X):=Y0 (hb.trans (xb.mono Y1));clear p0 p2 p3 hz hmm xb hb;generalize hM:w.heap.size+1+1+1+1+1=M at*;have m1:X.cell? ⟨M,1,O⟩=V (E J 0):=ze x5 1;have m2:X.cell? ⟨M,2,O⟩=V (E J 0):=ze x5 2
 have m5:X.cell? ⟨M,5,O⟩=V (.map (some (w.heap.size+1+1))):=ze x5 5;have f1:X.frozen? ⟨M,1,O⟩=false:=zF x5 1;have f2:X.frozen? ⟨M,2,O⟩=false:=zF x5 2;have oY: ∀b,b≠M→b<X.heap.size→(((X.setCell ⟨M,1,O⟩ (E J 3)).setCell ⟨M,2,O⟩ (E J 4)).alloc (Ce (Bo (Sl none 0 0)) 153)).heap[b]?=X.heap[b]?:=fun b h1 h2=>(heap_alloc_old _ _ (by simp;exact h2)).trans ((zm h1).trans (zm h1));have zY:(((X.setCell ⟨M,1,O⟩ (E J 3)).setCell ⟨M,2,O⟩ (E J 4)).alloc (Ce (Bo (Sl none 0 0)) 153)).heap.size=M+1+1:=Y8;have Uu:(((X.setCell ⟨M,1,O⟩ (E J 3)).setCell ⟨M,2,O⟩ (E J 4)).alloc (Ce (Bo (Sl none 0 0)) 153)).drew.heap.size=M+1+1:=zY
 have tY:(((X.setCell ⟨M,1,O⟩ (E J 3)).setCell ⟨M,2,O⟩ (E J 4)).alloc (Ce (Bo (Sl none 0 0)) 153)).heap[M+1]?=V (.cells (Bo (Sl none 0 0)) 153 (0,0)):=by
  have:=heap_alloc_new ((X.setCell ⟨M,1,O⟩ (E J 3)).setCell ⟨M,2,O⟩ (E J 4)) (.cells (Bo (Sl none 0 0)) 153);have e:((X.setCell ⟨M,1,O⟩ (E J 3)).setCell ⟨M,2,O⟩ (E J 4)).heap.size=M+1:=Y8;rwa[e] at this
 have gt:Zl ptrs (((X.setCell ⟨M,1,O⟩ (E J 3)).setCell ⟨M,2,O⟩ (E J 4)).alloc (Ce (Bo (Sl none 0 0)) 153)).drew (w.heap.size+1+1) (fun _=>none) 0:=(Zl.fresh x2).of_block (oY _ Y1 Y1);obtain ⟨w5,u5,g5,t5⟩:=gt.store Y2 Tryz.underlying146 (k:=64) Y14 (M+1);replace u5:(Instr.mapUpdate 146 (.map (some (w.heap.size+1+1))) (E J 64) (Y (V ⟨M+1,0,O⟩))).run Tp (((X.setCell ⟨M,1,O⟩ (E J 3)).setCell ⟨M,2,O⟩ (E J 4)).alloc (Ce (Bo (Sl none 0 0)) 153)).drew= .ok () w5:=u5;have e5: ∀b,b<M+1+1→b≠w.heap.size+1+1→w5.heap[b]?=(((X.setCell ⟨M,1,O⟩ (E J 3)).setCell ⟨M,2,O⟩ (E J 4)).alloc (Ce (Bo (Sl none 0 0)) 153)).heap[b]?:=fun b hb hn=>t5.grown.block b Y1 fun e=>hn Y18
 have s5:M+1+1≤w5.heap.size:=by have:=t5.grown.size;omega
 have Ox:Zl ptrs w5 (w.heap.size+1+1) (oneG 64 (M+1)) 1:=g5.same (zaT 64 (M+1));have HZ:Hid (∃B:MB,B.M=M∧ZG w5 B 0 0∧Below w.heap.size w w5∧ ∀b∈B.l,w.heap.size≤b):=Y0 (by
  refine ⟨⟨M,w.heap.size+1+1,w.heap.size+1+1+1,w.heap.size+1+1+1+1,w.heap.size+1,M+1,M,M,0,M⟩,rfl,⟨?_,Ox,?_,?_,(e5 _ (by show M+1<_;omega) (by show M+1≠_;omega)).trans tY,fun q=>absurd q Y2,fun q=>absurd q Y2,⟨by show w.heap.size+1+1≠w.heap.size+1+1+1;omega,by show w.heap.size+1+1≠w.heap.size+1+1+1+1;omega,by show w.heap.size+1+1+1≠w.heap.size+1+1+1+1;omega⟩,fun b hb=>?_,⟨by decide,by decide⟩,fun q=>absurd q Y2⟩,?_,fun b hb=>?_⟩
  ·refine (e5 _ (by show M<_;omega) (by show M≠_;omega)).trans ((heap_alloc_old _ _ (by simp;show M<_;omega)).trans ?_)
   exact (zy (zy x5 _) _).trans rfl
  ·exact ((Zl.fresh x3).of_block ((e5 _ Y1 Y1).trans (oY _ Y1 Y1))).mono Y2
  ·exact ((Zl.fresh x4).of_block ((e5 _ Y1 Y1).trans (oY _ Y1 Y1))).mono Y2
  ·simp[MB.l] at hb
   omega
  ·have hB:=EF.out
   exact ⟨t5.grown.os.trans hB.os,t5.grown.tape.trans hB.tape,t5.grown.output.trans hB.output,by omega,fun b hb=>(e5 b Y1 Y1).trans ((oY b Y1 Y1).trans (hB.block b hb))⟩
  ·simp[MB.l] at hb
   omega)
 unfold Bo at u5;clear e5 g5 t5 gt oY tY Ox x1 x2 x3 x4 x5 zY Uu s5;have hx1:max (3:Int) 0=3:=Y2;have hx2:max (1:Int) 0=1:=Y2;go_region;go_wp2_with fail;go_ret;obtain ⟨B,h1,h2⟩:=HZ.out;exact ⟨B,by rw[h1];rfl,h2⟩
theorem zf9 (w:World) (mv:Option Addr) (A:Option Addr) (c:Nat):Calls Tp 6 #[.pointer mv, .agg #[.slice A 5 c,E Z 0,E Z 3,E Z 1]] w fun e w'=> ∃(B:MB) (Wb rb:Nat),e=Rt (Y (V ⟨Wb,0,O⟩))∧ZG w' B 0 0∧Below w.heap.size w w'∧(∀b∈B.l,w.heap.size≤b)∧w.heap.size≤Wb∧w.heap.size≤rb∧Wb∉B.l∧rb∉B.l∧rb≠Wb∧w'.heap[rb]?=V (.map #[] 0)∧w'.heap[Wb]?=V (.cells #[.pointer mv,Y (V ⟨B.M,0,O⟩),Sl none 0 0, .map (some rb),E Z 0, .nilIface] 67 (0,0)):=by
 have hmm:=@run_makeMap Tp;have hb:Below w.heap.size w (w.alloc (Ce #[.slice A 5 c,E Z 0,E Z 3,E Z 1] 26)):=(Below.refl _ _).alloc (Nat.le_refl _) _;have HN:=Y0 (zqs (w.alloc (Ce #[.slice A 5 c,E Z 0,E Z 3,E Z 1] 26)) A c);have HB:=Y0 hb;clear hb;go_enter Tryz.func6,Tryz.ntmps6;go_wp2_with fail;refine HN.out.mono ?_;rintro e w1 ⟨B,rfl,h1,hb1,hl1⟩;have hz:(w.alloc (Ce #[.slice A 5 c,E Z 0,E Z 3,E Z 1] 26)).heap.size=w.heap.size+1:=Y7;have hs1:w.heap.size+1≤w1.heap.size:=by have:=hb1.size;omega
 have H1:=Y0 (And.intro h1 (And.intro hb1 hl1));have HS:=Y0 (And.intro hz hs1);clear h1 hb1 hl1 HN hz hs1;go_wp2_with fail;go_ret;obtain ⟨h1,hb1,hl1⟩:=H1.out;obtain ⟨hz,hs1⟩:=HS.out;have b2:=(Below.refl w1.heap.size w1).alloc (Nat.le_refl _) (.map #[] 0);have b3:=b2.alloc b2.size (.cells #[.pointer mv,Y (V ⟨B.M,0,O⟩),Sl none 0 0, .map (some w1.heap.size),E Z 0, .nilIface] 67);have hl:=h1.lt;refine ⟨B,w1.heap.size+1,w1.heap.size,rfl,h1.below b3,(HB.out.trans (hb1.mono HB.out.size)).trans (b3.mono Y1),fun b hb=>by have:=hl1 b hb;omega,by omega,by omega,fun q=>by have:=hl _ q;omega,fun q=>by have:=hl _ q;omega,by omega,?_,?_⟩
 ·exact (heap_alloc_old _ _ Y7).trans (heap_alloc_new w1 _)
 ·have:=heap_alloc_new (w1.alloc (.map #[] 0)) (.cells #[.pointer mv,Y (V ⟨B.M,0,O⟩),Sl none 0 0, .map (some w1.heap.size),E Z 0, .nilIface] 67);simpa using this
end Kn
namespace Kn
open Go.RowKit Asm
section
variable {F:Fixed} {w:World} {own:Own} {G:KG} {M:zD} {n:Nat}
theorem zi.below {w':World} (h:zi F w own G M n) (hb:Below w.heap.size w w'):zi F w' (ext own w.heap.size .other) G M n:=h.move (zU hb)
theorem KO.below {w':World} (h:zi F w own G M n) (hb:Below w.heap.size w w'):KO F w own G M n w':=⟨_,h.below hb,zU hb⟩
theorem zi.Vb {i:Nat} {v:Value} (h:zi F w own G M n) (hv: ∀C ov,zcQ C F G M ov→C[i]?=some v):w.cell? ⟨G.K,i,O⟩=some v:=by
 obtain ⟨C,ov,ho,hc,_⟩:=h.k.obj;exact (ze ho _).trans (hv C ov hc)
theorem zi.zkh (h:zi F w own G M n):w.cell? ⟨G.K,1012,O⟩=V (Y (V ⟨G.T,0,O⟩)):=h.Vb fun _ _ hc=>hc.tab
theorem zi.zcR (h:zi F w own G M n):w.cell? ⟨G.K,1007,O⟩=V (Y (V ⟨G.X,0,O⟩)):=h.Vb fun _ _ hc=>hc.mem
theorem zi.zqv (h:zi F w own G M n):w.cell? ⟨G.K,1010,O⟩=V (Y (V ⟨G.R,0,O⟩)):=h.Vb fun _ _ hc=>hc.ring
theorem zi.zka (h:zi F w own G M n):w.cell? ⟨G.K,1008,O⟩=V (Y (V ⟨G.A,0,O⟩)):=h.Vb fun _ _ hc=>hc.alc
theorem zi.ztH (h:zi F w own G M n):w.cell? ⟨G.K,1009,O⟩=V (Y (V ⟨G.C,0,O⟩)):=h.Vb fun _ _ hc=>hc.clk
theorem zi.zw6 (h:zi F w own G M n):w.cell? ⟨G.K,1011,O⟩=V (Y (V ⟨G.Q,0,O⟩)):=h.Vb fun _ _ hc=>hc.wq
theorem zi.ztC (h:zi F w own G M n):w.cell? ⟨G.K,1013,O⟩=V (Y (V ⟨G.aA,0,O⟩)):=h.Vb fun _ _ hc=>hc.obj
theorem zi.hcell (h:zi F w own G M n):w.cell? ⟨G.K,1014,O⟩=V (.map (some G.th)):=h.Vb fun _ _ hc=>hc.th
theorem zi.zj7 (h:zi F w own G M n):w.cell? ⟨G.K,1015,O⟩=V (Sl (V ⟨G.gW,0,O⟩) F.workers F.workers):=h.Vb fun _ _ hc=>hc.wk
theorem zi.znC {w':World} {l:List Int} (h:zi F w own G M n) {gr:Nat} (ho: ∀b,b=G.R∨b=gr→own b= .ring) (hk:Keeps (zk3 G.R gr) w w') (hp:gJ w' G.R gr l):KO F w own G { M with ring:=l} n w':=by
 have k:Touch (· = .ring) w w' own (ext own w.heap.size .ring):=touch_of hk fun b hb=>ho b hb;exact ⟨_,h.zrQ k ⟨gr,hp,fun b hb=>Zo (Or.inl (ho b hb))⟩,k.mono fun _ e=>by rw[e];nofun⟩
theorem zi.zhI {w':World} {l:List Zt} (h:zi F w own G M n) {gt N n':Nat} (ho: ∀b,b=G.T∨b=gt→own b= .tab) (hn:n≤n') (hN:N≤n') (hk:Keeps (fun b=>b=gt) w w') (hp:Vh w' G.T gt l N):KO F w own G { M with tab:=l} n' w':=by
 have k:Touch (· = .tab) w w' own (ext own w.heap.size .tab):=touch_of hk fun b hb=>ho b (Or.inr hb);exact ⟨_,h.zu0 k hn ⟨gt,N,hp,fun b hb=>Zo (Or.inl (ho b hb)),hN⟩,k.mono fun _ e=>by rw[e];nofun⟩
theorem zi.ztT {w':World} {m:Mem} (h:zi F w own G M n) {gc gw:Nat} (ho: ∀b,b=G.X∨b=gc∨b=gw→own b= .mem) (hk:Keeps (fun b=>b=G.X∨b=gc) w w') (hp:Zn w' G.X gc gw m):KO F w own G { M with mem:=m} n w':=by
 have k:Touch (· = .mem) w w' own (ext own w.heap.size .mem):=touch_of hk fun b hb=>ho b (hb.elim Or.inl fun e=>Or.inr (Or.inl e));exact ⟨_,h.zt7 k ⟨gc,gw,hp,fun b hb=>Zo (Or.inl (ho b hb))⟩,k.mono fun _ e=>by rw[e];nofun⟩
theorem KO.trans {aC:Own} {w1 w2:World} {M2:zD} {n2:Nat} (k:Touch (fun t=>t≠ .other) w w1 own aC) (h:KO F w1 aC G M2 n2 w2):KO F w own G M2 n2 w2:=by
 obtain ⟨o2,a,b⟩:=h;exact ⟨o2,a,k.trans b⟩
end
def BM (x:zx) (b c:Int):Int:=if x.op=1 then x.v else if x.op=2 then b else reckon x.op b c
theorem c64 (c:Int) (hv:0≤c∧c<18446744073709551616):bits .and J c 63=c%64:=by
 obtain ⟨n,rfl⟩:=Int.eq_ofNat_of_zero_le hv.1;have hn:n<18446744073709551616:=Y1;have h1:(BitVec.ofInt 64 (n:Int)).toNat=n:=by rw[BitVec.toNat_ofInt];omega
 have h2:(BitVec.ofInt 64 63).toNat=63:=Y2;show IntKind.u64.wrap ((BitVec.ofInt 64 (n:Int))&&& (BitVec.ofInt 64 63)).toNat=_;rw[BitVec.toNat_and,h1,h2,show (63:Nat)=2^6 - 1 by decide,Nat.and_two_pow_sub_one_eq_mod,wraps_u64 _ Y1 Y1];omega
theorem zkA (x:zx) (b c:Int) (w:World) (hb:Zm b) (hc:Zm c) (ho:1≤x.op∧x.op≤11):Calls Tp 237 #[.agg (zS x),E J b,E J c] w fun e w'=>e=Rt (E J (BM x b c))∧Below w.heap.size w w':=by
 obtain ⟨o,xa,xb,xc,xv,xm,xw⟩:=x;simp only at ho;have e:o=1∨o=2∨o=3∨o=4∨o=5∨o=6∨o=7∨o=8∨o=9∨o=10∨o=11:=Y1;unfold Zm at hb hc;unfold zS;have HS:=Y0 (fun W=>zer 64 b c W hb hc);have HF:=Y0 (fun v W=>zlZ v W);have HL:=Y0 (fun W=>ziK b c W hb hc);rcases e with rfl|rfl|rfl|rfl|rfl|rfl|rfl|rfl|rfl|rfl|rfl
 ·go_enter Tryz.func237,Tryz.ntmps237;exact J32
 ·go_enter Tryz.func237,Tryz.ntmps237;exact J32
 ·go_enter Tryz.func237,Tryz.ntmps237;go_wp2_with fail;refine (HS.out _).mono ?_;rintro e w1 ⟨rfl,rfl⟩;exact J32
 ·go_enter Tryz.func237,Tryz.ntmps237;go_wp2_with fail;refine (HL.out _).mono ?_;rintro e w1 ⟨rfl,rfl⟩;exact J32
 ·go_enter Tryz.func237,Tryz.ntmps237;exact J32
 ·go_enter Tryz.func237,Tryz.ntmps237;exact J32
 ·go_enter Tryz.func237,Tryz.ntmps237;exact J32
 ·exact J73
 ·exact J73
 ·go_enter Tryz.func237,Tryz.ntmps237;go_wp2_with fail;refine (HF.out _ _).mono ?_;rintro e w1 ⟨rfl,rfl⟩;exact J32
 ·go_enter Tryz.func237,Tryz.ntmps237;go_wp2_with fail;refine (HF.out _ _).mono ?_;rintro e w1 ⟨rfl,rfl⟩;exact J32
theorem zgg (x:zx) (b c:Int) (hb:Zm b) (hc:Zm c) (hv:Zm x.v) (ho:1≤x.op∧x.op≤11):Zm (BM x b c):=by
 have hw: ∀y:Int,Zm (word y):=fun y=>by unfold Zm word;omega
 have Dx: ∀(o:BinOp) (p q:Int),Zm (bits o J p q):=fun o p q=>by
  unfold bits Zm;simp only;rw[IntKind.wrap_u64];omega
 have hy: ∀v:Bool,Zm (za3 v):=fun v=>by cases v<;>(unfold Zm za3;simp)
 unfold BM reckon;repeat' split
 all_goals first
  |assumption
  |exact hw _
  |exact Dx _ _ _
  |exact hy _
  |skip
 ·unfold ztE Zm;unfold Zm at hb;have h2:(0:Int)<2^ (c%64).toNat:=Int.pow_pos Y2;have h3:b/2^ (c%64).toNat≤b:=Int.ediv_le_self _ hb.1;exact ⟨Int.ediv_nonneg hb.1 (Int.le_of_lt h2),by omega⟩
section
variable {w:World} {b o:Nat} {t:TypeId} {P S:List Value} {f:Frame} {bv:Value}
theorem zjo (h:Lens w b o t P S f bv) (hl:f.r.length=32) (x:zx) (hc:x.c= -1∨0≤x.c∧x.c<32):Calls Tp 239 #[Y (V ⟨b,o,O⟩), .agg (zS x)] w fun e w'=>e=Rt (E J (bZ f x))∧Below w.heap.size w w':=by
 obtain ⟨xo,xa,xb,xc,xv,xm,xw⟩:=x;simp only at hc;unfold zS;have hb:b<w.heap.size:=h.lt;rcases hc with rfl|hc
 ·go_enter Tryz.func239,Tryz.ntmps239;exact J32
 ·have hb1:(xc== -1)=false:=Y8;have HR:=Y0 (fun (o':Obj)=>JL (h.of_block (w':=w.alloc o') (Below.heap_alloc _ _ _ Y1)) hl xc hc.1 hc.2);have e0:bZ f ⟨xo,xa,xb,xc,xv,xm,xw⟩=rg f xc:=by unfold bZ;rw[if_neg (by simp only;omega)]
  rw[e0];clear h hc e0;go_enter Tryz.func239,Tryz.ntmps239;go_wp2_with fail;refine (HR.out _).mono ?_;rintro e w1 ⟨rfl,rfl⟩;exact J32
theorem Vm {f:Frame} (hr: ∀x∈f.r,Zm x) (n:Int):Zm (rg f n):=by
 unfold rg
 rw[List.getD_eq_getElem?_getD]
 cases h:f.r[n.toNat]? with
 |none=>exact VH
 |some x=>exact hr x (List.mem_of_getElem? h)
theorem GA (h:Lens w b o t P S f bv) (hf: ∀x∈f.r,Zm x) (hl:f.r.length=32) (x:zx) (hv:Zm x.v) (hc:x.b= -1∨0≤x.b∧x.b<32):Calls Tp 183 #[Y (V ⟨b,o,O⟩), .agg (zS x)] w fun e w'=>e=Rt (E J (vk f x))∧Below w.heap.size w w':=by
 obtain ⟨xo,xa,xb,xc,xv,xm,xw⟩:=x;simp only at hc hv;unfold zS;have hb:b<w.heap.size:=h.lt;rcases hc with rfl|hc
 ·go_enter Tryz.func183,Tryz.ntmps183;exact J32
 ·have hb1:(xb== -1)=false:=Y8;have HR:=Y0 (fun (o':Obj) (n:Nat)=>JL (h.of_block (w':=(w.alloc o').drewN n) (Below.heap_alloc _ _ _ Y1)) hl xb hc.1 hc.2);have e0:vk f ⟨xo,xa,xb,xc,xv,xm,xw⟩=word (rg f xb+xv):=by unfold vk;rw[if_neg (by simp only;omega)]
  have HS:=Y0 (fun W=>zer 64 (rg f xb) xv W (Vm hf xb) hv);have e1:zeG 64 (rg f xb) xv=word (rg f xb+xv):=by unfold zeG KY word;simp
  rw[e1] at HS;rw[e0];clear h hc e0 hf e1;generalize word (rg f xb+xv)=r at*;generalize rg f xb=rb at*;go_enter Tryz.func183,Tryz.ntmps183;go_wp2_with fail;go_quiet (first
   |(go_at_call 238;exact zbN (HR.out _ _))
   |(go_at_call 212;exact zbN (HS.out _)))
  go_wp2_with fail;go_ret;exact ⟨rfl,KD ((Below.refl _ _).alloc (Nat.le_refl _) _) _⟩
end
structure bB (w:World) (own:Own) (b o:Nat) (t:TypeId) (P S:List Value) (tb tk:Tag) (n:Nat) (f:Frame) (bv:Value):Prop where
 lens:Lens w b o t P S f bv
 mine:own b=tb
 row:Vv w own tk 3 1 bv f.back.length (kU f.back)
 ok:zb7 n f
def Zd (w:World) (own:Own) (b o:Nat) (t:TypeId) (P S:List Value) (tb tk:Tag) (n:Nat) (f':Frame) (w':World):Prop:= ∃own' aW,bB w' own' b o t P S tb tk n f' aW∧Touch (fun t=>t=tb∨t=tk) w w' own own'
section
variable {w:World} {own:Own} {b o:Nat} {t:TypeId} {P S:List Value} {tb tk:Tag} {n:Nat} {f:Frame} {bv:Value}
theorem bB.pc (h:bB w own b o t P S tb tk n f bv) (hne:tb≠tk) {p:Int} {n':Nat} (hn:n≤n') (hp:0≤p∧p≤4000+n'):bB (w.setCell ⟨b,o,O⟩ (E Z p)) own b o t P S tb tk n' { f with pc:=p} bv∧Touch (fun t=>t=tb∨t=tk) w (w.setCell ⟨b,o,O⟩ (E Z p)) own own:=by
 have hk:Touch (fun t=>t=tb) w (w.setCell ⟨b,o,O⟩ (E Z p)) own own:=⟨(Keeps.refl _ w).setCell (p:=⟨b,o,O⟩) h.mine _,fun _ _=>rfl⟩;have ho:=h.ok.more hn;exact ⟨⟨h.lens.zwo p,h.mine,h.row.move hk (fun e=>hne e.symm),⟨ho.len,ho.r,hp,ho.few,ho.back⟩⟩,hk.mono fun _ e=>Or.inl e⟩
theorem bB.reg (h:bB w own b o t P S tb tk n f bv) (hne:tb≠tk) {k:Nat} (hk:k<32) {v:Int} (hv:Zm v):bB (w.setCell ⟨b,o+1+k,O⟩ (E J v)) own b o t P S tb tk n { f with r:=f.r.set k v} bv∧Touch (fun t=>t=tb∨t=tk) w (w.setCell ⟨b,o+1+k,O⟩ (E J v)) own own:=by
 have hk':Touch (fun t=>t=tb) w (w.setCell ⟨b,o+1+k,O⟩ (E J v)) own own:=⟨(Keeps.refl _ w).setCell (p:=⟨b,o+1+k,O⟩) h.mine _,fun _ _=>rfl⟩;refine ⟨⟨h.lens.zuo h.ok.len hk v,h.mine,h.row.move hk' (fun e=>hne e.symm),⟨by simp[h.ok.len],fun x hx=>?_,h.ok.pc,h.ok.few,h.ok.back⟩⟩,hk'.mono fun _ e=>Or.inl e⟩;rcases List.mem_or_eq_of_mem_set hx with hx|hx
 ·exact h.ok.r x hx
 ·rw[hx];exact hv
theorem bB.move {w':World} {own':Own} {ts:Tag→Prop} (h:bB w own b o t P S tb tk n f bv) (k:Touch ts w w' own own') (h1: ¬ts tb) (h2: ¬ts tk):bB w' own' b o t P S tb tk n f bv:=
 ⟨h.lens.of_block (k.at h1 h.mine h.lens.lt).1,(k.at h1 h.mine h.lens.lt).2,h.row.move k h2,h.ok⟩
theorem bB.below {w':World} (h:bB w own b o t P S tb tk n f bv) (k:Below w.heap.size w w'):bB w' own b o t P S tb tk n f bv:=
 ⟨h.lens.of_block (k.block b h.lens.lt),h.mine,⟨Asm.za h.row.1 fun c hc=>k.block c (h.row.lt hc),h.row.2⟩,h.ok⟩
theorem bB.cells (h:bB w own b o t P S tb tk n f bv):w.cell? ⟨b,o,O⟩=V (E Z f.pc)∧w.cell? ⟨b,o+33,O⟩=some bv∧(∀k,k<32→w.cell? ⟨b,o+1+k,O⟩=V (E J (f.r.getD k 0)))∧ ∀j,w.frozen? ⟨b,j,O⟩=false:=
 ⟨h.lens.pc,h.lens.bk h.ok.len,fun _ hk=>h.lens.reg h.ok.len hk,h.lens.frozen⟩
theorem bB.more {n':Nat} (h:bB w own b o t P S tb tk n f bv) (hn:n≤n'):bB w own b o t P S tb tk n' f bv:=⟨h.lens,h.mine,h.row,h.ok.more hn⟩
theorem Zd.refl {n':Nat} (h:bB w own b o t P S tb tk n f bv) (hn:n≤n'):Zd w own b o t P S tb tk n' f w:=⟨own,bv,h.more hn,Touch.refl _ _ _⟩
theorem Zd.alloc {W:World} (h:Zd w own b o t P S tb tk n f W) (ob:Obj):Zd w own b o t P S tb tk n f (W.alloc ob):=by
 obtain ⟨own',aW,h1,h2⟩:=h;exact ⟨own',aW,h1.below ((Below.refl _ _).alloc (Nat.le_refl _) _),h2.keeps.alloc _,h2.own⟩
theorem Zd.drew {W:World} (h:Zd w own b o t P S tb tk n f W):Zd w own b o t P S tb tk n f W.drew:=by
 obtain ⟨own',aW,h1,h2⟩:=h;exact ⟨own',aW,h1.below (below_drewN _ 1),h2.keeps.drew,h2.own⟩
theorem Zd.drewN {W:World} (h:Zd w own b o t P S tb tk n f W) (q:Nat):Zd w own b o t P S tb tk n f (W.drewN q):=by
 obtain ⟨own',aW,h1,h2⟩:=h;exact ⟨own',aW,h1.below (below_drewN _ q),h2.keeps.drewN q,h2.own⟩
theorem Zd.pc {W:World} (h:Zd w own b o t P S tb tk n f W) (hne:tb≠tk) {p:Int} (hp:0≤p∧p≤4000+n):Zd w own b o t P S tb tk n { f with pc:=p} (W.setCell ⟨b,o,O⟩ (E Z p)):=by
 obtain ⟨own',aW,h1,h2⟩:=h;obtain ⟨a1,a2⟩:=h1.pc hne (Nat.le_refl n) hp;exact ⟨own',aW,a1,h2.trans a2⟩
theorem Zd.reg {W:World} (h:Zd w own b o t P S tb tk n f W) (hne:tb≠tk) {k:Nat} (hk:k<32) {v:Int} (hv:Zm v):Zd w own b o t P S tb tk n { f with r:=f.r.set k v} (W.setCell ⟨b,o+1+k,O⟩ (E J v)):=by
 obtain ⟨own',aW,h1,h2⟩:=h;obtain ⟨a1,a2⟩:=h1.reg hne hk hv;exact ⟨own',aW,a1,h2.trans a2⟩
theorem Zd.back {W:World} (h:Zd w own b o t P S tb tk n f W) (hne:tb≠tk) {l:List Int} {v:Value} (hl:l.length≤8) (hx: ∀x∈l,0≤x∧x≤4000+n) (hr: ∀own' aW,bB W own' b o t P S tb tk n f aW→Touch (fun t=>t=tb∨t=tk) w W own own'→ ∃vQ,Vv W vQ tk 3 1 v l.length (kU l)∧vQ b=tb∧Touch (fun t=>t=tb∨t=tk) w W own vQ):Zd w own b o t P S tb tk n { f with back:=l} (W.setCell ⟨b,o+33,O⟩ v):=by
 obtain ⟨own',aW,h1,h2⟩:=h;obtain ⟨vQ,r1,r2,r3⟩:=hr own' aW h1 h2;have hk:Touch (fun t=>t=tb) W (W.setCell ⟨b,o+33,O⟩ v) vQ vQ:=⟨(Keeps.refl _ W).setCell (p:=⟨b,o+33,O⟩) r2 _,fun _ _=>rfl⟩;exact ⟨vQ,v,⟨h1.lens.zvW h1.ok.len l v,r2,r1.move hk (fun e=>hne e.symm),⟨h1.ok.len,h1.ok.r,h1.ok.pc,hl,hx⟩⟩,r3.trans (hk.mono fun _ e=>Or.inl e)⟩
theorem Vv.lies {l:List Int} {A:Option Addr} {c:Nat} (h:Vv w own tk 3 1 (.slice A l.length c) l.length (kU l)): ∀W,Below w.heap.size w W→ ∀a,A=some a→ ∀j u,(kU l)[j]?=some u→W.cell? (a.add j)=some u:=by
 intro W hW a ha j u hu;subst ha;have hg:(Value.slice (some a) l.length c).ownBlock=some a.block:=rfl;have h0:a=⟨a.block,0,O⟩:=by
  rcases h.1.2 with ⟨e,_⟩ |⟨g,cp,cur,e,_⟩
  ·cases e
  ·injection e with e;injection e with e;rw[e]
 have hc:=h.1.cells hg j u hu;rw[←h0] at hc;refine (hW.cell (p:=a.add j) ?_).trans hc;have e:(a.add j).block=a.block:=by rw[h0,Addr.add_lit]
 rw[e];exact h.lt hg
theorem zaI:(Tryz.prog.info? 3).map (fun i=>(i.zero,i.size,i.bytes))=V (some (E Z 0),1,8):=Y4
theorem zps {w1 w2:World} (h:Zd w own b o t P S tb tk n f w1) (hne:tb≠tk) (hl:f.back.length<8) {fp:Int} (hfp:f.pc=fp) (hp:0≤fp∧fp+1≤4000+n) (hk:Keeps (fun _=>False) w1 w2) {base:Nat} {v:Value} (hb:w1.heap.size≤base) (hr:w2.ownsRow base 3 1 v (f.back.length+1) (kU f.back++ [E Z (fp+1)])):
  Zd w own b o t P S tb tk n { f with back:=f.back++ [f.pc+1]} (w2.setCell ⟨b,o+33,O⟩ v):=by
 obtain ⟨own',aW,h1,h2⟩:=h;have hT:Touch (fun _=>False) w1 w2 own' own':=⟨hk,fun _ _=>rfl⟩;have h2':Zd w own b o t P S tb tk n f w2:=⟨own',aW,h1.move hT id id,h2.trans (hT.mono fun _ e=>e.elim)⟩;refine h2'.back hne Y8 (fun x hx=>?_) fun dw IZ h3 h4=>?_
 ·rcases List.mem_append.1 hx with hx|hx
  ·exact h1.ok.back x hx
  ·simp at hx;rw[hx,hfp];omega
 ·have hlt: ∀c,v.ownBlock=some c→base≤c∧c<w2.heap.size:=hr.lt;refine ⟨fun c=>if v.ownBlock=some c then tk else dw c,⟨?_,fun c hc=>if_pos hc⟩,?_,?_⟩
  ·rw[List.length_append,List.length_singleton,hfp];have e:kU (f.back++ [fp+1])=kU f.back++ [E Z (fp+1)]:=by simp[kU]
   rw[e];exact ⟨hr.1,hr.2.elim Or.inl fun ⟨g,cp,cur,a1,_,a2⟩=>Or.inr ⟨g,cp,cur,a1,Nat.zero_le _,a2⟩⟩
  ·show (if v.ownBlock=some b then tk else dw b)=tb;rw[if_neg (fun hc=>?_)]
   ·exact h3.mine
   ·have:=h1.lens.lt;have:=(hlt b hc).1;omega
  ·refine ⟨h4.keeps,fun c hc=>?_⟩;show (if v.ownBlock=some c then tk else dw c)=own c;rw[if_neg (fun hv=>?_)]
   ·exact h4.own c hc
   ·have:=(hlt c hv).1;have:=h2.keeps.size;omega
theorem zpr (h:bB w own b o t P S tb tk n f bv) (hne:tb≠tk) (x:zx) (ho:12≤x.op∧x.op≤16) (hv:0≤x.v∧x.v≤4000) (ha:0≤x.a∧x.a<32) (hn:n≤100000):
  Calls Tp 234 #[Y (V ⟨b,o,O⟩), .agg (zS x)] w fun e w'=>e=Rt (E Z (VG f x).1)∧Zd w own b o t P S tb tk (n+1) (VG f x).2 w':=by
 obtain ⟨xo,xa,xb,xc,xv,xm,xw⟩:=x;simp only at ho hv ha;unfold zS;obtain ⟨c0,Ol,rG,cf⟩:=h.cells;obtain ⟨A,cp,hbv⟩:=Asm.zn h.row.1;obtain ⟨L,hL⟩: ∃L,L=f.back.length:=⟨_,rfl⟩;have hL8:(L:Int)≤8:=by have:=h.ok.few;omega
 rw[hbv,←hL] at Ol;have hpc:=h.ok.pc;have hbl:=h.lens.lt;have H:=Y0 h;have HL:=Y0 hL;have qW:=Y0 hbv;have e:xo=12∨xo=13∨xo=14∨xo=15∨xo=16:=Y1;have hxw:wrap64 xv=xv:=by simp only[wrap64];omega
 clear h hbv hL;generalize hfp:f.pc=fp at*;have F8:=Y0 hfp;clear hfp;have hB: ∀ob,Below w.heap.size w (w.alloc ob):=fun ob=>(Below.refl _ w).alloc (Nat.le_refl _) _;have HB:=Y0 hB;clear hB;rcases e with rfl|rfl|rfl|rfl|rfl
 ·go_enter Tryz.func234,Tryz.ntmps234;go_wp2_with fail;go_ret;refine ⟨rfl,?_⟩;show Zd w own b o t P S tb tk (n+1) { f with pc:=xv} _;exact J35
 ·obtain ⟨k,rfl⟩:=Int.eq_ofNat_of_zero_le ha.1;have hk:k<32:=Y1;have ck:=rG k hk;have ek:rg f (k:Int)=f.r.getD k 0:=rfl;have hps:wrap64 (fp+1)=fp+1:=by simp only[wrap64];omega
  have E1:Hid (VG f ⟨13,k,xb,xc,xv,xm,xw⟩=(0,{ f with pc:=if rg f k=0 then xv else fp+1})):=Y0 (by unfold VG;simp only[F8.out];by_cases h0:rg f k=0<;>simp[h0]);rw[ek] at E1;clear rG ek;generalize f.r.getD k 0=rk at*;by_cases h0:rk=0
  ·subst h0;rw[if_pos rfl] at E1;go_enter Tryz.func234,Tryz.ntmps234;go_wp2_with fail;go_quiet (fail);go_wp2_with fail;go_ret;rw[E1.out];refine ⟨rfl,?_⟩;show Zd w own b o t P S tb tk (n+1) { f with pc:=xv} _;exact J35
  ·have hb0:(rk==0)=false:=by simp[h0]
   rw[if_neg h0] at E1;go_enter Tryz.func234,Tryz.ntmps234;go_wp2_with fail;go_quiet (fail);go_wp2_with fail;go_ret;rw[E1.out];refine ⟨rfl,?_⟩;show Zd w own b o t P S tb tk (n+1) { f with pc:=fp+1} _;exact J35
 ·obtain ⟨k,rfl⟩:=Int.eq_ofNat_of_zero_le ha.1;have hk:k<32:=Y1;have ck:=rG k hk;have ek:rg f (k:Int)=f.r.getD k 0:=rfl;have hps:wrap64 (fp+1)=fp+1:=by simp only[wrap64];omega
  have E1:Hid (VG f ⟨14,k,xb,xc,xv,xm,xw⟩=(0,{ f with pc:=if rg f k=0 then fp+1 else xv})):=Y0 (by unfold VG;simp only[F8.out];by_cases h0:rg f k=0<;>simp[h0]);rw[ek] at E1;clear rG ek;generalize f.r.getD k 0=rk at*;by_cases h0:rk=0
  ·subst h0;rw[if_pos rfl] at E1;go_enter Tryz.func234,Tryz.ntmps234;go_wp2_with fail;go_quiet (fail);go_wp2_with fail;go_ret;rw[E1.out];refine ⟨rfl,?_⟩;show Zd w own b o t P S tb tk (n+1) { f with pc:=fp+1} _;exact J35
  ·have hb0:(rk==0)=false:=by simp[h0]
   rw[if_neg h0] at E1;go_enter Tryz.func234,Tryz.ntmps234;go_wp2_with fail;go_quiet (fail);go_wp2_with fail;go_ret;rw[E1.out];refine ⟨rfl,?_⟩;show Zd w own b o t P S tb tk (n+1) { f with pc:=xv} _;exact J35
 ·by_cases h8:L=8
  ·have E1:Hid (VG f ⟨15,xa,xb,xc,xv,xm,xw⟩=(3,f)):=Y0 (by unfold VG;simp[←HL.out,h8]);subst h8;go_enter Tryz.func234,Tryz.ntmps234;go_wp2_with fail;go_ret;rw[E1.out];refine ⟨rfl,?_⟩;exact J35
  ·have hL7:(L:Int)<8:=Y1;go_enter Tryz.func234,Tryz.ntmps234;go_wp2_with fail;have hwr:wrap64 (fp+1)=fp+1:=by simp only[wrap64];omega
   have hwr2:IntKind.i64.wrap (fp+1)=fp+1:=by simp[IntKind.wrap,IntKind.bits,IntKind.signed];omega
   generalize hw1:w.alloc _=w1;have hb1:Below w.heap.size w w1:=by rw[←hw1];exact (Below.refl _ _).alloc (Nat.le_refl _) _
   have P6:Hid (Zd w own b o t P S tb tk (n+1) f w1):=Y0 (by rw[←hw1];exact (Zd.refl H.out (Nat.le_succ n)).alloc _);have bx:w1.cell? ⟨w.heap.size,4,O⟩=V (E J xv):=by rw[←hw1];exact World.cell?_alloc_at _ _ _ _ rfl
   have OE:w.heap.size<w1.heap.size:=by rw[←hw1];simp
   have mM:=Y0 OE;have d0:w1.drew.cell? ⟨b,o,O⟩=V (E Z fp):=(hb1.cell (p:=⟨b,o,O⟩) hbl).trans c0;have Oo:w1.drew.cell? ⟨b,o+33,O⟩=V (.slice A L cp):=(hb1.cell (p:=⟨b,o+33,O⟩) hbl).trans Ol;have e0:w1.cell? ⟨b,o,O⟩=V (E Z fp):=d0;have e33:w1.cell? ⟨b,o+33,O⟩=V (.slice A L cp):=Oo;have OO:(L:Int)≤(cp:Int):=by
    rcases (qW.out▸H.out.row.1).2 with ⟨e,e2⟩ |⟨g,c,cur,e,_,_,hc,_⟩
    ·have:=HL.out;omega
    ·injection e with _ _ e3;have:=HL.out;omega
   have LM:b<w1.heap.size:=Nat.lt_of_lt_of_le hbl hb1.size;have Ow: ∀j,w1.frozen? ⟨b,j,O⟩=false:=fun j=>(World.frozen?_of_block (a:=⟨b,j,O⟩) (hb1.block b hbl)).trans (cf j);have aL:=Y0 (show b<w1.heap.size∧(∀j,w1.frozen? ⟨b,j,O⟩=false)∧Below w.heap.size w w1 from ⟨LM,Ow,hb1⟩);have hrow:=H.out.row;rw[qW.out] at hrow;have Ic:=Y0 hrow.lies;have HN:Hid (A=none→L=0∧L=0):=Y0 fun e=>by
    subst e;rcases hrow.1.2 with ⟨_,e2⟩ |⟨g,c,cur,e,_⟩
    ·rw[HL.out];exact ⟨e2,e2⟩
    ·injection e with e;cases e
   have Qx:Hid ((kU f.back).length=L*1):=Y0 (by simp[kU,HL.out]);have HM:Hid (L<L+1∧L+1≤maxLen∧(L+1)*8≤140737488355328):=Y0 ⟨by omega,by unfold maxLen;omega,by omega⟩;have qE:Hid (∀j u,[Value.int Z (fp+1)][j]?=some u→(w1.drew.alloc (Ce #[E Z (fp+1)] 3)).cell? ((⟨w1.heap.size,0,O⟩:Addr).add j)=some u):=Y0 fun j u hu=>by
    cases j with
    |zero=>simp at hu;subst hu;exact World.cell?_alloc_at _ _ _ _ rfl
    |succ j=>simp at hu
   have AJ:Hid (Below w.heap.size w (w1.drew.alloc (Ce #[E Z (fp+1)] 3))):=Y0 (hb1.drew.alloc hb1.size _);have hkk:Keeps (fun _=>False) w1 (w1.drew.alloc (Ce #[E Z (fp+1)] 3)):=(Keeps.refl _ w1).drew.alloc _;have lV:=Y0 hkk;obtain ⟨ii,hii,hzi,hsi,hbi⟩:=info_parts zaI;have E1:Hid (VG f ⟨15,xa,xb,xc,xv,xm,xw⟩=(0,{ f with pc:=xv,back:=f.back++ [f.pc+1]})):=Y0 (by unfold VG;simp;have:=HL.out;omega);have Sc:L≤cp:=Y1;clear hw1 hb1 OO Ow hrow hkk
   go_region_law (first|(refine step_append_grows rfl (.tmp 51) (.tmp 57) 76 rfl 3 ii (E Z 0) 1 8 Tryz.underlying76 hii hzi hsi hbi rfl Y2 A L L (kU f.back) rfl HN.out Qx.out (Ic.out _ AJ.out) ⟨w1.heap.size,0,O⟩ 1 1 [E Z (fp+1)] rfl rfl qE.out (by intro u hu;simp at hu;subst hu;rfl) HM.out.1 HM.out.2.1 HM.out.2.2 ?_;intro v' w2 hown hgrow;obtain ⟨A',c',rfl⟩:=Asm.zn hown;have fr2:=(World.frozen?_of_block (a:=⟨b,o+33,O⟩) ((hgrow.block b (Nat.lt_of_lt_of_le aL.out.1 lV.out.size) (fun e=>by cases e)).trans (lV.out.block b aL.out.1 id))).trans (aL.out.2.1 _);have I5:=(World.cell?_of_block (a:=⟨b,o+33,O⟩) ((hgrow.block b (Nat.lt_of_lt_of_le aL.out.1 lV.out.size) (fun e=>by cases e)).trans (lV.out.block b aL.out.1 id))).trans Oo;have xX:=(hgrow.block b (Nat.lt_of_lt_of_le aL.out.1 lV.out.size) (fun e=>by cases e)).trans (lV.out.block b aL.out.1 id);have fr3:=(World.frozen?_of_block (a:=⟨b,o,O⟩) xX).trans (aL.out.2.1 _);have cc3:=(World.cell?_of_block (a:=⟨b,o,O⟩) xX).trans e0;clear xX;have bx2:=(World.cell?_of_block (a:=⟨w.heap.size,4,O⟩) ((hgrow.block w.heap.size (Nat.lt_of_lt_of_le mM.out lV.out.size) (fun e=>by cases e)).trans (lV.out.block w.heap.size mM.out id))).trans bx;have dN:=Y0 hown;have qC:=Y0 hgrow;clear hown hgrow))
   all_goals
    go_wp2_with fail
    go_ret
    rw[E1.out]
    refine ⟨rfl,?_⟩
    show Zd w own b o t P S tb tk (n+1) { f with pc:=xv,back:=f.back++ [f.pc+1]} _
    have hg:=qC.out
    have hfin:Zd w own b o t P S tb tk (n+1) { f with back:=f.back++ [f.pc+1]} (w2.setCell ⟨b,o+33,O⟩ (.slice A' (L+1) c')):=by
     have hr:=dN.out
     rw[HL.out] at hr
     have hsz:w1.heap.size≤(w1.alloc (Ce #[E Z (fp+1)] 3)).drew.heap.size:=by show _≤(w1.alloc _).heap.size;simp
     have:=zps P6.out hne Y40 F8.out Y1 (Keeps.grown ((Keeps.refl (fun _=>False) w1).alloc (Ce #[E Z (fp+1)] 3)).drew hg (fun _ e=>by cases e)) hsz hr
     rw[←HL.out] at this
     exact this
    exact Zd.pc hfin hne Y1
 ·by_cases h0:L=0
  ·have E1:Hid (VG f ⟨16,xa,xb,xc,xv,xm,xw⟩=(2,f)):=Y0 (by
    unfold VG
    have:f.back= []:=List.eq_nil_of_length_eq_zero (by rw[←HL.out];exact h0)
    simp[this])
   subst h0;go_enter Tryz.func234,Tryz.ntmps234;go_wp2_with fail;go_ret;rw[E1.out];refine ⟨rfl,?_⟩;exact J35
  ·obtain ⟨l,Fw⟩: ∃l,L=l+1:=⟨L - 1,by omega⟩;have hrow:=H.out.row;rw[qW.out] at hrow;obtain ⟨g,hA⟩: ∃g,A=some ⟨g,0,O⟩:=by
    rcases hrow.1.2 with ⟨_,e2⟩ |⟨g,c,cur,e,_⟩
    ·have:=HL.out;omega
    ·injection e with e;exact ⟨g,e⟩
   subst hA;obtain ⟨p,hp⟩: ∃p,p=f.back.getD l 0:=⟨_,rfl⟩;have hll:l<f.back.length:=Y40;have hpm:p∈f.back:=by rw[hp,List.getD_eq_getElem?_getD,List.getElem?_eq_getElem hll];exact List.getElem_mem hll
   have hpr:=H.out.ok.back p hpm;have hgl:g<w.heap.size:=hrow.lt rfl;have cg:w.cell? ⟨g,l,O⟩=V (E Z p):=by
    have:=hrow.lies w (Below.refl _ _) _ rfl l (E Z p) (by
     unfold kU
     rw[List.getElem?_map,List.getElem?_eq_getElem hll,hp,List.getD_eq_getElem?_getD,List.getElem?_eq_getElem hll]
     rfl)
    rwa[Addr.add_lit,Nat.zero_add] at this
   have hgb:g≠b:=fun e=>hne (by rw[←H.out.mine,←hrow.2 g rfl,e]);have E1:Hid (VG f ⟨16,xa,xb,xc,xv,xm,xw⟩=(0,{ f with pc:=p,back:=f.back.dropLast})):=Y0 (by
    unfold VG
    have hn0:f.back≠ []:=fun e=>by rw[e] at hll;simp at hll
    have:f.back.getLast?=some p:=by
     rw[List.getLast?_eq_getElem?,←HL.out,show L - 1=l by omega,List.getElem?_eq_getElem hll,hp,List.getD_eq_getElem?_getD,List.getElem?_eq_getElem hll]
     rfl
    simp[this])
   have OO:L≤cp:=by
    rcases hrow.1.2 with ⟨e,_⟩ |⟨g',c,cur,e,_,_,hc,_⟩
    ·cases e
    ·injection e with _ _ e3;have:=HL.out;omega
   have hw1:(L:Int) - 1=(l:Int):=Y1;have hne0:((L:Int)==0)=false:=beq_eq_false_iff_ne.2 Y1;have hlc:(l:Int)<(L:Int):=Y1;have hlN:l≤cp:=Y1;have Qo:=Y0 Fw;have aK:=Y0 hrow;have yO:=Y0 hll;clear hp hpm hll hrow Fw;go_enter Tryz.func234,Tryz.ntmps234;go_wp2_with fail;go_ret;rw[E1.out];refine ⟨rfl,?_⟩;show Zd w own b o t P S tb tk (n+1) { f with pc:=p,back:=f.back.dropLast} _;refine Zd.alloc ?_ _;have h1:Zd w own b o t P S tb tk (n+1) { f with pc:=p} (w.setCell ⟨b,o,O⟩ (E Z p)):=(Zd.refl H.out (Nat.le_succ n)).pc hne Y1;have hbl:f.back.length=l+1:=by rw[←HL.out,Qo.out]
   refine h1.back hne (by have:=H.out.ok.few;simp;omega) (fun x hx=>?_) fun dw IZ h3 h4=>⟨own,⟨?_,aK.out.2⟩,H.out.mine,⟨(Keeps.refl _ w).setCell (p:=⟨b,o,O⟩) (Or.inl H.out.mine) _,fun _ _=>rfl⟩⟩
   ·have:=H.out.ok.back x (List.dropLast_subset _ hx);omega
   ·have hr:(w.setCell ⟨b,o,O⟩ (E Z p)).ownsRow 0 3 1 (Sl (V ⟨g,0,O⟩) f.back.length cp) f.back.length (kU f.back):=Asm.za aK.out.1 fun c hc=>zm (fun e=>hgb (by
     have:c=g:=by injection hc with hc;exact hc.symm
     rw[←this];exact e))
    have hp:=jk hr l Y1;have e1:f.back.dropLast.length=l:=by simp[hbl]
    have e2:kU f.back.dropLast=(kU f.back).take (l*1):=by
     rw[List.dropLast_eq_take,hbl,Nat.mul_one];show List.map _ _=(List.map _ _).take _;rw[List.map_take];rfl
    show World.ownsRow _ 0 3 1 _ f.back.dropLast.length (kU f.back.dropLast);rw[e1,e2];exact hp
end
section
variable {F:Fixed} {w:World} {own:Own} {G:KG} {M:zD} {n:Nat}
theorem zi.moved {w':World} {own':Own} {ts:Tag→Prop} {n':Nat} (h:zi F w own G M n) (hn:n≤n') (k:Touch ts w w' own own') (hts: ∀t,ts t→t= .mem∨JV t∨zmP t) {m:Mem} {rs:List Run} {ws:List Wkr} {tb:Int→Nat} {fb:Int→Nat→Nat} (hl:ws.length=M.wkrs.length) (hm:zaD w' own' G.X m) (hr:kG w' own' G.th tb fb rs n') (hw:PWk w' own' G.gW ws n'):zi F w' own' { G with tb:=tb,fb:=fb} { M with mem:=m,runs:=rs,wkrs:=ws} n':=
 let h:=h.more hn
 have no: ∀t,¬(t= .mem∨JV t∨zmP t)→ ¬ts t:=fun t ht e=>ht (hts t e)
 have q: ∀t,t≠ .mem→ ¬JV t→ ¬zmP t→ ¬ts t:=fun t h1 h2 h3=>no t fun e=>e.elim h1 fun e=>e.elim h2 h3
 ⟨h.fok,⟨h.num.entries,h.num.pos,h.num.w,h.num.draw,hl.trans h.num.wk,h.num.out⟩,⟨(h.k.move k (q _ nofun id id) (q _ nofun id id)).mine,by obtain ⟨C,ov,a,b,c⟩:=(h.k.move k (q _ nofun id id) (q _ nofun id id)).obj;exact ⟨C,ov,a,⟨b.size,b.lib,b.loop,b.calls,b.code,b.wide,b.narrow,b.rows,b.mem,b.alc,b.clk,b.ring,b.wq,b.tab,b.obj,b.th,b.wk,b.entries,b.pos,b.w,b.draw,b.out⟩,c⟩⟩,
  ⟨(h.fix.move k (q _ nofun id id)).lib,(h.fix.move k (q _ nofun id id)).calls,(h.fix.move k (q _ nofun id id)).code⟩,hm,h.alc.move k (q _ nofun id id),h.clk.move k (q _ nofun id id),h.ring.move k (q _ nofun id id),h.wq.move k (q _ nofun id id),h.tab.move k (q _ nofun id id),h.obj.move k (q _ nofun id id),hr,hw⟩
theorem zoX (p:Wkr×Value) (h:p.1.f.r.length=32):(kR p).length=38:=by simp[kR,BU,h]
theorem PWk.at {gW:Nat} {l:List Wkr} (h:PWk w own gW l n) {i:Nat} (hi:i<l.length): ∃(P S:List Value) (bv:Value),bB w own gW (i*38+4) 142 (P++ [E J (l.getD i {}).slot,E J (l.getD i {}).hand, .bool (l.getD i {}).parked,E Z (l.getD i {}).left]) S .wk (.wback i) n (l.getD i {}).f bv∧P.length=i*38∧zq8 n (l.getD i {})∧
  ∀(w':World) (own':Own) (n':Nat) (ts:Tag→Prop) (k':Wkr) (aW:Value),n≤n'→Touch ts w w' own own'→(∀j,j≠i→ ¬ts (.wback j))→own' gW= .wk→w'.heap[gW]?=V (.cells (P++kR (k',aW)++S).toArray 142 (0,0))→zq8 n' k'→Vv w' own' (.wback i) 3 1 aW k'.f.back.length (kU k'.f.back)→PWk w' own' gW (l.set i k') n':=by
 obtain ⟨h0,L,h1,h2,h3⟩:=h;have hlen:L.length=l.length:=by rw[←h1];simp
 have fC:i<L.length:=Y1;obtain ⟨hok,hrow⟩:=h3 i L[i] (List.getElem?_eq_getElem fC);have e0:l.getD i {}=L[i].1:=by
  rw[List.getD_eq_getElem?_getD,←h1,List.getElem?_map,List.getElem?_eq_getElem fC];rfl
 have hall: ∀p∈L,(kR p).length=38:=fun p hp=>by
  obtain ⟨j,hj,e⟩:=List.getElem_of_mem hp;have:=(h3 j p (by rw[List.getElem?_eq_getElem hj,e])).1;exact zoX p this.f.len
 have hpl: ∀K:List (Wkr×Value),(∀p∈K,(kR p).length=38)→(K.flatMap kR).length=K.length*38:=fun K=>by
  induction K with
  |nil=>intro _;rfl
  |cons a K ih=>
   intro hK;rw[List.flatMap_cons,List.length_append,ih fun p hp=>hK p (List.mem_cons_of_mem _ hp),hK a List.mem_cons_self,List.length_cons];omega
 have hP:((L.take i).flatMap kR).length=i*38:=by
  rw[hpl _ fun p hp=>hall p (List.mem_of_mem_take hp),List.length_take,Nat.min_eq_left Y1]
 rw[e0];refine ⟨(L.take i).flatMap kR,(L.drop (i+1)).flatMap kR,L[i].2,⟨⟨?_,by simp[hP]⟩,h0,hrow,hok.f⟩,hP,hok,fun w' own' n' ts k' aW hn k hts hown fO hk' hr'=>?_⟩
 ·rw[h2];have:=zaN (f:=kR) L i fC;rw[this];simp[kR,List.append_assoc]
 ·refine ⟨hown,L.set i (k',aW),?_,?_,fun j p hp=>?_⟩
  ·rw[List.map_set,h1]
  ·rw[fO,zek L i fC (k',aW)]
  ·rw[List.getElem?_set] at hp;by_cases e:i=j
   ·subst e;rw[if_pos rfl,if_pos fC] at hp;injection hp with hp
    subst hp;exact ⟨hk',hr'⟩
   ·rw[if_neg e] at hp;obtain ⟨a,b⟩:=h3 j p hp;exact ⟨⟨a.slot,a.hand,a.left,a.f.more hn⟩,b.move k (hts j (Ne.symm e))⟩
theorem zi.zoo (h:zi F w own G M n) {i:Nat} (hi:i<F.workers): ∃(P S:List Value) (bv:Value),bB w own G.gW (i*38+4) 142 P S .wk (.wback i) n (zl M i).f bv∧
  ∀(w':World) (own':Own) (n':Nat) (f':Frame) (aW:Value) (m':Mem),n≤n'→Touch (fun t=>t= .wk∨t= .wback i∨t= .mem) w w' own own'→bB w' own' G.gW (i*38+4) 142 P S .wk (.wback i) n' f' aW→zaD w' own' G.X m'→zi F w' own' G (Zu { M with mem:=m'} i none f') n':=by
 have hlen:i<M.wkrs.length:=by rw[h.num.wk];exact hi
 obtain ⟨P,S,bv,h1,h2,h3,h4⟩:=h.wk.at hlen;refine ⟨_,S,bv,h1,fun w' own' n' f' aW m' hn k hf hm=>?_⟩;refine h.moved (m:=m') (rs:=M.runs) (ws:=M.wkrs.set i { zl M i with f:=f'}) hn k (fun t ht=>?_) Y7 hm ((h.runs.move k ⟨fun e=>Y37,fun _=>⟨fun e=>Y37,fun e=>Y37,fun _=>⟨fun e=>Y37,fun e=>Y37⟩⟩⟩).more hn) ?_
 ·rcases ht with rfl|rfl|rfl
  ·exact Or.inr (Or.inr trivial)
  ·exact Or.inr (Or.inr trivial)
  ·exact Or.inl rfl
 ·refine h4 w' own' n' _ { zl M i with f:=f'} aW hn k (fun j hj e=>by rcases e with e|e|e<;>cases e;exact hj rfl) hf.mine ?_ ⟨h3.slot,h3.hand,h3.left,hf.ok⟩ hf.row;rw[hf.lens.obj];simp[kR,List.append_assoc,zl]
theorem zf8 {l:List Run} {r x:Run} (h:x∈Zb l r):x=r∨(x∈l∧x.id≠r.id):=by
 unfold Zb at h;obtain ⟨s,hs,e⟩:=List.mem_map.1 h;split at e
 ·exact Or.inl e.symm
 ·rename_i hne;exact Or.inr ⟨e▸hs,e▸fun e2=>hne (by simp[e2])⟩
def zxA (id:Int) (j:Nat) (t:Tag):Prop:=t= .fr id j∨t= .back id j∨t= .mem
theorem kG.Zb {w':World} {own':Own} {ts:Tag→Prop} {n':Nat} {th:Nat} {tb:Int→Nat} {fb:Int→Nat→Nat} {l:List Run} (h:kG w own th tb fb l n) {r r':Run} (hr:zR l r.id=some r) (hid:r'.id=r.id) (hn:n≤n') (k:Touch ts w w' own own') (hmap: ¬ts .map) (hts: ∀x,x≠r.id→ ¬ts (.thr x)∧ ¬ts (.row x)∧ ∀i,¬ts (.fr x i)∧ ¬ts (.back x i)) (hp:Jh w' own' tb fb r' n'):kG w' own' th tb fb (Zb l r') n':=by
 obtain ⟨N,hm,hN⟩:=h.map;have hr':zR l r'.id=some r:=by rw[hid];exact hr
 refine ⟨by rw[ziz];exact h.nod,(k.at hmap h.mine hm.lt).2,⟨N,(hm.of_block (k.at hmap h.mine hm.lt).1).same fun x _=>?_,by omega⟩,fun x hx=>?_⟩
 ·rw[vV h.nod hr'];split
  ·rename_i e;rw[e,hr'];rfl
  ·rfl
 ·rcases zf8 hx with e|⟨hm,hne⟩
  ·rw[e];exact hp
  ·rw[hid] at hne;obtain ⟨a,b,c⟩:=hts x.id hne;exact ((h.each x hm).move k a b (fun i=>(c i).1) fun i=>(c i).2).more hn
theorem zmf {fb:Int→Nat→Nat} {r r':Run} (h:r'.l.length=r.l.length) (hid:r'.id=r.id):Vo fb r'=Vo fb r:=by unfold Vo;rw[h,hid]
theorem zi.JC (h:zi F w own G M n) {id:Int} {r:Run} (hr:zR M.runs id=some r) {j:Nat} {fr:Fr} (hj:r.l[j]?=some fr): ∃(bv:Value),bB w own (G.fb id j) 0 240 [] [.bool fr.lib,E Z fr.num] (.fr id j) (.back id j) n fr.f bv∧
  ∀(w':World) (own':Own) (n':Nat) (f':Frame) (aW:Value) (m':Mem),n≤n'→Touch (zxA id j) w w' own own'→bB w' own' (G.fb id j) 0 240 [] [.bool fr.lib,E Z fr.num] (.fr id j) (.back id j) n' f' aW→zaD w' own' G.X m'→zi F w' own' G { M with mem:=m',runs:=Zb M.runs { r with l:=r.l.set j { fr with f:=f'}}} n':=by
 obtain ⟨hm,rfl⟩:=Za hr;have hP:=h.runs.each r hm;have hF:=hP.frs j fr hj;obtain ⟨bv,ho,hrow⟩:=hF.obj;refine ⟨bv,⟨⟨by simpa using ho,rfl⟩,hF.mine,hrow,hF.ok⟩,fun w' own' n' f' aW m' hn k hf hmm=>?_⟩;have hno: ∀t,t≠ .fr r.id j→t≠ .back r.id j→t≠ .mem→ ¬zxA r.id j t:=fun t a b c e=>e.elim a fun e=>e.elim b c;refine h.moved (m:=m') (rs:=Kn.Zb M.runs { r with l:=r.l.set j { fr with f:=f'}}) (ws:=M.wkrs) hn k (fun t ht=>?_) rfl hmm ?_ ((h.wk.move k ⟨hno _ nofun nofun nofun,fun _=>hno _ nofun nofun nofun⟩).more hn)
 ·rcases ht with rfl|rfl|rfl
  ·exact Or.inr (Or.inl trivial)
  ·exact Or.inr (Or.inl trivial)
  ·exact Or.inl rfl
 ·refine h.runs.Zb hr rfl hn k (hno _ nofun nofun nofun) (fun x hx=>⟨hno _ nofun nofun nofun,hno _ nofun nofun nofun,fun i=>⟨hno _ (fun e=>by injection e with e;exact hx e) nofun nofun,hno _ nofun (fun e=>by injection e with e;exact hx e) nofun⟩⟩) ?_;obtain ⟨lv,o1,o2⟩:=hP.obj;have hjl:j<r.l.length:=(List.getElem?_eq_some_iff.1 hj).1;refine ⟨(k.at (hno (.thr r.id) nofun nofun nofun) hP.mine (zo o1)).2,hP.id,hP.woken,by simpa using hP.few,⟨lv,(k.at (hno (.thr r.id) nofun nofun nofun) hP.mine (zo o1)).1.trans o1,?_⟩,fun i fx hi=>?_⟩
  ·have:=o2.move k (hno (.row r.id) nofun nofun nofun);rw[zmf (r':={ r with l:=r.l.set j { fr with f:=f'}}) (r:=r) Y7 rfl];show Vv w' own' (.row r.id) _ 1 lv (r.l.set j { fr with f:=f'}).length _;rw[List.length_set];exact this
  ·simp only[List.getElem?_set] at hi;by_cases e:j=i
   ·subst e;rw[if_pos rfl,if_pos hjl] at hi;injection hi with hi
    subst hi;exact ⟨hf.mine,hf.ok,hF.num,aW,by simpa using hf.lens.obj,hf.row⟩
   ·rw[if_neg e] at hi;exact ((hP.frs i fx hi).move k (hno _ (fun e2=>by injection e2 with _ e2;exact e e2.symm) nofun nofun) (hno _ nofun (fun e2=>by injection e2 with _ e2;exact e e2.symm) nofun)).more hn
def VZ (G:KG) (M:zD) (i:Nat) (t:Option Int) (b o:Nat):Prop:=match t with
 |none=>b=G.gW∧o=i*38+4
 |some id=> ∃r,zR M.runs id=some r∧r.l≠ []∧b=G.fb id (r.l.length - 1)∧o=0
theorem zaS {l:List Fr} (h:l≠ []):l[l.length - 1]?=V (l.getLastD {}):=by
 rw[←List.getLast?_eq_getElem?]
 rw[List.getLastD_eq_getLast?]
 cases hl:l.getLast? with
 |none=>exact absurd (List.getLast?_eq_none_iff.1 hl) h
 |some x=>rfl
theorem zrt {l:List Fr} (h:l≠ []) (x:Fr):l.set (l.length - 1) x=l.dropLast++ [x]:=by
 have hl:0<l.length:=List.length_pos_iff.2 h;conv=>lhs;rw[←List.dropLast_concat_getLast h]
 rw[List.set_append_right _ _ Y7];simp
structure Fr1 (F:Fixed) (w:World) (own:Own) (G:KG) (M:zD) (n:Nat) (i:Nat) (t:Option Int) (b o:Nat) (ty:TypeId) (P S:List Value) (tb tk:Tag) (bv:Value):Prop where
 fr:bB w own b o ty P S tb tk n (zA M i t) bv
 ne:tb≠tk
 ntb:tb≠ .mem∧tk≠ .mem∧(JV tb∨zmP tb)∧(JV tk∨zmP tk)
 back: ∀(w':World) (own':Own) (n':Nat) (f':Frame) (aW:Value) (m':Mem),n≤n'→Touch (fun t=>t=tb∨t=tk∨t= .mem) w w' own own'→bB w' own' b o ty P S tb tk n' f' aW→zaD w' own' G.X m'→zi F w' own' G (Zu { M with mem:=m'} i t f') n'
theorem zi.frame (h:zi F w own G M n) {i:Nat} (hi:i<F.workers) {t:Option Int} {b o:Nat} (fa:VZ G M i t b o): ∃ty P S tb tk bv,Fr1 F w own G M n i t b o ty P S tb tk bv:=by
 cases t with
 |none=>
  obtain ⟨rfl,rfl⟩:=fa
  obtain ⟨P,S,bv,h1,h2⟩:=h.zoo hi
  exact ⟨_,P,S, .wk, .wback i,bv,⟨h1,nofun,⟨nofun,nofun,Or.inr trivial,Or.inr trivial⟩,h2⟩⟩
 |some id=>
  obtain ⟨r,hr,hne,rfl,rfl⟩:=fa
  obtain ⟨bv,h1,h2⟩:=h.JC hr (zaS hne)
  have e:zA M i (some id)=(zZ r).f:=by unfold zA;simp only[hr]
  refine ⟨_,[],_, .fr id (r.l.length - 1), .back id (r.l.length - 1),bv,⟨by rw[e];exact h1,nofun,⟨nofun,nofun,Or.inl trivial,Or.inl trivial⟩,fun w' own' n' f' aW m' hn k hf hm=>?_⟩⟩
  have:=h2 w' own' n' f' aW m' hn k hf hm
  rw[zrt hne] at this
  unfold Zu
  simp only[hr]
  exact this
end
section
variable {F:Fixed} {w:World} {own:Own} {G:KG} {M:zD} {n:Nat}
theorem zi.bV (h:zi F w own G M n) {i:Nat} (hi:i<F.workers):i<M.wkrs.length:=by rw[h.num.wk];exact hi
theorem zi.vU (h:zi F w own G M n) {i:Nat} (hi:i<F.workers):w.cell? ⟨G.gW,i*38,O⟩=V (E J (zl M i).slot)∧w.cell? ⟨G.gW,i*38+1,O⟩=V (E J (zl M i).hand)∧w.cell? ⟨G.gW,i*38+2,O⟩=V (.bool (zl M i).parked)∧w.cell? ⟨G.gW,i*38+3,O⟩=V (E Z (zl M i).left)∧ ∀j,w.frozen? ⟨G.gW,j,O⟩=false:=by
 obtain ⟨P,S,bv,h1,h2,h3,h4⟩:=h.wk.at (h.bV hi);have ho:=h1.lens.obj;have q: ∀j v,j<4→ [Value.int J (zl M i).slot,E J (zl M i).hand, .bool (zl M i).parked,E Z (zl M i).left][j]?=some v→w.cell? ⟨G.gW,i*38+j,O⟩=some v:=fun j v hj hv=>by
  rw[ze ho,List.getElem?_toArray,List.append_assoc,List.append_assoc,List.getElem?_append_right Y1,List.getElem?_append_left Y8,h2,Nat.add_sub_cancel_left];exact hv
 exact ⟨q 0 _ Y2 rfl,q 1 _ Y2 rfl,q 2 _ Y2 rfl,q 3 _ Y2 rfl,zF ho⟩
theorem zi.Ja (h:zi F w own G M n) {i:Nat} (hi:i<F.workers):zq8 n (zl M i):=by
 obtain ⟨P,S,bv,h1,h2,h3,h4⟩:=h.wk.at (h.bV hi);exact h3
theorem zi.jB (h:zi F w own G M n) {i:Nat} (hi:i<F.workers) {j:Nat} (hj:j<4) {v:Value} {k':Wkr} (e: [Value.int J (zl M i).slot,E J (zl M i).hand, .bool (zl M i).parked,E Z (zl M i).left].set j v= [Value.int J k'.slot,E J k'.hand, .bool k'.parked,E Z k'.left]) (hf:k'.f=(zl M i).f) (hs:Zm k'.slot) (hh:Zm k'.hand) (hl:0≤k'.left∧k'.left≤100):
  zi F (w.setCell ⟨G.gW,i*38+j,O⟩ v) own G (setW M i k') n∧Touch (fun t=>t= .wk) w (w.setCell ⟨G.gW,i*38+j,O⟩ v) own own:=by
 obtain ⟨P,S,bv,h1,h2,h3,h4⟩:=h.wk.at (h.bV hi);have hk:Touch (fun t=>t= .wk) w (w.setCell ⟨G.gW,i*38+j,O⟩ v) own own:=⟨(Keeps.refl _ w).setCell (p:=⟨G.gW,i*38+j,O⟩) h1.mine _,fun _ _=>rfl⟩;have hw:PWk (w.setCell ⟨G.gW,i*38+j,O⟩ v) own G.gW (M.wkrs.set i k') n:=by
  refine h4 _ own n (fun t=>t= .wk) k' bv (Nat.le_refl n) hk (fun _ _=>nofun) h1.mine ?_ ⟨hs,hh,hl,by rw[hf];exact h3.f⟩ ?_
  ·rw[zy h1.lens.obj];have e1:=set_mid P ([Value.int J (zl M i).slot,E J (zl M i).hand, .bool (zl M i).parked,E Z (zl M i).left]++BU (zl M i).f bv) S j Y8 v;have e3:([Value.int J (zl M i).slot,E J (zl M i).hand, .bool (zl M i).parked,E Z (zl M i).left]++BU (zl M i).f bv).set j v= [Value.int J k'.slot,E J k'.hand, .bool k'.parked,E Z k'.left]++BU (zl M i).f bv:=by
    rw[List.set_append_left _ _ Y50,e]
   rw[e3,h2] at e1;rw[List.setIfInBounds_toArray];have e2:(P++ [Value.int J (M.wkrs.getD i {}).slot,E J (M.wkrs.getD i {}).hand, .bool (M.wkrs.getD i {}).parked,E Z (M.wkrs.getD i {}).left]++BU (M.wkrs.getD i {}).f bv++S).set (i*38+j) v=P++kR (k',bv)++S:=by
    rw[List.append_assoc P];exact e1.trans (by unfold kR;rw[hf])
   rw[e2]
  ·rw[hf];exact h1.row.move hk nofun
 exact ⟨h.zv7 (hk.mono fun t e=>by rw[e];trivial) (Nat.le_refl n) Y7 hw,hk⟩
theorem Va {M:zD} {i:Nat} (hi:i<M.wkrs.length) (k:Wkr):zl (setW M i k) i=k:=by
 unfold zl setW;rw[List.getD_eq_getElem?_getD];simp[hi]
theorem Gt (M:zD) (i:Nat) (a b:Wkr):setW (setW M i a) i b=setW M i b:=by
 unfold setW;simp
theorem zma (h:zi F w own G M n):Calls Tp 100 #[Y (V ⟨G.K,0,O⟩)] w fun r w'=>r= .returned (E Z F.cells)∧Below w.heap.size w w':=by
 have c0:w.cell? ⟨G.K,5,O⟩=V (E Z F.wide):=h.Vb fun _ _ hc=>hc.wide;have c1:w.cell? ⟨G.K,6,O⟩=V (E Z F.narrow):=h.Vb fun _ _ hc=>hc.narrow;have hwd:=h.fok.wide;have hw:IntKind.i64.wrap (F.wide+F.narrow)=F.wide+F.narrow:=gT;unfold Fixed.cells;clear h hwd;exact J97
theorem zoK (h:zi F w own G M n):Calls Tp 42 #[Y (V ⟨G.K,0,O⟩)] w fun r w'=>r= .returned (E Z F.base)∧w=w':=by
 have c0:=h.zj7;have hwd:=h.fok.workers;obtain ⟨k,hk⟩: ∃k,k=F.workers:=⟨_,rfl⟩;unfold Fixed.base;rw[←hk] at c0 hwd ⊢;have dL:(1:Int)≤(k:Int)∧(k:Int)≤64:=Y1;have hw:IntKind.i64.wrap (8* (k:Int))=8* (k:Int):=gT;have hw2:IntKind.i64.wrap (17+8* (k:Int))=17+8* (k:Int):=gT;clear h hwd hk;exact zxT
theorem zgq (i:Int) (w:World) (hi:0≤i∧i<64) (p:Value):Calls Tp 98 #[p,E Z i] w fun r w'=>r= .returned (E J (17+3*i))∧w=w':=by
 have hw:IntKind.i64.wrap (3*i)=3*i:=gT;have hw2:IntKind.i64.wrap (17+3*i)=17+3*i:=gT;have hw3:IntKind.u64.wrap (17+3*i)=17+3*i:=Y22;go_enter Tryz.func98,Tryz.ntmps98;go_wp2_with fail;go_ret;exact ⟨rfl,rfl⟩
theorem zom (h:zi F w own G M n) (a:Int) (ha:Zm a):Calls Tp 225 #[Y (V ⟨G.K,0,O⟩),E J a] w fun r w'=>r= .returned (E J (zam M.mem a))∧KO F w own G M n w':=by
 have c0:=h.zcR
 obtain ⟨gc,gw,hm,oF⟩:=h.mem
 have HL:=Y0 (zcs hm a ha)
 have H:=Y0 h
 have Qt:=Y0 oF
 have e1:zam M.mem a=match M.mem.acc 0 a 0 0 with|some p=>p.1|none=>0:=by
  unfold zam Mem.acc
  split<;>rfl
 have e2: ∀p,M.mem.acc 0 a 0 0=some p→p.2=M.mem:=fun p hp=>by
  unfold Mem.acc at hp
  split at hp
  ·cases hp
  ·injection hp with hp;rw[←hp];rfl
 rw[e1]
 have HE:=Y0 e2
 clear h hm oF e1 e2
 generalize M.mem.acc 0 a 0 0=r at HL HE ⊢
 cases r with
 |none=>
  go_enter Tryz.func225,Tryz.ntmps225
  go_wp2_with fail
  refine HL.out.mono ?_
  rintro e w1 ⟨⟨ev,rfl,hev⟩,hb⟩
  have HB:=Y0 hb
  clear hb
  go_wp2_with fail
  go_ret
  exact ⟨rfl,KO.below H.out HB.out⟩
 |some p=>
  obtain ⟨was,m'⟩:=p
  go_enter Tryz.func225,Tryz.ntmps225
  go_wp2_with fail
  refine HL.out.mono ?_
  rintro e w1 ⟨rfl,hm1,hk1⟩
  have hme:=HE.out _ rfl
  simp only at hme
  subst hme
  have HK:=Y0 (H.out.ztT Qt.out hk1 hm1)
  clear hm1 hk1
  go_wp2_with fail
  go_ret
  exact ⟨rfl,HK.out⟩
end
section
variable {F:Fixed} {w:World} {own:Own} {G:KG} {M:zD} {n:Nat}
theorem zi.ztx {w':World} {a':Alc} {m':Mem} (h:zi F w own G M n) {gc gw:Nat} {v v':Value} (hm0:Zn w G.X gc gw M.mem) (hm: ∀b,b=G.X∨b=gc∨b=gw→own b= .mem) (ha: ∀b,OfA G.A v b→own b= .alc) (hp:VR w' G.A G.X v' a') (hmm:Zn w' G.X gc gw m') (hk:Keeps (fun b=>b=G.X∨b=gc∨b=gw∨OfA G.A v b) w w') (hv: ∀b,v'.ownBlock=some b→v.ownBlock=some b∨w.heap.size≤b):KO F w own G { M with alc:=a',mem:=m'} n w':=by
 have k:Touch (fun t=>t= .alc∨t= .mem) w w' own (ext own w.heap.size .alc):=touch_of hk fun b hb=>by
  rcases hb with e|e|e|e
  ·exact Or.inr (hm b (Or.inl e))
  ·exact Or.inr (hm b (Or.inr (Or.inl e)))
  ·exact Or.inr (hm b (Or.inr (Or.inr e)))
  ·exact Or.inl (ha b e)
 refine ⟨_,h.zvk k ⟨v',hp,fun b hb=>?_⟩ ⟨gc,gw,hmm,fun b hb=>(Bh ?_).trans (hm b hb)⟩,k.mono fun _ e=>by rcases e with e|e<;>(rw[e];nofun)⟩
 ·rcases hb with e|e
  ·exact Zo (Or.inl (ha b (Or.inl e)))
  ·rcases hv b e with e|e
   ·exact Zo (Or.inl (ha b (Or.inr e)))
   ·exact Zo (Or.inr e)
 ·obtain ⟨l1,l2,l3⟩:=hm0.lt;rcases hb with rfl|rfl|rfl<;>assumption
theorem zi.zys {w':World} {l:List Vd} (h:zi F w own G M n) {go N n':Nat} (ho: ∀b,b=G.aA∨b=go→own b= .obj) (hn:n≤n') (hN:N≤n') (hk:Keeps (fun b=>b=go) w w') (hp:VE w' G.aA go l N):KO F w own G { M with objs:=l} n' w':=by
 have k:Touch (· = .obj) w w' own (ext own w.heap.size .obj):=touch_of hk fun b hb=>ho b (Or.inr hb);exact ⟨_,h.ztS k hn ⟨go,N,hp,fun b hb=>Zo (Or.inl (ho b hb)),hN⟩,k.mono fun _ e=>by rw[e];nofun⟩
theorem kbe (h:zi F w own G M n) (id s:Int) (hid:Zm id) (hs:s=1∨s=2∨s=3):Calls Tp 173 #[Y (V ⟨G.T,0,O⟩),E J id,E Z s] w fun e w'=>(∃ev,e= .returned ev)∧KO F w own G { M with tab:=beT M.tab id s} n w':=by
 obtain ⟨gt,N,hT,ho,hN⟩:=h.tab;exact (zve hT id s hid hs).mono fun e w' ⟨h1,h2,h3⟩=>⟨h1,h.zhI ho (Nat.le_refl n) hN h3 h2⟩
theorem zas (w:World) (q:Nat):Below w.heap.size w (w.drewN q):=⟨rfl,rfl,rfl,Nat.le_refl _,fun _ _=>rfl⟩
def zxB (F:Fixed) (w:World) (own:Own) (G:KG) (M:zD) (n:Nat) (r:Option (Int×List Zt)) (e:Ending) (w':World):Prop:=match r with
 |none=>(∃ev,e=Rt (.tuple #[E J 0,ev])∧Som ev)∧KO F w own G M n w'
 |some (id,l')=>e=Rt (.tuple #[E J id, .nilIface])∧KO F w own G { M with tab:=l'} (n+1) w'
theorem zyC (h:zi F w own G M n) (home:Int) (hh:Zm home) (hn:n≤1000000):Calls Tp 102 #[Y (V ⟨G.T,0,O⟩),E J home] w (zxB F w own G M n (gF M.tab home)):=by
 obtain ⟨gt,N,hT,ho,hN⟩:=h.tab
 have H:=zqu hT home hh Y1
 generalize gF M.tab home=r at H ⊢
 cases r with
 |none=>exact H.mono fun e w' ⟨h1,h2,h3⟩=>⟨h1,h.zhI ho (Nat.le_refl n) hN h3 h2⟩
 |some p=>exact H.mono fun e w' ⟨h1,h2,h3⟩=>⟨h1,h.zhI ho Y1 Y1 h3 h2⟩
theorem zg6 (h:zi F w own G M n) (id k:Int) (hid:Zm id):Calls Tp 241 #[Y (V ⟨G.aA,0,O⟩),E J id,E Z k] w (KU w (Vf M.objs id k)):=by
 obtain ⟨go,N,hO,ho,hN⟩:=h.obj;exact zkX hO id k hid
theorem zvV (h:zi F w own G M n) (k addr:Int) (hk0:0≤k) (ha:Zm addr) (hn:n≤1000000):Calls Tp 279 #[Y (V ⟨G.aA,0,O⟩),E Z k,E J addr] w fun e w'=>(∃ev,e=Rt (.tuple #[E J (kg M.objs k addr).1,ev]))∧KO F w own G { M with objs:=(kg M.objs k addr).2} (n+1) w':=by
 obtain ⟨go,N,hO,ho,hN⟩:=h.obj;exact (zlA hO k addr hk0 ha Y1).mono fun e w' ⟨h1,h2,h3⟩=>⟨h1,h.zys ho Y1 Y1 h3 h2⟩
theorem zym (h:zi F w own G M n) (v:Int) (hv:Zm v):Calls Tp 49 #[Y (V ⟨G.R,0,O⟩),E J v] w fun e w'=>(∃ev,e= .returned ev)∧KO F w own G { M with ring:=Ga M.ring v} n w':=by
 obtain ⟨gr,hR,ho⟩:=h.ring;exact (zoc hR v hv).mono fun e w' ⟨h1,h2,h3⟩=>⟨h1,h.znC ho h3 h2⟩
theorem zuY (h:zi F w own G M n):Calls Tp 278 #[Y (V ⟨G.R,0,O⟩)] w fun e w'=>e=Rt (.tuple #[E J (M.ring.headD 0), .bool (!M.ring.isEmpty)])∧KO F w own G { M with ring:=M.ring.drop 1} n w':=by
 obtain ⟨gr,hR,ho⟩:=h.ring;exact (zmY hR).mono fun e w' ⟨h1,h2,h3⟩=>⟨h1,h.znC ho h3 h2⟩
theorem zt9 (h:zi F w own G M n) (k:Nat) (hk:k≤4096):Calls Tp 101 #[Y (V ⟨G.A,0,O⟩),E Z k,E Z 64] w fun e w'=>match kL M.alc M.mem k 64 with
  |none=>(∃ev,e=Rt (.tuple #[E Z 0,ev])∧Som ev)∧Below w.heap.size w w'
  |some (p,a',m')=>e=Rt (.tuple #[E Z p, .nilIface])∧KO F w own G { M with alc:=a',mem:=m'} n w':=by
 obtain ⟨gc,gw,hm,oF⟩:=h.mem
 obtain ⟨v,hA,Ld⟩:=h.alc
 have H:=zse hA hm k hk
 generalize kL M.alc M.mem k 64=r at H ⊢
 cases r with
 |none=>exact H
 |some p=>
  obtain ⟨p,a',m'⟩:=p
  exact H.mono fun e w' ⟨h1,v',h2,h3,h4,h5⟩=>⟨h1,h.ztx hm oF Ld h2 h3 h4 h5⟩
theorem zzi (h:zi F w own G M n) (k:Nat) (hk:k≤100000):Calls Tp 103 #[Y (V ⟨G.A,0,O⟩),E Z k] w fun e w'=>(∃ev,e= .returned ev)∧KO F w own G { M with alc:=(zdW M.alc M.mem k).1,mem:=(zdW M.alc M.mem k).2} n w':=by
 obtain ⟨gc,gw,hm,oF⟩:=h.mem;obtain ⟨v,hA,Ld⟩:=h.alc;exact (zoW hA hm k hk).mono fun e w' ⟨ev,v',h1,h2,h3,h4,h5⟩=>⟨⟨ev,h1⟩,h.ztx hm oF Ld h2 h3 h4 h5⟩
end
theorem VK {a b c:World} (h:Below a.heap.size a b) (k:Below b.heap.size b c):Below a.heap.size a c:=h.trans (k.mono h.size)
section
variable {F:Fixed} {w:World} {own:Own} {G:KG} {M:zD} {n:Nat}
theorem zi.drew (h:zi F w own G M n):zi F w.drew own G M n:=h.move (Zv w own)
theorem zi.drewN (h:zi F w own G M n) (q:Nat):zi F (w.drewN q) own G M n:=h.move (ZW w own q)
theorem KO.drew {w':World} (h:KO F w.drew own G M n w'):KO F w own G M n w':=KO.trans (Zv w own) h
theorem KO.drewN {w':World} {q:Nat} (h:KO F (w.drewN q) own G M n w'):KO F w own G M n w':=KO.trans (ZW w own q) h
theorem KO.more {w1:World} {n':Nat} (h:KO F w own G M n w1) (hn:n≤n'):KO F w own G M n' w1:=by
 obtain ⟨aC,h1,t1⟩:=h;exact ⟨_,h1.more hn,t1⟩
theorem zi.ZB (h:zi F w own G M n) {id:Int} {r:Run} (hr:zR M.runs id=some r):w.cell? ⟨G.tb id,0,O⟩=V (E J id)∧(∃lv,w.cell? ⟨G.tb id,1,O⟩=some lv∧Vv w own (.row id) 238 1 lv r.l.length (Vo G.fb r))∧w.cell? ⟨G.tb id,2,O⟩=V (E J r.woken)∧(id≠0∧Zm id)∧ ∀j,w.frozen? ⟨G.tb id,j,O⟩=false:=by
 obtain ⟨hm,rfl⟩:=Za hr;have hP:=h.runs.each r hm;obtain ⟨lv,ho,hrow⟩:=hP.obj;exact ⟨by rw[ze ho];rfl,⟨lv,by rw[ze ho];rfl,hrow⟩,by rw[ze ho];rfl,hP.id,zF ho⟩
end
section
variable {F:Fixed} {w:World} {own:Own} {G:KG} {M:zD} {n:Nat}
theorem zi.Vz (h:zi F w own G M n):w.cell? ⟨G.K,1007,O⟩=V (Y (V ⟨G.X,0,O⟩))∧w.cell? ⟨G.K,1008,O⟩=V (Y (V ⟨G.A,0,O⟩))∧w.cell? ⟨G.K,1009,O⟩=V (Y (V ⟨G.C,0,O⟩))∧w.cell? ⟨G.K,1010,O⟩=V (Y (V ⟨G.R,0,O⟩))∧w.cell? ⟨G.K,1011,O⟩=V (Y (V ⟨G.Q,0,O⟩))∧w.cell? ⟨G.K,1012,O⟩=V (Y (V ⟨G.T,0,O⟩))∧w.cell? ⟨G.K,1013,O⟩=V (Y (V ⟨G.aA,0,O⟩))∧w.cell? ⟨G.K,1014,O⟩=V (.map (some G.th)):=
 ⟨h.zcR,h.zka,h.ztH,h.zqv,h.zw6,h.zkh,h.ztC,h.hcell⟩
theorem zi.stays (h:zi F w own G M n) {id:Int} {r:Run} (hr:zR M.runs id=some r) {W:World} (hW:Below w.heap.size w W):Below w.heap.size w W∧W.cell? ⟨G.K,1012,O⟩=V (Y (V ⟨G.T,0,O⟩))∧W.cell? ⟨G.tb id,0,O⟩=V (E J id):=⟨hW,(h.below hW).zkh,((h.below hW).ZB hr).1⟩
theorem Touch.other {w':World} {own':Own} (k:Touch (fun t=>t≠ .other) w w' own own') {b:Nat} (hb:own b= .other) (hl:b<w.heap.size):w'.heap[b]?=w.heap[b]?∧own' b= .other∧b<w'.heap.size:=
 ⟨(k.at (t:= .other) (fun e=>e rfl) hb hl).1,(k.at (t:= .other) (fun e=>e rfl) hb hl).2,Nat.lt_of_lt_of_le hl k.keeps.size⟩
theorem zi.zel (h:zi F w own G M n) {id:Int} {r:Run} (hr:zR M.runs id=some r):own (G.tb id)= .thr id∧G.tb id<w.heap.size:=by
 obtain ⟨hm,rfl⟩:=Za hr;have hP:=h.runs.each r hm;obtain ⟨lv,ho,-⟩:=hP.obj;exact ⟨hP.mine,zo ho⟩
end
open Go.RowKit Go.Maps Asm
section
variable {F:Fixed} {w:World} {own:Own} {G:KG} {M:zD} {n:Nat}
theorem zi.zo8 (h:zi F w own G M n):w.cell? ⟨G.K,1015,O⟩=V (Sl (V ⟨G.gW,0,O⟩) F.workers F.workers)∧w.cell? ⟨G.K,1016,O⟩=V (E Z M.entries):=by
 obtain ⟨C,ov,ho,hc,-⟩:=h.k.obj;exact ⟨(ze ho _).trans hc.wk,(ze ho _).trans hc.entries⟩
theorem jG (h:zi F w own G M n):Calls Tp 11 #[Y (V ⟨G.K,0,O⟩)] w fun e w'=>e=Rt (E Z M.entries)∧w'=w:=by
 obtain ⟨_,k⟩:=h.zo8;clear h;go_enter Tryz.func11,Tryz.ntmps11;go_wp2_with fail;go_ret;exact ⟨rfl,rfl⟩
def wk5 (k:Wkr):Value:= .agg #[E J k.slot,E J k.hand, .bool k.parked,E Z k.f.pc,E Z k.left]
theorem zfr (h:zi F w own G M n) {i:Nat} (hi:i<F.workers):Calls Tp 57 #[Y (V ⟨G.K,0,O⟩),E Z (i:Int)] w fun e w'=>e=Rt (.tuple #[wk5 (zl M i), .bool true])∧Below w.heap.size w w':=by
 obtain ⟨k,_⟩:=h.zo8;have hK:=h.klt;obtain ⟨x0,x1,x2,x3,xf⟩:=h.vU hi;obtain ⟨P,S,bv,h1,h2,h3,h4⟩:=h.wk.at (h.bV hi);have x4:w.cell? ⟨G.gW,i*38+4,O⟩=V (E Z (zl M i).f.pc):=by
  rw[ze h1.lens.obj,List.getElem?_toArray,List.append_assoc,List.append_assoc,List.getElem?_append_right Y1,h2,Nat.add_sub_cancel_left];rfl
 have hg:=zo h1.lens.obj;have hw:=h.fok.workers;have dH:(0:Int)≤(i:Int)∧(i:Int)<(F.workers:Int):=Y1;clear h h1 h2 h3 h4;generalize zl M i=r at*;go_enter Tryz.func57,Tryz.ntmps57;go_wp2_with fail;go_region;go_wp2_with fail;refine bodyPost_ret (v:= .tuple #[wk5 r, .bool true]) (by simp[results,Tryz.results57,go_sem,wk5]) rfl ⟨rfl,?_⟩;exact Ki ((Below.refl _ _).alloc (Nat.le_refl _) _) 1
end
end Kn
namespace Kn
open Go.RowKit Asm
section
variable {F:Fixed} {w:World} {own:Own} {G:KG} {M:zD} {n:Nat}
theorem zi.reg (h:zi F w own G M n) {i:Nat} (hi:i<F.workers) {t:Option Int} {b o:Nat} (fa:VZ G M i t b o) (k:Nat) (hk:k<32):w.cell? ⟨b,o+1+k,O⟩=V (E J (rg (zA M i t) k))∧Zm (rg (zA M i t) k)∧w.frozen? ⟨b,o+1+k,O⟩=false∧b<w.heap.size:=by
 obtain ⟨ty,P,S,tb,tk,bv,hf⟩:=h.frame hi fa;exact ⟨hf.fr.cells.2.2.1 k hk,Vm hf.fr.ok.r _,hf.fr.cells.2.2.2 _,hf.fr.lens.lt⟩
theorem zi.know (h:zi F w own G M n):Calls Tp 112 #[Y (V ⟨G.C,0,O⟩)] w fun e w'=>e=Rt (E J M.clk.now)∧w'=w:=by
 obtain ⟨hb,hm,v,ab,N,K,hC,-⟩:=h.clk;exact zj5 hC
theorem zoa (h:zi F w own G M n) {i:Nat} (hi:i<F.workers) {t:Option Int} {b o:Nat} (fa:VZ G M i t b o) (x:zx) (ho:x.op=23∨x.op=41∨x.op=37∨x.op=40∨x.op=42∨x.op=29∨x.op=38∨x.op=39∨x.op=47) (hb:0≤x.b∧x.b<32) (hw:M.w=i):
  Calls Tp 230 #[Y (V ⟨G.K,0,O⟩),Y (V ⟨G.gW,i*38,O⟩),E J (t.getD 0),Y (V ⟨b,o,O⟩), .agg (zS x)] w fun r w'=>r= .returned (E J (told F M i t x))∧Below w.heap.size w w':=by
 obtain ⟨k,hk⟩:=Int.eq_ofNat_of_zero_le hb.1;have hk2:k<32:=Y1;have dL:(0:Int)≤(k:Int)∧(k:Int)<32:=Y1;obtain ⟨cr,hrb,-,hbl⟩:=h.reg hi fa k hk2;have kw:w.cell? ⟨G.K,1018,O⟩=V (E Z M.w):=h.Vb fun _ _ hc=>hc.w;have kd:w.cell? ⟨G.K,1019,O⟩=V (E J M.draw):=h.Vb fun _ _ hc=>hc.draw;have kp:w.cell? ⟨G.K,3,O⟩=some G.pv:=h.Vb fun _ _ hc=>hc.code;have kc:=h.ztH;have kk:=h.zj7;obtain ⟨-,ch,-,-,-⟩:=h.vU hi;have Ct:=Y0 (h.know);have qE:Hid (∀W,Below w.heap.size w W→Calls Tp 112 #[Y (V ⟨G.C,0,O⟩)] W fun e w'=>e=Rt (E J M.clk.now)∧w'=W):=Y0 fun W hW=>(h.below hW).know;obtain ⟨pA,pc,hpv⟩:=Asm.zn h.fix.code.1;rw[hpv] at kp;have hW:=h.fok.workers;have hC:=h.fok.code;have hK:=h.klt;have hgW:G.gW<w.heap.size:=by
  obtain ⟨P,S,bv,h1,-⟩:=h.wk.at (h.bV hi);exact h1.lens.lt
 have yG:Zm M.clk.now:=by
  obtain ⟨hb,hm,v,ab,N,K,hC,-⟩:=h.clk;have:=hC.now;unfold Zm;omega
 obtain ⟨xo,xa,xb,xc,xv,xm,xw⟩:=x;simp only at ho hk hb;subst hk;have e1:told F M i t ⟨xo,xa,k,xc,xv,xm,xw⟩=(if xo=23 then 1+2*vT (rg (zA M i t) k) else if xo=41 then M.clk.now else if xo=37 then t.getD 0 else if xo=40 then (F.workers:Int) else if xo=42 then M.draw else if xo=29 then (zl M i).hand else if xo=38 then za2 F i else if xo=39 then za2 F (rg (zA M i t) k) else za3 (decide (rg (zA M i t) k<F.code.length))):=by unfold told;rw[hw]
 rw[e1];rw[hw] at kw;clear e1 hpv Ct hw fa;generalize rg (zA M i t) k=rb at*;generalize M.draw=dr at*;generalize M.clk.now=nw at*;generalize (zl M i).hand=hd at*;generalize t.getD 0=ti at*;obtain ⟨W,xK⟩: ∃W,W=F.workers:=⟨_,rfl⟩;obtain ⟨C,Af⟩: ∃C,C=F.code.length:=⟨_,rfl⟩;unfold za2;rw[←xK] at kk hW hi ⊢;rw[←Af] at kp hC ⊢;clear xK Af;have OU:(1:Int)≤(W:Int)∧(W:Int)≤64:=Y1;have hCI:(1:Int)≤(C:Int)∧(C:Int)≤2048:=Y1;have w1:IntKind.u64.wrap (W:Int)=(W:Int):=Y22;have w2:IntKind.u64.wrap (C:Int)=(C:Int):=Y22;unfold Zm at hrb;have hb1:Below w.heap.size w (w.alloc (Ce (zS ⟨xo,xa,k,xc,xv,xm,xw⟩) 111)):=(Below.refl _ _).alloc (Nat.le_refl _) _;have aL:=Y0 hb1
 have HD:Hid (∀(m:Int) (aB:World),0≤m∧m<64→Calls Tp 98 #[Y (V ⟨G.K,0,O⟩),E Z m] aB fun r w'=>r= .returned (E J (17+3*m))∧aB=w'):=Y0 fun m aB hm=>zgq m aB hm _;clear h hb1 hW hC;unfold zS at aL ⊢;have fin: ∀aB,(∃q,aB=(w.alloc (Ce #[E Z xo,E Z xa,E Z k,E Z xc,E J xv,E Z xm,E Z xw] 111)).drewN q)→Below w.heap.size w aB:=fun aB ⟨q,e⟩=>by rw[e];exact KD aL.out q
 have FIN:=Y0 fin;clear fin;have hbk:0≤vT rb∧vT rb<8:=by unfold vT;omega
 have hm0:0≤rb% (W:Int)∧rb% (W:Int)<64:=⟨Int.emod_nonneg _ Y1,Int.lt_of_lt_of_le (Int.emod_lt_of_pos _ Y1) Y1⟩;have RO:=Y0 (fun aB=>zhQ rb aB);generalize vT rb=bk at*;have w3:IntKind.i64.wrap (2*bk)=2*bk:=gT;have w4:IntKind.i64.wrap (1+2*bk)=1+2*bk:=gT;have w5:IntKind.u64.wrap (1+2*bk)=1+2*bk:=Y22;have dH:(0:Int)≤(i:Int)∧(i:Int)<(W:Int):=Y1;have w6:IntKind.u64.wrap (i:Int)=(i:Int):=Y22;have w7:IntKind.i64.wrap (i:Int)=(i:Int):=gT;have hmi:(i:Int)% (W:Int)=(i:Int):=Int.emod_eq_of_lt dH.1 dH.2;have HI:=Y0 dH;have HW:=Y0 OU;rcases ho with rfl|rfl|rfl|rfl|rfl|rfl|rfl|rfl|rfl
 ·go_enter Tryz.func230,Tryz.ntmps230;go_wp2_with fail;go_quiet (fail);go_wp2_with fail;refine (RO.out _).mono ?_;rintro e v1 ⟨rfl,rfl⟩;exact J66
 ·go_enter Tryz.func230,Tryz.ntmps230;go_wp2_with fail;go_quiet (fail);go_wp2_with fail;refine (qE.out _ (FIN.out _ ⟨_,rfl⟩)).mono ?_;rintro e v1 ⟨rfl,rfl⟩;exact J66
 ·exact J45
 ·exact J45
 ·exact J45
 ·exact J45
 ·go_enter Tryz.func230,Tryz.ntmps230;go_wp2_with fail;go_quiet (fail);go_wp2_with fail;refine (HD.out i _ (by have:=HI.out;have:=HW.out;omega)).mono ?_;rintro e v1 ⟨rfl,rfl⟩;exact J66
 ·generalize hm:rb% (W:Int)=m at*;have w8:IntKind.i64.wrap m=m:=gT;have hm2:rb.tmod (W:Int)=m:=by rw[←hm,Int.tmod_eq_emod_of_nonneg Y1]
  go_enter Tryz.func230,Tryz.ntmps230;go_wp2_with fail;go_quiet (fail);go_wp2_with fail;refine (HD.out m _ Y1).mono ?_;rintro e v1 ⟨rfl,rfl⟩;exact J66
 ·by_cases hl:rb<(C:Int)
  ·go_enter Tryz.func230,Tryz.ntmps230;go_wp2_with fail;go_quiet (fail);go_wp2_with fail;go_ret;exact ⟨by simp[za3],FIN.out _ ⟨_,rfl⟩⟩
  ·have hl2:(C:Int)≤rb:=Y1;go_enter Tryz.func230,Tryz.ntmps230;go_wp2_with fail;go_quiet (fail);go_wp2_with fail;go_ret;exact ⟨by simp[za3,hl],FIN.out _ ⟨_,rfl⟩⟩
end
theorem zsB (w:World):(zeroValue 241).run Tp w= .ok (Y none) w:=Y4
section
variable {F:Fixed} {w:World} {own:Own} {G:KG} {M:zD} {n:Nat}
theorem Fr1.out {i:Nat} {t:Option Int} {b o:Nat} {ty:TypeId} {P S:List Value} {tb tk:Tag} {bv:Value} (hf:Fr1 F w own G M n i t b o ty P S tb tk bv) (hM:zaD w own G.X M.mem) {f':Frame} {w':World} {n':Nat} (hn:n≤n') (h:Zd w own b o ty P S tb tk n' f' w'):KO F w own G (Zu M i t f') n' w':=by
 obtain ⟨vQ,Oj,h1,h2⟩:=h;refine ⟨vQ,hf.back _ _ _ _ Oj M.mem hn (h2.mono fun _ e=>e.elim Or.inl fun e=>Or.inr (Or.inl e)) h1 ?_,h2.mono ?_⟩
 ·exact hM.move h2 fun e=>e.elim (fun e=>hf.ntb.1 e.symm) fun e=>hf.ntb.2.1 e.symm
 ·rintro t (rfl|rfl) rfl
  ·rcases hf.ntb.2.2.1 with e|e<;>exact e
  ·rcases hf.ntb.2.2.2 with e|e<;>exact e
theorem zi.KT (h:zi F w own G M n) {i:Nat} (hi:i<F.workers) {t:Option Int} {b o:Nat} (fa:VZ G M i t b o) {k:Nat} (hk:k<32) {v:Int} (hv:Zm v):KO F w own G (zG M i t k v) n (w.setCell ⟨b,o+1+k,O⟩ (E J v)):=by
 obtain ⟨ty,P,S,tb,tk,bv,hf⟩:=h.frame hi fa;exact hf.out h.mem (Nat.le_refl n) ((Zd.refl hf.fr (Nat.le_refl n)).reg hf.ne hk hv)
theorem zi.bump (h:zi F w own G M n) {i:Nat} (hi:i<F.workers) {t:Option Int} {b o:Nat} (fa:VZ G M i t b o):w.cell? ⟨b,o,O⟩=V (E Z (zA M i t).pc)∧(0≤(zA M i t).pc∧(zA M i t).pc≤4000+n)∧w.frozen? ⟨b,o,O⟩=false∧KO F w own G (VQ M i t) (n+1) (w.setCell ⟨b,o,O⟩ (E Z ((zA M i t).pc+1))):=by
 obtain ⟨ty,P,S,tb,tk,bv,hf⟩:=h.frame hi fa;have hp:=hf.fr.ok.pc;exact ⟨hf.fr.cells.1,hp,hf.fr.cells.2.2.2 _,hf.out h.mem (Nat.le_succ n) ((Zd.refl hf.fr (Nat.le_succ n)).pc hf.ne Y1)⟩
theorem zi.look (h:zi F w own G M n) (id:Int) (hid:Zm id):(Instr.lookup 86 (.map (some G.th)) (E J id) false).run Tp w= .ok (.pointer ((zR M.runs id).map fun _=>⟨G.tb id,0,O⟩)) w:=by
 obtain ⟨N,hm,-⟩:=h.runs.map;rw[hm.look (S:=ptrs) Tryz.underlying86 (zsB w) hid];cases zR M.runs id<;>rfl
end
end Kn
end Go.Proofs.YtdlpmnmenhojfaaGreatDoor
