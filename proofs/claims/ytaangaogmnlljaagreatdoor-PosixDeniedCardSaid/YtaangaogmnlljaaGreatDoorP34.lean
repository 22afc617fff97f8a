/- Part 34 of what the proof stands on: KnBorn, KnNewA, KnNewB, KnNewC, KnSpec, KnLibW, KnRuns, KnSpAny. -/
import Derived.StillTailTactics
import Derived.Test.YtaangaogmnlljaaGreatDoorP02
import Derived.Test.YtaangaogmnlljaaGreatDoorP09
import Derived.Test.YtaangaogmnlljaaGreatDoorP16
import Derived.Test.YtaangaogmnlljaaGreatDoorP18
import Derived.Test.YtaangaogmnlljaaGreatDoorP30
import Derived.Test.YtaangaogmnlljaaGreatDoorP33
set_option linter.unusedVariables false
namespace Go.Proofs.YtaangaogmnlljaaGreatDoor.Kn
open Go.RowKit Asm
section
variable {F:Fixed} {w:World} {own:Own} {G:KG} {M:Mach} {n:Nat}
def frame0 (place r0:Int):Frame:={ pc:=place,r:=(List.replicate 32 0).set 0 r0}
theorem frame0_ok {place r0:Int} {n:Nat} (hp:0≤place∧place≤4000) (hr:U64 r0):FrOk n (frame0 place r0):=by
 refine ⟨by simp[frame0],fun x hx=>?_,⟨hp.1,by show place≤_;omega⟩,by simp[frame0],fun x hx=>by simp[frame0] at hx⟩
 rcases List.mem_or_eq_of_mem_set hx with hx|hx
 ·rw[(List.mem_replicate.1 hx).2];exact u64_0
 ·rw[hx];exact hr
theorem one_max:1≤maxLen:=by unfold maxLen;omega
theorem born_u64 {l:List TRow} {home id:Int} {l':List TRow} (e:bornT l home=some (id,l')):U64 id:=by
 unfold bornT at e
 split at e
 ·cases e
 ·injection e with e
  injection e with e _
  rw[←e]
  unfold U64
  omega
set_option maxRecDepth 100000 in
set_option maxHeartbeats 4000000 in
theorem kborn_any (h:KernP F w own G M n) (hI:Inv M) (place r0:Int) (hp:0≤place∧place≤4000) (hr:U64 r0) (hn:n≤100000):
  Calls Tryz.prog 84 #[.pointer (some ⟨G.K,0,none⟩), .int .i64 place, .int .u64 r0] w fun e w'=>e= .returned (.int .u64 (bornK M place r0).1)∧KO2 F w own G M.runs (bornK M place r0).2 (n+2) w':=by
 have k8:=h.acell
 have HG:=Lib.hid (kget h 1 (by decide))
 have hlt: ∀p a m,getA M.alc M.mem 1 64=some (p,a,m)→p≤65536:=fun p a m e=>h.get_lt e
 have HLt:=Lib.hid hlt
 have HBo:=Lib.hid h.born
 have HI:=Lib.hid hI
 have H:=Lib.hid h
 have HP:=Lib.hid hp
 have HR:=Lib.hid hr
 have HN:=Lib.hid hn
 unfold bornK
 clear hlt h hI hp hr hn
 generalize getA M.alc M.mem 1 64=g at*
 cases g with
 |none=>
  go_enter Tryz.func84,Tryz.ntmps84
  go_wp2_with fail
  refine HG.out.mono ?_
  rintro e w1 ⟨⟨ev,rfl,te,xe,rfl⟩,hb⟩
  have HB:=Lib.hid hb
  clear hb
  go_wp2_with fail
  go_ret
  exact ⟨rfl,((KO.below H.out HB.out).more (by omega)).two⟩
 |some g=>
  obtain ⟨home,alc,mem⟩:=g
  simp only at HG ⊢
  have hhome:=HLt.out _ _ _ rfl
  have hhI:(0:Int)≤(home:Int)∧(home:Int)≤65536:=by omega
  have hcv:IntKind.u64.wrap (home:Int)=(home:Int):=by rw[IntKind.wrap_u64];omega
  have hu:U64 (home:Int):=⟨hhI.1,by omega⟩
  have HU:=Lib.hid hu
  have HHm:=Lib.hid hhome
  obtain ⟨bt,hbt⟩: ∃bt,bt=bornT M.tab home:=⟨_,rfl⟩
  have HBt:=Lib.hid hbt
  rw[←hbt]
  clear hhome hu hbt
  go_enter Tryz.func84,Tryz.ntmps84
  go_wp2_with fail
  refine HG.out.mono ?_
  rintro e w1 ⟨rfl,own1,h1,t1⟩
  have kt:=h1.tcell
  have HB:=Lib.hid (kborn h1 home HU.out (by have:=HN.out;omega))
  simp only at HB
  rw[←HBt.out] at HB
  have HT1:=Lib.hid t1
  clear t1 h1
  cases bt with
  |none=>
   go_wp2_with fail
   refine HB.out.mono ?_
   rintro e w2 ⟨⟨ev,rfl,te,xe,rfl⟩,own2,h2,t2⟩
   have k8:=h2.acell
   have HPt:=Lib.hid (kput h2 home (by have:=HHm.out;omega))
   have HT2:=Lib.hid (HT1.out.trans t2)
   clear h2 t2
   go_wp2_with fail
   refine HPt.out.mono ?_
   rintro e w3 ⟨⟨ev,rfl⟩,hk⟩
   have HK:=Lib.hid (KO.trans HT2.out hk)
   clear hk
   go_wp2_with fail
   go_ret
   exact ⟨rfl,(HK.out.more (by omega)).two⟩
  |some q=>
   obtain ⟨id,tab⟩:=q
   go_wp2_with fail
   refine HB.out.mono ?_
   rintro e w2 ⟨rfl,own2,h2,t2⟩
   have HT2:=Lib.hid (HT1.out.trans t2)
   have hbn:=HBo.out home id tab HBt.out.symm
   have hno:runOf M.runs id=none:=by
    cases e:runOf M.runs id with
    |none=>rfl
    |some r=>
     have:=(HI.out.has id).1 (by rw[e];rfl)
     obtain ⟨p,hp,-⟩:=this
     rw[hbn.2.1] at hp
     cases hp
   have kh:=h2.hcell
   have hK:=h2.klt
   have e36:(frC (frame0 place r0) (.slice none 0 0)++ [Value.bool false,Value.int .i64 0]).toArray=#[.int .i64 place, .int .u64 r0, .int .u64 0, .int .u64 0, .int .u64 0, .int .u64 0, .int .u64 0, .int .u64 0, .int .u64 0, .int .u64 0, .int .u64 0, .int .u64 0, .int .u64 0, .int .u64 0, .int .u64 0, .int .u64 0, .int .u64 0, .int .u64 0, .int .u64 0, .int .u64 0, .int .u64 0, .int .u64 0, .int .u64 0, .int .u64 0, .int .u64 0, .int .u64 0, .int .u64 0, .int .u64 0, .int .u64 0, .int .u64 0, .int .u64 0, .int .u64 0, .int .u64 0, .slice none 0 0, .bool false, .int .i64 0]:=rfl
   have hb1:Below w2.heap.size w2 (w2.alloc (.cells #[.int .i64 place, .int .u64 r0, .int .u64 0, .int .u64 0, .int .u64 0, .int .u64 0, .int .u64 0, .int .u64 0, .int .u64 0, .int .u64 0, .int .u64 0, .int .u64 0, .int .u64 0, .int .u64 0, .int .u64 0, .int .u64 0, .int .u64 0, .int .u64 0, .int .u64 0, .int .u64 0, .int .u64 0, .int .u64 0, .int .u64 0, .int .u64 0, .int .u64 0, .int .u64 0, .int .u64 0, .int .u64 0, .int .u64 0, .int .u64 0, .int .u64 0, .int .u64 0, .int .u64 0, .slice none 0 0, .bool false, .int .i64 0] 284)):=(Below.refl _ _).alloc (Nat.le_refl _) _
   have hn1:=heap_alloc_new w2 (.cells #[.int .i64 place, .int .u64 r0, .int .u64 0, .int .u64 0, .int .u64 0, .int .u64 0, .int .u64 0, .int .u64 0, .int .u64 0, .int .u64 0, .int .u64 0, .int .u64 0, .int .u64 0, .int .u64 0, .int .u64 0, .int .u64 0, .int .u64 0, .int .u64 0, .int .u64 0, .int .u64 0, .int .u64 0, .int .u64 0, .int .u64 0, .int .u64 0, .int .u64 0, .int .u64 0, .int .u64 0, .int .u64 0, .int .u64 0, .int .u64 0, .int .u64 0, .int .u64 0, .int .u64 0, .slice none 0 0, .bool false, .int .i64 0] 284)
   have hs1:(w2.alloc (.cells #[.int .i64 place, .int .u64 r0, .int .u64 0, .int .u64 0, .int .u64 0, .int .u64 0, .int .u64 0, .int .u64 0, .int .u64 0, .int .u64 0, .int .u64 0, .int .u64 0, .int .u64 0, .int .u64 0, .int .u64 0, .int .u64 0, .int .u64 0, .int .u64 0, .int .u64 0, .int .u64 0, .int .u64 0, .int .u64 0, .int .u64 0, .int .u64 0, .int .u64 0, .int .u64 0, .int .u64 0, .int .u64 0, .int .u64 0, .int .u64 0, .int .u64 0, .int .u64 0, .int .u64 0, .slice none 0 0, .bool false, .int .i64 0] 284)).heap.size=w2.heap.size+1:=World.size_alloc _ _
   obtain ⟨v1,hv1⟩: ∃v1,v1=w2.alloc (.cells #[.int .i64 place, .int .u64 r0, .int .u64 0, .int .u64 0, .int .u64 0, .int .u64 0, .int .u64 0, .int .u64 0, .int .u64 0, .int .u64 0, .int .u64 0, .int .u64 0, .int .u64 0, .int .u64 0, .int .u64 0, .int .u64 0, .int .u64 0, .int .u64 0, .int .u64 0, .int .u64 0, .int .u64 0, .int .u64 0, .int .u64 0, .int .u64 0, .int .u64 0, .int .u64 0, .int .u64 0, .int .u64 0, .int .u64 0, .int .u64 0, .int .u64 0, .int .u64 0, .int .u64 0, .slice none 0 0, .bool false, .int .i64 0] 284):=⟨_,rfl⟩
   rw[←hv1] at hb1 hn1 hs1
   obtain ⟨l1,l2,l3⟩:=laid2 v1 (.cells #[.pointer (some ⟨w2.heap.size,0,none⟩)] 282) (.cells #[.int .u64 id, .slice (some ⟨w2.heap.size+1,0,none⟩) 1 1, .int .u64 0] 281)
   rw[hs1] at l1 l2 l3
   have hn2:=(l3.block w2.heap.size (by omega)).trans hn1
   have hb3:Below w2.heap.size w2 _:=hb1.trans (l3.mono (by omega))
   have hrow:World.ownsRow _ 0 282 1 (.slice (some ⟨w2.heap.size+1,0,none⟩) 1 1) 1 [.pointer (some ⟨w2.heap.size,0,none⟩)]:=⟨rfl,Or.inr ⟨_,1,_,rfl,Nat.zero_le _,l1,Nat.le_refl _,one_max,rfl,rfl⟩⟩
   obtain ⟨w5,hst,hk5,-⟩:=h2.spawn ⟨hbn.1,born_u64 HBt.out.symm⟩ hno (fr:=⟨frame0 place r0,false,0⟩) (frame0_ok HP.out HR.out) rfl ⟨Int.le_refl 0,by show (0:Int)<1000;decide⟩ (by have:=HN.out;omega) hb3 (Nat.le_refl _) (Nat.le_succ_of_le (Nat.le_succ _)) (by rw[e36];exact hn2) l2 hrow (fun b hb=>by cases hb;exact Nat.le_succ _)
   rw[hv1] at hst
   have HK5:=Lib.hid hk5
   have HT2':=HT2
   clear hv1 e36 hb1 hn1 hs1 l1 l2 l3 hn2 hb3 hrow hk5 hbn hno h2 t2
   go_wp2_with fail
   go_ret
   obtain ⟨tb,fb,hg,hk⟩:=HK5.out
   exact ⟨rfl,tb,fb,hg,KO.trans HT2.out hk⟩
end
end Go.Proofs.YtaangaogmnlljaaGreatDoor.Kn
namespace Go.Proofs.YtaangaogmnlljaaGreatDoor.Kn
open Go.RowKit Asm
def ownN (K th gW A lo nF nR nQ nT nO nM:Nat):Own:=fun b=>
 if b=K then .mach else if b=th then .map else if b=gW then .wk else if b=A then .alc
 else if b<lo then .other else if b<nF then .clk else if b<nR then .fixed else if b<nQ then .ring else if b<nT then .wq else if b<nO then .tab else if b<nM then .obj else .mem
structure Cuts (K th gW A lo nF nR nQ nT nO nM:Nat):Prop where
 ck:lo≤K∧K<nF
 ct:lo≤th∧th<nF
 cg:lo≤gW∧gW<nF
 d1:K≠th
 d2:K≠gW
 d3:th≠gW
 c:nF≤nR∧nR≤nQ∧nQ≤nT∧nT≤nO∧nO≤nM
 a:nM≤A
section
variable {K th gW A lo nF nR nQ nT nO nM:Nat}
theorem own_k:ownN K th gW A lo nF nR nQ nT nO nM K= .mach:=if_pos rfl
theorem own_th (h:Cuts K th gW A lo nF nR nQ nT nO nM):ownN K th gW A lo nF nR nQ nT nO nM th= .map:=by
 unfold ownN;rw[if_neg h.d1.symm,if_pos rfl]
theorem own_gW (h:Cuts K th gW A lo nF nR nQ nT nO nM):ownN K th gW A lo nF nR nQ nT nO nM gW= .wk:=by
 unfold ownN;rw[if_neg h.d2.symm,if_neg h.d3.symm,if_pos rfl]
theorem own_A (h:Cuts K th gW A lo nF nR nQ nT nO nM):ownN K th gW A lo nF nR nQ nT nO nM A= .alc:=by
 have h1:=h.ck;have h2:=h.ct;have h3:=h.cg;have h4:=h.c;have h5:=h.a
 unfold ownN;rw[if_neg (by omega),if_neg (by omega),if_neg (by omega),if_pos rfl]
theorem own_lo (h:Cuts K th gW A lo nF nR nQ nT nO nM) {b:Nat} (hb:b<lo):ownN K th gW A lo nF nR nQ nT nO nM b= .other:=by
 have h1:=h.ck;have h2:=h.ct;have h3:=h.cg;have h4:=h.c;have h5:=h.a
 unfold ownN;rw[if_neg (by omega),if_neg (by omega),if_neg (by omega),if_neg (by omega),if_pos hb]
theorem own_clk (h:Cuts K th gW A lo nF nR nQ nT nO nM) {b:Nat} (hb:lo≤b∧b<nF) (h1:b≠K∧b≠th∧b≠gW):ownN K th gW A lo nF nR nQ nT nO nM b= .clk:=by
 have h4:=h.c;have h5:=h.a
 unfold ownN;rw[if_neg h1.1,if_neg h1.2.1,if_neg h1.2.2,if_neg (by omega),if_neg (by omega),if_pos hb.2]
theorem own_fix (h:Cuts K th gW A lo nF nR nQ nT nO nM) {b:Nat} (hb:nF≤b∧b<nR):ownN K th gW A lo nF nR nQ nT nO nM b= .fixed:=by
 have h1:=h.ck;have h2:=h.ct;have h3:=h.cg;have h4:=h.c;have h5:=h.a
 unfold ownN;rw[if_neg (by omega),if_neg (by omega),if_neg (by omega),if_neg (by omega),if_neg (by omega),if_neg (by omega),if_pos hb.2]
theorem own_ring (h:Cuts K th gW A lo nF nR nQ nT nO nM) {b:Nat} (hb:nR≤b∧b<nQ):ownN K th gW A lo nF nR nQ nT nO nM b= .ring:=by
 have h1:=h.ck;have h2:=h.ct;have h3:=h.cg;have h4:=h.c;have h5:=h.a
 unfold ownN;rw[if_neg (by omega),if_neg (by omega),if_neg (by omega),if_neg (by omega),if_neg (by omega),if_neg (by omega),if_neg (by omega),if_pos hb.2]
theorem own_wq (h:Cuts K th gW A lo nF nR nQ nT nO nM) {b:Nat} (hb:nQ≤b∧b<nT):ownN K th gW A lo nF nR nQ nT nO nM b= .wq:=by
 have h1:=h.ck;have h2:=h.ct;have h3:=h.cg;have h4:=h.c;have h5:=h.a
 unfold ownN;rw[if_neg (by omega),if_neg (by omega),if_neg (by omega),if_neg (by omega),if_neg (by omega),if_neg (by omega),if_neg (by omega),if_neg (by omega),if_pos hb.2]
theorem own_tab (h:Cuts K th gW A lo nF nR nQ nT nO nM) {b:Nat} (hb:nT≤b∧b<nO):ownN K th gW A lo nF nR nQ nT nO nM b= .tab:=by
 have h1:=h.ck;have h2:=h.ct;have h3:=h.cg;have h4:=h.c;have h5:=h.a
 unfold ownN;rw[if_neg (by omega),if_neg (by omega),if_neg (by omega),if_neg (by omega),if_neg (by omega),if_neg (by omega),if_neg (by omega),if_neg (by omega),if_neg (by omega),if_pos hb.2]
theorem own_obj (h:Cuts K th gW A lo nF nR nQ nT nO nM) {b:Nat} (hb:nO≤b∧b<nM):ownN K th gW A lo nF nR nQ nT nO nM b= .obj:=by
 have h1:=h.ck;have h2:=h.ct;have h3:=h.cg;have h4:=h.c;have h5:=h.a
 unfold ownN;rw[if_neg (by omega),if_neg (by omega),if_neg (by omega),if_neg (by omega),if_neg (by omega),if_neg (by omega),if_neg (by omega),if_neg (by omega),if_neg (by omega),if_neg (by omega),if_pos hb.2]
theorem own_mem (h:Cuts K th gW A lo nF nR nQ nT nO nM) {b:Nat} (hb:nM≤b) (hA:b≠A):ownN K th gW A lo nF nR nQ nT nO nM b= .mem:=by
 have h1:=h.ck;have h2:=h.ct;have h3:=h.cg;have h4:=h.c
 unfold ownN;rw[if_neg (by omega),if_neg (by omega),if_neg (by omega),if_neg hA,if_neg (by omega),if_neg (by omega),if_neg (by omega),if_neg (by omega),if_neg (by omega),if_neg (by omega),if_neg (by omega)]
end
def nilp:Value:= .pointer none
def P7 (F:Fixed) (lv cv pv:Value) (entry:Int):List Value:= [lv, .int .i64 F.loop,cv,pv, .int .i64 entry, .int .i64 F.wide, .int .i64 F.narrow]
def rowsV (F:Fixed) (k:Nat):List Value:=(List.range 1000).map fun (i:Nat)=>Value.int .i64 ((rowIx (F.calls.take k) (i:Int):Nat):Int)
def ptr (b:Nat):Value:= .pointer (some ⟨b,0,none⟩)
def S14 (X A C Rg Q T O th gW n:Nat):List Value:= [ptr X,ptr A,ptr C,ptr Rg,ptr Q,ptr T,ptr O, .map (some th), .slice (some ⟨gW,0,none⟩) n n, .int .i64 0, .int .i64 0, .int .i64 0, .int .u64 0, .slice none 0 0]
theorem rowIx_all (F:Fixed):F.calls.take F.calls.length=F.calls:=List.take_length
theorem machC_of {w:World} {F:Fixed} {G:KG} {entry:Int} {cells:Nat} (h:KB w G.K (P7 F G.lv G.cv G.pv entry) (rowsV F F.calls.length) (S14 G.X G.A G.C G.R G.Q G.T G.O G.th G.gW F.workers)):MachC (P7 F G.lv G.cv G.pv entry++rowsV F F.calls.length++S14 G.X G.A G.C G.R G.Q G.T G.O G.th G.gW F.workers).toArray F G (bareK F cells) (.slice none 0 0):=by
 have hl:(P7 F G.lv G.cv G.pv entry++rowsV F F.calls.length).length=1007:=by rw[List.length_append,h.p,h.r]
 have p: ∀j,j<7→ ∀v,(P7 F G.lv G.cv G.pv entry)[j]?=some v→(P7 F G.lv G.cv G.pv entry++rowsV F F.calls.length++S14 G.X G.A G.C G.R G.Q G.T G.O G.th G.gW F.workers).toArray[j]?=some v:=fun j hj v hv=>by
  rw[List.getElem?_toArray,List.append_assoc,List.getElem?_append_left (by rw[h.p];exact hj),hv]
 have s: ∀j v,(S14 G.X G.A G.C G.R G.Q G.T G.O G.th G.gW F.workers)[j]?=some v→(P7 F G.lv G.cv G.pv entry++rowsV F F.calls.length++S14 G.X G.A G.C G.R G.Q G.T G.O G.th G.gW F.workers).toArray[1007+j]?=some v:=fun j v hv=>by
  rw[List.getElem?_toArray,List.getElem?_append_right (by rw[hl];omega),hl,Nat.add_sub_cancel_left,hv]
 refine ⟨?_,p 0 (by decide) _ rfl,p 1 (by decide) _ rfl,p 2 (by decide) _ rfl,p 3 (by decide) _ rfl,p 5 (by decide) _ rfl,p 6 (by decide) _ rfl,fun i hi=>?_,s 0 _ rfl,s 1 _ rfl,s 2 _ rfl,s 3 _ rfl,s 4 _ rfl,s 5 _ rfl,s 6 _ rfl,s 7 _ rfl,s 8 _ rfl,s 9 _ rfl,s 10 _ rfl,s 11 _ rfl,s 12 _ rfl,s 13 _ rfl⟩
 ·rw[List.size_toArray,List.length_append,hl,h.s]
 ·rw[List.getElem?_toArray,List.append_assoc,List.getElem?_append_right (by rw[h.p];omega),h.p,List.getElem?_append_left (by rw[h.r];omega),Nat.add_sub_cancel_left]
  unfold rowsV
  rw[List.getElem?_map,List.getElem?_range hi,rowIx_all]
  rfl
def wk0 (F:Fixed):Wkr:={ f:={ pc:=F.loop}}
structure NewS (w:World) (F:Fixed) (G:KG) (cells lo nF nR nQ nT nO nM:Nat) (entry:Int):Prop where
 kb:KB w G.K (P7 F G.lv G.cv G.pv entry) (rowsV F F.calls.length) (S14 G.X G.A G.C G.R G.Q G.T G.O G.th G.gW F.workers)
 lib:w.ownsRow nF 68 7 G.lv F.lib.length (codeC F.lib)
 calls:w.ownsRow nF 184 6 G.cv F.calls.length (callC F.calls)
 code:w.ownsRow nF 68 7 G.pv F.code.length (codeC F.code)
 rows: ∀b,G.lv.ownBlock=some b∨G.cv.ownBlock=some b∨G.pv.ownBlock=some b→b<nR
 mem: ∃gc gw,MemP w G.X gc gw (laidM F cells)∧(nM≤G.X∧nM≤gc∧nM≤gw)∧G.X≠G.A∧gc≠G.A∧gw≠G.A
 alc:AlcP w G.A G.X (.slice none 0 0) ⟨baseN F+F.wide.toNat+F.narrow.toNat,cells,[]⟩
 clk: ∃hb hm ab,ClkP w G.C hb hm (.slice none 0 0) ab { now:=0,S:= [],last:=0} 0 0∧ ∀b,b=G.C∨b=hb∨b=hm∨b=ab→(lo≤b∧b<nF)∧b≠G.K∧b≠G.th∧b≠G.gW
 ring: ∃gr,RingP w G.R gr []∧ ∀b,b=G.R∨b=gr→nR≤b∧b<nQ
 wq: ∃gl mb B,WqP w G.Q gl mb B [] 0∧ ∀b,b=G.Q∨b=gl∨b=mb→nQ≤b∧b<nT
 tab: ∃gt,TabP w G.T gt (List.replicate 64 {}) 0∧ ∀b,b=G.T∨b=gt→nT≤b∧b<nO
 obj: ∃go,ObjP w G.O go (List.replicate 64 {}) 0∧ ∀b,b=G.O∨b=go→nO≤b∧b<nM
 th:GMap ptrs w G.th (fun _=>none) 0
 wk:w.heap[G.gW]?=some (.cells ((List.replicate F.workers (wk0 F,Value.slice none 0 0)).flatMap wk38).toArray 166 (0,0))
 cuts:Cuts G.K G.th G.gW G.A lo nF nR nQ nT nO nM
theorem NewS.kern {w:World} {F:Fixed} {G:KG} {cells lo nF nR nQ nT nO nM:Nat} {entry:Int} (h:NewS w F G cells lo nF nR nQ nT nO nM entry) (hF:FixOk F):
  KernP F w (ownN G.K G.th G.gW G.A lo nF nR nQ nT nO nM) G (bareK F cells) 1:=by
 have hc:=h.cuts
 refine ⟨hF,⟨⟨Int.le_refl 0,by show (0:Int)≤1;decide⟩,⟨Int.le_refl 0,by show (0:Int)≤1;decide⟩,⟨by show (-1:Int)≤0;decide,by show (0:Int)<64;decide⟩,u64_0,List.length_replicate,by simp[bareK]⟩,⟨own_k,_, .slice none 0 0,h.kb.obj,machC_of h.kb,⟨World.ownsRow_nil _ _ _ _,fun b hb=>by cases hb⟩⟩,⟨?_,?_,?_⟩,?_,?_,?_,?_,?_,?_,?_,?_,?_⟩
 ·exact ⟨Asm.row_base h.lib (Nat.zero_le _),fun b hb=>own_fix hc ⟨(h.lib.lt b hb).1,h.rows b (Or.inl hb)⟩⟩
 ·exact ⟨Asm.row_base h.calls (Nat.zero_le _),fun b hb=>own_fix hc ⟨(h.calls.lt b hb).1,h.rows b (Or.inr (Or.inl hb))⟩⟩
 ·exact ⟨Asm.row_base h.code (Nat.zero_le _),fun b hb=>own_fix hc ⟨(h.code.lt b hb).1,h.rows b (Or.inr (Or.inr hb))⟩⟩
 ·obtain ⟨gc,gw,hm,hn,h1,h2,h3⟩:=h.mem
  exact ⟨gc,gw,hm,fun b hb=>by
   rcases hb with rfl|rfl|rfl
   ·exact own_mem hc hn.1 h1
   ·exact own_mem hc hn.2.1 h2
   ·exact own_mem hc hn.2.2 h3⟩
 ·exact ⟨_,h.alc,fun b hb=>by
   rcases hb with rfl|hb
   ·exact own_A hc
   ·cases hb⟩
 ·obtain ⟨hb,hm,ab,hC,hall⟩:=h.clk
  refine ⟨hb,hm,_,ab,0,0,hC,fun b hb'=>?_,by simp[bareK],by omega,by show (0:Int)≤1;decide,Int.le_refl 0,by show (0:Int)≤1;decide⟩
  have:b=G.C∨b=hb∨b=hm∨b=ab:=by
   rcases hb' with e|e|e|e|e
   ·exact Or.inl e
   ·exact Or.inr (Or.inr (Or.inr e))
   ·exact Or.inr (Or.inl e)
   ·exact Or.inr (Or.inr (Or.inl e))
   ·cases e
  exact own_clk hc (hall b this).1 (hall b this).2
 ·obtain ⟨gr,hR,hall⟩:=h.ring
  exact ⟨gr,hR,fun b hb=>own_ring hc (hall b hb)⟩
 ·obtain ⟨gl,mb,B,hQ,hall⟩:=h.wq
  refine ⟨gl,mb,B,0,hQ,fun b hb=>own_wq hc (hall b ?_),by omega⟩
  rcases hb with (e|e|⟨s,hs,-⟩) |e
  ·exact Or.inl e
  ·exact Or.inr (Or.inl e)
  ·cases hs
  ·exact Or.inr (Or.inr e)
 ·obtain ⟨gt,hT,hall⟩:=h.tab
  exact ⟨gt,0,hT,fun b hb=>own_tab hc (hall b hb),by omega⟩
 ·obtain ⟨go,hO,hall⟩:=h.obj
  exact ⟨go,0,hO,fun b hb=>own_obj hc (hall b hb),by omega⟩
 ·exact ⟨List.nodup_nil,own_th hc,⟨0,h.th.same fun k _=>rfl,by omega⟩,fun r hr=>by cases hr⟩
 ·refine ⟨own_gW hc,List.replicate F.workers (wk0 F,Value.slice none 0 0),by rw[List.map_replicate];rfl,h.wk,fun i p hp=>?_⟩
  have hp2:=(List.mem_replicate.1 (List.mem_of_getElem? hp)).2
  subst hp2
  have hl:=hF.loop
  have hl2:=hF.lib
  refine ⟨⟨u64_0,u64_0,⟨Int.le_refl 0,by show (0:Int)≤100;decide⟩,⟨by simp[wk0],fun x hx=>?_,⟨hl.1,by show F.loop≤_;omega⟩,by simp[wk0],fun x hx=>by simp[wk0] at hx⟩⟩,⟨World.ownsRow_nil _ _ _ _,fun b hb=>by cases hb⟩⟩
  rw[(List.mem_replicate.1 hx).2]
  exact u64_0
end Go.Proofs.YtaangaogmnlljaaGreatDoor.Kn
namespace Go.Proofs.YtaangaogmnlljaaGreatDoor.Kn
open Go.RowKit Asm
def P0:List Value:= [.slice none 0 0, .int .i64 0, .slice none 0 0, .slice none 0 0, .int .i64 0, .int .i64 0, .int .i64 0]
def R0:List Value:=List.replicate 1000 (.int .i64 0)
def S0 (C th gW n:Nat):List Value:= [nilp,nilp,ptr C,nilp,nilp,nilp,nilp, .map (some th), .slice (some ⟨gW,0,none⟩) n n, .int .i64 0, .int .i64 0, .int .i64 0, .int .u64 0, .slice none 0 0]
set_option maxRecDepth 1000000 in
theorem build_mach (th gW C n:Nat) (W:World):(Instr.build 159 #[(10, .map (some th)),(11, .slice (some ⟨gW,0,none⟩) n n),(5, .pointer (some ⟨C,0,none⟩))]).run Tryz.prog W= .ok (.agg (P0++R0++S0 C th gW n).toArray) W:=by kernel_rfl
def wkZ:Wkr×Value:=({}, .slice none 0 0)
theorem made_rows {L:List Value} {k:Nat} (hk:L.length=k) (h0:0<k) (n:Nat):madeCells L.toArray (n*k)=((List.replicate n ()).flatMap fun _=>L).toArray:=by
 apply Array.ext'
 apply List.ext_getElem?
 intro i
 unfold madeCells
 rw[Array.toList_map,List.getElem?_map,Array.toList_range]
 by_cases hi:i<n*k
 ·rw[List.getElem?_range hi]
  have hq:i/k<n:=(Nat.div_lt_iff_lt_mul h0).2 hi
  have hj:i%k<k:=Nat.mod_lt _ h0
  have h1:=flL_at (k:=k) (f:=fun _:Unit=>L) (fun _=>hk) (List.replicate n ()) (i/k) (by simpa using hq) (i%k) hj
  rw[Nat.mul_comm (i/k) k,Nat.div_add_mod] at h1
  rw[h1]
  simp[hk,hj]
 ·have hl:=flL_len (k:=k) (f:=fun _:Unit=>L) (fun _=>hk) (List.replicate n ())
  rw[List.getElem?_eq_none (by simp;omega),List.getElem?_eq_none (by rw[hl,List.length_replicate];omega)]
  rfl
theorem made_wk (n:Nat):madeCells (wk38 wkZ).toArray (n*38)=((List.replicate n wkZ).flatMap wk38).toArray:=by
 rw[made_rows (L:=wk38 wkZ) (k:=38) rfl (by decide)]
 congr 1
 induction n with
 |zero=>rfl
 |succ n ih=>rw[List.replicate_succ,List.replicate_succ,List.flatMap_cons,List.flatMap_cons,ih]
theorem make_wk (n:Nat) (hn:n≤64) (W:World):(Instr.makeSlice 157 (.int .i64 (n:Int)) (.int .i64 (n:Int))).run Tryz.prog W= .ok (.slice (some ⟨W.heap.size,0,none⟩) n n) (W.alloc (.cells ((List.replicate n wkZ).flatMap wk38).toArray 166)):=by
 have h:=makeN 157 166 n (wk38 wkZ).toArray 38 Tryz.underlying157 (by kernel_rfl) hn W
 rw[made_wk] at h
 exact h
theorem row_code {w:World} {b:Nat} {v:Value} {l:List InsL} (h:w.ownsRow b 68 7 v l.length (codeC l)) (hl:0<l.length): ∃g c,v= .slice (some ⟨g,0,none⟩) l.length c∧CodeAt w g l∧g<w.heap.size:=by
 have hP:PRow w (fun _=> .other) .other 68 7 v l.length (codeC l):=⟨Asm.row_base h (Nat.zero_le _),fun _ _=>rfl⟩
 obtain ⟨g,c,h1,h2,-,h3⟩:=hP.codeAt hl
 exact ⟨g,c,h1,h2,h3⟩
end Go.Proofs.YtaangaogmnlljaaGreatDoor.Kn
namespace Go.Proofs.YtaangaogmnlljaaGreatDoor.Kn
open Go.RowKit Asm
structure MadeS (w wr:World) (n K th gW C:Nat):Prop where
 kb:KB wr K P0 R0 (S0 C th gW n)
 tmap:GMap ptrs wr th (fun _=>none) 0
 wk:wr.heap[gW]?=some (.cells ((List.replicate n wkZ).flatMap wk38).toArray 166 (0,0))
 clk: ∃hb hm ab,ClkP wr C hb hm (.slice none 0 0) ab { now:=0,S:= [],last:=0} 0 0∧ ∀b,b=C∨b=hb∨b=hm∨b=ab→w.heap.size≤b∧b≠K∧b≠th∧b≠gW
 d:w.heap.size≤K∧w.heap.size≤th∧w.heap.size≤gW∧K≠th∧K≠gW∧th≠gW
 below:Below w.heap.size w wr
noncomputable def machZ (th gW C n:Nat):Array Value:=((Tryz.zeroCells159.setIfInBounds 1014 (Value.map (some th))).setIfInBounds 1015 (Value.slice (some ⟨gW,0,none⟩) n n)).setIfInBounds 1009 (Value.pointer (some ⟨C,0,none⟩))
set_option maxRecDepth 1000000 in
theorem mach_zero (th gW C n:Nat):machZ th gW C n=(P0++R0++S0 C th gW n).toArray:=by kernel_rfl
theorem heap_at {X:World} {o:Obj} {k:Nat} (h:k=X.heap.size):(X.alloc o).heap[k]?=some o:=by
 subst h
 exact heap_alloc_new X o
theorem heap_dr (X:World) (k:Nat):X.drew.heap[k]?=X.heap[k]?:=rfl
theorem empty_map {wr:World} {th:Nat} (hth:wr.heap[th]?=some (.map #[] 0)):GMap ptrs wr th (fun _=>none) 0:=by
 obtain ⟨es,c,h1,h2,h3,h4⟩:=World.ownsMap_made wr Tryz.prog 53 ptrs.R
 have h0:=heap_alloc_new wr (.map #[] 0)
 rw[h0] at h1
 injection h1 with h1
 injection h1 with e1 e2
 subst e1 e2
 exact ⟨_,0,⟨_,_,hth,h2,h3,h4⟩,Nat.le_refl _,fun k _=>⟨rfl,fun j hj=>by cases hj⟩⟩
theorem made_any {w2 wr w3:World} {n K th gW C hb hm ab L:Nat} (hK:wr.heap[K]?=some (.cells (machZ th gW C n) 159 (0,0))) (hth:wr.heap[th]?=some (.map #[] 0)) (hgW:wr.heap[gW]?=some (.cells ((List.replicate n wkZ).flatMap wk38).toArray 166 (0,0)))
  (hC:ClkP w3 C hb hm (.slice none 0 0) ab { now:=0,S:= [],last:=0} 0 0) (h1:L≤C) (h2:L≤hb) (h3:L≤hm) (h4:L≤ab) (hkeep: ∀b,b<w3.heap.size→wr.heap[b]?=w3.heap[b]?)
  (hlo:w2.heap.size≤L∧w2.heap.size≤K∧w2.heap.size≤th∧w2.heap.size≤gW) (hd:K≠th∧K≠gW∧th≠gW) (hKw:w3.heap.size≤K) (ht:th<L∨w3.heap.size≤th) (hg:gW<L∨w3.heap.size≤gW) (hb':Below w2.heap.size w2 wr):MadeS w2 wr n K th gW C:=by
 have hlt: ∀b,b=C∨b=hb∨b=hm∨b=ab→L≤b∧b<w3.heap.size:=fun b e=>by
  rcases e with rfl|rfl|rfl|rfl
  ·exact ⟨h1,hC.lt (Or.inl rfl)⟩
  ·exact ⟨h2,hC.lt (Or.inr (Or.inr (Or.inl rfl)))⟩
  ·exact ⟨h3,hC.lt (Or.inr (Or.inr (Or.inr (Or.inl rfl))))⟩
  ·exact ⟨h4,hC.lt (Or.inr (Or.inl rfl))⟩
 refine ⟨⟨by rw[hK,mach_zero],rfl,List.length_replicate,rfl⟩,empty_map hth,hgW,⟨hb,hm,ab,hC.of_blocks fun b hb'=>hkeep b (hC.lt hb'),fun b e=>?_⟩,⟨hlo.2.1,hlo.2.2.1,hlo.2.2.2,hd.1,hd.2.1,hd.2.2⟩,hb'⟩
 have:=hlt b e
 omega
theorem made_fin {w2 wr w3:World} {n K th gW C hb hm ab L:Nat} (hK:wr.heap[K]?=some (.cells (machZ th gW C n) 159 (0,0))) (hC:ClkP w3 C hb hm (.slice none 0 0) ab { now:=0,S:= [],last:=0} 0 0) (h1:L≤C) (h2:L≤hb) (h3:L≤hm) (h4:L≤ab) (hth:wr.heap[th]?=some (.map #[] 0)) (hgW:wr.heap[gW]?=some (.cells ((List.replicate n wkZ).flatMap wk38).toArray 166 (0,0)))
  (hkeep: ∀b,b<w3.heap.size→wr.heap[b]?=w3.heap[b]?) (hlo:w2.heap.size≤L∧w2.heap.size≤K∧w2.heap.size≤th∧w2.heap.size≤gW) (hd:K≠th∧K≠gW∧th≠gW) (hKw:w3.heap.size≤K) (ht:th<L∨w3.heap.size≤th) (hg:gW<L∨w3.heap.size≤gW) (hbel:Below w2.heap.size w2 wr):
  ∃K' th' gW' C',Value.pointer (some ⟨K,0,none⟩)= .pointer (some ⟨K',0,none⟩)∧Hid (MadeS w2 wr n K' th' gW' C'):=⟨K,th,gW,C,rfl,Lib.hid (made_any hK hth hgW hC h1 h2 h3 h4 hkeep hlo hd hKw ht hg hbel)⟩
theorem MadeS.drewN {w wr:World} {n K th gW C:Nat} (h:MadeS w wr n K th gW C) (q:Nat):MadeS w (wr.drewN q) n K th gW C:=
 ⟨h.kb.of_block rfl,h.tmap.of_block rfl,h.wk,(by obtain ⟨hb,hm,ab,h1,h2⟩:=h.clk;exact ⟨hb,hm,ab,h1.of_blocks fun _ _=>rfl,h2⟩),h.d,⟨h.below.os,h.below.tape,h.below.output,h.below.size,h.below.block⟩⟩
theorem step_append_own2 {P:Program} (w:World) {ops:Array Oper} {o:Oper} {a:Act} {K:Act→World→Prop} {Q:Exit→Act→World→Prop} {E:Prop} (hgd:o.guard=none) (s x:Operand) (t:TypeId)
  (ho:o.op= .call { callee:= .builtin .append,args:=#[s,x],argTypes:=#[t,t]})
  (base:Nat) (e:TypeId) (i:TypeInfo) (z:Value) (size bytes:Nat) (ht:P.underlying t=some (.slice e)) (hi:P.info? e=some i) (hz:i.zero=some z)
  (hsize:i.size=size) (hby:i.bytes=bytes) (hzs:z.cells.size=size) (hsz:0<size)
  (v:Value) (n:Nat) (xs:List Value) (hs:a.eval s=v) (hown:w.ownsRow base e size v n xs)
  (ad:Addr) (m c:Nat) (news:List Value) (hx:a.eval x= .slice (some ad) m c) (hl:news.length=m*size) (hnews: ∀j u,news[j]?=some u→w.cell? (ad.add j)=some u) (h1: ∀u∈news,u.oneCell'=true)
  (h63:n+m≤maxLen) (hbytes:(n+m)*bytes≤140737488355328) (hbase:base≤w.heap.size)
  (h: ∀v' w',w.ownsRow base e size v n xs→w'.ownsRow base e size v' (n+m) (xs++news)→w.grownBy w' v.ownBlock→K (a.put o.dst v') w'):
  if Region.wanted o (yielded ops a.tmps)=true then Oper.wp P o a w K Q else E:=
 step_append_own w hgd s x t ho base e i z size bytes ht hi hz hsize hby hzs hsz v n xs hs hown ad m c news hx hl hnews h1 h63 hbytes hbase fun v' w' a b _=>h v' w' hown a b
theorem rows_both {w4 X w5:World} {base e1 e2 s1 s2 n1 n2:Nat} {v4 v2:Value} {xs1 xs2:List Value} (h4:w4.ownsRow base e1 s1 v4 n1 xs1) (hX:Below w4.heap.size w4 X) (hem:X.ownsRow base e2 s2 v2 n2 xs2) (hg:X.grownBy w5 v2.ownBlock) (hne:e1≠e2):w5.ownsRow base e1 s1 v4 n1 xs1:=by
 have hX4:=ownsRow_of_block h4 fun k e=>hX.block k (h4.lt k e).2
 refine ownsRow_of_block hX4 fun k e=>hg.block k (hX4.lt k e).2 fun q=>?_
 rcases Go.Proofs.YtaangaogmnlljaaGreatDoor.own_apart hX4 hem hne with h|h
 ·rw[h] at e;cases e
 ·exact h (e.trans q)
theorem keeps_strip {w w':World} {K:Nat} (h:Keeps (fun b=>b=K∨w.heap.size≤b) w w'):Keeps (fun b=>b=K) w w':=
 ⟨h.os,h.tape,h.output,h.size,fun k hk hx=>h.block k hk fun q=>q.elim hx fun q=>by omega⟩
theorem infoInsN:(Tryz.prog.info? 68).map (fun i=>(i.zero,i.size,i.bytes))=some (some (.agg #[.int .i64 0, .int .i64 0, .int .i64 0, .int .i64 0, .int .u64 0, .int .i64 0, .int .i64 0]),7,56):=by kernel_rfl
theorem row_new {X:World} {k base:Nat} {e:TypeId} {size:Nat} (h:X.heap[k]?=some (.cells #[] e (0,0))) (hb:base≤k):X.ownsRow base e size (.slice (some ⟨k,0,none⟩) 0 0) 0 []:=
 ⟨by simp, .inr ⟨_,0,#[],rfl,hb,h,Nat.le_refl _,by simp[maxLen],by simp,by simp⟩⟩
theorem codeC_len' (l:List InsL):(codeC l).length=l.length*7:=flL_len (k:=7) (f:=insC) (fun _=>rfl) l
theorem callC_len' (l:List RowL):(callC l).length=l.length*6:=flL_len (k:=6) (f:=row6) (fun _=>rfl) l
theorem codeC_one' (l:List InsL): ∀u∈codeC l,u.oneCell'=true:=fun u hu=>by
 obtain ⟨x,-,h⟩:=List.mem_flatMap.1 hu
 simp[insC] at h
 rcases h with rfl|rfl|rfl|rfl|rfl|rfl|rfl<;>rfl
theorem callC_one' (l:List RowL): ∀u∈callC l,u.oneCell'=true:=fun u hu=>by
 obtain ⟨x,-,h⟩:=List.mem_flatMap.1 hu
 simp[row6] at h
 rcases h with rfl|rfl|rfl|rfl|rfl|rfl<;>rfl
def PL (F:Fixed) (lv cv:Value):List Value:= [lv, .int .i64 F.loop,cv, .slice none 0 0, .int .i64 0, .int .i64 0, .int .i64 0]
structure LibS (F:Fixed) (wd wx:World) (K:Nat) (lv cv:Value) (S:List Value):Prop where
 kb:KB wx K (PL F lv cv) R0 S
 lib:wx.ownsRow wd.heap.size 68 7 lv F.lib.length (codeC F.lib)
 calls:wx.ownsRow wd.heap.size 184 6 cv F.calls.length (callC F.calls)
 keeps:Keeps (fun b=>b=K) wd wx
theorem row_set {w:World} {base:Nat} {e:TypeId} {size n:Nat} {v:Value} {xs:List Value} (h:w.ownsRow base e size v n xs) {K i:Nat} {u:Value} (hK:K<base):(w.setCell ⟨K,i,none⟩ u).ownsRow base e size v n xs:=
 ownsRow_of_block h fun b hb=>set_other (by have:=(h.lt b hb).1;show b≠K;omega)
theorem libS_of {F:Fixed} {wd X:World} {K:Nat} {lv cv:Value} {S:List Value} (kb:KB wd K P0 R0 S) (hX:Below wd.heap.size wd X) (h1:X.ownsRow wd.heap.size 68 7 lv F.lib.length (codeC F.lib)) (h2:X.ownsRow wd.heap.size 184 6 cv F.calls.length (callC F.calls)):
  LibS F wd (((X.setCell ⟨K,0,none⟩ lv).setCell ⟨K,1,none⟩ (.int .i64 F.loop)).setCell ⟨K,2,none⟩ cv) K lv cv S:=by
 have hK:=kb.lt
 refine ⟨(((kb.below hX).setP (j:=0) (by decide) lv).setP (j:=1) (by decide) _).setP (j:=2) (by decide) cv,row_set (row_set (row_set h1 hK) hK) hK,row_set (row_set (row_set h2 hK) hK) hK,?_⟩
 exact (((Keeps.ofBelow (X:=fun b=>b=K) hX).setCell (p:=⟨K,0,none⟩) rfl _).setCell (p:=⟨K,1,none⟩) rfl _).setCell (p:=⟨K,2,none⟩) rfl _
structure CodeS (F:Fixed) (wd wx:World) (K:Nat) (lv cv pv:Value) (entry:Int) (S:List Value):Prop where
 kb:KB wx K (P7 F lv cv pv entry) R0 S
 code:wx.ownsRow wd.heap.size 68 7 pv F.code.length (codeC F.code)
 keeps:Keeps (fun b=>b=K) wd wx
theorem codeS_of {F:Fixed} {wd X:World} {K:Nat} {lv cv pv:Value} {entry:Int} {S:List Value} (kb:KB wd K (PL F lv cv) R0 S) (hX:Below wd.heap.size wd X) (h1:X.ownsRow wd.heap.size 68 7 pv F.code.length (codeC F.code)):
  CodeS F wd ((((X.setCell ⟨K,3,none⟩ pv).setCell ⟨K,4,none⟩ (.int .i64 entry)).setCell ⟨K,5,none⟩ (.int .i64 F.wide)).setCell ⟨K,6,none⟩ (.int .i64 F.narrow)) K lv cv pv entry S:=by
 have hK:=kb.lt
 refine ⟨((((kb.below hX).setP (j:=3) (by decide) pv).setP (j:=4) (by decide) _).setP (j:=5) (by decide) _).setP (j:=6) (by decide) _,row_set (row_set (row_set (row_set h1 hK) hK) hK) hK,?_⟩
 exact ((((Keeps.ofBelow (X:=fun b=>b=K) hX).setCell (p:=⟨K,3,none⟩) rfl _).setCell (p:=⟨K,4,none⟩) rfl _).setCell (p:=⟨K,5,none⟩) rfl _).setCell (p:=⟨K,6,none⟩) rfl _
theorem rowIx_app (l:List RowL) (x:RowL) (num:Int) (h0:rowIx l num=0∨x.num≠num):rowIx (l++ [x]) num=if x.num=num then l.length+1 else rowIx l num:=by
 unfold rowIx at*
 rw[List.findIdx?_append]
 cases h:l.findIdx? (fun r=>r.num==num) with
 |some i=>
  rw[h] at h0
  have hx:x.num≠num:=h0.resolve_left (by simp)
  rw[if_neg hx]
  rfl
 |none=>
  by_cases e:x.num=num
  ·simp[List.findIdx?_cons,e]
  ·simp[List.findIdx?_cons,e]
theorem rowIx_fresh {l:List RowL} {k:Nat} (hk:k<l.length) (hn:(l.map (·.num)).Nodup):rowIx (l.take k) l[k].num=0:=by
 unfold rowIx
 have:(l.take k).findIdx? (fun r=>r.num==l[k].num)=none:=by
  rw[List.findIdx?_eq_none_iff]
  intro x hx
  obtain ⟨j,hj,rfl⟩:=List.getElem_of_mem hx
  rw[List.length_take] at hj
  rw[List.getElem_take]
  refine beq_eq_false_iff_ne.2 fun e=>?_
  have h1:(l.map (·.num))[j]?=(l.map (·.num))[k]?:=by
   rw[List.getElem?_map,List.getElem?_map,List.getElem?_eq_getElem (by omega),List.getElem?_eq_getElem hk]
   simp[e]
  have:=(List.getElem?_inj (by rw[List.length_map];omega) hn).1 h1
  omega
 rw[this]
theorem rowsV_zero (F:Fixed):rowsV F 0=R0:=by
 unfold rowsV R0
 rw[List.take_zero]
 apply List.ext_getElem?
 intro i
 rw[List.getElem?_map,List.getElem?_replicate]
 by_cases hi:i<1000
 ·rw[List.getElem?_range hi,if_pos hi];rfl
 ·rw[List.getElem?_eq_none (by simpa using hi),if_neg hi];rfl
theorem rowsV_succ {F:Fixed} {k m:Nat} (hk:k<F.calls.length) (hn:(F.calls.map (·.num)).Nodup) (hm:F.calls[k].num=(m:Int)):rowsV F (k+1)=(rowsV F k).set m (.int .i64 ((k:Int)+1)):=by
 have htk:F.calls.take (k+1)=F.calls.take k++ [F.calls[k]]:=by
  rw[List.take_add_one,List.getElem?_eq_getElem hk];rfl
 have hfr:=rowIx_fresh hk hn
 unfold rowsV
 rw[htk]
 apply List.ext_getElem?
 intro i
 rw[List.getElem?_map,List.getElem?_set,List.getElem?_map,List.length_map,List.length_range]
 by_cases hi:i<1000
 ·rw[List.getElem?_range hi]
  by_cases e:m=i
  ·subst e
   have h1:=rowIx_app (F.calls.take k) F.calls[k] (m:Int) (Or.inl (by rw[←hm];exact hfr))
   rw[if_pos hm,List.length_take] at h1
   rw[if_pos rfl,if_pos hi]
   simp only[Option.map_some]
   rw[h1,show min k F.calls.length=k by omega]
   rfl
  ·have hne:F.calls[k].num≠(i:Int):=fun q=>e (by rw[hm] at q;omega)
   have h1:=rowIx_app (F.calls.take k) F.calls[k] (i:Int) (Or.inr hne)
   rw[if_neg hne] at h1
   rw[if_neg e]
   simp only[Option.map_some]
   rw[h1]
 ·rw[List.getElem?_eq_none (by simpa using hi)]
  by_cases e:m=i
  ·rw[if_pos e,if_neg (by omega)];rfl
  ·rw[if_neg e];rfl
def wkf (F:Fixed) (t:Bool):List Value:=if t=true then wk38 (wk0 F,Value.slice none 0 0) else wk38 wkZ
theorem wkf_len (F:Fixed) (t:Bool):(wkf F t).length=38:=by cases t<;>rfl
def wkB (n i:Nat):List Bool:=List.replicate i true++List.replicate (n - i) false
theorem wkB_len {n i:Nat} (h:i≤n):(wkB n i).length=n:=by simp[wkB];omega
theorem wkB_zero (F:Fixed) (n:Nat):(wkB n 0).flatMap (wkf F)=(List.replicate n wkZ).flatMap wk38:=by
 unfold wkB
 rw[List.replicate_zero,List.nil_append,Nat.sub_zero]
 induction n with
 |zero=>rfl
 |succ n ih=>rw[List.replicate_succ,List.replicate_succ,List.flatMap_cons,List.flatMap_cons,ih];rfl
theorem wkB_all (F:Fixed) (n:Nat):(wkB n n).flatMap (wkf F)=(List.replicate n (wk0 F,Value.slice none 0 0)).flatMap wk38:=by
 unfold wkB
 rw[Nat.sub_self,List.replicate_zero,List.append_nil]
 induction n with
 |zero=>rfl
 |succ n ih=>rw[List.replicate_succ,List.replicate_succ,List.flatMap_cons,List.flatMap_cons,ih];rfl
theorem wkB_at {n i:Nat} (h:i<n):(wkB n i)[i]'(by rw[wkB_len (by omega)];exact h)=false:=by
 unfold wkB
 rw[List.getElem_append_right (by simp),List.getElem_replicate]
theorem wkB_set {n i:Nat} (h:i<n):(wkB n i).set i true=wkB n (i+1):=by
 unfold wkB
 rw[List.set_append_right _ _ (by simp),List.length_replicate,Nat.sub_self,show n - i=(n - (i+1))+1 by omega,List.replicate_succ,List.set_cons_zero,List.replicate_succ',List.append_assoc]
 rfl
theorem wkB_cell (F:Fixed) {n i:Nat} (h:i<n):((wkB n i).flatMap (wkf F))[i*38+4]?=some (.int .i64 0):=by
 rw[flL_at (wkf_len F) (wkB n i) i (by rw[wkB_len (by omega)];exact h) 4 (by decide),wkB_at h]
 rfl
theorem wkB_put (F:Fixed) {n i:Nat} (h:i<n):((wkB n i).flatMap (wkf F)).set (i*38+4) (.int .i64 F.loop)=(wkB n (i+1)).flatMap (wkf F):=by
 rw[flL_set (wkf_len F) (wkB n i) i (by rw[wkB_len (by omega)];exact h) 4 (by decide) (.int .i64 F.loop) true (by rw[wkB_at h];rfl),wkB_set h]
theorem wkB_store {X:World} {F:Fixed} {n k gW:Nat} (h:X.heap[gW]?=some (.cells ((wkB n k).flatMap (wkf F)).toArray 166 (0,0))) (hk:k<n):(X.setCell ⟨gW,k*38+4,none⟩ (.int .i64 F.loop)).heap[gW]?=some (.cells ((wkB n (k+1)).flatMap (wkf F)).toArray 166 (0,0)):=by
 rw[set_block h,List.setIfInBounds_toArray,wkB_put F hk]
theorem bornK_u64 (M:Mach) (place r0:Int):U64 (bornK M place r0).1:=by
 unfold bornK
 cases getA M.alc M.mem 1 64 with
 |none=>exact u64_0
 |some g=>
  obtain ⟨home,alc,mem⟩:=g
  simp only
  cases e:bornT M.tab home with
  |none=>exact u64_0
  |some q=>
   obtain ⟨id,tab⟩:=q
   exact born_u64 e
theorem news_fin (F:Fixed) {cells:Nat} {entry:Int} {w2 wd w14 w15 w16 w17 w18 w19 w20 w21 wF:World} {n K th gW C R gr Q gl mb T gt O go X gc gw A:Nat} {B:Int→Nat} {lv cv pv:Value} {P Rw S:List Value}
  (hn:n=F.workers) (md:MadeS w2 wd n K th gW C)
  (hl:w14.ownsRow wd.heap.size 68 7 lv F.lib.length (codeC F.lib)) (hc:w14.ownsRow wd.heap.size 184 6 cv F.calls.length (callC F.calls)) (k14:Keeps (fun b=>b=K) wd w14)
  (hp:w15.ownsRow w14.heap.size 68 7 pv F.code.length (codeC F.code)) (k15:Keeps (fun b=>b=K) w14 w15) (k16:Keeps (fun b=>b=K) w15 w16)
  (hR:RingP w17 R gr []) (bR:w16.heap.size≤R∧w16.heap.size≤gr) (k17:Keeps (fun b=>b=K) w16 w17)
  (hQ:WqP w18 Q gl mb B [] 0) (bQ:w17.heap.size≤Q∧w17.heap.size≤gl∧w17.heap.size≤mb) (k18:Keeps (fun b=>b=K) w17 w18)
  (hT:TabP w19 T gt (List.replicate 64 {}) 0) (bT:w18.heap.size≤T∧w18.heap.size≤gt) (k19:Keeps (fun b=>b=K) w18 w19)
  (hO:ObjP w20 O go (List.replicate 64 {}) 0) (bO:w19.heap.size≤O∧w19.heap.size≤go) (k20:Keeps (fun b=>b=K) w19 w20)
  (hL:LayS w20 w21 K X gc gw P Rw S (laidM F cells)) (hA:AlcP w21 A X (.slice none 0 0) ⟨baseN F+F.wide.toNat+F.narrow.toNat,cells,[]⟩) (bA:w20.heap.size≤A∧X≠A∧gc≠A∧gw≠A)
  (kF:Keeps (fun b=>b=gW) w21 wF)
  (hkb:KB wF K (P7 F lv cv pv entry) (rowsV F F.calls.length) (S14 X A C R Q T O th gW n))
  (hwk:wF.heap[gW]?=some (.cells ((List.replicate n (wk0 F,Value.slice none 0 0)).flatMap wk38).toArray 166 (0,0))):
  NewS wF F { K:=K,X:=X,A:=A,C:=C,R:=R,Q:=Q,T:=T,O:=O,th:=th,gW:=gW,lv:=lv,cv:=cv,pv:=pv,tb:=fun _=>0,fb:=fun _ _=>0} cells w2.heap.size wd.heap.size w16.heap.size w17.heap.size w18.heap.size w19.heap.size w20.heap.size entry:=by
 subst hn
 have k21:=keeps_strip hL.keeps
 have s14:=k14.size
 have s15:=k15.size
 have s16:=k16.size
 have s17:=k17.size
 have s18:=k18.size
 have s19:=k19.size
 have s20:=k20.size
 have s21:=k21.size
 have sF:=kF.size
 have hKd:=md.kb.lt
 have hgd:=blk_in md.wk
 have htd:=md.tmap.lt
 obtain ⟨d1,d2,d3,d4,d5,d6⟩:=md.d
 have st: ∀{a b:World},Keeps (fun x=>x=K) a b→ ∀x,x<a.heap.size→x≠K→b.heap[x]?=a.heap[x]?:=fun h x hx hne=>h.block x hx hne
 have f21: ∀x,x<w21.heap.size→x≠gW→wF.heap[x]?=w21.heap[x]?:=fun x hx hne=>kF.block x hx hne
 have f20: ∀x,x<w20.heap.size→x≠K→x≠gW→wF.heap[x]?=w20.heap[x]?:=fun x hx h1 h2=>(f21 x (by omega) h2).trans (st k21 x hx h1)
 have f19: ∀x,x<w19.heap.size→x≠K→x≠gW→wF.heap[x]?=w19.heap[x]?:=fun x hx h1 h2=>(f20 x (by omega) h1 h2).trans (st k20 x hx h1)
 have f18: ∀x,x<w18.heap.size→x≠K→x≠gW→wF.heap[x]?=w18.heap[x]?:=fun x hx h1 h2=>(f19 x (by omega) h1 h2).trans (st k19 x hx h1)
 have f17: ∀x,x<w17.heap.size→x≠K→x≠gW→wF.heap[x]?=w17.heap[x]?:=fun x hx h1 h2=>(f18 x (by omega) h1 h2).trans (st k18 x hx h1)
 have f16: ∀x,x<w16.heap.size→x≠K→x≠gW→wF.heap[x]?=w16.heap[x]?:=fun x hx h1 h2=>(f17 x (by omega) h1 h2).trans (st k17 x hx h1)
 have f15: ∀x,x<w15.heap.size→x≠K→x≠gW→wF.heap[x]?=w15.heap[x]?:=fun x hx h1 h2=>(f16 x (by omega) h1 h2).trans (st k16 x hx h1)
 have f14: ∀x,x<w14.heap.size→x≠K→x≠gW→wF.heap[x]?=w14.heap[x]?:=fun x hx h1 h2=>(f15 x (by omega) h1 h2).trans (st k15 x hx h1)
 have fd: ∀x,x<wd.heap.size→x≠K→x≠gW→wF.heap[x]?=wd.heap[x]?:=fun x hx h1 h2=>(f14 x (by omega) h1 h2).trans (st k14 x hx h1)
 obtain ⟨lX,lgc,lgw⟩:=hL.mem.lt
 have lA:=hA.lt
 obtain ⟨nX,ngc,ngw⟩:=hL.new
 refine ⟨hkb,?_,?_,?_,?_,⟨gc,gw,?_,hL.new,bA.2.1,bA.2.2.1,bA.2.2.2⟩,?_,?_,⟨gr,?_,?_⟩,⟨gl,mb,B,?_,?_⟩,⟨gt,?_,?_⟩,⟨go,?_,?_⟩,?_,hwk,⟨⟨d1,hKd⟩,⟨d2,htd⟩,⟨d3,hgd⟩,d4,d5,d6,⟨by omega,by omega,by omega,by omega,by omega⟩,bA.1⟩⟩
 ·exact ownsRow_of_block hl fun k e=>by obtain ⟨a,b⟩:=hl.lt k e;exact f14 k b (by omega) (by omega)
 ·exact ownsRow_of_block hc fun k e=>by obtain ⟨a,b⟩:=hc.lt k e;exact f14 k b (by omega) (by omega)
 ·exact Asm.row_base (ownsRow_of_block hp fun k e=>by obtain ⟨a,b⟩:=hp.lt k e;exact f15 k b (by omega) (by omega)) s14
 ·intro b hb
  rcases hb with hb|hb|hb
  ·have:=(hl.lt b hb).2;show b<w16.heap.size;omega
  ·have:=(hc.lt b hb).2;show b<w16.heap.size;omega
  ·have:=(hp.lt b hb).2;show b<w16.heap.size;omega
 ·exact hL.mem.of_blocks fun b hb=>by rcases hb with rfl|rfl|rfl<;>exact f21 _ (by assumption) (by omega)
 ·refine hA.of_blocks fun b hb=>?_
  rcases hb with rfl|hb
  ·exact f21 _ lA (by have:=bA.1;omega)
  ·cases hb
 ·obtain ⟨hb,hm,ab,hC,hall⟩:=md.clk
  refine ⟨hb,hm,ab,?_,fun b e=>?_⟩
  ·refine hC.of_blocks fun b e=>?_
   have hlt:=hC.lt e
   have e2:b=C∨b=hb∨b=hm∨b=ab:=by
    rcases e with e|e|e|e|e
    ·exact Or.inl e
    ·exact Or.inr (Or.inr (Or.inr e))
    ·exact Or.inr (Or.inl e)
    ·exact Or.inr (Or.inr (Or.inl e))
    ·cases e
   exact fd b hlt (hall b e2).2.1 (hall b e2).2.2.2
  ·have hlt:b<wd.heap.size:=by
    rcases e with rfl|rfl|rfl|rfl
    ·exact hC.lt (Or.inl rfl)
    ·exact hC.lt (Or.inr (Or.inr (Or.inl rfl)))
    ·exact hC.lt (Or.inr (Or.inr (Or.inr (Or.inl rfl))))
    ·exact hC.lt (Or.inr (Or.inl rfl))
   exact ⟨⟨(hall b e).1,hlt⟩,(hall b e).2⟩
 ·obtain ⟨l1,l2⟩:=hR.lt
  exact hR.of_blocks fun b hb=>by rcases hb with rfl|rfl<;>exact f17 _ (by assumption) (by omega) (by omega)
 ·obtain ⟨l1,l2⟩:=hR.lt
  intro b hb
  rcases hb with rfl|rfl
  ·exact ⟨bR.1,l1⟩
  ·exact ⟨bR.2,l2⟩
 ·refine hQ.of_blocks fun b hb=>?_
  have hlt:=hQ.lt hb
  have:w17.heap.size≤b:=by
   rcases hb with (rfl|rfl|⟨s,hs,-⟩) |rfl
   ·exact bQ.1
   ·exact bQ.2.1
   ·cases hs
   ·exact bQ.2.2
  exact f18 b hlt (by omega) (by omega)
 ·intro b hb
  rcases hb with rfl|rfl|rfl
  ·exact ⟨bQ.1,hQ.lt (Or.inl (Or.inl rfl))⟩
  ·exact ⟨bQ.2.1,hQ.lt (Or.inl (Or.inr (Or.inl rfl)))⟩
  ·exact ⟨bQ.2.2,hQ.lt (Or.inr rfl)⟩
 ·obtain ⟨l1,l2⟩:=hT.lt
  exact hT.of_blocks fun b hb=>by rcases hb with rfl|rfl<;>exact f19 _ (by assumption) (by omega) (by omega)
 ·obtain ⟨l1,l2⟩:=hT.lt
  intro b hb
  rcases hb with rfl|rfl
  ·exact ⟨bT.1,l1⟩
  ·exact ⟨bT.2,l2⟩
 ·obtain ⟨l1,l2⟩:=hO.lt
  exact hO.of_blocks fun b hb=>by rcases hb with rfl|rfl<;>exact f20 _ (by assumption) (by omega) (by omega)
 ·obtain ⟨l1,l2⟩:=hO.lt
  intro b hb
  rcases hb with rfl|rfl
  ·exact ⟨bO.1,l1⟩
  ·exact ⟨bO.2,l2⟩
 ·exact md.tmap.of_block (fd th htd (by omega) d6)
end Go.Proofs.YtaangaogmnlljaaGreatDoor.Kn
namespace Go.Proofs.YtaangaogmnlljaaGreatDoor.Kn
open Go.RowKit Asm
def boxed (w:World) (x:InsL):World:=w.alloc (.cells (insV x) 68)
theorem boxed_below (w:World) (x:InsL):Below w.heap.size w (boxed w x):=(Below.refl _ _).alloc (Nat.le_refl _) _
set_option maxRecDepth 100000 in
set_option maxHeartbeats 4000000 in
theorem spec_hand {w:World} {K wb wo b o:Nat} {tv:Option Addr} (x:InsL) (ho:x.op=30∨x.op=33∨x.op=34∨x.op=35) {Q:World→Prop}
  (H:Calls Tryz.prog 241 #[.pointer (some ⟨K,0,none⟩), .pointer (some ⟨wb,wo,none⟩), .pointer (some ⟨b,o,none⟩), .agg (insV x)] (boxed w x) fun e w'=>e= .returned (.tuple #[])∧Q w'):
  Calls Tryz.prog 194 #[.pointer (some ⟨K,0,none⟩), .pointer (some ⟨wb,wo,none⟩), .pointer tv, .pointer (some ⟨b,o,none⟩), .agg (insV x)] w fun e w'=>e= .returned (.int .i64 0)∧Q w':=by
 obtain ⟨xo,xa,xb,xc,xv,xm,xw⟩:=x
 unfold boxed at H
 have hz:=heap_alloc_new w (.cells (insV ⟨xo,xa,xb,xc,xv,xm,xw⟩) 68)
 unfold insV at*
 simp only at ho
 generalize hw1:w.alloc (.cells #[.int .i64 xo, .int .i64 xa, .int .i64 xb, .int .i64 xc, .int .u64 xv, .int .i64 xm, .int .i64 xw] 68)=w1 at*
 have BZ:=Lib.hid hz
 have HH:=Lib.hid H
 clear H hz
 generalize hbx:w.heap.size=bx at*
 have z0:=blk_cell BZ.out 0
 have z1:=blk_cell BZ.out 1
 have z2:=blk_cell BZ.out 2
 have z3:=blk_cell BZ.out 3
 have z4:=blk_cell BZ.out 4
 have z5:=blk_cell BZ.out 5
 have z6:=blk_cell BZ.out 6
 rcases ho with rfl|rfl|rfl|rfl
 all_goals
  go_enter Tryz.func194,Tryz.ntmps194
  go_wp2_with fail
  try rw[hw1]
  try clear hw1 hbx
  go_wp2_with fail
  refine HH.out.mono ?_
  rintro e w2 ⟨rfl,hq⟩
  have HQ:=Lib.hid hq
  clear hq
  go_wp2_with fail
  go_ret
  exact ⟨rfl,HQ.out⟩
end Go.Proofs.YtaangaogmnlljaaGreatDoor.Kn
namespace Go.Proofs.YtaangaogmnlljaaGreatDoor.Kn
open Go.RowKit Asm
def Box7 (W:World) (bx:Nat) (x:InsL):Prop:=W.cell? ⟨bx,0,none⟩=some (.int .i64 x.op)∧W.cell? ⟨bx,1,none⟩=some (.int .i64 x.a)∧W.cell? ⟨bx,2,none⟩=some (.int .i64 x.b)∧W.cell? ⟨bx,3,none⟩=some (.int .i64 x.c)∧W.cell? ⟨bx,4,none⟩=some (.int .u64 x.v)∧W.cell? ⟨bx,5,none⟩=some (.int .i64 x.m)∧W.cell? ⟨bx,6,none⟩=some (.int .i64 x.w)
theorem boxed_box7 (w:World) (x:InsL):Box7 (Kn.boxed w x) w.heap.size x:=InsBox.of (t:=68) (heap_alloc_new w _)
theorem boxed_lit (w:World) (o a b c v m ww:Int):w.alloc (.cells #[.int .i64 o, .int .i64 a, .int .i64 b, .int .i64 c, .int .u64 v, .int .i64 m, .int .i64 ww] 68)=Kn.boxed w ⟨o,a,b,c,v,m,ww⟩:=rfl
set_option maxRecDepth 100000 in
set_option maxHeartbeats 4000000 in
theorem own_went {w:World} {K wb wo:Nat} (x:InsL) {P Q:World→Prop} (hu: ∃u,w.cell? ⟨wb,wo+2,none⟩=some u) (hfz:w.frozen? ⟨wb,wo+2,none⟩=false) (HS:Calls Tryz.prog 193 #[.pointer (some ⟨K,0,none⟩), .pointer (some ⟨wb,wo+4,none⟩)] (w.setCell ⟨wb,wo+2,none⟩ (.bool false)) fun e w'=>e= .returned (.tuple #[.agg (insV x), .int .i64 0])∧P w')
  (H1: ∀w1,P w1→Calls Tryz.prog 195 #[.pointer (some ⟨K,0,none⟩), .int .u64 0, .pointer (some ⟨wb,wo+4,none⟩), .agg (insV x)] (Kn.boxed w1 x).drew fun e w'=>e= .returned (.tuple #[])∧Q w'):Calls Tryz.prog 131 #[.pointer (some ⟨K,0,none⟩), .pointer (some ⟨wb,wo,none⟩)] w fun e w'=>e= .returned (.tuple #[])∧Q w':=by
 obtain ⟨xo,xa,xb,xc,xv,xm,xw⟩:=x
 have HB7:=Lib.hid fun w1=>boxed_box7 w1 ⟨xo,xa,xb,xc,xv,xm,xw⟩
 unfold insV Box7 at*
 simp only at HB7
 have HH:=Lib.hid H1
 have HSS:=Lib.hid HS
 obtain ⟨u0,hu0⟩:=hu
 clear HS H1
 go_enter Tryz.func131,Tryz.ntmps131
 go_wp2_with fail
 refine HSS.out.mono ?_
 rintro e w1 ⟨rfl,hp⟩
 have HP:=Lib.hid hp
 obtain ⟨q0,q1,q2,q3,q4,q5,q6⟩:=HB7.out w1
 clear hp
 go_wp2_with fail
 rw[boxed_lit]
 generalize hbw:Kn.boxed w1 ⟨xo,xa,xb,xc,xv,xm,xw⟩=wb1 at*
 have HC:=Lib.hid (HH.out w1 HP.out)
 rw[hbw] at HC
 generalize w1.heap.size=bx at*
 go_still_tail 5,(by kernel_rfl)
 change wpList _ _ _ _ _ wb1.drew
 go_wp2_with fail
 refine HC.out.mono ?_
 rintro e w2 ⟨rfl,hq⟩
 have HQ:=Lib.hid hq
 clear hq
 go_wp2_with fail
 go_end0
 exact ⟨rfl,HQ.out⟩
set_option maxRecDepth 100000 in
set_option maxHeartbeats 4000000 in
theorem own_away1 {w:World} {K wb wo:Nat} (x:InsL) {P Q:World→Prop} {P2:World→World→Prop} (hu: ∃u,w.cell? ⟨wb,wo+2,none⟩=some u) (hfz:w.frozen? ⟨wb,wo+2,none⟩=false) (HS:Calls Tryz.prog 193 #[.pointer (some ⟨K,0,none⟩), .pointer (some ⟨wb,wo+4,none⟩)] (w.setCell ⟨wb,wo+2,none⟩ (.bool false)) fun e w'=>e= .returned (.tuple #[.agg (insV x), .int .i64 1])∧P w')
  (H1: ∀w1,P w1→Calls Tryz.prog 194 #[.pointer (some ⟨K,0,none⟩), .pointer (some ⟨wb,wo,none⟩), .pointer none, .pointer (some ⟨wb,wo+4,none⟩), .agg (insV x)] (Kn.boxed w1 x).drew fun e w'=>e= .returned (.int .i64 1)∧P2 w1 w')
  (H2: ∀w1 w2,P w1→P2 w1 w2→Q w2):Calls Tryz.prog 131 #[.pointer (some ⟨K,0,none⟩), .pointer (some ⟨wb,wo,none⟩)] w fun e w'=>e= .returned (.tuple #[])∧Q w':=by
 obtain ⟨xo,xa,xb,xc,xv,xm,xw⟩:=x
 have HB7:=Lib.hid fun w1=>boxed_box7 w1 ⟨xo,xa,xb,xc,xv,xm,xw⟩
 unfold insV Box7 at*
 simp only at HB7
 have HH:=Lib.hid H1
 have HSS:=Lib.hid HS
 have HH2:=Lib.hid H2
 obtain ⟨u0,hu0⟩:=hu
 clear HS H1 H2
 go_enter Tryz.func131,Tryz.ntmps131
 go_wp2_with fail
 refine HSS.out.mono ?_
 rintro e w1 ⟨rfl,hp⟩
 have HP:=Lib.hid hp
 obtain ⟨q0,q1,q2,q3,q4,q5,q6⟩:=HB7.out w1
 clear hp
 go_wp2_with fail
 rw[boxed_lit]
 have HC:=Lib.hid (HH.out w1 HP.out)
 generalize hbw:Kn.boxed w1 ⟨xo,xa,xb,xc,xv,xm,xw⟩=wb1 at*
 obtain ⟨bx,hbx⟩: ∃bx,bx=w1.heap.size:=⟨_,rfl⟩
 rw[←hbx] at q0 q1 q2 q3 q4 q5 q6 ⊢
 have HBX:=Lib.hid hbx
 clear hbx hbw
 go_still_tail 6,(by kernel_rfl)
 change wpList _ _ _ _ _ wb1.drew
 go_wp2_with fail
 refine HC.out.mono ?_
 rintro e w2 ⟨rfl,hq⟩
 have HP2:=Lib.hid hq
 clear hq q0 q1 q2 q3 q4 q5 q6
 go_wp2_with fail
 go_end0
 exact ⟨rfl,HH2.out w1 w2 HP.out HP2.out⟩
set_option maxRecDepth 100000 in
set_option maxHeartbeats 4000000 in
theorem own_away0 {w:World} {K wb wo:Nat} (x:InsL) {P Q:World→Prop} {P2:World→World→Prop} (hu: ∃u,w.cell? ⟨wb,wo+2,none⟩=some u) (hfz:w.frozen? ⟨wb,wo+2,none⟩=false) (HS:Calls Tryz.prog 193 #[.pointer (some ⟨K,0,none⟩), .pointer (some ⟨wb,wo+4,none⟩)] (w.setCell ⟨wb,wo+2,none⟩ (.bool false)) fun e w'=>e= .returned (.tuple #[.agg (insV x), .int .i64 1])∧P w')
  (H1: ∀w1,P w1→Calls Tryz.prog 194 #[.pointer (some ⟨K,0,none⟩), .pointer (some ⟨wb,wo,none⟩), .pointer none, .pointer (some ⟨wb,wo+4,none⟩), .agg (insV x)] (Kn.boxed w1 x).drew fun e w'=>e= .returned (.int .i64 0)∧P2 w1 w')
  (HF: ∀w1 w2,P w1→P2 w1 w2→(∃pc:Int,w2.cell? ⟨wb,wo+4,none⟩=some (.int .i64 pc)∧(0≤pc∧pc≤1000000)∧w2.frozen? ⟨wb,wo+4,none⟩=false∧Calls Tryz.prog 195 #[.pointer (some ⟨K,0,none⟩), .int .u64 0, .pointer (some ⟨wb,wo+4,none⟩), .agg (insV x)] (w2.setCell ⟨wb,wo+4,none⟩ (.int .i64 (pc+1))).drew fun e w'=>e= .returned (.tuple #[])∧Q w')∧Box7 w2 w1.heap.size x∧w1.heap.size≠wb):Calls Tryz.prog 131 #[.pointer (some ⟨K,0,none⟩), .pointer (some ⟨wb,wo,none⟩)] w fun e w'=>e= .returned (.tuple #[])∧Q w':=by
 obtain ⟨xo,xa,xb,xc,xv,xm,xw⟩:=x
 have HB7:=Lib.hid fun w1=>boxed_box7 w1 ⟨xo,xa,xb,xc,xv,xm,xw⟩
 unfold insV Box7 at*
 simp only at HB7
 have HH:=Lib.hid H1
 have HSS:=Lib.hid HS
 have HHF:=Lib.hid HF
 obtain ⟨u0,hu0⟩:=hu
 clear HS H1 HF
 go_enter Tryz.func131,Tryz.ntmps131
 go_wp2_with fail
 refine HSS.out.mono ?_
 rintro e w1 ⟨rfl,hp⟩
 have HP:=Lib.hid hp
 obtain ⟨q0,q1,q2,q3,q4,q5,q6⟩:=HB7.out w1
 clear hp
 go_wp2_with fail
 rw[boxed_lit]
 have HC:=Lib.hid (HH.out w1 HP.out)
 generalize hbw:Kn.boxed w1 ⟨xo,xa,xb,xc,xv,xm,xw⟩=wb1 at*
 obtain ⟨bx,hbx⟩: ∃bx,bx=w1.heap.size:=⟨_,rfl⟩
 rw[←hbx] at q0 q1 q2 q3 q4 q5 q6 ⊢
 have HBX:=Lib.hid hbx
 clear hbx hbw
 go_still_tail 6,(by kernel_rfl)
 change wpList _ _ _ _ _ wb1.drew
 go_wp2_with fail
 refine HC.out.mono ?_
 rintro e w2 ⟨rfl,hq⟩
 have HP2:=Lib.hid hq
 clear hq q0 q1 q2 q3 q4 q5 q6
 have hf:=HHF.out w1 w2 HP.out HP2.out
 rw[←HBX.out] at hf
 obtain ⟨⟨pc,p0,p1,p2,hm⟩,⟨q0,q1,q2,q3,q4,q5,q6⟩,hne⟩:=hf
 have HM:=Lib.hid hm
 have hpw:IntKind.i64.wrap (pc+1)=pc+1:=by rw[IntKind.wrap_i64];omega
 clear hm
 go_wp2_with fail
 have s0:(w2.setCell ⟨wb,wo+4,none⟩ (.int .i64 (pc+1))).cell? ⟨bx,0,none⟩=some (.int .i64 xo):=(World.cell?_of_block (a:=⟨bx,0,none⟩) (set_other hne)).trans q0
 have s1:(w2.setCell ⟨wb,wo+4,none⟩ (.int .i64 (pc+1))).cell? ⟨bx,1,none⟩=some (.int .i64 xa):=(World.cell?_of_block (a:=⟨bx,1,none⟩) (set_other hne)).trans q1
 have s2:(w2.setCell ⟨wb,wo+4,none⟩ (.int .i64 (pc+1))).cell? ⟨bx,2,none⟩=some (.int .i64 xb):=(World.cell?_of_block (a:=⟨bx,2,none⟩) (set_other hne)).trans q2
 have s3:(w2.setCell ⟨wb,wo+4,none⟩ (.int .i64 (pc+1))).cell? ⟨bx,3,none⟩=some (.int .i64 xc):=(World.cell?_of_block (a:=⟨bx,3,none⟩) (set_other hne)).trans q3
 have s4:(w2.setCell ⟨wb,wo+4,none⟩ (.int .i64 (pc+1))).cell? ⟨bx,4,none⟩=some (.int .u64 xv):=(World.cell?_of_block (a:=⟨bx,4,none⟩) (set_other hne)).trans q4
 have s5:(w2.setCell ⟨wb,wo+4,none⟩ (.int .i64 (pc+1))).cell? ⟨bx,5,none⟩=some (.int .i64 xm):=(World.cell?_of_block (a:=⟨bx,5,none⟩) (set_other hne)).trans q5
 have s6:(w2.setCell ⟨wb,wo+4,none⟩ (.int .i64 (pc+1))).cell? ⟨bx,6,none⟩=some (.int .i64 xw):=(World.cell?_of_block (a:=⟨bx,6,none⟩) (set_other hne)).trans q6
 generalize w2.setCell ⟨wb,wo+4,none⟩ (.int .i64 (pc+1))=w3 at*
 clear q0 q1 q2 q3 q4 q5 q6 p0 p2
 go_still_tail 5,(by kernel_rfl)
 change wpList _ _ _ _ _ w3.drew
 go_wp2_with fail
 refine HM.out.mono ?_
 rintro e w4 ⟨rfl,hq⟩
 have HQ:=Lib.hid hq
 clear hq
 go_wp2_with fail
 go_end0
 exact ⟨rfl,HQ.out⟩
end Go.Proofs.YtaangaogmnlljaaGreatDoor.Kn
namespace Go.Proofs.YtaangaogmnlljaaGreatDoor.Kn
open Asm Hp
def RunsSame (M M':Mach):Prop:= ∀id r,runOf M.runs id=some r→r.l≠ []→ ∃r',runOf M'.runs id=some r'∧r'.l.length=r.l.length
theorem RunsSame.of {M M':Mach} (h:M'.runs=M.runs):RunsSame M M':=fun id r hr _=>⟨r,by rw[h];exact hr,rfl⟩
theorem RunsSame.refl (M:Mach):RunsSame M M:= .of rfl
theorem RunsSame.trans {a b c:Mach} (h:RunsSame a b) (k:RunsSame b c):RunsSame a c:=fun id r hr hne=>by
 obtain ⟨r1,h1,h2⟩:=h id r hr hne
 obtain ⟨r2,h3,h4⟩:=k id r1 h1 (fun e=>hne (by rw[←List.length_eq_zero_iff,←h2,e];rfl))
 exact ⟨r2,h3,h4.trans h2⟩
theorem rs_setF {M:Mach} (hn:(M.runs.map (·.id)).Nodup) (i:Nat) (t:Option Int) (f:Frame):RunsSame M (setF M i t f):=by
 cases t with
 |none=>exact .of rfl
 |some id=>
  intro x r hr hne
  cases e:runOf M.runs id with
  |none=>
   have e0:setF M i (some id) f=M:=by unfold setF;simp only[e]
   rw[e0];exact ⟨r,hr,rfl⟩
  |some r0=>
   have e0:setF M i (some id) f={ M with runs:=setRun M.runs (withTop r0 { topF r0 with f:=f})}:=by unfold setF;simp only[e]
   rw[e0]
   show∃r',runOf (setRun M.runs (withTop r0 { topF r0 with f:=f})) x=some r'∧_
   have hid:=(runOf_mem e).2
   rw[runOf_setRun hn (r0:=r0) (by show runOf M.runs r0.id=some r0;rw[hid];exact e)]
   by_cases hx:x=(withTop r0 { topF r0 with f:=f}).id
   ·rw[if_pos hx]
    refine ⟨_,rfl,?_⟩
    have hx2:x=id:=hx.trans hid
    rw[hx2,e] at hr
    have hrr:=Option.some.inj hr
    rw[←hrr] at hne ⊢
    have:=List.length_pos_iff.2 hne
    simp[withTop]
    omega
   ·rw[if_neg hx];exact ⟨r,hr,rfl⟩
theorem step_still (f:Frame) (l:List InsL) (m:Mem):(stepL f l m).how≠0→(stepL f l m).f=f∧(stepL f l m).mem=m:=by
 unfold stepL
 split
 ·exact fun _=>⟨rfl,rfl⟩
 ·rename_i x _
  refine ite_ok (P:=fun s:Stepped=>s.how≠0→s.f=f∧s.mem=m) (fun hc=>?_) (fun _=>?_)
  ·unfold jumpK
   simp only
   repeat' split
   all_goals first
    |exact fun h=>absurd (show (0:Int)=0 from rfl) h
    |exact fun _=>⟨rfl,rfl⟩
    |simp
  refine ite_ok (P:=fun s:Stepped=>s.how≠0→s.f=f∧s.mem=m) (fun hc=>?_) (fun _=>?_)
  ·split
   ·exact fun _=>⟨rfl,rfl⟩
   ·exact fun h=>absurd rfl h
  refine ite_ok (P:=fun s:Stepped=>s.how≠0→s.f=f∧s.mem=m) (fun hc h=>absurd rfl h) (fun _=>?_)
  refine ite_ok (P:=fun s:Stepped=>s.how≠0→s.f=f∧s.mem=m) (fun hc h=>absurd rfl h) (fun _=>?_)
  exact ite_ok (P:=fun s:Stepped=>s.how≠0→s.f=f∧s.mem=m) (fun hc h=>absurd rfl h) (fun _ _=>⟨rfl,rfl⟩)
theorem step_away {f:Frame} {l:List InsL} {m:Mem} (hm: ∀x∈l,mayK x l.length true=true) (h:(stepL f l m).how=1): ∃x,insAt l f.pc=some x∧x∈l∧mayK x l.length true=true∧23≤x.op∧x.op≤58:=by
 have hr:=runs_ins hm f.pc
 unfold stepL at h
 rw[hr] at h
 cases e:insAt l f.pc with
 |none=>rw[e] at h;cases h
 |some x=>
  rw[e] at h
  simp only at h
  have hx:x∈l:=by
   unfold insAt at e
   split at e
   ·cases e
   ·exact List.mem_of_getElem? e
  have hmx:=hm x hx
  obtain ⟨hO,hQ,-⟩:=may_parts hmx
  have h22:x.op≠22:=hQ rfl
  refine ⟨x,rfl,hx,hmx,?_,hO.2⟩
  by_cases h1:x.op=12∨x.op=13∨x.op=14∨x.op=15∨x.op=16
  ·rw[if_pos h1] at h
   unfold jumpK at h
   simp only at h
   repeat' split at h
   all_goals cases h
  rw[if_neg h1] at h
  by_cases h2:17≤x.op∧x.op≤21
  ·rw[if_pos h2] at h
   split at h
   all_goals cases h
  rw[if_neg h2] at h
  by_cases h3:x.op=1
  ·rw[if_pos h3] at h;cases h
  rw[if_neg h3] at h
  by_cases h4:x.op=2
  ·rw[if_pos h4] at h;cases h
  rw[if_neg h4] at h
  by_cases h5:3≤x.op∧x.op≤11
  ·rw[if_pos h5] at h;cases h
  omega
end Go.Proofs.YtaangaogmnlljaaGreatDoor.Kn
namespace Go.Proofs.YtaangaogmnlljaaGreatDoor.Kn
open Go.RowKit Asm
def tptr (G:KG) (t:Option Int):Value:= .pointer (t.map fun id=>⟨G.tb id,0,none⟩)
section
variable {F:Fixed} {w:World} {own:Own} {G:KG} {M:Mach} {n:Nat}
def SpOut (F:Fixed) (w:World) (own:Own) (G:KG) (M:Mach) (n:Nat) (p:Int×Mach) (e:Ending) (w':World):Prop:=e= .returned (.int .i64 p.1)∧KO2 F w own G M.runs p.2 (n+2) w'
theorem KernP.inB (h:KernP F w own G M n) (x:InsL): ∃own1,KernP F (Kn.boxed w x) own1 G M n∧Touch (fun t=>t≠ .other) w (Kn.boxed w x) own own1:=⟨_,h.below (boxed_below w x),touch_below (boxed_below w x)⟩
end
end Go.Proofs.YtaangaogmnlljaaGreatDoor.Kn
