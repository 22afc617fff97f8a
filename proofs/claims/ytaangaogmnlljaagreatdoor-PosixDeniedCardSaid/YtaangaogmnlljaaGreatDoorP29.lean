/- Part 29 of what the proof stands on: KnCheck, KnAccess, KnStep, KnCCl. -/
import Derived.StillTailTactics
import Derived.Deep.RegionLaw
import Derived.Test.YtaangaogmnlljaaGreatDoorP05
import Derived.Test.YtaangaogmnlljaaGreatDoorP14
import Derived.Test.YtaangaogmnlljaaGreatDoorP16
import Derived.Test.YtaangaogmnlljaaGreatDoorP21
import Derived.Test.YtaangaogmnlljaaGreatDoorP27
set_option linter.unusedVariables false
namespace Go.Proofs.YtaangaogmnlljaaGreatDoor.Kn
open Go.RowKit Asm
def CodeAt (w:World) (g:Nat) (l:List InsL):Prop:= ∀(k:Nat) (h:k<l.length) (j:Nat) (u:Value),(insV l[k])[j]?=some u→w.cell? ⟨g,k*7+j,none⟩=some u
theorem CodeAt.below {w w':World} {g:Nat} {l:List InsL} (h:CodeAt w g l) (hg:g<w.heap.size) (hb:Below w.heap.size w w'):CodeAt w' g l:=fun k hk j u hu=>(hb.cell (p:=⟨g,k*7+j,none⟩) hg).trans (h k hk j u hu)
theorem CodeAt.cells {w:World} {g:Nat} {l:List InsL} (h:CodeAt w g l) {k:Nat} (hk:k<l.length) {xo xa xb xc xv xm xw:Int} (e:l[k]=⟨xo,xa,xb,xc,xv,xm,xw⟩):w.cell? ⟨g,k*7,none⟩=some (.int .i64 xo)∧w.cell? ⟨g,k*7+1,none⟩=some (.int .i64 xa)∧w.cell? ⟨g,k*7+2,none⟩=some (.int .i64 xb)∧w.cell? ⟨g,k*7+3,none⟩=some (.int .i64 xc)∧w.cell? ⟨g,k*7+4,none⟩=some (.int .u64 xv)∧w.cell? ⟨g,k*7+5,none⟩=some (.int .i64 xm)∧w.cell? ⟨g,k*7+6,none⟩=some (.int .i64 xw):=by
 have q:=h k hk
 rw[e] at q
 exact ⟨q 0 _ rfl,q 1 _ rfl,q 2 _ rfl,q 3 _ rfl,q 4 _ rfl,q 5 _ rfl,q 6 _ rfl⟩
set_option maxRecDepth 100000 in
set_option maxHeartbeats 2000000 in
theorem ccheck_ok {w:World} {g n c:Nat} {l:List InsL} {lib:Bool} (h:CodeAt w g l) (hg:g<w.heap.size) (hn:n=l.length) (hl:l.length≤2048) (hmay: ∀x∈l,mayK x l.length lib=true):
  Calls Tryz.prog 221 #[.slice (some ⟨g,0,none⟩) n c, .bool lib] w fun e w'=>e= .returned .nilIface∧Below w.heap.size w w':=by
 have H:=Lib.hid h
 have HN:=Lib.hid hn
 have HM:Hid (∀k (hk:k<l.length) (W:World),Calls Tryz.prog 280 #[.agg (insV l[k]), .int .i64 n, .bool lib] W fun e w'=>e= .returned (.bool true)∧Below W.heap.size W w'):=Lib.hid fun k hk W=>by
  rw[hn]
  exact cmay_any _ _ _ W ⟨by omega,by omega⟩ (hmay _ (List.getElem_mem hk))
 have hnI:(n:Int)≤2048:=by omega
 clear h hn hmay
 go_enter Tryz.func221,Tryz.ntmps221
 go_wp2_with fail
 go_loopw [14] (fun cv wr=> ∃k:Nat,k≤n∧cv= .int .i64 k∧Hid (Below w.heap.size w wr)) (fun cv _=>n - (intOf cv).toNat)
 case atStart=>exact ⟨0,by omega,rfl,Lib.hid (Below.refl _ _)⟩
 case round=>
  obtain ⟨k,hk,rfl,HB⟩:=hrel
  by_cases hlt:k<n
  ·have hkl:k<l.length:=by rw[←HN.out];exact hlt
   have HC:=Lib.hid (HM.out k hkl)
   have hcs:=(H.out.below hg HB.out)
   obtain ⟨xo,xa,xb,xc,xv,xm,xw,hx⟩: ∃xo xa xb xc xv xm xw,l[k]=⟨xo,xa,xb,xc,xv,xm,xw⟩:=⟨_,_,_,_,_,_,_,rfl⟩
   obtain ⟨c0,c1,c2,c3,c4,c5,c6⟩:=hcs.cells hkl hx
   rw[hx] at HC
   unfold insV at HC
   have hkI:(k:Int)<(n:Int):=by omega
   have hsz:=HB.out.size
   clear hcs hx
   go_wp2_with fail
   refine (HC.out _).mono ?_
   rintro e w2 ⟨rfl,hb2⟩
   have HB2:=Lib.hid (HB.out.trans ((((Below.refl wr.heap.size wr).alloc (Nat.le_refl _) _).trans (hb2.mono (by simp))).mono hsz))
   clear hb2
   go_wp2_with fail
   go_roundw
   case rel=>exact ⟨k+1,by omega,by go_num,HB2⟩
   case measure=>simp[intOf];omega
  ·have hkn:k=n:=by omega
   subst hkn
   go_wp2_with fail
   go_ret
   exact ⟨rfl,HB.out⟩
theorem heap_two (w:World) (a b:Obj):((w.alloc a).alloc b).heap[w.heap.size+1]?=some b:=by
 have:=heap_alloc_new (w.alloc a) b
 rwa[World.size_alloc] at this
theorem CodeAt.one {W:World} {g:Nat} {x:InsL} {t:TypeId} (h:W.heap[g]?=some (.cells (insV x) t (0,0))):CodeAt W g [x]:=fun k hk j u hu=>by
 have hk0:k=0:=by simp at hk;omega
 subst hk0
 rw[blk_cell h]
 simpa using hu
set_option maxRecDepth 100000 in
set_option maxHeartbeats 2000000 in
theorem vmay_any (x:InsL) (n:Int) (lib:Bool) (w:World) (hn:0≤n∧n≤4000) (hv:0≤x.v) (h:mayK x n lib=true):
  Calls Tryz.prog 248 #[.agg (insV x), .int .i64 n] w fun e w'=>e= .returned (.bool true)∧Below w.heap.size w w':=by
 have hO:=(may_parts h).1
 have hN:=(may_parts h).2.2.2.2.2.2.1
 have hB:=may_bare1 h
 obtain ⟨xo,xa,xb,xc,xv,xm,xw⟩:=x
 simp only at hO hv
 have hL:=may_lib h
 have HK:Hid (∀(W:World) (g:Nat),CodeAt W g [bare1 ⟨xo,xa,xb,xc,xv,xm,xw⟩]→g<W.heap.size→Calls Tryz.prog 221 #[.slice (some ⟨g,0,none⟩) 1 1, .bool (xo !=22)] W fun e w'=>e= .returned .nilIface∧Below W.heap.size W w'):=Lib.hid fun W g hc hg=>ccheck_ok hc hg rfl (by simp) (by intro y hy;simp at hy;subst hy;exact hB)
 have hcv:IntKind.u64.wrap n=n:=by rw[IntKind.wrap_u64];omega
 by_cases hj:xo=12∨xo=13∨xo=14∨xo=15
 ·have hlt:xv<n:=by unfold numOk at hN;rw[if_pos hj] at hN;simpa using hN
  unfold bare1 at HK
  simp only[if_pos hj] at HK
  clear hN hB hL h hO
  unfold insV
  rcases hj with rfl|rfl|rfl|rfl
  all_goals
   go_enter Tryz.func248,Tryz.ntmps248
   go_wp2_with fail
   refine (HK.out _ _ ?_ ?_).mono ?_
   ·exact CodeAt.one (heap_two _ _ _)
   ·simp
   rintro e w1 ⟨rfl,hb1⟩
   have HB1:=Lib.hid hb1
   clear hb1
   go_wp2_with fail
   go_ret
   exact ⟨rfl,(((Below.refl w.heap.size w).alloc (Nat.le_refl _) _).alloc (by simp) _).trans (HB1.out.mono (by simp;omega))⟩
 ·have h1:(xo==12)=false:=beq_eq_false_iff_ne.2 (by omega)
  have h2:(xo==13)=false:=beq_eq_false_iff_ne.2 (by omega)
  have h3:(xo==14)=false:=beq_eq_false_iff_ne.2 (by omega)
  have h4:(xo==15)=false:=beq_eq_false_iff_ne.2 (by omega)
  unfold bare1 at HK
  simp only[if_neg hj] at HK
  clear hN hB hL h hO hj
  unfold insV
  go_enter Tryz.func248,Tryz.ntmps248
  go_wp2_with fail
  refine (HK.out _ _ ?_ ?_).mono ?_
  ·exact CodeAt.one (heap_two _ _ _)
  ·simp
  rintro e w1 ⟨rfl,hb1⟩
  have HB1:=Lib.hid hb1
  clear hb1
  go_wp2_with fail
  go_ret
  exact ⟨rfl,(((Below.refl w.heap.size w).alloc (Nat.le_refl _) _).alloc (by simp) _).trans (HB1.out.mono (by simp;omega))⟩
end Go.Proofs.YtaangaogmnlljaaGreatDoor.Kn
namespace Go.Proofs.YtaangaogmnlljaaGreatDoor.Kn
open Go.RowKit Asm
def InsBox (w:World) (bx:Nat) (x:InsL):Prop:=w.cell? ⟨bx,0,none⟩=some (.int .i64 x.op)∧w.cell? ⟨bx,1,none⟩=some (.int .i64 x.a)∧w.cell? ⟨bx,2,none⟩=some (.int .i64 x.b)∧w.cell? ⟨bx,3,none⟩=some (.int .i64 x.c)∧w.cell? ⟨bx,4,none⟩=some (.int .u64 x.v)∧w.cell? ⟨bx,5,none⟩=some (.int .i64 x.m)∧w.cell? ⟨bx,6,none⟩=some (.int .i64 x.w)
theorem InsBox.of {w:World} {bx:Nat} {x:InsL} {t:TypeId} (h:w.heap[bx]?=some (.cells (insV x) t (0,0))):InsBox w bx x:=⟨blk_cell h 0,blk_cell h 1,blk_cell h 2,blk_cell h 3,blk_cell h 4,blk_cell h 5,blk_cell h 6⟩
def VAcc (w:World) (X gc gw:Nat) (r:Option (Int×Mem)) (e:Ending) (w':World):Prop:=match r with
 |none=>(∃v ev,e= .returned (.tuple #[.int .u64 v,ev])∧Som ev)∧Below w.heap.size w w'
 |some (v,m')=>e= .returned (.tuple #[.int .u64 v, .nilIface])∧MemP w' X gc gw m'∧Keeps (fun b=>b=X∨b=gc) w w'
theorem acc_load (m:Mem) (a o v:Int):m.acc 0 a o v=m.acc 0 a 0 0:=by simp[Mem.acc]
theorem acc_old (m:Mem) (k a o v:Int) (hk:k≠4):m.acc k a o v=m.acc k a 0 v:=by simp[Mem.acc,hk]
def accR (f:Frame) (m:Mem) (x:InsL):Option (Int×Mem):=(m.acc (accKind x.op) (addrB f x) (rg f x.a) (if x.op=21 then rg f x.c else rg f x.a)).map fun p=>(if x.op=18 then rg f x.a else p.1,p.2)
theorem MemP.below' {w w':World} {X gc gw:Nat} {m:Mem} (h:MemP w X gc gw m) (k:Below w.heap.size w w'):MemP w' X gc gw m:=h.of_blocks fun b hb=>by
 obtain ⟨l1,l2,l3⟩:=h.lt
 exact k.block b (by rcases hb with rfl|rfl|rfl<;>assumption)
section
variable {w:World} {own:Own} {b o:Nat} {t:TypeId} {P S:List Value} {tb tk:Tag} {n:Nat} {f:Frame} {bv:Value}
theorem methLoad (v:Value) (w:World):(Go.method 671 149 v "Load").run Tryz.prog w= .ok (141,v) w:=by kernel_rfl
theorem methStore (v:Value) (w:World):(Go.method 671 149 v "Store").run Tryz.prog w= .ok (167,v) w:=by kernel_rfl
theorem methSwap (v:Value) (w:World):(Go.method 671 149 v "Swap").run Tryz.prog w= .ok (405,v) w:=by kernel_rfl
theorem methAdd (v:Value) (w:World):(Go.method 671 149 v "Add").run Tryz.prog w= .ok (192,v) w:=by kernel_rfl
theorem methCas (v:Value) (w:World):(Go.method 671 149 v "Cas").run Tryz.prog w= .ok (292,v) w:=by kernel_rfl
theorem nilCas (a:Addr) (w:World):(Go.nilAhead 671 149 (.pointer (some a)) "Cas").run Tryz.prog w= .ok (some false) w:=by kernel_rfl
set_option maxRecDepth 100000 in
set_option maxHeartbeats 4000000 in
theorem vaccess_17 (h:FrM w own b o t P S tb tk n f bv) {X gc gw:Nat} {m:Mem} (hm:MemP w X gc gw m) (x:InsL) (ho:x.op=17) (ha:0≤x.a∧x.a<32) (hb:x.b= -1∨0≤x.b∧x.b<32) (hv:U64 x.v):
  Calls Tryz.prog 250 #[.pointer (some ⟨b,o,none⟩), .agg (insV x), .iface 149 (.pointer (some ⟨X,0,none⟩))] w (VAcc w X gc gw (accR f m x)):=by
 obtain ⟨k,hk⟩:=Int.eq_ofNat_of_zero_le ha.1
 have hk2:k<32:=by omega
 have hkI:(0:Int)≤(k:Int)∧(k:Int)<32:=by omega
 obtain ⟨w1,hw1⟩: ∃w1,w1=w.alloc (.cells (insV x) 68):=⟨_,rfl⟩
 have hbx:Below w.heap.size w w1:=by rw[hw1];exact (Below.refl _ _).alloc (Nat.le_refl _) _
 have hz:w1.heap[w.heap.size]?=some (.cells (insV x) 68 (0,0)):=by rw[hw1];exact heap_alloc_new w _
 have hlt:=h.lens.lt
 have hFr: ∀W,Below w1.heap.size w1 W→Lens W b o t P S f bv:=fun W hW=>(h.lens.of_block (hbx.block b hlt)).of_block (hW.block b (Nat.lt_of_lt_of_le hlt hbx.size))
 have hBx: ∀W,Below w1.heap.size w1 W→InsBox W w.heap.size x:=fun W hW=>InsBox.of ((hW.block _ (blk_in hz)).trans hz)
 have hAll: ∀W,Below w1.heap.size w1 W→Below w1.heap.size w1 W∧W.cell? ⟨b,o+1+k,none⟩=some (.int .u64 (f.r.getD k 0))∧InsBox W w.heap.size x:=fun W hW=>⟨hW,(hFr W hW).reg h.ok.len hk2,hBx W hW⟩
 have hAd: ∀W,Below w1.heap.size w1 W→Calls Tryz.prog 201 #[.pointer (some ⟨b,o,none⟩), .agg (insV x)] W fun e w'=>e= .returned (.int .u64 (addrB f x))∧Below w1.heap.size w1 w'∧w'.cell? ⟨b,o+1+k,none⟩=some (.int .u64 (f.r.getD k 0))∧InsBox w' w.heap.size x:=fun W hW=>(vaddr_any (hFr W hW) h.ok.r h.ok.len x hv hb).mono fun e w' ⟨p,q⟩=>⟨p,hAll _ (hW.trans (q.mono hW.size))⟩
 have hMm: ∀W,Below w1.heap.size w1 W→MemP W X gc gw m:=fun W hW=>(hm.below' hbx).below' hW
 have hBW: ∀W,Below w1.heap.size w1 W→Below w.heap.size w W:=fun W hW=>hbx.trans (hW.mono hbx.size)
 unfold accR
 obtain ⟨xo,xa,xb,xc,xv,xm,xw⟩:=x
 unfold InsBox insV at*
 simp only at ho hk ha hb hv hAll hAd hw1 ⊢
 subst ho hk
 have hr1:U64 (f.r.getD k 0):=rg_range h.ok.r k
 have had:U64 (addrB f ⟨17,k,xb,xc,xv,xm,xw⟩):=by
  unfold addrB word
  simp only
  split
  ·exact hv
  ·unfold U64;omega
 have hrg:rg f (k:Int)=f.r.getD k 0:=rfl
 rw[hrg]
 generalize f.r.getD k 0=ra at*
 generalize addrB f ⟨17,k,xb,xc,xv,xm,xw⟩=ad at*
 have hrr:((m.acc (accKind 17) ad ra (if (17:Int)=21 then ra else ra)).map fun p=>(if (17:Int)=18 then ra else p.1,p.2))=(m.acc 0 ad 0 0).map fun p=>(p.1,p.2):=by
  rw[show accKind 17=0 from rfl,acc_load];rfl
 change Calls _ _ _ _ (VAcc w X gc gw ((m.acc (accKind 17) ad ra (if (17:Int)=21 then ra else ra)).map fun p=>(if (17:Int)=18 then ra else p.1,p.2)))
 rw[hrr]
 have HAd2:=Lib.hid had
 have HR1:=Lib.hid hr1
 have HOp:Hid (∀W,Below w1.heap.size w1 W→Calls Tryz.prog 141 #[.pointer (some ⟨X,0,none⟩), .int .u64 ad] W (AccOut W X gc gw (m.acc 0 ad 0 0))):=Lib.hid fun W hW=>mload_any (hMm W hW) ad HAd2.out
 have HBW:=Lib.hid hBW
 have HAll:=Lib.hid hAll
 have HAd:=Lib.hid hAd
 have b0:=Below.refl w1.heap.size w1
 obtain ⟨-,r0,q0,q1,q2,q3,q4,q5,q6⟩:=hAll w1 b0
 clear h hm hAd hAll hMm hb ha hbx hv hz hFr hBx had hr1 hlt hBW hrg hrr
 have hmeth:=fun (v:Value) (W:World)=>methLoad v W
 generalize m.acc 0 ad 0 0=r at*
 go_enter Tryz.func250,Tryz.ntmps250
 go_wp2_with fail
 rw[←hw1]
 clear hw1
 go_region_held3 (fun W=>Below w1.heap.size w1 W∧W.cell? ⟨b,o+1+k,none⟩=some (.int .u64 ra)∧W.cell? ⟨w.heap.size,0,none⟩=some (.int .i64 17)∧W.cell? ⟨w.heap.size,1,none⟩=some (.int .i64 k)∧W.cell? ⟨w.heap.size,2,none⟩=some (.int .i64 xb)∧W.cell? ⟨w.heap.size,3,none⟩=some (.int .i64 xc)∧W.cell? ⟨w.heap.size,4,none⟩=some (.int .u64 xv)∧W.cell? ⟨w.heap.size,5,none⟩=some (.int .i64 xm)∧W.cell? ⟨w.heap.size,6,none⟩=some (.int .i64 xw)) (exact HAll.out _ (by repeat first|with_reducible assumption|with_reducible exact b0|with_reducible refine Below.drew ?_))
  (first|(go_at_call 201;refine (HAd.out _ (by repeat first|with_reducible assumption|with_reducible exact b0|with_reducible refine Below.drew ?_)).mono ?_;rintro e w2 ⟨rfl,y0,y1,y2,y3,y4,y5,y6,y7,y8⟩))
 clear q0 q1 q2 q3 q4 q5 q6 r0
 have HY:=Lib.hid y0
 go_wp2_with fail
 have hY2:Below w1.heap.size w1 w2:=HY.out
 refine (HOp.out _ hY2).mono ?_
 have HY2:=Lib.hid hY2
 clear hY2
 intro e w3 hq
 cases r with
 |none=>
  obtain ⟨⟨ev,rfl,hev⟩,hb3⟩:=hq
  have HB3:=Lib.hid hb3
  have HE:=Lib.hid hev
  clear hb3 hev
  go_wp2_with fail
  go_ret2
  exact ⟨⟨_,_,rfl,HE.out⟩,(HBW.out _ HY2.out).trans (HB3.out.mono (HBW.out _ HY2.out).size)⟩
 |some p=>
  obtain ⟨was,m'⟩:=p
  obtain ⟨rfl,hm3,hk3⟩:=hq
  have HM3:=Lib.hid hm3
  have HK3:=Lib.hid hk3
  clear hm3 hk3
  go_wp2_with fail
  go_ret2
  exact ⟨rfl,HM3.out,(Keeps.ofBelow (HBW.out _ HY2.out)).trans HK3.out fun _ hx=>Or.inl hx⟩
set_option maxRecDepth 100000 in
set_option maxHeartbeats 4000000 in
theorem vaccess_18 (h:FrM w own b o t P S tb tk n f bv) {X gc gw:Nat} {m:Mem} (hm:MemP w X gc gw m) (x:InsL) (ho:x.op=18) (ha:0≤x.a∧x.a<32) (hb:x.b= -1∨0≤x.b∧x.b<32) (hv:U64 x.v):
  Calls Tryz.prog 250 #[.pointer (some ⟨b,o,none⟩), .agg (insV x), .iface 149 (.pointer (some ⟨X,0,none⟩))] w (VAcc w X gc gw (accR f m x)):=by
 obtain ⟨k,hk⟩:=Int.eq_ofNat_of_zero_le ha.1
 have hk2:k<32:=by omega
 have hkI:(0:Int)≤(k:Int)∧(k:Int)<32:=by omega
 obtain ⟨w1,hw1⟩: ∃w1,w1=w.alloc (.cells (insV x) 68):=⟨_,rfl⟩
 have hbx:Below w.heap.size w w1:=by rw[hw1];exact (Below.refl _ _).alloc (Nat.le_refl _) _
 have hz:w1.heap[w.heap.size]?=some (.cells (insV x) 68 (0,0)):=by rw[hw1];exact heap_alloc_new w _
 have hlt:=h.lens.lt
 have hFr: ∀W,Below w1.heap.size w1 W→Lens W b o t P S f bv:=fun W hW=>(h.lens.of_block (hbx.block b hlt)).of_block (hW.block b (Nat.lt_of_lt_of_le hlt hbx.size))
 have hBx: ∀W,Below w1.heap.size w1 W→InsBox W w.heap.size x:=fun W hW=>InsBox.of ((hW.block _ (blk_in hz)).trans hz)
 have hAll: ∀W,Below w1.heap.size w1 W→Below w1.heap.size w1 W∧W.cell? ⟨b,o+1+k,none⟩=some (.int .u64 (f.r.getD k 0))∧InsBox W w.heap.size x:=fun W hW=>⟨hW,(hFr W hW).reg h.ok.len hk2,hBx W hW⟩
 have hAd: ∀W,Below w1.heap.size w1 W→Calls Tryz.prog 201 #[.pointer (some ⟨b,o,none⟩), .agg (insV x)] W fun e w'=>e= .returned (.int .u64 (addrB f x))∧Below w1.heap.size w1 w'∧w'.cell? ⟨b,o+1+k,none⟩=some (.int .u64 (f.r.getD k 0))∧InsBox w' w.heap.size x:=fun W hW=>(vaddr_any (hFr W hW) h.ok.r h.ok.len x hv hb).mono fun e w' ⟨p,q⟩=>⟨p,hAll _ (hW.trans (q.mono hW.size))⟩
 have hMm: ∀W,Below w1.heap.size w1 W→MemP W X gc gw m:=fun W hW=>(hm.below' hbx).below' hW
 have hBW: ∀W,Below w1.heap.size w1 W→Below w.heap.size w W:=fun W hW=>hbx.trans (hW.mono hbx.size)
 unfold accR
 obtain ⟨xo,xa,xb,xc,xv,xm,xw⟩:=x
 unfold InsBox insV at*
 simp only at ho hk ha hb hv hAll hAd hw1 ⊢
 subst ho hk
 have hr1:U64 (f.r.getD k 0):=rg_range h.ok.r k
 have had:U64 (addrB f ⟨18,k,xb,xc,xv,xm,xw⟩):=by
  unfold addrB word
  simp only
  split
  ·exact hv
  ·unfold U64;omega
 have hrg:rg f (k:Int)=f.r.getD k 0:=rfl
 rw[hrg]
 generalize f.r.getD k 0=ra at*
 generalize addrB f ⟨18,k,xb,xc,xv,xm,xw⟩=ad at*
 have hrr:((m.acc (accKind 18) ad ra (if (18:Int)=21 then ra else ra)).map fun p=>(if (18:Int)=18 then ra else p.1,p.2))=(m.acc 1 ad 0 ra).map fun p=>(ra,p.2):=by
  rw[show accKind 18=1 from rfl,acc_old _ _ _ _ _ (by decide)];rfl
 change Calls _ _ _ _ (VAcc w X gc gw ((m.acc (accKind 18) ad ra (if (18:Int)=21 then ra else ra)).map fun p=>(if (18:Int)=18 then ra else p.1,p.2)))
 rw[hrr]
 have HAd2:=Lib.hid had
 have HR1:=Lib.hid hr1
 have HOp:Hid (∀W,Below w1.heap.size w1 W→Calls Tryz.prog 167 #[.pointer (some ⟨X,0,none⟩), .int .u64 ad, .int .u64 ra] W (StoreOut W X gc gw (m.acc 1 ad 0 ra))):=Lib.hid fun W hW=>mstore_any (hMm W hW) ad ra HAd2.out HR1.out
 have HBW:=Lib.hid hBW
 have HAll:=Lib.hid hAll
 have HAd:=Lib.hid hAd
 have b0:=Below.refl w1.heap.size w1
 obtain ⟨-,r0,q0,q1,q2,q3,q4,q5,q6⟩:=hAll w1 b0
 clear h hm hAd hAll hMm hb ha hbx hv hz hFr hBx had hr1 hlt hBW hrg hrr
 have hmeth:=fun (v:Value) (W:World)=>methStore v W
 generalize m.acc 1 ad 0 ra=r at*
 go_enter Tryz.func250,Tryz.ntmps250
 go_wp2_with fail
 rw[←hw1]
 clear hw1
 go_region_held3 (fun W=>Below w1.heap.size w1 W∧W.cell? ⟨b,o+1+k,none⟩=some (.int .u64 ra)∧W.cell? ⟨w.heap.size,0,none⟩=some (.int .i64 18)∧W.cell? ⟨w.heap.size,1,none⟩=some (.int .i64 k)∧W.cell? ⟨w.heap.size,2,none⟩=some (.int .i64 xb)∧W.cell? ⟨w.heap.size,3,none⟩=some (.int .i64 xc)∧W.cell? ⟨w.heap.size,4,none⟩=some (.int .u64 xv)∧W.cell? ⟨w.heap.size,5,none⟩=some (.int .i64 xm)∧W.cell? ⟨w.heap.size,6,none⟩=some (.int .i64 xw)) (exact HAll.out _ (by repeat first|with_reducible assumption|with_reducible exact b0|with_reducible refine Below.drew ?_))
  (first|(go_at_call 201;refine (HAd.out _ (by repeat first|with_reducible assumption|with_reducible exact b0|with_reducible refine Below.drew ?_)).mono ?_;rintro e w2 ⟨rfl,y0,y1,y2,y3,y4,y5,y6,y7,y8⟩))
 clear q0 q1 q2 q3 q4 q5 q6 r0
 have HY:=Lib.hid y0
 go_wp2_with fail
 have hY2:Below w1.heap.size w1 w2:=HY.out
 refine (HOp.out _ hY2).mono ?_
 have HY2:=Lib.hid hY2
 clear hY2
 intro e w3 hq
 cases r with
 |none=>
  obtain ⟨⟨ev,rfl,hev⟩,hb3⟩:=hq
  have HB3:=Lib.hid hb3
  have HE:=Lib.hid hev
  clear hb3 hev
  go_wp2_with fail
  go_ret2
  exact ⟨⟨_,_,rfl,HE.out⟩,(HBW.out _ HY2.out).trans (HB3.out.mono (HBW.out _ HY2.out).size)⟩
 |some p=>
  obtain ⟨was,m'⟩:=p
  obtain ⟨rfl,hm3,hk3⟩:=hq
  have HM3:=Lib.hid hm3
  have HK3:=Lib.hid hk3
  clear hm3 hk3
  go_wp2_with fail
  go_ret2
  exact ⟨rfl,HM3.out,(Keeps.ofBelow (HBW.out _ HY2.out)).trans HK3.out fun _ hx=>Or.inl hx⟩
set_option maxRecDepth 100000 in
set_option maxHeartbeats 4000000 in
theorem vaccess_19 (h:FrM w own b o t P S tb tk n f bv) {X gc gw:Nat} {m:Mem} (hm:MemP w X gc gw m) (x:InsL) (ho:x.op=19) (ha:0≤x.a∧x.a<32) (hb:x.b= -1∨0≤x.b∧x.b<32) (hv:U64 x.v):
  Calls Tryz.prog 250 #[.pointer (some ⟨b,o,none⟩), .agg (insV x), .iface 149 (.pointer (some ⟨X,0,none⟩))] w (VAcc w X gc gw (accR f m x)):=by
 obtain ⟨k,hk⟩:=Int.eq_ofNat_of_zero_le ha.1
 have hk2:k<32:=by omega
 have hkI:(0:Int)≤(k:Int)∧(k:Int)<32:=by omega
 obtain ⟨w1,hw1⟩: ∃w1,w1=w.alloc (.cells (insV x) 68):=⟨_,rfl⟩
 have hbx:Below w.heap.size w w1:=by rw[hw1];exact (Below.refl _ _).alloc (Nat.le_refl _) _
 have hz:w1.heap[w.heap.size]?=some (.cells (insV x) 68 (0,0)):=by rw[hw1];exact heap_alloc_new w _
 have hlt:=h.lens.lt
 have hFr: ∀W,Below w1.heap.size w1 W→Lens W b o t P S f bv:=fun W hW=>(h.lens.of_block (hbx.block b hlt)).of_block (hW.block b (Nat.lt_of_lt_of_le hlt hbx.size))
 have hBx: ∀W,Below w1.heap.size w1 W→InsBox W w.heap.size x:=fun W hW=>InsBox.of ((hW.block _ (blk_in hz)).trans hz)
 have hAll: ∀W,Below w1.heap.size w1 W→Below w1.heap.size w1 W∧W.cell? ⟨b,o+1+k,none⟩=some (.int .u64 (f.r.getD k 0))∧InsBox W w.heap.size x:=fun W hW=>⟨hW,(hFr W hW).reg h.ok.len hk2,hBx W hW⟩
 have hAd: ∀W,Below w1.heap.size w1 W→Calls Tryz.prog 201 #[.pointer (some ⟨b,o,none⟩), .agg (insV x)] W fun e w'=>e= .returned (.int .u64 (addrB f x))∧Below w1.heap.size w1 w'∧w'.cell? ⟨b,o+1+k,none⟩=some (.int .u64 (f.r.getD k 0))∧InsBox w' w.heap.size x:=fun W hW=>(vaddr_any (hFr W hW) h.ok.r h.ok.len x hv hb).mono fun e w' ⟨p,q⟩=>⟨p,hAll _ (hW.trans (q.mono hW.size))⟩
 have hMm: ∀W,Below w1.heap.size w1 W→MemP W X gc gw m:=fun W hW=>(hm.below' hbx).below' hW
 have hBW: ∀W,Below w1.heap.size w1 W→Below w.heap.size w W:=fun W hW=>hbx.trans (hW.mono hbx.size)
 unfold accR
 obtain ⟨xo,xa,xb,xc,xv,xm,xw⟩:=x
 unfold InsBox insV at*
 simp only at ho hk ha hb hv hAll hAd hw1 ⊢
 subst ho hk
 have hr1:U64 (f.r.getD k 0):=rg_range h.ok.r k
 have had:U64 (addrB f ⟨19,k,xb,xc,xv,xm,xw⟩):=by
  unfold addrB word
  simp only
  split
  ·exact hv
  ·unfold U64;omega
 have hrg:rg f (k:Int)=f.r.getD k 0:=rfl
 rw[hrg]
 generalize f.r.getD k 0=ra at*
 generalize addrB f ⟨19,k,xb,xc,xv,xm,xw⟩=ad at*
 have hrr:((m.acc (accKind 19) ad ra (if (19:Int)=21 then ra else ra)).map fun p=>(if (19:Int)=18 then ra else p.1,p.2))=(m.acc 2 ad 0 ra).map fun p=>(p.1,p.2):=by
  rw[show accKind 19=2 from rfl,acc_old _ _ _ _ _ (by decide)];rfl
 change Calls _ _ _ _ (VAcc w X gc gw ((m.acc (accKind 19) ad ra (if (19:Int)=21 then ra else ra)).map fun p=>(if (19:Int)=18 then ra else p.1,p.2)))
 rw[hrr]
 have HAd2:=Lib.hid had
 have HR1:=Lib.hid hr1
 have HOp:Hid (∀W,Below w1.heap.size w1 W→Calls Tryz.prog 405 #[.pointer (some ⟨X,0,none⟩), .int .u64 ad, .int .u64 ra] W (AccOut W X gc gw (m.acc 2 ad 0 ra))):=Lib.hid fun W hW=>mswap_any (hMm W hW) ad ra HAd2.out HR1.out
 have HBW:=Lib.hid hBW
 have HAll:=Lib.hid hAll
 have HAd:=Lib.hid hAd
 have b0:=Below.refl w1.heap.size w1
 obtain ⟨-,r0,q0,q1,q2,q3,q4,q5,q6⟩:=hAll w1 b0
 clear h hm hAd hAll hMm hb ha hbx hv hz hFr hBx had hr1 hlt hBW hrg hrr
 have hmeth:=fun (v:Value) (W:World)=>methSwap v W
 generalize m.acc 2 ad 0 ra=r at*
 go_enter Tryz.func250,Tryz.ntmps250
 go_wp2_with fail
 rw[←hw1]
 clear hw1
 go_region_held3 (fun W=>Below w1.heap.size w1 W∧W.cell? ⟨b,o+1+k,none⟩=some (.int .u64 ra)∧W.cell? ⟨w.heap.size,0,none⟩=some (.int .i64 19)∧W.cell? ⟨w.heap.size,1,none⟩=some (.int .i64 k)∧W.cell? ⟨w.heap.size,2,none⟩=some (.int .i64 xb)∧W.cell? ⟨w.heap.size,3,none⟩=some (.int .i64 xc)∧W.cell? ⟨w.heap.size,4,none⟩=some (.int .u64 xv)∧W.cell? ⟨w.heap.size,5,none⟩=some (.int .i64 xm)∧W.cell? ⟨w.heap.size,6,none⟩=some (.int .i64 xw)) (exact HAll.out _ (by repeat first|with_reducible assumption|with_reducible exact b0|with_reducible refine Below.drew ?_))
  (first|(go_at_call 201;refine (HAd.out _ (by repeat first|with_reducible assumption|with_reducible exact b0|with_reducible refine Below.drew ?_)).mono ?_;rintro e w2 ⟨rfl,y0,y1,y2,y3,y4,y5,y6,y7,y8⟩))
 clear q0 q1 q2 q3 q4 q5 q6 r0
 have HY:=Lib.hid y0
 go_wp2_with fail
 have hY2:Below w1.heap.size w1 w2:=HY.out
 refine (HOp.out _ hY2).mono ?_
 have HY2:=Lib.hid hY2
 clear hY2
 intro e w3 hq
 cases r with
 |none=>
  obtain ⟨⟨ev,rfl,hev⟩,hb3⟩:=hq
  have HB3:=Lib.hid hb3
  have HE:=Lib.hid hev
  clear hb3 hev
  go_wp2_with fail
  go_ret2
  exact ⟨⟨_,_,rfl,HE.out⟩,(HBW.out _ HY2.out).trans (HB3.out.mono (HBW.out _ HY2.out).size)⟩
 |some p=>
  obtain ⟨was,m'⟩:=p
  obtain ⟨rfl,hm3,hk3⟩:=hq
  have HM3:=Lib.hid hm3
  have HK3:=Lib.hid hk3
  clear hm3 hk3
  go_wp2_with fail
  go_ret2
  exact ⟨rfl,HM3.out,(Keeps.ofBelow (HBW.out _ HY2.out)).trans HK3.out fun _ hx=>Or.inl hx⟩
set_option maxRecDepth 100000 in
set_option maxHeartbeats 4000000 in
theorem vaccess_20 (h:FrM w own b o t P S tb tk n f bv) {X gc gw:Nat} {m:Mem} (hm:MemP w X gc gw m) (x:InsL) (ho:x.op=20) (ha:0≤x.a∧x.a<32) (hb:x.b= -1∨0≤x.b∧x.b<32) (hv:U64 x.v):
  Calls Tryz.prog 250 #[.pointer (some ⟨b,o,none⟩), .agg (insV x), .iface 149 (.pointer (some ⟨X,0,none⟩))] w (VAcc w X gc gw (accR f m x)):=by
 obtain ⟨k,hk⟩:=Int.eq_ofNat_of_zero_le ha.1
 have hk2:k<32:=by omega
 have hkI:(0:Int)≤(k:Int)∧(k:Int)<32:=by omega
 obtain ⟨w1,hw1⟩: ∃w1,w1=w.alloc (.cells (insV x) 68):=⟨_,rfl⟩
 have hbx:Below w.heap.size w w1:=by rw[hw1];exact (Below.refl _ _).alloc (Nat.le_refl _) _
 have hz:w1.heap[w.heap.size]?=some (.cells (insV x) 68 (0,0)):=by rw[hw1];exact heap_alloc_new w _
 have hlt:=h.lens.lt
 have hFr: ∀W,Below w1.heap.size w1 W→Lens W b o t P S f bv:=fun W hW=>(h.lens.of_block (hbx.block b hlt)).of_block (hW.block b (Nat.lt_of_lt_of_le hlt hbx.size))
 have hBx: ∀W,Below w1.heap.size w1 W→InsBox W w.heap.size x:=fun W hW=>InsBox.of ((hW.block _ (blk_in hz)).trans hz)
 have hAll: ∀W,Below w1.heap.size w1 W→Below w1.heap.size w1 W∧W.cell? ⟨b,o+1+k,none⟩=some (.int .u64 (f.r.getD k 0))∧InsBox W w.heap.size x:=fun W hW=>⟨hW,(hFr W hW).reg h.ok.len hk2,hBx W hW⟩
 have hAd: ∀W,Below w1.heap.size w1 W→Calls Tryz.prog 201 #[.pointer (some ⟨b,o,none⟩), .agg (insV x)] W fun e w'=>e= .returned (.int .u64 (addrB f x))∧Below w1.heap.size w1 w'∧w'.cell? ⟨b,o+1+k,none⟩=some (.int .u64 (f.r.getD k 0))∧InsBox w' w.heap.size x:=fun W hW=>(vaddr_any (hFr W hW) h.ok.r h.ok.len x hv hb).mono fun e w' ⟨p,q⟩=>⟨p,hAll _ (hW.trans (q.mono hW.size))⟩
 have hMm: ∀W,Below w1.heap.size w1 W→MemP W X gc gw m:=fun W hW=>(hm.below' hbx).below' hW
 have hBW: ∀W,Below w1.heap.size w1 W→Below w.heap.size w W:=fun W hW=>hbx.trans (hW.mono hbx.size)
 unfold accR
 obtain ⟨xo,xa,xb,xc,xv,xm,xw⟩:=x
 unfold InsBox insV at*
 simp only at ho hk ha hb hv hAll hAd hw1 ⊢
 subst ho hk
 have hr1:U64 (f.r.getD k 0):=rg_range h.ok.r k
 have had:U64 (addrB f ⟨20,k,xb,xc,xv,xm,xw⟩):=by
  unfold addrB word
  simp only
  split
  ·exact hv
  ·unfold U64;omega
 have hrg:rg f (k:Int)=f.r.getD k 0:=rfl
 rw[hrg]
 generalize f.r.getD k 0=ra at*
 generalize addrB f ⟨20,k,xb,xc,xv,xm,xw⟩=ad at*
 have hrr:((m.acc (accKind 20) ad ra (if (20:Int)=21 then ra else ra)).map fun p=>(if (20:Int)=18 then ra else p.1,p.2))=(m.acc 3 ad 0 ra).map fun p=>(p.1,p.2):=by
  rw[show accKind 20=3 from rfl,acc_old _ _ _ _ _ (by decide)];rfl
 change Calls _ _ _ _ (VAcc w X gc gw ((m.acc (accKind 20) ad ra (if (20:Int)=21 then ra else ra)).map fun p=>(if (20:Int)=18 then ra else p.1,p.2)))
 rw[hrr]
 have HAd2:=Lib.hid had
 have HR1:=Lib.hid hr1
 have HOp:Hid (∀W,Below w1.heap.size w1 W→Calls Tryz.prog 192 #[.pointer (some ⟨X,0,none⟩), .int .u64 ad, .int .u64 ra] W (AccOut W X gc gw (m.acc 3 ad 0 ra))):=Lib.hid fun W hW=>madd_any (hMm W hW) ad ra HAd2.out HR1.out
 have HBW:=Lib.hid hBW
 have HAll:=Lib.hid hAll
 have HAd:=Lib.hid hAd
 have b0:=Below.refl w1.heap.size w1
 obtain ⟨-,r0,q0,q1,q2,q3,q4,q5,q6⟩:=hAll w1 b0
 clear h hm hAd hAll hMm hb ha hbx hv hz hFr hBx had hr1 hlt hBW hrg hrr
 have hmeth:=fun (v:Value) (W:World)=>methAdd v W
 generalize m.acc 3 ad 0 ra=r at*
 go_enter Tryz.func250,Tryz.ntmps250
 go_wp2_with fail
 rw[←hw1]
 clear hw1
 go_region_held3 (fun W=>Below w1.heap.size w1 W∧W.cell? ⟨b,o+1+k,none⟩=some (.int .u64 ra)∧W.cell? ⟨w.heap.size,0,none⟩=some (.int .i64 20)∧W.cell? ⟨w.heap.size,1,none⟩=some (.int .i64 k)∧W.cell? ⟨w.heap.size,2,none⟩=some (.int .i64 xb)∧W.cell? ⟨w.heap.size,3,none⟩=some (.int .i64 xc)∧W.cell? ⟨w.heap.size,4,none⟩=some (.int .u64 xv)∧W.cell? ⟨w.heap.size,5,none⟩=some (.int .i64 xm)∧W.cell? ⟨w.heap.size,6,none⟩=some (.int .i64 xw)) (exact HAll.out _ (by repeat first|with_reducible assumption|with_reducible exact b0|with_reducible refine Below.drew ?_))
  (first|(go_at_call 201;refine (HAd.out _ (by repeat first|with_reducible assumption|with_reducible exact b0|with_reducible refine Below.drew ?_)).mono ?_;rintro e w2 ⟨rfl,y0,y1,y2,y3,y4,y5,y6,y7,y8⟩))
 clear q0 q1 q2 q3 q4 q5 q6 r0
 have HY:=Lib.hid y0
 go_wp2_with fail
 have hY2:Below w1.heap.size w1 w2:=HY.out
 refine (HOp.out _ hY2).mono ?_
 have HY2:=Lib.hid hY2
 clear hY2
 intro e w3 hq
 cases r with
 |none=>
  obtain ⟨⟨ev,rfl,hev⟩,hb3⟩:=hq
  have HB3:=Lib.hid hb3
  have HE:=Lib.hid hev
  clear hb3 hev
  go_wp2_with fail
  go_ret2
  exact ⟨⟨_,_,rfl,HE.out⟩,(HBW.out _ HY2.out).trans (HB3.out.mono (HBW.out _ HY2.out).size)⟩
 |some p=>
  obtain ⟨was,m'⟩:=p
  obtain ⟨rfl,hm3,hk3⟩:=hq
  have HM3:=Lib.hid hm3
  have HK3:=Lib.hid hk3
  clear hm3 hk3
  go_wp2_with fail
  go_ret2
  exact ⟨rfl,HM3.out,(Keeps.ofBelow (HBW.out _ HY2.out)).trans HK3.out fun _ hx=>Or.inl hx⟩
set_option maxRecDepth 100000 in
set_option maxHeartbeats 4000000 in
theorem vaccess_21 (h:FrM w own b o t P S tb tk n f bv) {X gc gw:Nat} {m:Mem} (hm:MemP w X gc gw m) (x:InsL) (ho:x.op=21) (ha:0≤x.a∧x.a<32) (hb:x.b= -1∨0≤x.b∧x.b<32) (hc:0≤x.c∧x.c<32) (hne:b≠X∧b≠gc) (hv:U64 x.v):
  Calls Tryz.prog 250 #[.pointer (some ⟨b,o,none⟩), .agg (insV x), .iface 149 (.pointer (some ⟨X,0,none⟩))] w (VAcc w X gc gw (accR f m x)):=by
 obtain ⟨k,hk⟩:=Int.eq_ofNat_of_zero_le ha.1
 have hk2:k<32:=by omega
 have hkI:(0:Int)≤(k:Int)∧(k:Int)<32:=by omega
 obtain ⟨kc,hkc⟩:=Int.eq_ofNat_of_zero_le hc.1
 have hkc2:kc<32:=by omega
 have hkcI:(0:Int)≤(kc:Int)∧(kc:Int)<32:=by omega
 obtain ⟨w1,hw1⟩: ∃w1,w1=w.alloc (.cells (insV x) 68):=⟨_,rfl⟩
 have hbx:Below w.heap.size w w1:=by rw[hw1];exact (Below.refl _ _).alloc (Nat.le_refl _) _
 have hz:w1.heap[w.heap.size]?=some (.cells (insV x) 68 (0,0)):=by rw[hw1];exact heap_alloc_new w _
 have hlt:=h.lens.lt
 have hFr: ∀W,Below w1.heap.size w1 W→Lens W b o t P S f bv:=fun W hW=>(h.lens.of_block (hbx.block b hlt)).of_block (hW.block b (Nat.lt_of_lt_of_le hlt hbx.size))
 have hBx: ∀W,Below w1.heap.size w1 W→InsBox W w.heap.size x:=fun W hW=>InsBox.of ((hW.block _ (blk_in hz)).trans hz)
 have hAll: ∀W,Below w1.heap.size w1 W→Below w1.heap.size w1 W∧W.cell? ⟨b,o+1+k,none⟩=some (.int .u64 (f.r.getD k 0))∧W.cell? ⟨b,o+1+kc,none⟩=some (.int .u64 (f.r.getD kc 0))∧InsBox W w.heap.size x:=fun W hW=>⟨hW,(hFr W hW).reg h.ok.len hk2,(hFr W hW).reg h.ok.len hkc2,hBx W hW⟩
 have hAd: ∀W,Below w1.heap.size w1 W→Calls Tryz.prog 201 #[.pointer (some ⟨b,o,none⟩), .agg (insV x)] W fun e w'=>e= .returned (.int .u64 (addrB f x))∧Below w1.heap.size w1 w'∧w'.cell? ⟨b,o+1+k,none⟩=some (.int .u64 (f.r.getD k 0))∧w'.cell? ⟨b,o+1+kc,none⟩=some (.int .u64 (f.r.getD kc 0))∧InsBox w' w.heap.size x:=fun W hW=>(vaddr_any (hFr W hW) h.ok.r h.ok.len x hv hb).mono fun e w' ⟨p,q⟩=>⟨p,hAll _ (hW.trans (q.mono hW.size))⟩
 have hMm: ∀W,Below w1.heap.size w1 W→MemP W X gc gw m:=fun W hW=>(hm.below' hbx).below' hW
 have hBW: ∀W,Below w1.heap.size w1 W→Below w.heap.size w W:=fun W hW=>hbx.trans (hW.mono hbx.size)
 unfold accR
 obtain ⟨xo,xa,xb,xc,xv,xm,xw⟩:=x
 unfold InsBox insV at*
 simp only at ho hk ha hb hv hAll hAd hw1 hkc hc ⊢
 subst ho hk hkc
 have hr1:U64 (f.r.getD k 0):=rg_range h.ok.r k
 have hr2:U64 (f.r.getD kc 0):=rg_range h.ok.r kc
 have had:U64 (addrB f ⟨21,k,xb,kc,xv,xm,xw⟩):=by
  unfold addrB word
  simp only
  split
  ·exact hv
  ·unfold U64;omega
 have hrg:rg f (k:Int)=f.r.getD k 0:=rfl
 rw[hrg]
 have hrg2:rg f (kc:Int)=f.r.getD kc 0:=rfl
 rw[hrg2]
 obtain ⟨ra,hra⟩: ∃ra,ra=f.r.getD k 0:=⟨_,rfl⟩
 obtain ⟨rc,hrc⟩: ∃rc,rc=f.r.getD kc 0:=⟨_,rfl⟩
 rw[←hra] at hr1 ⊢
 rw[←hrc] at hr2 ⊢
 simp only[←hra,←hrc] at hAll hAd
 clear hra hrc
 generalize addrB f ⟨21,k,xb,kc,xv,xm,xw⟩=ad at*
 have hrr:((m.acc (accKind 21) ad ra (if (21:Int)=21 then rc else ra)).map fun p=>(if (21:Int)=18 then ra else p.1,p.2))=(m.acc 4 ad ra rc).map fun p=>(p.1,p.2):=by
  rfl
 change Calls _ _ _ _ (VAcc w X gc gw ((m.acc (accKind 21) ad ra (if (21:Int)=21 then rc else ra)).map fun p=>(if (21:Int)=18 then ra else p.1,p.2)))
 rw[hrr]
 have HAd2:=Lib.hid had
 have HR1:=Lib.hid hr1
 have HR2:=Lib.hid hr2
 have HOp:Hid (∀W,Below w1.heap.size w1 W→Calls Tryz.prog 292 #[.pointer (some ⟨X,0,none⟩), .int .u64 ad, .int .u64 ra, .int .u64 rc] W fun e w'=>(AccOut W X gc gw (m.acc 4 ad ra rc) e w')∧w'.cell? ⟨b,o+1+kc,none⟩=some (.int .u64 rc)∧w'.cell? ⟨w.heap.size,3,none⟩=some (.int .i64 kc)):=Lib.hid fun W hW=>mcas_any (hMm W hW) ad ra rc HAd2.out HR1.out HR2.out|>.mono fun e w' hq=>by
  obtain ⟨-,r0,r1,-,-,-,q3,-,-,-⟩:=hAll W hW
  have hl: ∀c,c=X∨c=gc→c<w.heap.size:=fun c hc=>by
   obtain ⟨l1,l2,l3⟩:=hm.lt
   rcases hc with rfl|rfl<;>assumption
  have hsz:=(hBW W hW).size
  have hsz2:=(Nat.lt_of_lt_of_le (blk_in hz) hW.size)
  have hst: ∀c,c≠X→c≠gc→c<W.heap.size→w'.heap[c]?=W.heap[c]?:=fun c c1 c2 c3=>by
   generalize m.acc 4 ad ra rc=rr at hq
   cases rr with
   |none=>exact hq.2.block c c3
   |some p=>exact hq.2.2.block c c3 fun e=>e.elim c1 c2
  refine ⟨hq,(World.cell?_of_block (a:=⟨b,o+1+kc,none⟩) (hst b hne.1 hne.2 (Nat.lt_of_lt_of_le hlt hsz))).trans r1,(World.cell?_of_block (a:=⟨w.heap.size,3,none⟩) (hst _ (fun e=>?_) (fun e=>?_) hsz2)).trans q3⟩
  ·have e2:w.heap.size=X:=e
   have:=hl X (Or.inl rfl);omega
  ·have e2:w.heap.size=gc:=e
   have:=hl gc (Or.inr rfl);omega
 have HBW:=Lib.hid hBW
 have HAll:=Lib.hid hAll
 have HAd:=Lib.hid hAd
 have b0:=Below.refl w1.heap.size w1
 obtain ⟨-,r0,r1,q0,q1,q2,q3,q4,q5,q6⟩:=hAll w1 b0
 clear h hm hAd hAll hMm hb ha hbx hv hz hFr hBx had hr1 hlt hBW hrg hrr hr2 hrg2 hc
 have hmeth:=fun (v:Value) (W:World)=>methCas v W
 have hnil:=fun (W:World)=>nilCas ⟨X,0,none⟩ W
 generalize m.acc 4 ad ra rc=r at*
 go_enter Tryz.func250,Tryz.ntmps250
 go_wp2_with fail
 rw[←hw1]
 clear hw1
 go_region_held3 (fun W=>Below w1.heap.size w1 W∧W.cell? ⟨b,o+1+k,none⟩=some (.int .u64 ra)∧W.cell? ⟨b,o+1+kc,none⟩=some (.int .u64 rc)∧W.cell? ⟨w.heap.size,0,none⟩=some (.int .i64 21)∧W.cell? ⟨w.heap.size,1,none⟩=some (.int .i64 k)∧W.cell? ⟨w.heap.size,2,none⟩=some (.int .i64 xb)∧W.cell? ⟨w.heap.size,3,none⟩=some (.int .i64 kc)∧W.cell? ⟨w.heap.size,4,none⟩=some (.int .u64 xv)∧W.cell? ⟨w.heap.size,5,none⟩=some (.int .i64 xm)∧W.cell? ⟨w.heap.size,6,none⟩=some (.int .i64 xw)) (exact HAll.out _ (by repeat first|with_reducible assumption|with_reducible exact b0|with_reducible refine Below.drew ?_))
  (first|(go_at_call 201;refine (HAd.out _ (by repeat first|with_reducible assumption|with_reducible exact b0|with_reducible refine Below.drew ?_)).mono ?_;rintro e w2 ⟨rfl,y0,y1,z1,y2,y3,y4,y5,y6,y7,y8⟩))
 clear q0 q1 q2 q3 q4 q5 q6 r0
 have HY:=Lib.hid y0
 have HY2:Hid (Below w1.heap.size w1 w2.drew):=Lib.hid HY.out.drew
 go_wp2_with fail
 cases r with
 |none=>
  go_region_held3 (fun W=>W.cell? ⟨b,o+1+kc,none⟩=some (.int .u64 rc)∧W.cell? ⟨w.heap.size,3,none⟩=some (.int .i64 kc)) (first|exact ⟨z1,y5⟩ |exact ⟨u1,u2⟩ |go_keep) (first|(go_at_call 292;refine (HOp.out w2.drew HY2.out).mono ?_;rintro e w3 ⟨⟨⟨ev,rfl,hev⟩,hb3⟩,u1,u2⟩))
  have HB3:=Lib.hid hb3
  have HE:=Lib.hid hev
  clear hb3 hev
  go_wp2_with fail
  go_ret2
  exact ⟨⟨_,_,rfl,HE.out⟩,(HBW.out _ HY2.out).trans (HB3.out.mono (HBW.out _ HY2.out).size)⟩
 |some p=>
  obtain ⟨was,m'⟩:=p
  go_region_held3 (fun W=>W.cell? ⟨b,o+1+kc,none⟩=some (.int .u64 rc)∧W.cell? ⟨w.heap.size,3,none⟩=some (.int .i64 kc)) (first|exact ⟨z1,y5⟩ |exact ⟨u1,u2⟩ |go_keep) (first|(go_at_call 292;refine (HOp.out w2.drew HY2.out).mono ?_;rintro e w3 ⟨⟨rfl,hm3,hk3⟩,u1,u2⟩))
  have HM3:=Lib.hid hm3
  have HK3:=Lib.hid hk3
  clear hm3 hk3
  go_wp2_with fail
  go_ret2
  exact ⟨rfl,HM3.out,(Keeps.ofBelow (HBW.out _ HY2.out)).trans HK3.out fun _ hx=>Or.inl hx⟩
theorem vaccess_any (h:FrM w own b o t P S tb tk n f bv) {X gc gw:Nat} {m:Mem} (hm:MemP w X gc gw m) (x:InsL) (ho:17≤x.op∧x.op≤21) (ha:0≤x.a∧x.a<32) (hb:x.b= -1∨0≤x.b∧x.b<32) (hc:x.op=21→0≤x.c∧x.c<32) (hne:b≠X∧b≠gc) (hv:U64 x.v):
  Calls Tryz.prog 250 #[.pointer (some ⟨b,o,none⟩), .agg (insV x), .iface 149 (.pointer (some ⟨X,0,none⟩))] w (VAcc w X gc gw (accR f m x)):=by
 have e:x.op=17∨x.op=18∨x.op=19∨x.op=20∨x.op=21:=by omega
 rcases e with e|e|e|e|e
 ·exact vaccess_17 h hm x e ha hb hv
 ·exact vaccess_18 h hm x e ha hb hv
 ·exact vaccess_19 h hm x e ha hb hv
 ·exact vaccess_20 h hm x e ha hb hv
 ·exact vaccess_21 h hm x e ha hb (hc e) hne hv
end
end Go.Proofs.YtaangaogmnlljaaGreatDoor.Kn
namespace Go.Proofs.YtaangaogmnlljaaGreatDoor.Kn
open Go.RowKit Asm
section
variable {w:World} {own:Own} {b o:Nat} {t:TypeId} {P S:List Value} {tb tk:Tag} {n:Nat} {f:Frame} {bv:Value}
theorem step_of {l:List InsL} {m:Mem} {f:Frame} {x:InsL} (h:runs? l f.pc=some x):stepL f l m=(if x.op=12∨x.op=13∨x.op=14∨x.op=15∨x.op=16 then ⟨(jumpK f x).1,(jumpK f x).2,m⟩
  else if 17≤x.op∧x.op≤21 then
   (match m.acc (accKind x.op) (addrB f x) (rg f x.a) (if x.op=21 then rg f x.c else rg f x.a) with
    |none=>⟨3,f,m⟩
    |some (was,m')=>⟨0,{ (if x.op=18 then f else setR f x.a was) with pc:=f.pc+1},m'⟩)
  else if x.op=1 then ⟨0,{ setR f x.a x.v with pc:=f.pc+1},m⟩
  else if x.op=2 then ⟨0,{ setR f x.a (rg f x.b) with pc:=f.pc+1},m⟩
  else if 3≤x.op∧x.op≤11 then ⟨0,{ setR f x.a (reckon x.op (rg f x.b) (valC f x)) with pc:=f.pc+1},m⟩
  else ⟨1,f,m⟩):=by unfold stepL;rw[h];rfl
theorem step_none {l:List InsL} {m:Mem} {f:Frame} (h:runs? l f.pc=none):stepL f l m=⟨3,f,m⟩:=by unfold stepL;rw[h]
theorem FrOut.below {W W':World} {f':Frame} {n':Nat} (h:FrOut w own b o t P S tb tk n' f' W) (hb:Below W.heap.size W W'):FrOut w own b o t P S tb tk n' f' W':=by
 obtain ⟨own',bv',h1,h2⟩:=h
 exact ⟨own',bv',h1.below hb,⟨h2.keeps.trans (Keeps.ofBelow (X:=fun _=>False) hb) (fun _ e=>e.elim),h2.own⟩⟩
set_option maxRecDepth 100000 in
set_option maxHeartbeats 2000000 in
theorem vstep_out (h:FrM w own b o t P S tb tk n f bv) {g c L:Nat} (hL:L≤2048) (hx:(L:Int)≤f.pc) {mt:TypeId} {mv:Value}:
  Calls Tryz.prog 198 #[.pointer (some ⟨b,o,none⟩), .slice (some ⟨g,0,none⟩) L c, .iface mt mv] w fun e w'=>e= .returned (.tuple #[.int .i64 3, .nilIface])∧Below w.heap.size w w':=by
 obtain ⟨p,hp⟩:=Int.eq_ofNat_of_zero_le h.ok.pc.1
 obtain ⟨cp,-,-,-⟩:=h.cells
 rw[hp] at cp hx
 have hLI:(L:Int)≤2048:=by omega
 have hpI:(0:Int)≤(p:Int):=by omega
 clear h
 go_enter Tryz.func198,Tryz.ntmps198
 go_wp2_with fail
 go_ret2
 exact ⟨rfl,by first|exact Below.refl _ _|exact below_dn (Below.refl _ _) _⟩
theorem may_regs {x:InsL} {n:Int} {lib:Bool} (h:mayK x n lib=true):(0≤x.a∧x.a<32)∧(x.b= -1∨0≤x.b∧x.b<32)∧(x.c= -1∨0≤x.c∧x.c<32)∧(lessBK x.op=false→0≤x.b∧x.b<32)∧(lessCK x.op=false→0≤x.c∧x.c<32):=by
 obtain ⟨-,-,-,hA,hB,hC,-⟩:=may_parts h
 have q: ∀(r:Int) (u s:Bool),regOk r u s=true→(r= -1∨0≤r∧r<32)∧(s=false→0≤r∧r<32):=fun r u s e=>by
  unfold regOk at e
  cases u with
  |true=>
   simp at e
   refine ⟨by omega,fun hs=>?_⟩
   rw[hs] at e
   simpa using e
  |false=>
   simp at e
   exact ⟨by omega,fun _=>by omega⟩
 exact ⟨(q _ _ _ hA).2 rfl,(q _ _ _ hB).1,(q _ _ _ hC).1,(q _ _ _ hB).2,(q _ _ _ hC).2⟩
theorem FrOut.from {W w':World} {f':Frame} {n':Nat} (hb:Below w.heap.size w W) (h:FrOut W own b o t P S tb tk n' f' w'):FrOut w own b o t P S tb tk n' f' w':=by
 obtain ⟨own',bv',h1,h2⟩:=h
 exact ⟨own',bv',h1,⟨(Keeps.ofBelow hb).trans h2.keeps fun _ e=>Or.inl e,fun i hi=>h2.own i (Nat.lt_of_lt_of_le hi hb.size)⟩⟩
set_option maxRecDepth 100000 in
set_option maxHeartbeats 8000000 in
theorem vstep_jump (h:FrM w own b o t P S tb tk n f bv) (hne:tb≠tk) {g c:Nat} {l:List InsL} {lib:Bool} (hc:CodeAt w g l) (hg:g<w.heap.size) (hl:l.length≤2048) (hmay: ∀x∈l,mayK x l.length lib=true) (hlv: ∀x∈l,U64 x.v) (hn:n≤100000) {mt:TypeId} {mv:Value} {x:InsL} (hx:insAt l f.pc=some x) (ho:12≤x.op∧x.op≤16) (m:Mem):
  Calls Tryz.prog 198 #[.pointer (some ⟨b,o,none⟩), .slice (some ⟨g,0,none⟩) l.length c, .iface mt mv] w fun e w'=>e= .returned (.tuple #[.int .i64 (stepL f l m).how, .nilIface])∧FrOut w own b o t P S tb tk (n+1) (stepL f l m).f w':=by
 rw[step_of ((runs_ins hmay f.pc).trans hx)]
 rw[if_pos (by omega)]
 obtain ⟨p,hp⟩:=Int.eq_ofNat_of_zero_le h.ok.pc.1
 have hpl:p<l.length:=by
  unfold insAt at hx
  rw[if_neg (by omega)] at hx
  have:=(List.getElem?_eq_some_iff.1 hx).1
  omega
 have hxl:l[p]=x:=by
  unfold insAt at hx
  rw[if_neg (by omega),hp] at hx
  exact Option.some.inj ((List.getElem?_eq_getElem hpl).symm.trans hx)
 have hxm:x∈l:=by rw[←hxl];exact List.getElem_mem hpl
 have hmx:=hmay x hxm
 have hvx:=hlv x hxm
 have hpI:(0:Int)≤(p:Int)∧(p:Int)<(l.length:Int):=by omega
 have hlI:(1:Int)≤(l.length:Int)∧(l.length:Int)≤2048:=by omega
 obtain ⟨cp,-,-,-⟩:=h.cells
 rw[hp] at cp
 have hpc1:f.pc+1=(p:Int)+1:=by rw[hp]
 have hpw:IntKind.i64.wrap ((p:Int)+1)=(p:Int)+1:=by rw[IntKind.wrap_i64];omega
 have HMay:Hid (∀W,Calls Tryz.prog 248 #[.agg (insV x), .int .i64 l.length] W fun e w'=>e= .returned (.bool true)∧Below W.heap.size W w'):=Lib.hid fun W=>vmay_any x l.length lib W (by omega) hvx.1 hmx
 have HCode:Hid (∀W,Below w.heap.size w W→CodeAt W g l):=Lib.hid fun W hW=>hc.below hg hW
 have HCp:Hid (∀W,Below w.heap.size w W→W.cell? ⟨b,o,none⟩=some (.int .i64 p)):=Lib.hid fun W hW=>(hW.cell (p:=⟨b,o,none⟩) h.lens.lt).trans cp
 obtain ⟨c0,c1,c2,c3,c4,c5,c6⟩:w.cell? ⟨g,p*7,none⟩=some (.int .i64 x.op)∧w.cell? ⟨g,p*7+1,none⟩=some (.int .i64 x.a)∧w.cell? ⟨g,p*7+2,none⟩=some (.int .i64 x.b)∧w.cell? ⟨g,p*7+3,none⟩=some (.int .i64 x.c)∧w.cell? ⟨g,p*7+4,none⟩=some (.int .u64 x.v)∧w.cell? ⟨g,p*7+5,none⟩=some (.int .i64 x.m)∧w.cell? ⟨g,p*7+6,none⟩=some (.int .i64 x.w):=hc.cells hpl hxl
 have HG:=Lib.hid hg
 have HBl:=Lib.hid h.lens.lt
 obtain ⟨ha,-⟩:=may_regs hmx
 have hvb:0≤x.v∧x.v≤4000:=by
  have hN:=(may_parts hmx).2.2.2.2.2.2.1
  refine ⟨hvx.1,?_⟩
  unfold numOk at hN
  by_cases e:x.op=16
  ·rw[e] at hN;simp[hasV] at hN;omega
  ·rw[if_pos (by omega)] at hN;simp at hN;omega
 have HJ:Hid (∀W,Below w.heap.size w W→Calls Tryz.prog 249 #[.pointer (some ⟨b,o,none⟩), .agg (insV x)] W fun e w'=>e= .returned (.int .i64 (jumpK f x).1)∧FrOut w own b o t P S tb tk (n+1) (jumpK f x).2 w'):=Lib.hid fun W hW=>(jump_any (h.below hW) hne x ho hvb ha hn).mono fun e w' ⟨p,q⟩=>⟨p,FrOut.from hW q⟩
 generalize jumpK f x=jr at*
 obtain ⟨jh,jf⟩:=jr
 obtain ⟨xo,xa,xb,xc,xv,xm,xw⟩:=x
 simp only at ho c0 c1 c2 c3 c4 c5 c6
 unfold insV at HMay HJ
 clear h hc hg hmay hlv hn hx hmx hvx ha hvb hpc1 hxl hxm hpl
 generalize l.length=L at*
 clear hl
 have hoo:xo=12∨xo=13∨xo=14∨xo=15∨xo=16:=by omega
 clear ho
 rcases hoo with rfl|rfl|rfl|rfl|rfl
 all_goals
  go_enter Tryz.func198,Tryz.ntmps198
  go_wp2_with fail
  refine (HMay.out _).mono ?_
  rintro e w1 ⟨rfl,hb1⟩
  replace hb1:Below w.heap.size w w1:=by first|exact hb1|exact (below_dn (Below.refl _ _) _).trans hb1
  have cp1:=HCp.out w1 hb1
  have d0:=(hb1.cell (p:=⟨g,p*7,none⟩) HG.out).trans c0
  have d1:=(hb1.cell (p:=⟨g,p*7+1,none⟩) HG.out).trans c1
  have d2:=(hb1.cell (p:=⟨g,p*7+2,none⟩) HG.out).trans c2
  have d3:=(hb1.cell (p:=⟨g,p*7+3,none⟩) HG.out).trans c3
  have d4:=(hb1.cell (p:=⟨g,p*7+4,none⟩) HG.out).trans c4
  have d5:=(hb1.cell (p:=⟨g,p*7+5,none⟩) HG.out).trans c5
  have d6:=(hb1.cell (p:=⟨g,p*7+6,none⟩) HG.out).trans c6
  have HB1:=Lib.hid hb1
  clear hb1
  go_wp2_with fail
  refine (HJ.out _ (below_al HB1.out _)).mono ?_
  rintro e w3 ⟨rfl,hq⟩
  have HQ:=Lib.hid hq
  clear hq
  go_wp2_with fail
  go_ret2
  exact ⟨rfl,HQ.out⟩
set_option maxRecDepth 100000 in
set_option maxHeartbeats 8000000 in
theorem vstep_away (h:FrM w own b o t P S tb tk n f bv) (hne:tb≠tk) {g c:Nat} {l:List InsL} {lib:Bool} (hc:CodeAt w g l) (hg:g<w.heap.size) (hl:l.length≤2048) (hmay: ∀x∈l,mayK x l.length lib=true) (hlv: ∀x∈l,U64 x.v) (hn:n≤100000) {mt:TypeId} {mv:Value} {x:InsL} (hx:insAt l f.pc=some x) (ho:22≤x.op) (m:Mem):
  Calls Tryz.prog 198 #[.pointer (some ⟨b,o,none⟩), .slice (some ⟨g,0,none⟩) l.length c, .iface mt mv] w fun e w'=>e= .returned (.tuple #[.int .i64 (stepL f l m).how, .nilIface])∧FrOut w own b o t P S tb tk (n+1) (stepL f l m).f w':=by
 rw[step_of ((runs_ins hmay f.pc).trans hx)]
 rw[if_neg (by omega),if_neg (by omega),if_neg (by omega),if_neg (by omega),if_neg (by omega)]
 obtain ⟨p,hp⟩:=Int.eq_ofNat_of_zero_le h.ok.pc.1
 have hpl:p<l.length:=by
  unfold insAt at hx
  rw[if_neg (by omega)] at hx
  have:=(List.getElem?_eq_some_iff.1 hx).1
  omega
 have hxl:l[p]=x:=by
  unfold insAt at hx
  rw[if_neg (by omega),hp] at hx
  exact Option.some.inj ((List.getElem?_eq_getElem hpl).symm.trans hx)
 have hxm:x∈l:=by rw[←hxl];exact List.getElem_mem hpl
 have hmx:=hmay x hxm
 have hvx:=hlv x hxm
 have hpI:(0:Int)≤(p:Int)∧(p:Int)<(l.length:Int):=by omega
 have hlI:(1:Int)≤(l.length:Int)∧(l.length:Int)≤2048:=by omega
 obtain ⟨cp,-,-,-⟩:=h.cells
 rw[hp] at cp
 have hpc1:f.pc+1=(p:Int)+1:=by rw[hp]
 have hpw:IntKind.i64.wrap ((p:Int)+1)=(p:Int)+1:=by rw[IntKind.wrap_i64];omega
 have HMay:Hid (∀W,Calls Tryz.prog 248 #[.agg (insV x), .int .i64 l.length] W fun e w'=>e= .returned (.bool true)∧Below W.heap.size W w'):=Lib.hid fun W=>vmay_any x l.length lib W (by omega) hvx.1 hmx
 have HCode:Hid (∀W,Below w.heap.size w W→CodeAt W g l):=Lib.hid fun W hW=>hc.below hg hW
 have HCp:Hid (∀W,Below w.heap.size w W→W.cell? ⟨b,o,none⟩=some (.int .i64 p)):=Lib.hid fun W hW=>(hW.cell (p:=⟨b,o,none⟩) h.lens.lt).trans cp
 obtain ⟨c0,c1,c2,c3,c4,c5,c6⟩:w.cell? ⟨g,p*7,none⟩=some (.int .i64 x.op)∧w.cell? ⟨g,p*7+1,none⟩=some (.int .i64 x.a)∧w.cell? ⟨g,p*7+2,none⟩=some (.int .i64 x.b)∧w.cell? ⟨g,p*7+3,none⟩=some (.int .i64 x.c)∧w.cell? ⟨g,p*7+4,none⟩=some (.int .u64 x.v)∧w.cell? ⟨g,p*7+5,none⟩=some (.int .i64 x.m)∧w.cell? ⟨g,p*7+6,none⟩=some (.int .i64 x.w):=hc.cells hpl hxl
 have HG:=Lib.hid hg
 have HBl:=Lib.hid h.lens.lt
 have H:=Lib.hid h
 obtain ⟨xo,xa,xb,xc,xv,xm,xw⟩:=x
 simp only at ho c0 c1 c2 c3 c4 c5 c6
 unfold insV at HMay
 clear h hc hg hmay hlv hn hx hmx hvx hpc1 hxl hxm hpl
 generalize l.length=L at*
 clear hl
 have e1:(xo==1)=false:=beq_eq_false_iff_ne.2 (by omega)
 have e2:(xo==2)=false:=beq_eq_false_iff_ne.2 (by omega)
 have e3:(xo==3)=false:=beq_eq_false_iff_ne.2 (by omega)
 have e4:(xo==4)=false:=beq_eq_false_iff_ne.2 (by omega)
 have e5:(xo==5)=false:=beq_eq_false_iff_ne.2 (by omega)
 have e6:(xo==6)=false:=beq_eq_false_iff_ne.2 (by omega)
 have e7:(xo==7)=false:=beq_eq_false_iff_ne.2 (by omega)
 have e8:(xo==8)=false:=beq_eq_false_iff_ne.2 (by omega)
 have e9:(xo==9)=false:=beq_eq_false_iff_ne.2 (by omega)
 have e10:(xo==10)=false:=beq_eq_false_iff_ne.2 (by omega)
 have e11:(xo==11)=false:=beq_eq_false_iff_ne.2 (by omega)
 have e12:(xo==12)=false:=beq_eq_false_iff_ne.2 (by omega)
 have e13:(xo==13)=false:=beq_eq_false_iff_ne.2 (by omega)
 have e14:(xo==14)=false:=beq_eq_false_iff_ne.2 (by omega)
 have e15:(xo==15)=false:=beq_eq_false_iff_ne.2 (by omega)
 have e16:(xo==16)=false:=beq_eq_false_iff_ne.2 (by omega)
 have e17:(xo==17)=false:=beq_eq_false_iff_ne.2 (by omega)
 have e18:(xo==18)=false:=beq_eq_false_iff_ne.2 (by omega)
 have e19:(xo==19)=false:=beq_eq_false_iff_ne.2 (by omega)
 have e20:(xo==20)=false:=beq_eq_false_iff_ne.2 (by omega)
 have e21:(xo==21)=false:=beq_eq_false_iff_ne.2 (by omega)
 clear ho
 go_enter Tryz.func198,Tryz.ntmps198
 go_wp2_with fail
 refine (HMay.out _).mono ?_
 rintro e w1 ⟨rfl,hb1⟩
 replace hb1:Below w.heap.size w w1:=by first|exact hb1|exact (below_dn (Below.refl _ _) _).trans hb1
 have cp1:=HCp.out w1 hb1
 have d0:=(hb1.cell (p:=⟨g,p*7,none⟩) HG.out).trans c0
 have d1:=(hb1.cell (p:=⟨g,p*7+1,none⟩) HG.out).trans c1
 have d2:=(hb1.cell (p:=⟨g,p*7+2,none⟩) HG.out).trans c2
 have d3:=(hb1.cell (p:=⟨g,p*7+3,none⟩) HG.out).trans c3
 have d4:=(hb1.cell (p:=⟨g,p*7+4,none⟩) HG.out).trans c4
 have d5:=(hb1.cell (p:=⟨g,p*7+5,none⟩) HG.out).trans c5
 have d6:=(hb1.cell (p:=⟨g,p*7+6,none⟩) HG.out).trans c6
 have HB1:=Lib.hid hb1
 clear hb1
 go_wp2_with fail
 go_ret2
 exact ⟨rfl,(FrOut.refl H.out (Nat.le_succ n)).below (below_al HB1.out _)⟩
end
end Go.Proofs.YtaangaogmnlljaaGreatDoor.Kn
namespace Go.Proofs.YtaangaogmnlljaaGreatDoor.Kn
open Go.RowKit Asm
set_option maxRecDepth 100000 in
theorem cchecked_ok {w:World} {g n c:Nat} {l:List InsL} {lib:Bool} (h:CodeAt w g l) (hg:g<w.heap.size) (hn:n=l.length) (hl:l.length≤2048) (hmay: ∀x∈l,mayK x l.length lib=true):
  Calls Tryz.prog 159 #[.slice (some ⟨g,0,none⟩) n c, .bool lib] w fun e w'=>e= .returned .nilIface∧Below w.heap.size w w':=by
 have B1:Below w.heap.size w (w.alloc (.cells #[.pointer none] 92)):=(Below.refl _ _).alloc (Nat.le_refl _) _
 have HC:=Lib.hid (ccheck_ok (c:=c) (h.below hg B1) (Nat.lt_of_lt_of_le hg B1.size) hn hl hmay)
 have HB1:=Lib.hid B1
 clear h hn hl hmay B1
 go_enter Tryz.func159,Tryz.ntmps159
 go_wp2_with fail
 refine HC.out.mono ?_
 rintro e w1 ⟨rfl,hb⟩
 have HB:=Lib.hid (HB1.out.trans (hb.mono (by simp)))
 clear hb
 go_wp2_with fail
 refine (Errs.as_nil _ _).mono ?_
 rintro e w2 ⟨rfl,rfl⟩
 go_wp2_with fail
 go_ret
 exact ⟨rfl,HB.out⟩
theorem cplace_ok (p n:Int) (w:World) (hp:0≤p∧p<n):Calls Tryz.prog 160 #[.int .i64 p, .int .i64 n] w fun e w'=>e= .returned .nilIface∧Below w.heap.size w w':=by
 go_enter Tryz.func160,Tryz.ntmps160
 go_wp2_with fail
 go_ret
 exact ⟨rfl,Below.refl _ _⟩
set_option maxRecDepth 100000 in
set_option maxHeartbeats 1000000 in
theorem cclient_ok {w:World} {g n c:Nat} {l:List InsL} {entry wide narrow:Int} (h:CodeAt w g l) (hg:g<w.heap.size) (hn:n=l.length) (h0:0<l.length) (hl:l.length≤2048) (hmay: ∀x∈l,mayK x l.length false=true) (he:0≤entry∧entry<l.length) (hw:0≤wide∧0≤narrow∧wide+narrow≤256):
  Calls Tryz.prog 77 #[.agg #[.slice (some ⟨g,0,none⟩) n c, .int .i64 entry, .int .i64 wide, .int .i64 narrow]] w fun e w'=>e= .returned .nilIface∧Below w.heap.size w w':=by
 have B1:Below w.heap.size w (w.alloc (.cells #[.slice (some ⟨g,0,none⟩) n c, .int .i64 entry, .int .i64 wide, .int .i64 narrow] 26)):=(Below.refl _ _).alloc (Nat.le_refl _) _
 have HC:=Lib.hid (cchecked_ok (c:=c) (h.below hg B1) (Nat.lt_of_lt_of_le hg B1.size) hn hl hmay)
 have hz:=heap_alloc_new w (.cells #[.slice (some ⟨g,0,none⟩) n c, .int .i64 entry, .int .i64 wide, .int .i64 narrow] 26)
 have HZ:=Lib.hid hz
 have HB1:=Lib.hid B1
 have hnI:(0:Int)<(n:Int)∧(n:Int)≤2048:=by omega
 have hsub:IntKind.i64.wrap (256 - wide)=256 - wide:=by rw[IntKind.wrap_i64];omega
 have heI:0≤entry∧entry<(n:Int):=by omega
 have HP:=Lib.hid (fun W=>cplace_ok entry (n:Int) W heI)
 clear h hn hl hmay B1 hz
 have hbw:(256:Int) - wide<1000:=by omega
 have f1:decide (wide<0)=false:=decide_eq_false (by omega)
 have f2:decide (narrow<0)=false:=decide_eq_false (by omega)
 have f3:decide (wide>256)=false:=decide_eq_false (by omega)
 have f4:decide (narrow>256 - wide)=false:=decide_eq_false (by omega)
 have f5:((n:Int)==0)=false:=beq_eq_false_iff_ne.2 (by omega)
 have g1: ¬wide<0:=by omega
 have g2: ¬narrow<0:=by omega
 have g3: ¬256<wide:=by omega
 have g4: ¬256 - wide<narrow:=by omega
 have g5: ¬(n:Int)=0:=by omega
 clear hw hbw hnI heI he
 go_enter Tryz.func77,Tryz.ntmps77
 go_wp2_with fail
 refine HC.out.mono ?_
 rintro e w1 ⟨rfl,hb⟩
 have bz:=(hb.block w.heap.size (by simp)).trans HZ.out
 have z0:=blk_cell bz 0
 have z1:=blk_cell bz 1
 have HB:=Lib.hid (HB1.out.trans (hb.mono (by simp)))
 clear hb bz
 go_wp2_with fail
 refine (HP.out _).mono ?_
 rintro e w2 ⟨rfl,hb2⟩
 have HB2:=Lib.hid (HB.out.trans (hb2.mono HB.out.size))
 clear hb2
 go_wp2_with fail
 go_ret
 exact ⟨rfl,HB2.out⟩
end Go.Proofs.YtaangaogmnlljaaGreatDoor.Kn
