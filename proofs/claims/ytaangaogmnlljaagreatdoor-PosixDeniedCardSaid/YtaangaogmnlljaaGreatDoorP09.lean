/- Part 9 of what the proof stands on: KnTabE, KnObj, KnMemOps, KnMemNew, KnZero, KnNews, KnCode, AsmPl, KnRAll. -/
import Derived.Laws.MakeOwn
import Derived.Deep.LoopGhost
import Derived.Deep.RegionWith
import Derived.Maps.AppendAt
import Derived.WalkKit
import Derived.LoopIn
import Derived.LoopNIn
import Derived.OwnWalkIn
import Derived.RangeFuncBound
import Derived.RangeFuncCalls
import Derived.RangeFuncFrom
import Derived.RangeFuncLeaves
import Derived.RangeFuncNested
import Derived.Shelf.Abstract
import Derived.Shelf.RegionOpen
import Derived.TacticsInMore
import Derived.Test.YtaangaogmnlljaaGreatDoorP01
import Derived.Test.YtaangaogmnlljaaGreatDoorP02
import Derived.Test.YtaangaogmnlljaaGreatDoorP04
import Derived.Test.YtaangaogmnlljaaGreatDoorP07
import Derived.Test.YtaangaogmnlljaaGreatDoorP08
set_option linter.unusedVariables false
namespace Go.Proofs.YtaangaogmnlljaaGreatDoor.Kn
open Go.RowKit Asm
theorem free_at {l:List TRow} {i:Nat} (hi:i<l.length) (hb: ∀j,j<i→(tAt l j).t.id≠0) (h:(tAt l i).t.id=0):freeT l=some i:=by
 induction l generalizing i with
 |nil=>simp at hi
 |cons r l ih=>
  unfold freeT
  cases i with
  |zero=>rw[if_pos (show r.t.id=0 from h)]
  |succ i=>
   rw[if_neg (show¬r.t.id=0 from hb 0 (by omega)),ih (by simpa using hi) (fun j hj=>hb (j+1) (by omega)) h]
   rfl
theorem free_no {l:List TRow} (hb: ∀j,j<l.length→(tAt l j).t.id≠0):freeT l=none:=by
 induction l with
 |nil=>rfl
 |cons r l ih=>
  unfold freeT
  rw[if_neg (show¬r.t.id=0 from hb 0 (by simp)),ih fun j hj=>hb (j+1) (by simpa using hj)]
  rfl
theorem TabOk.more {l:List TRow} {N:Nat} (h:TabOk l N) (hN:N+1≤1000000000):TabOk l (N+1):=
 ⟨h.len,hN,fun p hp=>by have k:=h.row p hp;exact ⟨by have:=k.times;omega,k.id,k.free,k.state,k.home,k.value,k.joiner⟩⟩
def BornOut (w:World) (T gt:Nat) (l:List TRow) (N:Nat) (r:Option (Int×List TRow)) (e:Ending) (w':World):Prop:=match r with
 |none=>(∃ev,e= .returned (.tuple #[.int .u64 0,ev])∧Som ev)∧TabP w' T gt l N∧Keeps (fun b=>b=gt) w w'
 |some (id,l')=>e= .returned (.tuple #[.int .u64 id, .nilIface])∧TabP w' T gt l' (N+1)∧Keeps (fun b=>b=gt) w w'
set_option maxRecDepth 100000 in
set_option maxHeartbeats 2000000 in
theorem born_any {w:World} {T gt:Nat} {l:List TRow} {N:Nat} (h:TabP w T gt l N) (home:Int) (hh:U64 home) (hN:N+1≤1000000000):
  Calls Tryz.prog 171 #[.pointer (some ⟨T,0,none⟩), .int .u64 home] w (BornOut w T gt l N (bornT l home)):=by
 have HF:=Lib.hid (fun k W=>tabfail_any k W)
 have H:=Lib.hid h
 have HH:=Lib.hid hh
 have HN:=Lib.hid hN
 have c0:=h.at0
 clear h hh hN
 go_enter Tryz.func171,Tryz.ntmps171
 go_wp2_with fail
 go_loopw [13] (fun iv wr=> ∃i:Nat,i≤64∧iv= .int .i64 (i:Int)∧wr=w∧Hid (∀j,j<i→(tAt l j).t.id≠0)) (fun iv _=>64 - (intOf iv).toNat)
 case atStart=>exact ⟨0,by omega,rfl,rfl,Lib.hid fun j hj=>absurd hj (by omega)⟩
 case round=>
  obtain ⟨i,hi,rfl,rfl,HB⟩:=hrel
  by_cases hlt:i<64
  ·have hltI:(i:Int)<64:=by omega
   have hc:=fun j hj=>H.out.cell hlt j hj
   have hk:=H.out.ok.row i hlt
   obtain ⟨hm,hl⟩:=H.out.mid hlt
   have hf:=fun o=>H.out.frozen o
   generalize hr:tAt l i=r at hc hk hm
   obtain ⟨ti,re,id,st,ho,va,jo,lo,sp⟩:=r
   by_cases hz:id=0
   ·subst hz
    obtain ⟨hz1,hz2⟩:=hk.free rfl
    injection hz1 with _ hz3 hz4 hz5 hz6 hz7 hz8
    simp only at hz2
    subst hz2 hz3 hz4 hz5 hz6 hz7 hz8
    have x0:wr.cell? ⟨gt,i*10,none⟩=some (.int .u64 ti):=hc 0 (by omega)
    have x1:wr.cell? ⟨gt,i*10+1,none⟩=some (.bool false):=hc 1 (by omega)
    have x3:wr.cell? ⟨gt,i*10+3,none⟩=some (.int .u64 0):=hc 3 (by omega)
    have x4:wr.cell? ⟨gt,i*10+4,none⟩=some (.int .i64 0):=hc 4 (by omega)
    have x5:wr.cell? ⟨gt,i*10+5,none⟩=some (.int .u64 0):=hc 5 (by omega)
    have x6:wr.cell? ⟨gt,i*10+6,none⟩=some (.int .u64 0):=hc 6 (by omega)
    have x7:wr.cell? ⟨gt,i*10+7,none⟩=some (.int .u64 0):=hc 7 (by omega)
    have x8:wr.cell? ⟨gt,i*10+8,none⟩=some (.bool false):=hc 8 (by omega)
    have x9:wr.cell? ⟨gt,i*10+9,none⟩=some (.bool false):=hc 9 (by omega)
    have f0:=hf (i*10)
    have f1:=hf (i*10+1)
    have f3:=hf (i*10+3)
    have f4:=hf (i*10+4)
    have f5:=hf (i*10+5)
    have f6:=hf (i*10+6)
    have f7:=hf (i*10+7)
    have f8:=hf (i*10+8)
    have f9:=hf (i*10+9)
    have ht:=hk.times
    simp only at ht
    have ht2:ti≤1000000000:=by have:=HN.out;omega
    have ht1:=ht.1
    have m0:=mid_set hm 0 (by simp[tr10]) (show i*10=_ by rw[hl];rfl) (.int .u64 (ti+1))
    have m1:=mid_set m0 1 (by simp[tr10]) (show i*10+1=_ by rw[hl]) (.bool true)
    have m3:=mid_set m1 3 (by simp[tr10]) (show i*10+3=_ by rw[hl]) (.int .u64 ((i:Int)+64* (ti+1)))
    have m4:=mid_set m3 4 (by simp[tr10]) (show i*10+4=_ by rw[hl]) (.int .i64 1)
    have m5:=mid_set m4 5 (by simp[tr10]) (show i*10+5=_ by rw[hl]) (.int .u64 home)
    have m6:=mid_set m5 6 (by simp[tr10]) (show i*10+6=_ by rw[hl]) (.int .u64 0)
    have m7:=mid_set m6 7 (by simp[tr10]) (show i*10+7=_ by rw[hl]) (.int .u64 0)
    have m8:=mid_set m7 8 (by simp[tr10]) (show i*10+8=_ by rw[hl]) (.bool false)
    have m9:=mid_set m8 9 (by simp[tr10]) (show i*10+9=_ by rw[hl]) (.bool false)
    have HM:=Lib.hid m9
    have hne:((i:Int)+64* (ti+1))≠0:=by omega
    have e0:bornT l home=some ((i:Int)+64* (ti+1),l.set i ⟨ti+1,false,⟨(i:Int)+64* (ti+1),1,home,0,0,false,false⟩⟩):=by
     unfold bornT
     rw[free_at (by rw[H.out.ok.len];exact hlt) HB.out (by rw[hr])]
     have:l.getD i {}=⟨ti,false,⟨0,0,0,0,0,false,false⟩⟩:=hr
     simp only[this]
     rw[Int.emod_eq_of_lt (by omega) (by omega)]
    have HE:=Lib.hid e0
    have HK:Hid (TRowOk ⟨ti+1,false,⟨(i:Int)+64* (ti+1),1,home,0,0,false,false⟩⟩ i (N+1)):=Lib.hid ⟨by show 0≤ti+1∧ti+1≤((N+1:Nat):Int);omega,fun _=>⟨rfl,by show 1≤ti+1;omega⟩,fun e=>absurd e hne,show (0:Int)≤1∧(1:Int)≤4 by decide,HH.out,u64_0,u64_0⟩
    have HY:Hid ((.bool true:Value)= .bool (((i:Int)+64* (ti+1)) !=0)):=Lib.hid (by simp;omega)
    clear m0 m1 m3 m4 m5 m6 m7 m8 m9 hm hl hk hc hf hr e0 ht hne
    go_wp2_with fail
    go_ret2
    rw[HE.out]
    refine ⟨rfl,TabP.put ⟨H.out.ok.more HN.out,H.out.obj,H.out.row⟩ hlt _ HK.out ?_ ?_,?_⟩
    ·have e: ∀(W:World) o v,(W.setCell ⟨gt,o,none⟩ v).heap[T]?=W.heap[T]?:=fun W o v=>set_other H.out.ne
     rw[e,e,e,e,e,e,e,e,e]
    ·have hy:tr10 ⟨ti+1,false,⟨(i:Int)+64* (ti+1),1,home,0,0,false,false⟩⟩= [.int .u64 (ti+1), .bool true, .bool false, .int .u64 ((i:Int)+64* (ti+1)), .int .i64 1, .int .u64 home, .int .u64 0, .int .u64 0, .bool false, .bool false]:=by
      unfold tr10
      rw[←HY.out]
     rw[hy]
     exact HM.out
    ·iterate 9 (refine Keeps.setCell (X:=fun b=>b=gt) (p:=⟨gt,_,none⟩) ?_ rfl _)
     exact Keeps.refl _ _
   ·have x1:wr.cell? ⟨gt,i*10+1,none⟩=some (.bool true):=by
     rw[hc 1 (by omega)];simp[tr10,hz]
    have HB2:Hid (∀j,j<i+1→(tAt l j).t.id≠0):=Lib.hid fun j hj=>by
     rcases Nat.lt_succ_iff_lt_or_eq.1 hj with h1|h1
     ·exact HB.out j h1
     ·rw[h1,hr];exact hz
    clear hm hl hk hc hf hr hz
    go_wp2_with fail
    go_roundw
    case rel=>exact ⟨i+1,by omega,by go_num,trivial,HB2⟩
    case measure=>simp[intOf];omega
  ·obtain rfl:i=64:=by omega
   have e0:bornT l home=none:=by
    unfold bornT
    rw[free_no fun j hj=>HB.out j (by rw[←H.out.ok.len];exact hj)]
   have HE:=Lib.hid e0
   clear e0
   go_wp2_with fail
   refine (HF.out _ _).mono ?_
   rintro e w2 ⟨⟨ev,rfl,hev⟩,hb⟩
   go_wp2
   go_ret2
   rw[HE.out]
   exact ⟨⟨_,rfl,hev⟩,H.out.below hb,Keeps.ofBelow hb⟩
end Go.Proofs.YtaangaogmnlljaaGreatDoor.Kn
namespace Go.Proofs.YtaangaogmnlljaaGreatDoor.Kn
open Go.RowKit Asm
def or4 (r:ORow):List Value:= [.int .u64 r.times, .int .u64 r.handle, .int .i64 r.kind, .int .u64 r.addr]
def objC (l:List ORow):List Value:=l.flatMap or4
def oAt (l:List ORow) (p:Nat):ORow:=l.getD p {}
structure ORowOk (r:ORow) (p N:Nat):Prop where
 times:0≤r.times∧r.times≤N
 handle:r.handle≠0→r.handle=p+1+64* (r.times - 1)∧1≤r.times
 free:r.handle=0→r.kind=0∧r.addr=0
 kind:0≤r.kind∧r.kind≤6
 addr:U64 r.addr
structure ObjOk (l:List ORow) (N:Nat):Prop where
 len:l.length=64
 most:N≤1000000000
 row: ∀p,p<64→ORowOk (oAt l p) p N
theorem oAt_get {l:List ORow} {p:Nat} (h:p<l.length):oAt l p=l[p]:=by
 unfold oAt;rw[List.getD_eq_getElem?_getD,List.getElem?_eq_getElem h];rfl
theorem oAt_set {l:List ORow} {p q:Nat} (h:p<l.length) (r:ORow):oAt (l.set p r) q=if q=p then r else oAt l q:=by
 unfold oAt
 rw[List.getD_eq_getElem?_getD,List.getD_eq_getElem?_getD,List.getElem?_set]
 by_cases e:p=q
 ·subst e;rw[if_pos rfl,if_pos rfl,if_pos h];rfl
 ·rw[if_neg e,if_neg (Ne.symm e)]
theorem ObjOk.set {l:List ORow} {N p:Nat} (h:ObjOk l N) (hp:p<64) {r:ORow} (hr:ORowOk r p N):ObjOk (l.set p r) N:=
 ⟨by rw[List.length_set];exact h.len,h.most,fun q hq=>by
  rw[oAt_set (by rw[h.len];exact hp)]
  split
  ·rename_i e;subst e;exact hr
  ·exact h.row q hq⟩
theorem ObjOk.more {l:List ORow} {N:Nat} (h:ObjOk l N) (hN:N+1≤1000000000):ObjOk l (N+1):=
 ⟨h.len,hN,fun p hp=>by have k:=h.row p hp;exact ⟨by have:=k.times;omega,k.handle,k.free,k.kind,k.addr⟩⟩
theorem ofO_some {l:List ORow} {N:Nat} (h:ObjOk l N) {id:Int} {p:Nat} {r:ORow} (e:ofO l id=some (p,r)):id≠0∧(id - 1)%64=(p:Int)∧p<64∧r=oAt l p∧r.handle=id:=by
 unfold ofO at e
 by_cases h0:id=0
 ·rw[if_pos h0] at e;cases e
 ·rw[if_neg h0] at e
  have hlt:((id - 1)%64).toNat<l.length:=by rw[h.len];omega
  rw[List.getElem?_eq_getElem hlt] at e
  simp only at e
  split at e
  ·rename_i he
   injection e with e
   injection e with e1 e2
   subst e1
   refine ⟨h0,by omega,by omega,?_,by rw[←e2];exact he⟩
   rw[oAt_get hlt,e2]
  ·cases e
theorem ofO_none {l:List ORow} {N:Nat} (h:ObjOk l N) {id:Int} (h0:id≠0) (e:ofO l id=none): ∃p:Nat,(id - 1)%64=(p:Int)∧p<64∧(oAt l p).handle≠id:=by
 refine ⟨((id - 1)%64).toNat,by omega,by omega,?_⟩
 have hlt:((id - 1)%64).toNat<l.length:=by rw[h.len];omega
 unfold ofO at e
 rw[if_neg h0,List.getElem?_eq_getElem hlt] at e
 simp only at e
 split at e
 ·cases e
 ·rename_i he
  rw[oAt_get hlt];exact he
structure ObjP (w:World) (O go:Nat) (l:List ORow) (N:Nat):Prop where
 ok:ObjOk l N
 obj:w.heap[O]?=some (.cells #[.slice (some ⟨go,0,none⟩) 64 64] 302 (0,0))
 row:w.heap[go]?=some (.cells (objC l).toArray 304 (0,0))
section
variable {w w':World} {O go:Nat} {l:List ORow} {N:Nat}
theorem ObjP.of_blocks (h:ObjP w O go l N) (e: ∀b,b=O∨b=go→w'.heap[b]?=w.heap[b]?):ObjP w' O go l N:=
 ⟨h.ok,(e O (Or.inl rfl)).trans h.obj,(e go (Or.inr rfl)).trans h.row⟩
theorem ObjP.lt (h:ObjP w O go l N):O<w.heap.size∧go<w.heap.size:=⟨blk_in h.obj,blk_in h.row⟩
theorem ObjP.below (h:ObjP w O go l N) (hb:Below w.heap.size w w'):ObjP w' O go l N:=
 h.of_blocks fun b hb'=>hb.block b (by obtain ⟨l1,l2⟩:=h.lt;rcases hb' with rfl|rfl<;>assumption)
theorem ObjP.ne (h:ObjP w O go l N):O≠go:=blk_ne h.obj h.row (by decide)
theorem ObjP.at0 (h:ObjP w O go l N):w.cell? ⟨O,0,none⟩=some (.slice (some ⟨go,0,none⟩) 64 64):=by rw[blk_cell h.obj];rfl
theorem ObjP.cell (h:ObjP w O go l N) {p:Nat} (hp:p<64) (j:Nat) (hj:j<4):w.cell? ⟨go,p*4+j,none⟩=(or4 (oAt l p))[j]?:=by
 have hlt:p<l.length:=by rw[h.ok.len];exact hp
 rw[blk_cell h.row,oAt_get hlt]
 have:=flL_at (k:=4) (f:=or4) (fun _=>rfl) l p hlt j hj
 simpa[objC] using this
theorem ObjP.frozen (h:ObjP w O go l N) (o:Nat):w.frozen? ⟨go,o,none⟩=false:=blk_frozen h.row o
theorem ObjP.mid (h:ObjP w O go l N) {p:Nat} (hp:p<64):
  w.heap[go]?=some (.cells ((l.take p).flatMap or4++or4 (oAt l p)++(l.drop (p+1)).flatMap or4).toArray 304 (0,0))∧((l.take p).flatMap or4).length=p*4:=by
 have hlt:p<l.length:=by rw[h.ok.len];exact hp
 refine ⟨?_,by rw[flL_len (k:=4) (fun _=>rfl),List.length_take,Nat.min_eq_left (by omega)]⟩
 rw[oAt_get hlt,←flL_mid l p hlt]
 exact h.row
theorem ObjP.put (h:ObjP w O go l N) {p:Nat} (hp:p<64) (r:ORow) (hr:ORowOk r p N) (hO:w'.heap[O]?=w.heap[O]?)
  (hm:w'.heap[go]?=some (.cells ((l.take p).flatMap or4++or4 r++(l.drop (p+1)).flatMap or4).toArray 304 (0,0))):ObjP w' O go (l.set p r) N:=by
 have hlt:p<l.length:=by rw[h.ok.len];exact hp
 refine ⟨h.ok.set hp hr,hO.trans h.obj,?_⟩
 rw[hm,flL_put l p hlt]
 rfl
end
theorem objfail_any (k:Int) (w:World):Calls Tryz.prog 164 #[.iface 86 (.int .i64 k)] w fun e w'=>(∃v,e= .returned v∧Som v)∧Below w.heap.size w w':=by
 go_enter Tryz.func164,Tryz.ntmps164
 go_wp2
 go_ret
 exact ⟨⟨_,rfl,_,_,rfl⟩,(Below.refl _ _).alloc (Nat.le_refl _) _⟩
set_option maxRecDepth 100000 in
set_option maxHeartbeats 1000000 in
theorem oof_some {w:World} {O go:Nat} {l:List ORow} {N:Nat} (h:ObjP w O go l N) (id:Int) (hid:U64 id) {p:Nat} {r:ORow} (hof:ofO l id=some (p,r)):
  Calls Tryz.prog 309 #[.pointer (some ⟨O,0,none⟩), .int .u64 id] w fun e w'=>e= .returned (.pointer (some ⟨go,p*4,none⟩))∧ ∃q,w'=w.drewN q:=by
 obtain ⟨h0,hp,hp64,rfl,hri⟩:=ofO_some h.ok hof
 have c0:=h.at0
 have x1:w.cell? ⟨go,p*4+1,none⟩=some (.int .u64 id):=by
  have:=h.cell hp64 1 (by omega)
  rw[this];simp[or4,hri]
 have hpI:(p:Int)<64:=by omega
 have hi1:1≤id:=by have:=hid.1;omega
 have hi2:=hid.2
 have h0b:(id==0)=false:=by simp[h0]
 clear h hof hri hid hp64 h0
 go_enter Tryz.func309,Tryz.ntmps309
 go_wp2_with fail
 all_goals
  go_ret
  exact ⟨rfl,0,rfl⟩
set_option maxRecDepth 100000 in
set_option maxHeartbeats 1000000 in
theorem oof_none {w:World} {O go:Nat} {l:List ORow} {N:Nat} (h:ObjP w O go l N) (id:Int) (hid:U64 id) (hof:ofO l id=none):
  Calls Tryz.prog 309 #[.pointer (some ⟨O,0,none⟩), .int .u64 id] w fun e w'=>e= .returned (.pointer none)∧ ∃q,w'=w.drewN q:=by
 by_cases h0:id=0
 ·subst h0
  clear h hof hid
  go_enter Tryz.func309,Tryz.ntmps309
  go_wp2_with fail
  all_goals
   go_ret
   exact ⟨rfl,0,rfl⟩
 ·obtain ⟨p,hp,hp64,hno⟩:=ofO_none h.ok h0 hof
  have c0:=h.at0
  have hpI:(p:Int)<64:=by omega
  have hi1:1≤id:=by have:=hid.1;omega
  have hi2:=hid.2
  have h0b:(id==0)=false:=by simp[h0]
  have x1:w.cell? ⟨go,p*4+1,none⟩=some (.int .u64 (oAt l p).handle):=by
   rw[h.cell hp64 1 (by omega)];simp[or4]
  have hb:((oAt l p).handle !=id)=true:=bne_iff_ne.2 hno
  generalize (oAt l p).handle=i at*
  clear h hof hid hp64 hno h0
  go_enter Tryz.func309,Tryz.ntmps309
  go_wp2_with fail
  all_goals
   go_ret
   exact ⟨rfl,0,rfl⟩
def FindOut (w:World) (r:Option Int) (e:Ending) (w':World):Prop:=match r with
 |some a=>e= .returned (.tuple #[.int .u64 a, .nilIface])∧Below w.heap.size w w'
 |none=>(∃ev,e= .returned (.tuple #[.int .u64 0,ev])∧Som ev)∧Below w.heap.size w w'
theorem below_of_drew {w w':World} {q:Nat} (hb:Below (w.drewN q).heap.size (w.drewN q) w'):Below w.heap.size w w':=⟨hb.os,hb.tape,hb.output,hb.size,hb.block⟩
set_option maxRecDepth 100000 in
set_option maxHeartbeats 1000000 in
theorem ofind_any {w:World} {O go:Nat} {l:List ORow} {N:Nat} (h:ObjP w O go l N) (id k:Int) (hid:U64 id):
  Calls Tryz.prog 256 #[.pointer (some ⟨O,0,none⟩), .int .u64 id, .int .i64 k] w (FindOut w (findO l id k)):=by
 have HF:=Lib.hid (fun k W=>objfail_any k W)
 cases hof:ofO l id with
 |none=>
  have HO:=Lib.hid (oof_none h id hid hof)
  have e0:findO l id k=none:=by unfold findO;rw[hof]
  rw[e0]
  clear hof h e0 hid
  go_enter Tryz.func256,Tryz.ntmps256
  go_wp2_with fail
  refine HO.out.mono ?_
  rintro e w1 ⟨rfl,q,rfl⟩
  go_wp2_with fail
  refine (HF.out _ _).mono ?_
  rintro e w2 ⟨⟨ev,rfl,hev⟩,hb⟩
  go_wp2
  go_ret2
  exact ⟨⟨_,rfl,hev⟩,below_of_drew hb⟩
 |some pr=>
  obtain ⟨p,r⟩:=pr
  obtain ⟨h0,hp,hp64,hr,hri⟩:=ofO_some h.ok hof
  have HO:=Lib.hid (oof_some h id hid hof)
  have x2:w.cell? ⟨go,p*4+2,none⟩=some (.int .i64 r.kind):=by rw[h.cell hp64 2 (by omega),←hr];rfl
  have x3:w.cell? ⟨go,p*4+3,none⟩=some (.int .u64 r.addr):=by rw[h.cell hp64 3 (by omega),←hr];rfl
  by_cases hk:r.kind=k
  ·have e0:findO l id k=some r.addr:=by unfold findO;rw[hof];exact if_pos hk
   rw[e0,]
   have hb:(r.kind !=k)=false:=by simp[hk]
   generalize r.addr=ad at*
   generalize r.kind=kd at*
   clear hof h e0 hid hr hri hk h0 hp
   go_enter Tryz.func256,Tryz.ntmps256
   go_wp2_with fail
   refine HO.out.mono ?_
   rintro e w1 ⟨rfl,q,rfl⟩
   go_wp2_with fail
   go_ret2
   exact ⟨rfl,bdrewN w q⟩
  ·have e0:findO l id k=none:=by unfold findO;rw[hof];exact if_neg hk
   rw[e0]
   have hb:(r.kind !=k)=true:=by simp[hk]
   generalize r.addr=ad at*
   generalize r.kind=kd at*
   clear hof h e0 hid hr hri hk h0 hp
   go_enter Tryz.func256,Tryz.ntmps256
   go_wp2_with fail
   refine HO.out.mono ?_
   rintro e w1 ⟨rfl,q,rfl⟩
   go_wp2_with fail
   refine (HF.out _ _).mono ?_
   rintro e w2 ⟨⟨ev,rfl,hev⟩,hb⟩
   go_wp2
   go_ret2
   exact ⟨⟨_,rfl,hev⟩,below_of_drew hb⟩
theorem ObjP.more {w w':World} {O go:Nat} {l:List ORow} {N:Nat} (h:ObjP w O go l N) (hN:N+1≤1000000000):ObjP w O go l (N+1):=⟨h.ok.more hN,h.obj,h.row⟩
end Go.Proofs.YtaangaogmnlljaaGreatDoor.Kn
namespace Go.Proofs.YtaangaogmnlljaaGreatDoor.Kn
open Go.RowKit Asm
theorem access_any {w:World} {X gc gw:Nat} {m:Mem} (h:MemP w X gc gw m) (kind a old v:Int) (hk:kind=0∨kind=1∨kind=2∨kind=3∨kind=4) (ha:0≤a∧a<18446744073709551616) (ho:0≤old∧old<18446744073709551616) (hv:0≤v∧v<18446744073709551616):
  Calls Tryz.prog 212 #[.pointer (some ⟨X,0,none⟩), .int .i64 kind, .int .u64 a, .int .u64 old, .int .u64 v] w (AccOut w X gc gw (m.acc kind a old v)):=by
 by_cases h0:m.width a=0
 ·rw[show m.acc kind a old v=none by unfold Mem.acc;rw[if_pos h0]]
  exact access_none h kind a old v ha h0
 ·exact access_some h kind a old v hk ha ho hv h0
theorem mload_any {w:World} {X gc gw:Nat} {m:Mem} (h:MemP w X gc gw m) (a:Int) (ha:0≤a∧a<18446744073709551616):
  Calls Tryz.prog 141 #[.pointer (some ⟨X,0,none⟩), .int .u64 a] w (AccOut w X gc gw (m.acc 0 a 0 0)):=by
 have H:=Lib.hid (access_any h 0 a 0 0 (Or.inl rfl) ha (by decide) (by decide))
 clear h
 generalize m.acc 0 a 0 0=r at H ⊢
 cases r with
 |none=>
  go_enter Tryz.func141,Tryz.ntmps141
  go_wp2_with fail
  refine H.out.mono ?_
  rintro e w1 ⟨⟨ev,rfl,hev⟩,hb⟩
  go_wp2_with fail
  go_ret2
  exact ⟨⟨_,rfl,hev⟩,hb⟩
 |some p=>
  obtain ⟨was,m'⟩:=p
  go_enter Tryz.func141,Tryz.ntmps141
  go_wp2_with fail
  refine H.out.mono ?_
  rintro e w1 ⟨rfl,hb⟩
  go_wp2_with fail
  go_ret2
  exact ⟨rfl,hb⟩
theorem mswap_any {w:World} {X gc gw:Nat} {m:Mem} (h:MemP w X gc gw m) (a v:Int) (ha:0≤a∧a<18446744073709551616) (hv:0≤v∧v<18446744073709551616):
  Calls Tryz.prog 405 #[.pointer (some ⟨X,0,none⟩), .int .u64 a, .int .u64 v] w (AccOut w X gc gw (m.acc 2 a 0 v)):=by
 have H:=Lib.hid (access_any h 2 a 0 v (Or.inr (Or.inr (Or.inl rfl))) ha (by decide) hv)
 clear h
 generalize m.acc 2 a 0 v=r at H ⊢
 cases r with
 |none=>
  go_enter Tryz.func405,Tryz.ntmps405
  go_wp2_with fail
  refine H.out.mono ?_
  rintro e w1 ⟨⟨ev,rfl,hev⟩,hb⟩
  go_wp2_with fail
  go_ret2
  exact ⟨⟨_,rfl,hev⟩,hb⟩
 |some p=>
  obtain ⟨was,m'⟩:=p
  go_enter Tryz.func405,Tryz.ntmps405
  go_wp2_with fail
  refine H.out.mono ?_
  rintro e w1 ⟨rfl,hb⟩
  go_wp2_with fail
  go_ret2
  exact ⟨rfl,hb⟩
theorem madd_any {w:World} {X gc gw:Nat} {m:Mem} (h:MemP w X gc gw m) (a v:Int) (ha:0≤a∧a<18446744073709551616) (hv:0≤v∧v<18446744073709551616):
  Calls Tryz.prog 192 #[.pointer (some ⟨X,0,none⟩), .int .u64 a, .int .u64 v] w (AccOut w X gc gw (m.acc 3 a 0 v)):=by
 have H:=Lib.hid (access_any h 3 a 0 v (Or.inr (Or.inr (Or.inr (Or.inl rfl)))) ha (by decide) hv)
 clear h
 generalize m.acc 3 a 0 v=r at H ⊢
 cases r with
 |none=>
  go_enter Tryz.func192,Tryz.ntmps192
  go_wp2_with fail
  refine H.out.mono ?_
  rintro e w1 ⟨⟨ev,rfl,hev⟩,hb⟩
  go_wp2_with fail
  go_ret2
  exact ⟨⟨_,rfl,hev⟩,hb⟩
 |some p=>
  obtain ⟨was,m'⟩:=p
  go_enter Tryz.func192,Tryz.ntmps192
  go_wp2_with fail
  refine H.out.mono ?_
  rintro e w1 ⟨rfl,hb⟩
  go_wp2_with fail
  go_ret2
  exact ⟨rfl,hb⟩
theorem mcas_any {w:World} {X gc gw:Nat} {m:Mem} (h:MemP w X gc gw m) (a old v:Int) (ha:0≤a∧a<18446744073709551616) (ho:0≤old∧old<18446744073709551616) (hv:0≤v∧v<18446744073709551616):
  Calls Tryz.prog 292 #[.pointer (some ⟨X,0,none⟩), .int .u64 a, .int .u64 old, .int .u64 v] w (AccOut w X gc gw (m.acc 4 a old v)):=by
 have H:=Lib.hid (access_any h 4 a old v (Or.inr (Or.inr (Or.inr (Or.inr rfl)))) ha ho hv)
 clear h
 generalize m.acc 4 a old v=r at H ⊢
 cases r with
 |none=>
  go_enter Tryz.func292,Tryz.ntmps292
  go_wp2_with fail
  refine H.out.mono ?_
  rintro e w1 ⟨⟨ev,rfl,hev⟩,hb⟩
  go_wp2_with fail
  go_ret2
  exact ⟨⟨_,rfl,hev⟩,hb⟩
 |some p=>
  obtain ⟨was,m'⟩:=p
  go_enter Tryz.func292,Tryz.ntmps292
  go_wp2_with fail
  refine H.out.mono ?_
  rintro e w1 ⟨rfl,hb⟩
  go_wp2_with fail
  go_ret2
  exact ⟨rfl,hb⟩
def StoreOut (w:World) (X gc gw:Nat) (r:Option (Int×Mem)) (e:Ending) (w':World):Prop:=match r with
 |none=>(∃ev,e= .returned ev∧Som ev)∧Below w.heap.size w w'
 |some (_,m')=>e= .returned .nilIface∧MemP w' X gc gw m'∧Keeps (fun b=>b=X∨b=gc) w w'
theorem mstore_any {w:World} {X gc gw:Nat} {m:Mem} (h:MemP w X gc gw m) (a v:Int) (ha:0≤a∧a<18446744073709551616) (hv:0≤v∧v<18446744073709551616):
  Calls Tryz.prog 167 #[.pointer (some ⟨X,0,none⟩), .int .u64 a, .int .u64 v] w (StoreOut w X gc gw (m.acc 1 a 0 v)):=by
 have H:=Lib.hid (access_any h 1 a 0 v (Or.inr (Or.inl rfl)) ha (by decide) hv)
 clear h
 generalize m.acc 1 a 0 v=r at H ⊢
 cases r with
 |none=>
  go_enter Tryz.func167,Tryz.ntmps167
  go_wp2_with fail
  refine H.out.mono ?_
  rintro e w1 ⟨⟨ev,rfl,t,x,rfl⟩,hb⟩
  go_wp2_with fail
  go_ret
  exact ⟨⟨_,rfl,t,x,rfl⟩,hb⟩
 |some p=>
  obtain ⟨was,m'⟩:=p
  go_enter Tryz.func167,Tryz.ntmps167
  go_wp2_with fail
  refine H.out.mono ?_
  rintro e w1 ⟨rfl,hb⟩
  go_wp2_with fail
  go_ret
  exact ⟨rfl,hb⟩
end Go.Proofs.YtaangaogmnlljaaGreatDoor.Kn
namespace Go.Proofs.YtaangaogmnlljaaGreatDoor.Kn
open Go.RowKit Asm
theorem made_one (z:Value) (n:Nat):madeCells #[z] n=(List.replicate n z).toArray:=by
 unfold madeCells
 apply Array.ext
 ·simp
 ·intro i h1 h2;simp[Nat.mod_one]
theorem madeu64 (n:Nat):madeCells (Value.int .u64 0).cells n=u64A (List.replicate n 0):=by
 show madeCells #[Value.int .u64 0] n=_
 rw[made_one];simp[u64A]
theorem madeu8 (n:Nat):madeCells (Value.int .u8 0).cells n=u8A (List.replicate n 0):=by
 show madeCells #[Value.int .u8 0] n=_
 rw[made_one];simp[u8A]
theorem make64 (n:Nat) (hn:n≤65536) (w:World):(Instr.makeSlice 48 (.int .i64 (n:Int)) (.int .i64 (n:Int))).run Tryz.prog w= .ok (.slice (some ⟨w.heap.size,0,none⟩) n n) (w.alloc (.cells (u64A (List.replicate n 0)) 53)):=by
 obtain ⟨i,h1,h2,h3,h4⟩:=info_parts (show (Tryz.prog.info? 53).map (fun i=>(i.zero,i.size,i.bytes))=some (some (.int .u64 0),1,8) by kernel_rfl)
 have:=run_make (P:=Tryz.prog) w 48 53 i _ Tryz.underlying48 h1 h2 .i64 .i64 (n:Int) (n:Int) (by omega) (by omega) (by rw[h4];omega) (by omega)
 rw[h3,Int.toNat_natCast,Nat.mul_one] at this
 rw[this,madeu64]
theorem make8 (n:Nat) (hn:n≤65536) (w:World):(Instr.makeSlice 440 (.int .i64 (n:Int)) (.int .i64 (n:Int))).run Tryz.prog w= .ok (.slice (some ⟨w.heap.size,0,none⟩) n n) (w.alloc (.cells (u8A (List.replicate n 0)) 5)):=by
 obtain ⟨i,h1,h2,h3,h4⟩:=info_parts (show (Tryz.prog.info? 5).map (fun i=>(i.zero,i.size,i.bytes))=some (some (.int .u8 0),1,1) by kernel_rfl)
 have:=run_make (P:=Tryz.prog) w 440 5 i _ Tryz.underlying440 h1 h2 .i64 .i64 (n:Int) (n:Int) (by omega) (by omega) (by rw[h4];omega) (by omega)
 rw[h3,Int.toNat_natCast,Nat.mul_one] at this
 rw[this,madeu8]
theorem zeros_ok (n:Nat) (h1:1≤n) (h2:n≤65536):MemOk ⟨List.replicate n 0,List.replicate n 0⟩:=
 ⟨by simp,by simpa using h1,by simpa using h2,fun x hx=>Or.inl (List.mem_replicate.1 hx).2,fun x hx=>by rw[(List.mem_replicate.1 hx).2];exact ⟨by decide,by decide⟩⟩
theorem below3 (w:World) (a b c:Obj):Below w.heap.size w (((w.alloc a).alloc b).alloc c).drew:=
 let h:=(((Below.refl w.heap.size w).alloc (Nat.le_refl _) a).alloc (by simp) b).alloc (by simp;omega) c
 ⟨h.os,h.tape,h.output,h.size,h.block⟩
theorem three0 (w:World) (a b c:Obj):(((w.alloc a).alloc b).alloc c).drew.heap[w.heap.size]?=some a:=
 (Below.heap_alloc _ _ _ (by simp;omega)).trans ((Below.heap_alloc _ _ _ (by simp)).trans (heap_alloc_new w a))
theorem three1 (w:World) (a b c:Obj):(((w.alloc a).alloc b).alloc c).drew.heap[w.heap.size+1]?=some b:=
 (Below.heap_alloc _ _ _ (by simp)).trans (by have:=heap_alloc_new (w.alloc a) b;simpa using this)
theorem three2 (w:World) (a b c:Obj):(((w.alloc a).alloc b).alloc c).drew.heap[w.heap.size+1+1]?=some c:=by
 show (((w.alloc a).alloc b).alloc c).heap[w.heap.size+1+1]?=some c
 have:=heap_alloc_new ((w.alloc a).alloc b) c;simpa using this
theorem memnew_any (n:Nat) (h1:1≤n) (h2:n≤65536) (w:World):
  Calls Tryz.prog 165 #[.int .i64 n] w fun e w'=> ∃X gc gw,e= .returned (.tuple #[.pointer (some ⟨X,0,none⟩), .nilIface])∧w.heap.size≤X∧w.heap.size≤gc∧w.heap.size≤gw∧MemP w' X gc gw ⟨List.replicate n 0,List.replicate n 0⟩∧Below w.heap.size w w':=by
 have h1I:1≤(n:Int):=by omega
 have h2I:(n:Int)≤65536:=by omega
 have e1:=make64 n h2
 have e2:=make8 n h2
 go_enter Tryz.func165,Tryz.ntmps165
 go_wp2_with fail
 go_region
 all_goals
  go_wp2_with fail
  go_ret2
 ·refine ⟨w.heap.size+1+1,w.heap.size,w.heap.size+1,rfl,by omega,by omega,by omega,⟨zeros_ok n h1 h2,⟨0,0,?_⟩,three0 _ _ _ _,three1 _ _ _ _⟩,below3 w _ _ _⟩
  rw[three2];try simp
 ·refine ⟨w.heap.size+1+1,w.heap.size+1,w.heap.size,rfl,by omega,by omega,by omega,⟨zeros_ok n h1 h2,⟨0,0,?_⟩,three1 _ _ _ _,three0 _ _ _ _⟩,below3 w _ _ _⟩
  rw[three2];try simp
end Go.Proofs.YtaangaogmnlljaaGreatDoor.Kn
namespace Go.Proofs.YtaangaogmnlljaaGreatDoor.Kn
open Go.RowKit Asm
theorem tabZero:(tabC (List.replicate 64 {})).toArray=madeCells #[.int .u64 0, .bool false, .bool false, .int .u64 0, .int .i64 0, .int .u64 0, .int .u64 0, .int .u64 0, .bool false, .bool false] (64*10):=by kernel_rfl
theorem objZero:(objC (List.replicate 64 {})).toArray=madeCells #[.int .u64 0, .int .u64 0, .int .i64 0, .int .u64 0] (64*4):=by kernel_rfl
theorem wqZero (B:Int→Nat):(wqC B []).toArray=madeCells #[.pointer none, .pointer none] (8*2):=by kernel_rfl
end Go.Proofs.YtaangaogmnlljaaGreatDoor.Kn
namespace Go.Proofs.YtaangaogmnlljaaGreatDoor.Kn
open Go.RowKit Go.Maps Asm Hp
theorem now_any {w:World} {C hb hm:Nat} {v:Value} {ab:Nat} {c:Clk} {N K:Nat} (h:ClkP w C hb hm v ab c N K):
  Calls Tryz.prog 110 #[.pointer (some ⟨C,0,none⟩)] w fun e w'=>e= .returned (.int .u64 c.now)∧w'=w:=by
 obtain ⟨k0,k1,k2,kf⟩:=h.cells
 clear h
 go_enter Tryz.func110,Tryz.ntmps110
 go_wp2_with fail
 go_ret
 exact ⟨rfl,rfl⟩
theorem clknew_any (w:World):Calls Tryz.prog 78 #[] w fun e w'=> ∃C hb hm ab,e= .returned (.pointer (some ⟨C,0,none⟩))∧ClkP w' C hb hm (.slice none 0 0) ab { now:=0,S:= [],last:=0} 0 0∧w.heap.size≤C∧w.heap.size≤hb∧w.heap.size≤hm∧w.heap.size≤ab∧Below w.heap.size w w':=by
 have hmm:=@run_makeMap Tryz.prog
 have HN:=Lib.hid (Hp.new_any w)
 go_enter Tryz.func78,Tryz.ntmps78
 go_wp2_with (go_at_call 161;refine HN.out.mono ?_;rintro e w1 ⟨hb,hm,rfl,h1,h2,h3,h4⟩;have H3:=Lib.hid h3;have H4:=Lib.hid h4;clear h3 h4)
 go_ret
 have hS:=H4.out.size
 have hB:Below w.heap.size w ((w1.alloc (.map #[] 0)).alloc (.cells #[.int .u64 0, .pointer (some ⟨hb,0,none⟩), .map (some w1.heap.size)] 327)):=(H4.out.alloc hS _).alloc (by simp;omega) _
 have hn:=heap_alloc_new (w1.alloc (.map #[] 0)) (.cells #[.int .u64 0, .pointer (some ⟨hb,0,none⟩), .map (some w1.heap.size)] 327)
 have hmap:GMap arms (w1.alloc (.map #[] 0)) w1.heap.size (byF []) 0:=
  ⟨_,0,World.ownsMap_made w1 Tryz.prog 53 arms.R,Nat.le_refl _,fun k _=>⟨rfl,fun j hj=>by cases hj⟩⟩
 refine ⟨w1.heap.size+1,hb,hm,w1.heap.size,rfl,⟨by simpa using hn,H3.out.of_blocks fun k hk=>?_,hmap.of_block (Below.heap_alloc _ _ _ (by simp)),?_,List.nodup_nil,(fun t ht=>by cases ht),⟨by decide,by decide⟩,by simp⟩,by omega,h1,h2,by omega,hB⟩
 ·have hlt:=H3.out.of_lt hk
  exact (Below.heap_alloc _ _ _ (by simp;omega)).trans (Below.heap_alloc _ _ _ hlt)
 ·have hlt:=H3.out.of_lt (k:=hm) (Or.inr (Or.inl rfl))
  omega
theorem makeN (t e:TypeId) (n:Nat) (zs:Array Value) (k:Nat) (ht:Tryz.prog.underlying t=some (.slice e)) (hi:(Tryz.prog.info? e).map (fun i=>(i.zero.map (·.cells),i.size,decide (i.bytes≤1000)))=some (some zs,k,true)) (hn:n≤64) (w:World):
  (Instr.makeSlice t (.int .i64 (n:Int)) (.int .i64 (n:Int))).run Tryz.prog w= .ok (.slice (some ⟨w.heap.size,0,none⟩) n n) (w.alloc (.cells (madeCells zs (n*k)) e)):=by
 obtain ⟨i,h1,h2⟩: ∃i,Tryz.prog.info? e=some i∧(i.zero.map (·.cells),i.size,decide (i.bytes≤1000))=(some zs,k,true):=by
  cases hh:Tryz.prog.info? e with
  |none=>rw[hh] at hi;cases hi
  |some i=>rw[hh] at hi;injection hi with hi;exact ⟨i,rfl,hi⟩
 have h3:i.size=k:=congrArg (fun q=>q.2.1) h2
 have hb:i.bytes≤1000:=of_decide_eq_true (congrArg (fun q=>q.2.2) h2)
 replace h2:i.zero.map (·.cells)=some zs:=congrArg (fun q=>q.1) h2
 obtain ⟨z,hz,hzz⟩: ∃z,i.zero=some z∧z.cells=zs:=by
  cases hh:i.zero with
  |none=>rw[hh] at h2;cases h2
  |some z=>rw[hh] at h2;injection h2 with h2;exact ⟨z,rfl,h2⟩
 have hbn:i.bytes*n≤1000*64:=Nat.mul_le_mul hb hn
 have hbe:((i.bytes*n:Nat):Int)=(i.bytes:Int)* (n:Int):=Int.natCast_mul _ _
 have:=run_make (P:=Tryz.prog) w t e i z ht h1 hz .i64 .i64 (n:Int) (n:Int) (by omega) (by omega) (by omega) (by omega)
 rw[h3,Int.toNat_natCast,hzz] at this
 exact this
theorem laid2 (w:World) (o o':Obj):((w.alloc o).alloc o').heap[w.heap.size]?=some o∧((w.alloc o).alloc o').heap[w.heap.size+1]?=some o'∧Below w.heap.size w ((w.alloc o).alloc o'):=by
 have hn:=heap_alloc_new (w.alloc o) o'
 exact ⟨(Below.heap_alloc _ _ _ (by simp)).trans (heap_alloc_new w _),by simpa using hn,((Below.refl _ w).alloc (Nat.le_refl _) _).alloc (by simp) _⟩
theorem ringnew_any (w:World):Calls Tryz.prog 79 #[.int .i64 64] w fun e w'=> ∃R gr,e= .returned (.tuple #[.pointer (some ⟨R,0,none⟩), .nilIface])∧RingP w' R gr []∧w.heap.size≤R∧w.heap.size≤gr∧Below w.heap.size w w':=by
 have e1:=make64 64 (by omega)
 simp only[Int.cast_ofNat_Int] at e1
 go_enter Tryz.func79,Tryz.ntmps79
 go_wp2_with fail
 go_ret2
 have hn:=heap_alloc_new (w.alloc (.cells (u64A (List.replicate 64 0)) 53)) (.cells #[.slice (some ⟨w.heap.size,0,none⟩) 64 64, .int .i64 0, .int .i64 0] 329)
 have hB:Below w.heap.size w ((w.alloc (.cells (u64A (List.replicate 64 0)) 53)).alloc (.cells #[.slice (some ⟨w.heap.size,0,none⟩) 64 64, .int .i64 0, .int .i64 0] 329)):=((Below.refl _ w).alloc (Nat.le_refl _) _).alloc (by simp) _
 refine ⟨w.heap.size+1,w.heap.size,rfl,⟨0,List.replicate 64 0,rfl,by decide,by decide,by simpa using hn,(Below.heap_alloc _ _ _ (by simp)).trans (heap_alloc_new w _),(fun i hi=>absurd hi (by simp)),fun x hx=>by cases hx⟩,by omega,by omega,hB⟩
theorem tAt_zero (p:Nat):tAt (List.replicate 64 {}) p={}:=by
 unfold tAt
 rw[List.getD_eq_getElem?_getD,List.getElem?_replicate]
 split<;>rfl
theorem oAt_zero (p:Nat):oAt (List.replicate 64 {}) p={}:=by
 unfold oAt
 rw[List.getD_eq_getElem?_getD,List.getElem?_replicate]
 split<;>rfl
theorem tab_ok0:TabOk (List.replicate 64 {}) 0:=
 ⟨by decide,by decide,fun p _=>by rw[tAt_zero];exact ⟨⟨by decide,by decide⟩,fun h=>absurd rfl h,fun _=>⟨rfl,rfl⟩,⟨by decide,by decide⟩,⟨by decide,by decide⟩,⟨by decide,by decide⟩,⟨by decide,by decide⟩⟩⟩
theorem obj_ok0:ObjOk (List.replicate 64 {}) 0:=
 ⟨by decide,by decide,fun p _=>by rw[oAt_zero];exact ⟨⟨by decide,by decide⟩,fun h=>absurd rfl h,fun _=>⟨rfl,rfl⟩,⟨by decide,by decide⟩,⟨by decide,by decide⟩⟩⟩
theorem tabnew_any (w:World):Calls Tryz.prog 81 #[.int .i64 64] w fun e w'=> ∃T gt,e= .returned (.tuple #[.pointer (some ⟨T,0,none⟩), .nilIface])∧TabP w' T gt (List.replicate 64 {}) 0∧w.heap.size≤T∧w.heap.size≤gt∧Below w.heap.size w w':=by
 have e1:=makeN 335 382 64 #[.int .u64 0, .bool false, .bool false, .int .u64 0, .int .i64 0, .int .u64 0, .int .u64 0, .int .u64 0, .bool false, .bool false] 10 Tryz.underlying335 (by kernel_rfl) (by omega) w
 simp only[Int.cast_ofNat_Int] at e1
 rw[←tabZero] at e1
 go_enter Tryz.func81,Tryz.ntmps81
 go_wp2_with fail
 go_ret2
 obtain ⟨l1,l2,l3⟩:=laid2 w (.cells (tabC (List.replicate 64 {})).toArray 382) (.cells #[.slice (some ⟨w.heap.size,0,none⟩) 64 64] 337)
 exact ⟨w.heap.size+1,w.heap.size,rfl,⟨tab_ok0,l2,l1⟩,by omega,by omega,l3⟩
theorem objnew_any (w:World):Calls Tryz.prog 82 #[.int .i64 64] w fun e w'=> ∃O go,e= .returned (.tuple #[.pointer (some ⟨O,0,none⟩), .nilIface])∧ObjP w' O go (List.replicate 64 {}) 0∧w.heap.size≤O∧w.heap.size≤go∧Below w.heap.size w w':=by
 have e1:=makeN 300 304 64 #[.int .u64 0, .int .u64 0, .int .i64 0, .int .u64 0] 4 Tryz.underlying300 (by kernel_rfl) (by omega) w
 simp only[Int.cast_ofNat_Int] at e1
 rw[←objZero] at e1
 go_enter Tryz.func82,Tryz.ntmps82
 go_wp2_with fail
 go_ret2
 obtain ⟨l1,l2,l3⟩:=laid2 w (.cells (objC (List.replicate 64 {})).toArray 304) (.cells #[.slice (some ⟨w.heap.size,0,none⟩) 64 64] 302)
 exact ⟨w.heap.size+1,w.heap.size,rfl,⟨obj_ok0,l2,l1⟩,by omega,by omega,l3⟩
theorem wqnew_any (w:World) (B:Int→Nat):Calls Tryz.prog 80 #[.int .i64 8] w fun e w'=> ∃Q gl mb,e= .returned (.tuple #[.pointer (some ⟨Q,0,none⟩), .nilIface])∧WqP w' Q gl mb B [] 0∧w.heap.size≤Q∧w.heap.size≤gl∧w.heap.size≤mb∧Below w.heap.size w w':=by
 have hmm:=@run_makeMap Tryz.prog
 have e1:=fun W=>makeN 331 385 8 #[.pointer none, .pointer none] 2 Tryz.underlying331 (by kernel_rfl) (by omega) W
 simp only[Int.cast_ofNat_Int] at e1
 rw[←wqZero B] at e1
 go_enter Tryz.func80,Tryz.ntmps80
 go_wp2_with fail
 go_ret2
 obtain ⟨l1,l2,l3⟩:=laid2 w (.cells (wqC B []).toArray 385) (.map #[] 0)
 have hs:((w.alloc (.cells (wqC B []).toArray 385)).alloc (.map #[] 0)).heap.size=w.heap.size+1+1:=by simp
 have hn:=heap_alloc_new ((w.alloc (.cells (wqC B []).toArray 385)).alloc (.map #[] 0)) (.cells #[.slice (some ⟨w.heap.size,0,none⟩) 8 8, .map (some (w.heap.size+1))] 334)
 rw[hs] at hn
 have hm:=World.ownsMap_made (w.alloc (.cells (wqC B []).toArray 385)) Tryz.prog 53 ptrs.R
 have hs1:(w.alloc (.cells (wqC B []).toArray 385)).heap.size=w.heap.size+1:=by simp
 rw[hs1] at hm
 have hmap:GMap ptrs ((w.alloc (.cells (wqC B []).toArray 385)).alloc (.map #[] 0)) (w.heap.size+1) (whereF B []) 0:=
  ⟨_,0,hm,Nat.le_refl _,fun k _=>⟨rfl,fun j hj=>by cases hj⟩⟩
 exact ⟨w.heap.size+1+1,w.heap.size,w.heap.size+1,rfl,⟨⟨List.nodup_nil,(fun s hs=>by cases hs),hn,(Below.heap_alloc _ _ _ (by rw[hs];omega)).trans l1,fun s hs=>by cases hs⟩,hmap.of_block (Below.heap_alloc _ _ _ (by rw[hs];omega)),by decide⟩,by omega,by omega,by omega,l3.alloc (by rw[hs];omega) _⟩
theorem alcnew_any (w:World) (X lo hi:Nat) (hlo:lo≤hi) (hhi:hi≤65536):Calls Tryz.prog 168 #[.pointer (some ⟨X,0,none⟩), .int .i64 lo, .int .i64 hi] w fun e w'=> ∃A,e= .returned (.tuple #[.pointer (some ⟨A,0,none⟩), .nilIface])∧AlcP w' A X (.slice none 0 0) ⟨lo,hi,[]⟩∧w.heap.size≤A∧Below w.heap.size w w':=by
 have h1:(0:Int)≤(lo:Int):=by omega
 have h2:(lo:Int)≤(hi:Int):=by omega
 go_enter Tryz.func168,Tryz.ntmps168
 go_wp2_with fail
 go_ret2
 have hn:=heap_alloc_new w (.cells #[.pointer (some ⟨X,0,none⟩), .int .i64 lo, .int .i64 hi, .slice none 0 0] 427)
 exact ⟨w.heap.size,rfl,⟨hlo,hhi,hn,World.ownsRow_nil _ _ _ _⟩,Nat.le_refl _,(Below.refl _ w).alloc (Nat.le_refl _) _⟩
end Go.Proofs.YtaangaogmnlljaaGreatDoor.Kn
namespace Go.Proofs.YtaangaogmnlljaaGreatDoor.Kn
open Go.RowKit Asm
theorem register_any (x:Int) (u l:Bool) (w:World):Calls Tryz.prog 332 #[.int .i64 x, .bool u, .bool l] w fun e w'=>e= .returned (.bool (regOk x u l))∧w=w':=by
 cases u with
 |false=>
  go_enter Tryz.func332,Tryz.ntmps332
  go_wp2
  go_ret
  exact ⟨rfl,rfl⟩
 |true=>
  by_cases h1:0≤x
  ·by_cases h2:x<32
   ·go_enter Tryz.func332,Tryz.ntmps332
    go_wp2
    go_ret
    exact ⟨by simp[regOk,h1,h2],rfl⟩
   ·have h3:32≤x:=by omega
    have h4:(x== -1)=false:=beq_eq_false_iff_ne.2 (by omega)
    cases l<;>
    ·go_enter Tryz.func332,Tryz.ntmps332
     go_wp2
     go_ret
     exact ⟨by simp[regOk,h1,h2];try omega,rfl⟩
  ·have h2:x<0:=by omega
   cases l with
   |false=>
    go_enter Tryz.func332,Tryz.ntmps332
    go_wp2
    go_ret
    exact ⟨by simp[regOk];omega,rfl⟩
   |true=>
    by_cases h5:x= -1
    ·subst h5
     go_enter Tryz.func332,Tryz.ntmps332
     go_wp2
     go_ret
     exact ⟨rfl,rfl⟩
    ·have h4:(x== -1)=false:=beq_eq_false_iff_ne.2 h5
     go_enter Tryz.func332,Tryz.ntmps332
     go_wp2
     go_ret
     exact ⟨by simp[regOk,h5];omega,rfl⟩
end Go.Proofs.YtaangaogmnlljaaGreatDoor.Kn
namespace Go.Proofs.YtaangaogmnlljaaGreatDoor.Asm
open Go.RowKit Go.Maps
theorem infoWant:(Tryz.prog.info? 317).map (fun i=>(i.zero,i.size,i.bytes))=some (some (.agg #[.int .i64 0, .int .i64 0, .string ⟨#[]⟩]),3,32):=by kernel_rfl
theorem strV_of (s:ByteArray):strV s.data.toList= .string s:=by
 unfold strV
 congr 1
theorem wantsC_snoc (l:List (Nat×Nat×Str)) (x:Nat×Nat×Str):wantsC (l++ [x])=wantsC l++ [.int .i64 x.1, .int .i64 x.2.1,strV x.2.2]:=by simp[wantsC]
set_option maxRecDepth 100000 in
set_option maxHeartbeats 4000000 in
theorem operand_place {w:World} {R mb rb:Nat} {vc vl vn vw:Value} {st:St} {X:Nat} {x:InsL} (hR:Rd w R mb rb vc vl vn vw st) (hrb:rb≤w.heap.size) (hX: ¬OfR R mb vc vl vn vw X) (hx:InsAt w X x) (s:ByteArray) (hs:s.size≤100000) (i:Nat) (k:Int) (hk:k=8∨k=9) (hn:namedL s.data.toList=true) (hc:st.code.length≤100000) (hw:st.wants.length≤100000):
  Calls Tryz.prog 219 #[.pointer (some ⟨R,0,none⟩), .pointer (some ⟨X,0,none⟩), .int .i64 k, .string s, .int .i64 i] w (OpdOut w R mb rb vc vl vn vw st X x (some s.data.toList) i):=by
 have HReg:=Lib.hid (register_any s w (by omega))
 have HNam:=Lib.hid (named_any s w (by omega))
 have HNo:=Lib.hid hn
 obtain ⟨iw,hiw,hzw,hsw,hbw⟩:=info_parts infoWant
 obtain ⟨Aw,cw,rfl⟩:=own_shape hR.wants
 obtain ⟨Ac,cc,rfl⟩:=own_shape hR.code
 obtain ⟨r0,r1,r2,r3,r4,rf⟩:=hR.cell
 have hRl:=hR.lt
 obtain ⟨m,hm⟩: ∃m,m=st.code.length:=⟨_,rfl⟩
 have hmI:(m:Int)≤100000:=by omega
 have HMc:=Lib.hid hm
 have h0:Rd ((w.alloc (.cells #[.int .i64 (m:Int), .int .i64 (i:Int), .string s] 317)).drew) R mb rb (.slice Ac st.code.length cc) vl vn (.slice Aw st.wants.length cw) st:=(hR.below ((Below.refl _ _).alloc (Nat.le_refl _) _)).of_blocks fun _ _=>rfl
 have K0:Keeps (OfR R mb (.slice Ac st.code.length cc) vl vn (.slice Aw st.wants.length cw)) w ((w.alloc (.cells #[.int .i64 (m:Int), .int .i64 (i:Int), .string s] 317)).drew):=((Keeps.refl _ w).alloc _).drew
 have E0:=Lib.hid h0.wants
 have N1:Hid (∀j u,([.int .i64 (m:Int), .int .i64 (i:Int), .string s]:List Value)[j]?=some u→((w.alloc (.cells #[.int .i64 (m:Int), .int .i64 (i:Int), .string s] 317)).drew).cell? ((⟨w.heap.size,0,none⟩:Addr).add j)=some u):=Lib.hid (by
  intro j u hu
  rw[Addr.add_lit,Nat.zero_add]
  exact (World.cell?_alloc_at _ _ _ _ rfl).trans (by simpa using hu))
 have O1:Hid (∀u∈([.int .i64 (m:Int), .int .i64 (i:Int), .string s]:List Value),u.oneCell'=true):=Lib.hid (by
  intro u hu
  simp at hu
  rcases hu with rfl|rfl|rfl<;>rfl)
 have M1:=Lib.hid (show st.wants.length+1≤maxLen by unfold maxLen;omega)
 have M2:=Lib.hid (show (st.wants.length+1)*32≤140737488355328 by omega)
 have M3:=Lib.hid (show rb≤((w.alloc (.cells #[.int .i64 (m:Int), .int .i64 (i:Int), .string s] 317)).drew).heap.size by show rb≤(w.alloc _).heap.size;simp;omega)
 have HV:Hid (some R≠(Value.slice Aw st.wants.length cw).ownBlock):=Lib.hid (own_ne hR.wants hR.tagR (by decide))
 have HFin:Hid (∀v' w2,w2.ownsRow rb 317 3 v' (st.wants.length+1) (wantsC st.wants++ [.int .i64 (m:Int), .int .i64 (i:Int), .string s])→((w.alloc (.cells #[.int .i64 (m:Int), .int .i64 (i:Int), .string s] 317)).drew).grownBy w2 (Value.slice Aw st.wants.length cw).ownBlock→(v'.ownBlock=(Value.slice Aw st.wants.length cw).ownBlock∨v'.ownBlock=some ((w.alloc (.cells #[.int .i64 (m:Int), .int .i64 (i:Int), .string s] 317)).drew).heap.size)→
   OpdOut w R mb rb (.slice Ac st.code.length cc) vl vn (.slice Aw st.wants.length cw) st X x (some s.data.toList) i (.returned .nilIface) (w2.setCell ⟨R,4,none⟩ v')):=Lib.hid (fun v' w2 hr hg hnew=>by
  have hr2:w2.ownsRow rb 317 3 v' (st.wants++ [(st.code.length,i,s.data.toList)]).length (wantsC (st.wants++ [(st.code.length,i,s.data.toList)])):=by
   rw[wantsC_snoc,strV_of,List.length_append,←hm];exact hr
  have hadd:=h0.add_wants _ hg hr2
  have hK2:Keeps (OfR R mb (.slice Ac st.code.length cc) vl vn (.slice Aw st.wants.length cw)) w (w2.setCell ⟨R,4,none⟩ v'):=(K0.grown hg (fun k e=>Or.inr (Or.inr (Or.inr (Or.inr (Or.inr e)))))).setCell (p:=⟨R,4,none⟩) (Or.inl rfl) _
  refine ⟨rfl,hx.keeps hK2 hX,v',hadd,hK2.mono (fun _ h=>Or.inr h),fun k hk=>?_⟩
  rcases hnew with e|e
  ·exact Or.inl (e▸hk)
  ·right
   rw[e] at hk
   have h2:(w.alloc (.cells #[.int .i64 (m:Int), .int .i64 (i:Int), .string s] 317)).heap.size=k:=Option.some.inj hk
   simp at h2
   omega)
 have HC:Hid (∀w2:World,((w.alloc (.cells #[.int .i64 (m:Int), .int .i64 (i:Int), .string s] 317)).drew).grownBy w2 (Value.slice Aw st.wants.length cw).ownBlock→w2.cell? ⟨R,4,none⟩=some (.slice Aw st.wants.length cw)∧w2.frozen? ⟨R,4,none⟩=false):=Lib.hid (fun w2 hg=>by
  have hb:=hg.block R h0.lt HV.out
  exact ⟨(World.cell?_of_block (a:=⟨R,4,none⟩) hb).trans h0.cell.2.2.2.2.1,(World.frozen?_of_block (a:=⟨R,4,none⟩) hb).trans (h0.cell.2.2.2.2.2 4)⟩)
 rw[←hm] at r0
 generalize st.wants.length=z at r4 E0 M1 M2 HV HFin HC
 clear hR hX hx hs hn hm h0 K0 hc hw hrb
 rcases hk with rfl|rfl
 all_goals
  go_enter Tryz.func219,Tryz.ntmps219
  go_wp2_with fail
  refine HReg.out.mono ?_
  rintro e w' ⟨m9,rfl,hm,rfl⟩
  clear hm
  generalize (regL s.data.toList).isSome=b
  go_wp2_with fail
  refine HNam.out.mono ?_
  rintro e w' ⟨rfl,rfl⟩
  rw[HNo.out]
  go_wp2_with fail
  go_region_law (first|(refine step_append_own _ rfl (.tmp 87) (.tmp 96) 311 rfl rb 317 iw _ 3 32 Tryz.underlying311 hiw hzw hsw hbw rfl (by decide) (.slice Aw z cw) z (wantsC st.wants) (by simp[Act.eval]) E0.out ⟨w.heap.size,0,none⟩ 1 1 [.int .i64 (m:Int), .int .i64 (i:Int), .string s] (by simp[Act.eval]) rfl N1.out O1.out M1.out M2.out M3.out ?_;intro v' w2 hown' hgrow hnew;obtain ⟨A',c',rfl⟩:=own_shape hown';have tt:=HC.out w2 hgrow;have t0:=tt.1;have t1:=tt.2;have HF:=Lib.hid (HFin.out _ _ hown' hgrow hnew);clear hown' hgrow hnew tt))
  all_goals
   go_wp2
   go_ret
   exact HF.out
end Go.Proofs.YtaangaogmnlljaaGreatDoor.Asm
namespace Go.Proofs.YtaangaogmnlljaaGreatDoor.Asm
open Go.RowKit Go.Maps
theorem operand_any {w:World} {R mb rb:Nat} {vc vl vn vw:Value} {st:St} {X:Nat} {x:InsL} (hR:Rd w R mb rb vc vl vn vw st) (hrb:rb≤w.heap.size) (hX: ¬OfR R mb vc vl vn vw X) (hx:InsAt w X x) (s:ByteArray) (hs:s.size≤100000) (i:Nat) (k:Int) (hk:1≤k∧k≤9) {y:InsL} {o:Option Str} (h:operandL x k s.data.toList=some (y,o)) (hc:st.code.length≤100000) (hw:st.wants.length≤100000):
  Calls Tryz.prog 219 #[.pointer (some ⟨R,0,none⟩), .pointer (some ⟨X,0,none⟩), .int .i64 k, .string s, .int .i64 i] w (OpdOut w R mb rb vc vl vn vw st X y o i):=by
 unfold operandL at h
 obtain rfl|rfl|rfl|rfl|rfl|rfl|rfl|rfl|rfl:k=1∨k=2∨k=3∨k=4∨k=5∨k=6∨k=7∨k=8∨k=9:=by omega
 ·simp only[if_true] at h
  obtain ⟨r,hr,e⟩:=Option.map_eq_some_iff.1 h
  injection e with e1 e2
  subst e1 e2
  exact operand_regA hR hX hx s hs i r hr
 ·simp only[show ((2:Int)=1)=False by simp,if_false,if_true] at h
  obtain ⟨r,hr,e⟩:=Option.map_eq_some_iff.1 h
  injection e with e1 e2
  subst e1 e2
  exact operand_regB hR hX hx s hs i r hr
 ·simp only[show ((3:Int)=1)=False by simp,show ((3:Int)=2)=False by simp,if_false,if_true] at h
  obtain ⟨r,hr,e⟩:=Option.map_eq_some_iff.1 h
  injection e with e1 e2
  subst e1 e2
  exact operand_regC hR hX hx s hs i r hr
 ·simp only[show ((4:Int)=1)=False by simp,show ((4:Int)=2)=False by simp,show ((4:Int)=3)=False by simp,if_false,if_true] at h
  cases hr:regL s.data.toList with
  |some r=>
   rw[hr] at h
   injection h with h
   injection h with e1 e2
   subst e1 e2
   exact operand_orCr hR hX hx s hs i r hr
  |none=>
   rw[hr] at h
   obtain ⟨v,hv,e⟩:=Option.map_eq_some_iff.1 h
   injection e with e1 e2
   subst e1 e2
   exact operand_orCn hR hX hx s hs i v hr hv
 ·simp only[show ((5:Int)=1)=False by simp,show ((5:Int)=2)=False by simp,show ((5:Int)=3)=False by simp,show ((5:Int)=4)=False by simp,if_false,if_true] at h
  cases hr:regL s.data.toList with
  |some r=>
   rw[hr] at h
   injection h with h
   injection h with e1 e2
   subst e1 e2
   exact operand_orBr hR hX hx s hs i r hr
  |none=>
   rw[hr] at h
   obtain ⟨v,hv,e⟩:=Option.map_eq_some_iff.1 h
   injection e with e1 e2
   subst e1 e2
   exact operand_orBn hR hX hx s hs i v hr hv
 ·simp only[show ((6:Int)=1)=False by simp,show ((6:Int)=2)=False by simp,show ((6:Int)=3)=False by simp,show ((6:Int)=4)=False by simp,show ((6:Int)=5)=False by simp,show ((6:Int)=7)=False by simp,if_false,if_true] at h
  obtain ⟨r,hr,e⟩:=Option.map_eq_some_iff.1 h
  injection e with e1 e2
  subst e1 e2
  exact operand_cell hR hX hx s hs i r hr
 ·simp only[show ((7:Int)=1)=False by simp,show ((7:Int)=2)=False by simp,show ((7:Int)=3)=False by simp,show ((7:Int)=4)=False by simp,show ((7:Int)=5)=False by simp,if_false,if_true] at h
  obtain ⟨r,hr,e⟩:=Option.map_eq_some_iff.1 h
  injection e with e1 e2
  subst e1 e2
  exact operand_num hR hX hx s hs i r hr
 ·simp only[show ((8:Int)=1)=False by simp,show ((8:Int)=2)=False by simp,show ((8:Int)=3)=False by simp,show ((8:Int)=4)=False by simp,show ((8:Int)=5)=False by simp,show ((8:Int)=6)=False by simp,show ((8:Int)=7)=False by simp,if_false,if_true] at h
  cases hn:namedL s.data.toList with
  |true=>
   rw[hn] at h
   simp only[if_true] at h
   injection h with h
   injection h with e1 e2
   subst e1 e2
   exact operand_place hR hrb hX hx s hs i 8 (Or.inl rfl) hn hc hw
  |false=>rw[hn] at h;simp at h
 ·simp only[show ((9:Int)=1)=False by simp,show ((9:Int)=2)=False by simp,show ((9:Int)=3)=False by simp,show ((9:Int)=4)=False by simp,show ((9:Int)=5)=False by simp,show ((9:Int)=6)=False by simp,show ((9:Int)=7)=False by simp,show ((9:Int)=8)=False by simp,if_false] at h
  cases hn:namedL s.data.toList with
  |true=>
   rw[hn] at h
   simp only[if_true] at h
   injection h with h
   injection h with e1 e2
   subst e1 e2
   exact operand_place hR hrb hX hx s hs i 9 (Or.inr rfl) hn hc hw
  |false=>
   rw[hn] at h
   simp only[Bool.false_eq_true,if_false] at h
   obtain ⟨r,hr,e⟩:=Option.map_eq_some_iff.1 h
   injection e with e1 e2
   subst e1 e2
   exact operand_bothn hR hX hx s hs i r hn hr
end Go.Proofs.YtaangaogmnlljaaGreatDoor.Asm
namespace Go.Proofs.YtaangaogmnlljaaGreatDoor.Kn
open Go.RowKit Go.Maps Asm
attribute [local go_sem] Oper.semAt_some
def CellsKeep (n:Nat) (W W':World):Prop:=W.heap.size≤W'.heap.size∧ ∀k c t fr,n≤k→W.heap[k]?=some (.cells c t fr)→W'.heap[k]?=some (.cells c t fr)
theorem CellsKeep.t {n:Nat} {A B C:World} (h:CellsKeep n A B) (k:CellsKeep n B C):CellsKeep n A C:=
 ⟨Nat.le_trans h.1 k.1,fun i c t fr hi hc=>k.2 i c t fr hi (h.2 i c t fr hi hc)⟩
theorem CellsKeep.b {n m:Nat} (W:World) (l:Nat) (o o':Obj) (_:m≤l) (h:W.heap[l]?=some o) (ho:o.isCells=false) (_:o.isWalk=false):CellsKeep n W (W.putObj l o'):=by
 refine ⟨by simp,fun k c t fr _ hc=>?_⟩
 by_cases e:k=l
 ·subst e
  rw[h] at hc
  cases hc
  cases ho
 ·rw[World.putObj_heap_other e];exact hc
theorem bel_dn {B:Nat} {a w:World} (h:Below B a w) (n:Nat):Below B a (w.drewN n):=⟨h.os,h.tape,h.output,h.size,h.block⟩
end Go.Proofs.YtaangaogmnlljaaGreatDoor.Kn
