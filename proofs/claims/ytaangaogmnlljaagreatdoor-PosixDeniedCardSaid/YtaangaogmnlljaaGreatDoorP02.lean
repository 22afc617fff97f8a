/- Part 2 of what the proof stands on: HpDown, StepAppend, HpPut, HpDrop, HpPop, KnWqPlain, KnAlcPlain, KnFlat, KnCopy, KnWord, KnInv, KnInvB, KnInvC, KnInvD, HeadQuiet, KnApp, KnDenP, KnSpEq. -/
import Derived.Deep.OwnRows
import Derived.Deep.RegionLaw
import Derived.Lib.Hide
import Derived.Maps.AppendAt
import Derived.WalkKit
import Derived.Laws.CopyRow
import Derived.Laws.IdiomCopy
import Derived.StillTailTactics
import Derived.BigQuiet
import Derived.Deep.QuietTactic
import Derived.RegionTactic
import Derived.Laws.OwnMore
import Derived.Test.YtaangaogmnlljaaGreatDoorProg
import Derived.Test.YtaangaogmnlljaaGreatDoorP01
set_option linter.unusedVariables false
namespace Go.Proofs.YtaangaogmnlljaaGreatDoor.Hp
open Go.RowKit Go.Maps
def DownInv (w1:World) (hb mb:Nat) (v:Value) (rb:Nat) (l:List Thing) (last:Int) (N:Nat) (t:Thing) (k:Nat) (wr:World):Prop:=
 ∃(lr:List Thing) (f:Int→Option Nat) (N':Nat),lr.length=l.length∧N'≤N+k∧Raw wr hb mb v rb lr f last N'∧AlmostDown (lr.set k t) k∧(lr.set k t).Perm l∧Places f (lr.set k t) k∧Keeps (Of hb mb v) w1 wr
def DownOut (w:World) (hb mb:Nat) (v:Value) (rb:Nat) (l:List Thing) (last:Int) (N:Nat) (e:Ending) (w':World):Prop:=
 e= .returned (.tuple #[])∧ ∃(l':List Thing) (f:Int→Option Nat),Raw w' hb mb v rb l' f last (N+l.length+1)∧l'.Perm l∧PlacesAll f l'∧Heap l'∧Keeps (Of hb mb v) w w'
theorem DownInv.step {w1 wr w2:World} {hb mb:Nat} {v:Value} {rb:Nat} {l:List Thing} {last:Int} {N k c:Nat} {t:Thing} {lr:List Thing} {f:Int→Option Nat} {N':Nat}
  (ha:Apart l) (hc:c<l.length) (h0:0<c) (hpc:par c=k) (hl:lr.length=l.length) (hN:N'≤N+k) (hdn:AlmostDown (lr.set k t) k) (hp:(lr.set k t).Perm l) (hpl:Places f (lr.set k t) k) (hkw:Keeps (Of hb mb v) w1 wr)
  (hlt:aheadB (at_ lr c) t=true) (hmin: ∀j,0<j→j<(lr.set k t).length→par j=k→le (at_ (lr.set k t) c) (at_ (lr.set k t) j))
  (hR:Raw w2 hb mb v rb (lr.set k (at_ lr c)) (upd f (at_ lr c).h k) last (N'+1)) (hk2:Keeps (Of hb mb v) wr w2):
  DownInv w1 hb mb v rb l last N t c w2:=by
 have hpk:=par_lt h0
 have e1:at_ (lr.set k t) k=t:=at_set_same (by omega) t
 have e2:at_ (lr.set k t) c=at_ lr c:=at_set_other (by omega) t
 have es:swap (lr.set k t) k c=(lr.set k (at_ lr c)).set c t:=by
  unfold swap
  rw[e1,e2,List.set_set]
 have st:=down_step (v:=lr.set k t) (p:=k) (k:=c) (by rw[List.length_set];omega) hpc h0 hdn (by rw[e1,e2];exact hlt) hmin
 have pl:=places_swap (ha.perm hp) (i:=k) (p:=c) (by rw[List.length_set];omega) (by rw[List.length_set];omega) (by omega) hpl
 rw[e2] at pl
 refine ⟨lr.set k (at_ lr c),_,N'+1,by rw[List.length_set];exact hl,by omega,hR,by rw[←es];exact st,?_,by rw[←es];exact pl,hkw.trans hk2 fun _ hx=>Or.inl hx⟩
 rw[←es]
 exact (swap_perm (by rw[List.length_set];omega) (by rw[List.length_set];omega)).trans hp
theorem DownInv.done {w w1 wr w2:World} {hb mb:Nat} {v:Value} {rb:Nat} {l:List Thing} {last:Int} {N k:Nat} {t:Thing} {lr:List Thing} {f:Int→Option Nat} {N':Nat}
  (ha:Apart l) (hk:k<l.length) (hl:lr.length=l.length) (hN:N'≤N+k) (hp:(lr.set k t).Perm l) (hpl:Places f (lr.set k t) k) (hw1:Keeps (Of hb mb v) w w1) (hkw:Keeps (Of hb mb v) w1 wr)
  (hh:Heap (lr.set k t)) (hR:Raw w2 hb mb v rb (lr.set k t) (upd f t.h k) last (N'+1)) (hk2:Keeps (Of hb mb v) wr w2):
  DownOut w hb mb v rb l last N (.returned (.tuple #[])) w2:=by
 have e1:at_ (lr.set k t) k=t:=at_set_same (by omega) t
 have pf:=places_fill (ha.perm hp) (i:=k) (by rw[List.length_set];omega) hpl
 rw[e1] at pf
 exact ⟨rfl,_,_,hR.mono (by omega),hp,pf,hh,(hw1.trans hkw fun _ hx=>Or.inl hx).trans hk2 fun _ hx=>Or.inl hx⟩
end Go.Proofs.YtaangaogmnlljaaGreatDoor.Hp
namespace Go.Proofs.YtaangaogmnlljaaGreatDoor
open Go.RowKit
theorem step_append_own {P:Program} (w:World) {ops:Array Oper} {o:Oper} {a:Act} {K:Act→World→Prop} {Q:Exit→Act→World→Prop} {E:Prop} (hgd:o.guard=none) (s x:Operand) (t:TypeId)
  (ho:o.op= .call { callee:= .builtin .append,args:=#[s,x],argTypes:=#[t,t]})
  (base:Nat) (e:TypeId) (i:TypeInfo) (z:Value) (size bytes:Nat) (ht:P.underlying t=some (.slice e)) (hi:P.info? e=some i) (hz:i.zero=some z)
  (hsize:i.size=size) (hby:i.bytes=bytes) (hzs:z.cells.size=size) (hsz:0<size)
  (v:Value) (n:Nat) (xs:List Value) (hs:a.eval s=v) (hown:w.ownsRow base e size v n xs)
  (ad:Addr) (m c:Nat) (news:List Value) (hx:a.eval x= .slice (some ad) m c) (hl:news.length=m*size) (hnews: ∀j u,news[j]?=some u→w.cell? (ad.add j)=some u) (h1: ∀u∈news,u.oneCell'=true)
  (h63:n+m≤maxLen) (hbytes:(n+m)*bytes≤140737488355328) (hbase:base≤w.heap.size)
  (h: ∀v' w',w'.ownsRow base e size v' (n+m) (xs++news)→w.grownBy w' v.ownBlock→(v'.ownBlock=v.ownBlock∨v'.ownBlock=some w.heap.size)→K (a.put o.dst v') w'):
  if Region.wanted o (yielded ops a.tmps)=true then Oper.wp P o a w K Q else E:=by
 have hw:Region.wanted o (yielded ops a.tmps)=true:=by simp[Region.wanted,hgd]
 rw[if_pos hw]
 obtain ⟨v',w',hrun,h2,h3,_,h4⟩:=run_append_own_at (P:=P) w base t o.type e i z size bytes ht hi hz hsize hby hzs hsz v n xs hown ad m c news hl hnews h1 h63 hbytes hbase
 unfold Oper.wp execOp
 simp only[ho,resolve,invoke,builtin,Sem.run_bind,Sem.run_pure,Result.andThen_ok,List.map_toArray,List.map_cons,List.map_nil,hs,hx,hrun]
 exact h v' w' h2 h3 h4
theorem own_empty (w:World) (base:Nat) (e:TypeId) (size:Nat) (h:base≤w.heap.size):(w.alloc (.cells #[] e)).ownsRow base e size (.slice (some ⟨w.heap.size,0,none⟩) 0 0) 0 []:=
 ⟨by simp, .inr ⟨_,0,#[],rfl,h,heap_alloc_new w _,Nat.le_refl _,by simp[maxLen],by simp,by simp⟩⟩
theorem own_shape {w:World} {base:Nat} {e:TypeId} {size n:Nat} {v:Value} {xs:List Value} (h:w.ownsRow base e size v n xs): ∃A c,v= .slice A n c:=by
 rcases h.2 with ⟨rfl,rfl⟩ |⟨g,cap,cur,rfl,_⟩
 ·exact ⟨_,_,rfl⟩
 ·exact ⟨_,_,rfl⟩
theorem own_apart {w:World} {base base':Nat} {e e':TypeId} {size size':Nat} {v v':Value} {n n':Nat} {xs xs':List Value}
  (h:w.ownsRow base e size v n xs) (h':w.ownsRow base' e' size' v' n' xs') (hne:e≠e'):v.ownBlock=none∨v.ownBlock≠v'.ownBlock:=by
 rcases h.2 with ⟨rfl,_⟩ |⟨g,cap,cur,rfl,_,hg,_⟩
 ·exact .inl rfl
 ·right
  rcases h'.2 with ⟨rfl,_⟩ |⟨g',cap',cur',rfl,_,hg',_⟩
  ·simp[Value.ownBlock]
  ·intro he
   have hgg:g=g':=by simpa[Value.ownBlock] using he
   subst hgg
   rw[hg] at hg'
   injection hg' with hg'
   injection hg' with _ ht
   exact hne ht
end Go.Proofs.YtaangaogmnlljaaGreatDoor
namespace Go.Proofs.YtaangaogmnlljaaGreatDoor.Hp
open Go.RowKit Go.Maps
def Fine (last:Int) (t:Thing):Prop:=(1≤t.h∧t.h≤last)∧(0≤t.d∧t.d<18446744073709551616)∧(0≤t.w∧t.w<18446744073709551616)
def HeapIs (w:World) (hb mb:Nat) (v:Value) (rb:Nat) (S:List Thing) (last:Int) (N:Nat):Prop:=
 ∃(l:List Thing) (f:Int→Option Nat),Raw w hb mb v rb l f last N∧l.Perm S∧Sorted S∧Heap l∧PlacesAll f l∧Apart l∧(∀t∈S,Fine last t)∧0≤last∧last≤1000000
theorem HeapIs.of_blocks {w w':World} {hb mb:Nat} {v:Value} {rb:Nat} {S:List Thing} {last:Int} {N:Nat} (h:HeapIs w hb mb v rb S last N) (e: ∀k,Of hb mb v k→w'.heap[k]?=w.heap[k]?):HeapIs w' hb mb v rb S last N:=by
 obtain ⟨l,f,h1,r⟩:=h
 exact ⟨l,f,h1.of_blocks e,r⟩
theorem HeapIs.of_lt {w:World} {hb mb:Nat} {v:Value} {rb:Nat} {S:List Thing} {last:Int} {N:Nat} (h:HeapIs w hb mb v rb S last N) {k:Nat} (hk:Of hb mb v k):k<w.heap.size:=by
 obtain ⟨l,f,h1,r⟩:=h
 exact h1.of_lt hk
theorem HeapIs.keeps {w w':World} {X:Nat→Prop} {hb mb:Nat} {v:Value} {rb:Nat} {S:List Thing} {last:Int} {N:Nat} (h:HeapIs w hb mb v rb S last N) (k:Keeps X w w') (hx: ∀i,Of hb mb v i→ ¬X i):HeapIs w' hb mb v rb S last N:=
 h.of_blocks fun i hi=>k.block i (h.of_lt hi) (hx i hi)
theorem HeapIs.below {w w':World} {hb mb:Nat} {v:Value} {rb:Nat} {S:List Thing} {last:Int} {N:Nat} (h:HeapIs w hb mb v rb S last N) (k:Below w.heap.size w w'):HeapIs w' hb mb v rb S last N:=
 h.of_blocks fun i hi=>k.block i (h.of_lt hi)
theorem HObj.set2 {w:World} {hb mb:Nat} {v:Value} {last:Int} (h:HObj w hb mb v last) (x:Int):HObj (w.setCell ⟨hb,2,none⟩ (.int .i64 x)) hb mb v x:=by
 unfold HObj at*
 have:=heap_setCell_same w hb 2 _ _ (.int .i64 x) h
 simpa using this
theorem Raw.bump {w:World} {hb mb:Nat} {v:Value} {rb:Nat} {l:List Thing} {f:Int→Option Nat} {last:Int} {N:Nat} (h:Raw w hb mb v rb l f last N) (x:Int):Raw (w.setCell ⟨hb,2,none⟩ (.int .i64 x)) hb mb v rb l f x N:=
 ⟨h.obj.set2 x,ownsRow_of_block h.row fun k hk=>Below.heap_setCell _ _ _ _ (fun e=>h.vh (by rw[hk,e])),h.map.of_block (Below.heap_setCell _ _ _ _ (fun e=>h.hm e.symm))⟩
theorem new_any (w:World):Calls Tryz.prog 161 #[] w fun e w'=> ∃hb mb,e= .returned (.pointer (some ⟨hb,0,none⟩))∧w.heap.size≤hb∧w.heap.size≤mb∧HeapIs w' hb mb (.slice none 0 0) 0 [] 0 0∧Below w.heap.size w w':=by
 have hmm:=@run_makeMap Tryz.prog
 go_enter Tryz.func161,Tryz.ntmps161
 go_wp2
 go_ret
 have hmap:HMap (w.alloc (.map #[] 0)) w.heap.size (fun _=>none) 0:=
  ⟨_,0,World.ownsMap_made w Tryz.prog 3 (plainElem Tryz.prog 3),Nat.le_refl _,fun k _=>⟨rfl,fun j hj=>by cases hj⟩⟩
 have hB:Below w.heap.size w ((w.alloc (.map #[] 0)).alloc (.cells #[.slice none 0 0, .map (some w.heap.size), .int .i64 0] 439)):=((Below.refl _ w).alloc (Nat.le_refl _) _).alloc (by simp) _
 refine ⟨w.heap.size+1,w.heap.size,rfl,by omega,Nat.le_refl _,⟨[],fun _=>none,⟨?_,World.ownsRow_nil _ _ _ _,hmap.of_block (Below.heap_alloc _ _ _ (by simp))⟩,List.Perm.refl _,List.Pairwise.nil,heap_nil,⟨(fun j hj=>absurd hj (by simp)),fun _ _=>rfl⟩,List.nodup_nil,(fun _ ht=>absurd ht (by simp)),by decide,by decide⟩,hB⟩
 unfold HObj
 have:=heap_alloc_new (w.alloc (.map #[] 0)) (.cells #[.slice none 0 0, .map (some w.heap.size), .int .i64 0] 439)
 simpa using this
end Go.Proofs.YtaangaogmnlljaaGreatDoor.Hp
namespace Go.Proofs.YtaangaogmnlljaaGreatDoor.Hp
open Go.RowKit Go.Maps
theorem HMap.look {w:World} {mb:Nat} {f:Int→Option Nat} {N:Nat} (h:HMap w mb f N) {k:Int} (hk:(Lit.int .i64 k).wf=true):
  ∃c:Int,(Instr.lookup 436 (.map (some mb)) (.int .i64 k) true).run Tryz.prog w= .ok (.tuple #[.int .i64 c, .bool (f k).isSome]) w∧ ∀j,f k=some j→c=j:=by
 obtain ⟨D,n,h1,h2,h3⟩:=h
 obtain ⟨v,ps,hrun,hv⟩:=h1.look_ok keyed Tryz.underlying436 (zeroI w) (plainElem_int Tryz.underlying3 (by decide)) (keyOf_int_mk Tryz.underlying3 hk)
 obtain ⟨c,rfl,hc,hwc⟩:=plainElem_int_inv Tryz.underlying3 hv
 obtain ⟨e1,e2⟩:=h3 k hk
 rw[e1] at hrun
 refine ⟨c,hrun,fun j hj=>?_⟩
 have:=congrArg Prod.fst hc
 rw[show (D.atKey (Lit.int .i64 k) (DataW.lit (Lit.int .i64 0)))=_ from e2 j hj] at this
 simp at this
 exact this.symm
theorem Raw.turned {w w':World} {hb mb:Nat} {v:Value} {rb:Nat} {l:List Thing} {f f':Int→Option Nat} {last:Int} {N N':Nat} (h:Raw w hb mb v rb l f last N) (hm:HMap w' mb f' N') (ht:w.mapTurned w' mb):Raw w' hb mb v rb l f' last N':=by
 have hg:=ht.grown
 exact ⟨(hg.block hb h.obj.lt (fun e=>h.hm (by injection e))).trans h.obj,h.row.kept hg (Or.inr (fun e=>h.vm (by rw[e]))),hm⟩
end Go.Proofs.YtaangaogmnlljaaGreatDoor.Hp
namespace Go.Proofs.YtaangaogmnlljaaGreatDoor.Hp
open Go.RowKit Go.Maps
theorem HeapIs.apart {w:World} {hb mb:Nat} {v:Value} {rb:Nat} {S:List Thing} {last:Int} {N:Nat} (h:HeapIs w hb mb v rb S last N):Apart S:=by
 obtain ⟨l,f,hraw,hperm,hsort,hheap,hpl,hap,_⟩:=h
 exact hap.perm hperm.symm
theorem HeapIs.sorted {w:World} {hb mb:Nat} {v:Value} {rb:Nat} {S:List Thing} {last:Int} {N:Nat} (h:HeapIs w hb mb v rb S last N):Sorted S:=by
 obtain ⟨l,f,hraw,hperm,hsort,_⟩:=h
 exact hsort
end Go.Proofs.YtaangaogmnlljaaGreatDoor.Hp
namespace Go.Proofs.YtaangaogmnlljaaGreatDoor.Kn
def prevOf (id:Int):List Slp→Option Slp
 |a::b::L=>if b.id=id then some a else prevOf id (b::L)
 |_=>none
def nextOf (id:Int):List Slp→Option Slp
 |a::L=>if a.id=id then L.head? else nextOf id L
 |[]=>none
def bkt (l:List Slp) (b:Int):List Slp:=l.filter fun s=>bucketOf s.addr==b
def ids (l:List Slp):List Int:=l.map (·.id)
theorem prevOf_mem {id:Int} {p:Slp}: ∀{L:List Slp},prevOf id L=some p→p∈L
 |[],h=>by simp[prevOf] at h
 |[_],h=>by simp[prevOf] at h
 |a::b::L,h=>by
  unfold prevOf at h
  split at h
  ·injection h with h;subst h;simp
  ·exact List.mem_cons_of_mem _ (prevOf_mem h)
theorem nextOf_mem {id:Int} {p:Slp}: ∀{L:List Slp},nextOf id L=some p→p∈L
 |[],h=>by simp[nextOf] at h
 |a::L,h=>by
  unfold nextOf at h
  split at h
  ·exact List.mem_cons_of_mem _ (List.mem_of_mem_head? (by simpa using h))
  ·exact List.mem_cons_of_mem _ (nextOf_mem h)
end Go.Proofs.YtaangaogmnlljaaGreatDoor.Kn
namespace Go.Proofs.YtaangaogmnlljaaGreatDoor.Kn
def zB:Blk:=⟨0,0,0⟩
def bAt (l:List Blk) (i:Nat):Blk:=l.getD i zB
def endL (lo:Nat) (l:List Blk) (i:Nat):Nat:=if i=0 then lo else (bAt l (i - 1)).pos+(bAt l (i - 1)).n
def startL (hi:Nat) (l:List Blk) (i:Nat):Nat:=if i<l.length then (bAt l i).pos else hi
theorem bAt_cons (b:Blk) (l:List Blk) (i:Nat):bAt (b::l) (i+1)=bAt l i:=by simp[bAt]
theorem endL_cons (lo:Nat) (b:Blk) (l:List Blk) (i:Nat):endL lo (b::l) (i+1)=endL (b.pos+b.n) l i:=by
 unfold endL
 rw[if_neg (by omega),Nat.add_sub_cancel]
 cases i with
 |zero=>rfl
 |succ i=>rw[if_neg (by omega),Nat.add_sub_cancel,bAt_cons]
theorem startL_cons (hi:Nat) (b:Blk) (l:List Blk) (i:Nat):startL hi (b::l) (i+1)=startL hi l i:=by
 unfold startL
 by_cases h:i<l.length
 ·rw[if_pos h,if_pos (by simp;omega),bAt_cons]
 ·rw[if_neg h,if_neg (by simp;omega)]
theorem gap_of (n hi:Nat) (l:List Blk) (lo k:Nat) (hk:k≤l.length) (hb: ∀j,j<k→(startL hi l j:Int) - endL lo l j<n) (h: ¬(startL hi l k:Int) - endL lo l k<n):
  gapL n hi lo l=some (endL lo l k,k):=by
 induction l generalizing lo k with
 |nil=>
  obtain rfl:k=0:=by simpa using hk
  have h1:startL hi [] 0=hi:=rfl
  have h2:endL lo [] 0=lo:=rfl
  rw[h1,h2] at h
  unfold gapL
  rw[if_neg h,h2]
 |cons b l ih=>
  unfold gapL
  cases k with
  |zero=>
   have h1:startL hi (b::l) 0=b.pos:=rfl
   have h2:endL lo (b::l) 0=lo:=rfl
   rw[h1,h2] at h
   rw[if_neg h,h2]
  |succ k=>
   have h0:=hb 0 (by omega)
   have h1:startL hi (b::l) 0=b.pos:=rfl
   have h2:endL lo (b::l) 0=lo:=rfl
   rw[h1,h2] at h0
   rw[if_pos h0,ih (b.pos+b.n) k (by simpa using hk) (fun j hj=>by have:=hb (j+1) (by omega);rwa[startL_cons,endL_cons] at this) (by rwa[startL_cons,endL_cons] at h),endL_cons]
   rfl
theorem gap_no (n hi:Nat) (l:List Blk) (lo:Nat) (hb: ∀j,j≤l.length→(startL hi l j:Int) - endL lo l j<n):gapL n hi lo l=none:=by
 induction l generalizing lo with
 |nil=>
  have h:=hb 0 (by simp)
  have h1:startL hi [] 0=hi:=rfl
  have h2:endL lo [] 0=lo:=rfl
  rw[h1,h2] at h
  unfold gapL
  rw[if_pos h]
 |cons b l ih=>
  have h0:=hb 0 (by simp)
  have h1:startL hi (b::l) 0=b.pos:=rfl
  have h2:endL lo (b::l) 0=lo:=rfl
  rw[h1,h2] at h0
  unfold gapL
  rw[if_pos h0,ih (b.pos+b.n) (fun j hj=>by have:=hb (j+1) (by simpa using hj);rwa[startL_cons,endL_cons] at this)]
  rfl
theorem find_no (p:Nat) (l:List Blk) (hb: ∀j,j<l.length→(bAt l j).pos≠p):findB p l=none:=by
 induction l with
 |nil=>rfl
 |cons b l ih=>
  unfold findB
  rw[if_neg (show¬b.pos=p from hb 0 (by simp)),ih fun j hj=>by have:=hb (j+1) (by simpa using hj);rwa[bAt_cons] at this]
  rfl
def okB (hi:Nat):Nat→List Blk→Prop
 |lo,[]=>lo≤hi
 |lo,b::l=>lo≤b.pos∧1≤b.n∧b.n≤4096∧(b.w=32∨b.w=64)∧okB hi (b.pos+b.n) l
theorem okB_len {hi:Nat}: ∀{l:List Blk} {lo:Nat},okB hi lo l→lo+l.length≤hi
 |[],_,h=>h
 |b::l,lo,⟨h1,h2,_,_,h3⟩=>by have:=okB_len h3;simp;omega
theorem okB_in {hi:Nat}: ∀{l:List Blk} {lo:Nat},okB hi lo l→ ∀b∈l,lo≤b.pos∧b.pos+b.n≤hi∧1≤b.n∧b.n≤4096∧(b.w=32∨b.w=64)
 |[],_,_,_,hb=>absurd hb (by simp)
 |c::l,lo,⟨h1,h2,h3,h4,h5⟩,b,hb=>by
  rcases List.mem_cons.1 hb with rfl|hb
  ·have:=okB_len h5;exact ⟨h1,by omega,h2,h3,h4⟩
  ·have:=okB_in h5 b hb;exact ⟨by omega,this.2⟩
theorem okB_gap {hi:Nat}: ∀{l:List Blk} {lo:Nat},okB hi lo l→ ∀i,i≤l.length→lo≤endL lo l i∧endL lo l i≤startL hi l i∧startL hi l i≤hi
 |[],lo,h,i,hi'=>by
  obtain rfl:i=0:=by simpa using hi'
  exact ⟨Nat.le_refl _,h,Nat.le_refl _⟩
 |b::l,lo,⟨h1,h2,h3,h4,h5⟩,i,hi'=>by
  cases i with
  |zero=>have:=okB_len h5;exact ⟨Nat.le_refl _,h1,show b.pos≤hi by omega⟩
  |succ i=>
   have:=okB_gap h5 i (by simpa using hi')
   rw[endL_cons,startL_cons]
   omega
theorem okB_ins {hi n:Nat} {wd:Int} (hn:1≤n) (hn2:n≤4096) (hw:wd=32∨wd=64): ∀{l:List Blk} {lo:Nat},okB hi lo l→ ∀k,k≤l.length→ ¬(startL hi l k:Int) - endL lo l k<n→okB hi lo (l.take k++⟨endL lo l k,n,wd⟩::l.drop k)
 |[],lo,h,k,hk,hg=>by
  obtain rfl:k=0:=by simpa using hk
  have h1:startL hi [] 0=hi:=rfl
  have h2:endL lo [] 0=lo:=rfl
  rw[h1,h2] at hg
  exact ⟨Nat.le_refl _,hn,hn2,hw,show lo+n≤hi by omega⟩
 |b::l,lo,⟨h1,h2,h3,h4,h5⟩,k,hk,hg=>by
  cases k with
  |zero=>
   have e1:startL hi (b::l) 0=b.pos:=rfl
   have e2:endL lo (b::l) 0=lo:=rfl
   rw[e1,e2] at hg
   exact ⟨Nat.le_refl _,hn,hn2,hw,show lo+n≤b.pos by omega,h2,h3,h4,h5⟩
  |succ k=>
   rw[startL_cons,endL_cons] at hg
   rw[endL_cons]
   exact ⟨h1,h2,h3,h4,okB_ins hn hn2 hw h5 k (by simpa using hk) hg⟩
theorem okB_low {hi lo lo':Nat} (h:lo'≤lo): ∀{l:List Blk},okB hi lo l→okB hi lo' l
 |[],h1=>Nat.le_trans h h1
 |_::_,⟨h1,h2⟩=>⟨Nat.le_trans h h1,h2⟩
theorem okB_del {hi:Nat}: ∀{l:List Blk} {lo:Nat},okB hi lo l→ ∀i,okB hi lo (l.eraseIdx i)
 |[],_,h,_=>h
 |b::l,lo,⟨h1,h2,h3,h4,h5⟩,i=>by
  cases i with
  |zero=>exact okB_low (by omega) h5
  |succ i=>exact ⟨h1,h2,h3,h4,okB_del h5 i⟩
theorem bAt_mem {l:List Blk} {i:Nat} (h:i<l.length):bAt l i∈l:=by
 unfold bAt;rw[List.getD_eq_getElem?_getD,List.getElem?_eq_getElem h];exact List.getElem_mem h
end Go.Proofs.YtaangaogmnlljaaGreatDoor.Kn
namespace Go.Proofs.YtaangaogmnlljaaGreatDoor.Kn
section
variable {α β:Type} {k:Nat} {f:α→List β}
theorem flL_len (hf: ∀x,(f x).length=k) (l:List α):(l.flatMap f).length=l.length*k:=by
 induction l with
 |nil=>simp
 |cons x l ih=>rw[List.flatMap_cons,List.length_append,ih,hf,List.length_cons,Nat.succ_mul];omega
theorem flL_at (hf: ∀x,(f x).length=k) (l:List α) (i:Nat) (h:i<l.length) (j:Nat) (hj:j<k):(l.flatMap f)[i*k+j]?=(f l[i])[j]?:=by
 induction l generalizing i with
 |nil=>simp at h
 |cons x l ih=>
  rw[List.flatMap_cons]
  cases i with
  |zero=>rw[Nat.zero_mul,Nat.zero_add,List.getElem?_append_left (by rw[hf];exact hj)];rfl
  |succ i=>
   rw[List.getElem?_append_right (by rw[hf,Nat.succ_mul];omega),hf,show (i+1)*k+j - k=i*k+j by rw[Nat.succ_mul];omega]
   exact ih i (by simpa using h)
theorem flL_take (hf: ∀x,(f x).length=k) (l:List α) (n:Nat):(l.flatMap f).take (n*k)=(l.take n).flatMap f:=by
 induction l generalizing n with
 |nil=>simp
 |cons x l ih=>
  cases n with
  |zero=>simp
  |succ n=>
   rw[List.flatMap_cons,List.take_succ_cons,List.flatMap_cons,List.take_append,List.take_of_length_le (by rw[hf,Nat.succ_mul];omega),hf,show (n+1)*k - k=n*k by rw[Nat.succ_mul];omega,ih]
theorem flL_drop (hf: ∀x,(f x).length=k) (l:List α) (n:Nat):(l.flatMap f).drop (n*k)=(l.drop n).flatMap f:=by
 induction l generalizing n with
 |nil=>simp
 |cons x l ih=>
  cases n with
  |zero=>simp
  |succ n=>
   rw[List.flatMap_cons,List.drop_succ_cons,List.drop_append,List.drop_eq_nil_of_le (by rw[hf,Nat.succ_mul];omega),hf,show (n+1)*k - k=n*k by rw[Nat.succ_mul];omega,ih]
   rfl
theorem flL_set (hf: ∀x,(f x).length=k) (l:List α) (i:Nat) (h:i<l.length) (j:Nat) (hj:j<k) (v:β) (y:α) (hy:(f l[i]).set j v=f y):(l.flatMap f).set (i*k+j) v=(l.set i y).flatMap f:=by
 induction l generalizing i with
 |nil=>simp at h
 |cons x l ih=>
  rw[List.flatMap_cons]
  cases i with
  |zero=>
   rw[Nat.zero_mul,Nat.zero_add,List.set_append_left _ _ (by rw[hf];exact hj),List.set_cons_zero,List.flatMap_cons]
   exact congrArg (· ++l.flatMap f) hy
  |succ i=>
   rw[List.set_append_right _ _ (by rw[hf,Nat.succ_mul];omega),hf,show (i+1)*k+j - k=i*k+j by rw[Nat.succ_mul];omega,List.set_cons_succ,List.flatMap_cons,ih i (by simpa using h) hy]
theorem flL_mid (l:List α) (i:Nat) (h:i<l.length):l.flatMap f=(l.take i).flatMap f++f l[i]++(l.drop (i+1)).flatMap f:=by
 conv=>lhs;rw[←List.take_append_drop i l,List.flatMap_append,List.drop_eq_getElem_cons h,List.flatMap_cons]
 rw[List.append_assoc]
theorem flL_put (l:List α) (i:Nat) (h:i<l.length) (y:α):(l.take i).flatMap f++f y++(l.drop (i+1)).flatMap f=(l.set i y).flatMap f:=by
 rw[flL_mid (f:=f) (l.set i y) i (by simpa using h),List.getElem_set_self,List.take_set_of_le (Nat.le_refl _),List.drop_set_of_lt (by omega)]
theorem set_mid (A y B:List β) (j:Nat) (hj:j<y.length) (v:β):(A++y++B).set (A.length+j) v=A++y.set j v++B:=by
 rw[List.append_assoc,List.set_append_right _ _ (by omega),show A.length+j - A.length=j by omega,List.set_append_left _ _ hj,List.append_assoc]
end
end Go.Proofs.YtaangaogmnlljaaGreatDoor.Kn
namespace Go.Proofs.YtaangaogmnlljaaGreatDoor.Kn
open Go.RowKit
theorem run_copy_rowK {P:Program} (w:World) (dT sT ty elem:TypeId) (k g o dLen dCap:Nat) (a:Addr) (sLen sCap:Nat) (cur:Array Value) (t:TypeId) (cs:List Value)
  (hu:P.underlying dT=some (.slice elem)) (hs:(P.info? elem).map (·.size)=some k)
  (hg:w.heap[g]?=some (.cells cur t (0,0))) (hn:cs.length=Nat.min sLen dLen*k)
  (hsrc: ∀j v,cs[j]?=some v→w.cell? (a.add j)=some v) (hfit:o+cs.length≤cur.size) (h1: ∀v∈cs,v.oneCell'=true):
  (Builtin.copy_ #[dT,sT] ty #[.slice (some ⟨g,o,none⟩) dLen dCap, .slice (some a) sLen sCap]).run P w=
   .ok (goInt (Nat.min sLen dLen)) (w.setRow g (cur.toList.take o++cs++cur.toList.drop (o+cs.length)).toArray):=by
 have hl:=run_loadCells_list (P:=P) w a cs hsrc
 have hst:=run_storeCells_at P g o t cs 0 cur w hg (by simpa using hfit) h1
 cases hq:P.info? elem with
 |none=>simp[hq] at hs
 |some i=>
  have hi:i.size=k:=by simpa[hq] using hs
  simp[Builtin.copy_,run_underlying hu,Builtin.lenOf,Builtin.firstCells,sizeOf,typeInfo,hq,hi,←hn,hl,hst]
theorem run_copy_noneK {P:Program} (w:World) (dT sT ty elem:TypeId) (k:Nat) (d a:Option Addr) (dLen dCap sLen sCap:Nat) (hu:P.underlying dT=some (.slice elem)) (hs:(P.info? elem).map (·.size)=some k) (hn:Nat.min sLen dLen=0):
  (Builtin.copy_ #[dT,sT] ty #[.slice d dLen dCap, .slice a sLen sCap]).run P w= .ok (goInt 0) w:=by
 cases hq:P.info? elem with
 |none=>simp[hq] at hs
 |some i=>
  have hl: ∀(x:Addr),(loadCells x 0).run P w= .ok #[] w:=fun x=>by simpa using run_loadCells_list (P:=P) w x [] (by simp)
  cases d<;>cases a<;>simp[Builtin.copy_,run_underlying hu,Builtin.lenOf,Builtin.firstCells,sizeOf,typeInfo,hq,hn,storeCells,hl]
theorem wpList_copy_eq {P:Program} (w:World) {ops:Array Oper} {rest:List Oper} {o:Oper} {a:Act} {Q:Exit→Act→World→Prop} (hgd:o.guard=none) (d s:Operand) (t t':TypeId)
  (ho:o.op= .call { callee:= .builtin .copy,args:=#[d,s],argTypes:=#[t,t']}) (v u:Value) (hd:a.eval d=v) (hs:a.eval s=u) {v':Value} {w':World}
  (hr:(Builtin.copy_ #[t,t'] o.type #[v,u]).run P w= .ok v' w') (h:wpList P ops Q rest (a.put o.dst v') w'):wpList P ops Q (o::rest) a w:=by
 refine wpList_plain hgd fun K hK=>?_
 unfold Oper.wp execOp
 simp only[ho,resolve,invoke,builtin,Sem.run_bind,Sem.run_pure,Result.andThen_ok,List.map_toArray,List.map_cons,List.map_nil,hd,hs,hr]
 exact hK _ _ h
theorem own_over {w:World} {base:Nat} {e:TypeId} {size n g cap:Nat} {xs:List Value} (h:w.ownsRow base e size (.slice (some ⟨g,0,none⟩) n cap) n xs) (off:Nat) (cs:List Value) (hfit:off+cs.length≤n*size):
  ∃cur:Array Value,w.heap[g]?=some (.cells cur e (0,0))∧off+cs.length≤cur.size∧(w.setRow g (cur.toList.take off++cs++cur.toList.drop (off+cs.length)).toArray).ownsRow base e size (.slice (some ⟨g,0,none⟩) n cap) n (xs.take off++cs++xs.drop (off+cs.length)):=by
 rcases h.2 with ⟨h1,_⟩ |⟨g',cap',cur,hv,hg,hh,hn,hm,hs,ht⟩
 ·cases h1
 ·injection hv with h1 h2 h3
  injection h1 with h1
  injection h1 with h1 _ _
  subst h1 h3
  have hsz:n*size≤cur.size:=by rw[hs];exact Nat.mul_le_mul_right _ hn
  refine ⟨cur,hh,by omega,?_, .inr ⟨g,cap,_,rfl,hg,setRow_heap w g cur _ e _ hh,hn,hm,?_,?_⟩⟩
  ·have:=h.1
   simp only[List.length_append,List.length_take,List.length_drop,this]
   omega
  ·simp only[List.size_toArray,List.length_append,List.length_take,List.length_drop,Array.length_toList,←hs]
   omega
  ·rw[←ht]
   simp only[List.take_append,List.length_append,List.length_take,Array.length_toList,List.take_take,List.drop_take]
   congr 1
   ·congr 1
    ·first|rw[Nat.min_eq_right (by omega),Nat.min_eq_left (by omega)] |rw[Nat.min_eq_left (by omega),Nat.min_eq_right (by omega)] |rw[Nat.min_comm]
    ·rw[List.take_of_length_le (by omega)]
   ·rw[Nat.min_eq_left (by omega:off≤cur.size)]
theorem own_prefix {w:World} {base:Nat} {e:TypeId} {size n g cap:Nat} {xs:List Value} (h:w.ownsRow base e size (.slice (some ⟨g,0,none⟩) n cap) n xs) (m:Nat) (hm:m≤n):w.ownsRow base e size (.slice (some ⟨g,0,none⟩) m cap) m (xs.take (m*size)):=by
 rcases h.2 with ⟨h1,_⟩ |⟨g',cap',cur,hv,hg,hh,hn,hmx,hs,ht⟩
 ·cases h1
 ·injection hv with h1 h2 h3
  injection h1 with h1
  injection h1 with h1 _ _
  subst h1 h3
  have h2:m*size≤n*size:=Nat.mul_le_mul_right _ hm
  refine ⟨by rw[List.length_take,h.1];omega, .inr ⟨g,cap,cur,rfl,hg,hh,by omega,hmx,hs,?_⟩⟩
  rw[←ht,List.take_take,Nat.min_eq_left h2]
theorem grown_setRow (w:World) (g:Nat) (cs:Array Value):(w.setRow g cs).heap.size=w.heap.size:=by simp[World.setRow]
theorem setRow_other' (w:World) (g k:Nat) (cs:Array Value) (h:k≠g):(w.setRow g cs).heap[k]?=w.heap[k]?:=setRow_other w g k cs h
end Go.Proofs.YtaangaogmnlljaaGreatDoor.Kn
namespace Go.Proofs.YtaangaogmnlljaaGreatDoor.Kn
open Go.RowKit
theorem wraps_u64 (n:Int) (h₀:0≤n) (h₁:n<2^64):IntKind.u64.wrap n=n:=by rw[IntKind.wrap_u64];omega
theorem and_low (v:Int) (hv:0≤v∧v<18446744073709551616):bits .and .u64 v 4294967295=v%4294967296:=by
 have e0:(2:Int)^64=18446744073709551616:=by decide
 have h:=bits_mask .u64 64 (by decide) wraps_u64 32 (by decide) v hv.1 (by rw[e0];exact hv.2)
 have e:((2:Int)^32 - 1)=4294967295:=by decide
 have e2:((2:Int)^32)=4294967296:=by decide
 rw[e,e2] at h
 exact h
theorem cut_any (wd v:Int) (w:World) (hv:0≤v∧v<18446744073709551616):Calls Tryz.prog 270 #[.int .i64 wd, .int .u64 v] w fun e w'=>e= .returned (.int .u64 (cutW wd v))∧w=w':=by
 have hlow:=and_low v hv
 clear hv
 by_cases h1:wd=32
 ·subst h1
  go_enter Tryz.func270,Tryz.ntmps270
  go_wp2
  go_ret
  exact ⟨rfl,rfl⟩
 ·by_cases h2:wd=64
  ·subst h2
   go_enter Tryz.func270,Tryz.ntmps270
   go_wp2
   go_ret
   exact ⟨rfl,rfl⟩
  ·have e1:(wd==32)=false:=by simp[h1]
   have e2:(wd==64)=false:=by simp[h2]
   have e3:cutW wd v=0:=by unfold cutW;rw[if_neg h2,if_neg h1]
   rw[e3]
   go_enter Tryz.func270,Tryz.ntmps270
   go_wp2
   go_ret
   exact ⟨rfl,rfl⟩
theorem cutW_range {wd v:Int} (hv:0≤v∧v<18446744073709551616):0≤cutW wd v∧cutW wd v<18446744073709551616:=by
 unfold cutW;split
 ·exact hv
 ·split<;>omega
set_option maxRecDepth 100000 in
theorem sum_any (wd a b:Int) (w:World) (ha:0≤a∧a<18446744073709551616) (hb:0≤b∧b<18446744073709551616):Calls Tryz.prog 259 #[.int .i64 wd, .int .u64 a, .int .u64 b] w fun e w'=>e= .returned (.int .u64 (sumW wd a b))∧w=w':=by
 have h1:=Lib.hid (fun W=>cut_any wd a W ha)
 have h2:=Lib.hid (fun W=>cut_any wd b W hb)
 have h3:=Lib.hid (fun x W hx=>cut_any wd x W hx)
 have r1:=cutW_range (wd:=wd) ha
 have r2:=cutW_range (wd:=wd) hb
 unfold sumW
 generalize cutW wd a=ca at*
 generalize cutW wd b=cb at*
 have hw:IntKind.u64.wrap (ca+cb)=(ca+cb)%18446744073709551616:=by rw[IntKind.wrap_u64]
 have hr:0≤(ca+cb)%18446744073709551616∧(ca+cb)%18446744073709551616<18446744073709551616:=by omega
 generalize (ca+cb)%18446744073709551616=m at*
 have HR:=Lib.hid hr
 clear hr ha hb r1 r2
 go_enter Tryz.func259,Tryz.ntmps259
 go_wp2_with fail
 refine (h1.out _).mono ?_
 rintro e w1 ⟨rfl,rfl⟩
 go_wp2_with fail
 refine (h2.out _).mono ?_
 rintro e w1 ⟨rfl,rfl⟩
 go_wp2_with fail
 refine (h3.out m _ HR.out).mono ?_
 rintro e w1 ⟨rfl,rfl⟩
 go_wp2_with fail
 go_ret
 exact ⟨rfl,rfl⟩
theorem sumW_range {wd a b:Int}:0≤sumW wd a b∧sumW wd a b<18446744073709551616:=cutW_range (by omega)
theorem hash_mul (a:Int):wrap64 ((IntKind.u64.wrap (a*11400714819323198485)/4294967296).tmod 8)=bucketOf a:=by
 rw[IntKind.wrap_u64]
 unfold bucketOf hashW
 rw[Int.tmod_eq_emod_of_nonneg (by omega)]
 unfold wrap64
 omega
theorem bucket_any (a:Int) (w:World):Calls Tryz.prog 235 #[.int .u64 a, .int .i64 8] w fun e w'=>e= .returned (.int .i64 (bucketOf a))∧w=w':=by
 go_enter Tryz.func235,Tryz.ntmps235
 go_wp2_with fail
 rw[hash_mul]
 go_ret
 exact ⟨rfl,rfl⟩
end Go.Proofs.YtaangaogmnlljaaGreatDoor.Kn
namespace Go.Proofs.YtaangaogmnlljaaGreatDoor.Kn
open Asm Hp
def view (l:List TRow) (id:Int):Option (Int×Bool):=(lookT l id).map fun t=>(t.state,t.stepping)
def aliveV (o:Option (Int×Bool)):Prop:= ∃p,o=some p∧(p.1=4→p.2=true)
theorem view_of {l:List TRow} {id:Int} {p:Nat} {r:TRow} (h:ofT l id=some (p,r)):view l id=some (r.t.state,r.t.stepping):=by
 unfold view lookT;rw[h];rfl
theorem view_none {l:List TRow} {id:Int} (h:ofT l id=none):view l id=none:=by
 unfold view lookT;rw[h];rfl
end Go.Proofs.YtaangaogmnlljaaGreatDoor.Kn
namespace Go.Proofs.YtaangaogmnlljaaGreatDoor.Kn
open Asm Hp
def handsOf (M:Mach):List Int:=M.wkrs.map (·.hand)
def slotsOf (M:Mach):List Int:=M.wkrs.map (·.slot)
def Based (r:Run):Prop:=(∃f l,r.l=f::l∧f.lib=false)∧r.l.length≤9∧(r.l.length=9→(topF r).lib=true)
structure InvA (ring hands slots:List Int) (v:Int→Option (Int×Bool)):Prop where
 once: ∀id,id≠0→ring.count id+hands.count id+slots.count id≤1
 away: ∀id,id≠0→id∈ring∨id∈hands→ ∃p,v id=some p∧(p.1=1∨p.1=4∧p.2=true)
 on: ∀id,id≠0→id∈slots→ ∃p,v id=some p∧(p.1=2∨p.1=4∧p.2=true)
structure Inv (M:Mach):Prop where
 nod:(M.runs.map (·.id)).Nodup
 has: ∀id,(runOf M.runs id).isSome=true↔aliveV (view M.tab id)
 base: ∀r∈M.runs,Based r
 pl:InvA M.ring (handsOf M) (slotsOf M) (view M.tab)
 slp: ∀s∈M.slps,aliveV (view M.tab s.id)
 clk: ∀t∈M.clk.S,aliveV (view M.tab t.w)
structure Same (M M':Mach):Prop where
 ring:M'.ring=M.ring
 hands:handsOf M'=handsOf M
 slots:slotsOf M'=slotsOf M
 tab:M'.tab=M.tab
 slps:M'.slps=M.slps
 clk:M'.clk=M.clk
 ids:M'.runs.map (·.id)=M.runs.map (·.id)
 base:(∀r∈M.runs,Based r)→ ∀r∈M'.runs,Based r
theorem Same.refl (M:Mach):Same M M:=⟨rfl,rfl,rfl,rfl,rfl,rfl,rfl,id⟩
theorem Same.trans {a b c:Mach} (h:Same a b) (k:Same b c):Same a c:=
 ⟨k.ring.trans h.ring,k.hands.trans h.hands,k.slots.trans h.slots,k.tab.trans h.tab,k.slps.trans h.slps,k.clk.trans h.clk,k.ids.trans h.ids,fun hb=>k.base (h.base hb)⟩
theorem runOf_mem {l:List Run} {id:Int} {r:Run} (h:runOf l id=some r):r∈l∧r.id=id:=⟨List.mem_of_find?_eq_some h,by simpa using List.find?_some h⟩
theorem runOf_iff (l:List Run) (id:Int):(runOf l id).isSome=true↔id∈l.map (·.id):=by
 unfold runOf
 rw[List.find?_isSome]
 constructor
 ·rintro ⟨r,hr,he⟩
  rw[←eq_of_beq he]
  exact List.mem_map_of_mem hr
 ·intro h
  obtain ⟨r,hr,he⟩:=List.mem_map.1 h
  exact ⟨r,hr,by simp[he]⟩
theorem runOf_in {l:List Run} (hn:(l.map (·.id)).Nodup) {r:Run} (hr:r∈l):runOf l r.id=some r:=by
 induction l with
 |nil=>cases hr
 |cons a l ih=>
  rw[List.map_cons,List.nodup_cons] at hn
  unfold runOf
  rw[List.find?_cons]
  rcases List.mem_cons.1 hr with e|e
  ·subst e;simp
  ·have:(a.id==r.id)=false:=by
    simp
    intro e2
    exact hn.1 (by rw[e2];exact List.mem_map_of_mem (f:=(·.id)) e)
   rw[this]
   exact ih hn.2 e
theorem setRun_ids (l:List Run) (r:Run):(setRun l r).map (·.id)=l.map (·.id):=by
 unfold setRun
 rw[List.map_map]
 apply List.map_congr_left
 intro s _
 simp only[Function.comp]
 split
 ·rename_i h;exact (eq_of_beq h).symm
 ·rfl
theorem runOf_setRun {l:List Run} (hn:(l.map (·.id)).Nodup) {r0 r:Run} (h0:runOf l r.id=some r0) (x:Int):runOf (setRun l r) x=if x=r.id then some r else runOf l x:=by
 induction l with
 |nil=>cases h0
 |cons a l ih=>
  rw[List.map_cons,List.nodup_cons] at hn
  unfold runOf setRun at*
  rw[List.map_cons,List.find?_cons,List.find?_cons]
  rw[List.find?_cons] at h0
  by_cases ha:a.id=r.id
  ·have e1:(a.id==r.id)=true:=by simp[ha]
   rw[if_pos e1]
   by_cases hx:x=r.id
   ·subst hx;simp
   ·have e2:(r.id==x)=false:=by simp;exact fun e=>hx e.symm
    have e3:(a.id==x)=false:=by rw[ha];exact e2
    rw[e2,e3,if_neg hx]
    have e4:(l.map fun s=>if s.id==r.id then r else s)=l:=by
     conv=>rhs;rw[←List.map_id l]
     apply List.map_congr_left
     intro s hs
     have:(s.id==r.id)=false:=by
      simp
      intro e
      exact hn.1 (by rw[ha,←e];exact List.mem_map_of_mem (f:=(·.id)) hs)
     rw[this]
     rfl
    rw[e4]
  ·have e1:(a.id==r.id)=false:=by simp[ha]
   rw[e1] at h0
   rw[if_neg (by rw[e1];exact Bool.false_ne_true)]
   by_cases hx:a.id=x
   ·have e2:(a.id==x)=true:=by simp[hx]
    rw[e2,if_neg (by rw[←hx];exact ha)]
   ·have e2:(a.id==x)=false:=by simp[hx]
    rw[e2]
    exact ih hn.2 h0
theorem Inv.same {M M':Mach} (h:Inv M) (k:Same M M'):Inv M':=by
 refine ⟨by rw[k.ids];exact h.nod,fun id=>?_,k.base h.base,by rw[k.ring,k.hands,k.slots,k.tab];exact h.pl,by rw[k.slps,k.tab];exact h.slp,by rw[k.clk,k.tab];exact h.clk⟩
 rw[runOf_iff,k.ids,←runOf_iff,k.tab]
 exact h.has id
theorem set_get {α:Type} {l:List α} {i:Nat} {x:α} (h:l[i]?=some x):l.set i x=l:=by
 apply List.ext_getElem?
 intro j
 rw[List.getElem?_set]
 split
 ·rename_i e
  subst e
  split
  ·exact h.symm
  ·rename_i hl
   rw[List.getElem?_eq_none (by omega)]
 ·rfl
def TopC (M:Mach) (id:Int):Prop:= ∀r,runOf M.runs id=some r→(topF r).lib=false
theorem TopC.setF {M:Mach} {id:Int} (hn:(M.runs.map (·.id)).Nodup) (h:TopC M id) (i:Nat) (t:Option Int) (f:Frame):TopC (setF M i t f) id:=by
 intro r hr
 cases t with
 |none=>exact h r hr
 |some k=>
  unfold Kn.setF at hr
  simp only at hr
  cases e:runOf M.runs k with
  |none=>rw[e] at hr;exact h r hr
  |some r0=>
   rw[e] at hr
   simp only at hr
   have hid:=(runOf_mem e).2
   rw[runOf_setRun hn (r0:=r0) (by show runOf M.runs r0.id=some r0;rw[hid];exact e)] at hr
   split at hr
   ·rename_i hx
    have hx2:id=k:=hx.trans hid
    rw[←Option.some.inj hr]
    have:topF (withTop r0 { topF r0 with f:=f})={ topF r0 with f:=f}:=by
     unfold topF withTop;simp
    rw[this]
    exact h r0 (by rw[hx2];exact e)
   ·exact h r hr
end Go.Proofs.YtaangaogmnlljaaGreatDoor.Kn
namespace Go.Proofs.YtaangaogmnlljaaGreatDoor.Kn
open Asm Hp
theorem count_set: ∀{l:List Int} {i:Nat} {a:Int},l[i]?=some a→ ∀x y:Int,(l.set i x).count y+(if a=y then 1 else 0)=l.count y+(if x=y then 1 else 0)
 |[],_,_,h,_,_=>by cases h
 |b::l,0,a,h,x,y=>by
  simp at h
  subst h
  simp[List.count_cons]
  by_cases h1:b=y<;>by_cases h2:x=y<;>simp[h1,h2]
 |b::l,i+1,a,h,x,y=>by
  have:=count_set (l:=l) (i:=i) (a:=a) (by simpa using h) x y
  simp[List.count_cons]
  omega
abbrev V:=Int→Option (Int×Bool)
def nowhere (ring hands slots:List Int) (id:Int):Prop:=ring.count id=0∧hands.count id=0∧slots.count id=0
section
variable {ring hands slots:List Int} {v v':V}
theorem InvA.at (h:InvA ring hands slots v) {id:Int} (hn:nowhere ring hands slots id) (e: ∀x,x≠id→v' x=v x):InvA ring hands slots v':=by
 obtain ⟨n1,n2,n3⟩:=hn
 rw[List.count_eq_zero] at n1 n2 n3
 refine ⟨h.once,fun x hx hm=>?_,fun x hx hm=>?_⟩
 ·rw[e x (by rintro rfl;exact hm.elim n1 n2)];exact h.away x hx hm
 ·rw[e x (by rintro rfl;exact n3 hm)];exact h.on x hx hm
theorem pos_of {l:List Int} {x:Int} (h:x∈l):0<l.count x:=List.count_pos_iff.2 h
theorem InvA.less (h:InvA ring hands slots v) {ring' hands' slots':List Int} (hr: ∀x,x≠0→ring'.count x≤ring.count x) (hh: ∀x,x≠0→hands'.count x≤hands.count x) (hs: ∀x,x≠0→slots'.count x≤slots.count x):InvA ring' hands' slots' v:=by
 refine ⟨fun x hx=>?_,fun x hx hm=>h.away x hx ?_,fun x hx hm=>h.on x hx ?_⟩
 ·have:=h.once x hx;have:=hr x hx;have:=hh x hx;have:=hs x hx;omega
 ·rcases hm with hm|hm
  ·have:=pos_of hm;have:=hr x hx;exact Or.inl (List.count_pos_iff.1 (by omega))
  ·have:=pos_of hm;have:=hh x hx;exact Or.inr (List.count_pos_iff.1 (by omega))
 ·have:=pos_of hm;have:=hs x hx;exact List.count_pos_iff.1 (by omega)
theorem InvA.ringed (h:InvA ring hands slots v) {id:Int} (hn:nowhere ring hands slots id) {p:Int×Bool} (hv:v id=some p) (hp:p.1=1∨p.1=4∧p.2=true):InvA (putRing ring id) hands slots v:=by
 unfold putRing
 split
 ·exact h
 ·obtain ⟨n1,n2,n3⟩:=hn
  refine ⟨fun x hx=>?_,fun x hx hm=>?_,h.on⟩
  ·rw[List.count_append,List.count_singleton]
   have:=h.once x hx
   by_cases e:id=x
   ·subst e;simp[n1,n2,n3]
   ·have:(id==x)=false:=by simp[e]
    rw[this];simp;omega
  ·by_cases e:x=id
   ·subst e;exact ⟨p,hv,hp⟩
   ·refine h.away x hx ?_
    rcases hm with hm|hm
    ·rcases List.mem_append.1 hm with hm|hm
     ·exact Or.inl hm
     ·exact absurd (List.mem_singleton.1 hm) e
    ·exact Or.inr hm
theorem InvA.handed (h:InvA ring hands slots v) {id:Int} (hn:nowhere ring hands slots id) {p:Int×Bool} (hv:v id=some p) (hp:p.1=1∨p.1=4∧p.2=true) {i:Nat} (hi:hands[i]?=some 0):InvA ring (hands.set i id) slots v:=by
 obtain ⟨n1,n2,n3⟩:=hn
 refine ⟨fun x hx=>?_,fun x hx hm=>?_,h.on⟩
 ·have:=h.once x hx
  have hc:=count_set hi id x
  rw[if_neg (Ne.symm hx)] at hc
  by_cases e:id=x
  ·subst e;rw[if_pos rfl] at hc;omega
  ·rw[if_neg e] at hc;omega
 ·by_cases e:x=id
  ·subst e;exact ⟨p,hv,hp⟩
  ·refine h.away x hx ?_
   rcases hm with hm|hm
   ·exact Or.inl hm
   ·rcases List.mem_or_eq_of_mem_set hm with hm|hm
    ·exact Or.inr hm
    ·exact absurd hm e
end
theorem Inv.re {M M':Mach} (h:Inv M) (ids:M'.runs.map (·.id)=M.runs.map (·.id)) (base: ∀r∈M'.runs,Based r) (hs: ∀s∈M'.slps,aliveV (view M.tab s.id)) (hc: ∀t∈M'.clk.S,aliveV (view M.tab t.w))
  (ha: ∀x,aliveV (view M'.tab x)↔aliveV (view M.tab x)) (hp:InvA M'.ring (handsOf M') (slotsOf M') (view M'.tab)):Inv M':=by
 refine ⟨by rw[ids];exact h.nod,fun id=>?_,base,hp,fun s hs'=>(ha _).2 (hs s hs'),fun t ht=>(ha _).2 (hc t ht)⟩
 rw[runOf_iff,ids,←runOf_iff,ha];exact h.has id
end Go.Proofs.YtaangaogmnlljaaGreatDoor.Kn
namespace Go.Proofs.YtaangaogmnlljaaGreatDoor.Kn
open Asm Hp
def BornOk (l:List TRow):Prop:= ∀home id l',bornT l home=some (id,l')→id≠0∧view l id=none∧ ∀x,view l' x=if x=id then some (1,false) else view l x
theorem ite_ok {α:Type} {P:α→Prop} {c:Prop} [Decidable c] {a b:α} (h1:c→P a) (h2: ¬c→P b):P (if c then a else b):=by
 split
 ·exact h1 (by assumption)
 ·exact h2 (by assumption)
end Go.Proofs.YtaangaogmnlljaaGreatDoor.Kn
namespace Go.Proofs.YtaangaogmnlljaaGreatDoor
open Go
theorem wpAny_quiet_rest {P:Program} {ops:Array Oper} {Q:Exit→Act→World→Prop} {a:Act} {w:World} (hs:Region.noSelect ops=true) (l:List Oper) (k:Nat) (listed:Array Bool) (hl: ∀j,l[j]?=ops[k+j]?)
  (hB:Region.lexFrom .any ops l.length k listed=true)
  (h:wpQuiet P ops (fun w'=> ∃n,w'=w.drewN n) (fun a'=> ∀w',(∃n,w'=w.drewN n)→Q .normal a' w') l a):wpAny P .any ops Q l.length listed a w:=
 wpAny_of_quiet (C:=fun w'=> ∃n,w'=w.drewN n) (Q:=fun a'=> ∀w',(∃n,w'=w.drewN n)→Q .normal a' w') (fun _ w' hw' h=>h w' hw') _ _ _ _ ⟨0,rfl⟩ (wpAnyQ_lex (md:= .any) hs l k listed a hl hB h)
theorem wp_region_two_call {P:Program} {id:Nat} {ops:Array Oper} {Q:Exit→Act→World→Prop} {a:Act} {w:World} {o0 o1 o2:Oper} {l:List Oper} (hm:P.follows .mixedOrders=true)
  (hops:ops=(o0::o1::o2::l).toArray) (hs:Region.noSelect ops=true)
  (hr0:Region.ready .any ops (Array.replicate ops.size false)= [0,1])
  (hr1:Region.ready .any ops ((Array.replicate ops.size false).setIfInBounds 0 true)= [1])
  (hr2:Region.ready .any ops ((Array.replicate ops.size false).setIfInBounds 1 true)= [0])
  (hr3:Region.ready .any ops (((Array.replicate ops.size false).setIfInBounds 0 true).setIfInBounds 1 true)= [2])
  (hB:Region.lexFrom .any ops l.length 3 ((((Array.replicate ops.size false).setIfInBounds 0 true).setIfInBounds 1 true).setIfInBounds 2 true)=true)
  (g0:o0.guard=none) (g1:o1.guard=none) (g2:o2.guard=none) (v0 v1:Value)
  (h0: ∀(w':World),(execOp a.eval o0).run P w'= .ok (.value v0) w') (h0': ∀(w':World),(execOp (a.put o1.dst v1).eval o0).run P w'= .ok (.value v0) w')
  (h1: ∀(w':World),(execOp a.eval o1).run P w'= .ok (.value v1) w') (h1': ∀(w':World),(execOp (a.put o0.dst v0).eval o1).run P w'= .ok (.value v1) w')
  (hcomm:(a.put o1.dst v1).put o0.dst v0=(a.put o0.dst v0).put o1.dst v1)
  (h2: ∀K:Act→World→Prop,(∀a' w',wpQuiet P ops (fun x=> ∃n,x=w'.drewN n) (fun a''=> ∀x,(∃n,x=w'.drewN n)→Q .normal a'' x) l a'→K a' w')→Oper.wp P o2 ((a.put o0.dst v0).put o1.dst v1) w.drew K Q):
  (Code.region id ops true).wp P Q a w:=by
 have e0:ops[0]?=some o0:=by rw[hops];rfl
 have e1:ops[1]?=some o1:=by rw[hops];rfl
 have e2:ops[2]?=some o2:=by rw[hops];rfl
 have hl: ∀j,l[j]?=ops[3+j]?:=by
  intro j;rw[hops];simp[Nat.add_comm 3 j]
 have hsz:ops.size=l.length+1+1+1:=by rw[hops];simp
 have two:wpAny P .any ops Q (l.length+1) (((Array.replicate ops.size false).setIfInBounds 0 true).setIfInBounds 1 true) ((a.put o0.dst v0).put o1.dst v1) w.drew:=by
  refine wpAny_ready hr3 (by simp) (AllReady.cons e2 ?_ AllReady.nil)
  intro K' hK'
  rw[if_pos (by simp[Region.wanted,g2])]
  exact h2 K' fun a' w' hq=>hK' a' w' (wpAny_quiet_rest hs l 3 _ hl hB hq)
 refine wp_region_any hm ?_
 rw[show wpAny P .any ops Q ops.size=wpAny P .any ops Q (l.length+1+1+1) by rw[hsz]]
 refine wpAny_ready hr0 (by simp) (AllReady.cons e0 ?_ (AllReady.cons e1 ?_ AllReady.nil))
 ·intro K' hK'
  rw[if_pos (by simp[Region.wanted,g0])]
  unfold Oper.wp
  rw[h0]
  refine hK' _ _ (wpAny_ready hr1 (by simp) (AllReady.cons e1 ?_ AllReady.nil))
  intro K'' hK''
  rw[if_pos (by simp[Region.wanted,g1])]
  unfold Oper.wp
  rw[h1']
  exact hK'' _ _ two
 ·intro K' hK'
  rw[if_pos (by simp[Region.wanted,g1])]
  unfold Oper.wp
  rw[h1]
  refine hK' _ _ (wpAny_ready hr2 (by simp) (AllReady.cons e0 ?_ AllReady.nil))
  intro K'' hK''
  rw[if_pos (by simp[Region.wanted,g0])]
  unfold Oper.wp
  rw[h0']
  refine hK'' _ _ ?_
  rw[hcomm,Array.setIfInBounds_comm _ _ (by omega)]
  exact two
end Go.Proofs.YtaangaogmnlljaaGreatDoor
namespace Go.Proofs.YtaangaogmnlljaaGreatDoor
open Go.RowKit
theorem row_at {w:World} {base:Nat} {e:TypeId} {size n:Nat} {v:Value} {xs:List Value} (h:w.ownsRow base e size v n xs):(v= .slice none 0 0∧n=0∧xs= [])∨ ∃g c,v= .slice (some ⟨g,0,none⟩) n c∧ ∀j u,xs[j]?=some u→w.cell? ((⟨g,0,none⟩:Addr).add j)=some u:=by
 have h0:=h
 rcases h with ⟨hl,⟨rfl,rfl⟩ |⟨g,cap,cur,rfl,_⟩⟩
 ·exact Or.inl ⟨rfl,rfl,by simpa using hl⟩
 ·exact Or.inr ⟨g,cap,rfl,fun j u hu=>h0.cells rfl j u hu⟩
theorem app_row {P:Program} {w:World} (base:Nat) (t ty e:TypeId) (i:TypeInfo) (z:Value) (size bytes:Nat) (ht:P.underlying t=some (.slice e)) (hi:P.info? e=some i) (hz:i.zero=some z)
  (hsize:i.size=size) (hby:i.bytes=bytes) (hzs:z.cells.size=size) (hsz:0<size)
  {v:Value} {n:Nat} {xs:List Value} (hown:w.ownsRow base e size v n xs) {b2:Nat} {v2:Value} {m:Nat} {ys:List Value} (h2:w.ownsRow b2 e size v2 m ys) (h1: ∀u∈ys,u.oneCell'=true)
  (h63:n+m≤maxLen) (hbytes:(n+m)*bytes≤140737488355328) (hbase:base≤w.heap.size):
  ∃v' w',(Builtin.append_ #[t,t] ty #[v,v2]).run P w= .ok v' w'∧w'.ownsRow base e size v' (n+m) (xs++ys)∧w.grownBy w' v.ownBlock∧(v'.ownBlock=v.ownBlock∨v'.ownBlock=some w.heap.size):=by
 rcases row_at h2 with ⟨rfl,rfl,rfl⟩ |⟨g,c,rfl,hc⟩
 ·refine ⟨v,w,run_append_owned_none (P:=P) (w:=w) base t ty e i size ht hi v n xs hown,?_,⟨rfl,rfl,rfl,Nat.le_refl _,fun _ _ _=>rfl⟩,Or.inl rfl⟩
  rw[List.append_nil];exact hown
 ·obtain ⟨v',w',hrun,q2,q3,_,q4⟩:=run_append_own_at (P:=P) w base t ty e i z size bytes ht hi hz hsize hby hzs hsz v n xs hown ⟨g,0,none⟩ m c ys h2.1 hc h1 h63 hbytes hbase
  exact ⟨v',w',hrun,q2,q3,q4⟩
end Go.Proofs.YtaangaogmnlljaaGreatDoor
namespace Go.Proofs.YtaangaogmnlljaaGreatDoor.Kn
open Asm Hp
def withR (A:Mach) (R:List Run):Mach:={ A with runs:=R}
def dPick:Entry:=⟨1,0,0⟩
structure FLike (F G:Fixed):Prop where
 lib:F.lib=G.lib
 loop:F.loop=G.loop
 workers:F.workers=G.workers
def okOp (op:Int):Bool:=op==34||op==35||op==36||op==38||op==39||op==40||op==42
def okOwn (F:Fixed) (A:Mach):Bool:=match insAt F.lib (wkrOf A 0).f.pc with
 |none=>false
 |some x=>(stepL (wkrOf A 0).f F.lib A.mem).how==0||((stepL (wkrOf A 0).f F.lib A.mem).how==1&&okOp x.op)
theorem mark_withR (A:Mach) (R:List Run) (id:Int) (f:Frame) (x:InsL):markK (withR A R) id f x=withR (markK A id f x) R:=by
 unfold markK
 simp only
 generalize (if hasA x.op=true then rg f x.a else 0)=c
 split
 ·rfl
 ·split<;>rfl
theorem special_withR {F G:Fixed} (hl:FLike F G) (A:Mach) (R:List Run) (x:InsL) (ho:okOp x.op=true):special F (withR A R) 0 none x=((special G A 0 none x).1,withR (special G A 0 none x).2 R):=by
 have hw:=hl.workers
 unfold okOp at ho
 simp only[Bool.or_eq_true,beq_iff_eq] at ho
 rcases ho with (((((ho|ho) |ho) |ho) |ho) |ho) |ho
 all_goals
  unfold special
  simp only[ho,Int.reduceEq,or_self,if_false,if_true]
 ·show ((0:Int),if (wkrOf A 0).hand=0 then _ else _)=_
  by_cases h:(wkrOf A 0).hand=0
  ·rw[if_pos h,if_pos h];try rfl
  ·rw[if_neg h,if_neg h];try rfl
 ·show ((0:Int),if (wkrOf A 0).hand≠0∧rg (getF A 0 none) x.a=(wkrOf A 0).hand∧(wkrOf A 0).slot=0 then _ else _)=_
  by_cases h:(wkrOf A 0).hand≠0∧rg (getF A 0 none) x.a=(wkrOf A 0).hand∧(wkrOf A 0).slot=0
  ·rw[if_pos h,if_pos h];try rfl
  ·rw[if_neg h,if_neg h];try rfl
 ·show (if peekM A.mem 0=rg (getF A 0 none) x.a then _ else _)=_
  by_cases h:peekM A.mem 0=rg (getF A 0 none) x.a
  ·rw[if_pos h,if_pos h];try rfl
  ·rw[if_neg h,if_neg h];try rfl
 ·unfold told deckK;simp only[ho,Int.reduceEq,if_false,if_true,hw];try rfl
 ·unfold told deckK;simp only[ho,Int.reduceEq,if_false,if_true,hw];try rfl
 ·unfold told;simp only[ho,Int.reduceEq,if_false,if_true,hw];try rfl
 ·unfold told;simp only[ho,Int.reduceEq,if_false,if_true];try rfl
theorem lib0 {F:Fixed} {A:Mach} {x:InsL} (hx:insAt F.lib (wkrOf A 0).f.pc=some x) (h:(stepL (wkrOf A 0).f F.lib A.mem).how=0):library F A 0 none=(0,markK (setF { A with mem:=(stepL (wkrOf A 0).f F.lib A.mem).mem} 0 none (stepL (wkrOf A 0).f F.lib A.mem).f) 0 (stepL (wkrOf A 0).f F.lib A.mem).f x):=by
 have e2:getF A 0 none=(wkrOf A 0).f:=rfl
 unfold library
 simp only[e2,hx,h,if_true,Option.getD_some,Option.getD_none]
theorem lib1 {F:Fixed} {A:Mach} {x:InsL} (hx:insAt F.lib (wkrOf A 0).f.pc=some x) (h:(stepL (wkrOf A 0).f F.lib A.mem).how=1) (h57:x.op≠57):library F A 0 none=if (special F A 0 none x).1=0 then (0,markK (bumpF (special F A 0 none x).2 0 none) 0 (getF (bumpF (special F A 0 none x).2 0 none) 0 none) x) else if (special F A 0 none x).1=1 then (1,(special F A 0 none x).2) else (3,(special F A 0 none x).2):=by
 have e2:getF A 0 none=(wkrOf A 0).f:=rfl
 unfold library
 simp only[e2,hx,h,if_neg h57,Int.reduceEq,if_false,if_true,Option.getD_some,Option.getD_none]
theorem library_withR {F G:Fixed} (hl:FLike F G) (A:Mach) (R:List Run) (ho:okOwn G A=true):library F (withR A R) 0 none=((library G A 0 none).1,withR (library G A 0 none).2 R):=by
 unfold okOwn at ho
 cases hx:insAt G.lib (wkrOf A 0).f.pc with
 |none=>rw[hx] at ho;cases ho
 |some x=>
  rw[hx] at ho
  simp only[Bool.or_eq_true,Bool.and_eq_true,beq_iff_eq] at ho
  have hx':insAt F.lib (wkrOf (withR A R) 0).f.pc=some x:=by rw[hl.lib];exact hx
  have hst:stepL (wkrOf (withR A R) 0).f F.lib (withR A R).mem=stepL (wkrOf A 0).f G.lib A.mem:=by rw[hl.lib];try rfl
  rcases ho with ho|⟨ho,hop⟩
  ·rw[lib0 hx ho,lib0 hx' (by rw[hst];exact ho),hst]
   have:=mark_withR (setF { A with mem:=(stepL (wkrOf A 0).f G.lib A.mem).mem} 0 none (stepL (wkrOf A 0).f G.lib A.mem).f) R 0 (stepL (wkrOf A 0).f G.lib A.mem).f x
   exact congrArg (Prod.mk 0) this
  ·have h57:x.op≠57:=fun e=>by rw[e] at hop;cases hop
   rw[lib1 hx ho h57,lib1 hx' (by rw[hst];exact ho) h57,special_withR hl A R x hop]
   generalize special G A 0 none x=p
   obtain ⟨c,B⟩:=p
   simp only
   by_cases c0:c=0
   ·rw[if_pos c0,if_pos c0]
    have:=mark_withR (bumpF B 0 none) R 0 (getF (bumpF B 0 none) 0 none) x
    exact congrArg (Prod.mk 0) this
   ·rw[if_neg c0,if_neg c0]
    by_cases c1:c=1
    ·rw[if_pos c1,if_pos c1]
    ·rw[if_neg c1,if_neg c1]
def lessA (k:Int):Int:=if 1≤k then k - 1 else 0
def entA (A:Mach):Mach:={ A with out:= [],pos:=A.entries,entries:=A.entries+1,w:=0,draw:=0}
def stepA (G:Fixed) (A:Mach) (pc:Int):Mach×Int:=
 if (wkrOf A 0).slot=0 then ({ pickK G (entA A) 0 with out:= []},pc)
 else if (wkrOf A 0).left=0 then ({ leave G (inject (entA A) 64) 0 with out:= []},pc)
 else ({ setW (entA A) 0 { wkrOf A 0 with left:=lessA (wkrOf A 0).left} with out:= []},if pc=4 then 0 else pc+1)
def condA (G:Fixed) (A:Mach):Bool:=(A.objs.all fun r=>r.handle==0)&& (if (wkrOf A 0).slot=0 then okOwn G (setW (entA A) 0 { wkrOf A 0 with parked:=false})&& (pickK G (entA A) 0).out.isEmpty else (wkrOf A 0).slot==64)
def okA (G:Fixed):Nat→Mach→Int→Nat→Option (Nat×Mach)
 |0,A,_,k=>some (k,A)
 |n+1,A,pc,k=>if condA G A=true then okA G n (stepA G A pc).1 (stepA G A pc).2 (if (wkrOf A 0).slot≠0∧(wkrOf A 0).left≠0∧pc=3 then k+1 else k) else none
theorem okA_step {G:Fixed} {n:Nat} {A:Mach} {pc:Int} {k:Nat} {q:Nat×Mach} (h:okA G (n+1) A pc k=some q):condA G A=true∧okA G n (stepA G A pc).1 (stepA G A pc).2 (if (wkrOf A 0).slot≠0∧(wkrOf A 0).left≠0∧pc=3 then k+1 else k)=some q:=by
 unfold okA at h
 split at h
 ·rename_i hc;exact ⟨hc,h⟩
 ·cases h
def denC (h num:Int):List InsL:= [setI' 0 h,setI' 1 h,setI' 2 h,⟨22,0,0,0,num,0,0⟩,⟨12,0,0,0,0,0,0⟩]
 where setI' (r v:Int):InsL:=⟨1,r,0,0,v,0,0⟩
def runD (pc:Int) (R:List Int):List Run:= [⟨64,[⟨⟨pc,R,[]⟩,false,0⟩],0⟩]
def RegD (h pc:Int) (R:List Int):Prop:=R.length=32∧(0≤pc∧pc≤4)∧(1≤pc∧pc≤3→R.getD 0 0=h)∧(2≤pc∧pc≤3→R.getD 1 0=h)∧(pc=3→R.getD 2 0=h)
structure DenF (F G:Fixed) (h num:Int):Prop where
 like:FLike F G
 code:F.code=denC h num
 one:G.workers=1
 calls:F.calls=G.calls
def evCl (h num pos:Int) (R:List Int):Ev:={ kind:=1,pos:=pos,w:=0,t:=64,num:=num,a0:=R.getD 0 0,a1:=R.getD 1 0,a2:=R.getD 2 0,a3:=R.getD 3 0}
def evRt (c num pos:Int):Ev:={ kind:=2,pos:=pos,w:=0,t:=64,num:=num,code:=c,v:=0}
def noObjs (A:Mach):Prop:= ∀r∈A.objs,r.handle=0
theorem find_none {l:List ORow} (h: ∀r∈l,r.handle=0) {a k:Int} (ha:a≠0):findO l a k=none:=by
 unfold findO ofO
 rw[if_neg ha]
 split
 ·rename_i p r e
  split at e
  ·rename_i r' hr
   split at e
   ·rename_i e2
    have:=h r' (List.mem_of_getElem? hr)
    omega
   ·cases e
  ·cases e
 ·rfl
def denied (F:Fixed) (num c:Int):Prop:=match rowOf F.calls num with
 |none=>c=38
 |some w=>c=22∧(w.k0≠0∨w.k1≠0∨w.k2≠0)
theorem kind_bad {F:Fixed} {M:Mach} {k a:Int} (hF:F.wide=2∧F.narrow=0) (hM:noObjs M) (ha:1000≤a) (hk:k≠0):kindOk F M k a=false:=by
 unfold kindOk
 rw[if_neg hk]
 split
 ·unfold Fixed.cells
  exact decide_eq_false (by omega)
 ·rw[find_none hM (by omega)]
  rfl
theorem refused_den {F:Fixed} {M:Mach} {r:Run} {num c a0 a1 a2 a3:Int} (hF:F.wide=2∧F.narrow=0) (hM:noObjs M) (hd:denied F num c) (hr:r.l.length=1) (h0:1000≤a0) (h1:1000≤a1) (h2:1000≤a2):refused F M r num a0 a1 a2 a3=c:=by
 unfold refused
 unfold denied at hd
 cases e:rowOf F.calls num with
 |none=>rw[e] at hd;exact hd.symm
 |some w=>
  rw[e] at hd
  simp only at hd ⊢
  rw[if_neg (by rw[hr];omega)]
  rw[if_neg]
  ·exact hd.1.symm
  ·intro q
   simp only[Bool.and_eq_true] at q
   obtain ⟨⟨⟨q0,q1⟩,q2⟩,q3⟩:=q
   rcases hd.2 with k|k|k
   ·rw[kind_bad hF hM h0 k] at q0;cases q0
   ·rw[kind_bad hF hM h1 k] at q1;cases q1
   ·rw[kind_bad hF hM h2 k] at q2;cases q2
theorem den_own {F G:Fixed} (hl:FLike F G) (A:Mach) (R:List Run) (hs:(wkrOf A 0).slot=0) (ho:okOwn G (setW (entA A) 0 { wkrOf A 0 with parked:=false})=true):pickK F (withR (entA A) R) 0=withR (pickK G (entA A) 0) R:=by
 have hq:=library_withR hl (setW (entA A) 0 { wkrOf A 0 with parked:=false}) R ho
 unfold pickK
 have e1:wkrOf (withR (entA A) R) 0=wkrOf A 0:=rfl
 have e2:wkrOf (entA A) 0=wkrOf A 0:=rfl
 simp only
 rw[e1,e2,if_pos hs,if_pos hs]
 have e3:setW (withR (entA A) R) 0 { wkrOf A 0 with parked:=false}=withR (setW (entA A) 0 { wkrOf A 0 with parked:=false}) R:=rfl
 rw[e3,hq]
 generalize library G (setW (entA A) 0 { wkrOf A 0 with parked:=false}) 0 none=p
 obtain ⟨c,B⟩:=p
 simp only
 by_cases hc:c=2∨c=3
 ·rw[if_pos hc,if_pos hc]
  unfold again
  rw[hl.loop]
  rfl
 ·rw[if_neg hc,if_neg hc]
theorem den_inj {F G:Fixed} (hl:FLike F G) (A:Mach) (pc:Int) (R:List Int) (hs:(wkrOf A 0).slot=64) (hz:(wkrOf A 0).left=0):pickK F (withR (entA A) (runD pc R)) 0=withR (leave G (inject (entA A) 64) 0) (runD pc R):=by
 unfold pickK
 have e1:wkrOf (withR (entA A) (runD pc R)) 0=wkrOf A 0:=rfl
 have e4:runOf (withR (entA A) (runD pc R)).runs 64=some ⟨64,[⟨⟨pc,R,[]⟩,false,0⟩],0⟩:=rfl
 simp only
 rw[e1,hs,if_neg (by decide),e4]
 simp only
 rw[if_pos ⟨rfl,hz⟩]
 unfold leave
 rw[hl.loop]
 rfl
theorem set_reg {R:List Int} (h:R.length=32) (i j:Nat) (v:Int) (hi:i<32):(R.set i v).getD j 0=if i=j then v else R.getD j 0:=by
 rw[List.getD_eq_getElem?_getD,List.getElem?_set,List.getD_eq_getElem?_getD]
 split
 ·rw[if_pos (by omega)]
  rfl
 ·rfl
theorem den_cl {F G:Fixed} {h num c:Int} (hF:DenF F G h num) (hw:F.wide=2∧F.narrow=0) (hd:denied F num c) (hc:c≠0) (h0:1000≤h) (B:Mach) (hB:noObjs B) (hBo:B.out= []) (hBw:B.w=0) {pc:Int} {R:List Int} (hR:RegD h pc R):
  ∃R' l,clientK F (withR B (runD pc R)) 0 64=withR { B with out:=l} (runD (if pc=4 then 0 else pc+1) R')∧RegD h (if pc=4 then 0 else pc+1) R'∧(if pc=3 then∃e1 e2:Ev,l= [e1,e2]∧e1.kind=1∧e1.a0=h∧e2.kind=2∧e2.num=num∧e2.code=c∧e2.v=0 else l= []):=by
 obtain ⟨hl,hp,r0,r1,r2⟩:=hR
 have hc5:F.code.length=5:=by rw[hF.code];try rfl
 have eg:getF (withR B (runD pc R)) 0 (some 64)=⟨pc,R,[]⟩:=rfl
 obtain rfl|rfl|rfl|rfl|rfl:pc=0∨pc=1∨pc=2∨pc=3∨pc=4:=by omega
 ·refine ⟨R.set 0 h,[],?_,⟨by simp[hl],by decide,fun _=>?_,fun q=>absurd q.1 (by decide),fun q=>absurd q (by decide)⟩,rfl⟩
  ·unfold clientK
   rw[hF.code,eg]
   rw[←hBo]
   rfl
  ·rw[set_reg hl 0 0 h (by decide),if_pos rfl]
 ·refine ⟨R.set 1 h,[],?_,⟨by simp[hl],by decide,fun _=>?_,fun _=>?_,fun q=>absurd q (by decide)⟩,rfl⟩
  ·unfold clientK
   rw[hF.code,eg]
   rw[←hBo]
   rfl
  ·rw[set_reg hl 1 0 h (by decide),if_neg (by decide)];exact r0 (by decide)
  ·rw[set_reg hl 1 1 h (by decide),if_pos rfl]
 ·refine ⟨R.set 2 h,[],?_,⟨by simp[hl],by decide,fun _=>?_,fun _=>?_,fun _=>?_⟩,rfl⟩
  ·unfold clientK
   rw[hF.code,eg]
   rw[←hBo]
   rfl
  ·rw[set_reg hl 2 0 h (by decide),if_neg (by decide)];exact r0 (by decide)
  ·rw[set_reg hl 2 1 h (by decide),if_neg (by decide)];exact r1 (by decide)
  ·rw[set_reg hl 2 2 h (by decide),if_pos rfl]
 ·have q0:=r0 (by decide)
  have q1:=r1 (by decide)
  have q2:=r2 rfl
  refine ⟨(R.set 0 c).set 1 0,[evCl h num B.pos R,evRt c num B.pos],?_,⟨by simp[hl],by decide,fun q=>absurd q.2 (by decide),fun q=>absurd q.2 (by decide),fun q=>absurd q (by decide)⟩,_,_,rfl,rfl,q0,rfl,rfl,rfl,rfl⟩
  have e1:clientK F (withR B (runD 3 R)) 0 64=callK F (withR B (runD 4 R)) 64 num:=by
   unfold clientK
   rw[hF.code,eg]
   rfl
  have hq:refused F (withR B (runD 4 R)) ⟨64,[⟨⟨4,R,[]⟩,false,0⟩],0⟩ num (R.getD 0 0) (R.getD 1 0) (R.getD 2 0) (R.getD 3 0)=c:=refused_den hw hB hd rfl (by rw[q0];exact h0) (by rw[q1];exact h0) (by rw[q2];exact h0)
  rw[e1]
  unfold callK
  have e4:runOf (withR B (runD 4 R)).runs 64=some ⟨64,[⟨⟨4,R,[]⟩,false,0⟩],0⟩:=rfl
  rw[e4]
  simp only
  rw[if_pos]
  ·show returned _ 64 num (refused F (withR B (runD 4 R)) ⟨64,[⟨⟨4,R,[]⟩,false,0⟩],0⟩ num (R.getD 0 0) (R.getD 1 0) (R.getD 2 0) (R.getD 3 0)) 0=_
   rw[hq]
   unfold returned tell withR
   simp only[hBo,hBw]
   rfl
  ·show refused F (withR B (runD 4 R)) ⟨64,[⟨⟨4,R,[]⟩,false,0⟩],0⟩ num (R.getD 0 0) (R.getD 1 0) (R.getD 2 0) (R.getD 3 0)≠0
   rw[hq];exact hc
 ·refine ⟨R,[],?_,⟨hl,by decide,fun q=>absurd q.1 (by decide),fun q=>absurd q.1 (by decide),fun q=>absurd q (by decide)⟩,rfl⟩
  unfold clientK
  rw[hF.code,eg]
  rw[←hBo]
  rfl
theorem den_step {F G:Fixed} {h num c:Int} (hF:DenF F G h num) (hw:F.wide=2∧F.narrow=0) (hd:denied F num c) (hc:c≠0) (h0:1000≤h) (A:Mach) {pc:Int} {R:List Int} (hR:RegD h pc R) (ho:condA G A=true):
  ∃R',{ doK F (withR A (runD pc R)) dPick with out:= []}=withR (stepA G A pc).1 (runD (stepA G A pc).2 R')∧RegD h (stepA G A pc).2 R'∧
   (if (wkrOf A 0).slot≠0∧(wkrOf A 0).left≠0∧pc=3 then∃e1 e2:Ev,(doK F (withR A (runD pc R)) dPick).out= [e1,e2]∧e1.kind=1∧e1.a0=h∧e2.kind=2∧e2.num=num∧e2.code=c∧e2.v=0 else (doK F (withR A (runD pc R)) dPick).out= []):=by
 have e0:doK F (withR A (runD pc R)) dPick=pickK F (withR (entA A) (runD pc R)) 0:=by
  unfold doK
  have h1: ¬dPick.kind=2:=by decide
  have h2:dPick.kind=1∧0≤dPick.w∧dPick.w<(F.workers:Int):=⟨rfl,Int.le_refl 0,by rw[hF.like.workers,hF.one];show (0:Int)<_;decide⟩
  simp only
  rw[if_neg h1,if_pos h2]
  rfl
 rw[e0]
 unfold condA at ho
 rw[Bool.and_eq_true] at ho
 obtain ⟨hA',ho⟩:=ho
 have hA:noObjs A:=fun r hr=>by simpa using List.all_eq_true.1 hA' r hr
 unfold stepA
 by_cases hs:(wkrOf A 0).slot=0
 ·rw[if_pos hs] at ho
  simp only[Bool.and_eq_true] at ho
  have e1:=den_own hF.like A (runD pc R) hs ho.1
  have hout:(pickK G (entA A) 0).out= []:=by simpa using ho.2
  rw[e1,if_pos hs,if_neg (by rw[hs];simp)]
  exact ⟨R,rfl,hR,hout⟩
 ·rw[if_neg hs] at ho
  have hs64:(wkrOf A 0).slot=64:=by simpa using ho
  rw[if_neg hs]
  by_cases hz:(wkrOf A 0).left=0
  ·rw[if_pos hz,if_neg (by rw[hz];simp),den_inj hF.like A pc R hs64 hz]
   exact ⟨R,rfl,hR,rfl⟩
  ·rw[if_neg hz]
   have e1:pickK F (withR (entA A) (runD pc R)) 0=clientK F (withR (setW (entA A) 0 { wkrOf A 0 with left:=lessA (wkrOf A 0).left}) (runD pc R)) 0 64:=by
    unfold pickK
    have e1:wkrOf (withR (entA A) (runD pc R)) 0=wkrOf A 0:=rfl
    have e4:runOf (withR (entA A) (runD pc R)).runs 64=some ⟨64,[⟨⟨pc,R,[]⟩,false,0⟩],0⟩:=rfl
    simp only
    rw[e1,hs64,if_neg (by decide),e4]
    simp only
    rw[if_neg fun q=>hz q.2]
    refine (if_pos (c:=(topF ⟨64,[⟨⟨pc,R,[]⟩,false,0⟩],0⟩).lib=false) rfl).trans ?_
    rfl
   rw[e1]
   obtain ⟨R',l,q1,q2,q3⟩:=den_cl hF hw hd hc h0 (setW (entA A) 0 { wkrOf A 0 with left:=lessA (wkrOf A 0).left}) hA rfl rfl hR
   rw[q1]
   refine ⟨R',rfl,q2,?_⟩
   by_cases h3:pc=3
   ·rw[if_pos h3] at q3
    rw[if_pos ⟨hs,hz,h3⟩]
    exact q3
   ·rw[if_neg h3] at q3
    rw[if_neg fun q=>h3 q.2.2]
    exact q3
def GD (lib:List InsL) (loop:Int) (calls:List RowL):Fixed:={ lib:=lib,loop:=loop,calls:=calls,code:= [],wide:=2,narrow:=0,workers:=1}
end Go.Proofs.YtaangaogmnlljaaGreatDoor.Kn
namespace Go.Proofs.YtaangaogmnlljaaGreatDoor.Kn
open Asm Hp
section
variable (F:Fixed) (M:Mach) (i:Nat) (t:Option Int) (x:InsL)
theorem sp_36 (ho:x.op=36):special F M i t x=if peekM M.mem 0=rg (getF M i t) x.a then (1,setW M i { wkrOf M i with parked:=true}) else (0,setW M i { wkrOf M i with parked:=false}):=by
 unfold special;simp only[ho,Int.reduceEq,or_self,if_false,if_true]
 all_goals rfl
theorem sp_34 (ho:x.op=34):special F M i t x=(0,if (wkrOf M i).hand=0 then putReg (setW { M with ring:=M.ring.drop 1} i { wkrOf M i with hand:=M.ring.headD 0}) i t x.a (M.ring.headD 0) else putReg M i t x.a 0):=by
 unfold special;simp only[ho,Int.reduceEq,or_self,if_false,if_true]
 all_goals rfl
theorem sp_35 (ho:x.op=35):special F M i t x=(0,if (wkrOf M i).hand≠0∧rg (getF M i t) x.a=(wkrOf M i).hand∧(wkrOf M i).slot=0 then setW { M with tab:=beT M.tab (wkrOf M i).hand 2} i { wkrOf M i with slot:=(wkrOf M i).hand,hand:=0,left:=24} else M):=by
 unfold special;simp only[ho,Int.reduceEq,or_self,if_false,if_true]
 all_goals rfl
theorem sp_told (ho:x.op=23∨x.op=41∨x.op=37∨x.op=40∨x.op=42∨x.op=29∨x.op=38∨x.op=39∨x.op=47):special F M i t x=(0,putReg M i t x.a (told F M i t x)):=by
 rcases ho with ho|ho|ho|ho|ho|ho|ho|ho|ho
 all_goals
  unfold special;simp only[ho,Int.reduceEq,or_self,if_false]
end
end Go.Proofs.YtaangaogmnlljaaGreatDoor.Kn
