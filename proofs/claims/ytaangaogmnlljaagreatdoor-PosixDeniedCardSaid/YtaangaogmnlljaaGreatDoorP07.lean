/- Part 7 of what the proof stands on: KnMem, KnGMap, KnTab, KnWq, KnRing, KnWqL, KnWqP, KnWqO, KnClk, KnAcc. -/
import Derived.WalkKit
import Derived.Maps.Own
import Derived.Maps.OwnOps
import Derived.Maps.OwnSet
import Derived.Maps.Views
import Derived.Deep.QuietTactic
import Derived.IntWalk
import Derived.StillTailTactics
import Derived.Deep.LoopGhost
import Derived.Deep.RegionWith
import Derived.Test.YtaangaogmnlljaaGreatDoorP01
import Derived.Test.YtaangaogmnlljaaGreatDoorP02
import Derived.Test.YtaangaogmnlljaaGreatDoorP04
set_option linter.unusedVariables false
namespace Go.Proofs.YtaangaogmnlljaaGreatDoor.Kn
open Go.RowKit Asm
def Som (v:Value):Prop:= ∃t x,v= .iface t x
structure MemOk (m:Mem):Prop where
 len:m.ws.length=m.hs.length
 one:1≤m.hs.length
 most:m.hs.length≤65536
 w: ∀x∈m.ws,x=0∨x=32∨x=64
 h: ∀x∈m.hs,0≤x∧x<18446744073709551616
def u64A (l:List Int):Array Value:=(l.map fun x=>Value.int .u64 x).toArray
def u8A (l:List Int):Array Value:=(l.map fun x=>Value.int .u8 x).toArray
structure MemP (w:World) (X gc gw:Nat) (m:Mem):Prop where
 ok:MemOk m
 obj: ∃th ct,w.heap[X]?=some (.cells #[.slice (some ⟨gc,0,none⟩) m.hs.length m.hs.length, .slice (some ⟨gw,0,none⟩) m.ws.length m.ws.length, .int .i64 th, .int .i64 ct] 442 (0,0))
 hs:w.heap[gc]?=some (.cells (u64A m.hs) 53 (0,0))
 ws:w.heap[gw]?=some (.cells (u8A m.ws) 5 (0,0))
theorem width_range (m:Mem) (h:MemOk m) (a:Int):m.width a=0∨m.width a=32∨m.width a=64:=by
 unfold Mem.width
 rw[List.getD_eq_getElem?_getD]
 by_cases hl:a.toNat<m.ws.length
 ·rw[List.getElem?_eq_getElem hl];exact h.w _ (List.getElem_mem hl)
 ·rw[List.getElem?_eq_none (by omega)];exact Or.inl rfl
theorem held_range (m:Mem) (h:MemOk m) (a:Int):0≤m.held a∧m.held a<18446744073709551616:=by
 unfold Mem.held
 rw[List.getD_eq_getElem?_getD]
 by_cases hl:a.toNat<m.hs.length
 ·rw[List.getElem?_eq_getElem hl];exact h.h _ (List.getElem_mem hl)
 ·rw[List.getElem?_eq_none (by omega)];exact ⟨by decide,by decide⟩
theorem width_in (m:Mem) (h:MemOk m) {a:Int} (h0:m.width a≠0):a.toNat<m.hs.length:=by
 unfold Mem.width at h0
 rw[List.getD_eq_getElem?_getD] at h0
 by_cases hl:a.toNat<m.ws.length
 ·rw[←h.len];exact hl
 ·rw[List.getElem?_eq_none (by omega)] at h0;exact absurd rfl h0
theorem lay_ok {m:Mem} (h:MemOk m) (a v:Int) (hv:0≤v∧v<18446744073709551616):MemOk (m.lay a v):=
 ⟨by simp[Mem.lay,h.len],by simp[Mem.lay,h.one],by simp[Mem.lay,h.most],h.w,fun x hx=>by
  rcases List.mem_or_eq_of_mem_set hx with h1|h1
  ·exact h.h x h1
  ·rw[h1];exact hv⟩
theorem u64A_at {l:List Int} {i:Nat} (h:i<l.length):(u64A l)[i]?=some (.int .u64 (l.getD i 0)):=by
 simp[u64A,h]
theorem u8A_at {l:List Int} {i:Nat} (h:i<l.length):(u8A l)[i]?=some (.int .u8 (l.getD i 0)):=by
 simp[u8A,h]
theorem u64A_set (l:List Int) (i:Nat) (v:Int):(u64A l).setIfInBounds i (.int .u64 v)=u64A (l.set i v):=by
 apply Array.ext'
 simp[u64A,List.map_set]
theorem blk_cell {w:World} {g:Nat} {C:Array Value} {t:TypeId} (h:w.heap[g]?=some (.cells C t (0,0))) (i:Nat):w.cell? ⟨g,i,none⟩=C[i]?:=by
 simp[World.cell?,h]
theorem blk_frozen {w:World} {g:Nat} {C:Array Value} {t:TypeId} (h:w.heap[g]?=some (.cells C t (0,0))) (i:Nat):w.frozen? ⟨g,i,none⟩=false:=by
 simp[World.frozen?,h]
theorem blk_in {w:World} {g:Nat} {o:Obj} (h:w.heap[g]?=some o):g<w.heap.size:=(Array.getElem?_eq_some_iff.1 h).1
theorem set_other {w:World} {p:Addr} {u:Value} {k:Nat} (h:k≠p.block):(w.setCell p u).heap[k]?=w.heap[k]?:=Below.heap_setCell _ _ _ _ h
theorem blk_ne {w:World} {g k:Nat} {C D:Array Value} {t u:TypeId} {f f':Nat×Nat} (h:w.heap[g]?=some (.cells C t f)) (h2:w.heap[k]?=some (.cells D u f')) (hn:t≠u):g≠k:=by
 intro e
 rw[e,h2] at h
 injection h with h
 injection h with _ h
 exact hn h.symm
theorem MemP.of_blocks {w w':World} {X gc gw:Nat} {m:Mem} (h:MemP w X gc gw m) (e: ∀b,b=X∨b=gc∨b=gw→w'.heap[b]?=w.heap[b]?):MemP w' X gc gw m:=
 ⟨h.ok,by obtain ⟨t,c,ho⟩:=h.obj;exact ⟨t,c,(e X (Or.inl rfl)).trans ho⟩,(e gc (Or.inr (Or.inl rfl))).trans h.hs,(e gw (Or.inr (Or.inr rfl))).trans h.ws⟩
theorem MemP.lt {w:World} {X gc gw:Nat} {m:Mem} (h:MemP w X gc gw m):X<w.heap.size∧gc<w.heap.size∧gw<w.heap.size:=by
 obtain ⟨t,c,ho⟩:=h.obj;exact ⟨blk_in ho,blk_in h.hs,blk_in h.ws⟩
theorem MemP.ne {w:World} {X gc gw:Nat} {m:Mem} (h:MemP w X gc gw m):X≠gc∧X≠gw∧gc≠gw:=by
 obtain ⟨t,c,ho⟩:=h.obj
 exact ⟨blk_ne ho h.hs (by decide),blk_ne ho h.ws (by decide),blk_ne h.hs h.ws (by decide)⟩
theorem memfail_any (n k:Int) (w:World):Calls Tryz.prog 222 #[.int .i64 n, .iface 86 (.int .i64 k)] w fun e w'=>(∃v,e= .returned v∧Som v)∧Below w.heap.size w w':=by
 go_enter Tryz.func222,Tryz.ntmps222
 go_wp2
 go_ret
 exact ⟨⟨_,rfl,_,_,rfl⟩,(Below.refl _ _).alloc (Nat.le_refl _) _⟩
theorem width_any {w:World} {X gc gw:Nat} {m:Mem} (h:MemP w X gc gw m) (a:Int) (ha:0≤a∧a<18446744073709551616):
  Calls Tryz.prog 269 #[.pointer (some ⟨X,0,none⟩), .int .u64 a] w fun e w'=>e= .returned (.int .i64 (m.width a))∧w=w':=by
 obtain ⟨k,rfl⟩:=Int.eq_ofNat_of_zero_le ha.1
 obtain ⟨t,c,ho⟩:=h.obj
 obtain ⟨n,hn⟩: ∃n,n=m.hs.length:=⟨_,rfl⟩
 have hws:=h.ws
 have hlen:=h.ok.len
 have hmost:=h.ok.most
 have c0:w.cell? ⟨X,0,none⟩=some (.slice (some ⟨gc,0,none⟩) n n):=by rw[blk_cell ho,hn];rfl
 have c1:w.cell? ⟨X,1,none⟩=some (.slice (some ⟨gw,0,none⟩) n n):=by rw[blk_cell ho,hn,←hlen];rfl
 have hw:m.width (k:Int)=m.ws.getD k 0:=rfl
 have hr:=width_range m h.ok k
 rw[hw] at hr ⊢
 by_cases hk:k<n
 ·have hkI:(k:Int)<(n:Int):=by omega
  have hnI:(n:Int)≤65536:=by omega
  have c2:w.cell? ⟨gw,k,none⟩=some (.int .u8 (m.ws.getD k 0)):=by rw[blk_cell hws];exact u8A_at (by omega)
  generalize m.ws.getD k 0=x at*
  have hxr:0≤x∧x≤64:=by omega
  clear ho hws hlen hmost hw hr h hn ha
  go_enter Tryz.func269,Tryz.ntmps269
  go_wp2
  go_ret
  exact ⟨rfl,rfl⟩
 ·have hkI:(n:Int)≤(k:Int):=by omega
  have hnI:(n:Int)≤65536:=by omega
  have hx:m.ws.getD k 0=0:=by rw[List.getD_eq_getElem?_getD,List.getElem?_eq_none (by omega)];rfl
  rw[hx]
  clear ho hws hlen hmost hw hr h hn hx
  go_enter Tryz.func269,Tryz.ntmps269
  go_wp2
  go_ret
  exact ⟨rfl,rfl⟩
end Go.Proofs.YtaangaogmnlljaaGreatDoor.Kn
namespace Go.Proofs.YtaangaogmnlljaaGreatDoor.Kn
open Go.RowKit Go.Maps Asm
def WU64 (k:Int):Prop:=0≤k∧k<18446744073709551616
theorem wf_u64 {k:Int} (h:WU64 k):(Lit.int .u64 k).wf=true:=by
 unfold WU64 at h
 have h1:IntKind.u64.min=0:=by decide
 have h2:IntKind.u64.max=18446744073709551615:=by decide
 simp[Lit.wf]
 omega
structure Reads (γ:Type) where
 val:γ→Value
 dat:γ→DataW Unit
 R:Value→Option (DataW Unit×List MemPlace)
 zv:Value
 zd:DataW Unit
 hR: ∀c,R (val c)=some (dat c,[])
 hI: ∀v c ps,R v=some (dat c,ps)→v=val c
 hZ:R zv=some (zd,[])
 hZI: ∀v ps,R v=some (zd,ps)→v=zv
def updG {γ:Type} (f:Int→Option γ) (k:Int) (c:γ):Int→Option γ:=fun x=>if x=k then some c else f x
def delG {γ:Type} (f:Int→Option γ) (k:Int):Int→Option γ:=fun x=>if x=k then none else f x
section
variable {γ:Type} {S:Reads γ}
def GMap (S:Reads γ) (w:World) (mb:Nat) (f:Int→Option γ) (N:Nat):Prop:=
 ∃(D:DataW Unit) (n:Nat),w.ownsMap Tryz.prog 53 S.R mb n D∧n≤N∧ ∀k:Int,WU64 k→Maps.has D (.int .u64 k)=(f k).isSome∧ ∀c,f k=some c→D.atKey (.int .u64 k) S.zd=S.dat c
theorem gkeyed:Keyed Tryz.prog 53:=int_keyed Tryz.underlying53
theorem glit_ne {a b:Int} (h:a≠b):(Lit.int .u64 a)≠Lit.int .u64 b:=fun e=>h (by injection e)
theorem GMap.lt {w:World} {mb:Nat} {f:Int→Option γ} {N:Nat} (h:GMap S w mb f N):mb<w.heap.size:=by obtain ⟨_,_,h,_⟩:=h;exact h.lt
theorem GMap.isMap {w:World} {mb:Nat} {f:Int→Option γ} {N:Nat} (h:GMap S w mb f N): ∃es c,w.heap[mb]?=some (.map es c):=by
 obtain ⟨_,_,⟨es,c,h,_⟩,_⟩:=h
 exact ⟨es,c,h⟩
theorem GMap.of_block {w w':World} {mb:Nat} {f:Int→Option γ} {N:Nat} (h:GMap S w mb f N) (e:w'.heap[mb]?=w.heap[mb]?):GMap S w' mb f N:=by
 obtain ⟨D,n,⟨es,c,h1,h2,h3,h4⟩,h5,h6⟩:=h
 exact ⟨D,n,⟨es,c,e.trans h1,h2,h3,h4⟩,h5,h6⟩
theorem GMap.mono {w:World} {mb:Nat} {f:Int→Option γ} {N N':Nat} (h:GMap S w mb f N) (hN:N≤N'):GMap S w mb f N':=by
 obtain ⟨D,n,h1,h2,h3⟩:=h
 exact ⟨D,n,h1,by omega,h3⟩
theorem GMap.same {w:World} {mb:Nat} {f g:Int→Option γ} {N:Nat} (h:GMap S w mb f N) (e: ∀k,WU64 k→g k=f k):GMap S w mb g N:=by
 obtain ⟨D,n,h1,h2,h3⟩:=h
 exact ⟨D,n,h1,h2,fun k hk=>by rw[e k hk];exact h3 k hk⟩
theorem GMap.made (w:World):GMap S (w.alloc (.map #[] 0)) w.heap.size (fun _=>none) 0:=
 ⟨.map [],0,World.ownsMap_made w _ _ _,Nat.le_refl _,fun k _=>⟨rfl,fun c hc=>by cases hc⟩⟩
theorem GMap.look {w:World} {mb:Nat} {f:Int→Option γ} {N:Nat} (h:GMap S w mb f N) {t e:TypeId} (ht:Tryz.prog.underlying t=some (.map 53 e)) (hz:(zeroValue e).run Tryz.prog w= .ok S.zv w) {k:Int} (hk:WU64 k):
  (Instr.lookup t (.map (some mb)) (.int .u64 k) false).run Tryz.prog w= .ok (match f k with|some c=>S.val c|none=>S.zv) w:=by
 obtain ⟨D,n,h1,h2,h3⟩:=h
 obtain ⟨v,ps,hrun,hv⟩:=h1.lookup gkeyed ht hz S.hZ (keyOf_int_mk Tryz.underlying53 (wf_u64 hk))
 obtain ⟨e1,e2⟩:=h3 k hk
 rw[hrun]
 cases hf:f k with
 |some c=>rw[e2 c hf] at hv;rw[S.hI _ _ _ hv]
 |none=>
  rw[hf] at e1
  rw[atKey_of_not_has e1] at hv
  rw[S.hZI _ _ hv]
theorem GMap.look_ok {w:World} {mb:Nat} {f:Int→Option γ} {N:Nat} (h:GMap S w mb f N) {t e:TypeId} (ht:Tryz.prog.underlying t=some (.map 53 e)) (hz:(zeroValue e).run Tryz.prog w= .ok S.zv w) {k:Int} (hk:WU64 k):
  (Instr.lookup t (.map (some mb)) (.int .u64 k) true).run Tryz.prog w= .ok (.tuple #[match f k with|some c=>S.val c|none=>S.zv, .bool (f k).isSome]) w:=by
 obtain ⟨D,n,h1,h2,h3⟩:=h
 obtain ⟨v,ps,hrun,hv⟩:=h1.look_ok gkeyed ht hz S.hZ (keyOf_int_mk Tryz.underlying53 (wf_u64 hk))
 obtain ⟨e1,e2⟩:=h3 k hk
 rw[hrun,e1]
 cases hf:f k with
 |some c=>rw[e2 c hf] at hv;rw[S.hI _ _ _ hv]
 |none=>
  rw[hf] at e1
  rw[atKey_of_not_has e1] at hv
  rw[S.hZI _ _ hv]
theorem GMap.store {w:World} {mb:Nat} {f:Int→Option γ} {N:Nat} (h:GMap S w mb f N) (hN:N<maxLen) {t e:TypeId} (ht:Tryz.prog.underlying t=some (.map 53 e)) {k:Int} (hk:WU64 k) (c:γ):
  ∃w',(Instr.mapUpdate t (.map (some mb)) (.int .u64 k) (S.val c)).run Tryz.prog w= .ok () w'∧GMap S w' mb (updG f k c) (N+1)∧w.mapTurned w' mb:=by
 obtain ⟨D,n,h1,h2,h3⟩:=h
 obtain ⟨w',hrun,ho,hturn⟩:=h1.store gkeyed ht (Nat.lt_of_le_of_lt h2 hN) (keyOf_int_mk Tryz.underlying53 (wf_u64 hk)) (S.hR c)
 refine ⟨w',hrun,⟨_,n+1,ho,by omega,fun k' hk'=>?_⟩,hturn⟩
 by_cases e:k'=k
 ·subst e
  refine ⟨by rw[has_put_same (k:=Lit.int .u64 k') h1.isMap trivial];simp[updG],fun j hj=>?_⟩
  rw[atKey_put_same (k:=Lit.int .u64 k') h1.isMap trivial]
  simp[updG] at hj
  subst hj
  rfl
 ·have:=h3 k' hk'
  rw[has_put_other (glit_ne e),atKey_put_other (glit_ne e)]
  simp only[updG,if_neg e]
  exact this
theorem GMap.drop {w:World} {mb:Nat} {f:Int→Option γ} {N:Nat} (h:GMap S w mb f N) {t e:TypeId} (ht:Tryz.prog.underlying t=some (.map 53 e)) {k:Int} (hk:WU64 k) (ty:TypeId):
  ∃w',(Builtin.delete_ #[t,53] ty #[.map (some mb), .int .u64 k]).run Tryz.prog w= .ok (.tuple #[]) w'∧GMap S w' mb (delG f k) N∧w.mapTurned w' mb:=by
 obtain ⟨D,n,h1,h2,h3⟩:=h
 obtain ⟨w',hrun,ho,hturn⟩:=h1.drop gkeyed ht (keyOf_int_mk Tryz.underlying53 (wf_u64 hk)) ty
 refine ⟨w',hrun,⟨_,n,ho,h2,fun k' hk'=>?_⟩,hturn⟩
 by_cases e:k'=k
 ·subst e
  exact ⟨by rw[has_del_same];simp[delG],fun j hj=>by simp[delG] at hj⟩
 ·have:=h3 k' hk'
  rw[has_del_other (glit_ne e),atKey_del_other (glit_ne e)]
  simp only[delG,if_neg e]
  exact this
end
def ptrR:Value→Option (DataW Unit×List MemPlace)
 | .pointer none=>some (.lit (.int .i64 (-1)),[])
 | .pointer (some ⟨b,0,none⟩)=>some (.lit (.int .i64 b),[])
 |_=>none
theorem ptrR_cases {v:Value} {d:DataW Unit} {ps:List MemPlace} (h:ptrR v=some (d,ps)):(v= .pointer none∧d= .lit (.int .i64 (-1)))∨ ∃b:Nat,v= .pointer (some ⟨b,0,none⟩)∧d= .lit (.int .i64 b):=by
 unfold ptrR at h
 split at h
 ·injection h with h;injection h with h _;exact Or.inl ⟨rfl,h.symm⟩
 ·injection h with h;injection h with h _;exact Or.inr ⟨_,rfl,h.symm⟩
 ·cases h
def ptrs:Reads Nat where
 val b:= .pointer (some ⟨b,0,none⟩)
 dat b:= .lit (.int .i64 b)
 R:=ptrR
 zv:= .pointer none
 zd:= .lit (.int .i64 (-1))
 hR _:=rfl
 hI v c ps h:=by
  rcases ptrR_cases h with ⟨_,h1⟩ |⟨b,rfl,h1⟩
  ·have:(c:Int)= -1:=by simp at h1
   omega
  ·have:(c:Int)=(b:Int):=by simpa using h1
   have:b=c:=by omega
   rw[this]
 hZ:=rfl
 hZI v ps h:=by
  rcases ptrR_cases h with ⟨rfl,_⟩ |⟨b,_,h1⟩
  ·rfl
  ·have:(-1:Int)=(b:Int):=by simp at h1
   omega
end Go.Proofs.YtaangaogmnlljaaGreatDoor.Kn
namespace Go.Proofs.YtaangaogmnlljaaGreatDoor.Kn
open Go.RowKit Asm
def tr10 (r:TRow):List Value:= [.int .u64 r.times, .bool (r.t.id !=0), .bool r.reaped, .int .u64 r.t.id, .int .i64 r.t.state, .int .u64 r.t.home, .int .u64 r.t.value, .int .u64 r.t.joiner, .bool r.t.loose, .bool r.t.stepping]
def tabC (l:List TRow):List Value:=l.flatMap tr10
def tAt (l:List TRow) (p:Nat):TRow:=l.getD p {}
def U64 (x:Int):Prop:=0≤x∧x<18446744073709551616
structure TRowOk (r:TRow) (p N:Nat):Prop where
 times:0≤r.times∧r.times≤N
 id:r.t.id≠0→r.t.id=p+64*r.times∧1≤r.times
 free:r.t.id=0→r.t={}∧r.reaped=false
 state:0≤r.t.state∧r.t.state≤4
 home:U64 r.t.home
 value:U64 r.t.value
 joiner:U64 r.t.joiner
structure TabOk (l:List TRow) (N:Nat):Prop where
 len:l.length=64
 most:N≤1000000000
 row: ∀p,p<64→TRowOk (tAt l p) p N
theorem tAt_get {l:List TRow} {p:Nat} (h:p<l.length):tAt l p=l[p]:=by
 unfold tAt;rw[List.getD_eq_getElem?_getD,List.getElem?_eq_getElem h];rfl
theorem tAt_set {l:List TRow} {p q:Nat} (h:p<l.length) (r:TRow):tAt (l.set p r) q=if q=p then r else tAt l q:=by
 unfold tAt
 rw[List.getD_eq_getElem?_getD,List.getD_eq_getElem?_getD,List.getElem?_set]
 by_cases e:p=q
 ·subst e;rw[if_pos rfl,if_pos rfl,if_pos h];rfl
 ·rw[if_neg e,if_neg (Ne.symm e)]
theorem TRowOk.u64 {r:TRow} {p N:Nat} (h:TRowOk r p N) (hp:p<64) (hN:N≤1000000000):U64 r.t.id:=by
 unfold U64
 by_cases e:r.t.id=0
 ·omega
 ·have:=h.id e;have:=h.times;omega
theorem TabOk.set {l:List TRow} {N p:Nat} (h:TabOk l N) (hp:p<64) {r:TRow} (hr:TRowOk r p N):TabOk (l.set p r) N:=
 ⟨by rw[List.length_set];exact h.len,h.most,fun q hq=>by
  rw[tAt_set (by rw[h.len];exact hp)]
  split
  ·rename_i e;subst e;exact hr
  ·exact h.row q hq⟩
theorem ofT_some {l:List TRow} {N:Nat} (h:TabOk l N) {id:Int} {p:Nat} {r:TRow} (e:ofT l id=some (p,r)):id≠0∧id%64=(p:Int)∧p<64∧r=tAt l p∧r.t.id=id:=by
 unfold ofT at e
 by_cases h0:id=0
 ·rw[if_pos h0] at e;cases e
 ·rw[if_neg h0] at e
  have hlt:(id%64).toNat<l.length:=by rw[h.len];omega
  rw[List.getElem?_eq_getElem hlt] at e
  simp only at e
  split at e
  ·rename_i he
   injection e with e
   injection e with e1 e2
   subst e1
   refine ⟨h0,by omega,by omega,?_,by rw[←e2];exact he⟩
   rw[tAt_get hlt,e2]
  ·cases e
theorem ofT_none {l:List TRow} {N:Nat} (h:TabOk l N) {id:Int} (hid:0≤id) (e:ofT l id=none): ∃p:Nat,id%64=(p:Int)∧p<64∧((tAt l p).t.id=0∨(tAt l p).t.id≠id):=by
 refine ⟨(id%64).toNat,by omega,by omega,?_⟩
 by_cases h0:id=0
 ·by_cases hz:(tAt l (id%64).toNat).t.id=0
  ·exact Or.inl hz
  ·exact Or.inr (by rw[h0] at hz ⊢;exact hz)
 ·have hlt:(id%64).toNat<l.length:=by rw[h.len];omega
  unfold ofT at e
  rw[if_neg h0,List.getElem?_eq_getElem hlt] at e
  simp only at e
  split at e
  ·cases e
  ·rename_i he
   exact Or.inr (by rw[tAt_get hlt];exact he)
structure TabP (w:World) (T gt:Nat) (l:List TRow) (N:Nat):Prop where
 ok:TabOk l N
 obj:w.heap[T]?=some (.cells #[.slice (some ⟨gt,0,none⟩) 64 64] 337 (0,0))
 row:w.heap[gt]?=some (.cells (tabC l).toArray 382 (0,0))
section
variable {w w':World} {T gt:Nat} {l:List TRow} {N:Nat}
theorem TabP.of_blocks (h:TabP w T gt l N) (e: ∀b,b=T∨b=gt→w'.heap[b]?=w.heap[b]?):TabP w' T gt l N:=
 ⟨h.ok,(e T (Or.inl rfl)).trans h.obj,(e gt (Or.inr rfl)).trans h.row⟩
theorem TabP.lt (h:TabP w T gt l N):T<w.heap.size∧gt<w.heap.size:=⟨blk_in h.obj,blk_in h.row⟩
theorem TabP.ne (h:TabP w T gt l N):T≠gt:=blk_ne h.obj h.row (by decide)
theorem TabP.at0 (h:TabP w T gt l N):w.cell? ⟨T,0,none⟩=some (.slice (some ⟨gt,0,none⟩) 64 64):=by rw[blk_cell h.obj];rfl
theorem TabP.cell (h:TabP w T gt l N) {p:Nat} (hp:p<64) (j:Nat) (hj:j<10):w.cell? ⟨gt,p*10+j,none⟩=(tr10 (tAt l p))[j]?:=by
 have hlt:p<l.length:=by rw[h.ok.len];exact hp
 rw[blk_cell h.row,tAt_get hlt]
 have:=flL_at (k:=10) (f:=tr10) (fun _=>rfl) l p hlt j hj
 simpa[tabC] using this
theorem TabP.frozen (h:TabP w T gt l N) (o:Nat):w.frozen? ⟨gt,o,none⟩=false:=blk_frozen h.row o
theorem TabP.stored (h:TabP w T gt l N) {p:Nat} (hp:p<64) (j:Nat) (hj:j<10) (v:Value) (r:TRow) (hr:(tr10 (tAt l p)).set j v=tr10 r) (hok:TRowOk r p N):
  TabP (w.setCell ⟨gt,p*10+j,none⟩ v) T gt (l.set p r) N:=by
 have hlt:p<l.length:=by rw[h.ok.len];exact hp
 refine ⟨h.ok.set hp hok,(set_other h.ne).trans h.obj,?_⟩
 rw[set_block h.row]
 have:=flL_set (k:=10) (f:=tr10) (fun _=>rfl) l p hlt j hj v r (by rw[←tAt_get hlt];exact hr)
 unfold tabC
 rw[←this]
 simp
end
def TabErr (w:World) (T gt:Nat) (l:List TRow) (N:Nat) (e:Ending) (w':World):Prop:=(∃v,e= .returned v)∧TabP w' T gt l N∧Keeps (fun b=>b=gt) w w'
theorem tabfail_any (k:Int) (w:World):Calls Tryz.prog 163 #[.iface 86 (.int .i64 k)] w fun e w'=>(∃v,e= .returned v∧Som v)∧Below w.heap.size w w':=by
 go_enter Tryz.func163,Tryz.ntmps163
 go_wp2
 go_ret
 exact ⟨⟨_,rfl,_,_,rfl⟩,(Below.refl _ _).alloc (Nat.le_refl _) _⟩
set_option maxRecDepth 100000 in
set_option maxHeartbeats 1000000 in
theorem of_some {w:World} {T gt:Nat} {l:List TRow} {N:Nat} (h:TabP w T gt l N) (id:Int) (hid:U64 id) {p:Nat} {r:TRow} (hof:ofT l id=some (p,r)):
  Calls Tryz.prog 237 #[.pointer (some ⟨T,0,none⟩), .int .u64 id] w fun e w'=>e= .returned (.pointer (some ⟨gt,p*10,none⟩))∧ ∃q,w'=w.drewN q:=by
 obtain ⟨h0,hp,hp64,rfl,hri⟩:=ofT_some h.ok hof
 have c0:=h.at0
 have x1:w.cell? ⟨gt,p*10+1,none⟩=some (.bool true):=by
  have:=h.cell hp64 1 (by omega)
  rw[this];simp[tr10,hri,h0]
 have x3:w.cell? ⟨gt,p*10+3,none⟩=some (.int .u64 id):=by
  have:=h.cell hp64 3 (by omega)
  rw[this];simp[tr10,hri]
 have hpI:(p:Int)<64:=by omega
 have hi0:=hid.1
 clear h hof hri hid hp64 h0
 go_enter Tryz.func237,Tryz.ntmps237
 go_wp2_with fail
 all_goals
  go_ret
  exact ⟨rfl,0,rfl⟩
set_option maxRecDepth 100000 in
set_option maxHeartbeats 1000000 in
theorem of_none {w:World} {T gt:Nat} {l:List TRow} {N:Nat} (h:TabP w T gt l N) (id:Int) (hid:U64 id) (hof:ofT l id=none):
  Calls Tryz.prog 237 #[.pointer (some ⟨T,0,none⟩), .int .u64 id] w fun e w'=>e= .returned (.pointer none)∧ ∃q,w'=w.drewN q:=by
 obtain ⟨p,hp,hp64,hno⟩:=ofT_none h.ok hid.1 hof
 have c0:=h.at0
 have hpI:(p:Int)<64:=by omega
 have hi0:=hid.1
 have y1:=h.cell hp64 1 (by omega)
 have y3:=h.cell hp64 3 (by omega)
 generalize tAt l p=r at*
 by_cases hz:r.t.id=0
 ·have x1:w.cell? ⟨gt,p*10+1,none⟩=some (.bool false):=by rw[y1];simp[tr10,hz]
  clear h hof hid hp64 y1 y3 hno hz
  go_enter Tryz.func237,Tryz.ntmps237
  go_wp2_with fail
  all_goals
   go_ret
   exact ⟨rfl,0,rfl⟩
 ·have hne:r.t.id≠id:=hno.resolve_left hz
  have x1:w.cell? ⟨gt,p*10+1,none⟩=some (.bool true):=by rw[y1];simp[tr10,hz]
  have x3:w.cell? ⟨gt,p*10+3,none⟩=some (.int .u64 r.t.id):=by rw[y3];simp[tr10]
  have hb:(r.t.id !=id)=true:=bne_iff_ne.2 hne
  generalize r.t.id=i at*
  clear h hof hid hp64 y1 y3 hno hz hne
  go_enter Tryz.func237,Tryz.ntmps237
  go_wp2_with fail
  all_goals
   go_ret
   exact ⟨rfl,0,rfl⟩
theorem TabP.cells {w:World} {T gt:Nat} {l:List TRow} {N:Nat} (h:TabP w T gt l N) {id:Int} {p:Nat} {ti:Int} {re:Bool} {i st ho va jo:Int} {lo sp:Bool} (hof:ofT l id=some (p,⟨ti,re,⟨i,st,ho,va,jo,lo,sp⟩⟩)):
  i=id∧id≠0∧p<64∧tAt l p=⟨ti,re,⟨i,st,ho,va,jo,lo,sp⟩⟩∧TRowOk ⟨ti,re,⟨i,st,ho,va,jo,lo,sp⟩⟩ p N∧w.cell? ⟨gt,p*10,none⟩=some (.int .u64 ti)∧w.cell? ⟨gt,p*10+1,none⟩=some (.bool true)∧w.cell? ⟨gt,p*10+2,none⟩=some (.bool re)∧w.cell? ⟨gt,p*10+3,none⟩=some (.int .u64 i)∧w.cell? ⟨gt,p*10+4,none⟩=some (.int .i64 st)
   ∧w.cell? ⟨gt,p*10+5,none⟩=some (.int .u64 ho)∧w.cell? ⟨gt,p*10+6,none⟩=some (.int .u64 va)∧w.cell? ⟨gt,p*10+7,none⟩=some (.int .u64 jo)∧w.cell? ⟨gt,p*10+8,none⟩=some (.bool lo)∧w.cell? ⟨gt,p*10+9,none⟩=some (.bool sp):=by
 obtain ⟨h0,hp,hp64,hr,hi⟩:=ofT_some h.ok hof
 have hc:=fun j hj=>h.cell hp64 j hj
 have hk:=h.ok.row p hp64
 rw[←hr] at hc hk
 simp only at hi
 refine ⟨hi,h0,hp64,hr.symm,hk,hc 0 (by omega),?_,hc 2 (by omega),hc 3 (by omega),hc 4 (by omega),hc 5 (by omega),hc 6 (by omega),hc 7 (by omega),hc 8 (by omega),hc 9 (by omega)⟩
 rw[hc 1 (by omega)]
 simp[tr10,hi,h0]
theorem alive_any (s:Int) (hs:s=1∨s=2∨s=3) (w:World):Calls Tryz.prog 238 #[.int .i64 s] w fun e w'=>e= .returned (.bool true)∧w=w':=by
 rcases hs with rfl|rfl|rfl
 all_goals
  go_enter Tryz.func238,Tryz.ntmps238
  go_wp2
  go_ret
  exact ⟨rfl,rfl⟩
theorem TabP.below {w w':World} {T gt:Nat} {l:List TRow} {N:Nat} (h:TabP w T gt l N) (hb:Below w.heap.size w w'):TabP w' T gt l N:=
 h.of_blocks fun b hb'=>hb.block b (by obtain ⟨l1,l2⟩:=h.lt;rcases hb' with rfl|rfl<;>assumption)
theorem bdrewN (w:World) (q:Nat):Below w.heap.size w (w.drewN q):=⟨rfl,rfl,rfl,Nat.le_refl _,fun _ _=>rfl⟩
theorem keeps_drewN {X:Nat→Prop} (w:World) (q:Nat):Keeps X w (w.drewN q):=(Keeps.refl X w).drewN q
theorem taberr_of {w w':World} {T gt:Nat} {l:List TRow} {N q:Nat} (h:TabP w T gt l N) (hb:Below (w.drewN q).heap.size (w.drewN q) w') {e:Ending} (he: ∃v,e= .returned v):TabErr w T gt l N e w':=
 ⟨he,h.below ⟨hb.os,hb.tape,hb.output,hb.size,hb.block⟩,Keeps.ofBelow ⟨hb.os,hb.tape,hb.output,hb.size,hb.block⟩⟩
set_option maxRecDepth 100000 in
set_option maxHeartbeats 2000000 in
theorem be_any {w:World} {T gt:Nat} {l:List TRow} {N:Nat} (h:TabP w T gt l N) (id s:Int) (hid:U64 id) (hs:s=1∨s=2∨s=3):
  Calls Tryz.prog 191 #[.pointer (some ⟨T,0,none⟩), .int .u64 id, .int .i64 s] w (TabErr w T gt (beT l id s) N):=by
 have HF:=Lib.hid (fun k W=>tabfail_any k W)
 have HAl:=Lib.hid (fun W=>alive_any s hs W)
 have H:=Lib.hid h
 cases hof:ofT l id with
 |none=>
  have HO:=Lib.hid (of_none h id hid hof)
  have e0:beT l id s=l:=by unfold beT;rw[hof]
  rw[e0]
  clear hof h e0 hs hid
  go_enter Tryz.func191,Tryz.ntmps191
  go_wp2_with fail
  refine HO.out.mono ?_
  rintro e w1 ⟨rfl,q,rfl⟩
  go_wp2_with fail
  refine (HF.out _ _).mono ?_
  rintro e w2 ⟨⟨ev,rfl,hev⟩,hb⟩
  go_wp2
  go_ret
  exact taberr_of H.out hb ⟨_,rfl⟩
 |some pr=>
  obtain ⟨p,ti,re,i,st,ho,va,jo,lo,sp⟩:=pr
  obtain ⟨rfl,h0,hp,hr,hk,x0,x1,x2,x3,x4,x5,x6,x7,x8,x9⟩:=h.cells hof
  have HO:=Lib.hid (of_some h i hid hof)
  by_cases h4:st=4
  ·subst h4
   have e0:beT l i s=l:=by unfold beT;rw[hof];rfl
   rw[e0]
   clear hof h e0 hs hid hk hr
   go_enter Tryz.func191,Tryz.ntmps191
   go_wp2_with fail
   refine HO.out.mono ?_
   rintro e w1 ⟨rfl,q,rfl⟩
   go_wp2_with fail
   refine (HAl.out _).mono ?_
   rintro e w1 ⟨rfl,rfl⟩
   go_wp2_with fail
   refine (HF.out _ _).mono ?_
   rintro e w2 ⟨⟨ev,rfl,hev⟩,hb⟩
   go_wp2
   go_ret
   exact taberr_of H.out hb ⟨_,rfl⟩
  ·have e0:beT l i s=l.set p ⟨ti,re,⟨i,s,ho,va,jo,lo,sp⟩⟩:=by unfold beT;rw[hof];exact if_neg h4
   rw[e0]
   have h4b:(st==4)=false:=by simp[h4]
   have HS:=Lib.hid (h.stored hp 4 (by omega) (.int .i64 s) ⟨ti,re,⟨i,s,ho,va,jo,lo,sp⟩⟩ (by rw[hr];rfl) ⟨hk.times,hk.id,fun e=>absurd e h0,by show 0≤s∧s≤4;omega,hk.home,hk.value,hk.joiner⟩)
   have hfr:=h.frozen (p*10+4)
   clear hof h e0 hs hid hk hr h4
   go_enter Tryz.func191,Tryz.ntmps191
   go_wp2_with fail
   refine HO.out.mono ?_
   rintro e w1 ⟨rfl,q,rfl⟩
   go_wp2_with fail
   refine (HAl.out _).mono ?_
   rintro e w1 ⟨rfl,rfl⟩
   go_wp2
   go_ret
   exact ⟨⟨_,rfl⟩,HS.out.of_blocks fun _ _=>rfl,(keeps_drewN (X:=fun b=>b=gt) w q).setCell (p:=⟨gt,p*10+4,none⟩) rfl _⟩
end Go.Proofs.YtaangaogmnlljaaGreatDoor.Kn
namespace Go.Proofs.YtaangaogmnlljaaGreatDoor.Kn
open Go.RowKit Go.Maps Asm
def pv (B:Int→Nat) (o:Option Slp):Value:=match o with
 |some s=> .pointer (some ⟨B s.id,0,none⟩)
 |none=> .pointer none
def nodeA (B:Int→Nat) (L:List Slp) (s:Slp):Array Value:=#[.int .u64 s.id, .int .u64 s.addr, .int .u64 s.mask,pv B (prevOf s.id L),pv B (nextOf s.id L)]
def qend (B:Int→Nat) (l:List Slp) (b:Nat):List Value:= [pv B (bkt l b).head?,pv B (bkt l b).getLast?]
def wqC (B:Int→Nat) (l:List Slp):List Value:=(List.range 8).flatMap (qend B l)
structure WqR (w:World) (Q gl mb:Nat) (B:Int→Nat) (l:List Slp):Prop where
 nod:(ids l).Nodup
 rng: ∀s∈l,s.id≠0∧WU64 s.id∧WU64 s.addr∧WU64 s.mask
 obj:w.heap[Q]?=some (.cells #[.slice (some ⟨gl,0,none⟩) 8 8, .map (some mb)] 334 (0,0))
 row:w.heap[gl]?=some (.cells (wqC B l).toArray 385 (0,0))
 node: ∀s∈l,w.heap[B s.id]?=some (.cells (nodeA B (bkt l (bucketOf s.addr)) s) 387 (0,0))
theorem mem_ids {l:List Slp} {s:Slp} (h:s∈l):s.id∈ids l:=List.mem_map_of_mem h
theorem bkt_mem {l:List Slp} {b:Int} {s:Slp}:s∈bkt l b↔s∈l∧bucketOf s.addr=b:=by simp[bkt]
theorem id_inj {l:List Slp} (h:(ids l).Nodup) {s t:Slp} (hs:s∈l) (ht:t∈l) (e:s.id=t.id):s=t:=by
 induction l with
 |nil=>cases hs
 |cons a l ih=>
  simp only[ids,List.map_cons,List.nodup_cons] at h
  obtain ⟨h1,h2⟩:=h
  rcases List.mem_cons.1 hs with hs'|hs'
  ·rcases List.mem_cons.1 ht with ht'|ht'
   ·rw[hs',ht']
   ·exact absurd (mem_ids ht') (by rw[←e,hs'];exact h1)
  ·rcases List.mem_cons.1 ht with ht'|ht'
   ·exact absurd (mem_ids hs') (by rw[e,ht'];exact h1)
   ·exact ih h2 hs' ht'
section
variable {w w':World} {Q gl mb:Nat} {B:Int→Nat} {l:List Slp}
def OfW (Q gl:Nat) (B:Int→Nat) (l:List Slp) (b:Nat):Prop:=b=Q∨b=gl∨ ∃s∈l,b=B s.id
theorem WqR.of_blocks (h:WqR w Q gl mb B l) (e: ∀b,OfW Q gl B l b→w'.heap[b]?=w.heap[b]?):WqR w' Q gl mb B l:=
 ⟨h.nod,h.rng,(e Q (Or.inl rfl)).trans h.obj,(e gl (Or.inr (Or.inl rfl))).trans h.row,fun s hs=>(e _ (Or.inr (Or.inr ⟨s,hs,rfl⟩))).trans (h.node s hs)⟩
theorem WqR.ne (h:WqR w Q gl mb B l):Q≠gl:=blk_ne h.obj h.row (by decide)
theorem WqR.inj (h:WqR w Q gl mb B l) {s t:Slp} (hs:s∈l) (ht:t∈l) (e:B s.id=B t.id):s=t:=by
 have h1:=h.node s hs
 rw[e,h.node t ht] at h1
 injection h1 with h1
 injection h1 with h1 _ _
 have:(nodeA B (bkt l (bucketOf t.addr)) t)[0]?=(nodeA B (bkt l (bucketOf s.addr)) s)[0]?:=by rw[h1]
 simp[nodeA] at this
 exact (id_inj h.nod ht hs this).symm
theorem WqR.lt (h:WqR w Q gl mb B l) {b:Nat} (hb:OfW Q gl B l b):b<w.heap.size:=by
 rcases hb with rfl|rfl|⟨s,hs,rfl⟩
 ·exact blk_in h.obj
 ·exact blk_in h.row
 ·exact blk_in (h.node s hs)
theorem wqC_len (B:Int→Nat) (l:List Slp):(wqC B l).length=16:=by
 unfold wqC;rw[flL_len (k:=2) (f:=qend B l) (fun _=>rfl)];simp
theorem wqC_at (B:Int→Nat) (l:List Slp) (b:Nat) (hb:b<8):(wqC B l)[b*2]?=some (pv B (bkt l b).head?)∧(wqC B l)[b*2+1]?=some (pv B (bkt l b).getLast?):=by
 have h0:=flL_at (k:=2) (f:=qend B l) (fun _=>rfl) (List.range 8) b (by simpa using hb) 0 (by omega)
 have h1:=flL_at (k:=2) (f:=qend B l) (fun _=>rfl) (List.range 8) b (by simpa using hb) 1 (by omega)
 rw[List.getElem_range] at h0 h1
 exact ⟨h0,h1⟩
theorem WqR.ends (h:WqR w Q gl mb B l) (b:Nat) (hb:b<8):w.cell? ⟨gl,b*2,none⟩=some (pv B (bkt l b).head?)∧w.cell? ⟨gl,b*2+1,none⟩=some (pv B (bkt l b).getLast?):=by
 obtain ⟨h0,h1⟩:=wqC_at B l b hb
 rw[blk_cell h.row,blk_cell h.row]
 exact ⟨by simpa using h0,by simpa using h1⟩
theorem pv_congr {B B':Int→Nat} {o:Option Slp} (h: ∀s,o=some s→B' s.id=B s.id):pv B' o=pv B o:=by
 cases o with
 |none=>rfl
 |some s=>simp[pv,h s rfl]
end
theorem wqC_ext {B':Int→Nat} {l':List Slp} {xs:List Value} (hx:xs.length=16) (h: ∀b:Nat,b<8→xs[b*2]?=some (pv B' (bkt l' b).head?)∧xs[b*2+1]?=some (pv B' (bkt l' b).getLast?)):xs=wqC B' l':=by
 apply List.ext_getElem?
 intro i
 by_cases hi:i<16
 ·obtain ⟨h0,h1⟩:=h (i/2) (by omega)
  obtain ⟨g0,g1⟩:=wqC_at B' l' (i/2) (by omega)
  rcases Nat.mod_two_eq_zero_or_one i with e|e
  ·have e2:i/2*2=i:=by omega
   rw[e2] at h0 g0
   rw[h0,g0]
  ·have e2:i/2*2+1=i:=by omega
   rw[e2] at h1 g1
   rw[h1,g1]
 ·rw[List.getElem?_eq_none (by omega),List.getElem?_eq_none (by rw[wqC_len];omega)]
end Go.Proofs.YtaangaogmnlljaaGreatDoor.Kn
namespace Go.Proofs.YtaangaogmnlljaaGreatDoor.Kn
open Go.RowKit Asm
structure RingR (w:World) (R gr fr:Nat) (C l:List Int):Prop where
 len:C.length=64
 from':fr<64
 most:l.length≤64
 obj:w.heap[R]?=some (.cells #[.slice (some ⟨gr,0,none⟩) 64 64, .int .i64 fr, .int .i64 l.length] 329 (0,0))
 row:w.heap[gr]?=some (.cells (u64A C) 53 (0,0))
 hold: ∀i,i<l.length→C.getD ((fr+i)%64) 0=l.getD i 0
 u: ∀x∈l,U64 x
def RingP (w:World) (R gr:Nat) (l:List Int):Prop:= ∃fr C,RingR w R gr fr C l
section
variable {w w':World} {R gr fr:Nat} {C l:List Int}
theorem RingR.of_blocks (h:RingR w R gr fr C l) (e: ∀b,b=R∨b=gr→w'.heap[b]?=w.heap[b]?):RingR w' R gr fr C l:=
 ⟨h.len,h.from',h.most,(e R (Or.inl rfl)).trans h.obj,(e gr (Or.inr rfl)).trans h.row,h.hold,h.u⟩
theorem RingP.of_blocks (h:RingP w R gr l) (e: ∀b,b=R∨b=gr→w'.heap[b]?=w.heap[b]?):RingP w' R gr l:=by
 obtain ⟨fr,C,h⟩:=h;exact ⟨fr,C,h.of_blocks e⟩
theorem RingR.ne (h:RingR w R gr fr C l):R≠gr:=blk_ne h.obj h.row (by decide)
theorem RingP.lt (h:RingP w R gr l):R<w.heap.size∧gr<w.heap.size:=by obtain ⟨fr,C,h⟩:=h;exact ⟨blk_in h.obj,blk_in h.row⟩
theorem RingP.below (h:RingP w R gr l) (hb:Below w.heap.size w w'):RingP w' R gr l:=
 h.of_blocks fun b hb'=>hb.block b (by obtain ⟨l1,l2⟩:=h.lt;rcases hb' with rfl|rfl<;>assumption)
end
set_option maxRecDepth 100000 in
set_option maxHeartbeats 1000000 in
theorem rat_any {w:World} {R gr fr:Nat} {C l:List Int} (h:RingR w R gr fr C l) (i:Nat) (hi:i≤64):
  Calls Tryz.prog 173 #[.pointer (some ⟨R,0,none⟩), .int .i64 i] w fun e w'=>e= .returned (.pointer (some ⟨gr,(fr+i)%64,none⟩))∧ ∃q,w'=w.drewN q:=by
 have c0:w.cell? ⟨R,0,none⟩=some (.slice (some ⟨gr,0,none⟩) 64 64):=by rw[blk_cell h.obj];rfl
 have c1:w.cell? ⟨R,1,none⟩=some (.int .i64 fr):=by rw[blk_cell h.obj];rfl
 have hf:=h.from'
 have hfI:(fr:Int)<64:=by omega
 have hiI:(i:Int)≤64:=by omega
 have hs:IntKind.i64.wrap ((fr:Int)+(i:Int))=(fr:Int)+(i:Int):=IntWalk.i64_in _ (by omega)
 have hm:((fr:Int)+(i:Int))%64=(((fr+i)%64:Nat):Int):=by omega
 have hm2:((fr:Int)+(i:Int)).tmod 64=(((fr+i)%64:Nat):Int):=by rw[Int.tmod_eq_emod_of_nonneg (by omega)];exact hm
 have hml:(((fr+i)%64:Nat):Int)<64:=by omega
 generalize (fr+i)%64=k at*
 clear h hi hf
 go_enter Tryz.func173,Tryz.ntmps173
 go_wp2_with fail
 go_quiet (fail)
 go_wp2
 go_ret
 exact ⟨rfl,_,rfl⟩
theorem RingR.cells {w:World} {R gr fr:Nat} {C l:List Int} (h:RingR w R gr fr C l):w.cell? ⟨R,0,none⟩=some (.slice (some ⟨gr,0,none⟩) 64 64)∧w.cell? ⟨R,1,none⟩=some (.int .i64 fr)∧w.cell? ⟨R,2,none⟩=some (.int .i64 l.length)∧ ∀o,w.frozen? ⟨R,o,none⟩=false:=
 ⟨by rw[blk_cell h.obj];rfl,by rw[blk_cell h.obj];rfl,by rw[blk_cell h.obj];rfl,fun o=>blk_frozen h.obj o⟩
theorem getD_setI (C:List Int) (k j:Nat) (v:Int) (hk:k<C.length):(C.set k v).getD j 0=if j=k then v else C.getD j 0:=by
 rw[List.getD_eq_getElem?_getD,List.getD_eq_getElem?_getD,List.getElem?_set]
 by_cases e:k=j
 ·subst e;rw[if_pos rfl,if_pos rfl,if_pos hk];rfl
 ·rw[if_neg e,if_neg (Ne.symm e)]
theorem RingR.putI {w:World} {R gr fr:Nat} {C l:List Int} (h:RingR w R gr fr C l) (v:Int) (hv:U64 v) (hl:l.length<64):
  RingR ((w.setCell ⟨gr,(fr+l.length)%64,none⟩ (.int .u64 v)).setCell ⟨R,2,none⟩ (.int .i64 ((l.length:Int)+1))) R gr fr (C.set ((fr+l.length)%64) v) (l++ [v]):=by
 have hn:=h.ne
 refine ⟨by rw[List.length_set];exact h.len,h.from',by simp;omega,?_,?_,?_,?_⟩
 ·have h1:(w.setCell ⟨gr,(fr+l.length)%64,none⟩ (.int .u64 v)).heap[R]?=some (.cells #[.slice (some ⟨gr,0,none⟩) 64 64, .int .i64 fr, .int .i64 l.length] 329 (0,0)):=(set_other hn).trans h.obj
  rw[set_block h1]
  simp
 ·rw[set_other (Ne.symm hn)]
  have:=set_block (k:=(fr+l.length)%64) (w:=w) h.row (.int .u64 v)
  rw[this,u64A_set]
 ·intro i hi
  rw[getD_setI _ _ _ _ (by rw[h.len];omega)]
  rw[List.length_append] at hi
  simp only[List.length_cons,List.length_nil] at hi
  have hf:=h.from'
  by_cases e:i=l.length
  ·subst e
   rw[if_pos rfl]
   simp
  ·rw[if_neg (by omega),h.hold i (by omega)]
   rw[List.getD_eq_getElem?_getD,List.getD_eq_getElem?_getD,List.getElem?_append_left (by omega)]
 ·intro x hx
  rcases List.mem_append.1 hx with hx|hx
  ·exact h.u x hx
  ·simp at hx;subst hx;exact hv
theorem RingR.takeI {w:World} {R gr fr:Nat} {C:List Int} {x:Int} {l:List Int} (h:RingR w R gr fr C (x::l)):
  RingR ((w.setCell ⟨R,1,none⟩ (.int .i64 (((fr+1)%64:Nat):Int))).setCell ⟨R,2,none⟩ (.int .i64 (l.length:Int))) R gr ((fr+1)%64) C l:=by
 have hn:=h.ne
 have hf:=h.from'
 refine ⟨h.len,by omega,by have:=h.most;simp at this;omega,?_,?_,?_,fun y hy=>h.u y (List.mem_cons_of_mem _ hy)⟩
 ·have h1:=set_block (k:=1) (w:=w) h.obj (.int .i64 (((fr+1)%64:Nat):Int))
  rw[set_block h1]
  simp
 ·exact (set_other (Ne.symm hn)).trans ((set_other (Ne.symm hn)).trans h.row)
 ·intro i hi
  have:=h.hold (i+1) (by simpa using hi)
  rw[show ((fr+1)%64+i)%64=(fr+(i+1))%64 by omega,this]
  rfl
def OfRg (R gr b:Nat):Prop:=b=R∨b=gr
set_option maxRecDepth 100000 in
set_option maxHeartbeats 1000000 in
theorem rput_any {w:World} {R gr:Nat} {l:List Int} (h:RingP w R gr l) (v:Int) (hv:U64 v):
  Calls Tryz.prog 85 #[.pointer (some ⟨R,0,none⟩), .int .u64 v] w fun e w'=>(∃ev,e= .returned ev)∧RingP w' R gr (putRing l v)∧Keeps (OfRg R gr) w w':=by
 obtain ⟨fr,C,h⟩:=h
 obtain ⟨c0,c1,c2,f⟩:=h.cells
 have hm:=h.most
 obtain ⟨n,hn⟩: ∃n,n=l.length:=⟨_,rfl⟩
 have hnI:(n:Int)≤64:=by omega
 rw[←hn] at c2
 by_cases hl:n=64
 ·subst hl
  have e0:putRing l v=l:=by unfold putRing;rw[if_pos (by omega)]
  rw[e0]
  have H:=Lib.hid h
  clear h hm e0 hn
  go_enter Tryz.func85,Tryz.ntmps85
  go_wp2_with fail
  go_quiet (fail)
  go_wp2
  go_ret
  refine ⟨⟨_,rfl⟩,?_⟩
  have hb0: ∀o,Below w.heap.size w ((w.drewN nq).alloc o):=fun o=>(bdrewN w nq).trans ((Below.refl _ (w.drewN nq)).alloc (Nat.le_refl _) o)
  exact ⟨⟨fr,C,H.out.of_blocks fun b hb'=>(hb0 _).block b (by rcases hb' with rfl|rfl;exact blk_in H.out.obj;exact blk_in H.out.row)⟩,Keeps.ofBelow (hb0 _)⟩
 ·have hl2:n<64:=by omega
  have e0:putRing l v=l++ [v]:=by unfold putRing;rw[if_neg (by omega)]
  rw[e0]
  have hlI:((n:Int)==64)=false:=by simp;omega
  have hlI2:(n:Int)<64:=by omega
  have HA:=Lib.hid (fun q=>rat_any (h.of_blocks (w':=w.drewN q) fun _ _=>rfl) n (by omega))
  have HP:=Lib.hid (fun q=>(h.of_blocks (w':=w.drewN q) fun _ _=>rfl).putI v hv (by omega))
  rw[←hn] at HP
  have hk:(fr+n)%64<64:=by omega
  have gk: ∃u,w.cell? ⟨gr,(fr+n)%64,none⟩=some u:=⟨_,by rw[blk_cell h.row];exact u64A_at (by rw[h.len];exact hk)⟩
  obtain ⟨u,gk⟩:=gk
  have gf:=blk_frozen h.row ((fr+n)%64)
  have hne:=h.ne
  generalize (fr+n)%64=k at*
  clear h hm e0 hn hl
  go_enter Tryz.func85,Tryz.ntmps85
  go_wp2_with fail
  go_quiet (fail)
  go_wp2_with fail
  refine (HA.out _).mono ?_
  rintro e w1 ⟨rfl,q,rfl⟩
  rw[World.drewN_drewN]
  go_wp2
  go_ret
  exact ⟨⟨_,rfl⟩,⟨fr,_,HP.out _⟩,((keeps_drewN (X:=OfRg R gr) w _).setCell (p:=⟨gr,k,none⟩) (Or.inr rfl) _).setCell (p:=⟨R,2,none⟩) (Or.inl rfl) _⟩
set_option maxRecDepth 100000 in
set_option maxHeartbeats 1000000 in
theorem rtake_any {w:World} {R gr:Nat} {l:List Int} (h:RingP w R gr l):
  Calls Tryz.prog 294 #[.pointer (some ⟨R,0,none⟩)] w fun e w'=>e= .returned (.tuple #[.int .u64 (l.headD 0), .bool (!l.isEmpty)])∧RingP w' R gr (l.drop 1)∧Keeps (OfRg R gr) w w':=by
 obtain ⟨fr,C,h⟩:=h
 obtain ⟨c0,c1,c2,f⟩:=h.cells
 cases l with
 |nil=>
  have H:=Lib.hid h
  clear h
  go_enter Tryz.func294,Tryz.ntmps294
  go_wp2
  go_ret2
  exact ⟨rfl,⟨fr,C,H.out⟩,Keeps.refl _ _⟩
 |cons x l=>
  have hm:=h.most
  obtain ⟨n,hn⟩: ∃n,n=l.length:=⟨_,rfl⟩
  rw[List.length_cons,←hn] at c2
  rw[List.length_cons,←hn] at hm
  have hnI:(n:Int)<64:=by omega
  have hf:=h.from'
  have hfI:(fr:Int)<64:=by omega
  have HA:=Lib.hid (rat_any h 0 (by omega))
  rw[Nat.add_zero,Nat.mod_eq_of_lt hf] at HA
  have HT:=Lib.hid (fun q=>(h.of_blocks (w':=(w.drewN q).drew) fun _ _=>rfl).takeI)
  rw[←hn] at HT
  have gk:w.cell? ⟨gr,fr,none⟩=some (.int .u64 x):=by
   have:=h.hold 0 (by simp)
   rw[Nat.add_zero,Nat.mod_eq_of_lt hf] at this
   rw[blk_cell h.row,u64A_at (by rw[h.len];exact hf),this]
   rfl
  have hs:IntKind.i64.wrap ((fr:Int)+1)=(fr:Int)+1:=IntWalk.i64_in _ (by omega)
  have hm1:((fr:Int)+1)%64=(((fr+1)%64:Nat):Int):=by omega
  have hm2:((fr:Int)+1).tmod 64=(((fr+1)%64:Nat):Int):=by rw[Int.tmod_eq_emod_of_nonneg (by omega)];exact hm1
  have hne:=h.ne
  generalize (fr+1)%64=k at*
  have HM1:=Lib.hid hm1
  clear h hm hn hf hm1
  go_enter Tryz.func294,Tryz.ntmps294
  go_wp2_with fail
  refine HA.out.mono ?_
  rintro e w1 ⟨rfl,q,rfl⟩
  go_wp2_with fail
  have d0:(w.drewN q).cell? ⟨R,0,none⟩=some (.slice (some ⟨gr,0,none⟩) 64 64):=c0
  have d1:(w.drewN q).cell? ⟨R,1,none⟩=some (.int .i64 fr):=c1
  have d2:(w.drewN q).cell? ⟨R,2,none⟩=some (.int .i64 ((n+1:Nat):Int)):=c2
  have df: ∀o,(w.drewN q).frozen? ⟨R,o,none⟩=false:=f
  have HK:Hid (Keeps (OfRg R gr) w (w.drewN q)):=Lib.hid (keeps_drewN w q)
  have HT1:=Lib.hid (HT.out q)
  generalize w.drewN q=w1 at HT1 HK d0 d1 d2 df ⊢
  clear c0 c1 c2 f HT
  go_still_tail 14,(by kernel_rfl)
  change wpList _ _ _ _ _ w1.drew
  have HK2:Hid (Keeps (OfRg R gr) w w1.drew):=Lib.hid HK.out.drew
  have e1:w1.drew.cell? ⟨R,1,none⟩=some (.int .i64 fr):=d1
  have e2:w1.drew.cell? ⟨R,2,none⟩=some (.int .i64 ((n+1:Nat):Int)):=d2
  have ef: ∀o,w1.drew.frozen? ⟨R,o,none⟩=false:=df
  generalize w1.drew=w2 at HT1 HK2 e1 e2 ef ⊢
  go_wp2_with fail
  go_ret2
  exact ⟨rfl,⟨_,C,HT1.out⟩,(HK2.out.setCell (p:=⟨R,1,none⟩) (Or.inl rfl) _).setCell (p:=⟨R,2,none⟩) (Or.inl rfl) _⟩
end Go.Proofs.YtaangaogmnlljaaGreatDoor.Kn
namespace Go.Proofs.YtaangaogmnlljaaGreatDoor.Kn
open Go.RowKit Go.Maps Asm
theorem WqR.cells {w:World} {Q gl mb:Nat} {B:Int→Nat} {l:List Slp} (h:WqR w Q gl mb B l):w.cell? ⟨Q,0,none⟩=some (.slice (some ⟨gl,0,none⟩) 8 8)∧w.cell? ⟨Q,1,none⟩=some (.map (some mb))∧ ∀o,w.frozen? ⟨gl,o,none⟩=false:=
 ⟨by rw[blk_cell h.obj];rfl,by rw[blk_cell h.obj];rfl,fun o=>blk_frozen h.row o⟩
theorem quiet_lf {P:Program} {f:FuncId} {args:Array Value} {w:World} {n:Nat} {v:Value}
  (h:Calls P f args (w.drewN n) fun e w'=>e= .returned v∧w.drewN n=w'):Calls P f args (w.drewN n) fun e w''=>e= .returned v∧ ∃m,w''=w.drewN m:=
 h.mono fun _ _ ⟨he,hm⟩=>⟨he,n,hm.symm⟩
structure Lone (w:World) (Q gl:Nat) (B:Int→Nat) (l:List Slp) (s:Slp) (p n:Value):Prop where
 blk:w.heap[B s.id]?=some (.cells #[.int .u64 s.id, .int .u64 s.addr, .int .u64 s.mask,p,n] 387 (0,0))
 new:s.id∉ids l
 rng:s.id≠0∧WU64 s.id∧WU64 s.addr∧WU64 s.mask
theorem Lone.ne {w:World} {Q gl mb:Nat} {B:Int→Nat} {l:List Slp} {s:Slp} {p n:Value} (k:Lone w Q gl B l s p n) (h:WqR w Q gl mb B l):B s.id≠Q∧B s.id≠gl∧ ∀t∈l,B s.id≠B t.id:=by
 refine ⟨blk_ne k.blk h.obj (by decide),blk_ne k.blk h.row (by decide),fun t ht e=>k.new ?_⟩
 have h1:=k.blk
 rw[e,h.node t ht] at h1
 injection h1 with h1
 injection h1 with h1 _ _
 have:(nodeA B (bkt l (bucketOf t.addr)) t)[0]?=(#[.int .u64 s.id, .int .u64 s.addr, .int .u64 s.mask,p,n]:Array Value)[0]?:=by rw[h1]
 simp[nodeA] at this
 rw[←this]
 exact mem_ids ht
end Go.Proofs.YtaangaogmnlljaaGreatDoor.Kn
namespace Go.Proofs.YtaangaogmnlljaaGreatDoor.Kn
open Go.RowKit Go.Maps Asm
theorem find_at {α:Type} {p:α→Bool} {L:List α} {k:Nat} {s:α} (h:L[k]?=some s) (hp:p s=true) (hb: ∀j,j<k→ ∀x,L[j]?=some x→p x=false):L.find? p=some s:=by
 induction L generalizing k with
 |nil=>simp at h
 |cons a L ih=>
  cases k with
  |zero=>simp at h;subst h;rw[List.find?_cons,hp]
  |succ k=>
   rw[List.find?_cons,hb 0 (by omega) a rfl]
   exact ih (by simpa using h) fun j hj x hx=>hb (j+1) (by omega) x (by simpa using hx)
end Go.Proofs.YtaangaogmnlljaaGreatDoor.Kn
namespace Go.Proofs.YtaangaogmnlljaaGreatDoor.Kn
open Go.RowKit Go.Maps Asm
def whereF (B:Int→Nat) (l:List Slp):Int→Option Nat:=fun id=>(whereS l id).map fun s=>B s.id
structure WqP (w:World) (Q gl mb:Nat) (B:Int→Nat) (l:List Slp) (N:Nat):Prop where
 r:WqR w Q gl mb B l
 map:GMap ptrs w mb (whereF B l) N
 most:N≤1000000000
def OfQ (Q gl mb:Nat) (B:Int→Nat) (l:List Slp) (b:Nat):Prop:=OfW Q gl B l b∨b=mb
section
variable {w w':World} {Q gl mb:Nat} {B:Int→Nat} {l:List Slp} {N:Nat}
theorem WqP.of_blocks (h:WqP w Q gl mb B l N) (e: ∀b,OfQ Q gl mb B l b→w'.heap[b]?=w.heap[b]?):WqP w' Q gl mb B l N:=
 ⟨h.r.of_blocks fun b hb=>e b (Or.inl hb),h.map.of_block (e mb (Or.inr rfl)),h.most⟩
theorem WqP.lt (h:WqP w Q gl mb B l N) {b:Nat} (hb:OfQ Q gl mb B l b):b<w.heap.size:=by
 rcases hb with hb|rfl
 ·exact h.r.lt hb
 ·exact h.map.lt
theorem WqP.below (h:WqP w Q gl mb B l N) (hb:Below w.heap.size w w'):WqP w' Q gl mb B l N:=h.of_blocks fun b hb'=>hb.block b (h.lt hb')
end
theorem wqC_congr {B B':Int→Nat} {l:List Slp} (h: ∀s∈l,B' s.id=B s.id):wqC B' l=wqC B l:=by
 refine (wqC_ext (wqC_len B' l) fun b hb=>?_)
 obtain ⟨h0,h1⟩:=wqC_at B' l b hb
 rw[h0,h1]
 refine ⟨congrArg some (pv_congr fun s hs=>?_),congrArg some (pv_congr fun s hs=>?_)⟩
 ·exact h s (bkt_mem.1 (List.mem_of_mem_head? (by simpa using hs))).1
 ·exact h s (bkt_mem.1 (List.mem_of_getLast? hs)).1
theorem WqR.congr {w:World} {Q gl mb:Nat} {B B':Int→Nat} {l:List Slp} (h:WqR w Q gl mb B l) (e: ∀s∈l,B' s.id=B s.id):WqR w Q gl mb B' l:=by
 refine ⟨h.nod,h.rng,h.obj,by rw[wqC_congr e];exact h.row,fun s hs=>?_⟩
 rw[e s hs,h.node s hs]
 unfold nodeA
 rw[pv_congr (B':=B') (B:=B) (fun x hx=>e x (bkt_mem.1 (prevOf_mem hx)).1),pv_congr (B':=B') (B:=B) (fun x hx=>e x (bkt_mem.1 (nextOf_mem hx)).1)]
end Go.Proofs.YtaangaogmnlljaaGreatDoor.Kn
namespace Go.Proofs.YtaangaogmnlljaaGreatDoor.Kn
open Go.RowKit Go.Maps Asm Hp
def armL:List Value→Option (DataW Unit×List MemPlace)
 |[.int .i64 h, .int .u64 d]=>some (.agg [.lit (.int .i64 h), .lit (.int .u64 d)],[])
 |_=>none
def armR:Value→Option (DataW Unit×List MemPlace)
 | .agg cs=>armL cs.toList
 |_=>none
theorem armL_cases {l:List Value} {d:DataW Unit} {ps:List MemPlace} (h:armL l=some (d,ps)): ∃a b:Int,l= [.int .i64 a, .int .u64 b]∧d= .agg [.lit (.int .i64 a), .lit (.int .u64 b)]:=by
 unfold armL at h
 split at h
 ·injection h with h;injection h with h _;exact ⟨_,_,rfl,h.symm⟩
 ·cases h
theorem armR_cases {v:Value} {d:DataW Unit} {ps:List MemPlace} (h:armR v=some (d,ps)): ∃a b:Int,v= .agg #[.int .i64 a, .int .u64 b]∧d= .agg [.lit (.int .i64 a), .lit (.int .u64 b)]:=by
 unfold armR at h
 split at h
 ·rename_i cs
  obtain ⟨a,b,e,hd⟩:=armL_cases h
  obtain ⟨l⟩:=cs
  exact ⟨a,b,by rw[show l=_ from e],hd⟩
 ·cases h
def arms:Reads (Int×Int) where
 val c:= .agg #[.int .i64 c.1, .int .u64 c.2]
 dat c:= .agg [.lit (.int .i64 c.1), .lit (.int .u64 c.2)]
 R:=armR
 zv:= .agg #[.int .i64 0, .int .u64 0]
 zd:= .agg [.lit (.int .i64 0), .lit (.int .u64 0)]
 hR _:=rfl
 hI v c ps h:=by
  obtain ⟨a,b,rfl,h1⟩:=armR_cases h
  have:c.1=a∧c.2=b:=by simpa using h1
  rw[this.1,this.2]
 hZ:=rfl
 hZI v ps h:=by
  obtain ⟨a,b,rfl,h1⟩:=armR_cases h
  have:(0:Int)=a∧(0:Int)=b:=by simpa using h1
  rw[←this.1,←this.2]
def byF (S:List Thing):Int→Option (Int×Int):=fun id=>(S.find? fun t=>t.w==id).map fun t=>(t.h,t.d)
structure ClkP (w:World) (C hb hm:Nat) (v:Value) (ab:Nat) (c:Clk) (N K:Nat):Prop where
 obj:w.heap[C]?=some (.cells #[.int .u64 c.now, .pointer (some ⟨hb,0,none⟩), .map (some ab)] 327 (0,0))
 heap:HeapIs w hb hm v 0 c.S c.last N
 by':GMap arms w ab (byF c.S) K
 apart:ab≠hm
 nod:(c.S.map (·.w)).Nodup
 rng: ∀t∈c.S,t.w≠0∧t.d<18446744073709551615
 now:0≤c.now∧c.now≤1000000000
 few:c.S.length≤1000
def OfC (C hb hm:Nat) (v:Value) (ab:Nat) (b:Nat):Prop:=b=C∨b=ab∨Of hb hm v b
section
variable {w w':World} {C hb hm:Nat} {v:Value} {ab:Nat} {c:Clk} {N K:Nat}
theorem ClkP.of_blocks (h:ClkP w C hb hm v ab c N K) (e: ∀b,OfC C hb hm v ab b→w'.heap[b]?=w.heap[b]?):ClkP w' C hb hm v ab c N K:=
 ⟨(e C (Or.inl rfl)).trans h.obj,h.heap.of_blocks fun k hk=>e k (Or.inr (Or.inr hk)),h.by'.of_block (e ab (Or.inr (Or.inl rfl))),h.apart,h.nod,h.rng,h.now,h.few⟩
theorem ClkP.lt (h:ClkP w C hb hm v ab c N K) {b:Nat} (hb':OfC C hb hm v ab b):b<w.heap.size:=by
 rcases hb' with rfl|rfl|hk
 ·exact blk_in h.obj
 ·exact h.by'.lt
 ·exact h.heap.of_lt hk
theorem ClkP.below (h:ClkP w C hb hm v ab c N K) (hb':Below w.heap.size w w'):ClkP w' C hb hm v ab c N K:=h.of_blocks fun b hk=>hb'.block b (h.lt hk)
theorem ClkP.out (h:ClkP w C hb hm v ab c N K): ¬Of hb hm v C∧ ¬Of hb hm v ab∧C≠ab:=by
 obtain ⟨l,f,hraw,_⟩:=h.heap
 obtain ⟨es,cc,hme⟩:=h.by'.isMap
 obtain ⟨es2,cc2,hme2⟩:=hraw.map.isMap
 have ho:=hraw.obj
 unfold HObj at ho
 refine ⟨?_,?_,?_⟩
 ·rintro (e|e|e)
  ·exact blk_ne h.obj ho (by decide) e
  ·rw[←e,h.obj] at hme2;cases hme2
  ·obtain ⟨cur,hc⟩:=Hp.row_block hraw.row e
   exact blk_ne h.obj hc (by decide) rfl
 ·rintro (e|e|e)
  ·rw[e,ho] at hme;cases hme
  ·exact h.apart e
  ·obtain ⟨cur,hc⟩:=Hp.row_block hraw.row e
   rw[hc] at hme;cases hme
 ·intro e
  rw[←e,h.obj] at hme;cases hme
theorem ClkP.cells (h:ClkP w C hb hm v ab c N K):w.cell? ⟨C,0,none⟩=some (.int .u64 c.now)∧w.cell? ⟨C,1,none⟩=some (.pointer (some ⟨hb,0,none⟩))∧w.cell? ⟨C,2,none⟩=some (.map (some ab))∧ ∀o,w.frozen? ⟨C,o,none⟩=false:=
 ⟨by rw[blk_cell h.obj];rfl,by rw[blk_cell h.obj];rfl,by rw[blk_cell h.obj];rfl,fun o=>blk_frozen h.obj o⟩
end
theorem ClkP.mono {w:World} {C hb hm:Nat} {v:Value} {ab:Nat} {c:Clk} {N K N' K':Nat} (h:ClkP w C hb hm v ab c N K) (hN:N≤N') (hK:K≤K'):ClkP w C hb hm v ab c N' K':=by
 obtain ⟨l,f,hraw,hr⟩:=h.heap
 exact ⟨h.obj,⟨l,f,hraw.mono hN,hr⟩,h.by'.mono hK,h.apart,h.nod,h.rng,h.now,h.few⟩
end Go.Proofs.YtaangaogmnlljaaGreatDoor.Kn
namespace Go.Proofs.YtaangaogmnlljaaGreatDoor.Kn
open Go.RowKit Asm
def AccOut (w:World) (X gc gw:Nat) (r:Option (Int×Mem)) (e:Ending) (w':World):Prop:=match r with
 |none=>(∃ev,e= .returned (.tuple #[.int .u64 0,ev])∧Som ev)∧Below w.heap.size w w'
 |some (was,m')=>e= .returned (.tuple #[.int .u64 was, .nilIface])∧MemP w' X gc gw m'∧Keeps (fun b=>b=X∨b=gc) w w'
theorem MemP.counted {w:World} {X gc gw:Nat} {m:Mem} (h:MemP w X gc gw m) (c:Int):MemP (w.setCell ⟨X,3,none⟩ (.int .i64 c)) X gc gw m:=by
 obtain ⟨n1,n2,n3⟩:=h.ne
 obtain ⟨t,c',ho⟩:=h.obj
 exact ⟨h.ok,⟨t,c,set_block ho _⟩,(set_other (fun e=>n1 e.symm)).trans h.hs,(set_other (fun e=>n2 e.symm)).trans h.ws⟩
theorem MemP.laid {w:World} {X gc gw:Nat} {m:Mem} (h:MemP w X gc gw m) (a v:Int) (hv:0≤v∧v<18446744073709551616):MemP (w.setCell ⟨gc,a.toNat,none⟩ (.int .u64 v)) X gc gw (m.lay a v):=by
 obtain ⟨n1,n2,n3⟩:=h.ne
 obtain ⟨t,c',ho⟩:=h.obj
 refine ⟨lay_ok h.ok a v hv,⟨t,c',?_⟩,?_,(set_other (fun e=>n3 e.symm)).trans h.ws⟩
 ·rw[show (m.lay a v).hs.length=m.hs.length by simp[Mem.lay],show (m.lay a v).ws=m.ws from rfl]
  exact (set_other n1).trans ho
 ·rw[set_block h.hs,u64A_set];rfl
set_option maxRecDepth 100000 in
set_option maxHeartbeats 1000000 in
theorem access_none {w:World} {X gc gw:Nat} {m:Mem} (h:MemP w X gc gw m) (kind a old v:Int) (ha:0≤a∧a<18446744073709551616) (h0:m.width a=0):
  Calls Tryz.prog 212 #[.pointer (some ⟨X,0,none⟩), .int .i64 kind, .int .u64 a, .int .u64 old, .int .u64 v] w (AccOut w X gc gw none):=by
 have H1:=Lib.hid (width_any h a ha)
 rw[h0] at H1
 have HF:=Lib.hid (fun n W=>memfail_any n 2 W)
 clear h0 h
 by_cases hb:a≤4611686018427387904
 ·go_enter Tryz.func212,Tryz.ntmps212
  go_wp2_with fail
  refine H1.out.mono ?_
  rintro e w1 ⟨rfl,rfl⟩
  go_wp2_with fail
  refine (HF.out _ _).mono ?_
  rintro e w1 ⟨⟨ev,rfl,hev⟩,hb1⟩
  go_wp2
  go_ret2
  exact ⟨⟨_,rfl,hev⟩,hb1⟩
 ·have hb':4611686018427387904<a:=by omega
  go_enter Tryz.func212,Tryz.ntmps212
  go_wp2_with fail
  refine H1.out.mono ?_
  rintro e w1 ⟨rfl,rfl⟩
  go_wp2_with fail
  refine (HF.out _ _).mono ?_
  rintro e w1 ⟨⟨ev,rfl,hev⟩,hb1⟩
  go_wp2
  go_ret2
  exact ⟨⟨_,rfl,hev⟩,hb1⟩
set_option maxRecDepth 100000 in
set_option maxHeartbeats 1000000 in
theorem access_some {w:World} {X gc gw:Nat} {m:Mem} (h:MemP w X gc gw m) (kind a old v:Int) (hk:kind=0∨kind=1∨kind=2∨kind=3∨kind=4) (ha:0≤a∧a<18446744073709551616) (ho:0≤old∧old<18446744073709551616) (hv:0≤v∧v<18446744073709551616) (h0:m.width a≠0):
  Calls Tryz.prog 212 #[.pointer (some ⟨X,0,none⟩), .int .i64 kind, .int .u64 a, .int .u64 old, .int .u64 v] w (AccOut w X gc gw (m.acc kind a old v)):=by
 have H1:=Lib.hid (width_any h a ha)
 have hin:=width_in m h.ok h0
 have hheld:=held_range m h.ok a
 obtain ⟨n1,n2,n3⟩:=h.ne
 obtain ⟨l1,l2,l3⟩:=h.lt
 obtain ⟨th,ct,hobj⟩:=h.obj
 obtain ⟨n,hn⟩: ∃n,n=m.hs.length:=⟨_,rfl⟩
 have hmost:=h.ok.most
 obtain ⟨k,rfl⟩:=Int.eq_ofNat_of_zero_le ha.1
 have hin':k<n:=by rw[hn];exact hin
 have hkI:(k:Int)<(n:Int):=by omega
 have hnI:(n:Int)≤65536:=by omega
 have W1:=h.counted (wrap64 (ct+1))
 have K1:Keeps (fun b=>b=X∨b=gc) w (w.setCell ⟨X,3,none⟩ (.int .i64 (wrap64 (ct+1)))):=(Keeps.refl _ w).setCell (Or.inl rfl) _
 have c0:w.cell? ⟨X,0,none⟩=some (.slice (some ⟨gc,0,none⟩) n n):=by rw[blk_cell hobj,hn];rfl
 have c3:w.cell? ⟨X,3,none⟩=some (.int .i64 ct):=by rw[blk_cell hobj];rfl
 have f3:w.frozen? ⟨X,3,none⟩=false:=blk_frozen hobj _
 have g1:w.cell? ⟨gc,k,none⟩=some (.int .u64 (m.held k)):=by rw[blk_cell h.hs];exact u64A_at hin
 have g2:w.frozen? ⟨gc,k,none⟩=false:=blk_frozen h.hs _
 have HW:=Lib.hid W1
 have HK:=Lib.hid K1
 have hac:m.acc kind k old v=some (m.held k,if kind=0 then m else if kind=3 then m.lay k (sumW (m.width k) (m.held k) v) else if kind=4 then (if m.held k=cutW (m.width k) old then m.lay k (cutW (m.width k) v) else m) else m.lay k (cutW (m.width k) v)):=by
  unfold Mem.acc;rw[if_neg h0]
 rw[hac]
 have HC:=Lib.hid (fun W=>cut_any (m.width k) v W hv)
 have HO:=Lib.hid (fun W=>cut_any (m.width k) old W ho)
 have HS:=Lib.hid (fun W=>sum_any (m.width k) (m.held k) v W hheld hv)
 have rC:=cutW_range (wd:=m.width k) hv
 have rS:=@sumW_range (m.width k) (m.held k) v
 have HL:=Lib.hid (fun x hx=>W1.laid (k:Int) x hx)
 rw[show ((k:Int)).toNat=k from Int.toNat_natCast k] at HL
 generalize hgc:cutW (m.width k) v=cv at*
 generalize hgo:cutW (m.width k) old=co at*
 generalize hgs:sumW (m.width k) (m.held k) v=sv at*
 generalize hgh:m.held k=was at*
 generalize hgw:m.width k=wd at*
 have HcV:=Lib.hid rC
 have HNn:=Lib.hid hn
 have HsV:=Lib.hid rS
 clear hac W1 K1 hobj hn hmost h ho hv ha hgc hgo hgs hgh hgw rC rS hin
 rcases hk with rfl|rfl|rfl|rfl|rfl
 ·rw[if_pos rfl]
  go_enter Tryz.func212,Tryz.ntmps212
  go_wp2_with fail
  refine H1.out.mono ?_
  rintro e w1 ⟨rfl,rfl⟩
  go_wp2_with fail
  go_ret2
  exact ⟨rfl,HW.out,HK.out⟩
 ·rw[if_neg (by decide),if_neg (by decide),if_neg (by decide)]
  go_enter Tryz.func212,Tryz.ntmps212
  go_wp2_with fail
  refine H1.out.mono ?_
  rintro e w1 ⟨rfl,rfl⟩
  go_wp2_with fail
  have q1:(w.setCell ⟨X,3,none⟩ (.int .i64 (wrap64 (ct+1)))).cell? ⟨gc,k,none⟩=some (.int .u64 was):=(World.cell?_of_block (a:=⟨gc,k,none⟩) (set_other (fun e=>n1 e.symm))).trans g1
  have q2:(w.setCell ⟨X,3,none⟩ (.int .i64 (wrap64 (ct+1)))).frozen? ⟨gc,k,none⟩=false:=(World.frozen?_of_block (a:=⟨gc,k,none⟩) (set_other (fun e=>n1 e.symm))).trans g2
  generalize (w.setCell ⟨X,3,none⟩ (.int .i64 (wrap64 (ct+1))))=w1 at HW HK q1 q2 ⊢
  have HW2:Hid (MemP w1.drew X gc gw m):=Lib.hid (HW.out.of_blocks fun _ _=>rfl)
  have HK2:Hid (Keeps (fun b=>b=X∨b=gc) w w1.drew):=Lib.hid HK.out.drew
  have q0:w1.drew.cell? ⟨X,0,none⟩=some (.slice (some ⟨gc,0,none⟩) n n):=by
   obtain ⟨_,_,ho⟩:=HW2.out.obj
   rw[blk_cell ho,HNn.out];rfl
  replace q1:w1.drew.cell? ⟨gc,k,none⟩=some (.int .u64 was):=q1
  replace q2:w1.drew.frozen? ⟨gc,k,none⟩=false:=q2
  go_region_with (go_at_call 270;refine (HC.out _).mono ?_;rintro e w2 ⟨rfl,rfl⟩)
  all_goals
   go_wp2_with fail
   go_ret2
   exact ⟨rfl,by have:=HW2.out.laid (k:Int) _ HcV.out;rwa[Int.toNat_natCast] at this,HK2.out.setCell (p:=⟨gc,k,none⟩) (Or.inr rfl) _⟩
 ·rw[if_neg (by decide),if_neg (by decide),if_neg (by decide)]
  go_enter Tryz.func212,Tryz.ntmps212
  go_wp2_with fail
  refine H1.out.mono ?_
  rintro e w1 ⟨rfl,rfl⟩
  go_wp2_with fail
  have q1:(w.setCell ⟨X,3,none⟩ (.int .i64 (wrap64 (ct+1)))).cell? ⟨gc,k,none⟩=some (.int .u64 was):=(World.cell?_of_block (a:=⟨gc,k,none⟩) (set_other (fun e=>n1 e.symm))).trans g1
  have q2:(w.setCell ⟨X,3,none⟩ (.int .i64 (wrap64 (ct+1)))).frozen? ⟨gc,k,none⟩=false:=(World.frozen?_of_block (a:=⟨gc,k,none⟩) (set_other (fun e=>n1 e.symm))).trans g2
  generalize (w.setCell ⟨X,3,none⟩ (.int .i64 (wrap64 (ct+1))))=w1 at HW HK q1 q2 ⊢
  have HW2:Hid (MemP w1.drew X gc gw m):=Lib.hid (HW.out.of_blocks fun _ _=>rfl)
  have HK2:Hid (Keeps (fun b=>b=X∨b=gc) w w1.drew):=Lib.hid HK.out.drew
  have q0:w1.drew.cell? ⟨X,0,none⟩=some (.slice (some ⟨gc,0,none⟩) n n):=by
   obtain ⟨_,_,ho⟩:=HW2.out.obj
   rw[blk_cell ho,HNn.out];rfl
  replace q1:w1.drew.cell? ⟨gc,k,none⟩=some (.int .u64 was):=q1
  replace q2:w1.drew.frozen? ⟨gc,k,none⟩=false:=q2
  go_region_with (go_at_call 270;refine (HC.out _).mono ?_;rintro e w2 ⟨rfl,rfl⟩)
  all_goals
   go_wp2_with fail
   go_ret2
   exact ⟨rfl,by have:=HW2.out.laid (k:Int) _ HcV.out;rwa[Int.toNat_natCast] at this,HK2.out.setCell (p:=⟨gc,k,none⟩) (Or.inr rfl) _⟩
 ·rw[if_neg (by decide),if_pos rfl]
  go_enter Tryz.func212,Tryz.ntmps212
  go_wp2_with fail
  refine H1.out.mono ?_
  rintro e w1 ⟨rfl,rfl⟩
  go_wp2_with fail
  have q1:(w.setCell ⟨X,3,none⟩ (.int .i64 (wrap64 (ct+1)))).cell? ⟨gc,k,none⟩=some (.int .u64 was):=(World.cell?_of_block (a:=⟨gc,k,none⟩) (set_other (fun e=>n1 e.symm))).trans g1
  have q2:(w.setCell ⟨X,3,none⟩ (.int .i64 (wrap64 (ct+1)))).frozen? ⟨gc,k,none⟩=false:=(World.frozen?_of_block (a:=⟨gc,k,none⟩) (set_other (fun e=>n1 e.symm))).trans g2
  generalize (w.setCell ⟨X,3,none⟩ (.int .i64 (wrap64 (ct+1))))=w1 at HW HK q1 q2 ⊢
  have HW2:Hid (MemP w1.drew X gc gw m):=Lib.hid (HW.out.of_blocks fun _ _=>rfl)
  have HK2:Hid (Keeps (fun b=>b=X∨b=gc) w w1.drew):=Lib.hid HK.out.drew
  have q0:w1.drew.cell? ⟨X,0,none⟩=some (.slice (some ⟨gc,0,none⟩) n n):=by
   obtain ⟨_,_,ho⟩:=HW2.out.obj
   rw[blk_cell ho,HNn.out];rfl
  replace q1:w1.drew.cell? ⟨gc,k,none⟩=some (.int .u64 was):=q1
  replace q2:w1.drew.frozen? ⟨gc,k,none⟩=false:=q2
  go_region_with (go_at_call 259;refine (HS.out _).mono ?_;rintro e w2 ⟨rfl,rfl⟩)
  all_goals
   go_wp2_with fail
   go_ret2
   exact ⟨rfl,by have:=HW2.out.laid (k:Int) _ HsV.out;rwa[Int.toNat_natCast] at this,HK2.out.setCell (p:=⟨gc,k,none⟩) (Or.inr rfl) _⟩
 ·rw[if_neg (by decide),if_neg (by decide),if_pos rfl]
  by_cases hwo:was=co
  ·subst hwo
   rw[if_pos rfl]
   go_enter Tryz.func212,Tryz.ntmps212
   go_wp2_with fail
   refine H1.out.mono ?_
   rintro e w1 ⟨rfl,rfl⟩
   go_wp2_with fail
   refine (HO.out _).mono ?_
   rintro e w2 ⟨rfl,rfl⟩
   go_wp2_with fail
   have q1:(w.setCell ⟨X,3,none⟩ (.int .i64 (wrap64 (ct+1)))).cell? ⟨gc,k,none⟩=some (.int .u64 was):=(World.cell?_of_block (a:=⟨gc,k,none⟩) (set_other (fun e=>n1 e.symm))).trans g1
   have q2:(w.setCell ⟨X,3,none⟩ (.int .i64 (wrap64 (ct+1)))).frozen? ⟨gc,k,none⟩=false:=(World.frozen?_of_block (a:=⟨gc,k,none⟩) (set_other (fun e=>n1 e.symm))).trans g2
   generalize (w.setCell ⟨X,3,none⟩ (.int .i64 (wrap64 (ct+1))))=w1 at HW HK q1 q2 ⊢
   have HW2:Hid (MemP w1.drew X gc gw m):=Lib.hid (HW.out.of_blocks fun _ _=>rfl)
   have HK2:Hid (Keeps (fun b=>b=X∨b=gc) w w1.drew):=Lib.hid HK.out.drew
   have q0:w1.drew.cell? ⟨X,0,none⟩=some (.slice (some ⟨gc,0,none⟩) n n):=by
    obtain ⟨_,_,ho⟩:=HW2.out.obj
    rw[blk_cell ho,HNn.out];rfl
   replace q1:w1.drew.cell? ⟨gc,k,none⟩=some (.int .u64 was):=q1
   replace q2:w1.drew.frozen? ⟨gc,k,none⟩=false:=q2
   go_region_with (go_at_call 270;refine (HC.out _).mono ?_;rintro e w2 ⟨rfl,rfl⟩)
   all_goals
    go_wp2_with fail
    go_ret2
    exact ⟨rfl,by have:=HW2.out.laid (k:Int) _ HcV.out;rwa[Int.toNat_natCast] at this,HK2.out.setCell (p:=⟨gc,k,none⟩) (Or.inr rfl) _⟩
  ·rw[if_neg hwo]
   have hwo2:(was !=co)=true:=by simp[hwo]
   go_enter Tryz.func212,Tryz.ntmps212
   go_wp2_with fail
   refine H1.out.mono ?_
   rintro e w1 ⟨rfl,rfl⟩
   go_wp2_with fail
   refine (HO.out _).mono ?_
   rintro e w2 ⟨rfl,rfl⟩
   go_wp2_with fail
   go_ret2
   exact ⟨rfl,HW.out,HK.out⟩
end Go.Proofs.YtaangaogmnlljaaGreatDoor.Kn
