/- Part 6 of what the proof stands on: KnMem, KnGMap, KnTab, KnWq, KnRing, KnWqL, KnWqP, KnWqO, KnClk, KnAcc, KnMap, KnAlc. -/
import Derived.Test.YtaangaogmnlljaaGreatDoorP03
set_option linter.unusedVariables false
set_option maxHeartbeats 40000000
namespace Go.Proofs.YtaangaogmnlljaaGreatDoor.Kn
open Go.RowKit Asm
def Som (v:Value):Prop:= ∃t x,v= .iface t x
structure MemOk (m:Mem):Prop where
 len:m.ws.length=m.hs.length
 one:1≤m.hs.length
 most:m.hs.length≤65536
 w: ∀x∈m.ws,x=0∨x=32∨x=64
 h: ∀x∈m.hs,0≤x∧x<18446744073709551616
def u64A (l:List Int):Array Value:=(l.map fun x=>Value.int .u64 x).toArray
def u8A (l:List Int):Array Value:=(l.map fun x=>Value.int .u8 x).toArray
structure MemP (w:World) (X gc gw:Nat) (m:Mem):Prop where
 ok:MemOk m
 obj: ∃th ct,w.heap[X]?=some (.cells #[.slice (some ⟨gc,0,none⟩) m.hs.length m.hs.length, .slice (some ⟨gw,0,none⟩) m.ws.length m.ws.length, .int .i64 th, .int .i64 ct] 442 (0,0))
 hs:w.heap[gc]?=some (.cells (u64A m.hs) 53 (0,0))
 ws:w.heap[gw]?=some (.cells (u8A m.ws) 5 (0,0))
theorem width_range (m:Mem) (h:MemOk m) (a:Int):m.width a=0∨m.width a=32∨m.width a=64:=by
 unfold Mem.width
 rw[List.getD_eq_getElem?_getD]
 by_cases hl:a.toNat<m.ws.length
 ·rw[List.getElem?_eq_getElem hl];exact h.w _ (List.getElem_mem hl)
 ·rw[List.getElem?_eq_none (by omega)];exact Or.inl rfl
theorem held_range (m:Mem) (h:MemOk m) (a:Int):0≤m.held a∧m.held a<18446744073709551616:=by
 unfold Mem.held
 rw[List.getD_eq_getElem?_getD]
 by_cases hl:a.toNat<m.hs.length
 ·rw[List.getElem?_eq_getElem hl];exact h.h _ (List.getElem_mem hl)
 ·rw[List.getElem?_eq_none (by omega)];exact ⟨by decide,by decide⟩
theorem width_in (m:Mem) (h:MemOk m) {a:Int} (h0:m.width a≠0):a.toNat<m.hs.length:=by
 unfold Mem.width at h0
 rw[List.getD_eq_getElem?_getD] at h0
 by_cases hl:a.toNat<m.ws.length
 ·rw[←h.len];exact hl
 ·rw[List.getElem?_eq_none (by omega)] at h0;exact absurd rfl h0
theorem lay_ok {m:Mem} (h:MemOk m) (a v:Int) (hv:0≤v∧v<18446744073709551616):MemOk (m.lay a v):=
 ⟨by simp[Mem.lay,h.len],by simp[Mem.lay,h.one],by simp[Mem.lay,h.most],h.w,fun x hx=>by
  rcases List.mem_or_eq_of_mem_set hx with h1|h1
  ·exact h.h x h1
  ·rw[h1];exact hv⟩
theorem u64A_at {l:List Int} {i:Nat} (h:i<l.length):(u64A l)[i]?=some (.int .u64 (l.getD i 0)):=by
 simp[u64A,h]
theorem u8A_at {l:List Int} {i:Nat} (h:i<l.length):(u8A l)[i]?=some (.int .u8 (l.getD i 0)):=by
 simp[u8A,h]
theorem u64A_set (l:List Int) (i:Nat) (v:Int):(u64A l).setIfInBounds i (.int .u64 v)=u64A (l.set i v):=by
 apply Array.ext'
 simp[u64A,List.map_set]
theorem blk_cell {w:World} {g:Nat} {C:Array Value} {t:TypeId} (h:w.heap[g]?=some (.cells C t (0,0))) (i:Nat):w.cell? ⟨g,i,none⟩=C[i]?:=by
 simp[World.cell?,h]
theorem blk_frozen {w:World} {g:Nat} {C:Array Value} {t:TypeId} (h:w.heap[g]?=some (.cells C t (0,0))) (i:Nat):w.frozen? ⟨g,i,none⟩=false:=by
 simp[World.frozen?,h]
theorem blk_in {w:World} {g:Nat} {o:Obj} (h:w.heap[g]?=some o):g<w.heap.size:=(Array.getElem?_eq_some_iff.1 h).1
theorem set_other {w:World} {p:Addr} {u:Value} {k:Nat} (h:k≠p.block):(w.setCell p u).heap[k]?=w.heap[k]?:=Below.heap_setCell _ _ _ _ h
theorem blk_ne {w:World} {g k:Nat} {C D:Array Value} {t u:TypeId} {f f':Nat×Nat} (h:w.heap[g]?=some (.cells C t f)) (h2:w.heap[k]?=some (.cells D u f')) (hn:t≠u):g≠k:=by
 intro e
 rw[e,h2] at h
 injection h with h
 injection h with _ h
 exact hn h.symm
theorem MemP.of_blocks {w w':World} {X gc gw:Nat} {m:Mem} (h:MemP w X gc gw m) (e: ∀b,b=X∨b=gc∨b=gw→w'.heap[b]?=w.heap[b]?):MemP w' X gc gw m:=
 ⟨h.ok,by obtain ⟨t,c,ho⟩:=h.obj;exact ⟨t,c,(e X (Or.inl rfl)).trans ho⟩,(e gc (Or.inr (Or.inl rfl))).trans h.hs,(e gw (Or.inr (Or.inr rfl))).trans h.ws⟩
theorem MemP.lt {w:World} {X gc gw:Nat} {m:Mem} (h:MemP w X gc gw m):X<w.heap.size∧gc<w.heap.size∧gw<w.heap.size:=by
 obtain ⟨t,c,ho⟩:=h.obj;exact ⟨blk_in ho,blk_in h.hs,blk_in h.ws⟩
theorem MemP.ne {w:World} {X gc gw:Nat} {m:Mem} (h:MemP w X gc gw m):X≠gc∧X≠gw∧gc≠gw:=by
 obtain ⟨t,c,ho⟩:=h.obj
 exact ⟨blk_ne ho h.hs (by decide),blk_ne ho h.ws (by decide),blk_ne h.hs h.ws (by decide)⟩
theorem memfail_any (n k:Int) (w:World):Calls Tryz.prog 222 #[.int .i64 n, .iface 86 (.int .i64 k)] w fun e w'=>(∃v,e= .returned v∧Som v)∧Below w.heap.size w w':=by
 go_enter Tryz.func222,Tryz.ntmps222
 go_wp2
 go_ret
 exact ⟨⟨_,rfl,_,_,rfl⟩,(Below.refl _ _).alloc (Nat.le_refl _) _⟩
theorem width_any {w:World} {X gc gw:Nat} {m:Mem} (h:MemP w X gc gw m) (a:Int) (ha:0≤a∧a<18446744073709551616):
  Calls Tryz.prog 269 #[.pointer (some ⟨X,0,none⟩), .int .u64 a] w fun e w'=>e= .returned (.int .i64 (m.width a))∧w=w':=by
 obtain ⟨k,rfl⟩:=Int.eq_ofNat_of_zero_le ha.1
 obtain ⟨t,c,ho⟩:=h.obj
 obtain ⟨n,hn⟩: ∃n,n=m.hs.length:=⟨_,rfl⟩
 have hws:=h.ws
 have hlen:=h.ok.len
 have hmost:=h.ok.most
 have c0:w.cell? ⟨X,0,none⟩=some (.slice (some ⟨gc,0,none⟩) n n):=by rw[blk_cell ho,hn];rfl
 have c1:w.cell? ⟨X,1,none⟩=some (.slice (some ⟨gw,0,none⟩) n n):=by rw[blk_cell ho,hn,←hlen];rfl
 have hw:m.width (k:Int)=m.ws.getD k 0:=rfl
 have hr:=width_range m h.ok k
 rw[hw] at hr ⊢
 by_cases hk:k<n
 ·have hkI:(k:Int)<(n:Int):=by omega
  have hnI:(n:Int)≤65536:=by omega
  have c2:w.cell? ⟨gw,k,none⟩=some (.int .u8 (m.ws.getD k 0)):=by rw[blk_cell hws];exact u8A_at (by omega)
  generalize m.ws.getD k 0=x at*
  have hxr:0≤x∧x≤64:=by omega
  clear ho hws hlen hmost hw hr h hn ha
  go_enter Tryz.func269,Tryz.ntmps269
  go_wp2
  go_ret
  exact ⟨rfl,rfl⟩
 ·have hkI:(n:Int)≤(k:Int):=by omega
  have hnI:(n:Int)≤65536:=by omega
  have hx:m.ws.getD k 0=0:=by rw[List.getD_eq_getElem?_getD,List.getElem?_eq_none (by omega)];rfl
  rw[hx]
  clear ho hws hlen hmost hw hr h hn hx
  go_enter Tryz.func269,Tryz.ntmps269
  go_wp2
  go_ret
  exact ⟨rfl,rfl⟩
end Go.Proofs.YtaangaogmnlljaaGreatDoor.Kn
namespace Go.Proofs.YtaangaogmnlljaaGreatDoor.Kn
open Go.RowKit Go.Maps Asm
def WU64 (k:Int):Prop:=0≤k∧k<18446744073709551616
theorem wf_u64 {k:Int} (h:WU64 k):(Lit.int .u64 k).wf=true:=by
 unfold WU64 at h
 have h1:IntKind.u64.min=0:=by decide
 have h2:IntKind.u64.max=18446744073709551615:=by decide
 simp[Lit.wf]
 omega
structure Reads (γ:Type) where
 val:γ→Value
 dat:γ→DataW Unit
 R:Value→Option (DataW Unit×List MemPlace)
 zv:Value
 zd:DataW Unit
 hR: ∀c,R (val c)=some (dat c,[])
 hI: ∀v c ps,R v=some (dat c,ps)→v=val c
 hZ:R zv=some (zd,[])
 hZI: ∀v ps,R v=some (zd,ps)→v=zv
def updG {γ:Type} (f:Int→Option γ) (k:Int) (c:γ):Int→Option γ:=fun x=>if x=k then some c else f x
def delG {γ:Type} (f:Int→Option γ) (k:Int):Int→Option γ:=fun x=>if x=k then none else f x
section
variable {γ:Type} {S:Reads γ}
def GMap (S:Reads γ) (w:World) (mb:Nat) (f:Int→Option γ) (N:Nat):Prop:=
 ∃(D:DataW Unit) (n:Nat),w.ownsMap Tryz.prog 53 S.R mb n D∧n≤N∧ ∀k:Int,WU64 k→Maps.has D (.int .u64 k)=(f k).isSome∧ ∀c,f k=some c→D.atKey (.int .u64 k) S.zd=S.dat c
theorem gkeyed:Keyed Tryz.prog 53:=int_keyed Tryz.underlying53
theorem glit_ne {a b:Int} (h:a≠b):(Lit.int .u64 a)≠Lit.int .u64 b:=fun e=>h (by injection e)
theorem GMap.lt {w:World} {mb:Nat} {f:Int→Option γ} {N:Nat} (h:GMap S w mb f N):mb<w.heap.size:=by obtain ⟨_,_,h,_⟩:=h;exact h.lt
theorem GMap.isMap {w:World} {mb:Nat} {f:Int→Option γ} {N:Nat} (h:GMap S w mb f N): ∃es c,w.heap[mb]?=some (.map es c):=by
 obtain ⟨_,_,⟨es,c,h,_⟩,_⟩:=h
 exact ⟨es,c,h⟩
theorem GMap.of_block {w w':World} {mb:Nat} {f:Int→Option γ} {N:Nat} (h:GMap S w mb f N) (e:w'.heap[mb]?=w.heap[mb]?):GMap S w' mb f N:=by
 obtain ⟨D,n,⟨es,c,h1,h2,h3,h4⟩,h5,h6⟩:=h
 exact ⟨D,n,⟨es,c,e.trans h1,h2,h3,h4⟩,h5,h6⟩
theorem GMap.mono {w:World} {mb:Nat} {f:Int→Option γ} {N N':Nat} (h:GMap S w mb f N) (hN:N≤N'):GMap S w mb f N':=by
 obtain ⟨D,n,h1,h2,h3⟩:=h
 exact ⟨D,n,h1,by omega,h3⟩
theorem GMap.same {w:World} {mb:Nat} {f g:Int→Option γ} {N:Nat} (h:GMap S w mb f N) (e: ∀k,WU64 k→g k=f k):GMap S w mb g N:=by
 obtain ⟨D,n,h1,h2,h3⟩:=h
 exact ⟨D,n,h1,h2,fun k hk=>by rw[e k hk];exact h3 k hk⟩
theorem GMap.made (w:World):GMap S (w.alloc (.map #[] 0)) w.heap.size (fun _=>none) 0:=
 ⟨.map [],0,World.ownsMap_made w _ _ _,Nat.le_refl _,fun k _=>⟨rfl,fun c hc=>by cases hc⟩⟩
theorem GMap.look {w:World} {mb:Nat} {f:Int→Option γ} {N:Nat} (h:GMap S w mb f N) {t e:TypeId} (ht:Tryz.prog.underlying t=some (.map 53 e)) (hz:(zeroValue e).run Tryz.prog w= .ok S.zv w) {k:Int} (hk:WU64 k):
  (Instr.lookup t (.map (some mb)) (.int .u64 k) false).run Tryz.prog w= .ok (match f k with|some c=>S.val c|none=>S.zv) w:=by
 obtain ⟨D,n,h1,h2,h3⟩:=h
 obtain ⟨v,ps,hrun,hv⟩:=h1.lookup gkeyed ht hz S.hZ (keyOf_int_mk Tryz.underlying53 (wf_u64 hk))
 obtain ⟨e1,e2⟩:=h3 k hk
 rw[hrun]
 cases hf:f k with
 |some c=>rw[e2 c hf] at hv;rw[S.hI _ _ _ hv]
 |none=>
  rw[hf] at e1
  rw[atKey_of_not_has e1] at hv
  rw[S.hZI _ _ hv]
theorem GMap.look_ok {w:World} {mb:Nat} {f:Int→Option γ} {N:Nat} (h:GMap S w mb f N) {t e:TypeId} (ht:Tryz.prog.underlying t=some (.map 53 e)) (hz:(zeroValue e).run Tryz.prog w= .ok S.zv w) {k:Int} (hk:WU64 k):
  (Instr.lookup t (.map (some mb)) (.int .u64 k) true).run Tryz.prog w= .ok (.tuple #[match f k with|some c=>S.val c|none=>S.zv, .bool (f k).isSome]) w:=by
 obtain ⟨D,n,h1,h2,h3⟩:=h
 obtain ⟨v,ps,hrun,hv⟩:=h1.look_ok gkeyed ht hz S.hZ (keyOf_int_mk Tryz.underlying53 (wf_u64 hk))
 obtain ⟨e1,e2⟩:=h3 k hk
 rw[hrun,e1]
 cases hf:f k with
 |some c=>rw[e2 c hf] at hv;rw[S.hI _ _ _ hv]
 |none=>
  rw[hf] at e1
  rw[atKey_of_not_has e1] at hv
  rw[S.hZI _ _ hv]
theorem GMap.store {w:World} {mb:Nat} {f:Int→Option γ} {N:Nat} (h:GMap S w mb f N) (hN:N<maxLen) {t e:TypeId} (ht:Tryz.prog.underlying t=some (.map 53 e)) {k:Int} (hk:WU64 k) (c:γ):
  ∃w',(Instr.mapUpdate t (.map (some mb)) (.int .u64 k) (S.val c)).run Tryz.prog w= .ok () w'∧GMap S w' mb (updG f k c) (N+1)∧w.mapTurned w' mb:=by
 obtain ⟨D,n,h1,h2,h3⟩:=h
 obtain ⟨w',hrun,ho,hturn⟩:=h1.store gkeyed ht (Nat.lt_of_le_of_lt h2 hN) (keyOf_int_mk Tryz.underlying53 (wf_u64 hk)) (S.hR c)
 refine ⟨w',hrun,⟨_,n+1,ho,by omega,fun k' hk'=>?_⟩,hturn⟩
 by_cases e:k'=k
 ·subst e
  refine ⟨by rw[has_put_same (k:=Lit.int .u64 k') h1.isMap trivial];simp[updG],fun j hj=>?_⟩
  rw[atKey_put_same (k:=Lit.int .u64 k') h1.isMap trivial]
  simp[updG] at hj
  subst hj
  rfl
 ·have:=h3 k' hk'
  rw[has_put_other (glit_ne e),atKey_put_other (glit_ne e)]
  simp only[updG,if_neg e]
  exact this
theorem GMap.drop {w:World} {mb:Nat} {f:Int→Option γ} {N:Nat} (h:GMap S w mb f N) {t e:TypeId} (ht:Tryz.prog.underlying t=some (.map 53 e)) {k:Int} (hk:WU64 k) (ty:TypeId):
  ∃w',(Builtin.delete_ #[t,53] ty #[.map (some mb), .int .u64 k]).run Tryz.prog w= .ok (.tuple #[]) w'∧GMap S w' mb (delG f k) N∧w.mapTurned w' mb:=by
 obtain ⟨D,n,h1,h2,h3⟩:=h
 obtain ⟨w',hrun,ho,hturn⟩:=h1.drop gkeyed ht (keyOf_int_mk Tryz.underlying53 (wf_u64 hk)) ty
 refine ⟨w',hrun,⟨_,n,ho,h2,fun k' hk'=>?_⟩,hturn⟩
 by_cases e:k'=k
 ·subst e
  exact ⟨by rw[has_del_same];simp[delG],fun j hj=>by simp[delG] at hj⟩
 ·have:=h3 k' hk'
  rw[has_del_other (glit_ne e),atKey_del_other (glit_ne e)]
  simp only[delG,if_neg e]
  exact this
end
def ptrR:Value→Option (DataW Unit×List MemPlace)
 | .pointer none=>some (.lit (.int .i64 (-1)),[])
 | .pointer (some ⟨b,0,none⟩)=>some (.lit (.int .i64 b),[])
 |_=>none
theorem ptrR_cases {v:Value} {d:DataW Unit} {ps:List MemPlace} (h:ptrR v=some (d,ps)):(v= .pointer none∧d= .lit (.int .i64 (-1)))∨ ∃b:Nat,v= .pointer (some ⟨b,0,none⟩)∧d= .lit (.int .i64 b):=by
 unfold ptrR at h
 split at h
 ·injection h with h;injection h with h _;exact Or.inl ⟨rfl,h.symm⟩
 ·injection h with h;injection h with h _;exact Or.inr ⟨_,rfl,h.symm⟩
 ·cases h
def ptrs:Reads Nat where
 val b:= .pointer (some ⟨b,0,none⟩)
 dat b:= .lit (.int .i64 b)
 R:=ptrR
 zv:= .pointer none
 zd:= .lit (.int .i64 (-1))
 hR _:=rfl
 hI v c ps h:=by
  rcases ptrR_cases h with ⟨_,h1⟩ |⟨b,rfl,h1⟩
  ·have:(c:Int)= -1:=by simp at h1
   omega
  ·have:(c:Int)=(b:Int):=by simpa using h1
   have:b=c:=by omega
   rw[this]
 hZ:=rfl
 hZI v ps h:=by
  rcases ptrR_cases h with ⟨rfl,_⟩ |⟨b,_,h1⟩
  ·rfl
  ·have:(-1:Int)=(b:Int):=by simp at h1
   omega
end Go.Proofs.YtaangaogmnlljaaGreatDoor.Kn
namespace Go.Proofs.YtaangaogmnlljaaGreatDoor.Kn
open Go.RowKit Asm
def tr10 (r:TRow):List Value:= [.int .u64 r.times, .bool (r.t.id !=0), .bool r.reaped, .int .u64 r.t.id, .int .i64 r.t.state, .int .u64 r.t.home, .int .u64 r.t.value, .int .u64 r.t.joiner, .bool r.t.loose, .bool r.t.stepping]
def tabC (l:List TRow):List Value:=l.flatMap tr10
def tAt (l:List TRow) (p:Nat):TRow:=l.getD p {}
def U64 (x:Int):Prop:=0≤x∧x<18446744073709551616
structure TRowOk (r:TRow) (p N:Nat):Prop where
 times:0≤r.times∧r.times≤N
 id:r.t.id≠0→r.t.id=p+64*r.times∧1≤r.times
 free:r.t.id=0→r.t={}∧r.reaped=false
 state:0≤r.t.state∧r.t.state≤4
 home:U64 r.t.home
 value:U64 r.t.value
 joiner:U64 r.t.joiner
structure TabOk (l:List TRow) (N:Nat):Prop where
 len:l.length=64
 most:N≤1000000000
 row: ∀p,p<64→TRowOk (tAt l p) p N
theorem tAt_get {l:List TRow} {p:Nat} (h:p<l.length):tAt l p=l[p]:=by
 unfold tAt;rw[List.getD_eq_getElem?_getD,List.getElem?_eq_getElem h];rfl
theorem tAt_set {l:List TRow} {p q:Nat} (h:p<l.length) (r:TRow):tAt (l.set p r) q=if q=p then r else tAt l q:=by
 unfold tAt
 exact m94
theorem TRowOk.u64 {r:TRow} {p N:Nat} (h:TRowOk r p N) (hp:p<64) (hN:N≤1000000000):U64 r.t.id:=by
 unfold U64
 by_cases e:r.t.id=0
 ·omega
 ·have:=h.id e;have:=h.times;omega
theorem TabOk.set {l:List TRow} {N p:Nat} (h:TabOk l N) (hp:p<64) {r:TRow} (hr:TRowOk r p N):TabOk (l.set p r) N:=
 ⟨by rw[List.length_set];exact h.len,h.most,fun q hq=>by
  rw[tAt_set (by rw[h.len];exact hp)]
  split
  ·rename_i e;subst e;exact hr
  ·exact h.row q hq⟩
theorem ofT_some {l:List TRow} {N:Nat} (h:TabOk l N) {id:Int} {p:Nat} {r:TRow} (e:ofT l id=some (p,r)):id≠0∧id%64=(p:Int)∧p<64∧r=tAt l p∧r.t.id=id:=by
 unfold ofT at e
 by_cases h0:id=0
 ·rw[if_pos h0] at e;cases e
 ·rw[if_neg h0] at e
  have hlt:(id%64).toNat<l.length:=by rw[h.len];omega
  rw[List.getElem?_eq_getElem hlt] at e
  simp only at e
  split at e
  ·rename_i he
   injection e with e
   injection e with e1 e2
   subst e1
   refine ⟨h0,by omega,by omega,?_,by rw[←e2];exact he⟩
   rw[tAt_get hlt,e2]
  ·cases e
structure TabP (w:World) (T gt:Nat) (l:List TRow) (N:Nat):Prop where
 ok:TabOk l N
 obj:w.heap[T]?=some (.cells #[.slice (some ⟨gt,0,none⟩) 64 64] 337 (0,0))
 row:w.heap[gt]?=some (.cells (tabC l).toArray 382 (0,0))
section
variable {w w':World} {T gt:Nat} {l:List TRow} {N:Nat}
theorem TabP.of_blocks (h:TabP w T gt l N) (e: ∀b,b=T∨b=gt→w'.heap[b]?=w.heap[b]?):TabP w' T gt l N:=
 ⟨h.ok,(e T (Or.inl rfl)).trans h.obj,(e gt (Or.inr rfl)).trans h.row⟩
theorem TabP.lt (h:TabP w T gt l N):T<w.heap.size∧gt<w.heap.size:=⟨blk_in h.obj,blk_in h.row⟩
theorem TabP.ne (h:TabP w T gt l N):T≠gt:=blk_ne h.obj h.row (by decide)
theorem TabP.at0 (h:TabP w T gt l N):w.cell? ⟨T,0,none⟩=some (.slice (some ⟨gt,0,none⟩) 64 64):=by rw[blk_cell h.obj];rfl
theorem TabP.cell (h:TabP w T gt l N) {p:Nat} (hp:p<64) (j:Nat) (hj:j<10):w.cell? ⟨gt,p*10+j,none⟩=(tr10 (tAt l p))[j]?:=by
 have hlt:p<l.length:=by rw[h.ok.len];exact hp
 rw[blk_cell h.row,tAt_get hlt]
 have:=flL_at (k:=10) (f:=tr10) (fun _=>rfl) l p hlt j hj
 simpa[tabC] using this
theorem TabP.frozen (h:TabP w T gt l N) (o:Nat):w.frozen? ⟨gt,o,none⟩=false:=blk_frozen h.row o
theorem TabP.stored (h:TabP w T gt l N) {p:Nat} (hp:p<64) (j:Nat) (hj:j<10) (v:Value) (r:TRow) (hr:(tr10 (tAt l p)).set j v=tr10 r) (hok:TRowOk r p N):
  TabP (w.setCell ⟨gt,p*10+j,none⟩ v) T gt (l.set p r) N:=by
 have hlt:p<l.length:=by rw[h.ok.len];exact hp
 refine ⟨h.ok.set hp hok,(set_other h.ne).trans h.obj,?_⟩
 rw[set_block h.row]
 have:=flL_set (k:=10) (f:=tr10) (fun _=>rfl) l p hlt j hj v r (by rw[←tAt_get hlt];exact hr)
 unfold tabC
 rw[←this]
 simp
end
theorem tabfail_any (k:Int) (w:World):Calls Tryz.prog 163 #[.iface 86 (.int .i64 k)] w fun e w'=>(∃v,e= .returned v∧Som v)∧Below w.heap.size w w':=by
 go_enter Tryz.func163,Tryz.ntmps163
 go_wp2
 go_ret
 exact ⟨⟨_,rfl,_,_,rfl⟩,(Below.refl _ _).alloc (Nat.le_refl _) _⟩
theorem TabP.cells {w:World} {T gt:Nat} {l:List TRow} {N:Nat} (h:TabP w T gt l N) {id:Int} {p:Nat} {ti:Int} {re:Bool} {i st ho va jo:Int} {lo sp:Bool} (hof:ofT l id=some (p,⟨ti,re,⟨i,st,ho,va,jo,lo,sp⟩⟩)):
  i=id∧id≠0∧p<64∧tAt l p=⟨ti,re,⟨i,st,ho,va,jo,lo,sp⟩⟩∧TRowOk ⟨ti,re,⟨i,st,ho,va,jo,lo,sp⟩⟩ p N∧w.cell? ⟨gt,p*10,none⟩=some (.int .u64 ti)∧w.cell? ⟨gt,p*10+1,none⟩=some (.bool true)∧w.cell? ⟨gt,p*10+2,none⟩=some (.bool re)∧w.cell? ⟨gt,p*10+3,none⟩=some (.int .u64 i)∧w.cell? ⟨gt,p*10+4,none⟩=some (.int .i64 st)
   ∧w.cell? ⟨gt,p*10+5,none⟩=some (.int .u64 ho)∧w.cell? ⟨gt,p*10+6,none⟩=some (.int .u64 va)∧w.cell? ⟨gt,p*10+7,none⟩=some (.int .u64 jo)∧w.cell? ⟨gt,p*10+8,none⟩=some (.bool lo)∧w.cell? ⟨gt,p*10+9,none⟩=some (.bool sp):=by
 obtain ⟨h0,hp,hp64,hr,hi⟩:=ofT_some h.ok hof
 have hc:=fun j hj=>h.cell hp64 j hj
 have hk:=h.ok.row p hp64
 rw[←hr] at hc hk
 simp only at hi
 refine ⟨hi,h0,hp64,hr.symm,hk,hc 0 (by omega),?_,hc 2 (by omega),hc 3 (by omega),hc 4 (by omega),hc 5 (by omega),hc 6 (by omega),hc 7 (by omega),hc 8 (by omega),hc 9 (by omega)⟩
 rw[hc 1 (by omega)]
 simp[tr10,hi,h0]
theorem TabP.below {w w':World} {T gt:Nat} {l:List TRow} {N:Nat} (h:TabP w T gt l N) (hb:Below w.heap.size w w'):TabP w' T gt l N:=
 h.of_blocks fun b hb'=>hb.block b (by obtain ⟨l1,l2⟩:=h.lt;rcases hb' with rfl|rfl<;>assumption)
theorem bdrewN (w:World) (q:Nat):Below w.heap.size w (w.drewN q):=⟨rfl,rfl,rfl,Nat.le_refl _,fun _ _=>rfl⟩
theorem keeps_drewN {X:Nat→Prop} (w:World) (q:Nat):Keeps X w (w.drewN q):=(Keeps.refl X w).drewN q
end Go.Proofs.YtaangaogmnlljaaGreatDoor.Kn
namespace Go.Proofs.YtaangaogmnlljaaGreatDoor.Kn
open Go.RowKit Go.Maps Asm
def pv (B:Int→Nat) (o:Option Slp):Value:=match o with
 |some s=> .pointer (some ⟨B s.id,0,none⟩)
 |none=> .pointer none
def nodeA (B:Int→Nat) (L:List Slp) (s:Slp):Array Value:=#[.int .u64 s.id, .int .u64 s.addr, .int .u64 s.mask,pv B (prevOf s.id L),pv B (nextOf s.id L)]
def qend (B:Int→Nat) (l:List Slp) (b:Nat):List Value:= [pv B (bkt l b).head?,pv B (bkt l b).getLast?]
def wqC (B:Int→Nat) (l:List Slp):List Value:=(List.range 8).flatMap (qend B l)
structure WqR (w:World) (Q gl mb:Nat) (B:Int→Nat) (l:List Slp):Prop where
 nod:(ids l).Nodup
 rng: ∀s∈l,s.id≠0∧WU64 s.id∧WU64 s.addr∧WU64 s.mask
 obj:w.heap[Q]?=some (.cells #[.slice (some ⟨gl,0,none⟩) 8 8, .map (some mb)] 334 (0,0))
 row:w.heap[gl]?=some (.cells (wqC B l).toArray 385 (0,0))
 node: ∀s∈l,w.heap[B s.id]?=some (.cells (nodeA B (bkt l (bucketOf s.addr)) s) 387 (0,0))
theorem mem_ids {l:List Slp} {s:Slp} (h:s∈l):s.id∈ids l:=List.mem_map_of_mem h
theorem bkt_mem {l:List Slp} {b:Int} {s:Slp}:s∈bkt l b↔s∈l∧bucketOf s.addr=b:=by simp[bkt]
theorem id_inj {l:List Slp} (h:(ids l).Nodup) {s t:Slp} (hs:s∈l) (ht:t∈l) (e:s.id=t.id):s=t:=by
 induction l with
 |nil=>cases hs
 |cons a l ih=>
  simp only[ids,List.map_cons,List.nodup_cons] at h
  obtain ⟨h1,h2⟩:=h
  rcases List.mem_cons.1 hs with hs'|hs'
  ·rcases List.mem_cons.1 ht with ht'|ht'
   ·rw[hs',ht']
   ·exact absurd (mem_ids ht') (by rw[←e,hs'];exact h1)
  ·rcases List.mem_cons.1 ht with ht'|ht'
   ·exact absurd (mem_ids hs') (by rw[e,ht'];exact h1)
   ·exact ih h2 hs' ht'
section
variable {w w':World} {Q gl mb:Nat} {B:Int→Nat} {l:List Slp}
def OfW (Q gl:Nat) (B:Int→Nat) (l:List Slp) (b:Nat):Prop:=b=Q∨b=gl∨ ∃s∈l,b=B s.id
theorem WqR.of_blocks (h:WqR w Q gl mb B l) (e: ∀b,OfW Q gl B l b→w'.heap[b]?=w.heap[b]?):WqR w' Q gl mb B l:=
 ⟨h.nod,h.rng,(e Q (Or.inl rfl)).trans h.obj,(e gl (Or.inr (Or.inl rfl))).trans h.row,fun s hs=>(e _ (Or.inr (Or.inr ⟨s,hs,rfl⟩))).trans (h.node s hs)⟩
theorem WqR.ne (h:WqR w Q gl mb B l):Q≠gl:=blk_ne h.obj h.row (by decide)
theorem WqR.inj (h:WqR w Q gl mb B l) {s t:Slp} (hs:s∈l) (ht:t∈l) (e:B s.id=B t.id):s=t:=by
 have h1:=h.node s hs
 rw[e,h.node t ht] at h1
 injection h1 with h1
 injection h1 with h1 _ _
 have:(nodeA B (bkt l (bucketOf t.addr)) t)[0]?=(nodeA B (bkt l (bucketOf s.addr)) s)[0]?:=by rw[h1]
 simp[nodeA] at this
 exact (id_inj h.nod ht hs this).symm
theorem WqR.lt (h:WqR w Q gl mb B l) {b:Nat} (hb:OfW Q gl B l b):b<w.heap.size:=by
 rcases hb with rfl|rfl|⟨s,hs,rfl⟩
 ·exact blk_in h.obj
 ·exact blk_in h.row
 ·exact blk_in (h.node s hs)
theorem wqC_len (B:Int→Nat) (l:List Slp):(wqC B l).length=16:=by
 unfold wqC;rw[flL_len (k:=2) (f:=qend B l) (fun _=>rfl)];simp
theorem wqC_at (B:Int→Nat) (l:List Slp) (b:Nat) (hb:b<8):(wqC B l)[b*2]?=some (pv B (bkt l b).head?)∧(wqC B l)[b*2+1]?=some (pv B (bkt l b).getLast?):=by
 have h0:=flL_at (k:=2) (f:=qend B l) (fun _=>rfl) (List.range 8) b (by simpa using hb) 0 (by omega)
 have h1:=flL_at (k:=2) (f:=qend B l) (fun _=>rfl) (List.range 8) b (by simpa using hb) 1 (by omega)
 rw[List.getElem_range] at h0 h1
 exact ⟨h0,h1⟩
theorem pv_congr {B B':Int→Nat} {o:Option Slp} (h: ∀s,o=some s→B' s.id=B s.id):pv B' o=pv B o:=by
 cases o with
 |none=>rfl
 |some s=>simp[pv,h s rfl]
end
theorem wqC_ext {B':Int→Nat} {l':List Slp} {xs:List Value} (hx:xs.length=16) (h: ∀b:Nat,b<8→xs[b*2]?=some (pv B' (bkt l' b).head?)∧xs[b*2+1]?=some (pv B' (bkt l' b).getLast?)):xs=wqC B' l':=by
 apply List.ext_getElem?
 intro i
 by_cases hi:i<16
 ·obtain ⟨h0,h1⟩:=h (i/2) (by omega)
  obtain ⟨g0,g1⟩:=wqC_at B' l' (i/2) (by omega)
  rcases Nat.mod_two_eq_zero_or_one i with e|e
  ·have e2:i/2*2=i:=by omega
   rw[e2] at h0 g0
   rw[h0,g0]
  ·have e2:i/2*2+1=i:=by omega
   rw[e2] at h1 g1
   rw[h1,g1]
 ·rw[List.getElem?_eq_none (by omega),List.getElem?_eq_none (by rw[wqC_len];omega)]
end Go.Proofs.YtaangaogmnlljaaGreatDoor.Kn
namespace Go.Proofs.YtaangaogmnlljaaGreatDoor.Kn
open Go.RowKit Asm
structure RingR (w:World) (R gr fr:Nat) (C l:List Int):Prop where
 len:C.length=64
 from':fr<64
 most:l.length≤64
 obj:w.heap[R]?=some (.cells #[.slice (some ⟨gr,0,none⟩) 64 64, .int .i64 fr, .int .i64 l.length] 329 (0,0))
 row:w.heap[gr]?=some (.cells (u64A C) 53 (0,0))
 hold: ∀i,i<l.length→C.getD ((fr+i)%64) 0=l.getD i 0
 u: ∀x∈l,U64 x
def RingP (w:World) (R gr:Nat) (l:List Int):Prop:= ∃fr C,RingR w R gr fr C l
section
variable {w w':World} {R gr fr:Nat} {C l:List Int}
theorem RingR.of_blocks (h:RingR w R gr fr C l) (e: ∀b,b=R∨b=gr→w'.heap[b]?=w.heap[b]?):RingR w' R gr fr C l:=
 ⟨h.len,h.from',h.most,(e R (Or.inl rfl)).trans h.obj,(e gr (Or.inr rfl)).trans h.row,h.hold,h.u⟩
theorem RingP.of_blocks (h:RingP w R gr l) (e: ∀b,b=R∨b=gr→w'.heap[b]?=w.heap[b]?):RingP w' R gr l:=by
 obtain ⟨fr,C,h⟩:=h;exact ⟨fr,C,h.of_blocks e⟩
theorem RingR.ne (h:RingR w R gr fr C l):R≠gr:=blk_ne h.obj h.row (by decide)
theorem RingP.lt (h:RingP w R gr l):R<w.heap.size∧gr<w.heap.size:=by obtain ⟨fr,C,h⟩:=h;exact ⟨blk_in h.obj,blk_in h.row⟩
theorem RingP.below (h:RingP w R gr l) (hb:Below w.heap.size w w'):RingP w' R gr l:=
 h.of_blocks fun b hb'=>hb.block b (by obtain ⟨l1,l2⟩:=h.lt;rcases hb' with rfl|rfl<;>assumption)
end
set_option maxRecDepth 100000 in
theorem rat_any {w:World} {R gr fr:Nat} {C l:List Int} (h:RingR w R gr fr C l) (i:Nat) (hi:i≤64):
  Calls Tryz.prog 173 #[.pointer (some ⟨R,0,none⟩), .int .i64 i] w fun e w'=>e= .returned (.pointer (some ⟨gr,(fr+i)%64,none⟩))∧ ∃q,w'=w.drewN q:=by
 have c0:w.cell? ⟨R,0,none⟩=some (.slice (some ⟨gr,0,none⟩) 64 64):=by rw[blk_cell h.obj];rfl
 have c1:w.cell? ⟨R,1,none⟩=some (.int .i64 fr):=by rw[blk_cell h.obj];rfl
 have hf:=h.from'
 have hfI:(fr:Int)<64:=by omega
 have hiI:(i:Int)≤64:=by omega
 have hs:IntKind.i64.wrap ((fr:Int)+(i:Int))=(fr:Int)+(i:Int):=IntWalk.i64_in _ (by omega)
 have hm:((fr:Int)+(i:Int))%64=(((fr+i)%64:Nat):Int):=by omega
 have hm2:((fr:Int)+(i:Int)).tmod 64=(((fr+i)%64:Nat):Int):=by rw[Int.tmod_eq_emod_of_nonneg (by omega)];exact hm
 have hml:(((fr+i)%64:Nat):Int)<64:=by omega
 generalize (fr+i)%64=k at*
 clear h hi hf
 go_enter Tryz.func173,Tryz.ntmps173
 go_wp2_with fail
 go_quiet (fail)
 go_wp2
 go_ret
 exact ⟨rfl,_,rfl⟩
theorem RingR.cells {w:World} {R gr fr:Nat} {C l:List Int} (h:RingR w R gr fr C l):w.cell? ⟨R,0,none⟩=some (.slice (some ⟨gr,0,none⟩) 64 64)∧w.cell? ⟨R,1,none⟩=some (.int .i64 fr)∧w.cell? ⟨R,2,none⟩=some (.int .i64 l.length)∧ ∀o,w.frozen? ⟨R,o,none⟩=false:=
 ⟨by rw[blk_cell h.obj];rfl,by rw[blk_cell h.obj];rfl,by rw[blk_cell h.obj];rfl,fun o=>blk_frozen h.obj o⟩
theorem getD_setI (C:List Int) (k j:Nat) (v:Int) (hk:k<C.length):(C.set k v).getD j 0=if j=k then v else C.getD j 0:=by
 rw[List.getD_eq_getElem?_getD,List.getD_eq_getElem?_getD,List.getElem?_set]
 by_cases e:k=j
 ·subst e;rw[if_pos rfl,if_pos rfl,if_pos hk];rfl
 ·rw[if_neg e,if_neg (Ne.symm e)]
theorem RingR.putI {w:World} {R gr fr:Nat} {C l:List Int} (h:RingR w R gr fr C l) (v:Int) (hv:U64 v) (hl:l.length<64):
  RingR ((w.setCell ⟨gr,(fr+l.length)%64,none⟩ (.int .u64 v)).setCell ⟨R,2,none⟩ (.int .i64 ((l.length:Int)+1))) R gr fr (C.set ((fr+l.length)%64) v) (l++ [v]):=by
 have hn:=h.ne
 refine ⟨by rw[List.length_set];exact h.len,h.from',by simp;omega,?_,?_,?_,?_⟩
 ·have h1:(w.setCell ⟨gr,(fr+l.length)%64,none⟩ (.int .u64 v)).heap[R]?=some (.cells #[.slice (some ⟨gr,0,none⟩) 64 64, .int .i64 fr, .int .i64 l.length] 329 (0,0)):=(set_other hn).trans h.obj
  rw[set_block h1]
  simp
 ·rw[set_other (Ne.symm hn)]
  have:=set_block (k:=(fr+l.length)%64) (w:=w) h.row (.int .u64 v)
  rw[this,u64A_set]
 ·intro i hi
  rw[getD_setI _ _ _ _ (by rw[h.len];omega)]
  rw[List.length_append] at hi
  simp only[List.length_cons,List.length_nil] at hi
  have hf:=h.from'
  by_cases e:i=l.length
  ·subst e
   rw[if_pos rfl]
   simp
  ·rw[if_neg (by omega),h.hold i (by omega)]
   rw[List.getD_eq_getElem?_getD,List.getD_eq_getElem?_getD,List.getElem?_append_left (by omega)]
 ·intro x hx
  rcases List.mem_append.1 hx with hx|hx
  ·exact h.u x hx
  ·simp at hx;subst hx;exact hv
def OfRg (R gr b:Nat):Prop:=b=R∨b=gr
set_option maxRecDepth 100000 in
theorem rput_any {w:World} {R gr:Nat} {l:List Int} (h:RingP w R gr l) (v:Int) (hv:U64 v):
  Calls Tryz.prog 85 #[.pointer (some ⟨R,0,none⟩), .int .u64 v] w fun e w'=>(∃ev,e= .returned ev)∧RingP w' R gr (putRing l v)∧Keeps (OfRg R gr) w w':=by
 obtain ⟨fr,C,h⟩:=h
 obtain ⟨c0,c1,c2,f⟩:=h.cells
 have hm:=h.most
 obtain ⟨n,hn⟩: ∃n,n=l.length:=⟨_,rfl⟩
 have hnI:(n:Int)≤64:=by omega
 rw[←hn] at c2
 by_cases hl:n=64
 ·subst hl
  have e0:putRing l v=l:=by unfold putRing;rw[if_pos (by omega)]
  rw[e0]
  have H:=Lib.hid h
  clear h hm e0 hn
  go_enter Tryz.func85,Tryz.ntmps85
  go_wp2_with fail
  go_quiet (fail)
  go_wp2
  go_ret
  refine ⟨⟨_,rfl⟩,?_⟩
  have hb0: ∀o,Below w.heap.size w ((w.drewN nq).alloc o):=fun o=>(bdrewN w nq).trans ((Below.refl _ (w.drewN nq)).alloc (Nat.le_refl _) o)
  exact ⟨⟨fr,C,H.out.of_blocks fun b hb'=>(hb0 _).block b (by rcases hb' with rfl|rfl;exact blk_in H.out.obj;exact blk_in H.out.row)⟩,Keeps.ofBelow (hb0 _)⟩
 ·have hl2:n<64:=by omega
  have e0:putRing l v=l++ [v]:=by unfold putRing;rw[if_neg (by omega)]
  rw[e0]
  have hlI:((n:Int)==64)=false:=by simp;omega
  have hlI2:(n:Int)<64:=by omega
  have HA:=Lib.hid (fun q=>rat_any (h.of_blocks (w':=w.drewN q) fun _ _=>rfl) n (by omega))
  have HP:=Lib.hid (fun q=>(h.of_blocks (w':=w.drewN q) fun _ _=>rfl).putI v hv (by omega))
  rw[←hn] at HP
  have hk:(fr+n)%64<64:=by omega
  have gk: ∃u,w.cell? ⟨gr,(fr+n)%64,none⟩=some u:=⟨_,by rw[blk_cell h.row];exact u64A_at (by rw[h.len];exact hk)⟩
  obtain ⟨u,gk⟩:=gk
  have gf:=blk_frozen h.row ((fr+n)%64)
  have hne:=h.ne
  generalize (fr+n)%64=k at*
  clear h hm e0 hn hl
  go_enter Tryz.func85,Tryz.ntmps85
  go_wp2_with fail
  go_quiet (fail)
  go_wp2_with fail
  refine (HA.out _).mono ?_
  rintro e w1 ⟨rfl,q,rfl⟩
  rw[World.drewN_drewN]
  go_wp2
  go_ret
  exact ⟨⟨_,rfl⟩,⟨fr,_,HP.out _⟩,((keeps_drewN (X:=OfRg R gr) w _).setCell (p:=⟨gr,k,none⟩) (Or.inr rfl) _).setCell (p:=⟨R,2,none⟩) (Or.inl rfl) _⟩
end Go.Proofs.YtaangaogmnlljaaGreatDoor.Kn
namespace Go.Proofs.YtaangaogmnlljaaGreatDoor.Kn
open Go.RowKit Go.Maps Asm
theorem WqR.cells {w:World} {Q gl mb:Nat} {B:Int→Nat} {l:List Slp} (h:WqR w Q gl mb B l):w.cell? ⟨Q,0,none⟩=some (.slice (some ⟨gl,0,none⟩) 8 8)∧w.cell? ⟨Q,1,none⟩=some (.map (some mb))∧ ∀o,w.frozen? ⟨gl,o,none⟩=false:=
 ⟨by rw[blk_cell h.obj];rfl,by rw[blk_cell h.obj];rfl,fun o=>blk_frozen h.row o⟩
theorem quiet_lf {P:Program} {f:FuncId} {args:Array Value} {w:World} {n:Nat} {v:Value}
  (h:Calls P f args (w.drewN n) fun e w'=>e= .returned v∧w.drewN n=w'):Calls P f args (w.drewN n) fun e w''=>e= .returned v∧ ∃m,w''=w.drewN m:=
 h.mono fun _ _ ⟨he,hm⟩=>⟨he,n,hm.symm⟩
structure Lone (w:World) (Q gl:Nat) (B:Int→Nat) (l:List Slp) (s:Slp) (p n:Value):Prop where
 blk:w.heap[B s.id]?=some (.cells #[.int .u64 s.id, .int .u64 s.addr, .int .u64 s.mask,p,n] 387 (0,0))
 new:s.id∉ids l
 rng:s.id≠0∧WU64 s.id∧WU64 s.addr∧WU64 s.mask
theorem Lone.ne {w:World} {Q gl mb:Nat} {B:Int→Nat} {l:List Slp} {s:Slp} {p n:Value} (k:Lone w Q gl B l s p n) (h:WqR w Q gl mb B l):B s.id≠Q∧B s.id≠gl∧ ∀t∈l,B s.id≠B t.id:=by
 refine ⟨blk_ne k.blk h.obj (by decide),blk_ne k.blk h.row (by decide),fun t ht e=>k.new ?_⟩
 have h1:=k.blk
 rw[e,h.node t ht] at h1
 injection h1 with h1
 injection h1 with h1 _ _
 have:(nodeA B (bkt l (bucketOf t.addr)) t)[0]?=(#[.int .u64 s.id, .int .u64 s.addr, .int .u64 s.mask,p,n]:Array Value)[0]?:=by rw[h1]
 simp[nodeA] at this
 rw[←this]
 exact mem_ids ht
end Go.Proofs.YtaangaogmnlljaaGreatDoor.Kn
namespace Go.Proofs.YtaangaogmnlljaaGreatDoor.Kn
open Go.RowKit Go.Maps Asm
theorem find_at {α:Type} {p:α→Bool} {L:List α} {k:Nat} {s:α} (h:L[k]?=some s) (hp:p s=true) (hb: ∀j,j<k→ ∀x,L[j]?=some x→p x=false):L.find? p=some s:=by
 induction L generalizing k with
 |nil=>simp at h
 |cons a L ih=>
  cases k with
  |zero=>simp at h;subst h;rw[List.find?_cons,hp]
  |succ k=>
   rw[List.find?_cons,hb 0 (by omega) a rfl]
   exact ih (by simpa using h) fun j hj x hx=>hb (j+1) (by omega) x (by simpa using hx)
end Go.Proofs.YtaangaogmnlljaaGreatDoor.Kn
namespace Go.Proofs.YtaangaogmnlljaaGreatDoor.Kn
open Go.RowKit Go.Maps Asm
def whereF (B:Int→Nat) (l:List Slp):Int→Option Nat:=fun id=>(whereS l id).map fun s=>B s.id
structure WqP (w:World) (Q gl mb:Nat) (B:Int→Nat) (l:List Slp) (N:Nat):Prop where
 r:WqR w Q gl mb B l
 map:GMap ptrs w mb (whereF B l) N
 most:N≤1000000000
def OfQ (Q gl mb:Nat) (B:Int→Nat) (l:List Slp) (b:Nat):Prop:=OfW Q gl B l b∨b=mb
section
variable {w w':World} {Q gl mb:Nat} {B:Int→Nat} {l:List Slp} {N:Nat}
theorem WqP.of_blocks (h:WqP w Q gl mb B l N) (e: ∀b,OfQ Q gl mb B l b→w'.heap[b]?=w.heap[b]?):WqP w' Q gl mb B l N:=
 ⟨h.r.of_blocks fun b hb=>e b (Or.inl hb),h.map.of_block (e mb (Or.inr rfl)),h.most⟩
theorem WqP.lt (h:WqP w Q gl mb B l N) {b:Nat} (hb:OfQ Q gl mb B l b):b<w.heap.size:=by
 rcases hb with hb|rfl
 ·exact h.r.lt hb
 ·exact h.map.lt
theorem WqP.below (h:WqP w Q gl mb B l N) (hb:Below w.heap.size w w'):WqP w' Q gl mb B l N:=h.of_blocks fun b hb'=>hb.block b (h.lt hb')
end
theorem wqC_congr {B B':Int→Nat} {l:List Slp} (h: ∀s∈l,B' s.id=B s.id):wqC B' l=wqC B l:=by
 refine (wqC_ext (wqC_len B' l) fun b hb=>?_)
 obtain ⟨h0,h1⟩:=wqC_at B' l b hb
 rw[h0,h1]
 refine ⟨congrArg some (pv_congr fun s hs=>?_),congrArg some (pv_congr fun s hs=>?_)⟩
 ·exact h s (bkt_mem.1 (List.mem_of_mem_head? (by simpa using hs))).1
 ·exact h s (bkt_mem.1 (List.mem_of_getLast? hs)).1
theorem WqR.congr {w:World} {Q gl mb:Nat} {B B':Int→Nat} {l:List Slp} (h:WqR w Q gl mb B l) (e: ∀s∈l,B' s.id=B s.id):WqR w Q gl mb B' l:=by
 refine ⟨h.nod,h.rng,h.obj,by rw[wqC_congr e];exact h.row,fun s hs=>?_⟩
 rw[e s hs,h.node s hs]
 unfold nodeA
 rw[pv_congr (B':=B') (B:=B) (fun x hx=>e x (bkt_mem.1 (prevOf_mem hx)).1),pv_congr (B':=B') (B:=B) (fun x hx=>e x (bkt_mem.1 (nextOf_mem hx)).1)]
end Go.Proofs.YtaangaogmnlljaaGreatDoor.Kn
namespace Go.Proofs.YtaangaogmnlljaaGreatDoor.Kn
open Go.RowKit Go.Maps Asm Hp
def armL:List Value→Option (DataW Unit×List MemPlace)
 |[.int .i64 h, .int .u64 d]=>some (.agg [.lit (.int .i64 h), .lit (.int .u64 d)],[])
 |_=>none
def armR:Value→Option (DataW Unit×List MemPlace)
 | .agg cs=>armL cs.toList
 |_=>none
theorem armL_cases {l:List Value} {d:DataW Unit} {ps:List MemPlace} (h:armL l=some (d,ps)): ∃a b:Int,l= [.int .i64 a, .int .u64 b]∧d= .agg [.lit (.int .i64 a), .lit (.int .u64 b)]:=by
 unfold armL at h
 split at h
 ·injection h with h;injection h with h _;exact ⟨_,_,rfl,h.symm⟩
 ·cases h
theorem armR_cases {v:Value} {d:DataW Unit} {ps:List MemPlace} (h:armR v=some (d,ps)): ∃a b:Int,v= .agg #[.int .i64 a, .int .u64 b]∧d= .agg [.lit (.int .i64 a), .lit (.int .u64 b)]:=by
 unfold armR at h
 split at h
 ·rename_i cs
  obtain ⟨a,b,e,hd⟩:=armL_cases h
  obtain ⟨l⟩:=cs
  exact ⟨a,b,by rw[show l=_ from e],hd⟩
 ·cases h
def arms:Reads (Int×Int) where
 val c:= .agg #[.int .i64 c.1, .int .u64 c.2]
 dat c:= .agg [.lit (.int .i64 c.1), .lit (.int .u64 c.2)]
 R:=armR
 zv:= .agg #[.int .i64 0, .int .u64 0]
 zd:= .agg [.lit (.int .i64 0), .lit (.int .u64 0)]
 hR _:=rfl
 hI v c ps h:=by
  obtain ⟨a,b,rfl,h1⟩:=armR_cases h
  have:c.1=a∧c.2=b:=by simpa using h1
  rw[this.1,this.2]
 hZ:=rfl
 hZI v ps h:=by
  obtain ⟨a,b,rfl,h1⟩:=armR_cases h
  have:(0:Int)=a∧(0:Int)=b:=by simpa using h1
  rw[←this.1,←this.2]
def byF (S:List Thing):Int→Option (Int×Int):=fun id=>(S.find? fun t=>t.w==id).map fun t=>(t.h,t.d)
structure ClkP (w:World) (C hb hm:Nat) (v:Value) (ab:Nat) (c:Clk) (N K:Nat):Prop where
 obj:w.heap[C]?=some (.cells #[.int .u64 c.now, .pointer (some ⟨hb,0,none⟩), .map (some ab)] 327 (0,0))
 heap:HeapIs w hb hm v 0 c.S c.last N
 by':GMap arms w ab (byF c.S) K
 apart:ab≠hm
 nod:(c.S.map (·.w)).Nodup
 rng: ∀t∈c.S,t.w≠0∧t.d<18446744073709551615
 now:0≤c.now∧c.now≤1000000000
 few:c.S.length≤1000
def OfC (C hb hm:Nat) (v:Value) (ab:Nat) (b:Nat):Prop:=b=C∨b=ab∨Of hb hm v b
section
variable {w w':World} {C hb hm:Nat} {v:Value} {ab:Nat} {c:Clk} {N K:Nat}
theorem ClkP.of_blocks (h:ClkP w C hb hm v ab c N K) (e: ∀b,OfC C hb hm v ab b→w'.heap[b]?=w.heap[b]?):ClkP w' C hb hm v ab c N K:=
 ⟨(e C (Or.inl rfl)).trans h.obj,h.heap.of_blocks fun k hk=>e k (Or.inr (Or.inr hk)),h.by'.of_block (e ab (Or.inr (Or.inl rfl))),h.apart,h.nod,h.rng,h.now,h.few⟩
theorem ClkP.lt (h:ClkP w C hb hm v ab c N K) {b:Nat} (hb':OfC C hb hm v ab b):b<w.heap.size:=by
 rcases hb' with rfl|rfl|hk
 ·exact blk_in h.obj
 ·exact h.by'.lt
 ·exact h.heap.of_lt hk
theorem ClkP.below (h:ClkP w C hb hm v ab c N K) (hb':Below w.heap.size w w'):ClkP w' C hb hm v ab c N K:=h.of_blocks fun b hk=>hb'.block b (h.lt hk)
theorem ClkP.out (h:ClkP w C hb hm v ab c N K): ¬Of hb hm v C∧ ¬Of hb hm v ab∧C≠ab:=by
 obtain ⟨l,f,hraw,_⟩:=h.heap
 obtain ⟨es,cc,hme⟩:=h.by'.isMap
 obtain ⟨es2,cc2,hme2⟩:=hraw.map.isMap
 have ho:=hraw.obj
 unfold HObj at ho
 refine ⟨?_,?_,?_⟩
 ·rintro (e|e|e)
  ·exact blk_ne h.obj ho (by decide) e
  ·rw[←e,h.obj] at hme2;cases hme2
  ·obtain ⟨cur,hc⟩:=Hp.row_block hraw.row e
   exact blk_ne h.obj hc (by decide) rfl
 ·rintro (e|e|e)
  ·rw[e,ho] at hme;cases hme
  ·exact h.apart e
  ·obtain ⟨cur,hc⟩:=Hp.row_block hraw.row e
   rw[hc] at hme;cases hme
 ·intro e
  rw[←e,h.obj] at hme;cases hme
theorem ClkP.cells (h:ClkP w C hb hm v ab c N K):w.cell? ⟨C,0,none⟩=some (.int .u64 c.now)∧w.cell? ⟨C,1,none⟩=some (.pointer (some ⟨hb,0,none⟩))∧w.cell? ⟨C,2,none⟩=some (.map (some ab))∧ ∀o,w.frozen? ⟨C,o,none⟩=false:=
 ⟨by rw[blk_cell h.obj];rfl,by rw[blk_cell h.obj];rfl,by rw[blk_cell h.obj];rfl,fun o=>blk_frozen h.obj o⟩
end
theorem ClkP.mono {w:World} {C hb hm:Nat} {v:Value} {ab:Nat} {c:Clk} {N K N' K':Nat} (h:ClkP w C hb hm v ab c N K) (hN:N≤N') (hK:K≤K'):ClkP w C hb hm v ab c N' K':=by
 obtain ⟨l,f,hraw,hr⟩:=h.heap
 exact ⟨h.obj,⟨l,f,hraw.mono hN,hr⟩,h.by'.mono hK,h.apart,h.nod,h.rng,h.now,h.few⟩
end Go.Proofs.YtaangaogmnlljaaGreatDoor.Kn
namespace Go.Proofs.YtaangaogmnlljaaGreatDoor.Kn
open Go.RowKit Asm
def AccOut (w:World) (X gc gw:Nat) (r:Option (Int×Mem)) (e:Ending) (w':World):Prop:=match r with
 |none=>(∃ev,e= .returned (.tuple #[.int .u64 0,ev])∧Som ev)∧Below w.heap.size w w'
 |some (was,m')=>e= .returned (.tuple #[.int .u64 was, .nilIface])∧MemP w' X gc gw m'∧Keeps (fun b=>b=X∨b=gc) w w'
theorem MemP.counted {w:World} {X gc gw:Nat} {m:Mem} (h:MemP w X gc gw m) (c:Int):MemP (w.setCell ⟨X,3,none⟩ (.int .i64 c)) X gc gw m:=by
 obtain ⟨n1,n2,n3⟩:=h.ne
 obtain ⟨t,c',ho⟩:=h.obj
 exact ⟨h.ok,⟨t,c,set_block ho _⟩,(set_other (fun e=>n1 e.symm)).trans h.hs,(set_other (fun e=>n2 e.symm)).trans h.ws⟩
theorem MemP.laid {w:World} {X gc gw:Nat} {m:Mem} (h:MemP w X gc gw m) (a v:Int) (hv:0≤v∧v<18446744073709551616):MemP (w.setCell ⟨gc,a.toNat,none⟩ (.int .u64 v)) X gc gw (m.lay a v):=by
 obtain ⟨n1,n2,n3⟩:=h.ne
 obtain ⟨t,c',ho⟩:=h.obj
 refine ⟨lay_ok h.ok a v hv,⟨t,c',?_⟩,?_,(set_other (fun e=>n3 e.symm)).trans h.ws⟩
 ·rw[show (m.lay a v).hs.length=m.hs.length by simp[Mem.lay],show (m.lay a v).ws=m.ws from rfl]
  exact (set_other n1).trans ho
 ·rw[set_block h.hs,u64A_set];rfl
set_option maxRecDepth 100000 in
theorem access_none {w:World} {X gc gw:Nat} {m:Mem} (h:MemP w X gc gw m) (kind a old v:Int) (ha:0≤a∧a<18446744073709551616) (h0:m.width a=0):
  Calls Tryz.prog 212 #[.pointer (some ⟨X,0,none⟩), .int .i64 kind, .int .u64 a, .int .u64 old, .int .u64 v] w (AccOut w X gc gw none):=by
 have H1:=Lib.hid (width_any h a ha)
 rw[h0] at H1
 have HF:=Lib.hid (fun n W=>memfail_any n 2 W)
 clear h0 h
 by_cases hb:a≤4611686018427387904
 ·exact m61
 ·have hb':4611686018427387904<a:=by omega
  exact m61
set_option maxRecDepth 100000 in
theorem access_some {w:World} {X gc gw:Nat} {m:Mem} (h:MemP w X gc gw m) (kind a old v:Int) (hk:kind=0∨kind=1∨kind=2∨kind=3∨kind=4) (ha:0≤a∧a<18446744073709551616) (ho:0≤old∧old<18446744073709551616) (hv:0≤v∧v<18446744073709551616) (h0:m.width a≠0):
  Calls Tryz.prog 212 #[.pointer (some ⟨X,0,none⟩), .int .i64 kind, .int .u64 a, .int .u64 old, .int .u64 v] w (AccOut w X gc gw (m.acc kind a old v)):=by
 have H1:=Lib.hid (width_any h a ha)
 have hin:=width_in m h.ok h0
 have hheld:=held_range m h.ok a
 obtain ⟨n1,n2,n3⟩:=h.ne
 obtain ⟨l1,l2,l3⟩:=h.lt
 obtain ⟨th,ct,hobj⟩:=h.obj
 obtain ⟨n,hn⟩: ∃n,n=m.hs.length:=⟨_,rfl⟩
 have hmost:=h.ok.most
 obtain ⟨k,rfl⟩:=Int.eq_ofNat_of_zero_le ha.1
 have hin':k<n:=by rw[hn];exact hin
 have hkI:(k:Int)<(n:Int):=by omega
 have hnI:(n:Int)≤65536:=by omega
 have W1:=h.counted (wrap64 (ct+1))
 have K1:Keeps (fun b=>b=X∨b=gc) w (w.setCell ⟨X,3,none⟩ (.int .i64 (wrap64 (ct+1)))):=(Keeps.refl _ w).setCell (Or.inl rfl) _
 have c0:w.cell? ⟨X,0,none⟩=some (.slice (some ⟨gc,0,none⟩) n n):=by rw[blk_cell hobj,hn];rfl
 have c3:w.cell? ⟨X,3,none⟩=some (.int .i64 ct):=by rw[blk_cell hobj];rfl
 have f3:w.frozen? ⟨X,3,none⟩=false:=blk_frozen hobj _
 have g1:w.cell? ⟨gc,k,none⟩=some (.int .u64 (m.held k)):=by rw[blk_cell h.hs];exact u64A_at hin
 have g2:w.frozen? ⟨gc,k,none⟩=false:=blk_frozen h.hs _
 have HW:=Lib.hid W1
 have HK:=Lib.hid K1
 have hac:m.acc kind k old v=some (m.held k,if kind=0 then m else if kind=3 then m.lay k (sumW (m.width k) (m.held k) v) else if kind=4 then (if m.held k=cutW (m.width k) old then m.lay k (cutW (m.width k) v) else m) else m.lay k (cutW (m.width k) v)):=by
  unfold Mem.acc;rw[if_neg h0]
 rw[hac]
 have HC:=Lib.hid (fun W=>cut_any (m.width k) v W hv)
 have HO:=Lib.hid (fun W=>cut_any (m.width k) old W ho)
 have HS:=Lib.hid (fun W=>sum_any (m.width k) (m.held k) v W hheld hv)
 have rC:=cutW_range (wd:=m.width k) hv
 have rS:=@sumW_range (m.width k) (m.held k) v
 have HL:=Lib.hid (fun x hx=>W1.laid (k:Int) x hx)
 rw[show ((k:Int)).toNat=k from Int.toNat_natCast k] at HL
 generalize hgc:cutW (m.width k) v=cv at*
 generalize hgo:cutW (m.width k) old=co at*
 generalize hgs:sumW (m.width k) (m.held k) v=sv at*
 generalize hgh:m.held k=was at*
 generalize hgw:m.width k=wd at*
 have HcV:=Lib.hid rC
 have HNn:=Lib.hid hn
 have HsV:=Lib.hid rS
 clear hac W1 K1 hobj hn hmost h ho hv ha hgc hgo hgs hgh hgw rC rS hin
 rcases hk with rfl|rfl|rfl|rfl|rfl
 ·rw[if_pos rfl]
  go_enter Tryz.func212,Tryz.ntmps212
  go_wp2_with fail
  refine H1.out.mono ?_
  rintro e w1 ⟨rfl,rfl⟩
  go_wp2_with fail
  go_ret2
  exact ⟨rfl,HW.out,HK.out⟩
 ·rw[if_neg (by decide),if_neg (by decide),if_neg (by decide)]
  go_enter Tryz.func212,Tryz.ntmps212
  go_wp2_with fail
  refine H1.out.mono ?_
  rintro e w1 ⟨rfl,rfl⟩
  exact m9
 ·rw[if_neg (by decide),if_neg (by decide),if_neg (by decide)]
  go_enter Tryz.func212,Tryz.ntmps212
  go_wp2_with fail
  refine H1.out.mono ?_
  rintro e w1 ⟨rfl,rfl⟩
  exact m9
 ·rw[if_neg (by decide),if_pos rfl]
  go_enter Tryz.func212,Tryz.ntmps212
  go_wp2_with fail
  refine H1.out.mono ?_
  rintro e w1 ⟨rfl,rfl⟩
  go_wp2_with fail
  have q1:(w.setCell ⟨X,3,none⟩ (.int .i64 (wrap64 (ct+1)))).cell? ⟨gc,k,none⟩=some (.int .u64 was):=(World.cell?_of_block (a:=⟨gc,k,none⟩) (set_other (fun e=>n1 e.symm))).trans g1
  have q2:(w.setCell ⟨X,3,none⟩ (.int .i64 (wrap64 (ct+1)))).frozen? ⟨gc,k,none⟩=false:=(World.frozen?_of_block (a:=⟨gc,k,none⟩) (set_other (fun e=>n1 e.symm))).trans g2
  generalize (w.setCell ⟨X,3,none⟩ (.int .i64 (wrap64 (ct+1))))=w1 at HW HK q1 q2 ⊢
  have HW2:Hid (MemP w1.drew X gc gw m):=Lib.hid (HW.out.of_blocks fun _ _=>rfl)
  have HK2:Hid (Keeps (fun b=>b=X∨b=gc) w w1.drew):=Lib.hid HK.out.drew
  have q0:w1.drew.cell? ⟨X,0,none⟩=some (.slice (some ⟨gc,0,none⟩) n n):=by
   obtain ⟨_,_,ho⟩:=HW2.out.obj
   rw[blk_cell ho,HNn.out];rfl
  replace q1:w1.drew.cell? ⟨gc,k,none⟩=some (.int .u64 was):=q1
  replace q2:w1.drew.frozen? ⟨gc,k,none⟩=false:=q2
  go_region_with (go_at_call 259;refine (HS.out _).mono ?_;rintro e w2 ⟨rfl,rfl⟩)
  all_goals
   go_wp2_with fail
   go_ret2
   exact ⟨rfl,by have:=HW2.out.laid (k:Int) _ HsV.out;rwa[Int.toNat_natCast] at this,HK2.out.setCell (p:=⟨gc,k,none⟩) (Or.inr rfl) _⟩
 ·rw[if_neg (by decide),if_neg (by decide),if_pos rfl]
  by_cases hwo:was=co
  ·subst hwo
   rw[if_pos rfl]
   go_enter Tryz.func212,Tryz.ntmps212
   go_wp2_with fail
   refine H1.out.mono ?_
   rintro e w1 ⟨rfl,rfl⟩
   go_wp2_with fail
   refine (HO.out _).mono ?_
   rintro e w2 ⟨rfl,rfl⟩
   exact m9
  ·rw[if_neg hwo]
   have hwo2:(was !=co)=true:=by simp[hwo]
   go_enter Tryz.func212,Tryz.ntmps212
   go_wp2_with fail
   refine H1.out.mono ?_
   rintro e w1 ⟨rfl,rfl⟩
   go_wp2_with fail
   refine (HO.out _).mono ?_
   rintro e w2 ⟨rfl,rfl⟩
   go_wp2_with fail
   go_ret2
   exact ⟨rfl,HW.out,HK.out⟩
end Go.Proofs.YtaangaogmnlljaaGreatDoor.Kn
namespace Go.Proofs.YtaangaogmnlljaaGreatDoor.Kn
open Go.RowKit Asm
def rowT (m:Mem) (a n:Nat) (b:Bool):Bool:=decide (a+n≤m.ws.length)&& ((m.ws.drop a).take n).all fun x=>(x !=0)==b
theorem rowT_iff (m:Mem) (a n:Nat) (b:Bool):rowT m a n b=true↔a+n≤m.ws.length∧ ∀j,j<n→((m.ws.getD (a+j) 0 !=0)==b)=true:=by
 unfold rowT
 rw[Bool.and_eq_true,decide_eq_true_iff,List.all_eq_true]
 constructor
 ·rintro ⟨h1,h2⟩
  refine ⟨h1,fun j hj=>h2 _ ?_⟩
  rw[List.getD_eq_getElem?_getD,List.getElem?_eq_getElem (by omega)]
  rw[List.mem_iff_getElem]
  exact ⟨j,by simp;omega,by simp⟩
 ·rintro ⟨h1,h2⟩
  refine ⟨h1,fun x hx=>?_⟩
  rw[List.mem_iff_getElem] at hx
  obtain ⟨j,hj,rfl⟩:=hx
  have hj2:j<n:=by simp at hj;omega
  have:=h2 j hj2
  rw[List.getD_eq_getElem?_getD,List.getElem?_eq_getElem (by omega)] at this
  simpa using this
theorem free_row (m:Mem) (a n:Nat):m.free? a n=rowT m a n false:=by
 unfold Mem.free? rowT
 congr 2
 funext x
 by_cases hx:x=0<;>simp[hx,bne]
theorem all_row (m:Mem) (a n:Nat):m.all? a n=rowT m a n true:=by
 unfold Mem.all? rowT
 congr 2
 funext x
 by_cases hx:x=0<;>simp[hx]
def RowOut (w:World) (r:Bool) (e:Ending) (w':World):Prop:=match r with
 |true=>e= .returned .nilIface∧w=w'
 |false=>(∃v,e= .returned v∧Som v)∧Below w.heap.size w w'
set_option maxRecDepth 100000 in
theorem row_any {w:World} {X gc gw:Nat} {m:Mem} (h:MemP w X gc gw m) (a n:Nat) (b:Bool) (ha:a≤100000) (hn:n≤100000):
  Calls Tryz.prog 223 #[.pointer (some ⟨X,0,none⟩), .int .i64 a, .int .i64 n, .bool b] w (RowOut w (rowT m a n b)):=by
 obtain ⟨t,c,ho⟩:=h.obj
 obtain ⟨z,hz⟩: ∃z,z=m.hs.length:=⟨_,rfl⟩
 have hws:=h.ws
 have hlen:=h.ok.len
 have hmost:=h.ok.most
 have c0:w.cell? ⟨X,0,none⟩=some (.slice (some ⟨gc,0,none⟩) z z):=by rw[blk_cell ho,hz];rfl
 have c1:w.cell? ⟨X,1,none⟩=some (.slice (some ⟨gw,0,none⟩) z z):=by rw[blk_cell ho,hz,←hlen];rfl
 have HF:=Lib.hid (fun n k W=>memfail_any n k W)
 have haI:(a:Int)≤100000:=by omega
 have hnI:(n:Int)≤100000:=by omega
 have hzI:(z:Int)≤65536:=by omega
 by_cases hfit:a+n≤z
 ·have hfitI:(a:Int)+(n:Int)≤(z:Int):=by omega
  have HI:=rowT_iff m a n b
  rw[←hlen.trans hz.symm] at hfit
  have HWs:=Lib.hid hws
  have HLen:=Lib.hid hlen
  have HZ:=Lib.hid hz
  have HFit:=Lib.hid hfit
  have hr:=h.ok.w
  have HR:=Lib.hid hr
  have HI:=Lib.hid HI
  clear hws hlen hz hfit hmost hr h ho
  go_enter Tryz.func223,Tryz.ntmps223
  go_wp2_with fail
  go_loopw [9] (fun iv wr=> ∃i:Nat,i≤n∧iv= .int .i64 ((a+i:Nat):Int)∧Hid (∀j,j<i→((m.ws.getD (a+j) 0 !=0)==b)=true)∧wr=w) (fun iv _=>a+n - (intOf iv).toNat)
  case atStart=>exact ⟨0,by omega,rfl,Lib.hid (fun j hj=>absurd hj (by omega)),rfl⟩
  case round=>
   obtain ⟨i,hi,rfl,HA,rfl⟩:=hrel
   have hiI:(i:Int)≤(n:Int):=by omega
   by_cases hlt:i<n
   ·have hltI:((a+i:Nat):Int)<(a:Int)+(n:Int):=by omega
    have hzi:((a+i:Nat):Int)<(z:Int):=by omega
    have c2:wr.cell? ⟨gw,a+i,none⟩=some (.int .u8 (m.ws.getD (a+i) 0)):=by rw[blk_cell HWs.out];exact u8A_at (by have:=HFit.out;omega)
    by_cases hx:m.ws.getD (a+i) 0=0
    ·have ht:(m.ws.getD (a+i) 0 !=0)=false:=by rw[hx];rfl
     rw[hx] at c2
     cases b with
     |false=>
      go_wp2_with fail
      go_roundw
      case rel=>exact ⟨i+1,by omega,by go_num,Lib.hid (fun j hj=>by
       rcases Nat.lt_succ_iff_lt_or_eq.1 hj with h1|h1
       ·exact HA.out j h1
       ·rw[h1,ht];rfl),trivial⟩
      case measure=>simp[intOf];omega
     |true=>
      have hno:rowT m a n true=false:=Bool.eq_false_iff.2 fun hh=>by
       have:=(HI.out.1 hh).2 i hlt
       rw[ht] at this;cases this
      have HNo:=Lib.hid hno
      clear hno
      exact m63
    ·have ht:(m.ws.getD (a+i) 0 !=0)=true:=bne_iff_ne.2 hx
     have HT:=Lib.hid ht
     generalize hxx:m.ws.getD (a+i) 0=x at c2 hx ht HT
     have HX:=Lib.hid hxx
     clear hxx
     clear ht
     have hx2:(x !=0)=true:=HT.out
     cases b with
     |true=>
      go_wp2_with fail
      go_roundw
      case rel=>exact ⟨i+1,by omega,by go_num,Lib.hid (fun j hj=>by
       rcases Nat.lt_succ_iff_lt_or_eq.1 hj with h1|h1
       ·exact HA.out j h1
       ·rw[h1,HX.out,HT.out];rfl),trivial⟩
      case measure=>simp[intOf];omega
     |false=>
      have hno:rowT m a n false=false:=Bool.eq_false_iff.2 fun hh=>by
       have:=(HI.out.1 hh).2 i hlt
       rw[HX.out,HT.out] at this;cases this
      have HNo:=Lib.hid hno
      clear hno
      exact m63
   ·obtain rfl:i=n:=by omega
    have hyes:rowT m a i b=true:=HI.out.2 ⟨HFit.out,HA.out⟩
    have HYes:=Lib.hid hyes
    clear hyes
    go_wp2_with fail
    go_ret
    rw[HYes.out]
    exact ⟨rfl,rfl⟩
 ·have hfitI:(z:Int) - (a:Int)<(n:Int):=by omega
  have hno:rowT m a n b=false:=Bool.eq_false_iff.2 fun hh=>by have:=((rowT_iff m a n b).1 hh).1;omega
  have HNo:=Lib.hid hno
  clear hno hws hlen hz hfit hmost h ho
  go_enter Tryz.func223,Tryz.ntmps223
  exact m63
theorem fillL_len (l:List Int) (a n:Nat) (v:Int) (h:a+n≤l.length):(fillL l a n v).length=l.length:=by simp[fillL];omega
theorem fillL_zero (l:List Int) (a:Nat) (v:Int):fillL l a 0 v=l:=by simp[fillL]
theorem fillL_succ (l:List Int) (a n:Nat) (v:Int) (h:a+n<l.length):(fillL l a n v).set (a+n) v=fillL l a (n+1) v:=by
 unfold fillL
 apply List.ext_getElem
 ·simp;omega
 ·intro i h1 h2
  have hi:i<l.length:=by simp at h2;omega
  rw[List.getElem_set]
  by_cases c0:a+n=i
  ·rw[if_pos c0,List.getElem_append_left (by simp;omega),List.getElem_append_right (by simp;omega)]
   simp
  ·rw[if_neg c0]
   by_cases c1:i<a
   ·rw[List.getElem_append_left (by simp;omega),List.getElem_append_left (by simp;omega),List.getElem_append_left (by simp;omega),List.getElem_append_left (by simp;omega)]
   ·by_cases c2:i<a+n
    ·rw[List.getElem_append_left (by simp;omega),List.getElem_append_right (by simp;omega),List.getElem_append_left (by simp;omega),List.getElem_append_right (by simp;omega)]
     simp
    ·rw[List.getElem_append_right (by simp;omega),List.getElem_append_right (by simp;omega)]
     simp
     congr 1
     omega
theorem fillL_mem {l:List Int} {a n:Nat} {v x:Int} (h:x∈fillL l a n v):x∈l∨x=v:=by
 unfold fillL at h
 rcases List.mem_append.1 h with h|h
 ·rcases List.mem_append.1 h with h|h
  ·exact Or.inl (List.mem_of_mem_take h)
  ·exact Or.inr (List.mem_replicate.1 h).2
 ·exact Or.inl (List.mem_of_mem_drop h)
theorem map_ok {m:Mem} (h:MemOk m) {a n:Nat} {wd:Int} (hw:wd=0∨wd=32∨wd=64) (hf:a+n≤m.ws.length):MemOk (m.map a n wd):=by
 have hl:=h.len
 have h1:(m.map a n wd).ws.length=m.ws.length:=fillL_len _ _ _ _ hf
 have h2:(m.map a n wd).hs.length=m.hs.length:=fillL_len _ _ _ _ (by rw[←hl];exact hf)
 refine ⟨by rw[h1,h2,hl],by rw[h2];exact h.one,by rw[h2];exact h.most,fun x hx=>?_,fun x hx=>?_⟩
 ·rcases fillL_mem hx with h3|h3
  ·exact h.w x h3
  ·rw[h3];exact hw
 ·rcases fillL_mem hx with h3|h3
  ·exact h.h x h3
  ·rw[h3];exact ⟨by decide,by decide⟩
theorem u8A_set (l:List Int) (i:Nat) (v:Int):(u8A l).setIfInBounds i (.int .u8 v)=u8A (l.set i v):=by
 apply Array.ext'
 simp[u8A,List.map_set]
theorem map_succ (m:Mem) (hl:m.ws.length=m.hs.length) (a i:Nat) (wd:Int) (h:a+i<m.ws.length):(⟨(m.map a i wd).ws.set (a+i) wd,(m.map a i wd).hs.set (a+i) 0⟩:Mem)=m.map a (i+1) wd:=by
 unfold Mem.map
 rw[fillL_succ _ _ _ _ h,fillL_succ _ _ _ _ (by rw[←hl];exact h)]
theorem map_zero (m:Mem) (a:Nat) (wd:Int):m.map a 0 wd=m:=by unfold Mem.map;rw[fillL_zero,fillL_zero]
theorem MemP.mapped {w:World} {X gc gw:Nat} {m:Mem} {a i:Nat} {wd:Int} (h:MemP w X gc gw (m.map a i wd)) (hl:m.ws.length=m.hs.length) (hw:wd=0∨wd=32∨wd=64) (hi:a+i<m.ws.length) (hm:MemOk m):
  MemP ((w.setCell ⟨gw,a+i,none⟩ (.int .u8 wd)).setCell ⟨gc,a+i,none⟩ (.int .u64 0)) X gc gw (m.map a (i+1) wd):=by
 obtain ⟨n1,n2,n3⟩:=h.ne
 obtain ⟨t,c',ho⟩:=h.obj
 have l1:(m.map a (i+1) wd).ws.length=(m.map a i wd).ws.length:=by rw[←map_succ m hl a i wd hi];simp
 have l2:(m.map a (i+1) wd).hs.length=(m.map a i wd).hs.length:=by rw[←map_succ m hl a i wd hi];simp
 refine ⟨map_ok hm hw (by omega),⟨t,c',?_⟩,?_,?_⟩
 ·rw[l1,l2]
  exact (set_other n1).trans ((set_other n2).trans ho)
 ·rw[set_block ((set_other n3).trans h.hs),u64A_set,←map_succ m hl a i wd hi]
 ·rw[set_other (fun e=>n3 e.symm),set_block h.ws,u8A_set,←map_succ m hl a i wd hi]
theorem MemP.there {w:World} {X gc gw:Nat} {m:Mem} (h:MemP w X gc gw m) (c:Int):MemP (w.setCell ⟨X,2,none⟩ (.int .i64 c)) X gc gw m:=by
 obtain ⟨n1,n2,n3⟩:=h.ne
 obtain ⟨t,c',ho⟩:=h.obj
 exact ⟨h.ok,⟨c,c',set_block ho _⟩,(set_other (fun e=>n1 e.symm)).trans h.hs,(set_other (fun e=>n2 e.symm)).trans h.ws⟩
def MapOut (w:World) (X gc gw:Nat) (r:Option Mem) (e:Ending) (w':World):Prop:=match r with
 |some m'=>e= .returned .nilIface∧MemP w' X gc gw m'∧Keeps (fun b=>b=X∨b=gc∨b=gw) w w'
 |none=>(∃v,e= .returned v∧Som v)∧Below w.heap.size w w'
set_option maxRecDepth 100000 in
theorem map32 {w:World} {X gc gw:Nat} {m:Mem} (h:MemP w X gc gw m) (a n:Nat) (hn1:1≤n) (ha:a≤100000) (hn:n≤100000):
  Calls Tryz.prog 166 #[.pointer (some ⟨X,0,none⟩), .int .i64 a, .int .i64 n, .int .i64 32] w (MapOut w X gc gw (if m.free? a n then some (m.map a n 32) else none)):=by
 have HRow:=Lib.hid (row_any h a n false ha hn)
 have hr:m.free? a n=rowT m a n false:=free_row m a n
 rw[hr]
 have HT:=Lib.hid ((rowT_iff m a n false).1)
 have HH:=Lib.hid h
 have HOk:=Lib.hid h.ok
 have hlen:=h.ok.len
 have hmost:=h.ok.most
 have HLen:=Lib.hid hlen
 have hn1I:1≤(n:Int):=by omega
 have haI:(a:Int)≤100000:=by omega
 have hnI:(n:Int)≤100000:=by omega
 cases hb:rowT m a n false with
 |false=>
  rw[hb] at HRow
  rw[if_neg (by decide)]
  clear hr HT hb hlen hmost h
  go_enter Tryz.func166,Tryz.ntmps166
  go_wp2_with fail
  refine HRow.out.mono ?_
  rintro e w1 ⟨⟨v,rfl,t,x,rfl⟩,hb1⟩
  go_wp2_with fail
  go_ret
  exact ⟨⟨_,rfl,t,x,rfl⟩,hb1⟩
 |true=>
  rw[hb] at HRow
  rw[if_pos rfl]
  have hfit:=(HT.out hb).1
  have HFit:=Lib.hid hfit
  obtain ⟨z,hz⟩: ∃z,z=m.hs.length:=⟨_,rfl⟩
  have hfitI:(a:Int)+(n:Int)≤(z:Int):=by omega
  have hzI:(z:Int)≤65536:=by omega
  have HZ:=Lib.hid hz
  have HWd:=Lib.hid (Or.inl rfl:(32:Int)=32∨(32:Int)=64)
  clear hr HT hb hlen hmost h hfit hz
  go_enter Tryz.func166,Tryz.ntmps166
  go_wp2_with fail
  refine HRow.out.mono ?_
  rintro e w1 ⟨rfl,rfl⟩
  go_wp2_with fail
  go_loopw [10] (fun iv wr=> ∃i:Nat,i≤n∧iv= .int .i64 ((a+i:Nat):Int)∧Hid (MemP wr X gc gw (m.map a i 32))∧Hid (Keeps (fun b=>b=X∨b=gc∨b=gw) w wr)) (fun iv _=>a+n - (intOf iv).toNat)
  case atStart=>exact ⟨0,by omega,rfl,Lib.hid (by rw[map_zero];exact HH.out),Lib.hid (Keeps.refl _ _)⟩
  case round=>
   obtain ⟨i,hi,rfl,HM,HK⟩:=hrel
   have hiI:(i:Int)≤(n:Int):=by omega
   obtain ⟨n1,n2,n3⟩:=HM.out.ne
   obtain ⟨l1,l2,l3⟩:=HM.out.lt
   obtain ⟨t,c,ho⟩:=HM.out.obj
   have e1:(m.map a i 32).ws.length=z:=by rw[HZ.out,←HLen.out];exact fillL_len _ _ _ _ (by have:=HFit.out;omega)
   have e2:(m.map a i 32).hs.length=z:=by rw[←HM.out.ok.len];exact e1
   rw[e1,e2] at ho
   have c0:wr.cell? ⟨X,0,none⟩=some (.slice (some ⟨gc,0,none⟩) z z):=by rw[blk_cell ho];rfl
   have c1:wr.cell? ⟨X,1,none⟩=some (.slice (some ⟨gw,0,none⟩) z z):=by rw[blk_cell ho];rfl
   have c2:wr.cell? ⟨X,2,none⟩=some (.int .i64 t):=by rw[blk_cell ho];rfl
   have f2:wr.frozen? ⟨X,2,none⟩=false:=blk_frozen ho _
   by_cases hlt:i<n
   ·have hltI:((a+i:Nat):Int)<(a:Int)+(n:Int):=by omega
    have hzi:((a+i:Nat):Int)<(z:Int):=by omega
    have hzn:a+i<z:=by omega
    have g1: ∃u,wr.cell? ⟨gw,a+i,none⟩=some u:=⟨_,by rw[blk_cell HM.out.ws];exact u8A_at (by rw[e1];exact hzn)⟩
    have g2: ∃u,wr.cell? ⟨gc,a+i,none⟩=some u:=⟨_,by rw[blk_cell HM.out.hs];exact u64A_at (by rw[e2];exact hzn)⟩
    obtain ⟨u1,g1⟩:=g1
    obtain ⟨u2,g2⟩:=g2
    have f3:wr.frozen? ⟨gw,a+i,none⟩=false:=blk_frozen HM.out.ws _
    have f4:wr.frozen? ⟨gc,a+i,none⟩=false:=blk_frozen HM.out.hs _
    have HN:=Lib.hid (HM.out.mapped HLen.out (by first|exact Or.inl rfl|exact Or.inr (Or.inl rfl) |exact Or.inr (Or.inr rfl)) (by have:=HFit.out;omega) HOk.out)
    have HK2:=Lib.hid ((HK.out.setCell (p:=⟨gw,a+i,none⟩) (Or.inr (Or.inr rfl)) (.int .u8 32)).setCell (p:=⟨gc,a+i,none⟩) (Or.inr (Or.inl rfl)) (.int .u64 0))
    clear ho e1 e2 f2
    go_wp2_with fail
    go_roundw
    case rel=>exact ⟨i+1,by omega,by go_num,HN,HK2⟩
    case measure=>simp[intOf];omega
   ·obtain rfl:i=n:=by omega
    have HN:=Lib.hid (HM.out.there (wrap64 (t+(i:Int))))
    have HK2:=Lib.hid (HK.out.setCell (p:=⟨X,2,none⟩) (Or.inl rfl) (.int .i64 (wrap64 (t+(i:Int)))))
    clear ho e1 e2
    go_wp2_with fail
    go_ret
    exact ⟨rfl,HN.out,HK2.out⟩
set_option maxRecDepth 100000 in
theorem map64 {w:World} {X gc gw:Nat} {m:Mem} (h:MemP w X gc gw m) (a n:Nat) (hn1:1≤n) (ha:a≤100000) (hn:n≤100000):
  Calls Tryz.prog 166 #[.pointer (some ⟨X,0,none⟩), .int .i64 a, .int .i64 n, .int .i64 64] w (MapOut w X gc gw (if m.free? a n then some (m.map a n 64) else none)):=by
 have HRow:=Lib.hid (row_any h a n false ha hn)
 have hr:m.free? a n=rowT m a n false:=free_row m a n
 rw[hr]
 have HT:=Lib.hid ((rowT_iff m a n false).1)
 have HH:=Lib.hid h
 have HOk:=Lib.hid h.ok
 have hlen:=h.ok.len
 have hmost:=h.ok.most
 have HLen:=Lib.hid hlen
 have hn1I:1≤(n:Int):=by omega
 have haI:(a:Int)≤100000:=by omega
 have hnI:(n:Int)≤100000:=by omega
 cases hb:rowT m a n false with
 |false=>
  rw[hb] at HRow
  rw[if_neg (by decide)]
  clear hr HT hb hlen hmost h
  go_enter Tryz.func166,Tryz.ntmps166
  go_wp2_with fail
  refine HRow.out.mono ?_
  rintro e w1 ⟨⟨v,rfl,t,x,rfl⟩,hb1⟩
  go_wp2_with fail
  go_ret
  exact ⟨⟨_,rfl,t,x,rfl⟩,hb1⟩
 |true=>
  rw[hb] at HRow
  rw[if_pos rfl]
  have hfit:=(HT.out hb).1
  have HFit:=Lib.hid hfit
  obtain ⟨z,hz⟩: ∃z,z=m.hs.length:=⟨_,rfl⟩
  have hfitI:(a:Int)+(n:Int)≤(z:Int):=by omega
  have hzI:(z:Int)≤65536:=by omega
  have HZ:=Lib.hid hz
  have HWd:=Lib.hid (Or.inr rfl:(64:Int)=32∨(64:Int)=64)
  clear hr HT hb hlen hmost h hfit hz
  go_enter Tryz.func166,Tryz.ntmps166
  go_wp2_with fail
  refine HRow.out.mono ?_
  rintro e w1 ⟨rfl,rfl⟩
  go_wp2_with fail
  go_loopw [10] (fun iv wr=> ∃i:Nat,i≤n∧iv= .int .i64 ((a+i:Nat):Int)∧Hid (MemP wr X gc gw (m.map a i 64))∧Hid (Keeps (fun b=>b=X∨b=gc∨b=gw) w wr)) (fun iv _=>a+n - (intOf iv).toNat)
  case atStart=>exact ⟨0,by omega,rfl,Lib.hid (by rw[map_zero];exact HH.out),Lib.hid (Keeps.refl _ _)⟩
  case round=>
   obtain ⟨i,hi,rfl,HM,HK⟩:=hrel
   have hiI:(i:Int)≤(n:Int):=by omega
   obtain ⟨n1,n2,n3⟩:=HM.out.ne
   obtain ⟨l1,l2,l3⟩:=HM.out.lt
   obtain ⟨t,c,ho⟩:=HM.out.obj
   have e1:(m.map a i 64).ws.length=z:=by rw[HZ.out,←HLen.out];exact fillL_len _ _ _ _ (by have:=HFit.out;omega)
   have e2:(m.map a i 64).hs.length=z:=by rw[←HM.out.ok.len];exact e1
   rw[e1,e2] at ho
   have c0:wr.cell? ⟨X,0,none⟩=some (.slice (some ⟨gc,0,none⟩) z z):=by rw[blk_cell ho];rfl
   have c1:wr.cell? ⟨X,1,none⟩=some (.slice (some ⟨gw,0,none⟩) z z):=by rw[blk_cell ho];rfl
   have c2:wr.cell? ⟨X,2,none⟩=some (.int .i64 t):=by rw[blk_cell ho];rfl
   have f2:wr.frozen? ⟨X,2,none⟩=false:=blk_frozen ho _
   by_cases hlt:i<n
   ·have hltI:((a+i:Nat):Int)<(a:Int)+(n:Int):=by omega
    have hzi:((a+i:Nat):Int)<(z:Int):=by omega
    have hzn:a+i<z:=by omega
    have g1: ∃u,wr.cell? ⟨gw,a+i,none⟩=some u:=⟨_,by rw[blk_cell HM.out.ws];exact u8A_at (by rw[e1];exact hzn)⟩
    have g2: ∃u,wr.cell? ⟨gc,a+i,none⟩=some u:=⟨_,by rw[blk_cell HM.out.hs];exact u64A_at (by rw[e2];exact hzn)⟩
    obtain ⟨u1,g1⟩:=g1
    obtain ⟨u2,g2⟩:=g2
    have f3:wr.frozen? ⟨gw,a+i,none⟩=false:=blk_frozen HM.out.ws _
    have f4:wr.frozen? ⟨gc,a+i,none⟩=false:=blk_frozen HM.out.hs _
    have HN:=Lib.hid (HM.out.mapped HLen.out (by first|exact Or.inl rfl|exact Or.inr (Or.inl rfl) |exact Or.inr (Or.inr rfl)) (by have:=HFit.out;omega) HOk.out)
    have HK2:=Lib.hid ((HK.out.setCell (p:=⟨gw,a+i,none⟩) (Or.inr (Or.inr rfl)) (.int .u8 64)).setCell (p:=⟨gc,a+i,none⟩) (Or.inr (Or.inl rfl)) (.int .u64 0))
    clear ho e1 e2 f2
    go_wp2_with fail
    go_roundw
    case rel=>exact ⟨i+1,by omega,by go_num,HN,HK2⟩
    case measure=>simp[intOf];omega
   ·obtain rfl:i=n:=by omega
    have HN:=Lib.hid (HM.out.there (wrap64 (t+(i:Int))))
    have HK2:=Lib.hid (HK.out.setCell (p:=⟨X,2,none⟩) (Or.inl rfl) (.int .i64 (wrap64 (t+(i:Int)))))
    clear ho e1 e2
    go_wp2_with fail
    go_ret
    exact ⟨rfl,HN.out,HK2.out⟩
theorem map_any {w:World} {X gc gw:Nat} {m:Mem} (h:MemP w X gc gw m) (a n:Nat) (wd:Int) (hwd:wd=32∨wd=64) (hn1:1≤n) (ha:a≤100000) (hn:n≤100000):
  Calls Tryz.prog 166 #[.pointer (some ⟨X,0,none⟩), .int .i64 a, .int .i64 n, .int .i64 wd] w (MapOut w X gc gw (if m.free? a n then some (m.map a n wd) else none)):=by
 rcases hwd with rfl|rfl
 ·exact map32 h a n hn1 ha hn
 ·exact map64 h a n hn1 ha hn
set_option maxRecDepth 100000 in
theorem unmap_any {w:World} {X gc gw:Nat} {m:Mem} (h:MemP w X gc gw m) (a n:Nat) (hn1:1≤n) (ha:a≤100000) (hn:n≤100000):
  Calls Tryz.prog 227 #[.pointer (some ⟨X,0,none⟩), .int .i64 a, .int .i64 n] w (MapOut w X gc gw (if m.all? a n then some (m.map a n 0) else none)):=by
 have HRow:=Lib.hid (row_any h a n true ha hn)
 have hr:m.all? a n=rowT m a n true:=all_row m a n
 rw[hr]
 have HT:=Lib.hid ((rowT_iff m a n true).1)
 have HH:=Lib.hid h
 have HOk:=Lib.hid h.ok
 have hlen:=h.ok.len
 have hmost:=h.ok.most
 have HLen:=Lib.hid hlen
 have hn1I:1≤(n:Int):=by omega
 have haI:(a:Int)≤100000:=by omega
 have hnI:(n:Int)≤100000:=by omega
 cases hb:rowT m a n true with
 |false=>
  rw[hb] at HRow
  rw[if_neg (by decide)]
  clear hr HT hb hlen hmost h
  go_enter Tryz.func227,Tryz.ntmps227
  go_wp2_with fail
  refine HRow.out.mono ?_
  rintro e w1 ⟨⟨v,rfl,t,x,rfl⟩,hb1⟩
  go_wp2_with fail
  go_ret
  exact ⟨⟨_,rfl,t,x,rfl⟩,hb1⟩
 |true=>
  rw[hb] at HRow
  rw[if_pos rfl]
  have hfit:=(HT.out hb).1
  have HFit:=Lib.hid hfit
  obtain ⟨z,hz⟩: ∃z,z=m.hs.length:=⟨_,rfl⟩
  have hfitI:(a:Int)+(n:Int)≤(z:Int):=by omega
  have hzI:(z:Int)≤65536:=by omega
  have HZ:=Lib.hid hz
  have HWd:=Lib.hid (rfl:(0:Int)=0)
  clear hr HT hb hlen hmost h hfit hz
  go_enter Tryz.func227,Tryz.ntmps227
  go_wp2_with fail
  refine HRow.out.mono ?_
  rintro e w1 ⟨rfl,rfl⟩
  go_wp2_with fail
  go_loopw [8] (fun iv wr=> ∃i:Nat,i≤n∧iv= .int .i64 ((a+i:Nat):Int)∧Hid (MemP wr X gc gw (m.map a i 0))∧Hid (Keeps (fun b=>b=X∨b=gc∨b=gw) w wr)) (fun iv _=>a+n - (intOf iv).toNat)
  case atStart=>exact ⟨0,by omega,rfl,Lib.hid (by rw[map_zero];exact HH.out),Lib.hid (Keeps.refl _ _)⟩
  case round=>
   obtain ⟨i,hi,rfl,HM,HK⟩:=hrel
   have hiI:(i:Int)≤(n:Int):=by omega
   obtain ⟨n1,n2,n3⟩:=HM.out.ne
   obtain ⟨l1,l2,l3⟩:=HM.out.lt
   obtain ⟨t,c,ho⟩:=HM.out.obj
   have e1:(m.map a i 0).ws.length=z:=by rw[HZ.out,←HLen.out];exact fillL_len _ _ _ _ (by have:=HFit.out;omega)
   have e2:(m.map a i 0).hs.length=z:=by rw[←HM.out.ok.len];exact e1
   rw[e1,e2] at ho
   have c0:wr.cell? ⟨X,0,none⟩=some (.slice (some ⟨gc,0,none⟩) z z):=by rw[blk_cell ho];rfl
   have c1:wr.cell? ⟨X,1,none⟩=some (.slice (some ⟨gw,0,none⟩) z z):=by rw[blk_cell ho];rfl
   have c2:wr.cell? ⟨X,2,none⟩=some (.int .i64 t):=by rw[blk_cell ho];rfl
   have f2:wr.frozen? ⟨X,2,none⟩=false:=blk_frozen ho _
   by_cases hlt:i<n
   ·have hltI:((a+i:Nat):Int)<(a:Int)+(n:Int):=by omega
    have hzi:((a+i:Nat):Int)<(z:Int):=by omega
    have hzn:a+i<z:=by omega
    have g1: ∃u,wr.cell? ⟨gw,a+i,none⟩=some u:=⟨_,by rw[blk_cell HM.out.ws];exact u8A_at (by rw[e1];exact hzn)⟩
    have g2: ∃u,wr.cell? ⟨gc,a+i,none⟩=some u:=⟨_,by rw[blk_cell HM.out.hs];exact u64A_at (by rw[e2];exact hzn)⟩
    obtain ⟨u1,g1⟩:=g1
    obtain ⟨u2,g2⟩:=g2
    have f3:wr.frozen? ⟨gw,a+i,none⟩=false:=blk_frozen HM.out.ws _
    have f4:wr.frozen? ⟨gc,a+i,none⟩=false:=blk_frozen HM.out.hs _
    have HN:=Lib.hid (HM.out.mapped HLen.out (by first|exact Or.inl rfl|exact Or.inr (Or.inl rfl) |exact Or.inr (Or.inr rfl)) (by have:=HFit.out;omega) HOk.out)
    have HK2:=Lib.hid ((HK.out.setCell (p:=⟨gw,a+i,none⟩) (Or.inr (Or.inr rfl)) (.int .u8 0)).setCell (p:=⟨gc,a+i,none⟩) (Or.inr (Or.inl rfl)) (.int .u64 0))
    clear ho e1 e2 f2
    go_wp2_with fail
    go_roundw
    case rel=>exact ⟨i+1,by omega,by go_num,HN,HK2⟩
    case measure=>simp[intOf];omega
   ·obtain rfl:i=n:=by omega
    have HN:=Lib.hid (HM.out.there (wrap64 (t - (i:Int))))
    have HK2:=Lib.hid (HK.out.setCell (p:=⟨X,2,none⟩) (Or.inl rfl) (.int .i64 (wrap64 (t - (i:Int)))))
    clear ho e1 e2
    go_wp2_with fail
    go_ret
    exact ⟨rfl,HN.out,HK2.out⟩
end Go.Proofs.YtaangaogmnlljaaGreatDoor.Kn
namespace Go.Proofs.YtaangaogmnlljaaGreatDoor.Kn
open Go.RowKit Asm
theorem own_at {w:World} {base:Nat} {e:TypeId} {size n:Nat} {v:Value} {xs:List Value} (h:w.ownsRow base e size v n xs) (h0:0<n):
  ∃g c,v= .slice (some ⟨g,0,none⟩) n c∧base≤g∧g<w.heap.size∧n≤c∧(∀k,k<n*size→w.cell? ⟨g,k,none⟩=xs[k]?)∧ ∀o,w.frozen? ⟨g,o,none⟩=false:=by
 exact m105
theorem below_drewN (w:World) (q:Nat):Below w.heap.size w (w.drewN q):=⟨rfl,rfl,rfl,Nat.le_refl _,fun _ _=>rfl⟩
def blk3 (b:Blk):List Value:= [.int .i64 b.pos, .int .i64 b.n, .int .i64 b.w]
def blkC (l:List Blk):List Value:=l.flatMap blk3
theorem blkC_at {l:List Blk} {i:Nat} (h:i<l.length):(blkC l)[i*3]?=some (.int .i64 (bAt l i).pos)∧(blkC l)[i*3+1]?=some (.int .i64 (bAt l i).n)∧(blkC l)[i*3+2]?=some (.int .i64 (bAt l i).w):=by
 have e:bAt l i=l[i]:=by unfold bAt;rw[List.getD_eq_getElem?_getD,List.getElem?_eq_getElem h];rfl
 rw[e]
 exact ⟨flL_at (k:=3) (f:=blk3) (fun _=>rfl) l i h 0 (by omega),flL_at (k:=3) (f:=blk3) (fun _=>rfl) l i h 1 (by omega),flL_at (k:=3) (f:=blk3) (fun _=>rfl) l i h 2 (by omega)⟩
theorem blkC_len (l:List Blk):(blkC l).length=l.length*3:=flL_len (f:=blk3) (fun _=>rfl) l
structure AlcP (w:World) (A X:Nat) (v:Value) (a:Alc):Prop where
 ok:okB a.hi a.lo a.l
 most:a.hi≤65536
 obj:w.heap[A]?=some (.cells #[.pointer (some ⟨X,0,none⟩), .int .i64 a.lo, .int .i64 a.hi,v] 427 (0,0))
 row:w.ownsRow 0 308 3 v a.l.length (blkC a.l)
def OfA (A:Nat) (v:Value) (k:Nat):Prop:=k=A∨v.ownBlock=some k
section
variable {w w':World} {A X:Nat} {v:Value} {a:Alc}
theorem AlcP.lt (h:AlcP w A X v a):A<w.heap.size:=blk_in h.obj
theorem AlcP.of_lt (h:AlcP w A X v a) {k:Nat} (hk:OfA A v k):k<w.heap.size:=by
 rcases hk with rfl|hk
 ·exact h.lt
 ·exact (h.row.lt k hk).2
theorem AlcP.of_blocks (h:AlcP w A X v a) (e: ∀k,OfA A v k→w'.heap[k]?=w.heap[k]?):AlcP w' A X v a:=
 ⟨h.ok,h.most,(e A (Or.inl rfl)).trans h.obj,ownsRow_of_block h.row fun k hk=>e k (Or.inr hk)⟩
theorem AlcP.len (h:AlcP w A X v a):a.l.length≤65536:=by have:=okB_len h.ok;have:=h.most;omega
end
theorem allocfail_any (n:Int) (t:TypeId) (x:Value) (w:World):Calls Tryz.prog 224 #[.int .i64 n, .iface t x] w fun e w'=>(∃v,e= .returned v∧Som v)∧Below w.heap.size w w':=by
 go_enter Tryz.func224,Tryz.ntmps224
 go_wp2
 go_ret
 exact ⟨⟨_,rfl,_,_,rfl⟩,(Below.refl _ _).alloc (Nat.le_refl _) _⟩
set_option maxRecDepth 100000 in
theorem end_any {w:World} {A X:Nat} {v:Value} {a:Alc} (h:AlcP w A X v a) (i:Nat) (hi:i≤a.l.length):
  Calls Tryz.prog 225 #[.pointer (some ⟨A,0,none⟩), .int .i64 i] w fun e w'=>e= .returned (.int .i64 (endL a.lo a.l i))∧ ∃q,w'=w.drewN q:=by
 have ho:=h.obj
 cases i with
 |zero=>
  have c1:w.cell? ⟨A,1,none⟩=some (.int .i64 a.lo):=by rw[blk_cell ho];rfl
  have e0:endL a.lo a.l 0=a.lo:=rfl
  rw[e0]
  clear h ho hi e0
  go_enter Tryz.func225,Tryz.ntmps225
  go_wp2
  go_ret
  exact ⟨rfl,0,rfl⟩
 |succ j=>
  obtain ⟨g,cp,rfl,_,_,hcap,p1,_⟩:=own_at h.row (by omega)
  obtain ⟨n,hn⟩: ∃n,n=a.l.length:=⟨_,rfl⟩
  have c3:w.cell? ⟨A,3,none⟩=some (.slice (some ⟨g,0,none⟩) n cp):=by rw[blk_cell ho,hn];rfl
  obtain ⟨b0,b1,_⟩:=blkC_at (l:=a.l) (i:=j) (by omega)
  have x0:w.cell? ⟨g,j*3,none⟩=some (.int .i64 (bAt a.l j).pos):=(p1 _ (by omega)).trans b0
  have x1:w.cell? ⟨g,j*3+1,none⟩=some (.int .i64 (bAt a.l j).n):=(p1 _ (by omega)).trans b1
  have hb:=okB_in h.ok _ (bAt_mem (l:=a.l) (i:=j) (by omega))
  have hm:=h.most
  have hle:=h.len
  have e0:endL a.lo a.l (j+1)=(bAt a.l j).pos+(bAt a.l j).n:=rfl
  rw[e0]
  have hjn:(j:Int)<(n:Int):=by omega
  have hnI:(n:Int)≤65536:=by omega
  have hp:((bAt a.l j).pos:Int)≤65536:=by omega
  have hq:((bAt a.l j).n:Int)≤65536:=by omega
  generalize (bAt a.l j).pos=p at*
  generalize (bAt a.l j).n=q at*
  have hs1:IntKind.i64.wrap (j:Int)=(j:Int):=IntWalk.i64_in _ (by omega)
  have hs2:IntKind.i64.wrap ((p:Int)+(q:Int))=(p:Int)+(q:Int):=IntWalk.i64_in _ (by omega)
  clear h ho hi e0 b0 b1 p1 hb hm hle hn hcap
  go_enter Tryz.func225,Tryz.ntmps225
  go_wp2_with fail
  go_quiet (fail)
  go_wp2
  go_ret
  exact ⟨by simp,_,rfl⟩
set_option maxRecDepth 100000 in
theorem start_any {w:World} {A X:Nat} {v:Value} {a:Alc} (h:AlcP w A X v a) (i:Nat) (hi:i≤a.l.length):
  Calls Tryz.prog 226 #[.pointer (some ⟨A,0,none⟩), .int .i64 i] w fun e w'=>e= .returned (.int .i64 (startL a.hi a.l i))∧ ∃q,w'=w.drewN q:=by
 have ho:=h.obj
 obtain ⟨n,hn⟩: ∃n,n=a.l.length:=⟨_,rfl⟩
 have hnI:(n:Int)≤65536:=by have:=h.len;omega
 by_cases hlt:i<a.l.length
 ·obtain ⟨g,cp,rfl,_,_,hcap,p1,_⟩:=own_at h.row (by omega)
  have c3:w.cell? ⟨A,3,none⟩=some (.slice (some ⟨g,0,none⟩) n cp):=by rw[blk_cell ho,hn];rfl
  obtain ⟨b0,b1,_⟩:=blkC_at (l:=a.l) (i:=i) hlt
  have x0:w.cell? ⟨g,i*3,none⟩=some (.int .i64 (bAt a.l i).pos):=(p1 _ (by omega)).trans b0
  have e0:startL a.hi a.l i=(bAt a.l i).pos:=if_pos hlt
  rw[e0]
  have hjn:(i:Int)<(n:Int):=by omega
  generalize (bAt a.l i).pos=p at*
  clear h ho hi e0 b0 b1 p1 hn hcap hlt
  exact m108
 ·obtain rfl:i=n:=by omega
  obtain ⟨Av,cv,hv⟩:=own_shape h.row
  have c3:w.cell? ⟨A,3,none⟩=some (.slice Av i cv):=by rw[blk_cell ho,hv,hn];rfl
  have c2:w.cell? ⟨A,2,none⟩=some (.int .i64 a.hi):=by rw[blk_cell ho];rfl
  have e0:startL a.hi a.l i=a.hi:=if_neg hlt
  rw[e0]
  clear h ho hi e0 hn hlt hv
  exact m108
end Go.Proofs.YtaangaogmnlljaaGreatDoor.Kn
