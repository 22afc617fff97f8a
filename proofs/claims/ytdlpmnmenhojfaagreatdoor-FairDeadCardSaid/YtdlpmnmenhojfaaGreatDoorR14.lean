/- Part 14 of what the proof stands on: KnMach, KnVm, KnTell, FdMf, FdMg, FdMh, LibAwk, PosKinds, FdMi, RdOps, RdOps2, FdMj, FdMk, FdMl. -/
import Derived.Test.YtdlpmnmenhojfaaGreatDoorR09
import Derived.Test.YtdlpmnmenhojfaaGreatDoorR11
import Derived.Test.YtdlpmnmenhojfaaGreatDoorR12
set_option linter.unusedVariables false
set_option maxHeartbeats 40000000
set_option maxRecDepth 100000
variable {zP:Prop}
namespace Go.Proofs.YtdlpmnmenhojfaaGreatDoor
open Go.IntKind renaming i64->Z,u64->J
open Go.Value renaming int->E,pointer->Y,slice->Sl
open Option renaming none->O,some->V
open Go.Obj renaming cells->Ce
open Go.Ending renaming returned->Rt
open Go.Proofs.Tryz renaming prog->Tp
namespace Kn
open Go.RowKit Go.Maps Asm
inductive Tag where
 |other|mach|mem|alc|clk|ring|wq|tab|obj|map|wk|fixed|ev
 |thr (id:Int) |row (id:Int) |fr (id:Int) (n:Nat) |back (id:Int) (n:Nat) |wback (n:Nat)
abbrev Own:=Nat→Tag
structure Touch (ts:Tag→Prop) (w w':World) (own own':Own):Prop where
 keeps:Keeps (fun b=>ts (own b)) w w'
 own: ∀b,b<w.heap.size→own' b=own b
theorem Touch.refl (ts:Tag→Prop) (w:World) (own:Own):Touch ts w w own own:=⟨Keeps.refl _ w,fun _ _=>rfl⟩
theorem Touch.mono {ts us:Tag→Prop} {w w':World} {o o':Own} (h:Touch ts w w' o o') (hs: ∀t,ts t→us t):Touch us w w' o o':=⟨h.keeps.mono fun _ hx=>hs _ hx,h.own⟩
theorem Touch.trans {ts:Tag→Prop} {w1 w2 w3:World} {o1 o2 o3:Own} (h:Touch ts w1 w2 o1 o2) (k:Touch ts w2 w3 o2 o3):Touch ts w1 w3 o1 o3:=
 ⟨h.keeps.trans k.keeps fun i hi=>by
  by_cases hl:i<w1.heap.size
  ·rw[h.own i hl] at hi;exact Or.inl hi
  ·exact Or.inr Y1,fun b hb=>(k.own b (Nat.lt_of_lt_of_le hb h.keeps.size)).trans (h.own b hb)⟩
def ext (own:Own) (n:Nat) (t:Tag):Own:=fun b=>if b<n then own b else t
theorem Bh {own:Own} {n:Nat} {t:Tag} {b:Nat} (h:b<n):ext own n t b=own b:=if_pos h
theorem Zo {own:Own} {n:Nat} {t:Tag} {b:Nat} (h:own b=t∨n≤b):ext own n t b=t:=by
 unfold ext;split
 ·rcases h with h|h
  ·exact h
  ·omega
 ·rfl
theorem touch_of {X:Nat→Prop} {ts:Tag→Prop} {t:Tag} {w w':World} {own:Own} (h:Keeps X w w') (hX: ∀b,X b→ts (own b)):Touch ts w w' own (ext own w.heap.size t):=
 ⟨h.mono hX,fun _ hb=>Bh hb⟩
theorem zU {ts:Tag→Prop} {t:Tag} {w w':World} {own:Own} (h:Below w.heap.size w w'):Touch ts w w' own (ext own w.heap.size t):=
 ⟨Keeps.zO h,fun _ hb=>Bh hb⟩
theorem Zv {ts:Tag→Prop} (w:World) (own:Own):Touch ts w w.drew own own:=⟨(Keeps.refl _ w).drew,fun _ _=>rfl⟩
theorem ZW {ts:Tag→Prop} (w:World) (own:Own) (q:Nat):Touch ts w (w.drewN q) own own:=⟨(Keeps.refl _ w).drewN q,fun _ _=>rfl⟩
theorem Touch.at {ts:Tag→Prop} {w w':World} {o o':Own} (k:Touch ts w w' o o') {t:Tag} (hn: ¬ts t) {b:Nat} (hb:o b=t) (hl:b<w.heap.size):w'.heap[b]?=w.heap[b]?∧o' b=t:=
 ⟨k.keeps.block b hl fun h=>hn (by rw[hb] at h;exact h),(k.own b hl).trans hb⟩
structure KG where
 K:Nat
 X:Nat
 A:Nat
 C:Nat
 R:Nat
 Q:Nat
 T:Nat
 aA:Nat
 th:Nat
 gW:Nat
 lv:Value
 cv:Value
 pv:Value
 tb:Int→Nat
 fb:Int→Nat→Nat
section
variable {w w':World} {own own':Own} {ts:Tag→Prop}
def zaD (w:World) (own:Own) (X:Nat) (m:Mem):Prop:= ∃gc gw,Zn w X gc gw m∧ ∀b,b=X∨b=gc∨b=gw→own b= .mem
theorem zaD.move {X:Nat} {m:Mem} (h:zaD w own X m) (k:Touch ts w w' own own') (hn: ¬ts .mem):zaD w' own' X m:=by
 obtain ⟨gc,gw,hP,ho⟩:=h;have hl: ∀b,b=X∨b=gc∨b=gw→b<w.heap.size:=by
  obtain ⟨l1,l2,l3⟩:=hP.lt;rintro b (rfl|rfl|rfl)<;>assumption
 exact ⟨gc,gw,hP.zk fun b hb=>(k.at hn (ho b hb) (hl b hb)).1,fun b hb=>(k.at hn (ho b hb) (hl b hb)).2⟩
def zpQ (w:World) (own:Own) (A X:Nat) (a:Alc):Prop:= ∃v,VR w A X v a∧ ∀b,OfA A v b→own b= .alc
theorem zpQ.move {A X:Nat} {a:Alc} (h:zpQ w own A X a) (k:Touch ts w w' own own') (hn: ¬ts .alc):zpQ w' own' A X a:=by
 obtain ⟨v,hP,ho⟩:=h;exact ⟨v,hP.zk fun b hb=>(k.at hn (ho b hb) (hP.of_lt hb)).1,fun b hb=>(k.at hn (ho b hb) (hP.of_lt hb)).2⟩
def zeS (w:World) (own:Own) (C:Nat) (c:bJ) (n:Nat):Prop:= ∃hb hm v ab N K,KE w C hb hm v ab c N K∧(∀b,OfC C hb hm v ab b→own b= .clk)∧N+3010*c.S.length≤6020*n∧K≤n∧c.last≤n∧0≤c.last∧c.now≤n
theorem zeS.move {C:Nat} {c:bJ} {n:Nat} (h:zeS w own C c n) (k:Touch ts w w' own own') (hn: ¬ts .clk):zeS w' own' C c n:=by
 obtain ⟨hb,hm,v,ab,N,K,hP,ho,h2⟩:=h;exact ⟨hb,hm,v,ab,N,K,hP.zk fun b hb=>(k.at hn (ho b hb) (hP.lt hb)).1,fun b hb=>(k.at hn (ho b hb) (hP.lt hb)).2,h2⟩
def zfv (w:World) (own:Own) (R:Nat) (l:List Int):Prop:= ∃gr,gJ w R gr l∧ ∀b,b=R∨b=gr→own b= .ring
theorem zfv.move {R:Nat} {l:List Int} (h:zfv w own R l) (k:Touch ts w w' own own') (hn: ¬ts .ring):zfv w' own' R l:=by
 obtain ⟨gr,hP,ho⟩:=h;have hl: ∀b,b=R∨b=gr→b<w.heap.size:=by
  obtain ⟨l1,l2⟩:=hP.lt;rintro b (rfl|rfl)<;>assumption
 exact ⟨gr,hP.zk fun b hb=>(k.at hn (ho b hb) (hl b hb)).1,fun b hb=>(k.at hn (ho b hb) (hl b hb)).2⟩
def PWq (w:World) (own:Own) (Q:Nat) (l:List Slp) (n:Nat):Prop:= ∃gl mb B N,WqP w Q gl mb B l N∧(∀b,OfQ Q gl mb B l b→own b= .wq)∧N≤n
theorem PWq.move {Q:Nat} {l:List Slp} {n:Nat} (h:PWq w own Q l n) (k:Touch ts w w' own own') (hn: ¬ts .wq):PWq w' own' Q l n:=by
 obtain ⟨gl,mb,B,N,hP,ho,h2⟩:=h;exact ⟨gl,mb,B,N,hP.zk fun b hb=>(k.at hn (ho b hb) (hP.lt hb)).1,fun b hb=>(k.at hn (ho b hb) (hP.lt hb)).2,h2⟩
def zgd (w:World) (own:Own) (T:Nat) (l:List Zt) (n:Nat):Prop:= ∃gt N,Vh w T gt l N∧(∀b,b=T∨b=gt→own b= .tab)∧N≤n
theorem zgd.move {T:Nat} {l:List Zt} {n:Nat} (h:zgd w own T l n) (k:Touch ts w w' own own') (hn: ¬ts .tab):zgd w' own' T l n:=by
 obtain ⟨gt,N,hP,ho,h2⟩:=h;have hl: ∀b,b=T∨b=gt→b<w.heap.size:=by
  obtain ⟨l1,l2⟩:=hP.lt;rintro b (rfl|rfl)<;>assumption
 exact ⟨gt,N,hP.zk fun b hb=>(k.at hn (ho b hb) (hl b hb)).1,fun b hb=>(k.at hn (ho b hb) (hl b hb)).2,h2⟩
def ze6 (w:World) (own:Own) (aA:Nat) (l:List Vd) (n:Nat):Prop:= ∃go N,VE w aA go l N∧(∀b,b=aA∨b=go→own b= .obj)∧N≤n
theorem ze6.move {aA:Nat} {l:List Vd} {n:Nat} (h:ze6 w own aA l n) (k:Touch ts w w' own own') (hn: ¬ts .obj):ze6 w' own' aA l n:=by
 obtain ⟨go,N,hP,ho,h2⟩:=h;have hl: ∀b,b=aA∨b=go→b<w.heap.size:=by
  obtain ⟨l1,l2⟩:=hP.lt;rintro b (rfl|rfl)<;>assumption
 exact ⟨go,N,hP.zk fun b hb=>(k.at hn (ho b hb) (hl b hb)).1,fun b hb=>(k.at hn (ho b hb) (hl b hb)).2,h2⟩
def Vv (w:World) (own:Own) (t:Tag) (e:TypeId) (size:Nat) (v:Value) (n:Nat) (xs:List Value):Prop:=w.ownsRow 0 e size v n xs∧ ∀b,v.ownBlock=some b→own b=t
theorem Vv.lt {t:Tag} {e:TypeId} {size n:Nat} {v:Value} {xs:List Value} (h:Vv w own t e size v n xs) {b:Nat} (hb:v.ownBlock=some b):b<w.heap.size:=by
 obtain ⟨cur,hc⟩:=Asm.Zz h.1 hb;exact zo hc
theorem Vv.move {t:Tag} {e:TypeId} {size n:Nat} {v:Value} {xs:List Value} (h:Vv w own t e size v n xs) (k:Touch ts w w' own own') (hn: ¬ts t):Vv w' own' t e size v n xs:=
 ⟨Asm.za h.1 fun b hb=>(k.at hn (h.2 b hb) (h.lt hb)).1,fun b hb=>(k.at hn (h.2 b hb) (h.lt hb)).2⟩
def kU (l:List Int):List Value:=l.map fun x=> E Z x
def BU (f:Frame) (bv:Value):List Value:=E Z f.pc::(f.r.map fun x=>Value.int J x)++ [bv]
structure zb7 (n:Nat) (f:Frame):Prop where
 len:f.r.length=32
 r: ∀x∈f.r,Zm x
 pc:0≤f.pc∧f.pc≤4000+n
 few:f.back.length≤8
 back: ∀x∈f.back,0≤x∧x≤4000+n
theorem zb7.more {n n':Nat} {f:Frame} (h:zb7 n f) (hn:n≤n'):zb7 n' f:=
 ⟨h.len,h.r,⟨h.pc.1,by have:=h.pc.2;omega⟩,h.few,fun x hx=>⟨(h.back x hx).1,by have:=(h.back x hx).2;omega⟩⟩
structure FrP (w:World) (own:Own) (id:Int) (i b:Nat) (fr:Fr) (n:Nat):Prop where
 mine:own b= .fr id i
 ok:zb7 n fr.f
 num:0≤fr.num∧fr.num<1000
 obj: ∃bv,w.heap[b]?=V (.cells (BU fr.f bv++ [Value.bool fr.lib,Value.int Z fr.num]).toArray 240 (0,0))∧Vv w own (.back id i) 3 1 bv fr.f.back.length (kU fr.f.back)
theorem FrP.move {id:Int} {i b n:Nat} {fr:Fr} (h:FrP w own id i b fr n) (k:Touch ts w w' own own') (h1: ¬ts (.fr id i)) (h2: ¬ts (.back id i)):FrP w' own' id i b fr n:=by
 obtain ⟨bv,ho,hr⟩:=h.obj;exact ⟨(k.at h1 h.mine (zo ho)).2,h.ok,h.num,bv,(k.at h1 h.mine (zo ho)).1.trans ho,hr.move k h2⟩
theorem FrP.more {id:Int} {i b n n':Nat} {fr:Fr} (h:FrP w own id i b fr n) (hn:n≤n'):FrP w own id i b fr n':=⟨h.mine,h.ok.more hn,h.num,h.obj⟩
def Vo (fb:Int→Nat→Nat) (r:Run):List Value:=(List.range r.l.length).map fun i=> Y (V ⟨fb r.id i,0,O⟩)
structure Jh (w:World) (own:Own) (tb:Int→Nat) (fb:Int→Nat→Nat) (r:Run) (n:Nat):Prop where
 mine:own (tb r.id)= .thr r.id
 id:r.id≠0∧Zm r.id
 woken:Zm r.woken
 few:r.l.length≤100
 obj: ∃lv,w.heap[tb r.id]?=V (.cells #[E J r.id,lv,E J r.woken] 244 (0,0))∧Vv w own (.row r.id) 238 1 lv r.l.length (Vo fb r)
 frs: ∀i fr,r.l[i]?=some fr→FrP w own r.id i (fb r.id i) fr n
theorem Jh.move {tb:Int→Nat} {fb:Int→Nat→Nat} {r:Run} {n:Nat} (h:Jh w own tb fb r n) (k:Touch ts w w' own own') (h1: ¬ts (.thr r.id)) (h2: ¬ts (.row r.id)) (h3: ∀i,¬ts (.fr r.id i)) (h4: ∀i,¬ts (.back r.id i)):Jh w' own' tb fb r n:=by
 obtain ⟨lv,ho,hr⟩:=h.obj;exact ⟨(k.at h1 h.mine (zo ho)).2,h.id,h.woken,h.few,⟨lv,(k.at h1 h.mine (zo ho)).1.trans ho,hr.move k h2⟩,fun i fr hi=>(h.frs i fr hi).move k (h3 i) (h4 i)⟩
theorem Jh.more {tb:Int→Nat} {fb:Int→Nat→Nat} {r:Run} {n n':Nat} (h:Jh w own tb fb r n) (hn:n≤n'):Jh w own tb fb r n':=⟨h.mine,h.id,h.woken,h.few,h.obj,fun i fr hi=>(h.frs i fr hi).more hn⟩
def zxf (ts:Tag→Prop):Prop:= ¬ts .map∧ ∀id,¬ts (.thr id)∧ ¬ts (.row id)∧ ∀i,¬ts (.fr id i)∧ ¬ts (.back id i)
structure kG (w:World) (own:Own) (th:Nat) (tb:Int→Nat) (fb:Int→Nat→Nat) (l:List Run) (n:Nat):Prop where
 nod:(l.map (·.id)).Nodup
 mine:own th= .map
 map: ∃N,Zl ptrs w th (fun id=>(zR l id).map fun _=>tb id) N∧N≤n+1
 each: ∀r∈l,Jh w own tb fb r n
theorem kG.move {th:Nat} {tb:Int→Nat} {fb:Int→Nat→Nat} {l:List Run} {n:Nat} (h:kG w own th tb fb l n) (k:Touch ts w w' own own') (hn:zxf ts):kG w' own' th tb fb l n:=by
 obtain ⟨N,hm,hN⟩:=h.map;obtain ⟨h0,h1⟩:=hn;exact ⟨h.nod,(k.at h0 h.mine hm.lt).2,⟨N,hm.of_block (k.at h0 h.mine hm.lt).1,hN⟩,fun r hr=>(h.each r hr).move k (h1 _).1 (h1 _).2.1 (fun i=>((h1 _).2.2 i).1) fun i=>((h1 _).2.2 i).2⟩
theorem kG.more {th:Nat} {tb:Int→Nat} {fb:Int→Nat→Nat} {l:List Run} {n n':Nat} (h:kG w own th tb fb l n) (hn:n≤n'):kG w own th tb fb l n':=by
 obtain ⟨N,hm,hN⟩:=h.map;exact ⟨h.nod,h.mine,⟨N,hm,by omega⟩,fun r hr=>(h.each r hr).more hn⟩
def kR (p:Wkr×Value):List Value:= [E J p.1.slot,E J p.1.hand, .bool p.1.parked,E Z p.1.left]++BU p.1.f p.2
structure zq8 (n:Nat) (k:Wkr):Prop where
 slot:Zm k.slot
 hand:Zm k.hand
 left:0≤k.left∧k.left≤100
 f:zb7 n k.f
def PWk (w:World) (own:Own) (gW:Nat) (l:List Wkr) (n:Nat):Prop:=own gW= .wk∧ ∃L:List (Wkr×Value),L.map (·.1)=l∧w.heap[gW]?=V (.cells (L.flatMap kR).toArray 142 (0,0))∧ ∀i p,L[i]?=some p→zq8 n p.1∧Vv w own (.wback i) 3 1 p.2 p.1.f.back.length (kU p.1.f.back)
def zAh (ts:Tag→Prop):Prop:= ¬ts .wk∧ ∀i,¬ts (.wback i)
theorem PWk.move {gW:Nat} {l:List Wkr} {n:Nat} (h:PWk w own gW l n) (k:Touch ts w w' own own') (hn:zAh ts):PWk w' own' gW l n:=by
 obtain ⟨h0,L,h1,h2,h3⟩:=h;exact ⟨(k.at hn.1 h0 (zo h2)).2,L,h1,(k.at hn.1 h0 (zo h2)).1.trans h2,fun i p hp=>⟨(h3 i p hp).1,(h3 i p hp).2.move k (hn.2 i)⟩⟩
theorem PWk.more {gW:Nat} {l:List Wkr} {n n':Nat} (h:PWk w own gW l n) (hn:n≤n'):PWk w own gW l n':=by
 obtain ⟨h0,L,h1,h2,h3⟩:=h;exact ⟨h0,L,h1,h2,fun i p hp=>⟨⟨(h3 i p hp).1.slot,(h3 i p hp).1.hand,(h3 i p hp).1.left,(h3 i p hp).1.f.more hn⟩,(h3 i p hp).2⟩⟩
end
def zh6 (e:Ev):List Value:= [E Z e.kind,E Z e.pos,E Z e.w,E J e.t,E Z e.num,E J e.a0,E J e.a1,E J e.a2,E J e.a3,E J e.v,E J e.code]
def evC (l:List Ev):List Value:=l.flatMap zh6
def bK (r:kI):List Value:= [E Z r.num,E Z r.pos,E Z r.k0,E Z r.k1,E Z r.k2,E Z r.k3]
def ku (l:List kI):List Value:=l.flatMap bK
def gY (l:List kI) (num:Int):Nat:=match l.findIdx? (fun r=>r.num==num) with
 |some i=>i+1
 |none=>0
structure zcQ (C:Array Value) (F:Fixed) (G:KG) (M:zD) (ov:Value):Prop where
 size:C.size=1021
 lib:C[0]?=some G.lv
 loop:C[1]?=V (E Z F.loop)
 calls:C[2]?=some G.cv
 code:C[3]?=some G.pv
 wide:C[5]?=V (E Z F.wide)
 narrow:C[6]?=V (E Z F.narrow)
 rows: ∀i:Nat,i<1000→C[7+i]?=V (E Z (gY F.calls i))
 mem:C[1007]?=V (Y (V ⟨G.X,0,O⟩))
 alc:C[1008]?=V (Y (V ⟨G.A,0,O⟩))
 clk:C[1009]?=V (Y (V ⟨G.C,0,O⟩))
 ring:C[1010]?=V (Y (V ⟨G.R,0,O⟩))
 wq:C[1011]?=V (Y (V ⟨G.Q,0,O⟩))
 tab:C[1012]?=V (Y (V ⟨G.T,0,O⟩))
 obj:C[1013]?=V (Y (V ⟨G.aA,0,O⟩))
 th:C[1014]?=V (.map (some G.th))
 wk:C[1015]?=V (Sl (V ⟨G.gW,0,O⟩) F.workers F.workers)
 entries:C[1016]?=V (E Z M.entries)
 pos:C[1017]?=V (E Z M.pos)
 w:C[1018]?=V (E Z M.w)
 draw:C[1019]?=V (E J M.draw)
 out:C[1020]?=some ov
def zvs (F:Fixed):Prop:= ∀x∈F.lib,vI x F.lib.length true=true
def zrz (F:Fixed):Prop:= ∀x∈F.code,vI x F.code.length false=true
structure zdG (F:Fixed):Prop where
 lib:0<F.lib.length∧F.lib.length≤2048
 loop:0≤F.loop∧F.loop<F.lib.length
 libs:zvs F
 code:0<F.code.length∧F.code.length≤2048
 codes:zrz F
 libv: ∀x∈F.lib,Zm x.v
 codev: ∀x∈F.code,Zm x.v
 wide:0≤F.wide∧0≤F.narrow∧F.wide+F.narrow≤256
 workers:1≤F.workers∧F.workers≤64
 few:F.calls.length≤999
 nod:(F.calls.map (·.num)).Nodup
 calls: ∀r∈F.calls,1≤r.num∧r.num≤999∧0≤r.pos∧r.pos<F.lib.length∧(0≤r.k0∧r.k0≤7)∧(0≤r.k1∧r.k1≤7)∧(0≤r.k2∧r.k2≤7)∧(0≤r.k3∧r.k3≤7)
structure zrY (w:World) (own:Own) (F:Fixed) (G:KG):Prop where
 lib:Vv w own .fixed 111 7 G.lv F.lib.length (Ze F.lib)
 calls:Vv w own .fixed 125 6 G.cv F.calls.length (ku F.calls)
 code:Vv w own .fixed 111 7 G.pv F.code.length (Ze F.code)
structure zaw (w:World) (own:Own) (F:Fixed) (G:KG) (M:zD):Prop where
 mine:own G.K= .mach
 obj: ∃C ov,w.heap[G.K]?=V (.cells C 89 (0,0))∧zcQ C F G M ov∧Vv w own .ev 74 11 ov M.out.length (evC M.out)
structure znE (M:zD) (F:Fixed) (n:Nat):Prop where
 entries:0≤M.entries∧M.entries≤n
 pos:0≤M.pos∧M.pos≤n
 w: -1≤M.w∧M.w<64
 draw:Zm M.draw
 wk:M.wkrs.length=F.workers
 out:M.out.length≤1000000
structure zi (F:Fixed) (w:World) (own:Own) (G:KG) (M:zD) (n:Nat):Prop where
 fok:zdG F
 num:znE M F n
 k:zaw w own F G M
 fix:zrY w own F G
 mem:zaD w own G.X M.mem
 alc:zpQ w own G.A G.X M.alc
 clk:zeS w own G.C M.clk n
 ring:zfv w own G.R M.ring
 wq:PWq w own G.Q M.slps n
 tab:zgd w own G.T M.tab n
 obj:ze6 w own G.aA M.objs n
 runs:kG w own G.th G.tb G.fb M.runs n
 wk:PWk w own G.gW M.wkrs n
section
variable {w w':World} {own own':Own} {ts:Tag→Prop} {F:Fixed} {G:KG} {M:zD} {n n':Nat}
theorem zaw.move (h:zaw w own F G M) (k:Touch ts w w' own own') (h1: ¬ts .mach) (h2: ¬ts .ev):zaw w' own' F G M:=by
 obtain ⟨C,ov,ho,hc,hr⟩:=h.obj;exact ⟨(k.at h1 h.mine (zo ho)).2,C,ov,(k.at h1 h.mine (zo ho)).1.trans ho,hc,hr.move k h2⟩
theorem zrY.move (h:zrY w own F G) (k:Touch ts w w' own own') (h1: ¬ts .fixed):zrY w' own' F G:=⟨h.lib.move k h1,h.calls.move k h1,h.code.move k h1⟩
theorem zi.move (h:zi F w own G M n) (k:Touch (· = .other) w w' own own'):zi F w' own' G M n:=
 ⟨h.fok,h.num,h.k.move k nofun nofun,h.fix.move k nofun,h.mem.move k nofun,h.alc.move k nofun,h.clk.move k nofun,h.ring.move k nofun,h.wq.move k nofun,h.tab.move k nofun,h.obj.move k nofun,h.runs.move k ⟨nofun,fun _=>⟨nofun,nofun,fun _=>⟨nofun,nofun⟩⟩⟩,h.wk.move k ⟨nofun,fun _=>nofun⟩⟩
theorem zeS.more {C:Nat} {c:bJ} (h:zeS w own C c n) (hn:n≤n'):zeS w own C c n':=by
 obtain ⟨hb,hm,v,ab,N,K,hP,ho,h1,h2,h3,h4,h5⟩:=h;exact ⟨hb,hm,v,ab,N,K,hP,ho,by omega,by omega,by omega,h4,by omega⟩
theorem PWq.more {Q:Nat} {l:List Slp} (h:PWq w own Q l n) (hn:n≤n'):PWq w own Q l n':=by
 obtain ⟨gl,mb,B,N,hP,ho,h2⟩:=h;exact ⟨gl,mb,B,N,hP,ho,by omega⟩
theorem zgd.more {T:Nat} {l:List Zt} (h:zgd w own T l n) (hn:n≤n'):zgd w own T l n':=by
 obtain ⟨gt,N,hP,ho,h2⟩:=h;exact ⟨gt,N,hP,ho,by omega⟩
theorem ze6.more {aA:Nat} {l:List Vd} (h:ze6 w own aA l n) (hn:n≤n'):ze6 w own aA l n':=by
 obtain ⟨gt,N,hP,ho,h2⟩:=h;exact ⟨gt,N,hP,ho,by omega⟩
theorem zi.more (h:zi F w own G M n) (hn:n≤n'):zi F w own G M n':=
 ⟨h.fok,⟨⟨h.num.entries.1,by have:=h.num.entries;omega⟩,⟨h.num.pos.1,by have:=h.num.pos;omega⟩,h.num.w,h.num.draw,h.num.wk,h.num.out⟩,h.k,h.fix,h.mem,h.alc,h.clk.more hn,h.ring,h.wq.more hn,h.tab.more hn,h.obj.more hn,h.runs.more hn,h.wk.more hn⟩
theorem zi.zt7 (h:zi F w own G M n) (k:Touch (· = .mem) w w' own own') {m:Mem} (hp:zaD w' own' G.X m):zi F w' own' G { M with mem:=m} n:=
 ⟨h.fok,⟨h.num.entries,h.num.pos,h.num.w,h.num.draw,h.num.wk,h.num.out⟩,⟨(h.k.move k nofun nofun).mine,by obtain ⟨C,ov,a,b,c⟩:=(h.k.move k nofun nofun).obj;exact ⟨C,ov,a,⟨b.size,b.lib,b.loop,b.calls,b.code,b.wide,b.narrow,b.rows,b.mem,b.alc,b.clk,b.ring,b.wq,b.tab,b.obj,b.th,b.wk,b.entries,b.pos,b.w,b.draw,b.out⟩,c⟩⟩,h.fix.move k nofun,hp,h.alc.move k nofun,h.clk.move k nofun,h.ring.move k nofun,h.wq.move k nofun,h.tab.move k nofun,h.obj.move k nofun,h.runs.move k ⟨nofun,fun _=>⟨nofun,nofun,fun _=>⟨nofun,nofun⟩⟩⟩,h.wk.move k ⟨nofun,fun _=>nofun⟩⟩
theorem zaw.same (h:zaw w own F G M) {M':zD} (e1:M'.entries=M.entries) (e2:M'.pos=M.pos) (e3:M'.w=M.w) (e4:M'.draw=M.draw) (e5:M'.out=M.out):zaw w own F G M':=by
 obtain ⟨C,ov,a,b,c⟩:=h.obj;refine ⟨h.mine,C,ov,a,⟨b.size,b.lib,b.loop,b.calls,b.code,b.wide,b.narrow,b.rows,b.mem,b.alc,b.clk,b.ring,b.wq,b.tab,b.obj,b.th,b.wk,?_,?_,?_,?_,b.out⟩,?_⟩
 ·rw[e1];exact b.entries
 ·rw[e2];exact b.pos
 ·rw[e3];exact b.w
 ·rw[e4];exact b.draw
 ·rw[e5];exact c
theorem zi.zu0 (h:zi F w own G M n) (k:Touch (· = .tab) w w' own own') {l:List Zt} (hn:n≤n') (hp:zgd w' own' G.T l n'):zi F w' own' G { M with tab:=l} n':=
 let h:=h.more hn
 ⟨h.fok,⟨h.num.entries,h.num.pos,h.num.w,h.num.draw,h.num.wk,h.num.out⟩,(h.k.move k nofun nofun).same rfl rfl rfl rfl rfl,h.fix.move k nofun,h.mem.move k nofun,h.alc.move k nofun,h.clk.move k nofun,h.ring.move k nofun,h.wq.move k nofun,hp,h.obj.move k nofun,h.runs.move k ⟨nofun,fun _=>⟨nofun,nofun,fun _=>⟨nofun,nofun⟩⟩⟩,h.wk.move k ⟨nofun,fun _=>nofun⟩⟩
theorem zi.zrQ (h:zi F w own G M n) (k:Touch (· = .ring) w w' own own') {l:List Int} (hp:zfv w' own' G.R l):zi F w' own' G { M with ring:=l} n:=
 ⟨h.fok,⟨h.num.entries,h.num.pos,h.num.w,h.num.draw,h.num.wk,h.num.out⟩,(h.k.move k nofun nofun).same rfl rfl rfl rfl rfl,h.fix.move k nofun,h.mem.move k nofun,h.alc.move k nofun,h.clk.move k nofun,hp,h.wq.move k nofun,h.tab.move k nofun,h.obj.move k nofun,h.runs.move k ⟨nofun,fun _=>⟨nofun,nofun,fun _=>⟨nofun,nofun⟩⟩⟩,h.wk.move k ⟨nofun,fun _=>nofun⟩⟩
theorem zi.zuS (h:zi F w own G M n) (k:Touch (· = .clk) w w' own own') {c:bJ} (hn:n≤n') (hp:zeS w' own' G.C c n'):zi F w' own' G { M with clk:=c} n':=
 let h:=h.more hn
 ⟨h.fok,⟨h.num.entries,h.num.pos,h.num.w,h.num.draw,h.num.wk,h.num.out⟩,(h.k.move k nofun nofun).same rfl rfl rfl rfl rfl,h.fix.move k nofun,h.mem.move k nofun,h.alc.move k nofun,hp,h.ring.move k nofun,h.wq.move k nofun,h.tab.move k nofun,h.obj.move k nofun,h.runs.move k ⟨nofun,fun _=>⟨nofun,nofun,fun _=>⟨nofun,nofun⟩⟩⟩,h.wk.move k ⟨nofun,fun _=>nofun⟩⟩
theorem zi.ztS (h:zi F w own G M n) (k:Touch (· = .obj) w w' own own') {l:List Vd} (hn:n≤n') (hp:ze6 w' own' G.aA l n'):zi F w' own' G { M with objs:=l} n':=
 let h:=h.more hn
 ⟨h.fok,⟨h.num.entries,h.num.pos,h.num.w,h.num.draw,h.num.wk,h.num.out⟩,(h.k.move k nofun nofun).same rfl rfl rfl rfl rfl,h.fix.move k nofun,h.mem.move k nofun,h.alc.move k nofun,h.clk.move k nofun,h.ring.move k nofun,h.wq.move k nofun,h.tab.move k nofun,hp,h.runs.move k ⟨nofun,fun _=>⟨nofun,nofun,fun _=>⟨nofun,nofun⟩⟩⟩,h.wk.move k ⟨nofun,fun _=>nofun⟩⟩
theorem zi.zvk (h:zi F w own G M n) (k:Touch (fun t=>t= .alc∨t= .mem) w w' own own') {a:Alc} {m:Mem} (hp:zpQ w' own' G.A G.X a) (hm:zaD w' own' G.X m):zi F w' own' G { M with alc:=a,mem:=m} n:=
 ⟨h.fok,⟨h.num.entries,h.num.pos,h.num.w,h.num.draw,h.num.wk,h.num.out⟩,(h.k.move k nofun nofun).same rfl rfl rfl rfl rfl,h.fix.move k nofun,hm,hp,h.clk.move k nofun,h.ring.move k nofun,h.wq.move k nofun,h.tab.move k nofun,h.obj.move k nofun,h.runs.move k ⟨nofun,fun _=>⟨nofun,nofun,fun _=>⟨nofun,nofun⟩⟩⟩,h.wk.move k ⟨nofun,fun _=>nofun⟩⟩
def JV (t:Tag):Prop:=match t with
 | .map| .thr _| .row _| .fr _ _| .back _ _=>True
 |_=>False
theorem zi.zeJ (h:zi F w own G M n) (k:Touch JV w w' own own') {l:List Run} {tb:Int→Nat} {fb:Int→Nat→Nat} (hn:n≤n') (hp:kG w' own' G.th tb fb l n'):zi F w' own' { G with tb:=tb,fb:=fb} { M with runs:=l} n':=
 let h:=h.more hn
 ⟨h.fok,⟨h.num.entries,h.num.pos,h.num.w,h.num.draw,h.num.wk,h.num.out⟩,⟨(h.k.move k id id).mine,by obtain ⟨C,ov,a,b,c⟩:=(h.k.move k id id).obj;exact ⟨C,ov,a,⟨b.size,b.lib,b.loop,b.calls,b.code,b.wide,b.narrow,b.rows,b.mem,b.alc,b.clk,b.ring,b.wq,b.tab,b.obj,b.th,b.wk,b.entries,b.pos,b.w,b.draw,b.out⟩,c⟩⟩,⟨(h.fix.move k id).lib,(h.fix.move k id).calls,(h.fix.move k id).code⟩,h.mem.move k id,h.alc.move k id,h.clk.move k id,h.ring.move k id,h.wq.move k id,h.tab.move k id,h.obj.move k id,hp,h.wk.move k ⟨id,fun _=>id⟩⟩
def zmP (t:Tag):Prop:=match t with
 | .wk| .wback _=>True
 |_=>False
theorem zi.zv7 (h:zi F w own G M n) (k:Touch zmP w w' own own') {l:List Wkr} (hn:n≤n') (hl:l.length=M.wkrs.length) (hp:PWk w' own' G.gW l n'):zi F w' own' G { M with wkrs:=l} n':=
 let h:=h.more hn
 ⟨h.fok,⟨h.num.entries,h.num.pos,h.num.w,h.num.draw,hl.trans h.num.wk,h.num.out⟩,(h.k.move k id id).same rfl rfl rfl rfl rfl,h.fix.move k id,h.mem.move k id,h.alc.move k id,h.clk.move k id,h.ring.move k id,h.wq.move k id,h.tab.move k id,h.obj.move k id,h.runs.move k ⟨id,fun _=>⟨id,id,fun _=>⟨id,id⟩⟩⟩,hp⟩
end
end Kn
namespace Kn
open Go.RowKit Asm
theorem KD {B:Nat} {a w:World} (h:Below B a w) (n:Nat):Below B a (w.drewN n):=⟨h.os,h.tape,h.output,h.size,h.block⟩
structure Lens (w:World) (b o:Nat) (t:TypeId) (P S:List Value) (f:Frame) (bv:Value):Prop where
 obj:w.heap[b]?=V (.cells (P++BU f bv++S).toArray t (0,0))
 off:o=P.length
theorem zep {f:Frame} {bv:Value} (h:f.r.length=32):(BU f bv).length=34:=by simp[BU,h]
theorem zuM (f:Frame) (bv:Value):(BU f bv)[0]?=V (E Z f.pc):=rfl
theorem zsm {f:Frame} {bv:Value} {k:Nat} (hk:k<f.r.length):(BU f bv)[1+k]?=V (E J (f.r.getD k 0)):=by
 unfold BU;rw[Nat.add_comm,List.cons_append,List.getElem?_cons_succ,List.getElem?_append_left Y49,List.getElem?_map,List.getD_eq_getElem?_getD,List.getElem?_eq_getElem hk];rfl
theorem zum {f:Frame} {bv:Value} (h:f.r.length=32):(BU f bv)[33]?=some bv:=by
 unfold BU;rw[show 33=32+1 from rfl,List.cons_append,List.getElem?_cons_succ,List.getElem?_append_right (by simp[h])];simp[h]
section
variable {w w':World} {b o:Nat} {t:TypeId} {P S:List Value} {f:Frame} {bv:Value}
theorem Lens.at (h:Lens w b o t P S f bv) {j:Nat} (hj:j<(BU f bv).length):w.cell? ⟨b,o+j,O⟩=(BU f bv)[j]?:=by
 rw[ze h.obj,h.off,List.getElem?_toArray,List.getElem?_append_left Y8,List.getElem?_append_right Y1,show P.length+j - P.length=j by omega]
theorem Lens.pc (h:Lens w b o t P S f bv):w.cell? ⟨b,o,O⟩=V (E Z f.pc):=(h.at (j:=0) (by simp[BU])).trans (zuM f bv)
theorem Lens.reg (h:Lens w b o t P S f bv) (hl:f.r.length=32) {k:Nat} (hk:k<32):w.cell? ⟨b,o+1+k,O⟩=V (E J (f.r.getD k 0)):=by
 rw[Nat.add_assoc];exact (h.at (j:=1+k) Y66).trans (zsm Y1)
theorem Lens.bk (h:Lens w b o t P S f bv) (hl:f.r.length=32):w.cell? ⟨b,o+33,O⟩=some bv:=(h.at (j:=33) Y66).trans (zum hl)
theorem Lens.frozen (h:Lens w b o t P S f bv) (j:Nat):w.frozen? ⟨b,j,O⟩=false:=zF h.obj j
theorem Lens.lt (h:Lens w b o t P S f bv):b<w.heap.size:=zo h.obj
theorem Lens.of_block (h:Lens w b o t P S f bv) (e:w'.heap[b]?=w.heap[b]?):Lens w' b o t P S f bv:=⟨e.trans h.obj,h.off⟩
theorem Lens.set (h:Lens w b o t P S f bv) {j:Nat} (hj:j<(BU f bv).length) (v:Value) {f':Frame} {aW:Value} (e:(BU f bv).set j v=BU f' aW):Lens (w.setCell ⟨b,o+j,O⟩ v) b o t P S f' aW:=by
 refine ⟨?_,h.off⟩;rw[zy h.obj];have:=set_mid P (BU f bv) S j hj v;rw[h.off,←e,List.setIfInBounds_toArray,this]
theorem Lens.zwo (h:Lens w b o t P S f bv) (p:Int):Lens (w.setCell ⟨b,o,O⟩ (E Z p)) b o t P S { f with pc:=p} bv:=h.set (j:=0) (by simp[BU]) _ rfl
theorem Lens.zvW (h:Lens w b o t P S f bv) (hl:f.r.length=32) (l:List Int) (v:Value):Lens (w.setCell ⟨b,o+33,O⟩ v) b o t P S { f with back:=l} v:=by
 refine h.set (j:=33) Y66 _ ?_;unfold BU;rw[List.set_append_right _ _ (by simp[hl])];simp[hl]
theorem Lens.zuo (h:Lens w b o t P S f bv) (hl:f.r.length=32) {k:Nat} (hk:k<32) (v:Int):Lens (w.setCell ⟨b,o+1+k,O⟩ (E J v)) b o t P S { f with r:=f.r.set k v} bv:=by
 rw[Nat.add_assoc];refine h.set (j:=1+k) Y66 _ ?_;unfold BU;rw[Nat.add_comm 1 k,List.cons_append,List.set_cons_succ,List.set_append_left _ _ (by simp[hl];omega),←List.map_set];rfl
end
theorem zi3 (n:Int) (w:World):Calls Tp 292 #[E Z n] w fun e w'=>e=Rt (.bool (decide (0≤n)&&decide (n<32)))∧w=w':=by
 by_cases h1:0≤n
 ·go_enter Tryz.func292,Tryz.ntmps292;go_wp2;go_ret;exact ⟨by simp[h1],rfl⟩
 ·have h2:n<0:=Y1;go_enter Tryz.func292,Tryz.ntmps292;go_wp2;go_ret;exact ⟨by simp;omega,rfl⟩
theorem zlZ (v:Bool) (w:World):Calls Tp 291 #[.bool v] w fun e w'=>e=Rt (E J (za3 v))∧w=w':=by
 cases v<;>
 ·go_enter Tryz.func291,Tryz.ntmps291;go_wp2;go_ret;exact ⟨rfl,rfl⟩
section
variable {w:World} {b o:Nat} {t:TypeId} {P S:List Value} {f:Frame} {bv:Value}
theorem JL (h:Lens w b o t P S f bv) (hl:f.r.length=32) (n:Int) (h0:0≤n) (h1:n<32):Calls Tp 238 #[Y (V ⟨b,o,O⟩),E Z n] w fun e w'=>e=Rt (E J (rg f n))∧w=w':=by
 obtain ⟨k,rfl⟩:=Int.eq_ofNat_of_zero_le h0;have hk:k<32:=Y1;have c0:=h.reg hl hk;have e0:rg f (k:Int)=f.r.getD k 0:=rfl;rw[e0];generalize f.r.getD k 0=x at*;have HT:=Y0 (zi3 k w);rw[show (decide ((0:Int)≤k)&&decide ((k:Int)<32))=true by simp;omega] at HT;clear h hl e0;go_enter Tryz.func238,Tryz.ntmps238;go_wp2_with fail;refine HT.out.mono ?_;exact J96
end
theorem ziK (a b:Int) (w:World) (ha:0≤a∧a<18446744073709551616) (hb:0≤b∧b<18446744073709551616):Calls Tp 290 #[E Z 64,E J a,E J b] w fun e w'=>e=Rt (E J (word (a - b)))∧w=w':=by
 have h1:=Y0 (fun W=>Gd 64 a W ha);have h2:=Y0 (fun W=>Gd 64 b W hb);have h3:=Y0 (fun x W hx=>Gd 64 x W hx);have e0: ∀x,KY 64 x=x:=fun x=>if_pos rfl;simp only[e0] at h1 h2 h3;unfold word;have hw:IntKind.u64.wrap (a - b)=(a - b)%18446744073709551616:=by rw[IntKind.wrap_u64]
 have hr:0≤(a - b)%18446744073709551616∧(a - b)%18446744073709551616<18446744073709551616:=Y1;generalize (a - b)%18446744073709551616=m at*;have HR:=Y0 hr;clear hr ha hb e0;go_enter Tryz.func290,Tryz.ntmps290;exact J92
def KW (e:Ev):Array Value:=#[E Z e.kind,E Z e.pos,E Z e.w,E J e.t,E Z e.num,E J e.a0,E J e.a1,E J e.a2,E J e.a3,E J e.v,E J e.code]
def KO (F:Fixed) (w:World) (own:Own) (G:KG) (M:zD) (n:Nat) (w':World):Prop:= ∃own',zi F w' own' G M n∧Touch (fun t=>t≠ .other) w w' own own'
theorem VX {a w:World} (h:Below a.heap.size a w) (o:Obj):Below a.heap.size a (w.alloc o):=h.alloc h.size o
theorem zq0 {W:World} {cs:List Value} {t:TypeId} {k:Nat} (h:W.heap[k]?=V (.cells cs.toArray t (0,0))): ∀j u,cs[j]?=some u→W.cell? ((⟨k,0,O⟩:Addr).add j)=some u:=by
 intro j u hu;rw[Addr.add_lit,Nat.zero_add,ze h,List.getElem?_toArray];exact hu
section
variable {F:Fixed} {w:World} {own:Own} {G:KG} {M:zD} {n:Nat}
theorem zi.klt (h:zi F w own G M n):G.K<w.heap.size:=by obtain ⟨C,ov,ho,_⟩:=h.k.obj;exact zo ho
theorem zi.zut {w':World} {own':Own} {n':Nat} (h:zi F w own G M n) (hn':n≤n') (k:Touch (fun t=>t= .mach∨t= .ev) w w' own own') {en ps wk dr:Int} {ot:List Ev} (hk:zaw w' own' F G { M with entries:=en,pos:=ps,w:=wk,draw:=dr,out:=ot}) (hn:znE { M with entries:=en,pos:=ps,w:=wk,draw:=dr,out:=ot} F n'):zi F w' own' G { M with entries:=en,pos:=ps,w:=wk,draw:=dr,out:=ot} n':=
 let h:=h.more hn'
 ⟨h.fok,hn,hk,h.fix.move k nofun,h.mem.move k nofun,h.alc.move k nofun,h.clk.move k nofun,h.ring.move k nofun,h.wq.move k nofun,h.tab.move k nofun,h.obj.move k nofun,h.runs.move k ⟨nofun,fun _=>⟨nofun,nofun,fun _=>⟨nofun,nofun⟩⟩⟩,h.wk.move k ⟨nofun,fun _=>nofun⟩⟩
theorem zq {C:Array Value} {i j:Nat} {v x:Value} (h:C[i]?=some x) (hne:j≠i):(C.setIfInBounds j v)[i]?=some x:=by
 rw[Array.getElem?_setIfInBounds,if_neg hne];exact h
theorem Gx {C:Array Value} {j:Nat} {v:Value} (h:j<C.size):(C.setIfInBounds j v)[j]?=some v:=by
 rw[Array.getElem?_setIfInBounds,if_pos rfl,if_pos h]
theorem zi.told {C:Array Value} {ov:Value} (h:zi F w own G M n) (ho:w.heap[G.K]?=V (.cells C 89 (0,0))) (hc:zcQ C F G M ov) (hr:Vv w own .ev 74 11 ov M.out.length (evC M.out)) (hl:M.out.length<1000000) (e:Ev) {e':Ev} (he:e'={ e with pos:=M.pos,w:=M.w}) {w4:World} {v:Value}
  (hk:Keeps (fun b=>ov.ownBlock=some b) w w4) (hr4:w4.ownsRow 0 74 11 v (M.out.length+1) (evC M.out++zh6 e')) (hn: ∀b,v.ownBlock=some b→ov.ownBlock=some b∨w.heap.size≤b):KO F w own G (tell M e) n (w4.setCell ⟨G.K,1020,O⟩ v):=by
 have hT:Touch (fun t=>t= .ev) w w4 own (ext own w.heap.size .ev):=touch_of hk fun b hb=>hr.2 b hb;have iq:=h.klt;have hKo:ext own w.heap.size .ev G.K= .mach:=(Bh iq).trans h.k.mine;have Lv:Touch (fun t=>t= .mach) w4 (w4.setCell ⟨G.K,1020,O⟩ v) (ext own w.heap.size .ev) (ext own w.heap.size .ev):=⟨(Keeps.refl _ _).setCell (p:=⟨G.K,1020,O⟩) hKo _,fun _ _=>rfl⟩;have xH:Touch (fun t=>t= .mach∨t= .ev) w (w4.setCell ⟨G.K,1020,O⟩ v) own (ext own w.heap.size .ev):=(hT.mono fun _ e=>Or.inr e).trans (Lv.mono fun _ e=>Or.inl e);have pY:w4.heap[G.K]?=V (.cells C 89 (0,0)):=(hT.at (t:= .mach) nofun h.k.mine iq).1.trans ho;have hlt:=hr4.lt;refine ⟨ext own w.heap.size .ev,?_,xH.mono fun t e=>by rcases e with rfl|rfl<;>nofun⟩
 refine h.zut (M:=M) (Nat.le_refl n) xH (en:=M.entries) (ps:=M.pos) (wk:=M.w) (dr:=M.draw) (ot:=M.out++ [{ e with pos:=M.pos,w:=M.w}]) ⟨hKo,C.setIfInBounds 1020 v,v,?_,?_,?_,?_⟩ ⟨h.num.entries,h.num.pos,h.num.w,h.num.draw,h.num.wk,by simp;omega⟩
 ·rw[zy pY]
 ·exact ⟨by simp[hc.size],zq hc.lib Y2,zq hc.loop Y2,zq hc.calls Y2,zq hc.code Y2,zq hc.wide Y2,zq hc.narrow Y2,fun i hi=>zq (hc.rows i hi) Y1,zq hc.mem Y2,zq hc.alc Y2,zq hc.clk Y2,zq hc.ring Y2,zq hc.wq Y2,zq hc.tab Y2,zq hc.obj Y2,zq hc.th Y2,zq hc.wk Y2,zq hc.entries Y2,zq hc.pos Y2,zq hc.w Y2,zq hc.draw Y2,Gx Y46⟩
 ·have e1:evC (M.out++ [{ e with pos:=M.pos,w:=M.w}])=evC M.out++zh6 e':=by rw[he];simp[evC]
  show World.ownsRow _ 0 _ 11 v (M.out++ [{ e with pos:=M.pos,w:=M.w}]).length (evC (M.out++ [{ e with pos:=M.pos,w:=M.w}]));rw[e1,List.length_append,List.length_singleton];refine Asm.za hr4 fun c hc'=>zm fun e2=>?_;rcases hn c hc' with h1|h1
  ·have:=hr.2 c h1;rw[e2,h.k.mine] at this;cases this
  ·have e3:c=G.K:=e2;omega
 ·intro c hc';rcases hn c hc' with h1|h1
  ·exact Zo (Or.inl (hr.2 c h1))
  ·exact Zo (Or.inr h1)
theorem znM:(Tryz.prog.info? 74).map (fun i=>(i.zero,i.size,i.bytes))=V (some (.agg #[E Z 0,E Z 0,E Z 0,E J 0,E Z 0,E J 0,E J 0,E J 0,E J 0,E J 0,E J 0]),11,88):=Y4
theorem KA (h:zi F w own G M n) (e:Ev) (hf:M.out.length<1000000):
  Calls Tp 111 #[Y (V ⟨G.K,0,O⟩), .agg (KW e)] w fun r w'=>r= .returned (.tuple #[])∧KO F w own G (tell M e) n w':=by
 obtain ⟨ek,ep,ew,et,en,a0,a1,a2,a3,ev,ec⟩:=e;unfold KW;obtain ⟨C,ov,ho,hc,hr⟩:=h.k.obj;have k17:w.cell? ⟨G.K,1017,O⟩=V (E Z M.pos):=(ze ho _).trans hc.pos;have k18:w.cell? ⟨G.K,1018,O⟩=V (E Z M.w):=(ze ho _).trans hc.w;have k20:w.cell? ⟨G.K,1020,O⟩=some ov:=(ze ho _).trans hc.out;have kf:w.frozen? ⟨G.K,1020,O⟩=false:=zF ho _;have hK:=zo ho;have H:=Y0 h;have HO:=Y0 ho;have HC:=Y0 hc;have HR:=Y0 hr;clear h ho hc hr;generalize OM:G.K=K at*;have Hf:=Y0 OM.symm;clear OM;go_enter Tryz.func111,Tryz.ntmps111;go_wp2_with fail;go_region_held3 (fun w'=>w'.cell? ⟨K,1017,O⟩=V (E Z M.pos)∧w'.cell? ⟨K,1018,O⟩=V (E Z M.w)) (go_keep) (fail);all_goals
  go_wp2_with fail
  obtain ⟨Av,cv,hov⟩:=Asm.zn HR.out.1
  subst hov
  generalize hL:M.out.length=L at*
  have oO:Hid (M.out.length=L):=Y0 hL
  have HB:Hid (∀W,Below w.heap.size w W→W.ownsRow 0 74 11 (.slice Av L cv) L (evC M.out)):=Y0 fun W hW=>Asm.za HR.out.1 fun c hc=>hW.block c (HR.out.lt hc)
  have HM:Hid (L+1≤maxLen∧(L+1)*88≤140737488355328):=Y0 ⟨by unfold maxLen;omega,by omega⟩
  obtain ⟨ii,hii,hzi,hsi,hbi⟩:=info_parts znM
  have hkne: ∀c,(Value.slice Av L cv).ownBlock=some c→c≠K:=fun c hc e=>by
   have h1:=HR.out.2 c hc
   rw[e,Hf.out,H.out.k.mine] at h1
   cases h1
  have Qi:Hid (∀W W2,Below w.heap.size w W→W.grownBy W2 (Value.slice Av L cv).ownBlock→W2.heap[K]?=w.heap[K]?):=Y0 fun W W2 hW hg=>(hg.block K (Nat.lt_of_lt_of_le hK hW.size) (fun e=>hkne K e.symm rfl)).trans (hW.block K hK)
  have aD:Hid (∀W v W2,Below w.heap.size w W→W2.ownsRow 0 74 11 v (L+1) (evC M.out++zh6 ⟨ek,M.pos,M.w,et,en,a0,a1,a2,a3,ev,ec⟩)→W.grownBy W2 (Value.slice Av L cv).ownBlock→(v.ownBlock=(Value.slice Av L cv).ownBlock∨v.ownBlock=some W.heap.size)→KO F w own G (tell M ⟨ek,ep,ew,et,en,a0,a1,a2,a3,ev,ec⟩) n (W2.setCell ⟨K,1020,O⟩ v)):=Y0 fun W v W2 hW hr hg hn=>by
   rw[Hf.out]
   refine H.out.told (Hf.out▸HO.out) HC.out (by rw[oO.out];exact HR.out) (by rw[oO.out];exact hf) _ rfl (Keeps.grown (Keeps.zO hW) hg fun k hk=>hk) (by rw[oO.out];exact hr) fun c hc=>?_
   rcases hn with hn|hn
   ·exact Or.inl (by rw[←hn];exact hc)
   ·rw[hn] at hc;injection hc with hc;exact Or.inr (by rw[←hc];exact hW.size)
  have hN:((w.alloc (.cells [Value.int Z ek,E Z M.pos,E Z M.w,E J et,E Z en,E J a0,E J a1,E J a2,E J a3,E J ev,E J ec].toArray 74)).alloc (.cells [Value.int Z ek,E Z M.pos,E Z M.w,E J et,E Z en,E J a0,E J a1,E J a2,E J a3,E J ev,E J ec].toArray 74)).heap[w.heap.size+1]?=V (.cells [Value.int Z ek,E Z M.pos,E Z M.w,E J et,E Z en,E J a0,E J a1,E J a2,E J a3,E J ev,E J ec].toArray 74 (0,0)):=by
   have:=heap_alloc_new (w.alloc (.cells [Value.int Z ek,E Z M.pos,E Z M.w,E J et,E Z en,E J a0,E J a1,E J a2,E J a3,E J ev,E J ec].toArray 74)) (.cells [Value.int Z ek,E Z M.pos,E Z M.w,E J et,E Z en,E J a0,E J a1,E J a2,E J a3,E J ev,E J ec].toArray 74)
   rwa[World.size_alloc] at this
  have HN:=Y0 hN
  clear hL hN
  go_region_law (first|(refine Zw _ rfl (.tmp 18) (.tmp 20) 40 rfl 0 74 ii _ 11 88 Tryz.underlying40 hii hzi hsi hbi rfl Y2 (.slice Av L cv) L (evC M.out) rfl (HB.out _ Y9) ⟨w.heap.size+1,0,O⟩ 1 1 [E Z ek,E Z M.pos,E Z M.w,E J et,E Z en,E J a0,E J a1,E J a2,E J a3,E J ev,E J ec] rfl rfl (zq0 HN.out) (by intro u hu;simp at hu;rcases hu with rfl|rfl|rfl|rfl|rfl|rfl|rfl|rfl|rfl|rfl|rfl<;>rfl) HM.out.1 HM.out.2 (Nat.zero_le _) ?_;intro v' w4 hown hgrow hnew;obtain ⟨A4,c4,rfl⟩:=Asm.zn hown;have LJ:=Qi.out _ _ Y9 hgrow;have t0:=(World.cell?_of_block (a:=⟨K,1020,O⟩) LJ).trans k20;have t1:=(World.frozen?_of_block (a:=⟨K,1020,O⟩) LJ).trans kf;have HF:=Y0 (aD.out _ _ _ Y9 hown hgrow hnew);clear hown hgrow hnew LJ))
  all_goals
   go_wp2_with fail
   go_end0
   exact ⟨rfl,HF.out⟩
end
open Go.RowKit Go.Maps Asm
section
variable {w W:World} {B:MB} {s:Nat} {t:Int}
theorem kM {w:World} {b:Nat} {e:Ev} (h:w.heap[b]?=V (.cells (KW e) 74 (0,0))):w.cell? ⟨b,0,O⟩=V (E Z e.kind)∧w.cell? ⟨b,1,O⟩=V (E Z e.pos)∧w.cell? ⟨b,2,O⟩=V (E Z e.w)∧w.cell? ⟨b,3,O⟩=V (E J e.t)∧
  w.cell? ⟨b,4,O⟩=V (E Z e.num)∧w.cell? ⟨b,5,O⟩=V (E J e.a0)∧w.cell? ⟨b,6,O⟩=V (E J e.a1)∧w.cell? ⟨b,7,O⟩=V (E J e.a2)∧w.cell? ⟨b,8,O⟩=V (E J e.a3)∧w.cell? ⟨b,9,O⟩=V (E J e.v)∧w.cell? ⟨b,10,O⟩=V (E J e.code):=
 ⟨ze h 0,ze h 1,ze h 2,ze h 3,ze h 4,ze h 5,ze h 6,ze h 7,ze h 8,ze h 9,ze h 10⟩
theorem ZG.tick (h:ZG w B s t) (ht:t+1<1000000):vg w B s (t+1) (w.setCell ⟨B.M,3,O⟩ (E J (t+1))):=by
 have o: ∀b,b≠B.M→(w.setCell ⟨B.M,3,O⟩ (E J (t+1))).heap[b]?=w.heap[b]?:=fun b hb=>zm hb;have z:(w.setCell ⟨B.M,3,O⟩ (E J (t+1))).heap.size=w.heap.size:=Y7;obtain ⟨a1,b1,q1⟩:=h.thr.isMap;obtain ⟨a2,b2,q2⟩:=h.objs.isMap;obtain ⟨a3,b3,q3⟩:=h.had.isMap;have n1:B.tm≠B.M:=fun e=>by have:=h.obj;rw[←e,q1] at this;cases this
 have n2:B.om≠B.M:=fun e=>by have:=h.obj;rw[←e,q2] at this;cases this
 have n3:B.hm≠B.M:=fun e=>by have:=h.obj;rw[←e,q3] at this;cases this
 have n4:B.T≠B.M:=Zp h.T h.obj Y2;refine ⟨B,⟨?_,h.thr.of_block (o _ n1),h.objs.of_block (o _ n2),h.had.of_block (o _ n3),(o _ n4).trans h.T,fun q=>?_,fun q=>(o _ (Zp (h.aA q) h.obj Y2)).trans (h.aA q),h.ne,fun b hb=>by rw[z];exact h.lt b hb,⟨by have:=h.time.1;omega,ht⟩,h.cap⟩,rfl,(Keeps.refl _ w).setCell (p:=⟨B.M,3,O⟩) Y13 _,fun b hb=>Or.inl hb⟩
 ·exact (zy h.obj _).trans rfl
 ·obtain ⟨l0,bg,hC⟩:=h.C q;have n5:B.L≠B.M:=fun e=>by have:=ze h.obj 0;rw[e,this] at l0;cases l0
  exact ⟨(World.cell?_of_block (a:=⟨B.L,0,O⟩) (o _ n5)).trans l0,bg,(o _ (Zp hC h.obj Y2)).trans hC⟩
theorem a37.zuT (h:zP:=by
 have hb:Below w.heap.size w (w.alloc (Ce (KW ⟨6,p,k,0,0,0,0,0,0,t+1,0⟩) 74)):=(Below.refl _ _).alloc (Nat.le_refl _) _;have hz:=heap_alloc_new w (.cells (KW ⟨6,p,k,0,0,0,0,0,0,t+1,0⟩) 74);unfold KW at hb hz;generalize w.alloc _=W at*;have h1:=h.below hb;obtain ⟨v0,v1,v2,v3,v4,v5,v6,v7,v8,v9,v10⟩:=kM (e:=⟨6,p,k,0,0,0,0,0,0,t+1,0⟩) hz;obtain ⟨m0,-,-,m3,m5,m6,m7,-,mf⟩:=h1.cells;have f3:=mf 3;have k0:=h1.zcr (k:=0) Y14 Y2;have qP:=(h1.heq (W:=W.drew) rfl).zcr (k:=0) Y14 Y2;have hw:IntKind.u64.wrap (t+1)=t+1:=by rw[IntKind.wrap_u64];have:=h.time;omega
 have hq:(t+1 !=t+1)=false:=Y7;have HT:=Y0 (fun W=>zrp W);have HZ:Hid (vg w B s (t+1) ((W.drew.drew).setCell ⟨B.M,3,O⟩ (E J (t+1)))):=Y0 (vg.below hb ((h1.heq (W:=W.drew.drew) rfl).tick ht|>.of (w:=W) rfl rfl rfl rfl));clear h h1 hb hz mf;generalize w.heap.size=eb at*;go_region;go_wp2_with fail;refine (HT.out W.drew).mono ?_;rintro e w1 ⟨rfl,hw1⟩;subst hw1;go_wp2_with fail;go_region;go_wp2_with fail;go_ret;exact ⟨rfl,HZ.out⟩):zP:=h
open a37 in
theorem zjx (h:ZG w B s t) (ht:t+1<1000000) (p k:Int):Calls Tp 62 #[Y (V ⟨B.M,0,O⟩), .agg (KW ⟨6,p,k,0,0,0,0,0,0,t+1,0⟩)] w fun e w'=>e=Rt (.bool true)∧vg w B s (t+1) w':=by
 exact zvp
end
section
variable {w W:World} {B:MB} {s:Nat} {t:Int}
theorem ZG.pops (h:ZG w B 2 t):vg w B 3 t (w.setCell ⟨B.T,7,O⟩ (Sl (V ⟨B.L,0,O⟩) 0 B.c)):=by
 have o: ∀b,b≠B.T→(w.setCell ⟨B.T,7,O⟩ (Sl (V ⟨B.L,0,O⟩) 0 B.c)).heap[b]?=w.heap[b]?:=fun b hb=>zm hb;have z:(w.setCell ⟨B.T,7,O⟩ (Sl (V ⟨B.L,0,O⟩) 0 B.c)).heap.size=w.heap.size:=Y7;obtain ⟨a1,b1,q1⟩:=h.thr.isMap;obtain ⟨a2,b2,q2⟩:=h.objs.isMap;obtain ⟨a3,b3,q3⟩:=h.had.isMap;have n1:B.tm≠B.T:=fun e=>by have:=h.T;rw[←e,q1] at this;cases this
 have n2:B.om≠B.T:=fun e=>by have:=h.T;rw[←e,q2] at this;cases this
 have n3:B.hm≠B.T:=fun e=>by have:=h.T;rw[←e,q3] at this;cases this
 have hO:=h.aA Y2;refine ⟨B,⟨(o _ (Zp h.obj h.T Y2)).trans h.obj,h.thr.of_block (o _ n1),(h.objs.of_block (o _ n2)).mono Y2,(h.had.of_block (o _ n3)).mono Y2,?_,fun q=>absurd q Y2,fun _=>(o _ (Zp hO h.T Y2)).trans hO,h.ne,fun b hb=>by rw[z];exact h.lt b hb,h.time,fun q=>absurd q Y2⟩,rfl,(Keeps.refl _ w).setCell (p:=⟨B.T,7,O⟩) Y13 _,fun b hb=>Or.inl hb⟩;exact (zy h.T _).trans rfl
theorem a38.zuT (h:zP:=by
 have hb:Below w.heap.size w (w.alloc (Ce (KW ⟨2,p,k,64,10,0,0,0,0,1,0⟩) 74)):=(Below.refl _ _).alloc (Nat.le_refl _) _;have hz:=heap_alloc_new w (.cells (KW ⟨2,p,k,64,10,0,0,0,0,1,0⟩) 74);unfold KW at hb hz;generalize w.alloc _=W at*;have h1:=h.below hb;obtain ⟨v0,v1,v2,v3,v4,v5,v6,v7,v8,v9,v10⟩:=kM (e:=⟨2,p,k,64,10,0,0,0,0,1,0⟩) hz;obtain ⟨m0,-,-,m3,m5,m6,m7,-,mf⟩:=h1.cells;obtain ⟨t0,t1,t2,t7,tf⟩:=h1.ZR;have f7:=tf 7;rw[ziG B (Or.inr rfl)] at t7;have hc:=h1.cap (Or.inr rfl);obtain ⟨l0,bg,hC⟩:=h1.C (Or.inr rfl);rw[if_neg Y2,if_neg Y2] at hC;obtain ⟨c0,c1,-,-,-,-,-,-,-,-,c10,-,-,c13,c14,-,cf⟩:=ZI hC;have k0:=h1.KF;have qP:=(h1.heq (W:=W.drew) rfl).KF;have HT:=Y0 (zbC (w:=W.drew) t7 l0);have HA:=Y0 (fun n=>ziw (w:=W.drewN n) (M:=B.M) (T:=B.T) c0 c10 c13 c14)
 have HZ:Hid (∀aB:World,aB.heap=W.heap→aB.os=W.os→aB.tape=W.tape→aB.output=W.output→vg w B 3 t (aB.setCell ⟨B.T,7,O⟩ (Sl (V ⟨B.L,0,O⟩) 0 B.c))):=Y0 fun aB e e1 e2 e3=>vg.below hb ((h1.heq e).pops.of e e1 e2 e3);clear h h1 hb hz mf tf hC;generalize w.heap.size=eb at*;go_region;go_wp2_with fail;refine HT.out.mono ?_;rintro e w1 ⟨rfl,m1,rfl⟩;clear HT;go_wp2_with fail;go_quiet ((go_at_call 124;exact (HA.out _).mono fun _ _ q=>⟨q.1,_,q.2⟩));go_wp2_with fail;go_region;go_wp2_with fail;go_ret;exact ⟨rfl,HZ.out _ rfl rfl rfl rfl⟩):zP:=h
open a38 in
theorem zlC (h:ZG w B 2 t) (p k:Int):Calls Tp 62 #[Y (V ⟨B.M,0,O⟩), .agg (KW ⟨2,p,k,64,10,0,0,0,0,1,0⟩)] w fun e w'=>e=Rt (.bool true)∧vg w B 3 t w':=by
 exact zvp
end
section
variable {w W:World} {B:MB} {s:Nat} {t:Int}
theorem a39.zuT (h:zP:=by
 have hb:Below w.heap.size w (w.alloc (Ce (KW ⟨5,p,k,64,5,0,0,0,0,v,1⟩) 74)):=(Below.refl _ _).alloc (Nat.le_refl _) _;have hz:=heap_alloc_new w (.cells (KW ⟨5,p,k,64,5,0,0,0,0,v,1⟩) 74);unfold KW at hb hz;generalize w.alloc _=W at*;have h1:=h.below hb;obtain ⟨v0,v1,v2,v3,v4,v5,v6,v7,v8,v9,v10⟩:=kM (e:=⟨5,p,k,64,5,0,0,0,0,v,1⟩) hz;obtain ⟨m0,-,-,m3,m5,m6,m7,-,mf⟩:=h1.cells;obtain ⟨t0,t1,t2,t7,tf⟩:=h1.ZR;rw[ziG B (Or.inl rfl)] at t7;obtain ⟨l0,bg,hC⟩:=h1.C (Or.inl rfl);have k0:=h1.KF;have qP:=(h1.heq (W:=W.drew) rfl).KF;have HT:=Y0 (zbC (w:=W.drew) t7 l0);have HA:=Y0 (fun n=>ziL (h1.heq (W:=W.drewN n) rfl));have HZ:Hid (∀n w',vg (W.drewN n) B 2 t w'→vg w B 2 t w'):=Y0 fun n w' q=>vg.below hb (q.of rfl rfl rfl rfl);clear h h1 hb hz mf tf hC;generalize w.heap.size=eb at*;go_region;go_wp2_with fail;refine HT.out.mono ?_
 rintro e w1 ⟨rfl,m1,rfl⟩;clear HT;go_wp2_with fail;refine (HA.out (1+m1)).mono ?_;rintro e w2 ⟨rfl,h2⟩;have H2:=Y0 (HZ.out _ _ h2);clear h2 HZ HA;go_wp2_with fail;go_ret;exact ⟨rfl,H2.out⟩):zP:=h
open a39 in
theorem ziP (h:ZG w B 1 t) (p k v:Int):Calls Tp 62 #[Y (V ⟨B.M,0,O⟩), .agg (KW ⟨5,p,k,64,5,0,0,0,0,v,1⟩)] w fun e w'=>e=Rt (.bool true)∧vg w B 2 t w':=by
 exact zvp
theorem zle {w:World} {C:Nat} {num a0 a1 bg k0 ph v:Int} {lost:Bool} (h:w.heap[C]?=V (.cells (vX num a0 a1 bg k0 ph v lost) 159 (0,0))) (k:Int):
  ((((w.setCell ⟨C,6,O⟩ (E Z k)).setCell ⟨C,7,O⟩ (E Z 0)).setCell ⟨C,8,O⟩ (E Z 0)).setCell ⟨C,9,O⟩ (E Z 0)).heap[C]?=V (.cells (vX num a0 a1 bg k ph v lost) 159 (0,0)):=
 (zy (zy (zy (zy h _) _) _) _).trans rfl
end
end Kn
namespace Errs
open Go.RowKit Go.Extern.Stop Go.Stop Go.Extern
def zvj (w:World) (r:List (ByteArray×Int)) (k:Int) (e:Ending) (w':World):Prop:= ∃v,e= .returned v∧vN w' r k v∧Below w.heap.size w w'
def zjZ (w:World) (r:List (ByteArray×Int)) (k:Int) (e:Ending) (w':World):Prop:= ∃v,e= .returned v∧Bp w' r k v∧Below w.heap.size w w'
theorem zt3 (s:ByteArray) (n k:Int) (w:World):Calls Tp 13 #[.string s,E Z n,E Z k] w (zjZ w [(s,n)] k):=by
 go_enter Tryz.func13,Tryz.ntmps13;go_wp2;go_ret;refine ⟨_,rfl,⟨w.heap.size+1+1,some ⟨w.heap.size,0,O⟩,some ⟨w.heap.size+1,0,O⟩,1,1,rfl,by simp,?_,?_,?_,?_⟩,?_⟩
 ·exact World.cell?_alloc_at _ _ _ _ Y7
 ·exact World.cell?_alloc_at _ _ _ _ Y7
 ·exact World.cell?_alloc_at _ _ _ _ Y7
 ·intro i s' n' hi
  match i,hi with
  |0,hi=>
   simp at hi;obtain ⟨rfl,rfl⟩:=hi;exact ⟨w.heap.size,0,w.heap.size+1,0,rfl,rfl,Y51,Y51,by rw[World.cell?_alloc_lt _ _ _ Y51,World.cell?_alloc_lt _ _ _ Y7];exact World.cell?_alloc_at _ _ _ _ rfl,by rw[World.cell?_alloc_lt _ _ _ Y7];exact World.cell?_alloc_at _ _ _ _ Y7⟩
  |i+1,hi=>simp at hi
 ·repeat (first|exact Below.refl _ _|refine Below.alloc ?_ Y51 _)
end Errs
namespace PosTab
open Go.RowKit
theorem gZ.cell {w:World} {b:Nat} (h:gZ w b) {k:Nat} {r:Gn} (hr:tab[k]?=some r) {j:Nat} {v:Value} (hj:r.prog[j]?=some v):w.cell? ⟨b,k*7+j,O⟩=some v:=by
 obtain ⟨fr,h⟩:=h;have SH:j<7:=by have:=(List.getElem?_eq_some_iff.1 hj).1;simpa[Gn.prog] using this
 have e:=VO Gn.prog 7 (fun _=>rfl) tab k j r hr SH;simp only[World.cell?,h];simpa[e] using hj
theorem gZ.below {w w':World} {b B:Nat} (h:gZ w b) (hb:Below B w w') (hB:b<B):gZ w' b:=by
 obtain ⟨fr,h⟩:=h;exact ⟨fr,(hb.block b hB).trans h⟩
def ztD:Option Gn→Value
 |some r=> .agg #[E Z r.num, .string r.name, .string r.routine,E Z r.k0,E Z r.k1,E Z r.k2,E Z r.k3]
 |none=> .agg #[E Z 0, .string ⟨#[]⟩, .string ⟨#[]⟩,E Z 0,E Z 0,E Z 0,E Z 0]
theorem gG {k:Nat} (h:k<45): ∃r,tab[k]?=some r:=⟨_,List.getElem?_eq_getElem (by rw[jQ];exact h)⟩
def JN (w:World) (b:Nat) (v0 v1 v2 v3 v4 v5 v6:Value):Prop:=w.cell? ⟨b,0,O⟩=some v0∧w.cell? ⟨b,1,O⟩=some v1∧w.cell? ⟨b,2,O⟩=some v2∧w.cell? ⟨b,3,O⟩=some v3∧w.cell? ⟨b,4,O⟩=some v4∧w.cell? ⟨b,5,O⟩=some v5∧w.cell? ⟨b,6,O⟩=some v6∧ ∀o,w.frozen? ⟨b,o,O⟩=false
theorem JN.new (w:World) (n:Nat) (h:n=w.heap.size) (t:TypeId) (v0 v1 v2 v3 v4 v5 v6:Value):JN (w.alloc (Ce #[v0,v1,v2,v3,v4,v5,v6] t)) n v0 v1 v2 v3 v4 v5 v6:=
 ⟨World.cell?_alloc_at _ _ _ _ h,World.cell?_alloc_at _ _ _ _ h,World.cell?_alloc_at _ _ _ _ h,World.cell?_alloc_at _ _ _ _ h,World.cell?_alloc_at _ _ _ _ h,World.cell?_alloc_at _ _ _ _ h,World.cell?_alloc_at _ _ _ _ h,fun _=>World.frozen?_alloc_at _ _ _ _ h⟩
theorem JN.below {w w':World} {b B:Nat} {v0 v1 v2 v3 v4 v5 v6:Value} (h:JN w b v0 v1 v2 v3 v4 v5 v6) (hb:Below B w w') (hB:b<B):JN w' b v0 v1 v2 v3 v4 v5 v6:=by
 obtain ⟨h0,h1,h2,h3,h4,h5,h6,h7⟩:=h;exact ⟨(hb.cell (p:=⟨b,0,O⟩) hB).trans h0,(hb.cell (p:=⟨b,1,O⟩) hB).trans h1,(hb.cell (p:=⟨b,2,O⟩) hB).trans h2,(hb.cell (p:=⟨b,3,O⟩) hB).trans h3,(hb.cell (p:=⟨b,4,O⟩) hB).trans h4,(hb.cell (p:=⟨b,5,O⟩) hB).trans h5,(hb.cell (p:=⟨b,6,O⟩) hB).trans h6,fun o=>(hb.frozen (p:=⟨b,o,O⟩) hB).trans (h7 o)⟩
open Go.RowKit Errs
end PosTab
namespace PosTab
open Go.RowKit
theorem zuG (n:Int) (w:World):Calls Tp 244 #[E Z n] w fun e w'=>e=Rt (.tuple #[ztD (Kl n tab), .bool (Kl n tab).isSome])∧Below w.heap.size w w':=by
 obtain ⟨o,ho⟩: ∃o,o=Kl n tab:=⟨_,rfl⟩;rw[←ho];have HO:=Y0 ho;clear ho;go_enter Tryz.func244,Tryz.ntmps244;go_wp2_with fail;refine (zdv _).mono ?_;rintro e w2 ⟨b,rfl,hb1,hb2,hT,hbl⟩;have HT:=Y0 hT;have HR:=Y0 (JN.below (JN.new w _ rfl 123 (E Z 0) (.string ⟨#[]⟩) (.string ⟨#[]⟩) (E Z 0) (E Z 0) (E Z 0) (E Z 0)) hbl Y7);have hbw:Below w.heap.size w w2:=((Below.refl w.heap.size w).alloc (Nat.le_refl _) _).trans (hbl.mono Y7);simp at hb1;clear hT hbl;go_wp2;go_loopw [8] (fun i wr=> ∃k:Nat,k≤45∧i=E Z k∧Below w2.heap.size w2 wr∧Hid (∀j x,j<k→tab[j]?=some x→x.num≠n)) (fun i _=>45 - (intOf i).toNat);case atStart=>exact ⟨0,by omega,rfl,Below.refl _ _,Y0 (fun j x hj=>by omega)⟩
 case round=>
  obtain ⟨k,hk,rfl,hb,HN⟩:=hrel;have hsz:=hb.size;have Md:w.heap.size<wr.heap.size:=Y1;have hlb:b<wr.heap.size:=Y1;by_cases hlt:k<45
  ·obtain ⟨r,hr⟩:=gG hlt;have hP:=HT.out.below hb hb2;have c0:wr.cell? ⟨b,k*7,O⟩=V (E Z r.num):=hP.cell hr (j:=0) rfl;have c1:wr.cell? ⟨b,k*7+1,O⟩=V (.string r.name):=hP.cell hr (j:=1) rfl;have c2:wr.cell? ⟨b,k*7+2,O⟩=V (.string r.routine):=hP.cell hr (j:=2) rfl;have c3:wr.cell? ⟨b,k*7+3,O⟩=V (E Z r.k0):=hP.cell hr (j:=3) rfl;have c4:wr.cell? ⟨b,k*7+4,O⟩=V (E Z r.k1):=hP.cell hr (j:=4) rfl;have c5:wr.cell? ⟨b,k*7+5,O⟩=V (E Z r.k2):=hP.cell hr (j:=5) rfl;have c6:wr.cell? ⟨b,k*7+6,O⟩=V (E Z r.k3):=hP.cell hr (j:=6) rfl;have rA:=Y0 hr;clear hP hr;by_cases he:(r.num==n)=true
   ·have hn:r.num=n:=by simpa using he
    have hof:=ziF HN.out rA.out hn;rw[←HO.out] at hof;obtain ⟨g0,g1,g2,g3,g4,g5,g6,g7⟩:=HR.out.below hb Y1;have HF:=Y0 hof;clear hof hn;go_wp2;refine bodyPost_ret (v:= .tuple #[.agg #[E Z r.num, .string r.name, .string r.routine,E Z r.k0,E Z r.k1,E Z r.k2,E Z r.k3], .bool true]) (by simp[results,Tryz.results244,go_sem,g0,g1,g2,g3,g4,g5,g6,Md]) rfl ?_;rw[HF.out];refine ⟨rfl,?_⟩;have hB0:=hbw.trans (hb.mono Y1);refine Below.alloc ?_ Y8 _;iterate 7 (refine Below.setCell ?_ (by exact Nat.le_refl _) _)
    exact hB0
   ·have he':(r.num==n)=false:=by simpa using he
    have hn:r.num≠n:=by simpa using he'
    clear he;go_wp2;go_roundw;case rel=>
     refine ⟨k+1,by omega,by go_num,hb.alloc Y1 _,Y0 fun j x hj hx=>?_⟩;by_cases e:j=k
     ·subst e;rw[rA.out] at hx;cases hx;exact hn
     ·exact HN.out j x Y1 hx
    case measure=>simp[intOf];omega
  ·obtain rfl:k=45:=Y1;have hof:o=none:=by rw[HO.out];exact zin (by rw[jQ];exact HN.out)
   subst hof;obtain ⟨g0,g1,g2,g3,g4,g5,g6,g7⟩:=HR.out.below hb Y1;go_wp2;refine bodyPost_ret (v:= .tuple #[.agg #[E Z 0, .string ⟨#[]⟩, .string ⟨#[]⟩,E Z 0,E Z 0,E Z 0,E Z 0], .bool false]) (by simp[results,Tryz.results244,go_sem,g0,g1,g2,g3,g4,g5,g6]) rfl ?_;refine ⟨rfl,?_⟩;have hB0:=hbw.trans (hb.mono Y1);iterate 7 (refine Below.setCell ?_ (by exact Nat.le_refl _) _)
   exact hB0
theorem zi7 (o:Option Gn): ∃c0 c1 c2 k0 k1 k2 k3,ztD o= .agg #[E Z c0, .string c1, .string c2,E Z k0,E Z k1,E Z k2,E Z k3]:=by
 cases o with
 |none=>exact ⟨_,_,_,_,_,_,_,rfl⟩
 |some r=>exact ⟨_,_,_,_,_,_,_,rfl⟩
def Bz:Option Gn→Value
 |some r=> .agg #[E Z r.k0,E Z r.k1,E Z r.k2,E Z r.k3]
 |none=> .agg #[E Z 0,E Z 0,E Z 0,E Z 0]
theorem zm0 (n:Int) (w:World):Calls Tp 184 #[E Z n] w fun e w'=>e=Rt (.tuple #[Bz (Kl n tab), .bool (Kl n tab).isSome])∧Below w.heap.size w w':=by
 have H:=Y0 (fun W=>zuG n W);generalize Kl n tab=o at H;obtain ⟨kv,hkv⟩: ∃kv,kv=Bz o:=⟨_,rfl⟩;obtain ⟨is,his⟩: ∃is,is=o.isSome:=⟨_,rfl⟩;obtain ⟨c0,c1,c2,k0,k1,k2,k3,hp⟩:=zi7 o;have hk:Bz o= .agg #[E Z k0,E Z k1,E Z k2,E Z k3]:=by
  cases o<;>cases hp<;>rfl
 rw[hk,←his];rw[hp,←his] at H;clear hkv kv hp hk his;go_enter Tryz.func184,Tryz.ntmps184;go_wp2_with fail;refine (H.out _).mono ?_;rintro e w2 ⟨rfl,hb⟩;have hb0:Below w.heap.size w w2:=((Below.refl w.heap.size w).alloc (Nat.le_refl _) _).trans (hb.mono Y7);have Md:w.heap.size<w2.heap.size:=by have:=hb.size;simp at this;omega
 have g0:w2.cell? ⟨w.heap.size,0,O⟩=V (E Z 0):=(hb.cell (p:=⟨w.heap.size,0,O⟩) Y7).trans (World.cell?_alloc_at _ _ _ _ rfl);have g1:w2.cell? ⟨w.heap.size,1,O⟩=V (E Z 0):=(hb.cell (p:=⟨w.heap.size,1,O⟩) Y7).trans (World.cell?_alloc_at _ _ _ _ rfl);have g2:w2.cell? ⟨w.heap.size,2,O⟩=V (E Z 0):=(hb.cell (p:=⟨w.heap.size,2,O⟩) Y7).trans (World.cell?_alloc_at _ _ _ _ rfl);have g3:w2.cell? ⟨w.heap.size,3,O⟩=V (E Z 0):=(hb.cell (p:=⟨w.heap.size,3,O⟩) Y7).trans (World.cell?_alloc_at _ _ _ _ rfl);have g4: ∀o,w2.frozen? ⟨w.heap.size,o,O⟩=false:=fun o=>(hb.frozen (p:=⟨w.heap.size,o,O⟩) Y7).trans (World.frozen?_alloc_at _ _ _ _ rfl);clear hb;go_wp2
 refine bodyPost_ret (v:= .tuple #[.agg #[E Z k0,E Z k1,E Z k2,E Z k3], .bool is]) (by simp[results,Tryz.results184,go_sem,g0,g1,g2,g3,Md]) rfl ?_;refine ⟨rfl,?_⟩;refine Below.alloc ?_ Y8 _;iterate 4 (refine Below.setCell ?_ (by exact Nat.le_refl _) _)
 exact hb0
end PosTab
namespace Kn
open Go.RowKit Go.Maps Asm PosTab
section
variable {w W:World} {B:MB} {s:Nat} {t:Int}
theorem zdi {M T C c:Nat} {A:Option Addr} {num a0 a1 bg k0:Int} (hC:w.heap[C]?=V (.cells (vX num a0 a1 bg 0 0 0 false) 159 (0,0))) (hT:w.cell? ⟨T,7,O⟩=V (.slice A 0 c)) (hTC:T≠C)
  (hk:Bz (Kl num tab)= .agg #[E Z k0,E Z 0,E Z 0,E Z 0]) (hs:(Kl num tab).isSome=true)
  (iY: ∀W,W.heap[C]?=V (.cells (vX num a0 a1 bg k0 0 0 false) 159 (0,0))→Keeps (fun b=>b=C) w W→Calls Tp 185 #[Y (V ⟨M,0,O⟩),Y (V ⟨C,0,O⟩)] W fun e w'=>e=Rt (.bool false)∧ ∃m,w'=W.drewN m):
  Calls Tp 121 #[Y (V ⟨M,0,O⟩),Y (V ⟨T,0,O⟩),Y (V ⟨C,0,O⟩)] w fun e w'=>e=Rt (E J 0)∧w'.heap[C]?=V (.cells (vX num a0 a1 bg k0 0 0 false) 159 (0,0))∧Keeps (fun b=>b=C) w w':=by
 have HK:=zm0 num w;rw[hk,hs] at HK;have HK:=Y0 HK;have HB:=Y0 iY;obtain ⟨c0,-⟩:=ZI hC;have fA:T<w.heap.size:=by
  rcases Nat.lt_or_ge T w.heap.size with h|h
  ·exact h
  ·simp[World.cell?,Array.getElem?_eq_none h] at hT
 have HT:=Y0 hT;have HC:=Y0 hC;clear hk hs iY hT hC;go_enter Tryz.func121,Tryz.ntmps121;go_wp2_with fail;refine HK.out.mono ?_;rintro e w1 ⟨rfl,hb1⟩;have pE:=(hb1.block _ (zo HC.out)).trans HC.out;obtain ⟨d0,-,-,-,-,-,d6,d7,d8,d9,-,-,-,-,-,-,df⟩:=ZI pE;have f6:=df 6;have f7:=df 7;have f8:=df 8;have f9:=df 9;have hC2:=zle pE k0;have hK2:Keeps (fun b=>b=C) w ((((w1.setCell ⟨C,6,O⟩ (E Z k0)).setCell ⟨C,7,O⟩ (E Z 0)).setCell ⟨C,8,O⟩ (E Z 0)).setCell ⟨C,9,O⟩ (E Z 0)):=((((Keeps.zO (X:=fun b=>b=C) hb1).setCell (p:=⟨C,6,O⟩) rfl _).setCell (p:=⟨C,7,O⟩) rfl _).setCell (p:=⟨C,8,O⟩) rfl _).setCell (p:=⟨C,9,O⟩) rfl _;have dD:=Y0 hC2;have dP:=Y0 hK2;clear pE hb1 HK hC2 hK2 df c0;go_upto_region 3 with fail
 generalize (World.setCell (World.setCell (World.setCell (World.setCell w1 _ _) _ _) _ _) _ _)=W2 at*;clear d0 d6 d7 d8 d9 f6 f7 f8 f9;have t7:=(dP.out.cell (p:=⟨T,7,O⟩) fA hTC).trans HT.out;have fT:=Y0 (HB.out W2 dD.out dP.out);clear HB HT HC;go_wp2_with fail;refine wp_loop_rounds 1 ?_;rw[rounds_succ];go_wp2_with fail;refine fT.out.mono ?_;rintro e w3 ⟨rfl,m3,rfl⟩;go_wp2_with fail;go_ret;exact ⟨rfl,dD.out,dP.out.drewN m3⟩
end
end Kn
namespace Kn
open Go.RowKit Go.Maps Asm
theorem Ki {B:Nat} {a w:World} (h:Below B a w) (n:Nat):Below B a (w.drewN n):=⟨h.os,h.tape,h.output,h.size,h.block⟩
section
variable {w w':World} {X gw gh:Nat} {m:Mem}
end
theorem zvy {w:World} (base:Nat) (t ty e:TypeId) (size bytes:Nat) (ht:Tryz.prog.underlying t=V (.slice e)) (hi:(Tryz.prog.info? e).map (fun i=>(i.zero.map (·.cells.size),i.size,i.bytes))=V (some size,size,bytes)) (hsz:0<size) (hby:bytes≤1000)
  {v:Value} {n:Nat} {xs:List Value} (hown:w.ownsRow base e size v n xs) {b2:Nat} {v2:Value} {m:Nat} {ys:List Value} (h2:w.ownsRow b2 e size v2 m ys) (h1: ∀u∈ys,u.oneCell'=true) (hn:n+m≤1000000) (hbase:base≤w.heap.size):
  ∃v' w',(Builtin.append_ #[t,t] ty #[v,v2]).run Tp w= .ok v' w'∧w'.ownsRow base e size v' (n+m) (xs++ys)∧w.grownBy w' v.ownBlock∧(v'.ownBlock=v.ownBlock∨v'.ownBlock=some w.heap.size):=by
 obtain ⟨i,h3,h4⟩: ∃i,Tryz.prog.info? e=some i∧(i.zero.map (·.cells.size),i.size,i.bytes)=(some size,size,bytes):=by
  cases hh:Tryz.prog.info? e with
  |none=>rw[hh] at hi;cases hi
  |some i=>rw[hh] at hi;injection hi with hi;exact ⟨i,rfl,hi⟩
 have k2:i.size=size:=congrArg (fun q=>q.2.1) h4;have k3:i.bytes=bytes:=congrArg (fun q=>q.2.2) h4;have k1:i.zero.map (·.cells.size)=some size:=congrArg (fun q=>q.1) h4;obtain ⟨z,hz,hzz⟩:=Option.map_eq_some_iff.1 k1;have hb:(n+m)*bytes≤1000000*1000:=Nat.mul_le_mul hn hby;exact zjI (P:=Tp) base t ty e i z size bytes ht h3 hz k2 k3 hzz hsz hown h2 h1 (by simp[maxLen];omega) Y1 hbase
theorem zzX {w:World} (base:Nat) (t ty e:TypeId) (size:Nat) (ht:Tryz.prog.underlying t=V (.slice e)) (hi:(Tryz.prog.info? e).isSome=true) {v:Value} {n:Nat} {xs:List Value} (hown:w.ownsRow base e size v n xs):
  (Builtin.append_ #[t,t] ty #[v,Sl none 0 0]).run Tp w= .ok v w:=by
 obtain ⟨i,h⟩:=Option.isSome_iff_exists.1 hi;exact run_append_owned_none (P:=Tp) (w:=w) base t ty e i size ht h v n xs hown
theorem zjG (w:World) (base:Nat) (e:TypeId) (size:Nat):w.ownsRow base e size (Sl none 0 0) 0 []:=World.ownsRow_nil _ _ _ _
theorem zbw {X:World} {k base:Nat} {e:TypeId} {u:Value} (h:X.heap[k]?=V (.cells #[u] e (0,0))) (hb:base≤k):X.ownsRow base e 1 (Sl (V ⟨k,0,O⟩) 1 1) 1 [u]:=
 ⟨by simp, .inr ⟨_,1,#[u],rfl,hb,h,Nat.le_refl _,by simp[maxLen],by simp,by simp⟩⟩
def zuR (home:Int):List Zt:=(List.replicate 64 {}).set 0 ⟨1,false,{ id:=64,state:=1,home:=home}⟩
open Go.RowKit Go.Maps Asm PosTab
section
variable {w W:World} {B:MB} {s:Nat} {t:Int}
theorem zjV:Bz (Kl 10 tab)= .agg #[E Z 0,E Z 0,E Z 0,E Z 0]∧(Kl 10 tab).isSome=true:=⟨by kernel_rfl,by kernel_rfl⟩
theorem zkr:Bz (Kl 15 tab)= .agg #[E Z 1,E Z 0,E Z 0,E Z 0]∧(Kl 15 tab).isSome=true:=⟨by kernel_rfl,by kernel_rfl⟩
theorem zox {w:World} {C:Nat} {num a0 a1 bg k0:Int} (h:w.heap[C]?=V (.cells (vX num a0 a1 bg k0 0 0 false) 159 (0,0))):(w.setCell ⟨C,14,O⟩ (E J 0)).heap[C]?=V (.cells (vX num a0 a1 bg k0 0 0 false) 159 (0,0)):=(zy h _).trans rfl
theorem zov {w:World} {C:Nat} {num a0 a1 bg k0:Int} (h:w.heap[C]?=V (.cells (vX num a0 a1 bg k0 0 0 false) 159 (0,0))):(w.setCell ⟨C,15,O⟩ (.bool true)).heap[C]?=V (.cells (vX num a0 a1 bg k0 0 0 true) 159 (0,0)):=(zy h _).trans rfl
theorem a40.Q42 (h:zP:=by
 have HS:=Y0 (zcn (w:=w4) (M:=B.M) (id:=0) H4.out.cells.2.2.2.2.1 (H4.out.zcr Y14 Y2));exact J60):zP:=h
theorem a40.Q60 (h:zP:=by
 obtain ⟨c0,-,-,-,-,-,c6,-,-,-,-,-,-,-,c14,-,-⟩:=ZI AO.out;have HU:=Y0 (znJ H5.out c0 c6);clear c0 c6;go_wp2_with fail;refine HU.out.mono ?_;rintro e w6 ⟨rfl,hb6⟩;have h6:=H5.out.below hb6;have Lh:=(hb6.block _ (zo AO.out)).trans AO.out;have Aq:Keeps (fun b=>b=C) W2 w6:=tJ.out.trans (Keeps.zO hb6) fun _ e=>Or.inl e;have t7:=h6.ZR.2.2.2.1;have tf:=h6.ZR.2.2.2.2 7;rw[show zbj B 0=Sl none 0 0 from rfl] at t7;have sW:=heap_alloc_new w6 (.cells #[Y (V ⟨C,0,O⟩)] 156);obtain ⟨v',w8,hrun,hown,hg,eO⟩:=zvy (w:=w6.alloc (Ce #[Y (V ⟨C,0,O⟩)] 156)) w6.heap.size 151 151 156 1 8 Tryz.underlying151 Y4 Y2 Y2 (zjG _ w6.heap.size _ _) (zbw (base:=0) sW (Nat.zero_le _)) (fun u hu=>by simp at hu;subst hu;rfl) Y2 Y7
 obtain ⟨g,cp,rfl,hgc,LX,hcp⟩: ∃g cp,v'=Sl (V ⟨g,0,O⟩) 1 cp∧w8.cell? ⟨g,0,O⟩=V (Y (V ⟨C,0,O⟩))∧w6.heap.size≤g∧1≤cp:=by
  have h0:=hown;rcases hown with ⟨q0,⟨q1,q2⟩ |⟨g,cp,cur,rfl,q3,q4⟩⟩
  ·omega
  ·refine ⟨g,cp,rfl,?_,q3,q4.2.1⟩;have:=h0.cells rfl 0 (Y (V ⟨C,0,O⟩)) rfl;rwa[Addr.add_lit,Nat.zero_add] at this
 have e8: ∀b,b<w6.heap.size→w8.heap[b]?=w6.heap[b]?:=fun b hb=>(hg.block b Y8 fun e=>by cases e).trans (heap_alloc_old _ _ hb);have s8:w6.heap.size+1≤w8.heap.size:=by have:=hg.size;simpa using this
 have Fy:=(e8 _ (zo h6.T)).trans h6.T;have t78:w8.cell? ⟨B.T,7,O⟩=V (Sl none 0 0):=ze Fy 7;have tf8:w8.frozen? ⟨B.T,7,O⟩=false:=zF Fy 7;have HZ:Hid (vg w B 1 t (w8.setCell ⟨B.T,7,O⟩ (Sl (V ⟨g,0,O⟩) 1 cp))):=Y0 (by
  have o: ∀b,b≠B.T→(w8.setCell ⟨B.T,7,O⟩ (Sl (V ⟨g,0,O⟩) 1 cp)).heap[b]?=w8.heap[b]?:=fun b hb=>zm hb
  have z:(w8.setCell ⟨B.T,7,O⟩ (Sl (V ⟨g,0,O⟩) 1 cp)).heap.size=w8.heap.size:=Y7
  have xC:=zo Lh
  have hgl:g<w8.heap.size:=(hown.lt g rfl).2
  have Au:=h6.lt
  obtain ⟨a1,b1,q1⟩:=h6.thr.isMap
  obtain ⟨a2,b2,q2⟩:=h6.objs.isMap
  obtain ⟨a3,b3,q3⟩:=h6.had.isMap
  have n1:B.tm≠B.T:=fun e=>by have:=h6.T;rw[←e,q1] at this;cases this
  have n2:B.om≠B.T:=fun e=>by have:=h6.T;rw[←e,q2] at this;cases this
  have n3:B.hm≠B.T:=fun e=>by have:=h6.T;rw[←e,q3] at this;cases this
  have nC:C≠B.T:=fun e=>iZ.out B.T Y13 e.symm
  have fA:=zo h6.T
  have all: ∀b,b≠B.T→b<w6.heap.size→(w8.setCell ⟨B.T,7,O⟩ (Sl (V ⟨g,0,O⟩) 1 cp)).heap[b]?=w6.heap[b]?:=fun b h1 h2=>(o b h1).trans (e8 b h2)
  have fD:Keeps (fun b=>b=C) w w6:=(Keeps.zO (X:=fun b=>b=C) aP.out).trans Aq fun _ e=>Or.inl e
  refine ⟨{ B with C:=C,L:=g,c:=cp},⟨(all _ (Zp h6.obj h6.T Y2) (zo h6.obj)).trans h6.obj,h6.thr.of_block (all _ n1 h6.thr.lt),(h6.objs.of_block (all _ n2 h6.objs.lt)).mono Y2,(h6.had.of_block (all _ n3 h6.had.lt)).mono Y2,?_,fun _=>⟨?_,t,?_⟩,fun q=>absurd q Y2,h6.ne,fun b hb=>?_,h6.time,fun _=>hcp⟩,rfl,?_,fun b hb=>?_⟩
  ·exact (zy Fy _).trans rfl
  ·exact (World.cell?_of_block (a:=⟨g,0,O⟩) (o g Y1)).trans hgc
  ·exact (all C nC xC).trans Lh
  ·rw[z]
   have:b∈B.l∨b=C∨b=g:=by
    simp[MB.l] at hb ⊢
    omega
   rcases this with q|q|q
   ·have:=Au b q;omega
   ·omega
   ·omega
  ·have k8:Keeps (fun b=>b=C∨b∈B.l) w w8:=⟨hg.os.trans fD.os,hg.tape.trans fD.tape,hg.output.trans fD.output,by have:=fD.size;omega,fun b hb hn=>(e8 b (Nat.lt_of_lt_of_le hb fD.size)).trans (fD.block b hb fun e=>hn (Or.inl e))⟩
   have k9:=k8.setCell (p:=⟨B.T,7,O⟩) (Or.inr Y13) (Sl (V ⟨g,0,O⟩) 1 cp)
   exact ⟨k9.os,k9.tape,k9.output,k9.size,fun b hb hn=>k9.block b hb fun q=>q.elim (fun e=>by have:=tC.out;omega) hn⟩
  ·have:b∈B.l∨b=C∨b=g:=by
    simp[MB.l] at hb ⊢
    omega
   rcases this with q|q|q
   ·exact Or.inl q
   ·exact Or.inr (by have:=tC.out;omega)
   ·have:=fD.size;exact Or.inr Y1)
 have eU:=Y0 hrun;clear hrun hown hg eO e8 s8 Fy h6 Lh Aq hb6 sW hgc LX hcp H5 AO tJ H2 dD aP HU;go_wp2_with (at_builtin;refine Go.Lib.wpList_append_run _ rfl (.tmp 74) (.tmp 76) 151 151 rfl _ _ rfl rfl _ _ eU.out ?_);go_ret;exact ⟨rfl,HZ.out⟩):zP:=h
theorem a40.zvR (h:zP:=by
 clear hC2 hb2 Af H1 HB v0 v1 v2 v3 v4 v5 v6 v7 v8 v9 v10 m0 m3 m5 m6 m7 t0 t1 t2 t7 k0 qP;generalize W.heap.size=C at*;have t7:=H2.out.ZR.2.2.2.1;rw[hcv] at t7;have HA:=Y0 (zdi (M:=B.M) dD.out t7 (iZ.out _ Y13) zjV.1 zjV.2 fun aB hV _=>by
  obtain ⟨-,-,-,-,-,-,c6,c7,c8,c9,-⟩:=ZI hV
  exact (zxq (M:=B.M) c6 c7 c8 c9).mono fun e w' q=>⟨q.1,0,q.2⟩)
 clear t7;exact J42):zP:=h
open a40 in
theorem znc (h:ZG w B 0 t) (p k v cd:Int):Calls Tp 61 #[Y (V ⟨B.M,0,O⟩), .agg (KW ⟨1,p,k,64,10,0,0,0,0,v,cd⟩)] w fun e w'=>e=Rt .nilIface∧vg w B 1 t w':=by
 unfold KW;go_enter Tryz.func61,Tryz.ntmps61;go_upto_region 1 with fail;have hb:Below w.heap.size w (w.alloc (Ce (KW ⟨1,p,k,64,10,0,0,0,0,v,cd⟩) 74)):=(Below.refl _ _).alloc (Nat.le_refl _) _;have hz:=heap_alloc_new w (.cells (KW ⟨1,p,k,64,10,0,0,0,0,v,cd⟩) 74);unfold KW at hb hz;generalize w.alloc _=W at*;have h1:=h.below hb;obtain ⟨v0,v1,v2,v3,v4,v5,v6,v7,v8,v9,v10⟩:=kM (e:=⟨1,p,k,64,10,0,0,0,0,v,cd⟩) hz;obtain ⟨m0,-,-,m3,m5,m6,m7,-,mf⟩:=h1.cells;obtain ⟨t0,t1,t2,t7,tf⟩:=h1.ZR;obtain ⟨A,c,hcv⟩:=zjf B (s:=0) (Or.inl rfl);rw[hcv] at t7;have k0:=h1.KF;have qP:=(h1.heq (W:=W.drew) rfl).KF;have HF:=Y0 (zfy (w:=W.drew) t1 t2 t7);have HB:=Y0 hb;have H1:=Y0 h1;clear h h1 hb hz mf tf;go_region;go_wp2_with fail;refine HF.out.mono ?_;rintro e w1 ⟨rfl,hw1⟩;subst hw1;clear HF
 go_wp2_with fail;go_region;go_upto_region 5 with fail;have hC2:((W.alloc (Ce (vX 10 0 0 t 0 0 0 false) 159)).drew.drew).heap[W.heap.size]?=V (Ce (vX 10 0 0 t 0 0 0 false) 159 (0,0)):=heap_alloc_new W _;have hb2:Below W.heap.size W ((W.alloc (Ce (vX 10 0 0 t 0 0 0 false) 159)).drew.drew):=Ki (Ki ((Below.refl _ _).alloc (Nat.le_refl _) _) 1) 1;unfold vX at hC2 hb2;generalize (World.drew (World.drew (World.alloc W _)))=W2 at*;have dD:Hid (W2.heap[W.heap.size]?=V (Ce (vX 10 0 0 t 0 0 0 false) 159 (0,0))):=Y0 hC2;exact zwi
end
open Go.RowKit Go.Maps Asm PosTab Errs
def Gg:ByteArray:=⟨#[109,111,100,101,108]⟩
theorem zce (n k:Int) (w:World):Calls Tp 63 #[E Z n, .iface 48 (E Z k)] w (zvj w [(Gg,n)] k):=by
 go_enter Tryz.func63,Tryz.ntmps63;go_wp2;go_ret;refine ⟨_,rfl,⟨w.heap.size,_,rfl,by simp,?_,?_,?_,rfl⟩,(Below.refl _ _).alloc (Nat.le_refl _) _⟩;all_goals simp[Gg]
section
variable {w W:World} {B:MB} {s:Nat} {t:Int}
theorem a41.Q42 (h:zP:=by
 have HS:=Y0 (zcn (w:=w4) (M:=B.M) (id:=1) H4.out.cells.2.2.2.2.1 (H4.out.zcr Y14 Y2));exact J60):zP:=h
theorem a41.Q60 (h:zP:=by
 obtain ⟨c0,c1,-,-,-,-,c6,-,-,-,-,-,-,-,c14,-,-⟩:=ZI AO.out;obtain ⟨o0,o1,o2⟩:=zbH (H5.out.aA Y2);have gO:Zl ptrs w5.drew B.om (zjH B 3) 4:=H5.out.objs.of_block rfl;have HU:=Y0 (zn5 (M:=B.M) (T:=B.T) c0 c6 c1 H5.out.cells.2.2.2.2.2.1 (gO.look Tryz.underlying147 (zpu _) (k:=1) Y14) o0 o1 o2 H5.out.ZR.1);clear c0 c6 c1 o0 o1 o2 gO;obtain ⟨-,-,-,-,-,-,-,m8,mf⟩:=H5.out.cells;have f8:=mf 8;have OI:=(tJ.out.block _ (zo EK.out) (by have:=P5.out;omega)).trans EK.out;have vv:w5.cell? ⟨w.heap.size,1,O⟩=V (E Z p):=ze OI 1;have hne: ¬w.heap.size=B.M:=by have:=Hu.out;omega
 clear OI mf;go_wp2_with fail;refine HU.out.mono ?_;rintro e w6 ⟨rfl,m6,rfl⟩;have HF:=Y0 (fun W=>zce p 10 W);go_wp2_with fail;refine (HF.out _).mono ?_;rintro e w7 ⟨x,rfl,hx,dU⟩;have uJ:Keeps (fun b=>b∈B.l) w w7:=by
  have k1:Keeps (fun b=>b=C) w w5:=(Keeps.zO (X:=fun b=>b=C) aP.out).trans tJ.out fun _ e=>Or.inl e;have k2:Keeps (fun b=>b=C∨b∈B.l) w ((w5.drewN m6).setCell ⟨B.M,8,O⟩ (.bool true)):=((k1.drewN m6).mono fun b e=>Or.inl e).setCell (p:=⟨B.M,8,O⟩) (Or.inr Y13) _;have k3:=k2.trans (Keeps.zO (X:=fun b=>b=C∨b∈B.l) dU) fun _ e=>Or.inl e;exact ⟨k3.os,k3.tape,k3.output,k3.size,fun b hb hn=>k3.block b hb fun q=>q.elim (fun e=>by have:=tC.out;omega) hn⟩
 have HR:=Y0 (And.intro hx uJ);clear hx uJ dU HF HU;go_wp2_with fail;go_ret;exact ⟨x,rfl,HR.out⟩):zP:=h
theorem a41.zvR (h:zP:=by
 have EK:=Y0 ((hb2.block _ (zo IG.out)).trans IG.out);have P5:=Y0 (zo IG.out);clear hC2 hb2 Af H1 HB v0 v1 v2 v3 v4 v5 v6 v7 v8 v9 v10 m0 m3 m5 m6 m7 t0 t1 t2 t7 k0 qP;generalize W.heap.size=C at*;have t7:=H2.out.ZR.2.2.2.1;rw[hcv] at t7;have hO:=H2.out.aA Y2;obtain ⟨o0,o1,o2⟩:=zbH hO;have Sk:=zo hO;have HO2:=Y0 hO;have Sj:B.aA≠C:=iZ.out _ Y13;have Sg:B.M≠C:=iZ.out _ Y13;have TA:B.om≠C:=iZ.out _ Y13;have LK: ∀aB:World,aB.heap[B.om]?=W2.heap[B.om]?→(Instr.lookup 147 (.map (some B.om)) (E J 1) false).run Tp aB.drew= .ok (Y (V ⟨B.aA,0,O⟩)) aB.drew:=fun aB e=>by
  have g:Zl ptrs aB.drew B.om (zjH B 3) 4:=H2.out.objs.of_block e;exact g.look Tryz.underlying147 (zpu _) (k:=1) Y14
 have Q0:=Y0 LK;have Mr:=H2.out.objs.lt;have l8:=zo H2.out.obj;have HA:=Y0 (zdi (M:=B.M) dD.out t7 (iZ.out _ Y13) zkr.1 zkr.2 fun aB hV kV=>by
  obtain ⟨-,c1,-,-,-,-,c6,c7,c8,c9,-⟩:=ZI hV
  exact zyl (M:=B.M) c6 c7 c8 c9 c1 ((kV.cell (p:=⟨B.M,6,O⟩) l8 Sg).trans H2.out.cells.2.2.2.2.2.1) (Q0.out aB (kV.block _ Mr TA)) ((kV.cell (p:=⟨B.aA,0,O⟩) Sk Sj).trans o0))
 clear t7 LK o0 o1 o2 hO;exact J42):zP:=h
open a41 in
theorem zkF (h:ZG w B 3 t) (p k v cd:Int):Calls Tp 61 #[Y (V ⟨B.M,0,O⟩), .agg (KW ⟨1,p,k,64,15,1,1,0,0,v,cd⟩)] w fun e w'=> ∃x,e= .returned x∧vN w' [(Gg,p)] 10 x∧Keeps (fun b=>b∈B.l) w w':=by
 unfold KW;go_enter Tryz.func61,Tryz.ntmps61;go_upto_region 1 with fail;have hb:Below w.heap.size w (w.alloc (Ce (KW ⟨1,p,k,64,15,1,1,0,0,v,cd⟩) 74)):=(Below.refl _ _).alloc (Nat.le_refl _) _;have hz:=heap_alloc_new w (.cells (KW ⟨1,p,k,64,15,1,1,0,0,v,cd⟩) 74);unfold KW at hb hz;generalize w.alloc _=W at*;have h1:=h.below hb;obtain ⟨v0,v1,v2,v3,v4,v5,v6,v7,v8,v9,v10⟩:=kM (e:=⟨1,p,k,64,15,1,1,0,0,v,cd⟩) hz;obtain ⟨m0,-,-,m3,m5,m6,m7,-,mf⟩:=h1.cells;obtain ⟨t0,t1,t2,t7,tf⟩:=h1.ZR;obtain ⟨A,c,hcv⟩:=zjf B (s:=3) (Or.inr rfl);rw[hcv] at t7;have k0:=h1.KF;have qP:=(h1.heq (W:=W.drew) rfl).KF;have HF:=Y0 (zfy (w:=W.drew) t1 t2 t7);have HB:=Y0 hb;have H1:=Y0 h1;have IG:=Y0 hz;have Hu:=Y0 (h.lt B.M Y13);clear h h1 hb hz mf tf;go_region;go_wp2_with fail;refine HF.out.mono ?_
 rintro e w1 ⟨rfl,hw1⟩;subst hw1;clear HF;go_wp2_with fail;go_region;go_upto_region 5 with fail;have hC2:((W.alloc (Ce (vX 15 1 1 t 0 0 0 false) 159)).drew.drew).heap[W.heap.size]?=V (Ce (vX 15 1 1 t 0 0 0 false) 159 (0,0)):=heap_alloc_new W _;have hb2:Below W.heap.size W ((W.alloc (Ce (vX 15 1 1 t 0 0 0 false) 159)).drew.drew):=Ki (Ki ((Below.refl _ _).alloc (Nat.le_refl _) _) 1) 1;unfold vX at hC2 hb2;generalize (World.drew (World.drew (World.alloc W _)))=W2 at*;have dD:Hid (W2.heap[W.heap.size]?=V (Ce (vX 15 1 1 t 0 0 0 false) 159 (0,0))):=Y0 hC2;exact zwi
end
section
variable {w W:World} {B:MB} {s:Nat} {t:Int}
theorem a42.Q41 (h:zP:=by
 rintro e w1 ⟨rfl,h1⟩;have H1:=Y0 (h1.below HB.out);clear h1 HT HB;go_wp2_with fail;go_ret;exact ⟨rfl,H1.out⟩):zP:=h
open a42 in
theorem jy (h:ZG w B s t) (e:Ev) (hk:(e.kind==1)=false) {s':Nat} {t':Int} (HT0: ∀W,ZG W B s t→Calls Tp 62 #[Y (V ⟨B.M,0,O⟩), .agg (KW e)] W fun r w'=>r= .returned (.bool true)∧vg W B s' t' w'):
  Calls Tp 26 #[Y (V ⟨B.M,0,O⟩), .agg (KW e)] w fun r w'=>r= .returned .nilIface∧vg w B s' t' w':=by
 exact J41
theorem a43.Q41 (h:zP:=by
 rintro e w1 ⟨x,rfl,h1⟩;have H1:=Y0 h1;clear h1 HT;go_wp2_with fail;go_ret;exact ⟨x,W,rfl,H1.out,HB.out⟩):zP:=h
open a43 in
theorem zav (h:ZG w B s t) (e:Ev) (hk:(e.kind==1)=true) {Q:World→Value→World→Prop} (HT0: ∀W,ZG W B s t→Calls Tp 61 #[Y (V ⟨B.M,0,O⟩), .agg (KW e)] W fun r w'=> ∃x,r= .returned x∧Q W x w'):
  Calls Tp 26 #[Y (V ⟨B.M,0,O⟩), .agg (KW e)] w fun r w'=> ∃x W,r= .returned x∧Q W x w'∧Below w.heap.size w W:=by
 exact J41
theorem zme (h:ZG w B s t) (ht:t+1<1000000) (p k:Int):Calls Tp 26 #[Y (V ⟨B.M,0,O⟩), .agg (KW ⟨6,p,k,0,0,0,0,0,0,t+1,0⟩)] w fun r w'=>r= .returned .nilIface∧vg w B s (t+1) w':=
 jy h _ rfl fun W hW=>zjx hW ht p k
theorem zmo (h:ZG w B 1 t) (p k v:Int):Calls Tp 26 #[Y (V ⟨B.M,0,O⟩), .agg (KW ⟨5,p,k,64,5,0,0,0,0,v,1⟩)] w fun r w'=>r= .returned .nilIface∧vg w B 2 t w':=
 jy h _ rfl fun W hW=>ziP hW p k v
theorem znq (h:ZG w B 2 t) (p k:Int):Calls Tp 26 #[Y (V ⟨B.M,0,O⟩), .agg (KW ⟨2,p,k,64,10,0,0,0,0,1,0⟩)] w fun r w'=>r= .returned .nilIface∧vg w B 3 t w':=
 jy h _ rfl fun W hW=>zlC hW p k
theorem zsc (h:ZG w B 0 t) (p k v cd:Int):Calls Tp 26 #[Y (V ⟨B.M,0,O⟩), .agg (KW ⟨1,p,k,64,10,0,0,0,0,v,cd⟩)] w fun r w'=>r= .returned .nilIface∧vg w B 1 t w':=
 (zav h _ rfl (Q:=fun W x w'=>x= .nilIface∧vg W B 1 t w') fun W hW=>(znc hW p k v cd).mono fun e w' q=>⟨_,q.1,rfl,q.2⟩).mono fun e w' ⟨x,W,a,b,c⟩=>⟨by rw[a,b.1],b.2.below c⟩
theorem zsD (h:ZG w B 3 t) (p k v cd:Int):Calls Tp 26 #[Y (V ⟨B.M,0,O⟩), .agg (KW ⟨1,p,k,64,15,1,1,0,0,v,cd⟩)] w fun r w'=> ∃x,r= .returned x∧vN w' [(Gg,p)] 10 x∧Keeps (fun b=>b∈B.l) w w':=
 (zav h _ rfl (Q:=fun W x w'=>vN w' [(Gg,p)] 10 x∧Keeps (fun b=>b∈B.l) W w') fun W hW=>zkF hW p k v cd).mono fun e w' ⟨x,W,a,b,c⟩=>⟨x,a,b.1,(Keeps.zO (X:=fun b=>b∈B.l) c).trans b.2 fun _ e=>Or.inl e⟩
end
end Kn
end Go.Proofs.YtdlpmnmenhojfaaGreatDoor
