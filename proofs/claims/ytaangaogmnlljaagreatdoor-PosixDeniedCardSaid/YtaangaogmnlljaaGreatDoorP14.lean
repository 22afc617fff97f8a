/- Part 14 of what the proof stands on: KnMach, KnVm, KnTell, KnSmall, KnVmB. -/
import Derived.Deep.LoopGhost
import Derived.Deep.RegionWith
import Derived.Maps.AppendAt
import Derived.Deep.RegionHeld3
import Derived.Test.YtaangaogmnlljaaGreatDoorP01
import Derived.Test.YtaangaogmnlljaaGreatDoorP02
import Derived.Test.YtaangaogmnlljaaGreatDoorP07
import Derived.Test.YtaangaogmnlljaaGreatDoorP09
import Derived.Test.YtaangaogmnlljaaGreatDoorP11
set_option linter.unusedVariables false
namespace Go.Proofs.YtaangaogmnlljaaGreatDoor.Kn
open Go.RowKit Go.Maps Asm
inductive Tag where
 |other|mach|mem|alc|clk|ring|wq|tab|obj|map|wk|fixed|ev
 |thr (id:Int) |row (id:Int) |fr (id:Int) (n:Nat) |back (id:Int) (n:Nat) |wback (n:Nat)
abbrev Own:=Nat→Tag
structure Touch (ts:Tag→Prop) (w w':World) (own own':Own):Prop where
 keeps:Keeps (fun b=>ts (own b)) w w'
 own: ∀b,b<w.heap.size→own' b=own b
theorem Touch.refl (ts:Tag→Prop) (w:World) (own:Own):Touch ts w w own own:=⟨Keeps.refl _ w,fun _ _=>rfl⟩
theorem Touch.mono {ts us:Tag→Prop} {w w':World} {o o':Own} (h:Touch ts w w' o o') (hs: ∀t,ts t→us t):Touch us w w' o o':=⟨h.keeps.mono fun _ hx=>hs _ hx,h.own⟩
theorem Touch.trans {ts:Tag→Prop} {w1 w2 w3:World} {o1 o2 o3:Own} (h:Touch ts w1 w2 o1 o2) (k:Touch ts w2 w3 o2 o3):Touch ts w1 w3 o1 o3:=
 ⟨h.keeps.trans k.keeps fun i hi=>by
  by_cases hl:i<w1.heap.size
  ·rw[h.own i hl] at hi;exact Or.inl hi
  ·exact Or.inr (by omega),fun b hb=>(k.own b (Nat.lt_of_lt_of_le hb h.keeps.size)).trans (h.own b hb)⟩
def ext (own:Own) (n:Nat) (t:Tag):Own:=fun b=>if b<n then own b else t
theorem ext_lt {own:Own} {n:Nat} {t:Tag} {b:Nat} (h:b<n):ext own n t b=own b:=if_pos h
theorem ext_tag {own:Own} {n:Nat} {t:Tag} {b:Nat} (h:own b=t∨n≤b):ext own n t b=t:=by
 unfold ext
 split
 ·rcases h with h|h
  ·exact h
  ·omega
 ·rfl
theorem touch_of {X:Nat→Prop} {ts:Tag→Prop} {t:Tag} {w w':World} {own:Own} (h:Keeps X w w') (hX: ∀b,X b→ts (own b)):Touch ts w w' own (ext own w.heap.size t):=
 ⟨h.mono hX,fun _ hb=>ext_lt hb⟩
theorem touch_below {ts:Tag→Prop} {t:Tag} {w w':World} {own:Own} (h:Below w.heap.size w w'):Touch ts w w' own (ext own w.heap.size t):=
 ⟨Keeps.ofBelow h,fun _ hb=>ext_lt hb⟩
theorem touch_drew {ts:Tag→Prop} (w:World) (own:Own):Touch ts w w.drew own own:=⟨(Keeps.refl _ w).drew,fun _ _=>rfl⟩
theorem touch_drewN {ts:Tag→Prop} (w:World) (own:Own) (q:Nat):Touch ts w (w.drewN q) own own:=⟨(Keeps.refl _ w).drewN q,fun _ _=>rfl⟩
theorem Touch.at {ts:Tag→Prop} {w w':World} {o o':Own} (k:Touch ts w w' o o') {t:Tag} (hn: ¬ts t) {b:Nat} (hb:o b=t) (hl:b<w.heap.size):w'.heap[b]?=w.heap[b]?∧o' b=t:=
 ⟨k.keeps.block b hl fun h=>hn (by rw[hb] at h;exact h),(k.own b hl).trans hb⟩
structure KG where
 K:Nat
 X:Nat
 A:Nat
 C:Nat
 R:Nat
 Q:Nat
 T:Nat
 O:Nat
 th:Nat
 gW:Nat
 lv:Value
 cv:Value
 pv:Value
 tb:Int→Nat
 fb:Int→Nat→Nat
section
variable {w w':World} {own own':Own} {ts:Tag→Prop}
def PMem (w:World) (own:Own) (X:Nat) (m:Mem):Prop:= ∃gc gw,MemP w X gc gw m∧ ∀b,b=X∨b=gc∨b=gw→own b= .mem
theorem PMem.move {X:Nat} {m:Mem} (h:PMem w own X m) (k:Touch ts w w' own own') (hn: ¬ts .mem):PMem w' own' X m:=by
 obtain ⟨gc,gw,hP,ho⟩:=h
 have hl: ∀b,b=X∨b=gc∨b=gw→b<w.heap.size:=by
  obtain ⟨l1,l2,l3⟩:=hP.lt
  rintro b (rfl|rfl|rfl)<;>assumption
 exact ⟨gc,gw,hP.of_blocks fun b hb=>(k.at hn (ho b hb) (hl b hb)).1,fun b hb=>(k.at hn (ho b hb) (hl b hb)).2⟩
def PAlc (w:World) (own:Own) (A X:Nat) (a:Alc):Prop:= ∃v,AlcP w A X v a∧ ∀b,OfA A v b→own b= .alc
theorem PAlc.move {A X:Nat} {a:Alc} (h:PAlc w own A X a) (k:Touch ts w w' own own') (hn: ¬ts .alc):PAlc w' own' A X a:=by
 obtain ⟨v,hP,ho⟩:=h
 exact ⟨v,hP.of_blocks fun b hb=>(k.at hn (ho b hb) (hP.of_lt hb)).1,fun b hb=>(k.at hn (ho b hb) (hP.of_lt hb)).2⟩
def PClk (w:World) (own:Own) (C:Nat) (c:Clk) (n:Nat):Prop:= ∃hb hm v ab N K,ClkP w C hb hm v ab c N K∧(∀b,OfC C hb hm v ab b→own b= .clk)∧N+3010*c.S.length≤6020*n∧K≤n∧c.last≤n∧0≤c.last∧c.now≤n
theorem PClk.move {C:Nat} {c:Clk} {n:Nat} (h:PClk w own C c n) (k:Touch ts w w' own own') (hn: ¬ts .clk):PClk w' own' C c n:=by
 obtain ⟨hb,hm,v,ab,N,K,hP,ho,h2⟩:=h
 exact ⟨hb,hm,v,ab,N,K,hP.of_blocks fun b hb=>(k.at hn (ho b hb) (hP.lt hb)).1,fun b hb=>(k.at hn (ho b hb) (hP.lt hb)).2,h2⟩
def PRing (w:World) (own:Own) (R:Nat) (l:List Int):Prop:= ∃gr,RingP w R gr l∧ ∀b,b=R∨b=gr→own b= .ring
theorem PRing.move {R:Nat} {l:List Int} (h:PRing w own R l) (k:Touch ts w w' own own') (hn: ¬ts .ring):PRing w' own' R l:=by
 obtain ⟨gr,hP,ho⟩:=h
 have hl: ∀b,b=R∨b=gr→b<w.heap.size:=by
  obtain ⟨l1,l2⟩:=hP.lt
  rintro b (rfl|rfl)<;>assumption
 exact ⟨gr,hP.of_blocks fun b hb=>(k.at hn (ho b hb) (hl b hb)).1,fun b hb=>(k.at hn (ho b hb) (hl b hb)).2⟩
def PWq (w:World) (own:Own) (Q:Nat) (l:List Slp) (n:Nat):Prop:= ∃gl mb B N,WqP w Q gl mb B l N∧(∀b,OfQ Q gl mb B l b→own b= .wq)∧N≤n
theorem PWq.move {Q:Nat} {l:List Slp} {n:Nat} (h:PWq w own Q l n) (k:Touch ts w w' own own') (hn: ¬ts .wq):PWq w' own' Q l n:=by
 obtain ⟨gl,mb,B,N,hP,ho,h2⟩:=h
 exact ⟨gl,mb,B,N,hP.of_blocks fun b hb=>(k.at hn (ho b hb) (hP.lt hb)).1,fun b hb=>(k.at hn (ho b hb) (hP.lt hb)).2,h2⟩
def PTab (w:World) (own:Own) (T:Nat) (l:List TRow) (n:Nat):Prop:= ∃gt N,TabP w T gt l N∧(∀b,b=T∨b=gt→own b= .tab)∧N≤n
theorem PTab.move {T:Nat} {l:List TRow} {n:Nat} (h:PTab w own T l n) (k:Touch ts w w' own own') (hn: ¬ts .tab):PTab w' own' T l n:=by
 obtain ⟨gt,N,hP,ho,h2⟩:=h
 have hl: ∀b,b=T∨b=gt→b<w.heap.size:=by
  obtain ⟨l1,l2⟩:=hP.lt
  rintro b (rfl|rfl)<;>assumption
 exact ⟨gt,N,hP.of_blocks fun b hb=>(k.at hn (ho b hb) (hl b hb)).1,fun b hb=>(k.at hn (ho b hb) (hl b hb)).2,h2⟩
def PObj (w:World) (own:Own) (O:Nat) (l:List ORow) (n:Nat):Prop:= ∃go N,ObjP w O go l N∧(∀b,b=O∨b=go→own b= .obj)∧N≤n
theorem PObj.move {O:Nat} {l:List ORow} {n:Nat} (h:PObj w own O l n) (k:Touch ts w w' own own') (hn: ¬ts .obj):PObj w' own' O l n:=by
 obtain ⟨go,N,hP,ho,h2⟩:=h
 have hl: ∀b,b=O∨b=go→b<w.heap.size:=by
  obtain ⟨l1,l2⟩:=hP.lt
  rintro b (rfl|rfl)<;>assumption
 exact ⟨go,N,hP.of_blocks fun b hb=>(k.at hn (ho b hb) (hl b hb)).1,fun b hb=>(k.at hn (ho b hb) (hl b hb)).2,h2⟩
def PRow (w:World) (own:Own) (t:Tag) (e:TypeId) (size:Nat) (v:Value) (n:Nat) (xs:List Value):Prop:=w.ownsRow 0 e size v n xs∧ ∀b,v.ownBlock=some b→own b=t
theorem PRow.lt {t:Tag} {e:TypeId} {size n:Nat} {v:Value} {xs:List Value} (h:PRow w own t e size v n xs) {b:Nat} (hb:v.ownBlock=some b):b<w.heap.size:=by
 obtain ⟨cur,hc⟩:=Asm.row_block h.1 hb
 exact blk_in hc
theorem PRow.move {t:Tag} {e:TypeId} {size n:Nat} {v:Value} {xs:List Value} (h:PRow w own t e size v n xs) (k:Touch ts w w' own own') (hn: ¬ts t):PRow w' own' t e size v n xs:=
 ⟨Asm.ownsRow_of_block h.1 fun b hb=>(k.at hn (h.2 b hb) (h.lt hb)).1,fun b hb=>(k.at hn (h.2 b hb) (h.lt hb)).2⟩
def intC (l:List Int):List Value:=l.map fun x=> .int .i64 x
def frC (f:Frame) (bv:Value):List Value:= .int .i64 f.pc::(f.r.map fun x=>Value.int .u64 x)++ [bv]
structure FrOk (n:Nat) (f:Frame):Prop where
 len:f.r.length=32
 r: ∀x∈f.r,U64 x
 pc:0≤f.pc∧f.pc≤4000+n
 few:f.back.length≤8
 back: ∀x∈f.back,0≤x∧x≤4000+n
theorem FrOk.more {n n':Nat} {f:Frame} (h:FrOk n f) (hn:n≤n'):FrOk n' f:=
 ⟨h.len,h.r,⟨h.pc.1,by have:=h.pc.2;omega⟩,h.few,fun x hx=>⟨(h.back x hx).1,by have:=(h.back x hx).2;omega⟩⟩
structure FrP (w:World) (own:Own) (id:Int) (i b:Nat) (fr:Fr) (n:Nat):Prop where
 mine:own b= .fr id i
 ok:FrOk n fr.f
 num:0≤fr.num∧fr.num<1000
 obj: ∃bv,w.heap[b]?=some (.cells (frC fr.f bv++ [Value.bool fr.lib,Value.int .i64 fr.num]).toArray 284 (0,0))∧PRow w own (.back id i) 3 1 bv fr.f.back.length (intC fr.f.back)
theorem FrP.lt {id:Int} {i b n:Nat} {fr:Fr} (h:FrP w own id i b fr n):b<w.heap.size:=by obtain ⟨bv,h,_⟩:=h.obj;exact blk_in h
theorem FrP.move {id:Int} {i b n:Nat} {fr:Fr} (h:FrP w own id i b fr n) (k:Touch ts w w' own own') (h1: ¬ts (.fr id i)) (h2: ¬ts (.back id i)):FrP w' own' id i b fr n:=by
 obtain ⟨bv,ho,hr⟩:=h.obj
 exact ⟨(k.at h1 h.mine (blk_in ho)).2,h.ok,h.num,bv,(k.at h1 h.mine (blk_in ho)).1.trans ho,hr.move k h2⟩
theorem FrP.more {id:Int} {i b n n':Nat} {fr:Fr} (h:FrP w own id i b fr n) (hn:n≤n'):FrP w own id i b fr n':=⟨h.mine,h.ok.more hn,h.num,h.obj⟩
def fptrs (fb:Int→Nat→Nat) (r:Run):List Value:=(List.range r.l.length).map fun i=> .pointer (some ⟨fb r.id i,0,none⟩)
structure RunP (w:World) (own:Own) (tb:Int→Nat) (fb:Int→Nat→Nat) (r:Run) (n:Nat):Prop where
 mine:own (tb r.id)= .thr r.id
 id:r.id≠0∧U64 r.id
 woken:U64 r.woken
 few:r.l.length≤100
 obj: ∃lv,w.heap[tb r.id]?=some (.cells #[.int .u64 r.id,lv, .int .u64 r.woken] 281 (0,0))∧PRow w own (.row r.id) 282 1 lv r.l.length (fptrs fb r)
 frs: ∀i fr,r.l[i]?=some fr→FrP w own r.id i (fb r.id i) fr n
theorem RunP.move {tb:Int→Nat} {fb:Int→Nat→Nat} {r:Run} {n:Nat} (h:RunP w own tb fb r n) (k:Touch ts w w' own own') (h1: ¬ts (.thr r.id)) (h2: ¬ts (.row r.id)) (h3: ∀i,¬ts (.fr r.id i)) (h4: ∀i,¬ts (.back r.id i)):RunP w' own' tb fb r n:=by
 obtain ⟨lv,ho,hr⟩:=h.obj
 exact ⟨(k.at h1 h.mine (blk_in ho)).2,h.id,h.woken,h.few,⟨lv,(k.at h1 h.mine (blk_in ho)).1.trans ho,hr.move k h2⟩,fun i fr hi=>(h.frs i fr hi).move k (h3 i) (h4 i)⟩
theorem RunP.more {tb:Int→Nat} {fb:Int→Nat→Nat} {r:Run} {n n':Nat} (h:RunP w own tb fb r n) (hn:n≤n'):RunP w own tb fb r n':=⟨h.mine,h.id,h.woken,h.few,h.obj,fun i fr hi=>(h.frs i fr hi).more hn⟩
def NoThr (ts:Tag→Prop):Prop:= ¬ts .map∧ ∀id,¬ts (.thr id)∧ ¬ts (.row id)∧ ∀i,¬ts (.fr id i)∧ ¬ts (.back id i)
structure PRuns (w:World) (own:Own) (th:Nat) (tb:Int→Nat) (fb:Int→Nat→Nat) (l:List Run) (n:Nat):Prop where
 nod:(l.map (·.id)).Nodup
 mine:own th= .map
 map: ∃N,GMap ptrs w th (fun id=>(runOf l id).map fun _=>tb id) N∧N≤n+1
 each: ∀r∈l,RunP w own tb fb r n
theorem PRuns.move {th:Nat} {tb:Int→Nat} {fb:Int→Nat→Nat} {l:List Run} {n:Nat} (h:PRuns w own th tb fb l n) (k:Touch ts w w' own own') (hn:NoThr ts):PRuns w' own' th tb fb l n:=by
 obtain ⟨N,hm,hN⟩:=h.map
 obtain ⟨h0,h1⟩:=hn
 exact ⟨h.nod,(k.at h0 h.mine hm.lt).2,⟨N,hm.of_block (k.at h0 h.mine hm.lt).1,hN⟩,fun r hr=>(h.each r hr).move k (h1 _).1 (h1 _).2.1 (fun i=>((h1 _).2.2 i).1) fun i=>((h1 _).2.2 i).2⟩
theorem PRuns.more {th:Nat} {tb:Int→Nat} {fb:Int→Nat→Nat} {l:List Run} {n n':Nat} (h:PRuns w own th tb fb l n) (hn:n≤n'):PRuns w own th tb fb l n':=by
 obtain ⟨N,hm,hN⟩:=h.map
 exact ⟨h.nod,h.mine,⟨N,hm,by omega⟩,fun r hr=>(h.each r hr).more hn⟩
def wk38 (p:Wkr×Value):List Value:= [.int .u64 p.1.slot, .int .u64 p.1.hand, .bool p.1.parked, .int .i64 p.1.left]++frC p.1.f p.2
structure WkOk (n:Nat) (k:Wkr):Prop where
 slot:U64 k.slot
 hand:U64 k.hand
 left:0≤k.left∧k.left≤100
 f:FrOk n k.f
def PWk (w:World) (own:Own) (gW:Nat) (l:List Wkr) (n:Nat):Prop:=own gW= .wk∧ ∃L:List (Wkr×Value),L.map (·.1)=l∧w.heap[gW]?=some (.cells (L.flatMap wk38).toArray 166 (0,0))∧ ∀i p,L[i]?=some p→WkOk n p.1∧PRow w own (.wback i) 3 1 p.2 p.1.f.back.length (intC p.1.f.back)
def NoWk (ts:Tag→Prop):Prop:= ¬ts .wk∧ ∀i,¬ts (.wback i)
theorem PWk.move {gW:Nat} {l:List Wkr} {n:Nat} (h:PWk w own gW l n) (k:Touch ts w w' own own') (hn:NoWk ts):PWk w' own' gW l n:=by
 obtain ⟨h0,L,h1,h2,h3⟩:=h
 exact ⟨(k.at hn.1 h0 (blk_in h2)).2,L,h1,(k.at hn.1 h0 (blk_in h2)).1.trans h2,fun i p hp=>⟨(h3 i p hp).1,(h3 i p hp).2.move k (hn.2 i)⟩⟩
theorem PWk.more {gW:Nat} {l:List Wkr} {n n':Nat} (h:PWk w own gW l n) (hn:n≤n'):PWk w own gW l n':=by
 obtain ⟨h0,L,h1,h2,h3⟩:=h
 exact ⟨h0,L,h1,h2,fun i p hp=>⟨⟨(h3 i p hp).1.slot,(h3 i p hp).1.hand,(h3 i p hp).1.left,(h3 i p hp).1.f.more hn⟩,(h3 i p hp).2⟩⟩
end
def ev11 (e:Ev):List Value:= [.int .i64 e.kind, .int .i64 e.pos, .int .i64 e.w, .int .u64 e.t, .int .i64 e.num, .int .u64 e.a0, .int .u64 e.a1, .int .u64 e.a2, .int .u64 e.a3, .int .u64 e.v, .int .u64 e.code]
def evC (l:List Ev):List Value:=l.flatMap ev11
def row6 (r:RowL):List Value:= [.int .i64 r.num, .int .i64 r.pos, .int .i64 r.k0, .int .i64 r.k1, .int .i64 r.k2, .int .i64 r.k3]
def callC (l:List RowL):List Value:=l.flatMap row6
def rowIx (l:List RowL) (num:Int):Nat:=match l.findIdx? (fun r=>r.num==num) with
 |some i=>i+1
 |none=>0
structure MachC (C:Array Value) (F:Fixed) (G:KG) (M:Mach) (ov:Value):Prop where
 size:C.size=1021
 lib:C[0]?=some G.lv
 loop:C[1]?=some (.int .i64 F.loop)
 calls:C[2]?=some G.cv
 code:C[3]?=some G.pv
 wide:C[5]?=some (.int .i64 F.wide)
 narrow:C[6]?=some (.int .i64 F.narrow)
 rows: ∀i:Nat,i<1000→C[7+i]?=some (.int .i64 (rowIx F.calls i))
 mem:C[1007]?=some (.pointer (some ⟨G.X,0,none⟩))
 alc:C[1008]?=some (.pointer (some ⟨G.A,0,none⟩))
 clk:C[1009]?=some (.pointer (some ⟨G.C,0,none⟩))
 ring:C[1010]?=some (.pointer (some ⟨G.R,0,none⟩))
 wq:C[1011]?=some (.pointer (some ⟨G.Q,0,none⟩))
 tab:C[1012]?=some (.pointer (some ⟨G.T,0,none⟩))
 obj:C[1013]?=some (.pointer (some ⟨G.O,0,none⟩))
 th:C[1014]?=some (.map (some G.th))
 wk:C[1015]?=some (.slice (some ⟨G.gW,0,none⟩) F.workers F.workers)
 entries:C[1016]?=some (.int .i64 M.entries)
 pos:C[1017]?=some (.int .i64 M.pos)
 w:C[1018]?=some (.int .i64 M.w)
 draw:C[1019]?=some (.int .u64 M.draw)
 out:C[1020]?=some ov
def mayLib (F:Fixed):Prop:= ∀x∈F.lib,mayK x F.lib.length true=true
def mayCode (F:Fixed):Prop:= ∀x∈F.code,mayK x F.code.length false=true
structure FixOk (F:Fixed):Prop where
 lib:0<F.lib.length∧F.lib.length≤2048
 loop:0≤F.loop∧F.loop<F.lib.length
 libs:mayLib F
 code:0<F.code.length∧F.code.length≤2048
 codes:mayCode F
 libv: ∀x∈F.lib,U64 x.v
 codev: ∀x∈F.code,U64 x.v
 wide:0≤F.wide∧0≤F.narrow∧F.wide+F.narrow≤256
 workers:1≤F.workers∧F.workers≤64
 few:F.calls.length≤999
 nod:(F.calls.map (·.num)).Nodup
 calls: ∀r∈F.calls,1≤r.num∧r.num≤999∧0≤r.pos∧r.pos<F.lib.length∧(0≤r.k0∧r.k0≤7)∧(0≤r.k1∧r.k1≤7)∧(0≤r.k2∧r.k2≤7)∧(0≤r.k3∧r.k3≤7)
structure PFix (w:World) (own:Own) (F:Fixed) (G:KG):Prop where
 lib:PRow w own .fixed 68 7 G.lv F.lib.length (codeC F.lib)
 calls:PRow w own .fixed 184 6 G.cv F.calls.length (callC F.calls)
 code:PRow w own .fixed 68 7 G.pv F.code.length (codeC F.code)
structure KMach (w:World) (own:Own) (F:Fixed) (G:KG) (M:Mach):Prop where
 mine:own G.K= .mach
 obj: ∃C ov,w.heap[G.K]?=some (.cells C 159 (0,0))∧MachC C F G M ov∧PRow w own .ev 71 11 ov M.out.length (evC M.out)
structure NumOk (M:Mach) (F:Fixed) (n:Nat):Prop where
 entries:0≤M.entries∧M.entries≤n
 pos:0≤M.pos∧M.pos≤n
 w: -1≤M.w∧M.w<64
 draw:U64 M.draw
 wk:M.wkrs.length=F.workers
 out:M.out.length≤1000000
structure KernP (F:Fixed) (w:World) (own:Own) (G:KG) (M:Mach) (n:Nat):Prop where
 fok:FixOk F
 num:NumOk M F n
 k:KMach w own F G M
 fix:PFix w own F G
 mem:PMem w own G.X M.mem
 alc:PAlc w own G.A G.X M.alc
 clk:PClk w own G.C M.clk n
 ring:PRing w own G.R M.ring
 wq:PWq w own G.Q M.slps n
 tab:PTab w own G.T M.tab n
 obj:PObj w own G.O M.objs n
 runs:PRuns w own G.th G.tb G.fb M.runs n
 wk:PWk w own G.gW M.wkrs n
section
variable {w w':World} {own own':Own} {ts:Tag→Prop} {F:Fixed} {G:KG} {M:Mach} {n n':Nat}
theorem KMach.move (h:KMach w own F G M) (k:Touch ts w w' own own') (h1: ¬ts .mach) (h2: ¬ts .ev):KMach w' own' F G M:=by
 obtain ⟨C,ov,ho,hc,hr⟩:=h.obj
 exact ⟨(k.at h1 h.mine (blk_in ho)).2,C,ov,(k.at h1 h.mine (blk_in ho)).1.trans ho,hc,hr.move k h2⟩
theorem PFix.move (h:PFix w own F G) (k:Touch ts w w' own own') (h1: ¬ts .fixed):PFix w' own' F G:=⟨h.lib.move k h1,h.calls.move k h1,h.code.move k h1⟩
theorem KernP.move (h:KernP F w own G M n) (k:Touch (· = .other) w w' own own'):KernP F w' own' G M n:=
 ⟨h.fok,h.num,h.k.move k nofun nofun,h.fix.move k nofun,h.mem.move k nofun,h.alc.move k nofun,h.clk.move k nofun,h.ring.move k nofun,h.wq.move k nofun,h.tab.move k nofun,h.obj.move k nofun,h.runs.move k ⟨nofun,fun _=>⟨nofun,nofun,fun _=>⟨nofun,nofun⟩⟩⟩,h.wk.move k ⟨nofun,fun _=>nofun⟩⟩
theorem PClk.more {C:Nat} {c:Clk} (h:PClk w own C c n) (hn:n≤n'):PClk w own C c n':=by
 obtain ⟨hb,hm,v,ab,N,K,hP,ho,h1,h2,h3,h4,h5⟩:=h
 exact ⟨hb,hm,v,ab,N,K,hP,ho,by omega,by omega,by omega,h4,by omega⟩
theorem PWq.more {Q:Nat} {l:List Slp} (h:PWq w own Q l n) (hn:n≤n'):PWq w own Q l n':=by
 obtain ⟨gl,mb,B,N,hP,ho,h2⟩:=h
 exact ⟨gl,mb,B,N,hP,ho,by omega⟩
theorem PTab.more {T:Nat} {l:List TRow} (h:PTab w own T l n) (hn:n≤n'):PTab w own T l n':=by
 obtain ⟨gt,N,hP,ho,h2⟩:=h
 exact ⟨gt,N,hP,ho,by omega⟩
theorem PObj.more {O:Nat} {l:List ORow} (h:PObj w own O l n) (hn:n≤n'):PObj w own O l n':=by
 obtain ⟨gt,N,hP,ho,h2⟩:=h
 exact ⟨gt,N,hP,ho,by omega⟩
theorem KernP.more (h:KernP F w own G M n) (hn:n≤n'):KernP F w own G M n':=
 ⟨h.fok,⟨⟨h.num.entries.1,by have:=h.num.entries;omega⟩,⟨h.num.pos.1,by have:=h.num.pos;omega⟩,h.num.w,h.num.draw,h.num.wk,h.num.out⟩,h.k,h.fix,h.mem,h.alc,h.clk.more hn,h.ring,h.wq.more hn,h.tab.more hn,h.obj.more hn,h.runs.more hn,h.wk.more hn⟩
theorem KernP.on_mem (h:KernP F w own G M n) (k:Touch (· = .mem) w w' own own') {m:Mem} (hp:PMem w' own' G.X m):KernP F w' own' G { M with mem:=m} n:=
 ⟨h.fok,⟨h.num.entries,h.num.pos,h.num.w,h.num.draw,h.num.wk,h.num.out⟩,⟨(h.k.move k nofun nofun).mine,by obtain ⟨C,ov,a,b,c⟩:=(h.k.move k nofun nofun).obj;exact ⟨C,ov,a,⟨b.size,b.lib,b.loop,b.calls,b.code,b.wide,b.narrow,b.rows,b.mem,b.alc,b.clk,b.ring,b.wq,b.tab,b.obj,b.th,b.wk,b.entries,b.pos,b.w,b.draw,b.out⟩,c⟩⟩,h.fix.move k nofun,hp,h.alc.move k nofun,h.clk.move k nofun,h.ring.move k nofun,h.wq.move k nofun,h.tab.move k nofun,h.obj.move k nofun,h.runs.move k ⟨nofun,fun _=>⟨nofun,nofun,fun _=>⟨nofun,nofun⟩⟩⟩,h.wk.move k ⟨nofun,fun _=>nofun⟩⟩
theorem KMach.same (h:KMach w own F G M) {M':Mach} (e1:M'.entries=M.entries) (e2:M'.pos=M.pos) (e3:M'.w=M.w) (e4:M'.draw=M.draw) (e5:M'.out=M.out):KMach w own F G M':=by
 obtain ⟨C,ov,a,b,c⟩:=h.obj
 refine ⟨h.mine,C,ov,a,⟨b.size,b.lib,b.loop,b.calls,b.code,b.wide,b.narrow,b.rows,b.mem,b.alc,b.clk,b.ring,b.wq,b.tab,b.obj,b.th,b.wk,?_,?_,?_,?_,b.out⟩,?_⟩
 ·rw[e1];exact b.entries
 ·rw[e2];exact b.pos
 ·rw[e3];exact b.w
 ·rw[e4];exact b.draw
 ·rw[e5];exact c
theorem KernP.on_tab (h:KernP F w own G M n) (k:Touch (· = .tab) w w' own own') {l:List TRow} (hn:n≤n') (hp:PTab w' own' G.T l n'):KernP F w' own' G { M with tab:=l} n':=
 let h:=h.more hn
 ⟨h.fok,⟨h.num.entries,h.num.pos,h.num.w,h.num.draw,h.num.wk,h.num.out⟩,(h.k.move k nofun nofun).same rfl rfl rfl rfl rfl,h.fix.move k nofun,h.mem.move k nofun,h.alc.move k nofun,h.clk.move k nofun,h.ring.move k nofun,h.wq.move k nofun,hp,h.obj.move k nofun,h.runs.move k ⟨nofun,fun _=>⟨nofun,nofun,fun _=>⟨nofun,nofun⟩⟩⟩,h.wk.move k ⟨nofun,fun _=>nofun⟩⟩
theorem KernP.on_ring (h:KernP F w own G M n) (k:Touch (· = .ring) w w' own own') {l:List Int} (hp:PRing w' own' G.R l):KernP F w' own' G { M with ring:=l} n:=
 ⟨h.fok,⟨h.num.entries,h.num.pos,h.num.w,h.num.draw,h.num.wk,h.num.out⟩,(h.k.move k nofun nofun).same rfl rfl rfl rfl rfl,h.fix.move k nofun,h.mem.move k nofun,h.alc.move k nofun,h.clk.move k nofun,hp,h.wq.move k nofun,h.tab.move k nofun,h.obj.move k nofun,h.runs.move k ⟨nofun,fun _=>⟨nofun,nofun,fun _=>⟨nofun,nofun⟩⟩⟩,h.wk.move k ⟨nofun,fun _=>nofun⟩⟩
theorem KernP.on_alc (h:KernP F w own G M n) (k:Touch (fun t=>t= .alc∨t= .mem) w w' own own') {a:Alc} {m:Mem} (hp:PAlc w' own' G.A G.X a) (hm:PMem w' own' G.X m):KernP F w' own' G { M with alc:=a,mem:=m} n:=
 ⟨h.fok,⟨h.num.entries,h.num.pos,h.num.w,h.num.draw,h.num.wk,h.num.out⟩,(h.k.move k nofun nofun).same rfl rfl rfl rfl rfl,h.fix.move k nofun,hm,hp,h.clk.move k nofun,h.ring.move k nofun,h.wq.move k nofun,h.tab.move k nofun,h.obj.move k nofun,h.runs.move k ⟨nofun,fun _=>⟨nofun,nofun,fun _=>⟨nofun,nofun⟩⟩⟩,h.wk.move k ⟨nofun,fun _=>nofun⟩⟩
def ofRuns (t:Tag):Prop:=match t with
 | .map| .thr _| .row _| .fr _ _| .back _ _=>True
 |_=>False
theorem KernP.on_runs (h:KernP F w own G M n) (k:Touch ofRuns w w' own own') {l:List Run} {tb:Int→Nat} {fb:Int→Nat→Nat} (hn:n≤n') (hp:PRuns w' own' G.th tb fb l n'):KernP F w' own' { G with tb:=tb,fb:=fb} { M with runs:=l} n':=
 let h:=h.more hn
 ⟨h.fok,⟨h.num.entries,h.num.pos,h.num.w,h.num.draw,h.num.wk,h.num.out⟩,⟨(h.k.move k id id).mine,by obtain ⟨C,ov,a,b,c⟩:=(h.k.move k id id).obj;exact ⟨C,ov,a,⟨b.size,b.lib,b.loop,b.calls,b.code,b.wide,b.narrow,b.rows,b.mem,b.alc,b.clk,b.ring,b.wq,b.tab,b.obj,b.th,b.wk,b.entries,b.pos,b.w,b.draw,b.out⟩,c⟩⟩,⟨(h.fix.move k id).lib,(h.fix.move k id).calls,(h.fix.move k id).code⟩,h.mem.move k id,h.alc.move k id,h.clk.move k id,h.ring.move k id,h.wq.move k id,h.tab.move k id,h.obj.move k id,hp,h.wk.move k ⟨id,fun _=>id⟩⟩
def ofWk (t:Tag):Prop:=match t with
 | .wk| .wback _=>True
 |_=>False
theorem KernP.on_wk (h:KernP F w own G M n) (k:Touch ofWk w w' own own') {l:List Wkr} (hn:n≤n') (hl:l.length=M.wkrs.length) (hp:PWk w' own' G.gW l n'):KernP F w' own' G { M with wkrs:=l} n':=
 let h:=h.more hn
 ⟨h.fok,⟨h.num.entries,h.num.pos,h.num.w,h.num.draw,hl.trans h.num.wk,h.num.out⟩,(h.k.move k id id).same rfl rfl rfl rfl rfl,h.fix.move k id,h.mem.move k id,h.alc.move k id,h.clk.move k id,h.ring.move k id,h.wq.move k id,h.tab.move k id,h.obj.move k id,h.runs.move k ⟨id,fun _=>⟨id,id,fun _=>⟨id,id⟩⟩⟩,hp⟩
end
end Go.Proofs.YtaangaogmnlljaaGreatDoor.Kn
namespace Go.Proofs.YtaangaogmnlljaaGreatDoor.Kn
open Go.RowKit Asm
theorem below_dn {B:Nat} {a w:World} (h:Below B a w) (n:Nat):Below B a (w.drewN n):=⟨h.os,h.tape,h.output,h.size,h.block⟩
structure Lens (w:World) (b o:Nat) (t:TypeId) (P S:List Value) (f:Frame) (bv:Value):Prop where
 obj:w.heap[b]?=some (.cells (P++frC f bv++S).toArray t (0,0))
 off:o=P.length
theorem frC_len {f:Frame} {bv:Value} (h:f.r.length=32):(frC f bv).length=34:=by simp[frC,h]
theorem frC_pc (f:Frame) (bv:Value):(frC f bv)[0]?=some (.int .i64 f.pc):=rfl
theorem frC_reg {f:Frame} {bv:Value} {k:Nat} (hk:k<f.r.length):(frC f bv)[1+k]?=some (.int .u64 (f.r.getD k 0)):=by
 unfold frC
 rw[Nat.add_comm,List.cons_append,List.getElem?_cons_succ,List.getElem?_append_left (by simpa using hk),List.getElem?_map,List.getD_eq_getElem?_getD,List.getElem?_eq_getElem hk]
 rfl
theorem frC_bk {f:Frame} {bv:Value} (h:f.r.length=32):(frC f bv)[33]?=some bv:=by
 unfold frC
 rw[show 33=32+1 from rfl,List.cons_append,List.getElem?_cons_succ,List.getElem?_append_right (by simp[h])]
 simp[h]
section
variable {w w':World} {b o:Nat} {t:TypeId} {P S:List Value} {f:Frame} {bv:Value}
theorem Lens.at (h:Lens w b o t P S f bv) {j:Nat} (hj:j<(frC f bv).length):w.cell? ⟨b,o+j,none⟩=(frC f bv)[j]?:=by
 rw[blk_cell h.obj,h.off,List.getElem?_toArray,List.getElem?_append_left (by simp;omega),List.getElem?_append_right (by omega),show P.length+j - P.length=j by omega]
theorem Lens.pc (h:Lens w b o t P S f bv):w.cell? ⟨b,o,none⟩=some (.int .i64 f.pc):=(h.at (j:=0) (by simp[frC])).trans (frC_pc f bv)
theorem Lens.reg (h:Lens w b o t P S f bv) (hl:f.r.length=32) {k:Nat} (hk:k<32):w.cell? ⟨b,o+1+k,none⟩=some (.int .u64 (f.r.getD k 0)):=by
 rw[Nat.add_assoc]
 exact (h.at (j:=1+k) (by rw[frC_len hl];omega)).trans (frC_reg (by omega))
theorem Lens.bk (h:Lens w b o t P S f bv) (hl:f.r.length=32):w.cell? ⟨b,o+33,none⟩=some bv:=(h.at (j:=33) (by rw[frC_len hl];omega)).trans (frC_bk hl)
theorem Lens.frozen (h:Lens w b o t P S f bv) (j:Nat):w.frozen? ⟨b,j,none⟩=false:=blk_frozen h.obj j
theorem Lens.lt (h:Lens w b o t P S f bv):b<w.heap.size:=blk_in h.obj
theorem Lens.of_block (h:Lens w b o t P S f bv) (e:w'.heap[b]?=w.heap[b]?):Lens w' b o t P S f bv:=⟨e.trans h.obj,h.off⟩
theorem Lens.set (h:Lens w b o t P S f bv) {j:Nat} (hj:j<(frC f bv).length) (v:Value) {f':Frame} {bv':Value} (e:(frC f bv).set j v=frC f' bv'):Lens (w.setCell ⟨b,o+j,none⟩ v) b o t P S f' bv':=by
 refine ⟨?_,h.off⟩
 rw[set_block h.obj]
 have:=set_mid P (frC f bv) S j hj v
 rw[h.off,←e,List.setIfInBounds_toArray,this]
theorem Lens.setPc (h:Lens w b o t P S f bv) (p:Int):Lens (w.setCell ⟨b,o,none⟩ (.int .i64 p)) b o t P S { f with pc:=p} bv:=h.set (j:=0) (by simp[frC]) _ rfl
theorem Lens.setBk (h:Lens w b o t P S f bv) (hl:f.r.length=32) (l:List Int) (v:Value):Lens (w.setCell ⟨b,o+33,none⟩ v) b o t P S { f with back:=l} v:=by
 refine h.set (j:=33) (by rw[frC_len hl];omega) _ ?_
 unfold frC
 rw[List.set_append_right _ _ (by simp[hl])]
 simp[hl]
theorem Lens.setReg (h:Lens w b o t P S f bv) (hl:f.r.length=32) {k:Nat} (hk:k<32) (v:Int):Lens (w.setCell ⟨b,o+1+k,none⟩ (.int .u64 v)) b o t P S { f with r:=f.r.set k v} bv:=by
 rw[Nat.add_assoc]
 refine h.set (j:=1+k) (by rw[frC_len hl];omega) _ ?_
 unfold frC
 rw[Nat.add_comm 1 k,List.cons_append,List.set_cons_succ,List.set_append_left _ _ (by simp[hl];omega),←List.map_set]
 rfl
end
theorem vthere_any (n:Int) (w:World):Calls Tryz.prog 308 #[.int .i64 n] w fun e w'=>e= .returned (.bool (decide (0≤n)&&decide (n<32)))∧w=w':=by
 by_cases h1:0≤n
 ·go_enter Tryz.func308,Tryz.ntmps308
  go_wp2
  go_ret
  exact ⟨by simp[h1],rfl⟩
 ·have h2:n<0:=by omega
  go_enter Tryz.func308,Tryz.ntmps308
  go_wp2
  go_ret
  exact ⟨by simp;omega,rfl⟩
theorem vflag_any (v:Bool) (w:World):Calls Tryz.prog 307 #[.bool v] w fun e w'=>e= .returned (.int .u64 (yesI v))∧w=w':=by
 cases v<;>
 ·go_enter Tryz.func307,Tryz.ntmps307
  go_wp2
  go_ret
  exact ⟨rfl,rfl⟩
section
variable {w:World} {b o:Nat} {t:TypeId} {P S:List Value} {f:Frame} {bv:Value}
theorem vread_any (h:Lens w b o t P S f bv) (hl:f.r.length=32) (n:Int) (h0:0≤n) (h1:n<32):Calls Tryz.prog 253 #[.pointer (some ⟨b,o,none⟩), .int .i64 n] w fun e w'=>e= .returned (.int .u64 (rg f n))∧w=w':=by
 obtain ⟨k,rfl⟩:=Int.eq_ofNat_of_zero_le h0
 have hk:k<32:=by omega
 have c0:=h.reg hl hk
 have e0:rg f (k:Int)=f.r.getD k 0:=rfl
 rw[e0]
 generalize f.r.getD k 0=x at*
 have HT:=Lib.hid (vthere_any k w)
 rw[show (decide ((0:Int)≤k)&&decide ((k:Int)<32))=true by simp;omega] at HT
 clear h hl e0
 go_enter Tryz.func253,Tryz.ntmps253
 go_wp2_with fail
 refine HT.out.mono ?_
 rintro e w1 ⟨rfl,rfl⟩
 go_wp2_with fail
 go_ret
 exact ⟨rfl,rfl⟩
end
set_option maxRecDepth 100000 in
theorem less64_any (a b:Int) (w:World) (ha:0≤a∧a<18446744073709551616) (hb:0≤b∧b<18446744073709551616):Calls Tryz.prog 306 #[.int .i64 64, .int .u64 a, .int .u64 b] w fun e w'=>e= .returned (.int .u64 (word (a - b)))∧w=w':=by
 have h1:=Lib.hid (fun W=>cut_any 64 a W ha)
 have h2:=Lib.hid (fun W=>cut_any 64 b W hb)
 have h3:=Lib.hid (fun x W hx=>cut_any 64 x W hx)
 have e0: ∀x,cutW 64 x=x:=fun x=>if_pos rfl
 simp only[e0] at h1 h2 h3
 unfold word
 have hw:IntKind.u64.wrap (a - b)=(a - b)%18446744073709551616:=by rw[IntKind.wrap_u64]
 have hr:0≤(a - b)%18446744073709551616∧(a - b)%18446744073709551616<18446744073709551616:=by omega
 generalize (a - b)%18446744073709551616=m at*
 have HR:=Lib.hid hr
 clear hr ha hb e0
 go_enter Tryz.func306,Tryz.ntmps306
 go_wp2_with fail
 refine (h1.out _).mono ?_
 rintro e w1 ⟨rfl,rfl⟩
 go_wp2_with fail
 refine (h2.out _).mono ?_
 rintro e w1 ⟨rfl,rfl⟩
 go_wp2_with fail
 refine (h3.out m _ HR.out).mono ?_
 rintro e w1 ⟨rfl,rfl⟩
 go_wp2_with fail
 go_ret
 exact ⟨rfl,rfl⟩
end Go.Proofs.YtaangaogmnlljaaGreatDoor.Kn
namespace Go.Proofs.YtaangaogmnlljaaGreatDoor.Kn
open Go.RowKit Asm
def evV (e:Ev):Array Value:=#[.int .i64 e.kind, .int .i64 e.pos, .int .i64 e.w, .int .u64 e.t, .int .i64 e.num, .int .u64 e.a0, .int .u64 e.a1, .int .u64 e.a2, .int .u64 e.a3, .int .u64 e.v, .int .u64 e.code]
def KO (F:Fixed) (w:World) (own:Own) (G:KG) (M:Mach) (n:Nat) (w':World):Prop:= ∃own',KernP F w' own' G M n∧Touch (fun t=>t≠ .other) w w' own own'
theorem below_al {a w:World} (h:Below a.heap.size a w) (o:Obj):Below a.heap.size a (w.alloc o):=h.alloc h.size o
theorem news_at {W:World} {cs:List Value} {t:TypeId} {k:Nat} (h:W.heap[k]?=some (.cells cs.toArray t (0,0))): ∀j u,cs[j]?=some u→W.cell? ((⟨k,0,none⟩:Addr).add j)=some u:=by
 intro j u hu
 rw[Addr.add_lit,Nat.zero_add,blk_cell h,List.getElem?_toArray]
 exact hu
section
variable {F:Fixed} {w:World} {own:Own} {G:KG} {M:Mach} {n:Nat}
theorem KernP.klt (h:KernP F w own G M n):G.K<w.heap.size:=by obtain ⟨C,ov,ho,_⟩:=h.k.obj;exact blk_in ho
theorem KernP.on_k {w':World} {own':Own} {n':Nat} (h:KernP F w own G M n) (hn':n≤n') (k:Touch (fun t=>t= .mach∨t= .ev) w w' own own') {en ps wk dr:Int} {ot:List Ev} (hk:KMach w' own' F G { M with entries:=en,pos:=ps,w:=wk,draw:=dr,out:=ot}) (hn:NumOk { M with entries:=en,pos:=ps,w:=wk,draw:=dr,out:=ot} F n'):KernP F w' own' G { M with entries:=en,pos:=ps,w:=wk,draw:=dr,out:=ot} n':=
 let h:=h.more hn'
 ⟨h.fok,hn,hk,h.fix.move k nofun,h.mem.move k nofun,h.alc.move k nofun,h.clk.move k nofun,h.ring.move k nofun,h.wq.move k nofun,h.tab.move k nofun,h.obj.move k nofun,h.runs.move k ⟨nofun,fun _=>⟨nofun,nofun,fun _=>⟨nofun,nofun⟩⟩⟩,h.wk.move k ⟨nofun,fun _=>nofun⟩⟩
theorem set_at {C:Array Value} {i j:Nat} {v x:Value} (h:C[i]?=some x) (hne:j≠i):(C.setIfInBounds j v)[i]?=some x:=by
 rw[Array.getElem?_setIfInBounds,if_neg hne];exact h
theorem set_here {C:Array Value} {j:Nat} {v:Value} (h:j<C.size):(C.setIfInBounds j v)[j]?=some v:=by
 rw[Array.getElem?_setIfInBounds,if_pos rfl,if_pos h]
theorem KernP.told {C:Array Value} {ov:Value} (h:KernP F w own G M n) (ho:w.heap[G.K]?=some (.cells C 159 (0,0))) (hc:MachC C F G M ov) (hr:PRow w own .ev 71 11 ov M.out.length (evC M.out)) (hl:M.out.length<1000000) (e:Ev) {e':Ev} (he:e'={ e with pos:=M.pos,w:=M.w}) {w4:World} {v:Value}
  (hk:Keeps (fun b=>ov.ownBlock=some b) w w4) (hr4:w4.ownsRow 0 71 11 v (M.out.length+1) (evC M.out++ev11 e')) (hn: ∀b,v.ownBlock=some b→ov.ownBlock=some b∨w.heap.size≤b):KO F w own G (tell M e) n (w4.setCell ⟨G.K,1020,none⟩ v):=by
 have hT:Touch (fun t=>t= .ev) w w4 own (ext own w.heap.size .ev):=touch_of hk fun b hb=>hr.2 b hb
 have hKl:=h.klt
 have hKo:ext own w.heap.size .ev G.K= .mach:=(ext_lt hKl).trans h.k.mine
 have hT2:Touch (fun t=>t= .mach) w4 (w4.setCell ⟨G.K,1020,none⟩ v) (ext own w.heap.size .ev) (ext own w.heap.size .ev):=⟨(Keeps.refl _ _).setCell (p:=⟨G.K,1020,none⟩) hKo _,fun _ _=>rfl⟩
 have hT3:Touch (fun t=>t= .mach∨t= .ev) w (w4.setCell ⟨G.K,1020,none⟩ v) own (ext own w.heap.size .ev):=(hT.mono fun _ e=>Or.inr e).trans (hT2.mono fun _ e=>Or.inl e)
 have ho4:w4.heap[G.K]?=some (.cells C 159 (0,0)):=(hT.at (t:= .mach) nofun h.k.mine hKl).1.trans ho
 have hlt:=hr4.lt
 refine ⟨ext own w.heap.size .ev,?_,hT3.mono fun t e=>by rcases e with rfl|rfl<;>nofun⟩
 refine h.on_k (M:=M) (Nat.le_refl n) hT3 (en:=M.entries) (ps:=M.pos) (wk:=M.w) (dr:=M.draw) (ot:=M.out++ [{ e with pos:=M.pos,w:=M.w}]) ⟨hKo,C.setIfInBounds 1020 v,v,?_,?_,?_,?_⟩ ⟨h.num.entries,h.num.pos,h.num.w,h.num.draw,h.num.wk,by simp;omega⟩
 ·rw[set_block ho4]
 ·exact ⟨by simp[hc.size],set_at hc.lib (by decide),set_at hc.loop (by decide),set_at hc.calls (by decide),set_at hc.code (by decide),set_at hc.wide (by decide),set_at hc.narrow (by decide),fun i hi=>set_at (hc.rows i hi) (by omega),set_at hc.mem (by decide),set_at hc.alc (by decide),set_at hc.clk (by decide),set_at hc.ring (by decide),set_at hc.wq (by decide),set_at hc.tab (by decide),set_at hc.obj (by decide),set_at hc.th (by decide),set_at hc.wk (by decide),set_at hc.entries (by decide),set_at hc.pos (by decide),set_at hc.w (by decide),set_at hc.draw (by decide),set_here (by rw[hc.size];decide)⟩
 ·have e1:evC (M.out++ [{ e with pos:=M.pos,w:=M.w}])=evC M.out++ev11 e':=by rw[he];simp[evC]
  show World.ownsRow _ 0 _ 11 v (M.out++ [{ e with pos:=M.pos,w:=M.w}]).length (evC (M.out++ [{ e with pos:=M.pos,w:=M.w}]))
  rw[e1,List.length_append,List.length_singleton]
  refine Asm.ownsRow_of_block hr4 fun c hc'=>set_other fun e2=>?_
  rcases hn c hc' with h1|h1
  ·have:=hr.2 c h1;rw[e2,h.k.mine] at this;cases this
  ·have e3:c=G.K:=e2
   omega
 ·intro c hc'
  rcases hn c hc' with h1|h1
  ·exact ext_tag (Or.inl (hr.2 c h1))
  ·exact ext_tag (Or.inr h1)
theorem infoEv:(Tryz.prog.info? 71).map (fun i=>(i.zero,i.size,i.bytes))=some (some (.agg #[.int .i64 0, .int .i64 0, .int .i64 0, .int .u64 0, .int .i64 0, .int .u64 0, .int .u64 0, .int .u64 0, .int .u64 0, .int .u64 0, .int .u64 0]),11,88):=by kernel_rfl
set_option maxRecDepth 100000 in
set_option maxHeartbeats 2000000 in
theorem tell_any (h:KernP F w own G M n) (e:Ev) (hf:M.out.length<1000000):
  Calls Tryz.prog 127 #[.pointer (some ⟨G.K,0,none⟩), .agg (evV e)] w fun r w'=>r= .returned (.tuple #[])∧KO F w own G (tell M e) n w':=by
 obtain ⟨ek,ep,ew,et,en,a0,a1,a2,a3,ev,ec⟩:=e
 unfold evV
 obtain ⟨C,ov,ho,hc,hr⟩:=h.k.obj
 have k17:w.cell? ⟨G.K,1017,none⟩=some (.int .i64 M.pos):=(blk_cell ho _).trans hc.pos
 have k18:w.cell? ⟨G.K,1018,none⟩=some (.int .i64 M.w):=(blk_cell ho _).trans hc.w
 have k20:w.cell? ⟨G.K,1020,none⟩=some ov:=(blk_cell ho _).trans hc.out
 have kf:w.frozen? ⟨G.K,1020,none⟩=false:=blk_frozen ho _
 have hK:=blk_in ho
 have H:=Lib.hid h
 have HO:=Lib.hid ho
 have HC:=Lib.hid hc
 have HR:=Lib.hid hr
 clear h ho hc hr
 generalize hKe:G.K=K at*
 have HKe:=Lib.hid hKe.symm
 clear hKe
 go_enter Tryz.func127,Tryz.ntmps127
 go_wp2_with fail
 go_region_held3 (fun w'=>w'.cell? ⟨K,1017,none⟩=some (.int .i64 M.pos)∧w'.cell? ⟨K,1018,none⟩=some (.int .i64 M.w)) (go_keep) (fail)
 all_goals
  go_wp2_with fail
  obtain ⟨Av,cv,hov⟩:=Asm.own_shape HR.out.1
  subst hov
  generalize hL:M.out.length=L at*
  have HLn:Hid (M.out.length=L):=Lib.hid hL
  have HB:Hid (∀W,Below w.heap.size w W→W.ownsRow 0 71 11 (.slice Av L cv) L (evC M.out)):=Lib.hid fun W hW=>Asm.ownsRow_of_block HR.out.1 fun c hc=>hW.block c (HR.out.lt hc)
  have HM:Hid (L+1≤maxLen∧(L+1)*88≤140737488355328):=Lib.hid ⟨by unfold maxLen;omega,by omega⟩
  obtain ⟨ii,hii,hzi,hsi,hbi⟩:=info_parts infoEv
  have hkne: ∀c,(Value.slice Av L cv).ownBlock=some c→c≠K:=fun c hc e=>by
   have h1:=HR.out.2 c hc
   rw[e,HKe.out,H.out.k.mine] at h1
   cases h1
  have HKb:Hid (∀W W2,Below w.heap.size w W→W.grownBy W2 (Value.slice Av L cv).ownBlock→W2.heap[K]?=w.heap[K]?):=Lib.hid fun W W2 hW hg=>(hg.block K (Nat.lt_of_lt_of_le hK hW.size) (fun e=>hkne K e.symm rfl)).trans (hW.block K hK)
  have HFin:Hid (∀W v W2,Below w.heap.size w W→W2.ownsRow 0 71 11 v (L+1) (evC M.out++ev11 ⟨ek,M.pos,M.w,et,en,a0,a1,a2,a3,ev,ec⟩)→W.grownBy W2 (Value.slice Av L cv).ownBlock→(v.ownBlock=(Value.slice Av L cv).ownBlock∨v.ownBlock=some W.heap.size)→KO F w own G (tell M ⟨ek,ep,ew,et,en,a0,a1,a2,a3,ev,ec⟩) n (W2.setCell ⟨K,1020,none⟩ v)):=Lib.hid fun W v W2 hW hr hg hn=>by
   rw[HKe.out]
   refine H.out.told (HKe.out▸HO.out) HC.out (by rw[HLn.out];exact HR.out) (by rw[HLn.out];exact hf) _ rfl (Keeps.grown (Keeps.ofBelow hW) hg fun k hk=>hk) (by rw[HLn.out];exact hr) fun c hc=>?_
   rcases hn with hn|hn
   ·exact Or.inl (by rw[←hn];exact hc)
   ·rw[hn] at hc;injection hc with hc;exact Or.inr (by rw[←hc];exact hW.size)
  have hN:((w.alloc (.cells [Value.int .i64 ek, .int .i64 M.pos, .int .i64 M.w, .int .u64 et, .int .i64 en, .int .u64 a0, .int .u64 a1, .int .u64 a2, .int .u64 a3, .int .u64 ev, .int .u64 ec].toArray 71)).alloc (.cells [Value.int .i64 ek, .int .i64 M.pos, .int .i64 M.w, .int .u64 et, .int .i64 en, .int .u64 a0, .int .u64 a1, .int .u64 a2, .int .u64 a3, .int .u64 ev, .int .u64 ec].toArray 71)).heap[w.heap.size+1]?=some (.cells [Value.int .i64 ek, .int .i64 M.pos, .int .i64 M.w, .int .u64 et, .int .i64 en, .int .u64 a0, .int .u64 a1, .int .u64 a2, .int .u64 a3, .int .u64 ev, .int .u64 ec].toArray 71 (0,0)):=by
   have:=heap_alloc_new (w.alloc (.cells [Value.int .i64 ek, .int .i64 M.pos, .int .i64 M.w, .int .u64 et, .int .i64 en, .int .u64 a0, .int .u64 a1, .int .u64 a2, .int .u64 a3, .int .u64 ev, .int .u64 ec].toArray 71)) (.cells [Value.int .i64 ek, .int .i64 M.pos, .int .i64 M.w, .int .u64 et, .int .i64 en, .int .u64 a0, .int .u64 a1, .int .u64 a2, .int .u64 a3, .int .u64 ev, .int .u64 ec].toArray 71)
   rwa[World.size_alloc] at this
  have HN:=Lib.hid hN
  clear hL hN
  go_region_law (first|(refine step_append_own _ rfl (.tmp 18) (.tmp 20) 51 rfl 0 71 ii _ 11 88 Tryz.underlying51 hii hzi hsi hbi rfl (by decide) (.slice Av L cv) L (evC M.out) rfl (HB.out _ (by repeat first|exact Below.refl _ _|refine below_al ?_ _|refine Below.drew ?_)) ⟨w.heap.size+1,0,none⟩ 1 1 [.int .i64 ek, .int .i64 M.pos, .int .i64 M.w, .int .u64 et, .int .i64 en, .int .u64 a0, .int .u64 a1, .int .u64 a2, .int .u64 a3, .int .u64 ev, .int .u64 ec] rfl rfl (news_at HN.out) (by intro u hu;simp at hu;rcases hu with rfl|rfl|rfl|rfl|rfl|rfl|rfl|rfl|rfl|rfl|rfl<;>rfl) HM.out.1 HM.out.2 (Nat.zero_le _) ?_;intro v' w4 hown hgrow hnew;obtain ⟨A4,c4,rfl⟩:=Asm.own_shape hown;have hbK:=HKb.out _ _ (by repeat first|exact Below.refl _ _|refine below_al ?_ _|refine Below.drew ?_) hgrow;have t0:=(World.cell?_of_block (a:=⟨K,1020,none⟩) hbK).trans k20;have t1:=(World.frozen?_of_block (a:=⟨K,1020,none⟩) hbK).trans kf;have HF:=Lib.hid (HFin.out _ _ _ (by repeat first|exact Below.refl _ _|refine below_al ?_ _|refine Below.drew ?_) hown hgrow hnew);clear hown hgrow hnew hbK))
  all_goals
   go_wp2_with fail
   go_end0
   exact ⟨rfl,HF.out⟩
end
end Go.Proofs.YtaangaogmnlljaaGreatDoor.Kn
namespace Go.Proofs.YtaangaogmnlljaaGreatDoor.Kn
open Go.RowKit Asm
section
variable {F:Fixed} {w:World} {own:Own} {G:KG} {M:Mach} {n:Nat}
theorem KernP.below {w':World} (h:KernP F w own G M n) (hb:Below w.heap.size w w'):KernP F w' (ext own w.heap.size .other) G M n:=h.move (touch_below hb)
theorem KO.refl (h:KernP F w own G M n):KO F w own G M n w:=⟨own,h,Touch.refl _ _ _⟩
theorem KO.below {w':World} (h:KernP F w own G M n) (hb:Below w.heap.size w w'):KO F w own G M n w':=⟨_,h.below hb,touch_below hb⟩
theorem KernP.kcell {i:Nat} {v:Value} (h:KernP F w own G M n) (hv: ∀C ov,MachC C F G M ov→C[i]?=some v):w.cell? ⟨G.K,i,none⟩=some v:=by
 obtain ⟨C,ov,ho,hc,_⟩:=h.k.obj
 exact (blk_cell ho _).trans (hv C ov hc)
theorem KernP.tcell (h:KernP F w own G M n):w.cell? ⟨G.K,1012,none⟩=some (.pointer (some ⟨G.T,0,none⟩)):=h.kcell fun _ _ hc=>hc.tab
theorem KernP.mcell (h:KernP F w own G M n):w.cell? ⟨G.K,1007,none⟩=some (.pointer (some ⟨G.X,0,none⟩)):=h.kcell fun _ _ hc=>hc.mem
theorem KernP.rcell (h:KernP F w own G M n):w.cell? ⟨G.K,1010,none⟩=some (.pointer (some ⟨G.R,0,none⟩)):=h.kcell fun _ _ hc=>hc.ring
theorem KernP.acell (h:KernP F w own G M n):w.cell? ⟨G.K,1008,none⟩=some (.pointer (some ⟨G.A,0,none⟩)):=h.kcell fun _ _ hc=>hc.alc
theorem KernP.ccell (h:KernP F w own G M n):w.cell? ⟨G.K,1009,none⟩=some (.pointer (some ⟨G.C,0,none⟩)):=h.kcell fun _ _ hc=>hc.clk
theorem KernP.qcell (h:KernP F w own G M n):w.cell? ⟨G.K,1011,none⟩=some (.pointer (some ⟨G.Q,0,none⟩)):=h.kcell fun _ _ hc=>hc.wq
theorem KernP.ocell (h:KernP F w own G M n):w.cell? ⟨G.K,1013,none⟩=some (.pointer (some ⟨G.O,0,none⟩)):=h.kcell fun _ _ hc=>hc.obj
theorem KernP.hcell (h:KernP F w own G M n):w.cell? ⟨G.K,1014,none⟩=some (.map (some G.th)):=h.kcell fun _ _ hc=>hc.th
theorem KernP.wcell (h:KernP F w own G M n):w.cell? ⟨G.K,1015,none⟩=some (.slice (some ⟨G.gW,0,none⟩) F.workers F.workers):=h.kcell fun _ _ hc=>hc.wk
theorem KernP.ringed {w':World} {l:List Int} (h:KernP F w own G M n) {gr:Nat} (ho: ∀b,b=G.R∨b=gr→own b= .ring) (hk:Keeps (OfRg G.R gr) w w') (hp:RingP w' G.R gr l):KO F w own G { M with ring:=l} n w':=by
 have k:Touch (· = .ring) w w' own (ext own w.heap.size .ring):=touch_of hk fun b hb=>ho b hb
 exact ⟨_,h.on_ring k ⟨gr,hp,fun b hb=>ext_tag (Or.inl (ho b hb))⟩,k.mono fun _ e=>by rw[e];nofun⟩
theorem KernP.tabbed {w':World} {l:List TRow} (h:KernP F w own G M n) {gt N n':Nat} (ho: ∀b,b=G.T∨b=gt→own b= .tab) (hn:n≤n') (hN:N≤n') (hk:Keeps (fun b=>b=gt) w w') (hp:TabP w' G.T gt l N):KO F w own G { M with tab:=l} n' w':=by
 have k:Touch (· = .tab) w w' own (ext own w.heap.size .tab):=touch_of hk fun b hb=>ho b (Or.inr hb)
 exact ⟨_,h.on_tab k hn ⟨gt,N,hp,fun b hb=>ext_tag (Or.inl (ho b hb)),hN⟩,k.mono fun _ e=>by rw[e];nofun⟩
theorem KernP.memmed {w':World} {m:Mem} (h:KernP F w own G M n) {gc gw:Nat} (ho: ∀b,b=G.X∨b=gc∨b=gw→own b= .mem) (hk:Keeps (fun b=>b=G.X∨b=gc) w w') (hp:MemP w' G.X gc gw m):KO F w own G { M with mem:=m} n w':=by
 have k:Touch (· = .mem) w w' own (ext own w.heap.size .mem):=touch_of hk fun b hb=>ho b (hb.elim Or.inl fun e=>Or.inr (Or.inl e))
 exact ⟨_,h.on_mem k ⟨gc,gw,hp,fun b hb=>ext_tag (Or.inl (ho b hb))⟩,k.mono fun _ e=>by rw[e];nofun⟩
theorem KO.trans {own1:Own} {w1 w2:World} {M2:Mach} {n2:Nat} (k:Touch (fun t=>t≠ .other) w w1 own own1) (h:KO F w1 own1 G M2 n2 w2):KO F w own G M2 n2 w2:=by
 obtain ⟨o2,a,b⟩:=h
 exact ⟨o2,a,k.trans b⟩
set_option maxRecDepth 100000 in
set_option maxHeartbeats 1000000 in
theorem inject_any (h:KernP F w own G M n) (id:Int) (hid:U64 id):
  Calls Tryz.prog 130 #[.pointer (some ⟨G.K,0,none⟩), .int .u64 id] w fun r w'=>r= .returned (.tuple #[])∧KO F w own G (inject M id) n w':=by
 have c0:=h.tcell
 obtain ⟨gt,N,hT,hTo,hN⟩:=h.tab
 have HB:=Lib.hid (be_any hT id 1 hid (Or.inl rfl))
 have H:=Lib.hid h
 have HTo:=Lib.hid hTo
 clear h hT hTo
 go_enter Tryz.func130,Tryz.ntmps130
 go_wp2_with fail
 refine HB.out.mono ?_
 rintro e w1 ⟨⟨ev,rfl⟩,ht1,hk1⟩
 obtain ⟨own1,h1,t1⟩:=H.out.tabbed HTo.out (Nat.le_refl n) hN hk1 ht1
 have c1:=h1.rcell
 obtain ⟨gr,hR,hRo⟩:=h1.ring
 have HR:=Lib.hid (rput_any hR id hid)
 have H1:=Lib.hid h1
 have HT1:=Lib.hid t1
 have HRo:=Lib.hid hRo
 clear h1 t1 hR hRo ht1 hk1
 go_wp2_with fail
 refine HR.out.mono ?_
 rintro e w2 ⟨⟨ev2,rfl⟩,hr2,hk2⟩
 obtain ⟨own2,h2,t2⟩:=H1.out.ringed HRo.out hk2 hr2
 have c2:=h2.mcell
 obtain ⟨gc,gw,hm,hMo⟩:=h2.mem
 have HM:=Lib.hid (madd_any hm 0 1 (by decide) (by decide))
 have H2:=Lib.hid h2
 have HT2:=Lib.hid (HT1.out.trans t2)
 have HMo:=Lib.hid hMo
 have hacc:accM M.mem 3 0 0 1=(match M.mem.acc 3 0 0 1 with|some p=>p.2|none=>M.mem):=rfl
 have HA:=Lib.hid hacc
 clear h2 t2 hm hMo hr2 hk2 hacc
 replace HM:Hid (Calls Tryz.prog 192 #[.pointer (some ⟨G.X,0,none⟩), .int .u64 0, .int .u64 1] w2 (AccOut w2 G.X gc gw (M.mem.acc 3 0 0 1))):=HM
 generalize M.mem.acc 3 0 0 1=r at HM HA
 cases r with
 |none=>
  go_wp2_with fail
  refine HM.out.mono ?_
  rintro e w3 ⟨⟨ev3,rfl,hev⟩,hb3⟩
  go_wp2_with fail
  go_end0
  refine ⟨rfl,KO.trans HT2.out ?_⟩
  show KO F w2 own2 G { M with tab:=beT M.tab id 1,ring:=putRing M.ring id,mem:=accM M.mem 3 0 0 1} n w3
  rw[HA.out]
  exact KO.below H2.out hb3
 |some p=>
  obtain ⟨was,m'⟩:=p
  go_wp2_with fail
  refine HM.out.mono ?_
  rintro e w3 ⟨rfl,hm3,hk3⟩
  go_wp2_with fail
  go_end0
  refine ⟨rfl,KO.trans HT2.out ?_⟩
  show KO F w2 own2 G { M with tab:=beT M.tab id 1,ring:=putRing M.ring id,mem:=accM M.mem 3 0 0 1} n w3
  rw[HA.out]
  exact H2.out.memmed HMo.out hk3 hm3
end
end Go.Proofs.YtaangaogmnlljaaGreatDoor.Kn
namespace Go.Proofs.YtaangaogmnlljaaGreatDoor.Kn
open Go.RowKit Asm
def reckV (x:InsL) (b c:Int):Int:=if x.op=1 then x.v else if x.op=2 then b else reckon x.op b c
theorem c64 (c:Int) (hv:0≤c∧c<18446744073709551616):bits .and .u64 c 63=c%64:=by
 obtain ⟨n,rfl⟩:=Int.eq_ofNat_of_zero_le hv.1
 have hn:n<18446744073709551616:=by omega
 have h1:(BitVec.ofInt 64 (n:Int)).toNat=n:=by rw[BitVec.toNat_ofInt];omega
 have h2:(BitVec.ofInt 64 63).toNat=63:=by decide
 show IntKind.u64.wrap ((BitVec.ofInt 64 (n:Int))&&& (BitVec.ofInt 64 63)).toNat=_
 rw[BitVec.toNat_and,h1,h2,show (63:Nat)=2^6 - 1 by decide,Nat.and_two_pow_sub_one_eq_mod,wraps_u64 _ (by omega) (by omega)]
 omega
set_option maxRecDepth 100000 in
set_option maxHeartbeats 1000000 in
theorem vreck_any (x:InsL) (b c:Int) (w:World) (hb:U64 b) (hc:U64 c) (ho:1≤x.op∧x.op≤11):Calls Tryz.prog 252 #[.agg (insV x), .int .u64 b, .int .u64 c] w fun e w'=>e= .returned (.int .u64 (reckV x b c))∧Below w.heap.size w w':=by
 obtain ⟨o,xa,xb,xc,xv,xm,xw⟩:=x
 simp only at ho
 have e:o=1∨o=2∨o=3∨o=4∨o=5∨o=6∨o=7∨o=8∨o=9∨o=10∨o=11:=by omega
 unfold U64 at hb hc
 unfold insV
 have HS:=Lib.hid (fun W=>sum_any 64 b c W hb hc)
 have HF:=Lib.hid (fun v W=>vflag_any v W)
 have HL:=Lib.hid (fun W=>less64_any b c W hb hc)
 rcases e with rfl|rfl|rfl|rfl|rfl|rfl|rfl|rfl|rfl|rfl|rfl
 ·go_enter Tryz.func252,Tryz.ntmps252
  go_wp2_with fail
  go_ret
  exact ⟨rfl,(Below.refl _ _).alloc (Nat.le_refl _) _⟩
 ·go_enter Tryz.func252,Tryz.ntmps252
  go_wp2_with fail
  go_ret
  exact ⟨rfl,(Below.refl _ _).alloc (Nat.le_refl _) _⟩
 ·go_enter Tryz.func252,Tryz.ntmps252
  go_wp2_with fail
  refine (HS.out _).mono ?_
  rintro e w1 ⟨rfl,rfl⟩
  go_wp2_with fail
  go_ret
  exact ⟨rfl,(Below.refl _ _).alloc (Nat.le_refl _) _⟩
 ·go_enter Tryz.func252,Tryz.ntmps252
  go_wp2_with fail
  refine (HL.out _).mono ?_
  rintro e w1 ⟨rfl,rfl⟩
  go_wp2_with fail
  go_ret
  exact ⟨rfl,(Below.refl _ _).alloc (Nat.le_refl _) _⟩
 ·go_enter Tryz.func252,Tryz.ntmps252
  go_wp2_with fail
  go_ret
  exact ⟨rfl,(Below.refl _ _).alloc (Nat.le_refl _) _⟩
 ·go_enter Tryz.func252,Tryz.ntmps252
  go_wp2_with fail
  go_ret
  exact ⟨rfl,(Below.refl _ _).alloc (Nat.le_refl _) _⟩
 ·go_enter Tryz.func252,Tryz.ntmps252
  go_wp2_with fail
  go_ret
  exact ⟨rfl,(Below.refl _ _).alloc (Nat.le_refl _) _⟩
 ·have hk:=c64 c hc
  have e0:0≤c%64:=by omega
  have e1:c%64<64:=by omega
  generalize hm:c%64=k at*
  have HM:=Lib.hid hm
  clear hm
  go_enter Tryz.func252,Tryz.ntmps252
  go_wp2_with fail
  go_ret
  have h:=HM.out
  subst h
  exact ⟨by first|(rw[IntKind.wrap_u64];rfl) |rfl,(Below.refl _ _).alloc (Nat.le_refl _) _⟩
 ·have hk:=c64 c hc
  have e0:0≤c%64:=by omega
  have e1:c%64<64:=by omega
  generalize hm:c%64=k at*
  have HM:=Lib.hid hm
  clear hm
  go_enter Tryz.func252,Tryz.ntmps252
  go_wp2_with fail
  go_ret
  have h:=HM.out
  subst h
  exact ⟨by first|(rw[IntKind.wrap_u64];rfl) |rfl,(Below.refl _ _).alloc (Nat.le_refl _) _⟩
 ·go_enter Tryz.func252,Tryz.ntmps252
  go_wp2_with fail
  refine (HF.out _ _).mono ?_
  rintro e w1 ⟨rfl,rfl⟩
  go_wp2_with fail
  go_ret
  exact ⟨rfl,(Below.refl _ _).alloc (Nat.le_refl _) _⟩
 ·go_enter Tryz.func252,Tryz.ntmps252
  go_wp2_with fail
  refine (HF.out _ _).mono ?_
  rintro e w1 ⟨rfl,rfl⟩
  go_wp2_with fail
  go_ret
  exact ⟨rfl,(Below.refl _ _).alloc (Nat.le_refl _) _⟩
theorem reckV_range (x:InsL) (b c:Int) (hb:U64 b) (hc:U64 c) (hv:U64 x.v) (ho:1≤x.op∧x.op≤11):U64 (reckV x b c):=by
 have hw: ∀y:Int,U64 (word y):=fun y=>by unfold U64 word;omega
 have hbits: ∀(o:BinOp) (p q:Int),U64 (bits o .u64 p q):=fun o p q=>by
  unfold bits U64
  simp only
  rw[IntKind.wrap_u64]
  omega
 have hy: ∀v:Bool,U64 (yesI v):=fun v=>by cases v<;>(unfold U64 yesI;simp)
 unfold reckV reckon
 repeat' split
 all_goals first
  |assumption
  |exact hw _
  |exact hbits _ _ _
  |exact hy _
  |skip
 ·unfold shr64 U64
  unfold U64 at hb
  have h2:(0:Int)<2^ (c%64).toNat:=Int.pow_pos (by decide)
  have h3:b/2^ (c%64).toNat≤b:=Int.ediv_le_self _ hb.1
  exact ⟨Int.ediv_nonneg hb.1 (Int.le_of_lt h2),by omega⟩
section
variable {w:World} {b o:Nat} {t:TypeId} {P S:List Value} {f:Frame} {bv:Value}
theorem vvalue_any (h:Lens w b o t P S f bv) (hl:f.r.length=32) (x:InsL) (hc:x.c= -1∨0≤x.c∧x.c<32):Calls Tryz.prog 254 #[.pointer (some ⟨b,o,none⟩), .agg (insV x)] w fun e w'=>e= .returned (.int .u64 (valC f x))∧Below w.heap.size w w':=by
 obtain ⟨xo,xa,xb,xc,xv,xm,xw⟩:=x
 simp only at hc
 unfold insV
 have hb:b<w.heap.size:=h.lt
 rcases hc with rfl|hc
 ·go_enter Tryz.func254,Tryz.ntmps254
  go_wp2_with fail
  go_ret
  exact ⟨rfl,(Below.refl _ _).alloc (Nat.le_refl _) _⟩
 ·have hb1:(xc== -1)=false:=by simp;omega
  have HR:=Lib.hid (fun (o':Obj)=>vread_any (h.of_block (w':=w.alloc o') (Below.heap_alloc _ _ _ (by omega))) hl xc hc.1 hc.2)
  have e0:valC f ⟨xo,xa,xb,xc,xv,xm,xw⟩=rg f xc:=by unfold valC;rw[if_neg (by simp only;omega)]
  rw[e0]
  clear h hc e0
  go_enter Tryz.func254,Tryz.ntmps254
  go_wp2_with fail
  refine (HR.out _).mono ?_
  rintro e w1 ⟨rfl,rfl⟩
  go_wp2_with fail
  go_ret
  exact ⟨rfl,(Below.refl _ _).alloc (Nat.le_refl _) _⟩
theorem rg_range {f:Frame} (hr: ∀x∈f.r,U64 x) (n:Int):U64 (rg f n):=by
 unfold rg
 rw[List.getD_eq_getElem?_getD]
 cases h:f.r[n.toNat]? with
 |none=>exact u64_0
 |some x=>exact hr x (List.mem_of_getElem? h)
theorem vaddr_any (h:Lens w b o t P S f bv) (hf: ∀x∈f.r,U64 x) (hl:f.r.length=32) (x:InsL) (hv:U64 x.v) (hc:x.b= -1∨0≤x.b∧x.b<32):Calls Tryz.prog 201 #[.pointer (some ⟨b,o,none⟩), .agg (insV x)] w fun e w'=>e= .returned (.int .u64 (addrB f x))∧Below w.heap.size w w':=by
 obtain ⟨xo,xa,xb,xc,xv,xm,xw⟩:=x
 simp only at hc hv
 unfold insV
 have hb:b<w.heap.size:=h.lt
 rcases hc with rfl|hc
 ·go_enter Tryz.func201,Tryz.ntmps201
  go_wp2_with fail
  go_ret
  exact ⟨rfl,(Below.refl _ _).alloc (Nat.le_refl _) _⟩
 ·have hb1:(xb== -1)=false:=by simp;omega
  have HR:=Lib.hid (fun (o':Obj) (n:Nat)=>vread_any (h.of_block (w':=(w.alloc o').drewN n) (Below.heap_alloc _ _ _ (by omega))) hl xb hc.1 hc.2)
  have e0:addrB f ⟨xo,xa,xb,xc,xv,xm,xw⟩=word (rg f xb+xv):=by unfold addrB;rw[if_neg (by simp only;omega)]
  have HS:=Lib.hid (fun W=>sum_any 64 (rg f xb) xv W (rg_range hf xb) hv)
  have e1:sumW 64 (rg f xb) xv=word (rg f xb+xv):=by unfold sumW cutW word;simp
  rw[e1] at HS
  rw[e0]
  clear h hc e0 hf e1
  generalize word (rg f xb+xv)=r at*
  generalize rg f xb=rb at*
  go_enter Tryz.func201,Tryz.ntmps201
  go_wp2_with fail
  go_quiet (first
   |(go_at_call 253;exact quiet_lf (HR.out _ _))
   |(go_at_call 259;exact quiet_lf (HS.out _)))
  go_wp2_with fail
  go_ret
  exact ⟨rfl,below_dn ((Below.refl _ _).alloc (Nat.le_refl _) _) _⟩
end
end Go.Proofs.YtaangaogmnlljaaGreatDoor.Kn
