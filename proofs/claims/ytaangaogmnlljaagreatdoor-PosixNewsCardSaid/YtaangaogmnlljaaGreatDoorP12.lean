/- Part 12 of what the proof stands on: KnMach, RdParts, RdNews, RdOps, RdOps2, RdCopy, RdHS, KnVm, KnTell, KnSmall, KnVmB, KnVmJ. -/
import Derived.Test.YtaangaogmnlljaaGreatDoorP09
set_option linter.unusedVariables false
set_option maxRecDepth 100000
set_option maxHeartbeats 40000000
namespace Go.Proofs.YtaangaogmnlljaaGreatDoor.Kn
open Go.RowKit Go.Maps Asm
inductive Tag where
 |other|mach|mem|alc|clk|ring|wq|tab|obj|map|wk|fixed|ev
 |thr (id:Int) |row (id:Int) |fr (id:Int) (n:Nat) |back (id:Int) (n:Nat) |wback (n:Nat)
abbrev Own:=Nat→Tag
structure Touch (ts:Tag→Prop) (w w':World) (own own':Own):Prop where
 keeps:Keeps (fun b=>ts (own b)) w w'
 own: ∀b,b<w.heap.size→own' b=own b
theorem Touch.refl (ts:Tag→Prop) (w:World) (own:Own):Touch ts w w own own:=⟨Keeps.refl _ w,fun _ _=>rfl⟩
theorem Touch.mono {ts us:Tag→Prop} {w w':World} {o o':Own} (h:Touch ts w w' o o') (hs: ∀t,ts t→us t):Touch us w w' o o':=⟨h.keeps.mono fun _ hx=>hs _ hx,h.own⟩
theorem Touch.trans {ts:Tag→Prop} {w1 w2 w3:World} {o1 o2 o3:Own} (h:Touch ts w1 w2 o1 o2) (k:Touch ts w2 w3 o2 o3):Touch ts w1 w3 o1 o3:=
 ⟨h.keeps.trans k.keeps fun i hi=>by
  by_cases hl:i<w1.heap.size
  ·rw[h.own i hl] at hi;exact Or.inl hi
  ·exact Or.inr (by omega),fun b hb=>(k.own b (Nat.lt_of_lt_of_le hb h.keeps.size)).trans (h.own b hb)⟩
def ext (own:Own) (n:Nat) (t:Tag):Own:=fun b=>if b<n then own b else t
theorem ext_lt {own:Own} {n:Nat} {t:Tag} {b:Nat} (h:b<n):ext own n t b=own b:=if_pos h
theorem ext_tag {own:Own} {n:Nat} {t:Tag} {b:Nat} (h:own b=t∨n≤b):ext own n t b=t:=by
 unfold ext
 split
 ·rcases h with h|h
  ·exact h
  ·omega
 ·rfl
theorem touch_of {X:Nat→Prop} {ts:Tag→Prop} {t:Tag} {w w':World} {own:Own} (h:Keeps X w w') (hX: ∀b,X b→ts (own b)):Touch ts w w' own (ext own w.heap.size t):=
 ⟨h.mono hX,fun _ hb=>ext_lt hb⟩
theorem touch_below {ts:Tag→Prop} {t:Tag} {w w':World} {own:Own} (h:Below w.heap.size w w'):Touch ts w w' own (ext own w.heap.size t):=
 ⟨Keeps.ofBelow h,fun _ hb=>ext_lt hb⟩
theorem touch_drew {ts:Tag→Prop} (w:World) (own:Own):Touch ts w w.drew own own:=⟨(Keeps.refl _ w).drew,fun _ _=>rfl⟩
theorem touch_drewN {ts:Tag→Prop} (w:World) (own:Own) (q:Nat):Touch ts w (w.drewN q) own own:=⟨(Keeps.refl _ w).drewN q,fun _ _=>rfl⟩
theorem Touch.at {ts:Tag→Prop} {w w':World} {o o':Own} (k:Touch ts w w' o o') {t:Tag} (hn: ¬ts t) {b:Nat} (hb:o b=t) (hl:b<w.heap.size):w'.heap[b]?=w.heap[b]?∧o' b=t:=
 ⟨k.keeps.block b hl fun h=>hn (by rw[hb] at h;exact h),(k.own b hl).trans hb⟩
structure KG where
 K:Nat
 X:Nat
 A:Nat
 C:Nat
 R:Nat
 Q:Nat
 T:Nat
 O:Nat
 th:Nat
 gW:Nat
 lv:Value
 cv:Value
 pv:Value
 tb:Int→Nat
 fb:Int→Nat→Nat
section
variable {w w':World} {own own':Own} {ts:Tag→Prop}
def PMem (w:World) (own:Own) (X:Nat) (m:Mem):Prop:= ∃gc gw,MemP w X gc gw m∧ ∀b,b=X∨b=gc∨b=gw→own b= .mem
theorem PMem.move {X:Nat} {m:Mem} (h:PMem w own X m) (k:Touch ts w w' own own') (hn: ¬ts .mem):PMem w' own' X m:=by
 obtain ⟨gc,gw,hP,ho⟩:=h
 have hl: ∀b,b=X∨b=gc∨b=gw→b<w.heap.size:=by
  obtain ⟨l1,l2,l3⟩:=hP.lt
  rintro b (rfl|rfl|rfl)<;>assumption
 exact ⟨gc,gw,hP.of_blocks fun b hb=>(k.at hn (ho b hb) (hl b hb)).1,fun b hb=>(k.at hn (ho b hb) (hl b hb)).2⟩
def PAlc (w:World) (own:Own) (A X:Nat) (a:Alc):Prop:= ∃v,AlcP w A X v a∧ ∀b,OfA A v b→own b= .alc
theorem PAlc.move {A X:Nat} {a:Alc} (h:PAlc w own A X a) (k:Touch ts w w' own own') (hn: ¬ts .alc):PAlc w' own' A X a:=by
 obtain ⟨v,hP,ho⟩:=h
 exact ⟨v,hP.of_blocks fun b hb=>(k.at hn (ho b hb) (hP.of_lt hb)).1,fun b hb=>(k.at hn (ho b hb) (hP.of_lt hb)).2⟩
def PClk (w:World) (own:Own) (C:Nat) (c:Clk) (n:Nat):Prop:= ∃hb hm v ab N K,ClkP w C hb hm v ab c N K∧(∀b,OfC C hb hm v ab b→own b= .clk)∧N+3010*c.S.length≤6020*n∧K≤n∧c.last≤n∧0≤c.last∧c.now≤n
theorem PClk.move {C:Nat} {c:Clk} {n:Nat} (h:PClk w own C c n) (k:Touch ts w w' own own') (hn: ¬ts .clk):PClk w' own' C c n:=by
 obtain ⟨hb,hm,v,ab,N,K,hP,ho,h2⟩:=h
 exact ⟨hb,hm,v,ab,N,K,hP.of_blocks fun b hb=>(k.at hn (ho b hb) (hP.lt hb)).1,fun b hb=>(k.at hn (ho b hb) (hP.lt hb)).2,h2⟩
def PRing (w:World) (own:Own) (R:Nat) (l:List Int):Prop:= ∃gr,RingP w R gr l∧ ∀b,b=R∨b=gr→own b= .ring
theorem PRing.move {R:Nat} {l:List Int} (h:PRing w own R l) (k:Touch ts w w' own own') (hn: ¬ts .ring):PRing w' own' R l:=by
 obtain ⟨gr,hP,ho⟩:=h
 have hl: ∀b,b=R∨b=gr→b<w.heap.size:=by
  obtain ⟨l1,l2⟩:=hP.lt
  rintro b (rfl|rfl)<;>assumption
 exact ⟨gr,hP.of_blocks fun b hb=>(k.at hn (ho b hb) (hl b hb)).1,fun b hb=>(k.at hn (ho b hb) (hl b hb)).2⟩
def PWq (w:World) (own:Own) (Q:Nat) (l:List Slp) (n:Nat):Prop:= ∃gl mb B N,WqP w Q gl mb B l N∧(∀b,OfQ Q gl mb B l b→own b= .wq)∧N≤n
theorem PWq.move {Q:Nat} {l:List Slp} {n:Nat} (h:PWq w own Q l n) (k:Touch ts w w' own own') (hn: ¬ts .wq):PWq w' own' Q l n:=by
 obtain ⟨gl,mb,B,N,hP,ho,h2⟩:=h
 exact ⟨gl,mb,B,N,hP.of_blocks fun b hb=>(k.at hn (ho b hb) (hP.lt hb)).1,fun b hb=>(k.at hn (ho b hb) (hP.lt hb)).2,h2⟩
def PTab (w:World) (own:Own) (T:Nat) (l:List TRow) (n:Nat):Prop:= ∃gt N,TabP w T gt l N∧(∀b,b=T∨b=gt→own b= .tab)∧N≤n
theorem PTab.move {T:Nat} {l:List TRow} {n:Nat} (h:PTab w own T l n) (k:Touch ts w w' own own') (hn: ¬ts .tab):PTab w' own' T l n:=by
 obtain ⟨gt,N,hP,ho,h2⟩:=h
 have hl: ∀b,b=T∨b=gt→b<w.heap.size:=by
  obtain ⟨l1,l2⟩:=hP.lt
  rintro b (rfl|rfl)<;>assumption
 exact ⟨gt,N,hP.of_blocks fun b hb=>(k.at hn (ho b hb) (hl b hb)).1,fun b hb=>(k.at hn (ho b hb) (hl b hb)).2,h2⟩
def PObj (w:World) (own:Own) (O:Nat) (l:List ORow) (n:Nat):Prop:= ∃go N,ObjP w O go l N∧(∀b,b=O∨b=go→own b= .obj)∧N≤n
theorem PObj.move {O:Nat} {l:List ORow} {n:Nat} (h:PObj w own O l n) (k:Touch ts w w' own own') (hn: ¬ts .obj):PObj w' own' O l n:=by
 obtain ⟨go,N,hP,ho,h2⟩:=h
 have hl: ∀b,b=O∨b=go→b<w.heap.size:=by
  obtain ⟨l1,l2⟩:=hP.lt
  rintro b (rfl|rfl)<;>assumption
 exact ⟨go,N,hP.of_blocks fun b hb=>(k.at hn (ho b hb) (hl b hb)).1,fun b hb=>(k.at hn (ho b hb) (hl b hb)).2,h2⟩
def PRow (w:World) (own:Own) (t:Tag) (e:TypeId) (size:Nat) (v:Value) (n:Nat) (xs:List Value):Prop:=w.ownsRow 0 e size v n xs∧ ∀b,v.ownBlock=some b→own b=t
theorem PRow.lt {t:Tag} {e:TypeId} {size n:Nat} {v:Value} {xs:List Value} (h:PRow w own t e size v n xs) {b:Nat} (hb:v.ownBlock=some b):b<w.heap.size:=by
 obtain ⟨cur,hc⟩:=Asm.row_block h.1 hb
 exact blk_in hc
theorem PRow.move {t:Tag} {e:TypeId} {size n:Nat} {v:Value} {xs:List Value} (h:PRow w own t e size v n xs) (k:Touch ts w w' own own') (hn: ¬ts t):PRow w' own' t e size v n xs:=
 ⟨Asm.ownsRow_of_block h.1 fun b hb=>(k.at hn (h.2 b hb) (h.lt hb)).1,fun b hb=>(k.at hn (h.2 b hb) (h.lt hb)).2⟩
def intC (l:List Int):List Value:=l.map fun x=> .int .i64 x
def frC (f:Frame) (bv:Value):List Value:= .int .i64 f.pc::(f.r.map fun x=>Value.int .u64 x)++ [bv]
structure FrOk (n:Nat) (f:Frame):Prop where
 len:f.r.length=32
 r: ∀x∈f.r,U64 x
 pc:0≤f.pc∧f.pc≤4000+n
 few:f.back.length≤8
 back: ∀x∈f.back,0≤x∧x≤4000+n
theorem FrOk.more {n n':Nat} {f:Frame} (h:FrOk n f) (hn:n≤n'):FrOk n' f:=
 ⟨h.len,h.r,⟨h.pc.1,by have:=h.pc.2;omega⟩,h.few,fun x hx=>⟨(h.back x hx).1,by have:=(h.back x hx).2;omega⟩⟩
structure FrP (w:World) (own:Own) (id:Int) (i b:Nat) (fr:Fr) (n:Nat):Prop where
 mine:own b= .fr id i
 ok:FrOk n fr.f
 num:0≤fr.num∧fr.num<1000
 obj: ∃bv,w.heap[b]?=some (.cells (frC fr.f bv++ [Value.bool fr.lib,Value.int .i64 fr.num]).toArray 284 (0,0))∧PRow w own (.back id i) 3 1 bv fr.f.back.length (intC fr.f.back)
theorem FrP.lt {id:Int} {i b n:Nat} {fr:Fr} (h:FrP w own id i b fr n):b<w.heap.size:=by obtain ⟨bv,h,_⟩:=h.obj;exact blk_in h
theorem FrP.move {id:Int} {i b n:Nat} {fr:Fr} (h:FrP w own id i b fr n) (k:Touch ts w w' own own') (h1: ¬ts (.fr id i)) (h2: ¬ts (.back id i)):FrP w' own' id i b fr n:=by
 obtain ⟨bv,ho,hr⟩:=h.obj
 exact ⟨(k.at h1 h.mine (blk_in ho)).2,h.ok,h.num,bv,(k.at h1 h.mine (blk_in ho)).1.trans ho,hr.move k h2⟩
theorem FrP.more {id:Int} {i b n n':Nat} {fr:Fr} (h:FrP w own id i b fr n) (hn:n≤n'):FrP w own id i b fr n':=⟨h.mine,h.ok.more hn,h.num,h.obj⟩
def fptrs (fb:Int→Nat→Nat) (r:Run):List Value:=(List.range r.l.length).map fun i=> .pointer (some ⟨fb r.id i,0,none⟩)
structure RunP (w:World) (own:Own) (tb:Int→Nat) (fb:Int→Nat→Nat) (r:Run) (n:Nat):Prop where
 mine:own (tb r.id)= .thr r.id
 id:r.id≠0∧U64 r.id
 woken:U64 r.woken
 few:r.l.length≤100
 obj: ∃lv,w.heap[tb r.id]?=some (.cells #[.int .u64 r.id,lv, .int .u64 r.woken] 281 (0,0))∧PRow w own (.row r.id) 282 1 lv r.l.length (fptrs fb r)
 frs: ∀i fr,r.l[i]?=some fr→FrP w own r.id i (fb r.id i) fr n
theorem RunP.move {tb:Int→Nat} {fb:Int→Nat→Nat} {r:Run} {n:Nat} (h:RunP w own tb fb r n) (k:Touch ts w w' own own') (h1: ¬ts (.thr r.id)) (h2: ¬ts (.row r.id)) (h3: ∀i,¬ts (.fr r.id i)) (h4: ∀i,¬ts (.back r.id i)):RunP w' own' tb fb r n:=by
 obtain ⟨lv,ho,hr⟩:=h.obj
 exact ⟨(k.at h1 h.mine (blk_in ho)).2,h.id,h.woken,h.few,⟨lv,(k.at h1 h.mine (blk_in ho)).1.trans ho,hr.move k h2⟩,fun i fr hi=>(h.frs i fr hi).move k (h3 i) (h4 i)⟩
theorem RunP.more {tb:Int→Nat} {fb:Int→Nat→Nat} {r:Run} {n n':Nat} (h:RunP w own tb fb r n) (hn:n≤n'):RunP w own tb fb r n':=⟨h.mine,h.id,h.woken,h.few,h.obj,fun i fr hi=>(h.frs i fr hi).more hn⟩
def NoThr (ts:Tag→Prop):Prop:= ¬ts .map∧ ∀id,¬ts (.thr id)∧ ¬ts (.row id)∧ ∀i,¬ts (.fr id i)∧ ¬ts (.back id i)
structure PRuns (w:World) (own:Own) (th:Nat) (tb:Int→Nat) (fb:Int→Nat→Nat) (l:List Run) (n:Nat):Prop where
 nod:(l.map (·.id)).Nodup
 mine:own th= .map
 map: ∃N,GMap ptrs w th (fun id=>(runOf l id).map fun _=>tb id) N∧N≤n+1
 each: ∀r∈l,RunP w own tb fb r n
theorem PRuns.move {th:Nat} {tb:Int→Nat} {fb:Int→Nat→Nat} {l:List Run} {n:Nat} (h:PRuns w own th tb fb l n) (k:Touch ts w w' own own') (hn:NoThr ts):PRuns w' own' th tb fb l n:=by
 obtain ⟨N,hm,hN⟩:=h.map
 obtain ⟨h0,h1⟩:=hn
 exact ⟨h.nod,(k.at h0 h.mine hm.lt).2,⟨N,hm.of_block (k.at h0 h.mine hm.lt).1,hN⟩,fun r hr=>(h.each r hr).move k (h1 _).1 (h1 _).2.1 (fun i=>((h1 _).2.2 i).1) fun i=>((h1 _).2.2 i).2⟩
theorem PRuns.more {th:Nat} {tb:Int→Nat} {fb:Int→Nat→Nat} {l:List Run} {n n':Nat} (h:PRuns w own th tb fb l n) (hn:n≤n'):PRuns w own th tb fb l n':=by
 obtain ⟨N,hm,hN⟩:=h.map
 exact ⟨h.nod,h.mine,⟨N,hm,by omega⟩,fun r hr=>(h.each r hr).more hn⟩
def wk38 (p:Wkr×Value):List Value:= [.int .u64 p.1.slot, .int .u64 p.1.hand, .bool p.1.parked, .int .i64 p.1.left]++frC p.1.f p.2
structure WkOk (n:Nat) (k:Wkr):Prop where
 slot:U64 k.slot
 hand:U64 k.hand
 left:0≤k.left∧k.left≤100
 f:FrOk n k.f
def PWk (w:World) (own:Own) (gW:Nat) (l:List Wkr) (n:Nat):Prop:=own gW= .wk∧ ∃L:List (Wkr×Value),L.map (·.1)=l∧w.heap[gW]?=some (.cells (L.flatMap wk38).toArray 166 (0,0))∧ ∀i p,L[i]?=some p→WkOk n p.1∧PRow w own (.wback i) 3 1 p.2 p.1.f.back.length (intC p.1.f.back)
def NoWk (ts:Tag→Prop):Prop:= ¬ts .wk∧ ∀i,¬ts (.wback i)
theorem PWk.move {gW:Nat} {l:List Wkr} {n:Nat} (h:PWk w own gW l n) (k:Touch ts w w' own own') (hn:NoWk ts):PWk w' own' gW l n:=by
 obtain ⟨h0,L,h1,h2,h3⟩:=h
 exact ⟨(k.at hn.1 h0 (blk_in h2)).2,L,h1,(k.at hn.1 h0 (blk_in h2)).1.trans h2,fun i p hp=>⟨(h3 i p hp).1,(h3 i p hp).2.move k (hn.2 i)⟩⟩
theorem PWk.more {gW:Nat} {l:List Wkr} {n n':Nat} (h:PWk w own gW l n) (hn:n≤n'):PWk w own gW l n':=by
 obtain ⟨h0,L,h1,h2,h3⟩:=h
 exact ⟨h0,L,h1,h2,fun i p hp=>⟨⟨(h3 i p hp).1.slot,(h3 i p hp).1.hand,(h3 i p hp).1.left,(h3 i p hp).1.f.more hn⟩,(h3 i p hp).2⟩⟩
end
def ev11 (e:Ev):List Value:= [.int .i64 e.kind, .int .i64 e.pos, .int .i64 e.w, .int .u64 e.t, .int .i64 e.num, .int .u64 e.a0, .int .u64 e.a1, .int .u64 e.a2, .int .u64 e.a3, .int .u64 e.v, .int .u64 e.code]
def evC (l:List Ev):List Value:=l.flatMap ev11
def row6 (r:RowL):List Value:= [.int .i64 r.num, .int .i64 r.pos, .int .i64 r.k0, .int .i64 r.k1, .int .i64 r.k2, .int .i64 r.k3]
def callC (l:List RowL):List Value:=l.flatMap row6
def rowIx (l:List RowL) (num:Int):Nat:=match l.findIdx? (fun r=>r.num==num) with
 |some i=>i+1
 |none=>0
structure MachC (C:Array Value) (F:Fixed) (G:KG) (M:Mach) (ov:Value):Prop where
 size:C.size=1021
 lib:C[0]?=some G.lv
 loop:C[1]?=some (.int .i64 F.loop)
 calls:C[2]?=some G.cv
 code:C[3]?=some G.pv
 wide:C[5]?=some (.int .i64 F.wide)
 narrow:C[6]?=some (.int .i64 F.narrow)
 rows: ∀i:Nat,i<1000→C[7+i]?=some (.int .i64 (rowIx F.calls i))
 mem:C[1007]?=some (.pointer (some ⟨G.X,0,none⟩))
 alc:C[1008]?=some (.pointer (some ⟨G.A,0,none⟩))
 clk:C[1009]?=some (.pointer (some ⟨G.C,0,none⟩))
 ring:C[1010]?=some (.pointer (some ⟨G.R,0,none⟩))
 wq:C[1011]?=some (.pointer (some ⟨G.Q,0,none⟩))
 tab:C[1012]?=some (.pointer (some ⟨G.T,0,none⟩))
 obj:C[1013]?=some (.pointer (some ⟨G.O,0,none⟩))
 th:C[1014]?=some (.map (some G.th))
 wk:C[1015]?=some (.slice (some ⟨G.gW,0,none⟩) F.workers F.workers)
 entries:C[1016]?=some (.int .i64 M.entries)
 pos:C[1017]?=some (.int .i64 M.pos)
 w:C[1018]?=some (.int .i64 M.w)
 draw:C[1019]?=some (.int .u64 M.draw)
 out:C[1020]?=some ov
def mayLib (F:Fixed):Prop:= ∀x∈F.lib,mayK x F.lib.length true=true
def mayCode (F:Fixed):Prop:= ∀x∈F.code,mayK x F.code.length false=true
structure FixOk (F:Fixed):Prop where
 lib:0<F.lib.length∧F.lib.length≤2048
 loop:0≤F.loop∧F.loop<F.lib.length
 libs:mayLib F
 code:0<F.code.length∧F.code.length≤2048
 codes:mayCode F
 libv: ∀x∈F.lib,U64 x.v
 codev: ∀x∈F.code,U64 x.v
 wide:0≤F.wide∧0≤F.narrow∧F.wide+F.narrow≤256
 workers:1≤F.workers∧F.workers≤64
 few:F.calls.length≤999
 nod:(F.calls.map (·.num)).Nodup
 calls: ∀r∈F.calls,1≤r.num∧r.num≤999∧0≤r.pos∧r.pos<F.lib.length∧(0≤r.k0∧r.k0≤7)∧(0≤r.k1∧r.k1≤7)∧(0≤r.k2∧r.k2≤7)∧(0≤r.k3∧r.k3≤7)
structure PFix (w:World) (own:Own) (F:Fixed) (G:KG):Prop where
 lib:PRow w own .fixed 68 7 G.lv F.lib.length (codeC F.lib)
 calls:PRow w own .fixed 184 6 G.cv F.calls.length (callC F.calls)
 code:PRow w own .fixed 68 7 G.pv F.code.length (codeC F.code)
structure KMach (w:World) (own:Own) (F:Fixed) (G:KG) (M:Mach):Prop where
 mine:own G.K= .mach
 obj: ∃C ov,w.heap[G.K]?=some (.cells C 159 (0,0))∧MachC C F G M ov∧PRow w own .ev 71 11 ov M.out.length (evC M.out)
structure NumOk (M:Mach) (F:Fixed) (n:Nat):Prop where
 entries:0≤M.entries∧M.entries≤n
 pos:0≤M.pos∧M.pos≤n
 w: -1≤M.w∧M.w<64
 draw:U64 M.draw
 wk:M.wkrs.length=F.workers
 out:M.out.length≤1000000
structure KernP (F:Fixed) (w:World) (own:Own) (G:KG) (M:Mach) (n:Nat):Prop where
 fok:FixOk F
 num:NumOk M F n
 k:KMach w own F G M
 fix:PFix w own F G
 mem:PMem w own G.X M.mem
 alc:PAlc w own G.A G.X M.alc
 clk:PClk w own G.C M.clk n
 ring:PRing w own G.R M.ring
 wq:PWq w own G.Q M.slps n
 tab:PTab w own G.T M.tab n
 obj:PObj w own G.O M.objs n
 runs:PRuns w own G.th G.tb G.fb M.runs n
 wk:PWk w own G.gW M.wkrs n
section
variable {w w':World} {own own':Own} {ts:Tag→Prop} {F:Fixed} {G:KG} {M:Mach} {n n':Nat}
theorem KMach.move (h:KMach w own F G M) (k:Touch ts w w' own own') (h1: ¬ts .mach) (h2: ¬ts .ev):KMach w' own' F G M:=by
 obtain ⟨C,ov,ho,hc,hr⟩:=h.obj
 exact ⟨(k.at h1 h.mine (blk_in ho)).2,C,ov,(k.at h1 h.mine (blk_in ho)).1.trans ho,hc,hr.move k h2⟩
theorem PFix.move (h:PFix w own F G) (k:Touch ts w w' own own') (h1: ¬ts .fixed):PFix w' own' F G:=⟨h.lib.move k h1,h.calls.move k h1,h.code.move k h1⟩
theorem KernP.move (h:KernP F w own G M n) (k:Touch (· = .other) w w' own own'):KernP F w' own' G M n:=
 ⟨h.fok,h.num,h.k.move k nofun nofun,h.fix.move k nofun,h.mem.move k nofun,h.alc.move k nofun,h.clk.move k nofun,h.ring.move k nofun,h.wq.move k nofun,h.tab.move k nofun,h.obj.move k nofun,h.runs.move k ⟨nofun,fun _=>⟨nofun,nofun,fun _=>⟨nofun,nofun⟩⟩⟩,h.wk.move k ⟨nofun,fun _=>nofun⟩⟩
theorem PClk.more {C:Nat} {c:Clk} (h:PClk w own C c n) (hn:n≤n'):PClk w own C c n':=by
 obtain ⟨hb,hm,v,ab,N,K,hP,ho,h1,h2,h3,h4,h5⟩:=h
 exact ⟨hb,hm,v,ab,N,K,hP,ho,by omega,by omega,by omega,h4,by omega⟩
theorem PWq.more {Q:Nat} {l:List Slp} (h:PWq w own Q l n) (hn:n≤n'):PWq w own Q l n':=by
 obtain ⟨gl,mb,B,N,hP,ho,h2⟩:=h
 exact ⟨gl,mb,B,N,hP,ho,by omega⟩
theorem PTab.more {T:Nat} {l:List TRow} (h:PTab w own T l n) (hn:n≤n'):PTab w own T l n':=by
 obtain ⟨gt,N,hP,ho,h2⟩:=h
 exact ⟨gt,N,hP,ho,by omega⟩
theorem PObj.more {O:Nat} {l:List ORow} (h:PObj w own O l n) (hn:n≤n'):PObj w own O l n':=by
 obtain ⟨gt,N,hP,ho,h2⟩:=h
 exact ⟨gt,N,hP,ho,by omega⟩
theorem KernP.more (h:KernP F w own G M n) (hn:n≤n'):KernP F w own G M n':=
 ⟨h.fok,⟨⟨h.num.entries.1,by have:=h.num.entries;omega⟩,⟨h.num.pos.1,by have:=h.num.pos;omega⟩,h.num.w,h.num.draw,h.num.wk,h.num.out⟩,h.k,h.fix,h.mem,h.alc,h.clk.more hn,h.ring,h.wq.more hn,h.tab.more hn,h.obj.more hn,h.runs.more hn,h.wk.more hn⟩
theorem KernP.on_mem (h:KernP F w own G M n) (k:Touch (· = .mem) w w' own own') {m:Mem} (hp:PMem w' own' G.X m):KernP F w' own' G { M with mem:=m} n:=
 ⟨h.fok,⟨h.num.entries,h.num.pos,h.num.w,h.num.draw,h.num.wk,h.num.out⟩,⟨(h.k.move k nofun nofun).mine,by obtain ⟨C,ov,a,b,c⟩:=(h.k.move k nofun nofun).obj;exact ⟨C,ov,a,⟨b.size,b.lib,b.loop,b.calls,b.code,b.wide,b.narrow,b.rows,b.mem,b.alc,b.clk,b.ring,b.wq,b.tab,b.obj,b.th,b.wk,b.entries,b.pos,b.w,b.draw,b.out⟩,c⟩⟩,h.fix.move k nofun,hp,h.alc.move k nofun,h.clk.move k nofun,h.ring.move k nofun,h.wq.move k nofun,h.tab.move k nofun,h.obj.move k nofun,h.runs.move k ⟨nofun,fun _=>⟨nofun,nofun,fun _=>⟨nofun,nofun⟩⟩⟩,h.wk.move k ⟨nofun,fun _=>nofun⟩⟩
theorem KMach.same (h:KMach w own F G M) {M':Mach} (e1:M'.entries=M.entries) (e2:M'.pos=M.pos) (e3:M'.w=M.w) (e4:M'.draw=M.draw) (e5:M'.out=M.out):KMach w own F G M':=by
 obtain ⟨C,ov,a,b,c⟩:=h.obj
 refine ⟨h.mine,C,ov,a,⟨b.size,b.lib,b.loop,b.calls,b.code,b.wide,b.narrow,b.rows,b.mem,b.alc,b.clk,b.ring,b.wq,b.tab,b.obj,b.th,b.wk,?_,?_,?_,?_,b.out⟩,?_⟩
 ·rw[e1];exact b.entries
 ·rw[e2];exact b.pos
 ·rw[e3];exact b.w
 ·rw[e4];exact b.draw
 ·rw[e5];exact c
theorem KernP.on_tab (h:KernP F w own G M n) (k:Touch (· = .tab) w w' own own') {l:List TRow} (hn:n≤n') (hp:PTab w' own' G.T l n'):KernP F w' own' G { M with tab:=l} n':=
 let h:=h.more hn
 ⟨h.fok,⟨h.num.entries,h.num.pos,h.num.w,h.num.draw,h.num.wk,h.num.out⟩,(h.k.move k nofun nofun).same rfl rfl rfl rfl rfl,h.fix.move k nofun,h.mem.move k nofun,h.alc.move k nofun,h.clk.move k nofun,h.ring.move k nofun,h.wq.move k nofun,hp,h.obj.move k nofun,h.runs.move k ⟨nofun,fun _=>⟨nofun,nofun,fun _=>⟨nofun,nofun⟩⟩⟩,h.wk.move k ⟨nofun,fun _=>nofun⟩⟩
theorem KernP.on_ring (h:KernP F w own G M n) (k:Touch (· = .ring) w w' own own') {l:List Int} (hp:PRing w' own' G.R l):KernP F w' own' G { M with ring:=l} n:=
 ⟨h.fok,⟨h.num.entries,h.num.pos,h.num.w,h.num.draw,h.num.wk,h.num.out⟩,(h.k.move k nofun nofun).same rfl rfl rfl rfl rfl,h.fix.move k nofun,h.mem.move k nofun,h.alc.move k nofun,h.clk.move k nofun,hp,h.wq.move k nofun,h.tab.move k nofun,h.obj.move k nofun,h.runs.move k ⟨nofun,fun _=>⟨nofun,nofun,fun _=>⟨nofun,nofun⟩⟩⟩,h.wk.move k ⟨nofun,fun _=>nofun⟩⟩
theorem KernP.on_alc (h:KernP F w own G M n) (k:Touch (fun t=>t= .alc∨t= .mem) w w' own own') {a:Alc} {m:Mem} (hp:PAlc w' own' G.A G.X a) (hm:PMem w' own' G.X m):KernP F w' own' G { M with alc:=a,mem:=m} n:=
 ⟨h.fok,⟨h.num.entries,h.num.pos,h.num.w,h.num.draw,h.num.wk,h.num.out⟩,(h.k.move k nofun nofun).same rfl rfl rfl rfl rfl,h.fix.move k nofun,hm,hp,h.clk.move k nofun,h.ring.move k nofun,h.wq.move k nofun,h.tab.move k nofun,h.obj.move k nofun,h.runs.move k ⟨nofun,fun _=>⟨nofun,nofun,fun _=>⟨nofun,nofun⟩⟩⟩,h.wk.move k ⟨nofun,fun _=>nofun⟩⟩
def ofRuns (t:Tag):Prop:=match t with
 | .map| .thr _| .row _| .fr _ _| .back _ _=>True
 |_=>False
theorem KernP.on_runs (h:KernP F w own G M n) (k:Touch ofRuns w w' own own') {l:List Run} {tb:Int→Nat} {fb:Int→Nat→Nat} (hn:n≤n') (hp:PRuns w' own' G.th tb fb l n'):KernP F w' own' { G with tb:=tb,fb:=fb} { M with runs:=l} n':=
 let h:=h.more hn
 ⟨h.fok,⟨h.num.entries,h.num.pos,h.num.w,h.num.draw,h.num.wk,h.num.out⟩,⟨(h.k.move k id id).mine,by obtain ⟨C,ov,a,b,c⟩:=(h.k.move k id id).obj;exact ⟨C,ov,a,⟨b.size,b.lib,b.loop,b.calls,b.code,b.wide,b.narrow,b.rows,b.mem,b.alc,b.clk,b.ring,b.wq,b.tab,b.obj,b.th,b.wk,b.entries,b.pos,b.w,b.draw,b.out⟩,c⟩⟩,⟨(h.fix.move k id).lib,(h.fix.move k id).calls,(h.fix.move k id).code⟩,h.mem.move k id,h.alc.move k id,h.clk.move k id,h.ring.move k id,h.wq.move k id,h.tab.move k id,h.obj.move k id,hp,h.wk.move k ⟨id,fun _=>id⟩⟩
def ofWk (t:Tag):Prop:=match t with
 | .wk| .wback _=>True
 |_=>False
end
end Go.Proofs.YtaangaogmnlljaaGreatDoor.Kn
namespace Go.Proofs.YtaangaogmnlljaaGreatDoor.Kn
open Go.RowKit Go.Maps Asm
def ptrV (b:Nat):Value:= .pointer (some ⟨b,0,none⟩)
def i64A (l:List Int):Array Value:=(l.map fun x=>Value.int .i64 x).toArray
def u64V (l:List Int):List Value:=l.map fun x=> .int .u64 x
structure RMemP (w:World) (X gw gh:Nat) (m:Mem):Prop where
 ok:MemOk m
 obj: ∃N,w.heap[X]?=some (.cells #[.slice (some ⟨gw,0,none⟩) m.ws.length m.ws.length, .slice (some ⟨gh,0,none⟩) m.hs.length m.hs.length, .int .i64 N] 216 (0,0))
 ws:w.heap[gw]?=some (.cells (i64A m.ws) 3 (0,0))
 hs:w.heap[gh]?=some (.cells (u64A m.hs) 53 (0,0))
structure RAlcP (w:World) (A X:Nat) (v:Value) (a:Alc):Prop where
 ok:okB a.hi a.lo a.l
 most:a.hi≤65536
 obj:w.heap[A]?=some (.cells #[ptrV X, .int .i64 a.lo, .int .i64 a.hi,v] 258 (0,0))
def slp3 (s:Slp):List Value:= [.int .u64 s.id, .int .u64 s.addr, .int .u64 s.mask]
def slpC (l:List Slp):List Value:=l.flatMap slp3
def tr9 (r:TRow):List Value:= [.int .u64 r.t.id, .int .i64 r.t.state, .int .u64 r.t.home, .int .u64 r.t.value, .int .u64 r.t.joiner, .bool r.t.loose, .bool r.t.stepping, .bool r.reaped, .int .i64 r.times]
def rtabC (l:List TRow):List Value:=l.flatMap tr9
structure RTabP (w:World) (T gt:Nat) (l:List TRow) (N:Nat):Prop where
 ok:TabOk l N
 obj:w.heap[T]?=some (.cells #[.slice (some ⟨gt,0,none⟩) 64 64] 263 (0,0))
 row:w.heap[gt]?=some (.cells (rtabC l).toArray 265 (0,0))
def or3 (r:ORow):List Value:= [.int .u64 r.handle, .int .u64 r.addr, .int .i64 r.kind]
def robjC (l:List ORow):List Value:=l.flatMap or3
structure RObjP (w:World) (O go gk:Nat) (l:List ORow) (N:Nat):Prop where
 ok:ObjOk l N
 obj:w.heap[O]?=some (.cells #[.slice (some ⟨go,0,none⟩) 64 64, .slice (some ⟨gk,0,none⟩) 64 64] 355 (0,0))
 row:w.heap[go]?=some (.cells (robjC l).toArray 277 (0,0))
 tk:w.heap[gk]?=some (.cells (i64A (l.map (·.times))) 3 (0,0))
structure RG where
 K:Nat
 X:Nat
 gw:Nat
 gh:Nat
 A:Nat
 R:Nat
 Q:Nat
 T:Nat
 gt:Nat
 O:Nat
 go:Nat
 gk:Nat
 lv:Value
 cv:Value
 pv:Value
 kb:Nat→Nat
 tb:Int→Nat
 fb:Int→Nat→Nat
section
variable {w w':World} {own own':Own} {ts:Tag→Prop}
structure FrD (w:World) (own:Own) (id:Int) (i b:Nat) (fr:Fr) (n:Nat):Prop where
 mine:own b= .fr id i
 ok:FrOk n fr.f
 num:0≤fr.num∧fr.num<1000
 obj: ∃bv,w.heap[b]?=some (.cells (frC fr.f bv++ [Value.bool fr.lib,Value.int .i64 fr.num]).toArray 228 (0,0))∧PRow w own .fixed 3 1 bv fr.f.back.length (intC fr.f.back)
structure RunD (w:World) (own:Own) (tb:Int→Nat) (fb:Int→Nat→Nat) (r:Run) (n:Nat):Prop where
 mine:own (tb r.id)= .thr r.id
 id:r.id≠0∧U64 r.id
 woken:U64 r.woken
 few:r.l.length≤100
 obj: ∃lv,w.heap[tb r.id]?=some (.cells #[.int .u64 r.id,lv, .int .u64 r.woken] 232 (0,0))∧PRow w own .fixed 226 1 lv r.l.length (fptrs fb r)
 frs: ∀i fr,r.l[i]?=some fr→FrD w own r.id i (fb r.id i) fr n
structure WkD (w:World) (own:Own) (i b:Nat) (k:Wkr) (n:Nat):Prop where
 mine:own b= .wback i
 ok:WkOk n k
 obj: ∃bv,w.heap[b]?=some (.cells (wk38 (k,bv)).toArray 221 (0,0))∧PRow w own .fixed 3 1 bv k.f.back.length (intC k.f.back)
def mC (F:Fixed) (cells entry:Int) (G:RG) (M:Mach) (hv rv wv ov:Value):List Value:=
 [.int .i64 F.workers, .int .i64 cells,G.lv, .int .i64 F.loop,G.cv,G.pv, .int .i64 entry, .int .i64 F.wide, .int .i64 F.narrow,ptrV G.X,ptrV G.A, .int .u64 M.clk.now,hv, .int .i64 M.clk.last,ptrV G.Q,ptrV G.R,ptrV G.T,ptrV G.O,rv,wv, .int .i64 F.base, .int .i64 M.entries,ov, .int .i64 M.pos, .int .i64 M.w, .int .u64 M.draw]
def rptrs (G:RG) (l:List Run):List Value:=l.map fun r=>ptrV (G.tb r.id)
def wptrs (G:RG) (n:Nat):List Value:=(List.range n).map fun i=>ptrV (G.kb i)
structure RefP (F:Fixed) (cells entry:Int) (w:World) (own:Own) (G:RG) (M:Mach) (n:Nat):Prop where
 fok:FixOk F
 num:NumOk M F n
 mine:own G.K= .mach
 obj: ∃hv rv wv ov,w.heap[G.K]?=some (.cells (mC F cells entry G M hv rv wv ov).toArray 120 (0,0))∧PRow w own .fixed 396 3 hv M.clk.S.length (Hp.lcells M.clk.S)∧PRow w own .fixed 229 1 rv M.runs.length (rptrs G M.runs)∧PRow w own .fixed 218 1 wv F.workers (wptrs G F.workers)∧PRow w own .ev 71 11 ov M.out.length (evC M.out)
 lib:PRow w own .fixed 68 7 G.lv F.lib.length (codeC F.lib)
 calls:PRow w own .fixed 184 6 G.cv F.calls.length (callC F.calls)
 code:PRow w own .fixed 68 7 G.pv F.code.length (codeC F.code)
 mem:RMemP w G.X G.gw G.gh M.mem∧own G.X= .mem∧own G.gw= .mem∧own G.gh= .mem
 alc: ∃v,RAlcP w G.A G.X v M.alc∧own G.A= .alc∧PRow w own .fixed 260 3 v M.alc.l.length (blkC M.alc.l)
 ring: ∃v,w.heap[G.R]?=some (.cells #[v, .int .i64 64] 124 (0,0))∧own G.R= .ring∧PRow w own .fixed 53 1 v M.ring.length (u64V M.ring)∧ ∀x∈M.ring,U64 x
 que: ∃v,w.heap[G.Q]?=some (.cells #[v, .int .i64 8] 353 (0,0))∧own G.Q= .wq∧PRow w own .fixed 393 3 v M.slps.length (slpC M.slps)
 tab: ∃N,RTabP w G.T G.gt M.tab N∧own G.T= .tab∧own G.gt= .tab∧N≤n
 objs: ∃N,RObjP w G.O G.go G.gk M.objs N∧own G.O= .obj∧own G.go= .obj∧own G.gk= .obj∧N≤n
 runs: ∀r∈M.runs,RunD w own G.tb G.fb r n
 wk: ∀i k,M.wkrs[i]?=some k→WkD w own i (G.kb i) k n
theorem RefP.at' {F:Fixed} {cells entry:Int} {G:RG} {M:Mach} {n:Nat} (_:RefP F cells entry w own G M n):True:=trivial
theorem RefP.move {F:Fixed} {cells entry:Int} {G:RG} {M:Mach} {n:Nat} (h:RefP F cells entry w own G M n) (k:Touch (· = .other) w w' own own'):RefP F cells entry w' own' G M n:=by
 have q: ∀{b:Nat} {t:Tag} {o:Obj},own b=t→t≠ .other→w.heap[b]?=some o→w'.heap[b]?=some o∧own' b=t:=fun hb hn ho=>by
  obtain ⟨e1,e2⟩:=k.at (t:=_) hn hb (blk_in ho)
  exact ⟨e1.trans ho,e2⟩
 have p: ∀{e:TypeId} {size:Nat} {v:Value} {n:Nat} {xs:List Value} {t:Tag},PRow w own t e size v n xs→t≠ .other→PRow w' own' t e size v n xs:=fun hp hn=>hp.move k hn
 obtain ⟨hv,rv,wv,ov,ho,o1,o2,o3,o4⟩:=h.obj
 obtain ⟨hm,m1,m2,m3⟩:=h.mem
 obtain ⟨N,mo⟩:=hm.obj
 obtain ⟨av,ha,a1,a2⟩:=h.alc
 obtain ⟨rgv,r1,r2,r3,r4⟩:=h.ring
 obtain ⟨qv,q1,q2,q3⟩:=h.que
 obtain ⟨tN,t1,t2,t3,t4⟩:=h.tab
 obtain ⟨oN,p1,p2,p3,p4,p5⟩:=h.objs
 refine ⟨h.fok,h.num,(q h.mine nofun ho).2,⟨hv,rv,wv,ov,(q h.mine nofun ho).1,p o1 nofun,p o2 nofun,p o3 nofun,p o4 nofun⟩,p h.lib nofun,p h.calls nofun,p h.code nofun,⟨⟨hm.ok,⟨N,(q m1 nofun mo).1⟩,(q m2 nofun hm.ws).1,(q m3 nofun hm.hs).1⟩,(q m1 nofun mo).2,(q m2 nofun hm.ws).2,(q m3 nofun hm.hs).2⟩,⟨av,⟨ha.ok,ha.most,(q a1 nofun ha.obj).1⟩,(q a1 nofun ha.obj).2,p a2 nofun⟩,⟨rgv,(q r2 nofun r1).1,(q r2 nofun r1).2,p r3 nofun,r4⟩,⟨qv,(q q2 nofun q1).1,(q q2 nofun q1).2,p q3 nofun⟩,⟨tN,⟨t1.ok,(q t2 nofun t1.obj).1,(q t3 nofun t1.row).1⟩,(q t2 nofun t1.obj).2,(q t3 nofun t1.row).2,t4⟩,⟨oN,⟨p1.ok,(q p2 nofun p1.obj).1,(q p3 nofun p1.row).1,(q p4 nofun p1.tk).1⟩,(q p2 nofun p1.obj).2,(q p3 nofun p1.row).2,(q p4 nofun p1.tk).2,p5⟩,fun r hr=>?_,fun i w0 hi=>?_⟩
 ·have d:=h.runs r hr
  obtain ⟨lv,d1,d2⟩:=d.obj
  refine ⟨(q d.mine nofun d1).2,d.id,d.woken,d.few,⟨lv,(q d.mine nofun d1).1,p d2 nofun⟩,fun i fr hi=>?_⟩
  have f:=d.frs i fr hi
  obtain ⟨bv,f1,f2⟩:=f.obj
  exact ⟨(q f.mine nofun f1).2,f.ok,f.num,bv,(q f.mine nofun f1).1,p f2 nofun⟩
 ·have d:=h.wk i w0 hi
  obtain ⟨bv,d1,d2⟩:=d.obj
  exact ⟨(q d.mine nofun d1).2,d.ok,bv,(q d.mine nofun d1).1,p d2 nofun⟩
end
end Go.Proofs.YtaangaogmnlljaaGreatDoor.Kn
namespace Go.Proofs.YtaangaogmnlljaaGreatDoor.Kn
open Go.RowKit Go.Maps Asm
theorem madei64 (n:Nat):madeCells (Value.int .i64 0).cells n=i64A (List.replicate n 0):=by
 show madeCells #[Value.int .i64 0] n=_
 rw[made_one];simp[i64A]
theorem makeI (n:Nat) (hn:n≤65536) (w:World):(Instr.makeSlice 89 (.int .i64 (n:Int)) (.int .i64 (n:Int))).run Tryz.prog w= .ok (.slice (some ⟨w.heap.size,0,none⟩) n n) (w.alloc (.cells (i64A (List.replicate n 0)) 3)):=by
 obtain ⟨i,h1,h2,h3,h4⟩:=info_parts (show (Tryz.prog.info? 3).map (fun i=>(i.zero,i.size,i.bytes))=some (some (.int .i64 0),1,8) by kernel_rfl)
 have:=run_make (P:=Tryz.prog) w 89 3 i _ Tryz.underlying89 h1 h2 .i64 .i64 (n:Int) (n:Int) (by omega) (by omega) (by rw[h4];omega) (by omega)
 rw[h3,Int.toNat_natCast,Nat.mul_one] at this
 rw[this,madei64]
theorem rtabZero:(rtabC (List.replicate 64 {})).toArray=madeCells #[.int .u64 0, .int .i64 0, .int .u64 0, .int .u64 0, .int .u64 0, .bool false, .bool false, .bool false, .int .i64 0] (64*9):=by kernel_rfl
theorem robjZero:(robjC (List.replicate 64 {})).toArray=madeCells #[.int .u64 0, .int .u64 0, .int .i64 0] (64*3):=by kernel_rfl
theorem rtkZero:i64A ((List.replicate 64 ({}:ORow)).map (·.times))=i64A (List.replicate 64 0):=by kernel_rfl
theorem dmemnew (n:Nat) (h1:1≤n) (h2:n≤65536) (w:World):
  Calls Tryz.prog 89 #[.int .i64 n] w fun e w'=> ∃X gw gh,e= .returned (.tuple #[.pointer (some ⟨X,0,none⟩), .pointer none])∧w.heap.size≤X∧w.heap.size≤gw∧w.heap.size≤gh∧RMemP w' X gw gh ⟨List.replicate n 0,List.replicate n 0⟩∧Below w.heap.size w w':=by
 have h1I:1≤(n:Int):=by omega
 have h2I:(n:Int)≤65536:=by omega
 have e1:=make64 n h2
 have e2:=makeI n h2
 go_enter Tryz.func89,Tryz.ntmps89
 go_wp2_with fail
 go_region
 all_goals
  go_wp2_with fail
  go_ret2
 ·refine ⟨w.heap.size+1+1,w.heap.size,w.heap.size+1,rfl,by omega,by omega,by omega,⟨zeros_ok n h1 h2,⟨0,?_⟩,three0 _ _ _ _,three1 _ _ _ _⟩,below3 w _ _ _⟩
  rw[three2];try simp
 ·refine ⟨w.heap.size+1+1,w.heap.size+1,w.heap.size,rfl,by omega,by omega,by omega,⟨zeros_ok n h1 h2,⟨0,?_⟩,three1 _ _ _ _,three0 _ _ _ _⟩,below3 w _ _ _⟩
  rw[three2];try simp
theorem dalcnew (w:World) (X lo hi:Nat) (hlo:lo≤hi) (hhi:hi≤65536):Calls Tryz.prog 91 #[.pointer (some ⟨X,0,none⟩), .int .i64 lo, .int .i64 hi] w fun e w'=> ∃A,e= .returned (.tuple #[.pointer (some ⟨A,0,none⟩), .pointer none])∧RAlcP w' A X (.slice none 0 0) ⟨lo,hi,[]⟩∧w.heap.size≤A∧Below w.heap.size w w':=by
 have h1:(0:Int)≤(lo:Int):=by omega
 have h2:(lo:Int)≤(hi:Int):=by omega
 go_enter Tryz.func91,Tryz.ntmps91
 go_wp2_with fail
 go_ret2
 exact ⟨w.heap.size,rfl,⟨by unfold okB;omega,hhi,heap_alloc_new w _⟩,Nat.le_refl _,(Below.refl _ w).alloc (Nat.le_refl _) _⟩
theorem dquenew (w:World):Calls Tryz.prog 92 #[.int .i64 8] w fun e w'=> ∃Q,e= .returned (.tuple #[.pointer (some ⟨Q,0,none⟩), .pointer none])∧w'.heap[Q]?=some (.cells #[.slice none 0 0, .int .i64 8] 353 (0,0))∧w.heap.size≤Q∧Below w.heap.size w w':=by
 go_enter Tryz.func92,Tryz.ntmps92
 exact m125
theorem dringnew (w:World):Calls Tryz.prog 93 #[.int .i64 64] w fun e w'=> ∃Q,e= .returned (.tuple #[.pointer (some ⟨Q,0,none⟩), .pointer none])∧w'.heap[Q]?=some (.cells #[.slice none 0 0, .int .i64 64] 124 (0,0))∧w.heap.size≤Q∧Below w.heap.size w w':=by
 go_enter Tryz.func93,Tryz.ntmps93
 exact m125
theorem dtabnew (w:World):Calls Tryz.prog 94 #[.int .i64 64] w fun e w'=> ∃T gt,e= .returned (.tuple #[.pointer (some ⟨T,0,none⟩), .pointer none])∧RTabP w' T gt (List.replicate 64 {}) 0∧w.heap.size≤T∧w.heap.size≤gt∧Below w.heap.size w w':=by
 have e1:=makeN 261 265 64 #[.int .u64 0, .int .i64 0, .int .u64 0, .int .u64 0, .int .u64 0, .bool false, .bool false, .bool false, .int .i64 0] 9 Tryz.underlying261 (by kernel_rfl) (by omega) w
 simp only[Int.cast_ofNat_Int] at e1
 rw[←rtabZero] at e1
 go_enter Tryz.func94,Tryz.ntmps94
 go_wp2_with fail
 go_ret2
 obtain ⟨l1,l2,l3⟩:=laid2 w (.cells (rtabC (List.replicate 64 {})).toArray 265) (.cells #[.slice (some ⟨w.heap.size,0,none⟩) 64 64] 263)
 exact ⟨w.heap.size+1,w.heap.size,rfl,⟨tab_ok0,l2,l1⟩,by omega,by omega,l3⟩
theorem dobjnew (w:World):Calls Tryz.prog 95 #[.int .i64 64] w fun e w'=> ∃O go gk,e= .returned (.tuple #[.pointer (some ⟨O,0,none⟩), .pointer none])∧RObjP w' O go gk (List.replicate 64 {}) 0∧w.heap.size≤O∧w.heap.size≤go∧w.heap.size≤gk∧Below w.heap.size w w':=by
 have e1:=fun W=>makeN 274 277 64 #[.int .u64 0, .int .u64 0, .int .i64 0] 3 Tryz.underlying274 (by kernel_rfl) (by omega) W
 have e2:=makeI 64 (by omega)
 simp only[Int.cast_ofNat_Int] at e1 e2
 rw[←robjZero] at e1
 rw[←rtkZero] at e2
 go_enter Tryz.func95,Tryz.ntmps95
 go_wp2_with fail
 go_region
 all_goals
  go_wp2_with fail
  go_ret2
 ·refine ⟨w.heap.size+1+1,w.heap.size,w.heap.size+1,rfl,⟨obj_ok0,?_,three0 _ _ _ _,three1 _ _ _ _⟩,by omega,by omega,by omega,below3 w _ _ _⟩
  rw[three2]
 ·refine ⟨w.heap.size+1+1,w.heap.size+1,w.heap.size,rfl,⟨obj_ok0,?_,three1 _ _ _ _,three0 _ _ _ _⟩,by omega,by omega,by omega,below3 w _ _ _⟩
  rw[three2]
end Go.Proofs.YtaangaogmnlljaaGreatDoor.Kn
namespace Go.Proofs.YtaangaogmnlljaaGreatDoor.Kn
open Go.RowKit Go.Maps Asm
theorem dn_below {B:Nat} {a w:World} (h:Below B a w) (n:Nat):Below B a (w.drewN n):=⟨h.os,h.tape,h.output,h.size,h.block⟩
theorem i64A_at {l:List Int} {i:Nat} (h:i<l.length):(i64A l)[i]?=some (.int .i64 (l.getD i 0)):=by simp[i64A,h]
theorem i64A_set (l:List Int) (i:Nat) (v:Int):(i64A l).setIfInBounds i (.int .i64 v)=i64A (l.set i v):=by
 apply Array.ext'
 simp[i64A,List.map_set]
section
variable {w w':World} {X gw gh:Nat} {m:Mem}
theorem RMemP.lt (h:RMemP w X gw gh m):X<w.heap.size∧gw<w.heap.size∧gh<w.heap.size:=by
 obtain ⟨N,ho⟩:=h.obj;exact ⟨blk_in ho,blk_in h.ws,blk_in h.hs⟩
theorem RMemP.ne (h:RMemP w X gw gh m):X≠gw∧X≠gh∧gw≠gh:=by
 obtain ⟨N,ho⟩:=h.obj
 exact ⟨blk_ne ho h.ws (by decide),blk_ne ho h.hs (by decide),blk_ne h.ws h.hs (by decide)⟩
theorem RMemP.keeps {Y:Nat→Prop} (h:RMemP w X gw gh m) (k:Keeps Y w w') (hn: ¬Y X∧ ¬Y gw∧ ¬Y gh):RMemP w' X gw gh m:=by
 obtain ⟨N,ho⟩:=h.obj
 exact ⟨h.ok,⟨N,(k.block _ (blk_in ho) hn.1).trans ho⟩,(k.block _ (blk_in h.ws) hn.2.1).trans h.ws,(k.block _ (blk_in h.hs) hn.2.2).trans h.hs⟩
theorem RMemP.below (h:RMemP w X gw gh m) (k:Below w.heap.size w w'):RMemP w' X gw gh m:=h.keeps (Keeps.ofBelow (X:=fun _=>False) k) ⟨id,id,id⟩
theorem RMemP.cells (h:RMemP w X gw gh m) {z:Nat} (hz:m.hs.length=z):w.cell? ⟨X,0,none⟩=some (.slice (some ⟨gw,0,none⟩) z z)∧w.cell? ⟨X,1,none⟩=some (.slice (some ⟨gh,0,none⟩) z z):=by
 obtain ⟨N,ho⟩:=h.obj
 have hl:=h.ok.len
 rw[hl,hz] at ho
 exact ⟨blk_cell ho 0,blk_cell ho 1⟩
theorem RMemP.wcell (h:RMemP w X gw gh m) {a:Nat} (ha:a<m.hs.length):w.cell? ⟨gw,a,none⟩=some (.int .i64 (m.ws.getD a 0))∧w.frozen? ⟨gw,a,none⟩=false:=⟨(blk_cell h.ws a).trans (i64A_at (by rw[h.ok.len];exact ha)),blk_frozen h.ws a⟩
theorem RMemP.hcell (h:RMemP w X gw gh m) {a:Nat} (ha:a<m.hs.length):w.cell? ⟨gh,a,none⟩=some (.int .u64 (m.hs.getD a 0))∧w.frozen? ⟨gh,a,none⟩=false:=⟨(blk_cell h.hs a).trans (u64A_at ha),blk_frozen h.hs a⟩
theorem RMemP.mapped {a i:Nat} {wd:Int} (h:RMemP w X gw gh (m.map a i wd)) (hl:m.ws.length=m.hs.length) (hw:wd=32∨wd=64) (hi:a+i<m.ws.length) (hm:MemOk m):
  RMemP ((w.setCell ⟨gw,a+i,none⟩ (.int .i64 wd)).setCell ⟨gh,a+i,none⟩ (.int .u64 0)) X gw gh (m.map a (i+1) wd):=by
 obtain ⟨N,ho⟩:=h.obj
 obtain ⟨n1,n2,n3⟩:=h.ne
 have e:=map_succ m hl a i wd hi
 have ew:(m.map a (i+1) wd).ws=(m.map a i wd).ws.set (a+i) wd:=by rw[←e]
 have eh:(m.map a (i+1) wd).hs=(m.map a i wd).hs.set (a+i) 0:=by rw[←e]
 refine ⟨map_ok hm (Or.inr hw) (by omega),⟨N,?_⟩,?_,?_⟩
 ·rw[set_other n2,set_other n1,ho,ew,eh,List.length_set,List.length_set]
 ·rw[set_other n3,set_block h.ws,i64A_set,ew]
 ·rw[set_block ((set_other (p:=⟨gw,a+i,none⟩) (Ne.symm n3)).trans h.hs),u64A_set,eh]
theorem rin_mem (h:RMemP w X gw gh m) (a n:Nat) (hn:1≤n) (hf:a+n≤m.hs.length):Calls Tryz.prog 175 #[.pointer (some ⟨X,0,none⟩), .int .i64 a, .int .i64 n] w fun e w'=>e= .returned (.bool true)∧ ∃q,w'=w.drewN q:=by
 obtain ⟨z,hz⟩: ∃z,m.hs.length=z:=⟨_,rfl⟩
 obtain ⟨c0,c1⟩:=h.cells hz
 have hm:=h.ok.most
 have h1:(0:Int)≤(a:Int):=by omega
 have h2:(n:Int)≤(z:Int):=by omega
 have h3:(a:Int)≤(z:Int) - (n:Int):=by omega
 have h4:IntKind.i64.wrap ((z:Int) - (n:Int))=(z:Int) - (n:Int):=by rw[IntKind.wrap_i64];omega
 clear h hz hf hn hm
 go_enter Tryz.func175,Tryz.ntmps175
 go_wp2_with fail
 go_ret
 exact ⟨rfl,0,rfl⟩
end
set_option maxRecDepth 100000 in
theorem rmap_any {w:World} {X gw gh:Nat} {m:Mem} (h:RMemP w X gw gh m) (a n:Nat) (wd:Int) (hwd:wd=32∨wd=64) (hn1:1≤n) (hf:m.free? a n=true):
  Calls Tryz.prog 90 #[.pointer (some ⟨X,0,none⟩), .int .i64 a, .int .i64 n, .int .i64 wd] w fun e w'=>e= .returned (.pointer none)∧RMemP w' X gw gh (m.map a n wd)∧Keeps (fun b=>b=gw∨b=gh) w w':=by
 have hr:m.free? a n=rowT m a n false:=free_row m a n
 rw[hr] at hf
 obtain ⟨hfit,hz0⟩:=(rowT_iff m a n false).1 hf
 have hlen:=h.ok.len
 have hmost:=h.ok.most
 have HIn:=Lib.hid (rin_mem h a n hn1 (by omega))
 have HH:=Lib.hid h
 have HOk:=Lib.hid h.ok
 have HLen:=Lib.hid hlen
 have HFit:=Lib.hid hfit
 have HZ0:=Lib.hid hz0
 obtain ⟨z,hz⟩: ∃z,m.hs.length=z:=⟨_,rfl⟩
 have hn1I:1≤(n:Int):=by omega
 have hfitI:(a:Int)+(n:Int)≤(z:Int):=by omega
 have hzI:(z:Int)≤65536:=by omega
 have hwrap:IntKind.i64.wrap ((a:Int)+(n:Int))=(a:Int)+(n:Int):=by rw[IntKind.wrap_i64];omega
 have HZ:=Lib.hid hz
 have HWd:=Lib.hid hwd
 have hW:(wd !=64)=false∨((wd !=64)=true∧(wd !=32)=false):=by
  rcases hwd with rfl|rfl
  ·exact Or.inr ⟨rfl,rfl⟩
  ·exact Or.inl rfl
 clear hr hf hz0 hlen hmost h hfit hz hwd
 rcases hW with hW|⟨hW,hW2⟩
 all_goals
  go_enter Tryz.func90,Tryz.ntmps90
  go_wp2_with fail
  refine HIn.out.mono ?_
  rintro e w1 ⟨rfl,q1,hw1⟩
  have HM1:Hid (RMemP w1 X gw gh m):=Lib.hid (by rw[hw1];exact HH.out.below (dn_below (Below.refl _ _) _))
  have HK1:Hid (Keeps (fun b=>b=gw∨b=gh) w w1):=Lib.hid (by rw[hw1];exact Keeps.ofBelow (dn_below (Below.refl _ _) _))
  clear hw1 HIn
  go_wp2_with fail
  go_loopw [9] (fun iv wr=> ∃i:Nat,i≤n∧iv= .int .i64 ((a+i:Nat):Int)∧w1=wr) (fun iv _=>a+n - (intOf iv).toNat)
  case atStart=>exact ⟨0,by omega,by simp⟩
  case round=>
   obtain ⟨i,hi,rfl,rfl⟩:=hrel
   obtain ⟨c0,c1⟩:=HM1.out.cells HZ.out
   by_cases hlt:i<n
   ·have hltI:((a+i:Nat):Int)<(a:Int)+(n:Int):=by omega
    have hzi:((a+i:Nat):Int)<(z:Int):=by omega
    have hc:=(HM1.out.wcell (a:=a+i) (by rw[HZ.out];omega)).1
    have hz0:m.ws.getD (a+i) 0=0:=by have:=HZ0.out i hlt;simpa using this
    rw[hz0] at hc
    clear hz0
    go_wp2_with fail
    go_roundw
    case rel=>exact ⟨i+1,by omega,by go_num,by first|rfl|trivial⟩
    case measure=>simp[intOf];omega
   ·obtain rfl:i=n:=by omega
    have hge: ¬((a+i:Nat):Int)<(a:Int)+(i:Int):=by omega
    clear c0 c1 hlt
    go_wp2_with fail
    go_loopw [10] (fun iv wr=> ∃j:Nat,j≤i∧iv= .int .i64 ((a+j:Nat):Int)∧Hid (RMemP wr X gw gh (m.map a j wd))∧Hid (Keeps (fun b=>b=gw∨b=gh) w wr)) (fun iv _=>a+i - (intOf iv).toNat)
    case atStart=>exact ⟨0,by omega,rfl,Lib.hid (by rw[map_zero];exact HM1.out),HK1⟩
    case round=>
     obtain ⟨j,hj,rfl,HM,HK⟩:=hrel
     have e1:(m.map a j wd).ws.length=m.ws.length:=fillL_len _ _ _ _ (by have:=HFit.out;omega)
     have e2:(m.map a j wd).hs.length=z:=by rw[←HM.out.ok.len,e1,HLen.out,HZ.out]
     obtain ⟨c0,c1⟩:=HM.out.cells e2
     by_cases hlt:j<i
     ·have hltI:((a+j:Nat):Int)<(a:Int)+(i:Int):=by omega
      have hzi:((a+j:Nat):Int)<(z:Int):=by omega
      obtain ⟨g1,f1⟩:=HM.out.wcell (a:=a+j) (by rw[e2];omega)
      obtain ⟨g2,f2⟩:=HM.out.hcell (a:=a+j) (by rw[e2];omega)
      obtain ⟨n1,n2,n3⟩:=HM.out.ne
      obtain ⟨l1,l2,l3⟩:=HM.out.lt
      have HN:=Lib.hid ((HM.out.mapped HLen.out HWd.out (by have:=HFit.out;omega) HOk.out).below (dn_below (Below.refl _ _) 1))
      have HK2:=Lib.hid (((HK.out.setCell (p:=⟨gw,a+j,none⟩) (Or.inl rfl) (.int .i64 wd)).setCell (p:=⟨gh,a+j,none⟩) (Or.inr rfl) (.int .u64 0)).drewN 1)
      have Hlt:=Lib.hid hlt
      clear e1 e2 hlt
      go_wp2_with fail
      go_region
      go_wp2_with fail
      go_roundw
      case rel=>exact ⟨j+1,Hlt.out,by go_num,HN,HK2⟩
      case measure=>have:=Hlt.out;simp[intOf];omega
     ·obtain rfl:j=i:=by omega
      have hge2: ¬((a+j:Nat):Int)<(a:Int)+(j:Int):=by omega
      go_wp2_with fail
      go_ret
      exact ⟨rfl,HM.out,HK.out⟩
end Go.Proofs.YtaangaogmnlljaaGreatDoor.Kn
namespace Go.Proofs.YtaangaogmnlljaaGreatDoor.Kn
open Go.RowKit Go.Maps Asm
theorem appT {w:World} (base:Nat) (t ty e:TypeId) (size bytes:Nat) (ht:Tryz.prog.underlying t=some (.slice e)) (hi:(Tryz.prog.info? e).map (fun i=>(i.zero.map (·.cells.size),i.size,i.bytes))=some (some size,size,bytes)) (hsz:0<size) (hby:bytes≤1000)
  {v:Value} {n:Nat} {xs:List Value} (hown:w.ownsRow base e size v n xs) {b2:Nat} {v2:Value} {m:Nat} {ys:List Value} (h2:w.ownsRow b2 e size v2 m ys) (h1: ∀u∈ys,u.oneCell'=true) (hn:n+m≤1000000) (hbase:base≤w.heap.size):
  ∃v' w',(Builtin.append_ #[t,t] ty #[v,v2]).run Tryz.prog w= .ok v' w'∧w'.ownsRow base e size v' (n+m) (xs++ys)∧w.grownBy w' v.ownBlock∧(v'.ownBlock=v.ownBlock∨v'.ownBlock=some w.heap.size):=by
 obtain ⟨i,h3,h4⟩: ∃i,Tryz.prog.info? e=some i∧(i.zero.map (·.cells.size),i.size,i.bytes)=(some size,size,bytes):=by
  cases hh:Tryz.prog.info? e with
  |none=>rw[hh] at hi;cases hi
  |some i=>rw[hh] at hi;injection hi with hi;exact ⟨i,rfl,hi⟩
 have k2:i.size=size:=congrArg (fun q=>q.2.1) h4
 have k3:i.bytes=bytes:=congrArg (fun q=>q.2.2) h4
 have k1:i.zero.map (·.cells.size)=some size:=congrArg (fun q=>q.1) h4
 obtain ⟨z,hz,hzz⟩:=Option.map_eq_some_iff.1 k1
 have hb:(n+m)*bytes≤1000000*1000:=Nat.mul_le_mul hn hby
 exact app_row (P:=Tryz.prog) base t ty e i z size bytes ht h3 hz k2 k3 hzz hsz hown h2 h1 (by simp[maxLen];omega) (by omega) hbase
set_option maxRecDepth 100000 in
theorem appN {w:World} (base:Nat) (t ty e:TypeId) (size:Nat) (ht:Tryz.prog.underlying t=some (.slice e)) (hi:(Tryz.prog.info? e).isSome=true) {v:Value} {n:Nat} {xs:List Value} (hown:w.ownsRow base e size v n xs):
  (Builtin.append_ #[t,t] ty #[v, .slice none 0 0]).run Tryz.prog w= .ok v w:=by
 obtain ⟨i,h⟩:=Option.isSome_iff_exists.1 hi
 exact run_append_owned_none (P:=Tryz.prog) (w:=w) base t ty e i size ht h v n xs hown
theorem row_at0 (w:World) (base:Nat) (e:TypeId) (size:Nat):w.ownsRow base e size (.slice none 0 0) 0 []:=World.ownsRow_nil _ _ _ _
theorem u64V_one (l:List Int): ∀u∈u64V l,u.oneCell'=true:=fun u hu=>by
 obtain ⟨x,-,rfl⟩:=List.mem_map.1 hu;rfl
theorem row_one' {X:World} {k base:Nat} {e:TypeId} {u:Value} (h:X.heap[k]?=some (.cells #[u] e (0,0))) (hb:base≤k):X.ownsRow base e 1 (.slice (some ⟨k,0,none⟩) 1 1) 1 [u]:=
 ⟨by simp, .inr ⟨_,1,#[u],rfl,hb,h,Nat.le_refl _,by simp[maxLen],by simp,by simp⟩⟩
theorem row_new0 {X:World} {k base:Nat} {e:TypeId} {size:Nat} (h:X.heap[k]?=some (.cells #[] e (0,0))) (hb:base≤k):X.ownsRow base e size (.slice (some ⟨k,0,none⟩) 0 0) 0 []:=
 ⟨by simp, .inr ⟨_,0,#[],rfl,hb,h,Nat.le_refl _,by simp[maxLen],by simp,by simp⟩⟩
set_option maxRecDepth 100000 in
theorem rput0 {w:World} {R:Nat} (h:w.heap[R]?=some (.cells #[.slice none 0 0, .int .i64 64] 124 (0,0))) (x:Int):
  Calls Tryz.prog 99 #[.pointer (some ⟨R,0,none⟩), .int .u64 x] w fun e w'=>e= .returned (.pointer none)∧ ∃v,w'.heap[R]?=some (.cells #[v, .int .i64 64] 124 (0,0))∧w'.ownsRow w.heap.size 53 1 v 1 [.int .u64 x]∧Keeps (fun b=>b=R) w w':=by
 have c0:w.cell? ⟨R,0,none⟩=some (.slice none 0 0):=blk_cell h 0
 have c1:w.cell? ⟨R,1,none⟩=some (.int .i64 64):=blk_cell h 1
 have hRl:=blk_in h
 have H:=Lib.hid h
 clear h
 go_enter Tryz.func99,Tryz.ntmps99
 go_wp2_with fail
 go_quiet (fail)
 have c0:(w.drewN nq).cell? ⟨R,0,none⟩=some (.slice none 0 0):=c0
 have hb:Below w.heap.size w (w.drewN nq):=dn_below (Below.refl _ _) _
 have hRl2:R<(w.drewN nq).heap.size:=hRl
 have HB:=Lib.hid hb
 have H2:Hid ((w.drewN nq).heap[R]?=_):=H
 have hsz:(w.drewN nq).heap.size=w.heap.size:=rfl
 have HSz:=Lib.hid hsz
 clear hb hsz H
 generalize w.drewN nq=w1 at*
 have hz1:=(heap_alloc_new (w1.alloc (.cells #[] 53)) (.cells #[.int .u64 x] 53))
 have hz0:=(Below.heap_alloc (w1.alloc (.cells #[] 53)) (.cells #[.int .u64 x] 53) _ (by simp)).trans (heap_alloc_new w1 (.cells #[] 53))
 rw[World.size_alloc] at hz1
 obtain ⟨v',w3,hrun,hown,hg,-⟩:=appT (w:=(w1.alloc (.cells #[] 53)).alloc (.cells #[.int .u64 x] 53)) w1.heap.size 48 48 53 1 8 Tryz.underlying48 (by kernel_rfl) (by decide) (by decide) (row_new0 (base:=w1.heap.size) (size:=1) hz0 (Nat.le_refl _)) (row_one' (base:=0) hz1 (Nat.zero_le _)) (u64V_one [x]) (by decide) (by simp;omega)
 have hbe:Below w1.heap.size w1 w3:=(((Below.refl _ w1).alloc (Nat.le_refl _) _).alloc (by simp) _).grown hg (by simp;omega) fun k e=>by have e:some w1.heap.size=some k:=e;injection e with e;omega
 have c3:=(hbe.cell (p:=⟨R,0,none⟩) hRl2).trans c0
 have f3:w3.frozen? ⟨R,0,none⟩=false:=blk_frozen ((hbe.block R hRl2).trans H2.out) 0
 obtain ⟨A3,c3v,rfl⟩:=Asm.own_shape hown
 have HRun:=Lib.hid hrun
 have HRun0:=Lib.hid (appN w1.heap.size 48 48 53 1 Tryz.underlying48 (by kernel_rfl) (row_new0 (base:=w1.heap.size) (size:=1) (heap_alloc_new w1 (.cells #[] 53)) (Nat.le_refl _)))
 have HOwn:=Lib.hid hown
 have HBe:=Lib.hid hbe
 clear hrun hown hg hbe hz1 hz0
 go_wp2_with (first|(at_builtin;refine Go.Lib.wpList_append_run _ rfl (.tmp 17) (.tmp 21) 48 48 rfl _ _ rfl rfl _ _ HRun0.out ?_) |(at_builtin;refine Go.Lib.wpList_append_run _ rfl (.tmp 22) (.tmp 24) 48 48 rfl _ _ rfl rfl _ _ HRun.out ?_))
 go_ret
 have hb:=HB.out.trans (HBe.out.mono (by rw[HSz.out];exact Nat.le_refl _))
 refine ⟨rfl,_,set_block ((HBe.out.block R hRl2).trans H2.out) _,?_,(Keeps.ofBelow (X:=fun b=>b=R) hb).setCell (p:=⟨R,0,none⟩) (by exact rfl) _⟩
 rw[←HSz.out]
 refine ownsRow_of_block HOwn.out fun k e=>set_other ?_
 have:=(HOwn.out.lt k e).1
 show k≠R
 omega
theorem row_blk {X:World} {k base:Nat} {e:TypeId} {a b c:Value} (h:X.heap[k]?=some (.cells #[a,b,c] e (0,0))) (hb:base≤k):X.ownsRow base e 3 (.slice (some ⟨k,0,none⟩) 1 1) 1 [a,b,c]:=
 ⟨by simp, .inr ⟨_,1,#[a,b,c],rfl,hb,h,Nat.le_refl _,by simp[maxLen],by simp,by simp⟩⟩
set_option maxRecDepth 100000 in
theorem rget0 {w:World} {A X gw gh lo hi:Nat} {m:Mem} (hA:w.heap[A]?=some (.cells #[ptrV X, .int .i64 lo, .int .i64 hi, .slice none 0 0] 258 (0,0))) (hm:RMemP w X gw gh m) (hlo:lo+1≤hi) (hhi:hi≤65536) (hfree:m.free? lo 1=true):
  Calls Tryz.prog 97 #[.pointer (some ⟨A,0,none⟩), .int .i64 1, .int .i64 64] w fun e w'=>e= .returned (.tuple #[.int .i64 lo, .pointer none])∧ ∃v,w'.heap[A]?=some (.cells #[ptrV X, .int .i64 lo, .int .i64 hi,v] 258 (0,0))∧w'.ownsRow w.heap.size 260 3 v 1 [.int .i64 lo, .int .i64 1, .int .i64 64]∧RMemP w' X gw gh (m.map lo 1 64)∧Keeps (fun b=>b=A∨b=gw∨b=gh) w w':=by
 have c0:w.cell? ⟨A,0,none⟩=some (.pointer (some ⟨X,0,none⟩)):=blk_cell hA 0
 have c1:w.cell? ⟨A,1,none⟩=some (.int .i64 lo):=blk_cell hA 1
 have c2:w.cell? ⟨A,2,none⟩=some (.int .i64 hi):=blk_cell hA 2
 have c3:w.cell? ⟨A,3,none⟩=some (.slice none 0 0):=blk_cell hA 3
 have hsub:IntKind.i64.wrap ((hi:Int) - (lo:Int))=(hi:Int) - (lo:Int):=by rw[IntKind.wrap_i64];omega
 have hge: ¬(hi:Int) - (lo:Int)<1:=by omega
 have HMap:=Lib.hid (rmap_any hm lo 1 64 (Or.inr rfl) (by decide) hfree)
 simp only[Int.cast_ofNat_Int] at HMap
 obtain ⟨N,ho⟩:=hm.obj
 have hne:A≠gw∧A≠gh∧A≠X:=⟨blk_ne hA hm.ws (by decide),blk_ne hA hm.hs (by decide),blk_ne hA ho (by decide)⟩
 have hAl:=blk_in hA
 have HA:=Lib.hid hA
 have HNe:=Lib.hid hne
 have HLt:=Lib.hid hm.lt
 clear hA hm hlo hhi hfree ho hne
 go_enter Tryz.func97,Tryz.ntmps97
 go_wp2_with fail
 go_loopw [8,9] (fun av kv wr=>av= .int .i64 lo∧kv= .int .i64 0∧w=wr) (fun _ _ _=>0)
 case atStart=>simp
 case round=>
  obtain ⟨rfl,rfl,rfl⟩:=hrel
  go_wp2_with fail
  refine HMap.out.mono ?_
  rintro e w1 ⟨rfl,hm1,hk1⟩
  have hA1:=(hk1.block A hAl (fun q=>q.elim HNe.out.1 HNe.out.2.1)).trans HA.out
  have d0:w1.cell? ⟨A,3,none⟩=some (.slice none 0 0):=blk_cell hA1 3
  have hAl1:=blk_in hA1
  have HA1:=Lib.hid hA1
  have HM1:=Lib.hid hm1
  have HK1:=Lib.hid hk1
  have hz:=heap_alloc_new w1 (.cells #[.int .i64 lo, .int .i64 1, .int .i64 64] 260)
  obtain ⟨v',w3,hrun,hown,hg,-⟩:=appT (w:=w1.alloc (.cells #[.int .i64 lo, .int .i64 1, .int .i64 64] 260)) w1.heap.size 256 256 260 3 24 Tryz.underlying256 (by kernel_rfl) (by decide) (by decide) (row_at0 _ _ _ _) (row_blk (base:=0) hz (Nat.zero_le _)) (fun u hu=>by simp at hu;rcases hu with rfl|rfl|rfl<;>rfl) (by decide) (by simp)
  have hbe:Below w1.heap.size w1 w3:=((Below.refl _ w1).alloc (Nat.le_refl _) _).grown hg (by simp) fun k e=>by cases e
  obtain ⟨A3,cc,rfl⟩:=Asm.own_shape hown
  have HR1:=Lib.hid (appN (w:=w1) 0 256 256 260 3 Tryz.underlying256 (by kernel_rfl) (row_at0 _ _ _ _))
  have HR3:=Lib.hid (appN (w:=w3) w1.heap.size 256 256 260 3 Tryz.underlying256 (by kernel_rfl) hown)
  have HR2:=Lib.hid hrun
  have d3:=(hbe.cell (p:=⟨A,3,none⟩) hAl1).trans d0
  have f3:w3.frozen? ⟨A,3,none⟩=false:=blk_frozen ((hbe.block A hAl1).trans hA1) 3
  have HOwn:=Lib.hid hown
  have HBe:=Lib.hid hbe
  clear hA1 hm1 hk1 hz hrun hown hg hbe
  go_wp2_with (first|(at_builtin;refine Go.Lib.wpList_append_run _ rfl (.tmp 102) (.tmp 108) 256 256 rfl _ _ rfl rfl _ _ HR1.out ?_) |(at_builtin;refine Go.Lib.wpList_append_run _ rfl (.tmp 110) (.tmp 115) 256 256 rfl _ _ rfl rfl _ _ HR2.out ?_) |(at_builtin;refine Go.Lib.wpList_append_run _ rfl (.tmp 118) (.tmp 124) 256 256 rfl _ _ rfl rfl _ _ HR3.out ?_))
  go_ret2
  have hA3:=(HBe.out.block A hAl1).trans HA1.out
  refine ⟨rfl,_,set_block hA3 _,?_,(HM1.out.below HBe.out).keeps (Y:=fun b=>b=A) ((Keeps.refl _ _).setCell (p:=⟨A,3,none⟩) (by exact rfl) _) ⟨fun q=>HNe.out.2.2 q.symm,fun q=>HNe.out.1 q.symm,fun q=>HNe.out.2.1 q.symm⟩,?_⟩
  ·have hs:=HK1.out.size
   refine Asm.row_base (ownsRow_of_block HOwn.out fun k e=>set_other ?_) hs
   have:=(HOwn.out.lt k e).1
   show k≠A
   omega
  ·refine ((HK1.out.mono (Y:=fun b=>b=A∨b=gw∨b=gh) fun b q=>Or.inr q).trans (Keeps.ofBelow (X:=fun _=>False) HBe.out) fun i q=>q.elim).setCell (p:=⟨A,3,none⟩) (Or.inl rfl) _
def tab1 (home:Int):List TRow:=(List.replicate 64 {}).set 0 ⟨1,false,{ id:=64,state:=1,home:=home}⟩
theorem born1 (home:Int):bornT (List.replicate 64 {}) home=some (64,tab1 home):=rfl
theorem tab_split (r:TRow):rtabC ((List.replicate 64 {}).set 0 r)= []++tr9 r++rtabC (List.replicate 63 {}):=rfl
theorem tab_ok1 (home:Int) (h:U64 home):TabOk (tab1 home) 1:=by
 refine ⟨rfl,by decide,fun p hp=>?_⟩
 unfold tab1
 rw[tAt_set (by simp)]
 split
 ·rename_i e
  subst e
  exact ⟨⟨(by decide:(0:Int)≤1),(by decide:(1:Int)≤((1:Nat):Int))⟩,fun _=>⟨(by decide:(64:Int)=((0:Nat):Int)+64*1),(by decide:(1:Int)≤1)⟩,fun e=>absurd (show (64:Int)=0 from e) (by decide),⟨(by decide:(0:Int)≤1),(by decide:(1:Int)≤4)⟩,h,⟨(by decide:(0:Int)≤0),(by decide:(0:Int)<18446744073709551616)⟩,⟨(by decide:(0:Int)≤0),(by decide:(0:Int)<18446744073709551616)⟩⟩
 ·rw[tAt_zero]
  exact ⟨⟨by decide,by decide⟩,fun e=>absurd rfl e,fun _=>⟨rfl,rfl⟩,⟨by decide,by decide⟩,⟨by decide,by decide⟩,⟨by decide,by decide⟩,⟨by decide,by decide⟩⟩
set_option maxRecDepth 100000 in
theorem rborn0 {w:World} {T gt:Nat} (h:RTabP w T gt (List.replicate 64 {}) 0) (home:Int) (hh:U64 home):
  Calls Tryz.prog 98 #[.pointer (some ⟨T,0,none⟩), .int .u64 home] w fun e w'=>e= .returned (.tuple #[.int .u64 64, .pointer none])∧RTabP w' T gt (tab1 home) 1∧Keeps (fun b=>b=gt) w w':=by
 have hne:T≠gt:=blk_ne h.obj h.row (by decide)
 have c0:w.cell? ⟨T,0,none⟩=some (.slice (some ⟨gt,0,none⟩) 64 64):=blk_cell h.obj 0
 have hrow:w.heap[gt]?=some (.cells ([]++tr9 {}++rtabC (List.replicate 63 {})).toArray 265 (0,0)):=h.row
 have x0:w.cell? ⟨gt,0,none⟩=some (.int .u64 0):=blk_cell hrow 0
 have x1:w.cell? ⟨gt,1,none⟩=some (.int .i64 0):=blk_cell hrow 1
 have x2:w.cell? ⟨gt,2,none⟩=some (.int .u64 0):=blk_cell hrow 2
 have x3:w.cell? ⟨gt,3,none⟩=some (.int .u64 0):=blk_cell hrow 3
 have x4:w.cell? ⟨gt,4,none⟩=some (.int .u64 0):=blk_cell hrow 4
 have x5:w.cell? ⟨gt,5,none⟩=some (.bool false):=blk_cell hrow 5
 have x6:w.cell? ⟨gt,6,none⟩=some (.bool false):=blk_cell hrow 6
 have x8:w.cell? ⟨gt,8,none⟩=some (.int .i64 0):=blk_cell hrow 8
 have f0:=blk_frozen hrow 0
 have f1:=blk_frozen hrow 1
 have f2:=blk_frozen hrow 2
 have f3:=blk_frozen hrow 3
 have f4:=blk_frozen hrow 4
 have f5:=blk_frozen hrow 5
 have f6:=blk_frozen hrow 6
 have f8:=blk_frozen hrow 8
 have m8:=mid_set hrow 8 (by simp[tr9]) (show 8=_ by rfl) (.int .i64 1)
 have m0:=mid_set m8 0 (by simp[tr9]) (show 0=_ by rfl) (.int .u64 64)
 have m1:=mid_set m0 1 (by simp[tr9]) (show 1=_ by rfl) (.int .i64 1)
 have m2:=mid_set m1 2 (by simp[tr9]) (show 2=_ by rfl) (.int .u64 home)
 have m3:=mid_set m2 3 (by simp[tr9]) (show 3=_ by rfl) (.int .u64 0)
 have m4:=mid_set m3 4 (by simp[tr9]) (show 4=_ by rfl) (.int .u64 0)
 have m5:=mid_set m4 5 (by simp[tr9]) (show 5=_ by rfl) (.bool false)
 have m6:=mid_set m5 6 (by simp[tr9]) (show 6=_ by rfl) (.bool false)
 have hl:(((((((((tr9 {}).set 8 (.int .i64 1)).set 0 (.int .u64 64)).set 1 (.int .i64 1)).set 2 (.int .u64 home)).set 3 (.int .u64 0)).set 4 (.int .u64 0)).set 5 (.bool false)).set 6 (.bool false))=tr9 ⟨1,false,{ id:=64,state:=1,home:=home}⟩:=rfl
 rw[hl,←tab_split] at m6
 have HM:=Lib.hid m6
 have HH:=Lib.hid h
 have HU:=Lib.hid hh
 clear h hrow hh m8 m0 m1 m2 m3 m4 m5 m6
 go_enter Tryz.func98,Tryz.ntmps98
 go_wp2_with fail
 go_loopw [6] (fun iv wr=>iv= .int .i64 0∧w=wr) (fun _ _=>0)
 case atStart=>simp
 case round=>
  obtain ⟨rfl,rfl⟩:=hrel
  go_wp2_with fail
  go_ret2
  refine ⟨rfl,⟨tab_ok1 home HU.out,?_,HM.out⟩,?_⟩
  ·repeat rw[set_other hne]
   exact HH.out.obj
  ·iterate 8 refine Keeps.setCell ?_ (by exact rfl) _
   with_reducible exact Keeps.refl _ _
theorem codeC_one0 (l:List InsL): ∀u∈codeC l,u.oneCell'=true:=fun u hu=>by
 obtain ⟨x,-,h⟩:=List.mem_flatMap.1 hu
 simp[insC] at h
 rcases h with rfl|rfl|rfl|rfl|rfl|rfl|rfl<;>rfl
theorem a35.q113 {P:Prop} (h:P:=by
 exact ⟨v',rfl,HO.out,HB.out⟩):P:=h
open a35 in
theorem rcopycode {w:World} {b:Nat} {v:Value} {l:List InsL} (h:w.ownsRow b 68 7 v l.length (codeC l)) (hl:l.length≤1000000):
  Calls Tryz.prog 30 #[v] w fun e w'=> ∃v',e= .returned v'∧w'.ownsRow w.heap.size 68 7 v' l.length (codeC l)∧Below w.heap.size w w':=by
 obtain ⟨v',w3,hrun,hown,hg,-⟩:=appT (w:=w) w.heap.size 24 24 68 7 56 Tryz.underlying24 (by kernel_rfl) (by decide) (by decide) (row_at0 _ _ _ _) h (codeC_one0 l) (by omega) (Nat.le_refl _)
 have hbe:Below w.heap.size w w3:=(Below.refl _ w).grown hg (Nat.le_refl _) fun k e=>by cases e
 obtain ⟨A,c,rfl⟩:=Asm.own_shape h
 rw[Nat.zero_add,List.nil_append] at hown
 have HR:=Lib.hid hrun
 have HO:=Lib.hid hown
 have HB:=Lib.hid hbe
 clear h hrun hown hg hbe
 exact m113
end Go.Proofs.YtaangaogmnlljaaGreatDoor.Kn
namespace Go.Proofs.YtaangaogmnlljaaGreatDoor.Kn
open Go.RowKit Go.Maps Asm
theorem callC_one0 (l:List RowL): ∀u∈callC l,u.oneCell'=true:=fun u hu=>by
 obtain ⟨x,-,h⟩:=List.mem_flatMap.1 hu
 simp[row6] at h
 rcases h with rfl|rfl|rfl|rfl|rfl|rfl<;>rfl
set_option maxRecDepth 100000 in
theorem rcopylib {w:World} {b:Nat} {A B:Option Addr} {c d m:Nat} {l:List InsL} {calls:List RowL} {loop:Int} (h:w.ownsRow b 68 7 (.slice A l.length c) l.length (codeC l)) (hl:l.length≤1000000) (hr:w.ownsRow b 184 6 (.slice B m d) m (callC calls)) (hm:m≤1000):
  Calls Tryz.prog 88 #[.agg #[.slice A l.length c, .int .i64 loop, .slice B m d]] w fun e w'=> ∃A' c' B' d',e= .returned (.agg #[.slice A' l.length c', .int .i64 loop, .slice B' m d'])∧w'.ownsRow w.heap.size 68 7 (.slice A' l.length c') l.length (codeC l)∧w'.ownsRow w.heap.size 184 6 (.slice B' m d') m (callC calls)∧Below w.heap.size w w':=by
 obtain ⟨l0,l1,hb0⟩:=laid2 w (.cells #[.slice A l.length c, .int .i64 loop, .slice B m d] 77) (.cells #[.slice none 0 0, .int .i64 0, .slice none 0 0] 77)
 have HC:=Lib.hid (rcopycode (w:=(w.alloc (.cells #[.slice A l.length c, .int .i64 loop, .slice B m d] 77)).alloc (.cells #[.slice none 0 0, .int .i64 0, .slice none 0 0] 77)) (ownsRow_of_block h fun k e=>hb0.block k (h.lt k e).2) hl)
 have L0:=Lib.hid l0
 have L1:=Lib.hid l1
 have HB0:=Lib.hid hb0
 have HR0:=Lib.hid hr
 have HM:=Lib.hid hm
 have hsz:((w.alloc (.cells #[.slice A l.length c, .int .i64 loop, .slice B m d] 77)).alloc (.cells #[.slice none 0 0, .int .i64 0, .slice none 0 0] 77)).heap.size=w.heap.size+2:=by simp
 have HSz:=Lib.hid hsz
 generalize l.length=L at*
 clear h l0 l1 hb0 hl hsz hr hm
 go_enter Tryz.func88,Tryz.ntmps88
 go_wp2_with fail
 refine HC.out.mono ?_
 rintro e w2 ⟨v',rfl,hown,hb⟩
 obtain ⟨A',c',rfl⟩:=Asm.own_shape hown
 have z0:=(hb.block _ (blk_in L0.out)).trans L0.out
 have z1:=(hb.block _ (blk_in L1.out)).trans L1.out
 have a0:w2.cell? ⟨w.heap.size,0,none⟩=some (.slice A L c):=blk_cell z0 0
 have f0:=blk_frozen z0 0
 have hB2:Below w.heap.size w w2:=HB0.out.trans (hb.mono (by have:=HSz.out;omega))
 have hlt2:w.heap.size+2≤w2.heap.size:=by have:=hb.size;have:=HSz.out;omega
 have zs:=set_block (k:=0) z0 (.slice A' L c')
 have zt:=(set_other (p:=⟨w.heap.size,0,none⟩) (u:= .slice A' L c') (k:=w.heap.size+1) (by show w.heap.size+1≠w.heap.size;omega)).trans z1
 obtain ⟨v2,w3,hrun,hown2,hg,hn⟩:=appT (w:=w2.setCell ⟨w.heap.size,0,none⟩ (.slice A' L c')) w2.heap.size 75 75 184 6 48 Tryz.underlying75 (by kernel_rfl) (by decide) (by decide) (row_at0 _ _ _ _) (ownsRow_of_block HR0.out fun k e=>(set_other (by show k≠w.heap.size;have:=(HR0.out.lt k e).2;omega)).trans (hB2.block k (HR0.out.lt k e).2)) (callC_one0 calls) (by have:=HM.out;omega) (by rw[World.size_setCell];exact Nat.le_refl _)
 rw[Nat.zero_add,List.nil_append] at hown2
 obtain ⟨B',d',rfl⟩:=Asm.own_shape hown2
 have hbe:Below w2.heap.size (w2.setCell ⟨w.heap.size,0,none⟩ (.slice A' L c')) w3:=(Below.refl _ _).grown hg (by rw[World.size_setCell];exact Nat.le_refl _) fun k e=>by cases e
 have y0:=(hbe.block _ (by omega)).trans zs
 have y1:=(hbe.block _ (by omega)).trans zt
 have a0':w3.cell? ⟨w.heap.size,0,none⟩=some (.slice A' L c'):=blk_cell y0 0
 have a1:w3.cell? ⟨w.heap.size,1,none⟩=some (.int .i64 loop):=blk_cell y0 1
 have a2:w3.cell? ⟨w.heap.size,2,none⟩=some (.slice B m d):=blk_cell y0 2
 have b0:w3.cell? ⟨w.heap.size+1,0,none⟩=some (.slice none 0 0):=blk_cell y1 0
 have b1:w3.cell? ⟨w.heap.size+1,1,none⟩=some (.int .i64 0):=blk_cell y1 1
 have b2:w3.cell? ⟨w.heap.size+1,2,none⟩=some (.slice none 0 0):=blk_cell y1 2
 have f2:=blk_frozen y0 2
 have g0:=blk_frozen y1 0
 have g1:=blk_frozen y1 1
 have g2:=blk_frozen y1 2
 have a2':(w2.setCell ⟨w.heap.size,0,none⟩ (.slice A' L c')).cell? ⟨w.heap.size,2,none⟩=some (.slice B m d):=blk_cell zs 2
 have HRun:=Lib.hid hrun
 have HO:=Lib.hid hown
 have HO2:=Lib.hid hown2
 have HB2:=Lib.hid hB2
 have HBe:=Lib.hid hbe
 have HL2:=Lib.hid hlt2
 clear hown hown2 hrun hg hn hb z0 z1 y0 y1 zs zt hB2 hbe hlt2
 go_wp2_with (at_builtin;refine Go.Lib.wpList_append_run _ rfl (.const (.slice none 0 0)) (.tmp 8) 75 75 rfl _ _ rfl rfl _ _ HRun.out ?_)
 refine bodyPost_ret (v:= .agg #[.slice A' L c', .int .i64 loop, .slice B' m d']) (by simp[results,Tryz.results88,go_sem,b0,b1,b2]) rfl ⟨A',c',B',d',rfl,?_,?_,?_⟩
 ·refine Asm.row_base (ownsRow_of_block HO.out fun k e=>?_) (show w.heap.size≤_ by have:=HSz.out;omega)
  have hk:=HO.out.lt k e
  have hs:=HSz.out
  iterate 3 rw[set_other (by show k≠w.heap.size+1;omega)]
  rw[set_other (by show k≠w.heap.size;omega),HBe.out.block k hk.2,set_other (by show k≠w.heap.size;omega)]
 ·refine Asm.row_base (ownsRow_of_block HO2.out fun k e=>?_) (show w.heap.size≤_ by have:=HL2.out;omega)
  have hk:=HO2.out.lt k e
  have hs:=HL2.out
  iterate 3 rw[set_other (by show k≠w.heap.size+1;omega)]
  rw[set_other (by show k≠w.heap.size;omega)]
 ·iterate 3 refine Below.setCell ?_ (by show w.heap.size≤w.heap.size+1;omega) _
  refine Below.setCell (p:=⟨w.heap.size,2,none⟩) ?_ (Nat.le_refl _) _
  exact (HB2.out.setCell (p:=⟨w.heap.size,0,none⟩) (Nat.le_refl _) _).trans (HBe.out.mono (by have:=HL2.out;omega))
end Go.Proofs.YtaangaogmnlljaaGreatDoor.Kn
namespace Go.Proofs.YtaangaogmnlljaaGreatDoor.Kn
open Go.RowKit Asm
structure HS (w:World) (S:List (Nat×Obj)):Prop where
 at': ∀p∈S,w.heap[p.1]?=some p.2
 nod:(S.map (·.1)).Nodup
section
variable {w w':World} {S R S1 S2:List (Nat×Obj)}
theorem HS.nil (w:World):HS w []:=⟨fun p hp=>(by cases hp),List.nodup_nil⟩
theorem HS.lt (h:HS w S) {p:Nat×Obj} (hp:p∈S):p.1<w.heap.size:=blk_in (h.at' p hp)
theorem HS.keeps {Y:Nat→Prop} (h:HS w S) (k:Keeps Y w w') (hn: ∀p∈S,¬Y p.1):HS w' S:=
 ⟨fun p hp=>(k.block _ (h.lt hp) (hn p hp)).trans (h.at' p hp),h.nod⟩
theorem HS.below (h:HS w S) (b:Below w.heap.size w w'):HS w' S:=⟨fun p hp=>(b.block _ (h.lt hp)).trans (h.at' p hp),h.nod⟩
theorem HS.push (h:HS w S) (hb:Below w.heap.size w w') {b:Nat} {o:Obj} (hw:w'.heap[b]?=some o) (hl:w.heap.size≤b):HS w' ((b,o)::S):=by
 refine ⟨fun p hp=>?_,?_⟩
 ·rcases List.mem_cons.1 hp with rfl|hp
  ·exact hw
  ·exact (h.below hb).at' p hp
 ·rw[List.map_cons,List.nodup_cons]
  refine ⟨fun hm=>?_,h.nod⟩
  obtain ⟨p,hp,e⟩:=List.mem_map.1 hm
  have:=h.lt hp
  simp only at e
  omega
theorem HS.swap {a b:Nat×Obj} (h:HS w (a::b::S)):HS w (b::a::S):=
 ⟨fun p hp=>h.at' p (by simp only[List.mem_cons] at hp ⊢;rcases hp with e|e|e;exact Or.inr (Or.inl e);exact Or.inl e;exact Or.inr (Or.inr e)),((List.Perm.swap _ _ _).map _).nodup_iff.2 h.nod⟩
theorem HS.ne {k:Nat×Obj} (h:HS w (k::S)) {p:Nat×Obj} (hp:p∈S):p.1≠k.1:=fun e=>(List.nodup_cons.1 h.nod).1 (by show k.1∈_;rw[←e];exact List.mem_map_of_mem hp)
theorem HS.change {b:Nat} {o o':Obj} (h:HS w (S1++(b,o)::S2)) (k:Keeps (fun x=>x=b) w w') (hw:w'.heap[b]?=some o'):HS w' (S1++(b,o')::S2):=by
 have hn:=h.nod
 rw[List.map_append,List.map_cons,List.nodup_append] at hn
 obtain ⟨n1,n2,n3⟩:=hn
 refine ⟨fun p hp=>?_,by rw[List.map_append,List.map_cons];have:=h.nod;rwa[List.map_append,List.map_cons] at this⟩
 rcases List.mem_append.1 hp with hp|hp
 ·refine (k.block _ (h.lt (List.mem_append_left _ hp)) fun e=>?_).trans (h.at' p (List.mem_append_left _ hp))
  exact n3 p.1 (List.mem_map_of_mem hp) b List.mem_cons_self e
 ·rcases List.mem_cons.1 hp with rfl|hp
  ·exact hw
  ·refine (k.block _ (h.lt (List.mem_append_right _ (List.mem_cons_of_mem _ hp))) fun e=>?_).trans (h.at' p (List.mem_append_right _ (List.mem_cons_of_mem _ hp)))
   exact (List.nodup_cons.1 n2).1 (by show b∈_;rw[←e];exact List.mem_map_of_mem (f:=(·.1)) hp)
theorem HS.setK {K:Nat} {C:Array Value} {t:TypeId} {fr:Nat×Nat} (h:HS w ((K, .cells C t fr)::S)) (i:Nat) (v:Value):HS (w.setCell ⟨K,i,none⟩ v) ((K, .cells (C.setIfInBounds i v) t fr)::S):=
 HS.change (S1:= []) h ((Keeps.refl _ w).setCell (p:=⟨K,i,none⟩) (by exact rfl) v) (set_block (h.at' _ List.mem_cons_self) v)
theorem HS.drewN (h:HS w S) (q:Nat):HS (w.drewN q) S:=⟨h.at',h.nod⟩
theorem HS.drew (h:HS w S):HS w.drew S:=⟨h.at',h.nod⟩
end
end Go.Proofs.YtaangaogmnlljaaGreatDoor.Kn
namespace Go.Proofs.YtaangaogmnlljaaGreatDoor.Kn
open Go.RowKit Asm
theorem below_dn {B:Nat} {a w:World} (h:Below B a w) (n:Nat):Below B a (w.drewN n):=⟨h.os,h.tape,h.output,h.size,h.block⟩
structure Lens (w:World) (b o:Nat) (t:TypeId) (P S:List Value) (f:Frame) (bv:Value):Prop where
 obj:w.heap[b]?=some (.cells (P++frC f bv++S).toArray t (0,0))
 off:o=P.length
theorem frC_len {f:Frame} {bv:Value} (h:f.r.length=32):(frC f bv).length=34:=by simp[frC,h]
theorem frC_pc (f:Frame) (bv:Value):(frC f bv)[0]?=some (.int .i64 f.pc):=rfl
theorem frC_reg {f:Frame} {bv:Value} {k:Nat} (hk:k<f.r.length):(frC f bv)[1+k]?=some (.int .u64 (f.r.getD k 0)):=by
 unfold frC
 rw[Nat.add_comm,List.cons_append,List.getElem?_cons_succ,List.getElem?_append_left (by simpa using hk),List.getElem?_map,List.getD_eq_getElem?_getD,List.getElem?_eq_getElem hk]
 rfl
theorem frC_bk {f:Frame} {bv:Value} (h:f.r.length=32):(frC f bv)[33]?=some bv:=by
 unfold frC
 rw[show 33=32+1 from rfl,List.cons_append,List.getElem?_cons_succ,List.getElem?_append_right (by simp[h])]
 simp[h]
section
variable {w w':World} {b o:Nat} {t:TypeId} {P S:List Value} {f:Frame} {bv:Value}
theorem Lens.at (h:Lens w b o t P S f bv) {j:Nat} (hj:j<(frC f bv).length):w.cell? ⟨b,o+j,none⟩=(frC f bv)[j]?:=by
 rw[blk_cell h.obj,h.off,List.getElem?_toArray,List.getElem?_append_left (by simp;omega),List.getElem?_append_right (by omega),show P.length+j - P.length=j by omega]
theorem Lens.pc (h:Lens w b o t P S f bv):w.cell? ⟨b,o,none⟩=some (.int .i64 f.pc):=(h.at (j:=0) (by simp[frC])).trans (frC_pc f bv)
theorem Lens.reg (h:Lens w b o t P S f bv) (hl:f.r.length=32) {k:Nat} (hk:k<32):w.cell? ⟨b,o+1+k,none⟩=some (.int .u64 (f.r.getD k 0)):=by
 rw[Nat.add_assoc]
 exact (h.at (j:=1+k) (by rw[frC_len hl];omega)).trans (frC_reg (by omega))
theorem Lens.bk (h:Lens w b o t P S f bv) (hl:f.r.length=32):w.cell? ⟨b,o+33,none⟩=some bv:=(h.at (j:=33) (by rw[frC_len hl];omega)).trans (frC_bk hl)
theorem Lens.frozen (h:Lens w b o t P S f bv) (j:Nat):w.frozen? ⟨b,j,none⟩=false:=blk_frozen h.obj j
theorem Lens.lt (h:Lens w b o t P S f bv):b<w.heap.size:=blk_in h.obj
theorem Lens.of_block (h:Lens w b o t P S f bv) (e:w'.heap[b]?=w.heap[b]?):Lens w' b o t P S f bv:=⟨e.trans h.obj,h.off⟩
theorem Lens.set (h:Lens w b o t P S f bv) {j:Nat} (hj:j<(frC f bv).length) (v:Value) {f':Frame} {bv':Value} (e:(frC f bv).set j v=frC f' bv'):Lens (w.setCell ⟨b,o+j,none⟩ v) b o t P S f' bv':=by
 refine ⟨?_,h.off⟩
 rw[set_block h.obj]
 have:=set_mid P (frC f bv) S j hj v
 rw[h.off,←e,List.setIfInBounds_toArray,this]
theorem Lens.setPc (h:Lens w b o t P S f bv) (p:Int):Lens (w.setCell ⟨b,o,none⟩ (.int .i64 p)) b o t P S { f with pc:=p} bv:=h.set (j:=0) (by simp[frC]) _ rfl
theorem Lens.setBk (h:Lens w b o t P S f bv) (hl:f.r.length=32) (l:List Int) (v:Value):Lens (w.setCell ⟨b,o+33,none⟩ v) b o t P S { f with back:=l} v:=by
 refine h.set (j:=33) (by rw[frC_len hl];omega) _ ?_
 unfold frC
 rw[List.set_append_right _ _ (by simp[hl])]
 simp[hl]
theorem Lens.setReg (h:Lens w b o t P S f bv) (hl:f.r.length=32) {k:Nat} (hk:k<32) (v:Int):Lens (w.setCell ⟨b,o+1+k,none⟩ (.int .u64 v)) b o t P S { f with r:=f.r.set k v} bv:=by
 rw[Nat.add_assoc]
 refine h.set (j:=1+k) (by rw[frC_len hl];omega) _ ?_
 unfold frC
 rw[Nat.add_comm 1 k,List.cons_append,List.set_cons_succ,List.set_append_left _ _ (by simp[hl];omega),←List.map_set]
 rfl
end
section
variable {w:World} {b o:Nat} {t:TypeId} {P S:List Value} {f:Frame} {bv:Value}
end
end Go.Proofs.YtaangaogmnlljaaGreatDoor.Kn
namespace Go.Proofs.YtaangaogmnlljaaGreatDoor.Kn
open Go.RowKit Asm
def KO (F:Fixed) (w:World) (own:Own) (G:KG) (M:Mach) (n:Nat) (w':World):Prop:= ∃own',KernP F w' own' G M n∧Touch (fun t=>t≠ .other) w w' own own'
theorem below_al {a w:World} (h:Below a.heap.size a w) (o:Obj):Below a.heap.size a (w.alloc o):=h.alloc h.size o
section
variable {F:Fixed} {w:World} {own:Own} {G:KG} {M:Mach} {n:Nat}
theorem KernP.klt (h:KernP F w own G M n):G.K<w.heap.size:=by obtain ⟨C,ov,ho,_⟩:=h.k.obj;exact blk_in ho
theorem KernP.on_k {w':World} {own':Own} {n':Nat} (h:KernP F w own G M n) (hn':n≤n') (k:Touch (fun t=>t= .mach∨t= .ev) w w' own own') {en ps wk dr:Int} {ot:List Ev} (hk:KMach w' own' F G { M with entries:=en,pos:=ps,w:=wk,draw:=dr,out:=ot}) (hn:NumOk { M with entries:=en,pos:=ps,w:=wk,draw:=dr,out:=ot} F n'):KernP F w' own' G { M with entries:=en,pos:=ps,w:=wk,draw:=dr,out:=ot} n':=
 let h:=h.more hn'
 ⟨h.fok,hn,hk,h.fix.move k nofun,h.mem.move k nofun,h.alc.move k nofun,h.clk.move k nofun,h.ring.move k nofun,h.wq.move k nofun,h.tab.move k nofun,h.obj.move k nofun,h.runs.move k ⟨nofun,fun _=>⟨nofun,nofun,fun _=>⟨nofun,nofun⟩⟩⟩,h.wk.move k ⟨nofun,fun _=>nofun⟩⟩
theorem set_at {C:Array Value} {i j:Nat} {v x:Value} (h:C[i]?=some x) (hne:j≠i):(C.setIfInBounds j v)[i]?=some x:=by
 rw[Array.getElem?_setIfInBounds,if_neg hne];exact h
theorem set_here {C:Array Value} {j:Nat} {v:Value} (h:j<C.size):(C.setIfInBounds j v)[j]?=some v:=by
 rw[Array.getElem?_setIfInBounds,if_pos rfl,if_pos h]
theorem KernP.told {C:Array Value} {ov:Value} (h:KernP F w own G M n) (ho:w.heap[G.K]?=some (.cells C 159 (0,0))) (hc:MachC C F G M ov) (hr:PRow w own .ev 71 11 ov M.out.length (evC M.out)) (hl:M.out.length<1000000) (e:Ev) {e':Ev} (he:e'={ e with pos:=M.pos,w:=M.w}) {w4:World} {v:Value}
  (hk:Keeps (fun b=>ov.ownBlock=some b) w w4) (hr4:w4.ownsRow 0 71 11 v (M.out.length+1) (evC M.out++ev11 e')) (hn: ∀b,v.ownBlock=some b→ov.ownBlock=some b∨w.heap.size≤b):KO F w own G (tell M e) n (w4.setCell ⟨G.K,1020,none⟩ v):=by
 have hT:Touch (fun t=>t= .ev) w w4 own (ext own w.heap.size .ev):=touch_of hk fun b hb=>hr.2 b hb
 have hKl:=h.klt
 have hKo:ext own w.heap.size .ev G.K= .mach:=(ext_lt hKl).trans h.k.mine
 have hT2:Touch (fun t=>t= .mach) w4 (w4.setCell ⟨G.K,1020,none⟩ v) (ext own w.heap.size .ev) (ext own w.heap.size .ev):=⟨(Keeps.refl _ _).setCell (p:=⟨G.K,1020,none⟩) hKo _,fun _ _=>rfl⟩
 have hT3:Touch (fun t=>t= .mach∨t= .ev) w (w4.setCell ⟨G.K,1020,none⟩ v) own (ext own w.heap.size .ev):=(hT.mono fun _ e=>Or.inr e).trans (hT2.mono fun _ e=>Or.inl e)
 have ho4:w4.heap[G.K]?=some (.cells C 159 (0,0)):=(hT.at (t:= .mach) nofun h.k.mine hKl).1.trans ho
 have hlt:=hr4.lt
 refine ⟨ext own w.heap.size .ev,?_,hT3.mono fun t e=>by rcases e with rfl|rfl<;>nofun⟩
 refine h.on_k (M:=M) (Nat.le_refl n) hT3 (en:=M.entries) (ps:=M.pos) (wk:=M.w) (dr:=M.draw) (ot:=M.out++ [{ e with pos:=M.pos,w:=M.w}]) ⟨hKo,C.setIfInBounds 1020 v,v,?_,?_,?_,?_⟩ ⟨h.num.entries,h.num.pos,h.num.w,h.num.draw,h.num.wk,by simp;omega⟩
 ·rw[set_block ho4]
 ·exact ⟨by simp[hc.size],set_at hc.lib (by decide),set_at hc.loop (by decide),set_at hc.calls (by decide),set_at hc.code (by decide),set_at hc.wide (by decide),set_at hc.narrow (by decide),fun i hi=>set_at (hc.rows i hi) (by omega),set_at hc.mem (by decide),set_at hc.alc (by decide),set_at hc.clk (by decide),set_at hc.ring (by decide),set_at hc.wq (by decide),set_at hc.tab (by decide),set_at hc.obj (by decide),set_at hc.th (by decide),set_at hc.wk (by decide),set_at hc.entries (by decide),set_at hc.pos (by decide),set_at hc.w (by decide),set_at hc.draw (by decide),set_here (by rw[hc.size];decide)⟩
 ·have e1:evC (M.out++ [{ e with pos:=M.pos,w:=M.w}])=evC M.out++ev11 e':=by rw[he];simp[evC]
  show World.ownsRow _ 0 _ 11 v (M.out++ [{ e with pos:=M.pos,w:=M.w}]).length (evC (M.out++ [{ e with pos:=M.pos,w:=M.w}]))
  rw[e1,List.length_append,List.length_singleton]
  refine Asm.ownsRow_of_block hr4 fun c hc'=>set_other fun e2=>?_
  rcases hn c hc' with h1|h1
  ·have:=hr.2 c h1;rw[e2,h.k.mine] at this;cases this
  ·have e3:c=G.K:=e2
   omega
 ·intro c hc'
  rcases hn c hc' with h1|h1
  ·exact ext_tag (Or.inl (hr.2 c h1))
  ·exact ext_tag (Or.inr h1)
end
end Go.Proofs.YtaangaogmnlljaaGreatDoor.Kn
namespace Go.Proofs.YtaangaogmnlljaaGreatDoor.Kn
open Go.RowKit Asm
section
variable {F:Fixed} {w:World} {own:Own} {G:KG} {M:Mach} {n:Nat}
theorem KernP.below {w':World} (h:KernP F w own G M n) (hb:Below w.heap.size w w'):KernP F w' (ext own w.heap.size .other) G M n:=h.move (touch_below hb)
theorem KO.refl (h:KernP F w own G M n):KO F w own G M n w:=⟨own,h,Touch.refl _ _ _⟩
theorem KO.below {w':World} (h:KernP F w own G M n) (hb:Below w.heap.size w w'):KO F w own G M n w':=⟨_,h.below hb,touch_below hb⟩
theorem KernP.kcell {i:Nat} {v:Value} (h:KernP F w own G M n) (hv: ∀C ov,MachC C F G M ov→C[i]?=some v):w.cell? ⟨G.K,i,none⟩=some v:=by
 obtain ⟨C,ov,ho,hc,_⟩:=h.k.obj
 exact (blk_cell ho _).trans (hv C ov hc)
theorem KernP.tcell (h:KernP F w own G M n):w.cell? ⟨G.K,1012,none⟩=some (.pointer (some ⟨G.T,0,none⟩)):=h.kcell fun _ _ hc=>hc.tab
theorem KernP.mcell (h:KernP F w own G M n):w.cell? ⟨G.K,1007,none⟩=some (.pointer (some ⟨G.X,0,none⟩)):=h.kcell fun _ _ hc=>hc.mem
theorem KernP.rcell (h:KernP F w own G M n):w.cell? ⟨G.K,1010,none⟩=some (.pointer (some ⟨G.R,0,none⟩)):=h.kcell fun _ _ hc=>hc.ring
theorem KernP.acell (h:KernP F w own G M n):w.cell? ⟨G.K,1008,none⟩=some (.pointer (some ⟨G.A,0,none⟩)):=h.kcell fun _ _ hc=>hc.alc
theorem KernP.ccell (h:KernP F w own G M n):w.cell? ⟨G.K,1009,none⟩=some (.pointer (some ⟨G.C,0,none⟩)):=h.kcell fun _ _ hc=>hc.clk
theorem KernP.qcell (h:KernP F w own G M n):w.cell? ⟨G.K,1011,none⟩=some (.pointer (some ⟨G.Q,0,none⟩)):=h.kcell fun _ _ hc=>hc.wq
theorem KernP.ocell (h:KernP F w own G M n):w.cell? ⟨G.K,1013,none⟩=some (.pointer (some ⟨G.O,0,none⟩)):=h.kcell fun _ _ hc=>hc.obj
theorem KernP.hcell (h:KernP F w own G M n):w.cell? ⟨G.K,1014,none⟩=some (.map (some G.th)):=h.kcell fun _ _ hc=>hc.th
theorem KernP.wcell (h:KernP F w own G M n):w.cell? ⟨G.K,1015,none⟩=some (.slice (some ⟨G.gW,0,none⟩) F.workers F.workers):=h.kcell fun _ _ hc=>hc.wk
theorem KernP.ringed {w':World} {l:List Int} (h:KernP F w own G M n) {gr:Nat} (ho: ∀b,b=G.R∨b=gr→own b= .ring) (hk:Keeps (OfRg G.R gr) w w') (hp:RingP w' G.R gr l):KO F w own G { M with ring:=l} n w':=by
 have k:Touch (· = .ring) w w' own (ext own w.heap.size .ring):=touch_of hk fun b hb=>ho b hb
 exact ⟨_,h.on_ring k ⟨gr,hp,fun b hb=>ext_tag (Or.inl (ho b hb))⟩,k.mono fun _ e=>by rw[e];nofun⟩
theorem KernP.tabbed {w':World} {l:List TRow} (h:KernP F w own G M n) {gt N n':Nat} (ho: ∀b,b=G.T∨b=gt→own b= .tab) (hn:n≤n') (hN:N≤n') (hk:Keeps (fun b=>b=gt) w w') (hp:TabP w' G.T gt l N):KO F w own G { M with tab:=l} n' w':=by
 have k:Touch (· = .tab) w w' own (ext own w.heap.size .tab):=touch_of hk fun b hb=>ho b (Or.inr hb)
 exact ⟨_,h.on_tab k hn ⟨gt,N,hp,fun b hb=>ext_tag (Or.inl (ho b hb)),hN⟩,k.mono fun _ e=>by rw[e];nofun⟩
theorem KernP.memmed {w':World} {m:Mem} (h:KernP F w own G M n) {gc gw:Nat} (ho: ∀b,b=G.X∨b=gc∨b=gw→own b= .mem) (hk:Keeps (fun b=>b=G.X∨b=gc) w w') (hp:MemP w' G.X gc gw m):KO F w own G { M with mem:=m} n w':=by
 have k:Touch (· = .mem) w w' own (ext own w.heap.size .mem):=touch_of hk fun b hb=>ho b (hb.elim Or.inl fun e=>Or.inr (Or.inl e))
 exact ⟨_,h.on_mem k ⟨gc,gw,hp,fun b hb=>ext_tag (Or.inl (ho b hb))⟩,k.mono fun _ e=>by rw[e];nofun⟩
theorem KO.trans {own1:Own} {w1 w2:World} {M2:Mach} {n2:Nat} (k:Touch (fun t=>t≠ .other) w w1 own own1) (h:KO F w1 own1 G M2 n2 w2):KO F w own G M2 n2 w2:=by
 obtain ⟨o2,a,b⟩:=h
 exact ⟨o2,a,k.trans b⟩
end
end Go.Proofs.YtaangaogmnlljaaGreatDoor.Kn
namespace Go.Proofs.YtaangaogmnlljaaGreatDoor.Kn
open Go.RowKit Asm
section
variable {w:World} {b o:Nat} {t:TypeId} {P S:List Value} {f:Frame} {bv:Value}
theorem rg_range {f:Frame} (hr: ∀x∈f.r,U64 x) (n:Int):U64 (rg f n):=by
 unfold rg
 rw[List.getD_eq_getElem?_getD]
 cases h:f.r[n.toNat]? with
 |none=>exact u64_0
 |some x=>exact hr x (List.mem_of_getElem? h)
end
end Go.Proofs.YtaangaogmnlljaaGreatDoor.Kn
namespace Go.Proofs.YtaangaogmnlljaaGreatDoor.Kn
open Go.RowKit Asm
structure FrM (w:World) (own:Own) (b o:Nat) (t:TypeId) (P S:List Value) (tb tk:Tag) (n:Nat) (f:Frame) (bv:Value):Prop where
 lens:Lens w b o t P S f bv
 mine:own b=tb
 row:PRow w own tk 3 1 bv f.back.length (intC f.back)
 ok:FrOk n f
def FrOut (w:World) (own:Own) (b o:Nat) (t:TypeId) (P S:List Value) (tb tk:Tag) (n:Nat) (f':Frame) (w':World):Prop:= ∃own' bv',FrM w' own' b o t P S tb tk n f' bv'∧Touch (fun t=>t=tb∨t=tk) w w' own own'
section
variable {w:World} {own:Own} {b o:Nat} {t:TypeId} {P S:List Value} {tb tk:Tag} {n:Nat} {f:Frame} {bv:Value}
theorem FrM.pc (h:FrM w own b o t P S tb tk n f bv) (hne:tb≠tk) {p:Int} {n':Nat} (hn:n≤n') (hp:0≤p∧p≤4000+n'):FrM (w.setCell ⟨b,o,none⟩ (.int .i64 p)) own b o t P S tb tk n' { f with pc:=p} bv∧Touch (fun t=>t=tb∨t=tk) w (w.setCell ⟨b,o,none⟩ (.int .i64 p)) own own:=by
 have hk:Touch (fun t=>t=tb) w (w.setCell ⟨b,o,none⟩ (.int .i64 p)) own own:=⟨(Keeps.refl _ w).setCell (p:=⟨b,o,none⟩) h.mine _,fun _ _=>rfl⟩
 have ho:=h.ok.more hn
 exact ⟨⟨h.lens.setPc p,h.mine,h.row.move hk (fun e=>hne e.symm),⟨ho.len,ho.r,hp,ho.few,ho.back⟩⟩,hk.mono fun _ e=>Or.inl e⟩
theorem FrM.reg (h:FrM w own b o t P S tb tk n f bv) (hne:tb≠tk) {k:Nat} (hk:k<32) {v:Int} (hv:U64 v):FrM (w.setCell ⟨b,o+1+k,none⟩ (.int .u64 v)) own b o t P S tb tk n { f with r:=f.r.set k v} bv∧Touch (fun t=>t=tb∨t=tk) w (w.setCell ⟨b,o+1+k,none⟩ (.int .u64 v)) own own:=by
 have hk':Touch (fun t=>t=tb) w (w.setCell ⟨b,o+1+k,none⟩ (.int .u64 v)) own own:=⟨(Keeps.refl _ w).setCell (p:=⟨b,o+1+k,none⟩) h.mine _,fun _ _=>rfl⟩
 refine ⟨⟨h.lens.setReg h.ok.len hk v,h.mine,h.row.move hk' (fun e=>hne e.symm),⟨by simp[h.ok.len],fun x hx=>?_,h.ok.pc,h.ok.few,h.ok.back⟩⟩,hk'.mono fun _ e=>Or.inl e⟩
 rcases List.mem_or_eq_of_mem_set hx with hx|hx
 ·exact h.ok.r x hx
 ·rw[hx];exact hv
theorem FrM.move {w':World} {own':Own} {ts:Tag→Prop} (h:FrM w own b o t P S tb tk n f bv) (k:Touch ts w w' own own') (h1: ¬ts tb) (h2: ¬ts tk):FrM w' own' b o t P S tb tk n f bv:=
 ⟨h.lens.of_block (k.at h1 h.mine h.lens.lt).1,(k.at h1 h.mine h.lens.lt).2,h.row.move k h2,h.ok⟩
theorem FrM.below {w':World} (h:FrM w own b o t P S tb tk n f bv) (k:Below w.heap.size w w'):FrM w' own b o t P S tb tk n f bv:=
 ⟨h.lens.of_block (k.block b h.lens.lt),h.mine,⟨Asm.ownsRow_of_block h.row.1 fun c hc=>k.block c (h.row.lt hc),h.row.2⟩,h.ok⟩
theorem FrM.cells (h:FrM w own b o t P S tb tk n f bv):w.cell? ⟨b,o,none⟩=some (.int .i64 f.pc)∧w.cell? ⟨b,o+33,none⟩=some bv∧(∀k,k<32→w.cell? ⟨b,o+1+k,none⟩=some (.int .u64 (f.r.getD k 0)))∧ ∀j,w.frozen? ⟨b,j,none⟩=false:=
 ⟨h.lens.pc,h.lens.bk h.ok.len,fun _ hk=>h.lens.reg h.ok.len hk,h.lens.frozen⟩
theorem FrM.more {n':Nat} (h:FrM w own b o t P S tb tk n f bv) (hn:n≤n'):FrM w own b o t P S tb tk n' f bv:=⟨h.lens,h.mine,h.row,h.ok.more hn⟩
theorem FrOut.refl {n':Nat} (h:FrM w own b o t P S tb tk n f bv) (hn:n≤n'):FrOut w own b o t P S tb tk n' f w:=⟨own,bv,h.more hn,Touch.refl _ _ _⟩
theorem FrOut.alloc {W:World} (h:FrOut w own b o t P S tb tk n f W) (ob:Obj):FrOut w own b o t P S tb tk n f (W.alloc ob):=by
 obtain ⟨own',bv',h1,h2⟩:=h
 exact ⟨own',bv',h1.below ((Below.refl _ _).alloc (Nat.le_refl _) _),h2.keeps.alloc _,h2.own⟩
theorem FrOut.drew {W:World} (h:FrOut w own b o t P S tb tk n f W):FrOut w own b o t P S tb tk n f W.drew:=by
 obtain ⟨own',bv',h1,h2⟩:=h
 exact ⟨own',bv',h1.below (below_drewN _ 1),h2.keeps.drew,h2.own⟩
theorem FrOut.drewN {W:World} (h:FrOut w own b o t P S tb tk n f W) (q:Nat):FrOut w own b o t P S tb tk n f (W.drewN q):=by
 obtain ⟨own',bv',h1,h2⟩:=h
 exact ⟨own',bv',h1.below (below_drewN _ q),h2.keeps.drewN q,h2.own⟩
theorem FrOut.pc {W:World} (h:FrOut w own b o t P S tb tk n f W) (hne:tb≠tk) {p:Int} (hp:0≤p∧p≤4000+n):FrOut w own b o t P S tb tk n { f with pc:=p} (W.setCell ⟨b,o,none⟩ (.int .i64 p)):=by
 obtain ⟨own',bv',h1,h2⟩:=h
 obtain ⟨a1,a2⟩:=h1.pc hne (Nat.le_refl n) hp
 exact ⟨own',bv',a1,h2.trans a2⟩
theorem FrOut.reg {W:World} (h:FrOut w own b o t P S tb tk n f W) (hne:tb≠tk) {k:Nat} (hk:k<32) {v:Int} (hv:U64 v):FrOut w own b o t P S tb tk n { f with r:=f.r.set k v} (W.setCell ⟨b,o+1+k,none⟩ (.int .u64 v)):=by
 obtain ⟨own',bv',h1,h2⟩:=h
 obtain ⟨a1,a2⟩:=h1.reg hne hk hv
 exact ⟨own',bv',a1,h2.trans a2⟩
theorem FrOut.back {W:World} (h:FrOut w own b o t P S tb tk n f W) (hne:tb≠tk) {l:List Int} {v:Value} (hl:l.length≤8) (hx: ∀x∈l,0≤x∧x≤4000+n) (hr: ∀own' bv',FrM W own' b o t P S tb tk n f bv'→Touch (fun t=>t=tb∨t=tk) w W own own'→ ∃own2,PRow W own2 tk 3 1 v l.length (intC l)∧own2 b=tb∧Touch (fun t=>t=tb∨t=tk) w W own own2):FrOut w own b o t P S tb tk n { f with back:=l} (W.setCell ⟨b,o+33,none⟩ v):=by
 obtain ⟨own',bv',h1,h2⟩:=h
 obtain ⟨own2,r1,r2,r3⟩:=hr own' bv' h1 h2
 have hk:Touch (fun t=>t=tb) W (W.setCell ⟨b,o+33,none⟩ v) own2 own2:=⟨(Keeps.refl _ W).setCell (p:=⟨b,o+33,none⟩) r2 _,fun _ _=>rfl⟩
 exact ⟨own2,v,⟨h1.lens.setBk h1.ok.len l v,r2,r1.move hk (fun e=>hne e.symm),⟨h1.ok.len,h1.ok.r,h1.ok.pc,hl,hx⟩⟩,r3.trans (hk.mono fun _ e=>Or.inl e)⟩
theorem PRow.lies {l:List Int} {A:Option Addr} {c:Nat} (h:PRow w own tk 3 1 (.slice A l.length c) l.length (intC l)): ∀W,Below w.heap.size w W→ ∀a,A=some a→ ∀j u,(intC l)[j]?=some u→W.cell? (a.add j)=some u:=by
 intro W hW a ha j u hu
 subst ha
 have hg:(Value.slice (some a) l.length c).ownBlock=some a.block:=rfl
 have h0:a=⟨a.block,0,none⟩:=by
  rcases h.1.2 with ⟨e,_⟩ |⟨g,cp,cur,e,_⟩
  ·cases e
  ·injection e with e;injection e with e;rw[e]
 have hc:=h.1.cells hg j u hu
 rw[←h0] at hc
 refine (hW.cell (p:=a.add j) ?_).trans hc
 have e:(a.add j).block=a.block:=by rw[h0,Addr.add_lit]
 rw[e]
 exact h.lt hg
theorem infoInt:(Tryz.prog.info? 3).map (fun i=>(i.zero,i.size,i.bytes))=some (some (.int .i64 0),1,8):=by kernel_rfl
end
end Go.Proofs.YtaangaogmnlljaaGreatDoor.Kn
