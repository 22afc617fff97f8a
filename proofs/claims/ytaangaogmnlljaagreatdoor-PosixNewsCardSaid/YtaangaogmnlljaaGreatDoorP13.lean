/- Part 13 of what the proof stands on: KnFr, KnWkr, KnLift, KnGive, KnEnd, KnTold, KnReg, KnOthers, KnGood, KnThings, KnGoodB, KnNewK, RdNewP, KnNewL, RdNewN, RdFre, RdNewT4, RdNewL, KnTake. -/
import Derived.Test.YtaangaogmnlljaaGreatDoorP02
import Derived.Test.YtaangaogmnlljaaGreatDoorP12
set_option linter.unusedVariables false
set_option maxRecDepth 100000
set_option maxHeartbeats 40000000
namespace Go.Proofs.YtaangaogmnlljaaGreatDoor.Kn
open Go.RowKit Asm
section
variable {F:Fixed} {w:World} {own:Own} {G:KG} {M:Mach} {n:Nat}
theorem KernP.moved {w':World} {own':Own} {ts:Tag→Prop} {n':Nat} (h:KernP F w own G M n) (hn:n≤n') (k:Touch ts w w' own own') (hts: ∀t,ts t→t= .mem∨ofRuns t∨ofWk t) {m:Mem} {rs:List Run} {ws:List Wkr} {tb:Int→Nat} {fb:Int→Nat→Nat} (hl:ws.length=M.wkrs.length) (hm:PMem w' own' G.X m) (hr:PRuns w' own' G.th tb fb rs n') (hw:PWk w' own' G.gW ws n'):KernP F w' own' { G with tb:=tb,fb:=fb} { M with mem:=m,runs:=rs,wkrs:=ws} n':=
 let h:=h.more hn
 have no: ∀t,¬(t= .mem∨ofRuns t∨ofWk t)→ ¬ts t:=fun t ht e=>ht (hts t e)
 have q: ∀t,t≠ .mem→ ¬ofRuns t→ ¬ofWk t→ ¬ts t:=fun t h1 h2 h3=>no t fun e=>e.elim h1 fun e=>e.elim h2 h3
 ⟨h.fok,⟨h.num.entries,h.num.pos,h.num.w,h.num.draw,hl.trans h.num.wk,h.num.out⟩,⟨(h.k.move k (q _ nofun id id) (q _ nofun id id)).mine,by obtain ⟨C,ov,a,b,c⟩:=(h.k.move k (q _ nofun id id) (q _ nofun id id)).obj;exact ⟨C,ov,a,⟨b.size,b.lib,b.loop,b.calls,b.code,b.wide,b.narrow,b.rows,b.mem,b.alc,b.clk,b.ring,b.wq,b.tab,b.obj,b.th,b.wk,b.entries,b.pos,b.w,b.draw,b.out⟩,c⟩⟩,
  ⟨(h.fix.move k (q _ nofun id id)).lib,(h.fix.move k (q _ nofun id id)).calls,(h.fix.move k (q _ nofun id id)).code⟩,hm,h.alc.move k (q _ nofun id id),h.clk.move k (q _ nofun id id),h.ring.move k (q _ nofun id id),h.wq.move k (q _ nofun id id),h.tab.move k (q _ nofun id id),h.obj.move k (q _ nofun id id),hr,hw⟩
theorem wk38_len (p:Wkr×Value) (h:p.1.f.r.length=32):(wk38 p).length=38:=by simp[wk38,frC,h]
theorem PWk.at {gW:Nat} {l:List Wkr} (h:PWk w own gW l n) {i:Nat} (hi:i<l.length): ∃(P S:List Value) (bv:Value),FrM w own gW (i*38+4) 166 (P++ [.int .u64 (l.getD i {}).slot, .int .u64 (l.getD i {}).hand, .bool (l.getD i {}).parked, .int .i64 (l.getD i {}).left]) S .wk (.wback i) n (l.getD i {}).f bv∧P.length=i*38∧WkOk n (l.getD i {})∧
  ∀(w':World) (own':Own) (n':Nat) (ts:Tag→Prop) (k':Wkr) (bv':Value),n≤n'→Touch ts w w' own own'→(∀j,j≠i→ ¬ts (.wback j))→own' gW= .wk→w'.heap[gW]?=some (.cells (P++wk38 (k',bv')++S).toArray 166 (0,0))→WkOk n' k'→PRow w' own' (.wback i) 3 1 bv' k'.f.back.length (intC k'.f.back)→PWk w' own' gW (l.set i k') n':=by
 obtain ⟨h0,L,h1,h2,h3⟩:=h
 have hlen:L.length=l.length:=by rw[←h1];simp
 have hiL:i<L.length:=by omega
 obtain ⟨hok,hrow⟩:=h3 i L[i] (List.getElem?_eq_getElem hiL)
 have e0:l.getD i {}=L[i].1:=by
  rw[List.getD_eq_getElem?_getD,←h1,List.getElem?_map,List.getElem?_eq_getElem hiL];rfl
 have hall: ∀p∈L,(wk38 p).length=38:=fun p hp=>by
  obtain ⟨j,hj,e⟩:=List.getElem_of_mem hp
  have:=(h3 j p (by rw[List.getElem?_eq_getElem hj,e])).1
  exact wk38_len p this.f.len
 have hpl: ∀K:List (Wkr×Value),(∀p∈K,(wk38 p).length=38)→(K.flatMap wk38).length=K.length*38:=fun K=>by
  induction K with
  |nil=>intro _;rfl
  |cons a K ih=>
   intro hK
   rw[List.flatMap_cons,List.length_append,ih fun p hp=>hK p (List.mem_cons_of_mem _ hp),hK a List.mem_cons_self,List.length_cons]
   omega
 have hP:((L.take i).flatMap wk38).length=i*38:=by
  rw[hpl _ fun p hp=>hall p (List.mem_of_mem_take hp),List.length_take,Nat.min_eq_left (by omega)]
 rw[e0]
 refine ⟨(L.take i).flatMap wk38,(L.drop (i+1)).flatMap wk38,L[i].2,⟨⟨?_,by simp[hP]⟩,h0,hrow,hok.f⟩,hP,hok,fun w' own' n' ts k' bv' hn k hts hown hobj hk' hr'=>?_⟩
 ·rw[h2]
  have:=flL_mid (f:=wk38) L i hiL
  rw[this]
  simp[wk38,List.append_assoc]
 ·refine ⟨hown,L.set i (k',bv'),?_,?_,fun j p hp=>?_⟩
  ·rw[List.map_set,h1]
  ·rw[hobj,flL_put L i hiL (k',bv')]
  ·rw[List.getElem?_set] at hp
   by_cases e:i=j
   ·subst e
    rw[if_pos rfl,if_pos hiL] at hp
    injection hp with hp
    subst hp
    exact ⟨hk',hr'⟩
   ·rw[if_neg e] at hp
    obtain ⟨a,b⟩:=h3 j p hp
    exact ⟨⟨a.slot,a.hand,a.left,a.f.more hn⟩,b.move k (hts j (Ne.symm e))⟩
theorem KernP.frame_wk (h:KernP F w own G M n) {i:Nat} (hi:i<F.workers): ∃(P S:List Value) (bv:Value),FrM w own G.gW (i*38+4) 166 P S .wk (.wback i) n (wkrOf M i).f bv∧
  ∀(w':World) (own':Own) (n':Nat) (f':Frame) (bv':Value) (m':Mem),n≤n'→Touch (fun t=>t= .wk∨t= .wback i∨t= .mem) w w' own own'→FrM w' own' G.gW (i*38+4) 166 P S .wk (.wback i) n' f' bv'→PMem w' own' G.X m'→KernP F w' own' G (setF { M with mem:=m'} i none f') n':=by
 have hlen:i<M.wkrs.length:=by rw[h.num.wk];exact hi
 obtain ⟨P,S,bv,h1,h2,h3,h4⟩:=h.wk.at hlen
 refine ⟨_,S,bv,h1,fun w' own' n' f' bv' m' hn k hf hm=>?_⟩
 refine h.moved (m:=m') (rs:=M.runs) (ws:=M.wkrs.set i { wkrOf M i with f:=f'}) hn k (fun t ht=>?_) (by simp) hm ((h.runs.move k ⟨fun e=>(by rcases e with e|e|e<;>cases e),fun _=>⟨fun e=>(by rcases e with e|e|e<;>cases e),fun e=>(by rcases e with e|e|e<;>cases e),fun _=>⟨fun e=>(by rcases e with e|e|e<;>cases e),fun e=>(by rcases e with e|e|e<;>cases e)⟩⟩⟩).more hn) ?_
 ·rcases ht with rfl|rfl|rfl
  ·exact Or.inr (Or.inr trivial)
  ·exact Or.inr (Or.inr trivial)
  ·exact Or.inl rfl
 ·refine h4 w' own' n' _ { wkrOf M i with f:=f'} bv' hn k (fun j hj e=>by rcases e with e|e|e<;>cases e;exact hj rfl) hf.mine ?_ ⟨h3.slot,h3.hand,h3.left,hf.ok⟩ hf.row
  rw[hf.lens.obj]
  simp[wk38,List.append_assoc,wkrOf]
theorem setRun_mem' {l:List Run} {r x:Run} (h:x∈setRun l r):x=r∨(x∈l∧x.id≠r.id):=by
 unfold setRun at h
 obtain ⟨s,hs,e⟩:=List.mem_map.1 h
 split at e
 ·exact Or.inl e.symm
 ·rename_i hne
  exact Or.inr ⟨e▸hs,e▸fun e2=>hne (by simp[e2])⟩
def onFr (id:Int) (j:Nat) (t:Tag):Prop:=t= .fr id j∨t= .back id j∨t= .mem
theorem PRuns.setRun {w':World} {own':Own} {ts:Tag→Prop} {n':Nat} {th:Nat} {tb:Int→Nat} {fb:Int→Nat→Nat} {l:List Run} (h:PRuns w own th tb fb l n) {r r':Run} (hr:runOf l r.id=some r) (hid:r'.id=r.id) (hn:n≤n') (k:Touch ts w w' own own') (hmap: ¬ts .map) (hts: ∀x,x≠r.id→ ¬ts (.thr x)∧ ¬ts (.row x)∧ ∀i,¬ts (.fr x i)∧ ¬ts (.back x i)) (hp:RunP w' own' tb fb r' n'):PRuns w' own' th tb fb (setRun l r') n':=by
 obtain ⟨N,hm,hN⟩:=h.map
 have hr':runOf l r'.id=some r:=by rw[hid];exact hr
 refine ⟨by rw[setRun_ids];exact h.nod,(k.at hmap h.mine hm.lt).2,⟨N,(hm.of_block (k.at hmap h.mine hm.lt).1).same fun x _=>?_,by omega⟩,fun x hx=>?_⟩
 ·rw[runOf_setRun h.nod hr']
  split
  ·rename_i e;rw[e,hr'];rfl
  ·rfl
 ·rcases setRun_mem' hx with e|⟨hm,hne⟩
  ·rw[e];exact hp
  ·rw[hid] at hne
   obtain ⟨a,b,c⟩:=hts x.id hne
   exact ((h.each x hm).move k a b (fun i=>(c i).1) fun i=>(c i).2).more hn
theorem fptrs_len {fb:Int→Nat→Nat} {r r':Run} (h:r'.l.length=r.l.length) (hid:r'.id=r.id):fptrs fb r'=fptrs fb r:=by unfold fptrs;rw[h,hid]
theorem KernP.frame_run (h:KernP F w own G M n) {id:Int} {r:Run} (hr:runOf M.runs id=some r) {j:Nat} {fr:Fr} (hj:r.l[j]?=some fr): ∃(bv:Value),FrM w own (G.fb id j) 0 284 [] [.bool fr.lib, .int .i64 fr.num] (.fr id j) (.back id j) n fr.f bv∧
  ∀(w':World) (own':Own) (n':Nat) (f':Frame) (bv':Value) (m':Mem),n≤n'→Touch (onFr id j) w w' own own'→FrM w' own' (G.fb id j) 0 284 [] [.bool fr.lib, .int .i64 fr.num] (.fr id j) (.back id j) n' f' bv'→PMem w' own' G.X m'→KernP F w' own' G { M with mem:=m',runs:=setRun M.runs { r with l:=r.l.set j { fr with f:=f'}}} n':=by
 obtain ⟨hm,rfl⟩:=runOf_mem hr
 have hP:=h.runs.each r hm
 have hF:=hP.frs j fr hj
 obtain ⟨bv,ho,hrow⟩:=hF.obj
 refine ⟨bv,⟨⟨by simpa using ho,rfl⟩,hF.mine,hrow,hF.ok⟩,fun w' own' n' f' bv' m' hn k hf hmm=>?_⟩
 have hno: ∀t,t≠ .fr r.id j→t≠ .back r.id j→t≠ .mem→ ¬onFr r.id j t:=fun t a b c e=>e.elim a fun e=>e.elim b c
 refine h.moved (m:=m') (rs:=Kn.setRun M.runs { r with l:=r.l.set j { fr with f:=f'}}) (ws:=M.wkrs) hn k (fun t ht=>?_) rfl hmm ?_ ((h.wk.move k ⟨hno _ nofun nofun nofun,fun _=>hno _ nofun nofun nofun⟩).more hn)
 ·rcases ht with rfl|rfl|rfl
  ·exact Or.inr (Or.inl trivial)
  ·exact Or.inr (Or.inl trivial)
  ·exact Or.inl rfl
 ·refine h.runs.setRun hr rfl hn k (hno _ nofun nofun nofun) (fun x hx=>⟨hno _ nofun nofun nofun,hno _ nofun nofun nofun,fun i=>⟨hno _ (fun e=>by injection e with e;exact hx e) nofun nofun,hno _ nofun (fun e=>by injection e with e;exact hx e) nofun⟩⟩) ?_
  obtain ⟨lv,o1,o2⟩:=hP.obj
  have hjl:j<r.l.length:=(List.getElem?_eq_some_iff.1 hj).1
  refine ⟨(k.at (hno (.thr r.id) nofun nofun nofun) hP.mine (blk_in o1)).2,hP.id,hP.woken,by simpa using hP.few,⟨lv,(k.at (hno (.thr r.id) nofun nofun nofun) hP.mine (blk_in o1)).1.trans o1,?_⟩,fun i fx hi=>?_⟩
  ·have:=o2.move k (hno (.row r.id) nofun nofun nofun)
   rw[fptrs_len (r':={ r with l:=r.l.set j { fr with f:=f'}}) (r:=r) (by simp) rfl]
   show PRow w' own' (.row r.id) _ 1 lv (r.l.set j { fr with f:=f'}).length _
   rw[List.length_set]
   exact this
  ·simp only[List.getElem?_set] at hi
   by_cases e:j=i
   ·subst e
    rw[if_pos rfl,if_pos hjl] at hi
    injection hi with hi
    subst hi
    exact ⟨hf.mine,hf.ok,hF.num,bv',by simpa using hf.lens.obj,hf.row⟩
   ·rw[if_neg e] at hi
    exact ((hP.frs i fx hi).move k (hno _ (fun e2=>by injection e2 with _ e2;exact e e2.symm) nofun nofun) (hno _ nofun (fun e2=>by injection e2 with _ e2;exact e e2.symm) nofun)).more hn
def FAt (G:KG) (M:Mach) (i:Nat) (t:Option Int) (b o:Nat):Prop:=match t with
 |none=>b=G.gW∧o=i*38+4
 |some id=> ∃r,runOf M.runs id=some r∧r.l≠ []∧b=G.fb id (r.l.length - 1)∧o=0
theorem top_get {l:List Fr} (h:l≠ []):l[l.length - 1]?=some (l.getLastD {}):=by
 rw[←List.getLast?_eq_getElem?]
 rw[List.getLastD_eq_getLast?]
 cases hl:l.getLast? with
 |none=>exact absurd (List.getLast?_eq_none_iff.1 hl) h
 |some x=>rfl
theorem set_top {l:List Fr} (h:l≠ []) (x:Fr):l.set (l.length - 1) x=l.dropLast++ [x]:=by
 have hl:0<l.length:=List.length_pos_iff.2 h
 conv=>lhs;rw[←List.dropLast_concat_getLast h]
 rw[List.set_append_right _ _ (by simp)]
 simp
structure Fr1 (F:Fixed) (w:World) (own:Own) (G:KG) (M:Mach) (n:Nat) (i:Nat) (t:Option Int) (b o:Nat) (ty:TypeId) (P S:List Value) (tb tk:Tag) (bv:Value):Prop where
 fr:FrM w own b o ty P S tb tk n (getF M i t) bv
 ne:tb≠tk
 ntb:tb≠ .mem∧tk≠ .mem∧(ofRuns tb∨ofWk tb)∧(ofRuns tk∨ofWk tk)
 back: ∀(w':World) (own':Own) (n':Nat) (f':Frame) (bv':Value) (m':Mem),n≤n'→Touch (fun t=>t=tb∨t=tk∨t= .mem) w w' own own'→FrM w' own' b o ty P S tb tk n' f' bv'→PMem w' own' G.X m'→KernP F w' own' G (setF { M with mem:=m'} i t f') n'
theorem KernP.frame (h:KernP F w own G M n) {i:Nat} (hi:i<F.workers) {t:Option Int} {b o:Nat} (fa:FAt G M i t b o): ∃ty P S tb tk bv,Fr1 F w own G M n i t b o ty P S tb tk bv:=by
 cases t with
 |none=>
  obtain ⟨rfl,rfl⟩:=fa
  obtain ⟨P,S,bv,h1,h2⟩:=h.frame_wk hi
  exact ⟨_,P,S, .wk, .wback i,bv,⟨h1,nofun,⟨nofun,nofun,Or.inr trivial,Or.inr trivial⟩,h2⟩⟩
 |some id=>
  obtain ⟨r,hr,hne,rfl,rfl⟩:=fa
  obtain ⟨bv,h1,h2⟩:=h.frame_run hr (top_get hne)
  have e:getF M i (some id)=(topF r).f:=by unfold getF;simp only[hr]
  refine ⟨_,[],_, .fr id (r.l.length - 1), .back id (r.l.length - 1),bv,⟨by rw[e];exact h1,nofun,⟨nofun,nofun,Or.inl trivial,Or.inl trivial⟩,fun w' own' n' f' bv' m' hn k hf hm=>?_⟩⟩
  have:=h2 w' own' n' f' bv' m' hn k hf hm
  rw[set_top hne] at this
  unfold setF
  simp only[hr]
  exact this
end
end Go.Proofs.YtaangaogmnlljaaGreatDoor.Kn
namespace Go.Proofs.YtaangaogmnlljaaGreatDoor.Kn
open Go.RowKit Asm
section
variable {F:Fixed} {w:World} {own:Own} {G:KG} {M:Mach} {n:Nat}
theorem KernP.wlen (h:KernP F w own G M n) {i:Nat} (hi:i<F.workers):i<M.wkrs.length:=by rw[h.num.wk];exact hi
theorem KernP.wk_cells (h:KernP F w own G M n) {i:Nat} (hi:i<F.workers):w.cell? ⟨G.gW,i*38,none⟩=some (.int .u64 (wkrOf M i).slot)∧w.cell? ⟨G.gW,i*38+1,none⟩=some (.int .u64 (wkrOf M i).hand)∧w.cell? ⟨G.gW,i*38+2,none⟩=some (.bool (wkrOf M i).parked)∧w.cell? ⟨G.gW,i*38+3,none⟩=some (.int .i64 (wkrOf M i).left)∧ ∀j,w.frozen? ⟨G.gW,j,none⟩=false:=by
 obtain ⟨P,S,bv,h1,h2,h3,h4⟩:=h.wk.at (h.wlen hi)
 have ho:=h1.lens.obj
 have q: ∀j v,j<4→ [Value.int .u64 (wkrOf M i).slot, .int .u64 (wkrOf M i).hand, .bool (wkrOf M i).parked, .int .i64 (wkrOf M i).left][j]?=some v→w.cell? ⟨G.gW,i*38+j,none⟩=some v:=fun j v hj hv=>by
  rw[blk_cell ho,List.getElem?_toArray,List.append_assoc,List.append_assoc,List.getElem?_append_right (by omega),List.getElem?_append_left (by simp;omega),h2,Nat.add_sub_cancel_left]
  exact hv
 exact ⟨q 0 _ (by decide) rfl,q 1 _ (by decide) rfl,q 2 _ (by decide) rfl,q 3 _ (by decide) rfl,blk_frozen ho⟩
theorem deck_any (i:Int) (w:World) (hi:0≤i∧i<64) (p:Value):Calls Tryz.prog 120 #[p, .int .i64 i] w fun r w'=>r= .returned (.int .u64 (17+3*i))∧w=w':=by
 have hw:IntKind.i64.wrap (3*i)=3*i:=by rw[IntKind.wrap_i64];omega
 have hw2:IntKind.i64.wrap (17+3*i)=17+3*i:=by rw[IntKind.wrap_i64];omega
 have hw3:IntKind.u64.wrap (17+3*i)=17+3*i:=by rw[IntKind.wrap_u64];omega
 go_enter Tryz.func120,Tryz.ntmps120
 go_wp2_with fail
 go_ret
 exact ⟨rfl,rfl⟩
end
end Go.Proofs.YtaangaogmnlljaaGreatDoor.Kn
namespace Go.Proofs.YtaangaogmnlljaaGreatDoor.Kn
open Go.RowKit Asm
section
variable {F:Fixed} {w:World} {own:Own} {G:KG} {M:Mach} {n:Nat}
theorem KernP.alced {w':World} {a':Alc} {m':Mem} (h:KernP F w own G M n) {gc gw:Nat} {v v':Value} (hm0:MemP w G.X gc gw M.mem) (hm: ∀b,b=G.X∨b=gc∨b=gw→own b= .mem) (ha: ∀b,OfA G.A v b→own b= .alc) (hp:AlcP w' G.A G.X v' a') (hmm:MemP w' G.X gc gw m') (hk:Keeps (fun b=>b=G.X∨b=gc∨b=gw∨OfA G.A v b) w w') (hv: ∀b,v'.ownBlock=some b→v.ownBlock=some b∨w.heap.size≤b):KO F w own G { M with alc:=a',mem:=m'} n w':=by
 have k:Touch (fun t=>t= .alc∨t= .mem) w w' own (ext own w.heap.size .alc):=touch_of hk fun b hb=>by
  rcases hb with e|e|e|e
  ·exact Or.inr (hm b (Or.inl e))
  ·exact Or.inr (hm b (Or.inr (Or.inl e)))
  ·exact Or.inr (hm b (Or.inr (Or.inr e)))
  ·exact Or.inl (ha b e)
 refine ⟨_,h.on_alc k ⟨v',hp,fun b hb=>?_⟩ ⟨gc,gw,hmm,fun b hb=>(ext_lt ?_).trans (hm b hb)⟩,k.mono fun _ e=>by rcases e with e|e<;>(rw[e];nofun)⟩
 ·rcases hb with e|e
  ·exact ext_tag (Or.inl (ha b (Or.inl e)))
  ·rcases hv b e with e|e
   ·exact ext_tag (Or.inl (ha b (Or.inr e)))
   ·exact ext_tag (Or.inr e)
 ·obtain ⟨l1,l2,l3⟩:=hm0.lt
  rcases hb with rfl|rfl|rfl<;>assumption
def KBorn (F:Fixed) (w:World) (own:Own) (G:KG) (M:Mach) (n:Nat) (r:Option (Int×List TRow)) (e:Ending) (w':World):Prop:=match r with
 |none=>(∃ev,e= .returned (.tuple #[.int .u64 0,ev])∧Som ev)∧KO F w own G M n w'
 |some (id,l')=>e= .returned (.tuple #[.int .u64 id, .nilIface])∧KO F w own G { M with tab:=l'} (n+1) w'
theorem kborn (h:KernP F w own G M n) (home:Int) (hh:U64 home) (hn:n≤1000000):Calls Tryz.prog 171 #[.pointer (some ⟨G.T,0,none⟩), .int .u64 home] w (KBorn F w own G M n (bornT M.tab home)):=by
 obtain ⟨gt,N,hT,ho,hN⟩:=h.tab
 have H:=born_any hT home hh (by omega)
 generalize bornT M.tab home=r at H ⊢
 cases r with
 |none=>exact H.mono fun e w' ⟨h1,h2,h3⟩=>⟨h1,h.tabbed ho (Nat.le_refl n) hN h3 h2⟩
 |some p=>exact H.mono fun e w' ⟨h1,h2,h3⟩=>⟨h1,h.tabbed ho (by omega) (by omega) h3 h2⟩
theorem krput (h:KernP F w own G M n) (v:Int) (hv:U64 v):Calls Tryz.prog 85 #[.pointer (some ⟨G.R,0,none⟩), .int .u64 v] w fun e w'=>(∃ev,e= .returned ev)∧KO F w own G { M with ring:=putRing M.ring v} n w':=by
 obtain ⟨gr,hR,ho⟩:=h.ring
 exact (rput_any hR v hv).mono fun e w' ⟨h1,h2,h3⟩=>⟨h1,h.ringed ho h3 h2⟩
theorem kget (h:KernP F w own G M n) (k:Nat) (hk:k≤4096):Calls Tryz.prog 170 #[.pointer (some ⟨G.A,0,none⟩), .int .i64 k, .int .i64 64] w fun e w'=>match getA M.alc M.mem k 64 with
  |none=>(∃ev,e= .returned (.tuple #[.int .i64 0,ev])∧Som ev)∧Below w.heap.size w w'
  |some (p,a',m')=>e= .returned (.tuple #[.int .i64 p, .nilIface])∧KO F w own G { M with alc:=a',mem:=m'} n w':=by
 obtain ⟨gc,gw,hm,hMo⟩:=h.mem
 obtain ⟨v,hA,hAo⟩:=h.alc
 have H:=get_any hA hm k hk
 generalize getA M.alc M.mem k 64=r at H ⊢
 cases r with
 |none=>exact H
 |some p=>
  obtain ⟨p,a',m'⟩:=p
  exact H.mono fun e w' ⟨h1,v',h2,h3,h4,h5⟩=>⟨h1,h.alced hm hMo hAo h2 h3 h4 h5⟩
theorem kput (h:KernP F w own G M n) (k:Nat) (hk:k≤100000):Calls Tryz.prog 172 #[.pointer (some ⟨G.A,0,none⟩), .int .i64 k] w fun e w'=>(∃ev,e= .returned ev)∧KO F w own G { M with alc:=(putA M.alc M.mem k).1,mem:=(putA M.alc M.mem k).2} n w':=by
 obtain ⟨gc,gw,hm,hMo⟩:=h.mem
 obtain ⟨v,hA,hAo⟩:=h.alc
 exact (put_anyA hA hm k hk).mono fun e w' ⟨ev,v',h1,h2,h3,h4,h5⟩=>⟨⟨ev,h1⟩,h.alced hm hMo hAo h2 h3 h4 h5⟩
end
end Go.Proofs.YtaangaogmnlljaaGreatDoor.Kn
namespace Go.Proofs.YtaangaogmnlljaaGreatDoor.Kn
open Go.RowKit Asm
section
variable {F:Fixed} {w:World} {own:Own} {G:KG} {M:Mach} {n:Nat}
theorem KernP.drew (h:KernP F w own G M n):KernP F w.drew own G M n:=h.move (touch_drew w own)
theorem KernP.drewN (h:KernP F w own G M n) (q:Nat):KernP F (w.drewN q) own G M n:=h.move (touch_drewN w own q)
theorem KO.drew {w':World} (h:KO F w.drew own G M n w'):KO F w own G M n w':=KO.trans (touch_drew w own) h
theorem KO.drewN {w':World} {q:Nat} (h:KO F (w.drewN q) own G M n w'):KO F w own G M n w':=KO.trans (touch_drewN w own q) h
theorem KO.more {w1:World} {n':Nat} (h:KO F w own G M n w1) (hn:n≤n'):KO F w own G M n' w1:=by
 obtain ⟨own1,h1,t1⟩:=h
 exact ⟨_,h1.more hn,t1⟩
theorem KernP.thr_cells (h:KernP F w own G M n) {id:Int} {r:Run} (hr:runOf M.runs id=some r):w.cell? ⟨G.tb id,0,none⟩=some (.int .u64 id)∧(∃lv,w.cell? ⟨G.tb id,1,none⟩=some lv∧PRow w own (.row id) 282 1 lv r.l.length (fptrs G.fb r))∧w.cell? ⟨G.tb id,2,none⟩=some (.int .u64 r.woken)∧(id≠0∧U64 id)∧ ∀j,w.frozen? ⟨G.tb id,j,none⟩=false:=by
 obtain ⟨hm,rfl⟩:=runOf_mem hr
 have hP:=h.runs.each r hm
 obtain ⟨lv,ho,hrow⟩:=hP.obj
 exact ⟨by rw[blk_cell ho];rfl,⟨lv,by rw[blk_cell ho];rfl,hrow⟩,by rw[blk_cell ho];rfl,hP.id,blk_frozen ho⟩
end
end Go.Proofs.YtaangaogmnlljaaGreatDoor.Kn
namespace Go.Proofs.YtaangaogmnlljaaGreatDoor.Kn
open Go.RowKit Asm
def Homes (l:List TRow):Prop:= ∀r∈l,0≤r.t.home∧r.t.home≤65536
theorem ofT_mem {l:List TRow} {id:Int} {p:Nat} {r:TRow} (h:ofT l id=some (p,r)):r∈l∧l[p]?=some r:=by
 unfold ofT at h
 split at h
 ·cases h
 ·split at h
  ·rename_i r0 hr0
   split at h
   ·injection h with h
    injection h with h1 h2
    subst h1 h2
    exact ⟨List.mem_of_getElem? hr0,hr0⟩
   ·cases h
  ·cases h
theorem Homes.set {l:List TRow} (h:Homes l) {p:Nat} {r:TRow} (hr:0≤r.t.home∧r.t.home≤65536):Homes (l.set p r):=fun x hx=>by
 rcases List.mem_or_eq_of_mem_set hx with hx|hx
 ·exact h x hx
 ·rw[hx];exact hr
theorem Homes.look {l:List TRow} (h:Homes l) (id:Int):0≤((lookT l id).getD {}).home∧((lookT l id).getD {}).home≤65536:=by
 unfold lookT
 cases e:ofT l id with
 |none=>exact ⟨Int.le_refl 0,by show (0:Int)≤65536;decide⟩
 |some p=>exact h p.2 (ofT_mem (p:=p.1) (r:=p.2) e).1
section
variable {F:Fixed} {w:World} {own:Own} {G:KG} {M:Mach} {n:Nat}
theorem KernP.kcells (h:KernP F w own G M n):w.cell? ⟨G.K,1007,none⟩=some (.pointer (some ⟨G.X,0,none⟩))∧w.cell? ⟨G.K,1008,none⟩=some (.pointer (some ⟨G.A,0,none⟩))∧w.cell? ⟨G.K,1009,none⟩=some (.pointer (some ⟨G.C,0,none⟩))∧w.cell? ⟨G.K,1010,none⟩=some (.pointer (some ⟨G.R,0,none⟩))∧w.cell? ⟨G.K,1011,none⟩=some (.pointer (some ⟨G.Q,0,none⟩))∧w.cell? ⟨G.K,1012,none⟩=some (.pointer (some ⟨G.T,0,none⟩))∧w.cell? ⟨G.K,1013,none⟩=some (.pointer (some ⟨G.O,0,none⟩))∧w.cell? ⟨G.K,1014,none⟩=some (.map (some G.th)):=
 ⟨h.mcell,h.acell,h.ccell,h.rcell,h.qcell,h.tcell,h.ocell,h.hcell⟩
theorem KernP.stays (h:KernP F w own G M n) {id:Int} {r:Run} (hr:runOf M.runs id=some r) {W:World} (hW:Below w.heap.size w W):Below w.heap.size w W∧W.cell? ⟨G.K,1012,none⟩=some (.pointer (some ⟨G.T,0,none⟩))∧W.cell? ⟨G.tb id,0,none⟩=some (.int .u64 id):=⟨hW,(h.below hW).tcell,((h.below hW).thr_cells hr).1⟩
theorem Touch.other {w':World} {own':Own} (k:Touch (fun t=>t≠ .other) w w' own own') {b:Nat} (hb:own b= .other) (hl:b<w.heap.size):w'.heap[b]?=w.heap[b]?∧own' b= .other∧b<w'.heap.size:=
 ⟨(k.at (t:= .other) (fun e=>e rfl) hb hl).1,(k.at (t:= .other) (fun e=>e rfl) hb hl).2,Nat.lt_of_lt_of_le hl k.keeps.size⟩
end
end Go.Proofs.YtaangaogmnlljaaGreatDoor.Kn
namespace Go.Proofs.YtaangaogmnlljaaGreatDoor.Kn
open Go.RowKit Asm
section
variable {F:Fixed} {w:World} {own:Own} {G:KG} {M:Mach} {n:Nat}
theorem KernP.reg (h:KernP F w own G M n) {i:Nat} (hi:i<F.workers) {t:Option Int} {b o:Nat} (fa:FAt G M i t b o) (k:Nat) (hk:k<32):w.cell? ⟨b,o+1+k,none⟩=some (.int .u64 (rg (getF M i t) k))∧U64 (rg (getF M i t) k)∧w.frozen? ⟨b,o+1+k,none⟩=false∧b<w.heap.size:=by
 obtain ⟨ty,P,S,tb,tk,bv,hf⟩:=h.frame hi fa
 exact ⟨hf.fr.cells.2.2.1 k hk,rg_range hf.fr.ok.r _,hf.fr.cells.2.2.2 _,hf.fr.lens.lt⟩
end
end Go.Proofs.YtaangaogmnlljaaGreatDoor.Kn
namespace Go.Proofs.YtaangaogmnlljaaGreatDoor.Kn
open Go.RowKit Asm
theorem zeroThr (w:World):(zeroValue 278).run Tryz.prog w= .ok (.pointer none) w:=by kernel_rfl
section
variable {F:Fixed} {w:World} {own:Own} {G:KG} {M:Mach} {n:Nat}
theorem Fr1.out {i:Nat} {t:Option Int} {b o:Nat} {ty:TypeId} {P S:List Value} {tb tk:Tag} {bv:Value} (hf:Fr1 F w own G M n i t b o ty P S tb tk bv) (hM:PMem w own G.X M.mem) {f':Frame} {w':World} {n':Nat} (hn:n≤n') (h:FrOut w own b o ty P S tb tk n' f' w'):KO F w own G (setF M i t f') n' w':=by
 obtain ⟨own2,bv2,h1,h2⟩:=h
 refine ⟨own2,hf.back _ _ _ _ bv2 M.mem hn (h2.mono fun _ e=>e.elim Or.inl fun e=>Or.inr (Or.inl e)) h1 ?_,h2.mono ?_⟩
 ·exact hM.move h2 fun e=>e.elim (fun e=>hf.ntb.1 e.symm) fun e=>hf.ntb.2.1 e.symm
 ·rintro t (rfl|rfl) rfl
  ·rcases hf.ntb.2.2.1 with e|e<;>exact e
  ·rcases hf.ntb.2.2.2 with e|e<;>exact e
theorem KernP.look (h:KernP F w own G M n) (id:Int) (hid:U64 id):(Instr.lookup 156 (.map (some G.th)) (.int .u64 id) false).run Tryz.prog w= .ok (.pointer ((runOf M.runs id).map fun _=>⟨G.tb id,0,none⟩)) w:=by
 obtain ⟨N,hm,-⟩:=h.runs.map
 rw[hm.look (S:=ptrs) Tryz.underlying156 (zeroThr w) hid]
 cases runOf M.runs id<;>rfl
theorem FAt.of {M':Mach} {i:Nat} {t:Option Int} {b o:Nat} (fa:FAt G M i t b o) (hr: ∀id r,runOf M.runs id=some r→ ∃r',runOf M'.runs id=some r'∧r'.l.length=r.l.length):FAt G M' i t b o:=by
 cases t with
 |none=>exact fa
 |some id=>
  obtain ⟨r,h1,h2,h3,h4⟩:=fa
  obtain ⟨r',q1,q2⟩:=hr id r h1
  exact ⟨r',q1,fun e=>h2 (by rw[←List.length_eq_zero_iff,←q2,e];rfl),by rw[q2];exact h3,h4⟩
end
end Go.Proofs.YtaangaogmnlljaaGreatDoor.Kn
namespace Go.Proofs.YtaangaogmnlljaaGreatDoor.Kn
open Go.RowKit Asm
section
variable {F:Fixed} {w:World} {own:Own} {G:KG} {M:Mach} {n:Nat}
theorem Homes.u64 {l:List TRow} (h:Homes l) (id:Int):U64 ((lookT l id).getD {}).home:=by
 have:=h.look id
 unfold U64
 omega
end
end Go.Proofs.YtaangaogmnlljaaGreatDoor.Kn
namespace Go.Proofs.YtaangaogmnlljaaGreatDoor.Kn
open Asm Hp
def TGood (l:List TRow):Prop:= ∀r∈l,(0≤r.t.home∧r.t.home≤65536)∧(r.t.id≠0→r.t.state≠0)
theorem TGood.set {l:List TRow} (h:TGood l) {p:Nat} {r:TRow} (hr:(0≤r.t.home∧r.t.home≤65536)∧(r.t.id≠0→r.t.state≠0)):TGood (l.set p r):=fun x hx=>by
 rcases List.mem_or_eq_of_mem_set hx with hx|hx
 ·exact h x hx
 ·rw[hx];exact hr
theorem TGood.of {l:List TRow} (h:TGood l) {id:Int} {p:Nat} {r:TRow} (e:ofT l id=some (p,r)):(0≤r.t.home∧r.t.home≤65536)∧(r.t.id≠0→r.t.state≠0):=h r (ofT_mem e).1
theorem TGood.be {l:List TRow} (h:TGood l) (id s:Int) (hs:s≠0):TGood (beT l id s):=by
 unfold beT
 cases e:ofT l id with
 |none=>exact h
 |some p=>
  obtain ⟨p,r⟩:=p
  simp only
  split
  ·exact h
  ·exact h.set ⟨(h.of e).1,fun _=>hs⟩
theorem good_free (n:Int):(0≤({ times:=n}:TRow).t.home∧({ times:=n}:TRow).t.home≤65536)∧(({ times:=n}:TRow).t.id≠0→({ times:=n}:TRow).t.state≠0):=⟨⟨Int.le_refl 0,by show (0:Int)≤65536;decide⟩,fun h=>absurd rfl h⟩
theorem TGood.loose {l:List TRow} (h:TGood l) (id:Int):TGood (looseT l id).1:=by
 unfold looseT
 cases e:ofT l id with
 |none=>exact h
 |some p=>
  obtain ⟨p,r⟩:=p
  simp only
  repeat' split
  ·exact h
  ·exact h.set (good_free _)
  ·exact h.set ⟨(h.of e).1,(h.of e).2⟩
theorem TGood.leave {l:List TRow} (h:TGood l) (id:Int):TGood (leaveT l id).1:=by
 unfold leaveT
 cases e:ofT l id with
 |none=>exact h
 |some p=>
  obtain ⟨p,r⟩:=p
  simp only
  repeat' split
  ·exact h
  ·exact h.set (good_free _)
  ·exact h.set ⟨(h.of e).1,(h.of e).2⟩
theorem TGood.born {l:List TRow} (h:TGood l) {home id:Int} {l':List TRow} (hh:0≤home∧home≤65536) (e:bornT l home=some (id,l')):TGood l':=by
 unfold bornT at e
 split at e
 ·cases e
 ·injection e with e
  injection e with _ e
  rw[←e]
  exact h.set ⟨hh,fun _=>by show (1:Int)≠0;decide⟩
def GoodP (k:Nat) (M M':Mach):Prop:=TGood M'.tab∧M'.out.length≤M.out.length+k
theorem GoodP.mono {k j:Nat} {M M':Mach} (h:GoodP k M M') (hj:k≤j):GoodP j M M':=⟨h.1,by have:=h.2;omega⟩
theorem GoodP.same {k:Nat} {M M' M2:Mach} (h:GoodP k M M') (e1:M2.tab=M'.tab) (e2:M2.out.length≤M'.out.length):GoodP k M M2:=⟨by rw[e1];exact h.1,by have:=h.2;omega⟩
end Go.Proofs.YtaangaogmnlljaaGreatDoor.Kn
namespace Go.Proofs.YtaangaogmnlljaaGreatDoor.Kn
open Go.RowKit Asm
section
variable {F:Fixed} {w:World} {own:Own} {G:KG} {M:Mach} {n:Nat}
theorem getA_pos {a:Alc} {m:Mem} {n:Nat} {v:Int} {p:Nat} {a':Alc} {m':Mem} (h:getA a m n v=some (p,a',m')):p+n≤m.ws.length:=by
 unfold getA at h
 split at h
 ·cases h
 ·split at h
  ·cases h
  ·rename_i q k _
   split at h
   ·rename_i hf
    injection h with h
    injection h with h1 _
    subst h1
    unfold Mem.free? at hf
    rw[Bool.and_eq_true] at hf
    exact of_decide_eq_true hf.1
   ·cases h
theorem KernP.get_lt (h:KernP F w own G M n) {q p:Nat} {a':Alc} {m':Mem} {v:Int} (e:getA M.alc M.mem q v=some (p,a',m')):p≤65536:=by
 obtain ⟨gc,gw,hm,-⟩:=h.mem
 have:=getA_pos e
 have:=hm.ok.len
 have:=hm.ok.most
 omega
theorem FAt.setF {i:Nat} {t:Option Int} {b o:Nat} (fa:FAt G M i t b o) (hn:(M.runs.map (·.id)).Nodup) (f:Frame):FAt G (Kn.setF M i t f) i t b o:=by
 cases t with
 |none=>exact fa
 |some id=>
  obtain ⟨r,hr,hne,h1,h2⟩:=fa
  have hid:=(runOf_mem hr).2
  have e1:Kn.setF M i (some id) f={ M with runs:=setRun M.runs (withTop r { topF r with f:=f})}:=by unfold Kn.setF;simp only[hr]
  rw[e1]
  have hl:(withTop r { topF r with f:=f}).l.length=r.l.length:=by
   have:0<r.l.length:=List.length_pos_iff.2 hne
   simp[withTop]
   omega
  refine ⟨withTop r { topF r with f:=f},?_,fun e=>hne (by rw[←List.length_eq_zero_iff,←hl,e];rfl),by rw[hl];exact h1,h2⟩
  show runOf (setRun M.runs (withTop r { topF r with f:=f})) id=_
  rw[runOf_setRun hn (r0:=r) (by show runOf M.runs r.id=some r;rw[hid];exact hr),if_pos (by show id=r.id;exact hid.symm)]
end
end Go.Proofs.YtaangaogmnlljaaGreatDoor.Kn
namespace Go.Proofs.YtaangaogmnlljaaGreatDoor.Kn
open Go.RowKit Asm
theorem freeT_at: ∀{l:List TRow} {p:Nat},freeT l=some p→ ∃r,l[p]?=some r∧r.t.id=0
 |[],_,h=>by cases h
 |r::l,p,h=>by
  unfold freeT at h
  split at h
  ·rename_i h0
   injection h with h
   subst h
   exact ⟨r,rfl,h0⟩
  ·cases e:freeT l with
   |none=>rw[e] at h;cases h
   |some q=>
    rw[e] at h
    injection h with h
    subst h
    obtain ⟨r',h1,h2⟩:=freeT_at e
    exact ⟨r',h1,h2⟩
theorem TabOk.born {l:List TRow} {N:Nat} (h:TabOk l N):BornOk l:=by
 intro home id l' e
 unfold bornT at e
 split at e
 ·cases e
 rename_i p hp
 obtain ⟨r,hr,hr0⟩:=freeT_at hp
 have hpl:p<l.length:=(List.getElem?_eq_some_iff.1 hr).1
 have hp64:p<64:=by rw[←h.len];exact hpl
 have hg:l.getD p {}=r:=by rw[List.getD_eq_getElem?_getD,hr];rfl
 have hok:=h.row p hp64
 have ht:=hok.times
 unfold tAt at ht
 rw[hg] at ht e
 have hN:=h.most
 injection e with e
 injection e with e1 e2
 have hid:id=(p:Int)+64* (r.times+1):=by rw[←e1];omega
 have h0:id≠0:=by omega
 have hq:(id%64).toNat=p:=by omega
 rw[e1] at e2
 refine ⟨h0,?_,fun x=>?_⟩
 ·refine view_none ?_
  unfold ofT
  rw[if_neg h0,hq,hr]
  have: ¬r.t.id=id:=by omega
  simp only[if_neg this]
 ·rw[←e2]
  by_cases hx:x=id
  ·subst hx
   rw[if_pos rfl]
   refine view_of (p:=p) (r:=⟨r.times+1,false,{ id:=x,state:=1,home:=home}⟩) ?_
   unfold ofT
   rw[if_neg h0,hq,List.getElem?_set_self hpl]
   simp
  ·rw[if_neg hx]
   by_cases hx0:x=0
   ·subst hx0;rfl
   ·have:ofT (l.set p ⟨r.times+1,false,{ id:=id,state:=1,home:=home}⟩) x=ofT l x:=by
     unfold ofT
     rw[if_neg hx0,if_neg hx0,List.getElem?_set]
     by_cases hqx:p=(x%64).toNat
     ·rw[if_pos hqx,if_pos hpl,←hqx,hr]
      have a: ¬id=x:=fun e=>hx e.symm
      have b: ¬r.t.id=x:=by omega
      simp only[if_neg a,if_neg b]
     ·rw[if_neg hqx]
    unfold view lookT
    rw[this]
theorem nodup_few: ∀(k:Nat) (l:List Nat),l.Nodup→(∀x∈l,x<k)→l.length≤k
 |0,l,_,h=>by
  cases l with
  |nil=>exact Nat.le_refl _
  |cons a l=>exact absurd (h a List.mem_cons_self) (by omega)
 |k+1,l,hn,h=>by
  by_cases hk:k∈l
  ·have h1:=nodup_few k (l.erase k) (hn.erase k) fun x hx=>by
    have hx2:=(List.Nodup.mem_erase_iff hn).1 hx
    have:=h x hx2.2
    omega
   rw[List.length_erase_of_mem hk] at h1
   omega
  ·have h1:=nodup_few k l hn fun x hx=>by
    have:=h x hx
    have:x≠k:=fun e=>hk (e▸hx)
    omega
   omega
theorem nodup_map {α:Type} {l:List α} {f g:α→Int} {q:α→Nat} (h:(l.map f).Nodup) (hq: ∀a∈l,∀b∈l,q a=q b→f a=f b):(l.map q).Nodup:=by
 induction l with
 |nil=>exact List.nodup_nil
 |cons a l ih=>
  rw[List.map_cons,List.nodup_cons] at h ⊢
  refine ⟨fun hm=>h.1 ?_,ih h.2 fun x hx y hy=>hq x (List.mem_cons_of_mem _ hx) y (List.mem_cons_of_mem _ hy)⟩
  obtain ⟨b,hb,e⟩:=List.mem_map.1 hm
  rw[hq a List.mem_cons_self b (List.mem_cons_of_mem _ hb) e.symm]
  exact List.mem_map_of_mem hb
section
variable {F:Fixed} {w:World} {own:Own} {G:KG} {M:Mach} {n:Nat}
theorem KernP.born (h:KernP F w own G M n):BornOk M.tab:=by
 obtain ⟨gt,N,hT,-,-⟩:=h.tab
 exact hT.ok.born
theorem alive_row {l:List TRow} {N:Nat} (h:TabOk l N) {id:Int} (ha:aliveV (view l id)):(id%64).toNat<64∧ ∃r,l[(id%64).toNat]?=some r∧r.t.id=id:=by
 obtain ⟨p,hp,-⟩:=ha
 unfold view lookT ofT at hp
 split at hp
 ·cases hp
 ·split at hp
  ·rename_i r hr
   split at hp
   ·rename_i e
    exact ⟨by have:=(List.getElem?_eq_some_iff.1 hr).1;rw[h.len] at this;exact this,r,hr,e⟩
   ·cases hp
  ·cases hp
theorem KernP.few (h:KernP F w own G M n) (hI:Inv M):M.clk.S.length≤64:=by
 obtain ⟨hb,hm,v,ab,N,K,hC,-⟩:=h.clk
 obtain ⟨gt,N2,hT,-,-⟩:=h.tab
 have h1:(M.clk.S.map fun t=>(t.w%64).toNat).Nodup:=nodup_map (g:=fun t=>t.w) hC.nod fun a ha b hb e=>by
  obtain ⟨-,r,hr,e1⟩:=alive_row hT.ok (hI.clk a ha)
  obtain ⟨-,r2,hr2,e2⟩:=alive_row hT.ok (hI.clk b hb)
  rw[e] at hr
  rw[hr] at hr2
  injection hr2 with hr2
  rw[←e1,←e2,hr2]
 have:=nodup_few 64 _ h1 fun x hx=>by
  obtain ⟨t,ht,e⟩:=List.mem_map.1 hx
  rw[←e]
  exact (alive_row hT.ok (hI.clk t ht)).1
 simpa using this
end
end Go.Proofs.YtaangaogmnlljaaGreatDoor.Kn
namespace Go.Proofs.YtaangaogmnlljaaGreatDoor.Kn
open Asm Hp
def deckL (m:Mem) (n i:Nat):Mem:=(((m.lay (17+3* (i:Int)) 1).lay (17+3* (i:Int)+1) 1).lay (17+3* (i:Int)+2) (17+3* (n:Int)+5* (i:Int))).lay (17+3* (n:Int)+5* (i:Int)) 4
def decksL (m:Mem) (n:Nat):Nat→Mem
 |0=>m
 |k+1=>deckL (decksL m n k) n k
def baseN (F:Fixed):Nat:=17+8*F.workers
def mapIf (m:Mem) (a n:Nat) (w:Int):Mem:=if 0<n then m.map a n w else m
def laidM (F:Fixed) (cells:Nat):Mem:=mapIf (mapIf (decksL ((⟨List.replicate cells 0,List.replicate cells 0⟩:Mem).map 0 (baseN F) 64) F.workers F.workers) (baseN F) F.wide.toNat 64) (baseN F+F.wide.toNat) F.narrow.toNat 32
def bareK (F:Fixed) (cells:Nat):Mach where
 mem:=laidM F cells
 alc:=⟨baseN F+F.wide.toNat+F.narrow.toNat,cells,[]⟩
 clk:={ now:=0,S:= [],last:=0}
 slps:= []
 ring:= []
 tab:=List.replicate 64 {}
 objs:=List.replicate 64 {}
 runs:= []
 wkrs:=List.replicate F.workers { f:={ pc:=F.loop}}
def newK (F:Fixed) (cells:Nat) (entry:Int):Mach:={ (bornK (bareK F cells) entry 0).2 with ring:=putRing (bornK (bareK F cells) entry 0).2.ring (bornK (bareK F cells) entry 0).1}
theorem tab0_row {r:TRow} (h:r∈List.replicate 64 ({}:TRow)):r={}:=(List.mem_replicate.1 h).2
theorem view0 (id:Int):view (List.replicate 64 {}) id=none:=by
 refine view_none ?_
 unfold ofT
 split
 ·rfl
 ·rename_i h0
  split
  ·rename_i r hr
   have:r={}:=tab0_row (List.mem_of_getElem? hr)
   subst this
   exact if_neg fun e=>h0 e.symm
  ·rfl
theorem count0 (l:List Int) (h: ∀x∈l,x=0) {id:Int} (h0:id≠0):l.count id=0:=List.count_eq_zero.2 fun hm=>h0 (h _ hm)
theorem inv_bare (F:Fixed) (cells:Nat):Inv (bareK F cells):=by
 have hh: ∀x∈handsOf (bareK F cells),x=0:=fun x hx=>by
  obtain ⟨k,hk,e⟩:=List.mem_map.1 hx
  have:=(List.mem_replicate.1 hk).2
  rw[←e,this]
 have hs: ∀x∈slotsOf (bareK F cells),x=0:=fun x hx=>by
  obtain ⟨k,hk,e⟩:=List.mem_map.1 hx
  have:=(List.mem_replicate.1 hk).2
  rw[←e,this]
 refine ⟨List.nodup_nil,fun id=>?_,fun r hr=>(by cases hr),⟨fun id h0=>?_,fun id h0 hm=>?_,fun id h0 hm=>?_⟩,fun s hs=>(by cases hs),fun t ht=>(by cases ht)⟩
 ·constructor
  ·intro h;cases h
  ·rintro ⟨p,hp,-⟩
   rw[show view (bareK F cells).tab id=none from view0 id] at hp
   cases hp
 ·rw[count0 _ hh h0,count0 _ hs h0]
  show ([]:List Int).count id+0+0≤1
  simp
 ·rcases hm with hm|hm
  ·cases hm
  ·exact absurd (hh _ hm) h0
 ·exact absurd (hs _ hm) h0
end Go.Proofs.YtaangaogmnlljaaGreatDoor.Kn
namespace Go.Proofs.YtaangaogmnlljaaGreatDoor.Kn
open Asm Hp
theorem fill_set {l:List Int} {a n i:Nat} {v u:Int} (h:i<a) (hl:a+n≤l.length):(fillL l a n v).set i u=fillL (l.set i u) a n v:=by
 have h1: ∀(L:List Int) (j:Nat),a+n≤L.length→(fillL L a n v)[j]?=if j<a then L[j]? else if j<a+n then some v else L[j]?:=fun L j hL=>by
  unfold fillL
  by_cases h1:j<a
  ·rw[if_pos h1,List.append_assoc,List.getElem?_append_left (by simp;omega),List.getElem?_take,if_pos h1]
  ·rw[if_neg h1,List.append_assoc,List.getElem?_append_right (by simp;omega)]
   by_cases h2:j<a+n
   ·rw[if_pos h2,List.getElem?_append_left (by simp;omega),List.getElem?_replicate,if_pos (by simp;omega)]
   ·rw[if_neg h2,List.getElem?_append_right (by simp;omega),List.getElem?_drop]
    congr 1
    simp
    omega
 refine List.ext_getElem? fun j=>?_
 rw[List.getElem?_set,h1 _ _ hl,h1 _ _ (by rw[List.length_set];exact hl),List.getElem?_set]
 have hf:(fillL l a n v).length=l.length:=by simp[fillL];omega
 by_cases e:i=j
 ·subst e
  rw[if_pos rfl,if_pos h,if_pos rfl,hf]
 ·rw[if_neg e,if_neg e]
theorem map_lay {m:Mem} {a n:Nat} {wd x v:Int} (h:x.toNat<a) (hl:a+n≤m.hs.length):(m.map a n wd).lay x v=(m.lay x v).map a n wd:=by
 unfold Mem.map Mem.lay
 simp only
 rw[fill_set h hl]
theorem mapIf_lay {m:Mem} {a n:Nat} {wd x v:Int} (h:x.toNat<a) (hl:a+n≤m.hs.length):(mapIf m a n wd).lay x v=mapIf (m.lay x v) a n wd:=by
 unfold mapIf
 split
 ·exact map_lay h hl
 ·rfl
theorem lay_len (m:Mem) (x v:Int):(m.lay x v).hs.length=m.hs.length:=List.length_set ..
theorem mapIf_deck {m:Mem} {a n k i:Nat} {wd:Int} (hi:i<k) (ha:17+8*k≤a) (hl:a+n≤m.hs.length):deckL (mapIf m a n wd) k i=mapIf (deckL m k i) a n wd:=by
 unfold deckL
 rw[mapIf_lay (by omega) hl,mapIf_lay (by omega) (by rw[lay_len];exact hl),mapIf_lay (by omega) (by rw[lay_len,lay_len];exact hl),mapIf_lay (by omega) (by rw[lay_len,lay_len,lay_len];exact hl)]
theorem decks_len (m:Mem) (k:Nat): ∀i,(decksL m k i).hs.length=m.hs.length
 |0=>rfl
 |i+1=>by unfold decksL deckL;rw[lay_len,lay_len,lay_len,lay_len,decks_len m k i]
theorem mapIf_decks {m:Mem} {a n k:Nat} {wd:Int} (ha:17+8*k≤a) (hl:a+n≤m.hs.length): ∀i,i≤k→decksL (mapIf m a n wd) k i=mapIf (decksL m k i) a n wd
 |0,_=>rfl
 |i+1,h=>by
  unfold decksL
  rw[mapIf_decks ha hl i (by omega),mapIf_deck (by omega) ha (by rw[decks_len];exact hl)]
theorem mapIf_len {m:Mem} {a n:Nat} {wd:Int} (hl:a+n≤m.hs.length):(mapIf m a n wd).hs.length=m.hs.length:=by
 unfold mapIf
 split
 ·unfold Mem.map fillL;simp;omega
 ·rfl
def mem0 (cells:Nat):Mem:=⟨List.replicate cells 0,List.replicate cells 0⟩
theorem laid_doc (F:Fixed) (cells:Nat) (h:baseN F+F.wide.toNat+F.narrow.toNat≤cells):
  decksL (mapIf (mapIf ((mem0 cells).map 0 (baseN F) 64) (baseN F) F.wide.toNat 64) (baseN F+F.wide.toNat) F.narrow.toNat 32) F.workers F.workers=laidM F cells:=by
 have h0:((mem0 cells).map 0 (baseN F) 64).hs.length=cells:=by unfold Mem.map fillL mem0;simp;omega
 rw[mapIf_decks (by unfold baseN;omega) (by rw[mapIf_len (by rw[h0];omega),h0];omega) _ (Nat.le_refl _),mapIf_decks (by unfold baseN;omega) (by rw[h0];omega) _ (Nat.le_refl _)]
 rfl
end Go.Proofs.YtaangaogmnlljaaGreatDoor.Kn
namespace Go.Proofs.YtaangaogmnlljaaGreatDoor.Kn
open Go.RowKit Asm
structure KB (w:World) (K:Nat) (P R S:List Value):Prop where
 obj:w.heap[K]?=some (.cells (P++R++S).toArray 159 (0,0))
 p:P.length=7
 r:R.length=1000
 s:S.length=14
section
variable {w w':World} {K:Nat} {P R S:List Value}
theorem KB.lt (h:KB w K P R S):K<w.heap.size:=blk_in h.obj
theorem KB.frz (h:KB w K P R S) (i:Nat):w.frozen? ⟨K,i,none⟩=false:=blk_frozen h.obj i
theorem KB.of_block (h:KB w K P R S) (e:w'.heap[K]?=w.heap[K]?):KB w' K P R S:=⟨e.trans h.obj,h.p,h.r,h.s⟩
theorem KB.below (h:KB w K P R S) (hb:Below w.heap.size w w'):KB w' K P R S:=h.of_block (hb.block K h.lt)
theorem KB.keeps {X:Nat→Prop} (h:KB w K P R S) (hk:Keeps X w w') (hx: ¬X K):KB w' K P R S:=h.of_block (hk.block K h.lt hx)
theorem KB.cp (h:KB w K P R S) {j:Nat} (hj:j<7) {v:Value} (hv:P[j]?=some v):w.cell? ⟨K,j,none⟩=some v:=by
 rw[blk_cell h.obj,List.getElem?_toArray,List.append_assoc,List.getElem?_append_left (by rw[h.p];exact hj),hv]
theorem KB.cr (h:KB w K P R S) {j:Nat} (hj:j<1000) {v:Value} (hv:R[j]?=some v):w.cell? ⟨K,7+j,none⟩=some v:=by
 rw[blk_cell h.obj,List.getElem?_toArray,List.append_assoc,List.getElem?_append_right (by rw[h.p];omega),h.p,List.getElem?_append_left (by rw[h.r];omega),Nat.add_sub_cancel_left,hv]
theorem KB.cs (h:KB w K P R S) (j:Nat) {v:Value} (hv:S[j]?=some v):w.cell? ⟨K,1007+j,none⟩=some v:=by
 have hl:(P++R).length=1007:=by rw[List.length_append,h.p,h.r]
 rw[blk_cell h.obj,List.getElem?_toArray,List.getElem?_append_right (by rw[hl];omega),hl,Nat.add_sub_cancel_left,hv]
theorem KB.setP (h:KB w K P R S) {j:Nat} (hj:j<7) (v:Value):KB (w.setCell ⟨K,j,none⟩ v) K (P.set j v) R S:=by
 refine ⟨?_,by rw[List.length_set];exact h.p,h.r,h.s⟩
 rw[set_block h.obj,List.setIfInBounds_toArray,List.append_assoc,List.set_append_left _ _ (by rw[h.p];exact hj),List.append_assoc]
theorem KB.setR (h:KB w K P R S) {j:Nat} (hj:j<1000) (v:Value):KB (w.setCell ⟨K,7+j,none⟩ v) K P (R.set j v) S:=by
 refine ⟨?_,h.p,by rw[List.length_set];exact h.r,h.s⟩
 rw[set_block h.obj,List.setIfInBounds_toArray,List.append_assoc,List.set_append_right _ _ (by rw[h.p];omega),h.p,Nat.add_sub_cancel_left,List.set_append_left _ _ (by rw[h.r];exact hj),List.append_assoc]
theorem KB.setS (h:KB w K P R S) (j:Nat) (v:Value):KB (w.setCell ⟨K,1007+j,none⟩ v) K P R (S.set j v):=by
 have hl:(P++R).length=1007:=by rw[List.length_append,h.p,h.r]
 refine ⟨?_,h.p,h.r,by rw[List.length_set];exact h.s⟩
 rw[set_block h.obj,List.setIfInBounds_toArray,List.set_append_right _ _ (by rw[hl];omega),hl,Nat.add_sub_cancel_left]
end
set_option maxRecDepth 100000 in
theorem base_at {w:World} {K gW k:Nat} (c0:w.cell? ⟨K,1015,none⟩=some (.slice (some ⟨gW,0,none⟩) k k)) (hk:1≤k∧k≤64):Calls Tryz.prog 42 #[.pointer (some ⟨K,0,none⟩)] w fun r w'=>r= .returned (.int .i64 (17+8* (k:Int)))∧w=w':=by
 have hkI:(1:Int)≤(k:Int)∧(k:Int)≤64:=by omega
 have hw:IntKind.i64.wrap (8* (k:Int))=8* (k:Int):=by rw[IntKind.wrap_i64];omega
 have hw2:IntKind.i64.wrap (17+8* (k:Int))=17+8* (k:Int):=by rw[IntKind.wrap_i64];omega
 clear hk
 exact m114
set_option maxRecDepth 100000 in
theorem cells_at {w:World} {K:Nat} {wd nr:Int} (c0:w.cell? ⟨K,5,none⟩=some (.int .i64 wd)) (c1:w.cell? ⟨K,6,none⟩=some (.int .i64 nr)) (hwd:0≤wd∧0≤nr∧wd+nr≤256):Calls Tryz.prog 169 #[.pointer (some ⟨K,0,none⟩)] w fun r w'=>r= .returned (.int .i64 (wd+nr))∧Below w.heap.size w w':=by
 have hw:IntKind.i64.wrap (wd+nr)=wd+nr:=by rw[IntKind.wrap_i64];omega
 clear hwd
 go_enter Tryz.func169,Tryz.ntmps169
 go_wp2_with fail
 go_quiet (fail)
 go_wp2_with fail
 go_ret
 exact ⟨rfl,by first|exact Below.refl _ _|exact below_dn (Below.refl _ _) _⟩
theorem acc_lay {m:Mem} {a v:Int} (hw:m.width a=64):m.acc 1 a 0 v=some (m.held a,m.lay a v):=by
 unfold Mem.acc
 simp only[hw]
 rw[if_neg (by decide)]
 simp[cutW]
theorem decksL_width (m:Mem) (n:Nat): ∀(k:Nat) (b:Int),(decksL m n k).width b=m.width b
 |0,_=>rfl
 |k+1,b=>decksL_width m n k b
theorem free_decks (m:Mem) (n:Nat): ∀(k b l:Nat),(decksL m n k).free? b l=m.free? b l
 |0,_,_=>rfl
 |k+1,b,l=>free_decks m n k b l
theorem map_width {m:Mem} {n:Nat} {w:Int} (hl:n≤m.ws.length) {b:Int} (hb:0≤b∧b<n):(m.map 0 n w).width b=w:=by
 unfold Mem.width Mem.map fillL
 simp only[List.take_zero,List.nil_append]
 rw[List.getD_eq_getElem?_getD,List.getElem?_append_left (by simp;omega),List.getElem?_replicate,if_pos (by omega)]
 rfl
theorem free_zero {cells a n:Nat} (h:a+n≤cells):(⟨List.replicate cells 0,List.replicate cells 0⟩:Mem).free? a n=true:=by
 unfold Mem.free?
 simp only[List.length_replicate,Bool.and_eq_true,decide_eq_true_eq]
 refine ⟨h,?_⟩
 rw[List.all_eq_true]
 intro x hx
 have:=List.mem_of_mem_drop (List.mem_of_mem_take hx)
 rw[(List.mem_replicate.1 this).2]
 rfl
theorem free_map {m:Mem} {a n b k:Nat} {w:Int} (hl:m.ws.length=m.hs.length) (h:m.free? b k=true) (hab:a+n≤b):(m.map a n w).free? b k=true:=by
 unfold Mem.free? Mem.map at*
 simp only[Bool.and_eq_true,decide_eq_true_eq] at*
 obtain ⟨h1,h2⟩:=h
 have hlen:(fillL m.ws a n w).length=m.ws.length:=by
  unfold fillL
  simp only[List.length_append,List.length_take,List.length_replicate,List.length_drop]
  omega
 refine ⟨by rw[hlen];exact h1,?_⟩
 have e:((fillL m.ws a n w).drop b).take k=(m.ws.drop b).take k:=by
  have hA:(m.ws.take a++List.replicate n w).length=a+n:=by simp;omega
  unfold fillL
  rw[List.drop_append,List.drop_eq_nil_of_le (by rw[hA];exact hab),List.nil_append,hA,List.drop_drop]
  congr 2
  omega
 rw[e]
 exact h2
theorem mapIf_free {m:Mem} {a n b k:Nat} {w:Int} (h:m.free? b k=true) (hl:m.ws.length=m.hs.length) (hab:a+n≤b):(mapIf m a n w).free? b k=true:=by
 unfold mapIf
 split
 ·exact free_map hl h hab
 ·exact h
end Go.Proofs.YtaangaogmnlljaaGreatDoor.Kn
namespace Go.Proofs.YtaangaogmnlljaaGreatDoor.Kn
open Go.RowKit Asm
theorem HS.add {w w':World} {S N:List (Nat×Obj)} {k:Nat×Obj} (h:HS w (k::S)) (hb:Below w.heap.size w w') (hN: ∀p∈N,w'.heap[p.1]?=some p.2∧w.heap.size≤p.1) (hn:(N.map (·.1)).Nodup):HS w' (k::(N++S)):=by
 have hb':=h.below hb
 refine ⟨fun p hp=>?_,?_⟩
 ·rcases List.mem_cons.1 hp with rfl|hp
  ·exact hb'.at' _ List.mem_cons_self
  ·rcases List.mem_append.1 hp with hp|hp
   ·exact (hN p hp).1
   ·exact hb'.at' _ (List.mem_cons_of_mem _ hp)
 ·rw[List.map_cons,List.map_append,List.nodup_cons,List.nodup_append]
  have hk:=(List.nodup_cons.1 h.nod)
  refine ⟨fun hm=>?_,hn,hk.2,fun x hx y hy e=>?_⟩
  ·rcases List.mem_append.1 hm with hm|hm
   ·obtain ⟨p,hp,e⟩:=List.mem_map.1 hm
    have:=(hN p hp).2
    have:=h.lt (p:=k) List.mem_cons_self
    omega
   ·exact hk.1 hm
  ·obtain ⟨p,hp,e1⟩:=List.mem_map.1 hx
   obtain ⟨q,hq,e2⟩:=List.mem_map.1 hy
   have:=(hN p hp).2
   have:=h.lt (p:=q) (List.mem_cons_of_mem _ hq)
   omega
def mL (k cells loop entry wide narrow base:Int) (lv cv pv x a q r t o rv wv:Value):List Value:=
 [.int .i64 k, .int .i64 cells,lv, .int .i64 loop,cv,pv, .int .i64 entry, .int .i64 wide, .int .i64 narrow,x,a, .int .u64 0, .slice none 0 0, .int .i64 0,q,r,t,o,rv,wv, .int .i64 base, .int .i64 0, .slice none 0 0, .int .i64 0, .int .i64 0, .int .u64 0]
structure NE (w0 w:World) (K:Nat) (F:Fixed) (lv cv pv:Value) (S:List (Nat×Obj)):Prop where
 lib:w.ownsRow w0.heap.size 68 7 lv F.lib.length (codeC F.lib)
 calls:w.ownsRow w0.heap.size 184 6 cv F.calls.length (callC F.calls)
 code:w.ownsRow w0.heap.size 68 7 pv F.code.length (codeC F.code)
 far: ∀b,lv.ownBlock=some b∨cv.ownBlock=some b∨pv.ownBlock=some b→b<K
 hs:HS w S
 below:Below w0.heap.size w0 w
 lo:w0.heap.size≤K
section
variable {w0 w w':World} {K:Nat} {F:Fixed} {lv cv pv:Value} {S S':List (Nat×Obj)}
theorem bel_dr {B:Nat} {a w:World} (h:Below B a w):Below B a w.drew:=⟨h.os,h.tape,h.output,h.size,h.block⟩
theorem NE.keep {Y:Nat→Prop} (h:NE w0 w K F lv cv pv S) (k:Keeps Y w w') (hY: ∀b,Y b→K≤b) (hs:HS w' S'):NE w0 w' K F lv cv pv S':=by
 have q: ∀b,lv.ownBlock=some b∨cv.ownBlock=some b∨pv.ownBlock=some b→b<w.heap.size→w'.heap[b]?=w.heap[b]?:=fun b hb hl=>k.block b hl fun y=>by have:=hY b y;have:=h.far b hb;omega
 exact ⟨ownsRow_of_block h.lib fun b e=>q b (Or.inl e) (h.lib.lt b e).2,ownsRow_of_block h.calls fun b e=>q b (Or.inr (Or.inl e)) (h.calls.lt b e).2,ownsRow_of_block h.code fun b e=>q b (Or.inr (Or.inr e)) (h.code.lt b e).2,h.far,hs,Keeps.below h.below k h.below.size (fun i e=>Nat.le_trans h.lo (hY i e)),h.lo⟩
theorem NE.step (h:NE w0 w K F lv cv pv S) (hb:Below w.heap.size w w') (hs:HS w' S'):NE w0 w' K F lv cv pv S':=h.keep (Y:=fun _=>False) (Keeps.ofBelow hb) (fun _ e=>e.elim) hs
theorem NE.drewN (h:NE w0 w K F lv cv pv S) (q:Nat):NE w0 (w.drewN q) K F lv cv pv S:=h.step ⟨rfl,rfl,rfl,Nat.le_refl _,fun _ _=>rfl⟩ (h.hs.drewN q)
theorem NE.set {C:Array Value} {t:TypeId} {fr:Nat×Nat} (h:NE w0 w K F lv cv pv ((K, .cells C t fr)::S)) (i:Nat) (v:Value):NE w0 (w.setCell ⟨K,i,none⟩ v) K F lv cv pv ((K, .cells (C.setIfInBounds i v) t fr)::S):=
 h.keep (Y:=fun b=>b=K) ((Keeps.refl _ w).setCell (p:=⟨K,i,none⟩) (by exact rfl) v) (fun b e=>by omega) (h.hs.setK i v)
theorem NE.of {w wA wz:World} {F:Fixed} {cells entry:Int} {lv cv pv:Value} {bx:List (Nat×Obj)} (hA:Below w.heap.size w wA) (hz:Below wA.heap.size wA wz) (hb:HS wA bx)
  (rl:wz.ownsRow w.heap.size 68 7 lv F.lib.length (codeC F.lib)) (rc:wz.ownsRow w.heap.size 184 6 cv F.calls.length (callC F.calls)) (rp:wz.ownsRow w.heap.size 68 7 pv F.code.length (codeC F.code)):
  NE w (wz.alloc (.cells (mL F.workers cells F.loop entry F.wide F.narrow F.base lv cv pv (.pointer none) (.pointer none) (.pointer none) (.pointer none) (.pointer none) (.pointer none) (.slice none 0 0) (.slice none 0 0)).toArray 120)) wz.heap.size F lv cv pv ((wz.heap.size, .cells (mL F.workers cells F.loop entry F.wide F.narrow F.base lv cv pv (.pointer none) (.pointer none) (.pointer none) (.pointer none) (.pointer none) (.pointer none) (.slice none 0 0) (.slice none 0 0)).toArray 120 (0,0))::bx):=by
 have hs:=hA.size
 have hs2:=hz.size
 have hba:Below wz.heap.size wz (wz.alloc (.cells (mL F.workers cells F.loop entry F.wide F.narrow F.base lv cv pv (.pointer none) (.pointer none) (.pointer none) (.pointer none) (.pointer none) (.pointer none) (.slice none 0 0) (.slice none 0 0)).toArray 120)):=(Below.refl _ _).alloc (Nat.le_refl _) _
 refine ⟨ownsRow_of_block rl fun b e=>hba.block b (rl.lt b e).2,ownsRow_of_block rc fun b e=>hba.block b (rc.lt b e).2,ownsRow_of_block rp fun b e=>hba.block b (rp.lt b e).2,fun b e=>?_,HS.push (hb.below hz) hba (heap_alloc_new _ _) (Nat.le_refl _),(hA.trans (hz.mono hs)).trans (hba.mono (by omega)),by omega⟩
 rcases e with e|e|e
 ·exact (rl.lt b e).2
 ·exact (rc.lt b e).2
 ·exact (rp.lt b e).2
end
theorem cells_apart {w:World} {b c:Nat} {x y:Array Value} {s t:TypeId} {f g:Nat×Nat} (h:w.heap[b]?=some (.cells x s f)) (h2:w.heap[c]?=some (.cells y t g)) (hn:s≠t):b≠c:=fun e=>by
 subst e
 rw[h] at h2
 injection h2 with h2
 injection h2 with _ e
 exact hn e
structure NM (w0 w:World) (K:Nat) (F:Fixed) (lv cv pv:Value) (S:List (Nat×Obj)) (X gw gh:Nat) (m:Mem):Prop where
 ne:NE w0 w K F lv cv pv S
 mem:RMemP w X gw gh m
 apart: ∀p∈S,p.1≠X∧p.1≠gw∧p.1≠gh
 high:K<X∧K<gw∧K<gh
section
variable {w0 w w':World} {K:Nat} {F:Fixed} {lv cv pv:Value} {S S':List (Nat×Obj)} {X gw gh:Nat} {m m':Mem}
theorem mem_lt (h:RMemP w X gw gh m):X<w.heap.size∧gw<w.heap.size∧gh<w.heap.size:=by
 obtain ⟨N,ho⟩:=h.obj
 exact ⟨blk_in ho,blk_in h.ws,blk_in h.hs⟩
theorem mem_apart (h:RMemP w X gw gh m):X≠gw∧X≠gh∧gw≠gh:=by
 obtain ⟨N,ho⟩:=h.obj
 exact ⟨cells_apart ho h.ws (by decide),cells_apart ho h.hs (by decide),cells_apart h.ws h.hs (by decide)⟩
theorem mem_same (h:RMemP w X gw gh m) (h1:w'.heap[X]?=w.heap[X]?) (h2:w'.heap[gw]?=w.heap[gw]?) (h3:w'.heap[gh]?=w.heap[gh]?):RMemP w' X gw gh m:=by
 obtain ⟨N,ho⟩:=h.obj
 exact ⟨h.ok,⟨N,h1.trans ho⟩,h2.trans h.ws,h3.trans h.hs⟩
theorem NM.start {k:Nat×Obj} (h:NE w0 w K F lv cv pv (k::S)) (hk:K<w.heap.size) (hb:Below w.heap.size w w') (hm:RMemP w' X gw gh m) (h1:w.heap.size≤X) (h2:w.heap.size≤gw) (h3:w.heap.size≤gh):NM w0 w' K F lv cv pv (k::S) X gw gh m:=
 ⟨h.step hb (h.hs.below hb),hm,fun p hp=>by have:=h.hs.lt hp;omega,by omega⟩
theorem NM.keep {Y:Nat→Prop} (h:NM w0 w K F lv cv pv S X gw gh m) (k:Keeps Y w w') (hY: ∀b,Y b→b=K) (hs:HS w' S') (ha: ∀p∈S',p.1≠X∧p.1≠gw∧p.1≠gh):NM w0 w' K F lv cv pv S' X gw gh m:=by
 have hl:=mem_lt h.mem
 have hh:=h.high
 exact ⟨h.ne.keep k (fun b e=>by rw[hY b e];exact Nat.le_refl _) hs,mem_same h.mem (k.block _ hl.1 fun e=>by have:=hY _ e;omega) (k.block _ hl.2.1 fun e=>by have:=hY _ e;omega) (k.block _ hl.2.2 fun e=>by have:=hY _ e;omega),ha,h.high⟩
theorem NM.set {C:Array Value} {t:TypeId} {fr:Nat×Nat} (h:NM w0 w K F lv cv pv ((K, .cells C t fr)::S) X gw gh m) (i:Nat) (v:Value):NM w0 (w.setCell ⟨K,i,none⟩ v) K F lv cv pv ((K, .cells (C.setIfInBounds i v) t fr)::S) X gw gh m:=
 h.keep (Y:=fun b=>b=K) ((Keeps.refl _ w).setCell (p:=⟨K,i,none⟩) (by exact rfl) v) (fun _ e=>e) (h.ne.hs.setK i v) fun p hp=>by
  rcases List.mem_cons.1 hp with rfl|hp
  ·exact h.apart (K, .cells C t fr) List.mem_cons_self
  ·exact h.apart p (List.mem_cons_of_mem _ hp)
theorem NM.drewN (h:NM w0 w K F lv cv pv S X gw gh m) (q:Nat):NM w0 (w.drewN q) K F lv cv pv S X gw gh m:=
 h.keep (Y:=fun _=>False) (Keeps.ofBelow ⟨rfl,rfl,rfl,Nat.le_refl _,fun _ _=>rfl⟩) (fun _ e=>e.elim) (h.ne.hs.drewN q) h.apart
theorem NM.drew (h:NM w0 w K F lv cv pv S X gw gh m):NM w0 w.drew K F lv cv pv S X gw gh m:=
 h.keep (Y:=fun _=>False) (Keeps.ofBelow ⟨rfl,rfl,rfl,Nat.le_refl _,fun _ _=>rfl⟩) (fun _ e=>e.elim) h.ne.hs.drew h.apart
theorem NM.map (h:NM w0 w K F lv cv pv S X gw gh m) (hm:RMemP w' X gw gh m') (k:Keeps (fun b=>b=gw∨b=gh) w w'):NM w0 w' K F lv cv pv S X gw gh m':=by
 have hh:=h.high
 exact ⟨h.ne.keep k (fun b e=>by rcases e with e|e<;>omega) (h.ne.hs.keeps k fun p hp=>by have:=h.apart p hp;omega),hm,h.apart,h.high⟩
theorem NM.add {k:Nat×Obj} {N:List (Nat×Obj)} (h:NM w0 w K F lv cv pv (k::S) X gw gh m) (hb:Below w.heap.size w w') (hN: ∀p∈N,w'.heap[p.1]?=some p.2∧w.heap.size≤p.1) (hn:(N.map (·.1)).Nodup):NM w0 w' K F lv cv pv (k::(N++S)) X gw gh m:=
 h.keep (Y:=fun _=>False) (Keeps.ofBelow hb) (fun _ e=>e.elim) (h.ne.hs.add hb hN hn) fun p hp=>by
  have hl:=mem_lt h.mem
  rcases List.mem_cons.1 hp with rfl|hp
  ·exact h.apart _ List.mem_cons_self
  ·rcases List.mem_append.1 hp with hp|hp
   ·have:=(hN p hp).2;omega
   ·exact h.apart p (List.mem_cons_of_mem _ hp)
end
end Go.Proofs.YtaangaogmnlljaaGreatDoor.Kn
namespace Go.Proofs.YtaangaogmnlljaaGreatDoor.Kn
open Go.RowKit Go.Maps Asm
def loN (F:Fixed):Nat:=baseN F+F.wide.toNat+F.narrow.toNat
theorem laid_free {F:Fixed} {cells:Nat} (h:loN F+1≤cells):(laidM F cells).free? (loN F) 1=true:=by
 unfold loN at*
 have h0:((mem0 cells).map 0 (baseN F) 64).hs.length=cells:=by unfold Mem.map fillL mem0;simp;omega
 have h0w:((mem0 cells).map 0 (baseN F) 64).ws.length=cells:=by unfold Mem.map fillL mem0;simp;omega
 rw[←laid_doc F cells (by omega),free_decks]
 refine mapIf_free (mapIf_free (free_map (by simp[mem0]) (free_zero (by omega)) (by omega)) (h0w.trans h0.symm) (by omega)) ?_ (Nat.le_refl _)
 unfold mapIf
 split
 ·simp only[Mem.map,fillL,List.length_append,List.length_take,List.length_replicate,List.length_drop,mem0]
 ·exact h0w.trans h0.symm
def newA (F:Fixed) (cells:Nat) (entry:Int):Mach:=
 { bareK F cells with mem:=(laidM F cells).map (loN F) 1 64,alc:=⟨loN F,cells,[⟨loN F,1,64⟩]⟩,tab:=tab1 (loN F),ring:= [64],runs:= [⟨64,[⟨{ pc:=entry,r:=(List.replicate 32 0).set 0 0},false,0⟩],0⟩]}
theorem newK_eq (F:Fixed) {cells:Nat} (entry:Int) (h:loN F+1≤cells):newK F cells entry=newA F cells entry:=by
 have hg:getA (bareK F cells).alc (bareK F cells).mem 1 64=some (loN F,⟨loN F,cells,[⟨loN F,1,64⟩]⟩,(laidM F cells).map (loN F) 1 64):=by
  have hf:=laid_free h
  show getA ⟨loN F,cells,[]⟩ (laidM F cells) 1 64=_
  unfold getA
  rw[if_neg (by omega)]
  unfold gapL
  rw[if_neg (by show¬((cells:Int) - (loN F:Nat)<(1:Nat));omega)]
  simp only[hf,if_true,List.take_nil,List.drop_nil,List.nil_append]
 have hb:bornK (bareK F cells) entry 0=(64,{ bareK F cells with mem:=(laidM F cells).map (loN F) 1 64,alc:=⟨loN F,cells,[⟨loN F,1,64⟩]⟩,tab:=tab1 (loN F),runs:= [⟨64,[⟨{ pc:=entry,r:=(List.replicate 32 0).set 0 0},false,0⟩],0⟩]}):=by
  unfold bornK
  rw[hg]
  have hbt:bornT (bareK F cells).tab (loN F:Int)=some (64,tab1 (loN F)):=born1 _
  simp only[hbt]
  rfl
 unfold newK
 rw[hb]
 rfl
def kO (F:Fixed) (cells:Nat) (entry:Int) (lv cv pv x a q r t o rv wv:Value):Obj:= .cells (mL F.workers cells F.loop entry F.wide F.narrow F.base lv cv pv x a q r t o rv wv).toArray 120 (0,0)
def wkr0 (F:Fixed):Wkr:={ f:={ pc:=F.loop}}
def wkO (F:Fixed):Obj:= .cells (wk38 (wkr0 F,Value.slice none 0 0)).toArray 221 (0,0)
def frm0 (entry:Int):Frame:={ pc:=entry,r:=(List.replicate 32 0).set 0 0}
def frO (entry:Int):Obj:= .cells (frC (frm0 entry) (Value.slice none 0 0)++ [Value.bool false,Value.int .i64 0]).toArray 228 (0,0)
structure Fresh (F:Fixed) (cells:Nat) (entry:Int) (w:World) (G:RG):Prop where
 obj: ∃rv wv,w.heap[G.K]?=some (kO F cells entry G.lv G.cv G.pv (ptrV G.X) (ptrV G.A) (ptrV G.Q) (ptrV G.R) (ptrV G.T) (ptrV G.O) rv wv)∧w.ownsRow 0 229 1 rv 1 [ptrV (G.tb 64)]∧w.ownsRow 0 218 1 wv F.workers (wptrs G F.workers)
 mem:RMemP w G.X G.gw G.gh ((laidM F cells).map (loN F) 1 64)
 alc: ∃v,w.heap[G.A]?=some (.cells #[ptrV G.X, .int .i64 (loN F), .int .i64 cells,v] 258 (0,0))∧w.ownsRow 0 260 3 v 1 [.int .i64 (loN F), .int .i64 1, .int .i64 64]
 ring: ∃v,w.heap[G.R]?=some (.cells #[v, .int .i64 64] 124 (0,0))∧w.ownsRow 0 53 1 v 1 [.int .u64 64]
 que:w.heap[G.Q]?=some (.cells #[.slice none 0 0, .int .i64 8] 353 (0,0))
 tab:RTabP w G.T G.gt (tab1 (loN F)) 1
 objs:RObjP w G.O G.go G.gk (List.replicate 64 {}) 0
 run: ∃lv,w.heap[G.tb 64]?=some (.cells #[.int .u64 64,lv, .int .u64 0] 232 (0,0))∧w.ownsRow 0 226 1 lv 1 [ptrV (G.fb 64 0)]∧w.heap[G.fb 64 0]?=some (frO entry)
 wk: ∀i<F.workers,w.heap[G.kb i]?=some (wkO F)
theorem Fresh.below {F:Fixed} {cells:Nat} {entry:Int} {w w':World} {G:RG} (h:Fresh F cells entry w G) (k:Below w.heap.size w w'):Fresh F cells entry w' G:=by
 have q: ∀{b:Nat} {o:Obj},w.heap[b]?=some o→w'.heap[b]?=some o:=fun ho=>(k.block _ (blk_in ho)).trans ho
 have p: ∀{e:TypeId} {size:Nat} {v:Value} {n:Nat} {xs:List Value},w.ownsRow 0 e size v n xs→w'.ownsRow 0 e size v n xs:=fun hp=>ownsRow_of_block hp fun b e=>k.block b (hp.lt b e).2
 obtain ⟨rv,wv,o1,o2,o3⟩:=h.obj
 obtain ⟨av,a1,a2⟩:=h.alc
 obtain ⟨gv,g1,g2⟩:=h.ring
 obtain ⟨lv,l1,l2,l3⟩:=h.run
 obtain ⟨N,mo⟩:=h.mem.obj
 exact ⟨⟨rv,wv,q o1,p o2,p o3⟩,⟨h.mem.ok,⟨N,q mo⟩,q h.mem.ws,q h.mem.hs⟩,⟨av,q a1,p a2⟩,⟨gv,q g1,p g2⟩,q h.que,⟨h.tab.ok,q h.tab.obj,q h.tab.row⟩,⟨h.objs.ok,q h.objs.obj,q h.objs.row,q h.objs.tk⟩,⟨lv,q l1,p l2,q l3⟩,fun i hi=>q (h.wk i hi)⟩
structure Boxes (S:List (Nat×Obj)) (b0 b1 b2:Nat) (F:Fixed) (cells:Nat) (entry:Int):Prop where
 c:(b0,Obj.cells #[.int .i64 (F.workers:Int), .int .i64 (cells:Int)] 23 (0,0))∈S
 l: ∃u v,(b1,Obj.cells #[u, .int .i64 F.loop,v] 77 (0,0))∈S
 p: ∃u,(b2,Obj.cells #[u, .int .i64 entry, .int .i64 F.wide, .int .i64 F.narrow] 26 (0,0))∈S
theorem Boxes.more {S N:List (Nat×Obj)} {b0 b1 b2:Nat} {F:Fixed} {cells:Nat} {entry:Int} (h:Boxes S b0 b1 b2 F cells entry):Boxes (N++S) b0 b1 b2 F cells entry:=by
 obtain ⟨u,v,hl⟩:=h.l
 obtain ⟨x,hp⟩:=h.p
 exact ⟨List.mem_append_right _ h.c,⟨u,v,List.mem_append_right _ hl⟩,⟨x,List.mem_append_right _ hp⟩⟩
def tailC:Nat→Code→Code
 |0,c=>c
 |n+1, .seq _ b=>tailC n b
 |_+1,c=>c
def headC (n:Nat) (c:Code):Code:=match tailC n c with
 | .seq a _=>a
 |c=>c
noncomputable def newBody:Code:=(Tryz.f31.body).getD .skip
section
variable {w0 w w':World} {K:Nat} {F:Fixed} {lv cv pv:Value} {S:List (Nat×Obj)} {X gw gh:Nat} {m m':Mem}
theorem NM.far {Y:Nat→Prop} {B:Nat} (h:NM w0 w K F lv cv pv S X gw gh m) (k:Keeps Y w w') (hY: ∀b,Y b→B≤b) (hK:K<B) (hS: ∀p∈S,p.1<B) (hm:X<B∧gw<B∧gh<B):NM w0 w' K F lv cv pv S X gw gh m:=by
 have hl:=mem_lt h.mem
 exact ⟨h.ne.keep k (fun b e=>by have:=hY b e;omega) (h.ne.hs.keeps k fun p hp e=>by have:=hY _ e;have:=hS p hp;omega),mem_same h.mem (k.block _ hl.1 fun e=>by have:=hY _ e;omega) (k.block _ hl.2.1 fun e=>by have:=hY _ e;omega) (k.block _ hl.2.2 fun e=>by have:=hY _ e;omega),h.apart,h.high⟩
end
end Go.Proofs.YtaangaogmnlljaaGreatDoor.Kn
namespace Go.Proofs.YtaangaogmnlljaaGreatDoor.Kn
open Go.RowKit Go.Maps Asm
variable {u0 u1 u2 u6 u7 u8 u9 u11 u12 u13 u14 u15 u16 u17 u18 u19 u20 u21 u22 u23 u24 u25 u26 u27 u28 u29 u30 u31 u32 u33 u34 u35 u36 u37 u38 u39 u40 u41 u42 u43 u44 u45 u46 u47 u48 u49 u50 u51 u52 u53 u54 u55 u56 u57 u58 u59 u60 u61 u62 u63 u64 u65 u66 u67 u68 u69 u70 u71 u72 u73 u74 u75 u76 u77 u78 u79 u80 u81 u82 u83 u84 u85 u86 u87 u88 u89 u90 u91 u92 u93 u94 u95 u96 u97 u98 u99 u100 u101 u102 u103 u104 u105 u106 u107 u108 u109 u110 u111 u112 u113 u114 u115 u116 u117 u118 u119 u120 u121 u122 u123 u124 u125 u126 u127 u128 u129 u130 u131 u132 u133 u134 u135 u136 u137 u138 u139 u140 u141 u142 u143 u144 u145 u146 u147 u148 u149 u150 u151 u152 u153 u154 u155 u156 u157 u158 u159 u160 u161 u162 u163 u164 u165 u166 u167 u168 u169 u170 u171 u172 u173 u174 u175 u176 u177 u178 u179 u180 u181 u182 u183 u184 u185 u186 u187 u188 u189 u190 u191 u192 u193 u194 u195 u196 u197 u198 u199 u200 u201 u202 u203 u204 u205 u206 u207 u208 u209 u210 u211 u212 u213 u214 u215 u216 u217 u218 u219 u220 u221 u222 u223 u224 u225 u226 u227 u228 u229 u230 u231 u232 u233 u234 u235 u236 u237 u238 u239 u240 u241 u242 u243 u244 u245 u246 u247 u248 u249 u250 u251 u252 u253 u254 u255 u256 u257 u258 u259 u260 u261 u262 u263 u264 u265 u266 u267 u268 u269 u270 u271 u272 u273 u274 u275 u276 u277 u278 u279 u280 u281 u282 u283 u284 u285 u286 u287 u288:Value}
theorem kp {Y:Nat→Prop} {w w':World} (k:Keeps Y w w') {b:Nat} {xs:Array Value} {t:TypeId} {f:Nat×Nat} (h:w.heap[b]?=some (.cells xs t f)) (hy: ∀i,Y i→ ∃ys s g,w.heap[i]?=some (.cells ys s g)∧s≠t):w'.heap[b]?=some (.cells xs t f):=
 (k.block b (blk_in h) fun e=>by obtain ⟨ys,s,g,h1,h2⟩:=hy b e;exact cells_apart h1 h h2 rfl).trans h
theorem kpr {Y:Nat→Prop} {w w':World} (k:Keeps Y w w') {base:Nat} {e:TypeId} {size n:Nat} {v:Value} {xs:List Value} (h:w.ownsRow base e size v n xs) (hy: ∀i,Y i→ ∃ys s g,w.heap[i]?=some (.cells ys s g)∧s≠e):w'.ownsRow base e size v n xs:=
 ownsRow_of_block h fun b hb=>by
  obtain ⟨cur,hc⟩:=Asm.row_block h hb
  exact (kp k hc hy).trans hc.symm
structure Rest (w:World) (F:Fixed) (entry:Int) (b2 Q O go gk:Nat) (wv:Value) (kb:Nat→Nat):Prop where
 que:w.heap[Q]?=some (.cells #[.slice none 0 0, .int .i64 8] 353 (0,0))
 objs:RObjP w O go gk (List.replicate 64 {}) 0
 row:w.ownsRow 0 218 1 wv F.workers ((List.range F.workers).map fun j=>ptrV (kb j))
 wk: ∀i<F.workers,w.heap[kb i]?=some (wkO F)
 p: ∃u,w.heap[b2]?=some (.cells #[u, .int .i64 entry, .int .i64 F.wide, .int .i64 F.narrow] 26 (0,0))
def otherT (s:TypeId):Prop:=s≠353∧s≠355∧s≠277∧s≠218∧s≠221∧s≠26
theorem Rest.keeps {w w':World} {F:Fixed} {entry:Int} {b2 Q O go gk:Nat} {wv:Value} {kb:Nat→Nat} {Y:Nat→Prop} (h:Rest w F entry b2 Q O go gk wv kb) (k:Keeps Y w w') (hy: ∀i,Y i→ ∃ys s g,w.heap[i]?=some (.cells ys s g)∧otherT s) (hg: ¬Y gk):Rest w' F entry b2 Q O go gk wv kb:=by
 have q: ∀{t:TypeId},(∀s,otherT s→s≠t)→ ∀i,Y i→ ∃ys s g,w.heap[i]?=some (.cells ys s g)∧s≠t:=fun ht i e=>by
  obtain ⟨ys,s,g,h1,h2⟩:=hy i e
  exact ⟨ys,s,g,h1,ht s h2⟩
 obtain ⟨u,hp⟩:=h.p
 exact ⟨kp k h.que (q fun s h=>h.1),⟨h.objs.ok,kp k h.objs.obj (q fun s h=>h.2.1),kp k h.objs.row (q fun s h=>h.2.2.1),(k.block gk (blk_in h.objs.tk) hg).trans h.objs.tk⟩,kpr k h.row (q fun s h=>h.2.2.2.1),fun i hi=>kp k (h.wk i hi) (q fun s h=>h.2.2.2.2.1),u,kp k hp (q fun s h=>h.2.2.2.2.2)⟩
theorem Rest.below {w w':World} {F:Fixed} {entry:Int} {b2 Q O go gk:Nat} {wv:Value} {kb:Nat→Nat} (h:Rest w F entry b2 Q O go gk wv kb) (k:Below w.heap.size w w'):Rest w' F entry b2 Q O go gk wv kb:=
 h.keeps (Y:=fun _=>False) (Keeps.ofBelow k) (fun _ e=>e.elim) id
def NewOk (w0:World) (F:Fixed) (cells:Nat) (entry:Int) (e:Ending) (w':World):Prop:= ∃G:RG,e= .returned (.tuple #[.pointer (some ⟨G.K,0,none⟩), .pointer none])∧Fresh F cells entry w' G∧Below w0.heap.size w0 w'
structure S4 (w0 w:World) (F:Fixed) (cells:Nat) (entry:Int) (b2 K X gw gh A R Q T gt O go gk:Nat) (lv cv pv rv wv v:Value) (kb:Nat→Nat):Prop where
 b:Below w0.heap.size w0 w
 k:w.heap[K]?=some (kO F cells entry lv cv pv (ptrV X) (ptrV A) (ptrV Q) (ptrV R) (ptrV T) (ptrV O) rv wv)
 m:RMemP w X gw gh ((laidM F cells).map (loN F) 1 64)
 a:w.heap[A]?=some (.cells #[ptrV X, .int .i64 (loN F), .int .i64 cells,v] 258 (0,0))
 r:w.heap[R]?=some (.cells #[.slice none 0 0, .int .i64 64] 124 (0,0))
 t:RTabP w T gt (tab1 (loN F)) 1
 s:Rest w F entry b2 Q O go gk wv kb
 row:w.ownsRow 0 260 3 v 1 [.int .i64 (loN F), .int .i64 1, .int .i64 64]
section
variable {w0 w w':World} {F:Fixed} {cells:Nat} {entry:Int} {b2 K X gw gh A R Q T gt O go gk:Nat} {lv cv pv rv wv v:Value} {kb:Nat→Nat}
theorem S4.below (h:S4 w0 w F cells entry b2 K X gw gh A R Q T gt O go gk lv cv pv rv wv v kb) (k:Below w.heap.size w w'):S4 w0 w' F cells entry b2 K X gw gh A R Q T gt O go gk lv cv pv rv wv v kb:=by
 have q: ∀{b:Nat} {o:Obj},w.heap[b]?=some o→w'.heap[b]?=some o:=fun ho=>(k.block _ (blk_in ho)).trans ho
 obtain ⟨N,mo⟩:=h.m.obj
 exact ⟨h.b.trans (k.mono h.b.size),q h.k,⟨h.m.ok,⟨N,q mo⟩,q h.m.ws,q h.m.hs⟩,q h.a,q h.r,⟨h.t.ok,q h.t.obj,q h.t.row⟩,h.s.below k,ownsRow_of_block h.row fun b e=>k.block b (h.row.lt b e).2⟩
theorem S4.frame (h:S4 w0 w F cells entry b2 K X gw gh A R Q T gt O go gk lv cv pv rv wv v kb) {f:Nat} {xs:Array Value} (hf:w.heap[f]?=some (.cells xs 228 (0,0))) (hlo:w0.heap.size≤f) (hg:gk≠f) (k:Keeps (fun b=>b=f) w w'):S4 w0 w' F cells entry b2 K X gw gh A R Q T gt O go gk lv cv pv rv wv v kb:=by
 have q: ∀{b:Nat} {xs:Array Value} {t:TypeId} {g:Nat×Nat},228≠t→w.heap[b]?=some (.cells xs t g)→w'.heap[b]?=some (.cells xs t g):=fun ht ho=>kp k ho fun i e=>by subst e;exact ⟨_,_,_,hf,ht⟩
 obtain ⟨N,mo⟩:=h.m.obj
 exact ⟨Keeps.below h.b k h.b.size (fun i e=>by omega),q (by decide) h.k,⟨h.m.ok,⟨N,q (by decide) mo⟩,q (by decide) h.m.ws,q (by decide) h.m.hs⟩,q (by decide) h.a,q (by decide) h.r,⟨h.t.ok,q (by decide) h.t.obj,q (by decide) h.t.row⟩,h.s.keeps k (fun i e=>by subst e;exact ⟨_,_,_,hf,by unfold otherT;decide⟩) hg,kpr k h.row fun i e=>by subst e;exact ⟨_,_,_,hf,by decide⟩⟩
theorem S4.runs (h:S4 w0 w F cells entry b2 K X gw gh A R Q T gt O go gk lv cv pv rv wv v kb) (hlo:w0.heap.size≤K) (hg:gk≠K) (u:Value):S4 w0 (w.setCell ⟨K,18,none⟩ u) F cells entry b2 K X gw gh A R Q T gt O go gk lv cv pv u wv v kb:=by
 have k:Keeps (fun b=>b=K) w (w.setCell ⟨K,18,none⟩ u):=(Keeps.refl _ w).setCell (p:=⟨K,18,none⟩) (by exact rfl) u
 have q: ∀{b:Nat} {xs:Array Value} {t:TypeId} {g:Nat×Nat},120≠t→w.heap[b]?=some (.cells xs t g)→(w.setCell ⟨K,18,none⟩ u).heap[b]?=some (.cells xs t g):=fun ht ho=>kp k ho fun i e=>by subst e;exact ⟨_,_,_,h.k,ht⟩
 obtain ⟨N,mo⟩:=h.m.obj
 exact ⟨Keeps.below h.b k h.b.size (fun i e=>by omega),set_block h.k u,⟨h.m.ok,⟨N,q (by decide) mo⟩,q (by decide) h.m.ws,q (by decide) h.m.hs⟩,q (by decide) h.a,q (by decide) h.r,⟨h.t.ok,q (by decide) h.t.obj,q (by decide) h.t.row⟩,h.s.keeps k (fun i e=>by subst e;exact ⟨_,_,_,h.k,by unfold otherT;decide⟩) hg,kpr k h.row fun i e=>by subst e;exact ⟨_,_,_,h.k,by decide⟩⟩
end
set_option maxRecDepth 100000 in
theorem rdnew_t4 {w0 w:World} {F:Fixed} {cells:Nat} {entry:Int} {b0 b1 b2 K X gw gh A R Q T gt O go gk:Nat} {lv cv pv wv:Value} {kb:Nat→Nat}
  (hB:Below w0.heap.size w0 w) (hlo:w0.heap.size≤K∧w0.heap.size≤gw∧w0.heap.size≤gh∧w0.heap.size≤A∧w0.heap.size≤R∧w0.heap.size≤gt)
  (hK:w.heap[K]?=some (kO F cells entry lv cv pv (ptrV X) (ptrV A) (ptrV Q) (ptrV R) (ptrV T) (ptrV O) (.slice none 0 0) wv))
  (hm:RMemP w X gw gh (laidM F cells)) (hA:w.heap[A]?=some (.cells #[ptrV X, .int .i64 (loN F), .int .i64 cells, .slice none 0 0] 258 (0,0)))
  (hR:w.heap[R]?=some (.cells #[.slice none 0 0, .int .i64 64] 124 (0,0))) (hT:RTabP w T gt (List.replicate 64 {}) 0)
  (hS:Rest w F entry b2 Q O go gk wv kb) (hgk:gk≠gw∧gk≠gh∧gk≠A∧gk≠gt∧gk≠K∧gk≠R) (hroom:loN F+1≤cells) (hcells:cells≤65536)
  :(tailC 18 newBody).wp Tryz.prog (bodyPost Tryz.prog Tryz.f31 (NewOk w0 F cells entry)) ⟨#[u0,u1,u2, .pointer (some ⟨b0,0,none⟩), .pointer (some ⟨b1,0,none⟩), .pointer (some ⟨b2,0,none⟩),u6,u7,u8,u9, .pointer (some ⟨K,0,none⟩),u11,u12,u13,u14,u15,u16,u17,u18,u19,u20,u21,u22,u23,u24,u25,u26,u27,u28,u29,u30,u31,u32,u33,u34,u35,u36,u37,u38,u39,u40,u41,u42,u43,u44,u45,u46,u47,u48,u49,u50,u51,u52,u53,u54,u55,u56,u57,u58,u59,u60,u61,u62,u63,u64,u65,u66,u67,u68,u69,u70,u71,u72,u73,u74,u75,u76,u77,u78,u79,u80,u81,u82,u83,u84,u85,u86,u87,u88,u89,u90,u91,u92,u93,u94,u95,u96,u97,u98,u99,u100,u101,u102,u103,u104,u105,u106,u107,u108,u109,u110,u111,u112,u113,u114,u115,u116,u117,u118,u119,u120,u121,u122,u123,u124,u125,u126,u127,u128,u129,u130,u131,u132,u133,u134,u135,u136,u137,u138,u139,u140,u141,u142,u143,u144,u145,u146,u147,u148,u149,u150,u151,u152,u153,u154,u155,u156,u157,u158,u159,u160,u161,u162,u163,u164,u165,u166,u167,u168,u169,u170,u171,u172,u173,u174,u175,u176,u177,u178,u179,u180,u181,u182,u183,u184,u185,u186,u187,u188,u189,u190,u191,u192,u193,u194,u195,u196,u197,u198,u199,u200,u201,u202,u203,u204,u205,u206,u207,u208,u209,u210,u211,u212,u213,u214,u215,u216,u217,u218,u219,u220,u221,u222,u223,u224,u225,u226,u227,u228,u229,u230,u231,u232,u233,u234,u235,u236,u237,u238,u239,u240,u241,u242,u243,u244,u245,u246,u247,u248,u249,u250,u251,u252,u253,u254,u255,u256,u257,u258,u259,u260,u261,u262,u263,u264,u265,u266,u267,u268,u269,u270,u271,u272,u273,u274,u275,u276,u277,u278,u279,u280,u281,u282,u283,u284,u285,u286,u287,u288],[]⟩ w:=by
 have k10:w.cell? ⟨K,10,none⟩=some (.pointer (some ⟨A,0,none⟩)):=blk_cell hK 10
 have hlo2:U64 (loN F:Int):=by unfold U64;omega
 have hcv:IntKind.u64.wrap (loN F:Int)=(loN F:Int):=by rw[IntKind.wrap_u64];omega
 have HG:Hid (Calls Tryz.prog 97 #[.pointer (some ⟨A,0,none⟩), .int .i64 1, .int .i64 64] w fun e w'=>e= .returned (.tuple #[.int .i64 (loN F), .pointer none])∧ ∃v,w'.heap[A]?=some (.cells #[ptrV X, .int .i64 (loN F), .int .i64 cells,v] 258 (0,0))∧w'.ownsRow w.heap.size 260 3 v 1 [.int .i64 (loN F), .int .i64 1, .int .i64 64]∧RMemP w' X gw gh ((laidM F cells).map (loN F) 1 64)∧Keeps (fun b=>b=A∨b=gw∨b=gh) w w'):=Lib.hid (rget0 hA hm hroom hcells (laid_free hroom))
 have H:=Lib.hid (And.intro hB (And.intro hK (And.intro hm (And.intro hA (And.intro hR (And.intro hT hS))))))
 have HL:=Lib.hid (And.intro hlo (And.intro hgk (And.intro hroom hlo2)))
 clear hB hK hm hA hR hT hS hlo hgk hroom hcells hlo2
 conv=>arg 2;whnf
 go_wp2_with fail
 refine HG.out.mono ?_
 rintro e w1 ⟨rfl,v,a1,r1,m1,e1⟩
 clear HG k10
 obtain ⟨oB,oK,om,oA,oR,oT,oS⟩:=H.out
 obtain ⟨⟨l1,l2,l3,l4,l5,l6⟩,⟨g1,g2,g3,g4,g5,g6⟩,hroom,hlo2⟩:=HL.out
 have ty: ∀i,(i=A∨i=gw∨i=gh)→ ∃ys s g,w.heap[i]?=some (.cells ys s g)∧(s=258∨s=3∨s=53):=fun i hi=>by
  rcases hi with e|e|e
  ·exact ⟨_,_,_,by rw[e];exact oA,Or.inl rfl⟩
  ·exact ⟨_,_,_,by rw[e];exact om.ws,Or.inr (Or.inl rfl)⟩
  ·exact ⟨_,_,_,by rw[e];exact om.hs,Or.inr (Or.inr rfl)⟩
 have ty2: ∀{t:TypeId},t≠258→t≠3→t≠53→ ∀i,(i=A∨i=gw∨i=gh)→ ∃ys s g,w.heap[i]?=some (.cells ys s g)∧s≠t:=fun h1 h2 h3 i hi=>by
  obtain ⟨ys,s,g,q1,q2⟩:=ty i hi
  refine ⟨ys,s,g,q1,?_⟩
  rcases q2 with e|e|e
  ·rw[e];exact h1.symm
  ·rw[e];exact h2.symm
  ·rw[e];exact h3.symm
 have hR1:Rest w1 F entry b2 Q O go gk wv kb:=oS.keeps e1 (fun i hi=>by
  obtain ⟨ys,s,g,q1,q2⟩:=ty i hi
  refine ⟨ys,s,g,q1,?_⟩
  rcases q2 with e|e|e
  all_goals rw[e];unfold otherT;decide) (fun e=>by rcases e with e|e|e;exact g3 e;exact g1 e;exact g2 e)
 have H1:=Lib.hid (And.intro (Keeps.below oB e1 oB.size (fun i hi=>by rcases hi with e|e|e<;>omega)) (And.intro (kp e1 oK (ty2 (by decide) (by decide) (by decide))) (And.intro m1 (And.intro a1 (And.intro (kp e1 oR (ty2 (by decide) (by decide) (by decide))) (And.intro (RTabP.mk oT.ok (kp e1 oT.obj (ty2 (by decide) (by decide) (by decide))) (kp e1 oT.row (ty2 (by decide) (by decide) (by decide)))) hR1))))))
 have HV1:=Lib.hid (And.intro r1 oB.size)
 have HBo:Hid (∀W,Rest W F entry b2 Q O go gk wv kb→W.cell? ⟨b2,1,none⟩=some (.int .i64 entry)):=Lib.hid fun W h=>by obtain ⟨u,hu⟩:=h.p;exact blk_cell hu 1
 have k16:w1.cell? ⟨K,16,none⟩=some (.pointer (some ⟨T,0,none⟩)):=blk_cell H1.out.2.1 16
 have HBn:Hid (Calls Tryz.prog 98 #[.pointer (some ⟨T,0,none⟩), .int .u64 (loN F)] w1 fun e w'=>e= .returned (.tuple #[.int .u64 64, .pointer none])∧RTabP w' T gt (tab1 (loN F)) 1∧Keeps (fun b=>b=gt) w1 w'):=Lib.hid (rborn0 H1.out.2.2.2.2.2.1 _ hlo2)
 clear oB oK om oA oR oT oS l1 l2 l3 l4 l5 l6 g1 g2 g3 g4 g5 g6 hroom hlo2 ty ty2 hR1 a1 r1 m1 e1 H
 go_wp2_with fail
 refine HBn.out.mono ?_
 rintro e w2 ⟨rfl,t2,e2⟩
 clear HBn k16
 obtain ⟨oB,oK,om,oA,oR,oT,oS⟩:=H1.out
 obtain ⟨⟨l1,l2,l3,l4,l5,l6⟩,⟨g1,g2,g3,g4,g5,g6⟩,hroom,hlo2⟩:=HL.out
 have ty2: ∀{t:TypeId},t≠265→ ∀i,i=gt→ ∃ys s g,w1.heap[i]?=some (.cells ys s g)∧s≠t:=fun h1 i hi=>by subst hi;exact ⟨_,_,_,oT.row,h1.symm⟩
 have hR2:Rest w2 F entry b2 Q O go gk wv kb:=oS.keeps e2 (fun i hi=>by subst hi;exact ⟨_,_,_,oT.row,by unfold otherT;decide⟩) g4
 have hm2:RMemP w2 X gw gh ((laidM F cells).map (loN F) 1 64):=by
  obtain ⟨N,mo⟩:=om.obj
  exact ⟨om.ok,⟨N,kp e2 mo (ty2 (by decide))⟩,kp e2 om.ws (ty2 (by decide)),kp e2 om.hs (ty2 (by decide))⟩
 have H2:Hid (S4 w0 w2 F cells entry b2 K X gw gh A R Q T gt O go gk lv cv pv (.slice none 0 0) wv v kb):=Lib.hid ⟨Keeps.below oB e2 oB.size (fun i hi=>by omega),kp e2 oK (ty2 (by decide)),hm2,kp e2 oA (ty2 (by decide)),kp e2 oR (ty2 (by decide)),t2,hR2,Asm.row_base (kpr e2 HV1.out.1 (ty2 (by decide))) (Nat.zero_le _)⟩
 clear oB oK om oA oR oT oS l1 l2 l3 l4 l5 l6 g1 g2 g3 g4 g5 g6 hroom hlo2 ty2 hR2 hm2 t2 e2 H1 HV1 hcv
 go_upto_region 38 with fail
 have hz:(w2.alloc (.cells #[.int .i64 0, .int .u64 0, .int .u64 0, .int .u64 0, .int .u64 0, .int .u64 0, .int .u64 0, .int .u64 0, .int .u64 0, .int .u64 0, .int .u64 0, .int .u64 0, .int .u64 0, .int .u64 0, .int .u64 0, .int .u64 0, .int .u64 0, .int .u64 0, .int .u64 0, .int .u64 0, .int .u64 0, .int .u64 0, .int .u64 0, .int .u64 0, .int .u64 0, .int .u64 0, .int .u64 0, .int .u64 0, .int .u64 0, .int .u64 0, .int .u64 0, .int .u64 0, .int .u64 0, .slice none 0 0, .bool false, .int .i64 0] 228)).heap[w2.heap.size]?=some (.cells #[.int .i64 0, .int .u64 0, .int .u64 0, .int .u64 0, .int .u64 0, .int .u64 0, .int .u64 0, .int .u64 0, .int .u64 0, .int .u64 0, .int .u64 0, .int .u64 0, .int .u64 0, .int .u64 0, .int .u64 0, .int .u64 0, .int .u64 0, .int .u64 0, .int .u64 0, .int .u64 0, .int .u64 0, .int .u64 0, .int .u64 0, .int .u64 0, .int .u64 0, .int .u64 0, .int .u64 0, .int .u64 0, .int .u64 0, .int .u64 0, .int .u64 0, .int .u64 0, .int .u64 0, .slice none 0 0, .bool false, .int .i64 0] 228 (0,0)):=heap_alloc_new w2 _
 have hb3:Below w2.heap.size w2 (w2.alloc (.cells #[.int .i64 0, .int .u64 0, .int .u64 0, .int .u64 0, .int .u64 0, .int .u64 0, .int .u64 0, .int .u64 0, .int .u64 0, .int .u64 0, .int .u64 0, .int .u64 0, .int .u64 0, .int .u64 0, .int .u64 0, .int .u64 0, .int .u64 0, .int .u64 0, .int .u64 0, .int .u64 0, .int .u64 0, .int .u64 0, .int .u64 0, .int .u64 0, .int .u64 0, .int .u64 0, .int .u64 0, .int .u64 0, .int .u64 0, .int .u64 0, .int .u64 0, .int .u64 0, .int .u64 0, .slice none 0 0, .bool false, .int .i64 0] 228)):=(Below.refl _ _).alloc (Nat.le_refl _) _
 have hgf:gk<w2.heap.size:=blk_in H2.out.s.objs.tk
 have hlf:=H2.out.b.size
 generalize w2.alloc (.cells #[.int .i64 0, .int .u64 0, .int .u64 0, .int .u64 0, .int .u64 0, .int .u64 0, .int .u64 0, .int .u64 0, .int .u64 0, .int .u64 0, .int .u64 0, .int .u64 0, .int .u64 0, .int .u64 0, .int .u64 0, .int .u64 0, .int .u64 0, .int .u64 0, .int .u64 0, .int .u64 0, .int .u64 0, .int .u64 0, .int .u64 0, .int .u64 0, .int .u64 0, .int .u64 0, .int .u64 0, .int .u64 0, .int .u64 0, .int .u64 0, .int .u64 0, .int .u64 0, .int .u64 0, .slice none 0 0, .bool false, .int .i64 0] 228)=w3 at hz hb3 ⊢
 have H3:=Lib.hid (H2.out.below hb3)
 generalize w2.heap.size=f at*
 have x0:w3.cell? ⟨f,0,none⟩=some (.int .i64 0):=blk_cell hz 0
 have xf: ∀o,w3.frozen? ⟨f,o,none⟩=false:=blk_frozen hz
 have xe:w3.cell? ⟨b2,1,none⟩=some (.int .i64 entry):=HBo.out w3 H3.out.s
 have hk4:Keeps (fun b=>b=f) w3 (w3.setCell ⟨f,0,none⟩ (.int .i64 entry)):=(Keeps.refl _ w3).setCell (p:=⟨f,0,none⟩) (by exact rfl) _
 have hfo:(w3.setCell ⟨f,0,none⟩ (.int .i64 entry)).heap[f]?=some (frO entry):=set_block hz (k:=0) (.int .i64 entry)
 have HF4:=Lib.hid (And.intro hfo (H3.out.frame hz hlf (by omega) hk4))
 clear hz hb3 hgf hlf hk4 hfo H2 H3 HBo
 go_upto_region 39 with fail
 clear x0 xf xe
 generalize w3.setCell ⟨f,0,none⟩ (.int .i64 entry)=w4 at HF4 ⊢
 have hKl:K<w4.heap.size:=blk_in HF4.out.2.k
 have k18:w4.cell? ⟨K,18,none⟩=some (.slice none 0 0):=blk_cell HF4.out.2.k 18
 have q0:(((w4.alloc (.cells #[.pointer (some ⟨f,0,none⟩)] 226)).alloc (.cells #[.int .u64 64, .slice (some ⟨w4.heap.size,0,none⟩) 1 1, .int .u64 0] 232)).alloc (.cells #[.pointer (some ⟨w4.heap.size+1,0,none⟩)] 229)).heap[w4.heap.size]?=some (.cells #[.pointer (some ⟨f,0,none⟩)] 226 (0,0)):=three0 w4 _ _ _
 have q1:(((w4.alloc (.cells #[.pointer (some ⟨f,0,none⟩)] 226)).alloc (.cells #[.int .u64 64, .slice (some ⟨w4.heap.size,0,none⟩) 1 1, .int .u64 0] 232)).alloc (.cells #[.pointer (some ⟨w4.heap.size+1,0,none⟩)] 229)).heap[w4.heap.size+1]?=some (.cells #[.int .u64 64, .slice (some ⟨w4.heap.size,0,none⟩) 1 1, .int .u64 0] 232 (0,0)):=three1 w4 _ _ _
 have q2:(((w4.alloc (.cells #[.pointer (some ⟨f,0,none⟩)] 226)).alloc (.cells #[.int .u64 64, .slice (some ⟨w4.heap.size,0,none⟩) 1 1, .int .u64 0] 232)).alloc (.cells #[.pointer (some ⟨w4.heap.size+1,0,none⟩)] 229)).heap[w4.heap.size+2]?=some (.cells #[.pointer (some ⟨w4.heap.size+1,0,none⟩)] 229 (0,0)):=three2 w4 _ _ _
 have hb5:Below w4.heap.size w4 (((w4.alloc (.cells #[.pointer (some ⟨f,0,none⟩)] 226)).alloc (.cells #[.int .u64 64, .slice (some ⟨w4.heap.size,0,none⟩) 1 1, .int .u64 0] 232)).alloc (.cells #[.pointer (some ⟨w4.heap.size+1,0,none⟩)] 229)):=(((Below.refl _ w4).alloc (Nat.le_refl _) _).alloc (by simp) _).alloc (by simp;omega) _
 have hz5:(((w4.alloc (.cells #[.pointer (some ⟨f,0,none⟩)] 226)).alloc (.cells #[.int .u64 64, .slice (some ⟨w4.heap.size,0,none⟩) 1 1, .int .u64 0] 232)).alloc (.cells #[.pointer (some ⟨w4.heap.size+1,0,none⟩)] 229)).heap.size=w4.heap.size+3:=by simp
 have hroom5:w4.heap.size≤(((w4.alloc (.cells #[.pointer (some ⟨f,0,none⟩)] 226)).alloc (.cells #[.int .u64 64, .slice (some ⟨w4.heap.size,0,none⟩) 1 1, .int .u64 0] 232)).alloc (.cells #[.pointer (some ⟨w4.heap.size+1,0,none⟩)] 229)).heap.size:=by omega
 obtain ⟨v6,w6,hrun,hown,hg,-⟩:=appT (w:=((w4.alloc (.cells #[.pointer (some ⟨f,0,none⟩)] 226)).alloc (.cells #[.int .u64 64, .slice (some ⟨w4.heap.size,0,none⟩) 1 1, .int .u64 0] 232)).alloc (.cells #[.pointer (some ⟨w4.heap.size+1,0,none⟩)] 229)) w4.heap.size 117 117 229 1 8 Tryz.underlying117 (by kernel_rfl) (by decide) (by decide) (row_at0 _ w4.heap.size _ _) (row_one' (base:=0) q2 (Nat.zero_le _)) (fun u hu=>by simp at hu;subst hu;rfl) (by decide) hroom5
 have hb6:Below w4.heap.size w4 w6:=hb5.grown hg (by omega) fun k e=>by cases e
 have e0:w6.heap[w4.heap.size]?=some (.cells #[.pointer (some ⟨f,0,none⟩)] 226 (0,0)):=(hg.block _ (by omega) (by intro e;cases e)).trans q0
 have e1:w6.heap[w4.heap.size+1]?=some (.cells #[.int .u64 64, .slice (some ⟨w4.heap.size,0,none⟩) 1 1, .int .u64 0] 232 (0,0)):=(hg.block _ (by omega) (by intro e;cases e)).trans q1
 have k18':w6.cell? ⟨K,18,none⟩=some (.slice none 0 0):=(hb6.cell (p:=⟨K,18,none⟩) hKl).trans k18
 have kf6:w6.frozen? ⟨K,18,none⟩=false:=blk_frozen ((hb6.block K hKl).trans HF4.out.2.k) 18
 obtain ⟨A6,c6,rfl⟩:=Asm.own_shape hown
 have HRun:=Lib.hid hrun
 have H6:Hid _:=Lib.hid (And.intro e0 (And.intro e1 (And.intro (HF4.out.2.below hb6) (And.intro ((hb6.block f (blk_in HF4.out.1)).trans HF4.out.1) (And.intro hown hKl)))))
 clear q0 q1 q2 hb5 hz5 hroom5 hrun hown hg hb6 e0 e1 HF4
 go_upto_region 40 with (at_builtin;refine Go.Lib.wpList_append_run _ rfl (.tmp 272) (.tmp 278) 117 117 rfl _ _ rfl rfl _ _ HRun.out ?_)
 clear HRun k18 k18' kf6
 obtain ⟨e0,e1,s6,ef,hown,-⟩:=H6.out
 obtain ⟨⟨l1,l2,l3,l4,l5,l6⟩,⟨g1,g2,g3,g4,g5,g6⟩,hroom,hlo2⟩:=HL.out
 have s7:=s6.runs l1 g5 (.slice A6 (0+1) c6)
 have hK7:Keeps (fun b=>b=K) w6 (w6.setCell ⟨K,18,none⟩ (.slice A6 (0+1) c6)):=(Keeps.refl _ w6).setCell (p:=⟨K,18,none⟩) (by exact rfl) _
 have kq: ∀i,i=K→ ∃ys s g,w6.heap[i]?=some (.cells ys s g)∧s=120:=fun i e=>by subst e;exact ⟨_,_,_,s6.k,rfl⟩
 have kq2: ∀{t:TypeId},t≠120→ ∀i,i=K→ ∃ys s g,w6.heap[i]?=some (.cells ys s g)∧s≠t:=fun ht i e=>by
  obtain ⟨ys,s,g,z1,z2⟩:=kq i e
  exact ⟨ys,s,g,z1,by rw[z2];exact ht.symm⟩
 have H7:=Lib.hid (And.intro (kp hK7 e0 (kq2 (by decide))) (And.intro (kp hK7 e1 (kq2 (by decide))) (And.intro s7 (And.intro (kp hK7 ef (kq2 (by decide))) (kpr hK7 (Asm.row_base hown (Nat.zero_le _)) (kq2 (by decide)))))))
 clear e0 e1 s6 ef hown l1 l2 l3 l4 l5 l6 g1 g2 g3 g4 g5 g6 hroom hlo2 s7 hK7 kq kq2 H6
 generalize w6.setCell ⟨K,18,none⟩ (.slice A6 (0+1) c6)=w7 at H7 ⊢
 generalize w4.heap.size=p1 at*
 have k15:w7.cell? ⟨K,15,none⟩=some (.pointer (some ⟨R,0,none⟩)):=blk_cell H7.out.2.2.1.k 15
 have HP:=Lib.hid (rput0 H7.out.2.2.1.r 64)
 go_wp2_with fail
 refine HP.out.mono ?_
 rintro e w8 ⟨rfl,v8,r8,ro8,e8⟩
 clear HP k15
 obtain ⟨e0,e1,s7,ef,hown⟩:=H7.out
 obtain ⟨⟨l1,l2,l3,l4,l5,l6⟩,⟨g1,g2,g3,g4,g5,g6⟩,hroom,hlo2⟩:=HL.out
 have rq: ∀{t:TypeId},t≠124→ ∀i,i=R→ ∃ys s g,w7.heap[i]?=some (.cells ys s g)∧s≠t:=fun ht i e=>by subst e;exact ⟨_,_,_,s7.r,ht.symm⟩
 have hz8:Rest w8 F entry b2 Q O go gk wv kb:=s7.s.keeps e8 (fun i e=>by subst e;exact ⟨_,_,_,s7.r,by unfold otherT;decide⟩) g6
 have hFr:Fresh F cells entry w8 ⟨K,X,gw,gh,A,R,Q,T,gt,O,go,gk,lv,cv,pv,kb,fun _=>p1+1,fun _ _=>f⟩:=by
  obtain ⟨N,mo⟩:=s7.m.obj
  exact ⟨⟨_,wv,kp e8 s7.k (rq (by decide)),kpr e8 hown (rq (by decide)),hz8.row⟩,⟨s7.m.ok,⟨N,kp e8 mo (rq (by decide))⟩,kp e8 s7.m.ws (rq (by decide)),kp e8 s7.m.hs (rq (by decide))⟩,⟨v,kp e8 s7.a (rq (by decide)),kpr e8 s7.row (rq (by decide))⟩,⟨v8,r8,Asm.row_base ro8 (Nat.zero_le _)⟩,hz8.que,⟨s7.t.ok,kp e8 s7.t.obj (rq (by decide)),kp e8 s7.t.row (rq (by decide))⟩,hz8.objs,⟨_,kp e8 e1 (rq (by decide)),row_one' (kp e8 e0 (rq (by decide))) (Nat.zero_le _),kp e8 ef (rq (by decide))⟩,hz8.wk⟩
 have HQ:Hid (NewOk w0 F cells entry (.returned (.tuple #[.pointer (some ⟨K,0,none⟩), .pointer none])) w8):=Lib.hid ⟨_,rfl,hFr,Keeps.below s7.b e8 s7.b.size (fun i e=>by omega)⟩
 clear e0 e1 s7 ef hown l1 l2 l3 l4 l5 l6 g1 g2 g3 g4 g5 g6 hroom hlo2 rq hz8 hFr r8 ro8 e8 H7 HL
 go_wp2_with fail
 go_ret2
 exact HQ.out
end Go.Proofs.YtaangaogmnlljaaGreatDoor.Kn
namespace Go.Proofs.YtaangaogmnlljaaGreatDoor.Kn
open Go.RowKit Go.Maps Asm
theorem RMemP.lay {w:World} {X gw gh:Nat} {m:Mem} (h:RMemP w X gw gh m) {x:Int} {d:Nat} (hx:x=(d:Int)) {v:Int} (hv:U64 v):RMemP (w.setCell ⟨gh,d,none⟩ (.int .u64 v)) X gw gh (m.lay x v):=by
 obtain ⟨N,ho⟩:=h.obj
 have hne:=mem_apart h
 have e:x.toNat=d:=by omega
 have hl:(m.lay x v).hs.length=m.hs.length:=List.length_set ..
 refine ⟨lay_ok h.ok _ _ hv,⟨N,?_⟩,?_,?_⟩
 ·rw[hl];exact (set_other (by show X≠gh;omega)).trans ho
 ·exact (set_other (by show gw≠gh;omega)).trans h.ws
 ·have:=set_block h.hs (k:=d) (.int .u64 v)
  rw[this]
  show some (Obj.cells ((u64A m.hs).setIfInBounds d (.int .u64 v)) _ _)=_
  rw[u64A_set]
  unfold Mem.lay
  rw[e]
structure WL (w0 w:World) (F:Fixed) (cells:Nat) (entry:Int) (K X gw gh:Nat) (lv cv pv a q r t o wv:Value) (S:List (Nat×Obj)) (B0:Nat) (m:Mem) (i:Nat) (kb:Nat→Nat):Prop where
 nm:NM w0 w K F lv cv pv ((K,kO F cells entry lv cv pv (ptrV X) a q r t o (.slice none 0 0) wv)::S) X gw gh m
 row:w.ownsRow B0 218 1 wv i ((List.range i).map fun j=>ptrV (kb j))
 wk: ∀j<i,w.heap[kb j]?=some (wkO F)
 lo:B0≤w.heap.size
 lt: ∀p∈S,p.1<B0
 mlt:X<B0∧gw<B0∧gh<B0∧K<B0
section
variable {w0 w w':World} {F:Fixed} {cells:Nat} {entry:Int} {K X gw gh:Nat} {lv cv pv a q r t o wv:Value} {S:List (Nat×Obj)} {B0:Nat} {m m':Mem} {i:Nat} {kb:Nat→Nat}
theorem WL.kobj (h:WL w0 w F cells entry K X gw gh lv cv pv a q r t o wv S B0 m i kb):w.heap[K]?=some (kO F cells entry lv cv pv (ptrV X) a q r t o (.slice none 0 0) wv):=h.nm.ne.hs.at' _ List.mem_cons_self
theorem WL.below (h:WL w0 w F cells entry K X gw gh lv cv pv a q r t o wv S B0 m i kb) (k:Below w.heap.size w w'):WL w0 w' F cells entry K X gw gh lv cv pv a q r t o wv S B0 m i kb:=
 ⟨h.nm.keep (Y:=fun _=>False) (Keeps.ofBelow k) (fun _ e=>e.elim) (h.nm.ne.hs.below k) h.nm.apart,ownsRow_of_block h.row fun b e=>k.block b (h.row.lt b e).2,fun j hj=>(k.block _ (blk_in (h.wk j hj))).trans (h.wk j hj),Nat.le_trans h.lo k.size,h.lt,h.mlt⟩
theorem WL.holds (h:WL w0 w F cells entry K X gw gh lv cv pv a q r t o wv S B0 m i kb) (hm:RMemP w' X gw gh m') (k:Keeps (fun b=>b=gh) w w'):WL w0 w' F cells entry K X gw gh lv cv pv a q r t o wv S B0 m' i kb:=
 ⟨h.nm.map hm (k.mono fun _ e=>Or.inr e),kpr k h.row fun b e=>by subst e;exact ⟨_,_,_,h.nm.mem.hs,by decide⟩,fun j hj=>kp k (h.wk j hj) fun b e=>by subst e;exact ⟨_,_,_,h.nm.mem.hs,by decide⟩,Nat.le_trans h.lo k.size,h.lt,h.mlt⟩
theorem WL.mine (h:WL w0 w F cells entry K X gw gh lv cv pv a q r t o wv S B0 m i kb) {b:Nat} {xs:Array Value} (hb:w.heap[b]?=some (.cells xs 221 (0,0))) (hlo:B0≤b) (hk: ∀j<i,kb j≠b) (k:Keeps (fun x=>x=b) w w'):WL w0 w' F cells entry K X gw gh lv cv pv a q r t o wv S B0 m i kb:=
 ⟨h.nm.far k (fun x e=>by rw[e];exact hlo) h.mlt.2.2.2 (fun p hp=>by
  rcases List.mem_cons.1 hp with rfl|hp
  ·exact h.mlt.2.2.2
  ·exact h.lt p hp) ⟨h.mlt.1,h.mlt.2.1,h.mlt.2.2.1⟩,kpr k h.row fun x e=>by subst e;exact ⟨_,_,_,hb,by decide⟩,fun j hj=>(k.block _ (blk_in (h.wk j hj)) (hk j hj)).trans (h.wk j hj),Nat.le_trans h.lo k.size,h.lt,h.mlt⟩
theorem WL.grow (h:WL w0 w F cells entry K X gw gh lv cv pv a q r t o wv S B0 m i kb) {b:Nat} (hb:w.heap[b]?=some (wkO F)) {wv':Value} (hg:w.grownBy w' wv.ownBlock) (hr:w'.ownsRow B0 218 1 wv' (i+1) (((List.range i).map fun j=>ptrV (kb j))++ [ptrV b])):
  WL w0 (w'.setCell ⟨K,19,none⟩ wv') F cells entry K X gw gh lv cv pv a q r t o wv' S B0 m (i+1) (fun j=>if j=i then b else kb j):=by
 have hk:Keeps (fun x=>B0≤x∧wv.ownBlock=some x) w w':=⟨hg.os,hg.tape,hg.output,hg.size,fun x hx hn=>hg.block x hx fun e=>hn ⟨(h.row.lt x e.symm).1,e.symm⟩⟩
 have hty: ∀x,(B0≤x∧wv.ownBlock=some x)→ ∃ys s g,w.heap[x]?=some (.cells ys s g)∧s=218:=fun x e=>by
  obtain ⟨cur,hc⟩:=Asm.row_block h.row e.2
  exact ⟨_,_,_,hc,rfl⟩
 have h1:NM w0 w' K F lv cv pv ((K,kO F cells entry lv cv pv (ptrV X) a q r t o (.slice none 0 0) wv)::S) X gw gh m:=h.nm.far hk (fun x e=>e.1) h.mlt.2.2.2 (fun p hp=>by
  rcases List.mem_cons.1 hp with rfl|hp
  ·exact h.mlt.2.2.2
  ·exact h.lt p hp) ⟨h.mlt.1,h.mlt.2.1,h.mlt.2.2.1⟩
 have hw: ∀{x},w.heap[x]?=some (wkO F)→(w'.setCell ⟨K,19,none⟩ wv').heap[x]?=some (wkO F):=fun {x} hx=>by
  have e:=kp hk hx fun y e=>by
   obtain ⟨ys,s,g,q1,q2⟩:=hty y e
   exact ⟨ys,s,g,q1,by rw[q2];decide⟩
  exact (set_other (by exact cells_apart e (h1.ne.hs.at' _ List.mem_cons_self) (by decide))).trans e
 refine ⟨h1.set 19 wv',?_,fun j hj=>?_,Nat.le_trans (Nat.le_trans h.lo hg.size) (by simp[World.setCell]),h.lt,h.mlt⟩
 ·have:(List.range (i+1)).map (fun j=>ptrV (if j=i then b else kb j))=((List.range i).map fun j=>ptrV (kb j))++ [ptrV b]:=by
   rw[List.range_succ,List.map_append]
   congr 1
   ·exact List.map_congr_left fun j hj=>by rw[if_neg (by have:=List.mem_range.1 hj;omega)]
   ·simp
  rw[this]
  exact ownsRow_of_block hr fun x e=>set_other (by have:=(hr.lt x e).1;have:=h.mlt.2.2.2;show x≠K;omega)
 ·by_cases e:j=i
  ·rw[if_pos e];exact hw hb
  ·rw[if_neg e];exact hw (h.wk j (by omega))
end
end Go.Proofs.YtaangaogmnlljaaGreatDoor.Kn
namespace Go.Proofs.YtaangaogmnlljaaGreatDoor.Kn
open Go.RowKit Go.Maps Asm
attribute [local go_sem] Oper.semAt_some
theorem rall_stops (n:Nat) (hn:1≤n) (Bh R gr:Nat) (l:List Int) (n0:Nat) (w:World) (hn0:n0≤w.heap.size)
  (hBh:w.cell? ⟨Bh,0,none⟩=some (.pointer (some ⟨R,0,none⟩))) (hBl:Bh<w.heap.size) (hR:RingP w R gr l):
  SeqStopsK Fence.wide n Tryz.prog 183 #[.pointer (some ⟨Bh,0,none⟩)] encR (CellsKeep n0) (fun xs=>xs=enumL l) (fun pre=>pre<+:enumL l) l.length w:=fun l0 J Jx W hW hJ _ hY h0=>
 rall1_in n hn l0 Bh R gr l n0 J Jx W hJ (Nat.le_trans hn0 hW.size) hY ((hW.cell (p:=⟨Bh,0,none⟩) hBl).trans hBh) (Nat.lt_of_lt_of_le hBl hW.size) (hR.below hW) h0
theorem rall_any (a:Addr) (w:World):
  Calls Tryz.prog 111 #[.pointer (some a)] w fun e w'=>e= .returned (.func (.func 183) #[] #[.pointer (some ⟨w.heap.size,0,none⟩)])∧w.alloc (.cells #[.pointer (some a)] 152)=w':=by
 go_enter Tryz.func111,Tryz.ntmps111
 go_wp2_with fail
 go_ret
 exact ⟨rfl,rfl⟩
section
variable {F:Fixed} {w:World} {own:Own} {G:KG} {M:Mach} {n:Nat}
end
end Go.Proofs.YtaangaogmnlljaaGreatDoor.Kn
