/- Part 2 of what the proof stands on: KnInvC, KnInvD, HeadQuiet, Row. -/
import Derived.Test.YtaangaogmnlljaaGreatDoorRows
import Derived.Test.YtaangaogmnlljaaGreatDoorP01
set_option linter.unusedVariables false
namespace Go.Proofs.YtaangaogmnlljaaGreatDoor.Kn
open Asm Hp
theorem count_set: ∀{l:List Int} {i:Nat} {a:Int},l[i]?=some a→ ∀x y:Int,(l.set i x).count y+(if a=y then 1 else 0)=l.count y+(if x=y then 1 else 0)
 |[],_,_,h,_,_=>by cases h
 |b::l,0,a,h,x,y=>by
  simp at h
  subst h
  simp[List.count_cons]
  by_cases h1:b=y<;>by_cases h2:x=y<;>simp[h1,h2]
 |b::l,i+1,a,h,x,y=>by
  have:=count_set (l:=l) (i:=i) (a:=a) (by simpa using h) x y
  simp[List.count_cons]
  omega
abbrev V:=Int→Option (Int×Bool)
def nowhere (ring hands slots:List Int) (id:Int):Prop:=ring.count id=0∧hands.count id=0∧slots.count id=0
section
variable {ring hands slots:List Int} {v v':V}
theorem InvA.at (h:InvA ring hands slots v) {id:Int} (hn:nowhere ring hands slots id) (e: ∀x,x≠id→v' x=v x):InvA ring hands slots v':=by
 obtain ⟨n1,n2,n3⟩:=hn
 rw[List.count_eq_zero] at n1 n2 n3
 refine ⟨h.once,fun x hx hm=>?_,fun x hx hm=>?_⟩
 ·rw[e x (by rintro rfl;exact hm.elim n1 n2)];exact h.away x hx hm
 ·rw[e x (by rintro rfl;exact n3 hm)];exact h.on x hx hm
theorem pos_of {l:List Int} {x:Int} (h:x∈l):0<l.count x:=List.count_pos_iff.2 h
theorem InvA.less (h:InvA ring hands slots v) {ring' hands' slots':List Int} (hr: ∀x,x≠0→ring'.count x≤ring.count x) (hh: ∀x,x≠0→hands'.count x≤hands.count x) (hs: ∀x,x≠0→slots'.count x≤slots.count x):InvA ring' hands' slots' v:=by
 refine ⟨fun x hx=>?_,fun x hx hm=>h.away x hx ?_,fun x hx hm=>h.on x hx ?_⟩
 ·have:=h.once x hx;have:=hr x hx;have:=hh x hx;have:=hs x hx;omega
 ·rcases hm with hm|hm
  ·have:=pos_of hm;have:=hr x hx;exact Or.inl (List.count_pos_iff.1 (by omega))
  ·have:=pos_of hm;have:=hh x hx;exact Or.inr (List.count_pos_iff.1 (by omega))
 ·have:=pos_of hm;have:=hs x hx;exact List.count_pos_iff.1 (by omega)
theorem InvA.ringed (h:InvA ring hands slots v) {id:Int} (hn:nowhere ring hands slots id) {p:Int×Bool} (hv:v id=some p) (hp:p.1=1∨p.1=4∧p.2=true):InvA (putRing ring id) hands slots v:=by
 unfold putRing
 split
 ·exact h
 ·obtain ⟨n1,n2,n3⟩:=hn
  refine ⟨fun x hx=>?_,fun x hx hm=>?_,h.on⟩
  ·rw[List.count_append,List.count_singleton]
   have:=h.once x hx
   by_cases e:id=x
   ·subst e;simp[n1,n2,n3]
   ·have:(id==x)=false:=by simp[e]
    rw[this];simp;omega
  ·by_cases e:x=id
   ·subst e;exact ⟨p,hv,hp⟩
   ·refine h.away x hx ?_
    rcases hm with hm|hm
    ·rcases List.mem_append.1 hm with hm|hm
     ·exact Or.inl hm
     ·exact absurd (List.mem_singleton.1 hm) e
    ·exact Or.inr hm
theorem InvA.handed (h:InvA ring hands slots v) {id:Int} (hn:nowhere ring hands slots id) {p:Int×Bool} (hv:v id=some p) (hp:p.1=1∨p.1=4∧p.2=true) {i:Nat} (hi:hands[i]?=some 0):InvA ring (hands.set i id) slots v:=by
 obtain ⟨n1,n2,n3⟩:=hn
 refine ⟨fun x hx=>?_,fun x hx hm=>?_,h.on⟩
 ·have:=h.once x hx
  have hc:=count_set hi id x
  rw[if_neg (Ne.symm hx)] at hc
  by_cases e:id=x
  ·subst e;rw[if_pos rfl] at hc;omega
  ·rw[if_neg e] at hc;omega
 ·by_cases e:x=id
  ·subst e;exact ⟨p,hv,hp⟩
  ·refine h.away x hx ?_
   rcases hm with hm|hm
   ·exact Or.inl hm
   ·rcases List.mem_or_eq_of_mem_set hm with hm|hm
    ·exact Or.inr hm
    ·exact absurd hm e
end
theorem Inv.re {M M':Mach} (h:Inv M) (ids:M'.runs.map (·.id)=M.runs.map (·.id)) (base: ∀r∈M'.runs,Based r) (hs: ∀s∈M'.slps,aliveV (view M.tab s.id)) (hc: ∀t∈M'.clk.S,aliveV (view M.tab t.w))
  (ha: ∀x,aliveV (view M'.tab x)↔aliveV (view M.tab x)) (hp:InvA M'.ring (handsOf M') (slotsOf M') (view M'.tab)):Inv M':=by
 refine ⟨by rw[ids];exact h.nod,fun id=>?_,base,hp,fun s hs'=>(ha _).2 (hs s hs'),fun t ht=>(ha _).2 (hc t ht)⟩
 rw[runOf_iff,ids,←runOf_iff,ha];exact h.has id
end Go.Proofs.YtaangaogmnlljaaGreatDoor.Kn
namespace Go.Proofs.YtaangaogmnlljaaGreatDoor.Kn
open Asm Hp
def BornOk (l:List TRow):Prop:= ∀home id l',bornT l home=some (id,l')→id≠0∧view l id=none∧ ∀x,view l' x=if x=id then some (1,false) else view l x
end Go.Proofs.YtaangaogmnlljaaGreatDoor.Kn
namespace Go.Proofs.YtaangaogmnlljaaGreatDoor
open Go
theorem wpAny_quiet_rest {P:Program} {ops:Array Oper} {Q:Exit→Act→World→Prop} {a:Act} {w:World} (hs:Region.noSelect ops=true) (l:List Oper) (k:Nat) (listed:Array Bool) (hl: ∀j,l[j]?=ops[k+j]?)
  (hB:Region.lexFrom .any ops l.length k listed=true)
  (h:wpQuiet P ops (fun w'=> ∃n,w'=w.drewN n) (fun a'=> ∀w',(∃n,w'=w.drewN n)→Q .normal a' w') l a):wpAny P .any ops Q l.length listed a w:=
 wpAny_of_quiet (C:=fun w'=> ∃n,w'=w.drewN n) (Q:=fun a'=> ∀w',(∃n,w'=w.drewN n)→Q .normal a' w') (fun _ w' hw' h=>h w' hw') _ _ _ _ ⟨0,rfl⟩ (wpAnyQ_lex (md:= .any) hs l k listed a hl hB h)
theorem wp_region_two_call {P:Program} {id:Nat} {ops:Array Oper} {Q:Exit→Act→World→Prop} {a:Act} {w:World} {o0 o1 o2:Oper} {l:List Oper} (hm:P.follows .mixedOrders=true)
  (hops:ops=(o0::o1::o2::l).toArray) (hs:Region.noSelect ops=true)
  (hr0:Region.ready .any ops (Array.replicate ops.size false)= [0,1])
  (hr1:Region.ready .any ops ((Array.replicate ops.size false).setIfInBounds 0 true)= [1])
  (hr2:Region.ready .any ops ((Array.replicate ops.size false).setIfInBounds 1 true)= [0])
  (hr3:Region.ready .any ops (((Array.replicate ops.size false).setIfInBounds 0 true).setIfInBounds 1 true)= [2])
  (hB:Region.lexFrom .any ops l.length 3 ((((Array.replicate ops.size false).setIfInBounds 0 true).setIfInBounds 1 true).setIfInBounds 2 true)=true)
  (g0:o0.guard=none) (g1:o1.guard=none) (g2:o2.guard=none) (v0 v1:Value)
  (h0: ∀(w':World),(execOp a.eval o0).run P w'= .ok (.value v0) w') (h0': ∀(w':World),(execOp (a.put o1.dst v1).eval o0).run P w'= .ok (.value v0) w')
  (h1: ∀(w':World),(execOp a.eval o1).run P w'= .ok (.value v1) w') (h1': ∀(w':World),(execOp (a.put o0.dst v0).eval o1).run P w'= .ok (.value v1) w')
  (hcomm:(a.put o1.dst v1).put o0.dst v0=(a.put o0.dst v0).put o1.dst v1)
  (h2: ∀K:Act→World→Prop,(∀a' w',wpQuiet P ops (fun x=> ∃n,x=w'.drewN n) (fun a''=> ∀x,(∃n,x=w'.drewN n)→Q .normal a'' x) l a'→K a' w')→Oper.wp P o2 ((a.put o0.dst v0).put o1.dst v1) w.drew K Q):
  (Code.region id ops true).wp P Q a w:=by
 have e0:ops[0]?=some o0:=by rw[hops];rfl
 have e1:ops[1]?=some o1:=by rw[hops];rfl
 have e2:ops[2]?=some o2:=by rw[hops];rfl
 have hl: ∀j,l[j]?=ops[3+j]?:=by
  intro j;rw[hops];simp[Nat.add_comm 3 j]
 have hsz:ops.size=l.length+1+1+1:=by rw[hops];simp
 have two:wpAny P .any ops Q (l.length+1) (((Array.replicate ops.size false).setIfInBounds 0 true).setIfInBounds 1 true) ((a.put o0.dst v0).put o1.dst v1) w.drew:=by
  refine wpAny_ready hr3 (by simp) (AllReady.cons e2 ?_ AllReady.nil)
  intro K' hK'
  rw[if_pos (by simp[Region.wanted,g2])]
  exact h2 K' fun a' w' hq=>hK' a' w' (wpAny_quiet_rest hs l 3 _ hl hB hq)
 refine wp_region_any hm ?_
 rw[show wpAny P .any ops Q ops.size=wpAny P .any ops Q (l.length+1+1+1) by rw[hsz]]
 refine wpAny_ready hr0 (by simp) (AllReady.cons e0 ?_ (AllReady.cons e1 ?_ AllReady.nil))
 ·intro K' hK'
  rw[if_pos (by simp[Region.wanted,g0])]
  unfold Oper.wp
  rw[h0]
  refine hK' _ _ (wpAny_ready hr1 (by simp) (AllReady.cons e1 ?_ AllReady.nil))
  intro K'' hK''
  rw[if_pos (by simp[Region.wanted,g1])]
  unfold Oper.wp
  rw[h1']
  exact hK'' _ _ two
 ·intro K' hK'
  rw[if_pos (by simp[Region.wanted,g1])]
  unfold Oper.wp
  rw[h1]
  refine hK' _ _ (wpAny_ready hr2 (by simp) (AllReady.cons e0 ?_ AllReady.nil))
  intro K'' hK''
  rw[if_pos (by simp[Region.wanted,g0])]
  unfold Oper.wp
  rw[h0']
  refine hK'' _ _ ?_
  rw[hcomm,Array.setIfInBounds_comm _ _ (by omega)]
  exact two
end Go.Proofs.YtaangaogmnlljaaGreatDoor
namespace Go.Proofs.YtaangaogmnlljaaGreatDoor
open Go.ChangeShapes Go.WideShapes Go.ChangeAt Go.RowKit
theorem laidOut:laidOutB Tryz.prog=true:=by kernel_rfl
section
variable {H:Type} {enc:TypeId×Value→H}
theorem stays {t:TypeId} (hr:Tryz.prog.readableRec t=true) (hrow:t<Tryz.prog.types.size) {W W':World} {sp:Nat→Bool} {v:Value} {d:DataW H} {ps:List MemPlace}
  (h:DataW.Trod enc Tryz.prog W 0 (fun _=>true) true t v d ps) (hb:Below W.heap.size W W') (hlt: ∀x∈ps,x.block<W.heap.size) (hs: ∀x∈ps,sp x.block=true):
  DataW.Trod enc Tryz.prog W' 0 sp true t v d ps:=
 WideElems.Trod_stays laidOut hr hrow h (fun x hx=>hb.same (hlt x hx)) hs
theorem post_of_below {P:Program} {f:Func} {s:ChangeSpec} {apart fresh handsOn again:Bool} {W W':World} {args:Array Value} {v:Value} {ds gs:List (DataW H)} {before pa pv:List MemPlace}
  (hW:DataW.Whole enc P f.params.toList s.vars apart W args.toList ds gs before)
  (hres: ∀(b:Nat) (sp:Nat→Bool) (hd:Bool),DataW.TrodAll enc P W' b sp hd f.resultTypes.toList (v.resultList f.resultTypes.size) (s.fn H (ds++gs)).results [])
  (hargs: ∀sp:Nat→Bool,(∀p∈before,sp p.block=true)→DataW.TrodAll enc P W' 0 sp true f.params.toList args.toList (s.fn H (ds++gs)).args pa)
  (hvars: ∀sp:Nat→Bool,(∀p∈before,sp p.block=true)→DataW.TrodVars enc P W' sp s.vars (s.fn H (ds++gs)).vars pv)
  (hps:before=pa++pv) (hb:Below W.heap.size W W')
  (hok: ∀(j:Nat) (t:TypeId) (r:Value),f.resultTypes[j]?=some t→(v.resultList f.resultTypes.size)[j]?=some r→Value.okWide P W' .any 0 t r):
  s.post enc P f apart fresh handsOn again W args v W':=by
 have hlt: ∀p∈before,p.block<W.heap.size:=fun p hp=>hW.lt p hp
 have hold: ∀p∈before,(fun b=>decide (b<W.heap.size)) p.block=true:=fun p hp=>by simpa using hlt p hp
 refine ⟨ds,gs,before,[],pa,pv,hW,hres _ _ _,hargs _ hold,hvars _ hold,World.keptBut_mono (fun p hp=>⟨hp,?_⟩) (hb.frame (· ∈before)),fun _=>?_⟩
 ·rw[hps,List.mem_append] at hp
  exact Or.inr hp
 ·obtain ⟨_,_,_,_,_,hz,hn⟩:=hW
  refine ⟨hok,_,_,([]++pa)++pv,⟨[]++pa,pv,trodAll_append (hargs _ (fun _ _=>rfl)) (hres _ _ _),hvars _ (fun _ _=>rfl),rfl,?_,?_⟩,?_⟩
  ·intro b off hp
   have hin:MemPlace.cell b off∈before:=by rw[hps];simpa using hp
   rw[hb.frozen (hlt _ hin)]
   exact hz b off hin
  ·intro ha
   have:=hn ha
   rw[hps] at this
   simpa using this
  ·intro p hp _
   rw[hps]
   simpa using hp
end
end Go.Proofs.YtaangaogmnlljaaGreatDoor
