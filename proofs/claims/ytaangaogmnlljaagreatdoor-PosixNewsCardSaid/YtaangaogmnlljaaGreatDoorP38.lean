/- Part 38 of what the proof stands on: RdSame, PlSame. -/
import Derived.Test.YtaangaogmnlljaaGreatDoorP37
set_option linter.unusedVariables false
set_option maxRecDepth 100000
set_option maxHeartbeats 40000000
namespace Go.Proofs.YtaangaogmnlljaaGreatDoor.Kn
open Go.RowKit Go.Maps Asm
theorem cellsBool:Tryz.prog.cellsOf 4=1:=by kernel_rfl
theorem eqBoolE (d:Nat) (a b:Bool) (w:World):(Op.equalIn (d+1) 4 (.bool a) (.bool b)).run Tryz.prog w= .ok (a==b) w:=by
 simp[Op.equalIn,run_underlying Tryz.underlying4]
theorem fieldsThr:(Tryz.prog.fieldsOf 100).toList.map (fun f=>(f.type,f.offset))= [(53,0),(3,1),(53,2),(53,3),(53,4),(4,5),(4,6)]:=by kernel_rfl
theorem namesThr:(Tryz.prog.fieldsOf 100).toList.all (fun f=>f.name != "_")=true:=by kernel_rfl
theorem eq_thrF (D:Nat) (a b c d e:Int) (x y:Bool) (w:World) (fs:List Field) (h:fs.map (fun f=>(f.type,f.offset))= [(53,0),(3,1),(53,2),(53,3),(53,4),(4,5),(4,6)]) (hn:fs.all (fun f=>f.name != "_")=true):
  (Op.eqFields (D+2) #[.int .u64 a, .int .i64 b, .int .u64 c, .int .u64 d, .int .u64 e, .bool x, .bool y] #[.int .u64 a, .int .i64 b, .int .u64 c, .int .u64 d, .int .u64 e, .bool x, .bool y] fs).run Tryz.prog w= .ok true w:=by
 rcases fs with _|⟨f0,_|⟨f1,_|⟨f2,_|⟨f3,_|⟨f4,_|⟨f5,_|⟨f6,_|⟨q,fs⟩⟩⟩⟩⟩⟩⟩⟩
 iterate 7 (·exact absurd h (by simp))
 rotate_left
 ·exact absurd h (by simp)
 simp only[List.map_cons,List.map_nil,List.cons.injEq,Prod.mk.injEq,and_true] at h
 obtain ⟨⟨a2,a3⟩,⟨b2,b3⟩,⟨c2,c3⟩,⟨d2,d3⟩,⟨e2,e3⟩,⟨g2,g3⟩,h2,h3⟩:=h
 simp only[List.all_cons,List.all_nil,Bool.and_true,Bool.and_eq_true,bne_iff_ne,ne_eq] at hn
 obtain ⟨n0,n1,n2,n3,n4,n5,n6⟩:=hn
 have i:=eqIntE (D+1)
 have u:=eqU64E (D+1)
 have b:=eqBoolE (D+1)
 have z1:=cellsU64
 have z2:=cellsIntE
 have z3:=cellsBool
 simp[Op.eqFields,n0,n1,n2,n3,n4,n5,n6,a2,a3,b2,b3,c2,c3,d2,d3,e2,e3,g2,g3,h2,h3,part,i,u,b,go_sem]
theorem neq_thr (a b c d e:Int) (x y:Bool) (w:World):(binOp .neq 100 (.agg #[.int .u64 a, .int .i64 b, .int .u64 c, .int .u64 d, .int .u64 e, .bool x, .bool y]) (.agg #[.int .u64 a, .int .i64 b, .int .u64 c, .int .u64 d, .int .u64 e, .bool x, .bool y])).run Tryz.prog w= .ok (.bool false) w:=by
 rw[run_neq_struct,run_equalIn_struct w 9999 _ _ _ (by kernel_rfl) (by kernel_rfl),eq_thrF 9997 a b c d e x y w _ fieldsThr namesThr]
 rfl
theorem i64C_at {l:List Int} {i:Nat} (hi:i<l.length):(intC l)[i]?=some (.int .i64 l[i]):=by simp[intC,hi]
theorem u64V_at {l:List Int} {i:Nat} (hi:i<l.length):(u64V l)[i]?=some (.int .u64 l[i]):=by simp[u64V,hi]
theorem thrC_at {l:List Thr} {i:Nat} (hi:i<l.length) (j:Nat) (hj:j<7):(thrC l)[i*7+j]?=(thr7 l[i])[j]?:=flat_at (k:=7) (f:=thr7) (fun _=>rfl) l i hi j hj
theorem a99.q47 {P:Prop} (h:P:=by
 have a0:wr.cell? ⟨g1,i,none⟩=some (.int .u64 l[i]):=by
  rw[HW.out];have:=p1 i (by omega);exact this.trans (u64V_at hil)
 have b0:wr.cell? ⟨g2,i,none⟩=some (.int .u64 l[i]):=by
  rw[HW.out];have:=p2 i (by omega);exact this.trans (u64V_at hil)
 generalize l[i]=x at a0 b0
 exact m20):P:=h
theorem a99.q54 {P:Prop} (h:P:=by
 go_enter Tryz.func46,Tryz.ntmps46
 go_wp2_with fail
 go_loopw [5] (fun cv wr=> ∃i q:Nat,i≤n∧cv= .int .i64 i∧Hid (wr=w.drewN q)) (fun cv _=>n - (intOf cv).toNat)
 case atStart=>exact ⟨0,0,by omega,rfl,Lib.hid rfl⟩
 case round=>
  obtain ⟨i,q,hi,rfl,HW⟩:=hrel
  have hiI:(i:Int)≤(n:Int):=by omega
  by_cases hlt:i<n
  ·exact m47
  ·have hnl: ¬(i:Int)<(n:Int):=by omega
   go_wp2_with fail
   go_ret
   exact ⟨rfl,q,HW.out⟩):P:=h
open a99 in
set_option maxRecDepth 100000 in
theorem words_same {w:World} {b1 b2:Nat} {v1 v2:Value} {l:List Int} (h1:w.ownsRow b1 53 1 v1 l.length (u64V l)) (h2:w.ownsRow b2 53 1 v2 l.length (u64V l)) (hl:l.length≤1000000):
  Calls Tryz.prog 46 #[v1,v2] w fun e w'=>e= .returned (.bool true)∧ ∃q,w'=w.drewN q:=by
 exact m54
theorem a100.q47 {P:Prop} (h:P:=by
 have a0:wr.cell? ⟨g1,i,none⟩=some (.int .i64 l[i]):=by
  rw[HW.out];have:=p1 i (by omega);exact this.trans (i64C_at hil)
 have b0:wr.cell? ⟨g2,i,none⟩=some (.int .i64 l[i]):=by
  rw[HW.out];have:=p2 i (by omega);exact this.trans (i64C_at hil)
 generalize l[i]=x at a0 b0
 exact m20):P:=h
theorem a100.q54 {P:Prop} (h:P:=by
 go_enter Tryz.func52,Tryz.ntmps52
 go_wp2_with fail
 go_loopw [5] (fun cv wr=> ∃i q:Nat,i≤n∧cv= .int .i64 i∧Hid (wr=w.drewN q)) (fun cv _=>n - (intOf cv).toNat)
 case atStart=>exact ⟨0,0,by omega,rfl,Lib.hid rfl⟩
 case round=>
  obtain ⟨i,q,hi,rfl,HW⟩:=hrel
  have hiI:(i:Int)≤(n:Int):=by omega
  by_cases hlt:i<n
  ·exact m47
  ·have hnl: ¬(i:Int)<(n:Int):=by omega
   go_wp2_with fail
   go_ret
   exact ⟨rfl,q,HW.out⟩):P:=h
open a100 in
set_option maxRecDepth 100000 in
theorem ints_same {w:World} {b1 b2:Nat} {v1 v2:Value} {l:List Int} (h1:w.ownsRow b1 3 1 v1 l.length (intC l)) (h2:w.ownsRow b2 3 1 v2 l.length (intC l)) (hl:l.length≤1000000):
  Calls Tryz.prog 52 #[v1,v2] w fun e w'=>e= .returned (.bool true)∧ ∃q,w'=w.drewN q:=by
 exact m54
theorem a101.q47 {P:Prop} (h:P:=by
 have X1: ∀j,j<7→wr.cell? ⟨g1,i*7+j,none⟩=(thr7 l[i])[j]?:=fun j hj=>by
  rw[HW.out];exact (p1 (i*7+j) (by omega)).trans (thrC_at hil j hj)
 have X2: ∀j,j<7→wr.cell? ⟨g2,i*7+j,none⟩=(thr7 l[i])[j]?:=fun j hj=>by
  rw[HW.out];exact (p2 (i*7+j) (by omega)).trans (thrC_at hil j hj)
 generalize l[i]=x at X1 X2
 obtain ⟨y0,y1,y2,y3,y4,y5,y6⟩:=x
 have a0:wr.cell? ⟨g1,i*7,none⟩=some (.int .u64 y0):=X1 0 (by omega)
 have b0:wr.cell? ⟨g2,i*7,none⟩=some (.int .u64 y0):=X2 0 (by omega)
 have a1:wr.cell? ⟨g1,i*7+1,none⟩=some (.int .i64 y1):=X1 1 (by omega)
 have b1:wr.cell? ⟨g2,i*7+1,none⟩=some (.int .i64 y1):=X2 1 (by omega)
 have a2:wr.cell? ⟨g1,i*7+2,none⟩=some (.int .u64 y2):=X1 2 (by omega)
 have b2:wr.cell? ⟨g2,i*7+2,none⟩=some (.int .u64 y2):=X2 2 (by omega)
 have a3:wr.cell? ⟨g1,i*7+3,none⟩=some (.int .u64 y3):=X1 3 (by omega)
 have b3:wr.cell? ⟨g2,i*7+3,none⟩=some (.int .u64 y3):=X2 3 (by omega)
 have a4:wr.cell? ⟨g1,i*7+4,none⟩=some (.int .u64 y4):=X1 4 (by omega)
 have b4:wr.cell? ⟨g2,i*7+4,none⟩=some (.int .u64 y4):=X2 4 (by omega)
 have a5:wr.cell? ⟨g1,i*7+5,none⟩=some (.bool y5):=X1 5 (by omega)
 have b5:wr.cell? ⟨g2,i*7+5,none⟩=some (.bool y5):=X2 5 (by omega)
 have a6:wr.cell? ⟨g1,i*7+6,none⟩=some (.bool y6):=X1 6 (by omega)
 have b6:wr.cell? ⟨g2,i*7+6,none⟩=some (.bool y6):=X2 6 (by omega)
 have hne:=fun W=>neq_thr y0 y1 y2 y3 y4 y5 y6 W
 clear X1 X2
 exact m20):P:=h
theorem a101.q54 {P:Prop} (h:P:=by
 go_enter Tryz.func44,Tryz.ntmps44
 go_wp2_with fail
 go_loopw [5] (fun cv wr=> ∃i q:Nat,i≤n∧cv= .int .i64 i∧Hid (wr=w.drewN q)) (fun cv _=>n - (intOf cv).toNat)
 case atStart=>exact ⟨0,0,by omega,rfl,Lib.hid rfl⟩
 case round=>
  obtain ⟨i,q,hi,rfl,HW⟩:=hrel
  have hiI:(i:Int)≤(n:Int):=by omega
  by_cases hlt:i<n
  ·exact m47
  ·have hnl: ¬(i:Int)<(n:Int):=by omega
   go_wp2_with fail
   go_ret
   exact ⟨rfl,q,HW.out⟩):P:=h
open a101 in
set_option maxRecDepth 100000 in
theorem threads_same {w:World} {b1 b2:Nat} {v1 v2:Value} {l:List Thr} (h1:w.ownsRow b1 100 7 v1 l.length (thrC l)) (h2:w.ownsRow b2 100 7 v2 l.length (thrC l)) (hl:l.length≤1000000):
  Calls Tryz.prog 44 #[v1,v2] w fun e w'=>e= .returned (.bool true)∧ ∃q,w'=w.drewN q:=by
 exact m54
end Go.Proofs.YtaangaogmnlljaaGreatDoor.Kn
namespace Go.Proofs.YtaangaogmnlljaaGreatDoor.Kn
open Go.RowKit Go.Maps Asm
theorem fieldsWkr:(Tryz.prog.fieldsOf 131).toList.map (fun f=>(f.type,f.offset))= [(53,0),(53,1),(4,2),(3,3),(3,4)]:=by kernel_rfl
theorem namesWkr:(Tryz.prog.fieldsOf 131).toList.all (fun f=>f.name != "_")=true:=by kernel_rfl
theorem eq_wkrF (D:Nat) (a b c d:Int) (x:Bool) (w:World) (fs:List Field) (h:fs.map (fun f=>(f.type,f.offset))= [(53,0),(53,1),(4,2),(3,3),(3,4)]) (hn:fs.all (fun f=>f.name != "_")=true):
  (Op.eqFields (D+2) #[.int .u64 a, .int .u64 b, .bool x, .int .i64 c, .int .i64 d] #[.int .u64 a, .int .u64 b, .bool x, .int .i64 c, .int .i64 d] fs).run Tryz.prog w= .ok true w:=by
 rcases fs with _|⟨f0,_|⟨f1,_|⟨f2,_|⟨f3,_|⟨f4,_|⟨q,fs⟩⟩⟩⟩⟩⟩
 iterate 5 (·exact absurd h (by simp))
 rotate_left
 ·exact absurd h (by simp)
 simp only[List.map_cons,List.map_nil,List.cons.injEq,Prod.mk.injEq,and_true] at h
 obtain ⟨⟨a2,a3⟩,⟨b2,b3⟩,⟨c2,c3⟩,⟨d2,d3⟩,e2,e3⟩:=h
 simp only[List.all_cons,List.all_nil,Bool.and_true,Bool.and_eq_true,bne_iff_ne,ne_eq] at hn
 obtain ⟨n0,n1,n2,n3,n4⟩:=hn
 have i:=eqIntE (D+1)
 have u:=eqU64E (D+1)
 have b:=eqBoolE (D+1)
 have z1:=cellsU64
 have z2:=cellsIntE
 have z3:=cellsBool
 simp[Op.eqFields,n0,n1,n2,n3,n4,a2,a3,b2,b3,c2,c3,d2,d3,e2,e3,part,i,u,b,go_sem]
theorem neq_wkr (a b c d:Int) (x:Bool) (w:World):(binOp .neq 131 (.agg #[.int .u64 a, .int .u64 b, .bool x, .int .i64 c, .int .i64 d]) (.agg #[.int .u64 a, .int .u64 b, .bool x, .int .i64 c, .int .i64 d])).run Tryz.prog w= .ok (.bool false) w:=by
 rw[run_neq_struct,run_equalIn_struct w 9999 _ _ _ (by kernel_rfl) (by kernel_rfl),eq_wkrF 9997 a b c d x w _ fieldsWkr namesWkr]
 rfl
theorem waiters_nil (w:World):Calls Tryz.prog 48 #[.slice none 0 0, .slice none 0 0] w fun e w'=>e= .returned (.bool true)∧w=w':=by
 go_enter Tryz.func48,Tryz.ntmps48
 exact m46
def thr0 (lo:Int):Thr:={ id:=64,state:=1,home:=lo}
theorem all1 (lo:Int):allT (tab1 lo)= [thr0 lo]:=rfl
structure Two (F:Fixed) (cells:Nat) (entry:Int) (G:KG) (R:RG) (w:World):Prop where
 k: ∃own,KernP F w own G (newA F cells entry) 3
 f:Fresh F cells entry w R
section
variable {F:Fixed} {cells:Nat} {entry:Int} {G:KG} {R:RG} {w w':World}
theorem Two.below (h:Two F cells entry G R w) (k:Below w.heap.size w w'):Two F cells entry G R w':=by
 obtain ⟨own,hk⟩:=h.k
 exact ⟨⟨_,hk.below k⟩,h.f.below k⟩
theorem Two.drewN (h:Two F cells entry G R w) (q:Nat):Two F cells entry G R (w.drewN q):=h.below (dn_below (Below.refl _ _) q)
theorem Fresh.keeps {Y:Nat→Prop} (h:Fresh F cells entry w R) (k:Keeps Y w w') (hy: ∀i,Y i→ ∃ys g,w.heap[i]?=some (.cells ys 442 g)):Fresh F cells entry w' R:=by
 have hq: ∀{t:TypeId},442≠t→ ∀i,Y i→ ∃ys s g,w.heap[i]?=some (.cells ys s g)∧s≠t:=fun ht i e=>by
  obtain ⟨ys,g,h1⟩:=hy i e
  exact ⟨ys,_,g,h1,ht⟩
 obtain ⟨rv,wv,o1,o2,o3⟩:=h.obj
 obtain ⟨av,a1,a2⟩:=h.alc
 obtain ⟨gv,g1,g2⟩:=h.ring
 obtain ⟨lv,l1,l2,l3⟩:=h.run
 obtain ⟨N,mo⟩:=h.mem.obj
 exact ⟨⟨rv,wv,kp k o1 (hq (by decide)),kpr k o2 (hq (by decide)),kpr k o3 (hq (by decide))⟩,⟨h.mem.ok,⟨N,kp k mo (hq (by decide))⟩,kp k h.mem.ws (hq (by decide)),kp k h.mem.hs (hq (by decide))⟩,⟨av,kp k a1 (hq (by decide)),kpr k a2 (hq (by decide))⟩,⟨gv,kp k g1 (hq (by decide)),kpr k g2 (hq (by decide))⟩,kp k h.que (hq (by decide)),⟨h.tab.ok,kp k h.tab.obj (hq (by decide)),kp k h.tab.row (hq (by decide))⟩,⟨h.objs.ok,kp k h.objs.obj (hq (by decide)),kp k h.objs.row (hq (by decide)),kp k h.objs.tk (hq (by decide))⟩,⟨lv,kp k l1 (hq (by decide)),kpr k l2 (hq (by decide)),kp k l3 (hq (by decide))⟩,fun i hi=>kp k (h.wk i hi) (hq (by decide))⟩
theorem Two.memx (h:Two F cells entry G R w) (hk: ∃own',KernP F w' own' G (newA F cells entry) 3) (k:Keeps (fun b=>b=G.X) w w'):Two F cells entry G R w':=by
 obtain ⟨own,hk0⟩:=h.k
 obtain ⟨gc,gw,hm,-⟩:=hk0.mem
 obtain ⟨t,c,ho⟩:=hm.obj
 exact ⟨hk,h.f.keeps k fun i e=>by subst e;exact ⟨_,_,ho⟩⟩
theorem newA_wkr {i:Nat} (hi:i<F.workers):wkrOf (newA F cells entry) i=wkr0 F:=by
 show ((List.replicate F.workers _).getD i _)=_
 rw[List.getD_eq_getElem?_getD,List.getElem?_replicate,if_pos hi]
 rfl
theorem newA_peek (hr:loN F+1≤cells) {j:Nat} {v:Int} {a:Int} (ha:a=(j:Int)) (hj:j<baseN F) (hv:(newM F cells).hs[j]?=some v):peekM (newA F cells entry).mem a=v:=by
 subst ha
 show peekM (newM F cells) (j:Int)=v
 unfold peekM Mem.width Mem.held
 rw[Int.toNat_natCast,getD_of (newM_low hr hj).2,getD_of hv]
 rfl
theorem run64:runOf (newA F cells entry).runs 64=some ⟨64,[⟨frm0 entry,false,0⟩],0⟩:=rfl
theorem asks (hr:loN F+1≤cells) (hc:cells≤65536) (hw:F.workers≤64) (k:Int) (hk: -1≤k∧k≤F.workers): ∃(c:Int) (b:Bool) (t:Int),
  (∀W,Two F cells entry G R W→Calls Tryz.prog 55 #[.pointer (some ⟨G.K,0,none⟩), .int .i64 k] W fun e w'=>e= .returned (.tuple #[.agg #[.int .u64 0, .int .u64 0, .bool false, .int .i64 c, .int .i64 0], .bool b])∧Below W.heap.size W w')∧
  (∀W,Two F cells entry G R W→Calls Tryz.prog 56 #[.pointer (some ⟨R.K,0,none⟩), .int .i64 k] W fun e w'=>e= .returned (.tuple #[.agg #[.int .u64 0, .int .u64 0, .bool false, .int .i64 c, .int .i64 0], .bool b])∧Below W.heap.size W w')∧
  (∀W,Two F cells entry G R W→Calls Tryz.prog 57 #[.pointer (some ⟨G.K,0,none⟩), .int .i64 k] W fun e w'=>e= .returned (.tuple #[.int .u64 t, .int .u64 t, .slice none 0 0])∧Two F cells entry G R w'∧Keeps (fun b=>b=G.X) W w')∧
  (∀W,Two F cells entry G R W→Calls Tryz.prog 58 #[.pointer (some ⟨R.K,0,none⟩), .int .i64 k] W fun e w'=>e= .returned (.tuple #[.int .u64 t, .int .u64 t, .slice none 0 0])∧Below W.heap.size W w'):=by
 by_cases ho:k<0∨(0≤k∧(F.workers:Int)≤k)
 ·refine ⟨0,false,0,fun W h=>?_,fun W h=>rworker_out h.f k ho,fun W h=>?_,fun W h=>?_⟩
  ·obtain ⟨own,hK⟩:=h.k
   exact kworker_no hK k ho
  ·obtain ⟨own,hK⟩:=h.k
   refine (kdeque_out hK k ho).mono ?_
   rintro e w' ⟨rfl,rfl⟩
   exact ⟨rfl,h,Keeps.refl _ _⟩
  ·refine (rdeque_out h.f k ho).mono ?_
   rintro e w' ⟨rfl,rfl⟩
   exact ⟨rfl,Below.refl _ _⟩
 ·obtain ⟨i,rfl⟩: ∃i:Nat,k=(i:Int):=⟨k.toNat,by omega⟩
  have hi:i<F.workers:=by omega
  obtain ⟨v0,v1,v2,v3⟩:=newM_deck (cells:=cells) hr hi
  have hb:17+3*i+2<baseN F∧17+3*F.workers+5*i<baseN F:=by unfold baseN;omega
  refine ⟨F.loop,true,1,fun W h=>?_,fun W h=>rworker_in h.f hi hw,fun W h=>?_,fun W h=>?_⟩
  ·obtain ⟨own,hK⟩:=h.k
   have q:=kworker_any hK hi
   rw[newA_wkr hi] at q
   exact q
  ·obtain ⟨own,hK⟩:=h.k
   refine (kdeque_in hK hi (d3:=17+3*F.workers+5*i) (by omega) (newA_peek hr (j:=17+3*i) (by omega) (by omega) v0) (newA_peek hr (j:=17+3*i+1) (by omega) (by omega) v1) ((newA_peek hr (j:=17+3*i+2) (by omega) (by omega) v2).trans (by omega)) (newA_peek hr (j:=17+3*F.workers+5*i) rfl (by omega) v3)).mono ?_
   rintro e w' ⟨rfl,h2,k2⟩
   exact ⟨rfl,h.memx h2 k2,k2⟩
  ·refine (rdeque_in h.f hr hc hw hi).mono ?_
   rintro e w' ⟨rfl,rfl⟩
   exact ⟨rfl,bel_dr (Below.refl _ _)⟩
end
end Go.Proofs.YtaangaogmnlljaaGreatDoor.Kn
